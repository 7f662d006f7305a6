import Derived.Test.YtpobcoodmhhpaaaDoorWoE
import Derived.Test.YtpobcoodmhhpaaaDoorVlK
set_option linter.unusedSimpArgs false
set_option linter.unusedVariables false
namespace Go.VL.Wo
open Go.FR Go.IR Go.VL Go.VL.Er
noncomputable section
set_option maxRecDepth 100000
set_option maxHeartbeats 1000000
structure W where
 kind:Nat
 pos:Nat
 text:List UInt8
deriving DecidableEq
abbrev cW (w:W):List VV:=[.int .i64 ((w.kind:Nat):Int),.int .i64 ((w.pos:Nat):Int),.str w.text]
theorem cW_len (w:W):(cW w).length=3:=rfl
def wordsF:Nat→List UInt8→Nat→List W × Option Nat
 | 0,_,_=>([],none)
 | _+1,[],_=>([],none)
 | f+1,b::r,at_=>if (nextS (b::r)).2=0 then ([],some at_) else
  (⟨(nextS (b::r)).1,at_,(b::r).take (nextS (b::r)).2⟩::(wordsF f (((b::r).drop (nextS (b::r)).2).drop (gapS ((b::r).drop (nextS (b::r)).2))) (at_+(nextS (b::r)).2+gapS ((b::r).drop (nextS (b::r)).2))).1,
   (wordsF f (((b::r).drop (nextS (b::r)).2).drop (gapS ((b::r).drop (nextS (b::r)).2))) (at_+(nextS (b::r)).2+gapS ((b::r).drop (nextS (b::r)).2))).2)
def splitW (s:List UInt8):List W × Option Nat:=wordsF s.length (s.drop (gapS s)) (gapS s)
def splitS (s:List UInt8):List W × ErrV :=
 if s.length > 60000 then ([],.placed 5 60000) else match splitW s with
  | (ws,none)=>(ws,.none)
  | (_,some p)=>([],.placed 0 p)
theorem shuts_iface {g:Nat→Option VB} {t:Nat} {v w:VV} (hn:closedB (.iface t v)=false) (h:Shuts g v w):Shuts g (.iface t v) (.iface t w):=by
 obtain ⟨k,v1,h1,h2⟩:=h
 refine ⟨k+1,.iface t v1,?_,⟨_,rfl,h2⟩⟩
 rw [shutD_step]
 unfold stepD
 rw [if_neg (by rw [hn];simp)]
 simp only [h1]
theorem shuts_at {g:Nat→Option VB} {x k:Nat} {p:Int} {ro:Bool} (hx:g x=some (.cells [.int .i64 p,erP k] ro)):Shuts g (.iface t_p_api_At (.ptr x 0)) (atV k p) :=
 shuts_iface rfl (Shuts.ptr hx (ShutsL.closed rfl))
def GlWo (Gl:qzg):Prop:=qzc Gl 0=some [erP 0]∧qzc Gl 10=some [erP 5]
attribute [local go_sem] erP atV cW t_p_api_At
theorem words_loop {Gl:qzg} (hG:GlWo Gl) (hs:GlSp Gl) (s:List UInt8) (hl:s.length≤60000) (L:List W) (e:Option Nat) (K:AEx→VF→VH→Prop)
  (hK0:e=none→∀ T h v j,AccAt 0 h j cW L 3 v→qzc T 4=some v→K (.exit 0) T h)
  (hK1:∀ p,e=some p→∀ T h x,qzc T 2=some .nilS→qzc T 3=some (.iface t_p_api_At (.ptr x 0))→qzc h.l x=some (some (.cells [.int .i64 ((p:Nat):Int),erP 0] false))→K .ret T h) :
  ∀ (f at_:Nat) (done:List W) (T:VF) (h:VH) (v:VV) (j:Nat),s.length < f+at_+1→at_≤s.length→done.length≤at_→(wordsF f (s.drop at_) at_).2=e→(e=none→done++(wordsF f (s.drop at_) at_).1=L)→qzc T 0=some (.str s)→qzc T 4=some v→qzc T 5=some (.int .i64 (at_:Int))→AccAt 0 h j cW done 3 v →
   wp Go.VL.Er.E Gl (.loop c_word_Split_l0) T h K:=by
 have g0:qzc Gl 0=some [erP 0]:=hG.1
 intro f
 induction f with
 | zero =>
  intro at_ done T h v j hf ha hd hE hL t0 t4 t5 acc
  obtain rfl:at_=s.length:=by omega
  refine loop_u c_word_Split_l0.eq_1 ?_
  simp only [simprocAttr,-Int.reduceNatCast',go_sem,t0,t5,Int.lt_irrefl]
  have e0:e=none:=by rw [←hE];rfl
  have hL:=hL e0
  simp only [wordsF,List.append_nil] at hL
  subst hL
  refine hK0 e0 _ h v j acc ?_
  simp only [simprocAttr,-Int.reduceNatCast',go_sem,t4]
 | succ f ih =>
  intro at_ done T h v j hf ha hd hE hL t0 t4 t5 acc
  refine loop_u c_word_Split_l0.eq_1 ?_
  by_cases hlt:at_ < s.length
  ·have c1:(at_:Int) < s.length:=by omega
   have tk:∀ n,n≤s.length→(s.drop n).take (s.length - n)=s.drop n:=fun n hn=>List.take_of_length_le (by rw [List.length_drop];omega)
   have ta:=tk at_ ha
   have hd2:=drop_at (List.getElem?_eq_getElem hlt)
   have nx:=next_ok (Gl:=Gl) hs (s.drop at_) (by rw [List.length_drop];omega) (by rw [List.length_drop];omega)
   have le1:=nextS_le (s.drop at_)
   rw [List.length_drop] at le1
   rw [hd2] at hE hL
   simp only [wordsF] at hE hL
   rw [←hd2] at hE hL
   obtain ⟨kind,n,hkn⟩:∃ a b,nextS (s.drop at_)=(a,b):=⟨_,_,rfl⟩
   rw [hkn] at nx le1 hE hL
   simp only at nx le1 hE hL
   simp only [simprocAttr,-Int.reduceNatCast',go_sem,t0,t5,c1,natOf_n,ha,ta]
   refine qzb nx rfl rfl ?_
   by_cases n0:n=0
   ·have c2:((n:Int) == 0)=true:=by rw [n0];rfl
    rw [if_pos n0] at hE
    simp only [simprocAttr,-Int.reduceNatCast',go_sem,t5,c2,g_ErrText,g0]
    refine hK1 at_ hE.symm _ _ h.next ?_ ?_ ?_
    ·simp only [simprocAttr,-Int.reduceNatCast',go_sem]
    ·simp only [simprocAttr,-Int.reduceNatCast',go_sem]
    ·simp only [look_cons,if_true]
   ·have c2:((n:Int) == 0)=false:=by simp;omega
    rw [if_neg n0] at hE hL
    simp only at hE hL
    have w1:IntKind.i64.wrap ((at_:Int)+(n:Int))=((at_+n:Nat):Int):=by rw [wrap_i64 (by omega) (by omega)];omega
    have b1:at_≤at_+n∧at_+n≤s.length:=by omega
    have b2:at_+n - at_=n:=by omega
    simp only [simprocAttr,-Int.reduceNatCast',go_sem,t0,t4,t5,c2,w1,natOf_n,b1,b2]
    refine wpW_acc (base:=0) (j:=j) (f:=cW) (l:=done) (a:=⟨kind,at_,(s.drop at_).take n⟩) (acc.ext (Nat.le_succ _) (fun q1 q2=>by simp only [look_cons];rw [if_neg (by omega)])) ?_ cW_len (by omega) (Nat.zero_le _) (by omega) (by omega) ?_
    ·simp only [simprocAttr,-Int.reduceNatCast',go_sem]<;>first | rfl | exact ⟨rfl,rfl⟩ | exact qza rfl
    intro h3 g1 g2 g3
    have gp:=gap_ok Gl (s.drop (at_+n)) (by rw [List.length_drop];omega)
    have le2:=gapM_le false (s.drop (at_+n))
    rw [List.length_drop] at le2
    simp only [List.drop_drop] at hE hL
    obtain ⟨g,hg⟩:∃ g,gapM false (s.drop (at_+n))=g:=⟨_,rfl⟩
    simp only [show gapS (s.drop (at_+n))=g from hg] at hE hL gp
    rw [hg] at le2
    have t3:=tk (at_+n) (by omega)
    have b3:at_+n≤s.length:=by omega
    have w2:IntKind.i64.wrap (((at_+n:Nat):Int)+(g:Int))=((at_+n+g:Nat):Int):=by rw [wrap_i64 (by omega) (by omega)];omega
    simp only [simprocAttr,-Int.reduceNatCast',go_sem,t0,t5,w1,natOf_n,b3,t3]
    refine qzb gp rfl rfl ?_
    simp only [simprocAttr,-Int.reduceNatCast',go_sem,w2]
    refine ih (at_+n+g) (done++[⟨kind,at_,(s.drop at_).take n⟩]) _ h3 _ _ (by omega) (by omega) (by simp;omega) hE (fun q => ?_) ?_ ?_ ?_ g3
    ·rw [List.append_assoc];exact hL q
    ·simp only [simprocAttr,-Int.reduceNatCast',go_sem,t0]
    ·simp only [simprocAttr,-Int.reduceNatCast',go_sem]
    ·simp only [simprocAttr,-Int.reduceNatCast',go_sem]
  ·obtain rfl:at_=s.length:=by omega
   simp only [simprocAttr,-Int.reduceNatCast',go_sem,t0,t5,Int.lt_irrefl]
   rw [List.drop_length] at hE hL
   simp only [wordsF] at hE hL
   have e0:e=none:=hE.symm
   have hL:=hL e0
   rw [List.append_nil] at hL
   subst hL
   refine hK0 e0 _ h v j acc ?_
   simp only [simprocAttr,-Int.reduceNatCast',go_sem,t4]
theorem split_ok {Gl:qzg} (hG:GlWo Gl) (hs:GlSp Gl) (s:List UInt8) (hl:s.length < 2305843009213693952) :
  qzf Go.VL.Er.E Gl f_word_Split [.str s] (.tuple [.fsl (flatL cW (splitS s).1) (splitS s).1.length 3,(splitS s).2.v]):=by
 have g5:qzc Gl 10=some [erP 5]:=hG.2
 refine qze (qzd E_word_Split ?_)
 unfold c_word_Split r_word_Split
 simp only [qzh]
 unfold splitS
 by_cases h6:s.length > 60000
 ·have c:(s.length:Int) > 60000:=by omega
  rw [if_pos h6]
  simp only [simprocAttr,-Int.reduceNatCast',go_sem,c,g_ErrLimit,g5]
  exact ends_shuts (.tuple (.cons (.closed_sub rfl (.inr ⟨3,rfl⟩)) (.cons (shuts_at (ro:=false) (by rw [get_def];simp only [look_cons,if_true];rfl)) .nil)))
 ·have c:¬(s.length:Int) > 60000:=by omega
  rw [if_neg h6]
  simp only [simprocAttr,-Int.reduceNatCast',go_sem,c]
  refine qzb (gap_ok Gl s hl) rfl rfl ?_
  have gl:=gapM_le false s
  simp only [simprocAttr,-Int.reduceNatCast',go_sem]
  refine words_loop hG hs s (by omega) (splitW s).1 (splitW s).2 _ ?_ ?_ s.length (gapS s) [] _ _ .nilS 0 (by omega) gl (Nat.zero_le _) rfl (fun _=>rfl) ?_ ?_ ?_ .nil
  ·intro e T h v j acc t4
   have:splitW s=((splitW s).1,none):=by rw [←e]
   rw [this]
   simp only [simprocAttr,-Int.reduceNatCast',go_sem,t4]
   exact ends_shuts (.tuple (.cons (Shuts.acc (base:=0) acc (fun _ x hx=>hx) cW_len (fun _ _ => .closed rfl)) (.cons (.closed rfl) .nil)))
  ·intro p e T h x t2 t3 hx
   have:splitW s=((splitW s).1,some p):=by rw [←e]
   rw [this]
   simp only [simprocAttr,-Int.reduceNatCast',go_sem,t2,t3]
   exact ends_shuts (.tuple (.cons (.closed_sub rfl (.inr ⟨3,rfl⟩)) (.cons (shuts_at (ro:=false) (by rw [get_def,hx];rfl)) .nil)))
  all_goals simp only [simprocAttr,-Int.reduceNatCast',go_sem]
end
end Go.VL.Wo
namespace Go.VL.Wo
open Go.FR Go.IR Go.VL Go.VL.Er
noncomputable section
set_option maxRecDepth 100000
set_option maxHeartbeats 1000000
theorem split_fine {s:List UInt8} {ws:List W} (hl:s.length≤60000) (h:splitW s=(ws,none)):splitS s=(ws,.none):=by
 unfold splitS
 rw [if_neg (by omega),h]
attribute [local go_sem] erP atV cW t_p_api_At t_p_errors_errorString
theorem first8_ok {Gl:qzg} (hG:GlWo Gl) (hs:GlSp Gl):qzf Go.VL.Er.E Gl f_glyphiclaw8_first [] (.bool true):=by
 refine qze (qzd E_glyphiclaw8_first ?_)
 unfold c_glyphiclaw8_first r_glyphiclaw8_first
 simp only [qzh]
 have k1:=split_ok hG hs [97,49] (by decide)
 have k2:=isName_ok hs [97,95,49] (by decide)
 have k3:=isName_ok hs [112,97,116,104] (by decide)
 rw [split_fine (s:=[97,49]) (by decide) (show splitW [97,49]=([⟨1,0,[97,49]⟩],none) by decide +kernel)] at k1
 rw [show isNameS [97,95,49]=true by decide +kernel] at k2
 rw [show isNameS [112,97,116,104]=false by decide +kernel] at k3
 have z0:natV (.int .i64 0)=some 0:=rfl
 have l1:(((1:Nat):Int) == 1)=true:=rfl
 simp only [simprocAttr,-Int.reduceNatCast',go_sem]
 refine call_refs k1 rfl rfl ?_
 simp only [flatL,List.map_cons,List.map_nil,List.flatten_cons,List.flatten_nil,ErrV.v]
 simp only [simprocAttr,-Int.reduceNatCast',go_sem,z0,l1]
 refine qzb k2 rfl rfl ?_
 simp only [simprocAttr,-Int.reduceNatCast',go_sem]
 refine qzb k3 rfl rfl ?_
 simp only [simprocAttr,-Int.reduceNatCast',go_sem]
 exact qza rfl
theorem modn (x:Int) (n:Nat) (h:0 < n) (hn:n < 1000000):∃ k:Nat,k < n∧(IntKind.i64.wrap (x.tmod n+n)).tmod n=k:=by
 have u1:=Int.lt_tmod_of_pos x (show (0:Int) < n by omega)
 have u2:=Int.tmod_lt_of_pos x (show (0:Int) < n by omega)
 rw [wrap_i64 (by omega) (by omega)]
 have v1:=Int.tmod_nonneg (n:Int) (show 0≤x.tmod n+n by omega)
 have v2:=Int.tmod_lt_of_pos (x.tmod n+n) (show (0:Int) < n by omega)
 exact ⟨((x.tmod n+n).tmod n).toNat,by omega,by omega⟩
end
end Go.VL.Wo
