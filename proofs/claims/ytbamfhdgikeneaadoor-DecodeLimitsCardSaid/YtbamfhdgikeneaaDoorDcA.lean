import Derived.Test.YtbamfhdgikeneaaDoorVlK
import Derived.Test.YtbamfhdgikeneaaDoorGeA
import Derived.Test.YtbamfhdgikeneaaDoorIcE
import Derived.Test.YtbamfhdgikeneaaDoorEnD
set_option linter.unusedSimpArgs false
set_option linter.unusedVariables false
namespace Go.VL.Dc
open Go.FR Go.IR Go.VL Go.VL.Er Go.VL.Color Go.VL.Wind Go.VL.Ic Go.VL.Wire
noncomputable section
set_option maxRecDepth 100000
set_option maxHeartbeats 1000000
def isN:ErrV→Bool
 | .none=>true
 | _=>false
structure Rd where
 pos:Int
 err:ErrV
 most:Int
 used:Int
 pts:Int
structure IcV where
 w:VV
 h:VV
 s:VV
 vc:VV
 vm:VV
def rC (bs:List Nat) (R:Rd) (ev:VV) (I:IcV):List VV:=[.fsl (qzg cB bs) bs.length 1,.int .i64 R.pos,ev,.int .i64 R.most,.int .i64 R.used,.int .i64 R.pts,I.w,I.h,I.s,I.vc,I.vm]
def ErrOK (i:Nat) (h:VH) (e:ErrV) (ev:VV):Prop:=ev=e.v∧(∀ k,e ≠ .bare k)∨∃ k pos j,e = .placed k pos∧ev = .iface t_p_api_At (.ptr j 0)∧qza h.l j=some (some (.cells [.int .i64 pos,erP k] false))∧j < h.next∧j≠i
def RAt (bs:List Nat) (i:Nat) (R:Rd) (I:IcV) (h:VH):Prop:=i < h.next∧∃ ev,qza h.l i=some (some (.cells (rC bs R ev I) false))∧ErrOK i h R.err ev
def Fm (i:Nat) (h h':VH):Prop:=h.next≤h'.next∧∀ k,k < h.next→k≠i→qza h'.l k=qza h.l k
theorem Fm.refl {i:Nat} {h:VH}:Fm i h h:=⟨Nat.le_refl _,fun _ _ _=>rfl⟩
theorem Fm.trans {i:Nat} {h h1 h2:VH} (a:Fm i h h1) (b:Fm i h1 h2):Fm i h h2:=⟨Nat.le_trans a.1 b.1,fun k k1 k2=>by rw [b.2 k (Nat.lt_of_lt_of_le k1 a.1) k2,a.2 k k1 k2]⟩
theorem ErrOK.keep {i:Nat} {h h':VH} {e:ErrV} {ev:VV} (s:ErrOK i h e ev) (f:Fm i h h'):ErrOK i h' e ev:=by
 rcases s with s | ⟨k,pos,j,a1,a2,a3,a4,a5⟩
 ·exact .inl s
 ·exact .inr ⟨k,pos,j,a1,a2,by rw [f.2 j a4 a5];exact a3,Nat.lt_of_lt_of_le a4 f.1,a5⟩
theorem ErrOK.none {i:Nat} {h:VH}:ErrOK i h .none .nilI := .inl ⟨rfl,fun _ e=>nomatch e⟩
theorem ErrOK.eq {i:Nat} {h:VH} {e:ErrV} {ev:VV} (s:ErrOK i h e ev) (Gl:qzj) (d:List Nat):eqIV Gl d true ev .nilI=some (isN e):=by
 rcases s with ⟨rfl,hb⟩ | ⟨k,pos,j,rfl,rfl,_⟩
 ·cases e with
  | none=>rfl
  | bare k=>exact absurd rfl (hb k)
  | placed k p=>rfl
 ·rfl
theorem ErrOK.er0 {i:Nat} {h:VH} {e:ErrV} {ev:VV} (s:ErrOK i h e ev) (Gl:qzj):eqRV Gl false (.iface [t_p_api_At,t_p_errors_errorString] true) [ev,.nilI]=some (.bool (isN e)):=by
 simp only [eqRV,aeqV,s.eq];rfl
theorem ErrOK.er1 {i:Nat} {h:VH} {e:ErrV} {ev:VV} (s:ErrOK i h e ev) (Gl:qzj):eqRV Gl true (.iface [t_p_api_At,t_p_errors_errorString] true) [ev,.nilI]=some (.bool (!isN e)):=by
 simp only [eqRV,aeqV,s.eq];rfl
theorem ErrOK.bare {i:Nat} {h:VH} {e:ErrV} {ev:VV} (s:ErrOK i h e ev):∀ k,e ≠ .bare k:=by
 rcases s with ⟨_,hb⟩ | ⟨k,pos,j,rfl,_⟩
 ·exact hb
 ·exact fun k e=>nomatch e
def failS (R:Rd) (pos:Int) (k:Nat):Rd:=if isN R.err then ⟨R.pos,.placed k pos,R.most,R.used,R.pts⟩ else R
def numS (bs:List Nat) (R:Rd):Nat × Rd:=if isN R.err then ((getS bs R.pos).n,⟨if isN (getS bs R.pos).e then (getS bs R.pos).k else R.pos,(getS bs R.pos).e,R.most,R.used,R.pts⟩) else (0,R)
theorem RAt.move {bs:List Nat} {i:Nat} {R:Rd} {I:IcV} {h h':VH} (s:RAt bs i R I h) (hn:h.next≤h'.next) (hf:∀ k,k < h.next→qza h'.l k=qza h.l k):RAt bs i R I h':=by
 obtain ⟨a,ev,b,c⟩:=s
 exact ⟨by omega,ev,by rw [hf i a];exact b,c.keep ⟨hn,fun k k1 _=>hf k k1⟩⟩
theorem ErrOK.put {i:Nat} {h:VH} {e:ErrV} {ev:VV} (s:ErrOK i h e ev) {b:Nat} {cs:List VV} {ro:Bool} {x:Option VB} (hc:qza h.l b=some (some (.cells cs ro))) (hne:∀ pos k,cs≠[.int .i64 pos,erP k]):ErrOK i ⟨(b,x)::h.l,h.next⟩ e ev:=by
 rcases s with e | ⟨k,pos,j,a1,a2,a3,a4,a5⟩
 ·exact .inl e
 ·refine .inr ⟨k,pos,j,a1,a2,?_,a4,a5⟩
  simp only [qzb]
  by_cases q:b=j
  ·subst q
   rw [a3] at hc
   simp only [Option.some.injEq,VB.cells.injEq] at hc
   exact absurd hc.1.symm (hne pos k)
  ·rw [if_neg q];exact a3
theorem RAt.put {bs:List Nat} {i:Nat} {R:Rd} {I:IcV} {h:VH} (s:RAt bs i R I h) {b:Nat} {cs:List VV} {ro:Bool} {x:Option VB} (hb:b≠i) (hc:qza h.l b=some (some (.cells cs ro))) (hne:∀ pos k,cs≠[.int .i64 pos,erP k]):RAt bs i R I ⟨(b,x)::h.l,h.next⟩:=by
 obtain ⟨a,ev,c,e⟩:=s
 exact ⟨a,ev,by simp only [qzb];rw [if_neg hb];exact c,e.put hc hne⟩
attribute [local go_sem] cB cPt cCl
theorem fails_run {Gl:qzj} {bs:List Nat} {i:Nat} {R:Rd} {I:IcV} {h:VH} (st:RAt bs i R I h) (pos:Int) (k:Nat) :
  CallsV Go.VL.Er.E Gl f_decode_reader_fails [.ptr i 0,.int .i64 pos,erP k] h (fun _ h'=>RAt bs i (failS R pos k) I h'∧Fm i h h'):=by
 obtain ⟨hn,ev,hi,he⟩:=st
 have e0:=he.er0 Gl
 have e1:=he.er1 Gl
 have hi':=hi
 unfold rC at hi
 refine qze E_decode_reader_fails ?_
 unfold c_decode_reader_fails r_decode_reader_fails
 simp only [qzl]
 have y:¬h.next=i:=by omega
 cases c:isN R.err
 ·rw [c] at e0 e1
  simp only [simprocAttr,-Int.reduceNatCast',go_sem,hi,↓e0,↓e1]
  have e:failS R pos k=R:=by unfold failS;rw [c];rfl
  rw [e]
  exact ⟨⟨hn,ev,hi',he⟩,Fm.refl⟩
 ·rw [c] at e0 e1
  simp only [simprocAttr,-Int.reduceNatCast',go_sem,hi,↓e0,↓e1,y]
  have e:failS R pos k=⟨R.pos,.placed k pos,R.most,R.used,R.pts⟩:=by unfold failS;rw [c];rfl
  rw [e]
  refine ⟨⟨by show i < h.next+1;omega,.iface t_p_api_At (.ptr h.next 0),by simp only [qzb,if_true];rfl,.inr ⟨k,pos,h.next,rfl,rfl,by simp only [qzb];rw [if_neg (by omega),if_pos trivial],by show h.next < h.next+1;omega,by omega⟩⟩,by show h.next≤h.next+1;omega,fun k k1 k2 => ?_⟩
  simp only [qzb]
  rw [if_neg (by omega),if_neg (by omega)]
theorem getS_e (bs:List Nat) (a:Int):(getS bs a).e = .none∨(getS bs a).n=0∧((getS bs a).e = .placed 6 a∨(getS bs a).e = .placed 8 a):=by
 unfold getS
 split
 ·exact .inr ⟨rfl,.inl rfl⟩
 ·split
  ·exact .inr ⟨rfl,.inl rfl⟩
  ·exact .inr ⟨rfl,.inr rfl⟩
  ·exact .inl rfl
theorem getS_n {bs:List Nat} (hb:∀ x∈bs,x < 256) (a:Int):(getS bs a).n < 18446744073709551616:=by
 unfold getS
 split
 ·simp
 ·split
  ·simp
  ·simp
  ·rename_i e
   obtain ⟨m,e1,e2,_⟩:=got_put _ 0 0 _ _ (by omega) (by omega) (fun x hx=>hb x (List.mem_of_mem_drop hx)) e
   exact e2
theorem numS_n {bs:List Nat} (hb:∀ x∈bs,x < 256) (R:Rd):(numS bs R).1 < 18446744073709551616:=by
 unfold numS
 split
 ·exact getS_n hb R.pos
 ·simp
theorem num_run {Gl:qzj} (hG:GlAll Gl) {bs:List Nat} (hl:bs.length < 100000) (hb:∀ x∈bs,x < 256) {i:Nat} {R:Rd} {I:IcV} {h:VH} (st:RAt bs i R I h) :
  CallsV Go.VL.Er.E Gl f_decode_reader_num [.ptr i 0] h (fun v h'=>v = .tuple [.int .u64 ((numS bs R).1:Int),.int .i64 R.pos]∧RAt bs i (numS bs R).2 I h'∧Fm i h h'):=by
 obtain ⟨hn,ev,hi,he⟩:=st
 have e0:=he.er0 Gl
 have e1:=he.er1 Gl
 have hi':=hi
 unfold rC at hi
 refine qze E_decode_reader_num ?_
 unfold c_decode_reader_num r_decode_reader_num
 simp only [qzl]
 have z0:((0:Nat):Int)=0:=rfl
 cases c:isN R.err
 ·rw [c] at e0 e1
  simp only [simprocAttr,-Int.reduceNatCast',go_sem,hi,↓e0,↓e1]
  have e:numS bs R=(0,R):=by unfold numS;rw [c];rfl
  rw [e]
  first | exact ⟨rfl,⟨hn,ev,hi',he⟩,Fm.refl⟩ | exact ⟨⟨hn,ev,hi',he⟩,Fm.refl⟩
 ·rw [c] at e0 e1
  simp only [simprocAttr,-Int.reduceNatCast',go_sem,hi,↓e0,↓e1]
  have gk:=get_ok hG bs hl hb R.pos
  have e:numS bs R=((getS bs R.pos).n,⟨if isN (getS bs R.pos).e then (getS bs R.pos).k else R.pos,(getS bs R.pos).e,R.most,R.used,R.pts⟩):=by unfold numS;rw [c];rfl
  have ge:=getS_e bs R.pos
  rw [e]
  generalize getS bs R.pos=g at *
  obtain ⟨n,k,er⟩:=g
  simp only at ge ⊢
  rcases ge with rfl | ⟨rfl,rfl | rfl⟩
  ·refine qzf gk rfl rfl ?_
   unfold GotS.v
   simp only [simprocAttr,-Int.reduceNatCast',go_sem,hi,ErrV.v]
   refine ⟨⟨hn,ev,by simp only [qzb,if_true];rfl,?_⟩,Nat.le_refl _,fun k k1 k2=>by simp only [qzb];rw [if_neg (by omega)]⟩
   have ev0:ev = .nilI:=by
    rcases he with ⟨rfl,_⟩ | ⟨k,pos,j,e,_⟩
    ·cases hr:R.err with
     | none=>rfl
     | bare k=>rw [hr] at c;exact nomatch c
     | placed k p=>rw [hr] at c;exact nomatch c
    ·rw [e] at c;exact nomatch c
   rw [ev0];exact ErrOK.none
  ·refine call_refs gk rfl rfl ?_
   unfold GotS.v
   simp only [simprocAttr,-Int.reduceNatCast',go_sem,hi,ErrV.v]
   exact ⟨rfl,⟨hn,_,by simp only [qzb,if_true];rfl,.inl ⟨rfl,fun _ e=>nomatch e⟩⟩,Nat.le_refl _,fun k k1 k2=>by simp only [qzb];rw [if_neg (by omega)]⟩
  ·refine call_refs gk rfl rfl ?_
   unfold GotS.v
   simp only [simprocAttr,-Int.reduceNatCast',go_sem,hi,ErrV.v]
   exact ⟨rfl,⟨hn,_,by simp only [qzb,if_true];rfl,.inl ⟨rfl,fun _ e=>nomatch e⟩⟩,Nat.le_refl _,fun k k1 k2=>by simp only [qzb];rw [if_neg (by omega)]⟩
def rangedS (bs:List Nat) (R:Rd) (lo hi:Int):Int × Rd:=if hi < (numS bs R).1∨((numS bs R).1:Int) < lo then (0,failS (numS bs R).2 R.pos 4) else ((numS bs R).1,(numS bs R).2)
theorem ranged_run {Gl:qzj} (hG:GlAll Gl) {bs:List Nat} (hl:bs.length < 100000) (hb:∀ x∈bs,x < 256) {i:Nat} {R:Rd} {I:IcV} {h:VH} (st:RAt bs i R I h) (lo hi:Int) (h0:0≤hi) (h1:hi < 4611686018427387904) :
  CallsV Go.VL.Er.E Gl f_decode_reader_ranged [.ptr i 0,.int .i64 lo,.int .i64 hi] h (fun v h'=>v = .int .i64 (rangedS bs R lo hi).1∧RAt bs i (rangedS bs R lo hi).2 I h'∧Fm i h h'):=by
 refine qze E_decode_reader_ranged ?_
 unfold c_decode_reader_ranged r_decode_reader_ranged
 simp only [qzl]
 simp only [simprocAttr,-Int.reduceNatCast',go_sem]
 refine qzh (num_run hG hl hb st) ?_
 intro v h2 ⟨ev,st2,fm2⟩
 subst ev
 have nn:=numS_n hb R
 have g4:qza Gl 8=some [erP 4]:=(hG 4 (by omega)).1
 have w1:IntKind.u64.wrap hi=hi:=by rw [Go.VL.Wire.wrap_u64];omega
 unfold rangedS
 generalize numS bs R=q at *
 obtain ⟨n,R2⟩:=q
 simp only at st2 nn ⊢
 by_cases c1:(n:Int) > hi
 ·simp only [simprocAttr,-Int.reduceNatCast',go_sem,w1,c1,g_ErrRange,g4]
  refine qzh (fails_run st2 R.pos 4) ?_
  intro v h3 ⟨st3,fm3⟩
  simp only [simprocAttr,-Int.reduceNatCast',go_sem]
  first | exact ⟨rfl,st3,fm2.trans fm3⟩ | exact ⟨st3,fm2.trans fm3⟩
 ·have w2:IntKind.i64.wrap (n:Int)=n:=qzd (by omega) (by omega)
  by_cases c2:(n:Int) < lo
  ·simp only [simprocAttr,-Int.reduceNatCast',go_sem,w1,w2,c1,c2,g_ErrRange,g4]
   refine qzh (fails_run st2 R.pos 4) ?_
   intro v h3 ⟨st3,fm3⟩
   simp only [simprocAttr,-Int.reduceNatCast',go_sem]
   first | exact ⟨rfl,st3,fm2.trans fm3⟩ | exact ⟨st3,fm2.trans fm3⟩
  ·simp only [simprocAttr,-Int.reduceNatCast',go_sem,w1,w2,c1,c2]
   try rw [if_neg (by omega)]
   first | exact ⟨rfl,st2,fm2⟩ | exact ⟨st2,fm2⟩
def manyR (bs:List Nat) (R:Rd) (lo most:Int):Rd:=if ((numS bs R).1:Int) < lo then failS (numS bs R).2 R.pos 4 else if most < (numS bs R).1 then failS (numS bs R).2 R.pos 5 else (numS bs R).2
def manyS (bs:List Nat) (R:Rd) (lo most:Int):Int:=if isN (manyR bs R lo most).err then ((numS bs R).1:Int) else 0
theorem fail_err (R:Rd) (p:Int) (k:Nat):isN (failS R p k).err=false:=by
 unfold failS
 cases c:isN R.err
 ·exact c
 ·rfl
theorem many_run {Gl:qzj} (hG:GlAll Gl) {bs:List Nat} (hl:bs.length < 100000) (hb:∀ x∈bs,x < 256) {i:Nat} {R:Rd} {I:IcV} {h:VH} (st:RAt bs i R I h) (lo most:Int) (h0:0≤lo) (h0':lo < 4611686018427387904) (h1:0≤most) (h2:most < 4611686018427387904) :
  CallsV Go.VL.Er.E Gl f_decode_reader_many [.ptr i 0,.int .i64 lo,.int .i64 most] h (fun v h'=>v = .int .i64 (manyS bs R lo most)∧RAt bs i (manyR bs R lo most) I h'∧Fm i h h'):=by
 refine qze E_decode_reader_many ?_
 unfold c_decode_reader_many r_decode_reader_many
 simp only [qzl]
 simp only [simprocAttr,-Int.reduceNatCast',go_sem]
 refine qzh (num_run hG hl hb st) ?_
 intro v h2 ⟨ev,st2,fm2⟩
 subst ev
 have nn:=numS_n hb R
 have g4:qza Gl 8=some [erP 4]:=(hG 4 (by omega)).1
 have g5:qza Gl 10=some [erP 5]:=(hG 5 (by omega)).1
 have w1:IntKind.u64.wrap lo=lo:=by rw [Go.VL.Wire.wrap_u64];omega
 have w2:IntKind.u64.wrap most=most:=by rw [Go.VL.Wire.wrap_u64];omega
 unfold manyS manyR
 generalize numS bs R=q at *
 obtain ⟨n,R2⟩:=q
 simp only at st2 nn ⊢
 by_cases c1:(n:Int) < lo
 ·simp only [simprocAttr,-Int.reduceNatCast',go_sem,w1,c1,g_ErrRange,g4]
  refine qzh (fails_run st2 R.pos 4) ?_
  intro v h3 ⟨st3,fm3⟩
  have fe:=fail_err R2 R.pos 4
  have st3':=st3
  obtain ⟨hn3,ev3,hi3,he3⟩:=st3
  have e0:=he3.er0 Gl
  have e1:=he3.er1 Gl
  rw [fe] at e0 e1
  unfold rC at hi3
  simp only [simprocAttr,-Int.reduceNatCast',go_sem,hi3,↓e0,↓e1,fe]
  first | exact ⟨rfl,st3',fm2.trans fm3⟩ | exact ⟨st3',fm2.trans fm3⟩
 ·by_cases c2:(n:Int) > most
  ·simp only [simprocAttr,-Int.reduceNatCast',go_sem,w1,w2,c1,c2,g_ErrLimit,g5]
   refine qzh (fails_run st2 R.pos 5) ?_
   intro v h3 ⟨st3,fm3⟩
   have fe:=fail_err R2 R.pos 5
   have st3':=st3
   obtain ⟨hn3,ev3,hi3,he3⟩:=st3
   have e0:=he3.er0 Gl
   have e1:=he3.er1 Gl
   rw [fe] at e0 e1
   unfold rC at hi3
   simp only [simprocAttr,-Int.reduceNatCast',go_sem,hi3,↓e0,↓e1,fe]
   have c2':most < (n:Int):=c2
   try simp only [simprocAttr,-Int.reduceNatCast',go_sem,c2',fe]
   first | exact ⟨rfl,st3',fm2.trans fm3⟩ | exact ⟨st3',fm2.trans fm3⟩
  ·have st2':=st2
   obtain ⟨hn3,ev3,hi3,he3⟩:=st2
   have e0:=he3.er0 Gl
   have e1:=he3.er1 Gl
   unfold rC at hi3
   have c2':¬most < (n:Int):=c2
   have w3:IntKind.i64.wrap (n:Int)=n:=qzd (by omega) (by omega)
   cases ce:isN R2.err
   ·rw [ce] at e0 e1
    simp only [simprocAttr,-Int.reduceNatCast',go_sem,w1,w2,c1,c2,hi3,↓e0,↓e1,ce,c2']
    first | exact ⟨rfl,st2',fm2⟩ | exact ⟨st2',fm2⟩
   ·rw [ce] at e0 e1
    simp only [simprocAttr,-Int.reduceNatCast',go_sem,w1,w2,w3,c1,c2,hi3,↓e0,↓e1,ce,c2']
    first | exact ⟨rfl,st2',fm2⟩ | exact ⟨st2',fm2⟩
end
end Go.VL.Dc
namespace Go.VL.Dc
open Go.FR Go.IR Go.VL Go.VL.Er Go.VL.Color Go.VL.Wind Go.VL.Ic Go.VL.Wire
noncomputable section
set_option maxRecDepth 100000
set_option maxHeartbeats 1000000
theorem num_most (bs:List Nat) (R:Rd):(numS bs R).2.most=R.most∧(numS bs R).2.used=R.used∧(numS bs R).2.pts=R.pts:=by
 unfold numS;split<;>exact ⟨rfl,rfl,rfl⟩
theorem fail_most (R:Rd) (p:Int) (k:Nat):(failS R p k).most=R.most∧(failS R p k).used=R.used∧(failS R p k).pts=R.pts∧(failS R p k).pos=R.pos:=by
 unfold failS;split<;>exact ⟨rfl,rfl,rfl,rfl⟩
def partBad (d ahead most:Int):Prop:=d < -2*most∨2*most < d∨ahead+d < -most∨most < ahead+d
instance (d a m:Int):Decidable (partBad d a m):=by unfold partBad;infer_instance
def partS (bs:List Nat) (R:Rd) (ahead:Int):Int × Rd:=if partBad (zagS (numS bs R).1) ahead R.most then (0,failS (numS bs R).2 R.pos 4) else (ahead+zagS (numS bs R).1,(numS bs R).2)
theorem part_most (bs:List Nat) (R:Rd) (a:Int):(partS bs R a).2.most=R.most∧(partS bs R a).2.used=R.used∧(partS bs R a).2.pts=R.pts:=by
 have h:=num_most bs R
 unfold partS
 split
 ·have g:=fail_most (numS bs R).2 R.pos 4
  exact ⟨g.1.trans h.1,g.2.1.trans h.2.1,g.2.2.1.trans h.2.2⟩
 ·exact h
theorem part_in (bs:List Nat) (R:Rd) (a:Int) (h0:0≤R.most):-R.most≤(partS bs R a).1∧(partS bs R a).1≤R.most:=by
 unfold partS
 split
 ·simp only;omega
 ·rename_i h
  unfold partBad at h
  simp only;omega
attribute [local go_sem] cB cPt cCl cPaint
theorem part_run {Gl:qzj} (hG:GlAll Gl) {bs:List Nat} (hl:bs.length < 100000) (hb:∀ x∈bs,x < 256) {i:Nat} {R:Rd} {I:IcV} {h:VH} (st:RAt bs i R I h) (ahead:Int) (h0:0≤R.most) (h1:R.most≤2097152) (a0:-2097152≤ahead) (a1:ahead≤2097152) :
  CallsV Go.VL.Er.E Gl f_decode_reader_part [.ptr i 0,.int .i64 ahead] h (fun v h'=>v = .int .i64 (partS bs R ahead).1∧RAt bs i (partS bs R ahead).2 I h'∧Fm i h h'):=by
 refine qze E_decode_reader_part ?_
 unfold c_decode_reader_part r_decode_reader_part
 simp only [qzl]
 simp only [simprocAttr,-Int.reduceNatCast',go_sem]
 refine qzh (num_run hG hl hb st) ?_
 intro v h2 ⟨ev,st2,fm2⟩
 subst ev
 have nn:=numS_n hb R
 have nm:=num_most bs R
 have g4:qza Gl 8=some [erP 4]:=(hG 4 (by omega)).1
 obtain ⟨P,hP⟩:∃ P,partS bs R ahead=P:=⟨_,rfl⟩
 have hP':=hP
 unfold partS at hP
 rw [hP']
 generalize numS bs R=q at *
 obtain ⟨n,R2⟩:=q
 simp only at st2 nn nm hP ⊢
 obtain ⟨nm,_⟩:=nm
 rw [←nm] at hP h0 h1
 have zi:=zag_in nn
 simp only [simprocAttr,-Int.reduceNatCast',go_sem]
 refine qzf (zag_ok Gl n nn) rfl rfl ?_
 generalize zagS n=d at *
 have w1:IntKind.i64.wrap (-2*R2.most)=-2*R2.most:=qzd (by omega) (by omega)
 have w2:IntKind.i64.wrap (2*R2.most)=2*R2.most:=qzd (by omega) (by omega)
 have w3:IntKind.i64.wrap (0 - R2.most)=-R2.most:=by rw [qzd (by omega) (by omega)];omega
 have st2':=st2
 obtain ⟨hn3,ev3,hi3,he3⟩:=st2
 unfold rC at hi3
 by_cases c1:d < -2*R2.most
 ·rw [if_pos (.inl c1)] at hP
  simp only [simprocAttr,-Int.reduceNatCast',go_sem,hi3,w1,c1,g_ErrRange,g4]
  refine qzh (fails_run st2' R.pos 4) ?_
  intro v h3 ⟨st3,fm3⟩
  simp only [simprocAttr,-Int.reduceNatCast',go_sem]
  rw [←hP]
  exact ⟨rfl,st3,fm2.trans fm3⟩
 by_cases c2:d > 2*R2.most
 ·rw [if_pos (.inr (.inl c2))] at hP
  simp only [simprocAttr,-Int.reduceNatCast',go_sem,hi3,w1,w2,c1,c2,g_ErrRange,g4]
  refine qzh (fails_run st2' R.pos 4) ?_
  intro v h3 ⟨st3,fm3⟩
  simp only [simprocAttr,-Int.reduceNatCast',go_sem]
  rw [←hP]
  exact ⟨rfl,st3,fm2.trans fm3⟩
 have w4:IntKind.i64.wrap (ahead+d)=ahead+d:=qzd (by omega) (by omega)
 by_cases c3:ahead+d < -R2.most
 ·rw [if_pos (.inr (.inr (.inl c3)))] at hP
  simp only [simprocAttr,-Int.reduceNatCast',go_sem,hi3,w1,w2,w3,w4,c1,c2,c3,g_ErrRange,g4]
  refine qzh (fails_run st2' R.pos 4) ?_
  intro v h3 ⟨st3,fm3⟩
  simp only [simprocAttr,-Int.reduceNatCast',go_sem]
  rw [←hP]
  exact ⟨rfl,st3,fm2.trans fm3⟩
 by_cases c4:ahead+d > R2.most
 ·rw [if_pos (.inr (.inr (.inr c4)))] at hP
  simp only [simprocAttr,-Int.reduceNatCast',go_sem,hi3,w1,w2,w3,w4,c1,c2,c3,c4,g_ErrRange,g4]
  refine qzh (fails_run st2' R.pos 4) ?_
  intro v h3 ⟨st3,fm3⟩
  simp only [simprocAttr,-Int.reduceNatCast',go_sem]
  rw [←hP]
  exact ⟨rfl,st3,fm2.trans fm3⟩
 rw [if_neg (by unfold partBad;omega)] at hP
 simp only [simprocAttr,-Int.reduceNatCast',go_sem,hi3,w1,w2,w3,w4,c1,c2,c3,c4]
 rw [←hP]
 exact ⟨rfl,st2',fm2⟩
def pointS (bs:List Nat) (R:Rd) (p:Pt):Pt × Rd:=(⟨(partS bs R p.x).1,(partS bs (partS bs R p.x).2 p.y).1⟩,(partS bs (partS bs R p.x).2 p.y).2)
theorem point_most (bs:List Nat) (R:Rd) (p:Pt):(pointS bs R p).2.most=R.most∧(pointS bs R p).2.used=R.used∧(pointS bs R p).2.pts=R.pts:=by
 have h:=part_most bs R p.x
 have g:=part_most bs (partS bs R p.x).2 p.y
 exact ⟨g.1.trans h.1,g.2.1.trans h.2.1,g.2.2.trans h.2.2⟩
def Nr (p:Pt):Prop:=(-2097152≤p.x∧p.x≤2097152)∧-2097152≤p.y∧p.y≤2097152
theorem point_in (bs:List Nat) (R:Rd) (p:Pt) (h0:0≤R.most) (h1:R.most≤2097152):Nr (pointS bs R p).1:=by
 have h:=part_in bs R p.x h0
 have m:=part_most bs R p.x
 have g:=part_in bs (partS bs R p.x).2 p.y (by rw [m.1];exact h0)
 rw [m.1] at g
 exact ⟨⟨by show _≤(partS bs R p.x).1;omega,by show (partS bs R p.x).1≤_;omega⟩,by show _≤(partS bs (partS bs R p.x).2 p.y).1;omega,by show (partS bs (partS bs R p.x).2 p.y).1≤_;omega⟩
theorem point_run {Gl:qzj} (hG:GlAll Gl) {bs:List Nat} (hl:bs.length < 100000) (hb:∀ x∈bs,x < 256) {i:Nat} {R:Rd} {I:IcV} {h:VH} (st:RAt bs i R I h) (p:Pt) (h0:0≤R.most) (h1:R.most≤2097152) (hp:Nr p) :
  CallsV Go.VL.Er.E Gl f_decode_reader_point [.ptr i 0,.agg (cPt p)] h (fun v h'=>v = .agg (cPt (pointS bs R p).1)∧RAt bs i (pointS bs R p).2 I h'∧Fm i h h'):=by
 have hn:=st.1
 refine qze E_decode_reader_point ?_
 unfold c_decode_reader_point r_decode_reader_point
 simp only [qzl]
 have st1:=st.move (h':=⟨(h.next+1,some (VB.cells [.int .i64 0,.int .i64 0] false))::(h.next,some (VB.cells (cPt p) false))::h.l,h.next+1+1⟩) (by show h.next≤h.next+1+1;omega) (fun k k1=>by simp only [qzb];rw [if_neg (by omega),if_neg (by omega)])
 have y1:¬h.next+1=h.next:=by omega
 simp only [simprocAttr,-Int.reduceNatCast',go_sem,y1]
 refine qzh (part_run hG hl hb st1 p.x h0 h1 hp.1.1 hp.1.2) ?_
 intro v h2 ⟨e,st2,fm2⟩
 subst e
 have n2:=fm2.1
 simp only at n2
 have b2:qza h2.l h.next=some (some (.cells (cPt p) false)):=by rw [fm2.2 h.next (by show h.next < h.next+1+1;omega) (by omega)];simp only [qzb];rw [if_neg (by omega),if_pos trivial]
 have b3:qza h2.l (h.next+1)=some (some (.cells [.int .i64 0,.int .i64 0] false)):=by rw [fm2.2 (h.next+1) (by show h.next+1 < h.next+1+1;omega) (by omega)];simp only [qzb,if_true]
 have m:=part_most bs R p.x
 simp only [simprocAttr,-Int.reduceNatCast',go_sem,b2]
 refine qzh (part_run hG hl hb st2 p.y (by rw [m.1];exact h0) (by rw [m.1];exact h1) hp.2.1 hp.2.2) ?_
 intro v h3 ⟨e,st3,fm3⟩
 subst e
 have n3:=fm3.1
 have b4:=(fm3.2 (h.next+1) (by omega) (by omega)).trans b3
 simp only [simprocAttr,-Int.reduceNatCast',go_sem,b4]
 refine ⟨rfl,?_,by show h.next≤h3.next;omega,fun k k1 k2 => ?_⟩
 ·exact st3.put (by omega) b4 (fun _ _ e=>by simp at e)
 ·simp only [qzb]
  rw [if_neg (by omega),fm3.2 k (by omega) k2,fm2.2 k (by show k < h.next+1+1;omega) k2]
  simp only [qzb]
  rw [if_neg (by omega),if_neg (by omega)]
def colorS (bs:List Nat) (R:Rd) (nc:Nat):Int × Rd :=
 if isN (numS bs R).2.err=false then (0,(numS bs R).2)
 else if nc≤(numS bs R).1 then (0,failS (numS bs R).2 R.pos 4)
 else if R.used < (numS bs R).1 then (0,failS (numS bs R).2 R.pos 9)
 else ((numS bs R).1,⟨(numS bs R).2.pos,(numS bs R).2.err,(numS bs R).2.most,max R.used ((numS bs R).1+1),(numS bs R).2.pts⟩)
theorem color_most (bs:List Nat) (R:Rd) (nc:Nat):(colorS bs R nc).2.most=R.most∧(colorS bs R nc).2.pts=R.pts:=by
 have h:=num_most bs R
 have g:=fun k=>fail_most (numS bs R).2 R.pos k
 unfold colorS
 split
 ·exact ⟨h.1,h.2.2⟩
 ·split
  ·exact ⟨(g 4).1.trans h.1,(g 4).2.2.1.trans h.2.2⟩
  ·split
   ·exact ⟨(g 9).1.trans h.1,(g 9).2.2.1.trans h.2.2⟩
   ·exact ⟨h.1,h.2.2⟩
theorem color_used (bs:List Nat) (R:Rd) (nc:Nat) (h0:0≤R.used) (h1:R.used≤nc):0≤(colorS bs R nc).2.used∧(colorS bs R nc).2.used≤nc:=by
 have h:=num_most bs R
 have g:=fun k=>fail_most (numS bs R).2 R.pos k
 unfold colorS
 split
 ·rw [h.2.1];exact ⟨h0,h1⟩
 ·split
  ·rw [(g 4).2.1,h.2.1];exact ⟨h0,h1⟩
  ·split
   ·rw [(g 9).2.1,h.2.1];exact ⟨h0,h1⟩
   ·simp only;omega
theorem color_run {Gl:qzj} (hG:GlAll Gl) {bs:List Nat} (hl:bs.length < 100000) (hb:∀ x∈bs,x < 256) {i:Nat} {R:Rd} {I:IcV} {h:VH} (st:RAt bs i R I h) (nc:Nat) (hc:lenSlV [I.vc]=some (.int .i64 nc)) (hn:nc≤256) (u0:0≤R.used) (u1:R.used≤256) :
  CallsV Go.VL.Er.E Gl f_decode_reader_color [.ptr i 0] h (fun v h'=>v = .int .i64 (colorS bs R nc).1∧RAt bs i (colorS bs R nc).2 I h'∧Fm i h h'):=by
 refine qze E_decode_reader_color ?_
 unfold c_decode_reader_color r_decode_reader_color
 simp only [qzl]
 simp only [simprocAttr,-Int.reduceNatCast',go_sem]
 refine qzh (num_run hG hl hb st) ?_
 intro v h2 ⟨ev,st2,fm2⟩
 subst ev
 have nn:=numS_n hb R
 have nm:=num_most bs R
 have g4:qza Gl 8=some [erP 4]:=(hG 4 (by omega)).1
 have g9:qza Gl 18=some [erP 9]:=(hG 9 (by omega)).1
 obtain ⟨P,hP⟩:∃ P,colorS bs R nc=P:=⟨_,rfl⟩
 have hP':=hP
 unfold colorS at hP
 rw [hP']
 generalize numS bs R=q at *
 obtain ⟨n,R2⟩:=q
 simp only at st2 nn nm hP ⊢
 obtain ⟨nm,nu,_⟩:=nm
 have st2':=st2
 obtain ⟨hn3,ev3,hi3,he3⟩:=st2
 unfold rC at hi3
 have e0:=he3.er0 Gl
 have e1:=he3.er1 Gl
 have w1:IntKind.u64.wrap (nc:Int)=nc:=by rw [Go.VL.Wire.wrap_u64];omega
 have w2:IntKind.u64.wrap R2.used=R2.used:=by rw [Go.VL.Wire.wrap_u64];omega
 cases ce:isN R2.err
 ·rw [ce] at e0 e1
  rw [if_pos ce] at hP
  simp only [simprocAttr,-Int.reduceNatCast',go_sem,hi3,↓e0,↓e1]
  rw [←hP]
  exact ⟨rfl,st2',fm2⟩
 rw [ce] at e0 e1
 rw [if_neg (by rw [ce];simp)] at hP
 by_cases c1:nc≤n
 ·have c1':(n:Int) ≥ nc:=by omega
  rw [if_pos c1] at hP
  simp only [simprocAttr,-Int.reduceNatCast',go_sem,hi3,↓e0,↓e1,↓hc,w1,c1',g_ErrRange,g4]
  refine qzh (fails_run st2' R.pos 4) ?_
  intro v h3 ⟨st3,fm3⟩
  simp only [simprocAttr,-Int.reduceNatCast',go_sem]
  rw [←hP]
  exact ⟨rfl,st3,fm2.trans fm3⟩
 have c1':¬(n:Int) ≥ nc:=by omega
 rw [if_neg c1] at hP
 by_cases c2:(n:Int) > R2.used
 ·rw [if_pos (by omega)] at hP
  simp only [simprocAttr,-Int.reduceNatCast',go_sem,hi3,↓e0,↓e1,↓hc,w1,w2,c1',c2,g_ErrCanon,g9]
  refine qzh (fails_run st2' R.pos 9) ?_
  intro v h3 ⟨st3,fm3⟩
  simp only [simprocAttr,-Int.reduceNatCast',go_sem]
  rw [←hP]
  exact ⟨rfl,st3,fm2.trans fm3⟩
 rw [if_neg (by omega)] at hP
 have w3:IntKind.i64.wrap (n:Int)=n:=qzd (by omega) (by omega)
 have w4:IntKind.i64.wrap ((n:Int)+1)=n+1:=qzd (by omega) (by omega)
 obtain ⟨M,hM⟩:∃ M,(if (n:Int)+1 > R2.used then (n:Int)+1 else R2.used)=M:=⟨_,rfl⟩
 have eM:max R.used ((n:Int)+1)=M:=by rw [←hM];split<;>omega
 rw [eM] at hP
 simp only [simprocAttr,-Int.reduceNatCast',go_sem,hi3,↓e0,↓e1,↓hc,w1,w2,w3,w4,c1',c2,hM]
 rw [←hP]
 refine ⟨rfl,⟨hn3,ev3,by simp only [qzb,if_true];rfl,?_⟩,fm2.1,fun k k1 k2=>by simp only [qzb];rw [if_neg (Ne.symm k2)];exact fm2.2 k k1 k2⟩
 exact he3.keep ⟨Nat.le_refl _,fun k _ k2=>by simp only [qzb];rw [if_neg (Ne.symm k2)]⟩
end
end Go.VL.Dc
