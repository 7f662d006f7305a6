import Derived.Test.YtpobcoodmhhpaaaDoorErA
import Derived.Test.YtpobcoodmhhpaaaDoorVlK
import Derived.Test.YtpobcoodmhhpaaaDoorNuF
set_option linter.unusedSimpArgs false
set_option linter.unusedVariables false
namespace Go.VL.Wo
open Go.FR Go.IR Go.VL Go.VL.Er
noncomputable section
set_option maxRecDepth 100000
set_option maxHeartbeats 1000000
structure W where
 kind:Nat
 pos:Nat
 text:List UInt8
deriving DecidableEq
abbrev cW (w:W):List VV:=[.int .i64 ((w.kind:Nat):Int),.int .i64 ((w.pos:Nat):Int),.str w.text]
def wordsF:Nat→List UInt8→Nat→List W × Option Nat
 | 0,_,_=>([],none)
 | _+1,[],_=>([],none)
 | f+1,b::r,at_=>if (nextS (b::r)).2=0 then ([],some at_) else
  (⟨(nextS (b::r)).1,at_,(b::r).take (nextS (b::r)).2⟩::(wordsF f (((b::r).drop (nextS (b::r)).2).drop (gapS ((b::r).drop (nextS (b::r)).2))) (at_+(nextS (b::r)).2+gapS ((b::r).drop (nextS (b::r)).2))).1,
   (wordsF f (((b::r).drop (nextS (b::r)).2).drop (gapS ((b::r).drop (nextS (b::r)).2))) (at_+(nextS (b::r)).2+gapS ((b::r).drop (nextS (b::r)).2))).2)
def splitW (s:List UInt8):List W × Option Nat:=wordsF s.length (s.drop (gapS s)) (gapS s)
def splitS (s:List UInt8):List W × ErrV :=
 if s.length > 60000 then ([],.placed 5 60000) else match splitW s with
  | (ws,none)=>(ws,.none)
  | (_,some p)=>([],.placed 0 p)
def GlWo (Gl:qzh):Prop:=qzf Gl 0=some [erP 0]∧qzf Gl 10=some [erP 5]
attribute [local go_sem] erP atV cW t_p_api_At
end
end Go.VL.Wo
namespace Go.VL.Wo
open Go.FR Go.IR Go.VL Go.VL.Er
noncomputable section
set_option maxRecDepth 100000
set_option maxHeartbeats 1000000
attribute [local go_sem] erP atV cW t_p_api_At t_p_errors_errorString
end
end Go.VL.Wo
namespace Go.VL.Nu
open Go.FR Go.IR Go.VL Go.VL.Er Go.VL.Wo
noncomputable section
set_option maxRecDepth 100000
set_option maxHeartbeats 1000000
attribute [local go_sem] erP t_p_api_At
theorem first9_ok {Gl:qzh} (hp:GlPow Gl):qzg Go.VL.Er.E Gl f_glyphiclaw9_first [] (.bool true):=by
 refine qze (qzc E_glyphiclaw9_first ?_)
 unfold c_glyphiclaw9_first r_glyphiclaw9_first
 simp only [qzi]
 have k1:=show_ok hp 1500000 (by omega) (by omega)
 have k2:=show_ok hp (-1) (by omega) (by omega)
 rw [show showN 1500000=[49,46,53] by decide +kernel] at k1
 rw [show showN (-1)=[45,48,46,48,48,48,48,48,49] by decide +kernel] at k2
 have e1:(([49,46,53]:List UInt8) == [49,46,53])=true:=rfl
 have e2:(([45,48,46,48,48,48,48,48,49]:List UInt8) == [45,48,46,48,48,48,48,48,49])=true:=rfl
 simp only [simprocAttr,-Int.reduceNatCast',go_sem]
 refine qzb k1 rfl rfl ?_
 simp only [simprocAttr,-Int.reduceNatCast',go_sem,strBin,e1]
 refine qzb k2 rfl rfl ?_
 simp only [simprocAttr,-Int.reduceNatCast',go_sem,strBin,e2]
 exact qza rfl
end
end Go.VL.Nu
namespace Go.VL.Nu
open Go.FR Go.IR Go.VL Go.VL.Er Go.VL.Wo
noncomputable section
set_option maxRecDepth 100000
set_option maxHeartbeats 1000000
def pl:Nat→Nat→Nat→List UInt8
 | 0,_,_=>[]
 | f+1,n,l=>if 0 < n∨0 < l then pl f (n / 10) (l - 1)++[dg (n % 10)] else []
theorem valF_append:∀ (a b:List UInt8) (n:Nat),valF n (a++b)=valF (valF n a) b
 | [],b,n=>rfl
 | x::a,b,n=>by rw [List.cons_append,valF_cons,valF_cons];exact valF_append a b _
theorem valF_dg {n d:Nat} (h:d < 10):valF n [dg d]=10*n+d:=by
 rw [valF_cons,valF_nil,dv_def,dg_nat h];omega
theorem valF_zeros:∀ (k n:Nat),valF n (List.replicate k 48)=n*10 ^ k
 | 0,n=>by rw [List.replicate_zero,valF_nil];simp
 | k+1,n=>by
  have:dv 48=0:=by rw [dv_def];rfl
  rw [List.replicate_succ,valF_cons,this,valF_zeros k,Nat.pow_succ,Nat.add_zero,Nat.mul_comm 10 n,Nat.mul_assoc,Nat.mul_comm 10]
theorem pl_val:∀ (f n l:Nat),n < 10 ^ f→valS (pl f n l)=n
 | 0,n,l,h=>by simp at h;subst h;rfl
 | f+1,n,l,h=>by
  rw [Nat.pow_succ] at h
  have ih:=pl_val f (n / 10) (l - 1) (by omega)
  unfold pl
  split
  ·show valF 0 _=_
   rw [valF_append,show valF 0 (pl f (n / 10) (l - 1))=n / 10 from ih,valF_dg (Nat.mod_lt _ (by omega))];omega
  ·have:n=0:=by omega
   subst this;rfl
theorem dg_digit {n:Nat} (h:n < 10):digitS (dg n)=true:=by
 have:=dg_nat h
 simp [digitS,this];omega
theorem pl_digits:∀ (f n l:Nat),∀ b∈pl f n l,digitS b=true
 | 0,n,l,b,h=>by simp [pl] at h
 | f+1,n,l,b,h=>by
  unfold pl at h
  split at h
  ·rcases List.mem_append.mp h with h | h
   ·exact pl_digits f _ _ b h
   ·rw [List.mem_singleton.mp h];exact dg_digit (Nat.mod_lt _ (by omega))
  ·simp at h
theorem pl_len:∀ (f n l:Nat),l≤f→(pl f n l).length≤f∧l≤(pl f n l).length∧(n < 10 ^ l→(pl f n l).length=l)
 | 0,n,l,h=>by have:l=0:=by omega
               subst this;simp [pl]
 | f+1,n,l,h=>by
  obtain ⟨h1,h2,h3⟩:=pl_len f (n / 10) (l - 1) (by omega)
  unfold pl
  split
  ·rename_i c
   rw [List.length_append,List.length_singleton]
   refine ⟨by omega,by omega,fun q => ?_⟩
   cases l with
   | zero=>simp at q;omega
   | succ l =>
    rw [Nat.pow_succ] at q
    have:=h3 (by simp only [Nat.add_sub_cancel];omega)
    omega
  ·simp;omega
theorem dg_byte {d:Nat} (h:d < 10):IntKind.u8.wrap (IntKind.i64.wrap (48+(d:Int)))=(((dg d).toNat:Nat):Int):=by
 rw [dg_nat h,qzd (by omega) (by omega),show 48+(d:Int)=((48+d:Nat):Int) by omega,wrap_u8n (by omega)]
theorem pow15 {k:Nat} (h:k≤15):10 ^ k≤1000000000000000:=Nat.pow_le_pow_right (n:=10) (by omega) h
attribute [local go_sem] erP t_p_api_At
theorem pl_loop (Gl:qzh) (R:List UInt8) (hR:R.length≤1000) (K:AEx→VF→VH→Prop) (hK:∀ T h,qzf T 5=some (.str R)→K (.exit 0) T h) :
  ∀ (f n:Nat) (z:Int) (acc:List UInt8) (T:VF) (h:VH),n < 10 ^ f→z≤f→(f:Int) - 1000 < z→f≤15→pl f n z.toNat++acc=R→qzf T 0=some (.int .i64 (n:Int))→qzf T 1=some (.int .i64 z)→qzf T 5=some (.str acc) →
   wp Go.VL.Er.E Gl (.loop c_glyphiclaw9_places_l0) T h K:=by
 intro f
 induction f with
 | zero =>
  intro n z acc T h hn hz hz2 hf hr t0 t1 t5
  simp only [Nat.pow_zero] at hn
  have c1:¬((n:Int) > 0):=by omega
  have c2:¬(z > 0):=by omega
  refine loop_u c_glyphiclaw9_places_l0.eq_1 ?_
  simp only [simprocAttr,-Int.reduceNatCast',go_sem,t0,t1,t5,c1,c2]
  refine hK _ h ?_
  simp only [simprocAttr,-Int.reduceNatCast',go_sem,t5]
  rw [←hr];rfl
 | succ f ih =>
  intro n z acc T h hn hz hz2 hf hr t0 t1 t5
  refine loop_u c_glyphiclaw9_places_l0.eq_1 ?_
  have nm:n < 1000000000000000:=Nat.lt_of_lt_of_le hn (pow15 hf)
  have hn':n / 10 < 10 ^ f:=by rw [Nat.pow_succ] at hn;omega
  clear hn
  have body:(0 < n∨0 < z.toNat)→pl f (n / 10) (z - 1).toNat++(dg (n % 10)::acc)=R:=fun q=>by
   rw [←hr,pl,if_pos q,List.append_assoc,show z.toNat - 1=(z - 1).toNat by omega];rfl
  have stop:¬(0 < n∨0 < z.toNat)→acc=R:=fun q=>by rw [←hr,pl,if_neg q];rfl
  have wr:((n:Nat):Int).tmod 10=((n % 10:Nat):Int):=rfl
  have wq:IntKind.i64.wrap (((n:Nat):Int).tdiv 10)=((n / 10:Nat):Int):=by
   rw [show ((n:Nat):Int).tdiv 10=((n / 10:Nat):Int) from rfl,qzd (by omega) (by omega)]
  have wd:=dg_byte (d:=n % 10) (Nat.mod_lt _ (by omega))
  have wz:IntKind.i64.wrap (z - 1)=z - 1:=qzd (by omega) (by omega)
  have e1:((((dg (n % 10)).toNat:Nat):Int)).toNat=(dg (n % 10)).toNat:=Int.toNat_natCast _
  by_cases c1:(n:Int) > 0
  ·have hb:=body (.inl (by omega))
   have la:1+acc.length≤9223372036854775807:=by
    have:=congrArg List.length hb
    simp only [List.length_append,List.length_cons] at this;omega
   simp only [simprocAttr,-Int.reduceNatCast',go_sem,t0,t1,t5,c1,wr,wd,bytesV,e1,UInt8.ofNat_toNat,strBin,la,wq,wz]
   refine ih (n / 10) (z - 1) (dg (n % 10)::acc) _ _ hn' (by omega) (by omega) (by omega) hb ?_ ?_ ?_
   ·simp only [simprocAttr,-Int.reduceNatCast',go_sem]
   ·simp only [simprocAttr,-Int.reduceNatCast',go_sem]
   ·simp only [simprocAttr,-Int.reduceNatCast',go_sem]
  ·by_cases c2:z > 0
   ·have hb:=body (.inr (by omega))
    have la:1+acc.length≤9223372036854775807:=by
     have:=congrArg List.length hb
     simp only [List.length_append,List.length_cons] at this;omega
    simp only [simprocAttr,-Int.reduceNatCast',go_sem,t0,t1,t5,c1,c2,wr,wd,bytesV,e1,UInt8.ofNat_toNat,strBin,la,wq,wz]
    refine ih (n / 10) (z - 1) (dg (n % 10)::acc) _ _ hn' (by omega) (by omega) (by omega) hb ?_ ?_ ?_
    ·simp only [simprocAttr,-Int.reduceNatCast',go_sem]
    ·simp only [simprocAttr,-Int.reduceNatCast',go_sem]
    ·simp only [simprocAttr,-Int.reduceNatCast',go_sem]
   ·have hs:=stop (by omega)
    simp only [simprocAttr,-Int.reduceNatCast',go_sem,t0,t1,t5,c1,c2]
    refine hK _ h ?_
    simp only [simprocAttr,-Int.reduceNatCast',go_sem,t5]
    rw [hs]
def placesS (n l:Nat):List UInt8:=pl 10 n l
theorem pl_most:∀ (f n l k:Nat),n < 10 ^ k→l≤k→(pl f n l).length≤k
 | 0,n,l,k,_,_=>by simp [pl]
 | f+1,n,l,k,h,hl=>by
  unfold pl
  split
  ·rename_i c
   cases k with
   | zero=>simp at h;omega
   | succ k =>
    rw [Nat.pow_succ] at h
    have:=pl_most f (n / 10) (l - 1) k (by omega) (by omega)
    rw [List.length_append,List.length_singleton];omega
  ·simp
theorem placesS_6 {n l:Nat} (h:n < 1000000) (hl:l≤6:=by omega):(placesS n l).length≤6:=pl_most 10 n l 6 h hl
theorem places_ok (Gl:qzh) (n l:Nat) (hn:n < 10000000000) (hl:l≤10):qzg Go.VL.Er.E Gl f_glyphiclaw9_places [.int .i64 (n:Int),.int .i64 (l:Int)] (.str (placesS n l)):=by
 refine qze (qzc E_glyphiclaw9_places ?_)
 unfold c_glyphiclaw9_places r_glyphiclaw9_places
 simp only [qzi]
 have ln:=(pl_len 10 n l hl).1
 simp only [simprocAttr,-Int.reduceNatCast',go_sem]
 refine pl_loop Gl (placesS n l) (by unfold placesS;omega) _ ?_ 10 n (l:Int) [] _ _ (by omega) (by omega) (by omega) (by omega) ?_ ?_ ?_ ?_
 ·intro T h t5
  simp only [simprocAttr,-Int.reduceNatCast',go_sem,t5]
  exact qza rfl
 ·rw [Int.toNat_natCast,List.append_nil];rfl
 all_goals simp only [simprocAttr,-Int.reduceNatCast',go_sem]
end
end Go.VL.Nu
namespace Go.VL.Nu
open Go.FR Go.IR Go.VL Go.VL.Er Go.VL.Wo
noncomputable section
set_option maxRecDepth 100000
set_option maxHeartbeats 1000000
theorem idx_none:∀ (s:List UInt8) (c:UInt8) (k:Nat),(∀ b∈s,b≠c)→∀ t,idxByte c (s++t) k=idxByte c t (k+s.length)
 | [],c,k,_,t=>by simp
 | b::s,c,k,h,t=>by
  rw [List.cons_append,idxByte,if_neg (h b (.head _)),idx_none s c (k+1) (fun x hx=>h x (.tail _ hx)) t,List.length_cons]
  congr 1;omega
theorem cut_at {A B:List UInt8} {c:UInt8} (h:∀ b∈A,b≠c):cutS (A++(c::B)) c=(A,B,true):=by
 have e:idxByte c (A++(c::B)) 0=some A.length:=by rw [idx_none A c 0 h,idxByte,if_pos rfl,Nat.zero_add]
 unfold cutS
 rw [e]
 simp
theorem digit_ne {b:UInt8} (h:digitS b=true):b≠46∧b≠45∧b≠32:=by
 have:=digit_le h
 refine ⟨fun e => ?_,fun e => ?_,fun e => ?_⟩<;>subst e<;>simp at this
theorem all_ok {s:List UInt8} (h:∀ b∈s,digitS b=true) (h1:1≤s.length) (h6:s.length≤6):allS s=true:=by
 simp only [allS,Bool.and_eq_true,List.all_eq_true,decide_eq_true_eq]
 exact ⟨⟨h,h1⟩,h6⟩
theorem pref_digit {s:List UInt8} (h:∀ b∈s,digitS b=true) (h1:1≤s.length) (t:List UInt8):prefS (s++t) [45]=false:=by
 cases s with
 | nil=>simp at h1
 | cons b s =>
  have:=(digit_ne (h b (.head _))).2.1
  simp [prefS,this]
theorem pref_min (s:List UInt8):prefS (45::s) [45]=true:=by simp [prefS]
theorem pow6 {k:Nat} (h:k≤6):10 ^ k≤1000000:=by
 have:=Nat.pow_le_pow_right (n:=10) (by omega) h
 rwa [show 10 ^ 6=1000000 by decide] at this
theorem ten (k:Nat) (h:k≤6):1000000 / 10 ^ k=10 ^ (6 - k):=by
 have:k=0∨k=1∨k=2∨k=3∨k=4∨k=5∨k=6:=by omega
 rcases this with rfl | rfl | rfl | rfl | rfl | rfl | rfl<;>rfl
theorem whole_frac {B:List UInt8} (h:∀ b∈B,digitS b=true) (h6:B.length≤6):wholeV ((B++zeros6).take 6)=valS B*10 ^ (6 - B.length):=by
 have e:(B++zeros6).take 6=B++List.replicate (6 - B.length) 48:=by
  rw [List.take_append,List.take_of_length_le h6,show zeros6=List.replicate 6 48 from rfl,List.take_replicate]
  congr 2;omega
 have d:∀ b∈B++List.replicate (6 - B.length) 48,digitS b=true:=fun b hb=>by
  rcases List.mem_append.mp hb with hb | hb
  ·exact h b hb
  ·rw [List.eq_of_mem_replicate hb];decide
 have l:(B++List.replicate (6 - B.length) 48).length=6:=by simp;omega
 rw [e]
 unfold wholeV
 rw [if_pos (all_ok d (by omega) (by omega))]
 show valF 0 _=_
 rw [valF_append,valF_zeros]
theorem whole_dig {A:List UInt8} (h:∀ b∈A,digitS b=true) (h1:1≤A.length) (h6:A.length≤6):wholeV A=valS A:=by
 unfold wholeV;rw [if_pos (all_ok h h1 h6)]
theorem par_parts {A B:List UInt8} (hA:∀ b∈A,digitS b=true) (a1:1≤A.length) (a6:A.length≤6) (hB:∀ b∈B,digitS b=true) (b1:1≤B.length) (b6:B.length≤6) (neg:Bool) :
  parOK ((if neg then [45] else [])++(A++(46::B)))=true∧parN ((if neg then [45] else [])++(A++(46::B)))=(if neg then -((valS A*1000000+valS B*10 ^ (6 - B.length):Nat):Int) else ((valS A*1000000+valS B*10 ^ (6 - B.length):Nat):Int)):=by
 have rs:restS ((if neg then [45] else [])++(A++(46::B)))=A++(46::B):=by
  unfold restS
  cases neg
  ·simp only [Bool.false_eq_true,if_false,List.nil_append]
   rw [pref_digit hA a1];rfl
  ·simp only [if_true,List.cons_append,List.nil_append]
   rw [pref_min];rfl
 have ct:=cut_at (A:=A) (B:=B) (c:=46) (fun b hb=>(digit_ne (hA b hb)).1)
 have ok:parOK ((if neg then [45] else [])++(A++(46::B)))=true:=by
  unfold parOK unitS pointS partS
  rw [rs,ct]
  simp only
  rw [all_ok hA a1 a6,all_ok hB b1 b6];rfl
 refine ⟨ok,?_⟩
 unfold parN
 rw [if_pos ok]
 have pa:parA ((if neg then [45] else [])++(A++(46::B)))=valS A*1000000+valS B*10 ^ (6 - B.length):=by
  unfold parA unitS partS
  rw [rs,ct]
  simp only
  rw [whole_dig hA a1 a6,whole_frac hB b6]
 rw [pa]
 cases neg
 ·simp only [Bool.false_eq_true,if_false,List.nil_append]
  rw [pref_digit hA a1,if_neg Bool.false_ne_true]
 ·simp only [if_true,List.cons_append,List.nil_append]
  rw [pref_min,if_pos rfl]
structure Shape (m:Nat) (U B:List UInt8):Prop where
 u:∀ b∈U,digitS b=true
 u1:1≤U.length
 u6:U.length≤6
 uv:valS U=m / 1000000
 b:∀ b∈B,digitS b=true
 b6:B.length≤6
 bv:valS B*10 ^ (6 - B.length)=m % 1000000
 last:B.getLast?≠some 48
 zero:B=[] ↔ m % 1000000=0
 show_:showU m=U++(if B=[] then [] else 46::B)
end
end Go.VL.Nu
