import Derived.Test.YtlgkadhogiedoaaDoorVlK
import Derived.Test.YtlgkadhogiedoaaDoorNuE
import Derived.Test.YtlgkadhogiedoaaDoorWoA
set_option linter.unusedSimpArgs false
set_option linter.unusedVariables false
namespace Go.VL.Nu
open Go.FR Go.IR Go.VL Go.VL.Er Go.VL.Wo
noncomputable section
set_option maxRecDepth 100000
set_option maxHeartbeats 1000000
def decF:Nat→Nat→List UInt8
 | 0,_=>[]
 | f+1,u=>if u < 10 then [dg u] else decF f (u / 10)++[dg (u % 10)]
def decS (u:Nat):List UInt8:=decF 20 u
theorem decF_s (f u:Nat):decF (f+1) u=if u < 10 then [dg u] else decF f (u / 10)++[dg (u % 10)]:=rfl
theorem dec1 {u:Nat} (h:u < 10):decS u=[dg u]:=by
 unfold decS;rw [decF_s,if_pos h]
theorem dec2 {u:Nat} (h1:10≤u) (h2:u < 100):decS u=[dg (u / 10),dg (u % 10)]:=by
 unfold decS;rw [decF_s,if_neg (by omega),decF_s,if_pos (by omega)];rfl
theorem dec3 {u:Nat} (h1:100≤u) (h2:u < 1000):decS u=[dg (u / 100 % 10),dg (u / 10 % 10),dg (u % 10)]:=by
 unfold decS
 rw [decF_s,if_neg (by omega),decF_s,if_neg (by omega),decF_s,if_pos (by omega)]
 rw [show u / 10 / 10=u / 100 % 10 by omega,show u / 10 % 10=u / 10 % 10 by omega]
 rfl
theorem dec4 {u:Nat} (h1:1000≤u) (h2:u < 10000):decS u=[dg (u / 1000 % 10),dg (u / 100 % 10),dg (u / 10 % 10),dg (u % 10)]:=by
 unfold decS
 rw [decF_s,if_neg (by omega),decF_s,if_neg (by omega),decF_s,if_neg (by omega),decF_s,if_pos (by omega)]
 rw [show u / 10 / 10 / 10=u / 1000 % 10 by omega,show u / 10 / 10 % 10=u / 100 % 10 by omega,show u / 10 % 10=u / 10 % 10 by omega]
 rfl
theorem dec5 {u:Nat} (h1:10000≤u) (h2:u < 100000):decS u=[dg (u / 10000 % 10),dg (u / 1000 % 10),dg (u / 100 % 10),dg (u / 10 % 10),dg (u % 10)]:=by
 unfold decS
 rw [decF_s,if_neg (by omega),decF_s,if_neg (by omega),decF_s,if_neg (by omega),decF_s,if_neg (by omega),decF_s,if_pos (by omega)]
 rw [show u / 10 / 10 / 10 / 10=u / 10000 % 10 by omega,show u / 10 / 10 / 10 % 10=u / 1000 % 10 by omega,show u / 10 / 10 % 10=u / 100 % 10 by omega,show u / 10 % 10=u / 10 % 10 by omega]
 rfl
theorem dec6 {u:Nat} (h1:100000≤u) (h2:u < 1000000):decS u=[dg (u / 100000 % 10),dg (u / 10000 % 10),dg (u / 1000 % 10),dg (u / 100 % 10),dg (u / 10 % 10),dg (u % 10)]:=by
 unfold decS
 rw [decF_s,if_neg (by omega),decF_s,if_neg (by omega),decF_s,if_neg (by omega),decF_s,if_neg (by omega),decF_s,if_neg (by omega),decF_s,if_pos (by omega)]
 rw [show u / 10 / 10 / 10 / 10 / 10=u / 100000 % 10 by omega,show u / 10 / 10 / 10 / 10 % 10=u / 10000 % 10 by omega,show u / 10 / 10 / 10 % 10=u / 1000 % 10 by omega,show u / 10 / 10 % 10=u / 100 % 10 by omega,show u / 10 % 10=u / 10 % 10 by omega]
 rfl
theorem dec7 {u:Nat} (h1:1000000≤u) (h2:u < 10000000):decS u=[dg (u / 1000000 % 10),dg (u / 100000 % 10),dg (u / 10000 % 10),dg (u / 1000 % 10),dg (u / 100 % 10),dg (u / 10 % 10),dg (u % 10)]:=by
 unfold decS
 rw [decF_s,if_neg (by omega),decF_s,if_neg (by omega),decF_s,if_neg (by omega),decF_s,if_neg (by omega),decF_s,if_neg (by omega),decF_s,if_neg (by omega),decF_s,if_pos (by omega)]
 rw [show u / 10 / 10 / 10 / 10 / 10 / 10=u / 1000000 % 10 by omega,show u / 10 / 10 / 10 / 10 / 10 % 10=u / 100000 % 10 by omega,show u / 10 / 10 / 10 / 10 % 10=u / 10000 % 10 by omega,show u / 10 / 10 / 10 % 10=u / 1000 % 10 by omega,show u / 10 / 10 % 10=u / 100 % 10 by omega,show u / 10 % 10=u / 10 % 10 by omega]
 rfl
attribute [local go_sem] erP t_p_api_At
theorem small_ok (Gl:qzh) (u:Nat) (h:u < 100):qzg Go.VL.Er.E Gl f_internal_strconv_small [.int .i64 (u:Int)] (.str (decS u)):=by
 refine qzd (qzc E_internal_strconv_small ?_)
 unfold c_internal_strconv_small r_internal_strconv_small
 simp only [qzi]
 by_cases h1:u < 10
 ·have c:(u:Int) < 10:=by omega
  rw [dec1 h1]
  obtain ⟨k1,k2⟩:=dg_cut h1
  have w:IntKind.i64.wrap ((u:Int)+1)=((u+1:Nat):Int):=by rw [qze (by omega) (by omega)];rfl
  have b:u+1≤36:=k2
  have bb:u≤u+1:=by omega
  have e:u+1 - u=1:=by omega
  simp only [dgT] at k1
  simp only [simprocAttr,-Int.reduceNatCast',go_sem,c,w,natOf_n,b,bb,e,k1]
  exact qza rfl
 ·have c:¬(u:Int) < 10:=by omega
  rw [dec2 (by omega) h]
  obtain ⟨k1,k2⟩:=sm_cut h
  have w:IntKind.i64.wrap ((u:Int)*2)=((2*u:Nat):Int):=by rw [qze (by omega) (by omega)];omega
  have w2:IntKind.i64.wrap (((2*u:Nat):Int)+2)=((2*u+2:Nat):Int):=by rw [qze (by omega) (by omega)];rfl
  have b:2*u+2≤200:=k2
  have bb:2*u≤2*u+2:=by omega
  have e:2*u+2 - 2*u=2:=by omega
  have m:u % 10 < 10:=by omega
  rw [show (u / 10)=u / 10 from rfl] at k1
  simp only [smT] at k1
  simp only [simprocAttr,-Int.reduceNatCast',go_sem,c,w,w2,natOf_n,b,bb,e,k1]
  exact qza rfl
theorem fmtI_ok {Gl:qzh} (hp:GlPow Gl) (u:Nat) (h:u < 10000000):qzg Go.VL.Er.E Gl f_internal_strconv_FormatInt [.int .i64 (u:Int),.int .i64 10] (.str (decS u)):=by
 refine qzd (qzc E_internal_strconv_FormatInt ?_)
 unfold c_internal_strconv_FormatInt r_internal_strconv_FormatInt
 simp only [qzi]
 have p0:(0:Int)≤(u:Int):=by omega
 by_cases h1:u < 100
 ·have c:(u:Int) < 100:=by omega
  simp only [simprocAttr,-Int.reduceNatCast',go_sem,p0,c]
  refine qzb (small_ok Gl u h1) rfl rfl ?_
  simp only [simprocAttr,-Int.reduceNatCast',go_sem]
  exact qza rfl
 have c:¬(u:Int) < 100:=by omega
 have c0:¬(u:Int) < 0:=by omega
 have wu:IntKind.u64.wrap (u:Int)=u:=wrap_u64n (by omega)
 have kd:=numDigits_ok hp u (by omega) h
 have z1:qzk (.int .i64 1)=some 1:=rfl
 have r:(100≤u∧u < 1000)∨(1000≤u∧u < 10000)∨(10000≤u∧u < 100000)∨(100000≤u∧u < 1000000)∨(1000000≤u∧u < 10000000):=by omega
 simp only [simprocAttr,-Int.reduceNatCast',go_sem,p0,c,wu,c0]
 refine qzb kd rfl rfl ?_
 rcases r with r | r | r | r | r
 ·have e:ndS u=3:=by unfold ndS;(repeat' split)<;>omega
  rw [e,dec3 r.1 r.2]
  have w1:IntKind.i64.wrap (1+((3:Nat):Int))=((4:Nat):Int):=rfl
  simp only [simprocAttr,-Int.reduceNatCast',go_sem,w1,z1,natV_nat]
  refine call_st1 (fb3 Gl u 0 r.1 r.2) (by first | rfl | (simp only [simprocAttr,-Int.reduceNatCast',go_sem];rfl)) rfl rfl ?_
  simp only [simprocAttr,-Int.reduceNatCast',go_sem,c0,w1,z1,natV_nat,Int.toNat_natCast,UInt8.ofNat_toNat,bytesV]
  exact qza rfl
 ·have e:ndS u=4:=by unfold ndS;(repeat' split)<;>omega
  rw [e,dec4 r.1 r.2]
  have w1:IntKind.i64.wrap (1+((4:Nat):Int))=((5:Nat):Int):=rfl
  simp only [simprocAttr,-Int.reduceNatCast',go_sem,w1,z1,natV_nat]
  refine call_st1 (fb4 Gl u 0 r.1 r.2) (by first | rfl | (simp only [simprocAttr,-Int.reduceNatCast',go_sem];rfl)) rfl rfl ?_
  simp only [simprocAttr,-Int.reduceNatCast',go_sem,c0,w1,z1,natV_nat,Int.toNat_natCast,UInt8.ofNat_toNat,bytesV]
  exact qza rfl
 ·have e:ndS u=5:=by unfold ndS;(repeat' split)<;>omega
  rw [e,dec5 r.1 r.2]
  have w1:IntKind.i64.wrap (1+((5:Nat):Int))=((6:Nat):Int):=rfl
  simp only [simprocAttr,-Int.reduceNatCast',go_sem,w1,z1,natV_nat]
  refine call_st1 (fb5 Gl u 0 r.1 r.2) (by first | rfl | (simp only [simprocAttr,-Int.reduceNatCast',go_sem];rfl)) rfl rfl ?_
  simp only [simprocAttr,-Int.reduceNatCast',go_sem,c0,w1,z1,natV_nat,Int.toNat_natCast,UInt8.ofNat_toNat,bytesV]
  exact qza rfl
 ·have e:ndS u=6:=by unfold ndS;(repeat' split)<;>omega
  rw [e,dec6 r.1 r.2]
  have w1:IntKind.i64.wrap (1+((6:Nat):Int))=((7:Nat):Int):=rfl
  simp only [simprocAttr,-Int.reduceNatCast',go_sem,w1,z1,natV_nat]
  refine call_st1 (fb6 Gl u 0 r.1 r.2) (by first | rfl | (simp only [simprocAttr,-Int.reduceNatCast',go_sem];rfl)) rfl rfl ?_
  simp only [simprocAttr,-Int.reduceNatCast',go_sem,c0,w1,z1,natV_nat,Int.toNat_natCast,UInt8.ofNat_toNat,bytesV]
  exact qza rfl
 ·have e:ndS u=7:=by unfold ndS;(repeat' split)<;>omega
  rw [e,dec7 r.1 r.2]
  have w1:IntKind.i64.wrap (1+((7:Nat):Int))=((8:Nat):Int):=rfl
  simp only [simprocAttr,-Int.reduceNatCast',go_sem,w1,z1,natV_nat]
  refine call_st1 (fb7 Gl u 0 r.1 r.2) (by first | rfl | (simp only [simprocAttr,-Int.reduceNatCast',go_sem];rfl)) rfl rfl ?_
  simp only [simprocAttr,-Int.reduceNatCast',go_sem,c0,w1,z1,natV_nat,Int.toNat_natCast,UInt8.ofNat_toNat,bytesV]
  exact qza rfl
theorem fmt_ok {Gl:qzh} (hp:GlPow Gl) (u:Nat) (h:u < 10000000):qzg Go.VL.Er.E Gl f_strconv_FormatInt [.int .i64 (u:Int),.int .i64 10] (.str (decS u)):=by
 refine qzd (qzc E_strconv_FormatInt ?_)
 unfold c_strconv_FormatInt r_strconv_FormatInt
 simp only [qzi]
 simp only [simprocAttr,-Int.reduceNatCast',go_sem]
 refine qzb (fmtI_ok hp u h) rfl rfl ?_
 simp only [simprocAttr,-Int.reduceNatCast',go_sem]
 exact qza rfl
end
end Go.VL.Nu
namespace Go.VL.Nu
open Go.FR Go.IR Go.VL Go.VL.Er Go.VL.Wo
noncomputable section
set_option maxRecDepth 100000
set_option maxHeartbeats 1000000
def trimS (c:UInt8) (s:List UInt8):List UInt8:=(s.reverse.dropWhile (· == c)).reverse
attribute [local go_sem] erP t_p_api_At
theorem trim_loop (Gl:qzh) (c:UInt8) (R:List UInt8) (K:AEx→VF→VH→Prop) (hK:∀ T h,qzf T 0=some (.str R)→K (.exit 0) T h) :
  ∀ (r:List UInt8) (T:VF) (h:VH),r.length < 4611686018427387904→(r.dropWhile (· == c)).reverse=R→qzf T 0=some (.str r.reverse)→qzf T 1=some (u8V c) →
   wp Go.VL.Er.E Gl (.loop c_strings_trimRightByte_l0) T h K:=by
 intro r
 induction r with
 | nil =>
  intro T h hl hR t0 t1
  refine qzj c_strings_trimRightByte_l0.eq_1 ?_
  have g:¬(((([]:List UInt8).length:Nat):Int) > 0):=by simp
  rw [List.reverse_nil] at t0
  simp only [simprocAttr,-Int.reduceNatCast',go_sem,t0,t1,g]
  try simp only [List.length_nil,gt_iff_lt,Int.lt_irrefl,Int.ofNat_zero,decide_false]
  simp only [simprocAttr,-Int.reduceNatCast',go_sem,t0]
  refine hK _ h ?_
  simp only [simprocAttr,-Int.reduceNatCast',go_sem,t0]
  rw [←hR];rfl
 | cons b r ih =>
  intro T h hl hR t0 t1
  simp only [List.length_cons] at hl
  refine qzj c_strings_trimRightByte_l0.eq_1 ?_
  obtain ⟨s,hs⟩:∃ s,(b::r).reverse=s:=⟨_,rfl⟩
  have ls:s.length=r.length+1:=by rw [←hs];simp
  rw [hs] at t0
  have c1:((s.length:Nat):Int) > 0:=by omega
  have w:IntKind.i64.wrap (((s.length:Nat):Int) - 1)=((r.length:Nat):Int):=by rw [qze (by omega) (by omega)];omega
  have hx:s[r.length]?=some b:=by rw [←hs,List.reverse_cons,List.getElem?_append_right (by simp)];simp
  have st:s.take r.length=r.reverse:=by rw [←hs,List.reverse_cons,List.take_left' (by simp)]
  have l1:r.length≤s.length:=by omega
  have e:(((b.toNat:Nat):Int) == ((c.toNat:Nat):Int))=(b == c):=by
   rw [beq_nat,Bool.eq_iff_iff,beq_iff_eq,beq_iff_eq,UInt8.toNat_inj]
  rw [List.dropWhile_cons] at hR
  cases q:(b == c)
  ·rw [q,if_neg (by simp)] at hR
   simp only [simprocAttr,-Int.reduceNatCast',go_sem,t0,t1,c1,w,natOf_n,hx,e,q]
   refine hK _ h ?_
   simp only [simprocAttr,-Int.reduceNatCast',go_sem,t0]
   rw [←hR,←hs]
  ·rw [q,if_pos rfl] at hR
   simp only [simprocAttr,-Int.reduceNatCast',go_sem,t0,t1,c1,w,natOf_n,hx,e,q,l1,st,Nat.sub_zero]
   refine ih _ h (by omega) hR ?_ ?_
   ·simp only [simprocAttr,-Int.reduceNatCast',go_sem]
   ·simp only [simprocAttr,-Int.reduceNatCast',go_sem,t1]
theorem trimByte_ok (Gl:qzh) (c:UInt8) (s:List UInt8) (hl:s.length < 4611686018427387904):qzg Go.VL.Er.E Gl f_strings_trimRightByte [.str s,u8V c] (.str (trimS c s)):=by
 refine qzd (qzc E_strings_trimRightByte ?_)
 unfold c_strings_trimRightByte r_strings_trimRightByte
 simp only [qzi]
 simp only [simprocAttr,-Int.reduceNatCast',go_sem]
 refine trim_loop Gl c (trimS c s) _ ?_ s.reverse _ _ (by simpa using hl) rfl ?_ ?_
 ·intro T h t0
  simp only [simprocAttr,-Int.reduceNatCast',go_sem,t0]
  exact qza rfl
 ·simp only [simprocAttr,-Int.reduceNatCast',go_sem]
  rw [List.reverse_reverse]
 ·simp only [simprocAttr,-Int.reduceNatCast',go_sem]
theorem trim_ok (Gl:qzh) (c:UInt8) (hc:c.toNat < 128) (s:List UInt8) (hl:s.length < 4611686018427387904):qzg Go.VL.Er.E Gl f_strings_TrimRight [.str s,.str [c]] (.str (trimS c s)):=by
 refine qzd (qzc E_strings_TrimRight ?_)
 unfold c_strings_TrimRight r_strings_TrimRight
 simp only [qzi]
 have z0:natOf (.int .i64 0)=some 0:=rfl
 have e2:(([c]:List UInt8) == [])=false:=rfl
 have e3:(((1:Nat):Int) == 1)=true:=rfl
 have c1:((c.toNat:Nat):Int) < 128:=by omega
 cases s with
 | nil =>
  have e1:(([]:List UInt8) == [])=true:=rfl
  simp only [simprocAttr,-Int.reduceNatCast',go_sem,strBin,e1]
  exact qza rfl
 | cons b s =>
  have e1:((b::s) == ([]:List UInt8))=false:=rfl
  simp only [simprocAttr,-Int.reduceNatCast',go_sem,strBin,e1,e2,e3,z0,c1]
  refine qzb (trimByte_ok Gl c (b::s) hl) rfl rfl ?_
  simp only [simprocAttr,-Int.reduceNatCast',go_sem]
  exact qza rfl
def showU (n:Nat):List UInt8:=decS (n / 1000000)++(if n % 1000000=0 then [] else [46]++trimS 48 ((decS (1000000+n % 1000000)).drop 1))
def showN (n:Int):List UInt8:=if n < 0 then [45]++showU n.natAbs else showU n.natAbs
theorem decF_len:∀ (f u:Nat),(decF f u).length≤f
 | 0,_=>by simp [decF]
 | f+1,u=>by
  rw [decF_s]
  split
  ·simp
  ·have:=decF_len f (u / 10)
   simp;omega
theorem decS_len (u:Nat):(decS u).length≤20:=decF_len 20 u
theorem trimS_len (c:UInt8) (s:List UInt8):(trimS c s).length≤s.length:=by
 unfold trimS
 rw [List.length_reverse]
 have:∀ l:List UInt8,(l.dropWhile (· == c)).length≤l.length:=fun l=>(List.dropWhile_sublist _).length_le
 have:=this s.reverse
 rwa [List.length_reverse] at this
theorem show_ok {Gl:qzh} (hp:GlPow Gl) (n:Int) (h1:-10000000000000 < n) (h2:n < 10000000000000):qzg Go.VL.Er.E Gl f_number_Show [.int .i64 n] (.str (showN n)):=by
 refine qzd (qzc E_number_Show ?_)
 unfold c_number_Show r_number_Show
 simp only [qzi]
 obtain ⟨m,hm⟩:∃ m:Nat,n.natAbs=m:=⟨_,rfl⟩
 have ml:m < 10000000000000:=by omega
 have k1:=fmt_ok hp (m / 1000000) (by omega)
 have k2:=fmt_ok hp (1000000+m % 1000000) (by omega)
 have wq:IntKind.i64.wrap (((m:Nat):Int).tdiv 1000000)=((m / 1000000:Nat):Int):=by
  rw [show ((m:Nat):Int).tdiv 1000000=((m / 1000000:Nat):Int) from rfl,qze (by omega) (by omega)]
 have wr:((m:Nat):Int).tmod 1000000=((m % 1000000:Nat):Int):=rfl
 have wa:IntKind.i64.wrap (1000000+((m % 1000000:Nat):Int))=((1000000+m % 1000000:Nat):Int):=by rw [qze (by omega) (by omega)];rfl
 have d1:=decS_len (m / 1000000)
 have d2:=decS_len (1000000+m % 1000000)
 obtain ⟨D,hD⟩:∃ D,decS (m / 1000000)=D:=⟨_,rfl⟩
 obtain ⟨F,hF⟩:∃ F,decS (1000000+m % 1000000)=F:=⟨_,rfl⟩
 have f1:1≤F.length:=by
  rw [←hF];unfold decS;rw [decF_s,if_neg (by omega)];simp
 have t3:=trimS_len 48 (F.drop 1)
 rw [List.length_drop] at t3
 have kt:=trim_ok Gl 48 (by decide) (F.drop 1) (by rw [List.length_drop];rw [hF] at d2;omega)
 have e0:(((m % 1000000:Nat):Int) == 0)=decide (m % 1000000=0):=by
  rw [Bool.eq_iff_iff,beq_iff_eq,decide_eq_true_eq];omega
 have z1:natOf (.int .i64 1)=some 1:=rfl
 have tF:(F.drop 1).take (F.length - 1)=F.drop 1:=List.take_of_length_le (by rw [List.length_drop];omega)
 rw [hD] at k1 d1;rw [hF] at k2 d2
 unfold showN showU
 rw [hm,hD,hF]
 have l0:([]:List UInt8).length+D.length≤9223372036854775807:=by simp;omega
 have l0':D.length≤9223372036854775807:=by omega
 have l1:1+D.length≤9223372036854775807:=by omega
 have l2:([45]++D).length+1≤9223372036854775807:=by simp;omega
 have l2':(45::D).length+1≤9223372036854775807:=by simp;omega
 have l3:D.length+1≤9223372036854775807:=by omega
 have l4:(D++[46]).length+(trimS 48 (F.drop 1)).length≤9223372036854775807:=by simp only [List.length_append,List.length_cons,List.length_nil];omega
 have l5:([45]++D++[46]).length+(trimS 48 (F.drop 1)).length≤9223372036854775807:=by simp only [List.length_append,List.length_cons,List.length_nil];omega
 have l5':(45::(D++[46])).length+(trimS 48 (F.drop 1)).length≤9223372036854775807:=by simp only [List.length_append,List.length_cons,List.length_nil];omega
 have l6:D.length+1+1≤9223372036854775807:=by omega
 have l7:(D++[46]).length+1+(trimS 48 (F.drop 1)).length≤9223372036854775807:=by simp only [List.length_append,List.length_cons,List.length_nil];omega
 by_cases neg:n < 0
 ·have wn:IntKind.i64.wrap (0 - n)=((m:Nat):Int):=by rw [qze (by omega) (by omega)];omega
  rw [if_pos neg]
  by_cases z:m % 1000000=0
  ·rw [if_pos z]
   have e0':(((m % 1000000:Nat):Int) == 0)=true:=by rw [e0,decide_eq_true z]
   simp only [simprocAttr,-Int.reduceNatCast',go_sem,neg,wn,wq,wr,e0']
   refine qzb k1 rfl rfl ?_
   simp only [simprocAttr,-Int.reduceNatCast',go_sem,strBin,l1,e0',wr]
   exact qza rfl
  ·rw [if_neg z]
   have e0':(((m % 1000000:Nat):Int) == 0)=false:=by rw [e0,decide_eq_false z]
   simp only [simprocAttr,-Int.reduceNatCast',go_sem,neg,wn,wq,wr,e0']
   refine qzb k1 rfl rfl ?_
   simp only [simprocAttr,-Int.reduceNatCast',go_sem,strBin,l1,e0',wr,wa,l2,l2',l3,l6]
   refine qzb k2 rfl rfl ?_
   simp only [simprocAttr,-Int.reduceNatCast',go_sem,z1,f1,tF]
   refine qzb kt rfl rfl ?_
   simp only [simprocAttr,-Int.reduceNatCast',go_sem,strBin,l2,l2',l3,l5,l5',l6,l7]
   simp only [List.append_assoc,List.cons_append,List.nil_append]
   exact qza rfl
 ·obtain rfl:n=(m:Int):=by omega
  rw [if_neg neg]
  by_cases z:m % 1000000=0
  ·rw [if_pos z]
   have e0':(((m % 1000000:Nat):Int) == 0)=true:=by rw [e0,decide_eq_true z]
   simp only [simprocAttr,-Int.reduceNatCast',go_sem,neg,wq,wr,e0']
   refine qzb k1 rfl rfl ?_
   simp only [simprocAttr,-Int.reduceNatCast',go_sem,strBin,l0,l0',e0',wr]
   exact qza rfl
  ·rw [if_neg z]
   have e0':(((m % 1000000:Nat):Int) == 0)=false:=by rw [e0,decide_eq_false z]
   simp only [simprocAttr,-Int.reduceNatCast',go_sem,neg,wq,wr,e0']
   refine qzb k1 rfl rfl ?_
   simp only [simprocAttr,-Int.reduceNatCast',go_sem,strBin,l0,l0',e0',wr,wa,l3]
   refine qzb k2 rfl rfl ?_
   simp only [simprocAttr,-Int.reduceNatCast',go_sem,z1,f1,tF]
   refine qzb kt rfl rfl ?_
   simp only [simprocAttr,-Int.reduceNatCast',go_sem,strBin,l3,l4]
   simp only [List.append_assoc,List.cons_append,List.nil_append]
   exact qza rfl
end
end Go.VL.Nu
namespace Go.VL.Wo
open Go.FR Go.IR Go.VL Go.VL.Er
noncomputable section
set_option maxRecDepth 100000
set_option maxHeartbeats 1000000
structure W where
 kind:Nat
 pos:Nat
 text:List UInt8
deriving DecidableEq
abbrev cW (w:W):List VV:=[.int .i64 ((w.kind:Nat):Int),.int .i64 ((w.pos:Nat):Int),.str w.text]
def wordsF:Nat→List UInt8→Nat→List W × Option Nat
 | 0,_,_=>([],none)
 | _+1,[],_=>([],none)
 | f+1,b::r,at_=>if (nextS (b::r)).2=0 then ([],some at_) else
  (⟨(nextS (b::r)).1,at_,(b::r).take (nextS (b::r)).2⟩::(wordsF f (((b::r).drop (nextS (b::r)).2).drop (gapS ((b::r).drop (nextS (b::r)).2))) (at_+(nextS (b::r)).2+gapS ((b::r).drop (nextS (b::r)).2))).1,
   (wordsF f (((b::r).drop (nextS (b::r)).2).drop (gapS ((b::r).drop (nextS (b::r)).2))) (at_+(nextS (b::r)).2+gapS ((b::r).drop (nextS (b::r)).2))).2)
def splitW (s:List UInt8):List W × Option Nat:=wordsF s.length (s.drop (gapS s)) (gapS s)
def splitS (s:List UInt8):List W × ErrV :=
 if s.length > 60000 then ([],.placed 5 60000) else match splitW s with
  | (ws,none)=>(ws,.none)
  | (_,some p)=>([],.placed 0 p)
def GlWo (Gl:qzh):Prop:=qzf Gl 0=some [erP 0]∧qzf Gl 10=some [erP 5]
attribute [local go_sem] erP atV cW t_p_api_At
end
end Go.VL.Wo
namespace Go.VL.Wo
open Go.FR Go.IR Go.VL Go.VL.Er
noncomputable section
set_option maxRecDepth 100000
set_option maxHeartbeats 1000000
attribute [local go_sem] erP atV cW t_p_api_At t_p_errors_errorString
end
end Go.VL.Wo
namespace Go.VL.Nu
open Go.FR Go.IR Go.VL Go.VL.Er Go.VL.Wo
noncomputable section
set_option maxRecDepth 100000
set_option maxHeartbeats 1000000
attribute [local go_sem] erP t_p_api_At
theorem first9_ok {Gl:qzh} (hp:GlPow Gl):qzg Go.VL.Er.E Gl f_glyphiclaw9_first [] (.bool true):=by
 refine qzd (qzc E_glyphiclaw9_first ?_)
 unfold c_glyphiclaw9_first r_glyphiclaw9_first
 simp only [qzi]
 have k1:=show_ok hp 1500000 (by omega) (by omega)
 have k2:=show_ok hp (-1) (by omega) (by omega)
 rw [show showN 1500000=[49,46,53] by decide +kernel] at k1
 rw [show showN (-1)=[45,48,46,48,48,48,48,48,49] by decide +kernel] at k2
 have e1:(([49,46,53]:List UInt8) == [49,46,53])=true:=rfl
 have e2:(([45,48,46,48,48,48,48,48,49]:List UInt8) == [45,48,46,48,48,48,48,48,49])=true:=rfl
 simp only [simprocAttr,-Int.reduceNatCast',go_sem]
 refine qzb k1 rfl rfl ?_
 simp only [simprocAttr,-Int.reduceNatCast',go_sem,strBin,e1]
 refine qzb k2 rfl rfl ?_
 simp only [simprocAttr,-Int.reduceNatCast',go_sem,strBin,e2]
 exact qza rfl
end
end Go.VL.Nu
