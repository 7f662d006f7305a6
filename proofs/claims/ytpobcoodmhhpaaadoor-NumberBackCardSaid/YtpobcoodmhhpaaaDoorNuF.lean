/- A number as a text. -/
import Derived.Test.YtpobcoodmhhpaaaDoorVlK
import Derived.Test.YtpobcoodmhhpaaaDoorNuE
set_option linter.unusedSimpArgs false
set_option linter.unusedVariables false
namespace Go.VL.Nu
open Go.FR Go.IR Go.VL Go.VL.Er Go.VL.Wo
noncomputable section
set_option maxRecDepth 100000
set_option maxHeartbeats 1000000
def decF:Nat→Nat→List UInt8
 | 0,_=>[]
 | f+1,u=>if u < 10 then [dg u] else decF f (u / 10)++[dg (u % 10)]
def decS (u:Nat):List UInt8:=decF 20 u
theorem decF_s (f u:Nat):decF (f+1) u=if u < 10 then [dg u] else decF f (u / 10)++[dg (u % 10)]:=rfl
theorem dec1 {u:Nat} (h:u < 10):decS u=[dg u]:=by
 unfold decS;rw [decF_s,if_pos h]
theorem dec2 {u:Nat} (h1:10≤u) (h2:u < 100):decS u=[dg (u / 10),dg (u % 10)]:=by
 unfold decS;rw [decF_s,if_neg (by omega),decF_s,if_pos (by omega)];rfl
theorem dec3 {u:Nat} (h1:100≤u) (h2:u < 1000):decS u=[dg (u / 100 % 10),dg (u / 10 % 10),dg (u % 10)]:=by
 unfold decS
 rw [decF_s,if_neg (by omega),decF_s,if_neg (by omega),decF_s,if_pos (by omega)]
 rw [show u / 10 / 10=u / 100 % 10 by omega,show u / 10 % 10=u / 10 % 10 by omega]
 rfl
theorem dec4 {u:Nat} (h1:1000≤u) (h2:u < 10000):decS u=[dg (u / 1000 % 10),dg (u / 100 % 10),dg (u / 10 % 10),dg (u % 10)]:=by
 unfold decS
 rw [decF_s,if_neg (by omega),decF_s,if_neg (by omega),decF_s,if_neg (by omega),decF_s,if_pos (by omega)]
 rw [show u / 10 / 10 / 10=u / 1000 % 10 by omega,show u / 10 / 10 % 10=u / 100 % 10 by omega,show u / 10 % 10=u / 10 % 10 by omega]
 rfl
theorem dec5 {u:Nat} (h1:10000≤u) (h2:u < 100000):decS u=[dg (u / 10000 % 10),dg (u / 1000 % 10),dg (u / 100 % 10),dg (u / 10 % 10),dg (u % 10)]:=by
 unfold decS
 rw [decF_s,if_neg (by omega),decF_s,if_neg (by omega),decF_s,if_neg (by omega),decF_s,if_neg (by omega),decF_s,if_pos (by omega)]
 rw [show u / 10 / 10 / 10 / 10=u / 10000 % 10 by omega,show u / 10 / 10 / 10 % 10=u / 1000 % 10 by omega,show u / 10 / 10 % 10=u / 100 % 10 by omega,show u / 10 % 10=u / 10 % 10 by omega]
 rfl
theorem dec6 {u:Nat} (h1:100000≤u) (h2:u < 1000000):decS u=[dg (u / 100000 % 10),dg (u / 10000 % 10),dg (u / 1000 % 10),dg (u / 100 % 10),dg (u / 10 % 10),dg (u % 10)]:=by
 unfold decS
 rw [decF_s,if_neg (by omega),decF_s,if_neg (by omega),decF_s,if_neg (by omega),decF_s,if_neg (by omega),decF_s,if_neg (by omega),decF_s,if_pos (by omega)]
 rw [show u / 10 / 10 / 10 / 10 / 10=u / 100000 % 10 by omega,show u / 10 / 10 / 10 / 10 % 10=u / 10000 % 10 by omega,show u / 10 / 10 / 10 % 10=u / 1000 % 10 by omega,show u / 10 / 10 % 10=u / 100 % 10 by omega,show u / 10 % 10=u / 10 % 10 by omega]
 rfl
theorem dec7 {u:Nat} (h1:1000000≤u) (h2:u < 10000000):decS u=[dg (u / 1000000 % 10),dg (u / 100000 % 10),dg (u / 10000 % 10),dg (u / 1000 % 10),dg (u / 100 % 10),dg (u / 10 % 10),dg (u % 10)]:=by
 unfold decS
 rw [decF_s,if_neg (by omega),decF_s,if_neg (by omega),decF_s,if_neg (by omega),decF_s,if_neg (by omega),decF_s,if_neg (by omega),decF_s,if_neg (by omega),decF_s,if_pos (by omega)]
 rw [show u / 10 / 10 / 10 / 10 / 10 / 10=u / 1000000 % 10 by omega,show u / 10 / 10 / 10 / 10 / 10 % 10=u / 100000 % 10 by omega,show u / 10 / 10 / 10 / 10 % 10=u / 10000 % 10 by omega,show u / 10 / 10 / 10 % 10=u / 1000 % 10 by omega,show u / 10 / 10 % 10=u / 100 % 10 by omega,show u / 10 % 10=u / 10 % 10 by omega]
 rfl
attribute [local go_sem] erP t_p_api_At
theorem small_ok (Gl:qzg) (u:Nat) (h:u < 100):qzh Go.VL.Er.E Gl f_internal_strconv_small [.int .i64 (u:Int)] (.str (decS u)):=by
 refine qze (qzc E_internal_strconv_small ?_)
 unfold c_internal_strconv_small r_internal_strconv_small
 simp only [qzi]
 by_cases h1:u < 10
 ·have c:(u:Int) < 10:=by omega
  rw [dec1 h1]
  obtain ⟨k1,k2⟩:=dg_cut h1
  have w:IntKind.i64.wrap ((u:Int)+1)=((u+1:Nat):Int):=by rw [qzd (by omega) (by omega)];rfl
  have b:u+1≤36:=k2
  have bb:u≤u+1:=by omega
  have e:u+1 - u=1:=by omega
  simp only [dgT] at k1
  simp only [simprocAttr,-Int.reduceNatCast',go_sem,c,w,natOf_n,b,bb,e,k1]
  exact qza rfl
 ·have c:¬(u:Int) < 10:=by omega
  rw [dec2 (by omega) h]
  obtain ⟨k1,k2⟩:=sm_cut h
  have w:IntKind.i64.wrap ((u:Int)*2)=((2*u:Nat):Int):=by rw [qzd (by omega) (by omega)];omega
  have w2:IntKind.i64.wrap (((2*u:Nat):Int)+2)=((2*u+2:Nat):Int):=by rw [qzd (by omega) (by omega)];rfl
  have b:2*u+2≤200:=k2
  have bb:2*u≤2*u+2:=by omega
  have e:2*u+2 - 2*u=2:=by omega
  have m:u % 10 < 10:=by omega
  rw [show (u / 10)=u / 10 from rfl] at k1
  simp only [smT] at k1
  simp only [simprocAttr,-Int.reduceNatCast',go_sem,c,w,w2,natOf_n,b,bb,e,k1]
  exact qza rfl
theorem fmtI_ok {Gl:qzg} (hp:GlPow Gl) (u:Nat) (h:u < 10000000):qzh Go.VL.Er.E Gl f_internal_strconv_FormatInt [.int .i64 (u:Int),.int .i64 10] (.str (decS u)):=by
 refine qze (qzc E_internal_strconv_FormatInt ?_)
 unfold c_internal_strconv_FormatInt r_internal_strconv_FormatInt
 simp only [qzi]
 have p0:(0:Int)≤(u:Int):=by omega
 by_cases h1:u < 100
 ·have c:(u:Int) < 100:=by omega
  simp only [simprocAttr,-Int.reduceNatCast',go_sem,p0,c]
  refine qzb (small_ok Gl u h1) rfl rfl ?_
  simp only [simprocAttr,-Int.reduceNatCast',go_sem]
  exact qza rfl
 have c:¬(u:Int) < 100:=by omega
 have c0:¬(u:Int) < 0:=by omega
 have wu:IntKind.u64.wrap (u:Int)=u:=wrap_u64n (by omega)
 have kd:=numDigits_ok hp u (by omega) h
 have z1:qzj (.int .i64 1)=some 1:=rfl
 have r:(100≤u∧u < 1000)∨(1000≤u∧u < 10000)∨(10000≤u∧u < 100000)∨(100000≤u∧u < 1000000)∨(1000000≤u∧u < 10000000):=by omega
 simp only [simprocAttr,-Int.reduceNatCast',go_sem,p0,c,wu,c0]
 refine qzb kd rfl rfl ?_
 rcases r with r | r | r | r | r
 ·have e:ndS u=3:=by unfold ndS;(repeat' split)<;>omega
  rw [e,dec3 r.1 r.2]
  have w1:IntKind.i64.wrap (1+((3:Nat):Int))=((4:Nat):Int):=rfl
  simp only [simprocAttr,-Int.reduceNatCast',go_sem,w1,z1,natV_nat]
  refine call_st1 (fb3 Gl u 0 r.1 r.2) (by first | rfl | (simp only [simprocAttr,-Int.reduceNatCast',go_sem];rfl)) rfl rfl ?_
  simp only [simprocAttr,-Int.reduceNatCast',go_sem,c0,w1,z1,natV_nat,Int.toNat_natCast,UInt8.ofNat_toNat,bytesV]
  exact qza rfl
 ·have e:ndS u=4:=by unfold ndS;(repeat' split)<;>omega
  rw [e,dec4 r.1 r.2]
  have w1:IntKind.i64.wrap (1+((4:Nat):Int))=((5:Nat):Int):=rfl
  simp only [simprocAttr,-Int.reduceNatCast',go_sem,w1,z1,natV_nat]
  refine call_st1 (fb4 Gl u 0 r.1 r.2) (by first | rfl | (simp only [simprocAttr,-Int.reduceNatCast',go_sem];rfl)) rfl rfl ?_
  simp only [simprocAttr,-Int.reduceNatCast',go_sem,c0,w1,z1,natV_nat,Int.toNat_natCast,UInt8.ofNat_toNat,bytesV]
  exact qza rfl
 ·have e:ndS u=5:=by unfold ndS;(repeat' split)<;>omega
  rw [e,dec5 r.1 r.2]
  have w1:IntKind.i64.wrap (1+((5:Nat):Int))=((6:Nat):Int):=rfl
  simp only [simprocAttr,-Int.reduceNatCast',go_sem,w1,z1,natV_nat]
  refine call_st1 (fb5 Gl u 0 r.1 r.2) (by first | rfl | (simp only [simprocAttr,-Int.reduceNatCast',go_sem];rfl)) rfl rfl ?_
  simp only [simprocAttr,-Int.reduceNatCast',go_sem,c0,w1,z1,natV_nat,Int.toNat_natCast,UInt8.ofNat_toNat,bytesV]
  exact qza rfl
 ·have e:ndS u=6:=by unfold ndS;(repeat' split)<;>omega
  rw [e,dec6 r.1 r.2]
  have w1:IntKind.i64.wrap (1+((6:Nat):Int))=((7:Nat):Int):=rfl
  simp only [simprocAttr,-Int.reduceNatCast',go_sem,w1,z1,natV_nat]
  refine call_st1 (fb6 Gl u 0 r.1 r.2) (by first | rfl | (simp only [simprocAttr,-Int.reduceNatCast',go_sem];rfl)) rfl rfl ?_
  simp only [simprocAttr,-Int.reduceNatCast',go_sem,c0,w1,z1,natV_nat,Int.toNat_natCast,UInt8.ofNat_toNat,bytesV]
  exact qza rfl
 ·have e:ndS u=7:=by unfold ndS;(repeat' split)<;>omega
  rw [e,dec7 r.1 r.2]
  have w1:IntKind.i64.wrap (1+((7:Nat):Int))=((8:Nat):Int):=rfl
  simp only [simprocAttr,-Int.reduceNatCast',go_sem,w1,z1,natV_nat]
  refine call_st1 (fb7 Gl u 0 r.1 r.2) (by first | rfl | (simp only [simprocAttr,-Int.reduceNatCast',go_sem];rfl)) rfl rfl ?_
  simp only [simprocAttr,-Int.reduceNatCast',go_sem,c0,w1,z1,natV_nat,Int.toNat_natCast,UInt8.ofNat_toNat,bytesV]
  exact qza rfl
theorem fmt_ok {Gl:qzg} (hp:GlPow Gl) (u:Nat) (h:u < 10000000):qzh Go.VL.Er.E Gl f_strconv_FormatInt [.int .i64 (u:Int),.int .i64 10] (.str (decS u)):=by
 refine qze (qzc E_strconv_FormatInt ?_)
 unfold c_strconv_FormatInt r_strconv_FormatInt
 simp only [qzi]
 simp only [simprocAttr,-Int.reduceNatCast',go_sem]
 refine qzb (fmtI_ok hp u h) rfl rfl ?_
 simp only [simprocAttr,-Int.reduceNatCast',go_sem]
 exact qza rfl
end
end Go.VL.Nu
