/- How many digits a number has. -/
import Derived.Test.YtlgkadhogiedoaaDoorVlK
import Derived.Test.YtlgkadhogiedoaaDoorNuB
set_option linter.unusedSimpArgs false
set_option linter.unusedVariables false
namespace Go.VL.Nu
open Go.FR Go.IR Go.VL Go.VL.Er Go.VL.Wo
noncomputable section
set_option maxRecDepth 100000
set_option maxHeartbeats 1000000
def len8:List UInt8:=[0,1,2,2,3,3,3,3,4,4,4,4,4,4,4,4,5,5,5,5,5,5,5,5,5,5,5,5,5,5,5,5,6,6,6,6,6,6,6,6,6,6,6,6,6,6,6,6,6,6,6,6,6,6,6,6,6,6,6,6,6,6,6,6,7,7,7,7,7,7,7,7,7,7,7,7,7,7,7,7,7,7,7,7,7,7,7,7,7,7,7,7,7,7,7,7,7,7,7,7,7,7,7,7,7,7,7,7,7,7,7,7,7,7,7,7,7,7,7,7,7,7,7,7,7,7,7,7,8,8,8,8,8,8,8,8,8,8,8,8,8,8,8,8,8,8,8,8,8,8,8,8,8,8,8,8,8,8,8,8,8,8,8,8,8,8,8,8,8,8,8,8,8,8,8,8,8,8,8,8,8,8,8,8,8,8,8,8,8,8,8,8,8,8,8,8,8,8,8,8,8,8,8,8,8,8,8,8,8,8,8,8,8,8,8,8,8,8,8,8,8,8,8,8,8,8,8,8,8,8,8,8,8,8,8,8,8,8,8,8,8,8,8,8,8,8,8,8,8,8,8,8,8,8,8,8]
def powTab:List VV:=(List.range 20).map fun n=>VV.int .u64 ((10 ^ n:Nat):Int)
def powZ:List Int:=(List.range 20).map fun n=>((10 ^ n:Nat):Int)
def GlPow (Gl:qzh):Prop:=qzf Gl g_uint64pow10=some powTab
theorem len8_at:∀ k:Fin 256,∃ b:Fin 9,len8[k.val]?=some (UInt8.ofNat b.val)∧(k.val=0∧b.val=0∨2 ^ (b.val - 1)≤k.val∧k.val < 2 ^ b.val∧1≤b.val):=by decide +kernel
theorem nt8:∀ b:Fin 9,(UInt8.ofNat b.val).toNat=b.val:=by decide
theorem wrap_u64n {n:Nat} (h:n < 18446744073709551616):IntKind.u64.wrap (n:Int)=n:=by
 show (n:Int) % 18446744073709551616=n
 omega
theorem wrap_u32n {n:Nat} (h:n < 4294967296):IntKind.u32.wrap (n:Int)=n:=by
 show (n:Int) % 4294967296=n
 omega
theorem wrap_u8n {n:Nat} (h:n < 256):IntKind.u8.wrap (n:Int)=n:=by
 show (n:Int) % 256=n
 omega
attribute [local go_sem] erP t_p_api_At iAddrAV
theorem len64_ok (Gl:qzh) (u:Nat) (hu:u < 16777216):∃ n,qzg Go.VL.Er.E Gl f_math_bits_Len64 [.int .u64 (u:Int)] (.int .i64 ((n:Nat):Int))∧(u=0∧n=0∨2 ^ (n - 1)≤u∧u < 2 ^ n∧1≤n)∧n≤24:=by
 have c0:¬((u:Int) ≥ 4294967296):=by omega
 by_cases a:u < 65536
 ·have c1:¬((u:Int) ≥ 65536):=by omega
  by_cases b:u < 256
  ·have c2:¬((u:Int) ≥ 256):=by omega
   obtain ⟨⟨n,hn⟩,k1,k2⟩:=len8_at ⟨u,b⟩
   simp only at k1 k2
   refine ⟨n,?_,k2,by omega⟩
   refine qzd (qzc E_math_bits_Len64 ?_)
   unfold c_math_bits_Len64 r_math_bits_Len64
   simp only [qzi]
   have w1:IntKind.u8.wrap (u:Int)=u:=wrap_u8n b
   simp only [len8] at k1
   have nt:(UInt8.ofNat n).toNat=n:=nt8 ⟨n,hn⟩
   have w2:IntKind.i64.wrap (n:Int)=n:=qze (by omega) (by omega)
   have w3:IntKind.i64.wrap (0+(n:Int))=n:=by rw [qze (by omega) (by omega)];omega
   simp only [simprocAttr,-Int.reduceNatCast',go_sem,c0,c1,c2,w1,natOf_n,k1,nt,w2,w3]
   exact qza rfl
  ·have c2:((u:Int) ≥ 256):=by omega
   obtain ⟨⟨n,hn⟩,k1,k2⟩:=len8_at ⟨u / 256,by omega⟩
   simp only at k1 k2
   have h8:n=1∨n=2∨n=3∨n=4∨n=5∨n=6∨n=7∨n=8:=by omega
   refine ⟨8+n,?_,.inr ?_,by omega⟩
   ·refine qzd (qzc E_math_bits_Len64 ?_)
    unfold c_math_bits_Len64 r_math_bits_Len64
    simp only [qzi]
    have sh:abin .shr (.int .u64 (u:Int)) (.int .u64 8)=some (.int .u64 ((u / 256:Nat):Int)):=by
     show some (AV.int .u64 (Int.fdiv (u:Int) 256))=_
     rw [Int.fdiv_eq_ediv_of_nonneg _ (by omega)];rfl
    have w1:IntKind.u8.wrap ((u / 256:Nat):Int)=((u / 256:Nat):Int):=wrap_u8n (by omega)
    simp only [len8] at k1
    have nt:(UInt8.ofNat n).toNat=n:=nt8 ⟨n,hn⟩
    have w2:IntKind.i64.wrap (n:Int)=n:=qze (by omega) (by omega)
    have w8:IntKind.i64.wrap (0+8)=8:=rfl
    have w3:IntKind.i64.wrap (8+(n:Int))=((8+n:Nat):Int):=by rw [qze (by omega) (by omega)];omega
    simp only [simprocAttr,-Int.reduceNatCast',go_sem,c0,c1,c2,↓sh,w1,natOf_n,k1,nt,w2,↓w8,w3]
    exact qza rfl
   ·rcases h8 with rfl | rfl | rfl | rfl | rfl | rfl | rfl | rfl<;>simp only [Nat.reduceSub,Nat.reduceAdd,Nat.reducePow] at k2 ⊢<;>omega
 ·have c1:((u:Int) ≥ 65536):=by omega
  have c2:¬(((u / 65536:Nat):Int) ≥ 256):=by omega
  obtain ⟨⟨n,hn⟩,k1,k2⟩:=len8_at ⟨u / 65536,by omega⟩
  simp only at k1 k2
  have h8:n=1∨n=2∨n=3∨n=4∨n=5∨n=6∨n=7∨n=8:=by omega
  refine ⟨16+n,?_,.inr ?_,by omega⟩
  ·refine qzd (qzc E_math_bits_Len64 ?_)
   unfold c_math_bits_Len64 r_math_bits_Len64
   simp only [qzi]
   have sh:abin .shr (.int .u64 (u:Int)) (.int .u64 16)=some (.int .u64 ((u / 65536:Nat):Int)):=by
    show some (AV.int .u64 (Int.fdiv (u:Int) 65536))=_
    rw [Int.fdiv_eq_ediv_of_nonneg _ (by omega)];rfl
   have w1:IntKind.u8.wrap ((u / 65536:Nat):Int)=((u / 65536:Nat):Int):=wrap_u8n (by omega)
   simp only [len8] at k1
   have nt:(UInt8.ofNat n).toNat=n:=nt8 ⟨n,hn⟩
   have w2:IntKind.i64.wrap (n:Int)=n:=qze (by omega) (by omega)
   have w8:IntKind.i64.wrap (0+16)=16:=rfl
   have w3:IntKind.i64.wrap (16+(n:Int))=((16+n:Nat):Int):=by rw [qze (by omega) (by omega)];omega
   simp only [simprocAttr,-Int.reduceNatCast',go_sem,c0,c1,c2,↓sh,w1,natOf_n,k1,nt,w2,↓w8,w3]
   exact qza rfl
  ·rcases h8 with rfl | rfl | rfl | rfl | rfl | rfl | rfl | rfl<;>simp only [Nat.reduceSub,Nat.reduceAdd,Nat.reducePow] at k2 ⊢<;>omega
def ndS (u:Nat):Nat:=if u < 10 then 1 else if u < 100 then 2 else if u < 1000 then 3 else if u < 10000 then 4 else if u < 100000 then 5 else if u < 1000000 then 6 else 7
theorem log10_ok (Gl:qzh) (n:Nat) (hn:n≤24):qzg Go.VL.Er.E Gl f_internal_strconv_log10Pow2 [.int .i64 (n:Int)] (.int .i64 ((n*78913 / 262144:Nat):Int)):=by
 refine qzd (qzc E_internal_strconv_log10Pow2 ?_)
 unfold c_internal_strconv_log10Pow2 r_internal_strconv_log10Pow2
 simp only [qzi]
 have w1:IntKind.i64.wrap ((n:Int)*78913)=((n*78913:Nat):Int):=by rw [qze (by omega) (by omega)];omega
 have sh:abin .shr (.int .i64 ((n*78913:Nat):Int)) (.int .u64 18)=some (.int .i64 ((n*78913 / 262144:Nat):Int)):=by
  show some (AV.int .i64 (Int.fdiv ((n*78913:Nat):Int) 262144))=_
  rw [Int.fdiv_eq_ediv_of_nonneg _ (by omega)];rfl
 simp only [simprocAttr,-Int.reduceNatCast',go_sem,w1,↓sh]
 exact qza rfl
theorem bool2_ok (Gl:qzh) (b:Bool):qzg Go.VL.Er.E Gl f_internal_strconv_bool2__int [.bool b] (.int .i64 (if b=true then 1 else 0)):=by
 refine qzd (qzc E_internal_strconv_bool2__int ?_)
 unfold c_internal_strconv_bool2__int r_internal_strconv_bool2__int
 simp only [qzi]
 cases b
 ·simp only [simprocAttr,-Int.reduceNatCast',go_sem]
  exact qza rfl
 ·simp only [simprocAttr,-Int.reduceNatCast',go_sem]
  exact qza rfl
theorem pow_in {u n a b:Nat} (h:2 ^ (n - 1)≤u∧u < 2 ^ n) (h1:a≤n - 1) (h2:n≤b):2 ^ a≤u∧u < 2 ^ b :=
 ⟨Nat.le_trans (Nat.pow_le_pow_right (by omega) h1) h.1,Nat.lt_of_lt_of_le h.2 (Nat.pow_le_pow_right (by omega) h2)⟩
theorem nd_put {u n d:Nat} (p:Nat) (h:n*78913 / 262144=d) (hd:d < 20) (ht:powTab[d]?=some (.int .u64 (p:Int))) (hn:d+(if p≤u then 1 else 0)=ndS u) :
  ∃ (d p:Nat) (b:Bool),n*78913 / 262144=d∧d < 20∧powTab[d]?=some (.int .u64 (p:Int))∧decide ((u:Int) ≥ (p:Int))=b∧d+(if b=true then 1 else 0)=ndS u:=by
 refine ⟨d,p,decide (p≤u),h,hd,ht,?_,?_⟩
 ·congr 1;exact propext ⟨fun h=>by omega,fun h=>by omega⟩
 ·rw [←hn]
  by_cases q:p≤u
  ·rw [decide_eq_true q,if_pos rfl,if_pos q]
  ·rw [decide_eq_false q,if_neg (by simp),if_neg q]
theorem nd_key {u n:Nat} (h:u=0∧n=0∨2 ^ (n - 1)≤u∧u < 2 ^ n∧1≤n) (h0:1≤u) (hu:u < 10000000) (h24:n≤24) :
  ∃ (d p:Nat) (b:Bool),n*78913 / 262144=d∧d < 20∧powTab[d]?=some (.int .u64 (p:Int))∧decide ((u:Int) ≥ (p:Int))=b∧d+(if b=true then 1 else 0)=ndS u:=by
 have h:2 ^ (n - 1)≤u∧u < 2 ^ n∧1≤n:=by omega
 have hb:2 ^ (n - 1)≤u∧u < 2 ^ n:=⟨h.1,h.2.1⟩
 have h1:=h.2.2
 clear h
 have r:n≤3∨(4≤n∧n≤6)∨(7≤n∧n≤9)∨(10≤n∧n≤13)∨(14≤n∧n≤16)∨(17≤n∧n≤19)∨(20≤n∧n≤23)∨n=24:=by omega
 rcases r with r | r | r | r | r | r | r | r
 ·have q:=pow_in (a:=0) (b:=3) hb (by omega) (by omega)
  simp only [Nat.reducePow] at q;clear hb
  exact nd_put 1 (show n*78913 / 262144=0 by omega) (by omega) rfl (by unfold ndS;(repeat' split)<;>omega)
 ·have q:=pow_in (a:=3) (b:=6) hb (by omega) (by omega)
  simp only [Nat.reducePow] at q;clear hb
  exact nd_put 10 (show n*78913 / 262144=1 by omega) (by omega) rfl (by unfold ndS;(repeat' split)<;>omega)
 ·have q:=pow_in (a:=6) (b:=9) hb (by omega) (by omega)
  simp only [Nat.reducePow] at q;clear hb
  exact nd_put 100 (show n*78913 / 262144=2 by omega) (by omega) rfl (by unfold ndS;(repeat' split)<;>omega)
 ·have q:=pow_in (a:=9) (b:=13) hb (by omega) (by omega)
  simp only [Nat.reducePow] at q;clear hb
  exact nd_put 1000 (show n*78913 / 262144=3 by omega) (by omega) rfl (by unfold ndS;(repeat' split)<;>omega)
 ·have q:=pow_in (a:=13) (b:=16) hb (by omega) (by omega)
  simp only [Nat.reducePow] at q;clear hb
  exact nd_put 10000 (show n*78913 / 262144=4 by omega) (by omega) rfl (by unfold ndS;(repeat' split)<;>omega)
 ·have q:=pow_in (a:=16) (b:=19) hb (by omega) (by omega)
  simp only [Nat.reducePow] at q;clear hb
  exact nd_put 100000 (show n*78913 / 262144=5 by omega) (by omega) rfl (by unfold ndS;(repeat' split)<;>omega)
 ·have q:=pow_in (a:=19) (b:=23) hb (by omega) (by omega)
  simp only [Nat.reducePow] at q;clear hb
  exact nd_put 1000000 (show n*78913 / 262144=6 by omega) (by omega) rfl (by unfold ndS;(repeat' split)<;>omega)
 ·have q:=pow_in (a:=23) (b:=24) hb (by omega) (by omega)
  simp only [Nat.reducePow] at q;clear hb
  exact nd_put 10000000 (show n*78913 / 262144=7 by omega) (by omega) rfl (by unfold ndS;(repeat' split)<;>omega)
theorem numDigits_ok {Gl:qzh} (hp:GlPow Gl) (u:Nat) (h0:1≤u) (hu:u < 10000000):qzg Go.VL.Er.E Gl f_internal_strconv_numDigits [.int .u64 (u:Int)] (.int .i64 ((ndS u:Nat):Int)):=by
 obtain ⟨n,k1,k2,k3⟩:=len64_ok Gl u (by omega)
 have gp:qzf Gl g_uint64pow10=some powTab:=hp
 simp only [g_uint64pow10] at gp
 have key:=nd_key k2 h0 hu k3
 obtain ⟨d,p,b,e1,e2,e3,e4,e5⟩:=key
 have k4:=log10_ok Gl n k3
 rw [e1] at k4
 refine qzd (qzc E_internal_strconv_numDigits ?_)
 unfold c_internal_strconv_numDigits r_internal_strconv_numDigits
 simp only [qzi]
 have w:IntKind.i64.wrap ((d:Int)+(if b=true then 1 else 0))=((ndS u:Nat):Int):=by
  rw [←e5]
  cases b
  ·simp only [Bool.false_eq_true,if_false];rw [qze (by omega) (by omega)];omega
  ·simp only [if_true];rw [qze (by omega) (by omega)];omega
 simp only [simprocAttr,-Int.reduceNatCast',go_sem]
 refine qzb k1 rfl rfl ?_
 simp only [simprocAttr,-Int.reduceNatCast',go_sem]
 refine qzb k4 rfl rfl ?_
 simp only [simprocAttr,-Int.reduceNatCast',go_sem,natV_nat,e2,Nat.mul_one,gp,g_uint64pow10,e3,e4]
 refine qzb (bool2_ok Gl b) rfl rfl ?_
 simp only [simprocAttr,-Int.reduceNatCast',go_sem,w]
 exact qza rfl
end
end Go.VL.Nu
