import Derived.Test.YtbamfhdgikeneaaDoorVlK
import Derived.Test.YtbamfhdgikeneaaDoorWrA
import Derived.Test.YtbamfhdgikeneaaDoorVlI
import Derived.Test.YtbamfhdgikeneaaDoorIrA
set_option linter.unusedSimpArgs false
set_option linter.unusedVariables false
namespace Go.VL.Wire
open Go.FR Go.IR Go.VL Go.VL.Er
noncomputable section
set_option maxRecDepth 100000
set_option maxHeartbeats 1000000
inductive Got where
 | short
 | varint
 | got (n k:Nat)
def getL:List Nat→Nat→Nat→Got
 | [],_,_ => .short
 | x::r,k,n=>if (k=9∧1 < x)∨(x=0∧0 < k) then .varint else if x < 128 then .got (n+x*128 ^ k) (k+1) else getL r (k+1) (n+(x % 128)*128 ^ k)
theorem flat1_at {l:List Nat} {k x:Nat} (h:l[k]?=some x):(qzg cB l)[k]?=some (.int .u8 (x:Int)):=by
 have:=part_flat1 cB_len h (q:=0) (by omega)
 simp only [partV,Nat.mul_one,Nat.add_zero] at this
 rw [this];rfl
theorem or_add {n y k:Nat} (hn:n < 2 ^ k) (h:y*2 ^ k+n < 18446744073709551616):IntKind.u64.wrap ((BitVec.ofInt IntKind.u64.bits (n:Int) ||| BitVec.ofInt IntKind.u64.bits ((y*2 ^ k:Nat):Int)).toNat:Int)=((n+y*2 ^ k:Nat):Int):=by
 show IntKind.u64.wrap ((BitVec.ofInt 64 (n:Int) ||| BitVec.ofInt 64 ((y*2 ^ k:Nat):Int)).toNat:Int)=_
 rw [BitVec.toNat_or,BitVec.toNat_ofInt,BitVec.toNat_ofInt,wrap_u64]
 have e1:((n:Int) % ((2 ^ 64:Nat):Int)).toNat=n:=by omega
 have e2:(((y*2 ^ k:Nat):Int) % ((2 ^ 64:Nat):Int)).toNat=y*2 ^ k:=by omega
 rw [e1,e2,Nat.or_comm]
 have:=Nat.shiftLeft_add_eq_or_of_lt hn y
 rw [Nat.shiftLeft_eq] at this
 rw [←this]
 omega
theorem step_or {n x k:Nat} (hk:k≤9) (hx:x < 128) (h9:k=9→x≤1) (hn:n < 128 ^ k):IntKind.u64.wrap ((BitVec.ofInt IntKind.u64.bits (n:Int) ||| BitVec.ofInt IntKind.u64.bits (IntKind.u64.wrap ((x:Int)*2 ^ min ((7*k:Nat):Int).toNat IntKind.u64.bits))).toNat:Int)=((n+x*128 ^ k:Nat):Int)∧n+x*128 ^ k < 18446744073709551616∧(k < 9→n+x*128 ^ k < 128 ^ (k+1)):=by
 have hp:128 ^ k=2 ^ (7*k):=by rw [show (128:Nat)=2 ^ 7 by rfl,←Nat.pow_mul]
 have hk9:k=0∨k=1∨k=2∨k=3∨k=4∨k=5∨k=6∨k=7∨k=8∨k=9:=by omega
 have hb:x*128 ^ k+n < 18446744073709551616∧(k < 9→n+x*128 ^ k < 128 ^ (k+1)):=by
  rcases hk9 with rfl | rfl | rfl | rfl | rfl | rfl | rfl | rfl | rfl | rfl<;>simp only [Nat.reducePow,Nat.reduceAdd] at hn ⊢<;>omega
 have hm:min ((7*k:Nat):Int).toNat IntKind.u64.bits=7*k:=by
  show min ((7*k:Nat):Int).toNat 64=7*k
  rw [Int.toNat_natCast];omega
 rw [hp] at hn
 rw [hm]
 rw [hp] at hb ⊢
 have hc:((x:Int)*2 ^ (7*k))=((x*2 ^ (7*k):Nat):Int):=by simp
 have hw:IntKind.u64.wrap ((x*2 ^ (7*k):Nat):Int)=((x*2 ^ (7*k):Nat):Int):=by
  rw [wrap_u64];omega
 rw [hc,hw]
 exact ⟨or_add hn hb.1,by omega,hb.2⟩
theorem clr (x:Nat) (h:x < 256):IntKind.u64.wrap (IntKind.u8.wrap ((BitVec.ofInt IntKind.u8.bits (x:Int) &&& ~~~ (BitVec.ofInt IntKind.u8.bits 128)).toNat:Int))=((x % 128:Nat):Int):=by
 have key:∀ x:Fin 256,IntKind.u64.wrap (IntKind.u8.wrap ((BitVec.ofInt IntKind.u8.bits ((x.val:Nat):Int) &&& ~~~ (BitVec.ofInt IntKind.u8.bits 128)).toNat:Int))=((x.val % 128:Nat):Int):=by decide +kernel
 exact key ⟨x,h⟩
structure GotS where
 n:Nat
 k:Int
 e:ErrV
def getS (bs:List Nat) (at_:Int):GotS :=
 if at_ < 0∨(bs.length:Int) < at_ then ⟨0,0,.placed 6 at_⟩ else match getL (bs.drop at_.toNat) 0 0 with
  | .short=>⟨0,0,.placed 6 at_⟩
  | .varint=>⟨0,0,.placed 8 at_⟩
  | .got n k=>⟨n,at_+k,.none⟩
def GotS.v (g:GotS):VV := .tuple [.int .u64 (g.n:Int),.int .i64 g.k,g.e.v]
attribute [local go_sem] cB erP t_p_api_At t_p_errors_errorString
theorem get_loop {Gl:qzj} (hG:GlAll Gl) (l:List Nat) (hl:l.length < 100000) (hb:∀ x∈l,x < 256) (at_:Nat) (ha:at_ < 100000) (R:Got) (K:AEx→VF→VH→Prop)
  (hK0:∀ T h,R = .short→qza T 1=some (.int .i64 at_)→h=h0→K (.exit 0) T h)
  (hK1:∀ T h,R = .varint→qza T 4=some (.int .u64 0)→qza T 5=some (.int .i64 0)→qza T 6=some (.iface t_p_api_At (.ptr 0 0))→h=⟨[(0,some (.cells [.int .i64 at_,erP 8] false))],1⟩→K .ret T h)
  (hK2:∀ T h n k,R = .got n k→qza T 4=some (.int .u64 n)→qza T 5=some (.int .i64 ((at_:Int)+k))→qza T 6=some .nilI→h=h0→K .ret T h) :
  ∀ (d k n:Nat) (T:VF),d+k=l.length→k≤9→n < 128 ^ k→getL (l.drop k) k n=R→qza T 1=some (.int .i64 at_)→qza T 7=some (.int .u64 n)→qza T 26=some (.fsl (qzg cB l) l.length 1)→qza T 27=some (.int .i64 l.length)→qza T 28=some (.int .i64 k) →
   wp Go.VL.Wire.E Gl (.loop c_wire_Get_l0) T h0 K:=by
 intro d
 induction d with
 | zero =>
  intro k n T hd hk9 hn hR t1 t7 t26 t27 t28
  obtain rfl:k=l.length:=by omega
  refine qzi c_wire_Get_l0.eq_1 ?_
  simp only [simprocAttr,-Int.reduceNatCast',go_sem,t27,t28,Int.lt_irrefl]
  refine hK0 _ _ ?_ ?_ rfl
  ·rw [←hR,List.drop_length];rfl
  ·simp only [simprocAttr,-Int.reduceNatCast',go_sem,t1]
 | succ d ih =>
  intro k n T hd hk9 hn hR t1 t7 t26 t27 t28
  refine qzi c_wire_Get_l0.eq_1 ?_
  have hlt:k < l.length:=by omega
  have c1:(k:Int) < l.length:=by omega
  obtain ⟨x,hx⟩:∃ x,l[k]?=some x:=⟨l[k],List.getElem?_eq_getElem hlt⟩
  have hx256:=hb x (List.mem_of_getElem? hx)
  have p1:=flat1_at hx
  have w1:IntKind.i64.wrap ((k:Int)+1)=((k+1:Nat):Int):=by rw [qzd (by omega) (by omega)];rfl
  have w2:IntKind.i64.wrap (7*(k:Int))=((7*k:Nat):Int):=by rw [qzd (by omega) (by omega)];omega
  have w3:IntKind.i64.wrap ((at_:Int)+(k:Int))=(at_:Int)+(k:Int):=qzd (by omega) (by omega)
  have w4:IntKind.i64.wrap ((at_:Int)+(k:Int)+1)=(at_:Int)+((k+1:Nat):Int):=by rw [qzd (by omega) (by omega)];omega
  have g8:qza Gl 16=some [erP 8]:=(hG 8 (by omega)).1
  have hi8:(qza Gl 16).isSome=true:=by rw [g8];rfl
  have cl:=clr x hx256
  simp only [simprocAttr,-Int.reduceNatCast',go_sem] at cl
  have z7:¬(((7*k:Nat):Int) < 0):=by omega
  rw [drop_at hx,getL] at hR
  by_cases v1:k=9∧1 < x
  ·rw [if_pos (.inl v1)] at hR
   have b1:((k:Int) == 9)=true:=by rw [v1.1];rfl
   have b2:(x:Int) > 1:=by omega
   simp only [simprocAttr,-Int.reduceNatCast',go_sem,t1,t7,t26,t27,t28,c1,hlt,Nat.mul_one,p1,b1,b2,g_ErrVarint,g8,hi8]
   refine hK1 _ _ hR.symm ?_ ?_ ?_ rfl<;>simp only [simprocAttr,-Int.reduceNatCast',go_sem]
  ·by_cases v2:x=0∧0 < k
   ·rw [if_pos (.inr v2)] at hR
    have b1:((x:Int) < 128):=by omega
    have b2:((x:Int) == 0)=true:=by rw [v2.1];rfl
    have b3:(k:Int) > 0:=by omega
    by_cases k9:k=9
    ·have b4:((k:Int) == 9)=true:=by rw [k9];rfl
     have b5:¬((x:Int) > 1):=by omega
     simp only [simprocAttr,-Int.reduceNatCast',go_sem,t1,t7,t26,t27,t28,c1,hlt,Nat.mul_one,p1,b1,b2,b3,b4,b5,g_ErrVarint,g8,hi8]
     refine hK1 _ _ hR.symm ?_ ?_ ?_ rfl<;>simp only [simprocAttr,-Int.reduceNatCast',go_sem]
    ·have b4:((k:Int) == 9)=false:=by simp;omega
     simp only [simprocAttr,-Int.reduceNatCast',go_sem,t1,t7,t26,t27,t28,c1,hlt,Nat.mul_one,p1,b1,b2,b3,b4,g_ErrVarint,g8,hi8]
     refine hK1 _ _ hR.symm ?_ ?_ ?_ rfl<;>simp only [simprocAttr,-Int.reduceNatCast',go_sem]
   ·rw [if_neg (by omega)] at hR
    obtain ⟨o1,o2,o3⟩:=step_or (n:=n) (x:=x % 128) hk9 (by omega) (by omega) hn
    simp only [simprocAttr,-Int.reduceNatCast',go_sem] at o1
    by_cases last:x < 128
    ·rw [if_pos last] at hR
     have xm:x % 128=x:=Nat.mod_eq_of_lt last
     rw [xm] at o1 o2 o3 cl
     have b1:(x:Int) < 128:=by omega
     by_cases k9:k=9
     ·have b4:((k:Int) == 9)=true:=by rw [k9];rfl
      have b5:¬((x:Int) > 1):=by omega
      have b2:((x:Int) == 0)=false:=by simp;omega
      simp only [simprocAttr,-Int.reduceNatCast',go_sem,t1,t7,t26,t27,t28,c1,hlt,Nat.mul_one,p1,b1,b2,b4,b5,cl,w2,shiftBin,z7,o1,w3,w4]
      refine hK2 _ _ _ _ hR.symm ?_ ?_ ?_ rfl<;>simp only [simprocAttr,-Int.reduceNatCast',go_sem]
     ·have b4:((k:Int) == 9)=false:=by simp;omega
      by_cases x0:x=0
      ·have b2:((x:Int) == 0)=true:=by rw [x0];rfl
       have b3:¬((k:Int) > 0):=by omega
       simp only [simprocAttr,-Int.reduceNatCast',go_sem,t1,t7,t26,t27,t28,c1,hlt,Nat.mul_one,p1,b1,b2,b3,b4,cl,w2,shiftBin,z7,o1,w3,w4]
       refine hK2 _ _ _ _ hR.symm ?_ ?_ ?_ rfl<;>simp only [simprocAttr,-Int.reduceNatCast',go_sem]
      ·have b2:((x:Int) == 0)=false:=by simp;omega
       simp only [simprocAttr,-Int.reduceNatCast',go_sem,t1,t7,t26,t27,t28,c1,hlt,Nat.mul_one,p1,b1,b2,b4,cl,w2,shiftBin,z7,o1,w3,w4]
       refine hK2 _ _ _ _ hR.symm ?_ ?_ ?_ rfl<;>simp only [simprocAttr,-Int.reduceNatCast',go_sem]
    ·rw [if_neg last] at hR
     have b1:¬(x:Int) < 128:=by omega
     have b4:((k:Int) == 9)=false:=by simp;omega
     simp only [simprocAttr,-Int.reduceNatCast',go_sem,t1,t7,t26,t27,t28,c1,hlt,Nat.mul_one,p1,b1,b4,cl,w2,shiftBin,z7,o1,w1]
     refine ih (k+1) _ _ (by omega) (by omega) (o3 (by omega)) hR ?_ ?_ ?_ ?_ ?_
     ·simp only [simprocAttr,-Int.reduceNatCast',go_sem,t1]
     ·simp only [simprocAttr,-Int.reduceNatCast',go_sem]
     ·simp only [simprocAttr,-Int.reduceNatCast',go_sem,t26]
     ·simp only [simprocAttr,-Int.reduceNatCast',go_sem,t27]
     ·simp only [simprocAttr,-Int.reduceNatCast',go_sem]
theorem get_ok {Gl:qzj} (hG:GlAll Gl) (bs:List Nat) (hl:bs.length < 100000) (hb:∀ x∈bs,x < 256) (at_:Int):qzn Go.VL.Wire.E Gl f_wire_Get [.fsl (qzg cB bs) bs.length 1,.int .i64 at_] (getS bs at_).v:=by
 refine qzk (qze E_wire_Get ?_)
 unfold c_wire_Get r_wire_Get
 simp only [qzl]
 have g6:qza Gl 12=some [erP 6]:=(hG 6 (by omega)).1
 have hi6:(qza Gl 12).isSome=true:=by rw [g6];rfl
 by_cases c1:at_ < 0
 ·have hS:getS bs at_=⟨0,0,.placed 6 at_⟩:=by unfold getS;rw [if_pos (.inl c1)]
  rw [hS]
  simp only [simprocAttr,-Int.reduceNatCast',go_sem,c1,g_ErrShort,g6,hi6]
  exact ⟨3,_,rfl,subV_refl _⟩
 ·by_cases c2:at_ > (bs.length:Int)
  ·have hS:getS bs at_=⟨0,0,.placed 6 at_⟩:=by unfold getS;rw [if_pos (.inr (by omega))]
   rw [hS]
   simp only [simprocAttr,-Int.reduceNatCast',go_sem,c1,c2,g_ErrShort,g6,hi6]
   exact ⟨3,_,rfl,subV_refl _⟩
  ·obtain ⟨a,rfl⟩:∃ a:Nat,at_=a:=⟨at_.toNat,by omega⟩
   have hS:getS bs a=match getL (bs.drop a) 0 0 with
    | .short=>⟨0,0,.placed 6 a⟩
    | .varint=>⟨0,0,.placed 8 a⟩
    | .got n k=>⟨n,(a:Int)+k,.none⟩:=by unfold getS;rw [if_neg (by omega),Int.toNat_natCast]
   rw [hS]
   have c3:a≤bs.length:=by omega
   have d1:(qzg cB bs).drop a=qzg cB (bs.drop a):=by
    have:=flatL_drop cB_len a bs
    rwa [Nat.mul_one] at this
   have d2:(qzg cB (bs.drop a)).take (bs.drop a).length=qzg cB (bs.drop a):=List.take_of_length_le (by rw [flatL_length cB_len];simp)
   have d3:bs.length - a=(bs.drop a).length:=by simp
   simp only [simprocAttr,-Int.reduceNatCast',go_sem,c1,c2,c3,Nat.mul_one,d1,d2,d3]
   refine get_loop hG (bs.drop a) (by simp;omega) (fun x hx=>hb x (List.mem_of_mem_drop hx)) a (by omega) _ _ ?_ ?_ ?_ (bs.drop a).length 0 0 _ (by omega) (by omega) (by simp) rfl ?_ ?_ ?_ ?_ ?_
   ·intro T h hR t1 rfl
    rw [List.drop_zero] at hR
    rw [hR]
    simp only [simprocAttr,-Int.reduceNatCast',go_sem,t1,g_ErrShort,g6,hi6]
    exact ⟨3,_,rfl,subV_refl _⟩
   ·intro T h hR t4 t5 t6 rfl
    rw [List.drop_zero] at hR
    rw [hR]
    simp only [simprocAttr,-Int.reduceNatCast',go_sem,t4,t5,t6]
    exact ⟨3,_,rfl,subV_refl _⟩
   ·intro T h n k hR t4 t5 t6 rfl
    rw [List.drop_zero] at hR
    rw [hR]
    simp only [simprocAttr,-Int.reduceNatCast',go_sem,t4,t5,t6]
    exact ⟨3,_,rfl,subV_refl _⟩
   ·simp only [simprocAttr,-Int.reduceNatCast',go_sem]
   ·simp only [simprocAttr,-Int.reduceNatCast',go_sem];rfl
   ·simp only [simprocAttr,-Int.reduceNatCast',go_sem]
   ·simp only [simprocAttr,-Int.reduceNatCast',go_sem]
   ·simp only [simprocAttr,-Int.reduceNatCast',go_sem];rfl
end
end Go.VL.Wire
namespace Go.VL.Wire
open Go.FR Go.IR Go.VL Go.VL.Er
noncomputable section
set_option maxRecDepth 100000
set_option maxHeartbeats 1000000
theorem pow_ge9 {m k:Nat} (h9:9 < k+1) (hk:k≤9) (h:m*128 ^ k < 18446744073709551616):m≤1:=by
 obtain rfl:k=9:=by omega
 simp only [Nat.reducePow] at h
 omega
theorem pow_split (m k:Nat):(m / 128)*128 ^ (k+1)+(m % 128)*128 ^ k=m*128 ^ k:=by
 rw [Nat.pow_succ,←Nat.mul_assoc,Nat.mul_right_comm,←Nat.add_mul]
 congr 1;omega
theorem get_put:∀ (m:Nat) (r:List Nat) (k acc:Nat),k≤9→m*128 ^ k+acc < 18446744073709551616→(0 < k→0 < m)→getL (putS m++r) k acc = .got (acc+m*128 ^ k) (k+(putS m).length):=fun m=>by
 induction m using Nat.strongRecOn with
 | _ m ih =>
  intro r k acc hk hm h0
  by_cases c:m < 128
  ·rw [putS_lt c,List.cons_append,List.nil_append,getL,if_neg,if_pos c]
   ·rfl
   ·rintro (⟨h1,h2⟩ | ⟨h1,h2⟩)
    ·have:=pow_ge9 (m:=m) (k:=k) (by omega) hk (by omega);omega
    ·have:=h0 h2;omega
  ·have k9:k≠9:=fun e=>by have:=pow_ge9 (m:=m) (k:=k) (by omega) hk (by omega);omega
   rw [putS_ge c,List.cons_append,getL,if_neg (by omega),if_neg (by omega),show (m % 128+128) % 128=m % 128 by omega]
   have hs:=pow_split m k
   rw [ih (m / 128) (by omega) r (k+1) _ (by omega) (by omega) (by omega),List.length_cons]
   congr 1
   ·omega
   ·omega
def moreS (m:Nat):List Nat:=if m < 128 then [m+128] else (m % 128+128)::moreS (m / 128)
termination_by m
decreasing_by omega
theorem got_put:∀ (l:List Nat) (k acc n j:Nat),k≤9→acc < 128 ^ k→(∀ x∈l,x < 256)→getL l k acc = .got n j→∃ m,n=acc+m*128 ^ k∧n < 18446744073709551616∧k < j∧j - k≤l.length∧putS m=l.take (j - k)∧(0 < k→0 < m)
 | [],k,acc,n,j,_,_,_,h=>by simp [getL] at h
 | x::r,k,acc,n,j,hk,ha,hb,h=>by
  rw [getL] at h
  by_cases v:(k=9∧1 < x)∨(x=0∧0 < k)
  ·rw [if_pos v] at h;cases h
  ·rw [if_neg v] at h
   have hx:=hb x (.head _)
   by_cases c:x < 128
   ·rw [if_pos c] at h
    obtain ⟨rfl,rfl⟩:=Got.got.inj h
    obtain ⟨o1,o2,o3⟩:=step_or (n:=acc) (x:=x) hk c (by omega) ha
    refine ⟨x,rfl,o2,by omega,by simp,?_,by omega⟩
    rw [show k+1 - k=1 by omega,putS_lt c];rfl
   ·rw [if_neg c] at h
    obtain ⟨o1,o2,o3⟩:=step_or (n:=acc) (x:=x % 128) hk (by omega) (by omega) ha
    obtain ⟨m,e1,e2,e3,e4,e5,e6⟩:=got_put r (k+1) _ n j (by omega) (o3 (by omega)) (fun y hy=>hb y (.tail _ hy)) h
    refine ⟨x % 128+128*m,?_,e2,by omega,by simp;omega,?_,by omega⟩
    ·rw [e1,Nat.pow_succ,Nat.add_mul,Nat.add_assoc]
     congr 2
     rw [Nat.mul_comm 128 m,Nat.mul_assoc,Nat.mul_comm (128 ^ k)]
    ·have m0:=e6 (by omega)
     obtain ⟨q,hq⟩:∃ q,j - k=q+1:=⟨j - k - 1,by omega⟩
     rw [putS_ge (by omega),hq,List.take_succ_cons,show (x % 128+128*m) % 128+128=x by omega,show (x % 128+128*m) / 128=m by omega,e5,show j - (k+1)=q by omega]
end
end Go.VL.Wire
namespace Go.VL.Wire
open Go.FR Go.IR Go.VL Go.VL.Er
noncomputable section
set_option maxRecDepth 100000
set_option maxHeartbeats 1000000
attribute [local go_sem] cB erP t_p_api_At t_p_errors_errorString
theorem flat1_len (l:List Nat):(qzg cB l).length=l.length:=by rw [flatL_length cB_len,Nat.mul_one]
theorem own1_shut {h:VH} {X:List Nat} {j n:Nat} (hj:qza h.l j=some (some (.cells (qzg cB X) false))) (hn:X.length=n):shut h (.slice j 0 n 1 (.toEnd 1))=some (.fsl (qzg cB X) X.length 1):=by
 have hcl:=closedL_flat (f:=cB) (fun _=>rfl) X
 obtain ⟨h1,h2⟩:=flat_all cB_len X
 subst hn
 simp only [shut,get_def,hj,Option.getD_some,hcl,Nat.zero_add,h1,capOK,List.drop_zero,h2,and_self,if_true]
end
end Go.VL.Wire
namespace Go.VL.Wire
open Go.FR Go.IR Go.VL Go.VL.Er
noncomputable section
set_option maxRecDepth 100000
set_option maxHeartbeats 1000000
theorem wpW_app0 {E:Env} {Gl:qzj} {h:VH} {K:VV→VH→Option (List Nat × Bool)→Prop} {esz eb n:Nat} {v x:VV} {cs:List VV} (hs:srcV h esz x=some (0,cs)) (hn:lenOfV v=some n) (hk:K v h (some (idsO (some v),true))):wpW E Gl (.append esz eb) [v,x] h K:=by
 rw [wpW_append]
 simp only [appendV,hs,hn,optW]
 exact hk
attribute [local go_sem] cB erP t_p_api_At t_p_errors_errorString
theorem cloneB_run (Gl:qzj) (bs:List Nat) (hl:bs.length < 100000) (e:Nat) (he:e=1∨bs=[]) (h:VH) :
  CallsV Go.VL.Wire.E Gl f_slices_Clone__byte_byte [.fsl (qzg cB bs) bs.length e] h (fun r h'=>(∃ j,AccE h.next h' j cB bs 1 r)∧h.next≤h'.next):=by
 refine qze E_slices_Clone__byte_byte ?_
 unfold c_slices_Clone__byte_byte r_slices_Clone__byte_byte
 simp only [qzl]
 cases bs with
 | nil =>
  simp only [simprocAttr,-Int.reduceNatCast',go_sem]
  rw [optR_none rfl]
  intro b
  cases b
  ·simp only [simprocAttr,-Int.reduceNatCast',go_sem]
   refine wpW_app0 (n:=0) (cs:=[]) (by simp only [srcV,List.length_nil,flatL_nil,or_true,if_true]) rfl ?_
   simp only [simprocAttr,-Int.reduceNatCast',go_sem]
   exact ⟨⟨h.next,.inr ⟨0,.inr rfl,rfl,by simp only [qzb,if_true];rfl,Nat.le_refl _,Nat.lt_succ_self _⟩⟩,Nat.le_succ _⟩
  ·simp only [simprocAttr,-Int.reduceNatCast',go_sem]
   exact ⟨⟨0,.inl qzm.nil⟩,Nat.le_refl _⟩
 | cons x l =>
  obtain rfl:e=1:=by rcases he with rfl | he;rfl;cases he
  simp only [simprocAttr,-Int.reduceNatCast',go_sem]
  refine wpW_accE (base:=h.next) (j:=h.next) (f:=cB) (l:=[]) (ls:=x::l) (.inr ⟨0,.inr rfl,rfl,by simp only [qzb,if_true];rfl,Nat.le_refl _,Nat.lt_succ_self _⟩) (by simp only [srcV,true_or,if_true,List.length_cons]) (by simp) cB_len (by omega) (Nat.le_succ _) (by simp at *;omega) (by simp at *;omega) ?_
  intro h' g1 g2 g4
  simp only [simprocAttr,-Int.reduceNatCast',go_sem]
  simp only [List.nil_append,List.length_nil,Nat.zero_add] at g4
  exact ⟨⟨_,.inl g4⟩,by simp only at g1;omega⟩
theorem putC (Gl:qzj) (bs:List Nat) (hl:bs.length < 90000) (e:Nat) (he:e=1∨bs=[]) (n:Nat) (hn:n < 18446744073709551616) :
  PureOwn Go.VL.Wire.E Gl f_wire_Put [.fsl (qzg cB bs) bs.length e,.int .u64 (n:Int)] (qzg cB (bs++putS n)) 0 (bs++putS n).length 1 (.toEnd 1):=by
 refine own_sound (qze E_wire_Put ?_)
 unfold c_wire_Put r_wire_Put
 simp only [qzl]
 simp only [simprocAttr,-Int.reduceNatCast',go_sem]
 refine qzh (cloneB_run Gl bs (by omega) e he _) ?_
 rintro r h' ⟨⟨j,acc⟩,hn'⟩
 have acc':AccE 0 h' j cB bs 1 r:=by
  rcases acc with a | ⟨e,a1,a2,a3,a4,a5⟩
  ·exact .inl (a.low (Nat.zero_le _))
  ·exact .inr ⟨e,a1,a2,a3,Nat.zero_le _,a5⟩
 simp only [simprocAttr,-Int.reduceNatCast',go_sem]
 refine put_end Gl n _ h' j r hn ?_ ?_ bs (by omega) acc' _ (fun h'' i hi=>⟨i,_,rfl,by rw [hi];rfl,closedL_flat (fun _=>rfl) _,subL_refl _⟩)
 ·simp only [simprocAttr,-Int.reduceNatCast',go_sem]
 ·simp only [simprocAttr,-Int.reduceNatCast',go_sem]
end
end Go.VL.Wire
namespace Go.VL.Wire
open Go.FR Go.IR Go.VL Go.VL.Er
noncomputable section
set_option maxRecDepth 100000
set_option maxHeartbeats 4000000
def zagS (n:Nat):Int:=if n % 2=0 then (n / 2:Nat) else -((n / 2:Nat):Int) - 1
theorem zag_in {n:Nat} (h:n < 18446744073709551616):-9223372036854775808≤zagS n∧zagS n≤9223372036854775807:=by unfold zagS;split<;>omega
theorem zag_math (n:Nat) (h:n < 18446744073709551616):IntKind.i64.wrap (BitVec.ofInt IntKind.i64.bits (IntKind.i64.wrap (Int.fdiv (n:Int) (2 ^ min (1:Int).toNat IntKind.u64.bits))) ^^^ BitVec.ofInt IntKind.i64.bits (IntKind.i64.wrap (0 - IntKind.i64.wrap (IntKind.u64.wrap (BitVec.ofInt IntKind.u64.bits (n:Int) &&& BitVec.ofInt IntKind.u64.bits 1).toNat)))).toNat=zagS n:=by
 have e1:Int.fdiv (n:Int) (2 ^ min (1:Int).toNat IntKind.u64.bits)=((n / 2:Nat):Int):=by
  show Int.fdiv (n:Int) 2=_
  rw [Int.fdiv_eq_ediv_of_nonneg _ (by omega)];omega
 have e2:IntKind.u64.wrap (BitVec.ofInt IntKind.u64.bits (n:Int) &&& BitVec.ofInt IntKind.u64.bits 1).toNat=((n % 2:Nat):Int):=by
  show IntKind.u64.wrap (BitVec.ofInt 64 (n:Int) &&& BitVec.ofInt 64 1).toNat=_
  rw [BitVec.toNat_and,BitVec.toNat_ofInt,wrap_u64]
  have a1:((n:Int) % ((2 ^ 64:Nat):Int)).toNat=n:=by omega
  have a2:(BitVec.ofInt 64 1).toNat=1:=by decide
  rw [a1,a2,Nat.and_one_is_mod];omega
 rw [e1,e2,qzd (n:=((n / 2:Nat):Int)) (by omega) (by omega),qzd (n:=((n % 2:Nat):Int)) (by omega) (by omega)]
 show IntKind.i64.wrap (BitVec.ofInt 64 ((n / 2:Nat):Int) ^^^ BitVec.ofInt 64 (IntKind.i64.wrap (0 - ((n % 2:Nat):Int)))).toNat=zagS n
 unfold zagS
 by_cases c:n % 2=0
 ·rw [if_pos c,c]
  have e3:BitVec.ofInt 64 (IntKind.i64.wrap (0 - ((0:Nat):Int)))=0#64:=by decide
  rw [e3,BitVec.xor_zero,BitVec.toNat_ofInt]
  have a1:(((n / 2:Nat):Int) % ((2 ^ 64:Nat):Int)).toNat=n / 2:=by omega
  rw [a1,qzd (by omega) (by omega)]
 ·rw [if_neg c,show n % 2=1 by omega]
  have e3:BitVec.ofInt 64 (IntKind.i64.wrap (0 - ((1:Nat):Int)))=BitVec.allOnes 64:=by decide
  rw [e3,BitVec.xor_allOnes,BitVec.toNat_not,BitVec.toNat_ofInt]
  have a1:(((n / 2:Nat):Int) % ((2 ^ 64:Nat):Int)).toNat=n / 2:=by omega
  rw [a1]
  have:((2 ^ 64 - 1 - n / 2:Nat):Int)=18446744073709551615 - ((n / 2:Nat):Int):=by omega
  rw [this]
  unfold IntKind.wrap
  simp only [IntKind.bits,IntKind.signed,Bool.true_and,decide_eq_true_eq,ge_iff_le,Nat.reduceSub]
  split<;>omega
attribute [local go_sem] cB erP t_p_api_At t_p_errors_errorString
theorem zag_ok (Gl:qzj) (n:Nat) (h:n < 18446744073709551616):qzn Go.VL.Wire.E Gl f_wire_Zag [.int .u64 (n:Int)] (.int .i64 (zagS n)):=by
 refine qzk (qze E_wire_Zag ?_)
 unfold c_wire_Zag r_wire_Zag
 simp only [qzl]
 have z1:¬((1:Int) < 0):=by omega
 have zm:=zag_math n h
 simp only [simprocAttr,-Int.reduceNatCast',go_sem] at zm
 simp only [simprocAttr,-Int.reduceNatCast',go_sem,shiftBin,z1,zm]
 exact qzc rfl
end
end Go.VL.Wire
namespace Go.VL.Wind
open Go.FR Go.IR Go.VL
noncomputable section
set_option maxRecDepth 100000
set_option maxHeartbeats 1000000
abbrev w64 (n:Int):Int:=IntKind.i64.wrap n
structure Pt where
 x:Int
 y:Int
deriving DecidableEq
structure Edge where
 a:Pt
 b:Pt
abbrev cPt (p:Pt):List VV:=[.int .i64 p.x,.int .i64 p.y]
abbrev cEdge (e:Edge):List VV:=[.int .i64 e.a.x,.int .i64 e.a.y,.int .i64 e.b.x,.int .i64 e.b.y]
abbrev sEdges (l:List Edge):VV := .fsl (qzg cEdge l) l.length 4
abbrev E:=lookE envL
def crossS (a b p:Pt):Int:=w64 (w64 (w64 (b.x - a.x)*w64 (p.y - a.y)) - w64 (w64 (b.y - a.y)*w64 (p.x - a.x)))
def oneS (e:Edge) (p:Pt):Int :=
 if e.a.y≤p.y∧e.b.y > p.y∧crossS e.a e.b p > 0 then 1 else if e.b.y≤p.y∧e.a.y > p.y∧crossS e.a e.b p < 0 then -1 else 0
def numS (l:List Edge) (p:Pt) (n:Int):Int:=l.foldl (fun n e=>w64 (n+oneS e p)) n
def insS (l:List Edge) (rule:Int) (p:Pt):Bool:=if rule=0 then (numS l p 0).tmod 2 != 0 else numS l p 0 != 0
attribute [local go_sem] cEdge cPt
theorem sub_ok (Gl:qzj) (a b:Pt):qzn E Gl f_plane_Sub [.agg (cPt a),.agg (cPt b)] (.agg [.int .i64 (w64 (a.x - b.x)),.int .i64 (w64 (a.y - b.y))]):=by
 refine qzk (qze E_plane_Sub ?_)
 unfold c_plane_Sub r_plane_Sub
 simp only [qzl]
 simp only [simprocAttr,-Int.reduceNatCast',go_sem]
 exact qzc rfl
end
end Go.VL.Wind
namespace Go.VL.Color
open Go.FR Go.IR Go.VL
noncomputable section
set_option maxRecDepth 100000
set_option maxHeartbeats 1000000
abbrev E:=lookE envL
structure Cl where
 r:Nat
 g:Nat
 b:Nat
 a:Nat
deriving DecidableEq
def Cl.In (c:Cl):Prop:=c.r < 256∧c.g < 256∧c.b < 256∧c.a < 256
abbrev cCl (c:Cl):List VV:=[.int .u8 (c.r:Int),.int .u8 (c.g:Int),.int .u8 (c.b:Int),.int .u8 (c.a:Int)]
abbrev digits:List UInt8:=[48,49,50,51,52,53,54,55,56,57,97,98,99,100,101,102]
def dig (k:Nat):UInt8:=digits.getD k 0
def hx (n:Nat):List UInt8:=[dig (n / 16),dig (n % 16)]
def showS (c:Cl):List UInt8:=35::(hx c.r++(hx c.g++(hx c.b++if c.a=255 then [] else hx c.a)))
theorem same_ok (Gl:qzj) (c d:Cl):qzn E Gl f_glyphicref_SameColor [.agg (cCl c),.agg (cCl d)] (.bool (decide (c=d))):=by
 refine qzk (qze E_glyphicref_SameColor ?_)
 unfold c_glyphicref_SameColor r_glyphicref_SameColor
 simp only [qzl]
 obtain ⟨c1,c2,c3,c4⟩:=c
 obtain ⟨d1,d2,d3,d4⟩:=d
 have b:∀ x y:Nat,((x:Int) == (y:Int))=decide (x=y):=fun x y=>by
  by_cases e:x=y<;>simp [e]<;>omega
 simp only [Cl.mk.injEq]
 by_cases e1:c1=d1<;>by_cases e2:c2=d2<;>by_cases e3:c3=d3<;>by_cases e4:c4=d4
 all_goals
  simp only [simprocAttr,-Int.reduceNatCast',go_sem,b,e1,e2,e3,e4]
  exact qzc rfl
end
end Go.VL.Color
namespace Go.VL.Ic
open Go.FR Go.IR Go.VL Go.VL.Er Go.VL.Color Go.VL.Wind
noncomputable section
structure Seg where
 kind:Int
 p0:Pt
 p1:Pt
 p2:Pt
deriving DecidableEq
structure Path where
 start:Pt
 segs:List Seg
 closed:Bool
deriving DecidableEq
structure Paint where
 kind:Int
 a:Int
 b:Int
 p:Pt
 q:Pt
deriving DecidableEq
structure Cmd where
 kind:Int
 rule:Int
 width:Int
 paint:Paint
 paths:List Path
deriving DecidableEq
structure Icon where
 w:Int
 h:Int
 scale:Int
 colors:List Cl
 cmds:List Cmd
deriving DecidableEq
abbrev cSeg (s:Seg):List VV:=[.int .i64 s.kind,.int .i64 s.p0.x,.int .i64 s.p0.y,.int .i64 s.p1.x,.int .i64 s.p1.y,.int .i64 s.p2.x,.int .i64 s.p2.y]
abbrev cPath (p:Path):List VV:=[.int .i64 p.start.x,.int .i64 p.start.y,.fsl (qzg cSeg p.segs) p.segs.length 7,.bool p.closed]
abbrev cPaint (p:Paint):List VV:=[.int .i64 p.kind,.int .i64 p.a,.int .i64 p.b,.int .i64 p.p.x,.int .i64 p.p.y,.int .i64 p.q.x,.int .i64 p.q.y]
abbrev cCmd (c:Cmd):List VV:=[.int .i64 c.kind,.int .i64 c.rule,.int .i64 c.width,.int .i64 c.paint.kind,.int .i64 c.paint.a,.int .i64 c.paint.b,.int .i64 c.paint.p.x,.int .i64 c.paint.p.y,.int .i64 c.paint.q.x,.int .i64 c.paint.q.y,.fsl (qzg cPath c.paths) c.paths.length 4]
abbrev cIcon (i:Icon):List VV:=[.int .i64 i.w,.int .i64 i.h,.int .i64 i.scale,.fsl (qzg cCl i.colors) i.colors.length 4,.fsl (qzg cCmd i.cmds) i.cmds.length 11]
theorem cSeg_len (s:Seg):(cSeg s).length=7:=rfl
theorem cPath_len (s:Path):(cPath s).length=4:=rfl
theorem cCmd_len (s:Cmd):(cCmd s).length=11:=rfl
theorem cCl_len (c:Cl):(cCl c).length=4:=rfl
def inS (n lo hi:Int):Bool:=if n ≥ lo then decide (n≤hi) else false
def farS (p:Pt) (m:Int):Bool := !(inS p.x (-m) m) || !(inS p.y (-m) m)
def sizedS (i:Icon):Bool:=inS i.w 1 4096 && (inS i.h 1 4096 && inS i.scale 0 6)
def greatS (i:Icon):Int:=if sizedS i then 4*max i.w i.h*2 ^ i.scale.toNat else 0
def headS (c:Cmd) (m:Int):Option Nat :=
 if c.kind=1∧inS c.rule 0 1=true∧c.width=0 then none
 else if c.kind=2∧c.rule=0∧inS c.width 1 m=true then none
 else some 4
def zeroP (p:Pt):Prop:=p.x=0∧p.y=0
instance (p:Pt):Decidable (zeroP p):=by unfold zeroP;infer_instance
def sameP (p q:Pt):Prop:=p.x=q.x∧p.y=q.y
instance (p q:Pt):Decidable (sameP p q):=by unfold sameP;infer_instance
def paintS (p:Paint) (n m:Int):Option Nat :=
 if inS p.kind 0 2=false∨inS p.a 0 (n - 1)=false∨(p.kind≠0∧inS p.b 0 (n - 1)=false) then some 4
 else if p.kind=0 then (if p.b≠0∨¬zeroP p.p∨¬zeroP p.q then some 9 else none)
 else if farS p.p m=true then some 4
 else if p.kind=1 then (if farS p.q m=true∨sameP p.p p.q then some 4 else none)
 else if inS p.q.x 1 m=false then some 4
 else if p.q.y≠0 then some 9
 else none
def segPts (s:Seg):List Pt:=[s.p0,s.p1,s.p2]
def segS (s:Seg) (m:Int):Option Nat :=
 if inS s.kind 1 3=false then some 4
 else if ((segPts s).take s.kind.toNat).any (farS · m)=true then some 4
 else if ((segPts s).drop s.kind.toNat).all (fun p=>decide (zeroP p))=false then some 9
 else none
def firstS {α:Type} (f:α→Option Nat):List α→Option Nat
 | []=>none
 | x::l=>match f x with
  | some e=>some e
  | none=>firstS f l
def pathS (p:Path) (fill:Bool) (m:Int):Option Nat :=
 if (fill && p.closed)=true then some 9
 else if p.segs.length=0 then some 4
 else if 400 < p.segs.length then some 5
 else if farS p.start m=true then some 4
 else firstS (segS · m) p.segs
def cmdS (c:Cmd) (n m:Int):Option Nat :=
 match headS c m with
 | some e=>some e
 | none=>match paintS c.paint n m with
  | some e=>some e
  | none=>if c.paths.length=0 then some 4 else if 200 < c.paths.length then some 5 else firstS (fun p=>pathS p (decide (c.kind=1)) m) c.paths
def sumS' {α:Type} (f:α→Int):List α→Int
 | []=>0
 | x::l=>f x+sumS' f l
def pointsS (i:Icon):Int:=sumS' (fun c=>sumS' (fun p=>1+sumS' (fun s=>s.kind) p.segs) c.paths) i.cmds
def nextUse (next:Int):List Int→Option Int
 | []=>some next
 | k::l=>if k > next then none else nextUse (if k=next then next+1 else next) l
def usesOf (c:Cmd):List Int:=if c.paint.kind=0 then [c.paint.a] else [c.paint.a,c.paint.b]
def useAll:Int→List Cmd→Option Int
 | n,[]=>some n
 | n,c::l=>match nextUse n (usesOf c) with
  | none=>none
  | some m=>useAll m l
def onceS:List Cl→List Cl→Bool
 | _,[]=>true
 | seen,c::l=>if c∈seen then false else onceS (seen++[c]) l
def usedS (i:Icon):Bool:=match useAll 0 i.cmds with
 | none=>false
 | some n=>if onceS [] i.colors then decide (n=i.colors.length) else false
def checkS (i:Icon):Option Nat :=
 if sizedS i=false then some 4
 else if 256 < i.colors.length∨200 < i.cmds.length then some 5
 else match firstS (fun c=>cmdS c i.colors.length (greatS i)) i.cmds with
  | some e=>some e
  | none=>if pointsS i > 4000 then some 5 else if usedS i=false then some 9 else none
abbrev erG (n:Nat):VV := .iface t_p_errors_errorString (.gptr (n+1) 0)
def eG:Nat→Nat
 | 4=>g_ErrRange
 | 5=>g_ErrLimit
 | _=>g_ErrCanon
abbrev errK (k:Nat):VV := .iface t_p_errors_errorString (.gptr (eG k+1) 0)
def errV:Option Nat→VV
 | none => .nilI
 | some k=>errK k
structure IcG (Gl:qzj):Prop where
 r:qza Gl g_ErrRange=some [errK 4]
 l:qza Gl g_ErrLimit=some [errK 5]
 c:qza Gl g_ErrCanon=some [errK 9]
end
end Go.VL.Ic
