import Derived.Test.YtlgkadhogiedoaaDoorVlK
import Derived.Test.YtlgkadhogiedoaaDoorErA
set_option linter.unusedSimpArgs false
set_option linter.unusedVariables false
namespace Go.VL.Wo
open Go.FR Go.IR Go.VL Go.VL.Er
noncomputable section
set_option maxRecDepth 100000
set_option maxHeartbeats 1000000
abbrev u8V (b:UInt8):VV := .int .u8 ((b.toNat:Nat):Int)
def blankS (b:UInt8):Bool:=b.toNat == 32 || b.toNat == 9 || b.toNat == 10 || b.toNat == 13
def digitS (b:UInt8):Bool:=decide (48≤b.toNat) && decide (b.toNat≤57)
def hexS (b:UInt8):Bool:=digitS b || (decide (97≤b.toNat) && decide (b.toNat≤102))
def lowS (b:UInt8):Bool:=decide (97≤b.toNat) && decide (b.toNat≤122)
def nameS (b:UInt8):Bool:=lowS b || digitS b || b.toNat == 95
def wordS (b:UInt8):Bool:=nameS b || (decide (65≤b.toNat) && decide (b.toNat≤90))
def lineS (b:UInt8):Bool:=b.toNat != 10
theorem beq_nat (x y:Nat):((x:Int) == (y:Int))=(x == y):=by
 rw [Bool.eq_iff_iff,beq_iff_eq,beq_iff_eq];omega
theorem natOf_n (k:IntKind) (n:Nat):natOf (.int k (n:Int))=some n:=by simp [natOf]
attribute [local go_sem] erP t_p_api_At
def spanS (p:UInt8→Bool):List UInt8→Nat
 | []=>0
 | b::s=>if p b then spanS p s+1 else 0
theorem spanS_le (p:UInt8→Bool):∀ s:List UInt8,spanS p s≤s.length
 | []=>Nat.le_refl _
 | b::s=>by
  unfold spanS
  split
  ·have:=spanS_le p s;simp only [List.length_cons];omega
  ·simp
end
end Go.VL.Wo
namespace Go.VL.Wo
open Go.FR Go.IR Go.VL Go.VL.Er
noncomputable section
set_option maxRecDepth 100000
set_option maxHeartbeats 1000000
def prefS (s p:List UInt8):Bool:=decide (p.length≤s.length) && (s.take p.length == p)
attribute [local go_sem] erP t_p_api_At
theorem hasPre_lite (Gl:qzh) (s p:List UInt8):qzg Go.VL.Er.E Gl f_internal_stringslite_HasPrefix [.str s,.str p] (.bool (prefS s p)):=by
 refine qzd (qzc E_internal_stringslite_HasPrefix ?_)
 unfold c_internal_stringslite_HasPrefix r_internal_stringslite_HasPrefix prefS
 simp only [qzi]
 by_cases h:p.length≤s.length
 ·have c1:(s.length:Int) ≥ (p.length:Int):=by omega
  simp only [simprocAttr,-Int.reduceNatCast',go_sem,c1,h,natOf_n,Nat.sub_zero,strBin]
  exact qza rfl
 ·have c1:¬(s.length:Int) ≥ (p.length:Int):=by omega
  simp only [simprocAttr,-Int.reduceNatCast',go_sem,c1,h]
  exact qza rfl
def gapM:Bool→List UInt8→Nat
 | _,[]=>0
 | true,b::s=>if b.toNat=10 then gapM false s+1 else gapM true s+1
 | false,b::s=>if blankS b then gapM false s+1 else if b.toNat=47∧(s.head?.map UInt8.toNat)=some 47 then gapM true s+1 else 0
abbrev gapS (s:List UInt8):Nat:=gapM false s
def endsS:List UInt8→Bool
 | []=>true
 | b::_ => !wordS b && b.toNat != 46 && b.toNat != 35
def nameN (s:List UInt8):Nat:=if spanS nameS s > 24 then 0 else spanS nameS s
def colorN (s:List UInt8):Nat :=
 let n:=1+spanS hexS (s.drop 1)
 if (n=7∨n=9)∧endsS (s.drop n)=true then n else 0
end
end Go.VL.Wo
namespace Go.VL.Wo
open Go.FR Go.IR Go.VL Go.VL.Er
noncomputable section
set_option maxRecDepth 100000
set_option maxHeartbeats 1000000
def numE (s:List UInt8) (n:Nat):Nat:=if endsS (s.drop n)=true then n else 0
def numP (s:List UInt8) (n:Nat):Nat :=
 if (s[n]?.map UInt8.toNat)=some 46 then
  (if spanS digitS (s.drop (n+1)) < 1∨spanS digitS (s.drop (n+1)) > 6 then 0 else numE s (n+(1+spanS digitS (s.drop (n+1)))))
 else numE s n
def numU (s:List UInt8) (a:Nat):Nat:=if spanS digitS (s.drop a) < 1∨spanS digitS (s.drop a) > 6 then 0 else numP s (a+spanS digitS (s.drop a))
def numberN (s:List UInt8):Nat:=numU s (if (s[0]?.map UInt8.toNat)=some 45 then 1 else 0)
end
end Go.VL.Wo
namespace Go.VL.Wo
open Go.FR Go.IR Go.VL Go.VL.Er
noncomputable section
set_option maxRecDepth 100000
set_option maxHeartbeats 1000000
def KS:List UInt8:=[105,99,111,110,32,115,99,97,108,101,32,99,111,110,115,116,32,99,111,108,111,114,32,115,104,97,112,101,32,102,105,108,108,32,101,118,101,110,111,100,100,32,110,111,110,122,101,114,111,32,108,105,110,101,32,108,105,110,101,97,114,32,114,97,100,105,97,108,32,112,97,116,104,32,117,115,101,32,97,116,32,98,121,32,116,117,114,110]
def keysS:List (List UInt8):=[[105,99,111,110],[115,99,97,108,101],[99,111,110,115,116],[99,111,108,111,114],[115,104,97,112,101],[102,105,108,108],[101,118,101,110,111,100,100],[110,111,110,122,101,114,111],[108,105,110,101],[108,105,110,101,97,114],[114,97,100,105,97,108],[112,97,116,104],[117,115,101],[97,116],[98,121],[116,117,114,110]]
def spB (b:UInt8):Bool:=b.toNat == 9 || b.toNat == 10 || b.toNat == 11 || b.toNat == 12 || b.toNat == 13 || b.toNat == 32
def bitV (k:IntKind) (c:Bool):VV := .int k (if c then 1 else 0)
def spTab:List VV:=(List.range 256).map fun n=>bitV .u8 (spB (UInt8.ofNat n))
def spZ:List Int:=(List.range 256).map fun n=>if spB (UInt8.ofNat n) then 1 else 0
def cntS:List UInt8→Bool→Nat
 | [],_=>0
 | b::r,was=>(if was && !spB b then 1 else 0)+cntS r (spB b)
attribute [local go_sem] erP t_p_api_At iAddrAV mkSliceV repV
def fldF (s:List UInt8):List UInt8→Nat→Nat→Nat→List VV→Option (Nat × Nat × List VV)
 | [],_,st,na,cs=>some (st,na,cs)
 | b::r,k,st,na,cs=>if spB b=false then fldF s r (k+1) st na cs else
  match r.head? with
  | none=>none
  | some c=>if spB c=false∧na < cs.length∧st≤k then fldF s r (k+1) (k+1) (na+1) (cs.set na (.str ((s.drop st).take (k - st)))) else none
def fin0:List VV:=List.replicate 16 (.str [])
def idxT:List (List UInt8)→List UInt8→Nat→Int
 | [],_,_=>-1
 | x::l,s,k=>if s=x then k else idxT l s (k+1)
def resS (s:List UInt8):Bool:=keysS.contains s
end
end Go.VL.Wo
namespace Go.VL.Wo
open Go.FR Go.IR Go.VL Go.VL.Er
noncomputable section
set_option maxRecDepth 100000
set_option maxHeartbeats 1000000
def idxB (s:List UInt8) (b:UInt8):Int:=match idxByte b s 0 with
 | some i=>(i:Int)
 | none=>-1
theorem idxP_ok (Gl:qzh) (s:List UInt8) (b:UInt8):qzg Go.VL.Er.E Gl f_internal_bytealg_IndexByteString [.str s,u8V b] (.int .i64 (idxB s b)):=fun G H as w k=>by
 obtain ⟨x,y,rfl,k1,k2⟩:=VRs.two k
 simp only [VR] at k1 k2
 subst k1;subst k2
 have hv:(match idxByte (UInt8.ofNat (((b.toNat:Nat):Int)).toNat) s 0 with | some i=>(i:Int) | none=>-1)=idxB s b:=by
  rw [Int.toNat_natCast,UInt8.ofNat_toNat];rfl
 refine ⟨1,_,H,G,fun M hM => ?_,w,Gz.le_refl _,rfl,Nat.le_refl _,fun _ _=>rfl,fun _ _ q => .inl q⟩
 obtain ⟨m,rfl⟩:∃ m,M=m+1:=⟨M - 1,by omega⟩
 have e:callN Go.VL.Er.E (m+1) f_internal_bytealg_IndexByteString [.str s,.int .u8 ((b.toNat:Nat):Int)] H=primA .indexByte [.str s,.int .u8 ((b.toNat:Nat):Int)] H:=by
  simp only [callN,E_internal_bytealg_IndexByteString,F_internal_bytealg_IndexByteString]
 rw [e]
 simp only [primA]
 exact congrArg (fun z=>some (AV.int .i64 z,H)) hv
attribute [local go_sem] erP t_p_api_At
theorem idxL_ok (Gl:qzh) (s:List UInt8) (b:UInt8):qzg Go.VL.Er.E Gl f_internal_stringslite_IndexByte [.str s,u8V b] (.int .i64 (idxB s b)):=by
 refine qzd (qzc E_internal_stringslite_IndexByte ?_)
 unfold c_internal_stringslite_IndexByte r_internal_stringslite_IndexByte
 simp only [qzi]
 simp only [simprocAttr,-Int.reduceNatCast',go_sem]
 refine qzb (idxP_ok Gl s b) rfl rfl ?_
 simp only [simprocAttr,-Int.reduceNatCast',go_sem]
 exact qza rfl
def markS (b:UInt8):Bool:=b.toNat == 123 || b.toNat == 125 || b.toNat == 59 || b.toNat == 61
def stepS (b:UInt8):Bool:=b.toNat == 77 || b.toNat == 76 || b.toNat == 81 || b.toNat == 67 || b.toNat == 65 || b.toNat == 66 || b.toNat == 90
def nextS:List UInt8→Nat × Nat
 | []=>(0,0)
 | b::r =>
  if lowS b then (if resS ((b::r).take (nameN (b::r))) then (2,nameN (b::r)) else (1,nameN (b::r)))
  else if digitS b || b.toNat == 45 then (3,numberN (b::r))
  else if b.toNat == 35 then (4,colorN (b::r))
  else if markS b then (5,1)
  else if stepS b && spanS wordS r == 0 then (6,1)
  else (0,0)
def isNameS (s:List UInt8):Bool:=(match s with
 | []=>false
 | b::_=>lowS b) && nameN s == s.length && !resS s
end
end Go.VL.Wo
namespace Go.VL.Nu
open Go.FR Go.IR Go.VL Go.VL.Er Go.VL.Wo
noncomputable section
set_option maxRecDepth 100000
set_option maxHeartbeats 1000000
def allS (s:List UInt8):Bool:=s.all digitS && decide (1≤s.length) && decide (s.length≤6)
@[irreducible] def dv (b:UInt8):Nat:=b.toNat - 48
theorem dv_def (b:UInt8):dv b=b.toNat - 48:=by unfold dv;rfl
def valF (n:Nat) (s:List UInt8):Nat:=s.foldl (fun m b=>10*m+dv b) n
theorem valF_nil (n:Nat):valF n []=n:=rfl
theorem valF_cons (n:Nat) (b:UInt8) (s:List UInt8):valF n (b::s)=valF (10*n+dv b) s:=rfl
abbrev valS (s:List UInt8):Nat:=valF 0 s
theorem digit_le {b:UInt8} (h:digitS b=true):48≤b.toNat∧b.toNat≤57:=by simpa [digitS] using h
theorem valF_lt:∀ (s:List UInt8) (n k:Nat),(∀ b∈s,digitS b=true)→n < 10 ^ k→valF n s < 10 ^ (k+s.length)
 | [],n,k,_,h=>h
 | b::s,n,k,hd,h=>by
  have hb:=digit_le (hd b (.head _))
  have dd:=dv_def b
  have:=valF_lt s (10*n+dv b) (k+1) (fun c hc=>hd c (.tail _ hc)) (by rw [Nat.pow_succ];omega)
  rw [valF_cons]
  rw [List.length_cons,show k+(s.length+1)=k+1+s.length by omega]
  exact this
theorem valS_lt {s:List UInt8} (hd:∀ b∈s,digitS b=true):valS s < 10 ^ s.length:=by
 have:=valF_lt s 0 0 hd (by simp)
 rwa [Nat.zero_add] at this
theorem allS_digits {s:List UInt8} (h:allS s=true):(∀ b∈s,digitS b=true)∧1≤s.length∧s.length≤6:=by
 simp only [allS,Bool.and_eq_true,List.all_eq_true,decide_eq_true_eq] at h
 exact ⟨h.1.1,h.1.2,h.2⟩
attribute [local go_sem] erP t_p_api_At s2bV
theorem all_loop (Gl:qzh) (s:List UInt8) (hl:s.length < 4611686018427387904) (K:AEx→VF→VH→Prop)
  (hK0:s.all digitS=true→∀ T h,qzf T 0=some (.str s)→K (.exit 0) T h) (hK1:s.all digitS=false→∀ T h,qzf T 2=some (.bool false)→K .ret T h) :
  ∀ (r:List UInt8) (k:Nat) (T:VF) (h:VH),s.drop k=r→k≤s.length→r.all digitS=s.all digitS→qzf T 0=some (.str s)→qzf T 5=some (.int .i64 (s.length:Int))→qzf T 6=some (.int .i64 (k:Int)) →
   wp Go.VL.Er.E Gl (.loop c_number_all_l0) T h K:=by
 intro r
 induction r with
 | nil =>
  intro k T h hr hk ha t0 t5 t6
  have:s.length≤k:=by simpa using List.drop_eq_nil_iff.mp hr
  obtain rfl:k=s.length:=by omega
  refine qzj c_number_all_l0.eq_1 ?_
  simp only [simprocAttr,-Int.reduceNatCast',go_sem,t0,t5,t6,Int.lt_irrefl]
  refine hK0 ha.symm _ h ?_
  simp only [simprocAttr,-Int.reduceNatCast',go_sem,t0]
 | cons b r ih =>
  intro k T h hr hk ha t0 t5 t6
  have hx:s[k]?=some b:=by
   have:=congrArg (fun l=>l[0]?) hr
   simpa using this
  have hlt:k < s.length:=(List.getElem?_eq_some_iff.1 hx).1
  have c1:(k:Int) < s.length:=by omega
  have hr':s.drop (k+1)=r:=by
   rw [drop_at hx] at hr;exact (List.cons.inj hr).2
  have w1:IntKind.i64.wrap ((k:Int)+1)=((k+1:Nat):Int):=by rw [qze (by omega) (by omega)];rfl
  rw [List.all_cons] at ha
  refine qzj c_number_all_l0.eq_1 ?_
  by_cases d1:b.toNat < 48
  ·have e1:((b.toNat:Nat):Int) < 48:=by omega
   have:digitS b=false:=by simp [digitS];omega
   rw [this,Bool.false_and] at ha
   simp only [simprocAttr,-Int.reduceNatCast',go_sem,t0,t5,t6,c1,hx,natOf_n,e1]
   refine hK1 ha.symm _ h ?_
   simp only [simprocAttr,-Int.reduceNatCast',go_sem]
  ·have e1:¬((b.toNat:Nat):Int) < 48:=by omega
   by_cases d2:b.toNat > 57
   ·have e2:((b.toNat:Nat):Int) > 57:=by omega
    have:digitS b=false:=by simp [digitS];omega
    rw [this,Bool.false_and] at ha
    simp only [simprocAttr,-Int.reduceNatCast',go_sem,t0,t5,t6,c1,hx,natOf_n,e1,e2]
    refine hK1 ha.symm _ h ?_
    simp only [simprocAttr,-Int.reduceNatCast',go_sem]
   ·have e2:¬((b.toNat:Nat):Int) > 57:=by omega
    have:digitS b=true:=by simp [digitS];omega
    rw [this,Bool.true_and] at ha
    simp only [simprocAttr,-Int.reduceNatCast',go_sem,t0,t5,t6,c1,hx,natOf_n,e1,e2,w1]
    refine ih (k+1) _ h hr' (by omega) ha ?_ ?_ ?_
    ·simp only [simprocAttr,-Int.reduceNatCast',go_sem,t0]
    ·simp only [simprocAttr,-Int.reduceNatCast',go_sem,t5]
    ·simp only [simprocAttr,-Int.reduceNatCast',go_sem]
theorem allN_ok (Gl:qzh) (s:List UInt8) (hl:s.length < 4611686018427387904):qzg Go.VL.Er.E Gl f_number_all [.str s] (.bool (allS s)):=by
 refine qzd (qzc E_number_all ?_)
 unfold c_number_all r_number_all
 simp only [qzi]
 simp only [simprocAttr,-Int.reduceNatCast',go_sem]
 refine all_loop Gl s hl _ ?_ ?_ s 0 _ _ rfl (Nat.zero_le _) rfl ?_ ?_ ?_
 ·intro ha T h t0
  unfold allS
  by_cases h1:1≤s.length
  ·have c1:(s.length:Int) ≥ 1:=by omega
   have c2:decide ((s.length:Int)≤6)=decide (s.length≤6):=by congr 1;exact propext ⟨fun h=>by omega,fun h=>by omega⟩
   simp only [simprocAttr,-Int.reduceNatCast',go_sem,t0,c1,ha,h1,c2]
   exact qza rfl
  ·have c1:¬(s.length:Int) ≥ 1:=by omega
   simp only [simprocAttr,-Int.reduceNatCast',go_sem,t0,c1,ha,h1]
   exact qza rfl
 ·intro ha T h t2
  unfold allS
  simp only [simprocAttr,-Int.reduceNatCast',go_sem,t2,ha]
  exact qza rfl
 all_goals simp only [simprocAttr,-Int.reduceNatCast',go_sem]
 rfl
theorem pow17 {k:Nat} (h:k≤17):10 ^ k≤100000000000000000:=Nat.pow_le_pow_right (n:=10) (by omega) h
theorem step10 {n d k:Nat} (h:n < 10 ^ k) (hd:d≤9):10*n+d < 10 ^ (k+1):=by
 rw [Nat.pow_succ]
 generalize 10 ^ k=x at *
 omega
theorem byte_at {s:List UInt8} {k:Nat} {b:UInt8} (h:s[k]?=some b):(s.map byteV)[k]?=some (.int .u8 ((b.toNat:Nat):Int)):=by rw [List.getElem?_map,h];rfl
theorem atoi_loop (Gl:qzh) (s:List UInt8) (hl:s.length≤18) (hd:∀ b∈s,digitS b=true) (N:Nat) (v5:VV) (K:AEx→VF→VH→Prop)
  (hK:∀ T h,qzf T 5=some v5→qzf T 6=some (.int .i64 (N:Int))→K (.exit 0) T h) :
  ∀ (r:List UInt8) (k n j:Nat) (c:ACap) (T:VF) (h:VH),s.drop k=r→k≤s.length→n < 10 ^ k→valF n r=N→qzf T 5=some v5→qzf T 6=some (.int .i64 (n:Int))→qzf T 47=some (.slice j 0 s.length 1 c)→qzf T 48=some (.int .i64 (s.length:Int))→qzf T 49=some (.int .i64 (k:Int))→qzf h.l j=some (some (.cells (s.map byteV) false)) →
   wp Go.VL.Er.E Gl (.loop c_internal_strconv_Atoi_l0) T h K:=by
 intro r
 induction r with
 | nil =>
  intro k n j c T h hr hk hn hN t5 t6 t47 t48 t49 hj
  have:s.length≤k:=by simpa using List.drop_eq_nil_iff.mp hr
  obtain rfl:k=s.length:=by omega
  refine qzj c_internal_strconv_Atoi_l0.eq_1 ?_
  simp only [simprocAttr,-Int.reduceNatCast',go_sem,t48,t49,Int.lt_irrefl]
  refine hK _ h ?_ ?_
  ·simp only [simprocAttr,-Int.reduceNatCast',go_sem,t5]
  ·simp only [simprocAttr,-Int.reduceNatCast',go_sem,t6]
   rw [←hN];rfl
 | cons b r ih =>
  intro k n j c T h hr hk hn hN t5 t6 t47 t48 t49 hj
  have hx:s[k]?=some b:=by
   have:=congrArg (fun l=>l[0]?) hr
   simpa using this
  have hlt:k < s.length:=(List.getElem?_eq_some_iff.1 hx).1
  have c1:(k:Int) < s.length:=by omega
  have hr':s.drop (k+1)=r:=by
   rw [drop_at hx] at hr;exact (List.cons.inj hr).2
  have w1:IntKind.i64.wrap ((k:Int)+1)=((k+1:Nat):Int):=by rw [qze (by omega) (by omega)];rfl
  have db:=digit_le (hd b (List.mem_of_getElem? hx))
  have dd:=dv_def b
  obtain ⟨d,hd'⟩:∃ d,dv b=d:=⟨_,rfl⟩
  have hn':10*n+d < 10 ^ (k+1):=step10 hn (by omega)
  have n18:n < 100000000000000000:=Nat.lt_of_lt_of_le hn (pow17 (by omega))
  clear hn
  have wd:IntKind.u8.wrap (((b.toNat:Nat):Int) - 48)=(d:Int):=by
   show (((b.toNat:Nat):Int) - 48) % 256=_
   omega
  have d9:¬(d:Int) > 9:=by omega
  have wi:IntKind.i64.wrap (d:Int)=d:=qze (by omega) (by omega)
  have w10:IntKind.i64.wrap ((n:Int)*10)=((n*10:Nat):Int):=by rw [qze (by omega) (by omega)];omega
  have w11:IntKind.i64.wrap (((n*10:Nat):Int)+(d:Int))=((10*n+d:Nat):Int):=by rw [qze (by omega) (by omega)];omega
  have pb:=byte_at hx
  have hN:valF (10*n+d) r=N:=by rw [←hd'];exact hN
  refine qzj c_internal_strconv_Atoi_l0.eq_1 ?_
  simp only [simprocAttr,-Int.reduceNatCast',go_sem,t5,t6,t47,t48,t49,c1,hlt,natV_nat,Nat.mul_one,hj,pb,wd,d9,wi,w10,w11,w1]
  refine ih (k+1) (10*n+d) j c _ h hr' (by omega) hn' hN ?_ ?_ ?_ ?_ ?_ hj
  ·simp only [simprocAttr,-Int.reduceNatCast',go_sem,t5]
  ·simp only [simprocAttr,-Int.reduceNatCast',go_sem]
  ·simp only [simprocAttr,-Int.reduceNatCast',go_sem,t47]
  ·simp only [simprocAttr,-Int.reduceNatCast',go_sem,t48]
  ·simp only [simprocAttr,-Int.reduceNatCast',go_sem]
theorem atoiI_ok (Gl:qzh) (s:List UInt8) (h1:1≤s.length) (hl:s.length≤18) (hd:∀ b∈s,digitS b=true):qzg Go.VL.Er.E Gl f_internal_strconv_Atoi [.str s] (.tuple [.int .i64 ((valS s:Nat):Int),.nilI]):=by
 refine qzd (qzc E_internal_strconv_Atoi ?_)
 unfold c_internal_strconv_Atoi r_internal_strconv_Atoi
 simp only [qzi]
 have c1:(0:Int) < (s.length:Int):=by omega
 have c2:(s.length:Int) < 19:=by omega
 have z0:natOf (.int .i64 0)=some 0:=rfl
 obtain ⟨b,hb⟩:∃ b,s[0]?=some b:=⟨s[0],List.getElem?_eq_getElem h1⟩
 have db:=digit_le (hd b (List.mem_of_getElem? hb))
 have e45:(((b.toNat:Nat):Int) == 45)=false:=beq_false_of_ne (by omega)
 have e43:(((b.toNat:Nat):Int) == 43)=false:=beq_false_of_ne (by omega)
 have l63:s.length < 9223372036854775808:=by omega
 simp only [simprocAttr,-Int.reduceNatCast',go_sem,c1,c2,z0,hb,e45,e43,l63]
 refine atoi_loop Gl s hl hd (valS s) (.str s) _ ?_ s 0 0 0 (.toEnd 1) _ _ rfl (Nat.zero_le _) (by simp) rfl ?_ ?_ ?_ ?_ ?_ ?_
 ·intro T h t5 t6
  simp only [simprocAttr,-Int.reduceNatCast',go_sem,t5,t6,z0,hb,e45]
  exact qza rfl
 all_goals simp only [simprocAttr,-Int.reduceNatCast',go_sem]
 all_goals rfl
theorem atoi_ok (Gl:qzh) (s:List UInt8) (h1:1≤s.length) (hl:s.length≤18) (hd:∀ b∈s,digitS b=true):qzg Go.VL.Er.E Gl f_strconv_Atoi [.str s] (.tuple [.int .i64 ((valS s:Nat):Int),.nilI]):=by
 refine qzd (qzc E_strconv_Atoi ?_)
 unfold c_strconv_Atoi r_strconv_Atoi
 simp only [qzi]
 simp only [simprocAttr,-Int.reduceNatCast',go_sem]
 refine qzb (atoiI_ok Gl s h1 hl hd) rfl rfl ?_
 simp only [simprocAttr,-Int.reduceNatCast',go_sem]
 exact qza rfl
def wholeV (s:List UInt8):Nat:=if allS s=true then valS s else 0
theorem whole_ok (Gl:qzh) (s:List UInt8) (hl:s.length < 4611686018427387904):qzg Go.VL.Er.E Gl f_number_Whole [.str s] (.tuple [.int .i64 ((wholeV s:Nat):Int),.bool (allS s)]):=by
 refine qzd (qzc E_number_Whole ?_)
 unfold c_number_Whole r_number_Whole wholeV
 simp only [qzi]
 simp only [simprocAttr,-Int.reduceNatCast',go_sem]
 refine qzb (allN_ok Gl s hl) rfl rfl ?_
 cases h:allS s
 ·simp only [simprocAttr,-Int.reduceNatCast',go_sem]
  exact qza rfl
 ·obtain ⟨a1,a2,a3⟩:=allS_digits h
  simp only [simprocAttr,-Int.reduceNatCast',go_sem]
  refine qzb (atoi_ok Gl s a2 (by omega) a1) rfl rfl ?_
  simp only [simprocAttr,-Int.reduceNatCast',go_sem]
  exact qza rfl
end
end Go.VL.Nu
