import Derived.Test.YtpobcoodmhhpaaaDoorVlK
import Derived.Test.YtpobcoodmhhpaaaDoorIrA
set_option linter.unusedSimpArgs false
set_option linter.unusedVariables false
namespace Go.VL.Er
open Go.FR Go.IR Go.VL
noncomputable section
set_option maxRecDepth 100000
set_option maxHeartbeats 1000000
abbrev E:=lookE envL
abbrev erP (k:Nat):VV := .iface t_p_errors_errorString (.gptr (2*k+1) 0)
abbrev atV (k:Nat) (pos:Int):VV := .iface t_p_api_At (.fptr [.int .i64 pos,erP k] 0)
def GlHas (Gl:qzh) (k:Nat):Prop:=qzf Gl (2*k)=some [erP k]∧(qzf Gl (2*k+1)).isSome=true
def GlAll (Gl:qzh):Prop:=∀ k,k < 13→GlHas Gl k
structure Fault where
 code:Int
 placed:Bool
 pos:Int
deriving DecidableEq
abbrev cFault (f:Fault):List VV:=[.int .i64 f.code,.bool f.placed,.int .i64 f.pos]
def bareF (n:Int):Fault:=⟨n,false,0⟩
def placedF (n pos:Int):Fault:=if n=0 then bareF 0 else ⟨n,true,pos⟩
attribute [local go_sem] cFault erP atV t_p_api_At t_p_errors_errorString
end
end Go.VL.Er
namespace Go.VL.Er
open Go.FR Go.IR Go.VL
noncomputable section
set_option maxRecDepth 100000
set_option maxHeartbeats 1000000
attribute [local go_sem] cFault erP atV t_p_api_At t_p_errors_errorString
inductive ErrV where
 | none
 | bare (k:Nat)
 | placed (k:Nat) (pos:Int)
def ErrV.v:ErrV→VV
 | .none => .nilI
 | .bare k=>erP k
 | .placed k pos=>atV k pos
def ErrV.ok:ErrV→Prop
 | .none=>True
 | .bare k=>k < 13
 | .placed k _=>k < 13
def ErrV.f:ErrV→Fault
 | .none=>bareF 0
 | .bare k=>bareF (101+(k:Int))
 | .placed k pos=>placedF (101+(k:Int)) pos
end
end Go.VL.Er
namespace Go.VL.Wo
open Go.FR Go.IR Go.VL Go.VL.Er
noncomputable section
set_option maxRecDepth 100000
set_option maxHeartbeats 1000000
abbrev u8V (b:UInt8):VV := .int .u8 ((b.toNat:Nat):Int)
def blankS (b:UInt8):Bool:=b.toNat == 32 || b.toNat == 9 || b.toNat == 10 || b.toNat == 13
def digitS (b:UInt8):Bool:=decide (48≤b.toNat) && decide (b.toNat≤57)
def hexS (b:UInt8):Bool:=digitS b || (decide (97≤b.toNat) && decide (b.toNat≤102))
def lowS (b:UInt8):Bool:=decide (97≤b.toNat) && decide (b.toNat≤122)
def nameS (b:UInt8):Bool:=lowS b || digitS b || b.toNat == 95
def wordS (b:UInt8):Bool:=nameS b || (decide (65≤b.toNat) && decide (b.toNat≤90))
def lineS (b:UInt8):Bool:=b.toNat != 10
theorem beq_nat (x y:Nat):((x:Int) == (y:Int))=(x == y):=by
 rw [Bool.eq_iff_iff,beq_iff_eq,beq_iff_eq];omega
theorem natOf_n (k:IntKind) (n:Nat):natOf (.int k (n:Int))=some n:=by simp [natOf]
attribute [local go_sem] erP t_p_api_At
def spanS (p:UInt8→Bool):List UInt8→Nat
 | []=>0
 | b::s=>if p b then spanS p s+1 else 0
end
end Go.VL.Wo
namespace Go.VL.Wo
open Go.FR Go.IR Go.VL Go.VL.Er
noncomputable section
set_option maxRecDepth 100000
set_option maxHeartbeats 1000000
def prefS (s p:List UInt8):Bool:=decide (p.length≤s.length) && (s.take p.length == p)
attribute [local go_sem] erP t_p_api_At
theorem hasPre_lite (Gl:qzh) (s p:List UInt8):qzg Go.VL.Er.E Gl f_internal_stringslite_HasPrefix [.str s,.str p] (.bool (prefS s p)):=by
 refine qze (qzc E_internal_stringslite_HasPrefix ?_)
 unfold c_internal_stringslite_HasPrefix r_internal_stringslite_HasPrefix prefS
 simp only [qzi]
 by_cases h:p.length≤s.length
 ·have c1:(s.length:Int) ≥ (p.length:Int):=by omega
  simp only [simprocAttr,-Int.reduceNatCast',go_sem,c1,h,natOf_n,Nat.sub_zero,strBin]
  exact qza rfl
 ·have c1:¬(s.length:Int) ≥ (p.length:Int):=by omega
  simp only [simprocAttr,-Int.reduceNatCast',go_sem,c1,h]
  exact qza rfl
def gapM:Bool→List UInt8→Nat
 | _,[]=>0
 | true,b::s=>if b.toNat=10 then gapM false s+1 else gapM true s+1
 | false,b::s=>if blankS b then gapM false s+1 else if b.toNat=47∧(s.head?.map UInt8.toNat)=some 47 then gapM true s+1 else 0
abbrev gapS (s:List UInt8):Nat:=gapM false s
def endsS:List UInt8→Bool
 | []=>true
 | b::_ => !wordS b && b.toNat != 46 && b.toNat != 35
def nameN (s:List UInt8):Nat:=if spanS nameS s > 24 then 0 else spanS nameS s
def colorN (s:List UInt8):Nat :=
 let n:=1+spanS hexS (s.drop 1)
 if (n=7∨n=9)∧endsS (s.drop n)=true then n else 0
end
end Go.VL.Wo
namespace Go.VL.Wo
open Go.FR Go.IR Go.VL Go.VL.Er
noncomputable section
set_option maxRecDepth 100000
set_option maxHeartbeats 1000000
def numE (s:List UInt8) (n:Nat):Nat:=if endsS (s.drop n)=true then n else 0
def numP (s:List UInt8) (n:Nat):Nat :=
 if (s[n]?.map UInt8.toNat)=some 46 then
  (if spanS digitS (s.drop (n+1)) < 1∨spanS digitS (s.drop (n+1)) > 6 then 0 else numE s (n+(1+spanS digitS (s.drop (n+1)))))
 else numE s n
def numU (s:List UInt8) (a:Nat):Nat:=if spanS digitS (s.drop a) < 1∨spanS digitS (s.drop a) > 6 then 0 else numP s (a+spanS digitS (s.drop a))
def numberN (s:List UInt8):Nat:=numU s (if (s[0]?.map UInt8.toNat)=some 45 then 1 else 0)
end
end Go.VL.Wo
namespace Go.VL.Wo
open Go.FR Go.IR Go.VL Go.VL.Er
noncomputable section
set_option maxRecDepth 100000
set_option maxHeartbeats 1000000
def KS:List UInt8:=[105,99,111,110,32,115,99,97,108,101,32,99,111,110,115,116,32,99,111,108,111,114,32,115,104,97,112,101,32,102,105,108,108,32,101,118,101,110,111,100,100,32,110,111,110,122,101,114,111,32,108,105,110,101,32,108,105,110,101,97,114,32,114,97,100,105,97,108,32,112,97,116,104,32,117,115,101,32,97,116,32,98,121,32,116,117,114,110]
def keysS:List (List UInt8):=[[105,99,111,110],[115,99,97,108,101],[99,111,110,115,116],[99,111,108,111,114],[115,104,97,112,101],[102,105,108,108],[101,118,101,110,111,100,100],[110,111,110,122,101,114,111],[108,105,110,101],[108,105,110,101,97,114],[114,97,100,105,97,108],[112,97,116,104],[117,115,101],[97,116],[98,121],[116,117,114,110]]
def spB (b:UInt8):Bool:=b.toNat == 9 || b.toNat == 10 || b.toNat == 11 || b.toNat == 12 || b.toNat == 13 || b.toNat == 32
def bitV (k:IntKind) (c:Bool):VV := .int k (if c then 1 else 0)
def spTab:List VV:=(List.range 256).map fun n=>bitV .u8 (spB (UInt8.ofNat n))
def spZ:List Int:=(List.range 256).map fun n=>if spB (UInt8.ofNat n) then 1 else 0
def cntS:List UInt8→Bool→Nat
 | [],_=>0
 | b::r,was=>(if was && !spB b then 1 else 0)+cntS r (spB b)
attribute [local go_sem] erP t_p_api_At iAddrAV mkSliceV repV
def fldF (s:List UInt8):List UInt8→Nat→Nat→Nat→List VV→Option (Nat × Nat × List VV)
 | [],_,st,na,cs=>some (st,na,cs)
 | b::r,k,st,na,cs=>if spB b=false then fldF s r (k+1) st na cs else
  match r.head? with
  | none=>none
  | some c=>if spB c=false∧na < cs.length∧st≤k then fldF s r (k+1) (k+1) (na+1) (cs.set na (.str ((s.drop st).take (k - st)))) else none
def fin0:List VV:=List.replicate 16 (.str [])
def idxT:List (List UInt8)→List UInt8→Nat→Int
 | [],_,_=>-1
 | x::l,s,k=>if s=x then k else idxT l s (k+1)
def resS (s:List UInt8):Bool:=keysS.contains s
end
end Go.VL.Wo
namespace Go.VL.Wo
open Go.FR Go.IR Go.VL Go.VL.Er
noncomputable section
set_option maxRecDepth 100000
set_option maxHeartbeats 1000000
def idxB (s:List UInt8) (b:UInt8):Int:=match idxByte b s 0 with
 | some i=>(i:Int)
 | none=>-1
theorem idxP_ok (Gl:qzh) (s:List UInt8) (b:UInt8):qzg Go.VL.Er.E Gl f_internal_bytealg_IndexByteString [.str s,u8V b] (.int .i64 (idxB s b)):=fun G H as w k=>by
 obtain ⟨x,y,rfl,k1,k2⟩:=VRs.two k
 simp only [VR] at k1 k2
 subst k1;subst k2
 have hv:(match idxByte (UInt8.ofNat (((b.toNat:Nat):Int)).toNat) s 0 with | some i=>(i:Int) | none=>-1)=idxB s b:=by
  rw [Int.toNat_natCast,UInt8.ofNat_toNat];rfl
 refine ⟨1,_,H,G,fun M hM => ?_,w,Gz.le_refl _,rfl,Nat.le_refl _,fun _ _=>rfl,fun _ _ q => .inl q⟩
 obtain ⟨m,rfl⟩:∃ m,M=m+1:=⟨M - 1,by omega⟩
 have e:callN Go.VL.Er.E (m+1) f_internal_bytealg_IndexByteString [.str s,.int .u8 ((b.toNat:Nat):Int)] H=primA .indexByte [.str s,.int .u8 ((b.toNat:Nat):Int)] H:=by
  simp only [callN,E_internal_bytealg_IndexByteString,F_internal_bytealg_IndexByteString]
 rw [e]
 simp only [primA]
 exact congrArg (fun z=>some (AV.int .i64 z,H)) hv
attribute [local go_sem] erP t_p_api_At
theorem idxL_ok (Gl:qzh) (s:List UInt8) (b:UInt8):qzg Go.VL.Er.E Gl f_internal_stringslite_IndexByte [.str s,u8V b] (.int .i64 (idxB s b)):=by
 refine qze (qzc E_internal_stringslite_IndexByte ?_)
 unfold c_internal_stringslite_IndexByte r_internal_stringslite_IndexByte
 simp only [qzi]
 simp only [simprocAttr,-Int.reduceNatCast',go_sem]
 refine qzb (idxP_ok Gl s b) rfl rfl ?_
 simp only [simprocAttr,-Int.reduceNatCast',go_sem]
 exact qza rfl
def markS (b:UInt8):Bool:=b.toNat == 123 || b.toNat == 125 || b.toNat == 59 || b.toNat == 61
def stepS (b:UInt8):Bool:=b.toNat == 77 || b.toNat == 76 || b.toNat == 81 || b.toNat == 67 || b.toNat == 65 || b.toNat == 66 || b.toNat == 90
def nextS:List UInt8→Nat × Nat
 | []=>(0,0)
 | b::r =>
  if lowS b then (if resS ((b::r).take (nameN (b::r))) then (2,nameN (b::r)) else (1,nameN (b::r)))
  else if digitS b || b.toNat == 45 then (3,numberN (b::r))
  else if b.toNat == 35 then (4,colorN (b::r))
  else if markS b then (5,1)
  else if stepS b && spanS wordS r == 0 then (6,1)
  else (0,0)
def isNameS (s:List UInt8):Bool:=(match s with
 | []=>false
 | b::_=>lowS b) && nameN s == s.length && !resS s
end
end Go.VL.Wo
