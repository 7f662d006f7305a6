import Derived.Test.YtlgkadhogiedoaaDoorVlK
import Derived.Test.YtlgkadhogiedoaaDoorWoA
set_option linter.unusedSimpArgs false
set_option linter.unusedVariables false
namespace Go.VL.Nu
open Go.FR Go.IR Go.VL Go.VL.Er Go.VL.Wo
noncomputable section
set_option maxRecDepth 100000
set_option maxHeartbeats 1000000
attribute [local go_sem] erP t_p_api_At
theorem cutPre_lite (Gl:qzh) (s p:List UInt8):qzg Go.VL.Er.E Gl f_internal_stringslite_CutPrefix [.str s,.str p] (.tuple [.str (if prefS s p then s.drop p.length else s),.bool (prefS s p)]):=by
 refine qzd (qzc E_internal_stringslite_CutPrefix ?_)
 unfold c_internal_stringslite_CutPrefix r_internal_stringslite_CutPrefix
 simp only [qzi]
 simp only [simprocAttr,-Int.reduceNatCast',go_sem]
 refine qzb (hasPre_lite Gl s p) rfl rfl ?_
 cases h:prefS s p
 ·simp only [simprocAttr,-Int.reduceNatCast',go_sem]
  exact qza rfl
 ·have l:p.length≤s.length:=by
   unfold prefS at h
   simp only [Bool.and_eq_true,decide_eq_true_eq] at h
   exact h.1
  have t:(s.drop p.length).take (s.length - p.length)=s.drop p.length:=List.take_of_length_le (by rw [List.length_drop];omega)
  simp only [simprocAttr,-Int.reduceNatCast',go_sem,natOf_n,l,t]
  exact qza rfl
theorem cutPre_ok (Gl:qzh) (s p:List UInt8):qzg Go.VL.Er.E Gl f_strings_CutPrefix [.str s,.str p] (.tuple [.str (if prefS s p then s.drop p.length else s),.bool (prefS s p)]):=by
 refine qzd (qzc E_strings_CutPrefix ?_)
 unfold c_strings_CutPrefix r_strings_CutPrefix
 simp only [qzi]
 simp only [simprocAttr,-Int.reduceNatCast',go_sem]
 refine qzb (cutPre_lite Gl s p) rfl rfl ?_
 simp only [simprocAttr,-Int.reduceNatCast',go_sem]
 exact qza rfl
theorem idxByte_in:∀ (s:List UInt8) (c:UInt8) (k i:Nat),idxByte c s k=some i→k≤i∧i < k+s.length
 | [],c,k,i,h=>by simp [idxByte] at h
 | b::s,c,k,i,h=>by
  unfold idxByte at h
  simp only [List.length_cons]
  split at h
  ·simp only [Option.some.injEq] at h;omega
  ·have:=idxByte_in s c (k+1) i h;omega
theorem index1_ok (Gl:qzh) (s:List UInt8) (c:UInt8):qzg Go.VL.Er.E Gl f_internal_stringslite_Index [.str s,.str [c]] (.int .i64 (idxB s c)):=by
 refine qzd (qzc E_internal_stringslite_Index ?_)
 unfold c_internal_stringslite_Index r_internal_stringslite_Index
 simp only [qzi]
 have z0:natOf (.int .i64 0)=some 0:=rfl
 have b0:(((1:Nat):Int) == 0)=false:=rfl
 have b1:(((1:Nat):Int) == 1)=true:=rfl
 simp only [simprocAttr,-Int.reduceNatCast',go_sem,z0,b0,b1,strBin]
 refine ⟨fun e => ?_,fun e => ?_⟩
 ·have:s=[c]:=(by simpa using e:[c]=s).symm
  subst this
  have:idxB [c] c=0:=by simp [idxB,idxByte]
  rw [this]
  exact qza rfl
 ·refine qzb (idxL_ok Gl s c) rfl rfl ?_
  simp only [simprocAttr,-Int.reduceNatCast',go_sem]
  exact qza rfl
def cutS (s:List UInt8) (c:UInt8):List UInt8 × List UInt8 × Bool:=match idxByte c s 0 with
 | some i=>(s.take i,s.drop (i+1),true)
 | none=>(s,[],false)
theorem cut_lite (Gl:qzh) (s:List UInt8) (c:UInt8) (hl:s.length < 4611686018427387904):qzg Go.VL.Er.E Gl f_internal_stringslite_Cut [.str s,.str [c]] (.tuple [.str (cutS s c).1,.str (cutS s c).2.1,.bool (cutS s c).2.2]):=by
 refine qzd (qzc E_internal_stringslite_Cut ?_)
 unfold c_internal_stringslite_Cut r_internal_stringslite_Cut cutS
 simp only [qzi]
 simp only [simprocAttr,-Int.reduceNatCast',go_sem]
 refine qzb (index1_ok Gl s c) rfl rfl ?_
 unfold idxB
 cases h:idxByte c s 0 with
 | none =>
  have c1:¬((-1:Int) ≥ 0):=by omega
  simp only
  simp only [simprocAttr,-Int.reduceNatCast',go_sem,c1]
  exact qza rfl
 | some i =>
  obtain ⟨_,hi⟩:=idxByte_in s c 0 i h
  have c1:((i:Int) ≥ 0):=by omega
  have l1:i≤s.length:=by omega
  have l2:i+1≤s.length:=by omega
  have w:IntKind.i64.wrap ((i:Int)+((1:Nat):Int))=((i+1:Nat):Int):=by rw [qze (by omega) (by omega)];rfl
  have t:(s.drop (i+1)).take (s.length - (i+1))=s.drop (i+1):=List.take_of_length_le (by rw [List.length_drop];omega)
  simp only
  simp only [simprocAttr,-Int.reduceNatCast',go_sem,c1,natOf_n,l1,l2,w,t,Nat.sub_zero]
  exact qza rfl
theorem cut_ok (Gl:qzh) (s:List UInt8) (c:UInt8) (hl:s.length < 4611686018427387904):qzg Go.VL.Er.E Gl f_strings_Cut [.str s,.str [c]] (.tuple [.str (cutS s c).1,.str (cutS s c).2.1,.bool (cutS s c).2.2]):=by
 refine qzd (qzc E_strings_Cut ?_)
 unfold c_strings_Cut r_strings_Cut
 simp only [qzi]
 simp only [simprocAttr,-Int.reduceNatCast',go_sem]
 refine qzb (cut_lite Gl s c hl) rfl rfl ?_
 simp only [simprocAttr,-Int.reduceNatCast',go_sem]
 exact qza rfl
theorem repeat_ok (Gl:qzh):qzg Go.VL.Er.E Gl f_strings_Repeat [.str [48],.int .i64 6] (.str [48,48,48,48,48,48]):=fun G H as w k=>by
 obtain ⟨x,y,rfl,k1,k2⟩:=VRs.two k
 simp only [VR] at k1 k2
 subst k1;subst k2
 refine ⟨12,.str [48,48,48,48,48,48],H,G,fun M hM => ?_,w,Gz.le_refl _,rfl,Nat.le_refl _,fun _ _=>rfl,fun _ _ q => .inl q⟩
 obtain ⟨m,rfl⟩:∃ m,M=m+12:=⟨M - 12,by omega⟩
 rfl
end
end Go.VL.Nu
namespace Go.VL.Nu
open Go.FR Go.IR Go.VL Go.VL.Er Go.VL.Wo
noncomputable section
set_option maxRecDepth 100000
set_option maxHeartbeats 1000000
def zeros6:List UInt8:=[48,48,48,48,48,48]
def restS (s:List UInt8):List UInt8:=if prefS s [45] then s.drop 1 else s
def unitS (s:List UInt8):List UInt8:=(cutS (restS s) 46).1
def partS (s:List UInt8):List UInt8:=(cutS (restS s) 46).2.1
def pointS (s:List UInt8):Bool:=(cutS (restS s) 46).2.2
def parOK (s:List UInt8):Bool:=allS (unitS s) && (!pointS s || allS (partS s))
def parA (s:List UInt8):Nat:=wholeV (unitS s)*1000000+wholeV ((partS s++zeros6).take 6)
def parN (s:List UInt8):Int:=if parOK s then (if prefS s [45] then -(parA s:Int) else parA s) else 0
def parE (s:List UInt8):ErrV:=if parOK s then .none else .bare 0
theorem wholeV_lt (s:List UInt8):wholeV s < 1000000:=by
 unfold wholeV
 cases h:allS s
 ·simp
 ·obtain ⟨a1,a2,a3⟩:=allS_digits h
  have:=valS_lt a1
  have q:10 ^ s.length≤10 ^ 6:=Nat.pow_le_pow_right (by omega) a3
  simp only [if_true]
  exact Nat.lt_of_lt_of_le this q
theorem parA_lt (s:List UInt8):parA s < 1000000000000:=by
 unfold parA
 have h1:=wholeV_lt (unitS s)
 have h2:=wholeV_lt ((partS s++zeros6).take 6)
 omega
theorem cutS_len (s:List UInt8) (c:UInt8):(cutS s c).1.length≤s.length∧(cutS s c).2.1.length≤s.length:=by
 unfold cutS
 cases idxByte c s 0 with
 | none=>simp
 | some i=>simp;omega
theorem restS_len (s:List UInt8):(restS s).length≤s.length:=by unfold restS;split<;>simp
attribute [local go_sem] erP t_p_api_At
theorem parse_ok {Gl:qzh} (hg:qzf Gl 0=some [erP 0]) (s:List UInt8) (hl:s.length < 2305843009213693952):qzg Go.VL.Er.E Gl f_number_Parse [.str s] (.tuple [.int .i64 (parN s),(parE s).v]):=by
 refine qzd (qzc E_number_Parse ?_)
 unfold c_number_Parse r_number_Parse
 simp only [qzi]
 have rl:=restS_len s
 obtain ⟨ul,pl⟩:=cutS_len (restS s) 46
 have k1:qzg Go.VL.Er.E Gl f_strings_CutPrefix [.str s,.str [45]] (.tuple [.str (restS s),.bool (prefS s [45])]):=cutPre_ok Gl s [45]
 have k2:=cut_ok Gl (restS s) 46 (by omega)
 have k3:=allN_ok Gl (unitS s) (by unfold unitS;omega)
 have k4:=allN_ok Gl (partS s) (by unfold partS;omega)
 have k5:=whole_ok Gl (unitS s) (by unfold unitS;omega)
 have k6:=whole_ok Gl ((partS s++zeros6).take 6) (by simp;omega)
 have h1:=wholeV_lt (unitS s)
 have h2:=wholeV_lt ((partS s++zeros6).take 6)
 have l12:(partS s).length+6≤9223372036854775807:=by unfold partS;omega
 have l6:6≤(partS s++zeros6).length:=by simp [zeros6]
 have z6:natOf (.int .i64 6)=some 6:=rfl
 have w1:IntKind.i64.wrap (((wholeV (unitS s):Nat):Int)*1000000)=((wholeV (unitS s)*1000000:Nat):Int):=by rw [qze (by omega) (by omega)];omega
 have w2:IntKind.i64.wrap (((wholeV (unitS s)*1000000:Nat):Int)+((wholeV ((partS s++zeros6).take 6):Nat):Int))=((parA s:Nat):Int):=by unfold parA;rw [qze (by omega) (by omega)];omega
 have lA:=parA_lt s
 have w3:IntKind.i64.wrap (0 - ((parA s:Nat):Int))=-((parA s:Nat):Int):=by rw [qze (by omega) (by omega)];omega
 have e1:(cutS (restS s) 46).1=unitS s:=rfl
 have e2:(cutS (restS s) 46).2.1=partS s:=rfl
 have e3:(cutS (restS s) 46).2.2=pointS s:=rfl
 rw [e1,e2,e3] at k2
 unfold parN parE
 simp only [simprocAttr,-Int.reduceNatCast',go_sem]
 refine qzb k1 rfl rfl ?_
 simp only [simprocAttr,-Int.reduceNatCast',go_sem]
 refine qzb k2 rfl rfl ?_
 simp only [simprocAttr,-Int.reduceNatCast',go_sem]
 refine qzb k3 rfl rfl ?_
 cases a1:allS (unitS s)
 ·have ok:parOK s=false:=by unfold parOK;rw [a1];rfl
  simp only [simprocAttr,-Int.reduceNatCast',go_sem,g_ErrText,hg,ok]
  exact qza rfl
 ·rcases Bool.eq_false_or_eq_true (pointS s) with a2 | a2
  case' inl =>
   simp only [simprocAttr,-Int.reduceNatCast',go_sem,a2]
   refine qzb k4 rfl rfl ?_
   rcases Bool.eq_false_or_eq_true (allS (partS s)) with a3 | a3
  case' inl.inr =>
   have ok:parOK s=false:=by unfold parOK;rw [a1,a2,a3];rfl
   simp only [simprocAttr,-Int.reduceNatCast',go_sem,g_ErrText,hg,ok,a3]
   exact qza rfl
  case' inl.inl =>
   have ok:parOK s=true:=by unfold parOK;rw [a1,a2,a3];rfl
   simp only [simprocAttr,-Int.reduceNatCast',go_sem,a3]
  case' inr =>
   have ok:parOK s=true:=by unfold parOK;rw [a1,a2];rfl
   simp only [simprocAttr,-Int.reduceNatCast',go_sem,a2]
  all_goals
   rw [a1] at k5
   refine qzb k5 rfl rfl ?_
   simp only [simprocAttr,-Int.reduceNatCast',go_sem]
   refine qzb (repeat_ok Gl) rfl rfl ?_
   simp only [simprocAttr,-Int.reduceNatCast',go_sem,strBin,l12,z6,Nat.sub_zero]
   have lz:(partS s++[48,48,48,48,48,48]).length=(partS s++zeros6).length:=rfl
   have l6':6≤(partS s++[48,48,48,48,48,48]).length:=l6
   try simp only [simprocAttr,-Int.reduceNatCast',go_sem,l6',Nat.sub_zero]
   refine qzb k6 rfl rfl ?_
   cases sg:prefS s [45]
   ·simp only [simprocAttr,-Int.reduceNatCast',go_sem,w1,w2,ok]
    exact qza rfl
   ·simp only [simprocAttr,-Int.reduceNatCast',go_sem,w1,w2,w3,ok]
    exact qza rfl
end
end Go.VL.Nu
