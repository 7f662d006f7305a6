/- Chapter 8: a word; whether all of a text is a name. -/
import Derived.Test.YtpobcoodmhhpaaaDoorVlK
import Derived.Test.YtpobcoodmhhpaaaDoorWoD
set_option linter.unusedSimpArgs false
set_option linter.unusedVariables false
namespace Go.VL.Wo
open Go.FR Go.IR Go.VL Go.VL.Er
noncomputable section
set_option maxRecDepth 100000
set_option maxHeartbeats 1000000
def idxB (s:List UInt8) (b:UInt8):Int:=match idxByte b s 0 with
 | some i=>(i:Int)
 | none=>-1
theorem idxP_ok (Gl:qzg) (s:List UInt8) (b:UInt8):qzf Go.VL.Er.E Gl f_internal_bytealg_IndexByteString [.str s,u8V b] (.int .i64 (idxB s b)):=fun G H as w k=>by
 obtain ⟨x,y,rfl,k1,k2⟩:=VRs.two k
 simp only [VR] at k1 k2
 subst k1;subst k2
 have hv:(match idxByte (UInt8.ofNat (((b.toNat:Nat):Int)).toNat) s 0 with | some i=>(i:Int) | none=>-1)=idxB s b:=by
  rw [Int.toNat_natCast,UInt8.ofNat_toNat];rfl
 refine ⟨1,_,H,G,fun M hM => ?_,w,Gz.le_refl _,rfl,Nat.le_refl _,fun _ _=>rfl,fun _ _ q => .inl q⟩
 obtain ⟨m,rfl⟩:∃ m,M=m+1:=⟨M - 1,by omega⟩
 have e:callN Go.VL.Er.E (m+1) f_internal_bytealg_IndexByteString [.str s,.int .u8 ((b.toNat:Nat):Int)] H=primA .indexByte [.str s,.int .u8 ((b.toNat:Nat):Int)] H:=by
  simp only [callN,E_internal_bytealg_IndexByteString,F_internal_bytealg_IndexByteString]
 rw [e]
 simp only [primA]
 exact congrArg (fun z=>some (AV.int .i64 z,H)) hv
attribute [local go_sem] erP t_p_api_At
theorem idxL_ok (Gl:qzg) (s:List UInt8) (b:UInt8):qzf Go.VL.Er.E Gl f_internal_stringslite_IndexByte [.str s,u8V b] (.int .i64 (idxB s b)):=by
 refine qze (qzd E_internal_stringslite_IndexByte ?_)
 unfold c_internal_stringslite_IndexByte r_internal_stringslite_IndexByte
 simp only [qzh]
 simp only [simprocAttr,-Int.reduceNatCast',go_sem]
 refine qzb (idxP_ok Gl s b) rfl rfl ?_
 simp only [simprocAttr,-Int.reduceNatCast',go_sem]
 exact qza rfl
theorem idxS_ok (Gl:qzg) (s:List UInt8) (b:UInt8):qzf Go.VL.Er.E Gl f_strings_IndexByte [.str s,u8V b] (.int .i64 (idxB s b)):=by
 refine qze (qzd E_strings_IndexByte ?_)
 unfold c_strings_IndexByte r_strings_IndexByte
 simp only [qzh]
 simp only [simprocAttr,-Int.reduceNatCast',go_sem]
 refine qzb (idxL_ok Gl s b) rfl rfl ?_
 simp only [simprocAttr,-Int.reduceNatCast',go_sem]
 exact qza rfl
def markS (b:UInt8):Bool:=b.toNat == 123 || b.toNat == 125 || b.toNat == 59 || b.toNat == 61
def stepS (b:UInt8):Bool:=b.toNat == 77 || b.toNat == 76 || b.toNat == 81 || b.toNat == 67 || b.toNat == 65 || b.toNat == 66 || b.toNat == 90
theorem mark_idx (b:UInt8):decide (idxB [123,125,59,61] b ≥ 0)=markS b:=by
 have all:∀ n:Fin 256,decide (idxB [123,125,59,61] (UInt8.ofNat n.val) ≥ 0)=markS (UInt8.ofNat n.val):=by decide +kernel
 have:=all ⟨b.toNat,b.toNat_lt⟩
 simpa using this
theorem step_idx (b:UInt8):decide (idxB [77,76,81,67,65,66,90] b ≥ 0)=stepS b:=by
 have all:∀ n:Fin 256,decide (idxB [77,76,81,67,65,66,90] (UInt8.ofNat n.val) ≥ 0)=stepS (UInt8.ofNat n.val):=by decide +kernel
 have:=all ⟨b.toNat,b.toNat_lt⟩
 simpa using this
def nextS:List UInt8→Nat × Nat
 | []=>(0,0)
 | b::r =>
  if lowS b then (if resS ((b::r).take (nameN (b::r))) then (2,nameN (b::r)) else (1,nameN (b::r)))
  else if digitS b || b.toNat == 45 then (3,numberN (b::r))
  else if b.toNat == 35 then (4,colorN (b::r))
  else if markS b then (5,1)
  else if stepS b && spanS wordS r == 0 then (6,1)
  else (0,0)
theorem nameN_le (s:List UInt8):nameN s≤s.length:=by
 unfold nameN
 have:=spanS_le nameS s
 split<;>omega
theorem numE_le {s:List UInt8} {n:Nat} (h:n≤s.length):numE s n≤s.length:=by unfold numE;split<;>omega
theorem numP_le {s:List UInt8} {n:Nat} (h:n≤s.length):numP s n≤s.length:=by
 unfold numP
 split
 ·rename_i e
  have hn:n < s.length:=by
   cases q:s[n]? with
   | none=>rw [q] at e;cases e
   | some x=>exact (List.getElem?_eq_some_iff.1 q).1
  have:=spanS_le digitS (s.drop (n+1))
  rw [List.length_drop] at this
  split
  ·omega
  ·exact numE_le (by omega)
 ·exact numE_le h
theorem numU_le {s:List UInt8} {a:Nat} (h:a≤s.length):numU s a≤s.length:=by
 unfold numU
 have:=spanS_le digitS (s.drop a)
 rw [List.length_drop] at this
 split
 ·omega
 ·exact numP_le (by omega)
theorem numberN_le (s:List UInt8):numberN s≤s.length:=by
 unfold numberN
 apply numU_le
 cases s with
 | nil=>simp
 | cons b s=>split<;>simp
theorem colorN_le (s:List UInt8) (h0:1≤s.length):colorN s≤s.length:=by
 unfold colorN
 have:=spanS_le hexS (s.drop 1)
 rw [List.length_drop] at this
 simp only
 split<;>omega
theorem nextS_le (s:List UInt8):(nextS s).2≤s.length:=by
 cases s with
 | nil=>simp [nextS]
 | cons b r =>
  unfold nextS
  have h1:=nameN_le (b::r)
  have h2:=numberN_le (b::r)
  have h3:=colorN_le (b::r) (by simp)
  simp only [List.length_cons] at *
  repeat' split
  all_goals simp only
  all_goals omega
theorem next_ok {Gl:qzg} (hs:GlSp Gl) (s:List UInt8) (h0:1≤s.length) (hl:s.length < 2305843009213693952):qzf Go.VL.Er.E Gl f_word_next [.str s] (.tuple [.int .i64 (((nextS s).1:Nat):Int),.int .i64 (((nextS s).2:Nat):Int)]):=by
 refine qze (qzd E_word_next ?_)
 unfold c_word_next r_word_next
 simp only [qzh]
 cases s with
 | nil=>simp at h0
 | cons b r =>
  have z0:natOf (.int .i64 0)=some 0:=rfl
  have z1:natOf (.int .i64 1)=some 1:=rfl
  have nl:=nameN_le (b::r)
  have e45:(((b.toNat:Nat):Int) == 45)=(b.toNat == 45):=beq_nat b.toNat 45
  have e35:(((b.toNat:Nat):Int) == 35)=(b.toNat == 35):=beq_nat b.toNat 35
  have mi:=mark_idx b
  have si:=step_idx b
  have l1:1≤r.length+1:=by omega
  have tr:(r.take (r.length+1 - 1))=r:=List.take_of_length_le (by omega)
  unfold nextS
  simp only [↓reduceIte,Nat.reduceAdd,Nat.reduceMul,Nat.reduceSub,Nat.reduceDiv,Nat.reduceLT,Nat.reduceEqDiff,reduceCtorEq,Nat.reduceLeDiff,Nat.reduceBEq,Int.reduceEq,Int.reduceLT,Int.reduceLE,Int.reduceBEq,Int.reduceGT,go_sem,z0]
  refine qzb (isLow_ok Gl b) rfl rfl ?_
  cases c1:lowS b
  ·simp only [↓reduceIte,Nat.reduceAdd,Nat.reduceMul,Nat.reduceSub,Nat.reduceDiv,Nat.reduceLT,Nat.reduceEqDiff,reduceCtorEq,Nat.reduceLeDiff,Nat.reduceBEq,Int.reduceEq,Int.reduceLT,Int.reduceLE,Int.reduceBEq,Int.reduceGT,go_sem]
   refine qzb (isDigit_ok Gl b) rfl rfl ?_
   cases c2:digitS b
   ·cases c3:(b.toNat == 45)
    ·cases c4:(b.toNat == 35)
     ·simp only [↓reduceIte,Nat.reduceAdd,Nat.reduceMul,Nat.reduceSub,Nat.reduceDiv,Nat.reduceLT,Nat.reduceEqDiff,reduceCtorEq,Nat.reduceLeDiff,Nat.reduceBEq,Int.reduceEq,Int.reduceLT,Int.reduceLE,Int.reduceBEq,Int.reduceGT,go_sem,e45,e35,c3,c4]
      refine qzb (idxS_ok Gl _ b) rfl rfl ?_
      cases c5:markS b
      ·rw [c5] at mi
       simp only [↓reduceIte,Nat.reduceAdd,Nat.reduceMul,Nat.reduceSub,Nat.reduceDiv,Nat.reduceLT,Nat.reduceEqDiff,reduceCtorEq,Nat.reduceLeDiff,Nat.reduceBEq,Int.reduceEq,Int.reduceLT,Int.reduceLE,Int.reduceBEq,Int.reduceGT,go_sem,mi]
       refine qzb (idxS_ok Gl _ b) rfl rfl ?_
       cases c6:stepS b
       ·rw [c6] at si
        simp only [↓reduceIte,Nat.reduceAdd,Nat.reduceMul,Nat.reduceSub,Nat.reduceDiv,Nat.reduceLT,Nat.reduceEqDiff,reduceCtorEq,Nat.reduceLeDiff,Nat.reduceBEq,Int.reduceEq,Int.reduceLT,Int.reduceLE,Int.reduceBEq,Int.reduceGT,go_sem,si]
        exact qza rfl
       ·rw [c6] at si
        simp only [↓reduceIte,Nat.reduceAdd,Nat.reduceMul,Nat.reduceSub,Nat.reduceDiv,Nat.reduceLT,Nat.reduceEqDiff,reduceCtorEq,Nat.reduceLeDiff,Nat.reduceBEq,Int.reduceEq,Int.reduceLT,Int.reduceLE,Int.reduceBEq,Int.reduceGT,go_sem,si,z1,l1,tr]
        refine qzb (span_ok Gl (inWord_ok Gl) r (by simp only [List.length_cons] at hl;omega)) rfl rfl ?_
        have e0:(((spanS wordS r:Nat):Int) == 0)=(spanS wordS r == 0):=beq_nat _ 0
        cases c7:(spanS wordS r == 0)
        ·simp only [↓reduceIte,Nat.reduceAdd,Nat.reduceMul,Nat.reduceSub,Nat.reduceDiv,Nat.reduceLT,Nat.reduceEqDiff,reduceCtorEq,Nat.reduceLeDiff,Nat.reduceBEq,Int.reduceEq,Int.reduceLT,Int.reduceLE,Int.reduceBEq,Int.reduceGT,go_sem,e0,c7]
         exact qza rfl
        ·simp only [↓reduceIte,Nat.reduceAdd,Nat.reduceMul,Nat.reduceSub,Nat.reduceDiv,Nat.reduceLT,Nat.reduceEqDiff,reduceCtorEq,Nat.reduceLeDiff,Nat.reduceBEq,Int.reduceEq,Int.reduceLT,Int.reduceLE,Int.reduceBEq,Int.reduceGT,go_sem,e0,c7]
         exact qza rfl
      ·rw [c5] at mi
       simp only [↓reduceIte,Nat.reduceAdd,Nat.reduceMul,Nat.reduceSub,Nat.reduceDiv,Nat.reduceLT,Nat.reduceEqDiff,reduceCtorEq,Nat.reduceLeDiff,Nat.reduceBEq,Int.reduceEq,Int.reduceLT,Int.reduceLE,Int.reduceBEq,Int.reduceGT,go_sem,mi]
       exact qza rfl
     ·simp only [↓reduceIte,Nat.reduceAdd,Nat.reduceMul,Nat.reduceSub,Nat.reduceDiv,Nat.reduceLT,Nat.reduceEqDiff,reduceCtorEq,Nat.reduceLeDiff,Nat.reduceBEq,Int.reduceEq,Int.reduceLT,Int.reduceLE,Int.reduceBEq,Int.reduceGT,go_sem,e45,e35,c3,c4]
      refine qzb (colorW_ok Gl _ h0 hl) rfl rfl ?_
      simp only [↓reduceIte,Nat.reduceAdd,Nat.reduceMul,Nat.reduceSub,Nat.reduceDiv,Nat.reduceLT,Nat.reduceEqDiff,reduceCtorEq,Nat.reduceLeDiff,Nat.reduceBEq,Int.reduceEq,Int.reduceLT,Int.reduceLE,Int.reduceBEq,Int.reduceGT,go_sem]
      exact qza rfl
    ·simp only [↓reduceIte,Nat.reduceAdd,Nat.reduceMul,Nat.reduceSub,Nat.reduceDiv,Nat.reduceLT,Nat.reduceEqDiff,reduceCtorEq,Nat.reduceLeDiff,Nat.reduceBEq,Int.reduceEq,Int.reduceLT,Int.reduceLE,Int.reduceBEq,Int.reduceGT,go_sem,e45,c3]
     refine qzb (numberW_ok Gl _ h0 hl) rfl rfl ?_
     simp only [↓reduceIte,Nat.reduceAdd,Nat.reduceMul,Nat.reduceSub,Nat.reduceDiv,Nat.reduceLT,Nat.reduceEqDiff,reduceCtorEq,Nat.reduceLeDiff,Nat.reduceBEq,Int.reduceEq,Int.reduceLT,Int.reduceLE,Int.reduceBEq,Int.reduceGT,go_sem]
     exact qza rfl
   ·simp only [↓reduceIte,Nat.reduceAdd,Nat.reduceMul,Nat.reduceSub,Nat.reduceDiv,Nat.reduceLT,Nat.reduceEqDiff,reduceCtorEq,Nat.reduceLeDiff,Nat.reduceBEq,Int.reduceEq,Int.reduceLT,Int.reduceLE,Int.reduceBEq,Int.reduceGT,go_sem]
    refine qzb (numberW_ok Gl _ h0 hl) rfl rfl ?_
    simp only [↓reduceIte,Nat.reduceAdd,Nat.reduceMul,Nat.reduceSub,Nat.reduceDiv,Nat.reduceLT,Nat.reduceEqDiff,reduceCtorEq,Nat.reduceLeDiff,Nat.reduceBEq,Int.reduceEq,Int.reduceLT,Int.reduceLE,Int.reduceBEq,Int.reduceGT,go_sem]
    exact qza rfl
  ·simp only [↓reduceIte,Nat.reduceAdd,Nat.reduceMul,Nat.reduceSub,Nat.reduceDiv,Nat.reduceLT,Nat.reduceEqDiff,reduceCtorEq,Nat.reduceLeDiff,Nat.reduceBEq,Int.reduceEq,Int.reduceLT,Int.reduceLE,Int.reduceBEq,Int.reduceGT,go_sem]
   refine qzb (name_ok Gl _ hl) rfl rfl ?_
   simp only [List.length_cons] at nl
   simp only [↓reduceIte,Nat.reduceAdd,Nat.reduceMul,Nat.reduceSub,Nat.reduceDiv,Nat.reduceLT,Nat.reduceEqDiff,reduceCtorEq,Nat.reduceLeDiff,Nat.reduceBEq,Int.reduceEq,Int.reduceLT,Int.reduceLE,Int.reduceBEq,Int.reduceGT,go_sem,natOf_n,nl,Nat.sub_zero]
   refine qzb (reserved_ok hs _) rfl rfl ?_
   cases c2:resS ((b::r).take (nameN (b::r)))
   ·simp only [↓reduceIte,Nat.reduceAdd,Nat.reduceMul,Nat.reduceSub,Nat.reduceDiv,Nat.reduceLT,Nat.reduceEqDiff,reduceCtorEq,Nat.reduceLeDiff,Nat.reduceBEq,Int.reduceEq,Int.reduceLT,Int.reduceLE,Int.reduceBEq,Int.reduceGT,go_sem]
    exact qza rfl
   ·simp only [↓reduceIte,Nat.reduceAdd,Nat.reduceMul,Nat.reduceSub,Nat.reduceDiv,Nat.reduceLT,Nat.reduceEqDiff,reduceCtorEq,Nat.reduceLeDiff,Nat.reduceBEq,Int.reduceEq,Int.reduceLT,Int.reduceLE,Int.reduceBEq,Int.reduceGT,go_sem]
    exact qza rfl
def isNameS (s:List UInt8):Bool:=(match s with
 | []=>false
 | b::_=>lowS b) && nameN s == s.length && !resS s
theorem isName_ok {Gl:qzg} (hs:GlSp Gl) (s:List UInt8) (hl:s.length < 2305843009213693952):qzf Go.VL.Er.E Gl f_word_IsName [.str s] (.bool (isNameS s)):=by
 refine qze (qzd E_word_IsName ?_)
 unfold c_word_IsName r_word_IsName
 simp only [qzh]
 cases s with
 | nil =>
  have c:(([]:List UInt8) == [])=true:=rfl
  simp only [simprocAttr,-Int.reduceNatCast',go_sem,strBin,c]
  exact qza rfl
 | cons b r =>
  have c:((b::r) == ([]:List UInt8))=false:=rfl
  have z0:natOf (.int .i64 0)=some 0:=rfl
  unfold isNameS
  simp only [simprocAttr,-Int.reduceNatCast',go_sem,strBin,c,z0]
  refine qzb (isLow_ok Gl b) rfl rfl ?_
  cases c1:lowS b
  ·simp only [simprocAttr,-Int.reduceNatCast',go_sem]
   exact qza rfl
  ·simp only [simprocAttr,-Int.reduceNatCast',go_sem]
   refine qzb (name_ok Gl _ hl) rfl rfl ?_
   have e0:(((nameN (b::r):Nat):Int) == ((r.length+1:Nat):Int))=(nameN (b::r) == r.length+1):=beq_nat _ _
   cases c2:(nameN (b::r) == r.length+1)
   ·simp only [simprocAttr,-Int.reduceNatCast',go_sem,e0,c2]
    exact qza rfl
   ·simp only [simprocAttr,-Int.reduceNatCast',go_sem,e0,c2]
    refine qzb (reserved_ok hs _) rfl rfl ?_
    simp only [simprocAttr,-Int.reduceNatCast',go_sem]
    exact qza rfl
end
end Go.VL.Wo
