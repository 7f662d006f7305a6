/- Chapter 8: rows of words. -/
import Derived.Test.YtpobcoodmhhpaaaDoorWoF
set_option linter.unusedSimpArgs false
set_option linter.unusedVariables false
namespace Go.VL.Wo
open Go.FR Go.IR Go.VL Go.VL.Er
noncomputable section
set_option maxRecDepth 100000
set_option maxHeartbeats 1000000
def txtT:List (List UInt8):=[[97,98,99],[120,95,49],[105,99,111,110],[116,117,114,110],[49,50],[45,48,46,53],[57,57,57,57,57,57,46,57,57,57,57,57,57],[35,48,48,102,102,48,48],[35,49,50,51,52,53,54,55,56],[123],[125],[59],[61],[77],[76],[81],[67],[65],[66],[90]]
def kdT:List Nat:=[1,1,2,2,3,3,3,4,4,5,5,5,5,6,6,6,6,6,6,6]
def gpT:List (List UInt8):=[[32],[10],[9,13,32],[32,47,47,32,77,32,123,10],[47,47,10]]
theorem nt0 (r:List UInt8):∀ g,g < 5→nextS (([97,98,99]:List UInt8)++(gpT.getD g []++r))=(1,3)
 | 0,_=>rfl
 | 1,_=>rfl
 | 2,_=>rfl
 | 3,_=>rfl
 | 4,_=>rfl
 | n+5,h=>absurd h (by omega)
theorem nt1 (r:List UInt8):∀ g,g < 5→nextS (([120,95,49]:List UInt8)++(gpT.getD g []++r))=(1,3)
 | 0,_=>rfl
 | 1,_=>rfl
 | 2,_=>rfl
 | 3,_=>rfl
 | 4,_=>rfl
 | n+5,h=>absurd h (by omega)
theorem nt2 (r:List UInt8):∀ g,g < 5→nextS (([105,99,111,110]:List UInt8)++(gpT.getD g []++r))=(2,4)
 | 0,_=>rfl
 | 1,_=>rfl
 | 2,_=>rfl
 | 3,_=>rfl
 | 4,_=>rfl
 | n+5,h=>absurd h (by omega)
theorem nt3 (r:List UInt8):∀ g,g < 5→nextS (([116,117,114,110]:List UInt8)++(gpT.getD g []++r))=(2,4)
 | 0,_=>rfl
 | 1,_=>rfl
 | 2,_=>rfl
 | 3,_=>rfl
 | 4,_=>rfl
 | n+5,h=>absurd h (by omega)
theorem nt4 (r:List UInt8):∀ g,g < 5→nextS (([49,50]:List UInt8)++(gpT.getD g []++r))=(3,2)
 | 0,_=>rfl
 | 1,_=>rfl
 | 2,_=>rfl
 | 3,_=>rfl
 | 4,_=>rfl
 | n+5,h=>absurd h (by omega)
theorem nt5 (r:List UInt8):∀ g,g < 5→nextS (([45,48,46,53]:List UInt8)++(gpT.getD g []++r))=(3,4)
 | 0,_=>rfl
 | 1,_=>rfl
 | 2,_=>rfl
 | 3,_=>rfl
 | 4,_=>rfl
 | n+5,h=>absurd h (by omega)
theorem nt6 (r:List UInt8):∀ g,g < 5→nextS (([57,57,57,57,57,57,46,57,57,57,57,57,57]:List UInt8)++(gpT.getD g []++r))=(3,13)
 | 0,_=>rfl
 | 1,_=>rfl
 | 2,_=>rfl
 | 3,_=>rfl
 | 4,_=>rfl
 | n+5,h=>absurd h (by omega)
theorem nt7 (r:List UInt8):∀ g,g < 5→nextS (([35,48,48,102,102,48,48]:List UInt8)++(gpT.getD g []++r))=(4,7)
 | 0,_=>rfl
 | 1,_=>rfl
 | 2,_=>rfl
 | 3,_=>rfl
 | 4,_=>rfl
 | n+5,h=>absurd h (by omega)
theorem nt8 (r:List UInt8):∀ g,g < 5→nextS (([35,49,50,51,52,53,54,55,56]:List UInt8)++(gpT.getD g []++r))=(4,9)
 | 0,_=>rfl
 | 1,_=>rfl
 | 2,_=>rfl
 | 3,_=>rfl
 | 4,_=>rfl
 | n+5,h=>absurd h (by omega)
theorem nt9 (r:List UInt8):∀ g,g < 5→nextS (([123]:List UInt8)++(gpT.getD g []++r))=(5,1)
 | 0,_=>rfl
 | 1,_=>rfl
 | 2,_=>rfl
 | 3,_=>rfl
 | 4,_=>rfl
 | n+5,h=>absurd h (by omega)
theorem nt10 (r:List UInt8):∀ g,g < 5→nextS (([125]:List UInt8)++(gpT.getD g []++r))=(5,1)
 | 0,_=>rfl
 | 1,_=>rfl
 | 2,_=>rfl
 | 3,_=>rfl
 | 4,_=>rfl
 | n+5,h=>absurd h (by omega)
theorem nt11 (r:List UInt8):∀ g,g < 5→nextS (([59]:List UInt8)++(gpT.getD g []++r))=(5,1)
 | 0,_=>rfl
 | 1,_=>rfl
 | 2,_=>rfl
 | 3,_=>rfl
 | 4,_=>rfl
 | n+5,h=>absurd h (by omega)
theorem nt12 (r:List UInt8):∀ g,g < 5→nextS (([61]:List UInt8)++(gpT.getD g []++r))=(5,1)
 | 0,_=>rfl
 | 1,_=>rfl
 | 2,_=>rfl
 | 3,_=>rfl
 | 4,_=>rfl
 | n+5,h=>absurd h (by omega)
theorem nt13 (r:List UInt8):∀ g,g < 5→nextS (([77]:List UInt8)++(gpT.getD g []++r))=(6,1)
 | 0,_=>rfl
 | 1,_=>rfl
 | 2,_=>rfl
 | 3,_=>rfl
 | 4,_=>rfl
 | n+5,h=>absurd h (by omega)
theorem nt14 (r:List UInt8):∀ g,g < 5→nextS (([76]:List UInt8)++(gpT.getD g []++r))=(6,1)
 | 0,_=>rfl
 | 1,_=>rfl
 | 2,_=>rfl
 | 3,_=>rfl
 | 4,_=>rfl
 | n+5,h=>absurd h (by omega)
theorem nt15 (r:List UInt8):∀ g,g < 5→nextS (([81]:List UInt8)++(gpT.getD g []++r))=(6,1)
 | 0,_=>rfl
 | 1,_=>rfl
 | 2,_=>rfl
 | 3,_=>rfl
 | 4,_=>rfl
 | n+5,h=>absurd h (by omega)
theorem nt16 (r:List UInt8):∀ g,g < 5→nextS (([67]:List UInt8)++(gpT.getD g []++r))=(6,1)
 | 0,_=>rfl
 | 1,_=>rfl
 | 2,_=>rfl
 | 3,_=>rfl
 | 4,_=>rfl
 | n+5,h=>absurd h (by omega)
theorem nt17 (r:List UInt8):∀ g,g < 5→nextS (([65]:List UInt8)++(gpT.getD g []++r))=(6,1)
 | 0,_=>rfl
 | 1,_=>rfl
 | 2,_=>rfl
 | 3,_=>rfl
 | 4,_=>rfl
 | n+5,h=>absurd h (by omega)
theorem nt18 (r:List UInt8):∀ g,g < 5→nextS (([66]:List UInt8)++(gpT.getD g []++r))=(6,1)
 | 0,_=>rfl
 | 1,_=>rfl
 | 2,_=>rfl
 | 3,_=>rfl
 | 4,_=>rfl
 | n+5,h=>absurd h (by omega)
theorem nt19 (r:List UInt8):∀ g,g < 5→nextS (([90]:List UInt8)++(gpT.getD g []++r))=(6,1)
 | 0,_=>rfl
 | 1,_=>rfl
 | 2,_=>rfl
 | 3,_=>rfl
 | 4,_=>rfl
 | n+5,h=>absurd h (by omega)
theorem next_txt (r:List UInt8):∀ k g,k < 20→g < 5→nextS (txtT.getD k []++(gpT.getD g []++r))=(kdT.getD k 0,(txtT.getD k []).length)
 | 0,g,_,h=>nt0 r g h
 | 1,g,_,h=>nt1 r g h
 | 2,g,_,h=>nt2 r g h
 | 3,g,_,h=>nt3 r g h
 | 4,g,_,h=>nt4 r g h
 | 5,g,_,h=>nt5 r g h
 | 6,g,_,h=>nt6 r g h
 | 7,g,_,h=>nt7 r g h
 | 8,g,_,h=>nt8 r g h
 | 9,g,_,h=>nt9 r g h
 | 10,g,_,h=>nt10 r g h
 | 11,g,_,h=>nt11 r g h
 | 12,g,_,h=>nt12 r g h
 | 13,g,_,h=>nt13 r g h
 | 14,g,_,h=>nt14 r g h
 | 15,g,_,h=>nt15 r g h
 | 16,g,_,h=>nt16 r g h
 | 17,g,_,h=>nt17 r g h
 | 18,g,_,h=>nt18 r g h
 | 19,g,_,h=>nt19 r g h
 | n+20,_,h,_=>absurd h (by omega)
theorem gap_txt (r:List UInt8):∀ g,g < 5→gapM false (gpT.getD g []++r)=gapM false r+(gpT.getD g []).length
 | 0,_=>rfl
 | 1,_=>rfl
 | 2,_=>rfl
 | 3,_=>rfl
 | 4,_=>rfl
 | n+5,h=>absurd h (by omega)
theorem word_txt (r:List UInt8):∀ k,k < 20→gapM false (txtT.getD k []++r)=0
 | 0,_=>rfl
 | 1,_=>rfl
 | 2,_=>rfl
 | 3,_=>rfl
 | 4,_=>rfl
 | 5,_=>rfl
 | 6,_=>rfl
 | 7,_=>rfl
 | 8,_=>rfl
 | 9,_=>rfl
 | 10,_=>rfl
 | 11,_=>rfl
 | 12,_=>rfl
 | 13,_=>rfl
 | 14,_=>rfl
 | 15,_=>rfl
 | 16,_=>rfl
 | 17,_=>rfl
 | 18,_=>rfl
 | 19,_=>rfl
 | n+20,h=>absurd h (by omega)
theorem txt_len:∀ k:Fin 20,(txtT.getD k.val []).length≤13∧1≤(txtT.getD k.val []).length:=by decide
theorem gp_len:∀ k:Fin 5,(gpT.getD k.val []).length≤8:=by decide
theorem txt_at:∀ k,k < 20→(txtT.map VV.str)[k]?=some (.str (txtT.getD k [])):=fun k h=>by
 have h':k < txtT.length:=h
 rw [List.getElem?_map,List.getElem?_eq_getElem h',List.getD_eq_getElem?_getD,List.getElem?_eq_getElem h'];rfl
theorem gp_at:∀ k,k < 5→(gpT.map VV.str)[k]?=some (.str (gpT.getD k [])):=fun k h=>by
 have h':k < gpT.length:=h
 rw [List.getElem?_map,List.getElem?_eq_getElem h',List.getD_eq_getElem?_getD,List.getElem?_eq_getElem h'];rfl
theorem kd_at:∀ k,k < 20→(kdT.map fun (n:Nat)=>VV.int .i64 (n:Int))[k]?=some (.int .i64 ((kdT.getD k 0:Nat):Int)):=fun k h=>by
 have h':k < kdT.length:=h
 rw [List.getElem?_map,List.getElem?_eq_getElem h',List.getD_eq_getElem?_getD,List.getElem?_eq_getElem h'];rfl
def rowT:List (Nat × Nat)→List UInt8
 | []=>[]
 | p::l=>txtT.getD p.1 []++(gpT.getD p.2 []++rowT l)
def rowW:List (Nat × Nat)→Nat→List W
 | [],_=>[]
 | p::l,at_=>⟨kdT.getD p.1 0,at_,txtT.getD p.1 []⟩::rowW l (at_+((txtT.getD p.1 []).length+(gpT.getD p.2 []).length))
def RowOK (l:List (Nat × Nat)):Prop:=∀ p∈l,p.1 < 20∧p.2 < 5
theorem rowT_gap:∀ {l:List (Nat × Nat)},RowOK l→gapM false (rowT l)=0
 | [],_=>rfl
 | p::l,h=>word_txt _ p.1 (h p (.head _)).1
theorem rowT_words:∀ {l:List (Nat × Nat)},RowOK l→∀ f at_,l.length≤f→wordsF f (rowT l) at_=(rowW l at_,none)
 | [],_,f,at_,_=>by cases f<;>rfl
 | p::l,h,0,_,hf=>by simp at hf
 | p::l,h,f+1,at_,hf=>by
  obtain ⟨h1,h2⟩:=h p (.head _)
  have hl:RowOK l:=fun q hq=>h q (.tail _ hq)
  have nt:=next_txt (rowT l) p.1 p.2 h1 h2
  have gt:=gap_txt (rowT l) p.2 h2
  rw [rowT_gap hl,Nat.zero_add] at gt
  obtain ⟨k1,k2⟩:=txt_len ⟨p.1,h1⟩
  simp only at k1 k2
  have ih:=rowT_words hl f (at_+((txtT.getD p.1 []).length+(gpT.getD p.2 []).length)) (by simp at hf;omega)
  rw [rowT,rowW]
  obtain ⟨s,hs⟩:∃ s,txtT.getD p.1 []++(gpT.getD p.2 []++rowT l)=s:=⟨_,rfl⟩
  rw [hs] at nt ⊢
  have sd:s.drop (txtT.getD p.1 []).length=gpT.getD p.2 []++rowT l:=by rw [←hs,List.drop_left' rfl]
  have st:s.take (txtT.getD p.1 []).length=txtT.getD p.1 []:=by rw [←hs,List.take_left' rfl]
  cases s with
  | nil =>
   have:=congrArg List.length hs
   rw [List.length_append,List.length_nil] at this;omega
  | cons b r =>
   rw [wordsF,nt,if_neg (by simp only;omega)]
   simp only [sd,st,gapS,gt]
   rw [List.drop_left' rfl,Nat.add_assoc,ih]
theorem rowT_len:∀ {l:List (Nat × Nat)},RowOK l→l.length≤(rowT l).length∧(rowT l).length≤21*l.length
 | [],_=>by simp [rowT]
 | p::l,h=>by
  obtain ⟨h1,h2⟩:=h p (.head _)
  have ih:=rowT_len (l:=l) (fun q hq=>h q (.tail _ hq))
  obtain ⟨k1,k2⟩:=txt_len ⟨p.1,h1⟩
  have k3:=gp_len ⟨p.2,h2⟩
  simp only [rowT,List.length_append,List.length_cons] at *
  omega
theorem rowT_split {l:List (Nat × Nat)} (h:RowOK l):splitW (rowT l)=(rowW l 0,none):=by
 unfold splitW
 rw [show gapS (rowT l)=0 from rowT_gap h,List.drop_zero]
 exact rowT_words h _ _ (rowT_len h).1
theorem rowT_snoc:∀ (l:List (Nat × Nat)) (p:Nat × Nat),rowT (l++[p])=rowT l++txtT.getD p.1 []++gpT.getD p.2 []
 | [],p=>by simp [rowT]
 | q::l,p=>by simp only [List.cons_append,rowT,rowT_snoc l p,List.append_assoc]
theorem rowW_len:∀ (l:List (Nat × Nat)) (a:Nat),(rowW l a).length=l.length
 | [],_=>rfl
 | p::l,a=>by simp [rowW,rowW_len l]
theorem rowW_at:∀ (l:List (Nat × Nat)) (a i:Nat) (p:Nat × Nat),l[i]?=some p→(rowW l a)[i]?=some ⟨kdT.getD p.1 0,a+(rowT (l.take i)).length,txtT.getD p.1 []⟩
 | [],_,_,_,h=>by simp at h
 | q::l,a,0,p,h=>by
  simp only [List.getElem?_cons_zero,Option.some.injEq] at h
  subst h;simp [rowW,rowT]
 | q::l,a,i+1,p,h=>by
  simp only [List.getElem?_cons_succ] at h
  simp only [rowW,List.getElem?_cons_succ,rowW_at l _ i p h,List.take_succ_cons,rowT,List.length_append]
  congr 2;omega
theorem rowT_drop:∀ (l:List (Nat × Nat)) (i:Nat) (p:Nat × Nat),l[i]?=some p→∃ r,(rowT l).drop (rowT (l.take i)).length=txtT.getD p.1 []++(gpT.getD p.2 []++r)
 | [],_,_,h=>by simp at h
 | q::l,0,p,h=>by
  simp only [List.getElem?_cons_zero,Option.some.injEq] at h
  subst h;exact ⟨rowT l,by simp [rowT]⟩
 | q::l,i+1,p,h=>by
  simp only [List.getElem?_cons_succ] at h
  obtain ⟨r,hr⟩:=rowT_drop l i p h
  refine ⟨r,?_⟩
  simp only [List.take_succ_cons,rowT,←List.append_assoc,List.length_append]
  rw [←List.drop_drop,List.drop_left' (by simp),hr]
  simp
end
end Go.VL.Wo
