/- What the package's error variables hold, laid. -/
import Derived.Test.YtpobcoodmhhpaaaDoorVlJ
set_option linter.unusedSimpArgs false
set_option linter.unusedVariables false
namespace Go.VL
open Go.FR
noncomputable section
def globsFrom (tp:Nat):Nat→List Er→qzg
 | _,[]=>[]
 | n,e::l=>(n,[.iface tp (.gptr (n+1) 0)])::(n+1,[.str e.text])::globsFrom tp (n+2) l
abbrev globsOf (tp:Nat) (l:List Er):qzg:=globsFrom tp 0 l
theorem errTr_low (tp:Nat):∀ (l:List Er) (n:Nat) (T:Tr ABlk) (k:Nat),k < n→(errTr tp n l T).get k=T.get k
 | [],_,_,_,_=>rfl
 | e::l,n,T,k,hk=>by
  simp only [errTr]
  rw [errTr_low tp l (n+2) _ k (by omega),Tr.get_set,if_neg (by omega),Tr.get_set,if_neg (by omega)]
theorem glob_tr (tp:Nat):∀ (l:List Er) (n:Nat) (T:Tr ABlk) (i:Nat) (cs:List VV),qze (globsFrom tp n l) i=some cs →
  n≤i∧i < n+2*l.length∧∃ as,(errTr tp n l T).get i=some (.cells as false false)∧∀ G,VRs G noP cs as
 | [],n,T,i,cs,h=>by simp [globsFrom,qze] at h
 | e::l,n,T,i,cs,h=>by
  simp only [globsFrom,qze] at h
  simp only [errTr,List.length_cons]
  by_cases e1:n=i
  ·rw [if_pos e1] at h
   obtain rfl:=Option.some.inj h
   refine ⟨by omega,by omega,[.iface tp (.ptr (some (n+1,0)))],?_,fun G=>VRs.cons ⟨_,rfl,rfl⟩ VRs.nil⟩
   rw [errTr_low tp l (n+2) _ i (by omega),Tr.get_set,if_neg (by omega),Tr.get_set,if_pos e1.symm]
  ·rw [if_neg e1] at h
   by_cases e2:n+1=i
   ·rw [if_pos e2] at h
    obtain rfl:=Option.some.inj h
    refine ⟨by omega,by omega,[.str e.text],?_,fun G=>VRs.cons rfl VRs.nil⟩
    rw [errTr_low tp l (n+2) _ i (by omega),Tr.get_set,if_pos e2.symm]
   ·rw [if_neg e2] at h
    obtain ⟨h1,h2,h3⟩:=glob_tr tp l (n+2) ((T.set n (.cells [.iface tp (.ptr (some (n+1,0)))] false false)).set (n+1) (.cells [.str e.text] false false)) i cs h
    exact ⟨by omega,by omega,h3⟩
theorem glob_ok (tp:Nat) (l:List Er) (i:Nat) (cs:List VV) (h:qze (globsOf tp l) i=some cs):∃ as,GG (errHeap tp l) i=some (.cells as false false)∧VRs (GG (errHeap tp l)) noP cs as:=by
 obtain ⟨h1,h2,as,h3,h4⟩:=glob_tr tp l 0 .nil i cs h
 refine ⟨as,?_,h4 _⟩
 unfold GG
 rw [if_pos (by simp only [errHeap];omega)]
 exact h3
end
end Go.VL
