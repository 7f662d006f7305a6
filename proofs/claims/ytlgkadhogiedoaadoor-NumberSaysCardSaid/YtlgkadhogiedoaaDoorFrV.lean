/- The fast run: tables of numbers among a row's variables. -/
import Derived.Test.YtlgkadhogiedoaaDoorFrU
import Derived.Stop.LaidErr
import Derived.Lib.LaidTab
set_option linter.unusedSimpArgs false
set_option linter.unusedVariables false
namespace Go.FR
noncomputable section
open Go Go.RowKit
theorem laidMet_drop {P:Program} {w:World}:∀ (l1:List (String × DataW Unit)) {l2:List (String × DataW Unit)},laidMet P (l1++l2) w→laidMet P l2 w
 | [],l2,h=>h
 | x::l1,l2,h=>laidMet_drop l1 (laidMet.tail (x:=x) h)
def tabCells (k:IntKind) (zs:List Int):List AV:=zs.map fun z => .int k z
theorem lookN_append:∀ (G G':List (Nat × Nat)) (m i:Nat),lookN (G++G') m=some i→lookN G m=some i∨lookN G' m=some i
 | [],G',m,i,h => .inr h
 | (a,b)::G,G',m,i,h=>by
  simp only [List.cons_append,lookN] at h ⊢
  split at h
  ·rename_i e;rw [if_pos e];exact .inl h
  ·rename_i e;rw [if_neg e];exact lookN_append G G' m i h
theorem tab_rels {ι:Pl} (k:IntKind):∀ (zs:List Int),VRels ι (tabCells k zs) (zs.map fun z=>Value.int k z)
 | []=>VRels.nil
 | z::zs=>VRels.cons (by simp only [VRel]) (tab_rels k zs)
end
end Go.FR
