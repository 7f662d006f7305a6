/- Errors as plain data. -/
import Derived.Test.YthojeoldjhghpabDoorErA
namespace Go.VL.Er
open Go.FR Go.IR Go.VL
noncomputable section
set_option linter.unusedSimpArgs false
set_option linter.unusedVariables false
set_option maxRecDepth 100000
set_option maxHeartbeats 1000000

theorem sent_at (i : Nat) (hi : i < 13) : ((List.range 13).map erP)[i]? = some (erP i) := by
  rw [List.getElem?_map, List.getElem?_range hi]; rfl
theorem sent_len : ((List.range 13).map erP).length = 13 := by simp
/-- An error, and what it is. -/
inductive ErrV where
  | none
  | bare (k : Nat)
  | placed (k : Nat) (pos : Int)
def ErrV.v : ErrV → VV
  | .none => .nilI
  | .bare k => erP k
  | .placed k pos => atV k pos
def ErrV.ok : ErrV → Prop
  | .none => True
  | .bare k => k < 13
  | .placed k _ => k < 13
def ErrV.f : ErrV → Fault
  | .none => bareF 0
  | .bare k => bareF (101 + (k : Int))
  | .placed k pos => placedF (101 + (k : Int)) pos
theorem errV_closed (e : ErrV) : closedB e.v = true := by cases e <;> rfl
theorem shut_closed {h : VH} : ∀ e : ErrV, shut h e.v = some e.v := fun e => by cases e <;> rfl
end
end Go.VL.Er
