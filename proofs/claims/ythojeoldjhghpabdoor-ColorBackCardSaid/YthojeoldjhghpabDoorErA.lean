/- Errors: what the statements' own eyes see of them. -/
import Derived.Test.YthojeoldjhghpabDoorVlK
import Derived.Test.YthojeoldjhghpabDoorIrA
namespace Go.VL.Er
open Go.FR Go.IR Go.VL
noncomputable section
set_option linter.unusedSimpArgs false
set_option linter.unusedVariables false
set_option maxRecDepth 100000
set_option maxHeartbeats 1000000
abbrev E := lookE envL

/-- The k-th of api's errors; one with a place. -/
abbrev erP (k : Nat) : VV := .iface t_p_errors_errorString (.gptr (2 * k + 1) 0)
abbrev atV (k : Nat) (pos : Int) : VV := .iface t_p_api_At (.fptr [.int .i64 pos, erP k] 0)
/-- What the package's variables hold. -/
def GlHas (Gl : Glob) (k : Nat) : Prop := yzB Gl (2 * k) = some [erP k] ∧ (yzB Gl (2 * k + 1)).isSome = true
def GlAll (Gl : Glob) : Prop := ∀ k, k < 13 → GlHas Gl k

theorem look_globs (tp : Nat) : ∀ (l : List Er) (n k : Nat), k < l.length → yzB (globsFrom tp n l) (n + 2 * k) = some [.iface tp (.gptr (n + 2 * k + 1) 0)] ∧ (yzB (globsFrom tp n l) (n + 2 * k + 1)).isSome = true
  | [], n, k, h => by simp at h
  | e :: l, n, 0, h => by simp [globsFrom, yzB]
  | e :: l, n, k + 1, h => by
    have := look_globs tp l (n + 2) k (by simpa using h)
    have e1 : n + 2 + 2 * k = n + 2 * (k + 1) := by omega
    rw [e1] at this
    simp only [globsFrom, yzB]
    rw [if_neg (by omega), if_neg (by omega), if_neg (by omega), if_neg (by omega)]
    exact this
theorem glob_all {l : List Er} (h : 13 ≤ l.length) : GlAll (globsOf t_p_errors_errorString l) := fun k hk => by
  have := look_globs t_p_errors_errorString l 0 k (by omega)
  rw [Nat.zero_add] at this
  exact this

structure Fault where
  code : Int
  placed : Bool
  pos : Int
deriving DecidableEq
abbrev cFault (f : Fault) : List VV := [.int .i64 f.code, .bool f.placed, .int .i64 f.pos]
def bareF (n : Int) : Fault := ⟨n, false, 0⟩
def placedF (n pos : Int) : Fault := if n = 0 then bareF 0 else ⟨n, true, pos⟩

end
end Go.VL.Er
