/- The fast run: plain values, a heap of named blocks, a small code, and how it is run. Nothing of Go's memory model stands in it. -/
import GoSem.Core.View
namespace Go.FR
set_option linter.unusedVariables false
set_option linter.unusedSimpArgs false

/-- How much room a slice has: a known number, or all that its block has behind it (elements of so many cells). -/
inductive ACap where
  | exact (n : Nat)
  | toEnd (esz : Nat)
  deriving Inhabited, DecidableEq

inductive AV where
  | bool (b : Bool)
  | int (k : IntKind) (n : Int)
  | str (s : List UInt8)
  | ptr (a : Option (Nat × Nat))
  | slice (a : Option (Nat × Nat)) (len : Nat) (cap : ACap)
  | map (r : Option Nat)
  | func (f : Nat) (first captured : List AV)
  | nilFunc
  | iface (t : Nat) (v : AV)
  | nilIface
  | agg (cells : List AV)
  | tuple (vs : List AV)
  deriving Inhabited

/-- The cells that a value takes. -/
def AV.cells : AV → List AV
  | .agg cs => cs
  | v => [v]

def undefA : AV := .tuple []

/-! A table by numbers. -/
inductive Tr (α : Type) where
  | nil
  | node (v : Option α) (l r : Tr α)
  deriving Inhabited

namespace Tr
variable {α : Type}

def get : Tr α → Nat → Option α
  | nil, _ => none
  | node v l r, n => match n with
    | 0 => v
    | m + 1 => match Nat.beq (m % 2) 0 with
      | true => l.get (m / 2)
      | false => r.get (m / 2)

def setF : Nat → Tr α → Nat → Option α → Tr α
  | 0, t, _, _ => t
  | f + 1, nil, n, v => match n with
    | 0 => node v nil nil
    | m + 1 => match Nat.beq (m % 2) 0 with
      | true => node none (setF f nil (m / 2) v) nil
      | false => node none nil (setF f nil (m / 2) v)
  | f + 1, node a l r, n, v => match n with
    | 0 => node v l r
    | m + 1 => match Nat.beq (m % 2) 0 with
      | true => node a (setF f l (m / 2) v) r
      | false => node a l (setF f r (m / 2) v)

def set (t : Tr α) (n : Nat) (v : α) : Tr α := setF (n + 1) t n (some v)
def del (t : Tr α) (n : Nat) : Tr α := setF (n + 1) t n none

theorem get_nil (n : Nat) : (nil : Tr α).get n = none := by rfl

theorem get_setF : ∀ (f : Nat) (t : Tr α) (n : Nat) (v : Option α) (m : Nat), n < f →
    (setF f t n v).get m = if m = n then v else t.get m := by
  intro f
  induction f with
  | zero => intro t n v m h; omega
  | succ f ih =>
    intro t n v m h
    cases t with
    | nil =>
      cases n with
      | zero =>
        cases m with
        | zero => simp [setF, get]
        | succ m => simp only [setF, get]; split <;> simp_all
      | succ n =>
        simp only [setF]
        cases hb : Nat.beq (n % 2) 0 with
        | true =>
          simp only
          cases m with
          | zero => simp [get]
          | succ m =>
            simp only [get]
            cases hc : Nat.beq (m % 2) 0 with
            | true =>
              simp only
              rw [ih _ _ _ _ (by omega)]
              have h1 := Nat.eq_of_beq_eq_true hb
              have h2 := Nat.eq_of_beq_eq_true hc
              by_cases e : m / 2 = n / 2
              · have : m = n := by omega
                simp [this]
              · have : ¬ m = n := fun q => e (by rw [q])
                simp [e, this, get]
            | false =>
              have h1 := Nat.eq_of_beq_eq_true hb
              have h2 : m % 2 ≠ 0 := Nat.ne_of_beq_eq_false hc
              have : ¬ m = n := fun q => by subst q; omega
              simp [this, get]
        | false =>
          simp only
          cases m with
          | zero => simp [get]
          | succ m =>
            simp only [get]
            have h1 : n % 2 ≠ 0 := Nat.ne_of_beq_eq_false hb
            cases hc : Nat.beq (m % 2) 0 with
            | true =>
              have h2 := Nat.eq_of_beq_eq_true hc
              have : ¬ m = n := fun q => by subst q; omega
              simp [this, get]
            | false =>
              simp only
              rw [ih _ _ _ _ (by omega)]
              have h2 : m % 2 ≠ 0 := Nat.ne_of_beq_eq_false hc
              by_cases e : m / 2 = n / 2
              · have : m = n := by omega
                simp [this]
              · have : ¬ m = n := fun q => e (by rw [q])
                simp [e, this, get]
    | node a l r =>
      cases n with
      | zero =>
        cases m with
        | zero => simp [setF, get]
        | succ m => simp only [setF, get]; simp
      | succ n =>
        simp only [setF]
        cases hb : Nat.beq (n % 2) 0 with
        | true =>
          simp only
          cases m with
          | zero => simp [get]
          | succ m =>
            simp only [get]
            have h1 := Nat.eq_of_beq_eq_true hb
            cases hc : Nat.beq (m % 2) 0 with
            | true =>
              simp only
              rw [ih _ _ _ _ (by omega)]
              have h2 := Nat.eq_of_beq_eq_true hc
              by_cases e : m / 2 = n / 2
              · have : m = n := by omega
                simp [this]
              · have : ¬ m = n := fun q => e (by rw [q])
                simp [e, this]
            | false =>
              have h2 : m % 2 ≠ 0 := Nat.ne_of_beq_eq_false hc
              have : ¬ m = n := fun q => by subst q; omega
              simp [this]
        | false =>
          simp only
          cases m with
          | zero => simp [get]
          | succ m =>
            simp only [get]
            have h1 : n % 2 ≠ 0 := Nat.ne_of_beq_eq_false hb
            cases hc : Nat.beq (m % 2) 0 with
            | true =>
              have h2 := Nat.eq_of_beq_eq_true hc
              have : ¬ m = n := fun q => by subst q; omega
              simp [this]
            | false =>
              simp only
              rw [ih _ _ _ _ (by omega)]
              have h2 : m % 2 ≠ 0 := Nat.ne_of_beq_eq_false hc
              by_cases e : m / 2 = n / 2
              · have : m = n := by omega
                simp [this]
              · have : ¬ m = n := fun q => e (by rw [q])
                simp [e, this]

theorem get_set (t : Tr α) (n : Nat) (v : α) (m : Nat) : (t.set n v).get m = if m = n then some v else t.get m :=
  get_setF (n + 1) t n (some v) m (by omega)
theorem get_del (t : Tr α) (n m : Nat) : (t.del n).get m = if m = n then none else t.get m :=
  get_setF (n + 1) t n none m (by omega)
end Tr

end Go.FR
