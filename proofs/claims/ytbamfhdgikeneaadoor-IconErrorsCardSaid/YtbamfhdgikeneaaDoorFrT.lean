/- The fast run: a number that is not known, where it is turned into one of a few. -/
import Derived.Test.YtbamfhdgikeneaaDoorFrS
namespace Go.FR
noncomputable section
open Go
set_option linter.unusedVariables false
set_option linter.unusedSimpArgs false

def splitOps (j : Nat) : List AOp → Option (List AOp × AOp × List AOp)
  | [] => none
  | x :: l => match (match x.dst with | some d => Nat.beq d j | none => false) with
    | true => some ([], x, l)
    | false => match splitOps j l with
      | some (p, o, q) => some (x :: p, o, q)
      | none => none

def splitC (j : Nat) : AC → Option (AC × AOp × AC)
  | .ops l => match splitOps j l with
    | some (p, o, q) => some (.ops p, o, .ops q)
    | none => none
  | .seq a b => match splitC j a with
    | some (p, o, q) => some (p, o, .seq q b)
    | none => match splitC j b with
      | some (p, o, q) => some (.seq a p, o, q)
      | none => none
  | _ => none

theorem splitOps_run {call : CallT} {j : Nat} : ∀ {l p q : List AOp} {o : AOp}, splitOps j l = some (p, o, q) → ∀ (T : Fr) (H : Heap),
    runOps call l T H = match runOps call p T H with
      | some (T', H') => (match step call o T' H' with
        | some (T'', H'') => runOps call q T'' H''
        | none => none)
      | none => none
  | [], p, q, o, h, T, H => by simp [splitOps] at h
  | x :: l, p, q, o, h, T, H => by
    simp only [splitOps] at h
    split at h
    · simp only [Option.some.injEq, Prod.mk.injEq] at h
      obtain ⟨rfl, rfl, rfl⟩ := h
      simp only [runOps]
      rfl
    · split at h <;> try (cases h; done)
      rename_i p' o' q' hs
      simp only [Option.some.injEq, Prod.mk.injEq] at h
      obtain ⟨rfl, rfl, rfl⟩ := h
      simp only [runOps]
      cases step call x T H with
      | none => rfl
      | some r =>
        obtain ⟨T', H'⟩ := r
        exact splitOps_run hs T' H'

theorem splitC_run {call : CallT} {N j : Nat} : ∀ {c p q : AC} {o : AOp}, splitC j c = some (p, o, q) → ∀ (T T1 T2 : Fr) (H H1 H2 : Heap), exec call N p T H = some (.normal, T1, H1) → step call o T1 H1 = some (T2, H2) →
    exec call N c T H = exec call N q T2 H2
  | .ops l, p, q, o, h, T, T1, T2, H, H1, H2, h1, h2 => by
    simp only [splitC] at h
    split at h <;> try (cases h; done)
    rename_i p' o' q' hs
    simp only [Option.some.injEq, Prod.mk.injEq] at h
    obtain ⟨rfl, rfl, rfl⟩ := h
    simp only [exec] at h1 ⊢
    split at h1 <;> try (cases h1; done)
    rename_i Ta Ha ha
    simp only [Option.some.injEq, Prod.mk.injEq, true_and] at h1
    obtain ⟨rfl, rfl⟩ := h1
    rw [splitOps_run hs]
    simp only [ha, h2]
  | .seq a b, p, q, o, h, T, T1, T2, H, H1, H2, h1, h2 => by
    simp only [splitC] at h
    split at h
    · rename_i p' o' q' hs
      simp only [Option.some.injEq, Prod.mk.injEq] at h
      obtain ⟨rfl, rfl, rfl⟩ := h
      simp only [exec]
      rw [splitC_run hs T T1 T2 H H1 H2 h1 h2]
    · split at h <;> try (cases h; done)
      rename_i p' o' q' hs
      simp only [Option.some.injEq, Prod.mk.injEq] at h
      obtain ⟨rfl, rfl, rfl⟩ := h
      simp only [exec] at h1 ⊢
      cases ha : exec call N a T H with
      | none => rw [ha] at h1; cases h1
      | some r =>
        obtain ⟨x, Ta, Ha⟩ := r
        rw [ha] at h1
        cases x with
        | normal => exact splitC_run hs Ta T1 T2 Ha H1 H2 h1 h2
        | exit i => simp at h1
        | ret => simp at h1
  | .skip, p, q, o, h, _, _, _, _, _, _, _, _ => by simp [splitC] at h
  | .draw _, p, q, o, h, _, _, _, _, _, _, _, _ => by simp [splitC] at h
  | .cond _ _ _, p, q, o, h, _, _, _, _, _, _, _, _ => by simp [splitC] at h
  | .block _ _, p, q, o, h, _, _, _, _, _, _, _, _ => by simp [splitC] at h
  | .loop _, p, q, o, h, _, _, _, _, _, _, _, _ => by simp [splitC] at h
  | .exit _, p, q, o, h, _, _, _, _, _, _, _, _ => by simp [splitC] at h
  | .ret, p, q, o, h, _, _, _, _, _, _, _, _ => by simp [splitC] at h

def fin (res : List ARes) : Option (AEx × Fr × Heap) → Option (AV × Heap)
  | some (.normal, T', H') => match ressA T' H' res with
    | some vs => some (tupA vs, H')
    | none => none
  | some (.ret, T', H') => match ressA T' H' res with
    | some vs => some (tupA vs, H')
    | none => none
  | _ => none

theorem callN_fin {E : Nat → Option AFunc} {n f : Nat} {args : List AV} {H : Heap} {body : AC} {res : List ARes} (h : E f = some (.code body res)) : callN E (n + 1) f args H = fin res (exec (callN E n) n body (initT 0 args .nil) H) := by
  simp only [callN, h]
  rfl

def isT : Option (AV × Heap) → Bool
  | some (.bool true, _) => true
  | _ => false
theorem isT_ex {x : Option (AV × Heap)} (h : isT x = true) : ∃ H', x = some (.bool true, H') := by
  unfold isT at h
  split at h
  · exact ⟨_, rfl⟩
  · cases h

def allK (f : Int → Bool) : Nat → Bool
  | 0 => true
  | n + 1 => match f (Int.ofNat n) with
    | true => allK f n
    | false => false
theorem allK_at {f : Int → Bool} : ∀ {n : Nat}, allK f n = true → ∀ k : Int, 0 ≤ k → k < n → f k = true
  | 0, h, k, h0, h1 => by omega
  | n + 1, h, k, h0, h1 => by
    simp only [allK] at h
    split at h
    · rename_i hf
      by_cases e : k = Int.ofNat n
      · rw [e]; exact hf
      · exact allK_at h k h0 (by simp at e; omega)
    · cases h

def stT : Option (AEx × Fr × Heap) → Fr
  | some (_, T, _) => T
  | none => .nil
def stH : Option (AEx × Fr × Heap) → Heap
  | some (_, _, H) => H
  | none => ⟨.nil, 0⟩

/-- One of so many: what a number is turned into. -/
def wrapK (a n : Int) : Int := (IntKind.wrap .i64 (a.tmod n + n)).tmod n
theorem wrapK_in {a n : Int} (h : 0 < n) (hn : n < 1000000) : 0 ≤ wrapK a n ∧ wrapK a n < n := by
  have h1 : -n < a.tmod n := by have := Int.lt_tmod_of_pos a h; omega
  have h2 : a.tmod n < n := Int.tmod_lt_of_pos a h
  have e : IntKind.wrap .i64 (a.tmod n + n) = a.tmod n + n := by
    have h3 : (a.tmod n + n) % (2 ^ IntKind.i64.bits : Int) = a.tmod n + n := by
      simp only [IntKind.bits]
      refine Int.emod_eq_of_lt (by omega) (by omega)
    unfold IntKind.wrap
    simp only [h3]
    rw [if_neg]
    simp only [IntKind.bits, IntKind.signed, Bool.true_and, decide_eq_true_eq, ge_iff_le, Nat.reduceSub]
    omega
  unfold wrapK
  rw [e]
  exact ⟨Int.tmod_nonneg _ (by omega), Int.tmod_lt_of_pos _ h⟩

end
end Go.FR
