/- Chapter 2: what is put is got. In plain numbers. -/
import Derived.Test.YthojeoldjhghpabDoorGeA
namespace Go.VL.Wire
open Go.FR Go.IR Go.VL Go.VL.Er
noncomputable section
set_option linter.unusedSimpArgs false
set_option linter.unusedVariables false
set_option maxRecDepth 100000
set_option maxHeartbeats 1000000

theorem pow_ge9 {m k : Nat} (h9 : 9 < k + 1) (hk : k ≤ 9) (h : m * 128 ^ k < 18446744073709551616) : m ≤ 1 := by
  obtain rfl : k = 9 := by omega
  simp only [Nat.reducePow] at h
  omega
theorem pow_split (m k : Nat) : (m / 128) * 128 ^ (k + 1) + (m % 128) * 128 ^ k = m * 128 ^ k := by
  rw [Nat.pow_succ, ← Nat.mul_assoc, Nat.mul_right_comm, ← Nat.add_mul]
  congr 1; omega
theorem putS_ne (n : Nat) : putS n ≠ [] := fun e => by have := putS_pos n; rw [e] at this; simp at this
theorem putS_byte : ∀ (n : Nat), ∀ x ∈ putS n, x < 256 := fun n => by
  induction n using Nat.strongRecOn with
  | _ n ih =>
    intro x hx
    by_cases c : n < 128
    · rw [putS_lt c, List.mem_singleton] at hx; omega
    · rw [putS_ge c, List.mem_cons] at hx
      rcases hx with rfl | hx
      · omega
      · exact ih (n / 128) (by omega) x hx

theorem get_put : ∀ (m : Nat) (r : List Nat) (k acc : Nat), k ≤ 9 → m * 128 ^ k + acc < 18446744073709551616 → (0 < k → 0 < m) → getL (putS m ++ r) k acc = .got (acc + m * 128 ^ k) (k + (putS m).length) := fun m => by
  induction m using Nat.strongRecOn with
  | _ m ih =>
    intro r k acc hk hm h0
    by_cases c : m < 128
    · rw [putS_lt c, List.cons_append, List.nil_append, getL, if_neg, if_pos c]
      · rfl
      · rintro (⟨h1, h2⟩ | ⟨h1, h2⟩)
        · have := pow_ge9 (m := m) (k := k) (by omega) hk (by omega); omega
        · have := h0 h2; omega
    · have k9 : k ≠ 9 := fun e => by have := pow_ge9 (m := m) (k := k) (by omega) hk (by omega); omega
      rw [putS_ge c, List.cons_append, getL, if_neg (by omega), if_neg (by omega), show (m % 128 + 128) % 128 = m % 128 by omega]
      have hs := pow_split m k
      rw [ih (m / 128) (by omega) r (k + 1) _ (by omega) (by omega) (by omega), List.length_cons]
      congr 1
      · omega
      · omega
theorem get_cut : ∀ (m : Nat) (k acc : Nat), k ≤ 9 → m * 128 ^ k < 18446744073709551616 → getL ((putS m).take ((putS m).length - 1)) k acc = .short := fun m => by
  induction m using Nat.strongRecOn with
  | _ m ih =>
    intro k acc hk hm
    by_cases c : m < 128
    · rw [putS_lt c]; rfl
    · have k9 : k ≠ 9 := fun e => by have := pow_ge9 (m := m) (k := k) (by omega) hk hm; omega
      have hp := putS_pos (m / 128)
      have hs := pow_split m k
      obtain ⟨q, hq⟩ : ∃ q, (putS (m / 128)).length = q + 1 := ⟨(putS (m / 128)).length - 1, by omega⟩
      rw [putS_ge c, List.length_cons, Nat.add_sub_cancel, hq, List.take_succ_cons, getL, if_neg (by omega), if_neg (by omega)]
      have := ih (m / 128) (by omega) (k + 1) (acc + (m % 128 + 128) % 128 * 128 ^ k) (by omega) (by omega)
      rw [hq, Nat.add_sub_cancel] at this
      exact this
/-- The last byte, told to go on. -/
def moreS (m : Nat) : List Nat := if m < 128 then [m + 128] else (m % 128 + 128) :: moreS (m / 128)
termination_by m
decreasing_by omega
theorem more_put : ∀ m : Nat, moreS m = (putS m).set ((putS m).length - 1) (((putS m).getD ((putS m).length - 1) 0) % 128 + 128) := fun m => by
  induction m using Nat.strongRecOn with
  | _ m ih =>
    by_cases c : m < 128
    · rw [moreS, if_pos c, putS_lt c]; simp; omega
    · have hp := putS_pos (m / 128)
      obtain ⟨q, hq⟩ : ∃ q, (putS (m / 128)).length = q + 1 := ⟨(putS (m / 128)).length - 1, by omega⟩
      rw [moreS, if_neg c, putS_ge c, List.length_cons, Nat.add_sub_cancel, hq, List.set_cons_succ, List.getD_cons_succ, ih (m / 128) (by omega), hq, Nat.add_sub_cancel]
theorem get_more : ∀ (m : Nat) (k acc : Nat), k ≤ 9 → m * 128 ^ k < 18446744073709551616 → getL (moreS m ++ [0]) k acc = .varint := fun m => by
  induction m using Nat.strongRecOn with
  | _ m ih =>
    intro k acc hk hm
    by_cases c : m < 128
    · rw [moreS, if_pos c, List.cons_append, List.nil_append, getL]
      by_cases k9 : k = 9
      · rw [if_pos (by omega)]
      · rw [if_neg (by omega), if_neg (by omega), getL, if_pos (by omega)]
    · have k9 : k ≠ 9 := fun e => by have := pow_ge9 (m := m) (k := k) (by omega) hk hm; omega
      have hs := pow_split m k
      rw [moreS, if_neg c, List.cons_append, getL, if_neg (by omega), if_neg (by omega)]
      exact ih (m / 128) (by omega) (k + 1) _ (by omega) (by omega)
/-- What is got, put, are those bytes. -/
theorem got_put : ∀ (l : List Nat) (k acc n j : Nat), k ≤ 9 → acc < 128 ^ k → (∀ x ∈ l, x < 256) → getL l k acc = .got n j → ∃ m, n = acc + m * 128 ^ k ∧ n < 18446744073709551616 ∧ k < j ∧ j - k ≤ l.length ∧ putS m = l.take (j - k) ∧ (0 < k → 0 < m)
  | [], k, acc, n, j, _, _, _, h => by simp [getL] at h
  | x :: r, k, acc, n, j, hk, ha, hb, h => by
    rw [getL] at h
    by_cases v : (k = 9 ∧ 1 < x) ∨ (x = 0 ∧ 0 < k)
    · rw [if_pos v] at h; cases h
    · rw [if_neg v] at h
      have hx := hb x (.head _)
      by_cases c : x < 128
      · rw [if_pos c] at h
        obtain ⟨rfl, rfl⟩ := Got.got.inj h
        obtain ⟨o1, o2, o3⟩ := step_or (n := acc) (x := x) hk c (by omega) ha
        refine ⟨x, rfl, o2, by omega, by simp, ?_, by omega⟩
        rw [show k + 1 - k = 1 by omega, putS_lt c]; rfl
      · rw [if_neg c] at h
        obtain ⟨o1, o2, o3⟩ := step_or (n := acc) (x := x % 128) hk (by omega) (by omega) ha
        obtain ⟨m, e1, e2, e3, e4, e5, e6⟩ := got_put r (k + 1) _ n j (by omega) (o3 (by omega)) (fun y hy => hb y (.tail _ hy)) h
        refine ⟨x % 128 + 128 * m, ?_, e2, by omega, by simp; omega, ?_, by omega⟩
        · rw [e1, Nat.pow_succ, Nat.add_mul, Nat.add_assoc]
          congr 2
          rw [Nat.mul_comm 128 m, Nat.mul_assoc, Nat.mul_comm (128 ^ k)]
        · have m0 := e6 (by omega)
          obtain ⟨q, hq⟩ : ∃ q, j - k = q + 1 := ⟨j - k - 1, by omega⟩
          rw [putS_ge (by omega), hq, List.take_succ_cons, show (x % 128 + 128 * m) % 128 + 128 = x by omega, show (x % 128 + 128 * m) / 128 = m by omega, e5, show j - (k + 1) = q by omega]
end
end Go.VL.Wire
