/- Rings: what their numbers come to. -/
import Derived.Test.YthojeoldjhghpabRgA
namespace Go.VL.Wind
open Go.FR Go.IR Go.VL
noncomputable section
set_option linter.unusedSimpArgs false
set_option linter.unusedVariables false
set_option maxRecDepth 100000
set_option maxHeartbeats 1000000

def revE (e : Edge) : Edge := ⟨e.b, e.a⟩
theorem cross_rev {a b p : Pt} (ha : PIn a 10000) (hb : PIn b 10000) (hp : PIn p 10000) : crossS b a p = - crossS a b p := by
  rw [crossS_in ha hb hp, crossS_in hb ha hp]
  simp only [Int.sub_mul, Int.mul_sub]
  have c1 := Int.mul_comm a.x b.y
  have c2 := Int.mul_comm a.y b.x
  have c3 := Int.mul_comm a.x a.y
  have c4 := Int.mul_comm b.x b.y
  omega
theorem one_rev {e : Edge} {p : Pt} (he : EIn e 10000) (hp : PIn p 10000) : oneS (revE e) p = - oneS e p := by
  have c := cross_rev he.1 he.2 hp
  unfold oneS revE
  simp only [c]
  repeat' split
  all_goals omega
theorem sum_rev {p : Pt} (hp : PIn p 10000) : ∀ l : List Edge, (∀ e ∈ l, EIn e 10000) → sumS p (l.reverse.map revE) = - sumS p l
  | [], _ => by simp [sumS]
  | e :: l, h => by
    rw [List.reverse_cons, List.map_append, sumS_app, sum_rev hp l fun x hx => h x (.tail _ hx)]
    simp only [List.map_cons, List.map_nil, sumS, one_rev (h e (.head _)) hp]
    omega
theorem one_right {e : Edge} {y : Int} (he : EIn e 30) (hy : -100 ≤ y ∧ y ≤ 100) : oneS e ⟨31, y⟩ = 0 := by
  obtain ⟨⟨⟨a1, a2⟩, a3, a4⟩, ⟨b1, b2⟩, b3, b4⟩ := he
  have hp : PIn ⟨31, y⟩ 10000 := by simp only [PIn]; omega
  have ha : PIn e.a 10000 := by simp only [PIn]; omega
  have hb : PIn e.b 10000 := by simp only [PIn]; omega
  unfold oneS
  rw [crossS_in ha hb hp]
  simp only
  rw [if_neg, if_neg]
  · rintro ⟨h1, h2, h3⟩
    have q1 : (e.b.x - e.a.x) * (e.a.y - y) ≤ (31 - e.a.x) * (e.a.y - y) := Int.mul_le_mul_of_nonneg_right (by omega) (by omega)
    have q2 : (31 - e.a.x) * (e.a.y - y) ≤ (31 - e.a.x) * (e.a.y - e.b.y) := Int.mul_le_mul_of_nonneg_left (by omega) (by omega)
    have q3 : (e.b.x - e.a.x) * (y - e.a.y) = - ((e.b.x - e.a.x) * (e.a.y - y)) := by rw [← Int.mul_neg]; congr 1; omega
    have q4 : (e.b.y - e.a.y) * (31 - e.a.x) = - ((31 - e.a.x) * (e.a.y - e.b.y)) := by rw [← Int.mul_neg, Int.mul_comm]; congr 1; omega
    omega
  · rintro ⟨h1, h2, h3⟩
    have q1 : (e.b.x - e.a.x) * (y - e.a.y) ≤ (31 - e.a.x) * (y - e.a.y) := Int.mul_le_mul_of_nonneg_right (by omega) (by omega)
    have q2 : (31 - e.a.x) * (y - e.a.y) ≤ (31 - e.a.x) * (e.b.y - e.a.y) := Int.mul_le_mul_of_nonneg_left (by omega) (by omega)
    have q4 : (e.b.y - e.a.y) * (31 - e.a.x) = (31 - e.a.x) * (e.b.y - e.a.y) := Int.mul_comm _ _
    omega
theorem one_up {e : Edge} {x : Int} (he : EIn e 30) : oneS e ⟨x, 31⟩ = 0 := by
  obtain ⟨⟨⟨a1, a2⟩, a3, a4⟩, ⟨b1, b2⟩, b3, b4⟩ := he
  unfold oneS
  simp only
  rw [if_neg (by omega), if_neg (by omega)]
def indS (y t : Int) : Int := if y < t then 1 else 0
theorem left_up {a b : Pt} {y : Int} (ha : PIn a 30) (hb : PIn b 30) (h1 : a.y ≤ y) (h2 : y < b.y) : crossS a b ⟨-31, y⟩ > 0 := by
  obtain ⟨⟨a1, a2⟩, a3, a4⟩ := ha
  obtain ⟨⟨b1, b2⟩, b3, b4⟩ := hb
  have hp : PIn ⟨-31, y⟩ 10000 := by simp only [PIn]; omega
  have ha : PIn a 10000 := by simp only [PIn]; omega
  have hb : PIn b 10000 := by simp only [PIn]; omega
  rw [crossS_in ha hb hp]
  simp only
  -- W = 31 + a.x
  have q1 : (-(30 + a.x)) * (y - a.y) ≤ (b.x - a.x) * (y - a.y) := Int.mul_le_mul_of_nonneg_right (by omega) (by omega)
  have q2 : (30 + a.x) * (y - a.y) ≤ (30 + a.x) * (b.y - a.y) := Int.mul_le_mul_of_nonneg_left (by omega) (by omega)
  have q3 : (-(30 + a.x)) * (y - a.y) = - ((30 + a.x) * (y - a.y)) := Int.neg_mul _ _
  have q4 : (b.y - a.y) * (-31 - a.x) = - ((30 + a.x) * (b.y - a.y)) - (b.y - a.y) := by
    rw [show (-31 - a.x) = -(30 + a.x) - 1 by omega, Int.mul_sub, Int.mul_one, Int.mul_neg, Int.mul_comm]
  omega
theorem one_left {e : Edge} {y : Int} (he : EIn e 30) : oneS e ⟨-31, y⟩ = indS y e.b.y - indS y e.a.y := by
  by_cases hy : -100 ≤ y ∧ y ≤ 100
  · unfold oneS indS
    simp only
    by_cases h1 : e.a.y ≤ y <;> by_cases h2 : e.b.y ≤ y
    · rw [if_neg (by omega), if_neg (by omega), if_neg (by omega), if_neg (by omega)]; rfl
    · have := left_up he.1 he.2 h1 (by omega : y < e.b.y)
      rw [if_pos (by omega), if_pos (by omega), if_neg (by omega)]; rfl
    · have k := left_up he.2 he.1 h2 (by omega : y < e.a.y)
      have hp : PIn ⟨-31, y⟩ 10000 := by simp only [PIn]; omega
      have := cross_rev (he.1.mono (by omega)) (he.2.mono (by omega)) hp
      rw [if_neg (by omega), if_pos (by omega), if_neg (by omega), if_pos (by omega)]; rfl
    · rw [if_neg (by omega), if_neg (by omega), if_pos (by omega), if_pos (by omega)]; rfl
  · obtain ⟨⟨⟨a1, a2⟩, a3, a4⟩, ⟨b1, b2⟩, b3, b4⟩ := he
    unfold oneS indS
    simp only
    rw [if_neg (by omega), if_neg (by omega)]
    repeat' split
    all_goals omega
theorem sum_zero {p : Pt} : ∀ l : List Edge, (∀ e ∈ l, oneS e p = 0) → sumS p l = 0
  | [], _ => rfl
  | e :: l, h => by rw [sumS, h e (.head _), sum_zero l fun x hx => h x (.tail _ hx)]; rfl
theorem sum_chain (l : List Int) (far : Int) {y : Int} (hf : 0 ≤ far) (h30 : far = 30) : ∀ (n at_ : Nat) (p : Pt), PIn p far → sumS ⟨-31, y⟩ (chainS l far n at_ p) = indS y (lastS l far n at_ p).y - indS y p.y
  | 0, _, p, _ => by simp [chainS, sumS, lastS]
  | n + 1, at_, p, hp => by
    have hq := pointS_in l at_ far hf
    subst h30
    rw [chainS, sumS, lastS, sum_chain l 30 (by omega) rfl n (at_ + 2) _ hq, one_left (e := ⟨p, pointS l at_ 30⟩) ⟨hp, hq⟩]
    simp only; omega
theorem sum_ring (l : List Int) (n at_ : Nat) {y : Int} : sumS ⟨-31, y⟩ (ringS l n at_ 30) = 0 := by
  have hp := pointS_in l at_ 30 (by omega)
  have hq := last_in l 30 (by omega) (n - 1) (at_ + 2) _ hp
  unfold ringS
  rw [sumS_app, sum_chain l 30 (by omega) rfl _ _ _ hp]
  simp only [sumS, one_left (e := ⟨lastS l 30 (n - 1) (at_ + 2) (pointS l at_ 30), pointS l at_ 30⟩) ⟨hq, hp⟩]
  omega

theorem odd_of {n : Int} (h1 : -20 ≤ n) (h2 : n ≤ 20) : (n.tmod 2 != 0) = (IntKind.i64.wrap (BitVec.ofInt IntKind.i64.bits n &&& BitVec.ofInt IntKind.i64.bits 1).toNat == 1) := by
  obtain ⟨k, rfl⟩ : ∃ k : Nat, n = (k : Int) - 20 := ⟨(n + 20).toNat, by omega⟩
  have hk : k < 41 := by omega
  have all : ∀ k : Fin 41, ((((k.val : Nat) : Int) - 20).tmod 2 != 0) = (IntKind.i64.wrap (BitVec.ofInt IntKind.i64.bits (((k.val : Nat) : Int) - 20) &&& BitVec.ofInt IntKind.i64.bits 1).toNat == 1) := by decide +kernel
  exact all ⟨k, hk⟩

theorem rings_math (l : List Int) (m at_ : Nat) {p : Pt} (hm : m ≤ 15) (h0 : 0 < m) (hp : PIn p 100) :
    let e := ringS l m at_ 30; let n := numS e p 0
    IntKind.i64.wrap (0 - numS (e.reverse.map revE) p 0) = n ∧ numS (e ++ e) p 0 = IntKind.i64.wrap (2 * n) ∧ numS e ⟨31, p.y⟩ 0 = 0 ∧ numS e ⟨-31, p.y⟩ 0 = 0 ∧ numS e ⟨p.x, 31⟩ 0 = 0 ∧
    insS e 0 p = (IntKind.i64.wrap (BitVec.ofInt IntKind.i64.bits n &&& BitVec.ofInt IntKind.i64.bits 1).toNat == 1) ∧ insS e 1 p = (n != 0) := by
  have hi := ring_in l m at_ 30 (by omega)
  have hl := ringS_len l m at_ 30 h0
  have hz := fun y => sum_ring l m at_ (y := y)
  generalize ringS l m at_ 30 = e at hi hl hz
  intro e' n
  have s1 := sumS_in p e
  have q0 : numS e p 0 = sumS p e := by rw [numS_sum p e 0 (by omega) (by omega) (by omega), Int.zero_add]
  have hn : n = sumS p e := q0
  have s2 := sum_rev (p := p) (hp.mono (by omega)) e (fun x hx => ⟨(hi x hx).1.mono (by omega), (hi x hx).2.mono (by omega)⟩)
  obtain ⟨⟨p1, p2⟩, p3, p4⟩ := hp
  refine ⟨?_, ?_, ?_, ?_, ?_, ?_, ?_⟩
  · show IntKind.i64.wrap (0 - numS (e.reverse.map revE) p 0) = n
    rw [numS_sum p _ 0 (by omega) (by omega) (by simp; omega), s2, hn, Int.zero_add, yzD (by omega) (by omega)]; omega
  · show numS (e ++ e) p 0 = _
    rw [numS_sum p _ 0 (by omega) (by omega) (by simp; omega), sumS_app, hn, yzD (by omega) (by omega)]; omega
  · show numS e _ 0 = 0
    rw [numS_sum _ _ 0 (by omega) (by omega) (by omega), sum_zero e fun x hx => one_right (hi x hx) (by omega)]; rfl
  · show numS e _ 0 = 0
    rw [numS_sum _ _ 0 (by omega) (by omega) (by omega), hz]; rfl
  · show numS e _ 0 = 0
    rw [numS_sum _ _ 0 (by omega) (by omega) (by omega), sum_zero e fun x hx => one_up (hi x hx)]; rfl
  · show insS e 0 p = _
    unfold insS; rw [if_pos rfl]
    exact odd_of (by omega) (by omega)
  · show insS e 1 p = _
    unfold insS; rw [if_neg (by decide)]
end
end Go.VL.Wind
