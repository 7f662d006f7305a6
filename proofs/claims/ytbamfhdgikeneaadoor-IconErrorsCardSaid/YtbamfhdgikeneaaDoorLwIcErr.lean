/- 'glyphiclaw5.IconErrors' answers true, whatever it is given. (By wip/gen_icerr.py.) -/
import Derived.Test.YtbamfhdgikeneaaDoorIcE
namespace Go.VL.Ic
open Go.FR Go.IR Go.VL Go.VL.Er Go.VL.Color Go.VL.Wind
noncomputable section
set_option linter.unusedSimpArgs false
set_option linter.unusedVariables false
set_option maxRecDepth 100000
set_option maxHeartbeats 1000000

theorem in_far {n m : Int} (h1 : -m ≤ n) (h2 : n ≤ m) : inS n (-m) m = true := Mk.in_yes h1 h2
theorem in_over {n m : Int} (h2 : m < n) : inS n (-m) m = false := by
  unfold inS
  split
  · simp; omega
  · rfl
theorem in_under {n m : Int} (h2 : n < -m) : inS n (-m) m = false := by
  unfold inS; rw [if_neg (by omega)]
theorem rep_flat {α : Type} (f : α → List VV) (a : α) (n : Nat) : repV n (f a) = xzP f (List.replicate n a) := by
  unfold repV xzP; rw [List.map_replicate]
theorem see_rfl {Gl : xzB} (hG : GlAll Gl) (k : Nat) (hk : k < 13) : xzS Go.VL.Er.E Gl f_glyphicsee_Is [erP k, .int .i64 (101 + (k : Int))] (.bool true) := by
  have h := see_is hG (.bare k) hk (101 + (k : Int))
  simp only [ErrV.v, ErrV.f, decide_true] at h
  exact h

theorem bad0 (W H S G : Int) (b1 : 1 ≤ W ∧ W ≤ 24) (b2 : 1 ≤ H ∧ H ≤ 24) (b3 : 0 ≤ S ∧ S ≤ 6) (hG : G = 4 * max W H * 2 ^ S.toNat) (g0 : 4 ≤ G) : checkS ⟨4097, H, S, [⟨0, 0, 0, 5⟩], [⟨1, 0, 0, ⟨0, 0, 0, ⟨0, 0⟩, ⟨0, 0⟩⟩, [⟨⟨0, 0⟩, [⟨1, ⟨1, 0⟩, ⟨0, 0⟩, ⟨0, 0⟩⟩], false⟩]⟩]⟩ = some 4 ∧ (⟨4097, H, S, [⟨0, 0, 0, 5⟩], [⟨1, 0, 0, ⟨0, 0, 0, ⟨0, 0⟩, ⟨0, 0⟩⟩, [⟨⟨0, 0⟩, [⟨1, ⟨1, 0⟩, ⟨0, 0⟩, ⟨0, 0⟩⟩], false⟩]⟩]⟩ : Icon).Fit := by
  have fit : (⟨4097, H, S, [⟨0, 0, 0, 5⟩], [⟨1, 0, 0, ⟨0, 0, 0, ⟨0, 0⟩, ⟨0, 0⟩⟩, [⟨⟨0, 0⟩, [⟨1, ⟨1, 0⟩, ⟨0, 0⟩, ⟨0, 0⟩⟩], false⟩]⟩]⟩ : Icon).Fit := by
    refine ⟨by simp, by simp, fun c hc => ?_⟩
    rw [List.mem_singleton] at hc; subst hc
    exact ⟨by simp, fun p hp => by simp at hp <;> (try rw [hp]) <;> simp⟩
  refine ⟨?_, fit⟩
  unfold checkS
  rw [if_pos (by unfold sizedS; simp [inS])]
theorem bad1 (W H S G : Int) (b1 : 1 ≤ W ∧ W ≤ 24) (b2 : 1 ≤ H ∧ H ≤ 24) (b3 : 0 ≤ S ∧ S ≤ 6) (hG : G = 4 * max W H * 2 ^ S.toNat) (g0 : 4 ≤ G) : checkS ⟨W, H, 7, [⟨0, 0, 0, 5⟩], [⟨1, 0, 0, ⟨0, 0, 0, ⟨0, 0⟩, ⟨0, 0⟩⟩, [⟨⟨0, 0⟩, [⟨1, ⟨1, 0⟩, ⟨0, 0⟩, ⟨0, 0⟩⟩], false⟩]⟩]⟩ = some 4 ∧ (⟨W, H, 7, [⟨0, 0, 0, 5⟩], [⟨1, 0, 0, ⟨0, 0, 0, ⟨0, 0⟩, ⟨0, 0⟩⟩, [⟨⟨0, 0⟩, [⟨1, ⟨1, 0⟩, ⟨0, 0⟩, ⟨0, 0⟩⟩], false⟩]⟩]⟩ : Icon).Fit := by
  have fit : (⟨W, H, 7, [⟨0, 0, 0, 5⟩], [⟨1, 0, 0, ⟨0, 0, 0, ⟨0, 0⟩, ⟨0, 0⟩⟩, [⟨⟨0, 0⟩, [⟨1, ⟨1, 0⟩, ⟨0, 0⟩, ⟨0, 0⟩⟩], false⟩]⟩]⟩ : Icon).Fit := by
    refine ⟨by simp, by simp, fun c hc => ?_⟩
    rw [List.mem_singleton] at hc; subst hc
    exact ⟨by simp, fun p hp => by simp at hp <;> (try rw [hp]) <;> simp⟩
  refine ⟨?_, fit⟩
  unfold checkS
  rw [if_pos (by unfold sizedS; simp [inS])]
theorem bad2 (W H S G : Int) (b1 : 1 ≤ W ∧ W ≤ 24) (b2 : 1 ≤ H ∧ H ≤ 24) (b3 : 0 ≤ S ∧ S ≤ 6) (hG : G = 4 * max W H * 2 ^ S.toNat) (g0 : 4 ≤ G) : checkS ⟨W, H, S, [⟨0, 0, 0, 5⟩, ⟨0, 0, 0, 5⟩], [⟨1, 0, 0, ⟨0, 0, 0, ⟨0, 0⟩, ⟨0, 0⟩⟩, [⟨⟨0, 0⟩, [⟨1, ⟨1, 0⟩, ⟨0, 0⟩, ⟨0, 0⟩⟩], false⟩]⟩]⟩ = some 9 ∧ (⟨W, H, S, [⟨0, 0, 0, 5⟩, ⟨0, 0, 0, 5⟩], [⟨1, 0, 0, ⟨0, 0, 0, ⟨0, 0⟩, ⟨0, 0⟩⟩, [⟨⟨0, 0⟩, [⟨1, ⟨1, 0⟩, ⟨0, 0⟩, ⟨0, 0⟩⟩], false⟩]⟩]⟩ : Icon).Fit := by
  have fit : (⟨W, H, S, [⟨0, 0, 0, 5⟩, ⟨0, 0, 0, 5⟩], [⟨1, 0, 0, ⟨0, 0, 0, ⟨0, 0⟩, ⟨0, 0⟩⟩, [⟨⟨0, 0⟩, [⟨1, ⟨1, 0⟩, ⟨0, 0⟩, ⟨0, 0⟩⟩], false⟩]⟩]⟩ : Icon).Fit := by
    refine ⟨by simp, by simp, fun c hc => ?_⟩
    rw [List.mem_singleton] at hc; subst hc
    exact ⟨by simp, fun p hp => by simp at hp <;> (try rw [hp]) <;> simp⟩
  refine ⟨?_, fit⟩
  rw [check_one (sized_of b1 b2 b3) (by simp), great_of b1 b2 b3, ← hG]
  have z : inS 0 (-G) G = true := in_far (by omega) (by omega)
  have o : inS 1 (-G) G = true := in_far (by omega) (by omega)
  have ov : inS (G + 1) (-G) G = false := in_over (by omega)
  have un : inS (-G - 1) (-G) G = false := in_under (by omega)
  have i1 : inS 0 0 1 = true := by decide
  have i2 : inS 0 0 2 = true := by decide
  have i3 : inS 1 0 2 = true := by decide
  have i4 : inS 0 0 0 = true := by decide
  have i5 : inS 1 0 0 = false := by decide
  have i6 : inS 1 1 3 = true := by decide
  have i7 : inS 4 1 3 = false := by decide
  have i8 : inS 0 1 G = false := by unfold inS; simp
  have i9 : inS 0 0 1 = true := by decide
  simp [cmdS, headS, paintS, pathS, segS, segPts, firstS, farS, zeroP, z, o, i1, i2, i6, sumS', pathPts, usedS, useAll, usesOf, nextUse, onceS]
theorem bad3 (W H S G : Int) (b1 : 1 ≤ W ∧ W ≤ 24) (b2 : 1 ≤ H ∧ H ≤ 24) (b3 : 0 ≤ S ∧ S ≤ 6) (hG : G = 4 * max W H * 2 ^ S.toNat) (g0 : 4 ≤ G) : checkS ⟨W, H, S, [⟨0, 0, 0, 5⟩, ⟨0, 0, 0, 6⟩], [⟨1, 0, 0, ⟨0, 0, 0, ⟨0, 0⟩, ⟨0, 0⟩⟩, [⟨⟨0, 0⟩, [⟨1, ⟨1, 0⟩, ⟨0, 0⟩, ⟨0, 0⟩⟩], false⟩]⟩]⟩ = some 9 ∧ (⟨W, H, S, [⟨0, 0, 0, 5⟩, ⟨0, 0, 0, 6⟩], [⟨1, 0, 0, ⟨0, 0, 0, ⟨0, 0⟩, ⟨0, 0⟩⟩, [⟨⟨0, 0⟩, [⟨1, ⟨1, 0⟩, ⟨0, 0⟩, ⟨0, 0⟩⟩], false⟩]⟩]⟩ : Icon).Fit := by
  have fit : (⟨W, H, S, [⟨0, 0, 0, 5⟩, ⟨0, 0, 0, 6⟩], [⟨1, 0, 0, ⟨0, 0, 0, ⟨0, 0⟩, ⟨0, 0⟩⟩, [⟨⟨0, 0⟩, [⟨1, ⟨1, 0⟩, ⟨0, 0⟩, ⟨0, 0⟩⟩], false⟩]⟩]⟩ : Icon).Fit := by
    refine ⟨by simp, by simp, fun c hc => ?_⟩
    rw [List.mem_singleton] at hc; subst hc
    exact ⟨by simp, fun p hp => by simp at hp <;> (try rw [hp]) <;> simp⟩
  refine ⟨?_, fit⟩
  rw [check_one (sized_of b1 b2 b3) (by simp), great_of b1 b2 b3, ← hG]
  have z : inS 0 (-G) G = true := in_far (by omega) (by omega)
  have o : inS 1 (-G) G = true := in_far (by omega) (by omega)
  have ov : inS (G + 1) (-G) G = false := in_over (by omega)
  have un : inS (-G - 1) (-G) G = false := in_under (by omega)
  have i1 : inS 0 0 1 = true := by decide
  have i2 : inS 0 0 2 = true := by decide
  have i3 : inS 1 0 2 = true := by decide
  have i4 : inS 0 0 0 = true := by decide
  have i5 : inS 1 0 0 = false := by decide
  have i6 : inS 1 1 3 = true := by decide
  have i7 : inS 4 1 3 = false := by decide
  have i8 : inS 0 1 G = false := by unfold inS; simp
  have i9 : inS 0 0 1 = true := by decide
  simp [cmdS, headS, paintS, pathS, segS, segPts, firstS, farS, zeroP, z, o, i1, i2, i6, sumS', pathPts, usedS, useAll, usesOf, nextUse, onceS]
theorem bad4 (W H S G : Int) (b1 : 1 ≤ W ∧ W ≤ 24) (b2 : 1 ≤ H ∧ H ≤ 24) (b3 : 0 ≤ S ∧ S ≤ 6) (hG : G = 4 * max W H * 2 ^ S.toNat) (g0 : 4 ≤ G) : checkS ⟨W, H, S, [⟨0, 0, 0, 5⟩], [⟨1, 0, 0, ⟨0, 1, 0, ⟨0, 0⟩, ⟨0, 0⟩⟩, [⟨⟨0, 0⟩, [⟨1, ⟨1, 0⟩, ⟨0, 0⟩, ⟨0, 0⟩⟩], false⟩]⟩]⟩ = some 4 ∧ (⟨W, H, S, [⟨0, 0, 0, 5⟩], [⟨1, 0, 0, ⟨0, 1, 0, ⟨0, 0⟩, ⟨0, 0⟩⟩, [⟨⟨0, 0⟩, [⟨1, ⟨1, 0⟩, ⟨0, 0⟩, ⟨0, 0⟩⟩], false⟩]⟩]⟩ : Icon).Fit := by
  have fit : (⟨W, H, S, [⟨0, 0, 0, 5⟩], [⟨1, 0, 0, ⟨0, 1, 0, ⟨0, 0⟩, ⟨0, 0⟩⟩, [⟨⟨0, 0⟩, [⟨1, ⟨1, 0⟩, ⟨0, 0⟩, ⟨0, 0⟩⟩], false⟩]⟩]⟩ : Icon).Fit := by
    refine ⟨by simp, by simp, fun c hc => ?_⟩
    rw [List.mem_singleton] at hc; subst hc
    exact ⟨by simp, fun p hp => by simp at hp <;> (try rw [hp]) <;> simp⟩
  refine ⟨?_, fit⟩
  rw [check_one (sized_of b1 b2 b3) (by simp), great_of b1 b2 b3, ← hG]
  have z : inS 0 (-G) G = true := in_far (by omega) (by omega)
  have o : inS 1 (-G) G = true := in_far (by omega) (by omega)
  have ov : inS (G + 1) (-G) G = false := in_over (by omega)
  have un : inS (-G - 1) (-G) G = false := in_under (by omega)
  have i1 : inS 0 0 1 = true := by decide
  have i2 : inS 0 0 2 = true := by decide
  have i3 : inS 1 0 2 = true := by decide
  have i4 : inS 0 0 0 = true := by decide
  have i5 : inS 1 0 0 = false := by decide
  have i6 : inS 1 1 3 = true := by decide
  have i7 : inS 4 1 3 = false := by decide
  have i8 : inS 0 1 G = false := by unfold inS; simp
  have i9 : inS 0 0 1 = true := by decide
  simp [cmdS, headS, paintS, i1, i2, i4, i5]
theorem bad5 (W H S G : Int) (b1 : 1 ≤ W ∧ W ≤ 24) (b2 : 1 ≤ H ∧ H ≤ 24) (b3 : 0 ≤ S ∧ S ≤ 6) (hG : G = 4 * max W H * 2 ^ S.toNat) (g0 : 4 ≤ G) : checkS ⟨W, H, S, [⟨0, 0, 0, 5⟩], [⟨1, 0, 0, ⟨0, 0, 0, ⟨0, 0⟩, ⟨0, 1⟩⟩, [⟨⟨0, 0⟩, [⟨1, ⟨1, 0⟩, ⟨0, 0⟩, ⟨0, 0⟩⟩], false⟩]⟩]⟩ = some 9 ∧ (⟨W, H, S, [⟨0, 0, 0, 5⟩], [⟨1, 0, 0, ⟨0, 0, 0, ⟨0, 0⟩, ⟨0, 1⟩⟩, [⟨⟨0, 0⟩, [⟨1, ⟨1, 0⟩, ⟨0, 0⟩, ⟨0, 0⟩⟩], false⟩]⟩]⟩ : Icon).Fit := by
  have fit : (⟨W, H, S, [⟨0, 0, 0, 5⟩], [⟨1, 0, 0, ⟨0, 0, 0, ⟨0, 0⟩, ⟨0, 1⟩⟩, [⟨⟨0, 0⟩, [⟨1, ⟨1, 0⟩, ⟨0, 0⟩, ⟨0, 0⟩⟩], false⟩]⟩]⟩ : Icon).Fit := by
    refine ⟨by simp, by simp, fun c hc => ?_⟩
    rw [List.mem_singleton] at hc; subst hc
    exact ⟨by simp, fun p hp => by simp at hp <;> (try rw [hp]) <;> simp⟩
  refine ⟨?_, fit⟩
  rw [check_one (sized_of b1 b2 b3) (by simp), great_of b1 b2 b3, ← hG]
  have z : inS 0 (-G) G = true := in_far (by omega) (by omega)
  have o : inS 1 (-G) G = true := in_far (by omega) (by omega)
  have ov : inS (G + 1) (-G) G = false := in_over (by omega)
  have un : inS (-G - 1) (-G) G = false := in_under (by omega)
  have i1 : inS 0 0 1 = true := by decide
  have i2 : inS 0 0 2 = true := by decide
  have i3 : inS 1 0 2 = true := by decide
  have i4 : inS 0 0 0 = true := by decide
  have i5 : inS 1 0 0 = false := by decide
  have i6 : inS 1 1 3 = true := by decide
  have i7 : inS 4 1 3 = false := by decide
  have i8 : inS 0 1 G = false := by unfold inS; simp
  have i9 : inS 0 0 1 = true := by decide
  simp [cmdS, headS, paintS, zeroP, i1, i2, i4]
theorem bad6 (W H S G : Int) (b1 : 1 ≤ W ∧ W ≤ 24) (b2 : 1 ≤ H ∧ H ≤ 24) (b3 : 0 ≤ S ∧ S ≤ 6) (hG : G = 4 * max W H * 2 ^ S.toNat) (g0 : 4 ≤ G) : checkS ⟨W, H, S, [⟨0, 0, 0, 5⟩], [⟨1, 0, 1, ⟨0, 0, 0, ⟨0, 0⟩, ⟨0, 0⟩⟩, [⟨⟨0, 0⟩, [⟨1, ⟨1, 0⟩, ⟨0, 0⟩, ⟨0, 0⟩⟩], false⟩]⟩]⟩ = some 4 ∧ (⟨W, H, S, [⟨0, 0, 0, 5⟩], [⟨1, 0, 1, ⟨0, 0, 0, ⟨0, 0⟩, ⟨0, 0⟩⟩, [⟨⟨0, 0⟩, [⟨1, ⟨1, 0⟩, ⟨0, 0⟩, ⟨0, 0⟩⟩], false⟩]⟩]⟩ : Icon).Fit := by
  have fit : (⟨W, H, S, [⟨0, 0, 0, 5⟩], [⟨1, 0, 1, ⟨0, 0, 0, ⟨0, 0⟩, ⟨0, 0⟩⟩, [⟨⟨0, 0⟩, [⟨1, ⟨1, 0⟩, ⟨0, 0⟩, ⟨0, 0⟩⟩], false⟩]⟩]⟩ : Icon).Fit := by
    refine ⟨by simp, by simp, fun c hc => ?_⟩
    rw [List.mem_singleton] at hc; subst hc
    exact ⟨by simp, fun p hp => by simp at hp <;> (try rw [hp]) <;> simp⟩
  refine ⟨?_, fit⟩
  rw [check_one (sized_of b1 b2 b3) (by simp), great_of b1 b2 b3, ← hG]
  have z : inS 0 (-G) G = true := in_far (by omega) (by omega)
  have o : inS 1 (-G) G = true := in_far (by omega) (by omega)
  have ov : inS (G + 1) (-G) G = false := in_over (by omega)
  have un : inS (-G - 1) (-G) G = false := in_under (by omega)
  have i1 : inS 0 0 1 = true := by decide
  have i2 : inS 0 0 2 = true := by decide
  have i3 : inS 1 0 2 = true := by decide
  have i4 : inS 0 0 0 = true := by decide
  have i5 : inS 1 0 0 = false := by decide
  have i6 : inS 1 1 3 = true := by decide
  have i7 : inS 4 1 3 = false := by decide
  have i8 : inS 0 1 G = false := by unfold inS; simp
  have i9 : inS 0 0 1 = true := by decide
  simp [cmdS, headS, i1]
theorem bad7 (W H S G : Int) (b1 : 1 ≤ W ∧ W ≤ 24) (b2 : 1 ≤ H ∧ H ≤ 24) (b3 : 0 ≤ S ∧ S ≤ 6) (hG : G = 4 * max W H * 2 ^ S.toNat) (g0 : 4 ≤ G) : checkS ⟨W, H, S, [⟨0, 0, 0, 5⟩], [⟨1, 0, 0, ⟨0, 0, 0, ⟨0, 0⟩, ⟨0, 0⟩⟩, [⟨⟨0, 0⟩, [⟨1, ⟨1, 0⟩, ⟨0, 0⟩, ⟨0, 0⟩⟩], true⟩]⟩]⟩ = some 9 ∧ (⟨W, H, S, [⟨0, 0, 0, 5⟩], [⟨1, 0, 0, ⟨0, 0, 0, ⟨0, 0⟩, ⟨0, 0⟩⟩, [⟨⟨0, 0⟩, [⟨1, ⟨1, 0⟩, ⟨0, 0⟩, ⟨0, 0⟩⟩], true⟩]⟩]⟩ : Icon).Fit := by
  have fit : (⟨W, H, S, [⟨0, 0, 0, 5⟩], [⟨1, 0, 0, ⟨0, 0, 0, ⟨0, 0⟩, ⟨0, 0⟩⟩, [⟨⟨0, 0⟩, [⟨1, ⟨1, 0⟩, ⟨0, 0⟩, ⟨0, 0⟩⟩], true⟩]⟩]⟩ : Icon).Fit := by
    refine ⟨by simp, by simp, fun c hc => ?_⟩
    rw [List.mem_singleton] at hc; subst hc
    exact ⟨by simp, fun p hp => by simp at hp <;> (try rw [hp]) <;> simp⟩
  refine ⟨?_, fit⟩
  rw [check_one (sized_of b1 b2 b3) (by simp), great_of b1 b2 b3, ← hG]
  have z : inS 0 (-G) G = true := in_far (by omega) (by omega)
  have o : inS 1 (-G) G = true := in_far (by omega) (by omega)
  have ov : inS (G + 1) (-G) G = false := in_over (by omega)
  have un : inS (-G - 1) (-G) G = false := in_under (by omega)
  have i1 : inS 0 0 1 = true := by decide
  have i2 : inS 0 0 2 = true := by decide
  have i3 : inS 1 0 2 = true := by decide
  have i4 : inS 0 0 0 = true := by decide
  have i5 : inS 1 0 0 = false := by decide
  have i6 : inS 1 1 3 = true := by decide
  have i7 : inS 4 1 3 = false := by decide
  have i8 : inS 0 1 G = false := by unfold inS; simp
  have i9 : inS 0 0 1 = true := by decide
  simp [cmdS, headS, paintS, pathS, firstS, zeroP, i1, i2, i4]
theorem bad8 (W H S G : Int) (b1 : 1 ≤ W ∧ W ≤ 24) (b2 : 1 ≤ H ∧ H ≤ 24) (b3 : 0 ≤ S ∧ S ≤ 6) (hG : G = 4 * max W H * 2 ^ S.toNat) (g0 : 4 ≤ G) : checkS ⟨W, H, S, [⟨0, 0, 0, 5⟩], [⟨1, 0, 0, ⟨0, 0, 0, ⟨0, 0⟩, ⟨0, 0⟩⟩, [⟨⟨0, 0⟩, [], false⟩]⟩]⟩ = some 4 ∧ (⟨W, H, S, [⟨0, 0, 0, 5⟩], [⟨1, 0, 0, ⟨0, 0, 0, ⟨0, 0⟩, ⟨0, 0⟩⟩, [⟨⟨0, 0⟩, [], false⟩]⟩]⟩ : Icon).Fit := by
  have fit : (⟨W, H, S, [⟨0, 0, 0, 5⟩], [⟨1, 0, 0, ⟨0, 0, 0, ⟨0, 0⟩, ⟨0, 0⟩⟩, [⟨⟨0, 0⟩, [], false⟩]⟩]⟩ : Icon).Fit := by
    refine ⟨by simp, by simp, fun c hc => ?_⟩
    rw [List.mem_singleton] at hc; subst hc
    exact ⟨by simp, fun p hp => by simp at hp <;> (try rw [hp]) <;> simp⟩
  refine ⟨?_, fit⟩
  rw [check_one (sized_of b1 b2 b3) (by simp), great_of b1 b2 b3, ← hG]
  have z : inS 0 (-G) G = true := in_far (by omega) (by omega)
  have o : inS 1 (-G) G = true := in_far (by omega) (by omega)
  have ov : inS (G + 1) (-G) G = false := in_over (by omega)
  have un : inS (-G - 1) (-G) G = false := in_under (by omega)
  have i1 : inS 0 0 1 = true := by decide
  have i2 : inS 0 0 2 = true := by decide
  have i3 : inS 1 0 2 = true := by decide
  have i4 : inS 0 0 0 = true := by decide
  have i5 : inS 1 0 0 = false := by decide
  have i6 : inS 1 1 3 = true := by decide
  have i7 : inS 4 1 3 = false := by decide
  have i8 : inS 0 1 G = false := by unfold inS; simp
  have i9 : inS 0 0 1 = true := by decide
  simp [cmdS, headS, paintS, pathS, firstS, zeroP, i1, i2, i4]
theorem bad9 (W H S G : Int) (b1 : 1 ≤ W ∧ W ≤ 24) (b2 : 1 ≤ H ∧ H ≤ 24) (b3 : 0 ≤ S ∧ S ≤ 6) (hG : G = 4 * max W H * 2 ^ S.toNat) (g0 : 4 ≤ G) : checkS ⟨W, H, S, [⟨0, 0, 0, 5⟩], [⟨1, 0, 0, ⟨0, 0, 0, ⟨0, 0⟩, ⟨0, 0⟩⟩, []⟩]⟩ = some 4 ∧ (⟨W, H, S, [⟨0, 0, 0, 5⟩], [⟨1, 0, 0, ⟨0, 0, 0, ⟨0, 0⟩, ⟨0, 0⟩⟩, []⟩]⟩ : Icon).Fit := by
  have fit : (⟨W, H, S, [⟨0, 0, 0, 5⟩], [⟨1, 0, 0, ⟨0, 0, 0, ⟨0, 0⟩, ⟨0, 0⟩⟩, []⟩]⟩ : Icon).Fit := by
    refine ⟨by simp, by simp, fun c hc => ?_⟩
    rw [List.mem_singleton] at hc; subst hc
    exact ⟨by simp, fun p hp => by simp at hp <;> (try rw [hp]) <;> simp⟩
  refine ⟨?_, fit⟩
  rw [check_one (sized_of b1 b2 b3) (by simp), great_of b1 b2 b3, ← hG]
  have z : inS 0 (-G) G = true := in_far (by omega) (by omega)
  have o : inS 1 (-G) G = true := in_far (by omega) (by omega)
  have ov : inS (G + 1) (-G) G = false := in_over (by omega)
  have un : inS (-G - 1) (-G) G = false := in_under (by omega)
  have i1 : inS 0 0 1 = true := by decide
  have i2 : inS 0 0 2 = true := by decide
  have i3 : inS 1 0 2 = true := by decide
  have i4 : inS 0 0 0 = true := by decide
  have i5 : inS 1 0 0 = false := by decide
  have i6 : inS 1 1 3 = true := by decide
  have i7 : inS 4 1 3 = false := by decide
  have i8 : inS 0 1 G = false := by unfold inS; simp
  have i9 : inS 0 0 1 = true := by decide
  simp [cmdS, headS, paintS, zeroP, i1, i2, i4]
theorem bad10 (W H S G : Int) (b1 : 1 ≤ W ∧ W ≤ 24) (b2 : 1 ≤ H ∧ H ≤ 24) (b3 : 0 ≤ S ∧ S ≤ 6) (hG : G = 4 * max W H * 2 ^ S.toNat) (g0 : 4 ≤ G) : checkS ⟨W, H, S, [⟨0, 0, 0, 5⟩], [⟨1, 0, 0, ⟨0, 0, 0, ⟨0, 0⟩, ⟨0, 0⟩⟩, [⟨⟨G + 1, 0⟩, [⟨1, ⟨1, 0⟩, ⟨0, 0⟩, ⟨0, 0⟩⟩], false⟩]⟩]⟩ = some 4 ∧ (⟨W, H, S, [⟨0, 0, 0, 5⟩], [⟨1, 0, 0, ⟨0, 0, 0, ⟨0, 0⟩, ⟨0, 0⟩⟩, [⟨⟨G + 1, 0⟩, [⟨1, ⟨1, 0⟩, ⟨0, 0⟩, ⟨0, 0⟩⟩], false⟩]⟩]⟩ : Icon).Fit := by
  have fit : (⟨W, H, S, [⟨0, 0, 0, 5⟩], [⟨1, 0, 0, ⟨0, 0, 0, ⟨0, 0⟩, ⟨0, 0⟩⟩, [⟨⟨G + 1, 0⟩, [⟨1, ⟨1, 0⟩, ⟨0, 0⟩, ⟨0, 0⟩⟩], false⟩]⟩]⟩ : Icon).Fit := by
    refine ⟨by simp, by simp, fun c hc => ?_⟩
    rw [List.mem_singleton] at hc; subst hc
    exact ⟨by simp, fun p hp => by simp at hp <;> (try rw [hp]) <;> simp⟩
  refine ⟨?_, fit⟩
  rw [check_one (sized_of b1 b2 b3) (by simp), great_of b1 b2 b3, ← hG]
  have z : inS 0 (-G) G = true := in_far (by omega) (by omega)
  have o : inS 1 (-G) G = true := in_far (by omega) (by omega)
  have ov : inS (G + 1) (-G) G = false := in_over (by omega)
  have un : inS (-G - 1) (-G) G = false := in_under (by omega)
  have i1 : inS 0 0 1 = true := by decide
  have i2 : inS 0 0 2 = true := by decide
  have i3 : inS 1 0 2 = true := by decide
  have i4 : inS 0 0 0 = true := by decide
  have i5 : inS 1 0 0 = false := by decide
  have i6 : inS 1 1 3 = true := by decide
  have i7 : inS 4 1 3 = false := by decide
  have i8 : inS 0 1 G = false := by unfold inS; simp
  have i9 : inS 0 0 1 = true := by decide
  simp [cmdS, headS, paintS, pathS, firstS, farS, zeroP, z, ov, i1, i2, i4]
theorem bad11 (W H S G : Int) (b1 : 1 ≤ W ∧ W ≤ 24) (b2 : 1 ≤ H ∧ H ≤ 24) (b3 : 0 ≤ S ∧ S ≤ 6) (hG : G = 4 * max W H * 2 ^ S.toNat) (g0 : 4 ≤ G) : checkS ⟨W, H, S, [⟨0, 0, 0, 5⟩], [⟨1, 0, 0, ⟨0, 0, 0, ⟨0, 0⟩, ⟨0, 0⟩⟩, [⟨⟨0, 0⟩, [⟨1, ⟨1, -G - 1⟩, ⟨0, 0⟩, ⟨0, 0⟩⟩], false⟩]⟩]⟩ = some 4 ∧ (⟨W, H, S, [⟨0, 0, 0, 5⟩], [⟨1, 0, 0, ⟨0, 0, 0, ⟨0, 0⟩, ⟨0, 0⟩⟩, [⟨⟨0, 0⟩, [⟨1, ⟨1, -G - 1⟩, ⟨0, 0⟩, ⟨0, 0⟩⟩], false⟩]⟩]⟩ : Icon).Fit := by
  have fit : (⟨W, H, S, [⟨0, 0, 0, 5⟩], [⟨1, 0, 0, ⟨0, 0, 0, ⟨0, 0⟩, ⟨0, 0⟩⟩, [⟨⟨0, 0⟩, [⟨1, ⟨1, -G - 1⟩, ⟨0, 0⟩, ⟨0, 0⟩⟩], false⟩]⟩]⟩ : Icon).Fit := by
    refine ⟨by simp, by simp, fun c hc => ?_⟩
    rw [List.mem_singleton] at hc; subst hc
    exact ⟨by simp, fun p hp => by simp at hp <;> (try rw [hp]) <;> simp⟩
  refine ⟨?_, fit⟩
  rw [check_one (sized_of b1 b2 b3) (by simp), great_of b1 b2 b3, ← hG]
  have z : inS 0 (-G) G = true := in_far (by omega) (by omega)
  have o : inS 1 (-G) G = true := in_far (by omega) (by omega)
  have ov : inS (G + 1) (-G) G = false := in_over (by omega)
  have un : inS (-G - 1) (-G) G = false := in_under (by omega)
  have i1 : inS 0 0 1 = true := by decide
  have i2 : inS 0 0 2 = true := by decide
  have i3 : inS 1 0 2 = true := by decide
  have i4 : inS 0 0 0 = true := by decide
  have i5 : inS 1 0 0 = false := by decide
  have i6 : inS 1 1 3 = true := by decide
  have i7 : inS 4 1 3 = false := by decide
  have i8 : inS 0 1 G = false := by unfold inS; simp
  have i9 : inS 0 0 1 = true := by decide
  simp [cmdS, headS, paintS, pathS, segS, segPts, firstS, farS, zeroP, z, o, un, i1, i2, i4, i6]
theorem bad12 (W H S G : Int) (b1 : 1 ≤ W ∧ W ≤ 24) (b2 : 1 ≤ H ∧ H ≤ 24) (b3 : 0 ≤ S ∧ S ≤ 6) (hG : G = 4 * max W H * 2 ^ S.toNat) (g0 : 4 ≤ G) : checkS ⟨W, H, S, [⟨0, 0, 0, 5⟩], [⟨1, 0, 0, ⟨0, 0, 0, ⟨0, 0⟩, ⟨0, 0⟩⟩, [⟨⟨0, 0⟩, [⟨1, ⟨1, 0⟩, ⟨0, 1⟩, ⟨0, 0⟩⟩], false⟩]⟩]⟩ = some 9 ∧ (⟨W, H, S, [⟨0, 0, 0, 5⟩], [⟨1, 0, 0, ⟨0, 0, 0, ⟨0, 0⟩, ⟨0, 0⟩⟩, [⟨⟨0, 0⟩, [⟨1, ⟨1, 0⟩, ⟨0, 1⟩, ⟨0, 0⟩⟩], false⟩]⟩]⟩ : Icon).Fit := by
  have fit : (⟨W, H, S, [⟨0, 0, 0, 5⟩], [⟨1, 0, 0, ⟨0, 0, 0, ⟨0, 0⟩, ⟨0, 0⟩⟩, [⟨⟨0, 0⟩, [⟨1, ⟨1, 0⟩, ⟨0, 1⟩, ⟨0, 0⟩⟩], false⟩]⟩]⟩ : Icon).Fit := by
    refine ⟨by simp, by simp, fun c hc => ?_⟩
    rw [List.mem_singleton] at hc; subst hc
    exact ⟨by simp, fun p hp => by simp at hp <;> (try rw [hp]) <;> simp⟩
  refine ⟨?_, fit⟩
  rw [check_one (sized_of b1 b2 b3) (by simp), great_of b1 b2 b3, ← hG]
  have z : inS 0 (-G) G = true := in_far (by omega) (by omega)
  have o : inS 1 (-G) G = true := in_far (by omega) (by omega)
  have ov : inS (G + 1) (-G) G = false := in_over (by omega)
  have un : inS (-G - 1) (-G) G = false := in_under (by omega)
  have i1 : inS 0 0 1 = true := by decide
  have i2 : inS 0 0 2 = true := by decide
  have i3 : inS 1 0 2 = true := by decide
  have i4 : inS 0 0 0 = true := by decide
  have i5 : inS 1 0 0 = false := by decide
  have i6 : inS 1 1 3 = true := by decide
  have i7 : inS 4 1 3 = false := by decide
  have i8 : inS 0 1 G = false := by unfold inS; simp
  have i9 : inS 0 0 1 = true := by decide
  simp [cmdS, headS, paintS, pathS, segS, segPts, firstS, farS, zeroP, z, o, i1, i2, i4, i6]
theorem bad13 (W H S G : Int) (b1 : 1 ≤ W ∧ W ≤ 24) (b2 : 1 ≤ H ∧ H ≤ 24) (b3 : 0 ≤ S ∧ S ≤ 6) (hG : G = 4 * max W H * 2 ^ S.toNat) (g0 : 4 ≤ G) : checkS ⟨W, H, S, [⟨0, 0, 0, 5⟩], [⟨1, 0, 0, ⟨0, 0, 0, ⟨0, 0⟩, ⟨0, 0⟩⟩, [⟨⟨0, 0⟩, [⟨4, ⟨1, 0⟩, ⟨0, 0⟩, ⟨0, 0⟩⟩], false⟩]⟩]⟩ = some 4 ∧ (⟨W, H, S, [⟨0, 0, 0, 5⟩], [⟨1, 0, 0, ⟨0, 0, 0, ⟨0, 0⟩, ⟨0, 0⟩⟩, [⟨⟨0, 0⟩, [⟨4, ⟨1, 0⟩, ⟨0, 0⟩, ⟨0, 0⟩⟩], false⟩]⟩]⟩ : Icon).Fit := by
  have fit : (⟨W, H, S, [⟨0, 0, 0, 5⟩], [⟨1, 0, 0, ⟨0, 0, 0, ⟨0, 0⟩, ⟨0, 0⟩⟩, [⟨⟨0, 0⟩, [⟨4, ⟨1, 0⟩, ⟨0, 0⟩, ⟨0, 0⟩⟩], false⟩]⟩]⟩ : Icon).Fit := by
    refine ⟨by simp, by simp, fun c hc => ?_⟩
    rw [List.mem_singleton] at hc; subst hc
    exact ⟨by simp, fun p hp => by simp at hp <;> (try rw [hp]) <;> simp⟩
  refine ⟨?_, fit⟩
  rw [check_one (sized_of b1 b2 b3) (by simp), great_of b1 b2 b3, ← hG]
  have z : inS 0 (-G) G = true := in_far (by omega) (by omega)
  have o : inS 1 (-G) G = true := in_far (by omega) (by omega)
  have ov : inS (G + 1) (-G) G = false := in_over (by omega)
  have un : inS (-G - 1) (-G) G = false := in_under (by omega)
  have i1 : inS 0 0 1 = true := by decide
  have i2 : inS 0 0 2 = true := by decide
  have i3 : inS 1 0 2 = true := by decide
  have i4 : inS 0 0 0 = true := by decide
  have i5 : inS 1 0 0 = false := by decide
  have i6 : inS 1 1 3 = true := by decide
  have i7 : inS 4 1 3 = false := by decide
  have i8 : inS 0 1 G = false := by unfold inS; simp
  have i9 : inS 0 0 1 = true := by decide
  simp [cmdS, headS, paintS, pathS, segS, firstS, farS, zeroP, z, i1, i2, i4, i7]
theorem bad14 (W H S G : Int) (b1 : 1 ≤ W ∧ W ≤ 24) (b2 : 1 ≤ H ∧ H ≤ 24) (b3 : 0 ≤ S ∧ S ≤ 6) (hG : G = 4 * max W H * 2 ^ S.toNat) (g0 : 4 ≤ G) : checkS ⟨W, H, S, [⟨0, 0, 0, 5⟩], [⟨2, 0, 0, ⟨0, 0, 0, ⟨0, 0⟩, ⟨0, 0⟩⟩, [⟨⟨0, 0⟩, [⟨1, ⟨1, 0⟩, ⟨0, 0⟩, ⟨0, 0⟩⟩], false⟩]⟩]⟩ = some 4 ∧ (⟨W, H, S, [⟨0, 0, 0, 5⟩], [⟨2, 0, 0, ⟨0, 0, 0, ⟨0, 0⟩, ⟨0, 0⟩⟩, [⟨⟨0, 0⟩, [⟨1, ⟨1, 0⟩, ⟨0, 0⟩, ⟨0, 0⟩⟩], false⟩]⟩]⟩ : Icon).Fit := by
  have fit : (⟨W, H, S, [⟨0, 0, 0, 5⟩], [⟨2, 0, 0, ⟨0, 0, 0, ⟨0, 0⟩, ⟨0, 0⟩⟩, [⟨⟨0, 0⟩, [⟨1, ⟨1, 0⟩, ⟨0, 0⟩, ⟨0, 0⟩⟩], false⟩]⟩]⟩ : Icon).Fit := by
    refine ⟨by simp, by simp, fun c hc => ?_⟩
    rw [List.mem_singleton] at hc; subst hc
    exact ⟨by simp, fun p hp => by simp at hp <;> (try rw [hp]) <;> simp⟩
  refine ⟨?_, fit⟩
  rw [check_one (sized_of b1 b2 b3) (by simp), great_of b1 b2 b3, ← hG]
  have z : inS 0 (-G) G = true := in_far (by omega) (by omega)
  have o : inS 1 (-G) G = true := in_far (by omega) (by omega)
  have ov : inS (G + 1) (-G) G = false := in_over (by omega)
  have un : inS (-G - 1) (-G) G = false := in_under (by omega)
  have i1 : inS 0 0 1 = true := by decide
  have i2 : inS 0 0 2 = true := by decide
  have i3 : inS 1 0 2 = true := by decide
  have i4 : inS 0 0 0 = true := by decide
  have i5 : inS 1 0 0 = false := by decide
  have i6 : inS 1 1 3 = true := by decide
  have i7 : inS 4 1 3 = false := by decide
  have i8 : inS 0 1 G = false := by unfold inS; simp
  have i9 : inS 0 0 1 = true := by decide
  simp [cmdS, headS, i1, i8]
theorem bad15 (W H S G : Int) (b1 : 1 ≤ W ∧ W ≤ 24) (b2 : 1 ≤ H ∧ H ≤ 24) (b3 : 0 ≤ S ∧ S ≤ 6) (hG : G = 4 * max W H * 2 ^ S.toNat) (g0 : 4 ≤ G) : checkS ⟨W, H, S, [⟨0, 0, 0, 5⟩], [⟨1, 0, 0, ⟨1, 0, 0, ⟨0, 0⟩, ⟨0, 0⟩⟩, [⟨⟨0, 0⟩, [⟨1, ⟨1, 0⟩, ⟨0, 0⟩, ⟨0, 0⟩⟩], false⟩]⟩]⟩ = some 4 ∧ (⟨W, H, S, [⟨0, 0, 0, 5⟩], [⟨1, 0, 0, ⟨1, 0, 0, ⟨0, 0⟩, ⟨0, 0⟩⟩, [⟨⟨0, 0⟩, [⟨1, ⟨1, 0⟩, ⟨0, 0⟩, ⟨0, 0⟩⟩], false⟩]⟩]⟩ : Icon).Fit := by
  have fit : (⟨W, H, S, [⟨0, 0, 0, 5⟩], [⟨1, 0, 0, ⟨1, 0, 0, ⟨0, 0⟩, ⟨0, 0⟩⟩, [⟨⟨0, 0⟩, [⟨1, ⟨1, 0⟩, ⟨0, 0⟩, ⟨0, 0⟩⟩], false⟩]⟩]⟩ : Icon).Fit := by
    refine ⟨by simp, by simp, fun c hc => ?_⟩
    rw [List.mem_singleton] at hc; subst hc
    exact ⟨by simp, fun p hp => by simp at hp <;> (try rw [hp]) <;> simp⟩
  refine ⟨?_, fit⟩
  rw [check_one (sized_of b1 b2 b3) (by simp), great_of b1 b2 b3, ← hG]
  have z : inS 0 (-G) G = true := in_far (by omega) (by omega)
  have o : inS 1 (-G) G = true := in_far (by omega) (by omega)
  have ov : inS (G + 1) (-G) G = false := in_over (by omega)
  have un : inS (-G - 1) (-G) G = false := in_under (by omega)
  have i1 : inS 0 0 1 = true := by decide
  have i2 : inS 0 0 2 = true := by decide
  have i3 : inS 1 0 2 = true := by decide
  have i4 : inS 0 0 0 = true := by decide
  have i5 : inS 1 0 0 = false := by decide
  have i6 : inS 1 1 3 = true := by decide
  have i7 : inS 4 1 3 = false := by decide
  have i8 : inS 0 1 G = false := by unfold inS; simp
  have i9 : inS 0 0 1 = true := by decide
  simp [cmdS, headS, paintS, farS, sameP, z, i1, i3, i4]
theorem bad16 (W H S G : Int) (b1 : 1 ≤ W ∧ W ≤ 24) (b2 : 1 ≤ H ∧ H ≤ 24) (b3 : 0 ≤ S ∧ S ≤ 6) (hG : G = 4 * max W H * 2 ^ S.toNat) (g0 : 4 ≤ G) : checkS ⟨W, H, S, [⟨0, 0, 0, 5⟩], [⟨1, 0, 0, ⟨0, 0, 0, ⟨0, 0⟩, ⟨0, 0⟩⟩, [⟨⟨0, 0⟩, (List.replicate 401 ⟨0, ⟨0, 0⟩, ⟨0, 0⟩, ⟨0, 0⟩⟩), false⟩]⟩]⟩ = some 5 ∧ (⟨W, H, S, [⟨0, 0, 0, 5⟩], [⟨1, 0, 0, ⟨0, 0, 0, ⟨0, 0⟩, ⟨0, 0⟩⟩, [⟨⟨0, 0⟩, (List.replicate 401 ⟨0, ⟨0, 0⟩, ⟨0, 0⟩, ⟨0, 0⟩⟩), false⟩]⟩]⟩ : Icon).Fit := by
  have fit : (⟨W, H, S, [⟨0, 0, 0, 5⟩], [⟨1, 0, 0, ⟨0, 0, 0, ⟨0, 0⟩, ⟨0, 0⟩⟩, [⟨⟨0, 0⟩, (List.replicate 401 ⟨0, ⟨0, 0⟩, ⟨0, 0⟩, ⟨0, 0⟩⟩), false⟩]⟩]⟩ : Icon).Fit := by
    refine ⟨by simp, by simp, fun c hc => ?_⟩
    rw [List.mem_singleton] at hc; subst hc
    exact ⟨by simp, fun p hp => by simp at hp <;> (try rw [hp]) <;> simp⟩
  refine ⟨?_, fit⟩
  rw [check_one (sized_of b1 b2 b3) (by simp), great_of b1 b2 b3, ← hG]
  have z : inS 0 (-G) G = true := in_far (by omega) (by omega)
  have o : inS 1 (-G) G = true := in_far (by omega) (by omega)
  have ov : inS (G + 1) (-G) G = false := in_over (by omega)
  have un : inS (-G - 1) (-G) G = false := in_under (by omega)
  have i1 : inS 0 0 1 = true := by decide
  have i2 : inS 0 0 2 = true := by decide
  have i3 : inS 1 0 2 = true := by decide
  have i4 : inS 0 0 0 = true := by decide
  have i5 : inS 1 0 0 = false := by decide
  have i6 : inS 1 1 3 = true := by decide
  have i7 : inS 4 1 3 = false := by decide
  have i8 : inS 0 1 G = false := by unfold inS; simp
  have i9 : inS 0 0 1 = true := by decide
  simp [cmdS, headS, paintS, pathS, firstS, zeroP, i1, i2, i4]
theorem bad17 (W H S G : Int) (b1 : 1 ≤ W ∧ W ≤ 24) (b2 : 1 ≤ H ∧ H ≤ 24) (b3 : 0 ≤ S ∧ S ≤ 6) (hG : G = 4 * max W H * 2 ^ S.toNat) (g0 : 4 ≤ G) : checkS ⟨W, H, S, (List.replicate 257 ⟨0, 0, 0, 0⟩), [⟨1, 0, 0, ⟨0, 0, 0, ⟨0, 0⟩, ⟨0, 0⟩⟩, [⟨⟨0, 0⟩, [⟨1, ⟨1, 0⟩, ⟨0, 0⟩, ⟨0, 0⟩⟩], false⟩]⟩]⟩ = some 5 ∧ (⟨W, H, S, (List.replicate 257 ⟨0, 0, 0, 0⟩), [⟨1, 0, 0, ⟨0, 0, 0, ⟨0, 0⟩, ⟨0, 0⟩⟩, [⟨⟨0, 0⟩, [⟨1, ⟨1, 0⟩, ⟨0, 0⟩, ⟨0, 0⟩⟩], false⟩]⟩]⟩ : Icon).Fit := by
  have fit : (⟨W, H, S, (List.replicate 257 ⟨0, 0, 0, 0⟩), [⟨1, 0, 0, ⟨0, 0, 0, ⟨0, 0⟩, ⟨0, 0⟩⟩, [⟨⟨0, 0⟩, [⟨1, ⟨1, 0⟩, ⟨0, 0⟩, ⟨0, 0⟩⟩], false⟩]⟩]⟩ : Icon).Fit := by
    refine ⟨by simp, by simp, fun c hc => ?_⟩
    rw [List.mem_singleton] at hc; subst hc
    exact ⟨by simp, fun p hp => by simp at hp <;> (try rw [hp]) <;> simp⟩
  refine ⟨?_, fit⟩
  unfold checkS
  rw [if_neg (by rw [sized_of b1 b2 b3]; simp), if_pos (by simp)]
theorem good_one (W H S G : Int) (b1 : 1 ≤ W ∧ W ≤ 24) (b2 : 1 ≤ H ∧ H ≤ 24) (b3 : 0 ≤ S ∧ S ≤ 6) (hG : G = 4 * max W H * 2 ^ S.toNat) (g0 : 4 ≤ G) : checkS ⟨W, H, S, [⟨0, 0, 0, 5⟩], [⟨1, 0, 0, ⟨0, 0, 0, ⟨0, 0⟩, ⟨0, 0⟩⟩, [⟨⟨0, 0⟩, [⟨1, ⟨1, 0⟩, ⟨0, 0⟩, ⟨0, 0⟩⟩], false⟩]⟩]⟩ = none ∧ (⟨W, H, S, [⟨0, 0, 0, 5⟩], [⟨1, 0, 0, ⟨0, 0, 0, ⟨0, 0⟩, ⟨0, 0⟩⟩, [⟨⟨0, 0⟩, [⟨1, ⟨1, 0⟩, ⟨0, 0⟩, ⟨0, 0⟩⟩], false⟩]⟩]⟩ : Icon).Fit := by
  refine ⟨?_, ⟨by simp, by simp, fun c hc => ?_⟩⟩
  · rw [check_one (sized_of b1 b2 b3) (by simp), great_of b1 b2 b3, ← hG]
    have z : inS 0 (-G) G = true := in_far (by omega) (by omega)
    have o : inS 1 (-G) G = true := in_far (by omega) (by omega)
    have i1 : inS 0 0 1 = true := by decide
    have i2 : inS 0 0 2 = true := by decide
    have i4 : inS 0 0 0 = true := by decide
    have i6 : inS 1 1 3 = true := by decide
    simp [cmdS, headS, paintS, pathS, segS, segPts, firstS, farS, zeroP, z, o, i1, i2, i4, i6, sumS', pathPts, usedS, useAll, usesOf, nextUse, onceS]
  · rw [List.mem_singleton] at hc; subst hc
    exact ⟨by simp, fun p hp => by simp at hp; rw [hp]; simp⟩

theorem errors_run {Gl : xzB} (hG : GlAll Gl) (l : List Int) (which : Int) :
    CallsV Go.VL.Er.E Gl f_glyphiclaw5_IconErrors [.fsl (l.map (VV.int .i64)) l.length 1, .int .i64 which] h0 (fun v _ => v = .bool true) := by
  refine xzj E_glyphiclaw5_IconErrors ?_
  unfold c_glyphiclaw5_IconErrors r_glyphiclaw5_IconErrors
  simp only [xzQ]
  simp only [qzp, qzq, qzj, qzf, qzd, qze, qzo, qzJ, qzc, qzb, qzg, qzh, qzr, qzk, qzl, qzs, qzt, qzv, qzy, cv, h0, Nat.zero_add, t_p_api_At, t_p_errors_errorString]
  refine qzU (first5_ok (icg_all hG)) rfl rfl ?_
  by_cases h1 : (l.length : Int) > 200
  · simp only [qzz, qzp, qzq, qzB, qzw, qzn, qzj, qzT, qzf, qzd, qze, qzo, xzc, qzJ, qzu, qzC, qzc, qzH, qzb, qzg, qzh, qzY, qzr, qzk, qzl, qzs, qza, qzt, qzv, qzy, xzr, xzk, yzc, xzs, xzv, qzS, cvs, cv, qzL, qzK, toA, ofA, FR.pop, abin, aun, intBin, VN.at, VH.push, VV.cells, ntV, qzW, qzM, qzX, qzV, ↓reduceIte, List.length_cons, List.length_nil, List.drop_succ_cons, List.drop_zero, List.take_zero, List.nil_append, List.cons_append, Nat.reduceAdd, Nat.reduceEqDiff, reduceCtorEq, Nat.reduceLeDiff, Nat.zero_add, and_self, Bool.not_true, Bool.false_eq_true, decide_true, forall_const, false_implies, Bool.true_eq_false, reduceCtorEq, h1] <;> first | rfl | exact ⟨rfl, rfl⟩ | exact qzx rfl
  have hl : l.length < 4611686018427387904 := by omega
  simp only [qzz, qzp, qzq, qzB, qzw, qzn, qzj, qzT, qzf, qzd, qze, qzo, xzc, qzJ, qzu, qzC, qzc, qzH, qzb, qzg, qzh, qzY, qzr, qzk, qzl, qzs, qza, qzt, qzv, qzy, xzr, xzk, yzc, xzs, xzv, qzS, cvs, cv, qzL, qzK, toA, ofA, FR.pop, abin, aun, intBin, VN.at, VH.push, VV.cells, ntV, qzW, qzM, qzX, qzV, ↓reduceIte, List.length_cons, List.length_nil, List.drop_succ_cons, List.drop_zero, List.take_zero, List.nil_append, List.cons_append, Nat.reduceAdd, Nat.reduceEqDiff, reduceCtorEq, Nat.reduceLeDiff, Nat.zero_add, and_self, true_and, Bool.not_true, Bool.false_eq_true, decide_false, forall_const, false_implies, reduceCtorEq, h1]
  refine call_shut1 (Mk.icon_ok Gl l 0 0 hl (by omega)) (by simp only [qza, ↓reduceIte, cSeq, bSeq]; rfl) rfl ?_
  obtain ⟨b1, b2, b3, b4⟩ := Mk.icon_in l 0
  obtain ⟨W, hW⟩ : ∃ W, (Mk.iconS l 0).w = W := ⟨_, rfl⟩
  obtain ⟨H, hH⟩ : ∃ H, (Mk.iconS l 0).h = H := ⟨_, rfl⟩
  obtain ⟨S, hS⟩ : ∃ S, (Mk.iconS l 0).scale = S := ⟨_, rfl⟩
  have hW' : Mk.wS l 0 = W := hW
  have hH' : Mk.hS l 0 = H := hH
  have hS' : Mk.scS l 0 = S := hS
  unfold Mk.farS' at b4
  rw [hW'] at b1 b4
  rw [hH'] at b2 b4
  rw [hS'] at b3 b4
  obtain ⟨G, eG⟩ : ∃ G, G = 4 * max W H * 2 ^ S.toNat := ⟨_, rfl⟩
  have gl : 4 ≤ G ∧ G ≤ 10000 := by rw [eG, Int.mul_assoc]; omega
  have gg := greatest_ok Gl ⟨W, H, S, [⟨0, 0, 0, 5⟩], [⟨1, 0, 0, ⟨0, 0, 0, ⟨0, 0⟩, ⟨0, 0⟩⟩, [⟨⟨0, 0⟩, [⟨1, ⟨1, 0⟩, ⟨0, 0⟩, ⟨0, 0⟩⟩], false⟩]⟩]⟩
  rw [great_of b1 b2 b3, ← eG] at gg
  obtain ⟨c1, c2⟩ := good_one W H S G b1 b2 b3 eG gl.1
  have ck := check_ok (icg_all hG) ⟨W, H, S, [⟨0, 0, 0, 5⟩], [⟨1, 0, 0, ⟨0, 0, 0, ⟨0, 0⟩, ⟨0, 0⟩⟩, [⟨⟨0, 0⟩, [⟨1, ⟨1, 0⟩, ⟨0, 0⟩, ⟨0, 0⟩⟩], false⟩]⟩]⟩ c2
  rw [c1] at ck
  simp only [qzp, qzq, qzj, qzf, qzd, qze, qzo, qzG, xzc, qzJ, qzu, qzc, qzm, qzH, qzb, qzP, qzg, qzh, qzY, qzO, qzr, qzk, qzl, qzs, qza, qzt, qzv, qzI, qzN, qzD, xzk, xzs, xzv, qzS, qzR, xza, qzE, cvs, cv, VN.at, VH.push, VH.set, qzi, VV.cells, ntV, qzQ, xzp, ↓reduceIte, Option.getD_some, List.getElem?_cons_zero, List.getElem?_cons_succ, List.length_cons, List.length_nil, List.drop_succ_cons, List.drop_zero, List.take_succ_cons, List.take_zero, List.append_nil, List.nil_append, List.cons_append, List.head?_cons, Nat.reduceAdd, Nat.reduceDiv, Nat.reduceEqDiff, Nat.reduceLeDiff, Nat.add_zero, Nat.zero_add, and_self, cSeq, bSeq, cIcon, hW, hH, hS]
  refine xzM gg (shut_icon (shut_cols [⟨0, 0, 0, 5⟩] (by simp only [qza, qzi, ↓reduceIte, Option.getD_some, Nat.reduceEqDiff]; rfl) rfl (Nat.le_refl _)) (shut_cmds1 ⟨1, 0, 0, ⟨0, 0, 0, ⟨0, 0⟩, ⟨0, 0⟩⟩, [⟨⟨0, 0⟩, [⟨1, ⟨1, 0⟩, ⟨0, 0⟩, ⟨0, 0⟩⟩], false⟩]⟩ (by simp only [qza, qzi, ↓reduceIte, Option.getD_some, Nat.reduceEqDiff]; rfl) (shut_paths1 ⟨⟨0, 0⟩, [⟨1, ⟨1, 0⟩, ⟨0, 0⟩, ⟨0, 0⟩⟩], false⟩ (by simp only [qza, qzi, ↓reduceIte, Option.getD_some, Nat.reduceEqDiff]; rfl) (shut_segs1 ⟨1, ⟨1, 0⟩, ⟨0, 0⟩, ⟨0, 0⟩⟩ (by simp only [qza, qzi, ↓reduceIte, Option.getD_some, Nat.reduceEqDiff, cSeg]; rfl))))) rfl ?_
  simp only [qzp, qzq, qzj, qzf, qzd, qze, qzo, qzG, qzJ, qzu, qzc, qzm, qzb, qzg, qzh, qzr, qzk, qzl, qzs, qza, qzt, qzv, qzy, qzN, qzD, qzE, qzi, ↓reduceIte, Option.getD_some, List.length_cons, List.length_nil, List.drop_zero, List.take_succ_cons, List.take_zero, Nat.reduceAdd, Nat.reduceEqDiff, Nat.reduceLeDiff, Nat.zero_add]
  refine xzM (v := .nilI) ck (shut_icon (shut_cols [⟨0, 0, 0, 5⟩] (by simp only [qza, qzi, ↓reduceIte, Option.getD_some, Nat.reduceEqDiff]; rfl) rfl (Nat.le_refl _)) (shut_cmds1 ⟨1, 0, 0, ⟨0, 0, 0, ⟨0, 0⟩, ⟨0, 0⟩⟩, [⟨⟨0, 0⟩, [⟨1, ⟨1, 0⟩, ⟨0, 0⟩, ⟨0, 0⟩⟩], false⟩]⟩ (by simp only [qza, qzi, ↓reduceIte, Option.getD_some, Nat.reduceEqDiff]; rfl) (shut_paths1 ⟨⟨0, 0⟩, [⟨1, ⟨1, 0⟩, ⟨0, 0⟩, ⟨0, 0⟩⟩], false⟩ (by simp only [qza, qzi, ↓reduceIte, Option.getD_some, Nat.reduceEqDiff]; rfl) (shut_segs1 ⟨1, ⟨1, 0⟩, ⟨0, 0⟩, ⟨0, 0⟩⟩ (by simp only [qza, qzi, ↓reduceIte, Option.getD_some, Nat.reduceEqDiff, cSeg]; rfl))))) rfl ?_
  have w3 : IntKind.u64.wrap S = S := by
    have : ∀ s : Fin 7, IntKind.u64.wrap ((s.val : Nat) : Int) = ((s.val : Nat) : Int) := by decide
    have q := this ⟨S.toNat, by omega⟩
    simp only at q
    rwa [Int.toNat_of_nonneg b3.1] at q
  have mm : (if H > W then H else W) = max W H := by split <;> omega
  have m64 : min S.toNat IntKind.i64.bits = S.toNat := by show min _ 64 = _; omega
  have nn : ¬ S < 0 := by omega
  have w5 : IntKind.i64.wrap (4 * max W H) = 4 * max W H := xzl (by omega) (by omega)
  have w4 : IntKind.i64.wrap (4 * max W H * 2 ^ S.toNat) = G := by rw [← eG]; exact xzl (by omega) (by omega)
  have ne : (G != G) = false := by simp
  have wg : IntKind.i64.wrap (G + 1) = G + 1 := xzl (by omega) (by omega)
  have wn : IntKind.i64.wrap (0 - G) = -G := by rw [xzl (by omega) (by omega)]; omega
  have wn1 : IntKind.i64.wrap (-G - 1) = -G - 1 := xzl (by omega) (by omega)
  have r0 := Int.lt_tmod_of_pos which (show (0:Int) < 18 by omega)
  have r1 := Int.tmod_lt_of_pos which (show (0:Int) < 18 by omega)
  obtain ⟨n, hn⟩ : ∃ n, (which.tmod 18 + 18).tmod 18 = n := ⟨_, rfl⟩
  have n0 : 0 ≤ n := by rw [← hn]; exact Int.tmod_nonneg _ (by omega)
  have n1 : n < 18 := by rw [← hn]; exact Int.tmod_lt_of_pos _ (by omega)
  have q1 : IntKind.i64.wrap (which.tmod 18) = which.tmod 18 := xzl (by omega) (by omega)
  have q2 : IntKind.i64.wrap (which.tmod 18 + 18) = which.tmod 18 + 18 := xzl (by omega) (by omega)
  have q3 : IntKind.i64.wrap n = n := xzl (by omega) (by omega)
  have z0 : natV (VV.int .i64 0) = some 0 := rfl
  have z1 : natV (VV.int .i64 1) = some 1 := rfl
  have i10 : ((1 : Nat) : Int) = 1 := rfl
  have z401 : natV (VV.int .i64 401) = some 401 := rfl
  have z257 : natV (VV.int .i64 257) = some 257 := rfl
  have rp1 : repV 401 [VV.int .i64 0, VV.int .i64 0, VV.int .i64 0, VV.int .i64 0, VV.int .i64 0, VV.int .i64 0, VV.int .i64 0] = xzP cSeg (List.replicate 401 ⟨0, ⟨0, 0⟩, ⟨0, 0⟩, ⟨0, 0⟩⟩) := rep_flat cSeg ⟨0, ⟨0, 0⟩, ⟨0, 0⟩, ⟨0, 0⟩⟩ 401
  have rp2 : repV 257 [VV.int .u8 0, VV.int .u8 0, VV.int .u8 0, VV.int .u8 0] = xzP cCl (List.replicate 257 ⟨0, 0, 0, 0⟩) := rep_flat cCl ⟨0, 0, 0, 0⟩ 257
  have hc : n = 0 ∨ n = 1 ∨ n = 2 ∨ n = 3 ∨ n = 4 ∨ n = 5 ∨ n = 6 ∨ n = 7 ∨ n = 8 ∨ n = 9 ∨ n = 10 ∨ n = 11 ∨ n = 12 ∨ n = 13 ∨ n = 14 ∨ n = 15 ∨ n = 16 ∨ n = 17 := by omega
  rcases hc with rfl | rfl | rfl | rfl | rfl | rfl | rfl | rfl | rfl | rfl | rfl | rfl | rfl | rfl | rfl | rfl | rfl | rfl
  · obtain ⟨d1, d2⟩ := bad0 W H S G b1 b2 b3 eG gl.1
    have ck2 := check_ok (icg_all hG) ⟨4097, H, S, [⟨0, 0, 0, 5⟩], [⟨1, 0, 0, ⟨0, 0, 0, ⟨0, 0⟩, ⟨0, 0⟩⟩, [⟨⟨0, 0⟩, [⟨1, ⟨1, 0⟩, ⟨0, 0⟩, ⟨0, 0⟩⟩], false⟩]⟩]⟩ d2
    rw [d1] at ck2
    simp only [qzz, qzp, xzw, qzq, qzF, qzB, qzw, qzn, qzj, qzT, qzZ, qzf, qzd, qze, qzo, qzG, xzc, qzJ, qzu, xzi, xze, xzx, xzG, yze, xzN, qzC, qzc, qzm, qzH, qzb, qzP, qzg, qzh, qzY, xzn, xzq, xzY, qzO, qzr, qzk, qzl, qzs, qza, qzt, qzv, qzy, xzb, qzI, xzf, yzb, xzL, qzN, qzD, xzH, xzI, xzZ, xzk, xzs, xzv, qzS, qzR, xza, xzU, qzE, cvs, cv, qzL, qzK, toA, ofA, FR.pop, abin, aun, intBin, shiftBin, max2A, foldA, VN.at, VH.push, VH.set, qzi, VV.cells, ntV, qzW, qzM, qzX, qzV, qzQ, countN, xzA, xzE, xzR, xzz, xzF, xzV, xzW, xzp, ↓reduceIte, Option.getD_some, Option.isSome_some, List.getElem?_cons_zero, List.getElem?_cons_succ, List.length_cons, List.length_nil, List.drop_succ_cons, List.drop_zero, List.take_succ_cons, List.take_zero, List.append_nil, List.nil_append, List.cons_append, List.contains_nil, List.head?_cons, Nat.reduceAdd, Nat.reduceMul, Nat.reduceDiv, Nat.reduceLT, Nat.reduceEqDiff, reduceCtorEq, Nat.reduceLeDiff, Int.reduceEq, Int.reduceBEq, Nat.add_zero, Nat.zero_add, and_self, and_true, true_and, Bool.and_self, Bool.not_false, Bool.not_true, Bool.false_eq_true, beq_self_eq_true, bne_self_eq_false, forall_const, false_implies, Bool.true_eq_false, reduceCtorEq, w3, mm, m64, nn, w5, w4, q2, hn, z0, z1, wg, wn, wn1]
    refine xzM (v := erP 4) ck2 (shut_icon (shut_cols [⟨0, 0, 0, 5⟩] (by simp only [qza, qzi, ↓reduceIte, Option.getD_some, Nat.reduceEqDiff]; rfl) rfl (Nat.le_refl _)) (shut_cmds1 ⟨1, 0, 0, ⟨0, 0, 0, ⟨0, 0⟩, ⟨0, 0⟩⟩, [⟨⟨0, 0⟩, [⟨1, ⟨1, 0⟩, ⟨0, 0⟩, ⟨0, 0⟩⟩], false⟩]⟩ (by simp only [qza, qzi, ↓reduceIte, Option.getD_some, Nat.reduceEqDiff]; rfl) (shut_paths1 ⟨⟨0, 0⟩, [⟨1, ⟨1, 0⟩, ⟨0, 0⟩, ⟨0, 0⟩⟩], false⟩ (by simp only [qza, qzi, ↓reduceIte, Option.getD_some, Nat.reduceEqDiff]; rfl) (shut_segs1 ⟨1, ⟨1, 0⟩, ⟨0, 0⟩, ⟨0, 0⟩⟩ (by simp only [qza, qzi, ↓reduceIte, Option.getD_some, Nat.reduceEqDiff, cSeg]; rfl))))) rfl ?_
    simp only [qzd, qze, qzo, qzJ, qzu, qzc, qzb, qzg, qzh, qzr, qzk, qzl, qzs, qza, qzt, qzv, qzy, ↓reduceIte, Nat.reduceAdd, Nat.reduceMul, Nat.reduceEqDiff, beq_self_eq_true, erP, t_p_errors_errorString]
    refine qzU (see_rfl hG 4 (by omega)) rfl rfl ?_
    simp only [qzB, qzj, qzf, qzd, qze, qzo, qzu, qzC, qzc, qzb, qzg, qzh, qzk, qzl, qzs, qza, qzt, qzv, qzy, xzb, cv, qzW, qzM, qzX, qzV, ↓reduceIte, Nat.reduceEqDiff]
  · obtain ⟨d1, d2⟩ := bad1 W H S G b1 b2 b3 eG gl.1
    have ck2 := check_ok (icg_all hG) ⟨W, H, 7, [⟨0, 0, 0, 5⟩], [⟨1, 0, 0, ⟨0, 0, 0, ⟨0, 0⟩, ⟨0, 0⟩⟩, [⟨⟨0, 0⟩, [⟨1, ⟨1, 0⟩, ⟨0, 0⟩, ⟨0, 0⟩⟩], false⟩]⟩]⟩ d2
    rw [d1] at ck2
    simp only [qzz, qzp, xzw, qzq, qzF, qzB, qzw, qzn, qzj, qzT, qzZ, qzf, qzd, qze, qzo, qzG, xzc, qzJ, qzu, xzi, xze, xzx, xzG, yze, xzN, qzC, qzc, qzm, qzH, qzb, qzP, qzg, qzh, qzY, xzn, xzq, xzY, qzO, qzr, qzk, qzl, qzs, qza, qzt, qzv, qzy, xzb, qzI, xzf, yzb, xzL, qzN, qzD, xzH, xzI, xzZ, xzk, xzs, xzv, qzS, qzR, xza, xzU, qzE, cvs, cv, qzL, qzK, toA, ofA, FR.pop, abin, aun, intBin, shiftBin, max2A, foldA, VN.at, VH.push, VH.set, qzi, VV.cells, ntV, qzW, qzM, qzX, qzV, qzQ, countN, xzA, xzE, xzR, xzz, xzF, xzV, xzW, xzp, ↓reduceIte, Option.getD_some, Option.isSome_some, List.getElem?_cons_zero, List.getElem?_cons_succ, List.length_cons, List.length_nil, List.drop_succ_cons, List.drop_zero, List.take_succ_cons, List.take_zero, List.append_nil, List.nil_append, List.cons_append, List.contains_nil, List.head?_cons, Nat.reduceAdd, Nat.reduceMul, Nat.reduceDiv, Nat.reduceLT, Nat.reduceEqDiff, reduceCtorEq, Nat.reduceLeDiff, Int.reduceEq, Int.reduceBEq, Nat.add_zero, Nat.zero_add, and_self, and_true, true_and, Bool.and_self, Bool.not_false, Bool.not_true, Bool.false_eq_true, beq_self_eq_true, bne_self_eq_false, forall_const, false_implies, Bool.true_eq_false, reduceCtorEq, w3, mm, m64, nn, w5, w4, q2, hn, z0, z1, wg, wn, wn1]
    refine xzM (v := erP 4) ck2 (shut_icon (shut_cols [⟨0, 0, 0, 5⟩] (by simp only [qza, qzi, ↓reduceIte, Option.getD_some, Nat.reduceEqDiff]; rfl) rfl (Nat.le_refl _)) (shut_cmds1 ⟨1, 0, 0, ⟨0, 0, 0, ⟨0, 0⟩, ⟨0, 0⟩⟩, [⟨⟨0, 0⟩, [⟨1, ⟨1, 0⟩, ⟨0, 0⟩, ⟨0, 0⟩⟩], false⟩]⟩ (by simp only [qza, qzi, ↓reduceIte, Option.getD_some, Nat.reduceEqDiff]; rfl) (shut_paths1 ⟨⟨0, 0⟩, [⟨1, ⟨1, 0⟩, ⟨0, 0⟩, ⟨0, 0⟩⟩], false⟩ (by simp only [qza, qzi, ↓reduceIte, Option.getD_some, Nat.reduceEqDiff]; rfl) (shut_segs1 ⟨1, ⟨1, 0⟩, ⟨0, 0⟩, ⟨0, 0⟩⟩ (by simp only [qza, qzi, ↓reduceIte, Option.getD_some, Nat.reduceEqDiff, cSeg]; rfl))))) rfl ?_
    simp only [qzd, qze, qzo, qzJ, qzu, qzc, qzb, qzg, qzh, qzr, qzk, qzl, qzs, qza, qzt, qzv, qzy, ↓reduceIte, Nat.reduceAdd, Nat.reduceMul, Nat.reduceEqDiff, beq_self_eq_true, erP, t_p_errors_errorString]
    refine qzU (see_rfl hG 4 (by omega)) rfl rfl ?_
    simp only [qzB, qzj, qzf, qzd, qze, qzo, qzu, qzC, qzc, qzb, qzg, qzh, qzk, qzl, qzs, qza, qzt, qzv, qzy, xzb, cv, qzW, qzM, qzX, qzV, ↓reduceIte, Nat.reduceEqDiff]
  · obtain ⟨d1, d2⟩ := bad2 W H S G b1 b2 b3 eG gl.1
    have ck2 := check_ok (icg_all hG) ⟨W, H, S, [⟨0, 0, 0, 5⟩, ⟨0, 0, 0, 5⟩], [⟨1, 0, 0, ⟨0, 0, 0, ⟨0, 0⟩, ⟨0, 0⟩⟩, [⟨⟨0, 0⟩, [⟨1, ⟨1, 0⟩, ⟨0, 0⟩, ⟨0, 0⟩⟩], false⟩]⟩]⟩ d2
    rw [d1] at ck2
    simp only [qzz, qzp, xzw, qzq, qzF, qzB, qzw, qzn, qzj, qzT, qzZ, qzf, qzd, qze, qzo, qzG, xzc, qzJ, qzu, xzX, xzi, xze, xzx, xzG, yze, xzN, yzf, qzC, qzc, qzm, qzH, qzb, qzP, qzg, qzh, qzY, xzn, xzq, xzY, qzO, qzr, qzk, qzl, qzs, qza, qzt, qzv, qzy, xzb, qzI, xzf, yzb, xzL, qzN, qzD, xzH, xzI, xzZ, xzk, xzs, xzv, qzS, qzR, xza, srcV, lenOfV, winV, xzU, qzE, cvs, cv, qzL, qzK, toA, ofA, FR.pop, abin, aun, intBin, shiftBin, max2A, foldA, VN.at, VH.push, VH.set, qzi, VV.cells, ntV, qzW, qzM, qzX, qzV, qzQ, countN, xzA, xzE, xzR, xzz, xzF, xzV, xzW, xzp, ↓reduceIte, Option.getD_some, Option.isSome_some, Option.map_some, List.getElem?_cons_zero, List.getElem?_cons_succ, List.length_cons, List.length_nil, List.drop_succ_cons, List.drop_zero, List.take_succ_cons, List.take_zero, List.append_nil, List.nil_append, List.cons_append, List.contains_nil, List.head?_cons, Nat.reduceAdd, Nat.reduceMul, Nat.reduceDiv, Nat.reduceLT, Nat.reduceEqDiff, reduceCtorEq, Nat.reduceLeDiff, Int.reduceEq, Int.reduceBEq, Nat.add_zero, Nat.zero_add, and_self, and_true, true_and, Bool.and_self, Bool.not_false, Bool.not_true, Bool.false_eq_true, beq_self_eq_true, bne_self_eq_false, true_or, forall_const, false_implies, Bool.true_eq_false, reduceCtorEq, true_or, wpW_append, appendV, appToV, w3, mm, m64, nn, w5, w4, q2, hn, z0, z1, wg, wn, wn1]
    refine xzM (v := erP 9) ck2 (shut_icon (shut_cols [⟨0, 0, 0, 5⟩, ⟨0, 0, 0, 5⟩] (by simp only [qza, qzi, ↓reduceIte, Option.getD_some, Nat.reduceEqDiff]; rfl) rfl rfl) (shut_cmds1 ⟨1, 0, 0, ⟨0, 0, 0, ⟨0, 0⟩, ⟨0, 0⟩⟩, [⟨⟨0, 0⟩, [⟨1, ⟨1, 0⟩, ⟨0, 0⟩, ⟨0, 0⟩⟩], false⟩]⟩ (by simp only [qza, qzi, ↓reduceIte, Option.getD_some, Nat.reduceEqDiff]; rfl) (shut_paths1 ⟨⟨0, 0⟩, [⟨1, ⟨1, 0⟩, ⟨0, 0⟩, ⟨0, 0⟩⟩], false⟩ (by simp only [qza, qzi, ↓reduceIte, Option.getD_some, Nat.reduceEqDiff]; rfl) (shut_segs1 ⟨1, ⟨1, 0⟩, ⟨0, 0⟩, ⟨0, 0⟩⟩ (by simp only [qza, qzi, ↓reduceIte, Option.getD_some, Nat.reduceEqDiff, cSeg]; rfl))))) rfl ?_
    simp only [qzd, qze, qzo, qzJ, qzu, qzc, qzb, qzg, qzh, qzr, qzk, qzl, qzs, qza, qzt, qzv, qzy, ↓reduceIte, Nat.reduceAdd, Nat.reduceMul, Nat.reduceEqDiff, beq_self_eq_true, erP, t_p_errors_errorString]
    refine qzU (see_rfl hG 9 (by omega)) rfl rfl ?_
    simp only [qzB, qzj, qzf, qzd, qze, qzo, qzu, qzC, qzc, qzb, qzg, qzh, qzk, qzl, qzs, qza, qzt, qzv, qzy, xzb, cv, qzW, qzM, qzX, qzV, ↓reduceIte, Nat.reduceEqDiff]
  · obtain ⟨d1, d2⟩ := bad3 W H S G b1 b2 b3 eG gl.1
    have ck2 := check_ok (icg_all hG) ⟨W, H, S, [⟨0, 0, 0, 5⟩, ⟨0, 0, 0, 6⟩], [⟨1, 0, 0, ⟨0, 0, 0, ⟨0, 0⟩, ⟨0, 0⟩⟩, [⟨⟨0, 0⟩, [⟨1, ⟨1, 0⟩, ⟨0, 0⟩, ⟨0, 0⟩⟩], false⟩]⟩]⟩ d2
    rw [d1] at ck2
    simp only [qzz, qzp, xzw, qzq, qzF, qzB, qzw, qzn, qzj, qzT, qzZ, qzf, qzd, qze, qzo, qzG, xzc, qzJ, qzu, xzX, xzi, xze, xzx, xzG, yze, xzN, yzf, qzC, qzc, qzm, qzH, qzb, qzP, qzg, qzh, qzY, xzn, xzq, xzY, qzO, qzr, qzk, qzl, qzs, qza, qzt, qzv, qzy, xzb, qzI, xzf, yzb, xzL, qzN, qzD, xzH, xzI, xzZ, xzk, xzs, xzv, qzS, qzR, xza, srcV, lenOfV, winV, xzU, qzE, cvs, cv, qzL, qzK, toA, ofA, FR.pop, abin, aun, intBin, shiftBin, max2A, foldA, VN.at, VH.push, VH.set, qzi, VV.cells, ntV, qzW, qzM, qzX, qzV, qzQ, countN, xzA, xzE, xzR, xzz, xzF, xzV, xzW, xzp, ↓reduceIte, Option.getD_some, Option.isSome_some, Option.map_some, List.getElem?_cons_zero, List.getElem?_cons_succ, List.length_cons, List.length_nil, List.drop_succ_cons, List.drop_zero, List.take_succ_cons, List.take_zero, List.append_nil, List.nil_append, List.cons_append, List.contains_nil, List.head?_cons, Nat.reduceAdd, Nat.reduceMul, Nat.reduceDiv, Nat.reduceLT, Nat.reduceEqDiff, reduceCtorEq, Nat.reduceLeDiff, Int.reduceEq, Int.reduceBEq, Nat.add_zero, Nat.zero_add, and_self, and_true, true_and, Bool.and_self, Bool.not_false, Bool.not_true, Bool.false_eq_true, beq_self_eq_true, bne_self_eq_false, true_or, forall_const, false_implies, Bool.true_eq_false, reduceCtorEq, true_or, wpW_append, appendV, appToV, w3, mm, m64, nn, w5, w4, q2, hn, z0, z1, wg, wn, wn1]
    refine xzM (v := erP 9) ck2 (shut_icon (shut_cols [⟨0, 0, 0, 5⟩, ⟨0, 0, 0, 6⟩] (by simp only [qza, qzi, ↓reduceIte, Option.getD_some, Nat.reduceEqDiff]; rfl) rfl rfl) (shut_cmds1 ⟨1, 0, 0, ⟨0, 0, 0, ⟨0, 0⟩, ⟨0, 0⟩⟩, [⟨⟨0, 0⟩, [⟨1, ⟨1, 0⟩, ⟨0, 0⟩, ⟨0, 0⟩⟩], false⟩]⟩ (by simp only [qza, qzi, ↓reduceIte, Option.getD_some, Nat.reduceEqDiff]; rfl) (shut_paths1 ⟨⟨0, 0⟩, [⟨1, ⟨1, 0⟩, ⟨0, 0⟩, ⟨0, 0⟩⟩], false⟩ (by simp only [qza, qzi, ↓reduceIte, Option.getD_some, Nat.reduceEqDiff]; rfl) (shut_segs1 ⟨1, ⟨1, 0⟩, ⟨0, 0⟩, ⟨0, 0⟩⟩ (by simp only [qza, qzi, ↓reduceIte, Option.getD_some, Nat.reduceEqDiff, cSeg]; rfl))))) rfl ?_
    simp only [qzd, qze, qzo, qzJ, qzu, qzc, qzb, qzg, qzh, qzr, qzk, qzl, qzs, qza, qzt, qzv, qzy, ↓reduceIte, Nat.reduceAdd, Nat.reduceMul, Nat.reduceEqDiff, beq_self_eq_true, erP, t_p_errors_errorString]
    refine qzU (see_rfl hG 9 (by omega)) rfl rfl ?_
    simp only [qzB, qzj, qzf, qzd, qze, qzo, qzu, qzC, qzc, qzb, qzg, qzh, qzk, qzl, qzs, qza, qzt, qzv, qzy, xzb, cv, qzW, qzM, qzX, qzV, ↓reduceIte, Nat.reduceEqDiff]
  · obtain ⟨d1, d2⟩ := bad4 W H S G b1 b2 b3 eG gl.1
    have ck2 := check_ok (icg_all hG) ⟨W, H, S, [⟨0, 0, 0, 5⟩], [⟨1, 0, 0, ⟨0, 1, 0, ⟨0, 0⟩, ⟨0, 0⟩⟩, [⟨⟨0, 0⟩, [⟨1, ⟨1, 0⟩, ⟨0, 0⟩, ⟨0, 0⟩⟩], false⟩]⟩]⟩ d2
    rw [d1] at ck2
    simp only [qzz, qzp, xzw, qzq, qzF, qzB, qzw, qzn, qzj, qzT, qzZ, qzf, qzd, qze, qzo, qzG, xzc, qzJ, qzu, xzi, xze, xzx, xzG, yze, xzN, qzC, qzc, qzm, qzH, qzb, qzP, qzg, qzh, qzY, xzn, xzq, xzY, qzO, qzr, qzk, qzl, qzs, qza, qzt, qzv, qzy, xzb, qzI, xzf, yzb, xzL, qzN, qzD, xzH, xzI, xzZ, xzk, xzs, xzv, qzS, qzR, xza, xzU, qzE, cvs, cv, qzL, qzK, toA, ofA, FR.pop, abin, aun, intBin, shiftBin, max2A, foldA, VN.at, VH.push, VH.set, qzi, VV.cells, ntV, qzW, qzM, qzX, qzV, qzQ, countN, xzA, xzE, xzR, xzz, xzF, xzV, xzW, xzp, ↓reduceIte, Option.getD_some, Option.isSome_some, List.getElem?_cons_zero, List.getElem?_cons_succ, List.length_cons, List.length_nil, List.drop_succ_cons, List.drop_zero, List.take_succ_cons, List.take_zero, List.append_nil, List.nil_append, List.cons_append, List.contains_nil, List.head?_cons, Nat.reduceAdd, Nat.reduceMul, Nat.reduceDiv, Nat.reduceLT, Nat.reduceEqDiff, reduceCtorEq, Nat.reduceLeDiff, Int.reduceEq, Int.reduceBEq, Nat.add_zero, Nat.zero_add, and_self, and_true, true_and, Bool.and_self, Bool.not_false, Bool.not_true, Bool.false_eq_true, beq_self_eq_true, bne_self_eq_false, forall_const, false_implies, Bool.true_eq_false, reduceCtorEq, w3, mm, m64, nn, w5, w4, q2, hn, z0, z1, wg, wn, wn1]
    refine xzM (v := erP 4) ck2 (shut_icon (shut_cols [⟨0, 0, 0, 5⟩] (by simp only [qza, qzi, ↓reduceIte, Option.getD_some, Nat.reduceEqDiff]; rfl) rfl (Nat.le_refl _)) (shut_cmds1 ⟨1, 0, 0, ⟨0, 1, 0, ⟨0, 0⟩, ⟨0, 0⟩⟩, [⟨⟨0, 0⟩, [⟨1, ⟨1, 0⟩, ⟨0, 0⟩, ⟨0, 0⟩⟩], false⟩]⟩ (by simp only [qza, qzi, ↓reduceIte, Option.getD_some]; rfl) (shut_paths1 ⟨⟨0, 0⟩, [⟨1, ⟨1, 0⟩, ⟨0, 0⟩, ⟨0, 0⟩⟩], false⟩ (by simp only [qza, qzi, ↓reduceIte, Option.getD_some, Nat.reduceEqDiff]; rfl) (shut_segs1 ⟨1, ⟨1, 0⟩, ⟨0, 0⟩, ⟨0, 0⟩⟩ (by simp only [qza, qzi, ↓reduceIte, Option.getD_some, Nat.reduceEqDiff, cSeg]; rfl))))) rfl ?_
    simp only [qzd, qze, qzo, qzJ, qzu, qzc, qzb, qzg, qzh, qzr, qzk, qzl, qzs, qza, qzt, qzv, qzy, ↓reduceIte, Nat.reduceAdd, Nat.reduceMul, Nat.reduceEqDiff, beq_self_eq_true, erP, t_p_errors_errorString]
    refine qzU (see_rfl hG 4 (by omega)) rfl rfl ?_
    simp only [qzB, qzj, qzf, qzd, qze, qzo, qzu, qzC, qzc, qzb, qzg, qzh, qzk, qzl, qzs, qza, qzt, qzv, qzy, xzb, cv, qzW, qzM, qzX, qzV, ↓reduceIte, Nat.reduceEqDiff]
  · obtain ⟨d1, d2⟩ := bad5 W H S G b1 b2 b3 eG gl.1
    have ck2 := check_ok (icg_all hG) ⟨W, H, S, [⟨0, 0, 0, 5⟩], [⟨1, 0, 0, ⟨0, 0, 0, ⟨0, 0⟩, ⟨0, 1⟩⟩, [⟨⟨0, 0⟩, [⟨1, ⟨1, 0⟩, ⟨0, 0⟩, ⟨0, 0⟩⟩], false⟩]⟩]⟩ d2
    rw [d1] at ck2
    simp only [qzz, qzp, xzw, qzq, qzF, qzB, qzw, qzn, qzj, qzT, qzZ, qzf, qzd, qze, qzo, qzG, xzc, qzJ, qzu, xzi, xze, xzx, xzG, yze, xzN, qzC, qzc, qzm, qzH, qzb, qzP, qzg, qzh, qzY, xzn, xzq, xzY, qzO, qzr, qzk, qzl, qzs, qza, qzt, qzv, qzy, xzb, qzI, xzf, yzb, xzL, qzN, qzD, xzH, xzI, xzZ, xzk, xzs, xzv, qzS, qzR, xza, xzU, qzE, cvs, cv, qzL, qzK, toA, ofA, FR.pop, abin, aun, intBin, shiftBin, max2A, foldA, VN.at, VH.push, VH.set, qzi, VV.cells, ntV, qzW, qzM, qzX, qzV, qzQ, countN, xzA, xzE, xzR, xzz, xzF, xzV, xzW, xzp, ↓reduceIte, Option.getD_some, Option.isSome_some, List.getElem?_cons_zero, List.getElem?_cons_succ, List.length_cons, List.length_nil, List.drop_succ_cons, List.drop_zero, List.take_succ_cons, List.take_zero, List.append_nil, List.nil_append, List.cons_append, List.contains_nil, List.head?_cons, Nat.reduceAdd, Nat.reduceMul, Nat.reduceDiv, Nat.reduceLT, Nat.reduceEqDiff, reduceCtorEq, Nat.reduceLeDiff, Int.reduceEq, Int.reduceBEq, Nat.add_zero, Nat.zero_add, and_self, and_true, true_and, Bool.and_self, Bool.not_false, Bool.not_true, Bool.false_eq_true, beq_self_eq_true, bne_self_eq_false, forall_const, false_implies, Bool.true_eq_false, reduceCtorEq, w3, mm, m64, nn, w5, w4, q2, hn, z0, z1, wg, wn, wn1]
    refine xzM (v := erP 9) ck2 (shut_icon (shut_cols [⟨0, 0, 0, 5⟩] (by simp only [qza, qzi, ↓reduceIte, Option.getD_some, Nat.reduceEqDiff]; rfl) rfl (Nat.le_refl _)) (shut_cmds1 ⟨1, 0, 0, ⟨0, 0, 0, ⟨0, 0⟩, ⟨0, 1⟩⟩, [⟨⟨0, 0⟩, [⟨1, ⟨1, 0⟩, ⟨0, 0⟩, ⟨0, 0⟩⟩], false⟩]⟩ (by simp only [qza, qzi, ↓reduceIte, Option.getD_some]; rfl) (shut_paths1 ⟨⟨0, 0⟩, [⟨1, ⟨1, 0⟩, ⟨0, 0⟩, ⟨0, 0⟩⟩], false⟩ (by simp only [qza, qzi, ↓reduceIte, Option.getD_some, Nat.reduceEqDiff]; rfl) (shut_segs1 ⟨1, ⟨1, 0⟩, ⟨0, 0⟩, ⟨0, 0⟩⟩ (by simp only [qza, qzi, ↓reduceIte, Option.getD_some, Nat.reduceEqDiff, cSeg]; rfl))))) rfl ?_
    simp only [qzd, qze, qzo, qzJ, qzu, qzc, qzb, qzg, qzh, qzr, qzk, qzl, qzs, qza, qzt, qzv, qzy, ↓reduceIte, Nat.reduceAdd, Nat.reduceMul, Nat.reduceEqDiff, beq_self_eq_true, erP, t_p_errors_errorString]
    refine qzU (see_rfl hG 9 (by omega)) rfl rfl ?_
    simp only [qzB, qzj, qzf, qzd, qze, qzo, qzu, qzC, qzc, qzb, qzg, qzh, qzk, qzl, qzs, qza, qzt, qzv, qzy, xzb, cv, qzW, qzM, qzX, qzV, ↓reduceIte, Nat.reduceEqDiff]
  · obtain ⟨d1, d2⟩ := bad6 W H S G b1 b2 b3 eG gl.1
    have ck2 := check_ok (icg_all hG) ⟨W, H, S, [⟨0, 0, 0, 5⟩], [⟨1, 0, 1, ⟨0, 0, 0, ⟨0, 0⟩, ⟨0, 0⟩⟩, [⟨⟨0, 0⟩, [⟨1, ⟨1, 0⟩, ⟨0, 0⟩, ⟨0, 0⟩⟩], false⟩]⟩]⟩ d2
    rw [d1] at ck2
    simp only [qzz, qzp, xzw, qzq, qzF, qzB, qzw, qzn, qzj, qzT, qzZ, qzf, qzd, qze, qzo, qzG, xzc, qzJ, qzu, xzi, xze, xzx, xzG, yze, xzN, qzC, qzc, qzm, qzH, qzb, qzP, qzg, qzh, qzY, xzn, xzq, xzY, qzO, qzr, qzk, qzl, qzs, qza, qzt, qzv, qzy, xzb, qzI, xzf, yzb, xzL, qzN, qzD, xzH, xzI, xzZ, xzk, xzs, xzv, qzS, qzR, xza, xzU, qzE, cvs, cv, qzL, qzK, toA, ofA, FR.pop, abin, aun, intBin, shiftBin, max2A, foldA, VN.at, VH.push, VH.set, qzi, VV.cells, ntV, qzW, qzM, qzX, qzV, qzQ, countN, xzA, xzE, xzR, xzz, xzF, xzV, xzW, xzp, ↓reduceIte, Option.getD_some, Option.isSome_some, List.getElem?_cons_zero, List.getElem?_cons_succ, List.length_cons, List.length_nil, List.drop_succ_cons, List.drop_zero, List.take_succ_cons, List.take_zero, List.append_nil, List.nil_append, List.cons_append, List.contains_nil, List.head?_cons, Nat.reduceAdd, Nat.reduceMul, Nat.reduceDiv, Nat.reduceLT, Nat.reduceEqDiff, reduceCtorEq, Nat.reduceLeDiff, Int.reduceEq, Int.reduceBEq, Nat.add_zero, Nat.zero_add, and_self, and_true, true_and, Bool.and_self, Bool.not_false, Bool.not_true, Bool.false_eq_true, beq_self_eq_true, bne_self_eq_false, forall_const, false_implies, Bool.true_eq_false, reduceCtorEq, w3, mm, m64, nn, w5, w4, q2, hn, z0, z1, wg, wn, wn1]
    refine xzM (v := erP 4) ck2 (shut_icon (shut_cols [⟨0, 0, 0, 5⟩] (by simp only [qza, qzi, ↓reduceIte, Option.getD_some, Nat.reduceEqDiff]; rfl) rfl (Nat.le_refl _)) (shut_cmds1 ⟨1, 0, 1, ⟨0, 0, 0, ⟨0, 0⟩, ⟨0, 0⟩⟩, [⟨⟨0, 0⟩, [⟨1, ⟨1, 0⟩, ⟨0, 0⟩, ⟨0, 0⟩⟩], false⟩]⟩ (by simp only [qza, qzi, ↓reduceIte, Option.getD_some]; rfl) (shut_paths1 ⟨⟨0, 0⟩, [⟨1, ⟨1, 0⟩, ⟨0, 0⟩, ⟨0, 0⟩⟩], false⟩ (by simp only [qza, qzi, ↓reduceIte, Option.getD_some, Nat.reduceEqDiff]; rfl) (shut_segs1 ⟨1, ⟨1, 0⟩, ⟨0, 0⟩, ⟨0, 0⟩⟩ (by simp only [qza, qzi, ↓reduceIte, Option.getD_some, Nat.reduceEqDiff, cSeg]; rfl))))) rfl ?_
    simp only [qzd, qze, qzo, qzJ, qzu, qzc, qzb, qzg, qzh, qzr, qzk, qzl, qzs, qza, qzt, qzv, qzy, ↓reduceIte, Nat.reduceAdd, Nat.reduceMul, Nat.reduceEqDiff, beq_self_eq_true, erP, t_p_errors_errorString]
    refine qzU (see_rfl hG 4 (by omega)) rfl rfl ?_
    simp only [qzB, qzj, qzf, qzd, qze, qzo, qzu, qzC, qzc, qzb, qzg, qzh, qzk, qzl, qzs, qza, qzt, qzv, qzy, xzb, cv, qzW, qzM, qzX, qzV, ↓reduceIte, Nat.reduceEqDiff]
  · obtain ⟨d1, d2⟩ := bad7 W H S G b1 b2 b3 eG gl.1
    have ck2 := check_ok (icg_all hG) ⟨W, H, S, [⟨0, 0, 0, 5⟩], [⟨1, 0, 0, ⟨0, 0, 0, ⟨0, 0⟩, ⟨0, 0⟩⟩, [⟨⟨0, 0⟩, [⟨1, ⟨1, 0⟩, ⟨0, 0⟩, ⟨0, 0⟩⟩], true⟩]⟩]⟩ d2
    rw [d1] at ck2
    simp only [qzz, qzp, xzw, qzq, qzF, qzB, qzw, qzn, qzj, qzT, qzZ, qzf, qzd, qze, qzo, qzG, xzc, qzJ, qzu, xzi, xze, xzx, xzG, yze, xzN, qzC, qzc, qzm, qzH, qzb, qzP, qzg, qzh, qzY, xzn, xzq, xzY, qzO, qzr, qzk, qzl, qzs, qza, qzt, qzv, qzy, xzb, qzI, xzf, yzb, xzL, qzN, qzD, xzH, xzI, xzZ, xzk, xzs, xzv, qzS, qzR, xza, xzU, qzE, cvs, cv, qzL, qzK, toA, ofA, FR.pop, abin, aun, intBin, shiftBin, max2A, foldA, VN.at, VH.push, VH.set, qzi, VV.cells, ntV, qzW, qzM, qzX, qzV, qzQ, countN, xzA, xzE, xzR, xzz, xzF, xzV, xzW, xzp, ↓reduceIte, Option.getD_some, Option.isSome_some, List.getElem?_cons_zero, List.getElem?_cons_succ, List.length_cons, List.length_nil, List.drop_succ_cons, List.drop_zero, List.take_succ_cons, List.take_zero, List.append_nil, List.nil_append, List.cons_append, List.contains_nil, List.head?_cons, Nat.reduceAdd, Nat.reduceMul, Nat.reduceDiv, Nat.reduceLT, Nat.reduceEqDiff, reduceCtorEq, Nat.reduceLeDiff, Int.reduceEq, Int.reduceBEq, Nat.add_zero, Nat.zero_add, and_self, and_true, true_and, Bool.and_self, Bool.not_false, Bool.not_true, Bool.false_eq_true, beq_self_eq_true, bne_self_eq_false, forall_const, false_implies, Bool.true_eq_false, reduceCtorEq, w3, mm, m64, nn, w5, w4, q2, hn, z0, z1, wg, wn, wn1]
    refine xzM (v := erP 9) ck2 (shut_icon (shut_cols [⟨0, 0, 0, 5⟩] (by simp only [qza, qzi, ↓reduceIte, Option.getD_some, Nat.reduceEqDiff]; rfl) rfl (Nat.le_refl _)) (shut_cmds1 ⟨1, 0, 0, ⟨0, 0, 0, ⟨0, 0⟩, ⟨0, 0⟩⟩, [⟨⟨0, 0⟩, [⟨1, ⟨1, 0⟩, ⟨0, 0⟩, ⟨0, 0⟩⟩], true⟩]⟩ (by simp only [qza, qzi, ↓reduceIte, Option.getD_some, Nat.reduceEqDiff]; rfl) (shut_paths1 ⟨⟨0, 0⟩, [⟨1, ⟨1, 0⟩, ⟨0, 0⟩, ⟨0, 0⟩⟩], true⟩ (by simp only [qza, qzi, ↓reduceIte, Option.getD_some]; rfl) (shut_segs1 ⟨1, ⟨1, 0⟩, ⟨0, 0⟩, ⟨0, 0⟩⟩ (by simp only [qza, qzi, ↓reduceIte, Option.getD_some, Nat.reduceEqDiff, cSeg]; rfl))))) rfl ?_
    simp only [qzd, qze, qzo, qzJ, qzu, qzc, qzb, qzg, qzh, qzr, qzk, qzl, qzs, qza, qzt, qzv, qzy, ↓reduceIte, Nat.reduceAdd, Nat.reduceMul, Nat.reduceEqDiff, beq_self_eq_true, erP, t_p_errors_errorString]
    refine qzU (see_rfl hG 9 (by omega)) rfl rfl ?_
    simp only [qzB, qzj, qzf, qzd, qze, qzo, qzu, qzC, qzc, qzb, qzg, qzh, qzk, qzl, qzs, qza, qzt, qzv, qzy, xzb, cv, qzW, qzM, qzX, qzV, ↓reduceIte, Nat.reduceEqDiff]
  · obtain ⟨d1, d2⟩ := bad8 W H S G b1 b2 b3 eG gl.1
    have ck2 := check_ok (icg_all hG) ⟨W, H, S, [⟨0, 0, 0, 5⟩], [⟨1, 0, 0, ⟨0, 0, 0, ⟨0, 0⟩, ⟨0, 0⟩⟩, [⟨⟨0, 0⟩, [], false⟩]⟩]⟩ d2
    rw [d1] at ck2
    simp only [qzz, qzp, xzw, qzq, qzF, qzB, qzw, qzn, qzj, qzT, qzZ, qzf, qzd, qze, qzo, qzG, xzc, qzJ, qzu, xzi, xze, xzx, xzG, yze, xzN, qzC, qzc, qzm, qzH, qzb, qzP, qzg, qzh, qzY, xzn, xzq, xzY, qzO, qzr, qzk, qzl, qzs, qza, qzt, qzv, qzy, xzb, qzI, xzf, yzb, xzL, qzN, qzD, xzH, xzI, xzZ, xzk, xzs, xzv, qzS, qzR, xza, xzU, qzE, cvs, cv, qzL, qzK, toA, ofA, FR.pop, abin, aun, intBin, shiftBin, max2A, foldA, VN.at, VH.push, VH.set, qzi, VV.cells, ntV, qzW, qzM, qzX, qzV, qzQ, countN, xzA, xzE, xzR, xzz, xzF, xzV, xzW, xzp, ↓reduceIte, Option.getD_some, Option.isSome_some, List.getElem?_cons_zero, List.getElem?_cons_succ, List.length_cons, List.length_nil, List.drop_succ_cons, List.drop_zero, List.take_succ_cons, List.take_zero, List.append_nil, List.nil_append, List.cons_append, List.contains_nil, List.head?_cons, Nat.reduceAdd, Nat.reduceMul, Nat.reduceDiv, Nat.reduceLT, Nat.reduceEqDiff, reduceCtorEq, Nat.reduceLeDiff, Int.reduceEq, Int.reduceBEq, Nat.add_zero, Nat.zero_add, and_self, and_true, true_and, Bool.and_self, Bool.not_false, Bool.not_true, Bool.false_eq_true, beq_self_eq_true, bne_self_eq_false, forall_const, false_implies, Bool.true_eq_false, reduceCtorEq, w3, mm, m64, nn, w5, w4, q2, hn, z0, z1, wg, wn, wn1]
    refine xzM (v := erP 4) ck2 (shut_icon (shut_cols [⟨0, 0, 0, 5⟩] (by simp only [qza, qzi, ↓reduceIte, Option.getD_some, Nat.reduceEqDiff]; rfl) rfl (Nat.le_refl _)) (shut_cmds1 ⟨1, 0, 0, ⟨0, 0, 0, ⟨0, 0⟩, ⟨0, 0⟩⟩, [⟨⟨0, 0⟩, [], false⟩]⟩ (by simp only [qza, qzi, ↓reduceIte, Option.getD_some, Nat.reduceEqDiff]; rfl) (shut_paths1 ⟨⟨0, 0⟩, [], false⟩ (by simp only [qza, qzi, ↓reduceIte, Option.getD_some]; rfl) shut_nil))) rfl ?_
    simp only [qzd, qze, qzo, qzJ, qzu, qzc, qzb, qzg, qzh, qzr, qzk, qzl, qzs, qza, qzt, qzv, qzy, ↓reduceIte, Nat.reduceAdd, Nat.reduceMul, Nat.reduceEqDiff, beq_self_eq_true, erP, t_p_errors_errorString]
    refine qzU (see_rfl hG 4 (by omega)) rfl rfl ?_
    simp only [qzB, qzj, qzf, qzd, qze, qzo, qzu, qzC, qzc, qzb, qzg, qzh, qzk, qzl, qzs, qza, qzt, qzv, qzy, xzb, cv, qzW, qzM, qzX, qzV, ↓reduceIte, Nat.reduceEqDiff]
  · obtain ⟨d1, d2⟩ := bad9 W H S G b1 b2 b3 eG gl.1
    have ck2 := check_ok (icg_all hG) ⟨W, H, S, [⟨0, 0, 0, 5⟩], [⟨1, 0, 0, ⟨0, 0, 0, ⟨0, 0⟩, ⟨0, 0⟩⟩, []⟩]⟩ d2
    rw [d1] at ck2
    simp only [qzz, qzp, xzw, qzq, qzF, qzB, qzw, qzn, qzj, qzT, qzZ, qzf, qzd, qze, qzo, qzG, xzc, qzJ, qzu, xzi, xze, xzx, xzG, yze, xzN, qzC, qzc, qzm, qzH, qzb, qzP, qzg, qzh, qzY, xzn, xzq, xzY, qzO, qzr, qzk, qzl, qzs, qza, qzt, qzv, qzy, xzb, qzI, xzf, yzb, xzL, qzN, qzD, xzH, xzI, xzZ, xzk, xzs, xzv, qzS, qzR, xza, xzU, qzE, cvs, cv, qzL, qzK, toA, ofA, FR.pop, abin, aun, intBin, shiftBin, max2A, foldA, VN.at, VH.push, VH.set, qzi, VV.cells, ntV, qzW, qzM, qzX, qzV, qzQ, countN, xzA, xzE, xzR, xzz, xzF, xzV, xzW, xzp, ↓reduceIte, Option.getD_some, Option.isSome_some, List.getElem?_cons_zero, List.getElem?_cons_succ, List.length_cons, List.length_nil, List.drop_succ_cons, List.drop_zero, List.take_succ_cons, List.take_zero, List.append_nil, List.nil_append, List.cons_append, List.contains_nil, List.head?_cons, Nat.reduceAdd, Nat.reduceMul, Nat.reduceDiv, Nat.reduceLT, Nat.reduceEqDiff, reduceCtorEq, Nat.reduceLeDiff, Int.reduceEq, Int.reduceBEq, Nat.add_zero, Nat.zero_add, and_self, and_true, true_and, Bool.and_self, Bool.not_false, Bool.not_true, Bool.false_eq_true, beq_self_eq_true, bne_self_eq_false, forall_const, false_implies, Bool.true_eq_false, reduceCtorEq, w3, mm, m64, nn, w5, w4, q2, hn, z0, z1, wg, wn, wn1]
    refine xzM (v := erP 4) ck2 (shut_icon (shut_cols [⟨0, 0, 0, 5⟩] (by simp only [qza, qzi, ↓reduceIte, Option.getD_some, Nat.reduceEqDiff]; rfl) rfl (Nat.le_refl _)) (shut_cmds1 ⟨1, 0, 0, ⟨0, 0, 0, ⟨0, 0⟩, ⟨0, 0⟩⟩, []⟩ (by simp only [qza, qzi, ↓reduceIte, Option.getD_some]; rfl) shut_nil)) rfl ?_
    simp only [qzd, qze, qzo, qzJ, qzu, qzc, qzb, qzg, qzh, qzr, qzk, qzl, qzs, qza, qzt, qzv, qzy, ↓reduceIte, Nat.reduceAdd, Nat.reduceMul, Nat.reduceEqDiff, beq_self_eq_true, erP, t_p_errors_errorString]
    refine qzU (see_rfl hG 4 (by omega)) rfl rfl ?_
    simp only [qzB, qzj, qzf, qzd, qze, qzo, qzu, qzC, qzc, qzb, qzg, qzh, qzk, qzl, qzs, qza, qzt, qzv, qzy, xzb, cv, qzW, qzM, qzX, qzV, ↓reduceIte, Nat.reduceEqDiff]
  · obtain ⟨d1, d2⟩ := bad10 W H S G b1 b2 b3 eG gl.1
    have ck2 := check_ok (icg_all hG) ⟨W, H, S, [⟨0, 0, 0, 5⟩], [⟨1, 0, 0, ⟨0, 0, 0, ⟨0, 0⟩, ⟨0, 0⟩⟩, [⟨⟨G + 1, 0⟩, [⟨1, ⟨1, 0⟩, ⟨0, 0⟩, ⟨0, 0⟩⟩], false⟩]⟩]⟩ d2
    rw [d1] at ck2
    simp only [qzz, qzp, xzw, qzq, qzF, qzB, qzw, qzn, qzj, qzT, qzZ, qzf, qzd, qze, qzo, qzG, xzc, qzJ, qzu, xzi, xze, xzx, xzG, yze, xzN, qzC, qzc, qzm, qzH, qzb, qzP, qzg, qzh, qzY, xzn, xzq, xzY, qzO, qzr, qzk, qzl, qzs, qza, qzt, qzv, qzy, xzb, qzI, xzf, yzb, xzL, qzN, qzD, xzH, xzI, xzZ, xzk, xzs, xzv, qzS, qzR, xza, xzU, qzE, cvs, cv, qzL, qzK, toA, ofA, FR.pop, abin, aun, intBin, shiftBin, max2A, foldA, VN.at, VH.push, VH.set, qzi, VV.cells, ntV, qzW, qzM, qzX, qzV, qzQ, countN, xzA, xzE, xzR, xzz, xzF, xzV, xzW, xzp, ↓reduceIte, Option.getD_some, Option.isSome_some, List.getElem?_cons_zero, List.getElem?_cons_succ, List.length_cons, List.length_nil, List.drop_succ_cons, List.drop_zero, List.take_succ_cons, List.take_zero, List.append_nil, List.nil_append, List.cons_append, List.contains_nil, List.head?_cons, Nat.reduceAdd, Nat.reduceMul, Nat.reduceDiv, Nat.reduceLT, Nat.reduceEqDiff, reduceCtorEq, Nat.reduceLeDiff, Int.reduceEq, Int.reduceBEq, Nat.add_zero, Nat.zero_add, and_self, and_true, true_and, Bool.and_self, Bool.not_false, Bool.not_true, Bool.false_eq_true, beq_self_eq_true, bne_self_eq_false, forall_const, false_implies, Bool.true_eq_false, reduceCtorEq, w3, mm, m64, nn, w5, w4, q2, hn, z0, z1, wg, wn, wn1]
    refine xzM (v := erP 4) ck2 (shut_icon (shut_cols [⟨0, 0, 0, 5⟩] (by simp only [qza, qzi, ↓reduceIte, Option.getD_some, Nat.reduceEqDiff]; rfl) rfl (Nat.le_refl _)) (shut_cmds1 ⟨1, 0, 0, ⟨0, 0, 0, ⟨0, 0⟩, ⟨0, 0⟩⟩, [⟨⟨G + 1, 0⟩, [⟨1, ⟨1, 0⟩, ⟨0, 0⟩, ⟨0, 0⟩⟩], false⟩]⟩ (by simp only [qza, qzi, ↓reduceIte, Option.getD_some, Nat.reduceEqDiff]; rfl) (shut_paths1 ⟨⟨G + 1, 0⟩, [⟨1, ⟨1, 0⟩, ⟨0, 0⟩, ⟨0, 0⟩⟩], false⟩ (by simp only [qza, qzi, ↓reduceIte, Option.getD_some]; rfl) (shut_segs1 ⟨1, ⟨1, 0⟩, ⟨0, 0⟩, ⟨0, 0⟩⟩ (by simp only [qza, qzi, ↓reduceIte, Option.getD_some, Nat.reduceEqDiff, cSeg]; rfl))))) rfl ?_
    simp only [qzd, qze, qzo, qzJ, qzu, qzc, qzb, qzg, qzh, qzr, qzk, qzl, qzs, qza, qzt, qzv, qzy, ↓reduceIte, Nat.reduceAdd, Nat.reduceMul, Nat.reduceEqDiff, beq_self_eq_true, erP, t_p_errors_errorString]
    refine qzU (see_rfl hG 4 (by omega)) rfl rfl ?_
    simp only [qzB, qzj, qzf, qzd, qze, qzo, qzu, qzC, qzc, qzb, qzg, qzh, qzk, qzl, qzs, qza, qzt, qzv, qzy, xzb, cv, qzW, qzM, qzX, qzV, ↓reduceIte, Nat.reduceEqDiff]
  · obtain ⟨d1, d2⟩ := bad11 W H S G b1 b2 b3 eG gl.1
    have ck2 := check_ok (icg_all hG) ⟨W, H, S, [⟨0, 0, 0, 5⟩], [⟨1, 0, 0, ⟨0, 0, 0, ⟨0, 0⟩, ⟨0, 0⟩⟩, [⟨⟨0, 0⟩, [⟨1, ⟨1, -G - 1⟩, ⟨0, 0⟩, ⟨0, 0⟩⟩], false⟩]⟩]⟩ d2
    rw [d1] at ck2
    simp only [qzz, qzp, xzw, qzq, qzF, qzB, qzw, qzn, qzj, qzT, qzZ, qzf, qzd, qze, qzo, qzG, xzc, qzJ, qzu, xzi, xze, xzx, xzG, yze, xzN, qzC, qzc, qzm, qzH, qzb, qzP, qzg, qzh, qzY, xzn, xzq, xzY, qzO, qzr, qzk, qzl, qzs, qza, qzt, qzv, qzy, xzb, qzI, xzf, yzb, xzL, qzN, qzD, xzH, xzI, xzZ, xzk, xzs, xzv, qzS, qzR, xza, xzU, qzE, cvs, cv, qzL, qzK, toA, ofA, FR.pop, abin, aun, intBin, shiftBin, max2A, foldA, VN.at, VH.push, VH.set, qzi, VV.cells, ntV, qzW, qzM, qzX, qzV, qzQ, countN, xzA, xzE, xzR, xzz, xzF, xzV, xzW, xzp, ↓reduceIte, Option.getD_some, Option.isSome_some, List.getElem?_cons_zero, List.getElem?_cons_succ, List.length_cons, List.length_nil, List.drop_succ_cons, List.drop_zero, List.take_succ_cons, List.take_zero, List.append_nil, List.nil_append, List.cons_append, List.contains_nil, List.head?_cons, Nat.reduceAdd, Nat.reduceMul, Nat.reduceDiv, Nat.reduceLT, Nat.reduceEqDiff, reduceCtorEq, Nat.reduceLeDiff, Int.reduceEq, Int.reduceBEq, Nat.add_zero, Nat.zero_add, and_self, and_true, true_and, Bool.and_self, Bool.not_false, Bool.not_true, Bool.false_eq_true, beq_self_eq_true, bne_self_eq_false, forall_const, false_implies, Bool.true_eq_false, reduceCtorEq, w3, mm, m64, nn, w5, w4, q2, hn, z0, z1, wg, wn, wn1]
    refine xzM (v := erP 4) ck2 (shut_icon (shut_cols [⟨0, 0, 0, 5⟩] (by simp only [qza, qzi, ↓reduceIte, Option.getD_some, Nat.reduceEqDiff]; rfl) rfl (Nat.le_refl _)) (shut_cmds1 ⟨1, 0, 0, ⟨0, 0, 0, ⟨0, 0⟩, ⟨0, 0⟩⟩, [⟨⟨0, 0⟩, [⟨1, ⟨1, -G - 1⟩, ⟨0, 0⟩, ⟨0, 0⟩⟩], false⟩]⟩ (by simp only [qza, qzi, ↓reduceIte, Option.getD_some, Nat.reduceEqDiff]; rfl) (shut_paths1 ⟨⟨0, 0⟩, [⟨1, ⟨1, -G - 1⟩, ⟨0, 0⟩, ⟨0, 0⟩⟩], false⟩ (by simp only [qza, qzi, ↓reduceIte, Option.getD_some, Nat.reduceEqDiff]; rfl) (shut_segs1 ⟨1, ⟨1, -G - 1⟩, ⟨0, 0⟩, ⟨0, 0⟩⟩ (by simp only [qza, qzi, ↓reduceIte, Option.getD_some, cSeg]; rfl))))) rfl ?_
    simp only [qzd, qze, qzo, qzJ, qzu, qzc, qzb, qzg, qzh, qzr, qzk, qzl, qzs, qza, qzt, qzv, qzy, ↓reduceIte, Nat.reduceAdd, Nat.reduceMul, Nat.reduceEqDiff, beq_self_eq_true, erP, t_p_errors_errorString]
    refine qzU (see_rfl hG 4 (by omega)) rfl rfl ?_
    simp only [qzB, qzj, qzf, qzd, qze, qzo, qzu, qzC, qzc, qzb, qzg, qzh, qzk, qzl, qzs, qza, qzt, qzv, qzy, xzb, cv, qzW, qzM, qzX, qzV, ↓reduceIte, Nat.reduceEqDiff]
  · obtain ⟨d1, d2⟩ := bad12 W H S G b1 b2 b3 eG gl.1
    have ck2 := check_ok (icg_all hG) ⟨W, H, S, [⟨0, 0, 0, 5⟩], [⟨1, 0, 0, ⟨0, 0, 0, ⟨0, 0⟩, ⟨0, 0⟩⟩, [⟨⟨0, 0⟩, [⟨1, ⟨1, 0⟩, ⟨0, 1⟩, ⟨0, 0⟩⟩], false⟩]⟩]⟩ d2
    rw [d1] at ck2
    simp only [qzz, qzp, xzw, qzq, qzF, qzB, qzw, qzn, qzj, qzT, qzZ, qzf, qzd, qze, qzo, qzG, xzc, qzJ, qzu, xzi, xze, xzx, xzG, yze, xzN, qzC, qzc, qzm, qzH, qzb, qzP, qzg, qzh, qzY, xzn, xzq, xzY, qzO, qzr, qzk, qzl, qzs, qza, qzt, qzv, qzy, xzb, qzI, xzf, yzb, xzL, qzN, qzD, xzH, xzI, xzZ, xzk, xzs, xzv, qzS, qzR, xza, xzU, qzE, cvs, cv, qzL, qzK, toA, ofA, FR.pop, abin, aun, intBin, shiftBin, max2A, foldA, VN.at, VH.push, VH.set, qzi, VV.cells, ntV, qzW, qzM, qzX, qzV, qzQ, countN, xzA, xzE, xzR, xzz, xzF, xzV, xzW, xzp, ↓reduceIte, Option.getD_some, Option.isSome_some, List.getElem?_cons_zero, List.getElem?_cons_succ, List.length_cons, List.length_nil, List.drop_succ_cons, List.drop_zero, List.take_succ_cons, List.take_zero, List.append_nil, List.nil_append, List.cons_append, List.contains_nil, List.head?_cons, Nat.reduceAdd, Nat.reduceMul, Nat.reduceDiv, Nat.reduceLT, Nat.reduceEqDiff, reduceCtorEq, Nat.reduceLeDiff, Int.reduceEq, Int.reduceBEq, Nat.add_zero, Nat.zero_add, and_self, and_true, true_and, Bool.and_self, Bool.not_false, Bool.not_true, Bool.false_eq_true, beq_self_eq_true, bne_self_eq_false, forall_const, false_implies, Bool.true_eq_false, reduceCtorEq, w3, mm, m64, nn, w5, w4, q2, hn, z0, z1, wg, wn, wn1]
    refine xzM (v := erP 9) ck2 (shut_icon (shut_cols [⟨0, 0, 0, 5⟩] (by simp only [qza, qzi, ↓reduceIte, Option.getD_some, Nat.reduceEqDiff]; rfl) rfl (Nat.le_refl _)) (shut_cmds1 ⟨1, 0, 0, ⟨0, 0, 0, ⟨0, 0⟩, ⟨0, 0⟩⟩, [⟨⟨0, 0⟩, [⟨1, ⟨1, 0⟩, ⟨0, 1⟩, ⟨0, 0⟩⟩], false⟩]⟩ (by simp only [qza, qzi, ↓reduceIte, Option.getD_some, Nat.reduceEqDiff]; rfl) (shut_paths1 ⟨⟨0, 0⟩, [⟨1, ⟨1, 0⟩, ⟨0, 1⟩, ⟨0, 0⟩⟩], false⟩ (by simp only [qza, qzi, ↓reduceIte, Option.getD_some, Nat.reduceEqDiff]; rfl) (shut_segs1 ⟨1, ⟨1, 0⟩, ⟨0, 1⟩, ⟨0, 0⟩⟩ (by simp only [qza, qzi, ↓reduceIte, Option.getD_some, cSeg]; rfl))))) rfl ?_
    simp only [qzd, qze, qzo, qzJ, qzu, qzc, qzb, qzg, qzh, qzr, qzk, qzl, qzs, qza, qzt, qzv, qzy, ↓reduceIte, Nat.reduceAdd, Nat.reduceMul, Nat.reduceEqDiff, beq_self_eq_true, erP, t_p_errors_errorString]
    refine qzU (see_rfl hG 9 (by omega)) rfl rfl ?_
    simp only [qzB, qzj, qzf, qzd, qze, qzo, qzu, qzC, qzc, qzb, qzg, qzh, qzk, qzl, qzs, qza, qzt, qzv, qzy, xzb, cv, qzW, qzM, qzX, qzV, ↓reduceIte, Nat.reduceEqDiff]
  · obtain ⟨d1, d2⟩ := bad13 W H S G b1 b2 b3 eG gl.1
    have ck2 := check_ok (icg_all hG) ⟨W, H, S, [⟨0, 0, 0, 5⟩], [⟨1, 0, 0, ⟨0, 0, 0, ⟨0, 0⟩, ⟨0, 0⟩⟩, [⟨⟨0, 0⟩, [⟨4, ⟨1, 0⟩, ⟨0, 0⟩, ⟨0, 0⟩⟩], false⟩]⟩]⟩ d2
    rw [d1] at ck2
    simp only [qzz, qzp, xzw, qzq, qzF, qzB, qzw, qzn, qzj, qzT, qzZ, qzf, qzd, qze, qzo, qzG, xzc, qzJ, qzu, xzi, xze, xzx, xzG, yze, xzN, qzC, qzc, qzm, qzH, qzb, qzP, qzg, qzh, qzY, xzn, xzq, xzY, qzO, qzr, qzk, qzl, qzs, qza, qzt, qzv, qzy, xzb, qzI, xzf, yzb, xzL, qzN, qzD, xzH, xzI, xzZ, xzk, xzs, xzv, qzS, qzR, xza, xzU, qzE, cvs, cv, qzL, qzK, toA, ofA, FR.pop, abin, aun, intBin, shiftBin, max2A, foldA, VN.at, VH.push, VH.set, qzi, VV.cells, ntV, qzW, qzM, qzX, qzV, qzQ, countN, xzA, xzE, xzR, xzz, xzF, xzV, xzW, xzp, ↓reduceIte, Option.getD_some, Option.isSome_some, List.getElem?_cons_zero, List.getElem?_cons_succ, List.length_cons, List.length_nil, List.drop_succ_cons, List.drop_zero, List.take_succ_cons, List.take_zero, List.append_nil, List.nil_append, List.cons_append, List.contains_nil, List.head?_cons, Nat.reduceAdd, Nat.reduceMul, Nat.reduceDiv, Nat.reduceLT, Nat.reduceEqDiff, reduceCtorEq, Nat.reduceLeDiff, Int.reduceEq, Int.reduceBEq, Nat.add_zero, Nat.zero_add, and_self, and_true, true_and, Bool.and_self, Bool.not_false, Bool.not_true, Bool.false_eq_true, beq_self_eq_true, bne_self_eq_false, forall_const, false_implies, Bool.true_eq_false, reduceCtorEq, w3, mm, m64, nn, w5, w4, q2, hn, z0, z1, wg, wn, wn1]
    refine xzM (v := erP 4) ck2 (shut_icon (shut_cols [⟨0, 0, 0, 5⟩] (by simp only [qza, qzi, ↓reduceIte, Option.getD_some, Nat.reduceEqDiff]; rfl) rfl (Nat.le_refl _)) (shut_cmds1 ⟨1, 0, 0, ⟨0, 0, 0, ⟨0, 0⟩, ⟨0, 0⟩⟩, [⟨⟨0, 0⟩, [⟨4, ⟨1, 0⟩, ⟨0, 0⟩, ⟨0, 0⟩⟩], false⟩]⟩ (by simp only [qza, qzi, ↓reduceIte, Option.getD_some, Nat.reduceEqDiff]; rfl) (shut_paths1 ⟨⟨0, 0⟩, [⟨4, ⟨1, 0⟩, ⟨0, 0⟩, ⟨0, 0⟩⟩], false⟩ (by simp only [qza, qzi, ↓reduceIte, Option.getD_some, Nat.reduceEqDiff]; rfl) (shut_segs1 ⟨4, ⟨1, 0⟩, ⟨0, 0⟩, ⟨0, 0⟩⟩ (by simp only [qza, qzi, ↓reduceIte, Option.getD_some, cSeg]; rfl))))) rfl ?_
    simp only [qzd, qze, qzo, qzJ, qzu, qzc, qzb, qzg, qzh, qzr, qzk, qzl, qzs, qza, qzt, qzv, qzy, ↓reduceIte, Nat.reduceAdd, Nat.reduceMul, Nat.reduceEqDiff, beq_self_eq_true, erP, t_p_errors_errorString]
    refine qzU (see_rfl hG 4 (by omega)) rfl rfl ?_
    simp only [qzB, qzj, qzf, qzd, qze, qzo, qzu, qzC, qzc, qzb, qzg, qzh, qzk, qzl, qzs, qza, qzt, qzv, qzy, xzb, cv, qzW, qzM, qzX, qzV, ↓reduceIte, Nat.reduceEqDiff]
  · obtain ⟨d1, d2⟩ := bad14 W H S G b1 b2 b3 eG gl.1
    have ck2 := check_ok (icg_all hG) ⟨W, H, S, [⟨0, 0, 0, 5⟩], [⟨2, 0, 0, ⟨0, 0, 0, ⟨0, 0⟩, ⟨0, 0⟩⟩, [⟨⟨0, 0⟩, [⟨1, ⟨1, 0⟩, ⟨0, 0⟩, ⟨0, 0⟩⟩], false⟩]⟩]⟩ d2
    rw [d1] at ck2
    simp only [qzz, qzp, xzw, qzq, qzF, qzB, qzw, qzn, qzj, qzT, qzZ, qzf, qzd, qze, qzo, qzG, xzc, qzJ, qzu, xzi, xze, xzx, xzG, yze, xzN, qzC, qzc, qzm, qzH, qzb, qzP, qzg, qzh, qzY, xzn, xzq, xzY, qzO, qzr, qzk, qzl, qzs, qza, qzt, qzv, qzy, xzb, qzI, xzf, yzb, xzL, qzN, qzD, xzH, xzI, xzZ, xzk, xzs, xzv, qzS, qzR, xza, xzU, qzE, cvs, cv, qzL, qzK, toA, ofA, FR.pop, abin, aun, intBin, shiftBin, max2A, foldA, VN.at, VH.push, VH.set, qzi, VV.cells, ntV, qzW, qzM, qzX, qzV, qzQ, countN, xzA, xzE, xzR, xzz, xzF, xzV, xzW, xzp, ↓reduceIte, Option.getD_some, Option.isSome_some, List.getElem?_cons_zero, List.getElem?_cons_succ, List.length_cons, List.length_nil, List.drop_succ_cons, List.drop_zero, List.take_succ_cons, List.take_zero, List.append_nil, List.nil_append, List.cons_append, List.contains_nil, List.head?_cons, Nat.reduceAdd, Nat.reduceMul, Nat.reduceDiv, Nat.reduceLT, Nat.reduceEqDiff, reduceCtorEq, Nat.reduceLeDiff, Int.reduceEq, Int.reduceBEq, Nat.add_zero, Nat.zero_add, and_self, and_true, true_and, Bool.and_self, Bool.not_false, Bool.not_true, Bool.false_eq_true, beq_self_eq_true, bne_self_eq_false, forall_const, false_implies, Bool.true_eq_false, reduceCtorEq, w3, mm, m64, nn, w5, w4, q2, hn, z0, z1, wg, wn, wn1]
    refine xzM (v := erP 4) ck2 (shut_icon (shut_cols [⟨0, 0, 0, 5⟩] (by simp only [qza, qzi, ↓reduceIte, Option.getD_some, Nat.reduceEqDiff]; rfl) rfl (Nat.le_refl _)) (shut_cmds1 ⟨2, 0, 0, ⟨0, 0, 0, ⟨0, 0⟩, ⟨0, 0⟩⟩, [⟨⟨0, 0⟩, [⟨1, ⟨1, 0⟩, ⟨0, 0⟩, ⟨0, 0⟩⟩], false⟩]⟩ (by simp only [qza, qzi, ↓reduceIte, Option.getD_some]; rfl) (shut_paths1 ⟨⟨0, 0⟩, [⟨1, ⟨1, 0⟩, ⟨0, 0⟩, ⟨0, 0⟩⟩], false⟩ (by simp only [qza, qzi, ↓reduceIte, Option.getD_some, Nat.reduceEqDiff]; rfl) (shut_segs1 ⟨1, ⟨1, 0⟩, ⟨0, 0⟩, ⟨0, 0⟩⟩ (by simp only [qza, qzi, ↓reduceIte, Option.getD_some, Nat.reduceEqDiff, cSeg]; rfl))))) rfl ?_
    simp only [qzd, qze, qzo, qzJ, qzu, qzc, qzb, qzg, qzh, qzr, qzk, qzl, qzs, qza, qzt, qzv, qzy, ↓reduceIte, Nat.reduceAdd, Nat.reduceMul, Nat.reduceEqDiff, beq_self_eq_true, erP, t_p_errors_errorString]
    refine qzU (see_rfl hG 4 (by omega)) rfl rfl ?_
    simp only [qzB, qzj, qzf, qzd, qze, qzo, qzu, qzC, qzc, qzb, qzg, qzh, qzk, qzl, qzs, qza, qzt, qzv, qzy, xzb, cv, qzW, qzM, qzX, qzV, ↓reduceIte, Nat.reduceEqDiff]
  · obtain ⟨d1, d2⟩ := bad15 W H S G b1 b2 b3 eG gl.1
    have ck2 := check_ok (icg_all hG) ⟨W, H, S, [⟨0, 0, 0, 5⟩], [⟨1, 0, 0, ⟨1, 0, 0, ⟨0, 0⟩, ⟨0, 0⟩⟩, [⟨⟨0, 0⟩, [⟨1, ⟨1, 0⟩, ⟨0, 0⟩, ⟨0, 0⟩⟩], false⟩]⟩]⟩ d2
    rw [d1] at ck2
    simp only [qzz, qzp, xzw, qzq, qzF, qzB, qzw, qzn, qzj, qzT, qzZ, qzf, qzd, qze, qzo, qzG, xzc, qzJ, qzu, xzi, xze, xzx, xzG, yze, xzN, qzC, qzc, qzm, qzH, qzb, qzP, qzg, qzh, qzY, xzn, xzq, xzY, qzO, qzr, qzk, qzl, qzs, qza, qzt, qzv, qzy, xzb, qzI, xzf, yzb, xzL, qzN, qzD, xzH, xzI, xzZ, xzk, xzs, xzv, qzS, qzR, xza, xzU, qzE, cvs, cv, qzL, qzK, toA, ofA, FR.pop, abin, aun, intBin, shiftBin, max2A, foldA, VN.at, VH.push, VH.set, qzi, VV.cells, ntV, qzW, qzM, qzX, qzV, qzQ, countN, xzA, xzE, xzR, xzz, xzF, xzV, xzW, xzp, ↓reduceIte, Option.getD_some, Option.isSome_some, List.getElem?_cons_zero, List.getElem?_cons_succ, List.length_cons, List.length_nil, List.drop_succ_cons, List.drop_zero, List.take_succ_cons, List.take_zero, List.append_nil, List.nil_append, List.cons_append, List.contains_nil, List.head?_cons, Nat.reduceAdd, Nat.reduceMul, Nat.reduceDiv, Nat.reduceLT, Nat.reduceEqDiff, reduceCtorEq, Nat.reduceLeDiff, Int.reduceEq, Int.reduceBEq, Nat.add_zero, Nat.zero_add, and_self, and_true, true_and, Bool.and_self, Bool.not_false, Bool.not_true, Bool.false_eq_true, beq_self_eq_true, bne_self_eq_false, forall_const, false_implies, Bool.true_eq_false, reduceCtorEq, w3, mm, m64, nn, w5, w4, q2, hn, z0, z1, wg, wn, wn1]
    refine xzM (v := erP 4) ck2 (shut_icon (shut_cols [⟨0, 0, 0, 5⟩] (by simp only [qza, qzi, ↓reduceIte, Option.getD_some, Nat.reduceEqDiff]; rfl) rfl (Nat.le_refl _)) (shut_cmds1 ⟨1, 0, 0, ⟨1, 0, 0, ⟨0, 0⟩, ⟨0, 0⟩⟩, [⟨⟨0, 0⟩, [⟨1, ⟨1, 0⟩, ⟨0, 0⟩, ⟨0, 0⟩⟩], false⟩]⟩ (by simp only [qza, qzi, ↓reduceIte, Option.getD_some]; rfl) (shut_paths1 ⟨⟨0, 0⟩, [⟨1, ⟨1, 0⟩, ⟨0, 0⟩, ⟨0, 0⟩⟩], false⟩ (by simp only [qza, qzi, ↓reduceIte, Option.getD_some, Nat.reduceEqDiff]; rfl) (shut_segs1 ⟨1, ⟨1, 0⟩, ⟨0, 0⟩, ⟨0, 0⟩⟩ (by simp only [qza, qzi, ↓reduceIte, Option.getD_some, Nat.reduceEqDiff, cSeg]; rfl))))) rfl ?_
    simp only [qzd, qze, qzo, qzJ, qzu, qzc, qzb, qzg, qzh, qzr, qzk, qzl, qzs, qza, qzt, qzv, qzy, ↓reduceIte, Nat.reduceAdd, Nat.reduceMul, Nat.reduceEqDiff, beq_self_eq_true, erP, t_p_errors_errorString]
    refine qzU (see_rfl hG 4 (by omega)) rfl rfl ?_
    simp only [qzB, qzj, qzf, qzd, qze, qzo, qzu, qzC, qzc, qzb, qzg, qzh, qzk, qzl, qzs, qza, qzt, qzv, qzy, xzb, cv, qzW, qzM, qzX, qzV, ↓reduceIte, Nat.reduceEqDiff]
  · obtain ⟨d1, d2⟩ := bad16 W H S G b1 b2 b3 eG gl.1
    have ck2 := check_ok (icg_all hG) ⟨W, H, S, [⟨0, 0, 0, 5⟩], [⟨1, 0, 0, ⟨0, 0, 0, ⟨0, 0⟩, ⟨0, 0⟩⟩, [⟨⟨0, 0⟩, (List.replicate 401 ⟨0, ⟨0, 0⟩, ⟨0, 0⟩, ⟨0, 0⟩⟩), false⟩]⟩]⟩ d2
    rw [d1] at ck2
    simp only [qzz, qzp, xzw, qzq, qzF, qzB, qzw, qzn, qzj, qzT, qzZ, qzf, qzd, qze, qzo, qzG, xzc, qzJ, qzu, xzi, xze, xzx, xzG, yze, xzN, qzC, qzc, qzm, qzH, qzb, qzP, qzg, qzh, qzY, xzn, xzq, xzY, qzO, qzr, qzk, qzl, qzs, qza, qzt, qzv, qzy, xzb, qzI, xzf, yzb, xzL, qzN, qzD, xzH, xzI, xzZ, xzk, xzs, xzv, qzS, qzR, xza, xzU, qzE, cvs, cv, qzL, qzK, toA, ofA, FR.pop, abin, aun, intBin, shiftBin, max2A, foldA, VN.at, VH.push, VH.set, qzi, VV.cells, ntV, qzW, qzM, qzX, qzV, qzQ, countN, xzA, xzE, xzR, xzz, xzF, xzV, xzW, xzp, ↓reduceIte, Option.getD_some, Option.isSome_some, List.getElem?_cons_zero, List.getElem?_cons_succ, List.length_cons, List.length_nil, List.drop_succ_cons, List.drop_zero, List.take_succ_cons, List.take_zero, List.append_nil, List.nil_append, List.cons_append, List.contains_nil, List.head?_cons, Nat.reduceAdd, Nat.reduceMul, Nat.reduceDiv, Nat.reduceLT, Nat.reduceEqDiff, reduceCtorEq, Nat.reduceLeDiff, Int.reduceEq, Int.reduceBEq, Nat.add_zero, Nat.zero_add, and_self, and_true, true_and, Bool.and_self, Bool.not_false, Bool.not_true, Bool.false_eq_true, beq_self_eq_true, bne_self_eq_false, forall_const, false_implies, Bool.true_eq_false, reduceCtorEq, w3, mm, m64, nn, w5, w4, q2, hn, z0, z1, wg, wn, wn1, z401, z257, rp1, rp2, Nat.reduceLT, Nat.reduceLeDiff]
    refine xzM (v := erP 5) ck2 (shut_icon (shut_cols [⟨0, 0, 0, 5⟩] (by simp only [qza, qzi, ↓reduceIte, Option.getD_some, Nat.reduceEqDiff]; rfl) rfl (Nat.le_refl _)) (shut_cmds1 ⟨1, 0, 0, ⟨0, 0, 0, ⟨0, 0⟩, ⟨0, 0⟩⟩, [⟨⟨0, 0⟩, (List.replicate 401 ⟨0, ⟨0, 0⟩, ⟨0, 0⟩, ⟨0, 0⟩⟩), false⟩]⟩ (by simp only [qza, qzi, ↓reduceIte, Option.getD_some, Nat.reduceEqDiff]; rfl) (shut_paths1 ⟨⟨0, 0⟩, (List.replicate 401 ⟨0, ⟨0, 0⟩, ⟨0, 0⟩, ⟨0, 0⟩⟩), false⟩ (by simp only [qza, qzi, ↓reduceIte, Option.getD_some]; rfl) (shut_segs (List.replicate 401 ⟨0, ⟨0, 0⟩, ⟨0, 0⟩, ⟨0, 0⟩⟩) (by simp only [qza, qzi, ↓reduceIte, Option.getD_some, Nat.reduceEqDiff]; rfl) rfl (Nat.le_refl _))))) rfl ?_
    simp only [qzd, qze, qzo, qzJ, qzu, qzc, qzb, qzg, qzh, qzr, qzk, qzl, qzs, qza, qzt, qzv, qzy, ↓reduceIte, Nat.reduceAdd, Nat.reduceMul, Nat.reduceEqDiff, beq_self_eq_true, erP, t_p_errors_errorString]
    refine qzU (see_rfl hG 5 (by omega)) rfl rfl ?_
    simp only [qzB, qzj, qzf, qzd, qze, qzo, qzu, qzC, qzc, qzb, qzg, qzh, qzk, qzl, qzs, qza, qzt, qzv, qzy, xzb, cv, qzW, qzM, qzX, qzV, ↓reduceIte, Nat.reduceEqDiff]
  · obtain ⟨d1, d2⟩ := bad17 W H S G b1 b2 b3 eG gl.1
    have ck2 := check_ok (icg_all hG) ⟨W, H, S, (List.replicate 257 ⟨0, 0, 0, 0⟩), [⟨1, 0, 0, ⟨0, 0, 0, ⟨0, 0⟩, ⟨0, 0⟩⟩, [⟨⟨0, 0⟩, [⟨1, ⟨1, 0⟩, ⟨0, 0⟩, ⟨0, 0⟩⟩], false⟩]⟩]⟩ d2
    rw [d1] at ck2
    simp only [qzz, qzp, xzw, qzq, qzF, qzB, qzw, qzn, qzj, qzT, qzZ, qzf, qzd, qze, qzo, qzG, xzc, qzJ, qzu, xzi, xze, xzx, xzG, yze, xzN, qzC, qzc, qzm, qzH, qzb, qzP, qzg, qzh, qzY, xzn, xzq, xzY, qzO, qzr, qzk, qzl, qzs, qza, qzt, qzv, qzy, xzb, qzI, xzf, yzb, xzL, qzN, qzD, xzH, xzI, xzZ, xzk, xzs, xzv, qzS, qzR, xza, xzU, qzE, cvs, cv, qzL, qzK, toA, ofA, FR.pop, abin, aun, intBin, shiftBin, max2A, foldA, VN.at, VH.push, VH.set, qzi, VV.cells, ntV, qzW, qzM, qzX, qzV, qzQ, countN, xzA, xzE, xzR, xzz, xzF, xzV, xzW, xzp, ↓reduceIte, Option.getD_some, Option.isSome_some, List.getElem?_cons_zero, List.getElem?_cons_succ, List.length_cons, List.length_nil, List.drop_succ_cons, List.drop_zero, List.take_succ_cons, List.take_zero, List.append_nil, List.nil_append, List.cons_append, List.contains_nil, List.head?_cons, Nat.reduceAdd, Nat.reduceMul, Nat.reduceDiv, Nat.reduceLT, Nat.reduceEqDiff, reduceCtorEq, Nat.reduceLeDiff, Int.reduceEq, Int.reduceBEq, Nat.add_zero, Nat.zero_add, and_self, true_and, Bool.and_self, Bool.not_false, Bool.not_true, Bool.false_eq_true, beq_self_eq_true, bne_self_eq_false, forall_const, false_implies, reduceCtorEq, w3, mm, m64, nn, w5, w4, q2, hn, z0, z1, wg, wn, wn1, z401, z257, rp1, rp2, Nat.reduceLT, Nat.reduceLeDiff]
    refine xzM (v := erP 5) ck2 (shut_icon (shut_cols (List.replicate 257 ⟨0, 0, 0, 0⟩) (by simp only [qza, qzi, ↓reduceIte, Option.getD_some, Nat.reduceEqDiff]; rfl) rfl (Nat.le_refl _)) (shut_cmds1 ⟨1, 0, 0, ⟨0, 0, 0, ⟨0, 0⟩, ⟨0, 0⟩⟩, [⟨⟨0, 0⟩, [⟨1, ⟨1, 0⟩, ⟨0, 0⟩, ⟨0, 0⟩⟩], false⟩]⟩ (by simp only [qza, qzi, ↓reduceIte, Option.getD_some, Nat.reduceEqDiff]; rfl) (shut_paths1 ⟨⟨0, 0⟩, [⟨1, ⟨1, 0⟩, ⟨0, 0⟩, ⟨0, 0⟩⟩], false⟩ (by simp only [qza, qzi, ↓reduceIte, Option.getD_some, Nat.reduceEqDiff]; rfl) (shut_segs1 ⟨1, ⟨1, 0⟩, ⟨0, 0⟩, ⟨0, 0⟩⟩ (by simp only [qza, qzi, ↓reduceIte, Option.getD_some, Nat.reduceEqDiff, cSeg]; rfl))))) rfl ?_
    simp only [qzd, qze, qzo, qzJ, qzu, qzc, qzb, qzg, qzh, qzr, qzk, qzl, qzs, qza, qzt, qzv, qzy, ↓reduceIte, Nat.reduceAdd, Nat.reduceMul, Nat.reduceEqDiff, beq_self_eq_true, erP, t_p_errors_errorString]
    refine qzU (see_rfl hG 5 (by omega)) rfl rfl ?_
    simp only [qzB, qzj, qzf, qzd, qze, qzo, qzu, qzC, qzc, qzb, qzg, qzh, qzk, qzl, qzs, qza, qzt, qzv, qzy, xzb, cv, qzW, qzM, qzX, qzV, ↓reduceIte, Nat.reduceEqDiff]
theorem iconErrors (Gl : xzB) (hG : GlAll Gl) (l : List Int) (_ : ∀ z ∈ l, IntKind.i64.min ≤ z ∧ z ≤ IntKind.i64.max) (_ : l.length ≤ 9223372036854775807) (which : Int) (_ : IntKind.i64.min ≤ which) (_ : which ≤ IntKind.i64.max) :
    CallsV Go.VL.Er.E Gl f_glyphiclaw5_IconErrors [.fsl (l.map (VV.int .i64)) l.length 1, .int .i64 which] h0 (fun v _ => v = .bool true) := errors_run hG l which
end
end Go.VL.Ic
