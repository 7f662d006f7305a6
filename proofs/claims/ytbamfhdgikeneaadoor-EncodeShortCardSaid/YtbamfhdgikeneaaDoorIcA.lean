/- Chapter 5: the parts of icon.Check. -/
import Derived.Test.YtbamfhdgikeneaaDoorWiA
namespace Go.VL.Ic
open Go.FR Go.IR Go.VL Go.VL.Er Go.VL.Color Go.VL.Wind
noncomputable section
set_option linter.unusedSimpArgs false
set_option linter.unusedVariables false
set_option maxRecDepth 100000
set_option maxHeartbeats 1000000

theorem in_ok (Gl : xzt) (n lo hi : Int) : xzH Go.VL.Er.E Gl f_icon_in__int [.int .i64 n, .int .i64 lo, .int .i64 hi] (.bool (inS n lo hi)) := by
  refine xzw (xzf E_icon_in__int ?_)
  unfold c_icon_in__int r_icon_in__int inS
  simp only [xzB]
  by_cases h : n ≥ lo
  · simp only [qzk, qzo, qzH, qzi, qzf, qze, qzd, qzp, qzK, qzc, qzb, qzg, qzh, qzl, qzm, qzt, qza, qzs, qzu, qzx, xzj, cv, qzI, qzJ, toA, ofA, FR.pop, abin, intBin, h0, qzQ, qzM, qzT, qzP, ↓reduceIte, Nat.reduceAdd, Nat.reduceEqDiff, reduceCtorEq, Nat.zero_add, beq_self_eq_true, decide_true, reduceCtorEq, h]
    exact qzr rfl
  · simp only [qzk, qzo, qzH, qzi, qzf, qze, qzd, xzl, qzp, qzK, qzc, qzb, qzg, qzh, qzl, qzm, qzt, qza, qzs, qzu, qzx, xzj, cv, qzI, qzJ, toA, ofA, FR.pop, abin, intBin, h0, qzQ, qzM, qzT, qzP, qzS, ↓reduceIte, Nat.reduceAdd, Nat.reduceEqDiff, reduceCtorEq, Nat.zero_add, Bool.false_eq_true, beq_true, decide_false, reduceCtorEq, h]
    exact qzr rfl
theorem in64_ok (Gl : xzt) (n lo hi : Int) : xzH Go.VL.Er.E Gl f_icon_in__int64 [.int .i64 n, .int .i64 lo, .int .i64 hi] (.bool (inS n lo hi)) := by
  refine xzw (xzf E_icon_in__int64 ?_)
  unfold c_icon_in__int64 r_icon_in__int64 inS
  simp only [xzB]
  by_cases h : n ≥ lo
  · simp only [qzk, qzo, qzH, qzi, qzf, qze, qzd, qzp, qzK, qzc, qzb, qzg, qzh, qzl, qzm, qzt, qza, qzs, qzu, qzx, xzj, cv, qzI, qzJ, toA, ofA, FR.pop, abin, intBin, h0, qzQ, qzM, qzT, qzP, ↓reduceIte, Nat.reduceAdd, Nat.reduceEqDiff, reduceCtorEq, Nat.zero_add, beq_self_eq_true, decide_true, reduceCtorEq, h]
    exact qzr rfl
  · simp only [qzk, qzo, qzH, qzi, qzf, qze, qzd, xzl, qzp, qzK, qzc, qzb, qzg, qzh, qzl, qzm, qzt, qza, qzs, qzu, qzx, xzj, cv, qzI, qzJ, toA, ofA, FR.pop, abin, intBin, h0, qzQ, qzM, qzT, qzP, qzS, ↓reduceIte, Nat.reduceAdd, Nat.reduceEqDiff, reduceCtorEq, Nat.zero_add, Bool.false_eq_true, beq_true, decide_false, reduceCtorEq, h]
    exact qzr rfl
theorem sized_ok (Gl : xzt) (i : Icon) : xzH Go.VL.Er.E Gl f_icon_sized [.agg (cIcon i)] (.bool (sizedS i)) := by
  refine xzw (xzf E_icon_sized ?_)
  unfold c_icon_sized r_icon_sized sizedS
  simp only [xzB]
  simp only [qzk, qzo, qzi, qzf, qze, qzd, qzp, qzF, qzX, qzN, qzc, qzj, qzE, qzb, qzg, qzh, qzO, qzD, qzl, qzm, qzt, qza, qzs, qzu, qzx, qzG, qzL, qzB, xzh, xzF, qzA, cv, VN.at, VH.push, qzq, h0, VV.cells, ntV, ↓reduceIte, Option.getD_some, List.getElem?_cons_zero, Nat.reduceEqDiff, Nat.add_zero, Nat.zero_add, cIcon]
  refine qzZ (in_ok Gl _ _ _) rfl rfl ?_
  cases h1 : inS i.w 1 4096
  · simp only [qzH, qzi, qzf, qze, qzd, xzl, qzp, qzy, qzK, qzc, qzb, qzg, qzh, qzl, qzm, qzt, qza, qzs, qzu, qzx, xzj, cv, qzQ, qzM, qzT, qzP, qzS, ↓reduceIte, Nat.reduceEqDiff, Bool.false_eq_true, beq_true]
    exact qzr rfl
  · simp only [qze, qzd, qzp, qzF, qzN, qzy, qzc, qzj, qzb, qzg, qzh, qzD, qzl, qzm, qzt, qza, qzs, qzu, qzx, qzG, qzL, qzB, qzA, cv, qzq, ↓reduceIte, Option.getD_some, List.getElem?_cons_zero, List.getElem?_cons_succ, Nat.reduceEqDiff, Nat.zero_add, Bool.true_and, beq_self_eq_true]
    refine qzZ (in_ok Gl _ _ _) rfl rfl ?_
    cases h2 : inS i.h 1 4096
    · simp only [qzH, qzi, qzf, qze, qzd, xzl, qzp, qzy, qzK, qzc, qzb, qzg, qzh, qzl, qzm, qzt, qza, qzs, qzu, qzx, xzj, cv, qzQ, qzM, qzT, qzP, qzS, ↓reduceIte, Nat.reduceEqDiff, Bool.false_eq_true, beq_true]
      exact qzr rfl
    · simp only [qze, qzd, qzp, qzF, qzN, qzy, qzc, qzj, qzb, qzg, qzh, qzD, qzl, qzm, qzt, qza, qzs, qzu, qzx, xzj, qzG, qzL, qzB, qzA, cv, qzq, ↓reduceIte, Option.getD_some, List.getElem?_cons_zero, List.getElem?_cons_succ, Nat.reduceEqDiff, Nat.zero_add, Bool.true_and, beq_self_eq_true]
      refine qzZ (in_ok Gl _ _ _) rfl rfl ?_
      simp only [qzH, qzi, qzf, qze, qzd, qzp, qzy, qzK, qzc, qzb, qzg, qzh, qzl, qzm, qzt, qza, qzs, qzu, qzx, xzj, cv, qzQ, qzM, qzT, qzP, ↓reduceIte, Nat.reduceEqDiff]
      exact qzr rfl
theorem sized_bnd {i : Icon} (h : sizedS i = true) : 1 ≤ i.w ∧ i.w ≤ 4096 ∧ 1 ≤ i.h ∧ i.h ≤ 4096 ∧ 0 ≤ i.scale ∧ i.scale ≤ 6 := by
  unfold sizedS inS at h
  simp at h
  omega
theorem great_bnd (i : Icon) : 0 ≤ greatS i ∧ greatS i ≤ 4 * 4096 * 64 := by
  unfold greatS
  by_cases h : sizedS i = true
  · rw [if_pos h]
    obtain ⟨h1, h2, h3, h4, h5, h6⟩ := sized_bnd h
    have : ∀ s : Fin 7, (1:Int) ≤ 2 ^ s.val ∧ (2:Int) ^ s.val ≤ 64 := by decide
    have q := this ⟨i.scale.toNat, by omega⟩
    simp only at q
    generalize (2:Int) ^ i.scale.toNat = z at q
    have e : 1 ≤ max i.w i.h ∧ max i.w i.h ≤ 4096 := by omega
    generalize max i.w i.h = m at e
    refine ⟨Int.mul_nonneg (by omega) (by omega), ?_⟩
    exact Int.mul_le_mul (by omega) q.2 (by omega) (by omega)
  · rw [if_neg h]; omega
theorem greatest_ok (Gl : xzt) (i : Icon) : xzH Go.VL.Er.E Gl f_icon_Greatest [.agg (cIcon i)] (.int .i64 (greatS i)) := by
  refine xzw (xzf E_icon_Greatest ?_)
  have gb := great_bnd i
  unfold c_icon_Greatest r_icon_Greatest
  simp only [xzB]
  unfold greatS at gb ⊢
  simp only [qzk, qzo, qzi, qzf, qze, qzd, qzp, qzF, qzX, qzN, qzc, qzj, qzE, qzb, qzg, qzh, qzO, qzD, qzl, qzm, qzt, qza, qzs, qzu, qzx, qzL, qzB, xzh, xzF, qzA, cv, VN.at, VH.push, qzq, h0, VV.cells, ntV, ↓reduceIte, Option.getD_some, List.length_cons, List.length_nil, List.drop_zero, List.take_succ_cons, List.take_zero, Nat.reduceAdd, Nat.reduceEqDiff, Nat.reduceLeDiff, Nat.zero_add, cIcon]
  refine qzZ (sized_ok Gl _) rfl rfl ?_
  cases h1 : sizedS i
  · simp only [qzz, qzk, qzo, qzH, qzv, qzn, qzi, qzR, qzf, qze, qzd, qzp, qzF, qzy, qzK, qzc, qzj, qzb, qzg, qzh, qzl, qzm, qzt, qza, qzs, qzu, qzx, qzG, qzL, qzB, qzA, cv, qzI, qzJ, toA, ofA, FR.pop, abin, aun, intBin, shiftBin, max2A, foldA, qzq, qzQ, qzM, qzT, qzP, ↓reduceIte, Option.getD_some, List.getElem?_cons_zero, List.getElem?_cons_succ, Nat.reduceEqDiff, Nat.add_zero, Nat.zero_add, and_true, Bool.not_false, Bool.false_eq_true, forall_const, false_implies, Bool.true_eq_false]
    exact qzr rfl
  · rw [h1] at gb
    obtain ⟨b1, b2, b3, b4, b5, b6⟩ := sized_bnd h1
    have w1 : IntKind.i64.wrap (4 * max i.w i.h) = 4 * max i.w i.h := qzY (by omega) (by omega)
    have w2 : IntKind.i64.wrap (4 * max i.w i.h * 2 ^ i.scale.toNat) = 4 * max i.w i.h * 2 ^ i.scale.toNat := qzY (by simp at gb; omega) (by simp at gb; omega)
    have em : (if i.h > i.w then i.h else i.w) = max i.w i.h := by split <;> omega
    have nn : ¬ i.scale < 0 := by omega
    have m1 : min i.scale.toNat IntKind.i64.bits = i.scale.toNat := by show min _ 64 = _; omega
    simp only [qzz, qzk, qzo, qzH, qzv, qzn, qzi, qzR, qzf, qze, qzd, qzp, qzF, qzy, qzK, qzc, qzj, qzb, qzg, qzh, qzl, qzm, qzt, qza, qzs, qzu, qzx, qzG, qzL, qzB, qzA, cv, qzI, qzJ, toA, ofA, FR.pop, abin, aun, intBin, shiftBin, max2A, foldA, qzq, qzQ, qzM, qzT, qzP, ↓reduceIte, Option.getD_some, List.getElem?_cons_zero, List.getElem?_cons_succ, Nat.reduceEqDiff, Nat.add_zero, Nat.zero_add, true_and, Bool.not_true, Bool.false_eq_true, forall_const, false_implies, em, w1, w2, nn, m1]
    exact qzr rfl
theorem far_ok (Gl : xzt) (p : Pt) (m : Int) (h0 : 0 ≤ m) (h1 : m ≤ 2 ^ 62) : xzH Go.VL.Er.E Gl f_icon_far [.agg [.int .i64 p.x, .int .i64 p.y], .int .i64 m] (.bool (farS p m)) := by
  refine xzw (xzf E_icon_far ?_)
  unfold c_icon_far r_icon_far farS
  simp only [xzB]
  have w : IntKind.i64.wrap (0 - m) = -m := by rw [qzY (by omega) (by omega)]; omega
  simp only [qzk, qzo, qzi, qzf, qze, qzd, qzp, qzF, qzX, qzN, qzc, qzj, qzE, qzb, qzg, qzh, qzO, qzD, qzl, qzm, qzt, qza, qzs, qzu, qzx, qzG, qzL, qzB, xzh, xzF, qzA, cv, qzI, qzJ, toA, ofA, FR.pop, aun, VN.at, VH.push, qzq, VV.cells, ntV, ↓reduceIte, Option.getD_some, List.getElem?_cons_zero, Nat.reduceEqDiff, reduceCtorEq, Nat.add_zero, Nat.zero_add, reduceCtorEq, w]
  refine qzZ (in64_ok Gl _ _ _) rfl rfl ?_
  cases h2 : inS p.x (-m) m
  · simp only [qzH, qzi, qzf, qze, qzd, xzl, qzp, qzy, qzK, qzc, qzb, qzg, qzh, qzl, qzm, qzt, qza, qzs, qzu, qzx, xzj, cv, qzI, qzJ, toA, ofA, FR.pop, aun, qzQ, qzM, qzT, qzP, qzS, ↓reduceIte, Nat.reduceEqDiff, Bool.true_or, Bool.not_false, Bool.not_true, beq_false]
    exact qzr rfl
  · simp only [qze, qzd, qzp, qzF, qzN, qzy, qzc, qzj, qzb, qzg, qzh, qzD, qzl, qzm, qzt, qza, qzs, qzu, qzx, qzG, qzL, qzB, qzA, qzI, qzJ, toA, ofA, FR.pop, aun, qzq, ↓reduceIte, Option.getD_some, List.getElem?_cons_zero, List.getElem?_cons_succ, Nat.reduceEqDiff, reduceCtorEq, Nat.zero_add, Bool.false_or, Bool.not_true, beq_self_eq_true, reduceCtorEq, w]
    refine qzZ (in64_ok Gl _ _ _) rfl rfl ?_
    simp only [qzH, qzi, qzf, qze, qzd, qzp, qzy, qzK, qzc, qzb, qzg, qzh, qzl, qzm, qzt, qza, qzs, qzu, qzx, xzj, cv, qzI, qzJ, toA, ofA, FR.pop, aun, qzQ, qzM, qzT, qzP, ↓reduceIte, Nat.reduceEqDiff, Bool.false_eq_true, beq_self_eq_true]
    exact qzr rfl
theorem head_ok {Gl : xzt} (hG : IcG Gl) (c : Cmd) (m : Int) : xzH Go.VL.Er.E Gl f_icon_head [.agg (cCmd c), .int .i64 m] (errV (headS c m)) := by
  refine xzw (xzf E_icon_head ?_)
  have g4 : qzw Gl g_ErrRange = some [errK 4] := hG.r
  unfold c_icon_head r_icon_head
  simp only [xzB]
  by_cases k1 : c.kind = 1
  · have k2 : ¬ c.kind = 2 := by omega
    have q1 : (c.kind == 1) = true := by simp [k1]
    have q2 : (c.kind == 2) = false := by simp [k2]
    simp only [qzk, qzo, qzC, qzi, qzf, qze, qzd, qzp, qzF, qzX, qzN, qzc, qzj, qzE, qzb, qzg, qzh, qzO, qzD, qzl, qzm, qzt, qza, qzs, qzu, qzx, qzG, qzL, qzB, xzh, xzF, qzA, cv, qzI, qzJ, toA, ofA, FR.pop, abin, intBin, VN.at, VH.push, qzq, h0, VV.cells, ntV, ↓reduceIte, Option.getD_some, List.getElem?_cons_zero, List.getElem?_cons_succ, Nat.reduceEqDiff, Nat.add_zero, Nat.zero_add, beq_self_eq_true, cCmd, q1]
    refine qzZ (in_ok Gl _ _ _) rfl rfl ?_
    cases r : inS c.rule 0 1
    · rw [show headS c m = some 4 by simp [headS, k1, r]]
      simp only [qzz, qzk, qzo, qzH, qzv, qzn, qzi, qzR, xzc, xze, qzf, qze, qzd, xzl, qzp, qzF, qzy, qzK, qzc, qzj, qzb, qzg, qzh, qzl, qzm, qzt, qza, qzs, qzu, qzx, xzj, qzG, qzL, qzB, qzA, cv, qzI, qzJ, toA, ofA, FR.pop, abin, intBin, qzq, qzQ, qzM, qzT, qzP, qzS, ↓reduceIte, Option.getD_some, List.getElem?_cons_zero, Nat.reduceEqDiff, Nat.add_zero, true_and, Bool.false_eq_true, beq_true, forall_const, false_implies, errK, t_p_errors_errorString, q2, g4]
      exact qzr rfl
    · by_cases w : c.width = 0
      · have q3 : (c.width == 0) = true := by simp [w]
        rw [show headS c m = none by simp [headS, k1, r, w]]
        simp only [qzk, qzo, qzH, qzv, qzn, qzi, qzR, xze, qzf, qze, qzd, qzp, qzF, qzy, qzK, qzc, qzj, qzb, qzg, qzh, qzl, qzm, qzt, qza, qzs, qzu, qzx, xzj, qzG, qzL, qzB, qzA, cv, qzI, qzJ, toA, ofA, FR.pop, abin, intBin, qzq, qzQ, qzM, qzT, qzP, ↓reduceIte, Option.getD_some, List.getElem?_cons_zero, List.getElem?_cons_succ, Nat.reduceEqDiff, Nat.add_zero, Nat.zero_add, and_true, beq_self_eq_true, beq_true, forall_const, false_implies, Bool.true_eq_false, q3]
        exact qzr rfl
      · have q3 : (c.width == 0) = false := by simp [w]
        rw [show headS c m = some 4 by simp [headS, k1, r, w]]
        simp only [qzz, qzk, qzo, qzH, qzv, qzn, qzi, qzR, xzc, xze, qzf, qze, qzd, xzl, qzp, qzF, qzy, qzK, qzc, qzj, qzb, qzg, qzh, qzl, qzm, qzt, qza, qzs, qzu, qzx, xzj, qzG, qzL, qzB, qzA, cv, qzI, qzJ, toA, ofA, FR.pop, abin, intBin, qzq, qzQ, qzM, qzT, qzP, qzS, ↓reduceIte, Option.getD_some, List.getElem?_cons_zero, List.getElem?_cons_succ, Nat.reduceEqDiff, Nat.add_zero, Nat.zero_add, true_and, Bool.false_eq_true, beq_self_eq_true, beq_true, forall_const, false_implies, errK, t_p_errors_errorString, q2, q3, g4]
        exact qzr rfl
  · have q1 : (c.kind == 1) = false := by simp [k1]
    by_cases k2 : c.kind = 2
    · have q2 : (c.kind == 2) = true := by simp [k2]
      by_cases r : c.rule = 0
      · have q3 : (c.rule == 0) = true := by simp [r]
        simp only [qzk, qzo, qzC, qzH, qzv, qzn, qzi, qzR, xze, qzf, qze, qzd, xzl, qzp, qzF, qzX, qzN, qzK, qzc, qzj, qzE, qzb, qzg, qzh, qzO, qzD, qzl, qzm, qzt, qza, qzs, qzu, qzx, xzj, qzG, qzL, qzB, xzh, xzF, qzA, cv, qzI, qzJ, toA, ofA, FR.pop, abin, intBin, VN.at, VH.push, qzq, h0, VV.cells, ntV, qzQ, qzM, qzT, qzP, qzS, ↓reduceIte, Option.getD_some, List.getElem?_cons_zero, List.getElem?_cons_succ, Nat.reduceEqDiff, reduceCtorEq, Nat.add_zero, Nat.zero_add, true_and, Bool.false_eq_true, beq_self_eq_true, beq_true, forall_const, false_implies, reduceCtorEq, cCmd, q1, q2, q3]
        refine qzZ (in64_ok Gl _ _ _) rfl rfl ?_
        cases w : inS c.width 1 m
        · rw [show headS c m = some 4 by simp [headS, k2, r, w]]
          simp only [qzz, qzk, qzo, qzH, qzv, qzn, qzi, qzR, xzc, xze, qzf, qze, qzd, qzp, qzF, qzy, qzK, qzc, qzj, qzb, qzg, qzh, qzl, qzm, qzt, qza, qzs, qzu, qzx, xzj, qzL, qzB, qzA, cv, qzQ, qzM, qzT, qzP, ↓reduceIte, List.getElem?_cons_zero, Nat.reduceEqDiff, true_and, Bool.false_eq_true, forall_const, false_implies, errK, t_p_errors_errorString, g4]
          exact qzr rfl
        · rw [show headS c m = none by simp [headS, k2, r, w]]
          simp only [qzz, qzk, qzo, qzH, qzv, qzn, qzi, qzR, xzc, xze, qzf, qze, qzd, qzp, qzF, qzy, qzK, qzc, qzj, qzb, qzg, qzh, qzl, qzm, qzt, qza, qzs, qzu, qzx, xzj, qzL, qzB, qzA, cv, qzQ, qzM, qzT, qzP, ↓reduceIte, List.getElem?_cons_zero, Nat.reduceEqDiff, and_true, forall_const, false_implies, Bool.true_eq_false, errK, t_p_errors_errorString, g4]
          exact qzr rfl
      · have q3 : (c.rule == 0) = false := by simp [r]
        rw [show headS c m = some 4 by simp [headS, k2, r]]
        simp only [qzz, qzk, qzo, qzC, qzH, qzv, qzn, qzi, qzR, xzc, xze, qzf, qze, qzd, xzl, qzp, qzF, qzX, qzK, qzc, qzj, qzE, qzb, qzg, qzh, qzO, qzl, qzm, qzt, qza, qzs, qzu, qzx, xzj, qzG, qzL, qzB, xzh, xzF, qzA, cv, qzI, qzJ, toA, ofA, FR.pop, abin, intBin, VN.at, VH.push, qzq, h0, VV.cells, ntV, qzQ, qzM, qzT, qzP, qzS, ↓reduceIte, Option.getD_some, List.getElem?_cons_zero, List.getElem?_cons_succ, Nat.reduceEqDiff, Nat.add_zero, Nat.zero_add, true_and, Bool.false_eq_true, beq_self_eq_true, beq_true, forall_const, false_implies, errK, cCmd, t_p_errors_errorString, q1, q2, q3, g4]
        exact qzr rfl
    · have q2 : (c.kind == 2) = false := by simp [k2]
      rw [show headS c m = some 4 by simp [headS, k1, k2]]
      simp only [qzz, qzk, qzo, qzC, qzH, qzv, qzn, qzi, qzR, xzc, xze, qzf, qze, qzd, xzl, qzp, qzF, qzX, qzK, qzc, qzj, qzE, qzb, qzg, qzh, qzO, qzl, qzm, qzt, qza, qzs, qzu, qzx, xzj, qzG, qzL, qzB, xzh, xzF, qzA, cv, qzI, qzJ, toA, ofA, FR.pop, abin, intBin, VN.at, VH.push, qzq, h0, VV.cells, ntV, qzQ, qzM, qzT, qzP, qzS, ↓reduceIte, Option.getD_some, List.getElem?_cons_zero, Nat.reduceEqDiff, Nat.add_zero, Nat.zero_add, true_and, Bool.false_eq_true, beq_true, forall_const, false_implies, errK, cCmd, t_p_errors_errorString, q1, q2, g4]
      exact qzr rfl
theorem zero_eq (p : Pt) : ((p.x == 0) && (p.y == 0)) = decide (zeroP p) := by
  unfold zeroP
  by_cases h1 : p.x = 0 <;> by_cases h2 : p.y = 0 <;> simp [h1, h2]
theorem same_eq (p q : Pt) : ((p.x == q.x) && (p.y == q.y)) = decide (sameP p q) := by
  unfold sameP
  by_cases h1 : p.x = q.x <;> by_cases h2 : p.y = q.y <;> simp [h1, h2]
theorem zero_y {p : Pt} (h : zeroP p) : (p.x == 0) = true ∧ (p.y == 0) = true := by simp [h.1, h.2]
theorem zero_n {p : Pt} (h : ¬ zeroP p) : (p.x == 0) = false ∨ (p.x == 0) = true ∧ (p.y == 0) = false := by
  have := zero_eq p
  rw [decide_eq_false h] at this
  cases e : (p.x == 0) <;> simp_all
theorem same_y {p q : Pt} (h : sameP p q) : (p.x == q.x) = true ∧ (p.y == q.y) = true := by simp [h.1, h.2]
theorem same_n {p q : Pt} (h : ¬ sameP p q) : (p.x == q.x) = false ∨ (p.x == q.x) = true ∧ (p.y == q.y) = false := by
  have := same_eq p q
  rw [decide_eq_false h] at this
  cases e : (p.x == q.x) <;> simp_all
theorem paint_ok {Gl : xzt} (hG : IcG Gl) (p : Paint) (n m : Int) (n0 : 0 ≤ n) (n1 : n < 2 ^ 62) (m0 : 0 ≤ m) (m1 : m ≤ 2 ^ 62) : xzH Go.VL.Er.E Gl f_icon_paint [.agg (cPaint p), .int .i64 n, .int .i64 m] (errV (paintS p n m)) := by
  refine xzw (xzf E_icon_paint ?_)
  have g4 : qzw Gl g_ErrRange = some [errK 4] := hG.r
  have g9 : qzw Gl g_ErrCanon = some [errK 9] := hG.c
  unfold c_icon_paint r_icon_paint
  simp only [xzB]
  have w : IntKind.i64.wrap (n - 1) = n - 1 := qzY (by omega) (by omega)
  have r10 : inS 0 0 2 = true := by decide
  have r11 : inS 1 0 2 = true := by decide
  have r12 : inS 2 0 2 = true := by decide
  simp only [qzk, qzo, qzC, qzi, qzf, qze, qzd, qzp, qzF, qzX, qzN, qzc, qzj, qzE, qzb, qzg, qzh, qzO, qzD, qzl, qzm, qzt, qza, qzs, qzu, qzx, qzG, qzL, qzB, xzh, xzF, qzA, cv, qzI, qzJ, toA, ofA, FR.pop, abin, intBin, VN.at, VH.push, qzq, h0, VV.cells, ntV, ↓reduceIte, Option.getD_some, List.getElem?_cons_zero, Nat.reduceAdd, Nat.reduceEqDiff, Nat.add_zero, Nat.zero_add, cPaint]
  refine qzZ (in_ok Gl _ _ _) rfl rfl ?_
  cases r1 : inS p.kind 0 2
  · rw [show paintS p n m = some 4 by simp [paintS, r1]]
    simp only [qzk, qzo, qzH, qzv, qzn, qzi, qzR, xze, qzf, qze, qzd, xzl, qzp, qzF, qzy, qzK, qzc, qzj, qzb, qzg, qzh, qzl, qzm, qzt, qza, qzs, qzu, qzx, xzj, qzL, qzB, qzA, cv, qzI, qzJ, toA, ofA, FR.pop, aun, qzQ, qzM, qzT, qzP, qzS, ↓reduceIte, List.getElem?_cons_zero, Nat.reduceEqDiff, and_true, Bool.not_false, Bool.not_true, beq_true, beq_false, forall_const, false_implies, Bool.true_eq_false, errK, t_p_errors_errorString, g4]
    exact qzr rfl
  simp only [qze, qzd, qzp, qzF, qzN, qzy, qzc, qzj, qzb, qzg, qzh, qzD, qzl, qzm, qzt, qza, qzs, qzu, qzx, qzG, qzL, qzB, qzA, cv, qzI, qzJ, toA, ofA, FR.pop, abin, aun, intBin, qzq, ↓reduceIte, Option.getD_some, List.getElem?_cons_zero, List.getElem?_cons_succ, Nat.reduceEqDiff, reduceCtorEq, Nat.zero_add, Bool.not_true, beq_self_eq_true, reduceCtorEq, w]
  refine qzZ (in_ok Gl _ _ _) rfl rfl ?_
  cases r2 : inS p.a 0 (n - 1)
  · rw [show paintS p n m = some 4 by simp [paintS, r2]]
    simp only [qzk, qzo, qzH, qzv, qzn, qzi, qzR, xze, qzf, qze, qzd, xzl, qzp, qzF, qzy, qzK, qzc, qzj, qzb, qzg, qzh, qzl, qzm, qzt, qza, qzs, qzu, qzx, xzj, qzL, qzB, qzA, cv, qzI, qzJ, toA, ofA, FR.pop, aun, qzQ, qzM, qzT, qzP, qzS, ↓reduceIte, List.getElem?_cons_zero, Nat.reduceEqDiff, and_true, Bool.not_false, Bool.not_true, Bool.false_eq_true, beq_self_eq_true, beq_true, beq_false, forall_const, false_implies, Bool.true_eq_false, errK, t_p_errors_errorString, g4]
    exact qzr rfl
  by_cases k0 : p.kind = 0
  · have q0 : (p.kind == 0) = true := by simp [k0]
    by_cases b0 : p.b = 0
    · have q1 : (p.b == 0) = true := by simp [b0]
      have q1' : (p.b != 0) = false := by simp [b0]
      by_cases z1 : zeroP p.p
      · obtain ⟨za, zb⟩ := zero_y z1
        by_cases z2 : zeroP p.q
        · obtain ⟨zc, zd⟩ := zero_y z2
          rw [show paintS p n m = none by simp [paintS, r2, r10, k0, b0, z1, z2]]
          simp only [qzk, qzo, qzH, qzv, qzn, qzi, qzR, xze, qzf, qze, qzd, xzl, qzp, qzF, qzN, qzy, qzK, qzc, qzj, qzb, qzg, qzh, qzD, qzl, qzm, qzt, qza, qzs, qzu, qzx, xzj, qzG, qzL, qzB, xzI, xzJ, xzW, xzR, eqInt, xzE, xzv, qzA, cvs, cv, qzI, qzJ, toA, ofA, FR.pop, abin, aun, intBin, qzq, qzQ, qzM, qzT, qzP, qzS, ↓reduceIte, Option.getD_some, List.getElem?_cons_zero, List.getElem?_cons_succ, List.length_cons, List.length_nil, List.drop_succ_cons, List.drop_zero, List.take_succ_cons, List.take_zero, Nat.reduceAdd, Nat.reduceEqDiff, reduceCtorEq, Nat.reduceLeDiff, Nat.zero_add, and_true, true_and, Bool.not_true, Bool.false_eq_true, beq_self_eq_true, beq_true, forall_const, false_implies, Bool.true_eq_false, reduceCtorEq, q0, q1', za, zb, zc, zd]
          exact qzr rfl
        · rw [show paintS p n m = some 9 by simp [paintS, r2, r10, k0, b0, z1, z2]]
          rcases zero_n z2 with zc | ⟨zc, zd⟩
          · simp only [qzk, qzo, qzH, qzv, qzn, qzi, qzR, xze, qzf, qze, qzd, xzl, qzp, qzF, qzN, qzy, qzK, qzc, qzj, qzb, qzg, qzh, qzD, qzl, qzm, qzt, qza, qzs, qzu, qzx, xzj, qzG, qzL, qzB, xzI, xzJ, xzW, xzR, eqInt, xzE, xzv, qzA, cvs, cv, qzI, qzJ, toA, ofA, FR.pop, abin, aun, intBin, qzq, qzQ, qzM, qzT, qzP, qzS, ↓reduceIte, Option.getD_some, List.getElem?_cons_zero, List.getElem?_cons_succ, List.length_cons, List.length_nil, List.drop_succ_cons, List.drop_zero, List.take_succ_cons, List.take_zero, Nat.reduceAdd, Nat.reduceEqDiff, reduceCtorEq, Nat.reduceLeDiff, Nat.zero_add, and_true, true_and, Bool.not_false, Bool.not_true, Bool.false_eq_true, beq_self_eq_true, beq_true, forall_const, false_implies, Bool.true_eq_false, reduceCtorEq, errK, t_p_errors_errorString, q0, q1', za, zb, zc, g9]
            exact qzr rfl
          · simp only [qzk, qzo, qzH, qzv, qzn, qzi, qzR, xze, qzf, qze, qzd, xzl, qzp, qzF, qzN, qzy, qzK, qzc, qzj, qzb, qzg, qzh, qzD, qzl, qzm, qzt, qza, qzs, qzu, qzx, xzj, qzG, qzL, qzB, xzI, xzJ, xzW, xzR, eqInt, xzE, xzv, qzA, cvs, cv, qzI, qzJ, toA, ofA, FR.pop, abin, aun, intBin, qzq, qzQ, qzM, qzT, qzP, qzS, ↓reduceIte, Option.getD_some, List.getElem?_cons_zero, List.getElem?_cons_succ, List.length_cons, List.length_nil, List.drop_succ_cons, List.drop_zero, List.take_succ_cons, List.take_zero, Nat.reduceAdd, Nat.reduceEqDiff, reduceCtorEq, Nat.reduceLeDiff, Nat.zero_add, and_true, true_and, Bool.not_false, Bool.not_true, Bool.false_eq_true, beq_self_eq_true, beq_true, forall_const, false_implies, Bool.true_eq_false, reduceCtorEq, errK, t_p_errors_errorString, q0, q1', za, zb, zc, zd, g9]
            exact qzr rfl
      · rw [show paintS p n m = some 9 by simp [paintS, r2, r10, k0, b0, z1]]
        rcases zero_n z1 with za | ⟨za, zb⟩
        · simp only [qzk, qzo, qzH, qzv, qzn, qzi, qzR, xze, qzf, qze, qzd, xzl, qzp, qzF, qzN, qzy, qzK, qzc, qzj, qzb, qzg, qzh, qzD, qzl, qzm, qzt, qza, qzs, qzu, qzx, xzj, qzG, qzL, qzB, xzI, xzJ, xzW, xzR, eqInt, xzE, xzv, qzA, cvs, cv, qzI, qzJ, toA, ofA, FR.pop, abin, aun, intBin, qzq, qzQ, qzM, qzT, qzP, qzS, ↓reduceIte, Option.getD_some, List.getElem?_cons_zero, List.getElem?_cons_succ, List.length_cons, List.length_nil, List.drop_succ_cons, List.drop_zero, List.take_succ_cons, List.take_zero, Nat.reduceAdd, Nat.reduceEqDiff, reduceCtorEq, Nat.reduceLeDiff, Nat.zero_add, and_true, true_and, Bool.not_false, Bool.not_true, Bool.false_eq_true, beq_self_eq_true, beq_true, beq_false, forall_const, false_implies, Bool.true_eq_false, reduceCtorEq, errK, t_p_errors_errorString, q0, q1', za, g9]
          exact qzr rfl
        · simp only [qzk, qzo, qzH, qzv, qzn, qzi, qzR, xze, qzf, qze, qzd, xzl, qzp, qzF, qzN, qzy, qzK, qzc, qzj, qzb, qzg, qzh, qzD, qzl, qzm, qzt, qza, qzs, qzu, qzx, xzj, qzG, qzL, qzB, xzI, xzJ, xzW, xzR, eqInt, xzE, xzv, qzA, cvs, cv, qzI, qzJ, toA, ofA, FR.pop, abin, aun, intBin, qzq, qzQ, qzM, qzT, qzP, qzS, ↓reduceIte, Option.getD_some, List.getElem?_cons_zero, List.getElem?_cons_succ, List.length_cons, List.length_nil, List.drop_succ_cons, List.drop_zero, List.take_succ_cons, List.take_zero, Nat.reduceAdd, Nat.reduceEqDiff, reduceCtorEq, Nat.reduceLeDiff, Nat.zero_add, and_true, true_and, Bool.not_false, Bool.not_true, Bool.false_eq_true, beq_self_eq_true, beq_true, beq_false, forall_const, false_implies, Bool.true_eq_false, reduceCtorEq, errK, t_p_errors_errorString, q0, q1', za, zb, g9]
          exact qzr rfl
    · have q1 : (p.b == 0) = false := by simp [b0]
      have q1' : (p.b != 0) = true := by simp [b0]
      rw [show paintS p n m = some 9 by simp [paintS, r2, r10, k0, b0]]
      simp only [qzk, qzo, qzH, qzv, qzn, qzi, qzR, xze, qzf, qze, qzd, xzl, qzp, qzF, qzN, qzy, qzK, qzc, qzj, qzb, qzg, qzh, qzD, qzl, qzm, qzt, qza, qzs, qzu, qzx, xzj, qzG, qzL, qzB, qzA, cv, qzI, qzJ, toA, ofA, FR.pop, abin, aun, intBin, qzq, qzQ, qzM, qzT, qzP, qzS, ↓reduceIte, Option.getD_some, List.getElem?_cons_zero, List.getElem?_cons_succ, List.length_cons, List.length_nil, List.drop_succ_cons, List.drop_zero, List.take_succ_cons, List.take_zero, Nat.reduceAdd, Nat.reduceEqDiff, reduceCtorEq, Nat.reduceLeDiff, Nat.zero_add, and_true, true_and, Bool.not_true, Bool.false_eq_true, beq_self_eq_true, beq_true, beq_false, forall_const, false_implies, Bool.true_eq_false, reduceCtorEq, errK, t_p_errors_errorString, q0, q1', g9]
      exact qzr rfl
  have q0 : (p.kind == 0) = false := by simp [k0]
  simp only [qze, qzd, qzp, qzF, qzN, qzy, qzc, qzj, qzb, qzg, qzh, qzD, qzl, qzm, qzt, qza, qzs, qzu, qzx, xzj, qzG, qzL, qzB, qzA, cv, qzI, qzJ, toA, ofA, FR.pop, abin, aun, intBin, qzq, ↓reduceIte, Option.getD_some, List.getElem?_cons_zero, List.getElem?_cons_succ, Nat.reduceEqDiff, reduceCtorEq, Nat.zero_add, Bool.not_false, Bool.not_true, Bool.false_eq_true, beq_self_eq_true, reduceCtorEq, q0, w]
  refine qzZ (in_ok Gl _ _ _) rfl rfl ?_
  cases r3 : inS p.b 0 (n - 1)
  · rw [show paintS p n m = some 4 by simp [paintS, r1, r2, k0, r3]]
    simp only [qzk, qzo, qzH, qzv, qzn, qzi, qzR, xze, qzf, qze, qzd, xzl, qzp, qzF, qzN, qzy, qzK, qzc, qzj, qzb, qzg, qzh, qzD, qzl, qzm, qzt, qza, qzs, qzu, qzx, xzj, qzG, qzL, qzB, qzA, cv, qzI, qzJ, toA, ofA, FR.pop, aun, qzq, qzQ, qzM, qzT, qzP, qzS, ↓reduceIte, Option.getD_some, List.getElem?_cons_zero, List.length_cons, List.length_nil, List.drop_succ_cons, List.drop_zero, List.take_succ_cons, List.take_zero, Nat.reduceAdd, Nat.reduceEqDiff, reduceCtorEq, Nat.reduceLeDiff, Nat.zero_add, and_true, true_and, Bool.not_false, Bool.false_eq_true, beq_self_eq_true, beq_true, forall_const, false_implies, Bool.true_eq_false, reduceCtorEq, errK, t_p_errors_errorString, g4]
    exact qzr rfl
  simp only [qzk, qzo, qzH, qzv, qzn, qzi, qzR, xze, qzf, qze, qzd, xzl, qzp, qzF, qzN, qzy, qzK, qzc, qzj, qzb, qzg, qzh, qzD, qzl, qzm, qzt, qza, qzs, qzu, qzx, xzj, qzG, qzL, qzB, qzA, cv, qzI, qzJ, toA, ofA, FR.pop, aun, qzq, qzQ, qzM, qzT, qzP, qzS, ↓reduceIte, Option.getD_some, List.length_cons, List.length_nil, List.drop_succ_cons, List.drop_zero, List.take_succ_cons, List.take_zero, Nat.reduceAdd, Nat.reduceEqDiff, reduceCtorEq, Nat.reduceLeDiff, Nat.zero_add, true_and, Bool.not_true, Bool.false_eq_true, beq_self_eq_true, beq_true, forall_const, false_implies, reduceCtorEq]
  refine qzZ (far_ok Gl ⟨_, _⟩ _ m0 m1) rfl rfl ?_
  cases r4 : farS p.p m
  case true =>
    rw [show paintS p n m = some 4 by simp [paintS, r1, r2, k0, r3, r4]]
    simp only [qzk, qzo, qzH, qzv, qzn, qzi, qzR, xze, qzf, qze, qzd, qzp, qzF, qzy, qzK, qzc, qzj, qzb, qzg, qzh, qzl, qzm, qzt, qza, qzs, qzu, qzx, qzG, qzL, qzB, qzA, cv, qzI, qzJ, toA, ofA, FR.pop, abin, intBin, qzq, qzQ, qzM, qzT, qzP, ↓reduceIte, Option.getD_some, List.getElem?_cons_zero, Nat.reduceEqDiff, Nat.add_zero, and_true, beq_true, forall_const, false_implies, Bool.true_eq_false, errK, t_p_errors_errorString, g4]
    exact qzr rfl
  by_cases k1 : p.kind = 1
  · have q1 : (p.kind == 1) = true := by simp [k1]
    have q2 : (p.kind == 2) = false := by simp [k1]
    simp only [qzk, qzo, qzv, qzn, qzi, qzf, qze, qzd, qzp, qzF, qzN, qzy, qzc, qzj, qzb, qzg, qzh, qzD, qzl, qzm, qzt, qza, qzs, qzu, qzx, qzG, qzL, qzB, qzA, cv, qzI, qzJ, toA, ofA, FR.pop, abin, intBin, qzq, ↓reduceIte, Option.getD_some, List.getElem?_cons_zero, List.length_cons, List.length_nil, List.drop_succ_cons, List.drop_zero, List.take_succ_cons, List.take_zero, Nat.reduceAdd, Nat.reduceEqDiff, reduceCtorEq, Nat.reduceLeDiff, Nat.add_zero, Nat.zero_add, true_and, Bool.false_eq_true, beq_self_eq_true, forall_const, false_implies, reduceCtorEq, q1]
    refine qzZ (far_ok Gl ⟨_, _⟩ _ m0 m1) rfl rfl ?_
    cases r5 : farS p.q m
    · by_cases e : sameP p.p p.q
      · obtain ⟨sa, sb⟩ := same_y e
        rw [show paintS p n m = some 4 by simp [paintS, r11, r2, k1, r3, r4, r5, e]]
        simp only [qzk, qzo, qzH, qzv, qzn, qzi, qzR, xze, qzf, qze, qzd, qzp, qzF, qzy, qzK, qzc, qzj, qzb, qzg, qzh, qzl, qzm, qzt, qza, qzs, qzu, qzx, xzj, qzG, qzL, qzB, xzI, xzJ, xzW, xzR, eqInt, qzA, cv, qzI, qzJ, toA, ofA, FR.pop, abin, intBin, qzq, qzQ, qzM, qzT, qzP, ↓reduceIte, Option.getD_some, List.getElem?_cons_zero, List.getElem?_cons_succ, List.length_cons, List.length_nil, List.drop_succ_cons, List.drop_zero, List.take_succ_cons, List.take_zero, Nat.reduceAdd, Nat.reduceEqDiff, Nat.reduceLeDiff, Nat.add_zero, Nat.zero_add, and_true, Bool.false_eq_true, beq_self_eq_true, beq_true, forall_const, false_implies, Bool.true_eq_false, errK, t_p_errors_errorString, sa, sb, g4]
        exact qzr rfl
      · rw [show paintS p n m = none by simp [paintS, r11, r2, k1, r3, r4, r5, e]; done]
        rcases same_n e with sa | ⟨sa, sb⟩
        · simp only [qzz, qzk, qzo, qzH, qzv, qzn, qzi, xzc, qzf, qze, qzd, xzl, qzp, qzF, qzy, qzK, qzc, qzj, qzb, qzg, qzh, qzl, qzm, qzt, qza, qzs, qzu, qzx, xzj, qzG, qzL, qzB, xzI, xzJ, xzW, xzR, eqInt, qzA, cv, qzI, qzJ, toA, ofA, FR.pop, abin, intBin, qzq, qzQ, qzM, qzT, qzP, qzS, ↓reduceIte, Option.getD_some, List.getElem?_cons_zero, List.length_cons, List.length_nil, List.drop_succ_cons, List.drop_zero, List.take_succ_cons, List.take_zero, Nat.reduceAdd, Nat.reduceEqDiff, Nat.reduceLeDiff, Nat.add_zero, Nat.zero_add, true_and, Bool.false_eq_true, beq_self_eq_true, beq_true, forall_const, false_implies, sa, q2]
          exact qzr rfl
        · simp only [qzz, qzk, qzo, qzH, qzv, qzn, qzi, xzc, qzf, qze, qzd, xzl, qzp, qzF, qzy, qzK, qzc, qzj, qzb, qzg, qzh, qzl, qzm, qzt, qza, qzs, qzu, qzx, xzj, qzG, qzL, qzB, xzI, xzJ, xzW, xzR, eqInt, qzA, cv, qzI, qzJ, toA, ofA, FR.pop, abin, intBin, qzq, qzQ, qzM, qzT, qzP, qzS, ↓reduceIte, Option.getD_some, List.getElem?_cons_zero, List.getElem?_cons_succ, List.length_cons, List.length_nil, List.drop_succ_cons, List.drop_zero, List.take_succ_cons, List.take_zero, Nat.reduceAdd, Nat.reduceEqDiff, Nat.reduceLeDiff, Nat.add_zero, Nat.zero_add, true_and, Bool.false_eq_true, beq_self_eq_true, beq_true, forall_const, false_implies, sa, sb, q2]
          exact qzr rfl
    · rw [show paintS p n m = some 4 by simp [paintS, r11, r2, k1, r3, r4, r5]]
      simp only [qzk, qzo, qzH, qzv, qzn, qzi, qzR, xze, qzf, qze, qzd, xzl, qzp, qzF, qzy, qzK, qzc, qzj, qzb, qzg, qzh, qzl, qzm, qzt, qza, qzs, qzu, qzx, xzj, qzG, qzL, qzB, qzA, cv, qzI, qzJ, toA, ofA, FR.pop, abin, intBin, qzq, qzQ, qzM, qzT, qzP, qzS, ↓reduceIte, Option.getD_some, List.getElem?_cons_zero, Nat.reduceEqDiff, Nat.add_zero, and_true, Bool.not_true, beq_self_eq_true, beq_true, beq_false, forall_const, false_implies, Bool.true_eq_false, errK, t_p_errors_errorString, g4]
      exact qzr rfl
  · have q1 : (p.kind == 1) = false := by simp [k1]
    have k2 : p.kind = 2 := by unfold inS at r1; simp at r1; omega
    have q2 : (p.kind == 2) = true := by simp [k2]
    simp only [qzk, qzo, qzv, qzn, qzi, qzf, qze, qzd, xzl, qzp, qzF, qzN, qzy, qzc, qzj, qzb, qzg, qzh, qzD, qzl, qzm, qzt, qza, qzs, qzu, qzx, xzj, qzG, qzL, qzB, qzA, cv, qzI, qzJ, toA, ofA, FR.pop, abin, intBin, qzq, qzS, ↓reduceIte, Option.getD_some, List.getElem?_cons_zero, List.getElem?_cons_succ, Nat.reduceEqDiff, reduceCtorEq, Nat.add_zero, Nat.zero_add, true_and, Bool.false_eq_true, beq_self_eq_true, beq_true, forall_const, false_implies, reduceCtorEq, q1, q2]
    refine qzZ (in64_ok Gl _ _ _) rfl rfl ?_
    cases r5 : inS p.q.x 1 m
    · rw [show paintS p n m = some 4 by simp [paintS, r12, r2, k2, r3, r4, r5]]
      simp only [qzk, qzo, qzH, qzv, qzn, qzi, qzR, xze, qzf, qze, qzd, qzp, qzF, qzy, qzK, qzc, qzj, qzb, qzg, qzh, qzl, qzm, qzt, qza, qzs, qzu, qzx, xzj, qzG, qzL, qzB, qzA, cv, qzI, qzJ, toA, ofA, FR.pop, abin, aun, intBin, qzq, qzQ, qzM, qzT, qzP, ↓reduceIte, Option.getD_some, List.getElem?_cons_zero, Nat.reduceEqDiff, Nat.add_zero, and_true, Bool.not_false, beq_self_eq_true, beq_true, forall_const, false_implies, Bool.true_eq_false, errK, t_p_errors_errorString, g4]
      exact qzr rfl
    by_cases y0 : p.q.y = 0
    · have q3 : (p.q.y == 0) = true := by simp [y0]
      have q3' : (p.q.y != 0) = false := by simp [y0]
      rw [show paintS p n m = none by simp [paintS, r12, r2, k2, r3, r4, r5, y0]]
      simp only [qzz, qzk, qzo, qzH, qzv, qzn, qzi, xzc, qzf, qze, qzd, qzp, qzF, qzy, qzK, qzc, qzj, qzb, qzg, qzh, qzl, qzm, qzt, qza, qzs, qzu, qzx, xzj, qzG, qzL, qzB, qzA, cv, qzI, qzJ, toA, ofA, FR.pop, abin, aun, intBin, qzq, qzQ, qzM, qzT, qzP, ↓reduceIte, Option.getD_some, List.getElem?_cons_zero, List.getElem?_cons_succ, Nat.reduceAdd, Nat.reduceEqDiff, Nat.add_zero, Nat.zero_add, true_and, Bool.not_true, Bool.false_eq_true, beq_self_eq_true, forall_const, false_implies, q2, q3']
      exact qzr rfl
    · have q3 : (p.q.y == 0) = false := by simp [y0]
      have q3' : (p.q.y != 0) = true := by simp [y0]
      rw [show paintS p n m = some 9 by simp [paintS, r12, r2, k2, r3, r4, r5, y0]]
      simp only [qzz, qzk, qzo, qzH, qzv, qzn, qzi, qzR, xzc, xze, qzf, qze, qzd, qzp, qzF, qzy, qzK, qzc, qzj, qzb, qzg, qzh, qzl, qzm, qzt, qza, qzs, qzu, qzx, xzj, qzG, qzL, qzB, qzA, cv, qzI, qzJ, toA, ofA, FR.pop, abin, aun, intBin, qzq, qzQ, qzM, qzT, qzP, ↓reduceIte, Option.getD_some, List.getElem?_cons_zero, List.getElem?_cons_succ, Nat.reduceAdd, Nat.reduceEqDiff, Nat.add_zero, Nat.zero_add, and_true, true_and, Bool.not_true, Bool.false_eq_true, beq_self_eq_true, forall_const, false_implies, Bool.true_eq_false, errK, t_p_errors_errorString, q2, q3', g9]
      exact qzr rfl
end
end Go.VL.Ic
