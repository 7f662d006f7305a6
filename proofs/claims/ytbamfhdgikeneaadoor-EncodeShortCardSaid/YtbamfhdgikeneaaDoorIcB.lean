/- Chapter 5: segments, paths, commands. (By wip/gen_icb.py.) -/
import Derived.Test.YtbamfhdgikeneaaDoorIcA
namespace Go.VL.Ic
open Go.FR Go.IR Go.VL Go.VL.Er Go.VL.Color Go.VL.Wind
noncomputable section
set_option linter.unusedSimpArgs false
set_option linter.unusedVariables false
set_option maxRecDepth 100000
set_option maxHeartbeats 1000000
theorem seg_ok {Gl : xzt} (hG : IcG Gl) (s : Seg) (m : Int) (m0 : 0 ≤ m) (m1 : m ≤ 2 ^ 62) : xzH Go.VL.Er.E Gl f_icon_seg [.agg (cSeg s), .int .i64 m] (errV (segS s m)) := by
  refine xzw (xzf E_icon_seg ?_)
  have g4 : qzw Gl g_ErrRange = some [errK 4] := hG.r
  have g9 : qzw Gl g_ErrCanon = some [errK 9] := hG.c
  have w1 : IntKind.i64.wrap (0 + 1) = 1 := by decide
  have w2 : IntKind.i64.wrap (1 + 1) = 2 := by decide
  have w3 : IntKind.i64.wrap (2 + 1) = 3 := by decide
  have z0 : natV (VV.int .i64 0) = some 0 := rfl
  have z1 : natV (VV.int .i64 1) = some 1 := rfl
  have z2 : natV (VV.int .i64 2) = some 2 := rfl
  have z3 : natV (VV.int .i64 3) = some 3 := rfl
  have n0 : ((0 : Nat) : Int) = 0 := rfl
  have n1 : ((1 : Nat) : Int) = 1 := rfl
  have n2 : ((2 : Nat) : Int) = 2 := rfl
  have n3 : ((3 : Nat) : Int) = 3 := rfl
  unfold c_icon_seg r_icon_seg
  simp only [xzB]
  obtain ⟨kind, p0, p1, p2⟩ := s
  simp only [qzk, qzo, qzi, qzf, qze, qzd, qzp, qzF, qzX, qzN, qzc, qzj, qzE, qzb, qzg, qzh, qzO, qzD, qzl, qzm, qzt, qza, qzs, qzu, qzx, qzG, qzL, qzB, xzh, xzF, qzA, cv, VN.at, VH.push, qzq, h0, VV.cells, ntV, ↓reduceIte, Option.getD_some, List.getElem?_cons_zero, Nat.reduceEqDiff, Nat.add_zero, Nat.zero_add, cSeg]
  refine qzZ (in_ok Gl _ _ _) rfl rfl ?_
  cases r1 : inS kind 1 3
  · rw [show segS ⟨kind, p0, p1, p2⟩ m = some 4 by simp [segS, r1]]
    simp only [qzz, qzk, qzo, qzH, qzv, qzn, qzi, qzR, qzf, qze, qzd, qzp, qzF, qzy, qzK, qzc, qzj, qzb, qzg, qzh, qzl, qzm, qzt, qza, qzs, qzu, qzx, qzG, slArrV, bndV, qzL, qzB, qzA, cv, qzI, qzJ, toA, ofA, FR.pop, aun, qzq, qzQ, qzM, qzT, qzP, ↓reduceIte, Option.getD_some, List.getElem?_cons_zero, Nat.reduceEqDiff, Nat.add_zero, Nat.zero_add, and_true, Bool.not_false, forall_const, false_implies, Bool.true_eq_false, errK, t_p_errors_errorString, g4]
    exact qzr rfl
  have k123 : kind = 1 ∨ kind = 2 ∨ kind = 3 := by unfold inS at r1; simp at r1; omega
  rcases k123 with rfl | rfl | rfl
  · simp only [qzz, qzk, qzo, qzC, qzv, qzn, qzi, qzf, qze, qzd, qzp, qzF, qzy, qzc, qzj, qzb, qzg, qzh, qzl, qzm, qzt, qza, qzs, qzu, qzx, qzG, xzi, slArrV, bndV, qzL, qzB, qzA, cv, qzI, qzJ, toA, ofA, FR.pop, aun, qzq, ↓reduceIte, Option.getD_some, List.getElem?_cons_zero, Nat.reduceMul, Nat.reduceSub, Nat.reduceEqDiff, Nat.reduceLeDiff, Nat.add_zero, Nat.zero_add, true_and, Bool.not_true, Bool.false_eq_true, forall_const, false_implies, n1, z1]
    refine xzn c_icon_seg_l1.eq_1 ?_
    simp only [qzz, qzk, qzo, qzC, qzV, qzv, qzn, qzi, xzd, xzu, qzU, qzf, qze, qzd, qzp, qzF, qzX, qzN, qzy, qzc, qzj, qzE, qzb, xza, qzg, qzh, qzO, xzb, qzD, qzl, qzm, qzt, qza, qzs, qzu, qzx, qzG, xzo, xzi, slArrV, bndV, qzL, qzB, xzh, qzW, xzg, xzq, qzA, cvs, cv, qzI, qzJ, toA, ofA, FR.pop, abin, intBin, VN.at, VH.push, VH.set, qzq, VV.cells, ntV, qzS, xzz, ↓reduceIte, Option.getD_some, List.getElem?_cons_zero, List.length_cons, List.length_nil, List.drop_succ_cons, List.drop_zero, List.take_succ_cons, List.take_zero, List.append_nil, List.nil_append, List.head?_cons, Nat.reduceAdd, Nat.reduceMul, Nat.reduceSub, Nat.reduceLT, Nat.reduceEqDiff, reduceCtorEq, Nat.reduceLeDiff, Int.reduceLT, Nat.add_zero, Nat.zero_add, and_self, and_true, decide_true, forall_const, false_implies, Bool.true_eq_false, reduceCtorEq, n2, z0, z1]
    refine qzZ (far_ok Gl p0 _ m0 m1) rfl rfl ?_
    cases f0 : farS p0 m
    case true =>
      rw [show segS ⟨1, p0, p1, p2⟩ m = some 4 by simp [segS, segPts, r1, f0]]
      simp only [qzz, qzk, qzo, qzH, qzv, qzn, qzi, qzR, xzc, xze, xzm, xzA, qzf, qze, qzd, qzp, qzF, qzy, qzK, qzc, qzj, qzb, qzg, qzh, qzl, qzm, qzt, qza, qzs, qzu, qzx, qzL, qzB, qzA, cv, qzI, qzJ, toA, ofA, FR.pop, abin, intBin, qzQ, qzM, qzT, qzP, ↓reduceIte, List.getElem?_cons_zero, Nat.reduceEqDiff, and_true, forall_const, false_implies, Bool.true_eq_false, errK, t_p_errors_errorString, g4]
      exact qzr rfl
    simp only [qzz, qzk, qzo, qzv, qzn, qzi, xzc, xzm, qzf, qze, qzd, qzp, qzF, qzy, qzc, qzb, qzg, qzh, qzl, qzm, qzt, qza, qzs, qzu, qzx, qzL, qzB, qzA, cv, qzI, qzJ, toA, ofA, FR.pop, abin, intBin, ↓reduceIte, Nat.reduceEqDiff, true_and, Bool.false_eq_true, forall_const, false_implies, w1]
    refine xzn c_icon_seg_l1.eq_1 ?_
    simp only [qzz, qzk, qzo, qzC, qzV, qzv, qzn, qzi, xzd, xzu, qzU, qzf, qze, qzd, qzp, qzF, qzc, qzj, qzb, qzg, qzh, qzl, qzm, qzt, qza, qzs, qzu, qzx, qzG, xzo, xzi, slArrV, bndV, qzL, qzB, qzA, cv, qzI, qzJ, toA, ofA, FR.pop, abin, intBin, qzq, ↓reduceIte, Option.getD_some, List.getElem?_cons_zero, Nat.reduceAdd, Nat.reduceMul, Nat.reduceSub, Nat.reduceLT, Nat.reduceEqDiff, reduceCtorEq, Nat.reduceLeDiff, Int.reduceLT, Nat.add_zero, Nat.zero_add, true_and, Bool.false_eq_true, decide_false, forall_const, false_implies, reduceCtorEq, n2, z1]
    refine xzn c_icon_seg_l0.eq_1 ?_
    by_cases y1 : zeroP p1
    case neg =>
      rw [show segS ⟨1, p0, p1, p2⟩ m = some 9 by simp [segS, segPts, r1, f0, y1]]
      rcases zero_n y1 with a | ⟨a, b⟩
      · simp only [qzz, qzk, qzo, qzC, qzV, qzH, qzv, qzn, qzi, xzd, qzR, xzc, xzu, xze, xzm, qzU, xzA, qzf, qze, qzd, qzp, qzF, qzX, qzN, qzy, qzK, qzc, qzj, qzE, qzb, xza, qzg, qzh, qzO, xzb, qzl, qzm, qzt, qza, qzs, qzu, qzx, xzo, qzL, qzB, xzI, xzJ, xzW, xzR, eqInt, xzh, xzE, xzv, qzW, xzg, xzq, qzA, cvs, cv, qzI, qzJ, toA, ofA, FR.pop, abin, intBin, VN.at, VH.push, VH.set, qzq, VV.cells, ntV, qzQ, qzM, qzT, qzP, qzS, xzz, ↓reduceIte, Option.getD_some, List.getElem?_cons_zero, List.length_cons, List.length_nil, List.drop_succ_cons, List.drop_zero, List.take_succ_cons, List.take_zero, List.append_nil, List.nil_append, List.head?_cons, Nat.reduceAdd, Nat.reduceMul, Nat.reduceLT, Nat.reduceEqDiff, reduceCtorEq, Nat.reduceLeDiff, Int.reduceLT, Nat.add_zero, Nat.zero_add, and_self, and_true, Bool.not_false, decide_true, forall_const, false_implies, Bool.true_eq_false, reduceCtorEq, errK, t_p_errors_errorString, z0, a, g9]
        exact qzr rfl
      · simp only [qzz, qzk, qzo, qzC, qzV, qzH, qzv, qzn, qzi, xzd, qzR, xzc, xzu, xze, xzm, qzU, xzA, qzf, qze, qzd, qzp, qzF, qzX, qzN, qzy, qzK, qzc, qzj, qzE, qzb, xza, qzg, qzh, qzO, xzb, qzl, qzm, qzt, qza, qzs, qzu, qzx, xzo, qzL, qzB, xzI, xzJ, xzW, xzR, eqInt, xzh, xzE, xzv, qzW, xzg, xzq, qzA, cvs, cv, qzI, qzJ, toA, ofA, FR.pop, abin, intBin, VN.at, VH.push, VH.set, qzq, VV.cells, ntV, qzQ, qzM, qzT, qzP, qzS, xzz, ↓reduceIte, Option.getD_some, List.getElem?_cons_zero, List.getElem?_cons_succ, List.length_cons, List.length_nil, List.drop_succ_cons, List.drop_zero, List.take_succ_cons, List.take_zero, List.append_nil, List.nil_append, List.head?_cons, Nat.reduceAdd, Nat.reduceMul, Nat.reduceLT, Nat.reduceEqDiff, reduceCtorEq, Nat.reduceLeDiff, Int.reduceLT, Nat.add_zero, Nat.zero_add, and_self, and_true, Bool.not_false, decide_true, forall_const, false_implies, Bool.true_eq_false, reduceCtorEq, errK, t_p_errors_errorString, z0, a, b, g9]
        exact qzr rfl
    obtain ⟨a1, b1⟩ := zero_y y1
    simp only [qzz, qzk, qzo, qzC, qzV, qzH, qzv, qzn, qzi, xzd, xzc, xzu, xzm, qzU, qzf, qze, qzd, qzp, qzF, qzX, qzN, qzy, qzK, qzc, qzj, qzE, qzb, xza, qzg, qzh, qzO, xzb, qzl, qzm, qzt, qza, qzs, qzu, qzx, xzo, qzL, qzB, xzI, xzJ, xzW, xzR, eqInt, xzh, xzE, xzv, qzW, xzg, xzq, qzA, cvs, cv, qzI, qzJ, toA, ofA, FR.pop, abin, intBin, VN.at, VH.push, VH.set, qzq, VV.cells, ntV, qzQ, qzM, qzT, qzP, qzS, xzz, ↓reduceIte, Option.getD_some, List.getElem?_cons_zero, List.getElem?_cons_succ, List.length_cons, List.length_nil, List.drop_succ_cons, List.drop_zero, List.take_succ_cons, List.take_zero, List.append_nil, List.nil_append, List.head?_cons, Nat.reduceAdd, Nat.reduceMul, Nat.reduceLT, Nat.reduceEqDiff, reduceCtorEq, Nat.reduceLeDiff, Int.reduceLT, Nat.add_zero, Nat.zero_add, and_self, and_true, true_and, Bool.not_true, Bool.false_eq_true, decide_true, forall_const, false_implies, Bool.true_eq_false, reduceCtorEq, z0, a1, b1, w1]
    refine xzn c_icon_seg_l0.eq_1 ?_
    by_cases y2 : zeroP p2
    case neg =>
      rw [show segS ⟨1, p0, p1, p2⟩ m = some 9 by simp [segS, segPts, r1, f0, y1, y2]]
      rcases zero_n y2 with a | ⟨a, b⟩
      · simp only [qzz, qzk, qzo, qzC, qzV, qzH, qzv, qzn, qzi, xzd, qzR, xzc, xzu, xze, xzm, qzU, xzA, qzf, qze, qzd, qzp, qzF, qzX, qzN, qzy, qzK, qzc, qzj, qzE, qzb, xza, qzg, qzh, qzO, xzb, qzl, qzm, qzt, qza, qzs, qzu, qzx, xzo, qzL, qzB, xzI, xzJ, xzW, xzR, eqInt, xzh, xzE, xzv, qzW, xzg, xzq, qzA, cvs, cv, qzI, qzJ, toA, ofA, FR.pop, abin, intBin, VN.at, VH.push, VH.set, qzq, VV.cells, ntV, qzQ, qzM, qzT, qzP, qzS, xzz, ↓reduceIte, Option.getD_some, List.getElem?_cons_zero, List.length_cons, List.length_nil, List.drop_succ_cons, List.drop_zero, List.take_succ_cons, List.take_zero, List.append_nil, List.nil_append, List.head?_cons, Nat.reduceAdd, Nat.reduceMul, Nat.reduceLT, Nat.reduceEqDiff, reduceCtorEq, Nat.reduceLeDiff, Int.reduceLT, Nat.zero_add, and_self, and_true, Bool.not_false, decide_true, forall_const, false_implies, Bool.true_eq_false, reduceCtorEq, errK, t_p_errors_errorString, z1, a, g9]
        exact qzr rfl
      · simp only [qzz, qzk, qzo, qzC, qzV, qzH, qzv, qzn, qzi, xzd, qzR, xzc, xzu, xze, xzm, qzU, xzA, qzf, qze, qzd, qzp, qzF, qzX, qzN, qzy, qzK, qzc, qzj, qzE, qzb, xza, qzg, qzh, qzO, xzb, qzl, qzm, qzt, qza, qzs, qzu, qzx, xzo, qzL, qzB, xzI, xzJ, xzW, xzR, eqInt, xzh, xzE, xzv, qzW, xzg, xzq, qzA, cvs, cv, qzI, qzJ, toA, ofA, FR.pop, abin, intBin, VN.at, VH.push, VH.set, qzq, VV.cells, ntV, qzQ, qzM, qzT, qzP, qzS, xzz, ↓reduceIte, Option.getD_some, List.getElem?_cons_zero, List.getElem?_cons_succ, List.length_cons, List.length_nil, List.drop_succ_cons, List.drop_zero, List.take_succ_cons, List.take_zero, List.append_nil, List.nil_append, List.head?_cons, Nat.reduceAdd, Nat.reduceMul, Nat.reduceLT, Nat.reduceEqDiff, reduceCtorEq, Nat.reduceLeDiff, Int.reduceLT, Nat.zero_add, and_self, and_true, Bool.not_false, decide_true, forall_const, false_implies, Bool.true_eq_false, reduceCtorEq, errK, t_p_errors_errorString, z1, a, b, g9]
        exact qzr rfl
    obtain ⟨a2, b2⟩ := zero_y y2
    simp only [qzz, qzk, qzo, qzC, qzV, qzH, qzv, qzn, qzi, xzd, xzc, xzu, xzm, qzU, qzf, qze, qzd, qzp, qzF, qzX, qzN, qzy, qzK, qzc, qzj, qzE, qzb, xza, qzg, qzh, qzO, xzb, qzl, qzm, qzt, qza, qzs, qzu, qzx, xzo, qzL, qzB, xzI, xzJ, xzW, xzR, eqInt, xzh, xzE, xzv, qzW, xzg, xzq, qzA, cvs, cv, qzI, qzJ, toA, ofA, FR.pop, abin, intBin, VN.at, VH.push, VH.set, qzq, VV.cells, ntV, qzQ, qzM, qzT, qzP, qzS, xzz, ↓reduceIte, Option.getD_some, List.getElem?_cons_zero, List.getElem?_cons_succ, List.length_cons, List.length_nil, List.drop_succ_cons, List.drop_zero, List.take_succ_cons, List.take_zero, List.append_nil, List.nil_append, List.head?_cons, Nat.reduceAdd, Nat.reduceMul, Nat.reduceLT, Nat.reduceEqDiff, reduceCtorEq, Nat.reduceLeDiff, Int.reduceLT, Nat.zero_add, and_self, and_true, true_and, Bool.not_true, Bool.false_eq_true, decide_true, forall_const, false_implies, Bool.true_eq_false, reduceCtorEq, z1, a2, b2, w2]
    refine xzn c_icon_seg_l0.eq_1 ?_
    rw [show segS ⟨1, p0, p1, p2⟩ m = none by simp [segS, segPts, r1, f0, y1, y2]]
    simp only [qzz, qzk, qzo, qzC, qzV, qzH, qzv, qzn, qzi, xzd, xzu, qzU, qzf, qze, qzd, qzp, qzK, qzc, qzb, qzg, qzh, qzl, qzm, qzt, qza, qzs, qzu, qzx, xzo, cv, qzI, qzJ, toA, ofA, FR.pop, abin, intBin, qzQ, qzM, qzT, qzP, ↓reduceIte, Nat.reduceLT, Nat.reduceEqDiff, Int.reduceLT, true_and, Bool.false_eq_true, decide_false, forall_const, false_implies, z2]
    exact qzr rfl
  · simp only [qzz, qzk, qzo, qzC, qzv, qzn, qzi, qzf, qze, qzd, qzp, qzF, qzy, qzc, qzj, qzb, qzg, qzh, qzl, qzm, qzt, qza, qzs, qzu, qzx, qzG, xzi, slArrV, bndV, qzL, qzB, qzA, cv, qzI, qzJ, toA, ofA, FR.pop, aun, qzq, ↓reduceIte, Option.getD_some, List.getElem?_cons_zero, Nat.reduceMul, Nat.reduceSub, Nat.reduceEqDiff, Nat.reduceLeDiff, Nat.add_zero, Nat.zero_add, true_and, Bool.not_true, Bool.false_eq_true, forall_const, false_implies, n2, z2]
    refine xzn c_icon_seg_l1.eq_1 ?_
    simp only [qzz, qzk, qzo, qzC, qzV, qzv, qzn, qzi, xzd, xzu, qzU, qzf, qze, qzd, qzp, qzF, qzX, qzN, qzy, qzc, qzj, qzE, qzb, xza, qzg, qzh, qzO, xzb, qzD, qzl, qzm, qzt, qza, qzs, qzu, qzx, qzG, xzo, xzi, slArrV, bndV, qzL, qzB, xzh, qzW, xzg, xzq, qzA, cvs, cv, qzI, qzJ, toA, ofA, FR.pop, abin, intBin, VN.at, VH.push, VH.set, qzq, VV.cells, ntV, qzS, xzz, ↓reduceIte, Option.getD_some, List.getElem?_cons_zero, List.length_cons, List.length_nil, List.drop_succ_cons, List.drop_zero, List.take_succ_cons, List.take_zero, List.append_nil, List.nil_append, List.head?_cons, Nat.reduceAdd, Nat.reduceMul, Nat.reduceSub, Nat.reduceLT, Nat.reduceEqDiff, reduceCtorEq, Nat.reduceLeDiff, Int.reduceLT, Nat.add_zero, Nat.zero_add, and_self, and_true, decide_true, forall_const, false_implies, Bool.true_eq_false, reduceCtorEq, n1, z0, z2]
    refine qzZ (far_ok Gl p0 _ m0 m1) rfl rfl ?_
    cases f0 : farS p0 m
    case true =>
      rw [show segS ⟨2, p0, p1, p2⟩ m = some 4 by simp [segS, segPts, r1, f0]]
      simp only [qzz, qzk, qzo, qzH, qzv, qzn, qzi, qzR, xzc, xze, xzm, xzA, qzf, qze, qzd, qzp, qzF, qzy, qzK, qzc, qzj, qzb, qzg, qzh, qzl, qzm, qzt, qza, qzs, qzu, qzx, qzL, qzB, qzA, cv, qzI, qzJ, toA, ofA, FR.pop, abin, intBin, qzQ, qzM, qzT, qzP, ↓reduceIte, List.getElem?_cons_zero, Nat.reduceEqDiff, and_true, forall_const, false_implies, Bool.true_eq_false, errK, t_p_errors_errorString, g4]
      exact qzr rfl
    simp only [qzz, qzk, qzo, qzv, qzn, qzi, xzc, xzm, qzf, qze, qzd, qzp, qzF, qzy, qzc, qzb, qzg, qzh, qzl, qzm, qzt, qza, qzs, qzu, qzx, qzL, qzB, qzA, cv, qzI, qzJ, toA, ofA, FR.pop, abin, intBin, ↓reduceIte, Nat.reduceEqDiff, true_and, Bool.false_eq_true, forall_const, false_implies, w1]
    refine xzn c_icon_seg_l1.eq_1 ?_
    simp only [qzz, qzk, qzo, qzC, qzV, qzv, qzn, qzi, xzd, xzu, qzU, qzf, qze, qzd, qzp, qzF, qzX, qzN, qzy, qzc, qzj, qzE, qzb, xza, qzg, qzh, qzO, xzb, qzD, qzl, qzm, qzt, qza, qzs, qzu, qzx, qzG, xzo, xzi, slArrV, bndV, qzL, qzB, xzh, qzW, xzg, xzq, qzA, cvs, cv, qzI, qzJ, toA, ofA, FR.pop, abin, intBin, VN.at, VH.push, VH.set, qzq, VV.cells, ntV, qzS, xzz, ↓reduceIte, Option.getD_some, List.getElem?_cons_zero, List.length_cons, List.length_nil, List.drop_succ_cons, List.drop_zero, List.take_succ_cons, List.take_zero, List.append_nil, List.nil_append, List.head?_cons, Nat.reduceAdd, Nat.reduceMul, Nat.reduceSub, Nat.reduceLT, Nat.reduceEqDiff, reduceCtorEq, Nat.reduceLeDiff, Int.reduceLT, Nat.add_zero, Nat.zero_add, and_self, and_true, decide_true, forall_const, false_implies, Bool.true_eq_false, reduceCtorEq, n1, z1, z2]
    refine qzZ (far_ok Gl p1 _ m0 m1) rfl rfl ?_
    cases f1 : farS p1 m
    case true =>
      rw [show segS ⟨2, p0, p1, p2⟩ m = some 4 by simp [segS, segPts, r1, f0, f1]]
      simp only [qzz, qzk, qzo, qzH, qzv, qzn, qzi, qzR, xzc, xze, xzm, xzA, qzf, qze, qzd, qzp, qzF, qzy, qzK, qzc, qzj, qzb, qzg, qzh, qzl, qzm, qzt, qza, qzs, qzu, qzx, qzL, qzB, qzA, cv, qzI, qzJ, toA, ofA, FR.pop, abin, intBin, qzQ, qzM, qzT, qzP, ↓reduceIte, List.getElem?_cons_zero, Nat.reduceEqDiff, and_true, forall_const, false_implies, Bool.true_eq_false, errK, t_p_errors_errorString, g4]
      exact qzr rfl
    simp only [qzz, qzk, qzo, qzv, qzn, qzi, xzc, xzm, qzf, qze, qzd, qzp, qzF, qzy, qzc, qzb, qzg, qzh, qzl, qzm, qzt, qza, qzs, qzu, qzx, qzL, qzB, qzA, cv, qzI, qzJ, toA, ofA, FR.pop, abin, intBin, ↓reduceIte, Nat.reduceEqDiff, true_and, Bool.false_eq_true, forall_const, false_implies, w2]
    refine xzn c_icon_seg_l1.eq_1 ?_
    simp only [qzz, qzk, qzo, qzC, qzV, qzv, qzn, qzi, xzd, xzu, qzU, qzf, qze, qzd, qzp, qzF, qzc, qzj, qzb, qzg, qzh, qzl, qzm, qzt, qza, qzs, qzu, qzx, qzG, xzo, xzi, slArrV, bndV, qzL, qzB, qzA, cv, qzI, qzJ, toA, ofA, FR.pop, abin, intBin, qzq, ↓reduceIte, Option.getD_some, List.getElem?_cons_zero, Nat.reduceAdd, Nat.reduceMul, Nat.reduceSub, Nat.reduceLT, Nat.reduceEqDiff, reduceCtorEq, Nat.reduceLeDiff, Int.reduceLT, Nat.add_zero, Nat.zero_add, true_and, Bool.false_eq_true, decide_false, forall_const, false_implies, reduceCtorEq, n1, z2]
    refine xzn c_icon_seg_l0.eq_1 ?_
    by_cases y2 : zeroP p2
    case neg =>
      rw [show segS ⟨2, p0, p1, p2⟩ m = some 9 by simp [segS, segPts, r1, f0, f1, y2]]
      rcases zero_n y2 with a | ⟨a, b⟩
      · simp only [qzz, qzk, qzo, qzC, qzV, qzH, qzv, qzn, qzi, xzd, qzR, xzc, xzu, xze, xzm, qzU, xzA, qzf, qze, qzd, qzp, qzF, qzX, qzN, qzy, qzK, qzc, qzj, qzE, qzb, xza, qzg, qzh, qzO, xzb, qzl, qzm, qzt, qza, qzs, qzu, qzx, xzo, qzL, qzB, xzI, xzJ, xzW, xzR, eqInt, xzh, xzE, xzv, qzW, xzg, xzq, qzA, cvs, cv, qzI, qzJ, toA, ofA, FR.pop, abin, intBin, VN.at, VH.push, VH.set, qzq, VV.cells, ntV, qzQ, qzM, qzT, qzP, qzS, xzz, ↓reduceIte, Option.getD_some, List.getElem?_cons_zero, List.length_cons, List.length_nil, List.drop_succ_cons, List.drop_zero, List.take_succ_cons, List.take_zero, List.append_nil, List.nil_append, List.head?_cons, Nat.reduceAdd, Nat.reduceMul, Nat.reduceLT, Nat.reduceEqDiff, reduceCtorEq, Nat.reduceLeDiff, Int.reduceLT, Nat.add_zero, Nat.zero_add, and_self, and_true, Bool.not_false, decide_true, forall_const, false_implies, Bool.true_eq_false, reduceCtorEq, errK, t_p_errors_errorString, z0, a, g9]
        exact qzr rfl
      · simp only [qzz, qzk, qzo, qzC, qzV, qzH, qzv, qzn, qzi, xzd, qzR, xzc, xzu, xze, xzm, qzU, xzA, qzf, qze, qzd, qzp, qzF, qzX, qzN, qzy, qzK, qzc, qzj, qzE, qzb, xza, qzg, qzh, qzO, xzb, qzl, qzm, qzt, qza, qzs, qzu, qzx, xzo, qzL, qzB, xzI, xzJ, xzW, xzR, eqInt, xzh, xzE, xzv, qzW, xzg, xzq, qzA, cvs, cv, qzI, qzJ, toA, ofA, FR.pop, abin, intBin, VN.at, VH.push, VH.set, qzq, VV.cells, ntV, qzQ, qzM, qzT, qzP, qzS, xzz, ↓reduceIte, Option.getD_some, List.getElem?_cons_zero, List.getElem?_cons_succ, List.length_cons, List.length_nil, List.drop_succ_cons, List.drop_zero, List.take_succ_cons, List.take_zero, List.append_nil, List.nil_append, List.head?_cons, Nat.reduceAdd, Nat.reduceMul, Nat.reduceLT, Nat.reduceEqDiff, reduceCtorEq, Nat.reduceLeDiff, Int.reduceLT, Nat.add_zero, Nat.zero_add, and_self, and_true, Bool.not_false, decide_true, forall_const, false_implies, Bool.true_eq_false, reduceCtorEq, errK, t_p_errors_errorString, z0, a, b, g9]
        exact qzr rfl
    obtain ⟨a2, b2⟩ := zero_y y2
    simp only [qzz, qzk, qzo, qzC, qzV, qzH, qzv, qzn, qzi, xzd, xzc, xzu, xzm, qzU, qzf, qze, qzd, qzp, qzF, qzX, qzN, qzy, qzK, qzc, qzj, qzE, qzb, xza, qzg, qzh, qzO, xzb, qzl, qzm, qzt, qza, qzs, qzu, qzx, xzo, qzL, qzB, xzI, xzJ, xzW, xzR, eqInt, xzh, xzE, xzv, qzW, xzg, xzq, qzA, cvs, cv, qzI, qzJ, toA, ofA, FR.pop, abin, intBin, VN.at, VH.push, VH.set, qzq, VV.cells, ntV, qzQ, qzM, qzT, qzP, qzS, xzz, ↓reduceIte, Option.getD_some, List.getElem?_cons_zero, List.getElem?_cons_succ, List.length_cons, List.length_nil, List.drop_succ_cons, List.drop_zero, List.take_succ_cons, List.take_zero, List.append_nil, List.nil_append, List.head?_cons, Nat.reduceAdd, Nat.reduceMul, Nat.reduceLT, Nat.reduceEqDiff, reduceCtorEq, Nat.reduceLeDiff, Int.reduceLT, Nat.add_zero, Nat.zero_add, and_self, and_true, true_and, Bool.not_true, Bool.false_eq_true, decide_true, forall_const, false_implies, Bool.true_eq_false, reduceCtorEq, z0, a2, b2, w1]
    refine xzn c_icon_seg_l0.eq_1 ?_
    rw [show segS ⟨2, p0, p1, p2⟩ m = none by simp [segS, segPts, r1, f0, f1, y2]]
    simp only [qzz, qzk, qzo, qzC, qzV, qzH, qzv, qzn, qzi, xzd, xzu, qzU, qzf, qze, qzd, qzp, qzK, qzc, qzb, qzg, qzh, qzl, qzm, qzt, qza, qzs, qzu, qzx, xzo, cv, qzI, qzJ, toA, ofA, FR.pop, abin, intBin, qzQ, qzM, qzT, qzP, ↓reduceIte, Nat.reduceLT, Nat.reduceEqDiff, Int.reduceLT, true_and, Bool.false_eq_true, decide_false, forall_const, false_implies, z1]
    exact qzr rfl
  · simp only [qzz, qzk, qzo, qzC, qzv, qzn, qzi, qzf, qze, qzd, qzp, qzF, qzy, qzc, qzj, qzb, qzg, qzh, qzl, qzm, qzt, qza, qzs, qzu, qzx, qzG, xzi, slArrV, bndV, qzL, qzB, qzA, cv, qzI, qzJ, toA, ofA, FR.pop, aun, qzq, ↓reduceIte, Option.getD_some, List.getElem?_cons_zero, Nat.reduceMul, Nat.reduceSub, Nat.reduceEqDiff, Nat.reduceLeDiff, Nat.add_zero, Nat.zero_add, true_and, Bool.not_true, Bool.false_eq_true, forall_const, false_implies, n3, z3]
    refine xzn c_icon_seg_l1.eq_1 ?_
    simp only [qzz, qzk, qzo, qzC, qzV, qzv, qzn, qzi, xzd, xzu, qzU, qzf, qze, qzd, qzp, qzF, qzX, qzN, qzy, qzc, qzj, qzE, qzb, xza, qzg, qzh, qzO, xzb, qzD, qzl, qzm, qzt, qza, qzs, qzu, qzx, qzG, xzo, xzi, slArrV, bndV, qzL, qzB, xzh, qzW, xzg, xzq, qzA, cvs, cv, qzI, qzJ, toA, ofA, FR.pop, abin, intBin, VN.at, VH.push, VH.set, qzq, VV.cells, ntV, qzS, xzz, ↓reduceIte, Option.getD_some, List.getElem?_cons_zero, List.length_cons, List.length_nil, List.drop_succ_cons, List.drop_zero, List.take_succ_cons, List.take_zero, List.append_nil, List.nil_append, List.head?_cons, Nat.reduceAdd, Nat.reduceMul, Nat.reduceSub, Nat.reduceLT, Nat.reduceEqDiff, reduceCtorEq, Nat.reduceLeDiff, Int.reduceLT, Nat.add_zero, Nat.zero_add, and_self, and_true, decide_true, forall_const, false_implies, Bool.true_eq_false, reduceCtorEq, n0, z0, z3]
    refine qzZ (far_ok Gl p0 _ m0 m1) rfl rfl ?_
    cases f0 : farS p0 m
    case true =>
      rw [show segS ⟨3, p0, p1, p2⟩ m = some 4 by simp [segS, segPts, r1, f0]]
      simp only [qzz, qzk, qzo, qzH, qzv, qzn, qzi, qzR, xzc, xze, xzm, xzA, qzf, qze, qzd, qzp, qzF, qzy, qzK, qzc, qzj, qzb, qzg, qzh, qzl, qzm, qzt, qza, qzs, qzu, qzx, qzL, qzB, qzA, cv, qzI, qzJ, toA, ofA, FR.pop, abin, intBin, qzQ, qzM, qzT, qzP, ↓reduceIte, List.getElem?_cons_zero, Nat.reduceEqDiff, and_true, forall_const, false_implies, Bool.true_eq_false, errK, t_p_errors_errorString, g4]
      exact qzr rfl
    simp only [qzz, qzk, qzo, qzv, qzn, qzi, xzc, xzm, qzf, qze, qzd, qzp, qzF, qzy, qzc, qzb, qzg, qzh, qzl, qzm, qzt, qza, qzs, qzu, qzx, qzL, qzB, qzA, cv, qzI, qzJ, toA, ofA, FR.pop, abin, intBin, ↓reduceIte, Nat.reduceEqDiff, true_and, Bool.false_eq_true, forall_const, false_implies, w1]
    refine xzn c_icon_seg_l1.eq_1 ?_
    simp only [qzz, qzk, qzo, qzC, qzV, qzv, qzn, qzi, xzd, xzu, qzU, qzf, qze, qzd, qzp, qzF, qzX, qzN, qzy, qzc, qzj, qzE, qzb, xza, qzg, qzh, qzO, xzb, qzD, qzl, qzm, qzt, qza, qzs, qzu, qzx, qzG, xzo, xzi, slArrV, bndV, qzL, qzB, xzh, qzW, xzg, xzq, qzA, cvs, cv, qzI, qzJ, toA, ofA, FR.pop, abin, intBin, VN.at, VH.push, VH.set, qzq, VV.cells, ntV, qzS, xzz, ↓reduceIte, Option.getD_some, List.getElem?_cons_zero, List.length_cons, List.length_nil, List.drop_succ_cons, List.drop_zero, List.take_succ_cons, List.take_zero, List.append_nil, List.nil_append, List.head?_cons, Nat.reduceAdd, Nat.reduceMul, Nat.reduceSub, Nat.reduceLT, Nat.reduceEqDiff, reduceCtorEq, Nat.reduceLeDiff, Int.reduceLT, Nat.add_zero, Nat.zero_add, and_self, and_true, decide_true, forall_const, false_implies, Bool.true_eq_false, reduceCtorEq, n0, z1, z3]
    refine qzZ (far_ok Gl p1 _ m0 m1) rfl rfl ?_
    cases f1 : farS p1 m
    case true =>
      rw [show segS ⟨3, p0, p1, p2⟩ m = some 4 by simp [segS, segPts, r1, f0, f1]]
      simp only [qzz, qzk, qzo, qzH, qzv, qzn, qzi, qzR, xzc, xze, xzm, xzA, qzf, qze, qzd, qzp, qzF, qzy, qzK, qzc, qzj, qzb, qzg, qzh, qzl, qzm, qzt, qza, qzs, qzu, qzx, qzL, qzB, qzA, cv, qzI, qzJ, toA, ofA, FR.pop, abin, intBin, qzQ, qzM, qzT, qzP, ↓reduceIte, List.getElem?_cons_zero, Nat.reduceEqDiff, and_true, forall_const, false_implies, Bool.true_eq_false, errK, t_p_errors_errorString, g4]
      exact qzr rfl
    simp only [qzz, qzk, qzo, qzv, qzn, qzi, xzc, xzm, qzf, qze, qzd, qzp, qzF, qzy, qzc, qzb, qzg, qzh, qzl, qzm, qzt, qza, qzs, qzu, qzx, qzL, qzB, qzA, cv, qzI, qzJ, toA, ofA, FR.pop, abin, intBin, ↓reduceIte, Nat.reduceEqDiff, true_and, Bool.false_eq_true, forall_const, false_implies, w2]
    refine xzn c_icon_seg_l1.eq_1 ?_
    simp only [qzz, qzk, qzo, qzC, qzV, qzv, qzn, qzi, xzd, xzu, qzU, qzf, qze, qzd, qzp, qzF, qzX, qzN, qzy, qzc, qzj, qzE, qzb, xza, qzg, qzh, qzO, xzb, qzD, qzl, qzm, qzt, qza, qzs, qzu, qzx, qzG, xzo, xzi, slArrV, bndV, qzL, qzB, xzh, qzW, xzg, xzq, qzA, cvs, cv, qzI, qzJ, toA, ofA, FR.pop, abin, intBin, VN.at, VH.push, VH.set, qzq, VV.cells, ntV, qzS, xzz, ↓reduceIte, Option.getD_some, List.getElem?_cons_zero, List.length_cons, List.length_nil, List.drop_succ_cons, List.drop_zero, List.take_succ_cons, List.take_zero, List.append_nil, List.nil_append, List.head?_cons, Nat.reduceAdd, Nat.reduceMul, Nat.reduceSub, Nat.reduceLT, Nat.reduceEqDiff, reduceCtorEq, Nat.reduceLeDiff, Int.reduceLT, Nat.add_zero, Nat.zero_add, and_self, and_true, decide_true, forall_const, false_implies, Bool.true_eq_false, reduceCtorEq, n0, z2, z3]
    refine qzZ (far_ok Gl p2 _ m0 m1) rfl rfl ?_
    cases f2 : farS p2 m
    case true =>
      rw [show segS ⟨3, p0, p1, p2⟩ m = some 4 by simp [segS, segPts, r1, f0, f1, f2]]
      simp only [qzz, qzk, qzo, qzH, qzv, qzn, qzi, qzR, xzc, xze, xzm, xzA, qzf, qze, qzd, qzp, qzF, qzy, qzK, qzc, qzj, qzb, qzg, qzh, qzl, qzm, qzt, qza, qzs, qzu, qzx, qzL, qzB, qzA, cv, qzI, qzJ, toA, ofA, FR.pop, abin, intBin, qzQ, qzM, qzT, qzP, ↓reduceIte, List.getElem?_cons_zero, Nat.reduceEqDiff, and_true, forall_const, false_implies, Bool.true_eq_false, errK, t_p_errors_errorString, g4]
      exact qzr rfl
    simp only [qzz, qzk, qzo, qzv, qzn, qzi, xzc, xzm, qzf, qze, qzd, qzp, qzF, qzy, qzc, qzb, qzg, qzh, qzl, qzm, qzt, qza, qzs, qzu, qzx, qzL, qzB, qzA, cv, qzI, qzJ, toA, ofA, FR.pop, abin, intBin, ↓reduceIte, Nat.reduceEqDiff, true_and, Bool.false_eq_true, forall_const, false_implies, w3]
    refine xzn c_icon_seg_l1.eq_1 ?_
    simp only [qzz, qzk, qzo, qzC, qzV, qzv, qzn, qzi, xzd, xzu, qzU, qzf, qze, qzd, qzp, qzF, qzc, qzj, qzb, qzg, qzh, qzl, qzm, qzt, qza, qzs, qzu, qzx, qzG, xzo, xzi, slArrV, bndV, qzL, qzB, qzA, cv, qzI, qzJ, toA, ofA, FR.pop, abin, intBin, qzq, ↓reduceIte, Option.getD_some, List.getElem?_cons_zero, Nat.reduceAdd, Nat.reduceMul, Nat.reduceSub, Nat.reduceLT, Nat.reduceEqDiff, reduceCtorEq, Nat.reduceLeDiff, Int.reduceLT, Nat.add_zero, Nat.zero_add, true_and, Bool.false_eq_true, decide_false, forall_const, false_implies, reduceCtorEq, n0, z3]
    refine xzn c_icon_seg_l0.eq_1 ?_
    rw [show segS ⟨3, p0, p1, p2⟩ m = none by simp [segS, segPts, r1, f0, f1, f2]]
    simp only [qzz, qzk, qzo, qzC, qzV, qzH, qzv, qzn, qzi, xzd, xzu, qzU, qzf, qze, qzd, qzp, qzK, qzc, qzb, qzg, qzh, qzl, qzm, qzt, qza, qzs, qzu, qzx, xzo, cv, qzI, qzJ, toA, ofA, FR.pop, abin, intBin, qzQ, qzM, qzT, qzP, ↓reduceIte, Nat.reduceLT, Nat.reduceEqDiff, Int.reduceLT, true_and, Bool.false_eq_true, decide_false, forall_const, false_implies, z0]
    exact qzr rfl

theorem firstS_drop {α : Type} {f : α → Option Nat} {l : List α} {i : Nat} {x : α} (h : l[i]? = some x) : firstS f (l.drop i) = match f x with
    | some e => some e
    | none => firstS f (l.drop (i + 1)) := by rw [drop_at h]; rfl
theorem seg_loop {Gl : xzt} (hG : IcG Gl) (l : List Seg) (hl : l.length < 1000000) (m : Int) (m0 : 0 ≤ m) (m1 : m ≤ 2 ^ 62) (K : AEx → VF → VH → Prop)
    (hE : ∀ T h e, firstS (segS · m) l = some e → qzw T 6 = some (errK e) → K .ret T h)
    (hK : ∀ T h, firstS (segS · m) l = none → K (.exit 1) T h) :
    ∀ (d i : Nat) (T : VF) (h : VH), d + i = l.length → firstS (segS · m) l = firstS (segS · m) (l.drop i) → qzw T 2 = some (.int .i64 m) → qzw T 36 = some (.fsl (xzk cSeg l) l.length 7) → qzw T 37 = some (.int .i64 l.length) → qzw T 38 = some (.int .i64 i) →
    wp Go.VL.Er.E Gl (.loop c_icon_path_l0) T h K := by
  intro d
  induction d with
  | zero =>
    intro i T h hd hs t2 t36 t37 t38
    obtain rfl : i = l.length := by omega
    rw [List.drop_length] at hs
    refine xzn c_icon_path_l0.eq_1 ?_
    have c : ¬ ((l.length : Int) < l.length) := by omega
    simp only [qzz, qzk, qzo, qzC, qzV, qzv, qzn, qzi, xzd, qzU, qzf, qze, qzd, qzp, qzc, qzb, qzg, qzh, qzl, qzm, qzt, qza, qzs, qzu, qzI, qzJ, toA, ofA, FR.pop, abin, intBin, ↓reduceIte, Nat.reduceEqDiff, true_and, Bool.false_eq_true, decide_false, forall_const, false_implies, t_p_api_At, t_p_errors_errorString, t37, t38, c]
    exact hK _ _ hs
  | succ d ih =>
    intro i T h hd hs t2 t36 t37 t38
    refine xzn c_icon_path_l0.eq_1 ?_
    have hlt : i < l.length := by omega
    have c : (i : Int) < l.length := by omega
    obtain ⟨e, he⟩ : ∃ e, l[i]? = some e := ⟨l[i], List.getElem?_eq_getElem hlt⟩
    have p1 := flat_le cSeg_len he
    have p2 := flat_at cSeg_len he
    have hw : IntKind.i64.wrap ((i : Int) + 1) = ((i + 1 : Nat) : Int) := by rw [qzY (by omega) (by omega)]; rfl
    rw [firstS_drop he] at hs
    simp only [qzz, qzk, qzo, qzC, qzV, qzv, qzn, qzi, xzd, qzU, qzf, qze, qzd, qzp, qzF, qzX, qzN, qzy, qzc, qzj, qzE, qzb, xza, qzg, qzh, qzO, xzb, qzD, qzl, qzm, qzt, qza, qzs, qzu, qzx, xzo, qzL, qzB, xzh, qzW, xzg, xzq, qzA, cvs, cv, qzI, qzJ, toA, ofA, FR.pop, abin, intBin, VN.at, VH.push, VH.set, qzq, VV.cells, ntV, qzS, xzz, xzs, ↓reduceIte, Option.getD_some, List.length_cons, List.length_nil, List.drop_succ_cons, List.drop_zero, List.take_succ_cons, List.take_zero, List.append_nil, List.nil_append, List.head?_cons, Nat.reduceAdd, Nat.reduceEqDiff, Nat.reduceLeDiff, Nat.zero_add, and_self, and_true, decide_true, forall_const, false_implies, Bool.true_eq_false, cSeg, t_p_api_At, t_p_errors_errorString, t2, t36, t37, t38, c, hlt, p1, p2]
    refine qzZ (seg_ok hG e m m0 m1) rfl (by cases segS e m <;> rfl) ?_
    cases q : segS e m with
    | some n =>
      rw [q] at hs
      simp only [errV]
      simp only [qzz, qzk, qzo, qzH, qzv, qzn, qzi, qzR, xzc, xze, xzA, qzf, qze, qzd, qzp, qzF, qzy, qzc, qzj, qzb, qzg, qzh, qzl, qzm, qzt, qza, qzs, qzu, qzx, qzL, xzI, xzJ, eqIV, cv, ↓reduceIte, Nat.reduceEqDiff, and_true, Bool.not_false, forall_const, false_implies, Bool.true_eq_false, errK, t_p_errors_errorString]
      exact hE _ _ n hs (by simp only [qza, ↓reduceIte, errK, t_p_errors_errorString])
    | none =>
      rw [q] at hs
      simp only [errV]
      simp only [qzz, qzk, qzo, qzH, qzv, qzn, qzi, qzR, xzc, xze, xzm, xzA, qzf, qze, qzd, qzp, qzF, qzy, qzc, qzj, qzb, qzg, qzh, qzl, qzm, qzt, qza, qzs, qzu, qzx, qzL, xzI, xzJ, eqIV, cv, qzI, qzJ, toA, ofA, FR.pop, abin, intBin, ↓reduceIte, Nat.reduceEqDiff, true_and, Bool.not_true, Bool.false_eq_true, forall_const, false_implies, t38, hw]
      refine ih (i + 1) _ _ (by omega) hs ?_ ?_ ?_ ?_
      · simp only [qza, ↓reduceIte, Nat.reduceEqDiff, t2]
      · simp only [qza, ↓reduceIte, Nat.reduceEqDiff, t36]
      · simp only [qza, ↓reduceIte, Nat.reduceEqDiff, t37]
      · simp only [qza, ↓reduceIte]
theorem path_ok {Gl : xzt} (hG : IcG Gl) (p : Path) (fill : Bool) (m : Int) (hl : p.segs.length < 1000000) (m0 : 0 ≤ m) (m1 : m ≤ 2 ^ 62) : xzH Go.VL.Er.E Gl f_icon_path [.agg (cPath p), .bool fill, .int .i64 m] (errV (pathS p fill m)) := by
  refine xzw (xzf E_icon_path ?_)
  have g4 : qzw Gl g_ErrRange = some [errK 4] := hG.r
  have g5 : qzw Gl g_ErrLimit = some [errK 5] := hG.l
  have g9 : qzw Gl g_ErrCanon = some [errK 9] := hG.c
  unfold c_icon_path r_icon_path
  simp only [xzB]
  have main : ∀ (q : (fill && p.closed) = false) (Q : VV → VH → Prop) (T : VF) (h : VH), True := fun _ _ _ _ => trivial
  by_cases q : (fill && p.closed) = true
  · simp only [Bool.and_eq_true] at q
    obtain ⟨rfl, q2⟩ := q
    rw [show pathS p true m = some 9 by simp [pathS, q2]]
    simp only [qzk, qzo, qzC, qzH, qzv, qzn, qzi, qzR, xze, qzf, qze, qzd, qzp, qzF, qzX, qzN, qzK, qzc, qzj, qzE, qzb, qzg, qzh, qzO, qzD, qzl, qzm, qzt, qza, qzs, qzu, qzx, xzj, qzG, xzi, qzL, qzB, xzh, xzF, qzA, cv, qzI, qzJ, toA, ofA, FR.pop, abin, intBin, VN.at, VH.push, qzq, h0, VV.cells, ntV, qzQ, qzM, qzT, qzP, ↓reduceIte, Option.getD_some, List.getElem?_cons_zero, List.getElem?_cons_succ, List.length_cons, List.length_nil, List.drop_zero, List.take_succ_cons, List.take_zero, Nat.reduceAdd, Nat.reduceEqDiff, reduceCtorEq, Nat.reduceLeDiff, Nat.add_zero, Nat.zero_add, and_true, beq_self_eq_true, forall_const, false_implies, Bool.true_eq_false, reduceCtorEq, errK, cPath, t_p_errors_errorString, q2, g9]
    exact qzr rfl
  have qq : fill = false ∨ (fill = true ∧ p.closed = false) := by cases fill <;> simp_all
  by_cases c0 : p.segs.length = 0
  · have c0' : ((p.segs.length : Int) == 0) = true := by simp [c0]
    rw [show pathS p fill m = some 4 by unfold pathS; rw [if_neg q, if_pos c0]]
    rcases qq with rfl | ⟨rfl, q2⟩
    · simp only [qzk, qzo, qzC, qzH, qzv, qzn, qzi, qzR, xze, qzf, qze, qzd, xzl, qzp, qzF, qzX, qzN, qzK, qzc, qzj, qzE, qzb, qzg, qzh, qzO, qzD, qzl, qzm, qzt, qza, qzs, qzu, qzx, xzj, qzG, xzi, qzL, qzB, xzh, xzF, qzA, cv, qzI, qzJ, toA, ofA, FR.pop, abin, intBin, VN.at, VH.push, qzq, h0, VV.cells, ntV, qzQ, qzM, qzT, qzP, qzS, ↓reduceIte, Option.getD_some, List.getElem?_cons_zero, List.getElem?_cons_succ, List.length_cons, List.length_nil, List.drop_zero, List.take_succ_cons, List.take_zero, Nat.reduceAdd, Nat.reduceEqDiff, reduceCtorEq, Nat.reduceLeDiff, Nat.add_zero, Nat.zero_add, and_true, true_and, Bool.false_eq_true, beq_true, forall_const, false_implies, Bool.true_eq_false, reduceCtorEq, errK, cPath, t_p_errors_errorString, c0', g4]
      exact qzr rfl
    · simp only [qzk, qzo, qzC, qzH, qzv, qzn, qzi, qzR, xze, qzf, qze, qzd, qzp, qzF, qzX, qzN, qzK, qzc, qzj, qzE, qzb, qzg, qzh, qzO, qzD, qzl, qzm, qzt, qza, qzs, qzu, qzx, xzj, qzG, xzi, qzL, qzB, xzh, xzF, qzA, cv, qzI, qzJ, toA, ofA, FR.pop, abin, intBin, VN.at, VH.push, qzq, h0, VV.cells, ntV, qzQ, qzM, qzT, qzP, ↓reduceIte, Option.getD_some, List.getElem?_cons_zero, List.getElem?_cons_succ, List.length_cons, List.length_nil, List.drop_zero, List.take_succ_cons, List.take_zero, Nat.reduceAdd, Nat.reduceEqDiff, reduceCtorEq, Nat.reduceLeDiff, Nat.add_zero, Nat.zero_add, and_true, true_and, Bool.false_eq_true, beq_self_eq_true, forall_const, false_implies, Bool.true_eq_false, reduceCtorEq, errK, cPath, t_p_errors_errorString, c0', q2, g4]
      exact qzr rfl
  have c0' : ((p.segs.length : Int) == 0) = false := beq_false_of_ne (by omega)
  by_cases c4 : 400 < p.segs.length
  · have c4' : (p.segs.length : Int) > 400 := by omega
    rw [show pathS p fill m = some 5 by unfold pathS; rw [if_neg q, if_neg c0, if_pos c4]]
    rcases qq with rfl | ⟨rfl, q2⟩
    · simp only [qzk, qzo, qzC, qzH, qzv, qzn, qzi, qzR, xze, qzf, qze, qzd, xzl, qzp, qzF, qzX, qzN, qzK, qzc, qzj, qzE, qzb, qzg, qzh, qzO, qzD, qzl, qzm, qzt, qza, qzs, qzu, qzx, xzj, qzG, xzi, qzL, qzB, xzh, xzF, qzA, cv, qzI, qzJ, toA, ofA, FR.pop, abin, intBin, VN.at, VH.push, qzq, h0, VV.cells, ntV, qzQ, qzM, qzT, qzP, qzS, ↓reduceIte, Option.getD_some, List.getElem?_cons_zero, List.getElem?_cons_succ, List.length_cons, List.length_nil, List.drop_zero, List.take_succ_cons, List.take_zero, Nat.reduceAdd, Nat.reduceEqDiff, reduceCtorEq, Nat.reduceLeDiff, Nat.add_zero, Nat.zero_add, and_true, true_and, Bool.false_eq_true, beq_true, decide_true, forall_const, false_implies, Bool.true_eq_false, reduceCtorEq, errK, cPath, t_p_errors_errorString, c0', c4', g5]
      exact qzr rfl
    · simp only [qzk, qzo, qzC, qzH, qzv, qzn, qzi, qzR, xze, qzf, qze, qzd, qzp, qzF, qzX, qzN, qzK, qzc, qzj, qzE, qzb, qzg, qzh, qzO, qzD, qzl, qzm, qzt, qza, qzs, qzu, qzx, xzj, qzG, xzi, qzL, qzB, xzh, xzF, qzA, cv, qzI, qzJ, toA, ofA, FR.pop, abin, intBin, VN.at, VH.push, qzq, h0, VV.cells, ntV, qzQ, qzM, qzT, qzP, ↓reduceIte, Option.getD_some, List.getElem?_cons_zero, List.getElem?_cons_succ, List.length_cons, List.length_nil, List.drop_zero, List.take_succ_cons, List.take_zero, Nat.reduceAdd, Nat.reduceEqDiff, reduceCtorEq, Nat.reduceLeDiff, Nat.add_zero, Nat.zero_add, and_true, true_and, Bool.false_eq_true, beq_self_eq_true, decide_true, forall_const, false_implies, Bool.true_eq_false, reduceCtorEq, errK, cPath, t_p_errors_errorString, c0', c4', q2, g5]
      exact qzr rfl
  have c4' : ¬ (p.segs.length : Int) > 400 := by omega
  have hp : pathS p fill m = if farS p.start m = true then some 4 else firstS (segS · m) p.segs := by unfold pathS; rw [if_neg q, if_neg c0, if_neg c4]
  rcases qq with rfl | ⟨rfl, q2⟩
  · simp only [qzk, qzo, qzC, qzv, qzn, qzi, qzf, qze, qzd, xzl, qzp, qzF, qzX, qzN, qzc, qzj, qzE, qzb, qzg, qzh, qzO, qzD, qzl, qzm, qzt, qza, qzs, qzu, qzx, xzj, qzG, xzi, qzL, qzB, xzh, xzF, qzA, cv, qzI, qzJ, toA, ofA, FR.pop, abin, intBin, VN.at, VH.push, qzq, h0, VV.cells, ntV, qzS, ↓reduceIte, Option.getD_some, List.getElem?_cons_zero, List.getElem?_cons_succ, List.length_cons, List.length_nil, List.drop_zero, List.take_succ_cons, List.take_zero, Nat.reduceAdd, Nat.reduceEqDiff, reduceCtorEq, Nat.reduceLeDiff, Nat.add_zero, Nat.zero_add, true_and, Bool.false_eq_true, beq_true, decide_false, forall_const, false_implies, reduceCtorEq, cPath, c0', c4']
    refine qzZ (far_ok Gl _ _ m0 m1) rfl rfl ?_
    cases f : farS p.start m
    case true =>
      rw [f, if_pos rfl] at hp
      rw [hp]
      simp only [qzz, qzk, qzo, qzC, qzH, qzv, qzn, qzi, qzR, xzc, xze, qzf, qze, qzd, qzp, qzF, qzy, qzK, qzc, qzj, qzb, qzg, qzh, qzl, qzm, qzt, qza, qzs, qzu, qzx, qzG, xzi, qzL, qzB, qzA, cv, qzq, qzQ, qzM, qzT, qzP, ↓reduceIte, Option.getD_some, List.getElem?_cons_zero, List.getElem?_cons_succ, Nat.reduceEqDiff, Nat.zero_add, and_true, forall_const, false_implies, Bool.true_eq_false, errK, t_p_errors_errorString, g4]
      exact qzr rfl
    rw [f, if_neg (by simp)] at hp
    rw [hp]
    simp only [qzz, qzk, qzo, qzC, qzv, qzn, qzi, xzc, qzf, qze, qzd, qzp, qzF, qzy, qzc, qzj, qzb, qzg, qzh, qzl, qzm, qzt, qza, qzs, qzu, qzx, qzG, xzi, qzL, qzB, qzA, cv, qzq, ↓reduceIte, Option.getD_some, List.getElem?_cons_zero, List.getElem?_cons_succ, Nat.reduceEqDiff, Nat.zero_add, true_and, Bool.false_eq_true, forall_const, false_implies]
    refine seg_loop hG p.segs hl m m0 m1 _ ?_ ?_ p.segs.length 0 _ _ (by omega) rfl ?_ ?_ ?_ ?_
    · intro T h e he t6
      rw [he]
      simp only [qzR, xze, qzK, qzQ, qzM, qzT, qzP, errK, t_p_errors_errorString, t6]
      exact qzr rfl
    · intro T h he
      rw [he]
      simp only [qzk, qzo, qzH, qzi, xzu, qzf, qze, qzd, qzp, qzK, qzc, qzb, qzg, qzh, qzl, qzm, qzt, qza, qzs, qzu, qzx, cv, qzQ, qzM, qzT, qzP, ↓reduceIte]
      exact qzr rfl
    all_goals simp only [qza, ↓reduceIte, Nat.reduceEqDiff, reduceCtorEq, reduceCtorEq]
    all_goals rfl
  · simp only [qzk, qzo, qzC, qzv, qzn, qzi, qzf, qze, qzd, qzp, qzF, qzX, qzN, qzc, qzj, qzE, qzb, qzg, qzh, qzO, qzD, qzl, qzm, qzt, qza, qzs, qzu, qzx, xzj, qzG, xzi, qzL, qzB, xzh, xzF, qzA, cv, qzI, qzJ, toA, ofA, FR.pop, abin, intBin, VN.at, VH.push, qzq, h0, VV.cells, ntV, ↓reduceIte, Option.getD_some, List.getElem?_cons_zero, List.getElem?_cons_succ, List.length_cons, List.length_nil, List.drop_zero, List.take_succ_cons, List.take_zero, Nat.reduceAdd, Nat.reduceEqDiff, reduceCtorEq, Nat.reduceLeDiff, Nat.add_zero, Nat.zero_add, true_and, Bool.false_eq_true, beq_self_eq_true, decide_false, forall_const, false_implies, reduceCtorEq, cPath, q2, c0', c4']
    refine qzZ (far_ok Gl _ _ m0 m1) rfl rfl ?_
    cases f : farS p.start m
    case true =>
      rw [f, if_pos rfl] at hp
      rw [hp]
      simp only [qzz, qzk, qzo, qzC, qzH, qzv, qzn, qzi, qzR, xzc, xze, qzf, qze, qzd, qzp, qzF, qzy, qzK, qzc, qzj, qzb, qzg, qzh, qzl, qzm, qzt, qza, qzs, qzu, qzx, qzG, xzi, qzL, qzB, qzA, cv, qzq, qzQ, qzM, qzT, qzP, ↓reduceIte, Option.getD_some, List.getElem?_cons_zero, List.getElem?_cons_succ, Nat.reduceEqDiff, Nat.zero_add, and_true, forall_const, false_implies, Bool.true_eq_false, errK, t_p_errors_errorString, g4]
      exact qzr rfl
    rw [f, if_neg (by simp)] at hp
    rw [hp]
    simp only [qzz, qzk, qzo, qzC, qzv, qzn, qzi, xzc, qzf, qze, qzd, qzp, qzF, qzy, qzc, qzj, qzb, qzg, qzh, qzl, qzm, qzt, qza, qzs, qzu, qzx, qzG, xzi, qzL, qzB, qzA, cv, qzq, ↓reduceIte, Option.getD_some, List.getElem?_cons_zero, List.getElem?_cons_succ, Nat.reduceEqDiff, Nat.zero_add, true_and, Bool.false_eq_true, forall_const, false_implies]
    refine seg_loop hG p.segs hl m m0 m1 _ ?_ ?_ p.segs.length 0 _ _ (by omega) rfl ?_ ?_ ?_ ?_
    · intro T h e he t6
      rw [he]
      simp only [qzR, xze, qzK, qzQ, qzM, qzT, qzP, errK, t_p_errors_errorString, t6]
      exact qzr rfl
    · intro T h he
      rw [he]
      simp only [qzk, qzo, qzH, qzi, xzu, qzf, qze, qzd, qzp, qzK, qzc, qzb, qzg, qzh, qzl, qzm, qzt, qza, qzs, qzu, qzx, cv, qzQ, qzM, qzT, qzP, ↓reduceIte]
      exact qzr rfl
    all_goals simp only [qza, ↓reduceIte, Nat.reduceEqDiff, reduceCtorEq, reduceCtorEq]
    all_goals rfl
theorem path_loop {Gl : xzt} (hG : IcG Gl) (k : Int) (l : List Path) (hl : l.length < 1000000) (hp : ∀ p ∈ l, p.segs.length < 1000000) (m : Int) (m0 : 0 ≤ m) (m1 : m ≤ 2 ^ 62) (b : Nat) (cr : List VV) (K : AEx → VF → VH → Prop)
    (hE : ∀ T h e, firstS (fun p => pathS p (decide (k = 1)) m) l = some e → qzw T 6 = some (errK e) → K .ret T h)
    (hK : ∀ T h, firstS (fun p => pathS p (decide (k = 1)) m) l = none → K (.exit 1) T h) :
    ∀ (d i : Nat) (T : VF) (h : VH), d + i = l.length → firstS (fun p => pathS p (decide (k = 1)) m) l = firstS (fun p => pathS p (decide (k = 1)) m) (l.drop i) → qzw T 2 = some (.int .i64 m) → qzw T 3 = some (.ptr b 0) → qzw T 39 = some (.fsl (xzk cPath l) l.length 4) → qzw T 40 = some (.int .i64 l.length) → qzw T 41 = some (.int .i64 i) →
      qzw h.l b = some (some (.cells (.int .i64 k :: cr) false)) → b < h.next →
    wp Go.VL.Er.E Gl (.loop c_icon_cmd_l0) T h K := by
  intro d
  induction d with
  | zero =>
    intro i T h hd hs t2 t3 t39 t40 t41 hb hn
    obtain rfl : i = l.length := by omega
    rw [List.drop_length] at hs
    refine xzn c_icon_cmd_l0.eq_1 ?_
    have c : ¬ ((l.length : Int) < l.length) := by omega
    simp only [qzz, qzk, qzo, qzC, qzV, qzv, qzn, qzi, xzd, qzU, qzf, qze, qzd, qzp, qzc, qzb, qzg, qzh, qzl, qzm, qzt, qza, qzs, qzu, qzI, qzJ, toA, ofA, FR.pop, abin, intBin, ↓reduceIte, Nat.reduceEqDiff, true_and, Bool.false_eq_true, decide_false, forall_const, false_implies, t_p_api_At, t_p_errors_errorString, t40, t41, c]
    exact hK _ _ hs
  | succ d ih =>
    intro i T h hd hs t2 t3 t39 t40 t41 hb hn
    refine xzn c_icon_cmd_l0.eq_1 ?_
    have hlt : i < l.length := by omega
    have c : (i : Int) < l.length := by omega
    obtain ⟨e, he⟩ : ∃ e, l[i]? = some e := ⟨l[i], List.getElem?_eq_getElem hlt⟩
    have hpe := hp e (List.mem_of_getElem? he)
    have p1 := flat_le cPath_len he
    have p2 := flat_at cPath_len he
    have hw : IntKind.i64.wrap ((i : Int) + 1) = ((i + 1 : Nat) : Int) := by rw [qzY (by omega) (by omega)]; rfl
    have hne : ¬ h.next = b := by omega
    have kd : (k == 1) = decide (k = 1) := rfl
    rw [firstS_drop he] at hs
    simp only [qzz, qzk, qzo, qzC, qzV, qzv, qzn, qzi, xzd, qzU, qzf, qze, qzd, qzp, qzF, qzX, qzN, qzy, qzc, qzj, qzE, qzb, xza, qzg, qzh, qzO, xzb, qzD, qzl, qzm, qzt, qza, qzs, qzu, qzx, qzG, xzo, qzL, qzB, xzh, qzW, xzg, xzq, qzA, cvs, cv, qzI, qzJ, toA, ofA, FR.pop, abin, intBin, VN.at, VH.push, VH.set, qzq, VV.cells, ntV, qzS, xzz, xzs, ↓reduceIte, Option.getD_some, List.getElem?_cons_zero, List.length_cons, List.length_nil, List.drop_succ_cons, List.drop_zero, List.take_succ_cons, List.take_zero, List.append_nil, List.nil_append, List.head?_cons, Nat.reduceAdd, Nat.reduceEqDiff, Nat.reduceLeDiff, Nat.add_zero, Nat.zero_add, and_self, and_true, decide_true, forall_const, false_implies, Bool.true_eq_false, cPath, t_p_api_At, t_p_errors_errorString, t2, t3, t39, t40, t41, c, hlt, p1, p2, hne, hb]
    refine qzZ (path_ok hG e (decide (k = 1)) m hpe m0 m1) rfl (by cases pathS e (decide (k = 1)) m <;> rfl) ?_
    cases q : pathS e (decide (k = 1)) m with
    | some n =>
      rw [q] at hs
      simp only [errV]
      simp only [qzz, qzk, qzo, qzH, qzv, qzn, qzi, qzR, xzc, xze, xzA, qzf, qze, qzd, qzp, qzF, qzy, qzc, qzj, qzb, qzg, qzh, qzl, qzm, qzt, qza, qzs, qzu, qzx, qzL, xzI, xzJ, eqIV, cv, ↓reduceIte, Nat.reduceEqDiff, and_true, Bool.not_false, forall_const, false_implies, Bool.true_eq_false, errK, t_p_errors_errorString]
      exact hE _ _ n hs (by simp only [qza, ↓reduceIte, errK, t_p_errors_errorString])
    | none =>
      rw [q] at hs
      simp only [errV]
      simp only [qzz, qzk, qzo, qzH, qzv, qzn, qzi, qzR, xzc, xze, xzm, xzA, qzf, qze, qzd, qzp, qzF, qzy, qzc, qzj, qzb, qzg, qzh, qzl, qzm, qzt, qza, qzs, qzu, qzx, qzL, xzI, xzJ, eqIV, cv, qzI, qzJ, toA, ofA, FR.pop, abin, intBin, ↓reduceIte, Nat.reduceEqDiff, true_and, Bool.not_true, Bool.false_eq_true, forall_const, false_implies, t41, hw]
      refine ih (i + 1) _ _ (by omega) hs ?_ ?_ ?_ ?_ ?_ ?_ ?_
      · simp only [qza, ↓reduceIte, Nat.reduceEqDiff, t2]
      · simp only [qza, ↓reduceIte, Nat.reduceEqDiff, t3]
      · simp only [qza, ↓reduceIte, Nat.reduceEqDiff, t39]
      · simp only [qza, ↓reduceIte, Nat.reduceEqDiff, t40]
      · simp only [qza, ↓reduceIte]
      · simp only [qza, ↓reduceIte, hne]; exact hb
      · simp only []; omega
theorem cmd_ok {Gl : xzt} (hG : IcG Gl) (c : Cmd) (n m : Int) (hl : c.paths.length < 1000000) (hp : ∀ p ∈ c.paths, p.segs.length < 1000000) (n0 : 0 ≤ n) (n1 : n < 2 ^ 62) (m0 : 0 ≤ m) (m1 : m ≤ 2 ^ 62) : xzH Go.VL.Er.E Gl f_icon_cmd [.agg (cCmd c), .int .i64 n, .int .i64 m] (errV (cmdS c n m)) := by
  refine xzw (xzf E_icon_cmd ?_)
  have g4 : qzw Gl g_ErrRange = some [errK 4] := hG.r
  have g5 : qzw Gl g_ErrLimit = some [errK 5] := hG.l
  unfold c_icon_cmd r_icon_cmd
  simp only [xzB]
  have hc : cmdS c n m = match headS c m with
    | some e => some e
    | none => match paintS c.paint n m with
      | some e => some e
      | none => if c.paths.length = 0 then some 4 else if 200 < c.paths.length then some 5 else firstS (fun p => pathS p (decide (c.kind = 1)) m) c.paths := rfl
  simp only [qzk, qzo, qzi, qzf, qze, qzd, qzp, qzF, qzX, qzN, qzc, qzj, qzE, qzb, qzg, qzh, qzO, qzD, qzl, qzm, qzt, qza, qzs, qzu, qzx, qzL, qzB, xzh, xzF, qzA, cv, VN.at, VH.push, qzq, h0, VV.cells, ntV, ↓reduceIte, Option.getD_some, List.length_cons, List.length_nil, List.drop_zero, List.take_succ_cons, List.take_zero, Nat.reduceAdd, Nat.reduceEqDiff, reduceCtorEq, Nat.reduceLeDiff, Nat.zero_add, reduceCtorEq, cCmd, t_p_api_At, t_p_errors_errorString]
  refine qzZ (head_ok hG c m) rfl (by cases headS c m <;> rfl) ?_
  cases q : headS c m with
  | some e =>
    rw [q] at hc
    rw [hc]
    simp only [errV]
    simp only [qzz, qzk, qzo, qzH, qzv, qzn, qzi, qzR, qzf, qze, qzd, qzp, qzF, qzN, qzy, qzK, qzc, qzj, qzb, qzg, qzh, qzD, qzl, qzm, qzt, qza, qzs, qzu, qzx, qzG, qzL, qzB, xzI, xzJ, eqIV, qzA, cv, qzq, qzQ, qzM, qzT, qzP, ↓reduceIte, Option.getD_some, List.length_cons, List.length_nil, List.drop_succ_cons, List.drop_zero, List.take_succ_cons, List.take_zero, Nat.reduceAdd, Nat.reduceEqDiff, reduceCtorEq, Nat.reduceLeDiff, Nat.zero_add, and_true, Bool.not_false, forall_const, false_implies, Bool.true_eq_false, reduceCtorEq, errK, t_p_errors_errorString]
    exact qzr rfl
  | none =>
  rw [q] at hc
  simp only [errV] at hc ⊢
  simp only [qzz, qzk, qzo, qzH, qzv, qzn, qzi, qzR, qzf, qze, qzd, qzp, qzF, qzN, qzy, qzK, qzc, qzj, qzb, qzg, qzh, qzD, qzl, qzm, qzt, qza, qzs, qzu, qzx, qzG, qzL, qzB, xzI, xzJ, eqIV, qzA, cv, qzq, qzQ, qzM, qzT, qzP, ↓reduceIte, Option.getD_some, List.length_cons, List.length_nil, List.drop_succ_cons, List.drop_zero, List.take_succ_cons, List.take_zero, Nat.reduceAdd, Nat.reduceEqDiff, reduceCtorEq, Nat.reduceLeDiff, Nat.zero_add, true_and, Bool.not_true, Bool.false_eq_true, forall_const, false_implies, reduceCtorEq, errK, t_p_errors_errorString]
  refine qzZ (paint_ok hG c.paint n m n0 n1 m0 m1) rfl (by cases paintS c.paint n m <;> rfl) ?_
  cases q2 : paintS c.paint n m with
  | some e =>
    rw [q2] at hc
    rw [hc]
    simp only [errV]
    simp only [qzz, qzk, qzo, qzC, qzH, qzv, qzn, qzi, qzR, xzc, qzf, qze, qzd, qzp, qzF, qzy, qzK, qzc, qzj, qzb, qzg, qzh, qzl, qzm, qzt, qza, qzs, qzu, qzx, qzG, xzi, qzL, qzB, xzI, xzJ, eqIV, qzA, cv, qzI, qzJ, toA, ofA, FR.pop, abin, intBin, qzq, qzQ, qzM, qzT, qzP, ↓reduceIte, Option.getD_some, List.getElem?_cons_zero, List.getElem?_cons_succ, Nat.reduceEqDiff, Nat.zero_add, and_true, Bool.not_false, forall_const, false_implies, Bool.true_eq_false, errK, t_p_errors_errorString]
    exact qzr rfl
  | none =>
  rw [q2] at hc
  simp only [errV] at hc ⊢
  by_cases c0 : c.paths.length = 0
  · have c0' : ((c.paths.length : Int) == 0) = true := by simp [c0]
    rw [if_pos c0] at hc
    rw [hc]
    simp only [qzz, qzk, qzo, qzC, qzH, qzv, qzn, qzi, qzR, xzc, xze, qzf, qze, qzd, qzp, qzF, qzy, qzK, qzc, qzj, qzb, qzg, qzh, qzl, qzm, qzt, qza, qzs, qzu, qzx, qzG, xzi, qzL, qzB, xzI, xzJ, eqIV, qzA, cv, qzI, qzJ, toA, ofA, FR.pop, abin, intBin, qzq, qzQ, qzM, qzT, qzP, ↓reduceIte, Option.getD_some, List.getElem?_cons_zero, List.getElem?_cons_succ, Nat.reduceEqDiff, Nat.zero_add, and_true, true_and, Bool.not_true, Bool.false_eq_true, forall_const, false_implies, Bool.true_eq_false, errK, t_p_errors_errorString, c0', g4]
    exact qzr rfl
  have c0' : ((c.paths.length : Int) == 0) = false := beq_false_of_ne (by omega)
  by_cases c4 : 200 < c.paths.length
  · have c4' : (c.paths.length : Int) > 200 := by omega
    rw [if_neg c0, if_pos c4] at hc
    rw [hc]
    simp only [qzz, qzk, qzo, qzC, qzH, qzv, qzn, qzi, qzR, xzc, xze, qzf, qze, qzd, qzp, qzF, qzy, qzK, qzc, qzj, qzb, qzg, qzh, qzl, qzm, qzt, qza, qzs, qzu, qzx, qzG, xzi, qzL, qzB, xzI, xzJ, eqIV, qzA, cv, qzI, qzJ, toA, ofA, FR.pop, abin, intBin, qzq, qzQ, qzM, qzT, qzP, ↓reduceIte, Option.getD_some, List.getElem?_cons_zero, List.getElem?_cons_succ, Nat.reduceEqDiff, Nat.zero_add, and_true, true_and, Bool.not_true, Bool.false_eq_true, decide_true, forall_const, false_implies, Bool.true_eq_false, errK, t_p_errors_errorString, c0', c4', g5]
    exact qzr rfl
  have c4' : ¬ (c.paths.length : Int) > 200 := by omega
  rw [if_neg c0, if_neg c4] at hc
  rw [hc]
  simp only [qzz, qzk, qzo, qzC, qzH, qzv, qzn, qzi, qzR, xzc, qzf, qze, qzd, qzp, qzF, qzy, qzK, qzc, qzj, qzb, qzg, qzh, qzl, qzm, qzt, qza, qzs, qzu, qzx, qzG, xzi, qzL, qzB, xzI, xzJ, eqIV, qzA, cv, qzI, qzJ, toA, ofA, FR.pop, abin, intBin, qzq, qzQ, qzM, qzT, qzP, ↓reduceIte, Option.getD_some, List.getElem?_cons_zero, List.getElem?_cons_succ, Nat.reduceEqDiff, Nat.zero_add, true_and, Bool.not_true, Bool.false_eq_true, decide_false, forall_const, false_implies, c0', c4']
  refine path_loop hG c.kind c.paths hl hp m m0 m1 0 [.int .i64 c.rule, .int .i64 c.width, .int .i64 c.paint.kind, .int .i64 c.paint.a, .int .i64 c.paint.b, .int .i64 c.paint.p.x, .int .i64 c.paint.p.y, .int .i64 c.paint.q.x, .int .i64 c.paint.q.y, .fsl (xzk cPath c.paths) c.paths.length 4] _ ?_ ?_ c.paths.length 0 _ _ (by omega) rfl ?_ ?_ ?_ ?_ ?_ ?_ ?_
  · intro T h e he t6
    rw [he]
    simp only [qzR, xze, qzK, qzQ, qzM, qzT, qzP, errK, t_p_errors_errorString, t6]
    exact qzr rfl
  · intro T h he
    rw [he]
    simp only [qzk, qzo, qzH, qzi, xzu, qzf, qze, qzd, qzp, qzK, qzc, qzb, qzg, qzh, qzl, qzm, qzt, qza, qzs, qzu, qzx, cv, qzQ, qzM, qzT, qzP, ↓reduceIte]
    exact qzr rfl
  all_goals first | (simp only [qza, ↓reduceIte, Nat.reduceLT, Nat.reduceEqDiff, reduceCtorEq, reduceCtorEq]; done) | (simp only [qza, ↓reduceIte]; rfl) | (simp only [qzz, qzk, xzM, qzo, qzC, qzV, qzH, qzv, wpIf_true, wpIf_false, qzn, qzi, xzd, qzR, xzc, xzu, xze, xzm, qzU, xzA, qzf, qze, qzd, xzl, qzp, qzF, qzX, qzN, qzy, xzO, xzr, xzp, wpXG_false, xzD, xzT, wpXA_n, xzN, xzQ, Ends_n, qzK, qzc, qzj, qzE, qzb, xza, qzg, qzh, qzO, xzx, xzy, kXN_app, xzb, wpW_copy, wpW_mapUpd, wpW_mark, qzD, wpW_callV, qzl, qzm, qzt, qza, qzs, qzu, qzx, xzj, qzG, xzo, iAddrAV, fieldV, idxArrV, extV, mkIV, tAssV, xzi, lenArrV, nilChkV, slV, slArrV, bndV, qzL, qzB, xzI, xzJ, xzW, eqPV, eqSV, eqIV, eqFV, eqMV, eqGV, inGl, xzR, eqBool, eqInt, eqStr, xzh, xzF, xzE, xzv, qzW, xzg, xzq, srcV, lenOfV, winV, copyV, b2sV, s2bV, mkSliceV, qzA, cvs, cv, qzI, qzJ, toA, ofA, FR.pop, abin, aun, intBin, shiftBin, strBin, bnds, natOf, max2A, min2A, foldA, VN.at, VH.push, VH.set, VH.kill, VH.fix, VB.fix, qzq, h0, VV.cells, ntV, qzQ, qzM, qzT, qzP, closedB, closedL, plainB, plainL, qzS, countN, xzK, lowB, fzB, fzL, xzS, xzV, xzL, xzU, xzX, xzY, xzz, nilCmp, xzs, capOK, capMost, capDrop, ↓reduceIte, Option.getD_some, Option.getD_none, Option.isSome_some, Option.map_some, Option.map_none, List.getElem?_cons_zero, List.getElem?_cons_succ, List.length_cons, List.length_nil, List.drop_succ_cons, List.drop_zero, List.take_succ_cons, List.take_zero, List.append_nil, List.nil_append, List.cons_append, List.contains_cons, List.contains_nil, List.head?_cons, Nat.reduceAdd, Nat.reduceMul, Nat.reduceSub, Nat.reduceDiv, Nat.reduceLT, Nat.reduceEqDiff, reduceCtorEq, Nat.reduceLeDiff, Nat.reduceBEq, Int.reduceEq, Int.reduceLT, Int.reduceLE, Int.reduceBEq, Int.reduceGT, Nat.add_zero, Nat.zero_add, and_self, and_true, true_and, and_false, false_and, not_true_eq_false, not_false_eq_true, Bool.and_self, Bool.and_true, Bool.true_and, Bool.and_false, Bool.or_false, Bool.true_or, Bool.or_true, Bool.false_or, Bool.not_false, Bool.not_true, Bool.false_eq_true, beq_self_eq_true, bne_self_eq_false, beq_true, beq_false, decide_true, decide_false, true_or, if_true, if_false, forall_const, false_implies, true_implies, Bool.true_eq_false, reduceCtorEq, true_or, cCl, erP, errK, cSeg, cPath, cPaint, cCmd, cIcon, t_p_api_At, t_p_errors_errorString]; exact Nat.zero_lt_succ _)
end
end Go.VL.Ic
