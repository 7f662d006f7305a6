/- Chapter 5: segments, paths, commands. (By wip/gen_icb.py.) -/
import Derived.Test.YtbamfhdgikeneaaDoorIcA
namespace Go.VL.Ic
open Go.FR Go.IR Go.VL Go.VL.Er Go.VL.Color Go.VL.Wind
noncomputable section
set_option linter.unusedSimpArgs false
set_option linter.unusedVariables false
set_option maxRecDepth 100000
set_option maxHeartbeats 1000000
theorem seg_ok {Gl : xzy} (hG : IcG Gl) (s : Seg) (m : Int) (m0 : 0 ≤ m) (m1 : m ≤ 2 ^ 62) : xzJ Go.VL.Er.E Gl f_icon_seg [.agg (cSeg s), .int .i64 m] (errV (segS s m)) := by
  refine xzv (xzk E_icon_seg ?_)
  have g4 : qzr Gl g_ErrRange = some [errK 4] := hG.r
  have g9 : qzr Gl g_ErrCanon = some [errK 9] := hG.c
  have w1 : IntKind.i64.wrap (0 + 1) = 1 := by decide
  have w2 : IntKind.i64.wrap (1 + 1) = 2 := by decide
  have w3 : IntKind.i64.wrap (2 + 1) = 3 := by decide
  have z0 : natV (VV.int .i64 0) = some 0 := rfl
  have z1 : natV (VV.int .i64 1) = some 1 := rfl
  have z2 : natV (VV.int .i64 2) = some 2 := rfl
  have z3 : natV (VV.int .i64 3) = some 3 := rfl
  have n0 : ((0 : Nat) : Int) = 0 := rfl
  have n1 : ((1 : Nat) : Int) = 1 := rfl
  have n2 : ((2 : Nat) : Int) = 2 := rfl
  have n3 : ((3 : Nat) : Int) = 3 := rfl
  unfold c_icon_seg r_icon_seg
  simp only [xzG]
  obtain ⟨kind, p0, p1, p2⟩ := s
  simp only [qzm, qzp, qzi, qzf, qze, qzd, qzq, qzG, xzd, qzK, qzc, qzk, qzC, qzb, qzg, qzh, qzT, qzB, qzn, qzo, qzu, qza, qzt, qzw, qzy, qzL, qzM, qzF, xzi, xzU, qzE, cv, VN.at, VH.push, qzl, h0, VV.cells, ntV, ↓reduceIte, Option.getD_some, List.getElem?_cons_zero, Nat.reduceEqDiff, Nat.add_zero, Nat.zero_add, cSeg]
  refine xzb (in_ok Gl _ _ _) rfl rfl ?_
  cases r1 : inS kind 1 3
  · rw [show segS ⟨kind, p0, p1, p2⟩ m = some 4 by simp [segS, r1]]
    simp only [qzx, qzm, qzp, qzD, qzs, qzj, qzi, qzR, qzf, qze, qzd, qzq, qzG, qzz, qzH, qzc, qzk, qzb, qzg, qzh, qzn, qzo, qzu, qza, qzt, qzw, qzy, qzL, xzR, yzc, qzM, qzF, qzE, cv, qzI, qzJ, toA, ofA, FR.pop, aun, qzl, qzW, qzN, qzX, qzV, ↓reduceIte, Option.getD_some, List.getElem?_cons_zero, Nat.reduceEqDiff, Nat.add_zero, Nat.zero_add, and_true, Bool.not_false, forall_const, false_implies, Bool.true_eq_false, errK, t_p_errors_errorString, g4]
    exact qzv rfl
  have k123 : kind = 1 ∨ kind = 2 ∨ kind = 3 := by unfold inS at r1; simp at r1; omega
  rcases k123 with rfl | rfl | rfl
  · simp only [qzx, qzm, qzp, qzA, qzs, qzj, qzi, qzf, qze, qzd, qzq, qzG, qzz, qzc, qzk, qzb, qzg, qzh, qzn, qzo, qzu, qza, qzt, qzw, qzy, qzL, xzn, xzR, yzc, qzM, qzF, qzE, cv, qzI, qzJ, toA, ofA, FR.pop, aun, qzl, ↓reduceIte, Option.getD_some, List.getElem?_cons_zero, Nat.reduceMul, Nat.reduceSub, Nat.reduceEqDiff, Nat.reduceLeDiff, Nat.add_zero, Nat.zero_add, true_and, Bool.not_true, Bool.false_eq_true, forall_const, false_implies, n1, z1]
    refine xzo c_icon_seg_l1.eq_1 ?_
    simp only [qzx, qzm, qzp, qzA, qzZ, qzs, qzj, qzi, xze, xzp, qzY, qzf, qze, qzd, qzq, qzG, xzd, qzK, qzz, qzc, qzk, qzC, qzb, qzQ, qzg, qzh, qzT, qzP, qzB, qzn, qzo, qzu, qza, qzt, qzw, qzy, qzL, xzm, xzn, xzR, yzc, qzM, qzF, xzi, qzS, qzU, xzg, qzE, cvs, cv, qzI, qzJ, toA, ofA, FR.pop, abin, intBin, VN.at, VH.push, VH.set, qzl, VV.cells, ntV, qzO, xzs, ↓reduceIte, Option.getD_some, List.getElem?_cons_zero, List.length_cons, List.length_nil, List.drop_succ_cons, List.drop_zero, List.take_succ_cons, List.take_zero, List.append_nil, List.nil_append, List.head?_cons, Nat.reduceAdd, Nat.reduceMul, Nat.reduceSub, Nat.reduceLT, Nat.reduceEqDiff, reduceCtorEq, Nat.reduceLeDiff, Int.reduceLT, Nat.add_zero, Nat.zero_add, and_self, and_true, decide_true, forall_const, false_implies, Bool.true_eq_false, reduceCtorEq, n2, z0, z1]
    refine xzb (far_ok Gl p0 _ m0 m1) rfl rfl ?_
    cases f0 : farS p0 m
    case true =>
      rw [show segS ⟨1, p0, p1, p2⟩ m = some 4 by simp [segS, segPts, r1, f0]]
      simp only [qzx, qzm, qzp, qzD, qzs, qzj, qzi, qzR, xza, xzc, xzh, xzw, qzf, qze, qzd, qzq, qzG, qzz, qzH, qzc, qzk, qzb, qzg, qzh, qzn, qzo, qzu, qza, qzt, qzw, qzy, qzM, qzF, qzE, cv, qzI, qzJ, toA, ofA, FR.pop, abin, intBin, qzW, qzN, qzX, qzV, ↓reduceIte, List.getElem?_cons_zero, Nat.reduceEqDiff, and_true, forall_const, false_implies, Bool.true_eq_false, errK, t_p_errors_errorString, g4]
      exact qzv rfl
    simp only [qzx, qzm, qzp, qzs, qzj, qzi, xza, xzh, qzf, qze, qzd, qzq, qzG, qzz, qzc, qzb, qzg, qzh, qzn, qzo, qzu, qza, qzt, qzw, qzy, qzM, qzF, qzE, cv, qzI, qzJ, toA, ofA, FR.pop, abin, intBin, ↓reduceIte, Nat.reduceEqDiff, true_and, Bool.false_eq_true, forall_const, false_implies, w1]
    refine xzo c_icon_seg_l1.eq_1 ?_
    simp only [qzx, qzm, qzp, qzA, qzZ, qzs, qzj, qzi, xze, xzp, qzY, qzf, qze, qzd, qzq, qzG, qzc, qzk, qzb, qzg, qzh, qzn, qzo, qzu, qza, qzt, qzw, qzy, qzL, xzm, xzn, xzR, yzc, qzM, qzF, qzE, cv, qzI, qzJ, toA, ofA, FR.pop, abin, intBin, qzl, ↓reduceIte, Option.getD_some, List.getElem?_cons_zero, Nat.reduceAdd, Nat.reduceMul, Nat.reduceSub, Nat.reduceLT, Nat.reduceEqDiff, reduceCtorEq, Nat.reduceLeDiff, Int.reduceLT, Nat.add_zero, Nat.zero_add, true_and, Bool.false_eq_true, decide_false, forall_const, false_implies, reduceCtorEq, n2, z1]
    refine xzo c_icon_seg_l0.eq_1 ?_
    by_cases y1 : zeroP p1
    case neg =>
      rw [show segS ⟨1, p0, p1, p2⟩ m = some 9 by simp [segS, segPts, r1, f0, y1]]
      rcases zero_n y1 with a | ⟨a, b⟩
      · simp only [qzx, qzm, qzp, qzA, qzZ, qzD, qzs, qzj, qzi, xze, qzR, xza, xzp, xzc, xzh, qzY, xzw, qzf, qze, qzd, qzq, qzG, xzd, qzK, qzz, qzH, qzc, qzk, qzC, qzb, qzQ, qzg, qzh, qzT, qzP, qzn, qzo, qzu, qza, qzt, qzw, qzy, xzm, qzM, qzF, xzC, xzB, xzV, xzF, eqInt, xzi, xzt, xzr, qzS, qzU, xzg, qzE, cvs, cv, qzI, qzJ, toA, ofA, FR.pop, abin, intBin, VN.at, VH.push, VH.set, qzl, VV.cells, ntV, qzW, qzN, qzX, qzV, qzO, xzs, ↓reduceIte, Option.getD_some, List.getElem?_cons_zero, List.length_cons, List.length_nil, List.drop_succ_cons, List.drop_zero, List.take_succ_cons, List.take_zero, List.append_nil, List.nil_append, List.head?_cons, Nat.reduceAdd, Nat.reduceMul, Nat.reduceLT, Nat.reduceEqDiff, reduceCtorEq, Nat.reduceLeDiff, Int.reduceLT, Nat.add_zero, Nat.zero_add, and_self, and_true, Bool.not_false, decide_true, forall_const, false_implies, Bool.true_eq_false, reduceCtorEq, errK, t_p_errors_errorString, z0, a, g9]
        exact qzv rfl
      · simp only [qzx, qzm, qzp, qzA, qzZ, qzD, qzs, qzj, qzi, xze, qzR, xza, xzp, xzc, xzh, qzY, xzw, qzf, qze, qzd, qzq, qzG, xzd, qzK, qzz, qzH, qzc, qzk, qzC, qzb, qzQ, qzg, qzh, qzT, qzP, qzn, qzo, qzu, qza, qzt, qzw, qzy, xzm, qzM, qzF, xzC, xzB, xzV, xzF, eqInt, xzi, xzt, xzr, qzS, qzU, xzg, qzE, cvs, cv, qzI, qzJ, toA, ofA, FR.pop, abin, intBin, VN.at, VH.push, VH.set, qzl, VV.cells, ntV, qzW, qzN, qzX, qzV, qzO, xzs, ↓reduceIte, Option.getD_some, List.getElem?_cons_zero, List.getElem?_cons_succ, List.length_cons, List.length_nil, List.drop_succ_cons, List.drop_zero, List.take_succ_cons, List.take_zero, List.append_nil, List.nil_append, List.head?_cons, Nat.reduceAdd, Nat.reduceMul, Nat.reduceLT, Nat.reduceEqDiff, reduceCtorEq, Nat.reduceLeDiff, Int.reduceLT, Nat.add_zero, Nat.zero_add, and_self, and_true, Bool.not_false, decide_true, forall_const, false_implies, Bool.true_eq_false, reduceCtorEq, errK, t_p_errors_errorString, z0, a, b, g9]
        exact qzv rfl
    obtain ⟨a1, b1⟩ := zero_y y1
    simp only [qzx, qzm, qzp, qzA, qzZ, qzD, qzs, qzj, qzi, xze, xza, xzp, xzh, qzY, qzf, qze, qzd, qzq, qzG, xzd, qzK, qzz, qzH, qzc, qzk, qzC, qzb, qzQ, qzg, qzh, qzT, qzP, qzn, qzo, qzu, qza, qzt, qzw, qzy, xzm, qzM, qzF, xzC, xzB, xzV, xzF, eqInt, xzi, xzt, xzr, qzS, qzU, xzg, qzE, cvs, cv, qzI, qzJ, toA, ofA, FR.pop, abin, intBin, VN.at, VH.push, VH.set, qzl, VV.cells, ntV, qzW, qzN, qzX, qzV, qzO, xzs, ↓reduceIte, Option.getD_some, List.getElem?_cons_zero, List.getElem?_cons_succ, List.length_cons, List.length_nil, List.drop_succ_cons, List.drop_zero, List.take_succ_cons, List.take_zero, List.append_nil, List.nil_append, List.head?_cons, Nat.reduceAdd, Nat.reduceMul, Nat.reduceLT, Nat.reduceEqDiff, reduceCtorEq, Nat.reduceLeDiff, Int.reduceLT, Nat.add_zero, Nat.zero_add, and_self, and_true, true_and, Bool.not_true, Bool.false_eq_true, decide_true, forall_const, false_implies, Bool.true_eq_false, reduceCtorEq, z0, a1, b1, w1]
    refine xzo c_icon_seg_l0.eq_1 ?_
    by_cases y2 : zeroP p2
    case neg =>
      rw [show segS ⟨1, p0, p1, p2⟩ m = some 9 by simp [segS, segPts, r1, f0, y1, y2]]
      rcases zero_n y2 with a | ⟨a, b⟩
      · simp only [qzx, qzm, qzp, qzA, qzZ, qzD, qzs, qzj, qzi, xze, qzR, xza, xzp, xzc, xzh, qzY, xzw, qzf, qze, qzd, qzq, qzG, xzd, qzK, qzz, qzH, qzc, qzk, qzC, qzb, qzQ, qzg, qzh, qzT, qzP, qzn, qzo, qzu, qza, qzt, qzw, qzy, xzm, qzM, qzF, xzC, xzB, xzV, xzF, eqInt, xzi, xzt, xzr, qzS, qzU, xzg, qzE, cvs, cv, qzI, qzJ, toA, ofA, FR.pop, abin, intBin, VN.at, VH.push, VH.set, qzl, VV.cells, ntV, qzW, qzN, qzX, qzV, qzO, xzs, ↓reduceIte, Option.getD_some, List.getElem?_cons_zero, List.length_cons, List.length_nil, List.drop_succ_cons, List.drop_zero, List.take_succ_cons, List.take_zero, List.append_nil, List.nil_append, List.head?_cons, Nat.reduceAdd, Nat.reduceMul, Nat.reduceLT, Nat.reduceEqDiff, reduceCtorEq, Nat.reduceLeDiff, Int.reduceLT, Nat.zero_add, and_self, and_true, Bool.not_false, decide_true, forall_const, false_implies, Bool.true_eq_false, reduceCtorEq, errK, t_p_errors_errorString, z1, a, g9]
        exact qzv rfl
      · simp only [qzx, qzm, qzp, qzA, qzZ, qzD, qzs, qzj, qzi, xze, qzR, xza, xzp, xzc, xzh, qzY, xzw, qzf, qze, qzd, qzq, qzG, xzd, qzK, qzz, qzH, qzc, qzk, qzC, qzb, qzQ, qzg, qzh, qzT, qzP, qzn, qzo, qzu, qza, qzt, qzw, qzy, xzm, qzM, qzF, xzC, xzB, xzV, xzF, eqInt, xzi, xzt, xzr, qzS, qzU, xzg, qzE, cvs, cv, qzI, qzJ, toA, ofA, FR.pop, abin, intBin, VN.at, VH.push, VH.set, qzl, VV.cells, ntV, qzW, qzN, qzX, qzV, qzO, xzs, ↓reduceIte, Option.getD_some, List.getElem?_cons_zero, List.getElem?_cons_succ, List.length_cons, List.length_nil, List.drop_succ_cons, List.drop_zero, List.take_succ_cons, List.take_zero, List.append_nil, List.nil_append, List.head?_cons, Nat.reduceAdd, Nat.reduceMul, Nat.reduceLT, Nat.reduceEqDiff, reduceCtorEq, Nat.reduceLeDiff, Int.reduceLT, Nat.zero_add, and_self, and_true, Bool.not_false, decide_true, forall_const, false_implies, Bool.true_eq_false, reduceCtorEq, errK, t_p_errors_errorString, z1, a, b, g9]
        exact qzv rfl
    obtain ⟨a2, b2⟩ := zero_y y2
    simp only [qzx, qzm, qzp, qzA, qzZ, qzD, qzs, qzj, qzi, xze, xza, xzp, xzh, qzY, qzf, qze, qzd, qzq, qzG, xzd, qzK, qzz, qzH, qzc, qzk, qzC, qzb, qzQ, qzg, qzh, qzT, qzP, qzn, qzo, qzu, qza, qzt, qzw, qzy, xzm, qzM, qzF, xzC, xzB, xzV, xzF, eqInt, xzi, xzt, xzr, qzS, qzU, xzg, qzE, cvs, cv, qzI, qzJ, toA, ofA, FR.pop, abin, intBin, VN.at, VH.push, VH.set, qzl, VV.cells, ntV, qzW, qzN, qzX, qzV, qzO, xzs, ↓reduceIte, Option.getD_some, List.getElem?_cons_zero, List.getElem?_cons_succ, List.length_cons, List.length_nil, List.drop_succ_cons, List.drop_zero, List.take_succ_cons, List.take_zero, List.append_nil, List.nil_append, List.head?_cons, Nat.reduceAdd, Nat.reduceMul, Nat.reduceLT, Nat.reduceEqDiff, reduceCtorEq, Nat.reduceLeDiff, Int.reduceLT, Nat.zero_add, and_self, and_true, true_and, Bool.not_true, Bool.false_eq_true, decide_true, forall_const, false_implies, Bool.true_eq_false, reduceCtorEq, z1, a2, b2, w2]
    refine xzo c_icon_seg_l0.eq_1 ?_
    rw [show segS ⟨1, p0, p1, p2⟩ m = none by simp [segS, segPts, r1, f0, y1, y2]]
    simp only [qzx, qzm, qzp, qzA, qzZ, qzD, qzs, qzj, qzi, xze, xzp, qzY, qzf, qze, qzd, qzq, qzH, qzc, qzb, qzg, qzh, qzn, qzo, qzu, qza, qzt, qzw, qzy, xzm, cv, qzI, qzJ, toA, ofA, FR.pop, abin, intBin, qzW, qzN, qzX, qzV, ↓reduceIte, Nat.reduceLT, Nat.reduceEqDiff, Int.reduceLT, true_and, Bool.false_eq_true, decide_false, forall_const, false_implies, z2]
    exact qzv rfl
  · simp only [qzx, qzm, qzp, qzA, qzs, qzj, qzi, qzf, qze, qzd, qzq, qzG, qzz, qzc, qzk, qzb, qzg, qzh, qzn, qzo, qzu, qza, qzt, qzw, qzy, qzL, xzn, xzR, yzc, qzM, qzF, qzE, cv, qzI, qzJ, toA, ofA, FR.pop, aun, qzl, ↓reduceIte, Option.getD_some, List.getElem?_cons_zero, Nat.reduceMul, Nat.reduceSub, Nat.reduceEqDiff, Nat.reduceLeDiff, Nat.add_zero, Nat.zero_add, true_and, Bool.not_true, Bool.false_eq_true, forall_const, false_implies, n2, z2]
    refine xzo c_icon_seg_l1.eq_1 ?_
    simp only [qzx, qzm, qzp, qzA, qzZ, qzs, qzj, qzi, xze, xzp, qzY, qzf, qze, qzd, qzq, qzG, xzd, qzK, qzz, qzc, qzk, qzC, qzb, qzQ, qzg, qzh, qzT, qzP, qzB, qzn, qzo, qzu, qza, qzt, qzw, qzy, qzL, xzm, xzn, xzR, yzc, qzM, qzF, xzi, qzS, qzU, xzg, qzE, cvs, cv, qzI, qzJ, toA, ofA, FR.pop, abin, intBin, VN.at, VH.push, VH.set, qzl, VV.cells, ntV, qzO, xzs, ↓reduceIte, Option.getD_some, List.getElem?_cons_zero, List.length_cons, List.length_nil, List.drop_succ_cons, List.drop_zero, List.take_succ_cons, List.take_zero, List.append_nil, List.nil_append, List.head?_cons, Nat.reduceAdd, Nat.reduceMul, Nat.reduceSub, Nat.reduceLT, Nat.reduceEqDiff, reduceCtorEq, Nat.reduceLeDiff, Int.reduceLT, Nat.add_zero, Nat.zero_add, and_self, and_true, decide_true, forall_const, false_implies, Bool.true_eq_false, reduceCtorEq, n1, z0, z2]
    refine xzb (far_ok Gl p0 _ m0 m1) rfl rfl ?_
    cases f0 : farS p0 m
    case true =>
      rw [show segS ⟨2, p0, p1, p2⟩ m = some 4 by simp [segS, segPts, r1, f0]]
      simp only [qzx, qzm, qzp, qzD, qzs, qzj, qzi, qzR, xza, xzc, xzh, xzw, qzf, qze, qzd, qzq, qzG, qzz, qzH, qzc, qzk, qzb, qzg, qzh, qzn, qzo, qzu, qza, qzt, qzw, qzy, qzM, qzF, qzE, cv, qzI, qzJ, toA, ofA, FR.pop, abin, intBin, qzW, qzN, qzX, qzV, ↓reduceIte, List.getElem?_cons_zero, Nat.reduceEqDiff, and_true, forall_const, false_implies, Bool.true_eq_false, errK, t_p_errors_errorString, g4]
      exact qzv rfl
    simp only [qzx, qzm, qzp, qzs, qzj, qzi, xza, xzh, qzf, qze, qzd, qzq, qzG, qzz, qzc, qzb, qzg, qzh, qzn, qzo, qzu, qza, qzt, qzw, qzy, qzM, qzF, qzE, cv, qzI, qzJ, toA, ofA, FR.pop, abin, intBin, ↓reduceIte, Nat.reduceEqDiff, true_and, Bool.false_eq_true, forall_const, false_implies, w1]
    refine xzo c_icon_seg_l1.eq_1 ?_
    simp only [qzx, qzm, qzp, qzA, qzZ, qzs, qzj, qzi, xze, xzp, qzY, qzf, qze, qzd, qzq, qzG, xzd, qzK, qzz, qzc, qzk, qzC, qzb, qzQ, qzg, qzh, qzT, qzP, qzB, qzn, qzo, qzu, qza, qzt, qzw, qzy, qzL, xzm, xzn, xzR, yzc, qzM, qzF, xzi, qzS, qzU, xzg, qzE, cvs, cv, qzI, qzJ, toA, ofA, FR.pop, abin, intBin, VN.at, VH.push, VH.set, qzl, VV.cells, ntV, qzO, xzs, ↓reduceIte, Option.getD_some, List.getElem?_cons_zero, List.length_cons, List.length_nil, List.drop_succ_cons, List.drop_zero, List.take_succ_cons, List.take_zero, List.append_nil, List.nil_append, List.head?_cons, Nat.reduceAdd, Nat.reduceMul, Nat.reduceSub, Nat.reduceLT, Nat.reduceEqDiff, reduceCtorEq, Nat.reduceLeDiff, Int.reduceLT, Nat.add_zero, Nat.zero_add, and_self, and_true, decide_true, forall_const, false_implies, Bool.true_eq_false, reduceCtorEq, n1, z1, z2]
    refine xzb (far_ok Gl p1 _ m0 m1) rfl rfl ?_
    cases f1 : farS p1 m
    case true =>
      rw [show segS ⟨2, p0, p1, p2⟩ m = some 4 by simp [segS, segPts, r1, f0, f1]]
      simp only [qzx, qzm, qzp, qzD, qzs, qzj, qzi, qzR, xza, xzc, xzh, xzw, qzf, qze, qzd, qzq, qzG, qzz, qzH, qzc, qzk, qzb, qzg, qzh, qzn, qzo, qzu, qza, qzt, qzw, qzy, qzM, qzF, qzE, cv, qzI, qzJ, toA, ofA, FR.pop, abin, intBin, qzW, qzN, qzX, qzV, ↓reduceIte, List.getElem?_cons_zero, Nat.reduceEqDiff, and_true, forall_const, false_implies, Bool.true_eq_false, errK, t_p_errors_errorString, g4]
      exact qzv rfl
    simp only [qzx, qzm, qzp, qzs, qzj, qzi, xza, xzh, qzf, qze, qzd, qzq, qzG, qzz, qzc, qzb, qzg, qzh, qzn, qzo, qzu, qza, qzt, qzw, qzy, qzM, qzF, qzE, cv, qzI, qzJ, toA, ofA, FR.pop, abin, intBin, ↓reduceIte, Nat.reduceEqDiff, true_and, Bool.false_eq_true, forall_const, false_implies, w2]
    refine xzo c_icon_seg_l1.eq_1 ?_
    simp only [qzx, qzm, qzp, qzA, qzZ, qzs, qzj, qzi, xze, xzp, qzY, qzf, qze, qzd, qzq, qzG, qzc, qzk, qzb, qzg, qzh, qzn, qzo, qzu, qza, qzt, qzw, qzy, qzL, xzm, xzn, xzR, yzc, qzM, qzF, qzE, cv, qzI, qzJ, toA, ofA, FR.pop, abin, intBin, qzl, ↓reduceIte, Option.getD_some, List.getElem?_cons_zero, Nat.reduceAdd, Nat.reduceMul, Nat.reduceSub, Nat.reduceLT, Nat.reduceEqDiff, reduceCtorEq, Nat.reduceLeDiff, Int.reduceLT, Nat.add_zero, Nat.zero_add, true_and, Bool.false_eq_true, decide_false, forall_const, false_implies, reduceCtorEq, n1, z2]
    refine xzo c_icon_seg_l0.eq_1 ?_
    by_cases y2 : zeroP p2
    case neg =>
      rw [show segS ⟨2, p0, p1, p2⟩ m = some 9 by simp [segS, segPts, r1, f0, f1, y2]]
      rcases zero_n y2 with a | ⟨a, b⟩
      · simp only [qzx, qzm, qzp, qzA, qzZ, qzD, qzs, qzj, qzi, xze, qzR, xza, xzp, xzc, xzh, qzY, xzw, qzf, qze, qzd, qzq, qzG, xzd, qzK, qzz, qzH, qzc, qzk, qzC, qzb, qzQ, qzg, qzh, qzT, qzP, qzn, qzo, qzu, qza, qzt, qzw, qzy, xzm, qzM, qzF, xzC, xzB, xzV, xzF, eqInt, xzi, xzt, xzr, qzS, qzU, xzg, qzE, cvs, cv, qzI, qzJ, toA, ofA, FR.pop, abin, intBin, VN.at, VH.push, VH.set, qzl, VV.cells, ntV, qzW, qzN, qzX, qzV, qzO, xzs, ↓reduceIte, Option.getD_some, List.getElem?_cons_zero, List.length_cons, List.length_nil, List.drop_succ_cons, List.drop_zero, List.take_succ_cons, List.take_zero, List.append_nil, List.nil_append, List.head?_cons, Nat.reduceAdd, Nat.reduceMul, Nat.reduceLT, Nat.reduceEqDiff, reduceCtorEq, Nat.reduceLeDiff, Int.reduceLT, Nat.add_zero, Nat.zero_add, and_self, and_true, Bool.not_false, decide_true, forall_const, false_implies, Bool.true_eq_false, reduceCtorEq, errK, t_p_errors_errorString, z0, a, g9]
        exact qzv rfl
      · simp only [qzx, qzm, qzp, qzA, qzZ, qzD, qzs, qzj, qzi, xze, qzR, xza, xzp, xzc, xzh, qzY, xzw, qzf, qze, qzd, qzq, qzG, xzd, qzK, qzz, qzH, qzc, qzk, qzC, qzb, qzQ, qzg, qzh, qzT, qzP, qzn, qzo, qzu, qza, qzt, qzw, qzy, xzm, qzM, qzF, xzC, xzB, xzV, xzF, eqInt, xzi, xzt, xzr, qzS, qzU, xzg, qzE, cvs, cv, qzI, qzJ, toA, ofA, FR.pop, abin, intBin, VN.at, VH.push, VH.set, qzl, VV.cells, ntV, qzW, qzN, qzX, qzV, qzO, xzs, ↓reduceIte, Option.getD_some, List.getElem?_cons_zero, List.getElem?_cons_succ, List.length_cons, List.length_nil, List.drop_succ_cons, List.drop_zero, List.take_succ_cons, List.take_zero, List.append_nil, List.nil_append, List.head?_cons, Nat.reduceAdd, Nat.reduceMul, Nat.reduceLT, Nat.reduceEqDiff, reduceCtorEq, Nat.reduceLeDiff, Int.reduceLT, Nat.add_zero, Nat.zero_add, and_self, and_true, Bool.not_false, decide_true, forall_const, false_implies, Bool.true_eq_false, reduceCtorEq, errK, t_p_errors_errorString, z0, a, b, g9]
        exact qzv rfl
    obtain ⟨a2, b2⟩ := zero_y y2
    simp only [qzx, qzm, qzp, qzA, qzZ, qzD, qzs, qzj, qzi, xze, xza, xzp, xzh, qzY, qzf, qze, qzd, qzq, qzG, xzd, qzK, qzz, qzH, qzc, qzk, qzC, qzb, qzQ, qzg, qzh, qzT, qzP, qzn, qzo, qzu, qza, qzt, qzw, qzy, xzm, qzM, qzF, xzC, xzB, xzV, xzF, eqInt, xzi, xzt, xzr, qzS, qzU, xzg, qzE, cvs, cv, qzI, qzJ, toA, ofA, FR.pop, abin, intBin, VN.at, VH.push, VH.set, qzl, VV.cells, ntV, qzW, qzN, qzX, qzV, qzO, xzs, ↓reduceIte, Option.getD_some, List.getElem?_cons_zero, List.getElem?_cons_succ, List.length_cons, List.length_nil, List.drop_succ_cons, List.drop_zero, List.take_succ_cons, List.take_zero, List.append_nil, List.nil_append, List.head?_cons, Nat.reduceAdd, Nat.reduceMul, Nat.reduceLT, Nat.reduceEqDiff, reduceCtorEq, Nat.reduceLeDiff, Int.reduceLT, Nat.add_zero, Nat.zero_add, and_self, and_true, true_and, Bool.not_true, Bool.false_eq_true, decide_true, forall_const, false_implies, Bool.true_eq_false, reduceCtorEq, z0, a2, b2, w1]
    refine xzo c_icon_seg_l0.eq_1 ?_
    rw [show segS ⟨2, p0, p1, p2⟩ m = none by simp [segS, segPts, r1, f0, f1, y2]]
    simp only [qzx, qzm, qzp, qzA, qzZ, qzD, qzs, qzj, qzi, xze, xzp, qzY, qzf, qze, qzd, qzq, qzH, qzc, qzb, qzg, qzh, qzn, qzo, qzu, qza, qzt, qzw, qzy, xzm, cv, qzI, qzJ, toA, ofA, FR.pop, abin, intBin, qzW, qzN, qzX, qzV, ↓reduceIte, Nat.reduceLT, Nat.reduceEqDiff, Int.reduceLT, true_and, Bool.false_eq_true, decide_false, forall_const, false_implies, z1]
    exact qzv rfl
  · simp only [qzx, qzm, qzp, qzA, qzs, qzj, qzi, qzf, qze, qzd, qzq, qzG, qzz, qzc, qzk, qzb, qzg, qzh, qzn, qzo, qzu, qza, qzt, qzw, qzy, qzL, xzn, xzR, yzc, qzM, qzF, qzE, cv, qzI, qzJ, toA, ofA, FR.pop, aun, qzl, ↓reduceIte, Option.getD_some, List.getElem?_cons_zero, Nat.reduceMul, Nat.reduceSub, Nat.reduceEqDiff, Nat.reduceLeDiff, Nat.add_zero, Nat.zero_add, true_and, Bool.not_true, Bool.false_eq_true, forall_const, false_implies, n3, z3]
    refine xzo c_icon_seg_l1.eq_1 ?_
    simp only [qzx, qzm, qzp, qzA, qzZ, qzs, qzj, qzi, xze, xzp, qzY, qzf, qze, qzd, qzq, qzG, xzd, qzK, qzz, qzc, qzk, qzC, qzb, qzQ, qzg, qzh, qzT, qzP, qzB, qzn, qzo, qzu, qza, qzt, qzw, qzy, qzL, xzm, xzn, xzR, yzc, qzM, qzF, xzi, qzS, qzU, xzg, qzE, cvs, cv, qzI, qzJ, toA, ofA, FR.pop, abin, intBin, VN.at, VH.push, VH.set, qzl, VV.cells, ntV, qzO, xzs, ↓reduceIte, Option.getD_some, List.getElem?_cons_zero, List.length_cons, List.length_nil, List.drop_succ_cons, List.drop_zero, List.take_succ_cons, List.take_zero, List.append_nil, List.nil_append, List.head?_cons, Nat.reduceAdd, Nat.reduceMul, Nat.reduceSub, Nat.reduceLT, Nat.reduceEqDiff, reduceCtorEq, Nat.reduceLeDiff, Int.reduceLT, Nat.add_zero, Nat.zero_add, and_self, and_true, decide_true, forall_const, false_implies, Bool.true_eq_false, reduceCtorEq, n0, z0, z3]
    refine xzb (far_ok Gl p0 _ m0 m1) rfl rfl ?_
    cases f0 : farS p0 m
    case true =>
      rw [show segS ⟨3, p0, p1, p2⟩ m = some 4 by simp [segS, segPts, r1, f0]]
      simp only [qzx, qzm, qzp, qzD, qzs, qzj, qzi, qzR, xza, xzc, xzh, xzw, qzf, qze, qzd, qzq, qzG, qzz, qzH, qzc, qzk, qzb, qzg, qzh, qzn, qzo, qzu, qza, qzt, qzw, qzy, qzM, qzF, qzE, cv, qzI, qzJ, toA, ofA, FR.pop, abin, intBin, qzW, qzN, qzX, qzV, ↓reduceIte, List.getElem?_cons_zero, Nat.reduceEqDiff, and_true, forall_const, false_implies, Bool.true_eq_false, errK, t_p_errors_errorString, g4]
      exact qzv rfl
    simp only [qzx, qzm, qzp, qzs, qzj, qzi, xza, xzh, qzf, qze, qzd, qzq, qzG, qzz, qzc, qzb, qzg, qzh, qzn, qzo, qzu, qza, qzt, qzw, qzy, qzM, qzF, qzE, cv, qzI, qzJ, toA, ofA, FR.pop, abin, intBin, ↓reduceIte, Nat.reduceEqDiff, true_and, Bool.false_eq_true, forall_const, false_implies, w1]
    refine xzo c_icon_seg_l1.eq_1 ?_
    simp only [qzx, qzm, qzp, qzA, qzZ, qzs, qzj, qzi, xze, xzp, qzY, qzf, qze, qzd, qzq, qzG, xzd, qzK, qzz, qzc, qzk, qzC, qzb, qzQ, qzg, qzh, qzT, qzP, qzB, qzn, qzo, qzu, qza, qzt, qzw, qzy, qzL, xzm, xzn, xzR, yzc, qzM, qzF, xzi, qzS, qzU, xzg, qzE, cvs, cv, qzI, qzJ, toA, ofA, FR.pop, abin, intBin, VN.at, VH.push, VH.set, qzl, VV.cells, ntV, qzO, xzs, ↓reduceIte, Option.getD_some, List.getElem?_cons_zero, List.length_cons, List.length_nil, List.drop_succ_cons, List.drop_zero, List.take_succ_cons, List.take_zero, List.append_nil, List.nil_append, List.head?_cons, Nat.reduceAdd, Nat.reduceMul, Nat.reduceSub, Nat.reduceLT, Nat.reduceEqDiff, reduceCtorEq, Nat.reduceLeDiff, Int.reduceLT, Nat.add_zero, Nat.zero_add, and_self, and_true, decide_true, forall_const, false_implies, Bool.true_eq_false, reduceCtorEq, n0, z1, z3]
    refine xzb (far_ok Gl p1 _ m0 m1) rfl rfl ?_
    cases f1 : farS p1 m
    case true =>
      rw [show segS ⟨3, p0, p1, p2⟩ m = some 4 by simp [segS, segPts, r1, f0, f1]]
      simp only [qzx, qzm, qzp, qzD, qzs, qzj, qzi, qzR, xza, xzc, xzh, xzw, qzf, qze, qzd, qzq, qzG, qzz, qzH, qzc, qzk, qzb, qzg, qzh, qzn, qzo, qzu, qza, qzt, qzw, qzy, qzM, qzF, qzE, cv, qzI, qzJ, toA, ofA, FR.pop, abin, intBin, qzW, qzN, qzX, qzV, ↓reduceIte, List.getElem?_cons_zero, Nat.reduceEqDiff, and_true, forall_const, false_implies, Bool.true_eq_false, errK, t_p_errors_errorString, g4]
      exact qzv rfl
    simp only [qzx, qzm, qzp, qzs, qzj, qzi, xza, xzh, qzf, qze, qzd, qzq, qzG, qzz, qzc, qzb, qzg, qzh, qzn, qzo, qzu, qza, qzt, qzw, qzy, qzM, qzF, qzE, cv, qzI, qzJ, toA, ofA, FR.pop, abin, intBin, ↓reduceIte, Nat.reduceEqDiff, true_and, Bool.false_eq_true, forall_const, false_implies, w2]
    refine xzo c_icon_seg_l1.eq_1 ?_
    simp only [qzx, qzm, qzp, qzA, qzZ, qzs, qzj, qzi, xze, xzp, qzY, qzf, qze, qzd, qzq, qzG, xzd, qzK, qzz, qzc, qzk, qzC, qzb, qzQ, qzg, qzh, qzT, qzP, qzB, qzn, qzo, qzu, qza, qzt, qzw, qzy, qzL, xzm, xzn, xzR, yzc, qzM, qzF, xzi, qzS, qzU, xzg, qzE, cvs, cv, qzI, qzJ, toA, ofA, FR.pop, abin, intBin, VN.at, VH.push, VH.set, qzl, VV.cells, ntV, qzO, xzs, ↓reduceIte, Option.getD_some, List.getElem?_cons_zero, List.length_cons, List.length_nil, List.drop_succ_cons, List.drop_zero, List.take_succ_cons, List.take_zero, List.append_nil, List.nil_append, List.head?_cons, Nat.reduceAdd, Nat.reduceMul, Nat.reduceSub, Nat.reduceLT, Nat.reduceEqDiff, reduceCtorEq, Nat.reduceLeDiff, Int.reduceLT, Nat.add_zero, Nat.zero_add, and_self, and_true, decide_true, forall_const, false_implies, Bool.true_eq_false, reduceCtorEq, n0, z2, z3]
    refine xzb (far_ok Gl p2 _ m0 m1) rfl rfl ?_
    cases f2 : farS p2 m
    case true =>
      rw [show segS ⟨3, p0, p1, p2⟩ m = some 4 by simp [segS, segPts, r1, f0, f1, f2]]
      simp only [qzx, qzm, qzp, qzD, qzs, qzj, qzi, qzR, xza, xzc, xzh, xzw, qzf, qze, qzd, qzq, qzG, qzz, qzH, qzc, qzk, qzb, qzg, qzh, qzn, qzo, qzu, qza, qzt, qzw, qzy, qzM, qzF, qzE, cv, qzI, qzJ, toA, ofA, FR.pop, abin, intBin, qzW, qzN, qzX, qzV, ↓reduceIte, List.getElem?_cons_zero, Nat.reduceEqDiff, and_true, forall_const, false_implies, Bool.true_eq_false, errK, t_p_errors_errorString, g4]
      exact qzv rfl
    simp only [qzx, qzm, qzp, qzs, qzj, qzi, xza, xzh, qzf, qze, qzd, qzq, qzG, qzz, qzc, qzb, qzg, qzh, qzn, qzo, qzu, qza, qzt, qzw, qzy, qzM, qzF, qzE, cv, qzI, qzJ, toA, ofA, FR.pop, abin, intBin, ↓reduceIte, Nat.reduceEqDiff, true_and, Bool.false_eq_true, forall_const, false_implies, w3]
    refine xzo c_icon_seg_l1.eq_1 ?_
    simp only [qzx, qzm, qzp, qzA, qzZ, qzs, qzj, qzi, xze, xzp, qzY, qzf, qze, qzd, qzq, qzG, qzc, qzk, qzb, qzg, qzh, qzn, qzo, qzu, qza, qzt, qzw, qzy, qzL, xzm, xzn, xzR, yzc, qzM, qzF, qzE, cv, qzI, qzJ, toA, ofA, FR.pop, abin, intBin, qzl, ↓reduceIte, Option.getD_some, List.getElem?_cons_zero, Nat.reduceAdd, Nat.reduceMul, Nat.reduceSub, Nat.reduceLT, Nat.reduceEqDiff, reduceCtorEq, Nat.reduceLeDiff, Int.reduceLT, Nat.add_zero, Nat.zero_add, true_and, Bool.false_eq_true, decide_false, forall_const, false_implies, reduceCtorEq, n0, z3]
    refine xzo c_icon_seg_l0.eq_1 ?_
    rw [show segS ⟨3, p0, p1, p2⟩ m = none by simp [segS, segPts, r1, f0, f1, f2]]
    simp only [qzx, qzm, qzp, qzA, qzZ, qzD, qzs, qzj, qzi, xze, xzp, qzY, qzf, qze, qzd, qzq, qzH, qzc, qzb, qzg, qzh, qzn, qzo, qzu, qza, qzt, qzw, qzy, xzm, cv, qzI, qzJ, toA, ofA, FR.pop, abin, intBin, qzW, qzN, qzX, qzV, ↓reduceIte, Nat.reduceLT, Nat.reduceEqDiff, Int.reduceLT, true_and, Bool.false_eq_true, decide_false, forall_const, false_implies, z0]
    exact qzv rfl

theorem firstS_drop {α : Type} {f : α → Option Nat} {l : List α} {i : Nat} {x : α} (h : l[i]? = some x) : firstS f (l.drop i) = match f x with
    | some e => some e
    | none => firstS f (l.drop (i + 1)) := by rw [drop_at h]; rfl
theorem seg_loop {Gl : xzy} (hG : IcG Gl) (l : List Seg) (hl : l.length < 1000000) (m : Int) (m0 : 0 ≤ m) (m1 : m ≤ 2 ^ 62) (K : AEx → VF → VH → Prop)
    (hE : ∀ T h e, firstS (segS · m) l = some e → qzr T 6 = some (errK e) → K .ret T h)
    (hK : ∀ T h, firstS (segS · m) l = none → K (.exit 1) T h) :
    ∀ (d i : Nat) (T : VF) (h : VH), d + i = l.length → firstS (segS · m) l = firstS (segS · m) (l.drop i) → qzr T 2 = some (.int .i64 m) → qzr T 36 = some (.fsl (xzA cSeg l) l.length 7) → qzr T 37 = some (.int .i64 l.length) → qzr T 38 = some (.int .i64 i) →
    wp Go.VL.Er.E Gl (.loop c_icon_path_l0) T h K := by
  intro d
  induction d with
  | zero =>
    intro i T h hd hs t2 t36 t37 t38
    obtain rfl : i = l.length := by omega
    rw [List.drop_length] at hs
    refine xzo c_icon_path_l0.eq_1 ?_
    have c : ¬ ((l.length : Int) < l.length) := by omega
    simp only [qzx, qzm, qzp, qzA, qzZ, qzs, qzj, qzi, xze, qzY, qzf, qze, qzd, qzq, qzc, qzb, qzg, qzh, qzn, qzo, qzu, qza, qzt, qzw, qzI, qzJ, toA, ofA, FR.pop, abin, intBin, ↓reduceIte, Nat.reduceEqDiff, true_and, Bool.false_eq_true, decide_false, forall_const, false_implies, t_p_api_At, t_p_errors_errorString, t37, t38, c]
    exact hK _ _ hs
  | succ d ih =>
    intro i T h hd hs t2 t36 t37 t38
    refine xzo c_icon_path_l0.eq_1 ?_
    have hlt : i < l.length := by omega
    have c : (i : Int) < l.length := by omega
    obtain ⟨e, he⟩ : ∃ e, l[i]? = some e := ⟨l[i], List.getElem?_eq_getElem hlt⟩
    have p1 := flat_le cSeg_len he
    have p2 := flat_at cSeg_len he
    have hw : IntKind.i64.wrap ((i : Int) + 1) = ((i + 1 : Nat) : Int) := by rw [xzj (by omega) (by omega)]; rfl
    rw [firstS_drop he] at hs
    simp only [qzx, qzm, qzp, qzA, qzZ, qzs, qzj, qzi, xze, qzY, qzf, qze, qzd, qzq, qzG, xzd, qzK, qzz, qzc, qzk, qzC, qzb, qzQ, qzg, qzh, qzT, qzP, qzB, qzn, qzo, qzu, qza, qzt, qzw, qzy, xzm, qzM, qzF, xzi, qzS, qzU, xzg, qzE, cvs, cv, qzI, qzJ, toA, ofA, FR.pop, abin, intBin, VN.at, VH.push, VH.set, qzl, VV.cells, ntV, qzO, xzs, xzx, ↓reduceIte, Option.getD_some, List.length_cons, List.length_nil, List.drop_succ_cons, List.drop_zero, List.take_succ_cons, List.take_zero, List.append_nil, List.nil_append, List.head?_cons, Nat.reduceAdd, Nat.reduceEqDiff, Nat.reduceLeDiff, Nat.zero_add, and_self, and_true, decide_true, forall_const, false_implies, Bool.true_eq_false, cSeg, t_p_api_At, t_p_errors_errorString, t2, t36, t37, t38, c, hlt, p1, p2]
    refine xzb (seg_ok hG e m m0 m1) rfl (by cases segS e m <;> rfl) ?_
    cases q : segS e m with
    | some n =>
      rw [q] at hs
      simp only [errV]
      simp only [qzx, qzm, qzp, qzD, qzs, qzj, qzi, qzR, xza, xzc, xzw, qzf, qze, qzd, qzq, qzG, qzz, qzc, qzk, qzb, qzg, qzh, qzn, qzo, qzu, qza, qzt, qzw, qzy, qzM, xzC, xzB, xzY, cv, ↓reduceIte, Nat.reduceEqDiff, and_true, Bool.not_false, forall_const, false_implies, Bool.true_eq_false, errK, t_p_errors_errorString]
      exact hE _ _ n hs (by simp only [qza, ↓reduceIte, errK, t_p_errors_errorString])
    | none =>
      rw [q] at hs
      simp only [errV]
      simp only [qzx, qzm, qzp, qzD, qzs, qzj, qzi, qzR, xza, xzc, xzh, xzw, qzf, qze, qzd, qzq, qzG, qzz, qzc, qzk, qzb, qzg, qzh, qzn, qzo, qzu, qza, qzt, qzw, qzy, qzM, xzC, xzB, xzY, cv, qzI, qzJ, toA, ofA, FR.pop, abin, intBin, ↓reduceIte, Nat.reduceEqDiff, true_and, Bool.not_true, Bool.false_eq_true, forall_const, false_implies, t38, hw]
      refine ih (i + 1) _ _ (by omega) hs ?_ ?_ ?_ ?_
      · simp only [qza, ↓reduceIte, Nat.reduceEqDiff, t2]
      · simp only [qza, ↓reduceIte, Nat.reduceEqDiff, t36]
      · simp only [qza, ↓reduceIte, Nat.reduceEqDiff, t37]
      · simp only [qza, ↓reduceIte]
theorem path_ok {Gl : xzy} (hG : IcG Gl) (p : Path) (fill : Bool) (m : Int) (hl : p.segs.length < 1000000) (m0 : 0 ≤ m) (m1 : m ≤ 2 ^ 62) : xzJ Go.VL.Er.E Gl f_icon_path [.agg (cPath p), .bool fill, .int .i64 m] (errV (pathS p fill m)) := by
  refine xzv (xzk E_icon_path ?_)
  have g4 : qzr Gl g_ErrRange = some [errK 4] := hG.r
  have g5 : qzr Gl g_ErrLimit = some [errK 5] := hG.l
  have g9 : qzr Gl g_ErrCanon = some [errK 9] := hG.c
  unfold c_icon_path r_icon_path
  simp only [xzG]
  have main : ∀ (q : (fill && p.closed) = false) (Q : VV → VH → Prop) (T : VF) (h : VH), True := fun _ _ _ _ => trivial
  by_cases q : (fill && p.closed) = true
  · simp only [Bool.and_eq_true] at q
    obtain ⟨rfl, q2⟩ := q
    rw [show pathS p true m = some 9 by simp [pathS, q2]]
    simp only [qzm, qzp, qzA, qzD, qzs, qzj, qzi, qzR, xzc, qzf, qze, qzd, qzq, qzG, xzd, qzK, qzH, qzc, qzk, qzC, qzb, qzg, qzh, qzT, qzB, qzn, qzo, qzu, qza, qzt, qzw, qzy, xzl, qzL, xzn, qzM, qzF, xzi, xzU, qzE, cv, qzI, qzJ, toA, ofA, FR.pop, abin, intBin, VN.at, VH.push, qzl, h0, VV.cells, ntV, qzW, qzN, qzX, qzV, ↓reduceIte, Option.getD_some, List.getElem?_cons_zero, List.getElem?_cons_succ, List.length_cons, List.length_nil, List.drop_zero, List.take_succ_cons, List.take_zero, Nat.reduceAdd, Nat.reduceEqDiff, reduceCtorEq, Nat.reduceLeDiff, Nat.add_zero, Nat.zero_add, and_true, beq_self_eq_true, forall_const, false_implies, Bool.true_eq_false, reduceCtorEq, errK, cPath, t_p_errors_errorString, q2, g9]
    exact qzv rfl
  have qq : fill = false ∨ (fill = true ∧ p.closed = false) := by cases fill <;> simp_all
  by_cases c0 : p.segs.length = 0
  · have c0' : ((p.segs.length : Int) == 0) = true := by simp [c0]
    rw [show pathS p fill m = some 4 by unfold pathS; rw [if_neg q, if_pos c0]]
    rcases qq with rfl | ⟨rfl, q2⟩
    · simp only [qzm, qzp, qzA, qzD, qzs, qzj, qzi, qzR, xzc, qzf, qze, qzd, xzf, qzq, qzG, xzd, qzK, qzH, qzc, qzk, qzC, qzb, qzg, qzh, qzT, qzB, qzn, qzo, qzu, qza, qzt, qzw, qzy, xzl, qzL, xzn, qzM, qzF, xzi, xzU, qzE, cv, qzI, qzJ, toA, ofA, FR.pop, abin, intBin, VN.at, VH.push, qzl, h0, VV.cells, ntV, qzW, qzN, qzX, qzV, qzO, ↓reduceIte, Option.getD_some, List.getElem?_cons_zero, List.getElem?_cons_succ, List.length_cons, List.length_nil, List.drop_zero, List.take_succ_cons, List.take_zero, Nat.reduceAdd, Nat.reduceEqDiff, reduceCtorEq, Nat.reduceLeDiff, Nat.add_zero, Nat.zero_add, and_true, true_and, Bool.false_eq_true, beq_true, forall_const, false_implies, Bool.true_eq_false, reduceCtorEq, errK, cPath, t_p_errors_errorString, c0', g4]
      exact qzv rfl
    · simp only [qzm, qzp, qzA, qzD, qzs, qzj, qzi, qzR, xzc, qzf, qze, qzd, qzq, qzG, xzd, qzK, qzH, qzc, qzk, qzC, qzb, qzg, qzh, qzT, qzB, qzn, qzo, qzu, qza, qzt, qzw, qzy, xzl, qzL, xzn, qzM, qzF, xzi, xzU, qzE, cv, qzI, qzJ, toA, ofA, FR.pop, abin, intBin, VN.at, VH.push, qzl, h0, VV.cells, ntV, qzW, qzN, qzX, qzV, ↓reduceIte, Option.getD_some, List.getElem?_cons_zero, List.getElem?_cons_succ, List.length_cons, List.length_nil, List.drop_zero, List.take_succ_cons, List.take_zero, Nat.reduceAdd, Nat.reduceEqDiff, reduceCtorEq, Nat.reduceLeDiff, Nat.add_zero, Nat.zero_add, and_true, true_and, Bool.false_eq_true, beq_self_eq_true, forall_const, false_implies, Bool.true_eq_false, reduceCtorEq, errK, cPath, t_p_errors_errorString, c0', q2, g4]
      exact qzv rfl
  have c0' : ((p.segs.length : Int) == 0) = false := beq_false_of_ne (by omega)
  by_cases c4 : 400 < p.segs.length
  · have c4' : (p.segs.length : Int) > 400 := by omega
    rw [show pathS p fill m = some 5 by unfold pathS; rw [if_neg q, if_neg c0, if_pos c4]]
    rcases qq with rfl | ⟨rfl, q2⟩
    · simp only [qzm, qzp, qzA, qzD, qzs, qzj, qzi, qzR, xzc, qzf, qze, qzd, xzf, qzq, qzG, xzd, qzK, qzH, qzc, qzk, qzC, qzb, qzg, qzh, qzT, qzB, qzn, qzo, qzu, qza, qzt, qzw, qzy, xzl, qzL, xzn, qzM, qzF, xzi, xzU, qzE, cv, qzI, qzJ, toA, ofA, FR.pop, abin, intBin, VN.at, VH.push, qzl, h0, VV.cells, ntV, qzW, qzN, qzX, qzV, qzO, ↓reduceIte, Option.getD_some, List.getElem?_cons_zero, List.getElem?_cons_succ, List.length_cons, List.length_nil, List.drop_zero, List.take_succ_cons, List.take_zero, Nat.reduceAdd, Nat.reduceEqDiff, reduceCtorEq, Nat.reduceLeDiff, Nat.add_zero, Nat.zero_add, and_true, true_and, Bool.false_eq_true, beq_true, decide_true, forall_const, false_implies, Bool.true_eq_false, reduceCtorEq, errK, cPath, t_p_errors_errorString, c0', c4', g5]
      exact qzv rfl
    · simp only [qzm, qzp, qzA, qzD, qzs, qzj, qzi, qzR, xzc, qzf, qze, qzd, qzq, qzG, xzd, qzK, qzH, qzc, qzk, qzC, qzb, qzg, qzh, qzT, qzB, qzn, qzo, qzu, qza, qzt, qzw, qzy, xzl, qzL, xzn, qzM, qzF, xzi, xzU, qzE, cv, qzI, qzJ, toA, ofA, FR.pop, abin, intBin, VN.at, VH.push, qzl, h0, VV.cells, ntV, qzW, qzN, qzX, qzV, ↓reduceIte, Option.getD_some, List.getElem?_cons_zero, List.getElem?_cons_succ, List.length_cons, List.length_nil, List.drop_zero, List.take_succ_cons, List.take_zero, Nat.reduceAdd, Nat.reduceEqDiff, reduceCtorEq, Nat.reduceLeDiff, Nat.add_zero, Nat.zero_add, and_true, true_and, Bool.false_eq_true, beq_self_eq_true, decide_true, forall_const, false_implies, Bool.true_eq_false, reduceCtorEq, errK, cPath, t_p_errors_errorString, c0', c4', q2, g5]
      exact qzv rfl
  have c4' : ¬ (p.segs.length : Int) > 400 := by omega
  have hp : pathS p fill m = if farS p.start m = true then some 4 else firstS (segS · m) p.segs := by unfold pathS; rw [if_neg q, if_neg c0, if_neg c4]
  rcases qq with rfl | ⟨rfl, q2⟩
  · simp only [qzm, qzp, qzA, qzs, qzj, qzi, qzf, qze, qzd, xzf, qzq, qzG, xzd, qzK, qzc, qzk, qzC, qzb, qzg, qzh, qzT, qzB, qzn, qzo, qzu, qza, qzt, qzw, qzy, xzl, qzL, xzn, qzM, qzF, xzi, xzU, qzE, cv, qzI, qzJ, toA, ofA, FR.pop, abin, intBin, VN.at, VH.push, qzl, h0, VV.cells, ntV, qzO, ↓reduceIte, Option.getD_some, List.getElem?_cons_zero, List.getElem?_cons_succ, List.length_cons, List.length_nil, List.drop_zero, List.take_succ_cons, List.take_zero, Nat.reduceAdd, Nat.reduceEqDiff, reduceCtorEq, Nat.reduceLeDiff, Nat.add_zero, Nat.zero_add, true_and, Bool.false_eq_true, beq_true, decide_false, forall_const, false_implies, reduceCtorEq, cPath, c0', c4']
    refine xzb (far_ok Gl _ _ m0 m1) rfl rfl ?_
    cases f : farS p.start m
    case true =>
      rw [f, if_pos rfl] at hp
      rw [hp]
      simp only [qzx, qzm, qzp, qzA, qzD, qzs, qzj, qzi, qzR, xza, xzc, qzf, qze, qzd, qzq, qzG, qzz, qzH, qzc, qzk, qzb, qzg, qzh, qzn, qzo, qzu, qza, qzt, qzw, qzy, qzL, xzn, qzM, qzF, qzE, cv, qzl, qzW, qzN, qzX, qzV, ↓reduceIte, Option.getD_some, List.getElem?_cons_zero, List.getElem?_cons_succ, Nat.reduceEqDiff, Nat.zero_add, and_true, forall_const, false_implies, Bool.true_eq_false, errK, t_p_errors_errorString, g4]
      exact qzv rfl
    rw [f, if_neg (by simp)] at hp
    rw [hp]
    simp only [qzx, qzm, qzp, qzA, qzs, qzj, qzi, xza, qzf, qze, qzd, qzq, qzG, qzz, qzc, qzk, qzb, qzg, qzh, qzn, qzo, qzu, qza, qzt, qzw, qzy, qzL, xzn, qzM, qzF, qzE, cv, qzl, ↓reduceIte, Option.getD_some, List.getElem?_cons_zero, List.getElem?_cons_succ, Nat.reduceEqDiff, Nat.zero_add, true_and, Bool.false_eq_true, forall_const, false_implies]
    refine seg_loop hG p.segs hl m m0 m1 _ ?_ ?_ p.segs.length 0 _ _ (by omega) rfl ?_ ?_ ?_ ?_
    · intro T h e he t6
      rw [he]
      simp only [qzR, xzc, qzH, qzW, qzN, qzX, qzV, errK, t_p_errors_errorString, t6]
      exact qzv rfl
    · intro T h he
      rw [he]
      simp only [qzm, qzp, qzD, qzi, xzp, qzf, qze, qzd, qzq, qzH, qzc, qzb, qzg, qzh, qzn, qzo, qzu, qza, qzt, qzw, qzy, cv, qzW, qzN, qzX, qzV, ↓reduceIte]
      exact qzv rfl
    all_goals simp only [qza, ↓reduceIte, Nat.reduceEqDiff, reduceCtorEq, reduceCtorEq]
    all_goals rfl
  · simp only [qzm, qzp, qzA, qzs, qzj, qzi, qzf, qze, qzd, qzq, qzG, xzd, qzK, qzc, qzk, qzC, qzb, qzg, qzh, qzT, qzB, qzn, qzo, qzu, qza, qzt, qzw, qzy, xzl, qzL, xzn, qzM, qzF, xzi, xzU, qzE, cv, qzI, qzJ, toA, ofA, FR.pop, abin, intBin, VN.at, VH.push, qzl, h0, VV.cells, ntV, ↓reduceIte, Option.getD_some, List.getElem?_cons_zero, List.getElem?_cons_succ, List.length_cons, List.length_nil, List.drop_zero, List.take_succ_cons, List.take_zero, Nat.reduceAdd, Nat.reduceEqDiff, reduceCtorEq, Nat.reduceLeDiff, Nat.add_zero, Nat.zero_add, true_and, Bool.false_eq_true, beq_self_eq_true, decide_false, forall_const, false_implies, reduceCtorEq, cPath, q2, c0', c4']
    refine xzb (far_ok Gl _ _ m0 m1) rfl rfl ?_
    cases f : farS p.start m
    case true =>
      rw [f, if_pos rfl] at hp
      rw [hp]
      simp only [qzx, qzm, qzp, qzA, qzD, qzs, qzj, qzi, qzR, xza, xzc, qzf, qze, qzd, qzq, qzG, qzz, qzH, qzc, qzk, qzb, qzg, qzh, qzn, qzo, qzu, qza, qzt, qzw, qzy, qzL, xzn, qzM, qzF, qzE, cv, qzl, qzW, qzN, qzX, qzV, ↓reduceIte, Option.getD_some, List.getElem?_cons_zero, List.getElem?_cons_succ, Nat.reduceEqDiff, Nat.zero_add, and_true, forall_const, false_implies, Bool.true_eq_false, errK, t_p_errors_errorString, g4]
      exact qzv rfl
    rw [f, if_neg (by simp)] at hp
    rw [hp]
    simp only [qzx, qzm, qzp, qzA, qzs, qzj, qzi, xza, qzf, qze, qzd, qzq, qzG, qzz, qzc, qzk, qzb, qzg, qzh, qzn, qzo, qzu, qza, qzt, qzw, qzy, qzL, xzn, qzM, qzF, qzE, cv, qzl, ↓reduceIte, Option.getD_some, List.getElem?_cons_zero, List.getElem?_cons_succ, Nat.reduceEqDiff, Nat.zero_add, true_and, Bool.false_eq_true, forall_const, false_implies]
    refine seg_loop hG p.segs hl m m0 m1 _ ?_ ?_ p.segs.length 0 _ _ (by omega) rfl ?_ ?_ ?_ ?_
    · intro T h e he t6
      rw [he]
      simp only [qzR, xzc, qzH, qzW, qzN, qzX, qzV, errK, t_p_errors_errorString, t6]
      exact qzv rfl
    · intro T h he
      rw [he]
      simp only [qzm, qzp, qzD, qzi, xzp, qzf, qze, qzd, qzq, qzH, qzc, qzb, qzg, qzh, qzn, qzo, qzu, qza, qzt, qzw, qzy, cv, qzW, qzN, qzX, qzV, ↓reduceIte]
      exact qzv rfl
    all_goals simp only [qza, ↓reduceIte, Nat.reduceEqDiff, reduceCtorEq, reduceCtorEq]
    all_goals rfl
theorem path_loop {Gl : xzy} (hG : IcG Gl) (k : Int) (l : List Path) (hl : l.length < 1000000) (hp : ∀ p ∈ l, p.segs.length < 1000000) (m : Int) (m0 : 0 ≤ m) (m1 : m ≤ 2 ^ 62) (b : Nat) (cr : List VV) (K : AEx → VF → VH → Prop)
    (hE : ∀ T h e, firstS (fun p => pathS p (decide (k = 1)) m) l = some e → qzr T 6 = some (errK e) → K .ret T h)
    (hK : ∀ T h, firstS (fun p => pathS p (decide (k = 1)) m) l = none → K (.exit 1) T h) :
    ∀ (d i : Nat) (T : VF) (h : VH), d + i = l.length → firstS (fun p => pathS p (decide (k = 1)) m) l = firstS (fun p => pathS p (decide (k = 1)) m) (l.drop i) → qzr T 2 = some (.int .i64 m) → qzr T 3 = some (.ptr b 0) → qzr T 39 = some (.fsl (xzA cPath l) l.length 4) → qzr T 40 = some (.int .i64 l.length) → qzr T 41 = some (.int .i64 i) →
      qzr h.l b = some (some (.cells (.int .i64 k :: cr) false)) → b < h.next →
    wp Go.VL.Er.E Gl (.loop c_icon_cmd_l0) T h K := by
  intro d
  induction d with
  | zero =>
    intro i T h hd hs t2 t3 t39 t40 t41 hb hn
    obtain rfl : i = l.length := by omega
    rw [List.drop_length] at hs
    refine xzo c_icon_cmd_l0.eq_1 ?_
    have c : ¬ ((l.length : Int) < l.length) := by omega
    simp only [qzx, qzm, qzp, qzA, qzZ, qzs, qzj, qzi, xze, qzY, qzf, qze, qzd, qzq, qzc, qzb, qzg, qzh, qzn, qzo, qzu, qza, qzt, qzw, qzI, qzJ, toA, ofA, FR.pop, abin, intBin, ↓reduceIte, Nat.reduceEqDiff, true_and, Bool.false_eq_true, decide_false, forall_const, false_implies, t_p_api_At, t_p_errors_errorString, t40, t41, c]
    exact hK _ _ hs
  | succ d ih =>
    intro i T h hd hs t2 t3 t39 t40 t41 hb hn
    refine xzo c_icon_cmd_l0.eq_1 ?_
    have hlt : i < l.length := by omega
    have c : (i : Int) < l.length := by omega
    obtain ⟨e, he⟩ : ∃ e, l[i]? = some e := ⟨l[i], List.getElem?_eq_getElem hlt⟩
    have hpe := hp e (List.mem_of_getElem? he)
    have p1 := flat_le cPath_len he
    have p2 := flat_at cPath_len he
    have hw : IntKind.i64.wrap ((i : Int) + 1) = ((i + 1 : Nat) : Int) := by rw [xzj (by omega) (by omega)]; rfl
    have hne : ¬ h.next = b := by omega
    have kd : (k == 1) = decide (k = 1) := rfl
    rw [firstS_drop he] at hs
    simp only [qzx, qzm, qzp, qzA, qzZ, qzs, qzj, qzi, xze, qzY, qzf, qze, qzd, qzq, qzG, xzd, qzK, qzz, qzc, qzk, qzC, qzb, qzQ, qzg, qzh, qzT, qzP, qzB, qzn, qzo, qzu, qza, qzt, qzw, qzy, qzL, xzm, qzM, qzF, xzi, qzS, qzU, xzg, qzE, cvs, cv, qzI, qzJ, toA, ofA, FR.pop, abin, intBin, VN.at, VH.push, VH.set, qzl, VV.cells, ntV, qzO, xzs, xzx, ↓reduceIte, Option.getD_some, List.getElem?_cons_zero, List.length_cons, List.length_nil, List.drop_succ_cons, List.drop_zero, List.take_succ_cons, List.take_zero, List.append_nil, List.nil_append, List.head?_cons, Nat.reduceAdd, Nat.reduceEqDiff, Nat.reduceLeDiff, Nat.add_zero, Nat.zero_add, and_self, and_true, decide_true, forall_const, false_implies, Bool.true_eq_false, cPath, t_p_api_At, t_p_errors_errorString, t2, t3, t39, t40, t41, c, hlt, p1, p2, hne, hb]
    refine xzb (path_ok hG e (decide (k = 1)) m hpe m0 m1) rfl (by cases pathS e (decide (k = 1)) m <;> rfl) ?_
    cases q : pathS e (decide (k = 1)) m with
    | some n =>
      rw [q] at hs
      simp only [errV]
      simp only [qzx, qzm, qzp, qzD, qzs, qzj, qzi, qzR, xza, xzc, xzw, qzf, qze, qzd, qzq, qzG, qzz, qzc, qzk, qzb, qzg, qzh, qzn, qzo, qzu, qza, qzt, qzw, qzy, qzM, xzC, xzB, xzY, cv, ↓reduceIte, Nat.reduceEqDiff, and_true, Bool.not_false, forall_const, false_implies, Bool.true_eq_false, errK, t_p_errors_errorString]
      exact hE _ _ n hs (by simp only [qza, ↓reduceIte, errK, t_p_errors_errorString])
    | none =>
      rw [q] at hs
      simp only [errV]
      simp only [qzx, qzm, qzp, qzD, qzs, qzj, qzi, qzR, xza, xzc, xzh, xzw, qzf, qze, qzd, qzq, qzG, qzz, qzc, qzk, qzb, qzg, qzh, qzn, qzo, qzu, qza, qzt, qzw, qzy, qzM, xzC, xzB, xzY, cv, qzI, qzJ, toA, ofA, FR.pop, abin, intBin, ↓reduceIte, Nat.reduceEqDiff, true_and, Bool.not_true, Bool.false_eq_true, forall_const, false_implies, t41, hw]
      refine ih (i + 1) _ _ (by omega) hs ?_ ?_ ?_ ?_ ?_ ?_ ?_
      · simp only [qza, ↓reduceIte, Nat.reduceEqDiff, t2]
      · simp only [qza, ↓reduceIte, Nat.reduceEqDiff, t3]
      · simp only [qza, ↓reduceIte, Nat.reduceEqDiff, t39]
      · simp only [qza, ↓reduceIte, Nat.reduceEqDiff, t40]
      · simp only [qza, ↓reduceIte]
      · simp only [qza, ↓reduceIte, hne]; exact hb
      · simp only []; omega
theorem cmd_ok {Gl : xzy} (hG : IcG Gl) (c : Cmd) (n m : Int) (hl : c.paths.length < 1000000) (hp : ∀ p ∈ c.paths, p.segs.length < 1000000) (n0 : 0 ≤ n) (n1 : n < 2 ^ 62) (m0 : 0 ≤ m) (m1 : m ≤ 2 ^ 62) : xzJ Go.VL.Er.E Gl f_icon_cmd [.agg (cCmd c), .int .i64 n, .int .i64 m] (errV (cmdS c n m)) := by
  refine xzv (xzk E_icon_cmd ?_)
  have g4 : qzr Gl g_ErrRange = some [errK 4] := hG.r
  have g5 : qzr Gl g_ErrLimit = some [errK 5] := hG.l
  unfold c_icon_cmd r_icon_cmd
  simp only [xzG]
  have hc : cmdS c n m = match headS c m with
    | some e => some e
    | none => match paintS c.paint n m with
      | some e => some e
      | none => if c.paths.length = 0 then some 4 else if 200 < c.paths.length then some 5 else firstS (fun p => pathS p (decide (c.kind = 1)) m) c.paths := rfl
  simp only [qzm, qzp, qzi, qzf, qze, qzd, qzq, qzG, xzd, qzK, qzc, qzk, qzC, qzb, qzg, qzh, qzT, qzB, qzn, qzo, qzu, qza, qzt, qzw, qzy, qzM, qzF, xzi, xzU, qzE, cv, VN.at, VH.push, qzl, h0, VV.cells, ntV, ↓reduceIte, Option.getD_some, List.length_cons, List.length_nil, List.drop_zero, List.take_succ_cons, List.take_zero, Nat.reduceAdd, Nat.reduceEqDiff, reduceCtorEq, Nat.reduceLeDiff, Nat.zero_add, reduceCtorEq, cCmd, t_p_api_At, t_p_errors_errorString]
  refine xzb (head_ok hG c m) rfl (by cases headS c m <;> rfl) ?_
  cases q : headS c m with
  | some e =>
    rw [q] at hc
    rw [hc]
    simp only [errV]
    simp only [qzx, qzm, qzp, qzD, qzs, qzj, qzi, qzR, qzf, qze, qzd, qzq, qzG, qzK, qzz, qzH, qzc, qzk, qzb, qzg, qzh, qzB, qzn, qzo, qzu, qza, qzt, qzw, qzy, qzL, qzM, qzF, xzC, xzB, xzY, qzE, cv, qzl, qzW, qzN, qzX, qzV, ↓reduceIte, Option.getD_some, List.length_cons, List.length_nil, List.drop_succ_cons, List.drop_zero, List.take_succ_cons, List.take_zero, Nat.reduceAdd, Nat.reduceEqDiff, reduceCtorEq, Nat.reduceLeDiff, Nat.zero_add, and_true, Bool.not_false, forall_const, false_implies, Bool.true_eq_false, reduceCtorEq, errK, t_p_errors_errorString]
    exact qzv rfl
  | none =>
  rw [q] at hc
  simp only [errV] at hc ⊢
  simp only [qzx, qzm, qzp, qzD, qzs, qzj, qzi, qzR, qzf, qze, qzd, qzq, qzG, qzK, qzz, qzH, qzc, qzk, qzb, qzg, qzh, qzB, qzn, qzo, qzu, qza, qzt, qzw, qzy, qzL, qzM, qzF, xzC, xzB, xzY, qzE, cv, qzl, qzW, qzN, qzX, qzV, ↓reduceIte, Option.getD_some, List.length_cons, List.length_nil, List.drop_succ_cons, List.drop_zero, List.take_succ_cons, List.take_zero, Nat.reduceAdd, Nat.reduceEqDiff, reduceCtorEq, Nat.reduceLeDiff, Nat.zero_add, true_and, Bool.not_true, Bool.false_eq_true, forall_const, false_implies, reduceCtorEq, errK, t_p_errors_errorString]
  refine xzb (paint_ok hG c.paint n m n0 n1 m0 m1) rfl (by cases paintS c.paint n m <;> rfl) ?_
  cases q2 : paintS c.paint n m with
  | some e =>
    rw [q2] at hc
    rw [hc]
    simp only [errV]
    simp only [qzx, qzm, qzp, qzA, qzD, qzs, qzj, qzi, qzR, xza, qzf, qze, qzd, qzq, qzG, qzz, qzH, qzc, qzk, qzb, qzg, qzh, qzn, qzo, qzu, qza, qzt, qzw, qzy, qzL, xzn, qzM, qzF, xzC, xzB, xzY, qzE, cv, qzI, qzJ, toA, ofA, FR.pop, abin, intBin, qzl, qzW, qzN, qzX, qzV, ↓reduceIte, Option.getD_some, List.getElem?_cons_zero, List.getElem?_cons_succ, Nat.reduceEqDiff, Nat.zero_add, and_true, Bool.not_false, forall_const, false_implies, Bool.true_eq_false, errK, t_p_errors_errorString]
    exact qzv rfl
  | none =>
  rw [q2] at hc
  simp only [errV] at hc ⊢
  by_cases c0 : c.paths.length = 0
  · have c0' : ((c.paths.length : Int) == 0) = true := by simp [c0]
    rw [if_pos c0] at hc
    rw [hc]
    simp only [qzx, qzm, qzp, qzA, qzD, qzs, qzj, qzi, qzR, xza, xzc, qzf, qze, qzd, qzq, qzG, qzz, qzH, qzc, qzk, qzb, qzg, qzh, qzn, qzo, qzu, qza, qzt, qzw, qzy, qzL, xzn, qzM, qzF, xzC, xzB, xzY, qzE, cv, qzI, qzJ, toA, ofA, FR.pop, abin, intBin, qzl, qzW, qzN, qzX, qzV, ↓reduceIte, Option.getD_some, List.getElem?_cons_zero, List.getElem?_cons_succ, Nat.reduceEqDiff, Nat.zero_add, and_true, true_and, Bool.not_true, Bool.false_eq_true, forall_const, false_implies, Bool.true_eq_false, errK, t_p_errors_errorString, c0', g4]
    exact qzv rfl
  have c0' : ((c.paths.length : Int) == 0) = false := beq_false_of_ne (by omega)
  by_cases c4 : 200 < c.paths.length
  · have c4' : (c.paths.length : Int) > 200 := by omega
    rw [if_neg c0, if_pos c4] at hc
    rw [hc]
    simp only [qzx, qzm, qzp, qzA, qzD, qzs, qzj, qzi, qzR, xza, xzc, qzf, qze, qzd, qzq, qzG, qzz, qzH, qzc, qzk, qzb, qzg, qzh, qzn, qzo, qzu, qza, qzt, qzw, qzy, qzL, xzn, qzM, qzF, xzC, xzB, xzY, qzE, cv, qzI, qzJ, toA, ofA, FR.pop, abin, intBin, qzl, qzW, qzN, qzX, qzV, ↓reduceIte, Option.getD_some, List.getElem?_cons_zero, List.getElem?_cons_succ, Nat.reduceEqDiff, Nat.zero_add, and_true, true_and, Bool.not_true, Bool.false_eq_true, decide_true, forall_const, false_implies, Bool.true_eq_false, errK, t_p_errors_errorString, c0', c4', g5]
    exact qzv rfl
  have c4' : ¬ (c.paths.length : Int) > 200 := by omega
  rw [if_neg c0, if_neg c4] at hc
  rw [hc]
  simp only [qzx, qzm, qzp, qzA, qzD, qzs, qzj, qzi, qzR, xza, qzf, qze, qzd, qzq, qzG, qzz, qzH, qzc, qzk, qzb, qzg, qzh, qzn, qzo, qzu, qza, qzt, qzw, qzy, qzL, xzn, qzM, qzF, xzC, xzB, xzY, qzE, cv, qzI, qzJ, toA, ofA, FR.pop, abin, intBin, qzl, qzW, qzN, qzX, qzV, ↓reduceIte, Option.getD_some, List.getElem?_cons_zero, List.getElem?_cons_succ, Nat.reduceEqDiff, Nat.zero_add, true_and, Bool.not_true, Bool.false_eq_true, decide_false, forall_const, false_implies, c0', c4']
  refine path_loop hG c.kind c.paths hl hp m m0 m1 0 [.int .i64 c.rule, .int .i64 c.width, .int .i64 c.paint.kind, .int .i64 c.paint.a, .int .i64 c.paint.b, .int .i64 c.paint.p.x, .int .i64 c.paint.p.y, .int .i64 c.paint.q.x, .int .i64 c.paint.q.y, .fsl (xzA cPath c.paths) c.paths.length 4] _ ?_ ?_ c.paths.length 0 _ _ (by omega) rfl ?_ ?_ ?_ ?_ ?_ ?_ ?_
  · intro T h e he t6
    rw [he]
    simp only [qzR, xzc, qzH, qzW, qzN, qzX, qzV, errK, t_p_errors_errorString, t6]
    exact qzv rfl
  · intro T h he
    rw [he]
    simp only [qzm, qzp, qzD, qzi, xzp, qzf, qze, qzd, qzq, qzH, qzc, qzb, qzg, qzh, qzn, qzo, qzu, qza, qzt, qzw, qzy, cv, qzW, qzN, qzX, qzV, ↓reduceIte]
    exact qzv rfl
  all_goals first | (simp only [qza, ↓reduceIte, Nat.reduceLT, Nat.reduceEqDiff, reduceCtorEq, reduceCtorEq]; done) | (simp only [qza, ↓reduceIte]; rfl) | (simp only [qzx, qzm, xzM, qzp, qzA, qzZ, qzD, qzs, wpIf_true, wpIf_false, qzj, qzi, xze, qzR, xza, xzp, xzc, xzh, qzY, xzw, qzf, qze, qzd, xzf, qzq, qzG, xzd, qzK, qzz, xzN, xzu, xzq, wpXG_false, xzK, xzT, wpXA_n, xzS, xzP, Ends_n, qzH, qzc, qzk, qzC, qzb, qzQ, qzg, qzh, qzT, xzz, xzE, kXN_app, qzP, wpW_copy, wpW_mapUpd, wpW_mark, qzB, wpW_callV, qzn, qzo, qzu, qza, qzt, qzw, qzy, xzl, qzL, xzm, iAddrAV, fieldV, idxArrV, extV, mkIV, tAssV, xzn, lenArrV, xzX, slV, xzR, yzc, qzM, qzF, xzC, xzB, xzV, eqPV, eqSV, xzY, eqFV, eqMV, eqGV, inGl, xzF, eqBool, eqInt, eqStr, xzi, xzU, xzt, xzr, qzS, qzU, xzg, yza, lenOfV, yze, copyV, b2sV, s2bV, mkSliceV, qzE, cvs, cv, qzI, qzJ, toA, ofA, FR.pop, abin, aun, intBin, shiftBin, strBin, bnds, natOf, max2A, min2A, foldA, VN.at, VH.push, VH.set, VH.kill, VH.fix, VB.fix, qzl, h0, VV.cells, ntV, qzW, qzN, qzX, qzV, closedB, closedL, plainB, plainL, qzO, countN, xzI, lowB, fzB, fzL, xzQ, xzZ, xzH, xzO, yzf, yzd, xzs, nilCmp, xzx, yzb, capMost, capDrop, ↓reduceIte, Option.getD_some, Option.getD_none, Option.isSome_some, Option.map_some, Option.map_none, List.getElem?_cons_zero, List.getElem?_cons_succ, List.length_cons, List.length_nil, List.drop_succ_cons, List.drop_zero, List.take_succ_cons, List.take_zero, List.append_nil, List.nil_append, List.cons_append, List.contains_cons, List.contains_nil, List.head?_cons, Nat.reduceAdd, Nat.reduceMul, Nat.reduceSub, Nat.reduceDiv, Nat.reduceLT, Nat.reduceEqDiff, reduceCtorEq, Nat.reduceLeDiff, Nat.reduceBEq, Int.reduceEq, Int.reduceLT, Int.reduceLE, Int.reduceBEq, Int.reduceGT, Nat.add_zero, Nat.zero_add, and_self, and_true, true_and, and_false, false_and, not_true_eq_false, not_false_eq_true, Bool.and_self, Bool.and_true, Bool.true_and, Bool.and_false, Bool.or_false, Bool.true_or, Bool.or_true, Bool.false_or, Bool.not_false, Bool.not_true, Bool.false_eq_true, beq_self_eq_true, bne_self_eq_false, beq_true, beq_false, decide_true, decide_false, true_or, if_true, if_false, forall_const, false_implies, true_implies, Bool.true_eq_false, reduceCtorEq, true_or, cCl, erP, errK, cSeg, cPath, cPaint, cCmd, cIcon, t_p_api_At, t_p_errors_errorString]; exact Nat.zero_lt_succ _)
end
end Go.VL.Ic
