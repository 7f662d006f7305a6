/- 'glyphiclaw5.IconLimits': its loops. (By wip/gen_lim.py.) -/
import Derived.Test.YtbamfhdgikeneaaDoorEnF
import Derived.Test.YtbamfhdgikeneaaDoorMkB
namespace Go.VL.Lm
open Go.FR Go.IR Go.VL Go.VL.Er Go.VL.Color Go.VL.Wind Go.VL.Ic
noncomputable section
set_option linter.unusedSimpArgs false
set_option linter.unusedVariables false
set_option maxRecDepth 100000
set_option maxHeartbeats 1000000

theorem rep_snoc {α : Type} (n : Nat) (a : α) : List.replicate (n + 1) a = List.replicate n a ++ [a] := List.replicate_succ'

theorem seg_loop0 {Gl : xzy} (s : Seg) (js ip base : Nat) (hib : js < base) (hip : ip < base) (hne : js ≠ ip) (m : Nat) (hm : m ≤ 1) (L0 : List Seg) (hL0 : L0.length ≤ 401) (T0 : VF) (H0 : VH) (K : AEx → VF → VH → Prop)
    (hK : ∀ T h j v, (∀ k, k < 44 → k ≠ 21 → qzr T k = qzr T0 k) → qzr h.l ip = some (some (.cells [.int .i64 0, .int .i64 0, v, .bool false] false)) → xzW base h j cSeg (L0 ++ List.replicate (400 + m) s) 7 v → (∀ k, k < base → k ≠ ip → qzr h.l k = qzr H0.l k) → base ≤ h.next → K (.exit 1) T h)
    (u1 : qzr T0 20 = some (.ptr ip 0)) (u2 : qzr T0 7 = some (.ptr js 0)) (u9 : qzr T0 9 = some (.int .i64 m)) (hs : qzr H0.l js = some (some (.cells (cSeg s) false))) :
    ∀ (d i : Nat) (T : VF) (h : VH) (j : Nat) (v : VV), d + i = (400 + m) → (∀ k, k < 44 → k ≠ 21 → qzr T k = qzr T0 k) → qzr T 21 = some (.int .i64 i) → qzr h.l ip = some (some (.cells [.int .i64 0, .int .i64 0, v, .bool false] false)) → xzW base h j cSeg (L0 ++ List.replicate i s) 7 v → (∀ k, k < base → k ≠ ip → qzr h.l k = qzr H0.l k) → base ≤ h.next →
    wp Go.VL.Er.E Gl (.loop c_glyphiclaw5_IconLimits_l0) T h K := by
  intro d
  induction d with
  | zero =>
    intro i T h j v hd hT tc i0 q fr hn
    obtain rfl : i = (400 + m) := by omega
    have t9 := (hT 9 (by omega) (by omega)).trans u9
    have wm : IntKind.i64.wrap (400 + (m : Int)) = ((400 + m : Nat) : Int) := by rw [xzj (by omega) (by omega)]; omega
    have c : ¬ (((400 + m : Nat) : Int) < ((400 + m : Nat) : Int)) := by omega
    refine xzo c_glyphiclaw5_IconLimits_l0.eq_1 ?_
    simp only [qzx, qzm, qzp, qzA, qzZ, qzs, qzj, qzi, xze, qzY, qzf, qze, qzd, qzq, qzc, qzb, qzg, qzh, qzn, qzo, qzu, qza, qzt, qzw, qzy, cv, qzI, qzJ, toA, ofA, FR.pop, abin, intBin, ↓reduceIte, Nat.reduceEqDiff, true_and, Bool.false_eq_true, decide_false, forall_const, false_implies, tc, c, t9, wm]
    refine hK _ _ j v (fun k q1 q2 => ?_) i0 q fr hn
    simp only [qza]
    (repeat rw [if_neg (by omega)])
    exact hT k q1 q2
  | succ d ih =>
    intro i T h j v hd hT tc i0 q fr hn
    have t1 := (hT 20 (by omega) (by omega)).trans u1
    have t2 := (hT 7 (by omega) (by omega)).trans u2
    have t9 := (hT 9 (by omega) (by omega)).trans u9
    have wm : IntKind.i64.wrap (400 + (m : Int)) = ((400 + m : Nat) : Int) := by rw [xzj (by omega) (by omega)]; omega
    have c : (i : Int) < ((400 + m : Nat) : Int) := by omega
    have is0 := (fr js hib hne).trans hs
    have hw : IntKind.i64.wrap ((i : Int) + 1) = ((i + 1 : Nat) : Int) := by rw [xzj (by omega) (by omega)]; rfl
    have y0 : ¬ h.next = ip := by omega
    have y1 : ¬ h.next = js := by omega
    have ll : (L0 ++ List.replicate i s).length ≤ 900 := by rw [List.length_append, List.length_replicate]; omega
    refine xzo c_glyphiclaw5_IconLimits_l0.eq_1 ?_
    simp only [qzx, qzm, qzp, qzA, qzZ, qzs, qzj, qzi, xze, qzY, qzf, qze, qzd, qzq, qzG, xzd, qzK, qzc, qzk, qzC, qzb, qzg, qzh, qzT, qzn, qzo, qzu, qza, qzt, qzw, qzy, qzL, qzM, qzF, xzi, xzr, qzS, qzE, cvs, cv, qzI, qzJ, toA, ofA, FR.pop, abin, intBin, VN.at, VH.push, qzl, VV.cells, ntV, ↓reduceIte, Option.getD_some, List.getElem?_cons_zero, List.getElem?_cons_succ, List.length_cons, List.length_nil, List.drop_succ_cons, List.drop_zero, List.take_succ_cons, List.take_zero, List.append_nil, List.nil_append, Nat.reduceAdd, Nat.reduceDiv, Nat.reduceEqDiff, Nat.reduceLeDiff, Nat.zero_add, and_self, and_true, decide_true, forall_const, false_implies, Bool.true_eq_false, cSeg, tc, c, t1, t2, i0, is0, t9, wm]
    have q' : xzW base ⟨(h.next, some (VB.cells (cSeg s) false)) :: h.l, h.next + 1⟩ j cSeg (L0 ++ List.replicate i s) 7 v := q.ext (by show h.next ≤ h.next + 1; omega) (fun x y => by simp only [qza]; rw [if_neg (by omega)])
    refine wpW_acc (base := base) (j := j) (f := cSeg) (l := L0 ++ List.replicate i s) (a := s) q' (by first | (simp only [qza, yza, yze, qzl, ↓reduceIte, Option.getD_some, List.length_cons, List.length_nil, List.drop_zero, List.take_succ_cons, List.take_zero, Nat.reduceAdd, Nat.reduceMul, reduceCtorEq, Nat.reduceLeDiff, Nat.zero_add, true_or, reduceCtorEq, true_or, cSeg]; done) | (simp only [qzx, qzm, xzM, qzp, qzA, qzZ, qzD, qzs, wpIf_true, wpIf_false, qzj, qzi, xze, qzR, xza, xzp, xzc, xzh, qzY, xzw, qzf, qze, qzd, xzf, qzq, qzG, xzd, qzK, qzz, xzN, xzu, xzq, wpXG_false, xzK, xzT, wpXA_n, xzS, xzP, Ends_n, qzH, qzc, qzk, qzC, qzb, qzQ, qzg, qzh, qzT, xzz, xzE, kXN_app, qzP, wpW_copy, wpW_mapUpd, wpW_mark, qzB, wpW_callV, qzn, qzo, qzu, qza, qzt, qzw, qzy, xzl, qzL, xzm, iAddrAV, fieldV, idxArrV, extV, mkIV, tAssV, xzn, lenArrV, xzX, slV, xzR, yzc, qzM, qzF, xzC, xzB, xzV, eqPV, eqSV, xzY, eqFV, eqMV, eqGV, inGl, xzF, eqBool, eqInt, eqStr, xzi, xzU, xzt, xzr, qzS, qzU, xzg, yza, lenOfV, yze, copyV, b2sV, s2bV, mkSliceV, qzE, cvs, cv, qzI, qzJ, toA, ofA, FR.pop, abin, aun, intBin, shiftBin, strBin, bnds, natOf, max2A, min2A, foldA, VN.at, VH.push, VH.set, VH.kill, VH.fix, VB.fix, qzl, h0, VV.cells, ntV, qzW, qzN, qzX, qzV, closedB, closedL, plainB, plainL, qzO, countN, xzI, lowB, fzB, fzL, xzQ, xzZ, xzH, xzO, yzf, yzd, xzs, nilCmp, xzx, yzb, capMost, capDrop, ↓reduceIte, Option.getD_some, Option.getD_none, Option.isSome_some, Option.map_some, Option.map_none, List.getElem?_cons_zero, List.getElem?_cons_succ, List.length_cons, List.length_nil, List.drop_succ_cons, List.drop_zero, List.take_succ_cons, List.take_zero, List.append_nil, List.nil_append, List.cons_append, List.contains_cons, List.contains_nil, List.head?_cons, Nat.reduceAdd, Nat.reduceMul, Nat.reduceSub, Nat.reduceDiv, Nat.reduceLT, Nat.reduceEqDiff, reduceCtorEq, Nat.reduceLeDiff, Nat.reduceBEq, Int.reduceEq, Int.reduceLT, Int.reduceLE, Int.reduceBEq, Int.reduceGT, Nat.add_zero, Nat.zero_add, and_self, and_true, true_and, and_false, false_and, not_true_eq_false, not_false_eq_true, Bool.and_self, Bool.and_true, Bool.true_and, Bool.and_false, Bool.or_false, Bool.true_or, Bool.or_true, Bool.false_or, Bool.not_false, Bool.not_true, Bool.false_eq_true, beq_self_eq_true, bne_self_eq_false, beq_true, beq_false, decide_true, decide_false, true_or, if_true, if_false, forall_const, false_implies, true_implies, Bool.true_eq_false, reduceCtorEq, true_or, cSeg, cPt, cCl, cPath, cCmd, cPaint, cIcon, t_p_api_At, t_p_errors_errorString]; rfl)) cSeg_len (by omega) (by show base ≤ h.next + 1; omega) (by omega) (by omega) ?_
    intro h' g1 g2 g3
    simp only at g1 g2 g3
    rw [List.append_assoc, ← rep_snoc] at g3
    have fr1 : ∀ k, k < base → qzr h'.l k = qzr h.l k := fun k hk => by
      rw [g2 k (by omega) (q.ne (.inl hk))]; simp only [qza]; rw [if_neg (by omega)]
    have i0' := (fr1 ip hip).trans i0
    simp only [qzm, qzi, xza, xzh, qzf, qze, qzd, qzq, qzK, qzz, qzc, qzb, qzQ, qzg, qzh, qzP, qzn, qzo, qzu, qza, qzt, qzw, qzy, qzL, qzS, qzU, xzg, cv, qzI, qzJ, toA, ofA, FR.pop, abin, intBin, VH.set, qzl, VV.cells, ntV, qzO, xzs, ↓reduceIte, Option.getD_some, List.length_cons, List.length_nil, List.drop_succ_cons, List.drop_zero, List.take_succ_cons, List.take_zero, List.nil_append, List.cons_append, List.head?_cons, Nat.reduceAdd, Nat.reduceEqDiff, Nat.reduceLeDiff, Nat.zero_add, and_self, t1, tc, i0', hw]
    refine ih (i + 1) _ _ (h.next + 1) (.slice (h.next + 1) 0 ((L0 ++ List.replicate i s).length + 1) 7 (.toEnd 7)) (by omega) (fun k q1 q2 => ?_) ?_ ?_ ?_ (fun k q1 q2 => ?_) ?_
    · simp only [qza]
      (repeat rw [if_neg (by omega)])
      exact hT k q1 q2
    · simp only [qza, ↓reduceIte]
    · simp only [qza, ↓reduceIte]
    · exact g3.ext (Nat.le_refl _) (fun x y => by simp only [qza]; rw [if_neg (by omega)])
    · simp only [qza]
      rw [if_neg (Ne.symm q2), fr1 k q1]; exact fr k q1 q2
    · show base ≤ h'.next; omega

theorem seg_loop3 {Gl : xzy} (s : Seg) (js ip base : Nat) (hib : js < base) (hip : ip < base) (hne : js ≠ ip) (m : Nat) (hm : m ≤ 1) (L0 : List Seg) (hL0 : L0.length ≤ 401) (T0 : VF) (H0 : VH) (K : AEx → VF → VH → Prop)
    (hK : ∀ T h j v, (∀ k, k < 61 → k ≠ 16 → qzr T k = qzr T0 k) → qzr h.l ip = some (some (.cells [.int .i64 0, .int .i64 0, v, .bool false] false)) → xzW base h j cSeg (L0 ++ List.replicate (3 + m) s) 7 v → (∀ k, k < base → k ≠ ip → qzr h.l k = qzr H0.l k) → base ≤ h.next → K (.exit 9) T h)
    (u1 : qzr T0 14 = some (.ptr ip 0)) (u2 : qzr T0 7 = some (.ptr js 0)) (u9 : qzr T0 9 = some (.int .i64 m)) (hs : qzr H0.l js = some (some (.cells (cSeg s) false))) :
    ∀ (d i : Nat) (T : VF) (h : VH) (j : Nat) (v : VV), d + i = (3 + m) → (∀ k, k < 61 → k ≠ 16 → qzr T k = qzr T0 k) → qzr T 16 = some (.int .i64 i) → qzr h.l ip = some (some (.cells [.int .i64 0, .int .i64 0, v, .bool false] false)) → xzW base h j cSeg (L0 ++ List.replicate i s) 7 v → (∀ k, k < base → k ≠ ip → qzr h.l k = qzr H0.l k) → base ≤ h.next →
    wp Go.VL.Er.E Gl (.loop c_glyphiclaw5_IconLimits_l3) T h K := by
  intro d
  induction d with
  | zero =>
    intro i T h j v hd hT tc i0 q fr hn
    obtain rfl : i = (3 + m) := by omega
    have t9 := (hT 9 (by omega) (by omega)).trans u9
    have wm : IntKind.i64.wrap (3 + (m : Int)) = ((3 + m : Nat) : Int) := by rw [xzj (by omega) (by omega)]; omega
    have c : ¬ (((3 + m : Nat) : Int) < ((3 + m : Nat) : Int)) := by omega
    refine xzo c_glyphiclaw5_IconLimits_l3.eq_1 ?_
    simp only [qzx, qzm, qzp, qzA, qzZ, qzs, qzj, qzi, xze, qzY, qzf, qze, qzd, qzq, qzc, qzb, qzg, qzh, qzn, qzo, qzu, qza, qzt, qzw, qzy, cv, qzI, qzJ, toA, ofA, FR.pop, abin, intBin, ↓reduceIte, Nat.reduceEqDiff, true_and, Bool.false_eq_true, decide_false, forall_const, false_implies, tc, c, t9, wm]
    refine hK _ _ j v (fun k q1 q2 => ?_) i0 q fr hn
    simp only [qza]
    (repeat rw [if_neg (by omega)])
    exact hT k q1 q2
  | succ d ih =>
    intro i T h j v hd hT tc i0 q fr hn
    have t1 := (hT 14 (by omega) (by omega)).trans u1
    have t2 := (hT 7 (by omega) (by omega)).trans u2
    have t9 := (hT 9 (by omega) (by omega)).trans u9
    have wm : IntKind.i64.wrap (3 + (m : Int)) = ((3 + m : Nat) : Int) := by rw [xzj (by omega) (by omega)]; omega
    have c : (i : Int) < ((3 + m : Nat) : Int) := by omega
    have is0 := (fr js hib hne).trans hs
    have hw : IntKind.i64.wrap ((i : Int) + 1) = ((i + 1 : Nat) : Int) := by rw [xzj (by omega) (by omega)]; rfl
    have y0 : ¬ h.next = ip := by omega
    have y1 : ¬ h.next = js := by omega
    have ll : (L0 ++ List.replicate i s).length ≤ 900 := by rw [List.length_append, List.length_replicate]; omega
    refine xzo c_glyphiclaw5_IconLimits_l3.eq_1 ?_
    simp only [qzx, qzm, qzp, qzA, qzZ, qzs, qzj, qzi, xze, qzY, qzf, qze, qzd, qzq, qzG, xzd, qzK, qzc, qzk, qzC, qzb, qzg, qzh, qzT, qzn, qzo, qzu, qza, qzt, qzw, qzy, qzL, qzM, qzF, xzi, xzr, qzS, qzE, cvs, cv, qzI, qzJ, toA, ofA, FR.pop, abin, intBin, VN.at, VH.push, qzl, VV.cells, ntV, ↓reduceIte, Option.getD_some, List.getElem?_cons_zero, List.getElem?_cons_succ, List.length_cons, List.length_nil, List.drop_succ_cons, List.drop_zero, List.take_succ_cons, List.take_zero, List.append_nil, List.nil_append, Nat.reduceAdd, Nat.reduceDiv, Nat.reduceEqDiff, Nat.reduceLeDiff, Nat.zero_add, and_self, and_true, decide_true, forall_const, false_implies, Bool.true_eq_false, cSeg, tc, c, t1, t2, i0, is0, t9, wm]
    have q' : xzW base ⟨(h.next, some (VB.cells (cSeg s) false)) :: h.l, h.next + 1⟩ j cSeg (L0 ++ List.replicate i s) 7 v := q.ext (by show h.next ≤ h.next + 1; omega) (fun x y => by simp only [qza]; rw [if_neg (by omega)])
    refine wpW_acc (base := base) (j := j) (f := cSeg) (l := L0 ++ List.replicate i s) (a := s) q' (by first | (simp only [qza, yza, yze, qzl, ↓reduceIte, Option.getD_some, List.length_cons, List.length_nil, List.drop_zero, List.take_succ_cons, List.take_zero, Nat.reduceAdd, Nat.reduceMul, reduceCtorEq, Nat.reduceLeDiff, Nat.zero_add, true_or, reduceCtorEq, true_or, cSeg]; done) | (simp only [qzx, qzm, xzM, qzp, qzA, qzZ, qzD, qzs, wpIf_true, wpIf_false, qzj, qzi, xze, qzR, xza, xzp, xzc, xzh, qzY, xzw, qzf, qze, qzd, xzf, qzq, qzG, xzd, qzK, qzz, xzN, xzu, xzq, wpXG_false, xzK, xzT, wpXA_n, xzS, xzP, Ends_n, qzH, qzc, qzk, qzC, qzb, qzQ, qzg, qzh, qzT, xzz, xzE, kXN_app, qzP, wpW_copy, wpW_mapUpd, wpW_mark, qzB, wpW_callV, qzn, qzo, qzu, qza, qzt, qzw, qzy, xzl, qzL, xzm, iAddrAV, fieldV, idxArrV, extV, mkIV, tAssV, xzn, lenArrV, xzX, slV, xzR, yzc, qzM, qzF, xzC, xzB, xzV, eqPV, eqSV, xzY, eqFV, eqMV, eqGV, inGl, xzF, eqBool, eqInt, eqStr, xzi, xzU, xzt, xzr, qzS, qzU, xzg, yza, lenOfV, yze, copyV, b2sV, s2bV, mkSliceV, qzE, cvs, cv, qzI, qzJ, toA, ofA, FR.pop, abin, aun, intBin, shiftBin, strBin, bnds, natOf, max2A, min2A, foldA, VN.at, VH.push, VH.set, VH.kill, VH.fix, VB.fix, qzl, h0, VV.cells, ntV, qzW, qzN, qzX, qzV, closedB, closedL, plainB, plainL, qzO, countN, xzI, lowB, fzB, fzL, xzQ, xzZ, xzH, xzO, yzf, yzd, xzs, nilCmp, xzx, yzb, capMost, capDrop, ↓reduceIte, Option.getD_some, Option.getD_none, Option.isSome_some, Option.map_some, Option.map_none, List.getElem?_cons_zero, List.getElem?_cons_succ, List.length_cons, List.length_nil, List.drop_succ_cons, List.drop_zero, List.take_succ_cons, List.take_zero, List.append_nil, List.nil_append, List.cons_append, List.contains_cons, List.contains_nil, List.head?_cons, Nat.reduceAdd, Nat.reduceMul, Nat.reduceSub, Nat.reduceDiv, Nat.reduceLT, Nat.reduceEqDiff, reduceCtorEq, Nat.reduceLeDiff, Nat.reduceBEq, Int.reduceEq, Int.reduceLT, Int.reduceLE, Int.reduceBEq, Int.reduceGT, Nat.add_zero, Nat.zero_add, and_self, and_true, true_and, and_false, false_and, not_true_eq_false, not_false_eq_true, Bool.and_self, Bool.and_true, Bool.true_and, Bool.and_false, Bool.or_false, Bool.true_or, Bool.or_true, Bool.false_or, Bool.not_false, Bool.not_true, Bool.false_eq_true, beq_self_eq_true, bne_self_eq_false, beq_true, beq_false, decide_true, decide_false, true_or, if_true, if_false, forall_const, false_implies, true_implies, Bool.true_eq_false, reduceCtorEq, true_or, cSeg, cPt, cCl, cPath, cCmd, cPaint, cIcon, t_p_api_At, t_p_errors_errorString]; rfl)) cSeg_len (by omega) (by show base ≤ h.next + 1; omega) (by omega) (by omega) ?_
    intro h' g1 g2 g3
    simp only at g1 g2 g3
    rw [List.append_assoc, ← rep_snoc] at g3
    have fr1 : ∀ k, k < base → qzr h'.l k = qzr h.l k := fun k hk => by
      rw [g2 k (by omega) (q.ne (.inl hk))]; simp only [qza]; rw [if_neg (by omega)]
    have i0' := (fr1 ip hip).trans i0
    simp only [qzm, qzi, xza, xzh, qzf, qze, qzd, qzq, qzK, qzz, qzc, qzb, qzQ, qzg, qzh, qzP, qzn, qzo, qzu, qza, qzt, qzw, qzy, qzL, qzS, qzU, xzg, cv, qzI, qzJ, toA, ofA, FR.pop, abin, intBin, VH.set, qzl, VV.cells, ntV, qzO, xzs, ↓reduceIte, Option.getD_some, List.length_cons, List.length_nil, List.drop_succ_cons, List.drop_zero, List.take_succ_cons, List.take_zero, List.nil_append, List.cons_append, List.head?_cons, Nat.reduceAdd, Nat.reduceEqDiff, Nat.reduceLeDiff, Nat.zero_add, and_self, t1, tc, i0', hw]
    refine ih (i + 1) _ _ (h.next + 1) (.slice (h.next + 1) 0 ((L0 ++ List.replicate i s).length + 1) 7 (.toEnd 7)) (by omega) (fun k q1 q2 => ?_) ?_ ?_ ?_ (fun k q1 q2 => ?_) ?_
    · simp only [qza]
      (repeat rw [if_neg (by omega)])
      exact hT k q1 q2
    · simp only [qza, ↓reduceIte]
    · simp only [qza, ↓reduceIte]
    · exact g3.ext (Nat.le_refl _) (fun x y => by simp only [qza]; rw [if_neg (by omega)])
    · simp only [qza]
      rw [if_neg (Ne.symm q2), fr1 k q1]; exact fr k q1 q2
    · show base ≤ h'.next; omega

theorem seg_loop4 {Gl : xzy} (s : Seg) (js ip base : Nat) (hib : js < base) (hip : ip < base) (hne : js ≠ ip) (L0 : List Seg) (hL0 : L0.length ≤ 401) (T0 : VF) (H0 : VH) (K : AEx → VF → VH → Prop)
    (hK : ∀ T h j v, (∀ k, k < 61 → k ≠ 15 → qzr T k = qzr T0 k) → qzr h.l ip = some (some (.cells [.int .i64 0, .int .i64 0, v, .bool false] false)) → xzW base h j cSeg (L0 ++ List.replicate 131 s) 7 v → (∀ k, k < base → k ≠ ip → qzr h.l k = qzr H0.l k) → base ≤ h.next → K (.exit 7) T h)
    (u1 : qzr T0 14 = some (.ptr ip 0)) (u2 : qzr T0 6 = some (.ptr js 0)) (hs : qzr H0.l js = some (some (.cells (cSeg s) false))) :
    ∀ (d i : Nat) (T : VF) (h : VH) (j : Nat) (v : VV), d + i = 131 → (∀ k, k < 61 → k ≠ 15 → qzr T k = qzr T0 k) → qzr T 15 = some (.int .i64 i) → qzr h.l ip = some (some (.cells [.int .i64 0, .int .i64 0, v, .bool false] false)) → xzW base h j cSeg (L0 ++ List.replicate i s) 7 v → (∀ k, k < base → k ≠ ip → qzr h.l k = qzr H0.l k) → base ≤ h.next →
    wp Go.VL.Er.E Gl (.loop c_glyphiclaw5_IconLimits_l4) T h K := by
  intro d
  induction d with
  | zero =>
    intro i T h j v hd hT tc i0 q fr hn
    obtain rfl : i = 131 := by omega
    have c : ¬ (((131 : Nat) : Int) < 131) := by omega
    refine xzo c_glyphiclaw5_IconLimits_l4.eq_1 ?_
    simp only [qzx, qzm, qzp, qzA, qzZ, qzs, qzj, qzi, xze, qzY, qzf, qze, qzd, qzq, qzc, qzb, qzg, qzh, qzn, qzo, qzu, qza, qzt, qzw, qzy, cv, qzI, qzJ, toA, ofA, FR.pop, abin, intBin, ↓reduceIte, Nat.reduceEqDiff, true_and, Bool.false_eq_true, decide_false, forall_const, false_implies, tc, c]
    refine hK _ _ j v (fun k q1 q2 => ?_) i0 q fr hn
    simp only [qza]
    (repeat rw [if_neg (by omega)])
    exact hT k q1 q2
  | succ d ih =>
    intro i T h j v hd hT tc i0 q fr hn
    have t1 := (hT 14 (by omega) (by omega)).trans u1
    have t2 := (hT 6 (by omega) (by omega)).trans u2
    have c : (i : Int) < 131 := by omega
    have is0 := (fr js hib hne).trans hs
    have hw : IntKind.i64.wrap ((i : Int) + 1) = ((i + 1 : Nat) : Int) := by rw [xzj (by omega) (by omega)]; rfl
    have y0 : ¬ h.next = ip := by omega
    have y1 : ¬ h.next = js := by omega
    have ll : (L0 ++ List.replicate i s).length ≤ 900 := by rw [List.length_append, List.length_replicate]; omega
    refine xzo c_glyphiclaw5_IconLimits_l4.eq_1 ?_
    simp only [qzx, qzm, qzp, qzA, qzZ, qzs, qzj, qzi, xze, qzY, qzf, qze, qzd, qzq, qzG, xzd, qzK, qzc, qzk, qzC, qzb, qzg, qzh, qzT, qzn, qzo, qzu, qza, qzt, qzw, qzy, qzL, qzM, qzF, xzi, xzr, qzS, qzE, cvs, cv, qzI, qzJ, toA, ofA, FR.pop, abin, intBin, VN.at, VH.push, qzl, VV.cells, ntV, ↓reduceIte, Option.getD_some, List.getElem?_cons_zero, List.getElem?_cons_succ, List.length_cons, List.length_nil, List.drop_succ_cons, List.drop_zero, List.take_succ_cons, List.take_zero, List.append_nil, List.nil_append, Nat.reduceAdd, Nat.reduceDiv, Nat.reduceEqDiff, Nat.reduceLeDiff, Nat.zero_add, and_self, and_true, decide_true, forall_const, false_implies, Bool.true_eq_false, cSeg, tc, c, t1, t2, i0, is0]
    have q' : xzW base ⟨(h.next, some (VB.cells (cSeg s) false)) :: h.l, h.next + 1⟩ j cSeg (L0 ++ List.replicate i s) 7 v := q.ext (by show h.next ≤ h.next + 1; omega) (fun x y => by simp only [qza]; rw [if_neg (by omega)])
    refine wpW_acc (base := base) (j := j) (f := cSeg) (l := L0 ++ List.replicate i s) (a := s) q' (by first | (simp only [qza, yza, yze, qzl, ↓reduceIte, Option.getD_some, List.length_cons, List.length_nil, List.drop_zero, List.take_succ_cons, List.take_zero, Nat.reduceAdd, Nat.reduceMul, reduceCtorEq, Nat.reduceLeDiff, Nat.zero_add, true_or, reduceCtorEq, true_or, cSeg]; done) | (simp only [qzx, qzm, xzM, qzp, qzA, qzZ, qzD, qzs, wpIf_true, wpIf_false, qzj, qzi, xze, qzR, xza, xzp, xzc, xzh, qzY, xzw, qzf, qze, qzd, xzf, qzq, qzG, xzd, qzK, qzz, xzN, xzu, xzq, wpXG_false, xzK, xzT, wpXA_n, xzS, xzP, Ends_n, qzH, qzc, qzk, qzC, qzb, qzQ, qzg, qzh, qzT, xzz, xzE, kXN_app, qzP, wpW_copy, wpW_mapUpd, wpW_mark, qzB, wpW_callV, qzn, qzo, qzu, qza, qzt, qzw, qzy, xzl, qzL, xzm, iAddrAV, fieldV, idxArrV, extV, mkIV, tAssV, xzn, lenArrV, xzX, slV, xzR, yzc, qzM, qzF, xzC, xzB, xzV, eqPV, eqSV, xzY, eqFV, eqMV, eqGV, inGl, xzF, eqBool, eqInt, eqStr, xzi, xzU, xzt, xzr, qzS, qzU, xzg, yza, lenOfV, yze, copyV, b2sV, s2bV, mkSliceV, qzE, cvs, cv, qzI, qzJ, toA, ofA, FR.pop, abin, aun, intBin, shiftBin, strBin, bnds, natOf, max2A, min2A, foldA, VN.at, VH.push, VH.set, VH.kill, VH.fix, VB.fix, qzl, h0, VV.cells, ntV, qzW, qzN, qzX, qzV, closedB, closedL, plainB, plainL, qzO, countN, xzI, lowB, fzB, fzL, xzQ, xzZ, xzH, xzO, yzf, yzd, xzs, nilCmp, xzx, yzb, capMost, capDrop, ↓reduceIte, Option.getD_some, Option.getD_none, Option.isSome_some, Option.map_some, Option.map_none, List.getElem?_cons_zero, List.getElem?_cons_succ, List.length_cons, List.length_nil, List.drop_succ_cons, List.drop_zero, List.take_succ_cons, List.take_zero, List.append_nil, List.nil_append, List.cons_append, List.contains_cons, List.contains_nil, List.head?_cons, Nat.reduceAdd, Nat.reduceMul, Nat.reduceSub, Nat.reduceDiv, Nat.reduceLT, Nat.reduceEqDiff, reduceCtorEq, Nat.reduceLeDiff, Nat.reduceBEq, Int.reduceEq, Int.reduceLT, Int.reduceLE, Int.reduceBEq, Int.reduceGT, Nat.add_zero, Nat.zero_add, and_self, and_true, true_and, and_false, false_and, not_true_eq_false, not_false_eq_true, Bool.and_self, Bool.and_true, Bool.true_and, Bool.and_false, Bool.or_false, Bool.true_or, Bool.or_true, Bool.false_or, Bool.not_false, Bool.not_true, Bool.false_eq_true, beq_self_eq_true, bne_self_eq_false, beq_true, beq_false, decide_true, decide_false, true_or, if_true, if_false, forall_const, false_implies, true_implies, Bool.true_eq_false, reduceCtorEq, true_or, cSeg, cPt, cCl, cPath, cCmd, cPaint, cIcon, t_p_api_At, t_p_errors_errorString]; rfl)) cSeg_len (by omega) (by show base ≤ h.next + 1; omega) (by omega) (by omega) ?_
    intro h' g1 g2 g3
    simp only at g1 g2 g3
    rw [List.append_assoc, ← rep_snoc] at g3
    have fr1 : ∀ k, k < base → qzr h'.l k = qzr h.l k := fun k hk => by
      rw [g2 k (by omega) (q.ne (.inl hk))]; simp only [qza]; rw [if_neg (by omega)]
    have i0' := (fr1 ip hip).trans i0
    simp only [qzm, qzi, xza, xzh, qzf, qze, qzd, qzq, qzK, qzz, qzc, qzb, qzQ, qzg, qzh, qzP, qzn, qzo, qzu, qza, qzt, qzw, qzy, qzL, qzS, qzU, xzg, cv, qzI, qzJ, toA, ofA, FR.pop, abin, intBin, VH.set, qzl, VV.cells, ntV, qzO, xzs, ↓reduceIte, Option.getD_some, List.length_cons, List.length_nil, List.drop_succ_cons, List.drop_zero, List.take_succ_cons, List.take_zero, List.nil_append, List.cons_append, List.head?_cons, Nat.reduceAdd, Nat.reduceEqDiff, Nat.reduceLeDiff, Nat.zero_add, and_self, t1, tc, i0', hw]
    refine ih (i + 1) _ _ (h.next + 1) (.slice (h.next + 1) 0 ((L0 ++ List.replicate i s).length + 1) 7 (.toEnd 7)) (by omega) (fun k q1 q2 => ?_) ?_ ?_ ?_ (fun k q1 q2 => ?_) ?_
    · simp only [qza]
      (repeat rw [if_neg (by omega)])
      exact hT k q1 q2
    · simp only [qza, ↓reduceIte]
    · simp only [qza, ↓reduceIte]
    · exact g3.ext (Nat.le_refl _) (fun x y => by simp only [qza]; rw [if_neg (by omega)])
    · simp only [qza]
      rw [if_neg (Ne.symm q2), fr1 k q1]; exact fr k q1 q2
    · show base ≤ h'.next; omega

theorem seg_loop5 {Gl : xzy} (s : Seg) (js ip base : Nat) (hib : js < base) (hip : ip < base) (hne : js ≠ ip) (L0 : List Seg) (hL0 : L0.length ≤ 401) (T0 : VF) (H0 : VH) (K : AEx → VF → VH → Prop)
    (hK : ∀ T h j v, (∀ k, k < 63 → k ≠ 13 → qzr T k = qzr T0 k) → qzr h.l ip = some (some (.cells [.int .i64 0, .int .i64 0, v, .bool false] false)) → xzW base h j cSeg (L0 ++ List.replicate 400 s) 7 v → (∀ k, k < base → k ≠ ip → qzr h.l k = qzr H0.l k) → base ≤ h.next → K (.exit 5) T h)
    (u1 : qzr T0 12 = some (.ptr ip 0)) (u2 : qzr T0 6 = some (.ptr js 0)) (hs : qzr H0.l js = some (some (.cells (cSeg s) false))) :
    ∀ (d i : Nat) (T : VF) (h : VH) (j : Nat) (v : VV), d + i = 400 → (∀ k, k < 63 → k ≠ 13 → qzr T k = qzr T0 k) → qzr T 13 = some (.int .i64 i) → qzr h.l ip = some (some (.cells [.int .i64 0, .int .i64 0, v, .bool false] false)) → xzW base h j cSeg (L0 ++ List.replicate i s) 7 v → (∀ k, k < base → k ≠ ip → qzr h.l k = qzr H0.l k) → base ≤ h.next →
    wp Go.VL.Er.E Gl (.loop c_glyphiclaw5_IconLimits_l5) T h K := by
  intro d
  induction d with
  | zero =>
    intro i T h j v hd hT tc i0 q fr hn
    obtain rfl : i = 400 := by omega
    have c : ¬ (((400 : Nat) : Int) < 400) := by omega
    refine xzo c_glyphiclaw5_IconLimits_l5.eq_1 ?_
    simp only [qzx, qzm, qzp, qzA, qzZ, qzs, qzj, qzi, xze, qzY, qzf, qze, qzd, qzq, qzc, qzb, qzg, qzh, qzn, qzo, qzu, qza, qzt, qzw, qzy, cv, qzI, qzJ, toA, ofA, FR.pop, abin, intBin, ↓reduceIte, Nat.reduceEqDiff, true_and, Bool.false_eq_true, decide_false, forall_const, false_implies, tc, c]
    refine hK _ _ j v (fun k q1 q2 => ?_) i0 q fr hn
    simp only [qza]
    (repeat rw [if_neg (by omega)])
    exact hT k q1 q2
  | succ d ih =>
    intro i T h j v hd hT tc i0 q fr hn
    have t1 := (hT 12 (by omega) (by omega)).trans u1
    have t2 := (hT 6 (by omega) (by omega)).trans u2
    have c : (i : Int) < 400 := by omega
    have is0 := (fr js hib hne).trans hs
    have hw : IntKind.i64.wrap ((i : Int) + 1) = ((i + 1 : Nat) : Int) := by rw [xzj (by omega) (by omega)]; rfl
    have y0 : ¬ h.next = ip := by omega
    have y1 : ¬ h.next = js := by omega
    have ll : (L0 ++ List.replicate i s).length ≤ 900 := by rw [List.length_append, List.length_replicate]; omega
    refine xzo c_glyphiclaw5_IconLimits_l5.eq_1 ?_
    simp only [qzx, qzm, qzp, qzA, qzZ, qzs, qzj, qzi, xze, qzY, qzf, qze, qzd, qzq, qzG, xzd, qzK, qzc, qzk, qzC, qzb, qzg, qzh, qzT, qzn, qzo, qzu, qza, qzt, qzw, qzy, qzL, qzM, qzF, xzi, xzr, qzS, qzE, cvs, cv, qzI, qzJ, toA, ofA, FR.pop, abin, intBin, VN.at, VH.push, qzl, VV.cells, ntV, ↓reduceIte, Option.getD_some, List.getElem?_cons_zero, List.getElem?_cons_succ, List.length_cons, List.length_nil, List.drop_succ_cons, List.drop_zero, List.take_succ_cons, List.take_zero, List.append_nil, List.nil_append, Nat.reduceAdd, Nat.reduceDiv, Nat.reduceEqDiff, Nat.reduceLeDiff, Nat.zero_add, and_self, and_true, decide_true, forall_const, false_implies, Bool.true_eq_false, cSeg, tc, c, t1, t2, i0, is0]
    have q' : xzW base ⟨(h.next, some (VB.cells (cSeg s) false)) :: h.l, h.next + 1⟩ j cSeg (L0 ++ List.replicate i s) 7 v := q.ext (by show h.next ≤ h.next + 1; omega) (fun x y => by simp only [qza]; rw [if_neg (by omega)])
    refine wpW_acc (base := base) (j := j) (f := cSeg) (l := L0 ++ List.replicate i s) (a := s) q' (by first | (simp only [qza, yza, yze, qzl, ↓reduceIte, Option.getD_some, List.length_cons, List.length_nil, List.drop_zero, List.take_succ_cons, List.take_zero, Nat.reduceAdd, Nat.reduceMul, reduceCtorEq, Nat.reduceLeDiff, Nat.zero_add, true_or, reduceCtorEq, true_or, cSeg]; done) | (simp only [qzx, qzm, xzM, qzp, qzA, qzZ, qzD, qzs, wpIf_true, wpIf_false, qzj, qzi, xze, qzR, xza, xzp, xzc, xzh, qzY, xzw, qzf, qze, qzd, xzf, qzq, qzG, xzd, qzK, qzz, xzN, xzu, xzq, wpXG_false, xzK, xzT, wpXA_n, xzS, xzP, Ends_n, qzH, qzc, qzk, qzC, qzb, qzQ, qzg, qzh, qzT, xzz, xzE, kXN_app, qzP, wpW_copy, wpW_mapUpd, wpW_mark, qzB, wpW_callV, qzn, qzo, qzu, qza, qzt, qzw, qzy, xzl, qzL, xzm, iAddrAV, fieldV, idxArrV, extV, mkIV, tAssV, xzn, lenArrV, xzX, slV, xzR, yzc, qzM, qzF, xzC, xzB, xzV, eqPV, eqSV, xzY, eqFV, eqMV, eqGV, inGl, xzF, eqBool, eqInt, eqStr, xzi, xzU, xzt, xzr, qzS, qzU, xzg, yza, lenOfV, yze, copyV, b2sV, s2bV, mkSliceV, qzE, cvs, cv, qzI, qzJ, toA, ofA, FR.pop, abin, aun, intBin, shiftBin, strBin, bnds, natOf, max2A, min2A, foldA, VN.at, VH.push, VH.set, VH.kill, VH.fix, VB.fix, qzl, h0, VV.cells, ntV, qzW, qzN, qzX, qzV, closedB, closedL, plainB, plainL, qzO, countN, xzI, lowB, fzB, fzL, xzQ, xzZ, xzH, xzO, yzf, yzd, xzs, nilCmp, xzx, yzb, capMost, capDrop, ↓reduceIte, Option.getD_some, Option.getD_none, Option.isSome_some, Option.map_some, Option.map_none, List.getElem?_cons_zero, List.getElem?_cons_succ, List.length_cons, List.length_nil, List.drop_succ_cons, List.drop_zero, List.take_succ_cons, List.take_zero, List.append_nil, List.nil_append, List.cons_append, List.contains_cons, List.contains_nil, List.head?_cons, Nat.reduceAdd, Nat.reduceMul, Nat.reduceSub, Nat.reduceDiv, Nat.reduceLT, Nat.reduceEqDiff, reduceCtorEq, Nat.reduceLeDiff, Nat.reduceBEq, Int.reduceEq, Int.reduceLT, Int.reduceLE, Int.reduceBEq, Int.reduceGT, Nat.add_zero, Nat.zero_add, and_self, and_true, true_and, and_false, false_and, not_true_eq_false, not_false_eq_true, Bool.and_self, Bool.and_true, Bool.true_and, Bool.and_false, Bool.or_false, Bool.true_or, Bool.or_true, Bool.false_or, Bool.not_false, Bool.not_true, Bool.false_eq_true, beq_self_eq_true, bne_self_eq_false, beq_true, beq_false, decide_true, decide_false, true_or, if_true, if_false, forall_const, false_implies, true_implies, Bool.true_eq_false, reduceCtorEq, true_or, cSeg, cPt, cCl, cPath, cCmd, cPaint, cIcon, t_p_api_At, t_p_errors_errorString]; rfl)) cSeg_len (by omega) (by show base ≤ h.next + 1; omega) (by omega) (by omega) ?_
    intro h' g1 g2 g3
    simp only at g1 g2 g3
    rw [List.append_assoc, ← rep_snoc] at g3
    have fr1 : ∀ k, k < base → qzr h'.l k = qzr h.l k := fun k hk => by
      rw [g2 k (by omega) (q.ne (.inl hk))]; simp only [qza]; rw [if_neg (by omega)]
    have i0' := (fr1 ip hip).trans i0
    simp only [qzm, qzi, xza, xzh, qzf, qze, qzd, qzq, qzK, qzz, qzc, qzb, qzQ, qzg, qzh, qzP, qzn, qzo, qzu, qza, qzt, qzw, qzy, qzL, qzS, qzU, xzg, cv, qzI, qzJ, toA, ofA, FR.pop, abin, intBin, VH.set, qzl, VV.cells, ntV, qzO, xzs, ↓reduceIte, Option.getD_some, List.length_cons, List.length_nil, List.drop_succ_cons, List.drop_zero, List.take_succ_cons, List.take_zero, List.nil_append, List.cons_append, List.head?_cons, Nat.reduceAdd, Nat.reduceEqDiff, Nat.reduceLeDiff, Nat.zero_add, and_self, t1, tc, i0', hw]
    refine ih (i + 1) _ _ (h.next + 1) (.slice (h.next + 1) 0 ((L0 ++ List.replicate i s).length + 1) 7 (.toEnd 7)) (by omega) (fun k q1 q2 => ?_) ?_ ?_ ?_ (fun k q1 q2 => ?_) ?_
    · simp only [qza]
      (repeat rw [if_neg (by omega)])
      exact hT k q1 q2
    · simp only [qza, ↓reduceIte]
    · simp only [qza, ↓reduceIte]
    · exact g3.ext (Nat.le_refl _) (fun x y => by simp only [qza]; rw [if_neg (by omega)])
    · simp only [qza]
      rw [if_neg (Ne.symm q2), fr1 k q1]; exact fr k q1 q2
    · show base ≤ h'.next; omega

end
end Go.VL.Lm
