/- 'glyphiclaw5.IconLimits' answers true, whatever it is given. -/
import Derived.Test.YtbamfhdgikeneaaDoorLmB
namespace Go.VL.Lm
open Go.FR Go.IR Go.VL Go.VL.Er Go.VL.Color Go.VL.Wind Go.VL.Ic
noncomputable section
set_option linter.unusedSimpArgs false
set_option linter.unusedVariables false
set_option maxRecDepth 100000
set_option maxHeartbeats 1000000

theorem see_rfl {Gl : xzy} (hG : GlAll Gl) (k : Nat) (hk : k < 13) : xzJ Go.VL.Er.E Gl f_glyphicsee_Is [erP k, .int .i64 (101 + (k : Int))] (.bool true) := by
  have h := see_is hG (.bare k) hk (101 + (k : Int))
  simp only [ErrV.v, ErrV.f, decide_true] at h
  exact h
theorem fit_l (cs : List Cmd) (hl : cs.length < 1000000) (h : ∀ c ∈ cs, c.paths.length < 1000000 ∧ ∀ p ∈ c.paths, p.segs.length < 1000000) : (iconL cs).Fit := ⟨by simp, hl, h⟩

theorem lim_run {Gl : xzy} (hG : GlAll Gl) (which : Int) (over : Bool) :
    CallsV Go.VL.Er.E Gl f_glyphiclaw5_IconLimits [.int .i64 which, .bool over] h0 (fun v _ => v = .bool true) := by
  refine xzk E_glyphiclaw5_IconLimits ?_
  unfold c_glyphiclaw5_IconLimits r_glyphiclaw5_IconLimits
  simp only [xzG]
  obtain ⟨m, hm, hmo⟩ : ∃ m : Nat, m ≤ 1 ∧ (over = true ∧ m = 1 ∨ over = false ∧ m = 0) := by
    cases over
    · exact ⟨0, by omega, .inr ⟨rfl, rfl⟩⟩
    · exact ⟨1, by omega, .inl ⟨rfl, rfl⟩⟩
  obtain ⟨E, hE⟩ : ∃ E : Option Nat, (if m = 1 then some 5 else none) = E := ⟨_, rfl⟩
  have r0 := Int.lt_tmod_of_pos which (show (0:Int) < 4 by omega)
  have r1' := Int.tmod_lt_of_pos which (show (0:Int) < 4 by omega)
  obtain ⟨n, hn⟩ : ∃ n, (which.tmod 4 + 4).tmod 4 = n := ⟨_, rfl⟩
  have n0' : 0 ≤ n := by rw [← hn]; exact Int.tmod_nonneg _ (by omega)
  have n1' : n < 4 := by rw [← hn]; exact Int.tmod_lt_of_pos _ (by omega)
  have q1 : IntKind.i64.wrap (which.tmod 4) = which.tmod 4 := xzj (by omega) (by omega)
  have q2 : IntKind.i64.wrap (which.tmod 4 + 4) = which.tmod 4 + 4 := xzj (by omega) (by omega)
  have q3 : IntKind.i64.wrap n = n := xzj (by omega) (by omega)
  have hc : n = 0 ∨ n = 1 ∨ n = 2 ∨ n = 3 := by omega
  have k0 := check0 m hm
  have k1 := check1 m hm
  have k2 := check2 m hm
  have k3 := check3 m hm
  have pt0 := points0 m
  rw [hE] at k0 k1 k2 k3
  simp only [qzm, qzp, qzi, qzf, qze, qzd, qzq, qzK, qzc, qzb, qzg, qzh, qzB, qzn, qzo, qzu, qzt, qzw, qzy, cv, h0, Nat.zero_add, t_p_api_At, t_p_errors_errorString]
  refine xzb (first5_ok (icg_all hG)) rfl rfl ?_
  rcases hmo with ⟨rfl, hme⟩ | ⟨rfl, hme⟩
  case' inl => obtain rfl : some 5 = E := by rw [← hE, if_pos hme]
  case' inr => obtain rfl : none = E := by rw [← hE, if_neg (by omega)]
  all_goals
    rcases hc with rfl | rfl | rfl | rfl
    · simp only [qzx, qzm, qzp, qzA, qzD, qzs, qzj, qzi, qzR, qzf, qze, qzd, qzq, qzG, xzd, qzK, qzz, qzH, qzc, qzk, qzC, qzb, qzQ, qzg, qzh, qzT, qzP, qzn, qzo, qzu, qza, qzt, qzw, qzy, qzM, qzF, xzi, xzt, xzr, qzS, qzU, xzg, qzE, cvs, cv, qzI, qzJ, toA, ofA, FR.pop, abin, aun, intBin, VN.at, VH.push, VH.set, qzl, VV.cells, ntV, qzW, qzN, qzX, qzV, qzO, xzs, ↓reduceIte, Option.getD_some, List.length_cons, List.length_nil, List.drop_succ_cons, List.drop_zero, List.take_succ_cons, List.take_zero, List.append_nil, List.nil_append, List.cons_append, List.head?_cons, Nat.reduceAdd, Nat.reduceDiv, Nat.reduceEqDiff, reduceCtorEq, Nat.reduceLeDiff, Int.reduceEq, Int.reduceBEq, Nat.zero_add, and_self, and_true, true_and, Bool.not_true, Bool.false_eq_true, beq_self_eq_true, forall_const, false_implies, Bool.true_eq_false, reduceCtorEq, q2, hn]
      have fit := fit_l ((paths0 m).map fun p => fillC [p]) (by rw [List.length_map, paths0_len]; omega) (fun c hc => by
        obtain ⟨p, hp, rfl⟩ := List.mem_map.mp hc
        refine ⟨by simp only [List.length_cons, List.length_nil]; omega, fun q hq => ?_⟩
        rw [List.mem_singleton.mp hq]
        have := (pathS_none (mem_paths0 hm hp)).1
        omega)
      have ck := check_ok (Gl := Gl) (icg_all hG) (iconL ((paths0 m).map fun p => fillC [p])) fit
      rw [k0] at ck
      have pk := points_ok Gl (iconL ((paths0 m).map fun p => fillC [p])) fit.2.1 (fun c hc => ⟨(fit.2.2 c hc).1, fun p hp => ⟨(fit.2.2 c hc).2 p hp, fun s hs => by
        obtain ⟨p', hp', rfl⟩ := List.mem_map.mp hc
        rw [List.mem_singleton.mp hp] at hs
        have := segS_none ((pathS_none (mem_paths0 hm hp')).2.2.2.2 s hs)
        omega⟩⟩) (by rw [pt0]; omega)
      rw [pt0] at pk
      refine three_loop _ _ ?_ ?_ ?_ 3 0 _ _ 0 .nilS [] (by omega) (fun _ _ => rfl) ?_ ?_ rfl
      rotate_left
      · simp only [qza, ↓reduceIte, Nat.reduceEqDiff]
      · simp only [qza, ↓reduceIte, Nat.reduceEqDiff]
      · simp only [qza, ↓reduceIte]; rfl
      · exact ⟨by first | (simp only [qza, ↓reduceIte, Nat.reduceEqDiff]; done) | (simp only [qza, ↓reduceIte, Nat.reduceEqDiff]; rfl), xzW.nil, (fun x hx => by cases hx), Nat.le_refl _, by first | (simp only [qza, ↓reduceIte, reduceCtorEq, reduceCtorEq, cSeg]; done) | (simp only [qza, ↓reduceIte, reduceCtorEq, reduceCtorEq, cSeg]; rfl), by first | (simp only [qza, ↓reduceIte, Nat.reduceEqDiff, cSeg]; done) | (simp only [qza, ↓reduceIte, Nat.reduceEqDiff, cSeg]; rfl), by first | (simp only [qza, ↓reduceIte, Nat.reduceEqDiff, cCl]; done) | (simp only [qza, ↓reduceIte, Nat.reduceEqDiff, cCl]; rfl), by first | (simp only [qza, ↓reduceIte, Nat.reduceEqDiff, cSeg]; done) | (simp only [qza, ↓reduceIte, Nat.reduceEqDiff, cSeg]; rfl), by first | (simp only [qza, ↓reduceIte]; done) | (simp only [qza, ↓reduceIte]; rfl)⟩
      intro T1 h1 j1 v1 l hT1 st hl
      have a1 := hT1 1 (by omega)
      have a5 := hT1 5 (by omega)
      have a6 := hT1 6 (by omega)
      have a7 := hT1 7 (by omega)
      have a8 := hT1 8 (by omega)
      have a9 := hT1 9 (by omega)
      simp only [qza, ↓reduceIte, Nat.reduceEqDiff, reduceCtorEq, reduceCtorEq] at a1 a5 a6 a7 a8 a9
      have n := st.n
      have ll : l.length = 3 := by have := congrArg List.length hl; rw [List.length_map, List.length_replicate] at this; exact this
      simp only [qzm, qzp, qzA, qzi, xzp, qzf, qze, qzd, qzq, xzd, qzK, qzz, qzc, qzC, qzb, qzQ, qzg, qzh, qzT, qzP, qzn, qzo, qzu, qza, qzt, qzw, qzy, xzi, xzt, xzr, qzS, qzU, xzg, cvs, cv, VN.at, VH.push, VH.set, qzl, VV.cells, ntV, qzO, xzs, ↓reduceIte, Option.getD_some, List.length_cons, List.length_nil, List.drop_succ_cons, List.drop_zero, List.take_zero, List.append_nil, List.nil_append, List.head?_cons, Nat.reduceAdd, Nat.reduceEqDiff, Nat.reduceLeDiff, Nat.zero_add, and_self]
      have st1 := st.move (h' := ⟨(h1.next, some (VB.cells (pC .nilS) false)) :: (h1.next, some (VB.cells (pC .nilS) false)) :: h1.l, h1.next + 1⟩) (by show h1.next ≤ h1.next + 1; omega) (fun k k1 => by simp only [qza]; rw [if_neg (by omega), if_neg (by omega)])
      refine seg_loop4 cubS 0 h1.next (h1.next + 1) (by omega) (by omega) (by omega) [] (by simp) _ ⟨(h1.next, some (VB.cells (pC .nilS) false)) :: (h1.next, some (VB.cells (pC .nilS) false)) :: h1.l, h1.next + 1⟩ _ ?_ ?_ ?_ st1.b0 131 0 _ _ 0 .nilS (by omega) (fun _ _ _ => rfl) ?_ ?_ ?_ (fun _ _ _ => rfl) (Nat.le_refl _)
      rotate_left
      · simp only [qza, ↓reduceIte, Nat.reduceEqDiff]
      · simp only [qza, ↓reduceIte, Nat.reduceEqDiff, a6]
      · simp only [qza, ↓reduceIte]; rfl
      · first | (simp only [qza, ↓reduceIte]; done) | (simp only [qzx, qzm, xzM, qzp, qzA, qzZ, qzD, qzs, wpIf_true, wpIf_false, qzj, qzi, xze, qzR, xza, xzp, xzc, xzh, qzY, xzw, qzf, qze, qzd, xzf, qzq, qzG, xzd, qzK, qzz, xzN, xzu, xzq, wpXG_false, xzK, xzT, wpXA_n, xzS, xzP, Ends_n, qzH, qzc, qzk, qzC, qzb, qzQ, qzg, qzh, qzT, xzz, xzE, kXN_app, qzP, wpW_copy, wpW_mapUpd, wpW_mark, qzB, wpW_callV, qzn, qzo, qzu, qza, qzt, qzw, qzy, xzl, qzL, xzm, iAddrAV, fieldV, idxArrV, extV, mkIV, tAssV, xzn, lenArrV, xzX, slV, xzR, yzc, qzM, qzF, xzC, xzB, xzV, eqPV, eqSV, xzY, eqFV, eqMV, eqGV, inGl, xzF, eqBool, eqInt, eqStr, xzi, xzU, xzt, xzr, qzS, qzU, xzg, yza, lenOfV, yze, copyV, b2sV, s2bV, mkSliceV, qzE, cvs, cv, qzI, qzJ, toA, ofA, FR.pop, abin, aun, intBin, shiftBin, strBin, bnds, natOf, max2A, min2A, foldA, VN.at, VH.push, VH.set, VH.kill, VH.fix, VB.fix, qzl, h0, VV.cells, ntV, qzW, qzN, qzX, qzV, closedB, closedL, plainB, plainL, qzO, countN, xzI, lowB, fzB, fzL, xzQ, xzZ, xzH, xzO, yzf, yzd, xzs, nilCmp, xzx, yzb, capMost, capDrop, ↓reduceIte, Option.getD_some, Option.getD_none, Option.isSome_some, Option.map_some, Option.map_none, List.getElem?_cons_zero, List.getElem?_cons_succ, List.length_cons, List.length_nil, List.drop_succ_cons, List.drop_zero, List.take_succ_cons, List.take_zero, List.append_nil, List.nil_append, List.cons_append, List.contains_cons, List.contains_nil, List.head?_cons, Nat.reduceAdd, Nat.reduceMul, Nat.reduceSub, Nat.reduceDiv, Nat.reduceLT, Nat.reduceEqDiff, reduceCtorEq, Nat.reduceLeDiff, Nat.reduceBEq, Int.reduceEq, Int.reduceLT, Int.reduceLE, Int.reduceBEq, Int.reduceGT, Nat.add_zero, Nat.zero_add, and_self, and_true, true_and, and_false, false_and, not_true_eq_false, not_false_eq_true, Bool.and_self, Bool.and_true, Bool.true_and, Bool.and_false, Bool.or_false, Bool.true_or, Bool.or_true, Bool.false_or, Bool.not_false, Bool.not_true, Bool.false_eq_true, beq_self_eq_true, bne_self_eq_false, beq_true, beq_false, decide_true, decide_false, true_or, if_true, if_false, forall_const, false_implies, true_implies, Bool.true_eq_false, reduceCtorEq, true_or, cSeg, cPt, cCl, cPath, cCmd, cPaint, cIcon, t_p_api_At, t_p_errors_errorString]; rfl)
      · exact xzW.nil
      intro T2 h2 j2 v2 hT2 i2 q2' fr2 hn2
      rw [List.nil_append] at q2'
      have b1 := hT2 1 (by omega) (by omega)
      have b5 := hT2 5 (by omega) (by omega)
      have b7 := hT2 7 (by omega) (by omega)
      have b8 := hT2 8 (by omega) (by omega)
      have b9 := hT2 9 (by omega) (by omega)
      have b14 := hT2 14 (by omega) (by omega)
      simp only [qza, ↓reduceIte, Nat.reduceEqDiff, a1, a5, a7, a8, a9] at b1 b5 b7 b8 b9 b14
      have st2 := st.move (h' := h2) (by omega) (fun k k1 => by
        rw [fr2 k (by omega) (by omega)]; simp only [qza]; rw [if_neg (by omega), if_neg (by omega)])
      simp only [qzm, qzp, qzA, qzi, xzp, qzf, qze, qzd, qzq, qzc, qzb, qzg, qzh, qzn, qzo, qzu, qzt, qzw, qzy, cv, ↓reduceIte]
      refine seg_loop3 lineS 1 h1.next (h1.next + 1) (by omega) (by omega) (by omega) m hm (List.replicate 131 cubS) (by rw [List.length_replicate]; omega) _ h2 _ ?_ ?_ ?_ ?_ st2.b1 (3 + m) 0 _ _ j2 v2 (by omega) (fun _ _ _ => rfl) ?_ i2 (by rw [List.replicate_zero, List.append_nil]; exact q2') (fun _ _ _ => rfl) hn2
      rotate_left
      · simp only [qza, ↓reduceIte, Nat.reduceEqDiff, b14]
      · simp only [qza, ↓reduceIte, Nat.reduceEqDiff, b7]
      · first | (simp only [qza, ↓reduceIte, Nat.reduceEqDiff, b9, hme]; done) | (simp only [qza, ↓reduceIte, Nat.reduceEqDiff, b9, hme]; rfl)
      · simp only [qza, ↓reduceIte]; rfl
      intro T3 h3 j3 v3 hT3 i3' q3' fr3 hn3
      have c1 := hT3 1 (by omega) (by omega)
      have c5 := hT3 5 (by omega) (by omega)
      have c8 := hT3 8 (by omega) (by omega)
      have c9 := hT3 9 (by omega) (by omega)
      have c14 := hT3 14 (by omega) (by omega)
      simp only [qza, ↓reduceIte, Nat.reduceEqDiff, b1, b5, b8, b9, b14] at c1 c5 c8 c9 c14
      have c9' : qzr T3 9 = some (VV.int .i64 (m : Int)) := by rw [c9, hme]; rfl
      have st3 := st.move (h' := h3) (by omega) (fun k k1 => by
        rw [fr3 k (by omega) (by omega), fr2 k (by omega) (by omega)]; simp only [qza]; rw [if_neg (by omega), if_neg (by omega)])
      have q4' : xzW (h1.next + 1) h3 j3 cSeg (segs0 m) 7 v3 := q3'
      have sl := segs0_len m
      obtain ⟨rfl, x3, x4, x5⟩ := q4'.some (fun e => by rw [e, List.length_nil] at sl; omega)
      have n3 := st3.n
      have ic3 := st3.ic
      have y3 : ¬ h3.next = 3 := by omega
      have y6 : ¬ h3.next + 1 = 3 := by omega
      have y4 : ¬ h3.next = h1.next := by omega
      unfold iC at ic3
      simp only [qzm, qzp, qzi, xzp, qze, qzd, qzq, qzG, xzd, qzK, qzc, qzk, qzC, qzb, qzg, qzh, qzT, qzn, qzo, qzu, qza, qzt, qzw, qzL, qzM, qzF, xzi, xzt, xzr, qzS, qzE, cvs, cv, VN.at, VH.push, qzl, VV.cells, ntV, ↓reduceIte, Option.getD_some, List.getElem?_cons_zero, List.getElem?_cons_succ, List.length_cons, List.length_nil, List.drop_succ_cons, List.drop_zero, List.take_succ_cons, List.take_zero, List.append_nil, List.nil_append, List.cons_append, Nat.reduceAdd, Nat.reduceDiv, Nat.reduceEqDiff, Nat.reduceLeDiff, Nat.zero_add, and_self, c8, c14, i3', ic3]
      have q' : xzW 6 ⟨(h3.next + 1, some (VB.cells (fC h3.next) false)) :: (h3.next, some (VB.cells (pC (.slice j3 0 (segs0 m).length 7 (.toEnd 7))) false)) :: h3.l, h3.next + 1 + 1⟩ j1 (fun x : Nat × List Seg => fC x.1) l 11 v1 := st3.ac.ext (by show h3.next ≤ h3.next + 1 + 1; omega) (fun x y => by simp only [qza]; rw [if_neg (by omega), if_neg (by omega)])
      refine wpW_acc (base := 6) (j := j1) (f := fun x : Nat × List Seg => fC x.1) (l := l) (a := (h3.next, segs0 m)) q' (by unfold fC; first | (simp only [qza, yza, yze, qzl, ↓reduceIte, Option.getD_some, List.length_cons, List.length_nil, List.drop_zero, List.take_succ_cons, List.take_zero, Nat.reduceAdd, Nat.reduceMul, reduceCtorEq, Nat.reduceLeDiff, Nat.zero_add, true_or, reduceCtorEq, true_or]; done) | (simp only [qzx, qzm, xzM, qzp, qzA, qzZ, qzD, qzs, wpIf_true, wpIf_false, qzj, qzi, xze, qzR, xza, xzp, xzc, xzh, qzY, xzw, qzf, qze, qzd, xzf, qzq, qzG, xzd, qzK, qzz, xzN, xzu, xzq, wpXG_false, xzK, xzT, wpXA_n, xzS, xzP, Ends_n, qzH, qzc, qzk, qzC, qzb, qzQ, qzg, qzh, qzT, xzz, xzE, kXN_app, qzP, wpW_copy, wpW_mapUpd, wpW_mark, qzB, wpW_callV, qzn, qzo, qzu, qza, qzt, qzw, qzy, xzl, qzL, xzm, iAddrAV, fieldV, idxArrV, extV, mkIV, tAssV, xzn, lenArrV, xzX, slV, xzR, yzc, qzM, qzF, xzC, xzB, xzV, eqPV, eqSV, xzY, eqFV, eqMV, eqGV, inGl, xzF, eqBool, eqInt, eqStr, xzi, xzU, xzt, xzr, qzS, qzU, xzg, yza, lenOfV, yze, copyV, b2sV, s2bV, mkSliceV, qzE, cvs, cv, qzI, qzJ, toA, ofA, FR.pop, abin, aun, intBin, shiftBin, strBin, bnds, natOf, max2A, min2A, foldA, VN.at, VH.push, VH.set, VH.kill, VH.fix, VB.fix, qzl, h0, VV.cells, ntV, qzW, qzN, qzX, qzV, closedB, closedL, plainB, plainL, qzO, countN, xzI, lowB, fzB, fzL, xzQ, xzZ, xzH, xzO, yzf, yzd, xzs, nilCmp, xzx, yzb, capMost, capDrop, ↓reduceIte, Option.getD_some, Option.getD_none, Option.isSome_some, Option.map_some, Option.map_none, List.getElem?_cons_zero, List.getElem?_cons_succ, List.length_cons, List.length_nil, List.drop_succ_cons, List.drop_zero, List.take_succ_cons, List.take_zero, List.append_nil, List.nil_append, List.cons_append, List.contains_cons, List.contains_nil, List.head?_cons, Nat.reduceAdd, Nat.reduceMul, Nat.reduceSub, Nat.reduceDiv, Nat.reduceLT, Nat.reduceEqDiff, reduceCtorEq, Nat.reduceLeDiff, Nat.reduceBEq, Int.reduceEq, Int.reduceLT, Int.reduceLE, Int.reduceBEq, Int.reduceGT, Nat.add_zero, Nat.zero_add, and_self, and_true, true_and, and_false, false_and, not_true_eq_false, not_false_eq_true, Bool.and_self, Bool.and_true, Bool.true_and, Bool.and_false, Bool.or_false, Bool.true_or, Bool.or_true, Bool.false_or, Bool.not_false, Bool.not_true, Bool.false_eq_true, beq_self_eq_true, bne_self_eq_false, beq_true, beq_false, decide_true, decide_false, true_or, if_true, if_false, forall_const, false_implies, true_implies, Bool.true_eq_false, reduceCtorEq, true_or, cSeg, cPt, cCl, cPath, cCmd, cPaint, cIcon, t_p_api_At, t_p_errors_errorString]; rfl)) (fun _ => rfl) (by omega) (by show 6 ≤ h3.next + 1 + 1; omega) (by omega) (by omega) ?_
      intro h' g1 g2 g3
      simp only at g1 g2 g3
      have jne : j3 ≠ j1 ∨ v1 = .nilS := by
        rcases st.ac with ⟨_, e⟩ | ⟨_, _, _, e⟩
        · exact .inr e
        · exact .inl (by omega)
      have sa := st3.add (S := segs0 m) (vs := .slice j3 0 (segs0 m).length 7 (.toEnd 7)) ⟨j3, .toEnd 7, rfl, by simp [yzb], x3, x5, jne, by omega⟩ g1 g2 g3
      have i3'' : qzr h'.l 3 = some (some (.cells (iC v1) false)) := by
        rw [g2 3 (by omega) (st3.ac.ne (.inl (by omega)))]
        simp only [qza]; rw [if_neg (by omega), if_neg (by omega)]; exact st3.ic
      unfold iC at i3''
      have sh := sa.shut
      have e : ((l ++ [(h3.next, segs0 m)]).map fun x => fillC [pathL x.2]) = (paths0 m).map fun p => fillC [p] := by
        have e1 : (l.map fun x => fillC [pathL x.2]) = (l.map (·.2)).map fun S => fillC [pathL S] := by rw [List.map_map]; rfl
        rw [List.map_append, e1, hl, List.map_replicate]
        unfold paths0
        rw [List.map_append, List.map_replicate]; rfl
      rw [e] at sh
      have wm : IntKind.i64.wrap (4000 + (m : Int)) = 4000 + (m : Int) := xzj (by omega) (by omega)
      simp only [qzm, qzp, qzi, qzf, qze, qzd, qzq, qzG, qzK, qzz, qzc, qzk, qzb, qzQ, qzg, qzh, qzP, qzB, qzn, qzo, qzu, qza, qzt, qzw, qzL, qzM, qzF, qzS, qzU, xzg, qzE, VH.set, qzl, VV.cells, ntV, qzO, xzs, ↓reduceIte, Option.getD_some, List.length_cons, List.length_nil, List.drop_succ_cons, List.drop_zero, List.take_succ_cons, List.take_zero, List.append_nil, List.nil_append, List.cons_append, List.head?_cons, Nat.reduceAdd, Nat.reduceEqDiff, Nat.reduceLeDiff, Nat.zero_add, and_self, c8, i3'']
      refine call_deepL pk sh rfl ?_
      simp only [qzx, qzm, qzp, qzD, qzs, qzj, qzi, qzR, xza, xzc, qzf, qze, qzd, qzq, qzG, qzK, qzz, qzH, qzc, qzk, qzb, qzg, qzh, qzB, qzn, qzo, qzu, qza, qzt, qzw, qzy, qzM, qzF, qzE, cv, qzI, qzJ, toA, ofA, FR.pop, abin, intBin, qzl, qzW, qzN, qzX, qzV, ↓reduceIte, Option.getD_some, List.length_cons, List.length_nil, List.drop_zero, List.take_succ_cons, List.take_zero, Nat.reduceAdd, Nat.reduceEqDiff, Nat.reduceLeDiff, Nat.zero_add, true_and, Bool.false_eq_true, bne_self_eq_false, forall_const, false_implies, c8, c9', wm]
      first
      | refine call_deepL (v := erP 5) ck sh rfl ?_
      | refine call_deepL (v := .nilI) ck sh rfl ?_
      simp only [qzm, qzp, qzD, qzi, qzf, qze, qzd, xzf, qzq, qzG, qzK, qzz, qzH, qzc, qzk, qzb, qzg, qzh, qzB, qzn, qzo, qzu, qza, qzt, qzw, qzy, xzl, qzM, xzC, xzB, xzY, cv, qzI, qzJ, toA, ofA, FR.pop, aun, qzW, qzN, qzX, qzV, qzO, ↓reduceIte, Nat.reduceEqDiff, Bool.not_false, Bool.false_eq_true, beq_self_eq_true, beq_true, c1, c5]
      all_goals
        refine xzb (see_rfl hG 5 (by omega)) rfl rfl ?_
        simp only [qzD, qzi, qzf, qze, qzd, xzf, qzq, qzz, qzH, qzc, qzb, qzg, qzh, qzn, qzo, qzu, qza, qzt, qzw, qzy, xzl, cv, qzW, qzN, qzX, qzV, qzO, ↓reduceIte, Nat.reduceEqDiff, Bool.not_true, beq_self_eq_true, beq_false]
    · simp only [qzx, qzm, qzp, qzA, qzD, qzs, qzj, qzi, qzR, qzf, qze, qzd, qzq, qzG, xzd, qzK, qzz, qzH, qzc, qzk, qzC, qzb, qzQ, qzg, qzh, qzT, qzP, qzn, qzo, qzu, qza, qzt, qzw, qzy, qzM, qzF, xzi, xzt, xzr, qzS, qzU, xzg, qzE, cvs, cv, qzI, qzJ, toA, ofA, FR.pop, abin, aun, intBin, VN.at, VH.push, VH.set, qzl, VV.cells, ntV, qzW, qzN, qzX, qzV, qzO, xzs, ↓reduceIte, Option.getD_some, List.length_cons, List.length_nil, List.drop_succ_cons, List.drop_zero, List.take_succ_cons, List.take_zero, List.append_nil, List.nil_append, List.cons_append, List.head?_cons, Nat.reduceAdd, Nat.reduceDiv, Nat.reduceEqDiff, reduceCtorEq, Nat.reduceLeDiff, Int.reduceEq, Int.reduceBEq, Nat.zero_add, and_self, and_true, true_and, Bool.not_true, Bool.false_eq_true, beq_self_eq_true, forall_const, false_implies, Bool.true_eq_false, reduceCtorEq, q2, hn]
      have ck := check_ok (Gl := Gl) (icg_all hG) (iconL [fillC (List.replicate (200 + m) (pathL [lineS]))]) (fit_l _ (by simp only [List.length_cons, List.length_nil]; omega) (fun c hc => by rw [List.mem_singleton.mp hc]; exact ⟨by simp only [List.length_replicate]; omega, fun p hp => by rw [List.eq_of_mem_replicate hp]; simp only [List.length_cons, List.length_nil]; omega⟩))
      rw [k1] at ck
      refine path_loop m hm (.slice 4 0 1 7 (.exact 1)) _ _ _ ?_ ?_ ?_ ?_ ?_ (200 + m) 0 _ _ 0 .nilS (by omega) (fun _ _ _ => rfl) ?_ ?_ xzW.nil (fun _ _ => rfl) (Nat.le_refl _)
      rotate_left
      · first | (simp only [qza, ↓reduceIte, Nat.reduceEqDiff, hme]; done) | (simp only [qza, ↓reduceIte, Nat.reduceEqDiff, hme]; rfl)
      · simp only [qza, ↓reduceIte, Nat.reduceEqDiff]
      · simp only [qza, ↓reduceIte, Nat.reduceEqDiff]
      · first | (simp only [qza, ↓reduceIte, Nat.reduceEqDiff]; done) | (simp only [qza, ↓reduceIte, Nat.reduceEqDiff]; rfl)
      · simp only [qza, ↓reduceIte]; rfl
      · first | (simp only [qza, ↓reduceIte]; done) | (simp only [qzx, qzm, xzM, qzp, qzA, qzZ, qzD, qzs, wpIf_true, wpIf_false, qzj, qzi, xze, qzR, xza, xzp, xzc, xzh, qzY, xzw, qzf, qze, qzd, xzf, qzq, qzG, xzd, qzK, qzz, xzN, xzu, xzq, wpXG_false, xzK, xzT, wpXA_n, xzS, xzP, Ends_n, qzH, qzc, qzk, qzC, qzb, qzQ, qzg, qzh, qzT, xzz, xzE, kXN_app, qzP, wpW_copy, wpW_mapUpd, wpW_mark, qzB, wpW_callV, qzn, qzo, qzu, qza, qzt, qzw, qzy, xzl, qzL, xzm, iAddrAV, fieldV, idxArrV, extV, mkIV, tAssV, xzn, lenArrV, xzX, slV, xzR, yzc, qzM, qzF, xzC, xzB, xzV, eqPV, eqSV, xzY, eqFV, eqMV, eqGV, inGl, xzF, eqBool, eqInt, eqStr, xzi, xzU, xzt, xzr, qzS, qzU, xzg, yza, lenOfV, yze, copyV, b2sV, s2bV, mkSliceV, qzE, cvs, cv, qzI, qzJ, toA, ofA, FR.pop, abin, aun, intBin, shiftBin, strBin, bnds, natOf, max2A, min2A, foldA, VN.at, VH.push, VH.set, VH.kill, VH.fix, VB.fix, qzl, h0, VV.cells, ntV, qzW, qzN, qzX, qzV, closedB, closedL, plainB, plainL, qzO, countN, xzI, lowB, fzB, fzL, xzQ, xzZ, xzH, xzO, yzf, yzd, xzs, nilCmp, xzx, yzb, capMost, capDrop, ↓reduceIte, Option.getD_some, Option.getD_none, Option.isSome_some, Option.map_some, Option.map_none, List.getElem?_cons_zero, List.getElem?_cons_succ, List.length_cons, List.length_nil, List.drop_succ_cons, List.drop_zero, List.take_succ_cons, List.take_zero, List.append_nil, List.nil_append, List.cons_append, List.contains_cons, List.contains_nil, List.head?_cons, Nat.reduceAdd, Nat.reduceMul, Nat.reduceSub, Nat.reduceDiv, Nat.reduceLT, Nat.reduceEqDiff, reduceCtorEq, Nat.reduceLeDiff, Nat.reduceBEq, Int.reduceEq, Int.reduceLT, Int.reduceLE, Int.reduceBEq, Int.reduceGT, Nat.add_zero, Nat.zero_add, and_self, and_true, true_and, and_false, false_and, not_true_eq_false, not_false_eq_true, Bool.and_self, Bool.and_true, Bool.true_and, Bool.and_false, Bool.or_false, Bool.true_or, Bool.or_true, Bool.false_or, Bool.not_false, Bool.not_true, Bool.false_eq_true, beq_self_eq_true, bne_self_eq_false, beq_true, beq_false, decide_true, decide_false, true_or, if_true, if_false, forall_const, false_implies, true_implies, Bool.true_eq_false, reduceCtorEq, true_or, cSeg, cPt, cCl, cPath, cCmd, cPaint, cIcon, t_p_api_At, t_p_errors_errorString]; rfl)
      intro T2 h2 j2 v2 hT2 i6 q2' fr2 hn2
      have lr : (List.replicate (200 + m) ()).length = 200 + m := List.length_replicate
      obtain ⟨rfl, x3, x4, x5⟩ := q2'.some (rep_ne (by omega))
      rw [lr] at i6
      have w1 := hT2 1 (by omega) (by omega)
      have w5 := hT2 5 (by omega) (by omega)
      have w8 := hT2 8 (by omega) (by omega)
      have w17 := hT2 17 (by omega) (by omega)
      have i3 := fr2 3 (by omega)
      have ib := fr2 2 (by omega)
      have i4 := fr2 4 (by omega)
      simp only [qza, ↓reduceIte, Nat.reduceEqDiff, reduceCtorEq, reduceCtorEq] at w1 w5 w8 w17 i3 ib i4
      have y0 : ¬ h2.next = 3 := by omega
      have y3 : ¬ 3 = h2.next := by omega
      have y5 : ¬ h2.next = 2 := by omega
      have y6 : ¬ h2.next = 4 := by omega
      have y7 : ¬ 3 = j2 := by omega
      have y8 : ¬ h2.next = j2 := by omega
      have y10 : ¬ 3 = 2 := by omega
      have y11 : ¬ 3 = 4 := by omega
      simp only [qzm, qzp, qzi, xza, xzp, qzf, qze, qzd, qzq, qzG, xzd, qzK, qzz, qzc, qzk, qzC, qzb, qzQ, qzg, qzh, qzT, qzP, qzB, qzn, qzo, qzu, qza, qzt, qzw, qzL, qzM, qzF, xzi, xzr, qzS, qzU, xzg, qzE, cvs, cv, VN.at, VH.push, VH.set, qzl, VV.cells, ntV, qzO, xzs, ↓reduceIte, Option.getD_some, List.length_cons, List.length_nil, List.drop_succ_cons, List.drop_zero, List.take_succ_cons, List.take_zero, List.append_nil, List.nil_append, List.cons_append, List.head?_cons, Nat.reduceAdd, Nat.reduceDiv, Nat.reduceEqDiff, Nat.reduceLeDiff, Nat.zero_add, and_self, w8, w17, i3, i6, y0]
      have fe : xzA (fun _ : Unit => cPath (pathL [lineS])) (List.replicate (200 + m) ()) = xzA cPath (List.replicate (200 + m) (pathL [lineS])) := by
        unfold xzA; rw [List.map_replicate, List.map_replicate]
      first
      | refine call_deepL (v := erP 5) ck (shut_icon (shut_cols [⟨0, 0, 0, 0⟩] (by first | (simp only [qza, qzl, ↓reduceIte, Option.getD_some, ib, y5, y10]; done) | (simp only [qza, qzl, ↓reduceIte, Option.getD_some, ib, y5, y10]; rfl)) rfl (Nat.le_refl _)) (shut_cmds1 (fillC (List.replicate (200 + m) (pathL [lineS]))) (by first | (simp only [qza, qzl, ↓reduceIte, Option.getD_some, y3]; done) | (simp only [qza, qzl, ↓reduceIte, Option.getD_some, y3]; rfl)) (by rw [List.length_replicate, ← fe]; exact xzL.whole (cs := xzA (fun _ : Unit => pC (.slice 4 0 1 7 (.exact 1))) (List.replicate (200 + m) ())) (by first | (simp only [qza, qzl, ↓reduceIte, Option.getD_some, y7, y8, x3]; done) | (simp only [qza, qzl, ↓reduceIte, Option.getD_some, y7, y8, x3]; rfl)) (by rw [flatL_length (fun _ => rfl) (n := 4), lr]) (by simp [yzb]) (xzD.flat (fun _ _ => xzD.cons (xzL.closed rfl) (xzD.cons (xzL.closed rfl) (xzD.cons (shut_segs1 lineS (by first | (simp only [qza, qzl, ↓reduceIte, Option.getD_some, cSeg, i4, y6, y11]; done) | (simp only [qza, qzl, ↓reduceIte, Option.getD_some, cSeg, i4, y6, y11]; rfl))) (xzD.cons (xzL.closed rfl) xzD.nil)))))))) rfl ?_
      | refine call_deepL (v := .nilI) ck (shut_icon (shut_cols [⟨0, 0, 0, 0⟩] (by first | (simp only [qza, qzl, ↓reduceIte, Option.getD_some, ib, y5, y10]; done) | (simp only [qza, qzl, ↓reduceIte, Option.getD_some, ib, y5, y10]; rfl)) rfl (Nat.le_refl _)) (shut_cmds1 (fillC (List.replicate (200 + m) (pathL [lineS]))) (by first | (simp only [qza, qzl, ↓reduceIte, Option.getD_some, y3]; done) | (simp only [qza, qzl, ↓reduceIte, Option.getD_some, y3]; rfl)) (by rw [List.length_replicate, ← fe]; exact xzL.whole (cs := xzA (fun _ : Unit => pC (.slice 4 0 1 7 (.exact 1))) (List.replicate (200 + m) ())) (by first | (simp only [qza, qzl, ↓reduceIte, Option.getD_some, y7, y8, x3]; done) | (simp only [qza, qzl, ↓reduceIte, Option.getD_some, y7, y8, x3]; rfl)) (by rw [flatL_length (fun _ => rfl) (n := 4), lr]) (by simp [yzb]) (xzD.flat (fun _ _ => xzD.cons (xzL.closed rfl) (xzD.cons (xzL.closed rfl) (xzD.cons (shut_segs1 lineS (by first | (simp only [qza, qzl, ↓reduceIte, Option.getD_some, cSeg, i4, y6, y11]; done) | (simp only [qza, qzl, ↓reduceIte, Option.getD_some, cSeg, i4, y6, y11]; rfl))) (xzD.cons (xzL.closed rfl) xzD.nil)))))))) rfl ?_
      simp only [qzm, qzp, qzD, qzi, qzf, qze, qzd, xzf, qzq, qzG, qzK, qzz, qzH, qzc, qzk, qzb, qzg, qzh, qzB, qzn, qzo, qzu, qza, qzt, qzw, qzy, xzl, qzM, xzC, xzB, xzY, cv, qzI, qzJ, toA, ofA, FR.pop, aun, qzW, qzN, qzX, qzV, qzO, ↓reduceIte, Nat.reduceEqDiff, Bool.not_false, Bool.false_eq_true, beq_self_eq_true, beq_true, w1, w5]
      all_goals
        refine xzb (see_rfl hG 5 (by omega)) rfl rfl ?_
        simp only [qzD, qzi, qzf, qze, qzd, xzf, qzq, qzz, qzH, qzc, qzb, qzg, qzh, qzn, qzo, qzu, qza, qzt, qzw, qzy, xzl, cv, qzW, qzN, qzX, qzV, qzO, ↓reduceIte, Nat.reduceEqDiff, Bool.not_true, beq_self_eq_true, beq_false]
    · simp only [qzx, qzm, qzp, qzA, qzD, qzs, qzj, qzi, qzR, qzf, qze, qzd, qzq, qzG, xzd, qzK, qzz, qzH, qzc, qzk, qzC, qzb, qzQ, qzg, qzh, qzT, qzP, qzn, qzo, qzu, qza, qzt, qzw, qzy, qzM, qzF, xzi, xzt, xzr, qzS, qzU, xzg, qzE, cvs, cv, qzI, qzJ, toA, ofA, FR.pop, abin, aun, intBin, VN.at, VH.push, VH.set, qzl, VV.cells, ntV, qzW, qzN, qzX, qzV, qzO, xzs, ↓reduceIte, Option.getD_some, List.length_cons, List.length_nil, List.drop_succ_cons, List.drop_zero, List.take_succ_cons, List.take_zero, List.append_nil, List.nil_append, List.cons_append, List.head?_cons, Nat.reduceAdd, Nat.reduceDiv, Nat.reduceEqDiff, reduceCtorEq, Nat.reduceLeDiff, Int.reduceEq, Int.reduceBEq, Nat.zero_add, and_self, and_true, true_and, Bool.not_true, Bool.false_eq_true, beq_self_eq_true, forall_const, false_implies, Bool.true_eq_false, reduceCtorEq, q2, hn]
      have ck := check_ok (Gl := Gl) (icg_all hG) (iconL (List.replicate (200 + m) (fillC [pathL [lineS]]))) (fit_l _ (by rw [List.length_replicate]; omega) (fun c hc => by rw [List.eq_of_mem_replicate hc]; exact ⟨by simp only [List.length_cons, List.length_nil]; omega, fun p hp => by rw [List.mem_singleton.mp hp]; simp only [List.length_cons, List.length_nil]; omega⟩))
      rw [k2] at ck
      refine cmd_loop m hm _ _ ?_ ?_ ?_ ?_ (200 + m) 0 _ _ 0 .nilS [] (by omega) (fun _ _ _ => rfl) ?_ ?_ rfl
      rotate_left
      · simp only [qza, ↓reduceIte, Nat.reduceEqDiff]
      · first | (simp only [qza, ↓reduceIte, Nat.reduceEqDiff, hme]; done) | (simp only [qza, ↓reduceIte, Nat.reduceEqDiff, hme]; rfl)
      · simp only [qza, ↓reduceIte, Nat.reduceEqDiff]
      · simp only [qza, ↓reduceIte]; rfl
      · exact ⟨by first | (simp only [qza, ↓reduceIte, Nat.reduceEqDiff]; done) | (simp only [qza, ↓reduceIte, Nat.reduceEqDiff]; rfl), xzW.nil, (fun x hx => by cases hx), Nat.le_refl _, by first | (simp only [qza, ↓reduceIte, reduceCtorEq, reduceCtorEq, cSeg]; done) | (simp only [qza, ↓reduceIte, reduceCtorEq, reduceCtorEq, cSeg]; rfl), by first | (simp only [qza, ↓reduceIte, Nat.reduceEqDiff, cSeg]; done) | (simp only [qza, ↓reduceIte, Nat.reduceEqDiff, cSeg]; rfl), by first | (simp only [qza, ↓reduceIte, Nat.reduceEqDiff, cCl]; done) | (simp only [qza, ↓reduceIte, Nat.reduceEqDiff, cCl]; rfl), by first | (simp only [qza, ↓reduceIte, Nat.reduceEqDiff, cSeg]; done) | (simp only [qza, ↓reduceIte, Nat.reduceEqDiff, cSeg]; rfl), by first | (simp only [qza, ↓reduceIte]; done) | (simp only [qza, ↓reduceIte]; rfl)⟩
      intro T2 h2 j2 v2 l hT2 st hl
      have w1 := hT2 1 (by omega) (by omega)
      have w5 := hT2 5 (by omega) (by omega)
      have w8 := hT2 8 (by omega) (by omega)
      simp only [qza, ↓reduceIte, Nat.reduceEqDiff, reduceCtorEq, reduceCtorEq] at w1 w5 w8
      have i3 := st.ic
      unfold iC at i3
      simp only [qzm, qzp, qzi, xza, xzp, qze, qzd, qzG, qzK, qzk, qzb, qzg, qzh, qzB, qzn, qzo, qzu, qza, qzt, qzM, qzF, qzE, qzl, ↓reduceIte, Option.getD_some, List.length_cons, List.length_nil, List.drop_zero, List.take_succ_cons, List.take_zero, Nat.reduceAdd, Nat.reduceLeDiff, Nat.zero_add, w8, i3]
      have sh := st.shut
      have e : (l.map fun x => fillC [pathL x.2]) = List.replicate (200 + m) (fillC [pathL [lineS]]) := by
        have : (l.map fun x => fillC [pathL x.2]) = (l.map (·.2)).map fun S => fillC [pathL S] := by rw [List.map_map]; rfl
        rw [this, hl, List.map_replicate]
      rw [e] at sh
      first
      | refine call_deepL (v := erP 5) ck sh rfl ?_
      | refine call_deepL (v := .nilI) ck sh rfl ?_
      simp only [qzm, qzp, qzD, qzi, qzf, qze, qzd, xzf, qzq, qzG, qzK, qzz, qzH, qzc, qzk, qzb, qzg, qzh, qzB, qzn, qzo, qzu, qza, qzt, qzw, qzy, xzl, qzM, xzC, xzB, xzY, cv, qzI, qzJ, toA, ofA, FR.pop, aun, qzW, qzN, qzX, qzV, qzO, ↓reduceIte, Nat.reduceEqDiff, Bool.not_false, Bool.false_eq_true, beq_self_eq_true, beq_true, w1, w5]
      all_goals
        refine xzb (see_rfl hG 5 (by omega)) rfl rfl ?_
        simp only [qzD, qzi, qzf, qze, qzd, xzf, qzq, qzz, qzH, qzc, qzb, qzg, qzh, qzn, qzo, qzu, qza, qzt, qzw, qzy, xzl, cv, qzW, qzN, qzX, qzV, qzO, ↓reduceIte, Nat.reduceEqDiff, Bool.not_true, beq_self_eq_true, beq_false]
    · simp only [qzx, qzm, qzp, qzA, qzD, qzs, qzj, qzi, qzR, qzf, qze, qzd, qzq, qzG, xzd, qzK, qzz, qzH, qzc, qzk, qzC, qzb, qzQ, qzg, qzh, qzT, qzP, qzn, qzo, qzu, qza, qzt, qzw, qzy, qzM, qzF, xzi, xzt, xzr, qzS, qzU, xzg, qzE, cvs, cv, qzI, qzJ, toA, ofA, FR.pop, abin, aun, intBin, VN.at, VH.push, VH.set, qzl, VV.cells, ntV, qzW, qzN, qzX, qzV, qzO, xzs, ↓reduceIte, Option.getD_some, List.length_cons, List.length_nil, List.drop_succ_cons, List.drop_zero, List.take_succ_cons, List.take_zero, List.append_nil, List.nil_append, List.cons_append, List.head?_cons, Nat.reduceAdd, Nat.reduceDiv, Nat.reduceEqDiff, reduceCtorEq, Nat.reduceLeDiff, Int.reduceEq, Int.reduceBEq, Nat.zero_add, and_self, and_true, true_and, Bool.not_true, Bool.false_eq_true, forall_const, false_implies, Bool.true_eq_false, reduceCtorEq, q2, hn]
      have ck := check_ok (Gl := Gl) (icg_all hG) (iconL [fillC [pathL (List.replicate (400 + m) lineS)]]) (fit_l _ (by simp only [List.length_cons, List.length_nil]; omega) (fun c hc => by rw [List.mem_singleton.mp hc]; exact ⟨by simp only [List.length_cons, List.length_nil]; omega, fun p hp => by rw [List.mem_singleton.mp hp, List.length_replicate]; omega⟩))
      rw [k3] at ck
      refine seg_loop0 lineS 1 6 7 (by omega) (by omega) (by omega) m hm [] (by simp) _ _ _ ?_ ?_ ?_ ?_ ?_ (400 + m) 0 _ _ 0 .nilS (by omega) (fun _ _ _ => rfl) ?_ ?_ xzW.nil (fun _ _ _ => rfl) (Nat.le_refl _)
      rotate_left
      · simp only [qza, ↓reduceIte, Nat.reduceEqDiff]
      · simp only [qza, ↓reduceIte, Nat.reduceEqDiff]
      · first | (simp only [qza, ↓reduceIte, Nat.reduceEqDiff, hme]; done) | (simp only [qza, ↓reduceIte, Nat.reduceEqDiff, hme]; rfl)
      · first | (simp only [qza, ↓reduceIte, Nat.reduceEqDiff, cSeg]; done) | (simp only [qza, ↓reduceIte, Nat.reduceEqDiff, cSeg]; rfl)
      · simp only [qza, ↓reduceIte]; rfl
      · first | (simp only [qza, ↓reduceIte]; done) | (simp only [qzx, qzm, xzM, qzp, qzA, qzZ, qzD, qzs, wpIf_true, wpIf_false, qzj, qzi, xze, qzR, xza, xzp, xzc, xzh, qzY, xzw, qzf, qze, qzd, xzf, qzq, qzG, xzd, qzK, qzz, xzN, xzu, xzq, wpXG_false, xzK, xzT, wpXA_n, xzS, xzP, Ends_n, qzH, qzc, qzk, qzC, qzb, qzQ, qzg, qzh, qzT, xzz, xzE, kXN_app, qzP, wpW_copy, wpW_mapUpd, wpW_mark, qzB, wpW_callV, qzn, qzo, qzu, qza, qzt, qzw, qzy, xzl, qzL, xzm, iAddrAV, fieldV, idxArrV, extV, mkIV, tAssV, xzn, lenArrV, xzX, slV, xzR, yzc, qzM, qzF, xzC, xzB, xzV, eqPV, eqSV, xzY, eqFV, eqMV, eqGV, inGl, xzF, eqBool, eqInt, eqStr, xzi, xzU, xzt, xzr, qzS, qzU, xzg, yza, lenOfV, yze, copyV, b2sV, s2bV, mkSliceV, qzE, cvs, cv, qzI, qzJ, toA, ofA, FR.pop, abin, aun, intBin, shiftBin, strBin, bnds, natOf, max2A, min2A, foldA, VN.at, VH.push, VH.set, VH.kill, VH.fix, VB.fix, qzl, h0, VV.cells, ntV, qzW, qzN, qzX, qzV, closedB, closedL, plainB, plainL, qzO, countN, xzI, lowB, fzB, fzL, xzQ, xzZ, xzH, xzO, yzf, yzd, xzs, nilCmp, xzx, yzb, capMost, capDrop, ↓reduceIte, Option.getD_some, Option.getD_none, Option.isSome_some, Option.map_some, Option.map_none, List.getElem?_cons_zero, List.getElem?_cons_succ, List.length_cons, List.length_nil, List.drop_succ_cons, List.drop_zero, List.take_succ_cons, List.take_zero, List.append_nil, List.nil_append, List.cons_append, List.contains_cons, List.contains_nil, List.head?_cons, Nat.reduceAdd, Nat.reduceMul, Nat.reduceSub, Nat.reduceDiv, Nat.reduceLT, Nat.reduceEqDiff, reduceCtorEq, Nat.reduceLeDiff, Nat.reduceBEq, Int.reduceEq, Int.reduceLT, Int.reduceLE, Int.reduceBEq, Int.reduceGT, Nat.add_zero, Nat.zero_add, and_self, and_true, true_and, and_false, false_and, not_true_eq_false, not_false_eq_true, Bool.and_self, Bool.and_true, Bool.true_and, Bool.and_false, Bool.or_false, Bool.true_or, Bool.or_true, Bool.false_or, Bool.not_false, Bool.not_true, Bool.false_eq_true, beq_self_eq_true, bne_self_eq_false, beq_true, beq_false, decide_true, decide_false, true_or, if_true, if_false, forall_const, false_implies, true_implies, Bool.true_eq_false, reduceCtorEq, true_or, cSeg, cPt, cCl, cPath, cCmd, cPaint, cIcon, t_p_api_At, t_p_errors_errorString]; rfl)
      intro T2 h2 j2 v2 hT2 i2 q2' fr2 hn2
      rw [List.nil_append] at q2'
      obtain ⟨rfl, x3, x4, x5⟩ := q2'.some (rep_ne (by omega))
      rw [List.length_replicate] at i2
      have w1 := hT2 1 (by omega) (by omega)
      have w5 := hT2 5 (by omega) (by omega)
      have w8 := hT2 8 (by omega) (by omega)
      have w20 := hT2 20 (by omega) (by omega)
      have i3 := fr2 3 (by omega) (by omega)
      have ib := fr2 2 (by omega) (by omega)
      simp only [qza, ↓reduceIte, Nat.reduceEqDiff, reduceCtorEq, reduceCtorEq] at w1 w5 w8 w20 i3 ib
      have y0 : ¬ h2.next = 3 := by omega
      have y1 : ¬ h2.next + 1 = 3 := by omega
      have y2 : ¬ h2.next + 1 = h2.next := by omega
      have y3 : ¬ 3 = h2.next := by omega
      have y4 : ¬ 3 = h2.next + 1 := by omega
      have y5 : ¬ h2.next = 2 := by omega
      have y6 : ¬ h2.next + 1 = 2 := by omega
      have y7 : ¬ 3 = j2 := by omega
      have y8 : ¬ h2.next = j2 := by omega
      have y9 : ¬ h2.next + 1 = j2 := by omega
      have y10 : ¬ 3 = 2 := by omega
      simp only [qzm, qzp, qzi, xza, xzp, qzf, qze, qzd, qzq, qzG, xzd, qzK, qzz, qzc, qzk, qzC, qzb, qzQ, qzg, qzh, qzT, qzP, qzB, qzn, qzo, qzu, qza, qzt, qzw, qzL, qzM, qzF, xzi, xzt, xzr, qzS, qzU, xzg, qzE, cvs, cv, VN.at, VH.push, VH.set, qzl, VV.cells, ntV, qzO, xzs, ↓reduceIte, Option.getD_some, List.length_cons, List.length_nil, List.drop_succ_cons, List.drop_zero, List.take_succ_cons, List.take_zero, List.append_nil, List.nil_append, List.cons_append, List.head?_cons, Nat.reduceAdd, Nat.reduceDiv, Nat.reduceEqDiff, Nat.reduceLeDiff, Nat.zero_add, and_self, w8, w20, i2, i3, y0, y1]
      first
      | refine call_deepL (v := erP 5) ck (shut_icon (shut_cols [⟨0, 0, 0, 0⟩] (by first | (simp only [qza, qzl, ↓reduceIte, Option.getD_some, ib, y5, y6, y10]; done) | (simp only [qza, qzl, ↓reduceIte, Option.getD_some, ib, y5, y6, y10]; rfl)) rfl (Nat.le_refl _)) (shut_cmds1 (fillC [pathL (List.replicate (400 + m) lineS)]) (by first | (simp only [qza, qzl, ↓reduceIte, Option.getD_some, y4]; done) | (simp only [qza, qzl, ↓reduceIte, Option.getD_some, y4]; rfl)) (shut_paths1 (pathL (List.replicate (400 + m) lineS)) (by first | (simp only [qza, qzl, ↓reduceIte, Option.getD_some, y2, y3]; done) | (simp only [qza, qzl, ↓reduceIte, Option.getD_some, y2, y3]; rfl)) (by rw [List.length_replicate]; exact shut_segs (List.replicate (400 + m) lineS) (by first | (simp only [qza, qzl, ↓reduceIte, Option.getD_some, y7, y8, y9, x3]; done) | (simp only [qza, qzl, ↓reduceIte, Option.getD_some, y7, y8, y9, x3]; rfl)) (List.length_replicate) (by simp [yzb]))))) rfl ?_
      | refine call_deepL (v := .nilI) ck (shut_icon (shut_cols [⟨0, 0, 0, 0⟩] (by first | (simp only [qza, qzl, ↓reduceIte, Option.getD_some, ib, y5, y6, y10]; done) | (simp only [qza, qzl, ↓reduceIte, Option.getD_some, ib, y5, y6, y10]; rfl)) rfl (Nat.le_refl _)) (shut_cmds1 (fillC [pathL (List.replicate (400 + m) lineS)]) (by first | (simp only [qza, qzl, ↓reduceIte, Option.getD_some, y4]; done) | (simp only [qza, qzl, ↓reduceIte, Option.getD_some, y4]; rfl)) (shut_paths1 (pathL (List.replicate (400 + m) lineS)) (by first | (simp only [qza, qzl, ↓reduceIte, Option.getD_some, y2, y3]; done) | (simp only [qza, qzl, ↓reduceIte, Option.getD_some, y2, y3]; rfl)) (by rw [List.length_replicate]; exact shut_segs (List.replicate (400 + m) lineS) (by first | (simp only [qza, qzl, ↓reduceIte, Option.getD_some, y7, y8, y9, x3]; done) | (simp only [qza, qzl, ↓reduceIte, Option.getD_some, y7, y8, y9, x3]; rfl)) (List.length_replicate) (by simp [yzb]))))) rfl ?_
      simp only [qzm, qzp, qzD, qzi, qzf, qze, qzd, xzf, qzq, qzG, qzK, qzz, qzH, qzc, qzk, qzb, qzg, qzh, qzB, qzn, qzo, qzu, qza, qzt, qzw, qzy, xzl, qzM, xzC, xzB, xzY, cv, qzI, qzJ, toA, ofA, FR.pop, aun, qzW, qzN, qzX, qzV, qzO, ↓reduceIte, Nat.reduceEqDiff, Bool.not_false, Bool.false_eq_true, beq_self_eq_true, beq_true, w1, w5]
      all_goals
        refine xzb (see_rfl hG 5 (by omega)) rfl rfl ?_
        simp only [qzD, qzi, qzf, qze, qzd, xzf, qzq, qzz, qzH, qzc, qzb, qzg, qzh, qzn, qzo, qzu, qza, qzt, qzw, qzy, xzl, cv, qzW, qzN, qzX, qzV, qzO, ↓reduceIte, Nat.reduceEqDiff, Bool.not_true, beq_self_eq_true, beq_false]
theorem iconLimits (Gl : xzy) (hG : GlAll Gl) (which : Int) (_ : IntKind.i64.min ≤ which) (_ : which ≤ IntKind.i64.max) (over : Bool) :
    CallsV Go.VL.Er.E Gl f_glyphiclaw5_IconLimits [.int .i64 which, .bool over] h0 (fun v _ => v = .bool true) := lim_run hG which over
end
end Go.VL.Lm
