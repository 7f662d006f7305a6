/- 'glyphiclaw5.IconLimits': its loops of paths, of commands. -/
import Derived.Test.YtbamfhdgikeneaaDoorLmA
import Derived.Test.YtbamfhdgikeneaaDoorLmP
namespace Go.VL.Lm
open Go.FR Go.IR Go.VL Go.VL.Er Go.VL.Color Go.VL.Wind Go.VL.Ic
noncomputable section
set_option linter.unusedSimpArgs false
set_option linter.unusedVariables false
set_option maxRecDepth 100000
set_option maxHeartbeats 1000000

/-- A command's cells, of one path. -/
def fC (j : Nat) : List VV := [.int .i64 1, .int .i64 0, .int .i64 0, .int .i64 0, .int .i64 0, .int .i64 0, .int .i64 0, .int .i64 0, .int .i64 0, .int .i64 0, .slice j 0 1 4 (.exact 1)]
def pC (vs : VV) : List VV := [.int .i64 0, .int .i64 0, vs, .bool false]
def iC (vm : VV) : List VV := [.int .i64 1, .int .i64 1, .int .i64 0, .slice 2 0 1 4 (.exact 1), vm]
/-- A path's segments in memory. -/
def SIn (h : VH) (jm : Nat) (vm : VV) (S : List Seg) (vs : VV) : Prop := ∃ j c, vs = .slice j 0 S.length 7 c ∧ yzb 7 S.length c ∧ qzr h.l j = some (some (.cells (xzA cSeg S) false)) ∧ j < h.next ∧ (j ≠ jm ∨ vm = .nilS) ∧ j ≠ 3
def CIn (h : VH) (jm : Nat) (vm : VV) (x : Nat × List Seg) : Prop := x.1 < h.next ∧ (x.1 ≠ jm ∨ vm = .nilS) ∧ x.1 ≠ 3 ∧ ∃ vs, qzr h.l x.1 = some (some (.cells (pC vs) false)) ∧ SIn h jm vm x.2 vs
theorem SIn.keep {h h' : VH} {jm jm' : Nat} {vm vm' : VV} {S : List Seg} {vs : VV} (s : SIn h jm vm S vs) (hn : h.next ≤ h'.next) (hf : ∀ k, k < h.next → k ≠ 3 → (k ≠ jm ∨ vm = .nilS) → qzr h'.l k = qzr h.l k) (hj : jm' = jm ∧ vm' = vm ∨ h.next ≤ jm') : SIn h' jm' vm' S vs := by
  obtain ⟨j, c, a1, a2, a3, a4, a5, a6⟩ := s
  refine ⟨j, c, a1, a2, by rw [hf j a4 a6 a5]; exact a3, by omega, ?_, a6⟩
  rcases hj with ⟨rfl, rfl⟩ | hj
  · exact a5
  · exact .inl (by omega)
theorem CIn.keep {h h' : VH} {jm jm' : Nat} {vm vm' : VV} {x : Nat × List Seg} (s : CIn h jm vm x) (hn : h.next ≤ h'.next) (hf : ∀ k, k < h.next → k ≠ 3 → (k ≠ jm ∨ vm = .nilS) → qzr h'.l k = qzr h.l k) (hj : jm' = jm ∧ vm' = vm ∨ h.next ≤ jm') : CIn h' jm' vm' x := by
  obtain ⟨a1, a2, a3, vs, a4, a5⟩ := s
  refine ⟨by omega, ?_, a3, vs, by rw [hf x.1 a1 a3 a2]; exact a4, a5.keep hn hf hj⟩
  rcases hj with ⟨rfl, rfl⟩ | hj
  · exact a2
  · exact .inl (by omega)
/-- The icon that is made. -/
structure CSt (h : VH) (jm : Nat) (vm : VV) (l : List (Nat × List Seg)) : Prop where
  ic : qzr h.l 3 = some (some (.cells (iC vm) false))
  ac : xzW 6 h jm (fun x : Nat × List Seg => fC x.1) l 11 vm
  i : ∀ x ∈ l, CIn h jm vm x
  n : 6 ≤ h.next
  b0 : qzr h.l 0 = some (some (.cells (cSeg cubS) false))
  b1 : qzr h.l 1 = some (some (.cells (cSeg lineS) false))
  b2 : qzr h.l 2 = some (some (.cells (cCl ⟨0, 0, 0, 0⟩) false))
  b4 : qzr h.l 4 = some (some (.cells (cSeg lineS) false))
  b5 : qzr h.l 5 = some (some (.cells (pC (.slice 4 0 1 7 (.exact 1))) false))
theorem CSt.move {h h' : VH} {jm : Nat} {vm : VV} {l : List (Nat × List Seg)} (s : CSt h jm vm l) (hn : h.next ≤ h'.next) (hf : ∀ k, k < h.next → qzr h'.l k = qzr h.l k) : CSt h' jm vm l := by
  have n := s.n
  exact ⟨by rw [hf 3 (by omega)]; exact s.ic, s.ac.ext hn (fun _ q => hf jm q), fun x hx => (s.i x hx).keep hn (fun k k1 _ _ => hf k k1) (.inl ⟨rfl, rfl⟩), by omega, by rw [hf 0 (by omega)]; exact s.b0, by rw [hf 1 (by omega)]; exact s.b1, by rw [hf 2 (by omega)]; exact s.b2, by rw [hf 4 (by omega)]; exact s.b4, by rw [hf 5 (by omega)]; exact s.b5⟩
/-- One command more. -/
theorem CSt.add {h h' : VH} {jm : Nat} {vm : VV} {l : List (Nat × List Seg)} (s : CSt h jm vm l) {S : List Seg} {vs : VV} (hs : SIn h jm vm S vs)
    (g1 : h'.next = h.next + 1 + 1 + 1) (g2 : ∀ k, k ≠ h.next + 1 + 1 → k ≠ jm ∨ vm = .nilS → qzr h'.l k = qzr ((h.next + 1, some (VB.cells (fC h.next) false)) :: (h.next, some (VB.cells (pC vs) false)) :: h.l) k)
    (g3 : xzW 6 h' (h.next + 1 + 1) (fun x : Nat × List Seg => fC x.1) (l ++ [(h.next, S)]) 11 (.slice (h.next + 1 + 1) 0 (l.length + 1) 11 (.toEnd 11))) :
    CSt ⟨(3, some (.cells (iC (.slice (h.next + 1 + 1) 0 (l.length + 1) 11 (.toEnd 11))) false)) :: h'.l, h'.next⟩ (h.next + 1 + 1) (.slice (h.next + 1 + 1) 0 (l.length + 1) 11 (.toEnd 11)) (l ++ [(h.next, S)]) := by
  have n := s.n
  have ne : ∀ k, k < 6 ∨ h.next ≤ k → k ≠ jm ∨ vm = .nilS := fun k hk => s.ac.ne hk
  have hf : ∀ k, k < h.next → k ≠ 3 → (k ≠ jm ∨ vm = .nilS) → qzr ((3, some (VB.cells (iC (.slice (h.next + 1 + 1) 0 (l.length + 1) 11 (.toEnd 11))) false)) :: h'.l) k = qzr h.l k := fun k k1 k2 k3 => by
    simp only [qza]
    rw [if_neg (Ne.symm k2), g2 k (by omega) k3]
    simp only [qza]
    rw [if_neg (by omega), if_neg (by omega)]
  refine ⟨by simp only [qza, if_true], g3.ext (Nat.le_refl _) (fun _ _ => by simp only [qza]; rw [if_neg (by omega)]), fun x hx => ?_, by show 6 ≤ h'.next; omega, by rw [hf 0 (by omega) (by omega) (ne 0 (by omega))]; exact s.b0, by rw [hf 1 (by omega) (by omega) (ne 1 (by omega))]; exact s.b1, by rw [hf 2 (by omega) (by omega) (ne 2 (by omega))]; exact s.b2, by rw [hf 4 (by omega) (by omega) (ne 4 (by omega))]; exact s.b4, by rw [hf 5 (by omega) (by omega) (ne 5 (by omega))]; exact s.b5⟩
  rcases List.mem_append.mp hx with hx | hx
  · exact (s.i x hx).keep (by show h.next ≤ h'.next; omega) hf (.inr (by omega))
  · rw [List.mem_singleton.mp hx]
    refine ⟨by show h.next < h'.next; omega, .inl (by simp only; omega), by simp only; omega, vs, ?_, hs.keep (by show h.next ≤ h'.next; omega) hf (.inr (by omega))⟩
    simp only [qza]
    rw [if_neg (by omega), g2 h.next (by omega) (ne _ (.inr (Nat.le_refl _)))]
    simp only [qza]
    rw [if_neg (by omega), if_pos trivial]
/-- The icon, closed. -/
theorem CSt.shut {h : VH} {jm : Nat} {vm : VV} {l : List (Nat × List Seg)} (s : CSt h jm vm l) : xzD h.get [.agg (iC vm)] [.agg (cIcon (iconL (l.map fun x => fillC [pathL x.2])))] := by
  refine shut_icon (shut_cols [⟨0, 0, 0, 0⟩] (by rw [qzl, s.b2]; rfl) rfl (Nat.le_refl _)) ?_
  have := xzL.acc (g := h.get) (f' := fun x : Nat × List Seg => cCmd (fillC [pathL x.2])) s.ac (fun _ x hx => hx) (fun _ => rfl) fun x hx => by
    obtain ⟨a1, a2, a3, vs, a4, j, c, rfl, a5, a6, a7, a8⟩ := s.i x hx
    refine shut_cmd (c := fillC [pathL x.2]) (shut_paths1 (pathL x.2) (by rw [qzl, a4]; rfl) (shut_segs x.2 (by rw [qzl, a6]; rfl) rfl a5))
  rw [List.length_map]
  have e : xzA cCmd (l.map fun x => fillC [pathL x.2]) = xzA (fun x : Nat × List Seg => cCmd (fillC [pathL x.2])) l := by
    unfold xzA; rw [List.map_map]; rfl
  rw [e]
  exact this

theorem cmd_loop {Gl : xzy} (m : Nat) (hm : m ≤ 1) (T0 : VF) (K : AEx → VF → VH → Prop)
    (hK : ∀ T h j v l, (∀ k, k < 44 → k ≠ 19 → qzr T k = qzr T0 k) → CSt h j v l → l.map (·.2) = List.replicate (200 + m) [lineS] → K (.exit 13) T h)
    (u8 : qzr T0 8 = some (.ptr 3 0)) (u9 : qzr T0 9 = some (.int .i64 m)) (u10 : qzr T0 10 = some (.ptr 5 0)) :
    ∀ (d i : Nat) (T : VF) (h : VH) (j : Nat) (v : VV) (l : List (Nat × List Seg)), d + i = 200 + m → (∀ k, k < 44 → k ≠ 19 → qzr T k = qzr T0 k) → qzr T 19 = some (.int .i64 i) → CSt h j v l → l.map (·.2) = List.replicate i [lineS] →
    wp Go.VL.Er.E Gl (.loop c_glyphiclaw5_IconLimits_l1) T h K := by
  intro d
  induction d with
  | zero =>
    intro i T h j v l hd hT tc st hl
    obtain rfl : i = 200 + m := by omega
    have t9 := (hT 9 (by omega) (by omega)).trans u9
    have wm : IntKind.i64.wrap (200 + (m : Int)) = ((200 + m : Nat) : Int) := by rw [xzj (by omega) (by omega)]; omega
    have c : ¬ (((200 + m : Nat) : Int) < ((200 + m : Nat) : Int)) := by omega
    refine xzo c_glyphiclaw5_IconLimits_l1.eq_1 ?_
    simp only [qzx, qzm, qzp, qzA, qzZ, qzs, qzj, qzi, xze, qzY, qzf, qze, qzd, qzq, qzc, qzb, qzg, qzh, qzn, qzo, qzu, qza, qzt, qzw, qzy, cv, qzI, qzJ, toA, ofA, FR.pop, abin, intBin, ↓reduceIte, Nat.reduceEqDiff, true_and, Bool.false_eq_true, decide_false, forall_const, false_implies, tc, c, t9, wm]
    refine hK _ _ j v l (fun k q1 q2 => ?_) st hl
    simp only [qza]
    (repeat rw [if_neg (by omega)])
    exact hT k q1 q2
  | succ d ih =>
    intro i T h j v l hd hT tc st hl
    have t8 := (hT 8 (by omega) (by omega)).trans u8
    have t9 := (hT 9 (by omega) (by omega)).trans u9
    have t10 := (hT 10 (by omega) (by omega)).trans u10
    have wm : IntKind.i64.wrap (200 + (m : Int)) = ((200 + m : Nat) : Int) := by rw [xzj (by omega) (by omega)]; omega
    have c : (i : Int) < ((200 + m : Nat) : Int) := by omega
    have hw : IntKind.i64.wrap ((i : Int) + 1) = ((i + 1 : Nat) : Int) := by rw [xzj (by omega) (by omega)]; rfl
    have n := st.n
    have ll : l.length = i := by have := congrArg List.length hl; rw [List.length_map, List.length_replicate] at this; exact this
    have i3 := st.ic
    have i5 := st.b5
    have y3 : ¬ h.next = 3 := by omega
    have y5 : ¬ h.next = 5 := by omega
    have y6 : ¬ h.next + 1 = 3 := by omega
    have y7 : ¬ h.next + 1 = 5 := by omega
    unfold iC at i3
    unfold pC at i5
    refine xzo c_glyphiclaw5_IconLimits_l1.eq_1 ?_
    simp only [qzx, qzm, qzp, qzA, qzZ, qzs, qzj, qzi, xze, qzY, qzf, qze, qzd, qzq, qzG, xzd, qzK, qzc, qzk, qzC, qzb, qzg, qzh, qzT, qzn, qzo, qzu, qza, qzt, qzw, qzy, qzL, qzM, qzF, xzi, xzt, xzr, qzS, qzE, cvs, cv, qzI, qzJ, toA, ofA, FR.pop, abin, intBin, VN.at, VH.push, qzl, VV.cells, ntV, ↓reduceIte, Option.getD_some, List.getElem?_cons_zero, List.getElem?_cons_succ, List.length_cons, List.length_nil, List.drop_succ_cons, List.drop_zero, List.take_succ_cons, List.take_zero, List.append_nil, List.nil_append, List.cons_append, Nat.reduceAdd, Nat.reduceDiv, Nat.reduceEqDiff, Nat.reduceLeDiff, Nat.zero_add, and_self, and_true, decide_true, forall_const, false_implies, Bool.true_eq_false, tc, c, t8, t9, t10, wm, i3, i5]
    have q' : xzW 6 ⟨(h.next + 1, some (VB.cells (fC h.next) false)) :: (h.next, some (VB.cells (pC (.slice 4 0 1 7 (.exact 1))) false)) :: h.l, h.next + 1 + 1⟩ j (fun x : Nat × List Seg => fC x.1) l 11 v := st.ac.ext (by show h.next ≤ h.next + 1 + 1; omega) (fun x y => by simp only [qza]; rw [if_neg (by omega), if_neg (by omega)])
    refine wpW_acc (base := 6) (j := j) (f := fun x : Nat × List Seg => fC x.1) (l := l) (a := (h.next, [lineS])) q' (by unfold fC; first | (simp only [qza, yza, yze, qzl, ↓reduceIte, Option.getD_some, List.length_cons, List.length_nil, List.drop_zero, List.take_succ_cons, List.take_zero, Nat.reduceAdd, Nat.reduceMul, reduceCtorEq, Nat.reduceLeDiff, Nat.zero_add, true_or, reduceCtorEq, true_or]; done) | (simp only [qzx, qzm, xzM, qzp, qzA, qzZ, qzD, qzs, wpIf_true, wpIf_false, qzj, qzi, xze, qzR, xza, xzp, xzc, xzh, qzY, xzw, qzf, qze, qzd, xzf, qzq, qzG, xzd, qzK, qzz, xzN, xzu, xzq, wpXG_false, xzK, xzT, wpXA_n, xzS, xzP, Ends_n, qzH, qzc, qzk, qzC, qzb, qzQ, qzg, qzh, qzT, xzz, xzE, kXN_app, qzP, wpW_copy, wpW_mapUpd, wpW_mark, qzB, wpW_callV, qzn, qzo, qzu, qza, qzt, qzw, qzy, xzl, qzL, xzm, iAddrAV, fieldV, idxArrV, extV, mkIV, tAssV, xzn, lenArrV, xzX, slV, xzR, yzc, qzM, qzF, xzC, xzB, xzV, eqPV, eqSV, xzY, eqFV, eqMV, eqGV, inGl, xzF, eqBool, eqInt, eqStr, xzi, xzU, xzt, xzr, qzS, qzU, xzg, yza, lenOfV, yze, copyV, b2sV, s2bV, mkSliceV, qzE, cvs, cv, qzI, qzJ, toA, ofA, FR.pop, abin, aun, intBin, shiftBin, strBin, bnds, natOf, max2A, min2A, foldA, VN.at, VH.push, VH.set, VH.kill, VH.fix, VB.fix, qzl, h0, VV.cells, ntV, qzW, qzN, qzX, qzV, closedB, closedL, plainB, plainL, qzO, countN, xzI, lowB, fzB, fzL, xzQ, xzZ, xzH, xzO, yzf, yzd, xzs, nilCmp, xzx, yzb, capMost, capDrop, ↓reduceIte, Option.getD_some, Option.getD_none, Option.isSome_some, Option.map_some, Option.map_none, List.getElem?_cons_zero, List.getElem?_cons_succ, List.length_cons, List.length_nil, List.drop_succ_cons, List.drop_zero, List.take_succ_cons, List.take_zero, List.append_nil, List.nil_append, List.cons_append, List.contains_cons, List.contains_nil, List.head?_cons, Nat.reduceAdd, Nat.reduceMul, Nat.reduceSub, Nat.reduceDiv, Nat.reduceLT, Nat.reduceEqDiff, reduceCtorEq, Nat.reduceLeDiff, Nat.reduceBEq, Int.reduceEq, Int.reduceLT, Int.reduceLE, Int.reduceBEq, Int.reduceGT, Nat.add_zero, Nat.zero_add, and_self, and_true, true_and, and_false, false_and, not_true_eq_false, not_false_eq_true, Bool.and_self, Bool.and_true, Bool.true_and, Bool.and_false, Bool.or_false, Bool.true_or, Bool.or_true, Bool.false_or, Bool.not_false, Bool.not_true, Bool.false_eq_true, beq_self_eq_true, bne_self_eq_false, beq_true, beq_false, decide_true, decide_false, true_or, if_true, if_false, forall_const, false_implies, true_implies, Bool.true_eq_false, reduceCtorEq, true_or, cSeg, cPt, cCl, cPath, cCmd, cPaint, cIcon, t_p_api_At, t_p_errors_errorString]; rfl)) (fun _ => rfl) (by omega) (by show 6 ≤ h.next + 1 + 1; omega) (by omega) (by omega) ?_
    intro h' g1 g2 g3
    simp only at g1 g2 g3
    have sa := st.add (S := [lineS]) (vs := .slice 4 0 1 7 (.exact 1)) ⟨4, .exact 1, rfl, Nat.le_refl _, st.b4, by omega, st.ac.ne (.inl (by omega)), by omega⟩ g1 g2 g3
    have i3' : qzr h'.l 3 = some (some (.cells (iC v) false)) := by
      rw [g2 3 (by omega) (st.ac.ne (.inl (by omega)))]
      simp only [qza]; rw [if_neg (by omega), if_neg (by omega)]; exact st.ic
    unfold iC at i3'
    simp only [qzm, qzi, xza, xzh, qzf, qze, qzd, qzq, qzK, qzz, qzc, qzb, qzQ, qzg, qzh, qzP, qzn, qzo, qzu, qza, qzt, qzw, qzy, qzL, qzS, qzU, xzg, cv, qzI, qzJ, toA, ofA, FR.pop, abin, intBin, VH.set, qzl, VV.cells, ntV, qzO, xzs, ↓reduceIte, Option.getD_some, List.length_cons, List.length_nil, List.drop_succ_cons, List.drop_zero, List.take_succ_cons, List.take_zero, List.append_nil, List.nil_append, List.cons_append, List.head?_cons, Nat.reduceAdd, Nat.reduceEqDiff, Nat.reduceLeDiff, Nat.zero_add, and_self, t8, tc, i3', hw]
    refine ih (i + 1) _ _ (h.next + 1 + 1) (.slice (h.next + 1 + 1) 0 (l.length + 1) 11 (.toEnd 11)) (l ++ [(h.next, [lineS])]) (by omega) (fun k q1 q2 => ?_) ?_ sa ?_
    · simp only [qza]
      (repeat rw [if_neg (by omega)])
      exact hT k q1 q2
    · simp only [qza, ↓reduceIte]
    · rw [List.map_append, hl, rep_snoc]; rfl
theorem path_loop {Gl : xzy} (m : Nat) (hm : m ≤ 1) (vs : VV) (T0 : VF) (H0 : VH) (K : AEx → VF → VH → Prop)
    (hK : ∀ T h j v, (∀ k, k < 44 → k ≠ 18 → qzr T k = qzr T0 k) → qzr h.l 6 = some (some (.cells [.int .i64 1, .int .i64 0, .int .i64 0, .int .i64 0, .int .i64 0, .int .i64 0, .int .i64 0, .int .i64 0, .int .i64 0, .int .i64 0, v] false)) → xzW 7 h j (fun _ : Unit => pC vs) (List.replicate (200 + m) ()) 4 v → (∀ k, k < 6 → qzr h.l k = qzr H0.l k) → 7 ≤ h.next → K (.exit 11) T h)
    (u9 : qzr T0 9 = some (.int .i64 m)) (u10 : qzr T0 10 = some (.ptr 5 0)) (u17 : qzr T0 17 = some (.ptr 6 0)) (h5 : qzr H0.l 5 = some (some (.cells (pC vs) false))) :
    ∀ (d i : Nat) (T : VF) (h : VH) (j : Nat) (v : VV), d + i = 200 + m → (∀ k, k < 44 → k ≠ 18 → qzr T k = qzr T0 k) → qzr T 18 = some (.int .i64 i) → qzr h.l 6 = some (some (.cells [.int .i64 1, .int .i64 0, .int .i64 0, .int .i64 0, .int .i64 0, .int .i64 0, .int .i64 0, .int .i64 0, .int .i64 0, .int .i64 0, v] false)) → xzW 7 h j (fun _ : Unit => pC vs) (List.replicate i ()) 4 v → (∀ k, k < 6 → qzr h.l k = qzr H0.l k) → 7 ≤ h.next →
    wp Go.VL.Er.E Gl (.loop c_glyphiclaw5_IconLimits_l2) T h K := by
  intro d
  induction d with
  | zero =>
    intro i T h j v hd hT tc i6 q fr hn
    obtain rfl : i = 200 + m := by omega
    have t9 := (hT 9 (by omega) (by omega)).trans u9
    have wm : IntKind.i64.wrap (200 + (m : Int)) = ((200 + m : Nat) : Int) := by rw [xzj (by omega) (by omega)]; omega
    have c : ¬ (((200 + m : Nat) : Int) < ((200 + m : Nat) : Int)) := by omega
    refine xzo c_glyphiclaw5_IconLimits_l2.eq_1 ?_
    simp only [qzx, qzm, qzp, qzA, qzZ, qzs, qzj, qzi, xze, qzY, qzf, qze, qzd, qzq, qzc, qzb, qzg, qzh, qzn, qzo, qzu, qza, qzt, qzw, qzy, cv, qzI, qzJ, toA, ofA, FR.pop, abin, intBin, ↓reduceIte, Nat.reduceEqDiff, true_and, Bool.false_eq_true, decide_false, forall_const, false_implies, tc, c, t9, wm]
    refine hK _ _ j v (fun k q1 q2 => ?_) i6 q fr hn
    simp only [qza]
    (repeat rw [if_neg (by omega)])
    exact hT k q1 q2
  | succ d ih =>
    intro i T h j v hd hT tc i6 q fr hn
    have t9 := (hT 9 (by omega) (by omega)).trans u9
    have t10 := (hT 10 (by omega) (by omega)).trans u10
    have t17 := (hT 17 (by omega) (by omega)).trans u17
    have wm : IntKind.i64.wrap (200 + (m : Int)) = ((200 + m : Nat) : Int) := by rw [xzj (by omega) (by omega)]; omega
    have c : (i : Int) < ((200 + m : Nat) : Int) := by omega
    have hw : IntKind.i64.wrap ((i : Int) + 1) = ((i + 1 : Nat) : Int) := by rw [xzj (by omega) (by omega)]; rfl
    have i5 := (fr 5 (by omega)).trans h5
    have y5 : ¬ h.next = 5 := by omega
    have y6 : ¬ h.next = 6 := by omega
    unfold pC at i5
    refine xzo c_glyphiclaw5_IconLimits_l2.eq_1 ?_
    simp only [qzx, qzm, qzp, qzA, qzZ, qzs, qzj, qzi, xze, qzY, qzf, qze, qzd, qzq, qzG, xzd, qzK, qzc, qzk, qzC, qzb, qzg, qzh, qzT, qzn, qzo, qzu, qza, qzt, qzw, qzy, qzL, qzM, qzF, xzi, xzr, qzS, qzE, cvs, cv, qzI, qzJ, toA, ofA, FR.pop, abin, intBin, VN.at, VH.push, qzl, VV.cells, ntV, ↓reduceIte, Option.getD_some, List.getElem?_cons_zero, List.getElem?_cons_succ, List.length_cons, List.length_nil, List.drop_succ_cons, List.drop_zero, List.take_succ_cons, List.take_zero, List.append_nil, List.nil_append, Nat.reduceAdd, Nat.reduceDiv, Nat.reduceEqDiff, Nat.reduceLeDiff, Nat.zero_add, and_self, and_true, decide_true, forall_const, false_implies, Bool.true_eq_false, tc, c, t9, t10, t17, wm, i5, i6]
    have q' : xzW 7 ⟨(h.next, some (VB.cells (pC vs) false)) :: h.l, h.next + 1⟩ j (fun _ : Unit => pC vs) (List.replicate i ()) 4 v := q.ext (by show h.next ≤ h.next + 1; omega) (fun x y => by simp only [qza]; rw [if_neg (by omega)])
    refine wpW_acc (base := 7) (j := j) (f := fun _ : Unit => pC vs) (l := List.replicate i ()) (a := ()) q' (by unfold pC; first | (simp only [qza, yza, yze, qzl, ↓reduceIte, Option.getD_some, List.length_cons, List.length_nil, List.drop_zero, List.take_succ_cons, List.take_zero, Nat.reduceAdd, Nat.reduceMul, reduceCtorEq, Nat.reduceLeDiff, Nat.zero_add, true_or, reduceCtorEq, true_or]; done) | (simp only [qzx, qzm, xzM, qzp, qzA, qzZ, qzD, qzs, wpIf_true, wpIf_false, qzj, qzi, xze, qzR, xza, xzp, xzc, xzh, qzY, xzw, qzf, qze, qzd, xzf, qzq, qzG, xzd, qzK, qzz, xzN, xzu, xzq, wpXG_false, xzK, xzT, wpXA_n, xzS, xzP, Ends_n, qzH, qzc, qzk, qzC, qzb, qzQ, qzg, qzh, qzT, xzz, xzE, kXN_app, qzP, wpW_copy, wpW_mapUpd, wpW_mark, qzB, wpW_callV, qzn, qzo, qzu, qza, qzt, qzw, qzy, xzl, qzL, xzm, iAddrAV, fieldV, idxArrV, extV, mkIV, tAssV, xzn, lenArrV, xzX, slV, xzR, yzc, qzM, qzF, xzC, xzB, xzV, eqPV, eqSV, xzY, eqFV, eqMV, eqGV, inGl, xzF, eqBool, eqInt, eqStr, xzi, xzU, xzt, xzr, qzS, qzU, xzg, yza, lenOfV, yze, copyV, b2sV, s2bV, mkSliceV, qzE, cvs, cv, qzI, qzJ, toA, ofA, FR.pop, abin, aun, intBin, shiftBin, strBin, bnds, natOf, max2A, min2A, foldA, VN.at, VH.push, VH.set, VH.kill, VH.fix, VB.fix, qzl, h0, VV.cells, ntV, qzW, qzN, qzX, qzV, closedB, closedL, plainB, plainL, qzO, countN, xzI, lowB, fzB, fzL, xzQ, xzZ, xzH, xzO, yzf, yzd, xzs, nilCmp, xzx, yzb, capMost, capDrop, ↓reduceIte, Option.getD_some, Option.getD_none, Option.isSome_some, Option.map_some, Option.map_none, List.getElem?_cons_zero, List.getElem?_cons_succ, List.length_cons, List.length_nil, List.drop_succ_cons, List.drop_zero, List.take_succ_cons, List.take_zero, List.append_nil, List.nil_append, List.cons_append, List.contains_cons, List.contains_nil, List.head?_cons, Nat.reduceAdd, Nat.reduceMul, Nat.reduceSub, Nat.reduceDiv, Nat.reduceLT, Nat.reduceEqDiff, reduceCtorEq, Nat.reduceLeDiff, Nat.reduceBEq, Int.reduceEq, Int.reduceLT, Int.reduceLE, Int.reduceBEq, Int.reduceGT, Nat.add_zero, Nat.zero_add, and_self, and_true, true_and, and_false, false_and, not_true_eq_false, not_false_eq_true, Bool.and_self, Bool.and_true, Bool.true_and, Bool.and_false, Bool.or_false, Bool.true_or, Bool.or_true, Bool.false_or, Bool.not_false, Bool.not_true, Bool.false_eq_true, beq_self_eq_true, bne_self_eq_false, beq_true, beq_false, decide_true, decide_false, true_or, if_true, if_false, forall_const, false_implies, true_implies, Bool.true_eq_false, reduceCtorEq, true_or, cSeg, cPt, cCl, cPath, cCmd, cPaint, cIcon, t_p_api_At, t_p_errors_errorString]; rfl)) (fun _ => rfl) (by omega) (by show 7 ≤ h.next + 1; omega) (by rw [List.length_replicate]; omega) (by rw [List.length_replicate]; omega) ?_
    intro h' g1 g2 g3
    simp only at g1 g2 g3
    rw [← rep_snoc] at g3
    have fr1 : ∀ k, k < 7 → qzr h'.l k = qzr h.l k := fun k hk => by
      rw [g2 k (by omega) (q.ne (.inl hk))]; simp only [qza]; rw [if_neg (by omega)]
    have i6' := (fr1 6 (by omega)).trans i6
    simp only [qzm, qzi, xza, xzh, qzf, qze, qzd, qzq, qzK, qzz, qzc, qzb, qzQ, qzg, qzh, qzP, qzn, qzo, qzu, qza, qzt, qzw, qzy, qzL, qzS, qzU, xzg, cv, qzI, qzJ, toA, ofA, FR.pop, abin, intBin, VH.set, qzl, VV.cells, ntV, qzO, xzs, ↓reduceIte, Option.getD_some, List.length_cons, List.length_nil, List.drop_succ_cons, List.drop_zero, List.take_succ_cons, List.take_zero, List.append_nil, List.nil_append, List.cons_append, List.head?_cons, Nat.reduceAdd, Nat.reduceEqDiff, Nat.reduceLeDiff, Nat.zero_add, and_self, t17, tc, i6', hw]
    refine ih (i + 1) _ _ (h.next + 1) (.slice (h.next + 1) 0 ((List.replicate i ()).length + 1) 4 (.toEnd 4)) (by omega) (fun k q1 q2 => ?_) ?_ ?_ ?_ (fun k q1 => ?_) ?_
    · simp only [qza]
      (repeat rw [if_neg (by omega)])
      exact hT k q1 q2
    · simp only [qza, ↓reduceIte]
    · simp only [qza, ↓reduceIte]
    · exact g3.ext (Nat.le_refl _) (fun x y => by simp only [qza]; rw [if_neg (by omega)])
    · simp only [qza]
      rw [if_neg (by omega), fr1 k (by omega)]; exact fr k q1
    · show 7 ≤ h'.next; omega
theorem three_loop {Gl : xzy} (T0 : VF) (K : AEx → VF → VH → Prop)
    (hK : ∀ T h j v l, (∀ k, k < 11 → qzr T k = qzr T0 k) → CSt h j v l → l.map (·.2) = List.replicate 3 (List.replicate 400 cubS) → K (.exit 3) T h)
    (u6 : qzr T0 6 = some (.ptr 0 0)) (u8 : qzr T0 8 = some (.ptr 3 0)) :
    ∀ (d i : Nat) (T : VF) (h : VH) (j : Nat) (v : VV) (l : List (Nat × List Seg)), d + i = 3 → (∀ k, k < 11 → qzr T k = qzr T0 k) → qzr T 11 = some (.int .i64 i) → CSt h j v l → l.map (·.2) = List.replicate i (List.replicate 400 cubS) →
    wp Go.VL.Er.E Gl (.loop c_glyphiclaw5_IconLimits_l6) T h K := by
  intro d
  induction d with
  | zero =>
    intro i T h j v l hd hT tc st hl
    obtain rfl : i = 3 := by omega
    have c : ¬ (((3 : Nat) : Int) < 3) := by omega
    refine xzo c_glyphiclaw5_IconLimits_l6.eq_1 ?_
    simp only [qzx, qzm, qzp, qzA, qzZ, qzs, qzj, qzi, xze, qzY, qzf, qze, qzd, qzq, xzd, qzK, qzz, qzc, qzC, qzb, qzQ, qzg, qzh, qzT, qzP, qzn, qzo, qzu, qza, qzt, qzw, qzy, xzi, xzt, xzr, qzS, qzU, xzg, cvs, cv, qzI, qzJ, toA, ofA, FR.pop, abin, intBin, VN.at, VH.push, VH.set, qzl, VV.cells, ntV, qzO, xzs, ↓reduceIte, Option.getD_some, List.length_cons, List.length_nil, List.drop_succ_cons, List.drop_zero, List.take_zero, List.append_nil, List.nil_append, List.head?_cons, Nat.reduceAdd, Nat.reduceEqDiff, Nat.reduceLeDiff, Nat.zero_add, and_self, true_and, Bool.false_eq_true, decide_false, forall_const, false_implies, tc, c]
    refine hK _ _ j v l (fun k q1 => ?_) st hl
    simp only [qza]
    (repeat rw [if_neg (by omega)])
    exact hT k q1
  | succ d ih =>
    intro i T h j v l hd hT tc st hl
    have t6 := (hT 6 (by omega)).trans u6
    have t8 := (hT 8 (by omega)).trans u8
    have c : (i : Int) < 3 := by omega
    have hw : IntKind.i64.wrap ((i : Int) + 1) = ((i + 1 : Nat) : Int) := by rw [xzj (by omega) (by omega)]; rfl
    have n := st.n
    have ll : l.length = i := by have := congrArg List.length hl; rw [List.length_map, List.length_replicate] at this; exact this
    refine xzo c_glyphiclaw5_IconLimits_l6.eq_1 ?_
    simp only [qzx, qzm, qzp, qzA, qzZ, qzs, qzj, qzi, xze, qzY, qzf, qze, qzd, qzq, xzd, qzK, qzz, qzc, qzC, qzb, qzQ, qzg, qzh, qzT, qzP, qzn, qzo, qzu, qza, qzt, qzw, qzy, xzi, xzt, xzr, qzS, qzU, xzg, cvs, cv, qzI, qzJ, toA, ofA, FR.pop, abin, intBin, VN.at, VH.push, VH.set, qzl, VV.cells, ntV, qzO, xzs, ↓reduceIte, Option.getD_some, List.length_cons, List.length_nil, List.drop_succ_cons, List.drop_zero, List.take_zero, List.append_nil, List.nil_append, List.head?_cons, Nat.reduceAdd, Nat.reduceEqDiff, Nat.reduceLeDiff, Nat.zero_add, and_self, and_true, decide_true, forall_const, false_implies, Bool.true_eq_false, tc, c]
    have st1 := st.move (h' := ⟨(h.next, some (VB.cells (pC .nilS) false)) :: (h.next, some (VB.cells (pC .nilS) false)) :: h.l, h.next + 1⟩) (by show h.next ≤ h.next + 1; omega) (fun k k1 => by simp only [qza]; rw [if_neg (by omega), if_neg (by omega)])
    refine seg_loop5 cubS 0 h.next (h.next + 1) (by omega) (by omega) (by omega) [] (by simp) _ ⟨(h.next, some (VB.cells (pC .nilS) false)) :: (h.next, some (VB.cells (pC .nilS) false)) :: h.l, h.next + 1⟩ _ ?_ ?_ ?_ st1.b0 400 0 _ _ 0 .nilS (by omega) (fun _ _ _ => rfl) ?_ ?_ ?_ (fun _ _ _ => rfl) (Nat.le_refl _)
    rotate_left
    · simp only [qza, ↓reduceIte, Nat.reduceEqDiff]
    · simp only [qza, ↓reduceIte, Nat.reduceEqDiff, t6]
    · simp only [qza, ↓reduceIte]; rfl
    · first | (simp only [qza, ↓reduceIte]; done) | (simp only [qzx, qzm, xzM, qzp, qzA, qzZ, qzD, qzs, wpIf_true, wpIf_false, qzj, qzi, xze, qzR, xza, xzp, xzc, xzh, qzY, xzw, qzf, qze, qzd, xzf, qzq, qzG, xzd, qzK, qzz, xzN, xzu, xzq, wpXG_false, xzK, xzT, wpXA_n, xzS, xzP, Ends_n, qzH, qzc, qzk, qzC, qzb, qzQ, qzg, qzh, qzT, xzz, xzE, kXN_app, qzP, wpW_copy, wpW_mapUpd, wpW_mark, qzB, wpW_callV, qzn, qzo, qzu, qza, qzt, qzw, qzy, xzl, qzL, xzm, iAddrAV, fieldV, idxArrV, extV, mkIV, tAssV, xzn, lenArrV, xzX, slV, xzR, yzc, qzM, qzF, xzC, xzB, xzV, eqPV, eqSV, xzY, eqFV, eqMV, eqGV, inGl, xzF, eqBool, eqInt, eqStr, xzi, xzU, xzt, xzr, qzS, qzU, xzg, yza, lenOfV, yze, copyV, b2sV, s2bV, mkSliceV, qzE, cvs, cv, qzI, qzJ, toA, ofA, FR.pop, abin, aun, intBin, shiftBin, strBin, bnds, natOf, max2A, min2A, foldA, VN.at, VH.push, VH.set, VH.kill, VH.fix, VB.fix, qzl, h0, VV.cells, ntV, qzW, qzN, qzX, qzV, closedB, closedL, plainB, plainL, qzO, countN, xzI, lowB, fzB, fzL, xzQ, xzZ, xzH, xzO, yzf, yzd, xzs, nilCmp, xzx, yzb, capMost, capDrop, ↓reduceIte, Option.getD_some, Option.getD_none, Option.isSome_some, Option.map_some, Option.map_none, List.getElem?_cons_zero, List.getElem?_cons_succ, List.length_cons, List.length_nil, List.drop_succ_cons, List.drop_zero, List.take_succ_cons, List.take_zero, List.append_nil, List.nil_append, List.cons_append, List.contains_cons, List.contains_nil, List.head?_cons, Nat.reduceAdd, Nat.reduceMul, Nat.reduceSub, Nat.reduceDiv, Nat.reduceLT, Nat.reduceEqDiff, reduceCtorEq, Nat.reduceLeDiff, Nat.reduceBEq, Int.reduceEq, Int.reduceLT, Int.reduceLE, Int.reduceBEq, Int.reduceGT, Nat.add_zero, Nat.zero_add, and_self, and_true, true_and, and_false, false_and, not_true_eq_false, not_false_eq_true, Bool.and_self, Bool.and_true, Bool.true_and, Bool.and_false, Bool.or_false, Bool.true_or, Bool.or_true, Bool.false_or, Bool.not_false, Bool.not_true, Bool.false_eq_true, beq_self_eq_true, bne_self_eq_false, beq_true, beq_false, decide_true, decide_false, true_or, if_true, if_false, forall_const, false_implies, true_implies, Bool.true_eq_false, reduceCtorEq, true_or, cSeg, cPt, cCl, cPath, cCmd, cPaint, cIcon, t_p_api_At, t_p_errors_errorString]; rfl)
    · exact xzW.nil
    intro T2 h2 j2 v2 hT2 i2 q2 fr2 hn2
    rw [List.nil_append] at q2
    obtain ⟨rfl, q3, q4, q5⟩ := q2.some (rep_ne (by omega))
    rw [List.length_replicate] at i2
    have w8 := hT2 8 (by omega) (by omega)
    have w12 := hT2 12 (by omega) (by omega)
    have w11 := hT2 11 (by omega) (by omega)
    simp only [qza, Nat.reduceEqDiff, if_true, if_false, t8, tc] at w8 w11 w12
    have st2 := st.move (h' := h2) (by omega) (fun k k1 => by
      rw [fr2 k (by omega) (by omega)]; simp only [qza]; rw [if_neg (by omega), if_neg (by omega)])
    have n2 := st2.n
    have i3 := st2.ic
    have y3 : ¬ h2.next = 3 := by omega
    have y6 : ¬ h2.next + 1 = 3 := by omega
    have y4 : ¬ h2.next = h.next := by omega
    unfold iC at i3
    simp only [qzm, qzi, xzp, qze, qzd, qzq, qzG, xzd, qzK, qzc, qzk, qzC, qzb, qzg, qzh, qzT, qzn, qzo, qzu, qza, qzt, qzw, qzL, qzM, qzF, xzi, xzt, xzr, qzS, qzE, cvs, cv, VN.at, VH.push, qzl, VV.cells, ntV, ↓reduceIte, Option.getD_some, List.getElem?_cons_zero, List.getElem?_cons_succ, List.length_cons, List.length_nil, List.drop_succ_cons, List.drop_zero, List.take_succ_cons, List.take_zero, List.append_nil, List.nil_append, List.cons_append, Nat.reduceAdd, Nat.reduceDiv, Nat.reduceEqDiff, Nat.reduceLeDiff, Nat.zero_add, and_self, w8, w12, i2, i3]
    have q' : xzW 6 ⟨(h2.next + 1, some (VB.cells (fC h2.next) false)) :: (h2.next, some (VB.cells (pC (.slice j2 0 400 7 (.toEnd 7))) false)) :: h2.l, h2.next + 1 + 1⟩ j (fun x : Nat × List Seg => fC x.1) l 11 v := st2.ac.ext (by show h2.next ≤ h2.next + 1 + 1; omega) (fun x y => by simp only [qza]; rw [if_neg (by omega), if_neg (by omega)])
    refine wpW_acc (base := 6) (j := j) (f := fun x : Nat × List Seg => fC x.1) (l := l) (a := (h2.next, List.replicate 400 cubS)) q' (by unfold fC; first | (simp only [qza, yza, yze, qzl, ↓reduceIte, Option.getD_some, List.length_cons, List.length_nil, List.drop_zero, List.take_succ_cons, List.take_zero, Nat.reduceAdd, Nat.reduceMul, reduceCtorEq, Nat.reduceLeDiff, Nat.zero_add, true_or, reduceCtorEq, true_or]; done) | (simp only [qzx, qzm, xzM, qzp, qzA, qzZ, qzD, qzs, wpIf_true, wpIf_false, qzj, qzi, xze, qzR, xza, xzp, xzc, xzh, qzY, xzw, qzf, qze, qzd, xzf, qzq, qzG, xzd, qzK, qzz, xzN, xzu, xzq, wpXG_false, xzK, xzT, wpXA_n, xzS, xzP, Ends_n, qzH, qzc, qzk, qzC, qzb, qzQ, qzg, qzh, qzT, xzz, xzE, kXN_app, qzP, wpW_copy, wpW_mapUpd, wpW_mark, qzB, wpW_callV, qzn, qzo, qzu, qza, qzt, qzw, qzy, xzl, qzL, xzm, iAddrAV, fieldV, idxArrV, extV, mkIV, tAssV, xzn, lenArrV, xzX, slV, xzR, yzc, qzM, qzF, xzC, xzB, xzV, eqPV, eqSV, xzY, eqFV, eqMV, eqGV, inGl, xzF, eqBool, eqInt, eqStr, xzi, xzU, xzt, xzr, qzS, qzU, xzg, yza, lenOfV, yze, copyV, b2sV, s2bV, mkSliceV, qzE, cvs, cv, qzI, qzJ, toA, ofA, FR.pop, abin, aun, intBin, shiftBin, strBin, bnds, natOf, max2A, min2A, foldA, VN.at, VH.push, VH.set, VH.kill, VH.fix, VB.fix, qzl, h0, VV.cells, ntV, qzW, qzN, qzX, qzV, closedB, closedL, plainB, plainL, qzO, countN, xzI, lowB, fzB, fzL, xzQ, xzZ, xzH, xzO, yzf, yzd, xzs, nilCmp, xzx, yzb, capMost, capDrop, ↓reduceIte, Option.getD_some, Option.getD_none, Option.isSome_some, Option.map_some, Option.map_none, List.getElem?_cons_zero, List.getElem?_cons_succ, List.length_cons, List.length_nil, List.drop_succ_cons, List.drop_zero, List.take_succ_cons, List.take_zero, List.append_nil, List.nil_append, List.cons_append, List.contains_cons, List.contains_nil, List.head?_cons, Nat.reduceAdd, Nat.reduceMul, Nat.reduceSub, Nat.reduceDiv, Nat.reduceLT, Nat.reduceEqDiff, reduceCtorEq, Nat.reduceLeDiff, Nat.reduceBEq, Int.reduceEq, Int.reduceLT, Int.reduceLE, Int.reduceBEq, Int.reduceGT, Nat.add_zero, Nat.zero_add, and_self, and_true, true_and, and_false, false_and, not_true_eq_false, not_false_eq_true, Bool.and_self, Bool.and_true, Bool.true_and, Bool.and_false, Bool.or_false, Bool.true_or, Bool.or_true, Bool.false_or, Bool.not_false, Bool.not_true, Bool.false_eq_true, beq_self_eq_true, bne_self_eq_false, beq_true, beq_false, decide_true, decide_false, true_or, if_true, if_false, forall_const, false_implies, true_implies, Bool.true_eq_false, reduceCtorEq, true_or, cSeg, cPt, cCl, cPath, cCmd, cPaint, cIcon, t_p_api_At, t_p_errors_errorString]; rfl)) (fun _ => rfl) (by omega) (by show 6 ≤ h2.next + 1 + 1; omega) (by omega) (by omega) ?_
    intro h' g1 g2 g3
    simp only at g1 g2 g3
    have jne : j2 ≠ j ∨ v = .nilS := by
      rcases st.ac with ⟨_, e⟩ | ⟨_, _, _, e⟩
      · exact .inr e
      · exact .inl (by omega)
    have sa := st2.add (S := List.replicate 400 cubS) (vs := .slice j2 0 400 7 (.toEnd 7)) ⟨j2, .toEnd 7, by rw [List.length_replicate], by simp [yzb], q3, q5, jne, by omega⟩ g1 g2 g3
    have i3' : qzr h'.l 3 = some (some (.cells (iC v) false)) := by
      rw [g2 3 (by omega) (st2.ac.ne (.inl (by omega)))]
      simp only [qza]; rw [if_neg (by omega), if_neg (by omega)]; exact st2.ic
    unfold iC at i3'
    simp only [qzm, qzi, xza, xzh, qzf, qze, qzd, qzq, qzK, qzz, qzc, qzb, qzQ, qzg, qzh, qzP, qzn, qzo, qzu, qza, qzt, qzw, qzy, qzL, qzS, qzU, xzg, cv, qzI, qzJ, toA, ofA, FR.pop, abin, intBin, VH.set, qzl, VV.cells, ntV, qzO, xzs, ↓reduceIte, Option.getD_some, List.length_cons, List.length_nil, List.drop_succ_cons, List.drop_zero, List.take_succ_cons, List.take_zero, List.append_nil, List.nil_append, List.cons_append, List.head?_cons, Nat.reduceAdd, Nat.reduceEqDiff, Nat.reduceLeDiff, Nat.zero_add, and_self, w8, w11, i3', hw]
    refine ih (i + 1) _ _ (h2.next + 1 + 1) (.slice (h2.next + 1 + 1) 0 (l.length + 1) 11 (.toEnd 11)) (l ++ [(h2.next, List.replicate 400 cubS)]) (by omega) (fun k q1 => ?_) ?_ sa ?_
    · simp only [qza]
      (repeat rw [if_neg (by omega)])
      rw [hT2 k (by omega) (by omega)]
      simp only [qza]
      (repeat rw [if_neg (by omega)])
      exact hT k q1
    · simp only [qza, ↓reduceIte]
    · rw [List.map_append, hl, rep_snoc i]; rfl
end
end Go.VL.Lm
