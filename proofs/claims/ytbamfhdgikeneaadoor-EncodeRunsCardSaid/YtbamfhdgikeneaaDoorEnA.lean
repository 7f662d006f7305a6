/- Chapter 6: runs. -/
import Derived.Test.YtbamfhdgikeneaaDoorWiA
import Derived.Test.YtbamfhdgikeneaaDoorVlL
namespace Go.VL.En
open Go.FR Go.IR Go.VL Go.VL.Color Go.VL.Wind Go.VL.Ic
noncomputable section
set_option linter.unusedSimpArgs false
set_option linter.unusedVariables false
set_option maxRecDepth 100000
set_option maxHeartbeats 1000000

/-- Kinds in a row: which, how many. -/
abbrev Run := Int × Nat
abbrev cR (r : Run) : List VV := [.int .i64 r.1, .int .i64 (r.2 : Int)]
theorem cR_len (r : Run) : (cR r).length = 2 := rfl
def pushR (A : List Run) (k : Int) : List Run := match A.reverse with
  | [] => [(k, 1)]
  | (k', n) :: B => if k' = k then B.reverse ++ [(k', n + 1)] else A ++ [(k, 1)]
theorem pushR_nil (k : Int) : pushR [] k = [(k, 1)] := rfl
theorem pushR_snoc (A : List Run) (k' : Int) (n : Nat) (k : Int) : pushR (A ++ [(k', n)]) k = if k' = k then A ++ [(k', n + 1)] else A ++ [(k', n)] ++ [(k, 1)] := by
  unfold pushR
  rw [List.reverse_append]
  simp only [List.reverse_cons, List.reverse_nil, List.nil_append, List.cons_append, List.reverse_reverse]
def runsS (l : List Seg) : List Run := l.foldl (fun A s => pushR A s.kind) []
theorem pushR_len (A : List Run) (k : Int) : (pushR A k).length ≤ A.length + 1 := by
  rcases List.eq_nil_or_concat A with rfl | ⟨B, ⟨k', n⟩, rfl⟩
  · simp [pushR_nil]
  · rw [List.concat_eq_append, pushR_snoc]; split <;> simp
/-- How many, all together. -/
def countR (A : List Run) : Nat := (A.map (·.2)).sum
theorem countR_snoc (A : List Run) (r : Run) : countR (A ++ [r]) = countR A + r.2 := by unfold countR; simp
theorem flatR_at (A : List Run) (r : Run) : (xzq cR (A ++ [r]))[A.length * 2]? = some (.int .i64 r.1) ∧ (xzq cR (A ++ [r]))[A.length * 2 + 1]? = some (.int .i64 (r.2 : Int)) := by
  have hl := flatL_length cR_len A
  rw [flatL_append]
  refine ⟨?_, ?_⟩
  · rw [List.getElem?_append_right (by omega), hl, Nat.sub_self]; rfl
  · rw [List.getElem?_append_right (by omega), hl, Nat.add_sub_cancel_left]; rfl
theorem flatR_set (A : List Run) (r : Run) (n : Nat) : (xzq cR (A ++ [r])).take (A.length * 2 + 1) ++ ([.int .i64 (n : Int)] ++ (xzq cR (A ++ [r])).drop (A.length * 2 + 1 + 1)) = xzq cR (A ++ [(r.1, n)]) := by
  have hl := flatL_length cR_len A
  rw [flatL_append, flatL_append, List.take_append, List.drop_append, hl]
  rw [List.take_of_length_le (by omega), List.drop_of_length_le (by omega)]
  rw [show A.length * 2 + 1 - A.length * 2 = 1 by omega, show A.length * 2 + 1 + 1 - A.length * 2 = 2 by omega]
  simp [xzq, cR]
theorem runs_loop {Gl : xzv} (l : List Seg) (hl : l.length < 1000000) (R : List Run) (nx : Nat) (K : AEx → VF → VH → Prop)
    (hK : ∀ T h j v, qzB T 3 = some v → AccAt nx h j cR R 2 v → (R = [] → v = .nilS) → K (.exit 0) T h) :
    ∀ (d i : Nat) (A : List Run) (T : VF) (h : VH) (j : Nat) (v : VV), d + i = l.length → R = (l.drop i).foldl (fun A s => pushR A s.kind) A → A.length ≤ i → countR A = i → (A = [] → v = .nilS) → qzB T 3 = some v → qzB T 7 = some (.fsl (xzq cSeg l) l.length 7) → qzB T 8 = some (.int .i64 l.length) → qzB T 9 = some (.int .i64 i) → AccAt nx h j cR A 2 v → nx ≤ h.next →
    wp Go.VL.Er.E Gl (.loop c_encode_Runs_l0) T h K := by
  intro d
  induction d with
  | zero =>
    intro i A T h j v hd hR hA hc hv0 t3 t7 t8 t9 q hn
    obtain rfl : i = l.length := by omega
    rw [List.drop_length] at hR
    refine xzf c_encode_Runs_l0.eq_1 ?_
    have c : ¬ ((l.length : Int) < l.length) := by omega
    simp only [qzx, qzl, qzm, qzw, qzP, qzq, qzg, qzk, qzV, qzO, qzf, qze, qzd, qzp, qzc, qzb, qzh, qzi, qzn, qzo, qzu, qza, qzt, qzv, qzF, qzE, toA, ofA, FR.pop, abin, intBin, ↓reduceIte, Nat.reduceEqDiff, true_and, Bool.false_eq_true, decide_false, forall_const, false_implies, t8, t9, c]
    exact hK _ _ j v (by simp only [qza, ↓reduceIte, Nat.reduceEqDiff, t3]) (by rw [hR]; exact q) (by rw [hR]; exact hv0)
  | succ d ih =>
    intro i A T h j v hd hR hA hc hv0 t3 t7 t8 t9 q hn
    refine xzf c_encode_Runs_l0.eq_1 ?_
    have hlt : i < l.length := by omega
    have c : (i : Int) < l.length := by omega
    obtain ⟨e, he⟩ : ∃ e, l[i]? = some e := ⟨l[i], List.getElem?_eq_getElem hlt⟩
    have p1 := flat_le cSeg_len he
    have p2 := flat_at cSeg_len he
    have hw : IntKind.i64.wrap ((i : Int) + 1) = ((i + 1 : Nat) : Int) := by rw [xzm (by omega) (by omega)]; rfl
    rw [drop_at he, List.foldl_cons] at hR
    have n0 : natV (VV.int .i64 0) = some 0 := rfl
    have n1 : natV (VV.int .i64 1) = some 1 := rfl
    rcases List.eq_nil_or_concat A with rfl | ⟨B, ⟨k', n⟩, rfl⟩
    · rw [pushR_nil] at hR
      have hv := hv0 rfl
      subst hv
      have z0 : ¬ ((0 : Nat) : Int) > 0 := by omega
      simp only [qzx, qzl, wp_draw, qzm, qzw, qzP, qzq, qzg, qzk, qzV, qzO, qzf, qze, qzd, qzp, qzC, xzd, qzU, qzz, wpX_nil, xzu, xzs, wpXG_false, xzD, qzc, qzj, qzK, qzb, xze, qzh, qzi, qzX, xzw, xzx, xzg, qzn, qzo, qzu, qza, qzt, qzv, qzy, xzi, qzJ, xzb, qzY, qzH, qzD, xzo, xzC, xzy, xzh, xzl, xzt, qzA, cvs, cv, qzF, qzE, toA, ofA, FR.pop, abin, intBin, VN.at, VH.push, VH.set, qzs, VV.cells, ntV, qzZ, countN, xzz, xzn, ↓reduceIte, Option.getD_some, List.getElem?_cons_zero, List.length_cons, List.length_nil, List.drop_succ_cons, List.drop_zero, List.take_succ_cons, List.take_zero, List.append_nil, List.nil_append, List.cons_append, List.head?_cons, Nat.reduceAdd, Nat.reduceDiv, Nat.reduceEqDiff, Nat.reduceLeDiff, Int.reduceGT, Nat.add_zero, Nat.zero_add, and_self, and_true, true_and, Bool.false_eq_true, beq_true, decide_true, decide_false, forall_const, false_implies, Bool.true_eq_false, cSeg, t3, t7, t8, t9, c, hlt, p1, p2]
      refine wpW_acc (base := nx) (j := j) (f := cR) (l := []) (a := (e.kind, 1)) (.inl ⟨rfl, rfl⟩) (by simp only [qza, srcV, winV, qzs, ↓reduceIte, Option.getD_some, List.length_cons, List.length_nil, List.drop_zero, List.take_succ_cons, List.take_zero, Nat.reduceAdd, Nat.reduceMul, reduceCtorEq, Nat.reduceLeDiff, Nat.zero_add, true_or, reduceCtorEq, true_or, cR] <;> first | rfl | exact ⟨rfl, rfl⟩ | exact qzr rfl) cR_len (by omega) (by show nx ≤ h.next + 1 + 1; omega) (by simp) (by simp) ?_
      intro h' g1 g2 g3
      simp only [qzl, qzk, qzR, xzc, qzf, qze, qzd, qzp, qzz, qzc, qzb, qzh, qzi, qzn, qzo, qzu, qza, qzt, qzv, qzy, cv, qzF, qzE, toA, ofA, FR.pop, abin, intBin, xzz, ↓reduceIte, List.length_nil, Nat.reduceEqDiff, Nat.zero_add, t9, hw]
      refine ih (i + 1) [(e.kind, 1)] _ h' _ _ (by omega) hR (by simp) (by rw [← hc]; rfl) (fun e => nomatch e) ?_ ?_ ?_ ?_ g3 ?_
      · simp only [qza, ↓reduceIte, List.length_nil, Nat.reduceEqDiff, Nat.zero_add]
      · simp only [qza, ↓reduceIte, Nat.reduceEqDiff, t7]
      · simp only [qza, ↓reduceIte, Nat.reduceEqDiff, t8]
      · simp only [qza, ↓reduceIte]
      · simp only at g1; omega
    · rw [List.concat_eq_append] at hR hA hc q hv0
      rw [pushR_snoc] at hR
      rw [countR_snoc] at hc
      obtain ⟨rfl, q2, q3, q4⟩ := q.some (by simp)
      have len : (B ++ [(k', n)]).length = B.length + 1 := by simp
      rw [len] at t3 hA
      have f1 := (flatR_at B (k', n)).1
      have f2 := (flatR_at B (k', n)).2
      have f3 := flatL_length cR_len (B ++ [(k', n)])
      rw [len] at f3
      have z0 : ((B.length + 1 : Nat) : Int) > 0 := by omega
      have wl : IntKind.i64.wrap (((B.length + 1 : Nat) : Int) - 1) = (B.length : Int) := by rw [xzm (by omega) (by omega)]; omega
      have zl := xzn .i64 B.length
      have e1 : ¬ h.next = j := by omega
      have e2 : ¬ j = h.next := by omega
      have b1 : B.length < B.length + 1 := by omega
      have b2 : (B.length : Int) < ((B.length + 1 : Nat) : Int) := by omega
      have f4 : B.length * 2 + 1 < (xzq cR (B ++ [(k', n)])).length := by omega
      have f5 : B.length * 2 + 1 + 1 ≤ (xzq cR (B ++ [(k', n)])).length := by omega
      have fs := flatR_set B (k', n) (n + 1)
      simp only [List.cons_append, List.nil_append] at fs
      have wn : IntKind.i64.wrap ((n : Int) + 1) = ((n + 1 : Nat) : Int) := by rw [xzm (by omega) (by omega)]; rfl
      by_cases g : k' = e.kind
      · have gb : (k' == e.kind) = true := by simp [g]
        rw [if_pos g] at hR
        simp only [qzx, qzl, wp_draw, qzm, qzw, qzP, qzq, qzg, qzk, qzV, qzR, xzc, qzO, qzf, qze, qzd, qzp, qzC, xzd, qzU, qzz, wpX_nil, xzu, xzs, xzD, wpXA_r, wpXA_w, kX_app, qzc, qzj, qzK, qzb, xze, qzh, qzi, qzX, xzw, xzx, xzg, qzn, qzo, qzu, qza, qzt, qzv, qzy, xzi, qzJ, xzb, iAddrAV, qzY, qzH, qzD, xzo, xzC, xzy, xzh, xzl, xzt, qzA, cvs, cv, qzF, qzE, toA, ofA, FR.pop, abin, intBin, VN.at, VH.push, VH.set, qzs, VV.cells, ntV, qzZ, countN, mayRead, apartB, liveB, refsOKL, refsOK, idsL, idsV, xzz, xzn, ↓reduceIte, Option.getD_some, Option.isSome_some, Option.map_some, List.getElem?_cons_zero, List.length_cons, List.length_nil, List.drop_succ_cons, List.drop_zero, List.take_succ_cons, List.take_zero, List.append_nil, List.nil_append, List.cons_append, List.contains_nil, List.head?_cons, Nat.reduceAdd, Nat.reduceMul, Nat.reduceDiv, Nat.reduceLT, Nat.reduceEqDiff, Nat.reduceLeDiff, Nat.add_zero, Nat.zero_add, and_self, and_true, true_and, Bool.and_self, Bool.not_false, beq_self_eq_true, decide_true, forall_const, false_implies, Bool.true_eq_false, cSeg, t3, t7, t8, t9, c, hlt, p1, p2, z0, wl, zl, q2, f1, f2, f5, e1, b1, n0, n1, gb, wn, fs, hw]
        refine ih (i + 1) (B ++ [(k', n + 1)]) _ _ j (.slice j 0 (B.length + 1) 2 (.toEnd 2)) (by omega) hR (by simp; omega) (by rw [countR_snoc]; omega) (fun e => by simp at e) ?_ ?_ ?_ ?_ (.inr ⟨?_, ?_, q3, ?_⟩) ?_
        · simp only [qza, ↓reduceIte, Nat.reduceEqDiff, t3]
        · simp only [qza, ↓reduceIte, Nat.reduceEqDiff, t7]
        · simp only [qza, ↓reduceIte, Nat.reduceEqDiff, t8]
        · simp only [qza, ↓reduceIte]
        · exact congrArg (fun n => VV.slice j 0 n 2 (.toEnd 2)) (by simp)
        · simp only [qza, if_true]
        · show j < h.next + 1; omega
        · show nx ≤ h.next + 1; omega
      · have gb : (k' == e.kind) = false := by simp [g]
        rw [if_neg g] at hR
        simp only [qzx, qzl, wp_draw, qzm, qzw, qzP, qzq, qzg, qzk, qzV, qzO, qzf, qze, qzd, qzp, qzC, xzd, qzU, qzz, wpX_nil, xzu, xzs, xzD, wpXA_r, wpXA_w, qzc, qzj, qzK, qzb, xze, qzh, qzi, qzX, xzw, xzx, xzg, qzn, qzo, qzu, qza, qzt, qzv, qzy, xzi, qzJ, xzb, iAddrAV, qzY, qzH, qzD, xzo, xzC, xzy, xzh, xzl, xzt, qzA, cvs, cv, qzF, qzE, toA, ofA, FR.pop, abin, intBin, VN.at, VH.push, VH.set, qzs, VV.cells, ntV, qzZ, countN, mayRead, apartB, liveB, refsOKL, refsOK, idsL, idsV, xzz, xzn, ↓reduceIte, Option.getD_some, Option.isSome_some, List.getElem?_cons_zero, List.length_cons, List.length_nil, List.drop_succ_cons, List.drop_zero, List.take_succ_cons, List.take_zero, List.append_nil, List.nil_append, List.cons_append, List.contains_nil, List.head?_cons, Nat.reduceAdd, Nat.reduceMul, Nat.reduceDiv, Nat.reduceLT, Nat.reduceEqDiff, Nat.reduceLeDiff, Nat.add_zero, Nat.zero_add, and_self, and_true, true_and, Bool.and_self, Bool.not_false, Bool.false_eq_true, beq_self_eq_true, decide_true, forall_const, false_implies, Bool.true_eq_false, cSeg, t3, t7, t8, t9, c, hlt, p1, p2, z0, wl, zl, q2, f1, f2, e1, b1, n0, n1, gb]
        refine wpW_acc (base := nx) (j := j) (f := cR) (l := B ++ [(k', n)]) (a := (e.kind, 1)) (by rw [← len]; exact q.ext (show h.next ≤ h.next + 1 + 1 by omega) (fun x y => by simp only [qza]; rw [if_neg (by omega), if_neg (by omega), if_neg (by omega)])) (by simp only [qza, srcV, winV, qzs, ↓reduceIte, Option.getD_some, List.length_cons, List.length_nil, List.drop_zero, List.take_succ_cons, List.take_zero, Nat.reduceAdd, Nat.reduceMul, reduceCtorEq, Nat.reduceLeDiff, Nat.zero_add, true_or, reduceCtorEq, true_or, cR] <;> first | rfl | exact ⟨rfl, rfl⟩ | exact qzr rfl) cR_len (by omega) (by show nx ≤ h.next + 1 + 1; omega) (by simp; omega) (by simp; omega) ?_
        intro h' g1 g2 g3
        simp only [qzl, qzk, qzR, xzc, qzf, qze, qzd, qzp, qzz, qzc, qzb, qzh, qzi, qzn, qzo, qzu, qza, qzt, qzv, qzy, cv, qzF, qzE, toA, ofA, FR.pop, abin, intBin, xzz, ↓reduceIte, Nat.reduceEqDiff, t9, hw]
        refine ih (i + 1) (B ++ [(k', n)] ++ [(e.kind, 1)]) _ h' _ _ (by omega) hR (by simp; omega) (by rw [countR_snoc, countR_snoc]; simp only; omega) (fun e => by simp at e) ?_ ?_ ?_ ?_ g3 ?_
        · simp only [qza, ↓reduceIte, Nat.reduceEqDiff]
        · simp only [qza, ↓reduceIte, Nat.reduceEqDiff, t7]
        · simp only [qza, ↓reduceIte, Nat.reduceEqDiff, t8]
        · simp only [qza, ↓reduceIte]
        · simp only at g1; omega
theorem runs_run (Gl : xzv) (l : List Seg) (hl : l.length < 1000000) : CallsV Go.VL.Er.E Gl f_encode_Runs [.fsl (xzq cSeg l) l.length 7] h0 (fun v h => ∃ j, AccAt 0 h j cR (runsS l) 2 v ∧ (l = [] → v = .nilS)) := by
  refine xzp E_encode_Runs ?_
  unfold c_encode_Runs r_encode_Runs
  simp only [xzF]
  simp only [qzl, qzm, qzw, qzk, qzf, qze, qzd, qzp, qzc, qzb, qzh, qzi, qzn, qzo, qzu, qza, qzt, qzv, qzy, qzY, cv, h0, ↓reduceIte, reduceCtorEq, reduceCtorEq]
  refine runs_loop l hl (runsS l) 0 _ ?_ l.length 0 [] _ _ 0 .nilS (by omega) rfl (Nat.le_refl _) rfl (fun _ => rfl) ?_ ?_ ?_ ?_ AccAt.nil (Nat.zero_le _)
  · intro T h j v t3 q hv
    simp only [qzl, qzm, qzG, qzk, xzk, qzf, qze, qzd, qzp, qzI, qzc, qzb, qzh, qzi, qzn, qzo, qzu, qza, qzt, qzv, qzy, qzT, qzM, qzW, qzS, ↓reduceIte, t3]
    exact ⟨j, q, fun e => hv (by rw [e]; rfl)⟩
  all_goals first | (simp only [qza, ↓reduceIte, Nat.reduceEqDiff]; done) | (simp only [qza, ↓reduceIte]; rfl)
theorem push_ne (A : List Run) (k : Int) : pushR A k ≠ [] := by
  rcases List.eq_nil_or_concat A with rfl | ⟨B, ⟨k', n⟩, rfl⟩
  · simp [pushR_nil]
  · rw [List.concat_eq_append, pushR_snoc]; split <;> simp
theorem fold_ne : ∀ (l : List Seg) (A : List Run), A ≠ [] → l.foldl (fun A s => pushR A s.kind) A ≠ []
  | [], A, h => h
  | s :: l, A, h => fold_ne l _ (push_ne A s.kind)
theorem runs_ne {l : List Seg} (h : l ≠ []) : runsS l ≠ [] := by
  cases l with
  | nil => exact (h rfl).elim
  | cons s l => exact fold_ne l _ (push_ne [] s.kind)
theorem runs_own (Gl : xzv) (l : List Seg) (hl : l.length < 1000000) (hn : l ≠ []) : PureOwn Go.VL.Er.E Gl f_encode_Runs [.fsl (xzq cSeg l) l.length 7] (xzq cR (runsS l)) 0 (runsS l).length 2 (.toEnd 2) :=
  own_sound ((runs_run Gl l hl).mono fun v h ⟨j, q, _⟩ => by
    obtain ⟨e1, e2, _, _⟩ := q.some (runs_ne hn)
    exact ⟨j, _, e1, by rw [qzs, e2]; rfl, closedL_flat (fun _ => rfl) _, subL_refl _⟩)
theorem runs_nil (Gl : xzv) : PureOk Go.VL.Er.E Gl f_encode_Runs [.fsl [] 0 7] .nilS :=
  pure_sound ((runs_run Gl [] (by simp)).mono fun v h ⟨j, q, e⟩ => by
    rw [e rfl]; exact qzr rfl)
end
end Go.VL.En
