import Derived.Test.YtbamfhdgikeneaaDoorWiA
import Derived.Test.YtbamfhdgikeneaaDoorVlI
import Derived.Test.YtbamfhdgikeneaaDoorIrA
/- Chapter 6: runs. -/
namespace Go.VL.En
open Go.FR Go.IR Go.VL Go.VL.Color Go.VL.Wind Go.VL.Ic
noncomputable section
set_option linter.unusedSimpArgs false
set_option linter.unusedVariables false
set_option maxRecDepth 100000
set_option maxHeartbeats 1000000

/-- Kinds in a row: which, how many. -/
abbrev Run := Int × Nat
abbrev cR (r : Run) : List VV := [.int .i64 r.1, .int .i64 (r.2 : Int)]
theorem cR_len (r : Run) : (cR r).length = 2 := rfl
def pushR (A : List Run) (k : Int) : List Run := match A.reverse with
  | [] => [(k, 1)]
  | (k', n) :: B => if k' = k then B.reverse ++ [(k', n + 1)] else A ++ [(k, 1)]
theorem pushR_nil (k : Int) : pushR [] k = [(k, 1)] := rfl
theorem pushR_snoc (A : List Run) (k' : Int) (n : Nat) (k : Int) : pushR (A ++ [(k', n)]) k = if k' = k then A ++ [(k', n + 1)] else A ++ [(k', n)] ++ [(k, 1)] := by
  unfold pushR
  rw [List.reverse_append]
  simp only [List.reverse_cons, List.reverse_nil, List.nil_append, List.cons_append, List.reverse_reverse]
def runsS (l : List Seg) : List Run := l.foldl (fun A s => pushR A s.kind) []
theorem pushR_len (A : List Run) (k : Int) : (pushR A k).length ≤ A.length + 1 := by
  rcases List.eq_nil_or_concat A with rfl | ⟨B, ⟨k', n⟩, rfl⟩
  · simp [pushR_nil]
  · rw [List.concat_eq_append, pushR_snoc]; split <;> simp
/-- How many, all together. -/
def countR (A : List Run) : Nat := (A.map (·.2)).sum
theorem countR_snoc (A : List Run) (r : Run) : countR (A ++ [r]) = countR A + r.2 := by unfold countR; simp
theorem flatR_at (A : List Run) (r : Run) : (xzk cR (A ++ [r]))[A.length * 2]? = some (.int .i64 r.1) ∧ (xzk cR (A ++ [r]))[A.length * 2 + 1]? = some (.int .i64 (r.2 : Int)) := by
  have hl := flatL_length cR_len A
  rw [flatL_append]
  refine ⟨?_, ?_⟩
  · rw [List.getElem?_append_right (by omega), hl, Nat.sub_self]; rfl
  · rw [List.getElem?_append_right (by omega), hl, Nat.add_sub_cancel_left]; rfl
theorem flatR_set (A : List Run) (r : Run) (n : Nat) : (xzk cR (A ++ [r])).take (A.length * 2 + 1) ++ ([.int .i64 (n : Int)] ++ (xzk cR (A ++ [r])).drop (A.length * 2 + 1 + 1)) = xzk cR (A ++ [(r.1, n)]) := by
  have hl := flatL_length cR_len A
  rw [flatL_append, flatL_append, List.take_append, List.drop_append, hl]
  rw [List.take_of_length_le (by omega), List.drop_of_length_le (by omega)]
  rw [show A.length * 2 + 1 - A.length * 2 = 1 by omega, show A.length * 2 + 1 + 1 - A.length * 2 = 2 by omega]
  simp [xzk, cR]
theorem runs_loop {Gl : xzt} (l : List Seg) (hl : l.length < 1000000) (R : List Run) (nx : Nat) (K : AEx → VF → VH → Prop)
    (hK : ∀ T h j v, qzw T 3 = some v → AccAt nx h j cR R 2 v → (R = [] → v = .nilS) → K (.exit 0) T h) :
    ∀ (d i : Nat) (A : List Run) (T : VF) (h : VH) (j : Nat) (v : VV), d + i = l.length → R = (l.drop i).foldl (fun A s => pushR A s.kind) A → A.length ≤ i → countR A = i → (A = [] → v = .nilS) → qzw T 3 = some v → qzw T 7 = some (.fsl (xzk cSeg l) l.length 7) → qzw T 8 = some (.int .i64 l.length) → qzw T 9 = some (.int .i64 i) → AccAt nx h j cR A 2 v → nx ≤ h.next →
    wp Go.VL.Er.E Gl (.loop c_encode_Runs_l0) T h K := by
  intro d
  induction d with
  | zero =>
    intro i A T h j v hd hR hA hc hv0 t3 t7 t8 t9 q hn
    obtain rfl : i = l.length := by omega
    rw [List.drop_length] at hR
    refine xzn c_encode_Runs_l0.eq_1 ?_
    have c : ¬ ((l.length : Int) < l.length) := by omega
    simp only [qzz, qzk, qzo, qzC, qzV, qzv, qzn, qzi, xzd, qzU, qzf, qze, qzd, qzp, qzc, qzb, qzg, qzh, qzl, qzm, qzt, qza, qzs, qzu, qzI, qzJ, toA, ofA, FR.pop, abin, intBin, ↓reduceIte, Nat.reduceEqDiff, true_and, Bool.false_eq_true, decide_false, forall_const, false_implies, t8, t9, c]
    exact hK _ _ j v (by simp only [qza, ↓reduceIte, Nat.reduceEqDiff, t3]) (by rw [hR]; exact q) (by rw [hR]; exact hv0)
  | succ d ih =>
    intro i A T h j v hd hR hA hc hv0 t3 t7 t8 t9 q hn
    refine xzn c_encode_Runs_l0.eq_1 ?_
    have hlt : i < l.length := by omega
    have c : (i : Int) < l.length := by omega
    obtain ⟨e, he⟩ : ∃ e, l[i]? = some e := ⟨l[i], List.getElem?_eq_getElem hlt⟩
    have p1 := flat_le cSeg_len he
    have p2 := flat_at cSeg_len he
    have hw : IntKind.i64.wrap ((i : Int) + 1) = ((i + 1 : Nat) : Int) := by rw [qzY (by omega) (by omega)]; rfl
    rw [drop_at he, List.foldl_cons] at hR
    have n0 : natV (VV.int .i64 0) = some 0 := rfl
    have n1 : natV (VV.int .i64 1) = some 1 := rfl
    rcases List.eq_nil_or_concat A with rfl | ⟨B, ⟨k', n⟩, rfl⟩
    · rw [pushR_nil] at hR
      have hv := hv0 rfl
      subst hv
      have z0 : ¬ ((0 : Nat) : Int) > 0 := by omega
      simp only [qzz, qzk, xzM, qzo, qzC, qzV, qzv, qzn, qzi, xzd, qzU, qzf, qze, qzd, qzp, qzF, qzX, qzN, qzy, xzO, xzr, xzp, wpXG_false, xzD, qzc, qzj, qzE, qzb, xza, qzg, qzh, qzO, xzx, xzy, xzb, qzl, qzm, qzt, qza, qzs, qzu, qzx, xzj, qzG, xzo, xzi, qzL, qzB, xzh, xzE, xzv, qzW, xzg, xzq, qzA, cvs, cv, qzI, qzJ, toA, ofA, FR.pop, abin, intBin, VN.at, VH.push, VH.set, qzq, VV.cells, ntV, qzS, countN, xzz, xzs, ↓reduceIte, Option.getD_some, List.getElem?_cons_zero, List.length_cons, List.length_nil, List.drop_succ_cons, List.drop_zero, List.take_succ_cons, List.take_zero, List.append_nil, List.nil_append, List.cons_append, List.head?_cons, Nat.reduceAdd, Nat.reduceDiv, Nat.reduceEqDiff, Nat.reduceLeDiff, Int.reduceGT, Nat.add_zero, Nat.zero_add, and_self, and_true, true_and, Bool.false_eq_true, beq_true, decide_true, decide_false, forall_const, false_implies, Bool.true_eq_false, cSeg, t3, t7, t8, t9, c, hlt, p1, p2]
      refine wpW_acc (base := nx) (j := j) (f := cR) (l := []) (a := (e.kind, 1)) (.inl ⟨rfl, rfl⟩) (by simp only [qza, srcV, winV, qzq, ↓reduceIte, Option.getD_some, List.length_cons, List.length_nil, List.drop_zero, List.take_succ_cons, List.take_zero, Nat.reduceAdd, Nat.reduceMul, reduceCtorEq, Nat.reduceLeDiff, Nat.zero_add, true_or, reduceCtorEq, true_or, cR] <;> first | rfl | exact ⟨rfl, rfl⟩ | exact qzr rfl) cR_len (by omega) (by show nx ≤ h.next + 1 + 1; omega) (by simp) (by simp) ?_
      intro h' g1 g2 g3
      simp only [qzk, qzi, xzc, xzm, qzf, qze, qzd, qzp, qzy, qzc, qzb, qzg, qzh, qzl, qzm, qzt, qza, qzs, qzu, qzx, cv, qzI, qzJ, toA, ofA, FR.pop, abin, intBin, xzz, ↓reduceIte, List.length_nil, Nat.reduceEqDiff, Nat.zero_add, t9, hw]
      refine ih (i + 1) [(e.kind, 1)] _ h' _ _ (by omega) hR (by simp) (by rw [← hc]; rfl) (fun e => nomatch e) ?_ ?_ ?_ ?_ g3 ?_
      · simp only [qza, ↓reduceIte, List.length_nil, Nat.reduceEqDiff, Nat.zero_add]
      · simp only [qza, ↓reduceIte, Nat.reduceEqDiff, t7]
      · simp only [qza, ↓reduceIte, Nat.reduceEqDiff, t8]
      · simp only [qza, ↓reduceIte]
      · simp only at g1; omega
    · rw [List.concat_eq_append] at hR hA hc q hv0
      rw [pushR_snoc] at hR
      rw [countR_snoc] at hc
      obtain ⟨rfl, q2, q3, q4⟩ := q.some (by simp)
      have len : (B ++ [(k', n)]).length = B.length + 1 := by simp
      rw [len] at t3 hA
      have f1 := (flatR_at B (k', n)).1
      have f2 := (flatR_at B (k', n)).2
      have f3 := flatL_length cR_len (B ++ [(k', n)])
      rw [len] at f3
      have z0 : ((B.length + 1 : Nat) : Int) > 0 := by omega
      have wl : IntKind.i64.wrap (((B.length + 1 : Nat) : Int) - 1) = (B.length : Int) := by rw [qzY (by omega) (by omega)]; omega
      have zl := xzs .i64 B.length
      have e1 : ¬ h.next = j := by omega
      have e2 : ¬ j = h.next := by omega
      have b1 : B.length < B.length + 1 := by omega
      have b2 : (B.length : Int) < ((B.length + 1 : Nat) : Int) := by omega
      have f4 : B.length * 2 + 1 < (xzk cR (B ++ [(k', n)])).length := by omega
      have f5 : B.length * 2 + 1 + 1 ≤ (xzk cR (B ++ [(k', n)])).length := by omega
      have fs := flatR_set B (k', n) (n + 1)
      simp only [List.cons_append, List.nil_append] at fs
      have wn : IntKind.i64.wrap ((n : Int) + 1) = ((n + 1 : Nat) : Int) := by rw [qzY (by omega) (by omega)]; rfl
      by_cases g : k' = e.kind
      · have gb : (k' == e.kind) = true := by simp [g]
        rw [if_pos g] at hR
        simp only [qzz, qzk, xzM, qzo, qzC, qzV, qzv, qzn, qzi, xzd, xzc, xzm, qzU, qzf, qze, qzd, qzp, qzF, qzX, qzN, qzy, xzO, xzr, xzp, xzD, xzT, xzN, xzQ, qzc, qzj, qzE, qzb, xza, qzg, qzh, qzO, xzx, xzy, xzb, qzl, qzm, qzt, qza, qzs, qzu, qzx, xzj, qzG, xzo, iAddrAV, xzi, qzL, qzB, xzh, xzE, xzv, qzW, xzg, xzq, qzA, cvs, cv, qzI, qzJ, toA, ofA, FR.pop, abin, intBin, VN.at, VH.push, VH.set, qzq, VV.cells, ntV, qzS, countN, xzK, xzS, xzV, xzL, xzU, xzX, xzY, xzz, xzs, ↓reduceIte, Option.getD_some, Option.isSome_some, Option.map_some, List.getElem?_cons_zero, List.length_cons, List.length_nil, List.drop_succ_cons, List.drop_zero, List.take_succ_cons, List.take_zero, List.append_nil, List.nil_append, List.cons_append, List.contains_nil, List.head?_cons, Nat.reduceAdd, Nat.reduceMul, Nat.reduceDiv, Nat.reduceLT, Nat.reduceEqDiff, Nat.reduceLeDiff, Nat.add_zero, Nat.zero_add, and_self, and_true, true_and, Bool.and_self, Bool.not_false, beq_self_eq_true, decide_true, forall_const, false_implies, Bool.true_eq_false, cSeg, t3, t7, t8, t9, c, hlt, p1, p2, z0, wl, zl, q2, f1, f2, f5, e1, b1, n0, n1, gb, wn, fs, hw]
        refine ih (i + 1) (B ++ [(k', n + 1)]) _ _ j (.slice j 0 (B.length + 1) 2 (.toEnd 2)) (by omega) hR (by simp; omega) (by rw [countR_snoc]; omega) (fun e => by simp at e) ?_ ?_ ?_ ?_ (.inr ⟨?_, ?_, q3, ?_⟩) ?_
        · simp only [qza, ↓reduceIte, Nat.reduceEqDiff, t3]
        · simp only [qza, ↓reduceIte, Nat.reduceEqDiff, t7]
        · simp only [qza, ↓reduceIte, Nat.reduceEqDiff, t8]
        · simp only [qza, ↓reduceIte]
        · exact congrArg (fun n => VV.slice j 0 n 2 (.toEnd 2)) (by simp)
        · simp only [qza, if_true]
        · show j < h.next + 1; omega
        · show nx ≤ h.next + 1; omega
      · have gb : (k' == e.kind) = false := by simp [g]
        rw [if_neg g] at hR
        simp only [qzz, qzk, xzM, qzo, qzC, qzV, qzv, qzn, qzi, xzd, qzU, qzf, qze, qzd, qzp, qzF, qzX, qzN, qzy, xzO, xzr, xzp, xzD, xzT, xzN, qzc, qzj, qzE, qzb, xza, qzg, qzh, qzO, xzx, xzy, xzb, qzl, qzm, qzt, qza, qzs, qzu, qzx, xzj, qzG, xzo, iAddrAV, xzi, qzL, qzB, xzh, xzE, xzv, qzW, xzg, xzq, qzA, cvs, cv, qzI, qzJ, toA, ofA, FR.pop, abin, intBin, VN.at, VH.push, VH.set, qzq, VV.cells, ntV, qzS, countN, xzK, xzS, xzV, xzL, xzU, xzX, xzY, xzz, xzs, ↓reduceIte, Option.getD_some, Option.isSome_some, List.getElem?_cons_zero, List.length_cons, List.length_nil, List.drop_succ_cons, List.drop_zero, List.take_succ_cons, List.take_zero, List.append_nil, List.nil_append, List.cons_append, List.contains_nil, List.head?_cons, Nat.reduceAdd, Nat.reduceMul, Nat.reduceDiv, Nat.reduceLT, Nat.reduceEqDiff, Nat.reduceLeDiff, Nat.add_zero, Nat.zero_add, and_self, and_true, true_and, Bool.and_self, Bool.not_false, Bool.false_eq_true, beq_self_eq_true, decide_true, forall_const, false_implies, Bool.true_eq_false, cSeg, t3, t7, t8, t9, c, hlt, p1, p2, z0, wl, zl, q2, f1, f2, e1, b1, n0, n1, gb]
        refine wpW_acc (base := nx) (j := j) (f := cR) (l := B ++ [(k', n)]) (a := (e.kind, 1)) (by rw [← len]; exact q.ext (show h.next ≤ h.next + 1 + 1 by omega) (fun x y => by simp only [qza]; rw [if_neg (by omega), if_neg (by omega), if_neg (by omega)])) (by simp only [qza, srcV, winV, qzq, ↓reduceIte, Option.getD_some, List.length_cons, List.length_nil, List.drop_zero, List.take_succ_cons, List.take_zero, Nat.reduceAdd, Nat.reduceMul, reduceCtorEq, Nat.reduceLeDiff, Nat.zero_add, true_or, reduceCtorEq, true_or, cR] <;> first | rfl | exact ⟨rfl, rfl⟩ | exact qzr rfl) cR_len (by omega) (by show nx ≤ h.next + 1 + 1; omega) (by simp; omega) (by simp; omega) ?_
        intro h' g1 g2 g3
        simp only [qzk, qzi, xzc, xzm, qzf, qze, qzd, qzp, qzy, qzc, qzb, qzg, qzh, qzl, qzm, qzt, qza, qzs, qzu, qzx, cv, qzI, qzJ, toA, ofA, FR.pop, abin, intBin, xzz, ↓reduceIte, Nat.reduceEqDiff, t9, hw]
        refine ih (i + 1) (B ++ [(k', n)] ++ [(e.kind, 1)]) _ h' _ _ (by omega) hR (by simp; omega) (by rw [countR_snoc, countR_snoc]; simp only; omega) (fun e => by simp at e) ?_ ?_ ?_ ?_ g3 ?_
        · simp only [qza, ↓reduceIte, Nat.reduceEqDiff]
        · simp only [qza, ↓reduceIte, Nat.reduceEqDiff, t7]
        · simp only [qza, ↓reduceIte, Nat.reduceEqDiff, t8]
        · simp only [qza, ↓reduceIte]
        · simp only at g1; omega
theorem runs_run (Gl : xzt) (l : List Seg) (hl : l.length < 1000000) : CallsV Go.VL.Er.E Gl f_encode_Runs [.fsl (xzk cSeg l) l.length 7] h0 (fun v h => ∃ j, AccAt 0 h j cR (runsS l) 2 v ∧ (l = [] → v = .nilS)) := by
  refine xzf E_encode_Runs ?_
  unfold c_encode_Runs r_encode_Runs
  simp only [xzB]
  simp only [qzk, qzo, qzC, qzi, qzf, qze, qzd, qzp, qzc, qzb, qzg, qzh, qzl, qzm, qzt, qza, qzs, qzu, qzx, xzi, cv, h0, ↓reduceIte, reduceCtorEq, reduceCtorEq]
  refine runs_loop l hl (runsS l) 0 _ ?_ l.length 0 [] _ _ 0 .nilS (by omega) rfl (Nat.le_refl _) rfl (fun _ => rfl) ?_ ?_ ?_ ?_ AccAt.nil (Nat.zero_le _)
  · intro T h j v t3 q hv
    simp only [qzk, qzo, qzH, qzi, xzu, qzf, qze, qzd, qzp, qzK, qzc, qzb, qzg, qzh, qzl, qzm, qzt, qza, qzs, qzu, qzx, qzQ, qzM, qzT, qzP, ↓reduceIte, t3]
    exact ⟨j, q, fun e => hv (by rw [e]; rfl)⟩
  all_goals first | (simp only [qza, ↓reduceIte, Nat.reduceEqDiff]; done) | (simp only [qza, ↓reduceIte]; rfl)
theorem push_ne (A : List Run) (k : Int) : pushR A k ≠ [] := by
  rcases List.eq_nil_or_concat A with rfl | ⟨B, ⟨k', n⟩, rfl⟩
  · simp [pushR_nil]
  · rw [List.concat_eq_append, pushR_snoc]; split <;> simp
theorem fold_ne : ∀ (l : List Seg) (A : List Run), A ≠ [] → l.foldl (fun A s => pushR A s.kind) A ≠ []
  | [], A, h => h
  | s :: l, A, h => fold_ne l _ (push_ne A s.kind)
theorem runs_ne {l : List Seg} (h : l ≠ []) : runsS l ≠ [] := by
  cases l with
  | nil => exact (h rfl).elim
  | cons s l => exact fold_ne l _ (push_ne [] s.kind)
theorem runs_own (Gl : xzt) (l : List Seg) (hl : l.length < 1000000) (hn : l ≠ []) : PureOwn Go.VL.Er.E Gl f_encode_Runs [.fsl (xzk cSeg l) l.length 7] (xzk cR (runsS l)) 0 (runsS l).length 2 (.toEnd 2) :=
  own_sound ((runs_run Gl l hl).mono fun v h ⟨j, q, _⟩ => by
    obtain ⟨e1, e2, _, _⟩ := q.some (runs_ne hn)
    exact ⟨j, _, e1, by rw [qzq, e2]; rfl, closedL_flat (fun _ => rfl) _, subL_refl _⟩)
theorem runs_nil (Gl : xzt) : xzH Go.VL.Er.E Gl f_encode_Runs [.fsl [] 0 7] .nilS :=
  xzw ((runs_run Gl [] (by simp)).mono fun v h ⟨j, q, e⟩ => by
    rw [e rfl]; exact qzr rfl)
end
end Go.VL.En

/- Chapter 2: numbers as bytes. -/
namespace Go.VL.Wire
open Go.FR Go.IR Go.VL
noncomputable section
set_option linter.unusedSimpArgs false
set_option linter.unusedVariables false
set_option maxRecDepth 100000
set_option maxHeartbeats 1000000
abbrev E := lookE envL

/-- A number's bytes. -/
def putS (n : Nat) : List Nat := if n < 128 then [n] else (n % 128 + 128) :: putS (n / 128)
termination_by n
decreasing_by omega
abbrev cB (b : Nat) : List VV := [.int .u8 (b : Int)]
theorem cB_len (b : Nat) : (cB b).length = 1 := rfl
theorem putS_lt {n : Nat} (h : n < 128) : putS n = [n] := by rw [putS, if_pos h]
theorem putS_ge {n : Nat} (h : ¬ n < 128) : putS n = (n % 128 + 128) :: putS (n / 128) := by rw [putS, if_neg h]
theorem putS_pos (n : Nat) : 0 < (putS n).length := by
  rw [putS]; split <;> simp
theorem putS_len : ∀ (k n : Nat), n < 128 ^ (k + 1) → (putS n).length ≤ k + 1
  | 0, n, h => by rw [putS_lt (by simpa using h)]; simp
  | k + 1, n, h => by
    by_cases c : n < 128
    · rw [putS_lt c]; simp
    · rw [putS_ge c]
      have := putS_len k (n / 128) (by rw [Nat.div_lt_iff_lt_mul (by omega)]; rw [Nat.pow_succ] at h; exact h)
      simp only [List.length_cons]; omega
theorem putS_10 {n : Nat} (h : n < 18446744073709551616) : (putS n).length ≤ 10 := putS_len 9 n (by omega)
theorem wrap_u8 (n : Nat) : IntKind.u8.wrap (n : Int) = ((n % 256 : Nat) : Int) := by
  show ((n : Int) % 256) = _
  omega
theorem or128 (x : Nat) (h : x < 256) : IntKind.u8.wrap ((BitVec.ofInt IntKind.u8.bits (x : Int) ||| BitVec.ofInt IntKind.u8.bits 128).toNat : Int) = ((x % 128 + 128 : Nat) : Int) := by
  have key : ∀ x : Fin 256, IntKind.u8.wrap ((BitVec.ofInt IntKind.u8.bits ((x.val : Nat) : Int) ||| BitVec.ofInt IntKind.u8.bits 128).toNat : Int) = ((x.val % 128 + 128 : Nat) : Int) := by decide +kernel
  exact key ⟨x, h⟩

theorem AccE.ext {α : Type} {base : Nat} {h h' : VH} {j : Nat} {f : α → List VV} {l : List α} {esz : Nat} {v : VV} (a : AccE base h j f l esz v) (hn : h.next ≤ h'.next) (hl : base ≤ j → j < h.next → qzw h'.l j = qzw h.l j) : AccE base h' j f l esz v := by
  rcases a with a | ⟨e, a1, a2, a3, a4, a5⟩
  · exact .inl (a.ext hn hl)
  · exact .inr ⟨e, a1, a2, by rw [hl a4 a5]; exact a3, a4, by omega⟩

theorem cloneNil (Gl : xzt) : xzH E Gl f_slices_Clone__byte_byte [.nilS] .nilS := by
  refine xzw (xzf E_slices_Clone__byte_byte ?_)
  unfold c_slices_Clone__byte_byte r_slices_Clone__byte_byte
  simp only [xzB]
  simp only [qzz, qzk, qzo, qzH, qzv, qzn, qzi, qzR, qzf, qze, qzd, qzp, qzF, qzX, qzN, qzK, qzc, qzj, qzE, qzb, qzg, qzh, qzO, qzl, qzm, qzt, qza, qzs, qzu, qzx, qzL, xzI, xzJ, eqSV, xzh, xzv, cvs, cv, VN.at, VH.push, h0, qzQ, qzM, qzT, qzP, ↓reduceIte, List.length_nil, Nat.reduceDiv, Nat.reduceEqDiff, reduceCtorEq, Nat.zero_add, and_true, Bool.false_eq_true, forall_const, false_implies, Bool.true_eq_false, reduceCtorEq]
  exact qzr rfl

theorem put_loop (Gl : xzt) (base : Nat) (K : AEx → VF → VH → Prop) (n0 : Nat) (acc0 : List Nat)
    (hK : ∀ (T : VF) (h : VH) (j : Nat) (v : VV) (m : Nat) (acc : List Nat), acc ++ [m] = acc0 ++ putS n0 → m < 128 → qzw T 0 = some v → qzw T 1 = some (.int .u64 (m : Int)) → AccE base h j cB acc 1 v → base ≤ h.next → K (.exit 0) T h) :
    ∀ (d n : Nat) (acc : List Nat) (T : VF) (h : VH) (j : Nat) (v : VV), n < 2 ^ d → acc.length + d < 1000000 → acc ++ putS n = acc0 ++ putS n0 → qzw T 0 = some v → qzw T 1 = some (.int .u64 (n : Int)) → AccE base h j cB acc 1 v → base ≤ h.next →
      wp E Gl (.loop c_wire_Put_l0) T h K := by
  intro d
  induction d with
  | zero =>
    intro n acc T h j v hn hl ha t0 t1 hacc hb
    refine xzn c_wire_Put_l0.eq_1 ?_
    obtain rfl : n = 0 := by omega
    have c : ¬ (((0 : Nat) : Int) ≥ 128) := by omega
    simp only [qzz, qzk, qzo, qzC, qzV, qzv, qzn, qzi, xzd, qzU, qzf, qze, qzd, qzp, qzX, qzN, qzc, qzE, qzb, qzg, qzh, qzO, qzl, qzm, qzt, qza, qzs, qzu, qzx, xzh, xzv, qzW, cvs, cv, qzI, qzJ, toA, ofA, FR.pop, abin, intBin, VN.at, VH.push, VV.cells, ntV, ↓reduceIte, List.length_cons, List.length_nil, List.drop_succ_cons, List.drop_zero, List.take_zero, List.append_nil, List.nil_append, Nat.reduceDiv, Nat.reduceEqDiff, reduceCtorEq, Nat.reduceLeDiff, Nat.zero_add, and_self, true_and, Bool.false_eq_true, decide_false, forall_const, false_implies, reduceCtorEq, t0, t1, c]
    refine hK _ _ j v 0 acc (by rw [← ha, putS_lt (by omega)]) (by omega) ?_ ?_ hacc hb
    · simp only [qza, ↓reduceIte, reduceCtorEq, reduceCtorEq, t0]
    · simp only [qza, ↓reduceIte, Nat.reduceEqDiff, t1]
  | succ d ih =>
    intro n acc T h j v hn hl ha t0 t1 hacc hb
    refine xzn c_wire_Put_l0.eq_1 ?_
    by_cases c : n < 128
    · have c' : ¬ ((n : Int) ≥ 128) := by omega
      simp only [qzz, qzk, qzo, qzC, qzV, qzv, qzn, qzi, xzd, qzU, qzf, qze, qzd, qzp, qzX, qzN, qzc, qzE, qzb, qzg, qzh, qzO, qzl, qzm, qzt, qza, qzs, qzu, qzx, xzh, xzv, qzW, cvs, cv, qzI, qzJ, toA, ofA, FR.pop, abin, intBin, VN.at, VH.push, VV.cells, ntV, ↓reduceIte, List.length_cons, List.length_nil, List.drop_succ_cons, List.drop_zero, List.take_zero, List.append_nil, List.nil_append, Nat.reduceDiv, Nat.reduceEqDiff, reduceCtorEq, Nat.reduceLeDiff, Nat.zero_add, and_self, true_and, Bool.false_eq_true, decide_false, forall_const, false_implies, reduceCtorEq, t0, t1, c']
      refine hK _ _ j v n acc (by rw [← ha, putS_lt c]) c ?_ ?_ hacc hb
      · simp only [qza, ↓reduceIte, reduceCtorEq, reduceCtorEq, t0]
      · simp only [qza, ↓reduceIte, Nat.reduceEqDiff, t1]
    · have c' : ((n : Int) ≥ 128) := by omega
      have w1 := wrap_u8 n
      have w2 := or128 (n % 256) (Nat.mod_lt _ (by omega))
      rw [show n % 256 % 128 = n % 128 by omega] at w2
      have w3 : Int.fdiv (n : Int) (2 ^ min (7 : Int).toNat IntKind.u64.bits) = ((n / 128 : Nat) : Int) := by
        show Int.fdiv (n : Int) 128 = _
        rw [Int.fdiv_eq_ediv_of_nonneg _ (by omega)]; omega
      have z7 : ¬ ((7 : Int) < 0) := by omega
      simp only [qzz, qzk, qzo, qzC, qzV, qzv, qzn, qzi, xzd, qzU, qzf, qze, qzd, qzp, qzX, qzN, qzc, qzE, qzb, qzg, qzh, qzO, qzl, qzm, qzt, qza, qzs, qzu, qzx, xzh, xzv, qzW, cvs, cv, qzI, qzJ, toA, ofA, FR.pop, abin, intBin, VN.at, VH.push, VV.cells, ntV, ↓reduceIte, List.length_cons, List.length_nil, List.drop_succ_cons, List.drop_zero, List.take_zero, List.append_nil, List.nil_append, Nat.reduceDiv, Nat.reduceEqDiff, reduceCtorEq, Nat.reduceLeDiff, Nat.zero_add, and_self, and_true, decide_true, forall_const, false_implies, Bool.true_eq_false, reduceCtorEq, t0, t1, c', w1, w2]
      have acc2 := AccE.ext (h' := h.push (.cells [VV.int IntKind.u8 ((n % 128 + 128 : Nat) : Int)] false)) hacc (Nat.le_succ _) (fun g1 g2 => by simp only [VH.push, qza]; rw [if_neg (by omega)])
      refine wpW_accE (ls := [n % 128 + 128]) acc2 (by simp only [qza, srcV, winV, qzq, ↓reduceIte, Option.getD_some, List.length_cons, List.length_nil, List.drop_zero, List.take_succ_cons, List.take_zero, Nat.reduceMul, reduceCtorEq, Nat.reduceLeDiff, Nat.zero_add, true_or, reduceCtorEq, true_or] <;> first | rfl | exact ⟨rfl, rfl⟩ | exact qzr rfl) (by simp) cB_len (by omega) (by show base ≤ h.next + 1; omega) (by simp; omega) (by simp; omega) ?_
      intro h' g1 g2 g3
      simp only [] at g1
      simp only [qzk, qzi, xzc, xzm, qzf, qze, qzd, qzp, qzy, qzc, qzb, qzg, qzh, qzl, qzm, qzt, qza, qzs, qzu, qzx, cv, qzI, qzJ, toA, ofA, FR.pop, abin, shiftBin, xzz, ↓reduceIte, List.length_cons, List.length_nil, Nat.reduceEqDiff, reduceCtorEq, Nat.zero_add, reduceCtorEq, t1, w3, z7, shiftBin]
      refine ih (n / 128) (acc ++ [n % 128 + 128]) _ h' _ _ (by rw [Nat.pow_succ] at hn; omega) (by simp; omega) (by rw [← ha, putS_ge c]; simp) ?_ ?_ (.inl g3) (by omega)
      · simp only [qza, ↓reduceIte, List.length_cons, List.length_nil, reduceCtorEq, Nat.zero_add, reduceCtorEq]
      · simp only [qza, ↓reduceIte]

theorem put_end (Gl : xzt) (n : Nat) (T : VF) (h : VH) (j : Nat) (v : VV) (hn : n < 18446744073709551616) (t0 : qzw T 0 = some v) (t1 : qzw T 1 = some (.int .u64 (n : Int))) (acc : List Nat) (hl : acc.length < 100000) (hacc : AccE 0 h j cB acc 1 v) (Q : VV → VH → Prop)
    (hQ : ∀ h' i, qzw h'.l i = some (some (.cells (xzk cB (acc ++ putS n)) false)) → Q (.slice i 0 (acc ++ putS n).length 1 (.toEnd 1)) h') :
    wp E Gl (.loop c_wire_Put_l0) T h (kBlk 0 (kSeq E Gl (.seq (.ops [⟨(some 17), [.t 0], .p (.mov), none⟩,
   ⟨(some 18), [.t 1], .p (.mov), none⟩,
   ⟨(some 19), [.t 18], .p (.conv .u8), none⟩,
   ⟨(some 20), [.t 19], .n (.bslice 1 [(.int .u8 0)] [(0, 1)]), none⟩,
   ⟨(some 21), [.t 17, .t 20], .w (.append 1 1), none⟩,
   ⟨(some 4), [.t 21], .p (.mov), none⟩]) .ret) (Ends Gl [.tmp 4] Q))) := by
  refine put_loop Gl 0 _ n acc ?_ 64 n acc T h j v (by omega) (by omega) rfl t0 t1 hacc (Nat.zero_le _)
  intro T h j v m ac ham hm t0 t1 hacc hb
  have w1 : IntKind.u8.wrap (m : Int) = (m : Int) := by rw [wrap_u8, Nat.mod_eq_of_lt (by omega)]
  simp only [qzk, qzo, qzi, xzu, qze, qzd, qzp, qzX, qzN, qzc, qzE, qzb, qzg, qzh, qzO, qzl, qzm, qzt, qza, qzs, qzu, qzx, xzh, xzv, qzW, cvs, cv, qzI, qzJ, toA, ofA, FR.pop, VN.at, VH.push, VV.cells, ntV, ↓reduceIte, List.length_cons, List.length_nil, List.drop_succ_cons, List.drop_zero, List.take_zero, List.append_nil, List.nil_append, Nat.reduceDiv, Nat.reduceEqDiff, Nat.reduceLeDiff, Nat.zero_add, and_self, t0, t1, w1]
  have acc2 := AccE.ext (h' := h.push (.cells [VV.int IntKind.u8 (m : Int)] false)) hacc (Nat.le_succ _) (fun g1 g2 => by simp only [VH.push, qza]; rw [if_neg (by omega)])
  have hlen : ac.length < 200000 := by
    have := congrArg List.length ham
    have := putS_10 hn
    simp at *; omega
  refine wpW_accE (ls := [m]) acc2 (by simp only [qza, srcV, winV, qzq, ↓reduceIte, Option.getD_some, List.length_cons, List.length_nil, List.drop_zero, List.take_succ_cons, List.take_zero, Nat.reduceMul, reduceCtorEq, Nat.reduceLeDiff, Nat.zero_add, true_or, reduceCtorEq, true_or] <;> first | rfl | exact ⟨rfl, rfl⟩ | exact qzr rfl) (by simp) cB_len (by omega) (Nat.zero_le _) (by simp; omega) (by simp; omega) ?_
  intro h' g1 g2 g3
  obtain ⟨e1, e2, _, _⟩ := g3.some (by simp)
  rw [ham] at e2
  simp only [qzH, qzi, qzf, qze, qzd, qzp, qzy, qzK, qzc, qzb, qzg, qzh, qzl, qzm, qzt, qza, qzs, qzu, qzx, qzQ, qzM, qzT, qzP, xzz, ↓reduceIte, List.length_cons, List.length_nil, Nat.zero_add]
  have := hQ h' (h.next + 1) e2
  rw [← ham, List.length_append] at this
  exact this

theorem putNil (Gl : xzt) (n : Nat) (hn : n < 18446744073709551616) : PureOwn E Gl f_wire_Put [.nilS, .int .u64 (n : Int)] (xzk cB (putS n)) 0 (putS n).length 1 (.toEnd 1) := by
  refine own_sound (xzf E_wire_Put ?_)
  unfold c_wire_Put r_wire_Put
  simp only [xzB]
  simp only [qzk, qzo, qzi, qzf, qze, qzd, qzp, qzN, qzc, qzb, qzg, qzh, qzD, qzl, qzm, qzt, qza, qzs, qzu, qzx, cv, qzq, h0, ↓reduceIte, reduceCtorEq, Nat.zero_add, reduceCtorEq]
  refine qzZ (cloneNil Gl) rfl rfl ?_
  simp only [qzo, qzC, qzi, qzf, qze, qzd, qzp, qzy, qzc, qzb, qzg, qzh, qzl, qzm, qzt, qza, qzs, qzu, qzx, ↓reduceIte]
  refine put_end Gl n _ _ 0 .nilS hn ?_ ?_ [] (by simp) (.inl AccAt.nil) _ (fun h' i hi => ⟨i, _, rfl, by rw [hi]; rfl, closedL_flat (fun _ => rfl) _, subL_refl _⟩)
  · simp only [qza, ↓reduceIte]
  · simp only [qza, ↓reduceIte, Nat.reduceEqDiff, reduceCtorEq, reduceCtorEq]

/-- A sign turned in. -/
def zigS (z : Int) : Nat := if z < 0 then (-2 * z - 1).toNat else (2 * z).toNat
theorem zig_lt {z : Int} (h1 : -9223372036854775808 ≤ z) (h2 : z ≤ 9223372036854775807) : zigS z < 18446744073709551616 := by unfold zigS; split <;> omega
theorem wrap_u64 (n : Int) : IntKind.u64.wrap n = n % 18446744073709551616 := rfl
theorem zig_math (z : Int) (h1 : -9223372036854775808 ≤ z) (h2 : z ≤ 9223372036854775807) : IntKind.u64.wrap (BitVec.ofInt IntKind.u64.bits (IntKind.u64.wrap (IntKind.u64.wrap z * 2 ^ min (Int.toNat 1) IntKind.u64.bits)) ^^^ BitVec.ofInt IntKind.u64.bits (IntKind.u64.wrap (z.fdiv (2 ^ min (Int.toNat 63) IntKind.i64.bits)))).toNat = (zigS z : Nat) := by
  show IntKind.u64.wrap ((BitVec.ofInt 64 (IntKind.u64.wrap (IntKind.u64.wrap z * 2)) ^^^ BitVec.ofInt 64 (IntKind.u64.wrap (z.fdiv 9223372036854775808))).toNat : Int) = (zigS z : Nat)
  simp only [wrap_u64]
  by_cases c : z < 0
  · have e1 : z.fdiv 9223372036854775808 = -1 := by rw [Int.fdiv_eq_ediv_of_nonneg _ (by omega)]; omega
    have e2 : BitVec.ofInt 64 (-1 % 18446744073709551616) = BitVec.allOnes 64 := by decide
    rw [e1, e2, BitVec.xor_allOnes, BitVec.toNat_not, BitVec.toNat_ofInt]
    unfold zigS
    rw [if_pos c]
    omega
  · have e1 : z.fdiv 9223372036854775808 = 0 := by rw [Int.fdiv_eq_ediv_of_nonneg _ (by omega)]; omega
    have e2 : BitVec.ofInt 64 (0 % 18446744073709551616) = 0#64 := by decide
    rw [e1, e2, BitVec.xor_zero, BitVec.toNat_ofInt]
    unfold zigS
    rw [if_neg c]
    omega
theorem zig_ok (Gl : xzt) (z : Int) (h1 : -9223372036854775808 ≤ z) (h2 : z ≤ 9223372036854775807) : xzH E Gl f_wire_Zig [.int .i64 z] (.int .u64 (zigS z : Nat)) := by
  refine xzw (xzf E_wire_Zig ?_)
  unfold c_wire_Zig r_wire_Zig
  simp only [xzB]
  have z1 : ¬ ((1 : Int) < 0) := by omega
  have z2 : ¬ ((63 : Int) < 0) := by omega
  simp only [qzk, qzo, qzH, qzi, qzf, qze, qzd, qzp, qzK, qzc, qzb, qzg, qzh, qzl, qzm, qzt, qza, qzs, qzu, qzx, cv, qzI, qzJ, toA, ofA, FR.pop, abin, intBin, shiftBin, h0, qzQ, qzM, qzT, qzP, ↓reduceIte, Nat.reduceEqDiff, reduceCtorEq, reduceCtorEq, shiftBin, z1, z2]
  rw [zig_math z h1 h2]
  exact qzr rfl
end
end Go.VL.Wire
