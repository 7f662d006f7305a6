import Derived.Test.YtbamfhdgikeneaaDoorPaA
/- Chapter 5: colors in their order; icon.Check. -/
namespace Go.VL.Ic
open Go.FR Go.IR Go.VL Go.VL.Er Go.VL.Color Go.VL.Wind Go.VL.Pal
noncomputable section
set_option linter.unusedSimpArgs false
set_option linter.unusedVariables false
set_option maxRecDepth 100000
set_option maxHeartbeats 1000000

theorem idx_mem (c : Cl) : ∀ (l : List Cl) (k : Nat), (0 ≤ idxS l c k ↔ c ∈ l)
  | [], k => by simp [idxS]
  | x :: l, k => by
    rw [idxS]
    by_cases e : c = x
    · rw [if_pos e, e]; simp
    · rw [if_neg e, idx_mem c l (k + 1)]; simp [e]
theorem contains_ok (Gl : xzt) (c : Cl) (l : List Cl) (hl : l.length < 1000000) : xzH Go.VL.Er.E Gl f_slices_Contains__api_Color_api_Color [.fsl (xzk cCl l) l.length 4, .agg (cCl c)] (.bool (decide (c ∈ l))) := by
  refine xzw (xzf E_slices_Contains__api_Color_api_Color ?_)
  unfold c_slices_Contains__api_Color_api_Color r_slices_Contains__api_Color_api_Color
  simp only [xzB]
  simp only [qzk, qzo, qzi, qzf, qze, qzd, qzp, qzF, qzX, qzN, qzc, qzj, qzE, qzb, qzg, qzh, qzO, qzD, qzl, qzm, qzt, qza, qzs, qzu, qzx, qzL, qzB, xzh, xzF, qzA, cv, VN.at, VH.push, qzq, h0, VV.cells, ntV, ↓reduceIte, Option.getD_some, List.length_cons, List.length_nil, List.drop_zero, List.take_succ_cons, List.take_zero, Nat.reduceAdd, Nat.reduceEqDiff, reduceCtorEq, Nat.reduceLeDiff, Nat.zero_add, reduceCtorEq, cCl]
  refine qzZ (index_ok Gl c l hl) rfl rfl ?_
  have e := idx_mem c l 0
  by_cases h : c ∈ l
  · have g : idxS l c 0 ≥ 0 := e.mpr h
    simp only [qzH, qzi, qzf, qze, qzd, qzp, qzy, qzK, qzc, qzb, qzg, qzh, qzl, qzm, qzt, qza, qzs, qzu, qzx, cv, qzI, qzJ, toA, ofA, FR.pop, abin, intBin, qzQ, qzM, qzT, qzP, ↓reduceIte, decide_true, h, g]
    exact qzr rfl
  · have g : ¬ idxS l c 0 ≥ 0 := fun x => h (e.mp x)
    simp only [qzH, qzi, qzf, qze, qzd, qzp, qzy, qzK, qzc, qzb, qzg, qzh, qzl, qzm, qzt, qza, qzs, qzu, qzx, cv, qzI, qzJ, toA, ofA, FR.pop, abin, intBin, qzQ, qzM, qzT, qzP, ↓reduceIte, decide_false, h, g]
    exact qzr rfl
theorem next_mono : ∀ (l : List Int) (n r : Int), nextUse n l = some r → n ≤ r ∧ r ≤ n + l.length
  | [], n, r, h => by simp [nextUse] at h; simp; omega
  | k :: l, n, r, h => by
    rw [nextUse] at h
    by_cases g : k > n
    · rw [if_pos g] at h; exact nomatch h
    · rw [if_neg g] at h
      have := next_mono l _ _ h
      simp only [List.length_cons]
      split at this <;> omega
theorem next_drop {l : List Int} {i : Nat} {k n : Int} (h : l[i]? = some k) : nextUse n (l.drop i) = if k > n then none else nextUse (if k = n then n + 1 else n) (l.drop (i + 1)) := by rw [drop_at h]; rfl
theorem use_loop {Gl : xzt} (l : List Int) (hl : l.length < 1000000) (T0 : VF) (h : VH) (j : Nat) (cap : ACap) (cr : List VV) (hj : qzw h.l j = some (some (.cells (l.map (VV.int .i64) ++ cr) false))) (o : Option Int) (K : AEx → VF → VH → Prop)
    (hE : ∀ T, o = none → qzw T 2 = some (.bool false) → K .ret T h)
    (hK : ∀ T r, o = some r → qzw T 3 = some (.int .i64 r) → (∀ k, k < 32 → k ≠ 2 → k ≠ 3 → k ≠ 8 → qzw T k = qzw T0 k) → K (.exit 2) T h) :
    ∀ (d i : Nat) (n : Int) (T : VF), d + i = l.length → 0 ≤ n → n ≤ 2 ^ 60 + i → o = nextUse n (l.drop i) → (∀ k, k < 32 → k ≠ 2 → k ≠ 3 → k ≠ 8 → qzw T k = qzw T0 k) → qzw T 3 = some (.int .i64 n) → qzw T 32 = some (.slice j 0 l.length 1 cap) → qzw T 33 = some (.int .i64 l.length) → qzw T 34 = some (.int .i64 i) →
    wp Go.VL.Er.E Gl (.loop c_icon_used_l1) T h K := by
  intro d
  induction d with
  | zero =>
    intro i n T hd hn hn2 hs hT t3 t32 t33 t34
    obtain rfl : i = l.length := by omega
    rw [List.drop_length] at hs
    refine xzn c_icon_used_l1.eq_1 ?_
    have c : ¬ ((l.length : Int) < l.length) := by omega
    simp only [qzz, qzk, qzo, qzC, qzV, qzv, qzn, qzi, xzd, qzU, qzf, qze, qzd, qzp, qzc, qzb, qzg, qzh, qzl, qzm, qzt, qza, qzs, qzu, qzI, qzJ, toA, ofA, FR.pop, abin, intBin, ↓reduceIte, Nat.reduceEqDiff, true_and, Bool.false_eq_true, decide_false, forall_const, false_implies, t33, t34, c]
    refine hK _ n hs ?_ ?_
    · simp only [qza, ↓reduceIte, Nat.reduceEqDiff, t3]
    · intro k h1 h2 h3 h4
      simp only [qza]
      (repeat rw [if_neg (by omega)])
      exact hT k h1 h2 h3 h4
  | succ d ih =>
    intro i n T hd hn hn2 hs hT t3 t32 t33 t34
    refine xzn c_icon_used_l1.eq_1 ?_
    have hlt : i < l.length := by omega
    have c : (i : Int) < l.length := by omega
    obtain ⟨e, he⟩ : ∃ e, l[i]? = some e := ⟨l[i], List.getElem?_eq_getElem hlt⟩
    have he' : (l.map (VV.int .i64) ++ cr)[i]? = some (.int .i64 e) := by rw [List.getElem?_append_left (by simpa using hlt), List.getElem?_map, he]; rfl
    have hw : IntKind.i64.wrap ((i : Int) + 1) = ((i + 1 : Nat) : Int) := by rw [qzY (by omega) (by omega)]; rfl
    have hw2 : IntKind.i64.wrap (n + 1) = n + 1 := qzY (by omega) (by omega)
    rw [next_drop he] at hs
    by_cases g : e > n
    · rw [if_pos g] at hs
      simp only [qzz, qzk, qzo, qzC, qzV, qzH, qzv, qzn, qzi, xzd, qzR, xzc, xze, xzm, qzU, xzA, qzf, qze, qzd, qzp, qzF, qzc, qzj, qzb, qzg, qzh, qzl, qzm, qzt, qza, qzs, qzu, qzx, xzo, qzL, qzB, qzA, cv, qzI, qzJ, toA, ofA, FR.pop, abin, intBin, qzq, xzs, ↓reduceIte, Option.getD_some, Nat.reduceEqDiff, Nat.zero_add, and_true, decide_true, forall_const, false_implies, Bool.true_eq_false, t3, t32, t33, t34, c, hlt, hj, he', Nat.mul_one, g]
      exact hE _ hs (by simp only [qza, ↓reduceIte])
    rw [if_neg g] at hs
    by_cases q : e = n
    · have qb : (e == n) = true := by simp [q]
      rw [if_pos q] at hs
      simp only [qzz, qzk, qzo, qzC, qzV, qzH, qzv, qzn, qzi, xzd, qzR, xzc, xze, xzm, qzU, xzA, qzf, qze, qzd, qzp, qzF, qzc, qzj, qzb, qzg, qzh, qzl, qzm, qzt, qza, qzs, qzu, qzx, xzo, qzL, qzB, qzA, cv, qzI, qzJ, toA, ofA, FR.pop, abin, intBin, qzq, xzs, ↓reduceIte, Option.getD_some, Nat.reduceEqDiff, Nat.zero_add, and_true, true_and, Bool.false_eq_true, decide_true, decide_false, forall_const, false_implies, Bool.true_eq_false, t3, t32, t33, t34, c, hlt, hj, he', Nat.mul_one, g, qb, hw, hw2]
      refine ih (i + 1) (n + 1) _ (by omega) (by omega) (by omega) hs ?_ ?_ ?_ ?_ ?_
      · intro k h1 h2 h3 h4
        simp only [qza]
        (repeat rw [if_neg (by omega)])
        exact hT k h1 h2 h3 h4
      · simp only [qza, ↓reduceIte, Nat.reduceEqDiff]
      · simp only [qza, ↓reduceIte, Nat.reduceEqDiff, t32]
      · simp only [qza, ↓reduceIte, Nat.reduceEqDiff, t33]
      · simp only [qza, ↓reduceIte]
    · have qb : (e == n) = false := by simp [q]
      rw [if_neg q] at hs
      simp only [qzz, qzk, qzo, qzC, qzV, qzH, qzv, qzn, qzi, xzd, qzR, xzc, xze, xzm, qzU, xzA, qzf, qze, qzd, qzp, qzF, qzc, qzj, qzb, qzg, qzh, qzl, qzm, qzt, qza, qzs, qzu, qzx, xzo, qzL, qzB, qzA, cv, qzI, qzJ, toA, ofA, FR.pop, abin, intBin, qzq, xzs, ↓reduceIte, Option.getD_some, Nat.reduceEqDiff, Nat.zero_add, and_true, true_and, Bool.false_eq_true, decide_true, decide_false, forall_const, false_implies, Bool.true_eq_false, t3, t32, t33, t34, c, hlt, hj, he', Nat.mul_one, g, qb, hw]
      refine ih (i + 1) n _ (by omega) (by omega) (by omega) hs ?_ ?_ ?_ ?_ ?_
      · intro k h1 h2 h3 h4
        simp only [qza]
        (repeat rw [if_neg (by omega)])
        exact hT k h1 h2 h3 h4
      · simp only [qza, ↓reduceIte, Nat.reduceEqDiff, t3]
      · simp only [qza, ↓reduceIte, Nat.reduceEqDiff, t32]
      · simp only [qza, ↓reduceIte, Nat.reduceEqDiff, t33]
      · simp only [qza, ↓reduceIte]
theorem useAll_drop {l : List Cmd} {i : Nat} {c : Cmd} {n : Int} (h : l[i]? = some c) : useAll n (l.drop i) = match nextUse n (usesOf c) with
    | none => none
    | some m => useAll m (l.drop (i + 1)) := by rw [drop_at h]; rfl
theorem uses_loop {Gl : xzt} (l : List Cmd) (hl : l.length < 1000000) (b : Nat) (bb : VB) (o : Option Int) (K : AEx → VF → VH → Prop)
    (hE : ∀ T h, o = none → qzw T 2 = some (.bool false) → K .ret T h)
    (hK : ∀ T h r, o = some r → qzw T 3 = some (.int .i64 r) → qzw T 1 = some (.ptr b 0) → qzw h.l b = some (some bb) → b < h.next → K (.exit 0) T h) :
    ∀ (d i : Nat) (n : Int) (T : VF) (h : VH), d + i = l.length → 0 ≤ n → n ≤ 2 * i → o = useAll n (l.drop i) → qzw T 1 = some (.ptr b 0) → qzw T 3 = some (.int .i64 n) → qzw T 12 = some (.fsl (xzk cCmd l) l.length 11) → qzw T 13 = some (.int .i64 l.length) → qzw T 14 = some (.int .i64 i) → qzw h.l b = some (some bb) → b < h.next →
    wp Go.VL.Er.E Gl (.loop c_icon_used_l2) T h K := by
  intro d
  induction d with
  | zero =>
    intro i n T h hd hn hn2 hs t1 t3 t12 t13 t14 hb hx
    obtain rfl : i = l.length := by omega
    rw [List.drop_length] at hs
    refine xzn c_icon_used_l2.eq_1 ?_
    have c : ¬ ((l.length : Int) < l.length) := by omega
    simp only [qzz, qzk, qzo, qzC, qzV, qzv, qzn, qzi, xzd, qzU, qzf, qze, qzd, qzp, qzc, qzb, qzg, qzh, qzl, qzm, qzt, qza, qzs, qzu, qzI, qzJ, toA, ofA, FR.pop, abin, intBin, ↓reduceIte, Nat.reduceEqDiff, true_and, Bool.false_eq_true, decide_false, forall_const, false_implies, t13, t14, c]
    refine hK _ _ n hs ?_ ?_ hb hx
    · simp only [qza, ↓reduceIte, Nat.reduceEqDiff, t3]
    · simp only [qza, ↓reduceIte, Nat.reduceEqDiff, t1]
  | succ d ih =>
    intro i n T h hd hn hn2 hs t1 t3 t12 t13 t14 hb hx
    refine xzn c_icon_used_l2.eq_1 ?_
    have hlt : i < l.length := by omega
    have c : (i : Int) < l.length := by omega
    obtain ⟨e, he⟩ : ∃ e, l[i]? = some e := ⟨l[i], List.getElem?_eq_getElem hlt⟩
    have p1 := flat_le cCmd_len he
    have p2 := flat_at cCmd_len he
    have hw : IntKind.i64.wrap ((i : Int) + 1) = ((i + 1 : Nat) : Int) := by rw [qzY (by omega) (by omega)]; rfl
    rw [useAll_drop he] at hs
    have e0 : ¬ h.next = b := by omega
    have e1 : ¬ h.next + 1 = b := by omega
    have e2 : ¬ h.next + 1 + 1 = b := by omega
    have e3 : ¬ h.next + 1 + 1 + 1 = b := by omega
    have e5 : ¬ h.next + 1 = h.next := by omega
    have e6 : ¬ h.next + 1 + 1 = h.next + 1 := by omega
    have e7 : ¬ h.next + 1 + 1 = h.next := by omega
    have e8 : ¬ h.next + 1 + 1 + 1 = h.next + 1 + 1 := by omega
    have e9 : ¬ h.next + 1 + 1 + 1 = h.next + 1 := by omega
    have e10 : ¬ h.next + 1 + 1 + 1 = h.next := by omega
    by_cases k0 : e.paint.kind = 0
    · have q0 : (e.paint.kind == 0) = true := by simp [k0]
      have q0' : (e.paint.kind != 0) = false := by simp [k0]
      have us : usesOf e = [e.paint.a] := by unfold usesOf; rw [if_pos k0]
      rw [us] at hs
      simp only [qzz, qzk, qzo, qzC, qzV, qzv, qzn, qzi, xzd, qzU, qzf, qze, qzd, qzp, qzF, qzX, qzN, qzy, qzc, qzj, qzE, qzb, xza, qzg, qzh, qzO, xzb, qzl, qzm, qzt, qza, qzs, qzu, qzx, qzG, xzo, xzi, qzL, qzB, xzh, xzv, qzW, xzg, xzq, srcV, lenOfV, winV, qzA, cvs, cv, qzI, qzJ, toA, ofA, FR.pop, abin, intBin, VN.at, VH.push, VH.set, qzq, VV.cells, ntV, qzS, xzz, xzs, ↓reduceIte, Option.getD_some, List.getElem?_cons_zero, List.getElem?_cons_succ, List.length_cons, List.length_nil, List.drop_succ_cons, List.drop_zero, List.take_succ_cons, List.take_zero, List.append_nil, List.nil_append, List.cons_append, List.head?_cons, Nat.reduceAdd, Nat.reduceMul, Nat.reduceDiv, Nat.reduceLT, Nat.reduceEqDiff, reduceCtorEq, Nat.reduceLeDiff, Nat.add_zero, Nat.zero_add, and_self, and_true, true_and, Bool.false_eq_true, decide_true, true_or, forall_const, false_implies, Bool.true_eq_false, reduceCtorEq, true_or, cCmd, wpW_append, appendV, appToV, t12, t13, t14, c, hlt, p1, p2, q0', e5]
      refine use_loop [e.paint.a] (by simp) _ _ (h.next + 1) (.exact 1) [] (by simp only [qza, ↓reduceIte, List.append_nil]; rfl) (nextUse n [e.paint.a]) _ ?_ ?_ 1 0 n _ rfl hn (by omega) rfl (fun _ _ _ _ _ => rfl) ?_ ?_ ?_ ?_
      · intro T' he' t2
        rw [he'] at hs
        simp only [qzR, xze, xzA]
        exact hE _ _ hs (by simp only [t2])
      · intro T' r he' t3' hT'
        rw [he'] at hs
        have hr := next_mono _ _ _ he'
        simp only [List.length_cons, List.length_nil] at hr
        simp only [qzk, qzi, xzc, xzu, xzm, qzf, qze, qzd, qzp, qzc, qzb, qzg, qzh, qzl, qzm, qzt, qza, qzs, qzu, qzx, cv, qzI, qzJ, toA, ofA, FR.pop, abin, intBin, ↓reduceIte, Nat.reduceEqDiff, hT' 14 (by omega) (by omega) (by omega) (by omega), t14, hw]
        refine ih (i + 1) r _ _ (by omega) (by omega) (by omega) hs ?_ ?_ ?_ ?_ ?_ ?_ ?_
        · simp only [qza, ↓reduceIte, Nat.reduceEqDiff, hT' 1 (by omega) (by omega) (by omega) (by omega), t1]
        · simp only [qza, ↓reduceIte, Nat.reduceEqDiff, t3']
        · simp only [qza, ↓reduceIte, Nat.reduceEqDiff, hT' 12 (by omega) (by omega) (by omega) (by omega), t12]
        · simp only [qza, ↓reduceIte, Nat.reduceEqDiff, hT' 13 (by omega) (by omega) (by omega) (by omega), t13]
        · simp only [qza, ↓reduceIte]
        · simp only [qza, ↓reduceIte, e0, e1, hb]
        · simp only []; omega
      all_goals first | (simp only [qza, ↓reduceIte, List.length_cons, List.length_nil, Nat.reduceEqDiff, Nat.zero_add, t3]; done) | (simp only [qza, ↓reduceIte]; rfl)
    · have q0 : (e.paint.kind == 0) = false := by simp [k0]
      have q0' : (e.paint.kind != 0) = true := by simp [k0]
      have us : usesOf e = [e.paint.a, e.paint.b] := by unfold usesOf; rw [if_neg k0]
      rw [us] at hs
      simp only [qzz, qzk, qzo, qzC, qzV, qzv, qzn, qzi, xzd, qzU, qzf, qze, qzd, qzp, qzF, qzX, qzN, qzy, qzc, qzj, qzE, qzb, xza, qzg, qzh, qzO, xzb, qzl, qzm, qzt, qza, qzs, qzu, qzx, qzG, xzo, xzi, qzL, qzB, xzh, xzv, qzW, xzg, xzq, srcV, lenOfV, winV, qzA, cvs, cv, qzI, qzJ, toA, ofA, FR.pop, abin, intBin, VN.at, VH.push, VH.set, qzq, VV.cells, ntV, qzS, xzz, xzs, ↓reduceIte, Option.getD_some, List.getElem?_cons_zero, List.getElem?_cons_succ, List.length_cons, List.length_nil, List.drop_succ_cons, List.drop_zero, List.take_succ_cons, List.take_zero, List.append_nil, List.nil_append, List.cons_append, List.head?_cons, Nat.reduceAdd, Nat.reduceMul, Nat.reduceDiv, Nat.reduceLT, Nat.reduceEqDiff, reduceCtorEq, Nat.reduceLeDiff, Nat.add_zero, Nat.zero_add, and_self, and_true, decide_true, true_or, forall_const, false_implies, Bool.true_eq_false, reduceCtorEq, true_or, cCmd, wpW_append, appendV, appToV, t12, t13, t14, c, hlt, p1, p2, q0', e5, e6]
      refine use_loop [e.paint.a, e.paint.b] (by simp) _ _ (h.next + 1 + 1 + 1) (.toEnd 1) [] (by simp only [qza, ↓reduceIte, List.append_nil]; rfl) (nextUse n [e.paint.a, e.paint.b]) _ ?_ ?_ 2 0 n _ rfl hn (by omega) rfl (fun _ _ _ _ _ => rfl) ?_ ?_ ?_ ?_
      · intro T' he' t2
        rw [he'] at hs
        simp only [qzR, xze, xzA]
        exact hE _ _ hs (by simp only [t2])
      · intro T' r he' t3' hT'
        rw [he'] at hs
        have hr := next_mono _ _ _ he'
        simp only [List.length_cons, List.length_nil] at hr
        simp only [qzk, qzi, xzc, xzu, xzm, qzf, qze, qzd, qzp, qzc, qzb, qzg, qzh, qzl, qzm, qzt, qza, qzs, qzu, qzx, cv, qzI, qzJ, toA, ofA, FR.pop, abin, intBin, ↓reduceIte, Nat.reduceEqDiff, hT' 14 (by omega) (by omega) (by omega) (by omega), t14, hw]
        refine ih (i + 1) r _ _ (by omega) (by omega) (by omega) hs ?_ ?_ ?_ ?_ ?_ ?_ ?_
        · simp only [qza, ↓reduceIte, Nat.reduceEqDiff, hT' 1 (by omega) (by omega) (by omega) (by omega), t1]
        · simp only [qza, ↓reduceIte, Nat.reduceEqDiff, t3']
        · simp only [qza, ↓reduceIte, Nat.reduceEqDiff, hT' 12 (by omega) (by omega) (by omega) (by omega), t12]
        · simp only [qza, ↓reduceIte, Nat.reduceEqDiff, hT' 13 (by omega) (by omega) (by omega) (by omega), t13]
        · simp only [qza, ↓reduceIte]
        · simp only [qza, ↓reduceIte, e0, e1, e2, e3, hb]
        · simp only []; omega
      all_goals first | (simp only [qza, ↓reduceIte, List.length_cons, List.length_nil, Nat.reduceAdd, Nat.reduceEqDiff, Nat.zero_add, t3]; done) | (simp only [qza, ↓reduceIte]; rfl)
theorem once_drop {l seen : List Cl} {i : Nat} {c : Cl} (h : l[i]? = some c) : onceS seen (l.drop i) = if c ∈ seen then false else onceS (seen ++ [c]) (l.drop (i + 1)) := by rw [drop_at h]; rfl
theorem once_loop {Gl : xzt} (i0 : Icon) (hl : i0.colors.length < 1000000) (b : Nat) (r : Int) (K : AEx → VF → VH → Prop)
    (hE : ∀ T h, onceS [] i0.colors = false → qzw T 2 = some (.bool false) → K .ret T h)
    (hK : ∀ T h, onceS [] i0.colors = true → qzw T 3 = some (.int .i64 r) → qzw T 1 = some (.ptr b 0) → qzw h.l b = some (some (.cells (cIcon i0) false)) → K (.exit 4) T h) :
    ∀ (d i : Nat) (T : VF) (h : VH), d + i = i0.colors.length → onceS [] i0.colors = onceS (i0.colors.take i) (i0.colors.drop i) → qzw T 1 = some (.ptr b 0) → qzw T 3 = some (.int .i64 r) → qzw T 49 = some (.fsl (xzk cCl i0.colors) i0.colors.length 4) → qzw T 50 = some (.int .i64 i0.colors.length) → qzw T 51 = some (.int .i64 i) → qzw h.l b = some (some (.cells (cIcon i0) false)) → b < h.next →
    wp Go.VL.Er.E Gl (.loop c_icon_used_l0) T h K := by
  intro d
  induction d with
  | zero =>
    intro i T h hd hs t1 t3 t49 t50 t51 hb hx
    obtain rfl : i = i0.colors.length := by omega
    rw [List.drop_length] at hs
    refine xzn c_icon_used_l0.eq_1 ?_
    have c : ¬ ((i0.colors.length : Int) < i0.colors.length) := by omega
    simp only [qzz, qzk, qzo, qzC, qzV, qzv, qzn, qzi, xzd, qzU, qzf, qze, qzd, qzp, qzc, qzb, qzg, qzh, qzl, qzm, qzt, qza, qzs, qzu, qzx, qzI, qzJ, toA, ofA, FR.pop, abin, intBin, ↓reduceIte, Nat.reduceEqDiff, true_and, Bool.false_eq_true, decide_false, forall_const, false_implies, t50, t51, c]
    refine hK _ _ hs ?_ ?_ hb
    · simp only [qza, ↓reduceIte, Nat.reduceEqDiff, t3]
    · simp only [qza, ↓reduceIte, Nat.reduceEqDiff, t1]
  | succ d ih =>
    intro i T h hd hs t1 t3 t49 t50 t51 hb hx
    refine xzn c_icon_used_l0.eq_1 ?_
    have hlt : i < i0.colors.length := by omega
    have c : (i : Int) < i0.colors.length := by omega
    obtain ⟨e, he⟩ : ∃ e, i0.colors[i]? = some e := ⟨i0.colors[i], List.getElem?_eq_getElem hlt⟩
    have p1 := flat_le cCl_len he
    have p2 := flat_at cCl_len he
    have p3 := flatL_take cCl_len i i0.colors
    have hi : i ≤ i0.colors.length := by omega
    have ln : (i0.colors.take i).length = i := by rw [List.length_take]; omega
    have hw : IntKind.i64.wrap ((i : Int) + 1) = ((i + 1 : Nat) : Int) := by rw [qzY (by omega) (by omega)]; rfl
    have e0 : ¬ h.next = b := by omega
    have hco := contains_ok Gl e (i0.colors.take i) (by omega)
    rw [ln] at hco
    rw [once_drop he, ← take_at he] at hs
    have zi := xzs .i64 i
    simp only [qzz, qzk, xzM, qzo, qzC, qzV, qzv, qzn, qzi, xzd, qzU, qzf, qze, qzd, qzp, qzF, qzX, qzN, qzy, xzr, xzp, xzD, xzT, xzN, qzc, qzj, qzE, qzb, xza, qzg, qzh, qzO, xzx, xzy, xzb, qzD, qzl, qzm, qzt, qza, qzs, qzu, qzx, qzG, xzo, slV, bndV, qzL, qzB, xzh, qzW, xzg, xzq, qzA, cvs, cv, qzI, qzJ, toA, ofA, FR.pop, abin, intBin, VN.at, VH.push, VH.set, qzq, VV.cells, ntV, qzS, countN, xzK, xzS, xzV, xzL, xzU, xzX, xzY, xzz, ↓reduceIte, Option.getD_some, Option.isSome_some, List.getElem?_cons_zero, List.getElem?_cons_succ, List.length_cons, List.length_nil, List.drop_succ_cons, List.drop_zero, List.take_succ_cons, List.take_zero, List.append_nil, List.nil_append, List.contains_nil, List.head?_cons, Nat.reduceAdd, Nat.reduceEqDiff, Nat.reduceLeDiff, Nat.zero_add, and_self, and_true, true_and, Bool.and_self, Bool.not_false, decide_true, forall_const, false_implies, Bool.true_eq_false, cCl, cIcon, t1, t49, t50, t51, c, hlt, p1, p2, hb, e0, zi, hi, Nat.sub_zero, Nat.zero_mul, p3]
    refine qzZ hco rfl rfl ?_
    by_cases g : e ∈ i0.colors.take i
    · have dg : decide (e ∈ i0.colors.take i) = true := decide_eq_true g
      rw [if_pos g] at hs
      simp only [qzz, qzk, qzo, qzH, qzv, qzn, qzi, qzR, xzc, xze, xzA, qzf, qze, qzd, qzp, xzO, xzQ, qzc, qzb, qzg, qzh, qzl, qzm, qzt, qza, qzs, qzu, qzx, cv, ↓reduceIte, Option.map_some, List.append_nil, Nat.reduceEqDiff, and_true, forall_const, false_implies, Bool.true_eq_false, dg]
      exact hE _ _ hs (by simp only [qza, ↓reduceIte])
    · have dg : decide (e ∈ i0.colors.take i) = false := decide_eq_false g
      rw [if_neg g] at hs
      simp only [qzz, qzk, qzo, qzH, qzv, qzn, qzi, qzR, xzc, xze, xzm, xzA, qzf, qze, qzd, qzp, xzO, xzQ, qzc, qzb, qzg, qzh, qzl, qzm, qzt, qza, qzs, qzu, qzx, cv, qzI, qzJ, toA, ofA, FR.pop, abin, intBin, ↓reduceIte, Option.map_some, List.append_nil, Nat.reduceEqDiff, true_and, Bool.false_eq_true, forall_const, false_implies, dg, t51, hw]
      refine ih (i + 1) _ _ (by omega) hs ?_ ?_ ?_ ?_ ?_ ?_ ?_
      · simp only [qza, ↓reduceIte, Nat.reduceEqDiff, t1]
      · simp only [qza, ↓reduceIte, Nat.reduceEqDiff, t3]
      · simp only [qza, ↓reduceIte, Nat.reduceEqDiff, t49]
      · simp only [qza, ↓reduceIte, Nat.reduceEqDiff, t50]
      · simp only [qza, ↓reduceIte]
      · simp only [qza, ↓reduceIte, cIcon, e0, hb]
      · simp only []; omega
theorem used_ok (Gl : xzt) (i : Icon) (hl : i.colors.length < 1000000) (hc : i.cmds.length < 1000000) : xzH Go.VL.Er.E Gl f_icon_used [.agg (cIcon i)] (.bool (usedS i)) := by
  refine xzw (xzf E_icon_used ?_)
  unfold c_icon_used r_icon_used
  simp only [xzB]
  have hu : usedS i = match useAll 0 i.cmds with
    | none => false
    | some n => if onceS [] i.colors then decide (n = i.colors.length) else false := rfl
  simp only [qzk, qzo, qzC, qzi, qzf, qze, qzd, qzp, qzF, qzX, qzc, qzj, qzE, qzb, qzg, qzh, qzO, qzl, qzm, qzt, qza, qzs, qzu, qzx, qzG, xzi, qzL, qzB, xzh, xzF, qzA, cv, VN.at, VH.push, qzq, h0, VV.cells, ntV, ↓reduceIte, Option.getD_some, List.getElem?_cons_zero, List.getElem?_cons_succ, Nat.reduceEqDiff, Nat.zero_add, cIcon]
  refine uses_loop i.cmds hc 0 (.cells (cIcon i) false) (useAll 0 i.cmds) _ ?_ ?_ i.cmds.length 0 0 _ _ (by omega) (by omega) (by omega) rfl ?_ ?_ ?_ ?_ ?_ ?_ ?_
  · intro T h he t2
    rw [hu, he]
    simp only [qzR, xze, qzK, qzQ, qzM, qzT, qzP, t2]
    exact qzr rfl
  · intro T h r he t3 t1 hb hx
    rw [he] at hu
    simp only at hu
    simp only [qzk, qzo, qzC, qzi, xzu, qzf, qze, qzd, qzp, qzF, qzc, qzj, qzb, qzg, qzh, qzl, qzm, qzt, qza, qzs, qzu, qzx, qzG, xzi, qzL, qzB, qzA, cv, qzq, ↓reduceIte, Option.getD_some, List.getElem?_cons_zero, List.getElem?_cons_succ, Nat.zero_add, cIcon, t1, hb]
    refine once_loop i hl 0 r _ ?_ ?_ i.colors.length 0 _ _ (by omega) rfl ?_ ?_ ?_ ?_ ?_ ?_ ?_
    · intro T' h' ho t2
      rw [hu, ho]
      simp only [qzR, xze, qzK, qzQ, qzM, qzT, qzP, ↓reduceIte, Bool.false_eq_true, t2]
      exact qzr rfl
    · intro T' h' ho t3' t1' hb'
      rw [hu, ho]
      simp only [qzk, qzo, qzH, qzi, xzu, qzf, qze, qzd, qzp, qzF, qzK, qzc, qzj, qzb, qzg, qzh, qzl, qzm, qzt, qza, qzs, qzu, qzx, qzG, xzi, qzL, qzB, qzA, qzI, qzJ, toA, ofA, FR.pop, abin, intBin, qzq, qzQ, qzM, qzT, qzP, ↓reduceIte, Option.getD_some, List.getElem?_cons_zero, List.getElem?_cons_succ, Nat.reduceEqDiff, Nat.zero_add, cIcon, t3', t1', hb']
      exact qzr rfl
    · simp only [qza, ↓reduceIte, Nat.reduceEqDiff, t1]
    · simp only [qza, ↓reduceIte, Nat.reduceEqDiff, t3]
    all_goals first | (simp only [qza, ↓reduceIte, Nat.reduceEqDiff, cIcon]; done) | (simp only [qza, ↓reduceIte, cIcon]; rfl) | exact hb | exact hx
  all_goals first | (simp only [qza, ↓reduceIte, Nat.reduceLT, Nat.reduceEqDiff, cIcon]; done) | (simp only [qza, ↓reduceIte]; rfl) | (simp only [qzz, qzk, xzM, qzo, qzC, qzV, qzH, qzv, wpIf_true, wpIf_false, qzn, qzi, xzd, qzR, xzc, xzu, xze, xzm, qzU, xzA, qzf, qze, qzd, xzl, qzp, qzF, qzX, qzN, qzy, xzO, xzr, xzp, wpXG_false, xzD, xzT, wpXA_n, xzN, xzQ, Ends_n, qzK, qzc, qzj, qzE, qzb, xza, qzg, qzh, qzO, xzx, xzy, kXN_app, xzb, wpW_copy, wpW_mapUpd, wpW_mark, qzD, wpW_callV, qzl, qzm, qzt, qza, qzs, qzu, qzx, xzj, qzG, xzo, iAddrAV, fieldV, idxArrV, extV, mkIV, tAssV, xzi, lenArrV, nilChkV, slV, slArrV, bndV, qzL, qzB, xzI, xzJ, xzW, eqPV, eqSV, eqIV, eqFV, eqMV, eqGV, inGl, xzR, eqBool, eqInt, eqStr, xzh, xzF, xzE, xzv, qzW, xzg, xzq, srcV, lenOfV, winV, copyV, b2sV, s2bV, mkSliceV, qzA, cvs, cv, qzI, qzJ, toA, ofA, FR.pop, abin, aun, intBin, shiftBin, strBin, bnds, natOf, max2A, min2A, foldA, VN.at, VH.push, VH.set, VH.kill, VH.fix, VB.fix, qzq, h0, VV.cells, ntV, qzQ, qzM, qzT, qzP, closedB, closedL, plainB, plainL, qzS, countN, xzK, lowB, fzB, fzL, xzS, xzV, xzL, xzU, xzX, xzY, xzz, nilCmp, xzs, capOK, capMost, capDrop, ↓reduceIte, Option.getD_some, Option.getD_none, Option.isSome_some, Option.map_some, Option.map_none, List.getElem?_cons_zero, List.getElem?_cons_succ, List.length_cons, List.length_nil, List.drop_succ_cons, List.drop_zero, List.take_succ_cons, List.take_zero, List.append_nil, List.nil_append, List.cons_append, List.contains_cons, List.contains_nil, List.head?_cons, Nat.reduceAdd, Nat.reduceMul, Nat.reduceSub, Nat.reduceDiv, Nat.reduceLT, Nat.reduceEqDiff, reduceCtorEq, Nat.reduceLeDiff, Nat.reduceBEq, Int.reduceEq, Int.reduceLT, Int.reduceLE, Int.reduceBEq, Int.reduceGT, Nat.add_zero, Nat.zero_add, and_self, and_true, true_and, and_false, false_and, not_true_eq_false, not_false_eq_true, Bool.and_self, Bool.and_true, Bool.true_and, Bool.and_false, Bool.or_false, Bool.true_or, Bool.or_true, Bool.false_or, Bool.not_false, Bool.not_true, Bool.false_eq_true, beq_self_eq_true, bne_self_eq_false, beq_true, beq_false, decide_true, decide_false, true_or, if_true, if_false, forall_const, false_implies, true_implies, Bool.true_eq_false, reduceCtorEq, true_or, cCl, erP, cSeg, cPath, cPaint, cCmd, cIcon, t_p_api_At, t_p_errors_errorString, g_ErrRange, g_ErrLimit, g_ErrCanon]; exact Nat.zero_lt_succ _)
end
end Go.VL.Ic

/- Chapter 5: icon.Check. -/
namespace Go.VL.Ic
open Go.FR Go.IR Go.VL Go.VL.Er Go.VL.Color Go.VL.Wind Go.VL.Pal
noncomputable section
set_option linter.unusedSimpArgs false
set_option linter.unusedVariables false
set_option maxRecDepth 100000
set_option maxHeartbeats 1000000

/-- Lists that may be (a million). -/
def Icon.Fit (i : Icon) : Prop := i.colors.length < 1000000 ∧ i.cmds.length < 1000000 ∧ ∀ c ∈ i.cmds, c.paths.length < 1000000 ∧ ∀ p ∈ c.paths, p.segs.length < 1000000
theorem firstS_none {α : Type} {f : α → Option Nat} : ∀ {l : List α}, firstS f l = none ↔ ∀ x ∈ l, f x = none
  | [] => by simp [firstS]
  | x :: l => by
    rw [firstS]
    cases e : f x with
    | some n => simp [e]
    | none => simp only [firstS_none (l := l), List.mem_cons, forall_eq_or_imp, e, true_and]
theorem segS_none {s : Seg} {m : Int} (h : segS s m = none) : 1 ≤ s.kind ∧ s.kind ≤ 3 := by
  unfold segS at h
  cases e : inS s.kind 1 3
  · rw [e] at h; simp at h
  · unfold inS at e; simp at e; omega
theorem pathS_none {p : Path} {b : Bool} {m : Int} (h : pathS p b m = none) : p.segs.length ≤ 400 ∧ p.segs ≠ [] ∧ farS p.start m = false ∧ (b && p.closed) = false ∧ ∀ s ∈ p.segs, segS s m = none := by
  unfold pathS at h
  by_cases h1 : (b && p.closed) = true
  · rw [if_pos h1] at h; exact nomatch h
  rw [if_neg h1] at h
  by_cases h2 : p.segs.length = 0
  · rw [if_pos h2] at h; exact nomatch h
  rw [if_neg h2] at h
  by_cases h3 : 400 < p.segs.length
  · rw [if_pos h3] at h; exact nomatch h
  rw [if_neg h3] at h
  by_cases h4 : farS p.start m = true
  · rw [if_pos h4] at h; exact nomatch h
  rw [if_neg h4] at h
  exact ⟨by omega, fun e => h2 (by rw [e]; rfl), by simpa using h4, by simpa using h1, firstS_none.mp h⟩
theorem cmdS_none {c : Cmd} {n m : Int} (h : cmdS c n m = none) : headS c m = none ∧ paintS c.paint n m = none ∧ c.paths ≠ [] ∧ c.paths.length ≤ 200 ∧ ∀ p ∈ c.paths, pathS p (decide (c.kind = 1)) m = none := by
  unfold cmdS at h
  cases h1 : headS c m with
  | some e => rw [h1] at h; exact nomatch h
  | none =>
  rw [h1] at h
  cases h2 : paintS c.paint n m with
  | some e => rw [h2] at h; exact nomatch h
  | none =>
  rw [h2] at h
  simp only at h
  by_cases h3 : c.paths.length = 0
  · rw [if_pos h3] at h; exact nomatch h
  rw [if_neg h3] at h
  by_cases h4 : 200 < c.paths.length
  · rw [if_pos h4] at h; exact nomatch h
  rw [if_neg h4] at h
  exact ⟨rfl, rfl, fun e => h3 (by rw [e]; rfl), by omega, firstS_none.mp h⟩
theorem sum_mem_le {α : Type} {f : α → Int} {c : Int} {l : List α} (h : ∀ x ∈ l, f x ≤ c) (c0 : 0 ≤ c) (n : Nat) (hn : l.length ≤ n) : sumS' f l ≤ c * n :=
  Int.le_trans (sum_le h) (Int.mul_le_mul_of_nonneg_left (by omega) c0)
theorem pathPts_le {p : Path} {b : Bool} {m : Int} (h : pathS p b m = none) : pathPts p ≤ 1201 ∧ ∀ s ∈ p.segs, 0 ≤ s.kind := by
  obtain ⟨h1, h2, h3, h4, h5⟩ := pathS_none h
  have := sum_mem_le (f := fun s : Seg => s.kind) (c := 3) (l := p.segs) (fun s hs => (segS_none (h5 s hs)).2) (by omega) 400 h1
  refine ⟨by unfold pathPts; omega, fun s hs => by have := (segS_none (h5 s hs)).1; omega⟩
theorem points_le {i : Icon} {n m : Int} (h : ∀ c ∈ i.cmds, cmdS c n m = none) (hc : i.cmds.length ≤ 200) : pointsS i ≤ 2 ^ 62 := by
  have hh : ∀ c ∈ i.cmds, sumS' pathPts c.paths ≤ 1201 * (200 : Nat) := fun c hc => by
    obtain ⟨h1, h2, h3, h4, h5⟩ := cmdS_none (h c hc)
    exact sum_mem_le (fun p hp => (pathPts_le (h5 p hp)).1) (by omega) 200 h4
  have := sum_mem_le (f := fun c : Cmd => sumS' pathPts c.paths) hh (by omega) 200 hc
  have e : pointsS i = sumS' (fun c : Cmd => sumS' pathPts c.paths) i.cmds := rfl
  rw [e]; omega
theorem check_loop {Gl : xzt} (hG : IcG Gl) (i0 : Icon) (hf : i0.Fit) (b : Nat) (K : AEx → VF → VH → Prop)
    (hE : ∀ T h e, firstS (fun c => cmdS c i0.colors.length (greatS i0)) i0.cmds = some e → qzw T 2 = some (errK e) → K .ret T h)
    (hK : ∀ T h, firstS (fun c => cmdS c i0.colors.length (greatS i0)) i0.cmds = none → qzw T 1 = some (.ptr b 0) → qzw h.l b = some (some (.cells (cIcon i0) false)) → K (.exit 1) T h) :
    ∀ (d i : Nat) (T : VF) (h : VH), d + i = i0.cmds.length → firstS (fun c => cmdS c i0.colors.length (greatS i0)) i0.cmds = firstS (fun c => cmdS c i0.colors.length (greatS i0)) (i0.cmds.drop i) → qzw T 1 = some (.ptr b 0) → qzw T 24 = some (.fsl (xzk cCmd i0.cmds) i0.cmds.length 11) → qzw T 25 = some (.int .i64 i0.cmds.length) → qzw T 26 = some (.int .i64 i) → qzw h.l b = some (some (.cells (cIcon i0) false)) → b < h.next →
    wp Go.VL.Er.E Gl (.loop c_icon_Check_l0) T h K := by
  intro d
  induction d with
  | zero =>
    intro i T h hd hs t1 t24 t25 t26 hb hx
    obtain rfl : i = i0.cmds.length := by omega
    rw [List.drop_length] at hs
    refine xzn c_icon_Check_l0.eq_1 ?_
    have c : ¬ ((i0.cmds.length : Int) < i0.cmds.length) := by omega
    simp only [qzz, qzk, qzo, qzC, qzV, qzv, qzn, qzi, xzd, qzU, qzf, qze, qzd, qzp, qzc, qzb, qzg, qzh, qzl, qzm, qzt, qza, qzs, qzu, qzI, qzJ, toA, ofA, FR.pop, abin, intBin, ↓reduceIte, Nat.reduceEqDiff, true_and, Bool.false_eq_true, decide_false, forall_const, false_implies, t_p_api_At, t_p_errors_errorString, t25, t26, c]
    refine hK _ _ hs ?_ hb
    simp only [qza, ↓reduceIte, Nat.reduceEqDiff, t1]
  | succ d ih =>
    intro i T h hd hs t1 t24 t25 t26 hb hx
    refine xzn c_icon_Check_l0.eq_1 ?_
    obtain ⟨f1, f2, f3⟩ := hf
    have hlt : i < i0.cmds.length := by omega
    have c : (i : Int) < i0.cmds.length := by omega
    obtain ⟨e, he⟩ : ∃ e, i0.cmds[i]? = some e := ⟨i0.cmds[i], List.getElem?_eq_getElem hlt⟩
    obtain ⟨f4, f5⟩ := f3 e (List.mem_of_getElem? he)
    have p1 := flat_le cCmd_len he
    have p2 := flat_at cCmd_len he
    have hw : IntKind.i64.wrap ((i : Int) + 1) = ((i + 1 : Nat) : Int) := by rw [qzY (by omega) (by omega)]; rfl
    have e0 : ¬ h.next = b := by omega
    have x1 : h.next < h.next + 1 := by omega
    have x2 : b < h.next + 1 := by omega
    have gb := great_bnd i0
    rw [firstS_drop he] at hs
    simp only [qzz, qzk, xzM, qzo, qzC, qzV, qzv, qzn, qzi, xzd, qzU, qzf, qze, qzd, qzp, qzF, qzX, qzN, qzy, xzr, xzp, xzT, xzN, qzc, qzj, qzE, qzb, xza, qzg, qzh, qzO, xzx, xzy, xzb, qzD, qzl, qzm, qzt, qza, qzs, qzu, xzo, qzL, qzB, xzh, qzW, xzg, xzq, qzA, cvs, cv, qzI, qzJ, toA, ofA, FR.pop, abin, intBin, VN.at, VH.push, VH.set, qzq, VV.cells, ntV, qzS, countN, xzK, xzS, xzV, xzL, xzU, xzX, xzY, xzz, xzs, ↓reduceIte, Option.getD_some, Option.isSome_some, List.length_cons, List.length_nil, List.drop_succ_cons, List.drop_zero, List.take_succ_cons, List.take_zero, List.append_nil, List.nil_append, List.contains_nil, List.head?_cons, Nat.reduceAdd, Nat.reduceEqDiff, Nat.reduceLeDiff, Nat.zero_add, and_self, and_true, true_and, Bool.and_self, Bool.not_false, decide_true, forall_const, false_implies, Bool.true_eq_false, cCmd, cIcon, t_p_api_At, t_p_errors_errorString, t1, t24, t25, t26, c, hlt, p1, p2, hb, e0]
    refine qzZ (greatest_ok Gl i0) rfl rfl ?_
    simp only [xzr, xzp, xzD, xzT, xzN, xzQ, qzc, qzj, qzb, xzx, xzy, qzD, qzl, qzm, qzt, qza, qzs, qzu, qzG, xzi, qzL, qzB, qzA, qzq, xzK, lowB, fzB, fzL, xzS, xzV, xzL, xzU, xzX, xzY, ↓reduceIte, Option.getD_some, Option.isSome_some, Option.map_some, List.getElem?_cons_zero, List.getElem?_cons_succ, List.length_cons, List.length_nil, List.drop_zero, List.take_succ_cons, List.take_zero, List.append_nil, List.contains_nil, Nat.reduceAdd, Nat.reduceEqDiff, Nat.reduceLeDiff, Nat.zero_add, and_self, true_and, Bool.and_self, Bool.or_false, Bool.or_true, Bool.not_false, decide_true, cIcon, t1, hb, e0, x1, x2]
    refine qzZ (cmd_ok hG e i0.colors.length (greatS i0) f4 f5 (by omega) (by omega) (by omega) (by omega)) rfl (by cases cmdS e i0.colors.length (greatS i0) <;> rfl) ?_
    cases q : cmdS e i0.colors.length (greatS i0) with
    | some n =>
      rw [q] at hs
      simp only [errV]
      simp only [qzz, qzk, qzo, qzH, qzv, qzn, qzi, qzR, xzc, xze, xzA, qzf, qze, qzd, qzp, qzF, xzO, xzr, xzp, xzD, xzQ, qzc, qzj, qzb, qzg, qzh, xzx, xzy, qzl, qzm, qzt, qza, qzs, qzu, qzx, qzL, xzI, xzJ, eqIV, cv, ↓reduceIte, Option.map_some, List.append_nil, Nat.reduceEqDiff, and_true, Bool.not_false, forall_const, false_implies, Bool.true_eq_false, errK, t_p_errors_errorString]
      exact hE _ _ n hs (by simp only [qza, ↓reduceIte, errK, t_p_errors_errorString])
    | none =>
      rw [q] at hs
      simp only [errV]
      simp only [qzz, qzk, qzo, qzH, qzv, qzn, qzi, qzR, xzc, xze, xzm, xzA, qzf, qze, qzd, qzp, qzF, xzO, xzr, xzp, xzD, xzQ, qzc, qzj, qzb, qzg, qzh, xzx, xzy, qzl, qzm, qzt, qza, qzs, qzu, qzx, qzL, xzI, xzJ, eqIV, cv, qzI, qzJ, toA, ofA, FR.pop, abin, intBin, ↓reduceIte, Option.map_some, List.append_nil, Nat.reduceEqDiff, true_and, Bool.not_true, Bool.false_eq_true, forall_const, false_implies, t26, hw]
      refine ih (i + 1) _ _ (by omega) hs ?_ ?_ ?_ ?_ ?_ ?_
      · simp only [qza, ↓reduceIte, Nat.reduceEqDiff, t1]
      · simp only [qza, ↓reduceIte, Nat.reduceEqDiff, t24]
      · simp only [qza, ↓reduceIte, Nat.reduceEqDiff, t25]
      · simp only [qza, ↓reduceIte]
      · simp only [qza, ↓reduceIte, cIcon, e0, hb]
      · simp only []; omega
theorem check_ok {Gl : xzt} (hG : IcG Gl) (i : Icon) (hf : i.Fit) : xzH Go.VL.Er.E Gl f_icon_Check [.agg (cIcon i)] (errV (checkS i)) := by
  refine xzw (xzf E_icon_Check ?_)
  have g4 : qzw Gl g_ErrRange = some [errK 4] := hG.r
  have g5 : qzw Gl g_ErrLimit = some [errK 5] := hG.l
  have g9 : qzw Gl g_ErrCanon = some [errK 9] := hG.c
  unfold c_icon_Check r_icon_Check
  simp only [xzB]
  simp only [qzk, qzo, qzC, qzi, qzf, qze, qzd, qzp, qzF, qzX, qzN, qzc, qzj, qzE, qzb, qzg, qzh, qzO, qzD, qzl, qzm, qzt, qza, qzs, qzu, qzx, qzL, qzB, xzh, xzF, qzA, cv, VN.at, VH.push, qzq, h0, VV.cells, ntV, ↓reduceIte, Option.getD_some, List.length_cons, List.length_nil, List.drop_zero, List.take_succ_cons, List.take_zero, Nat.reduceAdd, Nat.reduceEqDiff, Nat.reduceLeDiff, Nat.zero_add, cIcon]
  refine qzZ (sized_ok Gl i) rfl rfl ?_
  cases r1 : sizedS i
  · rw [show checkS i = some 4 by simp [checkS, r1]]
    simp only [qzk, qzo, qzH, qzv, qzn, qzi, qzR, xze, qzf, qze, qzd, qzp, qzF, qzy, qzK, qzc, qzj, qzb, qzg, qzh, qzl, qzm, qzt, qza, qzs, qzu, qzx, qzG, xzi, qzL, qzB, qzA, cv, qzI, qzJ, toA, ofA, FR.pop, abin, aun, intBin, qzq, qzQ, qzM, qzT, qzP, ↓reduceIte, Option.getD_some, List.getElem?_cons_zero, List.getElem?_cons_succ, Nat.reduceEqDiff, Nat.zero_add, and_true, Bool.not_false, beq_false, forall_const, false_implies, Bool.true_eq_false, errK, t_p_errors_errorString, g4]
    exact qzr rfl
  by_cases r2 : 256 < i.colors.length
  · have r2' : (i.colors.length : Int) > 256 := by omega
    rw [show checkS i = some 5 by simp [checkS, r1, r2]]
    simp only [qzz, qzk, qzo, qzC, qzH, qzv, qzn, qzi, qzR, xzc, xze, qzf, qze, qzd, xzl, qzp, qzF, qzy, qzK, qzc, qzj, qzb, qzg, qzh, qzl, qzm, qzt, qza, qzs, qzu, qzx, xzj, qzG, xzi, qzL, qzB, qzA, cv, qzI, qzJ, toA, ofA, FR.pop, abin, aun, intBin, qzq, qzQ, qzM, qzT, qzP, qzS, ↓reduceIte, Option.getD_some, List.getElem?_cons_zero, List.getElem?_cons_succ, Nat.reduceEqDiff, Nat.zero_add, and_true, true_and, Bool.not_true, Bool.false_eq_true, beq_false, decide_true, forall_const, false_implies, Bool.true_eq_false, errK, t_p_errors_errorString, r2', g5]
    exact qzr rfl
  have r2' : ¬ (i.colors.length : Int) > 256 := by omega
  by_cases r3 : 200 < i.cmds.length
  · have r3' : (i.cmds.length : Int) > 200 := by omega
    rw [show checkS i = some 5 by simp [checkS, r1, r3]]
    simp only [qzz, qzk, qzo, qzC, qzH, qzv, qzn, qzi, qzR, xzc, xze, qzf, qze, qzd, qzp, qzF, qzy, qzK, qzc, qzj, qzb, qzg, qzh, qzl, qzm, qzt, qza, qzs, qzu, qzx, xzj, qzG, xzi, qzL, qzB, qzA, cv, qzI, qzJ, toA, ofA, FR.pop, abin, aun, intBin, qzq, qzQ, qzM, qzT, qzP, ↓reduceIte, Option.getD_some, List.getElem?_cons_zero, List.getElem?_cons_succ, Nat.reduceEqDiff, Nat.zero_add, and_true, true_and, Bool.not_true, Bool.false_eq_true, beq_self_eq_true, decide_true, decide_false, forall_const, false_implies, Bool.true_eq_false, errK, t_p_errors_errorString, r2', r3', g5]
    exact qzr rfl
  have r3' : ¬ (i.cmds.length : Int) > 200 := by omega
  have hc : checkS i = match firstS (fun c => cmdS c i.colors.length (greatS i)) i.cmds with
    | some e => some e
    | none => if pointsS i > 4000 then some 5 else if usedS i = false then some 9 else none := by
    unfold checkS; rw [if_neg (by simp [r1]), if_neg (by omega)]; rfl
  simp only [qzz, qzk, qzo, qzC, qzv, qzn, qzi, xzc, qzf, qze, qzd, qzp, qzF, qzy, qzc, qzj, qzb, qzg, qzh, qzl, qzm, qzt, qza, qzs, qzu, qzx, xzj, qzG, xzi, qzL, qzB, qzA, cv, qzI, qzJ, toA, ofA, FR.pop, abin, aun, intBin, qzq, ↓reduceIte, Option.getD_some, List.getElem?_cons_zero, List.getElem?_cons_succ, Nat.reduceEqDiff, Nat.zero_add, true_and, Bool.not_true, Bool.false_eq_true, beq_self_eq_true, decide_false, forall_const, false_implies, r2', r3']
  refine check_loop hG i hf 0 _ ?_ ?_ i.cmds.length 0 _ _ (by omega) rfl ?_ ?_ ?_ ?_ ?_ ?_
  · intro T h e he t2
    rw [hc, he]
    simp only [qzR, xze, qzK, qzQ, qzM, qzT, qzP, errK, t_p_errors_errorString, t2]
    exact qzr rfl
  · intro T h he t1 hb
    rw [he] at hc
    simp only at hc
    have hn := firstS_none.mp he
    have hp := points_ok Gl i hf.2.1 (fun c hm => ⟨(hf.2.2 c hm).1, fun p hpp => ⟨(hf.2.2 c hm).2 p hpp, (pathPts_le ((cmdS_none (hn c hm)).2.2.2.2 p hpp)).2⟩⟩) (points_le hn (by omega))
    simp only [qzk, qzo, qzC, qzi, xzu, qze, qzd, qzF, qzN, qzj, qzb, qzg, qzh, qzD, qzl, qzm, qzt, qza, qzs, qzL, qzB, qzA, qzq, ↓reduceIte, Option.getD_some, List.length_cons, List.length_nil, List.drop_zero, List.take_succ_cons, List.take_zero, Nat.reduceAdd, Nat.reduceLeDiff, Nat.zero_add, cIcon, t1, hb]
    refine qzZ hp rfl rfl ?_
    by_cases r4 : pointsS i > 4000
    · rw [if_pos r4] at hc
      rw [hc]
      simp only [qzk, qzo, qzH, qzv, qzn, qzi, qzR, xze, qzf, qze, qzd, qzp, qzF, qzy, qzK, qzc, qzj, qzb, qzg, qzh, qzl, qzm, qzt, qza, qzs, qzu, qzx, qzL, qzB, qzA, cv, qzI, qzJ, toA, ofA, FR.pop, abin, intBin, qzQ, qzM, qzT, qzP, ↓reduceIte, List.getElem?_cons_zero, Nat.reduceEqDiff, and_true, decide_true, forall_const, false_implies, Bool.true_eq_false, errK, t_p_errors_errorString, r4, g5]
      exact qzr rfl
    rw [if_neg r4] at hc
    simp only [qzk, qzo, qzv, qzn, qzi, qzf, qze, qzd, qzp, qzF, qzN, qzy, qzc, qzj, qzb, qzg, qzh, qzD, qzl, qzm, qzt, qza, qzs, qzu, qzx, qzL, qzB, qzA, cv, qzI, qzJ, toA, ofA, FR.pop, abin, intBin, qzq, ↓reduceIte, Option.getD_some, List.length_cons, List.length_nil, List.drop_zero, List.take_succ_cons, List.take_zero, Nat.reduceAdd, Nat.reduceEqDiff, Nat.reduceLeDiff, Nat.zero_add, true_and, Bool.false_eq_true, decide_false, forall_const, false_implies, cIcon, r4, t1, hb]
    refine qzZ (used_ok Gl i hf.1 hf.2.1) rfl rfl ?_
    cases r5 : usedS i
    · rw [r5, if_pos rfl] at hc
      rw [hc]
      simp only [qzz, qzk, qzo, qzH, qzv, qzn, qzi, qzR, xzc, xze, qzf, qze, qzd, qzp, qzF, qzy, qzK, qzc, qzj, qzb, qzg, qzh, qzl, qzm, qzt, qza, qzs, qzu, qzx, qzL, qzB, qzA, cv, qzI, qzJ, toA, ofA, FR.pop, aun, qzQ, qzM, qzT, qzP, ↓reduceIte, List.getElem?_cons_zero, and_true, Bool.not_false, forall_const, false_implies, Bool.true_eq_false, errK, t_p_errors_errorString, g9]
      exact qzr rfl
    · rw [r5, if_neg (by simp)] at hc
      rw [hc]
      simp only [qzz, qzk, qzo, qzH, qzv, qzn, qzi, xzc, qzf, qze, qzd, qzp, qzF, qzy, qzK, qzc, qzb, qzg, qzh, qzl, qzm, qzt, qza, qzs, qzu, qzx, qzL, qzB, qzA, cv, qzI, qzJ, toA, ofA, FR.pop, aun, qzQ, qzM, qzT, qzP, ↓reduceIte, true_and, Bool.not_true, Bool.false_eq_true, forall_const, false_implies]
      exact qzr rfl
  all_goals first | (simp only [qza, ↓reduceIte, Nat.reduceLT, Nat.reduceEqDiff, cIcon]; done) | (simp only [qza, ↓reduceIte]; rfl) | (simp only [qzz, qzk, xzM, qzo, qzC, qzV, qzH, qzv, wpIf_true, wpIf_false, qzn, qzi, xzd, qzR, xzc, xzu, xze, xzm, qzU, xzA, qzf, qze, qzd, xzl, qzp, qzF, qzX, qzN, qzy, xzO, xzr, xzp, wpXG_false, xzD, xzT, wpXA_n, xzN, xzQ, Ends_n, qzK, qzc, qzj, qzE, qzb, xza, qzg, qzh, qzO, xzx, xzy, kXN_app, xzb, wpW_copy, wpW_mapUpd, wpW_mark, qzD, wpW_callV, qzl, qzm, qzt, qza, qzs, qzu, qzx, xzj, qzG, xzo, iAddrAV, fieldV, idxArrV, extV, mkIV, tAssV, xzi, lenArrV, nilChkV, slV, slArrV, bndV, qzL, qzB, xzI, xzJ, xzW, eqPV, eqSV, eqIV, eqFV, eqMV, eqGV, inGl, xzR, eqBool, eqInt, eqStr, xzh, xzF, xzE, xzv, qzW, xzg, xzq, srcV, lenOfV, winV, copyV, b2sV, s2bV, mkSliceV, qzA, cvs, cv, qzI, qzJ, toA, ofA, FR.pop, abin, aun, intBin, shiftBin, strBin, bnds, natOf, max2A, min2A, foldA, VN.at, VH.push, VH.set, VH.kill, VH.fix, VB.fix, qzq, h0, VV.cells, ntV, qzQ, qzM, qzT, qzP, closedB, closedL, plainB, plainL, qzS, countN, xzK, lowB, fzB, fzL, xzS, xzV, xzL, xzU, xzX, xzY, xzz, nilCmp, xzs, capOK, capMost, capDrop, ↓reduceIte, Option.getD_some, Option.getD_none, Option.isSome_some, Option.map_some, Option.map_none, List.getElem?_cons_zero, List.getElem?_cons_succ, List.length_cons, List.length_nil, List.drop_succ_cons, List.drop_zero, List.take_succ_cons, List.take_zero, List.append_nil, List.nil_append, List.cons_append, List.contains_cons, List.contains_nil, List.head?_cons, Nat.reduceAdd, Nat.reduceMul, Nat.reduceSub, Nat.reduceDiv, Nat.reduceLT, Nat.reduceEqDiff, reduceCtorEq, Nat.reduceLeDiff, Nat.reduceBEq, Int.reduceEq, Int.reduceLT, Int.reduceLE, Int.reduceBEq, Int.reduceGT, Nat.add_zero, Nat.zero_add, and_self, and_true, true_and, and_false, false_and, not_true_eq_false, not_false_eq_true, Bool.and_self, Bool.and_true, Bool.true_and, Bool.and_false, Bool.or_false, Bool.true_or, Bool.or_true, Bool.false_or, Bool.not_false, Bool.not_true, Bool.false_eq_true, beq_self_eq_true, bne_self_eq_false, beq_true, beq_false, decide_true, decide_false, true_or, if_true, if_false, forall_const, false_implies, true_implies, Bool.true_eq_false, reduceCtorEq, true_or, cCl, erP, errK, cSeg, cPath, cPaint, cCmd, cIcon, t_p_api_At, t_p_errors_errorString]; exact Nat.zero_lt_succ _)
end
end Go.VL.Ic
