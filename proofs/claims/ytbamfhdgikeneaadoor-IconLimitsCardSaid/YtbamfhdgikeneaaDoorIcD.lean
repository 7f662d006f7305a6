/- Chapter 5: colors in their order; icon.Check. -/
import Derived.Test.YtbamfhdgikeneaaDoorPaA
namespace Go.VL.Ic
open Go.FR Go.IR Go.VL Go.VL.Er Go.VL.Color Go.VL.Wind Go.VL.Pal
noncomputable section
set_option linter.unusedSimpArgs false
set_option linter.unusedVariables false
set_option maxRecDepth 100000
set_option maxHeartbeats 1000000

theorem idx_mem (c : Cl) : ∀ (l : List Cl) (k : Nat), (0 ≤ idxS l c k ↔ c ∈ l)
  | [], k => by simp [idxS]
  | x :: l, k => by
    rw [idxS]
    by_cases e : c = x
    · rw [if_pos e, e]; simp
    · rw [if_neg e, idx_mem c l (k + 1)]; simp [e]
theorem contains_ok (Gl : xzy) (c : Cl) (l : List Cl) (hl : l.length < 1000000) : xzJ Go.VL.Er.E Gl f_slices_Contains__api_Color_api_Color [.fsl (xzA cCl l) l.length 4, .agg (cCl c)] (.bool (decide (c ∈ l))) := by
  refine xzv (xzk E_slices_Contains__api_Color_api_Color ?_)
  unfold c_slices_Contains__api_Color_api_Color r_slices_Contains__api_Color_api_Color
  simp only [xzG]
  simp only [qzm, qzp, qzi, qzf, qze, qzd, qzq, qzG, xzd, qzK, qzc, qzk, qzC, qzb, qzg, qzh, qzT, qzB, qzn, qzo, qzu, qza, qzt, qzw, qzy, qzM, qzF, xzi, xzU, qzE, cv, VN.at, VH.push, qzl, h0, VV.cells, ntV, ↓reduceIte, Option.getD_some, List.length_cons, List.length_nil, List.drop_zero, List.take_succ_cons, List.take_zero, Nat.reduceAdd, Nat.reduceEqDiff, reduceCtorEq, Nat.reduceLeDiff, Nat.zero_add, reduceCtorEq, cCl]
  refine xzb (index_ok Gl c l hl) rfl rfl ?_
  have e := idx_mem c l 0
  by_cases h : c ∈ l
  · have g : idxS l c 0 ≥ 0 := e.mpr h
    simp only [qzD, qzi, qzf, qze, qzd, qzq, qzz, qzH, qzc, qzb, qzg, qzh, qzn, qzo, qzu, qza, qzt, qzw, qzy, cv, qzI, qzJ, toA, ofA, FR.pop, abin, intBin, qzW, qzN, qzX, qzV, ↓reduceIte, decide_true, h, g]
    exact qzv rfl
  · have g : ¬ idxS l c 0 ≥ 0 := fun x => h (e.mp x)
    simp only [qzD, qzi, qzf, qze, qzd, qzq, qzz, qzH, qzc, qzb, qzg, qzh, qzn, qzo, qzu, qza, qzt, qzw, qzy, cv, qzI, qzJ, toA, ofA, FR.pop, abin, intBin, qzW, qzN, qzX, qzV, ↓reduceIte, decide_false, h, g]
    exact qzv rfl
theorem next_mono : ∀ (l : List Int) (n r : Int), nextUse n l = some r → n ≤ r ∧ r ≤ n + l.length
  | [], n, r, h => by simp [nextUse] at h; simp; omega
  | k :: l, n, r, h => by
    rw [nextUse] at h
    by_cases g : k > n
    · rw [if_pos g] at h; exact nomatch h
    · rw [if_neg g] at h
      have := next_mono l _ _ h
      simp only [List.length_cons]
      split at this <;> omega
theorem next_drop {l : List Int} {i : Nat} {k n : Int} (h : l[i]? = some k) : nextUse n (l.drop i) = if k > n then none else nextUse (if k = n then n + 1 else n) (l.drop (i + 1)) := by rw [drop_at h]; rfl
theorem use_loop {Gl : xzy} (l : List Int) (hl : l.length < 1000000) (T0 : VF) (h : VH) (j : Nat) (cap : ACap) (cr : List VV) (hj : qzr h.l j = some (some (.cells (l.map (VV.int .i64) ++ cr) false))) (o : Option Int) (K : AEx → VF → VH → Prop)
    (hE : ∀ T, o = none → qzr T 2 = some (.bool false) → K .ret T h)
    (hK : ∀ T r, o = some r → qzr T 3 = some (.int .i64 r) → (∀ k, k < 32 → k ≠ 2 → k ≠ 3 → k ≠ 8 → qzr T k = qzr T0 k) → K (.exit 2) T h) :
    ∀ (d i : Nat) (n : Int) (T : VF), d + i = l.length → 0 ≤ n → n ≤ 2 ^ 60 + i → o = nextUse n (l.drop i) → (∀ k, k < 32 → k ≠ 2 → k ≠ 3 → k ≠ 8 → qzr T k = qzr T0 k) → qzr T 3 = some (.int .i64 n) → qzr T 32 = some (.slice j 0 l.length 1 cap) → qzr T 33 = some (.int .i64 l.length) → qzr T 34 = some (.int .i64 i) →
    wp Go.VL.Er.E Gl (.loop c_icon_used_l1) T h K := by
  intro d
  induction d with
  | zero =>
    intro i n T hd hn hn2 hs hT t3 t32 t33 t34
    obtain rfl : i = l.length := by omega
    rw [List.drop_length] at hs
    refine xzo c_icon_used_l1.eq_1 ?_
    have c : ¬ ((l.length : Int) < l.length) := by omega
    simp only [qzx, qzm, qzp, qzA, qzZ, qzs, qzj, qzi, xze, qzY, qzf, qze, qzd, qzq, qzc, qzb, qzg, qzh, qzn, qzo, qzu, qza, qzt, qzw, qzI, qzJ, toA, ofA, FR.pop, abin, intBin, ↓reduceIte, Nat.reduceEqDiff, true_and, Bool.false_eq_true, decide_false, forall_const, false_implies, t33, t34, c]
    refine hK _ n hs ?_ ?_
    · simp only [qza, ↓reduceIte, Nat.reduceEqDiff, t3]
    · intro k h1 h2 h3 h4
      simp only [qza]
      (repeat rw [if_neg (by omega)])
      exact hT k h1 h2 h3 h4
  | succ d ih =>
    intro i n T hd hn hn2 hs hT t3 t32 t33 t34
    refine xzo c_icon_used_l1.eq_1 ?_
    have hlt : i < l.length := by omega
    have c : (i : Int) < l.length := by omega
    obtain ⟨e, he⟩ : ∃ e, l[i]? = some e := ⟨l[i], List.getElem?_eq_getElem hlt⟩
    have he' : (l.map (VV.int .i64) ++ cr)[i]? = some (.int .i64 e) := by rw [List.getElem?_append_left (by simpa using hlt), List.getElem?_map, he]; rfl
    have hw : IntKind.i64.wrap ((i : Int) + 1) = ((i + 1 : Nat) : Int) := by rw [xzj (by omega) (by omega)]; rfl
    have hw2 : IntKind.i64.wrap (n + 1) = n + 1 := xzj (by omega) (by omega)
    rw [next_drop he] at hs
    by_cases g : e > n
    · rw [if_pos g] at hs
      simp only [qzx, qzm, qzp, qzA, qzZ, qzD, qzs, qzj, qzi, xze, qzR, xza, xzc, xzh, qzY, xzw, qzf, qze, qzd, qzq, qzG, qzc, qzk, qzb, qzg, qzh, qzn, qzo, qzu, qza, qzt, qzw, qzy, xzm, qzM, qzF, qzE, cv, qzI, qzJ, toA, ofA, FR.pop, abin, intBin, qzl, xzx, ↓reduceIte, Option.getD_some, Nat.reduceEqDiff, Nat.zero_add, and_true, decide_true, forall_const, false_implies, Bool.true_eq_false, t3, t32, t33, t34, c, hlt, hj, he', Nat.mul_one, g]
      exact hE _ hs (by simp only [qza, ↓reduceIte])
    rw [if_neg g] at hs
    by_cases q : e = n
    · have qb : (e == n) = true := by simp [q]
      rw [if_pos q] at hs
      simp only [qzx, qzm, qzp, qzA, qzZ, qzD, qzs, qzj, qzi, xze, qzR, xza, xzc, xzh, qzY, xzw, qzf, qze, qzd, qzq, qzG, qzc, qzk, qzb, qzg, qzh, qzn, qzo, qzu, qza, qzt, qzw, qzy, xzm, qzM, qzF, qzE, cv, qzI, qzJ, toA, ofA, FR.pop, abin, intBin, qzl, xzx, ↓reduceIte, Option.getD_some, Nat.reduceEqDiff, Nat.zero_add, and_true, true_and, Bool.false_eq_true, decide_true, decide_false, forall_const, false_implies, Bool.true_eq_false, t3, t32, t33, t34, c, hlt, hj, he', Nat.mul_one, g, qb, hw, hw2]
      refine ih (i + 1) (n + 1) _ (by omega) (by omega) (by omega) hs ?_ ?_ ?_ ?_ ?_
      · intro k h1 h2 h3 h4
        simp only [qza]
        (repeat rw [if_neg (by omega)])
        exact hT k h1 h2 h3 h4
      · simp only [qza, ↓reduceIte, Nat.reduceEqDiff]
      · simp only [qza, ↓reduceIte, Nat.reduceEqDiff, t32]
      · simp only [qza, ↓reduceIte, Nat.reduceEqDiff, t33]
      · simp only [qza, ↓reduceIte]
    · have qb : (e == n) = false := by simp [q]
      rw [if_neg q] at hs
      simp only [qzx, qzm, qzp, qzA, qzZ, qzD, qzs, qzj, qzi, xze, qzR, xza, xzc, xzh, qzY, xzw, qzf, qze, qzd, qzq, qzG, qzc, qzk, qzb, qzg, qzh, qzn, qzo, qzu, qza, qzt, qzw, qzy, xzm, qzM, qzF, qzE, cv, qzI, qzJ, toA, ofA, FR.pop, abin, intBin, qzl, xzx, ↓reduceIte, Option.getD_some, Nat.reduceEqDiff, Nat.zero_add, and_true, true_and, Bool.false_eq_true, decide_true, decide_false, forall_const, false_implies, Bool.true_eq_false, t3, t32, t33, t34, c, hlt, hj, he', Nat.mul_one, g, qb, hw]
      refine ih (i + 1) n _ (by omega) (by omega) (by omega) hs ?_ ?_ ?_ ?_ ?_
      · intro k h1 h2 h3 h4
        simp only [qza]
        (repeat rw [if_neg (by omega)])
        exact hT k h1 h2 h3 h4
      · simp only [qza, ↓reduceIte, Nat.reduceEqDiff, t3]
      · simp only [qza, ↓reduceIte, Nat.reduceEqDiff, t32]
      · simp only [qza, ↓reduceIte, Nat.reduceEqDiff, t33]
      · simp only [qza, ↓reduceIte]
theorem useAll_drop {l : List Cmd} {i : Nat} {c : Cmd} {n : Int} (h : l[i]? = some c) : useAll n (l.drop i) = match nextUse n (usesOf c) with
    | none => none
    | some m => useAll m (l.drop (i + 1)) := by rw [drop_at h]; rfl
theorem uses_loop {Gl : xzy} (l : List Cmd) (hl : l.length < 1000000) (b : Nat) (bb : VB) (o : Option Int) (K : AEx → VF → VH → Prop)
    (hE : ∀ T h, o = none → qzr T 2 = some (.bool false) → K .ret T h)
    (hK : ∀ T h r, o = some r → qzr T 3 = some (.int .i64 r) → qzr T 1 = some (.ptr b 0) → qzr h.l b = some (some bb) → b < h.next → K (.exit 0) T h) :
    ∀ (d i : Nat) (n : Int) (T : VF) (h : VH), d + i = l.length → 0 ≤ n → n ≤ 2 * i → o = useAll n (l.drop i) → qzr T 1 = some (.ptr b 0) → qzr T 3 = some (.int .i64 n) → qzr T 12 = some (.fsl (xzA cCmd l) l.length 11) → qzr T 13 = some (.int .i64 l.length) → qzr T 14 = some (.int .i64 i) → qzr h.l b = some (some bb) → b < h.next →
    wp Go.VL.Er.E Gl (.loop c_icon_used_l2) T h K := by
  intro d
  induction d with
  | zero =>
    intro i n T h hd hn hn2 hs t1 t3 t12 t13 t14 hb hx
    obtain rfl : i = l.length := by omega
    rw [List.drop_length] at hs
    refine xzo c_icon_used_l2.eq_1 ?_
    have c : ¬ ((l.length : Int) < l.length) := by omega
    simp only [qzx, qzm, qzp, qzA, qzZ, qzs, qzj, qzi, xze, qzY, qzf, qze, qzd, qzq, qzc, qzb, qzg, qzh, qzn, qzo, qzu, qza, qzt, qzw, qzI, qzJ, toA, ofA, FR.pop, abin, intBin, ↓reduceIte, Nat.reduceEqDiff, true_and, Bool.false_eq_true, decide_false, forall_const, false_implies, t13, t14, c]
    refine hK _ _ n hs ?_ ?_ hb hx
    · simp only [qza, ↓reduceIte, Nat.reduceEqDiff, t3]
    · simp only [qza, ↓reduceIte, Nat.reduceEqDiff, t1]
  | succ d ih =>
    intro i n T h hd hn hn2 hs t1 t3 t12 t13 t14 hb hx
    refine xzo c_icon_used_l2.eq_1 ?_
    have hlt : i < l.length := by omega
    have c : (i : Int) < l.length := by omega
    obtain ⟨e, he⟩ : ∃ e, l[i]? = some e := ⟨l[i], List.getElem?_eq_getElem hlt⟩
    have p1 := flat_le cCmd_len he
    have p2 := flat_at cCmd_len he
    have hw : IntKind.i64.wrap ((i : Int) + 1) = ((i + 1 : Nat) : Int) := by rw [xzj (by omega) (by omega)]; rfl
    rw [useAll_drop he] at hs
    have e0 : ¬ h.next = b := by omega
    have e1 : ¬ h.next + 1 = b := by omega
    have e2 : ¬ h.next + 1 + 1 = b := by omega
    have e3 : ¬ h.next + 1 + 1 + 1 = b := by omega
    have e5 : ¬ h.next + 1 = h.next := by omega
    have e6 : ¬ h.next + 1 + 1 = h.next + 1 := by omega
    have e7 : ¬ h.next + 1 + 1 = h.next := by omega
    have e8 : ¬ h.next + 1 + 1 + 1 = h.next + 1 + 1 := by omega
    have e9 : ¬ h.next + 1 + 1 + 1 = h.next + 1 := by omega
    have e10 : ¬ h.next + 1 + 1 + 1 = h.next := by omega
    by_cases k0 : e.paint.kind = 0
    · have q0 : (e.paint.kind == 0) = true := by simp [k0]
      have q0' : (e.paint.kind != 0) = false := by simp [k0]
      have us : usesOf e = [e.paint.a] := by unfold usesOf; rw [if_pos k0]
      rw [us] at hs
      simp only [qzx, qzm, qzp, qzA, qzZ, qzs, qzj, qzi, xze, qzY, qzf, qze, qzd, qzq, qzG, xzd, qzK, qzz, qzc, qzk, qzC, qzb, qzQ, qzg, qzh, qzT, qzP, qzn, qzo, qzu, qza, qzt, qzw, qzy, qzL, xzm, xzn, qzM, qzF, xzi, xzr, qzS, qzU, xzg, yza, lenOfV, yze, qzE, cvs, cv, qzI, qzJ, toA, ofA, FR.pop, abin, intBin, VN.at, VH.push, VH.set, qzl, VV.cells, ntV, qzO, xzs, xzx, ↓reduceIte, Option.getD_some, List.getElem?_cons_zero, List.getElem?_cons_succ, List.length_cons, List.length_nil, List.drop_succ_cons, List.drop_zero, List.take_succ_cons, List.take_zero, List.append_nil, List.nil_append, List.cons_append, List.head?_cons, Nat.reduceAdd, Nat.reduceMul, Nat.reduceDiv, Nat.reduceLT, Nat.reduceEqDiff, reduceCtorEq, Nat.reduceLeDiff, Nat.add_zero, Nat.zero_add, and_self, and_true, true_and, Bool.false_eq_true, decide_true, true_or, forall_const, false_implies, Bool.true_eq_false, reduceCtorEq, true_or, cCmd, wpW_append, appendV, appToV, t12, t13, t14, c, hlt, p1, p2, q0', e5]
      refine use_loop [e.paint.a] (by simp) _ _ (h.next + 1) (.exact 1) [] (by simp only [qza, ↓reduceIte, List.append_nil]; rfl) (nextUse n [e.paint.a]) _ ?_ ?_ 1 0 n _ rfl hn (by omega) rfl (fun _ _ _ _ _ => rfl) ?_ ?_ ?_ ?_
      · intro T' he' t2
        rw [he'] at hs
        simp only [qzR, xzc, xzw]
        exact hE _ _ hs (by simp only [t2])
      · intro T' r he' t3' hT'
        rw [he'] at hs
        have hr := next_mono _ _ _ he'
        simp only [List.length_cons, List.length_nil] at hr
        simp only [qzm, qzi, xza, xzp, xzh, qzf, qze, qzd, qzq, qzc, qzb, qzg, qzh, qzn, qzo, qzu, qza, qzt, qzw, qzy, cv, qzI, qzJ, toA, ofA, FR.pop, abin, intBin, ↓reduceIte, Nat.reduceEqDiff, hT' 14 (by omega) (by omega) (by omega) (by omega), t14, hw]
        refine ih (i + 1) r _ _ (by omega) (by omega) (by omega) hs ?_ ?_ ?_ ?_ ?_ ?_ ?_
        · simp only [qza, ↓reduceIte, Nat.reduceEqDiff, hT' 1 (by omega) (by omega) (by omega) (by omega), t1]
        · simp only [qza, ↓reduceIte, Nat.reduceEqDiff, t3']
        · simp only [qza, ↓reduceIte, Nat.reduceEqDiff, hT' 12 (by omega) (by omega) (by omega) (by omega), t12]
        · simp only [qza, ↓reduceIte, Nat.reduceEqDiff, hT' 13 (by omega) (by omega) (by omega) (by omega), t13]
        · simp only [qza, ↓reduceIte]
        · simp only [qza, ↓reduceIte, e0, e1, hb]
        · simp only []; omega
      all_goals first | (simp only [qza, ↓reduceIte, List.length_cons, List.length_nil, Nat.reduceEqDiff, Nat.zero_add, t3]; done) | (simp only [qza, ↓reduceIte]; rfl)
    · have q0 : (e.paint.kind == 0) = false := by simp [k0]
      have q0' : (e.paint.kind != 0) = true := by simp [k0]
      have us : usesOf e = [e.paint.a, e.paint.b] := by unfold usesOf; rw [if_neg k0]
      rw [us] at hs
      simp only [qzx, qzm, qzp, qzA, qzZ, qzs, qzj, qzi, xze, qzY, qzf, qze, qzd, qzq, qzG, xzd, qzK, qzz, qzc, qzk, qzC, qzb, qzQ, qzg, qzh, qzT, qzP, qzn, qzo, qzu, qza, qzt, qzw, qzy, qzL, xzm, xzn, qzM, qzF, xzi, xzr, qzS, qzU, xzg, yza, lenOfV, yze, qzE, cvs, cv, qzI, qzJ, toA, ofA, FR.pop, abin, intBin, VN.at, VH.push, VH.set, qzl, VV.cells, ntV, qzO, xzs, xzx, ↓reduceIte, Option.getD_some, List.getElem?_cons_zero, List.getElem?_cons_succ, List.length_cons, List.length_nil, List.drop_succ_cons, List.drop_zero, List.take_succ_cons, List.take_zero, List.append_nil, List.nil_append, List.cons_append, List.head?_cons, Nat.reduceAdd, Nat.reduceMul, Nat.reduceDiv, Nat.reduceLT, Nat.reduceEqDiff, reduceCtorEq, Nat.reduceLeDiff, Nat.add_zero, Nat.zero_add, and_self, and_true, decide_true, true_or, forall_const, false_implies, Bool.true_eq_false, reduceCtorEq, true_or, cCmd, wpW_append, appendV, appToV, t12, t13, t14, c, hlt, p1, p2, q0', e5, e6]
      refine use_loop [e.paint.a, e.paint.b] (by simp) _ _ (h.next + 1 + 1 + 1) (.toEnd 1) [] (by simp only [qza, ↓reduceIte, List.append_nil]; rfl) (nextUse n [e.paint.a, e.paint.b]) _ ?_ ?_ 2 0 n _ rfl hn (by omega) rfl (fun _ _ _ _ _ => rfl) ?_ ?_ ?_ ?_
      · intro T' he' t2
        rw [he'] at hs
        simp only [qzR, xzc, xzw]
        exact hE _ _ hs (by simp only [t2])
      · intro T' r he' t3' hT'
        rw [he'] at hs
        have hr := next_mono _ _ _ he'
        simp only [List.length_cons, List.length_nil] at hr
        simp only [qzm, qzi, xza, xzp, xzh, qzf, qze, qzd, qzq, qzc, qzb, qzg, qzh, qzn, qzo, qzu, qza, qzt, qzw, qzy, cv, qzI, qzJ, toA, ofA, FR.pop, abin, intBin, ↓reduceIte, Nat.reduceEqDiff, hT' 14 (by omega) (by omega) (by omega) (by omega), t14, hw]
        refine ih (i + 1) r _ _ (by omega) (by omega) (by omega) hs ?_ ?_ ?_ ?_ ?_ ?_ ?_
        · simp only [qza, ↓reduceIte, Nat.reduceEqDiff, hT' 1 (by omega) (by omega) (by omega) (by omega), t1]
        · simp only [qza, ↓reduceIte, Nat.reduceEqDiff, t3']
        · simp only [qza, ↓reduceIte, Nat.reduceEqDiff, hT' 12 (by omega) (by omega) (by omega) (by omega), t12]
        · simp only [qza, ↓reduceIte, Nat.reduceEqDiff, hT' 13 (by omega) (by omega) (by omega) (by omega), t13]
        · simp only [qza, ↓reduceIte]
        · simp only [qza, ↓reduceIte, e0, e1, e2, e3, hb]
        · simp only []; omega
      all_goals first | (simp only [qza, ↓reduceIte, List.length_cons, List.length_nil, Nat.reduceAdd, Nat.reduceEqDiff, Nat.zero_add, t3]; done) | (simp only [qza, ↓reduceIte]; rfl)
theorem once_drop {l seen : List Cl} {i : Nat} {c : Cl} (h : l[i]? = some c) : onceS seen (l.drop i) = if c ∈ seen then false else onceS (seen ++ [c]) (l.drop (i + 1)) := by rw [drop_at h]; rfl
theorem once_loop {Gl : xzy} (i0 : Icon) (hl : i0.colors.length < 1000000) (b : Nat) (r : Int) (K : AEx → VF → VH → Prop)
    (hE : ∀ T h, onceS [] i0.colors = false → qzr T 2 = some (.bool false) → K .ret T h)
    (hK : ∀ T h, onceS [] i0.colors = true → qzr T 3 = some (.int .i64 r) → qzr T 1 = some (.ptr b 0) → qzr h.l b = some (some (.cells (cIcon i0) false)) → K (.exit 4) T h) :
    ∀ (d i : Nat) (T : VF) (h : VH), d + i = i0.colors.length → onceS [] i0.colors = onceS (i0.colors.take i) (i0.colors.drop i) → qzr T 1 = some (.ptr b 0) → qzr T 3 = some (.int .i64 r) → qzr T 49 = some (.fsl (xzA cCl i0.colors) i0.colors.length 4) → qzr T 50 = some (.int .i64 i0.colors.length) → qzr T 51 = some (.int .i64 i) → qzr h.l b = some (some (.cells (cIcon i0) false)) → b < h.next →
    wp Go.VL.Er.E Gl (.loop c_icon_used_l0) T h K := by
  intro d
  induction d with
  | zero =>
    intro i T h hd hs t1 t3 t49 t50 t51 hb hx
    obtain rfl : i = i0.colors.length := by omega
    rw [List.drop_length] at hs
    refine xzo c_icon_used_l0.eq_1 ?_
    have c : ¬ ((i0.colors.length : Int) < i0.colors.length) := by omega
    simp only [qzx, qzm, qzp, qzA, qzZ, qzs, qzj, qzi, xze, qzY, qzf, qze, qzd, qzq, qzc, qzb, qzg, qzh, qzn, qzo, qzu, qza, qzt, qzw, qzy, qzI, qzJ, toA, ofA, FR.pop, abin, intBin, ↓reduceIte, Nat.reduceEqDiff, true_and, Bool.false_eq_true, decide_false, forall_const, false_implies, t50, t51, c]
    refine hK _ _ hs ?_ ?_ hb
    · simp only [qza, ↓reduceIte, Nat.reduceEqDiff, t3]
    · simp only [qza, ↓reduceIte, Nat.reduceEqDiff, t1]
  | succ d ih =>
    intro i T h hd hs t1 t3 t49 t50 t51 hb hx
    refine xzo c_icon_used_l0.eq_1 ?_
    have hlt : i < i0.colors.length := by omega
    have c : (i : Int) < i0.colors.length := by omega
    obtain ⟨e, he⟩ : ∃ e, i0.colors[i]? = some e := ⟨i0.colors[i], List.getElem?_eq_getElem hlt⟩
    have p1 := flat_le cCl_len he
    have p2 := flat_at cCl_len he
    have p3 := flatL_take cCl_len i i0.colors
    have hi : i ≤ i0.colors.length := by omega
    have ln : (i0.colors.take i).length = i := by rw [List.length_take]; omega
    have hw : IntKind.i64.wrap ((i : Int) + 1) = ((i + 1 : Nat) : Int) := by rw [xzj (by omega) (by omega)]; rfl
    have e0 : ¬ h.next = b := by omega
    have hco := contains_ok Gl e (i0.colors.take i) (by omega)
    rw [ln] at hco
    rw [once_drop he, ← take_at he] at hs
    have zi := xzx .i64 i
    simp only [qzx, qzm, xzM, qzp, qzA, qzZ, qzs, qzj, qzi, xze, qzY, qzf, qze, qzd, qzq, qzG, xzd, qzK, qzz, xzu, xzq, xzK, xzT, xzS, qzc, qzk, qzC, qzb, qzQ, qzg, qzh, qzT, xzz, xzE, qzP, qzB, qzn, qzo, qzu, qza, qzt, qzw, qzy, qzL, xzm, slV, yzc, qzM, qzF, xzi, qzS, qzU, xzg, qzE, cvs, cv, qzI, qzJ, toA, ofA, FR.pop, abin, intBin, VN.at, VH.push, VH.set, qzl, VV.cells, ntV, qzO, countN, xzI, xzQ, xzZ, xzH, xzO, yzf, yzd, xzs, ↓reduceIte, Option.getD_some, Option.isSome_some, List.getElem?_cons_zero, List.getElem?_cons_succ, List.length_cons, List.length_nil, List.drop_succ_cons, List.drop_zero, List.take_succ_cons, List.take_zero, List.append_nil, List.nil_append, List.contains_nil, List.head?_cons, Nat.reduceAdd, Nat.reduceEqDiff, Nat.reduceLeDiff, Nat.zero_add, and_self, and_true, true_and, Bool.and_self, Bool.not_false, decide_true, forall_const, false_implies, Bool.true_eq_false, cCl, cIcon, t1, t49, t50, t51, c, hlt, p1, p2, hb, e0, zi, hi, Nat.sub_zero, Nat.zero_mul, p3]
    refine xzb hco rfl rfl ?_
    by_cases g : e ∈ i0.colors.take i
    · have dg : decide (e ∈ i0.colors.take i) = true := decide_eq_true g
      rw [if_pos g] at hs
      simp only [qzx, qzm, qzp, qzD, qzs, qzj, qzi, qzR, xza, xzc, xzw, qzf, qze, qzd, qzq, xzN, xzP, qzc, qzb, qzg, qzh, qzn, qzo, qzu, qza, qzt, qzw, qzy, cv, ↓reduceIte, Option.map_some, List.append_nil, Nat.reduceEqDiff, and_true, forall_const, false_implies, Bool.true_eq_false, dg]
      exact hE _ _ hs (by simp only [qza, ↓reduceIte])
    · have dg : decide (e ∈ i0.colors.take i) = false := decide_eq_false g
      rw [if_neg g] at hs
      simp only [qzx, qzm, qzp, qzD, qzs, qzj, qzi, qzR, xza, xzc, xzh, xzw, qzf, qze, qzd, qzq, xzN, xzP, qzc, qzb, qzg, qzh, qzn, qzo, qzu, qza, qzt, qzw, qzy, cv, qzI, qzJ, toA, ofA, FR.pop, abin, intBin, ↓reduceIte, Option.map_some, List.append_nil, Nat.reduceEqDiff, true_and, Bool.false_eq_true, forall_const, false_implies, dg, t51, hw]
      refine ih (i + 1) _ _ (by omega) hs ?_ ?_ ?_ ?_ ?_ ?_ ?_
      · simp only [qza, ↓reduceIte, Nat.reduceEqDiff, t1]
      · simp only [qza, ↓reduceIte, Nat.reduceEqDiff, t3]
      · simp only [qza, ↓reduceIte, Nat.reduceEqDiff, t49]
      · simp only [qza, ↓reduceIte, Nat.reduceEqDiff, t50]
      · simp only [qza, ↓reduceIte]
      · simp only [qza, ↓reduceIte, cIcon, e0, hb]
      · simp only []; omega
theorem used_ok (Gl : xzy) (i : Icon) (hl : i.colors.length < 1000000) (hc : i.cmds.length < 1000000) : xzJ Go.VL.Er.E Gl f_icon_used [.agg (cIcon i)] (.bool (usedS i)) := by
  refine xzv (xzk E_icon_used ?_)
  unfold c_icon_used r_icon_used
  simp only [xzG]
  have hu : usedS i = match useAll 0 i.cmds with
    | none => false
    | some n => if onceS [] i.colors then decide (n = i.colors.length) else false := rfl
  simp only [qzm, qzp, qzA, qzi, qzf, qze, qzd, qzq, qzG, xzd, qzc, qzk, qzC, qzb, qzg, qzh, qzT, qzn, qzo, qzu, qza, qzt, qzw, qzy, qzL, xzn, qzM, qzF, xzi, xzU, qzE, cv, VN.at, VH.push, qzl, h0, VV.cells, ntV, ↓reduceIte, Option.getD_some, List.getElem?_cons_zero, List.getElem?_cons_succ, Nat.reduceEqDiff, Nat.zero_add, cIcon]
  refine uses_loop i.cmds hc 0 (.cells (cIcon i) false) (useAll 0 i.cmds) _ ?_ ?_ i.cmds.length 0 0 _ _ (by omega) (by omega) (by omega) rfl ?_ ?_ ?_ ?_ ?_ ?_ ?_
  · intro T h he t2
    rw [hu, he]
    simp only [qzR, xzc, qzH, qzW, qzN, qzX, qzV, t2]
    exact qzv rfl
  · intro T h r he t3 t1 hb hx
    rw [he] at hu
    simp only at hu
    simp only [qzm, qzp, qzA, qzi, xzp, qzf, qze, qzd, qzq, qzG, qzc, qzk, qzb, qzg, qzh, qzn, qzo, qzu, qza, qzt, qzw, qzy, qzL, xzn, qzM, qzF, qzE, cv, qzl, ↓reduceIte, Option.getD_some, List.getElem?_cons_zero, List.getElem?_cons_succ, Nat.zero_add, cIcon, t1, hb]
    refine once_loop i hl 0 r _ ?_ ?_ i.colors.length 0 _ _ (by omega) rfl ?_ ?_ ?_ ?_ ?_ ?_ ?_
    · intro T' h' ho t2
      rw [hu, ho]
      simp only [qzR, xzc, qzH, qzW, qzN, qzX, qzV, ↓reduceIte, Bool.false_eq_true, t2]
      exact qzv rfl
    · intro T' h' ho t3' t1' hb'
      rw [hu, ho]
      simp only [qzm, qzp, qzD, qzi, xzp, qzf, qze, qzd, qzq, qzG, qzH, qzc, qzk, qzb, qzg, qzh, qzn, qzo, qzu, qza, qzt, qzw, qzy, qzL, xzn, qzM, qzF, qzE, qzI, qzJ, toA, ofA, FR.pop, abin, intBin, qzl, qzW, qzN, qzX, qzV, ↓reduceIte, Option.getD_some, List.getElem?_cons_zero, List.getElem?_cons_succ, Nat.reduceEqDiff, Nat.zero_add, cIcon, t3', t1', hb']
      exact qzv rfl
    · simp only [qza, ↓reduceIte, Nat.reduceEqDiff, t1]
    · simp only [qza, ↓reduceIte, Nat.reduceEqDiff, t3]
    all_goals first | (simp only [qza, ↓reduceIte, Nat.reduceEqDiff, cIcon]; done) | (simp only [qza, ↓reduceIte, cIcon]; rfl) | exact hb | exact hx
  all_goals first | (simp only [qza, ↓reduceIte, Nat.reduceLT, Nat.reduceEqDiff, cIcon]; done) | (simp only [qza, ↓reduceIte]; rfl) | (simp only [qzx, qzm, xzM, qzp, qzA, qzZ, qzD, qzs, wpIf_true, wpIf_false, qzj, qzi, xze, qzR, xza, xzp, xzc, xzh, qzY, xzw, qzf, qze, qzd, xzf, qzq, qzG, xzd, qzK, qzz, xzN, xzu, xzq, wpXG_false, xzK, xzT, wpXA_n, xzS, xzP, Ends_n, qzH, qzc, qzk, qzC, qzb, qzQ, qzg, qzh, qzT, xzz, xzE, kXN_app, qzP, wpW_copy, wpW_mapUpd, wpW_mark, qzB, wpW_callV, qzn, qzo, qzu, qza, qzt, qzw, qzy, xzl, qzL, xzm, iAddrAV, fieldV, idxArrV, extV, mkIV, tAssV, xzn, lenArrV, xzX, slV, xzR, yzc, qzM, qzF, xzC, xzB, xzV, eqPV, eqSV, xzY, eqFV, eqMV, eqGV, inGl, xzF, eqBool, eqInt, eqStr, xzi, xzU, xzt, xzr, qzS, qzU, xzg, yza, lenOfV, yze, copyV, b2sV, s2bV, mkSliceV, qzE, cvs, cv, qzI, qzJ, toA, ofA, FR.pop, abin, aun, intBin, shiftBin, strBin, bnds, natOf, max2A, min2A, foldA, VN.at, VH.push, VH.set, VH.kill, VH.fix, VB.fix, qzl, h0, VV.cells, ntV, qzW, qzN, qzX, qzV, closedB, closedL, plainB, plainL, qzO, countN, xzI, lowB, fzB, fzL, xzQ, xzZ, xzH, xzO, yzf, yzd, xzs, nilCmp, xzx, yzb, capMost, capDrop, ↓reduceIte, Option.getD_some, Option.getD_none, Option.isSome_some, Option.map_some, Option.map_none, List.getElem?_cons_zero, List.getElem?_cons_succ, List.length_cons, List.length_nil, List.drop_succ_cons, List.drop_zero, List.take_succ_cons, List.take_zero, List.append_nil, List.nil_append, List.cons_append, List.contains_cons, List.contains_nil, List.head?_cons, Nat.reduceAdd, Nat.reduceMul, Nat.reduceSub, Nat.reduceDiv, Nat.reduceLT, Nat.reduceEqDiff, reduceCtorEq, Nat.reduceLeDiff, Nat.reduceBEq, Int.reduceEq, Int.reduceLT, Int.reduceLE, Int.reduceBEq, Int.reduceGT, Nat.add_zero, Nat.zero_add, and_self, and_true, true_and, and_false, false_and, not_true_eq_false, not_false_eq_true, Bool.and_self, Bool.and_true, Bool.true_and, Bool.and_false, Bool.or_false, Bool.true_or, Bool.or_true, Bool.false_or, Bool.not_false, Bool.not_true, Bool.false_eq_true, beq_self_eq_true, bne_self_eq_false, beq_true, beq_false, decide_true, decide_false, true_or, if_true, if_false, forall_const, false_implies, true_implies, Bool.true_eq_false, reduceCtorEq, true_or, cCl, erP, cSeg, cPath, cPaint, cCmd, cIcon, t_p_api_At, t_p_errors_errorString, g_ErrRange, g_ErrLimit, g_ErrCanon]; exact Nat.zero_lt_succ _)
end
end Go.VL.Ic
