/- Chapter 5: points. -/
import Derived.Test.YtbamfhdgikeneaaDoorIcB
import Derived.Test.YtbamfhdgikeneaaDoorPaA
namespace Go.VL.Ic
open Go.FR Go.IR Go.VL Go.VL.Er Go.VL.Color Go.VL.Wind
noncomputable section
set_option linter.unusedSimpArgs false
set_option linter.unusedVariables false
set_option maxRecDepth 100000
set_option maxHeartbeats 1000000

theorem sum_drop {α : Type} {f : α → Int} {l : List α} {i : Nat} {x : α} (h : l[i]? = some x) : sumS' f (l.drop i) = f x + sumS' f (l.drop (i + 1)) := by rw [drop_at h]; rfl
theorem sum_nn {α : Type} {f : α → Int} : ∀ {l : List α}, (∀ x ∈ l, 0 ≤ f x) → 0 ≤ sumS' f l
  | [], _ => Int.le_refl 0
  | x :: l, h => by
    have h1 := h x (.head _)
    have h2 := sum_nn (l := l) fun y hy => h y (.tail _ hy)
    simp only [sumS']; omega
theorem sum_le {α : Type} {f : α → Int} {c : Int} : ∀ {l : List α}, (∀ x ∈ l, f x ≤ c) → sumS' f l ≤ c * l.length
  | [], _ => by simp [sumS']
  | x :: l, h => by
    have h1 := h x (.head _)
    have h2 := sum_le (l := l) fun y hy => h y (.tail _ hy)
    simp only [sumS', List.length_cons, Int.natCast_add, Int.natCast_one, Int.mul_add]; omega
theorem points0 {Gl : xzB} (l : List Seg) (hl : l.length < 1000000) (hk : ∀ s ∈ l, 0 ≤ s.kind) (r : Int) (hr : r ≤ 2 ^ 62) (T0 : VF) (K : AEx → VF → VH → Prop)
    (hK : ∀ T h, qzA T 3 = some (.int .i64 r) → (∀ k, k < 27 → k ≠ 3 → k ≠ 9 → qzA T k = qzA T0 k) → K (.exit 4) T h) :
    ∀ (d i : Nat) (n : Int) (T : VF) (h : VH), d + i = l.length → 0 ≤ n → n + sumS' (fun s => s.kind) (l.drop i) = r → (∀ k, k < 27 → k ≠ 3 → k ≠ 9 → qzA T k = qzA T0 k) → qzA T 3 = some (.int .i64 n) → qzA T 27 = some (.fsl (xzP cSeg l) l.length 7) → qzA T 28 = some (.int .i64 l.length) → qzA T 29 = some (.int .i64 i) →
    wp Go.VL.Er.E Gl (.loop c_icon_Points_l0) T h K := by
  intro d
  induction d with
  | zero =>
    intro i n T h hd hn hs hT t3 t27 t28 t29
    obtain rfl : i = l.length := by omega
    rw [List.drop_length, show sumS' (fun s : Seg => s.kind) [] = 0 from rfl, Int.add_zero] at hs
    subst hs
    refine xzy c_icon_Points_l0.eq_1 ?_
    have c : ¬ ((l.length : Int) < l.length) := by omega
    simp only [qzz, qzp, qzq, qzF, xzg, qzw, qzn, qzj, xzm, xzh, qzf, qzd, qze, qzo, qzc, qzb, qzg, qzh, qzk, qzl, qzs, qza, qzt, qzv, qzL, qzK, toA, ofA, FR.pop, abin, intBin, ↓reduceIte, Nat.reduceEqDiff, true_and, Bool.false_eq_true, decide_false, forall_const, false_implies, t28, t29, c]
    refine hK _ _ ?_ ?_
    · simp only [qza, ↓reduceIte, Nat.reduceEqDiff, t3]
    · intro k h1 h2 h3
      simp only [qza]
      (repeat rw [if_neg (by omega)])
      exact hT k h1 h2 h3
  | succ d ih =>
    intro i n T h hd hn hs hT t3 t27 t28 t29
    refine xzy c_icon_Points_l0.eq_1 ?_
    have hlt : i < l.length := by omega
    have c : (i : Int) < l.length := by omega
    obtain ⟨e, he⟩ : ∃ e, l[i]? = some e := ⟨l[i], List.getElem?_eq_getElem hlt⟩
    have hke := hk e (List.mem_of_getElem? he)
    have p1 := flat_le cSeg_len he
    have p2 := flat_at cSeg_len he
    rw [sum_drop he] at hs
    have hnn : 0 ≤ sumS' (fun s => s.kind) (l.drop (i + 1)) := sum_nn fun y hy => hk y (List.mem_of_mem_drop hy)
    have hw : IntKind.i64.wrap ((i : Int) + 1) = ((i + 1 : Nat) : Int) := by rw [xzl (by omega) (by omega)]; rfl
    have hw2 : IntKind.i64.wrap (n + e.kind) = n + e.kind := xzl (by omega) (by omega)
    simp only [qzz, qzp, qzq, qzF, xzg, qzw, qzn, qzj, xzm, qzZ, xzt, xzh, qzf, qzd, qze, qzo, qzG, xzc, qzJ, qzu, qzc, qzm, qzH, qzb, qzP, qzg, qzh, qzY, qzO, qzk, qzl, qzs, qza, qzt, qzv, qzy, qzI, xzf, qzN, qzD, xzk, qzS, qzR, xza, qzE, cvs, cv, qzL, qzK, toA, ofA, FR.pop, abin, intBin, VN.at, VH.push, VH.set, qzi, VV.cells, ntV, qzQ, xzp, xzO, ↓reduceIte, Option.getD_some, List.getElem?_cons_zero, List.length_cons, List.length_nil, List.drop_succ_cons, List.drop_zero, List.take_zero, List.append_nil, List.nil_append, List.head?_cons, Nat.reduceAdd, Nat.reduceEqDiff, Nat.reduceLeDiff, Nat.add_zero, Nat.zero_add, and_self, and_true, decide_true, forall_const, false_implies, Bool.true_eq_false, cSeg, t3, t27, t28, t29, c, hlt, p1, p2, hw, hw2]
    refine ih (i + 1) (n + e.kind) _ _ (by omega) (by omega) (by omega) ?_ ?_ ?_ ?_ ?_
    · intro k h1 h2 h3
      simp only [qza]
      (repeat rw [if_neg (by omega)])
      exact hT k h1 h2 h3
    · simp only [qza, ↓reduceIte, Nat.reduceEqDiff]
    · simp only [qza, ↓reduceIte, Nat.reduceEqDiff, t27]
    · simp only [qza, ↓reduceIte, Nat.reduceEqDiff, t28]
    · simp only [qza, ↓reduceIte]
def pathPts (p : Path) : Int := 1 + sumS' (fun s => s.kind) p.segs
theorem points1 {Gl : xzB} (l : List Path) (hl : l.length < 1000000) (hk : ∀ p ∈ l, p.segs.length < 1000000 ∧ ∀ s ∈ p.segs, 0 ≤ s.kind) (r : Int) (hr : r ≤ 2 ^ 62) (T0 : VF) (K : AEx → VF → VH → Prop)
    (hK : ∀ T h, qzA T 3 = some (.int .i64 r) → (∀ k, k < 18 → k ≠ 3 → k ≠ 7 → k ≠ 9 → qzA T k = qzA T0 k) → K (.exit 2) T h) :
    ∀ (d i : Nat) (n : Int) (T : VF) (h : VH), d + i = l.length → 0 ≤ n → n + sumS' pathPts (l.drop i) = r → (∀ k, k < 18 → k ≠ 3 → k ≠ 7 → k ≠ 9 → qzA T k = qzA T0 k) → qzA T 3 = some (.int .i64 n) → qzA T 18 = some (.fsl (xzP cPath l) l.length 4) → qzA T 19 = some (.int .i64 l.length) → qzA T 20 = some (.int .i64 i) →
    wp Go.VL.Er.E Gl (.loop c_icon_Points_l1) T h K := by
  intro d
  induction d with
  | zero =>
    intro i n T h hd hn hs hT t3 t18 t19 t20
    obtain rfl : i = l.length := by omega
    rw [List.drop_length, show sumS' pathPts [] = 0 from rfl, Int.add_zero] at hs
    subst hs
    refine xzy c_icon_Points_l1.eq_1 ?_
    have c : ¬ ((l.length : Int) < l.length) := by omega
    simp only [qzz, qzp, qzq, qzF, xzg, qzw, qzn, qzj, xzm, xzh, qzf, qzd, qze, qzo, qzc, qzb, qzg, qzh, qzk, qzl, qzs, qza, qzt, qzv, qzL, qzK, toA, ofA, FR.pop, abin, intBin, ↓reduceIte, Nat.reduceEqDiff, true_and, Bool.false_eq_true, decide_false, forall_const, false_implies, t19, t20, c]
    refine hK _ _ ?_ ?_
    · simp only [qza, ↓reduceIte, Nat.reduceEqDiff, t3]
    · intro k h1 h2 h3 h4
      simp only [qza]
      (repeat rw [if_neg (by omega)])
      exact hT k h1 h2 h3 h4
  | succ d ih =>
    intro i n T h hd hn hs hT t3 t18 t19 t20
    refine xzy c_icon_Points_l1.eq_1 ?_
    have hlt : i < l.length := by omega
    have c : (i : Int) < l.length := by omega
    obtain ⟨e, he⟩ : ∃ e, l[i]? = some e := ⟨l[i], List.getElem?_eq_getElem hlt⟩
    have hke := hk e (List.mem_of_getElem? he)
    have p1 := flat_le cPath_len he
    have p2 := flat_at cPath_len he
    rw [sum_drop he] at hs
    have hpp : ∀ p : Path, (∀ s ∈ p.segs, 0 ≤ s.kind) → 0 ≤ pathPts p := fun p hp => by
      have := sum_nn (f := fun s : Seg => s.kind) (l := p.segs) hp
      unfold pathPts; omega
    have hnn : 0 ≤ sumS' pathPts (l.drop (i + 1)) := sum_nn fun y hy => hpp y (hk y (List.mem_of_mem_drop hy)).2
    have hnn2 : 0 ≤ sumS' (fun s => s.kind) e.segs := sum_nn hke.2
    have hw : IntKind.i64.wrap ((i : Int) + 1) = ((i + 1 : Nat) : Int) := by rw [xzl (by omega) (by omega)]; rfl
    have pe : pathPts e = 1 + sumS' (fun s => s.kind) e.segs := rfl
    have hw2 : IntKind.i64.wrap (n + 1) = n + 1 := xzl (by omega) (by omega)
    simp only [qzz, qzp, qzq, qzF, xzg, qzw, qzn, qzj, xzm, xzh, qzf, qzd, qze, qzo, qzG, xzc, qzJ, qzu, qzc, qzm, qzH, qzb, qzP, qzg, qzh, qzY, qzO, qzk, qzl, qzs, qza, qzt, qzv, qzy, qzI, xzf, xzr, qzN, qzD, xzk, qzS, qzR, xza, qzE, cvs, cv, qzL, qzK, toA, ofA, FR.pop, abin, intBin, VN.at, VH.push, VH.set, qzi, VV.cells, ntV, qzQ, xzp, xzO, ↓reduceIte, Option.getD_some, List.getElem?_cons_zero, List.getElem?_cons_succ, List.length_cons, List.length_nil, List.drop_succ_cons, List.drop_zero, List.take_zero, List.append_nil, List.nil_append, List.head?_cons, Nat.reduceAdd, Nat.reduceEqDiff, Nat.reduceLeDiff, Nat.zero_add, and_self, and_true, decide_true, forall_const, false_implies, Bool.true_eq_false, cPath, t3, t18, t19, t20, c, hlt, p1, p2, hw2]
    refine points0 e.segs hke.1 hke.2 (n + pathPts e) (by omega) _ _ ?_ e.segs.length 0 (n + 1) _ _ (by omega) (by omega) (by simp only [List.drop_zero]; omega) (fun _ _ _ _ => rfl) ?_ ?_ ?_ ?_
    · intro T' h' t3' hT'
      simp only [qzp, qzj, qzZ, xzD, xzt, qzf, qzd, qze, qzo, qzc, qzb, qzg, qzh, qzk, qzl, qzs, qza, qzt, qzv, qzy, cv, qzL, qzK, toA, ofA, FR.pop, abin, intBin, ↓reduceIte, Nat.reduceEqDiff, t20, hw, (hT' 20 (by omega) (by omega) (by omega))]
      refine ih (i + 1) (n + pathPts e) _ _ (by omega) (by have := hpp e hke.2; omega) (by omega) ?_ ?_ ?_ ?_ ?_
      · intro k h1 h2 h3 h4
        simp only [qza]
        (repeat rw [if_neg (by omega)])
        rw [hT' k (by omega) h2 h4]
        simp only [qza]
        (repeat rw [if_neg (by omega)])
        exact hT k h1 h2 h3 h4
      · simp only [qza, ↓reduceIte, Nat.reduceEqDiff, t3']
      · simp only [qza, ↓reduceIte, Nat.reduceEqDiff, hT' 18 (by omega) (by omega) (by omega), t18]
      · simp only [qza, ↓reduceIte, Nat.reduceEqDiff, hT' 19 (by omega) (by omega) (by omega), t19]
      · simp only [qza, ↓reduceIte]
    all_goals simp only [qza, ↓reduceIte, Nat.reduceEqDiff]
    all_goals rfl
theorem points_loop {Gl : xzB} (l : List Cmd) (hl : l.length < 1000000) (hk : ∀ c ∈ l, c.paths.length < 1000000 ∧ ∀ p ∈ c.paths, p.segs.length < 1000000 ∧ ∀ s ∈ p.segs, 0 ≤ s.kind) (r : Int) (hr : r ≤ 2 ^ 62) (K : AEx → VF → VH → Prop)
    (hK : ∀ T h, qzA T 3 = some (.int .i64 r) → K (.exit 0) T h) :
    ∀ (d i : Nat) (n : Int) (T : VF) (h : VH), d + i = l.length → 0 ≤ n → n + sumS' (fun c => sumS' pathPts c.paths) (l.drop i) = r → qzA T 3 = some (.int .i64 n) → qzA T 11 = some (.fsl (xzP cCmd l) l.length 11) → qzA T 12 = some (.int .i64 l.length) → qzA T 13 = some (.int .i64 i) →
    wp Go.VL.Er.E Gl (.loop c_icon_Points_l2) T h K := by
  intro d
  induction d with
  | zero =>
    intro i n T h hd hn hs t3 t18 t19 t20
    obtain rfl : i = l.length := by omega
    rw [List.drop_length, show sumS' (fun c : Cmd => sumS' pathPts c.paths) [] = 0 from rfl, Int.add_zero] at hs
    subst hs
    refine xzy c_icon_Points_l2.eq_1 ?_
    have c : ¬ ((l.length : Int) < l.length) := by omega
    simp only [qzz, qzp, qzq, qzF, xzg, qzw, qzn, qzj, xzm, xzh, qzf, qzd, qze, qzo, qzc, qzb, qzg, qzh, qzk, qzl, qzs, qza, qzt, qzv, qzL, qzK, toA, ofA, FR.pop, abin, intBin, ↓reduceIte, Nat.reduceEqDiff, true_and, Bool.false_eq_true, decide_false, forall_const, false_implies, t19, t20, c]
    refine hK _ _ ?_
    simp only [qza, ↓reduceIte, Nat.reduceEqDiff, t3]
  | succ d ih =>
    intro i n T h hd hn hs t3 t11 t12 t13
    refine xzy c_icon_Points_l2.eq_1 ?_
    have hlt : i < l.length := by omega
    have c : (i : Int) < l.length := by omega
    obtain ⟨e, he⟩ : ∃ e, l[i]? = some e := ⟨l[i], List.getElem?_eq_getElem hlt⟩
    have hke := hk e (List.mem_of_getElem? he)
    have p1 := flat_le cCmd_len he
    have p2 := flat_at cCmd_len he
    rw [sum_drop he] at hs
    have hpp : ∀ p : Path, (∀ s ∈ p.segs, 0 ≤ s.kind) → 0 ≤ pathPts p := fun p hp => by
      have := sum_nn (f := fun s : Seg => s.kind) (l := p.segs) hp
      unfold pathPts; omega
    have hcc : ∀ c ∈ l, 0 ≤ sumS' pathPts c.paths := fun c hc => sum_nn fun p hp => hpp p ((hk c hc).2 p hp).2
    have hnn : 0 ≤ sumS' (fun c => sumS' pathPts c.paths) (l.drop (i + 1)) := sum_nn fun y hy => hcc y (List.mem_of_mem_drop hy)
    have hnn2 := hcc e (List.mem_of_getElem? he)
    have hw : IntKind.i64.wrap ((i : Int) + 1) = ((i + 1 : Nat) : Int) := by rw [xzl (by omega) (by omega)]; rfl
    simp only [qzz, qzp, qzq, qzF, xzg, qzw, qzn, qzj, xzm, xzh, qzf, qzd, qze, qzo, qzG, xzc, qzJ, qzu, qzc, qzm, qzH, qzb, qzP, qzg, qzh, qzY, qzO, qzk, qzl, qzs, qza, qzt, qzv, qzy, qzI, xzf, xzr, qzN, qzD, xzk, qzS, qzR, xza, qzE, cvs, cv, qzL, qzK, toA, ofA, FR.pop, abin, intBin, VN.at, VH.push, VH.set, qzi, VV.cells, ntV, qzQ, xzp, xzO, ↓reduceIte, Option.getD_some, List.getElem?_cons_zero, List.getElem?_cons_succ, List.length_cons, List.length_nil, List.drop_succ_cons, List.drop_zero, List.take_zero, List.append_nil, List.nil_append, List.head?_cons, Nat.reduceAdd, Nat.reduceEqDiff, Nat.reduceLeDiff, Nat.zero_add, and_self, and_true, decide_true, forall_const, false_implies, Bool.true_eq_false, cCmd, t11, t12, t13, c, hlt, p1, p2]
    refine points1 e.paths hke.1 hke.2 (n + sumS' pathPts e.paths) (by omega) _ _ ?_ e.paths.length 0 n _ _ (by omega) (by omega) (by simp only [List.drop_zero]) (fun _ _ _ _ _ => rfl) ?_ ?_ ?_ ?_
    · intro T' h' t3' hT'
      simp only [qzp, qzj, qzZ, xzD, xzt, qzf, qzd, qze, qzo, qzc, qzb, qzg, qzh, qzk, qzl, qzs, qza, qzt, qzv, qzy, cv, qzL, qzK, toA, ofA, FR.pop, abin, intBin, ↓reduceIte, Nat.reduceEqDiff, t13, hw, (hT' 13 (by omega) (by omega) (by omega) (by omega))]
      refine ih (i + 1) (n + sumS' pathPts e.paths) _ _ (by omega) (by omega) (by omega) ?_ ?_ ?_ ?_
      · simp only [qza, ↓reduceIte, Nat.reduceEqDiff, t3']
      · simp only [qza, ↓reduceIte, Nat.reduceEqDiff, hT' 11 (by omega) (by omega) (by omega) (by omega), t11]
      · simp only [qza, ↓reduceIte, Nat.reduceEqDiff, hT' 12 (by omega) (by omega) (by omega) (by omega), t12]
      · simp only [qza, ↓reduceIte]
    · simp only [qza, ↓reduceIte, Nat.reduceEqDiff, t3]
    all_goals simp only [qza, ↓reduceIte, Nat.reduceEqDiff]
    all_goals rfl
theorem points_ok (Gl : xzB) (i : Icon) (hl : i.cmds.length < 1000000) (hk : ∀ c ∈ i.cmds, c.paths.length < 1000000 ∧ ∀ p ∈ c.paths, p.segs.length < 1000000 ∧ ∀ s ∈ p.segs, 0 ≤ s.kind) (hr : pointsS i ≤ 2 ^ 62) : xzS Go.VL.Er.E Gl f_icon_Points [.agg (cIcon i)] (.int .i64 (pointsS i)) := by
  refine xzu (xzj E_icon_Points ?_)
  unfold c_icon_Points r_icon_Points
  simp only [xzQ]
  simp only [qzp, qzq, qzF, qzj, qzf, qzd, qze, qzo, qzG, xzc, qzc, qzm, qzH, qzb, qzg, qzh, qzY, qzk, qzl, qzs, qza, qzt, qzv, qzy, qzI, xzr, qzN, qzD, xzk, yzc, qzE, cv, VN.at, VH.push, qzi, h0, VV.cells, ntV, ↓reduceIte, Option.getD_some, List.getElem?_cons_zero, List.getElem?_cons_succ, Nat.reduceEqDiff, Nat.zero_add, cIcon]
  refine points_loop i.cmds hl hk (pointsS i) hr _ ?_ i.cmds.length 0 0 _ _ (by omega) (by omega) (by simp only [List.drop_zero, Int.zero_add]; rfl) ?_ ?_ ?_ ?_
  · intro T h t3
    simp only [qzp, qzq, qzB, qzj, xzD, qzf, qzd, qze, qzo, qzC, qzc, qzb, qzg, qzh, qzk, qzl, qzs, qza, qzt, qzv, qzy, qzW, qzM, qzX, qzV, ↓reduceIte, t3]
    exact qzx rfl
  all_goals simp only [qza, ↓reduceIte, Nat.reduceEqDiff]
  all_goals rfl
end
end Go.VL.Ic
