import Derived.Test.YtbamfhdgikeneaaDoorWiA
import Derived.Test.YtbamfhdgikeneaaDoorIcB
/- Chapter 16: palettes. -/
namespace Go.VL.Pal
open Go.FR Go.IR Go.VL Go.VL.Color
noncomputable section
set_option linter.unusedSimpArgs false
set_option linter.unusedVariables false
set_option maxRecDepth 100000
set_option maxHeartbeats 1000000
abbrev E := lookE envL
theorem cCl_len (c : Cl) : (cCl c).length = 4 := rfl
def idxS : List Cl → Cl → Nat → Int
  | [], _, _ => -1
  | x :: l, c, k => if c = x then k else idxS l c (k + 1)

theorem index_loop (Gl : xzt) (c : Cl) (l : List Cl) (hl : l.length < 1000000) (r : Int) (K : AEx → VF → VH → Prop)
    (hK0 : ∀ T h, r = -1 → K (.exit 0) T h) (hK1 : ∀ T h, qzw T 4 = some (.int .i64 r) → K .ret T h) :
    ∀ (d i : Nat) (T : VF) (h : VH), d + i = l.length → idxS (l.drop i) c i = r → qzw T 0 = some (.fsl (xzk cCl l) l.length 4) → qzw T 3 = some (.ptr 0 0) → qzw T 7 = some (.int .i64 l.length) → qzw T 8 = some (.int .i64 i) → qzw h.l 0 = some (some (.cells (cCl c) false)) →
      wp E Gl (.loop c_slices_Index__api_Color_api_Color_l0) T h K := by
  intro d
  induction d with
  | zero =>
    intro i T h hd hr t0 t3 t7 t8 h0'
    obtain rfl : i = l.length := by omega
    refine xzn c_slices_Index__api_Color_api_Color_l0.eq_1 ?_
    simp only [qzz, qzk, xzM, qzo, qzC, qzV, qzv, qzn, qzi, xzd, qzU, qzf, qze, qzd, qzp, xzr, xzp, xzT, qzc, qzb, qzg, qzh, xzx, qzl, qzm, qzt, qza, qzs, qzu, qzx, qzL, qzB, qzA, qzI, qzJ, toA, ofA, FR.pop, abin, intBin, qzq, countN, xzK, xzS, xzV, xzL, xzU, xzX, xzY, ↓reduceIte, List.drop_zero, List.append_nil, List.contains_nil, Nat.reduceEqDiff, Nat.zero_add, and_true, true_and, Bool.and_self, Bool.and_true, Bool.not_false, Bool.false_eq_true, decide_false, forall_const, false_implies, t3, t7, t8, Int.lt_irrefl]
    refine hK0 _ _ ?_
    rw [← hr, List.drop_length]; rfl
  | succ d ih =>
    intro i T h hd hr t0 t3 t7 t8 h0'
    refine xzn c_slices_Index__api_Color_api_Color_l0.eq_1 ?_
    have hlt : i < l.length := by omega
    have c1 : (i : Int) < l.length := by omega
    obtain ⟨x, hx⟩ : ∃ x, l[i]? = some x := ⟨l[i], List.getElem?_eq_getElem hlt⟩
    have p1 := flat_le cCl_len hx
    have p2 := flat_at cCl_len hx
    have w : IntKind.i64.wrap ((i : Int) + 1) = ((i + 1 : Nat) : Int) := by rw [qzY (by omega) (by omega)]; rfl
    rw [drop_at hx, idxS] at hr
    have b : ∀ x y : Nat, ((x : Int) == (y : Int)) = decide (x = y) := fun x y => by
      by_cases e : x = y <;> simp [e] <;> omega
    by_cases e : c = x
    · rw [if_pos e] at hr
      subst e
      simp only [qzz, qzk, xzM, qzo, qzC, qzV, qzH, qzv, qzn, qzi, xzd, qzR, xzc, xze, xzm, qzU, xzA, qzf, qze, qzd, qzp, xzO, xzr, xzp, xzD, xzT, qzc, qzj, qzb, qzg, qzh, xzx, xzy, qzl, qzm, qzt, qza, qzs, qzu, qzx, xzo, qzL, qzB, xzI, xzJ, xzW, xzR, eqInt, qzA, cv, qzI, qzJ, toA, ofA, FR.pop, abin, intBin, qzq, countN, xzK, xzS, xzV, xzL, xzU, xzX, xzY, xzs, ↓reduceIte, Option.getD_some, Option.isSome_some, List.getElem?_cons_zero, List.getElem?_cons_succ, List.length_cons, List.length_nil, List.drop_zero, List.take_succ_cons, List.take_zero, List.append_nil, List.contains_nil, Nat.reduceAdd, Nat.reduceEqDiff, reduceCtorEq, Nat.reduceLeDiff, Nat.zero_add, and_self, and_true, true_and, Bool.and_self, Bool.not_false, Bool.false_eq_true, beq_self_eq_true, decide_true, forall_const, false_implies, Bool.true_eq_false, reduceCtorEq, cCl, t0, t3, t7, t8, c1, hlt, p1, p2, h0']
      refine hK1 _ _ ?_
      simp only [qza, ↓reduceIte, hr]
    · rw [if_neg e] at hr
      have ne : ¬ (c.r = x.r ∧ c.g = x.g ∧ c.b = x.b ∧ c.a = x.a) := fun h => e (by cases c; cases x; simp at h; simp [h])
      by_cases e1 : c.r = x.r <;> by_cases e2 : c.g = x.g <;> by_cases e3 : c.b = x.b <;> by_cases e4 : c.a = x.a
      · exact absurd ⟨e1, e2, e3, e4⟩ ne
      all_goals
        simp only [qzz, qzk, xzM, qzo, qzC, qzV, qzH, qzv, qzn, qzi, xzd, qzR, xzc, xze, xzm, qzU, xzA, qzf, qze, qzd, qzp, xzO, xzr, xzp, xzD, xzT, qzc, qzj, qzb, qzg, qzh, xzx, xzy, qzl, qzm, qzt, qza, qzs, qzu, qzx, xzo, qzL, qzB, xzI, xzJ, xzW, xzR, eqInt, qzA, cv, qzI, qzJ, toA, ofA, FR.pop, abin, intBin, qzq, countN, xzK, xzS, xzV, xzL, xzU, xzX, xzY, xzs, ↓reduceIte, Option.getD_some, Option.isSome_some, List.getElem?_cons_zero, List.getElem?_cons_succ, List.length_cons, List.length_nil, List.drop_zero, List.take_succ_cons, List.take_zero, List.append_nil, List.contains_nil, Nat.reduceAdd, Nat.reduceEqDiff, reduceCtorEq, Nat.reduceLeDiff, Nat.zero_add, and_self, and_true, true_and, Bool.and_self, Bool.not_false, Bool.false_eq_true, beq_self_eq_true, decide_true, decide_false, forall_const, false_implies, Bool.true_eq_false, reduceCtorEq, cCl, t0, t3, t7, t8, c1, hlt, p1, p2, h0', b, e1, e2, e3, e4, w]
        refine ih (i + 1) _ _ (by omega) hr ?_ ?_ ?_ ?_ h0'
        · simp only [qza, ↓reduceIte, reduceCtorEq, reduceCtorEq, t0]
        · simp only [qza, ↓reduceIte, Nat.reduceEqDiff, t3]
        · simp only [qza, ↓reduceIte, Nat.reduceEqDiff, t7]
        · simp only [qza, ↓reduceIte]

theorem index_ok (Gl : xzt) (c : Cl) (l : List Cl) (hl : l.length < 1000000) : xzH E Gl f_slices_Index__api_Color_api_Color [.fsl (xzk cCl l) l.length 4, .agg (cCl c)] (.int .i64 (idxS l c 0)) := by
  refine xzw (xzf E_slices_Index__api_Color_api_Color ?_)
  unfold c_slices_Index__api_Color_api_Color r_slices_Index__api_Color_api_Color
  simp only [xzB]
  simp only [qzk, qzo, qzC, qzi, qzf, qze, qzd, qzp, qzX, qzc, qzE, qzb, qzg, qzh, qzO, qzl, qzm, qzt, qza, qzs, qzu, qzx, xzi, xzh, xzF, cv, VN.at, VH.push, h0, VV.cells, ntV, ↓reduceIte, reduceCtorEq, Nat.zero_add, reduceCtorEq, cCl]
  refine index_loop Gl c l hl (idxS l c 0) _ ?_ ?_ l.length 0 _ _ (by omega) rfl ?_ ?_ ?_ ?_ ?_
  · intro T h e
    simp only [qzk, qzo, qzH, qzi, xzu, qzf, qze, qzd, qzp, qzK, qzc, qzb, qzg, qzh, qzl, qzm, qzt, qza, qzs, qzu, qzx, cv, qzQ, qzM, qzT, qzP, ↓reduceIte, e]
    exact qzr rfl
  · intro T h t4
    simp only [qzR, xze, qzK, qzQ, qzM, qzT, qzP, t4]
    exact qzr rfl
  all_goals simp only [qza, ↓reduceIte, Nat.reduceEqDiff, reduceCtorEq, reduceCtorEq, cCl]
  rfl

theorem wpW_app0 {E : Env} {Gl : xzt} {h : VH} {K : VV → VH → Option (List Nat × Bool) → Prop} {esz eb n : Nat} {v x : VV} {cs : List VV} (hs : srcV h esz x = some (0, cs)) (hn : lenOfV v = some n) (hk : K v h (some (xzz (some v), true))) : wpW E Gl (.append esz eb) [v, x] h K := by
  rw [wpW_append]
  simp only [appendV, hs, hn, optW]
  exact hk
/-- What a call leaves of the caller's blocks, but one list. -/
def Fr (h h' : VH) : Prop := (∀ k, k < h.next → qzw h'.l k = qzw h.l k) ∧ h.next ≤ h'.next

def addL (l : List Cl) (c : Cl) : List Cl := if 0 ≤ idxS l c 0 then l else if 256 ≤ l.length then l else l ++ [c]
def addK (l : List Cl) (c : Cl) : Int := if 0 ≤ idxS l c 0 then idxS l c 0 else if 256 ≤ l.length then -1 else l.length
def addB (l : List Cl) (c : Cl) : Bool := if 0 ≤ idxS l c 0 then true else if 256 ≤ l.length then false else true

end
end Go.VL.Pal

/- Chapter 5: points. -/
namespace Go.VL.Ic
open Go.FR Go.IR Go.VL Go.VL.Er Go.VL.Color Go.VL.Wind
noncomputable section
set_option linter.unusedSimpArgs false
set_option linter.unusedVariables false
set_option maxRecDepth 100000
set_option maxHeartbeats 1000000

theorem sum_drop {α : Type} {f : α → Int} {l : List α} {i : Nat} {x : α} (h : l[i]? = some x) : sumS' f (l.drop i) = f x + sumS' f (l.drop (i + 1)) := by rw [drop_at h]; rfl
theorem sum_nn {α : Type} {f : α → Int} : ∀ {l : List α}, (∀ x ∈ l, 0 ≤ f x) → 0 ≤ sumS' f l
  | [], _ => Int.le_refl 0
  | x :: l, h => by
    have h1 := h x (.head _)
    have h2 := sum_nn (l := l) fun y hy => h y (.tail _ hy)
    simp only [sumS']; omega
theorem sum_le {α : Type} {f : α → Int} {c : Int} : ∀ {l : List α}, (∀ x ∈ l, f x ≤ c) → sumS' f l ≤ c * l.length
  | [], _ => by simp [sumS']
  | x :: l, h => by
    have h1 := h x (.head _)
    have h2 := sum_le (l := l) fun y hy => h y (.tail _ hy)
    simp only [sumS', List.length_cons, Int.natCast_add, Int.natCast_one, Int.mul_add]; omega
theorem points0 {Gl : xzt} (l : List Seg) (hl : l.length < 1000000) (hk : ∀ s ∈ l, 0 ≤ s.kind) (r : Int) (hr : r ≤ 2 ^ 62) (T0 : VF) (K : AEx → VF → VH → Prop)
    (hK : ∀ T h, qzw T 3 = some (.int .i64 r) → (∀ k, k < 27 → k ≠ 3 → k ≠ 9 → qzw T k = qzw T0 k) → K (.exit 4) T h) :
    ∀ (d i : Nat) (n : Int) (T : VF) (h : VH), d + i = l.length → 0 ≤ n → n + sumS' (fun s => s.kind) (l.drop i) = r → (∀ k, k < 27 → k ≠ 3 → k ≠ 9 → qzw T k = qzw T0 k) → qzw T 3 = some (.int .i64 n) → qzw T 27 = some (.fsl (xzk cSeg l) l.length 7) → qzw T 28 = some (.int .i64 l.length) → qzw T 29 = some (.int .i64 i) →
    wp Go.VL.Er.E Gl (.loop c_icon_Points_l0) T h K := by
  intro d
  induction d with
  | zero =>
    intro i n T h hd hn hs hT t3 t27 t28 t29
    obtain rfl : i = l.length := by omega
    rw [List.drop_length, show sumS' (fun s : Seg => s.kind) [] = 0 from rfl, Int.add_zero] at hs
    subst hs
    refine xzn c_icon_Points_l0.eq_1 ?_
    have c : ¬ ((l.length : Int) < l.length) := by omega
    simp only [qzz, qzk, qzo, qzC, qzV, qzv, qzn, qzi, xzd, qzU, qzf, qze, qzd, qzp, qzc, qzb, qzg, qzh, qzl, qzm, qzt, qza, qzs, qzu, qzI, qzJ, toA, ofA, FR.pop, abin, intBin, ↓reduceIte, Nat.reduceEqDiff, true_and, Bool.false_eq_true, decide_false, forall_const, false_implies, t28, t29, c]
    refine hK _ _ ?_ ?_
    · simp only [qza, ↓reduceIte, Nat.reduceEqDiff, t3]
    · intro k h1 h2 h3
      simp only [qza]
      (repeat rw [if_neg (by omega)])
      exact hT k h1 h2 h3
  | succ d ih =>
    intro i n T h hd hn hs hT t3 t27 t28 t29
    refine xzn c_icon_Points_l0.eq_1 ?_
    have hlt : i < l.length := by omega
    have c : (i : Int) < l.length := by omega
    obtain ⟨e, he⟩ : ∃ e, l[i]? = some e := ⟨l[i], List.getElem?_eq_getElem hlt⟩
    have hke := hk e (List.mem_of_getElem? he)
    have p1 := flat_le cSeg_len he
    have p2 := flat_at cSeg_len he
    rw [sum_drop he] at hs
    have hnn : 0 ≤ sumS' (fun s => s.kind) (l.drop (i + 1)) := sum_nn fun y hy => hk y (List.mem_of_mem_drop hy)
    have hw : IntKind.i64.wrap ((i : Int) + 1) = ((i + 1 : Nat) : Int) := by rw [qzY (by omega) (by omega)]; rfl
    have hw2 : IntKind.i64.wrap (n + e.kind) = n + e.kind := qzY (by omega) (by omega)
    simp only [qzz, qzk, qzo, qzC, qzV, qzv, qzn, qzi, xzd, xzc, xzm, qzU, qzf, qze, qzd, qzp, qzF, qzX, qzN, qzy, qzc, qzj, qzE, qzb, xza, qzg, qzh, qzO, xzb, qzl, qzm, qzt, qza, qzs, qzu, qzx, qzG, xzo, qzL, qzB, xzh, qzW, xzg, xzq, qzA, cvs, cv, qzI, qzJ, toA, ofA, FR.pop, abin, intBin, VN.at, VH.push, VH.set, qzq, VV.cells, ntV, qzS, xzz, xzs, ↓reduceIte, Option.getD_some, List.getElem?_cons_zero, List.length_cons, List.length_nil, List.drop_succ_cons, List.drop_zero, List.take_zero, List.append_nil, List.nil_append, List.head?_cons, Nat.reduceAdd, Nat.reduceEqDiff, Nat.reduceLeDiff, Nat.add_zero, Nat.zero_add, and_self, and_true, decide_true, forall_const, false_implies, Bool.true_eq_false, cSeg, t3, t27, t28, t29, c, hlt, p1, p2, hw, hw2]
    refine ih (i + 1) (n + e.kind) _ _ (by omega) (by omega) (by omega) ?_ ?_ ?_ ?_ ?_
    · intro k h1 h2 h3
      simp only [qza]
      (repeat rw [if_neg (by omega)])
      exact hT k h1 h2 h3
    · simp only [qza, ↓reduceIte, Nat.reduceEqDiff]
    · simp only [qza, ↓reduceIte, Nat.reduceEqDiff, t27]
    · simp only [qza, ↓reduceIte, Nat.reduceEqDiff, t28]
    · simp only [qza, ↓reduceIte]
def pathPts (p : Path) : Int := 1 + sumS' (fun s => s.kind) p.segs
theorem points1 {Gl : xzt} (l : List Path) (hl : l.length < 1000000) (hk : ∀ p ∈ l, p.segs.length < 1000000 ∧ ∀ s ∈ p.segs, 0 ≤ s.kind) (r : Int) (hr : r ≤ 2 ^ 62) (T0 : VF) (K : AEx → VF → VH → Prop)
    (hK : ∀ T h, qzw T 3 = some (.int .i64 r) → (∀ k, k < 18 → k ≠ 3 → k ≠ 7 → k ≠ 9 → qzw T k = qzw T0 k) → K (.exit 2) T h) :
    ∀ (d i : Nat) (n : Int) (T : VF) (h : VH), d + i = l.length → 0 ≤ n → n + sumS' pathPts (l.drop i) = r → (∀ k, k < 18 → k ≠ 3 → k ≠ 7 → k ≠ 9 → qzw T k = qzw T0 k) → qzw T 3 = some (.int .i64 n) → qzw T 18 = some (.fsl (xzk cPath l) l.length 4) → qzw T 19 = some (.int .i64 l.length) → qzw T 20 = some (.int .i64 i) →
    wp Go.VL.Er.E Gl (.loop c_icon_Points_l1) T h K := by
  intro d
  induction d with
  | zero =>
    intro i n T h hd hn hs hT t3 t18 t19 t20
    obtain rfl : i = l.length := by omega
    rw [List.drop_length, show sumS' pathPts [] = 0 from rfl, Int.add_zero] at hs
    subst hs
    refine xzn c_icon_Points_l1.eq_1 ?_
    have c : ¬ ((l.length : Int) < l.length) := by omega
    simp only [qzz, qzk, qzo, qzC, qzV, qzv, qzn, qzi, xzd, qzU, qzf, qze, qzd, qzp, qzc, qzb, qzg, qzh, qzl, qzm, qzt, qza, qzs, qzu, qzI, qzJ, toA, ofA, FR.pop, abin, intBin, ↓reduceIte, Nat.reduceEqDiff, true_and, Bool.false_eq_true, decide_false, forall_const, false_implies, t19, t20, c]
    refine hK _ _ ?_ ?_
    · simp only [qza, ↓reduceIte, Nat.reduceEqDiff, t3]
    · intro k h1 h2 h3 h4
      simp only [qza]
      (repeat rw [if_neg (by omega)])
      exact hT k h1 h2 h3 h4
  | succ d ih =>
    intro i n T h hd hn hs hT t3 t18 t19 t20
    refine xzn c_icon_Points_l1.eq_1 ?_
    have hlt : i < l.length := by omega
    have c : (i : Int) < l.length := by omega
    obtain ⟨e, he⟩ : ∃ e, l[i]? = some e := ⟨l[i], List.getElem?_eq_getElem hlt⟩
    have hke := hk e (List.mem_of_getElem? he)
    have p1 := flat_le cPath_len he
    have p2 := flat_at cPath_len he
    rw [sum_drop he] at hs
    have hpp : ∀ p : Path, (∀ s ∈ p.segs, 0 ≤ s.kind) → 0 ≤ pathPts p := fun p hp => by
      have := sum_nn (f := fun s : Seg => s.kind) (l := p.segs) hp
      unfold pathPts; omega
    have hnn : 0 ≤ sumS' pathPts (l.drop (i + 1)) := sum_nn fun y hy => hpp y (hk y (List.mem_of_mem_drop hy)).2
    have hnn2 : 0 ≤ sumS' (fun s => s.kind) e.segs := sum_nn hke.2
    have hw : IntKind.i64.wrap ((i : Int) + 1) = ((i + 1 : Nat) : Int) := by rw [qzY (by omega) (by omega)]; rfl
    have pe : pathPts e = 1 + sumS' (fun s => s.kind) e.segs := rfl
    have hw2 : IntKind.i64.wrap (n + 1) = n + 1 := qzY (by omega) (by omega)
    simp only [qzz, qzk, qzo, qzC, qzV, qzv, qzn, qzi, xzd, qzU, qzf, qze, qzd, qzp, qzF, qzX, qzN, qzy, qzc, qzj, qzE, qzb, xza, qzg, qzh, qzO, xzb, qzl, qzm, qzt, qza, qzs, qzu, qzx, qzG, xzo, xzi, qzL, qzB, xzh, qzW, xzg, xzq, qzA, cvs, cv, qzI, qzJ, toA, ofA, FR.pop, abin, intBin, VN.at, VH.push, VH.set, qzq, VV.cells, ntV, qzS, xzz, xzs, ↓reduceIte, Option.getD_some, List.getElem?_cons_zero, List.getElem?_cons_succ, List.length_cons, List.length_nil, List.drop_succ_cons, List.drop_zero, List.take_zero, List.append_nil, List.nil_append, List.head?_cons, Nat.reduceAdd, Nat.reduceEqDiff, Nat.reduceLeDiff, Nat.zero_add, and_self, and_true, decide_true, forall_const, false_implies, Bool.true_eq_false, cPath, t3, t18, t19, t20, c, hlt, p1, p2, hw2]
    refine points0 e.segs hke.1 hke.2 (n + pathPts e) (by omega) _ _ ?_ e.segs.length 0 (n + 1) _ _ (by omega) (by omega) (by simp only [List.drop_zero]; omega) (fun _ _ _ _ => rfl) ?_ ?_ ?_ ?_
    · intro T' h' t3' hT'
      simp only [qzk, qzi, xzc, xzu, xzm, qzf, qze, qzd, qzp, qzc, qzb, qzg, qzh, qzl, qzm, qzt, qza, qzs, qzu, qzx, cv, qzI, qzJ, toA, ofA, FR.pop, abin, intBin, ↓reduceIte, Nat.reduceEqDiff, t20, hw, (hT' 20 (by omega) (by omega) (by omega))]
      refine ih (i + 1) (n + pathPts e) _ _ (by omega) (by have := hpp e hke.2; omega) (by omega) ?_ ?_ ?_ ?_ ?_
      · intro k h1 h2 h3 h4
        simp only [qza]
        (repeat rw [if_neg (by omega)])
        rw [hT' k (by omega) h2 h4]
        simp only [qza]
        (repeat rw [if_neg (by omega)])
        exact hT k h1 h2 h3 h4
      · simp only [qza, ↓reduceIte, Nat.reduceEqDiff, t3']
      · simp only [qza, ↓reduceIte, Nat.reduceEqDiff, hT' 18 (by omega) (by omega) (by omega), t18]
      · simp only [qza, ↓reduceIte, Nat.reduceEqDiff, hT' 19 (by omega) (by omega) (by omega), t19]
      · simp only [qza, ↓reduceIte]
    all_goals simp only [qza, ↓reduceIte, Nat.reduceEqDiff]
    all_goals rfl
theorem points_loop {Gl : xzt} (l : List Cmd) (hl : l.length < 1000000) (hk : ∀ c ∈ l, c.paths.length < 1000000 ∧ ∀ p ∈ c.paths, p.segs.length < 1000000 ∧ ∀ s ∈ p.segs, 0 ≤ s.kind) (r : Int) (hr : r ≤ 2 ^ 62) (K : AEx → VF → VH → Prop)
    (hK : ∀ T h, qzw T 3 = some (.int .i64 r) → K (.exit 0) T h) :
    ∀ (d i : Nat) (n : Int) (T : VF) (h : VH), d + i = l.length → 0 ≤ n → n + sumS' (fun c => sumS' pathPts c.paths) (l.drop i) = r → qzw T 3 = some (.int .i64 n) → qzw T 11 = some (.fsl (xzk cCmd l) l.length 11) → qzw T 12 = some (.int .i64 l.length) → qzw T 13 = some (.int .i64 i) →
    wp Go.VL.Er.E Gl (.loop c_icon_Points_l2) T h K := by
  intro d
  induction d with
  | zero =>
    intro i n T h hd hn hs t3 t18 t19 t20
    obtain rfl : i = l.length := by omega
    rw [List.drop_length, show sumS' (fun c : Cmd => sumS' pathPts c.paths) [] = 0 from rfl, Int.add_zero] at hs
    subst hs
    refine xzn c_icon_Points_l2.eq_1 ?_
    have c : ¬ ((l.length : Int) < l.length) := by omega
    simp only [qzz, qzk, qzo, qzC, qzV, qzv, qzn, qzi, xzd, qzU, qzf, qze, qzd, qzp, qzc, qzb, qzg, qzh, qzl, qzm, qzt, qza, qzs, qzu, qzI, qzJ, toA, ofA, FR.pop, abin, intBin, ↓reduceIte, Nat.reduceEqDiff, true_and, Bool.false_eq_true, decide_false, forall_const, false_implies, t19, t20, c]
    refine hK _ _ ?_
    simp only [qza, ↓reduceIte, Nat.reduceEqDiff, t3]
  | succ d ih =>
    intro i n T h hd hn hs t3 t11 t12 t13
    refine xzn c_icon_Points_l2.eq_1 ?_
    have hlt : i < l.length := by omega
    have c : (i : Int) < l.length := by omega
    obtain ⟨e, he⟩ : ∃ e, l[i]? = some e := ⟨l[i], List.getElem?_eq_getElem hlt⟩
    have hke := hk e (List.mem_of_getElem? he)
    have p1 := flat_le cCmd_len he
    have p2 := flat_at cCmd_len he
    rw [sum_drop he] at hs
    have hpp : ∀ p : Path, (∀ s ∈ p.segs, 0 ≤ s.kind) → 0 ≤ pathPts p := fun p hp => by
      have := sum_nn (f := fun s : Seg => s.kind) (l := p.segs) hp
      unfold pathPts; omega
    have hcc : ∀ c ∈ l, 0 ≤ sumS' pathPts c.paths := fun c hc => sum_nn fun p hp => hpp p ((hk c hc).2 p hp).2
    have hnn : 0 ≤ sumS' (fun c => sumS' pathPts c.paths) (l.drop (i + 1)) := sum_nn fun y hy => hcc y (List.mem_of_mem_drop hy)
    have hnn2 := hcc e (List.mem_of_getElem? he)
    have hw : IntKind.i64.wrap ((i : Int) + 1) = ((i + 1 : Nat) : Int) := by rw [qzY (by omega) (by omega)]; rfl
    simp only [qzz, qzk, qzo, qzC, qzV, qzv, qzn, qzi, xzd, qzU, qzf, qze, qzd, qzp, qzF, qzX, qzN, qzy, qzc, qzj, qzE, qzb, xza, qzg, qzh, qzO, xzb, qzl, qzm, qzt, qza, qzs, qzu, qzx, qzG, xzo, xzi, qzL, qzB, xzh, qzW, xzg, xzq, qzA, cvs, cv, qzI, qzJ, toA, ofA, FR.pop, abin, intBin, VN.at, VH.push, VH.set, qzq, VV.cells, ntV, qzS, xzz, xzs, ↓reduceIte, Option.getD_some, List.getElem?_cons_zero, List.getElem?_cons_succ, List.length_cons, List.length_nil, List.drop_succ_cons, List.drop_zero, List.take_zero, List.append_nil, List.nil_append, List.head?_cons, Nat.reduceAdd, Nat.reduceEqDiff, Nat.reduceLeDiff, Nat.zero_add, and_self, and_true, decide_true, forall_const, false_implies, Bool.true_eq_false, cCmd, t11, t12, t13, c, hlt, p1, p2]
    refine points1 e.paths hke.1 hke.2 (n + sumS' pathPts e.paths) (by omega) _ _ ?_ e.paths.length 0 n _ _ (by omega) (by omega) (by simp only [List.drop_zero]) (fun _ _ _ _ _ => rfl) ?_ ?_ ?_ ?_
    · intro T' h' t3' hT'
      simp only [qzk, qzi, xzc, xzu, xzm, qzf, qze, qzd, qzp, qzc, qzb, qzg, qzh, qzl, qzm, qzt, qza, qzs, qzu, qzx, cv, qzI, qzJ, toA, ofA, FR.pop, abin, intBin, ↓reduceIte, Nat.reduceEqDiff, t13, hw, (hT' 13 (by omega) (by omega) (by omega) (by omega))]
      refine ih (i + 1) (n + sumS' pathPts e.paths) _ _ (by omega) (by omega) (by omega) ?_ ?_ ?_ ?_
      · simp only [qza, ↓reduceIte, Nat.reduceEqDiff, t3']
      · simp only [qza, ↓reduceIte, Nat.reduceEqDiff, hT' 11 (by omega) (by omega) (by omega) (by omega), t11]
      · simp only [qza, ↓reduceIte, Nat.reduceEqDiff, hT' 12 (by omega) (by omega) (by omega) (by omega), t12]
      · simp only [qza, ↓reduceIte]
    · simp only [qza, ↓reduceIte, Nat.reduceEqDiff, t3]
    all_goals simp only [qza, ↓reduceIte, Nat.reduceEqDiff]
    all_goals rfl
theorem points_ok (Gl : xzt) (i : Icon) (hl : i.cmds.length < 1000000) (hk : ∀ c ∈ i.cmds, c.paths.length < 1000000 ∧ ∀ p ∈ c.paths, p.segs.length < 1000000 ∧ ∀ s ∈ p.segs, 0 ≤ s.kind) (hr : pointsS i ≤ 2 ^ 62) : xzH Go.VL.Er.E Gl f_icon_Points [.agg (cIcon i)] (.int .i64 (pointsS i)) := by
  refine xzw (xzf E_icon_Points ?_)
  unfold c_icon_Points r_icon_Points
  simp only [xzB]
  simp only [qzk, qzo, qzC, qzi, qzf, qze, qzd, qzp, qzF, qzX, qzc, qzj, qzE, qzb, qzg, qzh, qzO, qzl, qzm, qzt, qza, qzs, qzu, qzx, qzG, xzi, qzL, qzB, xzh, xzF, qzA, cv, VN.at, VH.push, qzq, h0, VV.cells, ntV, ↓reduceIte, Option.getD_some, List.getElem?_cons_zero, List.getElem?_cons_succ, Nat.reduceEqDiff, Nat.zero_add, cIcon]
  refine points_loop i.cmds hl hk (pointsS i) hr _ ?_ i.cmds.length 0 0 _ _ (by omega) (by omega) (by simp only [List.drop_zero, Int.zero_add]; rfl) ?_ ?_ ?_ ?_
  · intro T h t3
    simp only [qzk, qzo, qzH, qzi, xzu, qzf, qze, qzd, qzp, qzK, qzc, qzb, qzg, qzh, qzl, qzm, qzt, qza, qzs, qzu, qzx, qzQ, qzM, qzT, qzP, ↓reduceIte, t3]
    exact qzr rfl
  all_goals simp only [qza, ↓reduceIte, Nat.reduceEqDiff]
  all_goals rfl
end
end Go.VL.Ic
