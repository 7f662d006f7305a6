import Derived.Test.YtbamfhdgikeneaaDoorPaA
import Derived.Test.YtbamfhdgikeneaaDoorEnK
import Derived.Test.YtbamfhdgikeneaaDoorWiA
/- Chapter 16: colors of few; the document's own search. -/
namespace Go.VL.Pal
open Go.FR Go.IR Go.VL Go.VL.Color Go.VL.Wind
noncomputable section
set_option linter.unusedSimpArgs false
set_option linter.unusedVariables false
set_option maxRecDepth 100000
set_option maxHeartbeats 1000000

def colT : List Cl := [⟨255, 0, 0, 255⟩, ⟨0, 128, 0, 255⟩, ⟨0, 0, 200, 100⟩, ⟨10, 20, 30, 1⟩, ⟨255, 255, 255, 255⟩, ⟨0, 0, 0, 0⟩, ⟨7, 0, 0, 254⟩]
def colS (l : List Int) (at_ : Nat) : Cl := colT.getD (nextS l at_ 7).toNat ⟨0, 0, 0, 0⟩
theorem colT_at (k : Nat) (h : k < 7) : colT[k]? = some (colT.getD k ⟨0, 0, 0, 0⟩) := by
  rw [List.getD_eq_getElem?_getD, List.getElem?_eq_getElem (by simpa [colT] using h)]; rfl
theorem color_ok (Gl : xzv) (l : List Int) (at_ : Nat) (i : Nat) (hl : l.length < 4611686018427387904) (ha : at_ < 1000000) :
    StOk Go.VL.Pal.E Gl f_glyphicmake_Color [.ptr i 0] [(i, bSeq l at_)] (.agg (cCl (colS l at_))) [(i, bSeq l (at_ + 1))] := by
  refine st1_intro fun nx hn => xze E_glyphicmake_Color ?_
  unfold c_glyphicmake_Color r_glyphicmake_Color
  simp only [xzC]
  have e1 : ¬ nx = i := by omega
  have e2 : ¬ i = nx := by omega
  have e3 : ¬ nx + 1 = i := by omega
  have e4 : ¬ i = nx + 1 := by omega
  have e5 : ¬ nx = nx + 1 := by omega
  have e6 : ¬ nx + 1 = nx := by omega
  have n1 := next_in l at_ 7 (by omega)
  obtain ⟨k, hk⟩ : ∃ k : Nat, nextS l at_ 7 = k := ⟨(nextS l at_ 7).toNat, by omega⟩
  have hk7 : k < 7 := by omega
  have hc : colS l at_ = colT.getD k ⟨0, 0, 0, 0⟩ := by unfold colS; rw [hk, Int.toNat_natCast]
  have p1 := xzW cCl_len (colT_at k hk7)
  have p2 := xzX cCl_len (colT_at k hk7)
  simp only [qzj, qzn, qzi, qzf, qzd, qze, qzp, qzZ, qzN, qzc, qzE, qzb, qzg, qzh, qzR, qzy, qzm, qzl, qzs, qza, qzr, qzu, qzx, xzk, xzL, xzA, qzS, cvs, cv, VN.at, VH.push, VV.cells, ntV, ↓reduceIte, List.length_cons, List.length_nil, List.drop_succ_cons, List.drop_zero, List.take_succ_cons, List.take_zero, List.append_nil, List.nil_append, List.cons_append, Nat.reduceAdd, Nat.reduceDiv, Nat.reduceEqDiff, reduceCtorEq, Nat.reduceLeDiff, Nat.zero_add, and_self, reduceCtorEq, cCl]
  have tab : [VV.int .u8 255, VV.int .u8 0, VV.int .u8 0, VV.int .u8 255, VV.int .u8 0, VV.int .u8 128, VV.int .u8 0, VV.int .u8 255, VV.int .u8 0, VV.int .u8 0, VV.int .u8 200, VV.int .u8 100, VV.int .u8 10, VV.int .u8 20, VV.int .u8 30, VV.int .u8 1, VV.int .u8 255, VV.int .u8 255, VV.int .u8 255, VV.int .u8 255, VV.int .u8 0, VV.int .u8 0, VV.int .u8 0, VV.int .u8 0, VV.int .u8 7, VV.int .u8 0, VV.int .u8 0, VV.int .u8 254] = xzm cCl colT := rfl
  rw [tab]
  refine xzF (next_ok Gl l at_ 7 i hl (by omega) (by omega) (by omega)) (by simp only [qza, ↓reduceIte, e1, e3]) rfl rfl ?_
  rw [hk, hc]
  simp only [qzF, qzi, qzf, qzd, qze, qzp, qzJ, qzN, qzz, qzK, qzc, qzk, qzb, qzU, qzg, qzh, qzW, qzm, qzl, qzs, qza, qzr, qzu, xzp, qzL, qzC, qzS, xza, xzn, qzB, VH.set, qzq, VV.cells, ntV, qzQ, qzM, qzV, qzP, qzO, xzy, xzu, ↓reduceIte, Option.getD_some, List.length_cons, List.length_nil, List.drop_succ_cons, List.drop_zero, List.take_succ_cons, List.take_zero, List.append_nil, List.nil_append, List.head?_cons, Nat.reduceAdd, Nat.reduceEqDiff, Nat.reduceLeDiff, Nat.zero_add, and_self, cCl, e1, e2, e4, e6, hk7, p1, p2]

theorem find_loop (Gl : xzv) (c : Cl) (l : List Cl) (hl : l.length < 1000000) (r : Int) (K : AEx → VF → VH → Prop)
    (hK0 : ∀ T h, r = -1 → K (.exit 0) T h) (hK1 : ∀ T h, qzv T 4 = some (.int .i64 r) → K .ret T h) :
    ∀ (d i : Nat) (T : VF) (h : VH), d + i = l.length → idxS (l.drop i) c i = r → qzv T 0 = some (.fsl (xzm cCl l) l.length 4) → qzv T 3 = some (.ptr 0 0) → qzv T 5 = some (.int .i64 i) → qzv h.l 0 = some (some (.cells (cCl c) false)) →
      wp Go.VL.Pal.E Gl (.loop c_glyphicref12_Find_l0) T h K := by
  intro d
  induction d with
  | zero =>
    intro i T h hd hr t0 t3 t5 h0'
    obtain rfl : i = l.length := by omega
    refine xzr c_glyphicref12_Find_l0.eq_1 ?_
    simp only [qzA, qzj, xzD, qzn, qzD, qzX, qzw, qzo, qzi, xzh, qzY, qzf, qzd, qze, qzp, xzj, xzc, xzw, qzc, qzb, qzg, qzh, xzs, xzt, qzm, qzl, qzs, qza, qzr, qzu, qzx, xzp, xzd, qzG, qzH, toA, ofA, FR.pop, abin, intBin, countN, xzu, ↓reduceIte, Nat.reduceEqDiff, reduceCtorEq, true_and, Bool.false_eq_true, decide_false, forall_const, false_implies, reduceCtorEq, t0, t5, Int.lt_irrefl]
    refine hK0 _ _ ?_
    rw [← hr, List.drop_length]; rfl
  | succ d ih =>
    intro i T h hd hr t0 t3 t5 h0'
    refine xzr c_glyphicref12_Find_l0.eq_1 ?_
    have hlt : i < l.length := by omega
    have c1 : (i : Int) < l.length := by omega
    obtain ⟨x, hx⟩ : ∃ x, l[i]? = some x := ⟨l[i], List.getElem?_eq_getElem hlt⟩
    have p1 := xzW cCl_len hx
    have p2 := xzX cCl_len hx
    have w : IntKind.i64.wrap ((i : Int) + 1) = ((i + 1 : Nat) : Int) := by rw [xzi (by omega) (by omega)]; rfl
    rw [drop_at hx, idxS] at hr
    simp only [qzA, qzj, xzD, qzn, qzD, qzX, qzw, qzo, qzi, xzh, qzY, qzf, qzd, qze, qzp, xzj, xzc, xzw, xzN, xzQ, qzc, qzk, qzb, qzg, qzh, xzs, xzt, qzy, qzm, qzl, qzs, qza, qzr, qzu, qzx, xzp, xzd, qzL, qzC, qzB, qzG, qzH, toA, ofA, FR.pop, abin, intBin, qzq, countN, xzG, xzP, xzT, xzH, xzO, yza, xzZ, xzu, ↓reduceIte, Option.getD_some, Option.isSome_some, List.length_cons, List.length_nil, List.drop_zero, List.take_succ_cons, List.take_zero, List.append_nil, List.contains_nil, Nat.reduceAdd, Nat.reduceEqDiff, reduceCtorEq, Nat.reduceLeDiff, Nat.zero_add, and_self, and_true, true_and, Bool.and_self, Bool.not_false, decide_true, forall_const, false_implies, Bool.true_eq_false, reduceCtorEq, cCl, t0, t3, t5, c1, hlt, p1, p2, h0']
    refine xzb (same_ok Gl x c) rfl rfl ?_
    by_cases e : c = x
    · rw [if_pos e] at hr
      subst e
      have de : decide (c = c) = true := by simp
      simp only [qzA, qzj, qzn, qzF, qzw, qzo, qzi, qzT, xzg, xzf, xzq, xzB, qzf, qzd, qze, qzp, xzE, xzM, qzc, qzb, qzg, qzh, qzm, qzl, qzs, qza, qzr, qzu, qzx, cv, qzG, qzH, toA, ofA, FR.pop, abin, intBin, ↓reduceIte, Option.map_some, List.append_nil, Nat.reduceEqDiff, and_true, decide_true, forall_const, false_implies, Bool.true_eq_false, t5]
      refine hK1 _ _ ?_
      simp only [qza, ↓reduceIte, hr]
    · rw [if_neg e] at hr
      have de : decide (x = c) = false := by simp; exact fun q => e q.symm
      simp only [qzA, qzj, qzn, qzF, qzw, qzo, qzi, qzT, xzg, xzf, xzq, xzB, qzf, qzd, qze, qzp, xzE, xzM, qzc, qzb, qzg, qzh, qzm, qzl, qzs, qza, qzr, qzu, qzx, cv, qzG, qzH, toA, ofA, FR.pop, abin, intBin, ↓reduceIte, Option.map_some, List.append_nil, Nat.reduceEqDiff, true_and, Bool.false_eq_true, forall_const, false_implies, t5, de, w]
      refine ih (i + 1) _ _ (by omega) hr ?_ ?_ ?_ h0'
      · simp only [qza, ↓reduceIte, reduceCtorEq, reduceCtorEq, t0]
      · simp only [qza, ↓reduceIte, Nat.reduceEqDiff, t3]
      · simp only [qza, ↓reduceIte]

theorem refFind_ok (Gl : xzv) (c : Cl) (l : List Cl) (hl : l.length < 1000000) : xzK Go.VL.Pal.E Gl f_glyphicref12_Find [.fsl (xzm cCl l) l.length 4, .agg (cCl c)] (.int .i64 (idxS l c 0)) := by
  refine xzx (xze E_glyphicref12_Find ?_)
  unfold c_glyphicref12_Find r_glyphicref12_Find
  simp only [xzC]
  simp only [qzj, qzn, qzD, qzi, qzf, qzd, qze, qzp, qzZ, qzc, qzE, qzb, qzg, qzh, qzR, qzm, qzl, qzs, qza, qzr, qzu, qzx, xzk, xzJ, cv, VN.at, VH.push, h0, VV.cells, ntV, ↓reduceIte, reduceCtorEq, Nat.zero_add, reduceCtorEq, cCl]
  refine find_loop Gl c l hl (idxS l c 0) _ ?_ ?_ l.length 0 _ _ (by omega) rfl ?_ ?_ ?_ ?_
  · intro T h e
    simp only [qzj, qzn, qzF, qzi, xzz, qzf, qzd, qze, qzp, qzK, qzc, qzb, qzg, qzh, qzm, qzl, qzs, qza, qzr, qzu, qzx, cv, qzQ, qzM, qzV, qzP, ↓reduceIte, e]
    exact qzt rfl
  · intro T h t4
    simp only [qzT, xzf, qzK, qzQ, qzM, qzV, qzP, t4]
    exact qzt rfl
  all_goals simp only [qza, ↓reduceIte, Nat.reduceEqDiff, reduceCtorEq, reduceCtorEq, cCl]
  rfl

theorem sames_loop (Gl : xzv) (a b : List Cl) (hl : a.length < 1000000) (hab : a.length = b.length) (K : AEx → VF → VH → Prop)
    (hK0 : ∀ T h, a = b → K (.exit 0) T h) (hK1 : ∀ T h, a ≠ b → qzv T 4 = some (.bool false) → K .ret T h) :
    ∀ (d i : Nat) (T : VF) (h : VH), d + i = a.length → a.take i = b.take i → qzv T 0 = some (.fsl (xzm cCl a) a.length 4) → qzv T 1 = some (.fsl (xzm cCl b) b.length 4) → qzv T 5 = some (.int .i64 i) →
      wp Go.VL.Pal.E Gl (.loop c_glyphicref_SameColors_l0) T h K := by
  intro d
  induction d with
  | zero =>
    intro i T h hd hr t0 t1 t5
    obtain rfl : i = a.length := by omega
    refine xzr c_glyphicref_SameColors_l0.eq_1 ?_
    simp only [qzA, qzj, xzD, qzn, qzD, qzX, qzw, qzo, qzi, xzh, qzY, qzf, qzd, qze, qzp, xzj, xzc, xzw, qzc, qzb, qzg, qzh, xzs, xzt, qzm, qzl, qzs, qza, qzr, qzu, qzx, xzp, xzd, qzG, qzH, toA, ofA, FR.pop, abin, intBin, countN, xzu, ↓reduceIte, Nat.reduceEqDiff, reduceCtorEq, true_and, Bool.false_eq_true, decide_false, forall_const, false_implies, reduceCtorEq, t0, t5, Int.lt_irrefl]
    refine hK0 _ _ ?_
    rw [List.take_length, hab, List.take_length] at hr
    exact hr
  | succ d ih =>
    intro i T h hd hr t0 t1 t5
    refine xzr c_glyphicref_SameColors_l0.eq_1 ?_
    have hlt : i < a.length := by omega
    have hlt' : i < b.length := by omega
    have c1 : (i : Int) < a.length := by omega
    obtain ⟨x, hx⟩ : ∃ x, a[i]? = some x := ⟨a[i], List.getElem?_eq_getElem hlt⟩
    obtain ⟨y, hy⟩ : ∃ y, b[i]? = some y := ⟨b[i], List.getElem?_eq_getElem hlt'⟩
    have p1 := xzW cCl_len hx
    have p2 := xzX cCl_len hx
    have p3 := xzW cCl_len hy
    have p4 := xzX cCl_len hy
    have w : IntKind.i64.wrap ((i : Int) + 1) = ((i + 1 : Nat) : Int) := by rw [xzi (by omega) (by omega)]; rfl
    simp only [qzA, qzj, xzD, qzn, qzD, qzX, qzw, qzo, qzi, xzh, qzY, qzf, qzd, qze, qzp, xzj, xzc, xzw, xzN, xzQ, qzc, qzk, qzb, qzg, qzh, xzs, xzt, qzy, qzm, qzl, qzs, qza, qzr, qzu, qzx, xzp, xzd, qzL, qzC, qzB, qzG, qzH, toA, ofA, FR.pop, abin, intBin, countN, xzG, xzP, xzT, xzH, xzO, yza, xzZ, xzu, ↓reduceIte, List.append_nil, Nat.reduceEqDiff, reduceCtorEq, and_self, and_true, true_and, Bool.and_self, decide_true, forall_const, false_implies, Bool.true_eq_false, reduceCtorEq, cCl, t0, t1, t5, c1, hlt, hlt', p1, p2, p3, p4]
    refine xzb (same_ok Gl x y) rfl rfl ?_
    by_cases e : x = y
    · subst e
      have de : decide (x = x) = true := by simp
      simp only [qzA, qzj, qzn, qzF, qzw, qzo, qzi, qzT, xzg, xzf, xzq, xzB, qzf, qzd, qze, qzp, xzE, xzj, xzc, xzw, xzM, qzc, qzb, qzg, qzh, xzs, xzt, qzm, qzl, qzs, qza, qzr, qzu, qzx, cv, qzG, qzH, toA, ofA, FR.pop, abin, aun, intBin, ↓reduceIte, Option.map_some, List.append_nil, Nat.reduceEqDiff, true_and, Bool.not_true, Bool.false_eq_true, decide_true, forall_const, false_implies, t5, w]
      refine ih (i + 1) _ _ (by omega) (by rw [take_at hx, take_at hy, hr]) ?_ ?_ ?_
      · simp only [qza, ↓reduceIte, reduceCtorEq, reduceCtorEq, t0]
      · simp only [qza, ↓reduceIte, Nat.reduceEqDiff, t1]
      · simp only [qza, ↓reduceIte]
    · have de : decide (x = y) = false := by simp [e]
      simp only [qzA, qzj, qzn, qzF, qzw, qzo, qzi, qzT, xzg, xzf, xzq, xzB, qzf, qzd, qze, qzp, xzE, xzj, xzc, xzw, xzM, qzc, qzb, qzg, qzh, xzs, xzt, qzm, qzl, qzs, qza, qzr, qzu, qzx, cv, qzG, qzH, toA, ofA, FR.pop, abin, aun, intBin, ↓reduceIte, Option.map_some, List.append_nil, Nat.reduceEqDiff, and_true, Bool.not_false, forall_const, false_implies, Bool.true_eq_false, t5, de]
      refine hK1 _ _ (fun q => e ?_) ?_
      · rw [q, hy] at hx; exact (Option.some.inj hx).symm
      · simp only [qza, ↓reduceIte]

theorem sames_ok (Gl : xzv) (a b : List Cl) (hl : a.length < 1000000) : xzK Go.VL.Pal.E Gl f_glyphicref_SameColors [.fsl (xzm cCl a) a.length 4, .fsl (xzm cCl b) b.length 4] (.bool (decide (a = b))) := by
  refine xzx (xze E_glyphicref_SameColors ?_)
  unfold c_glyphicref_SameColors r_glyphicref_SameColors
  simp only [xzC]
  by_cases hab : a.length = b.length
  · have h1 : ((a.length : Int) != (b.length : Int)) = false := by simp [hab]
    simp only [qzA, qzj, qzn, qzD, qzF, qzw, qzo, qzi, qzT, qzf, qzd, qze, qzp, qzK, qzc, qzb, qzg, qzh, qzm, qzl, qzs, qza, qzr, qzu, qzx, xzd, cv, qzG, qzH, toA, ofA, FR.pop, abin, intBin, h0, qzQ, qzM, qzV, qzP, ↓reduceIte, Nat.reduceEqDiff, reduceCtorEq, Nat.zero_add, true_and, Bool.false_eq_true, forall_const, false_implies, reduceCtorEq, h1]
    refine sames_loop Gl a b hl hab _ ?_ ?_ a.length 0 _ _ (by omega) rfl ?_ ?_ ?_
    · intro T h e
      simp only [qzj, qzn, qzF, qzi, xzz, qzf, qzd, qze, qzp, qzK, qzc, qzb, qzg, qzh, qzm, qzl, qzs, qza, qzr, qzu, qzx, cv, qzQ, qzM, qzV, qzP, ↓reduceIte, decide_true, e]
      first | exact qzt rfl | (subst e; simp only [decide_true]; exact qzt rfl)
    · intro T h e t4
      simp only [qzT, xzf, qzK, qzQ, qzM, qzV, qzP, decide_false, t4, e]
      exact qzt rfl
    all_goals simp only [qza, ↓reduceIte, Nat.reduceEqDiff, reduceCtorEq, reduceCtorEq]
    rfl
  · have h1 : ((a.length : Int) != (b.length : Int)) = true := by simp; omega
    have e : a ≠ b := fun q => hab (by rw [q])
    simp only [qzA, qzj, qzn, qzD, qzF, qzw, qzo, qzi, qzT, qzf, qzd, qze, qzp, qzK, qzc, qzb, qzg, qzh, qzm, qzl, qzs, qza, qzr, qzu, qzx, xzd, cv, qzG, qzH, toA, ofA, FR.pop, abin, intBin, h0, qzQ, qzM, qzV, qzP, ↓reduceIte, Nat.reduceEqDiff, reduceCtorEq, Nat.zero_add, and_true, decide_false, forall_const, false_implies, Bool.true_eq_false, reduceCtorEq, h1, e]
    exact qzt rfl
end
end Go.VL.Pal

/- The statements' own maker of icons: colors, points, paths. -/
namespace Go.VL.Mk
open Go.FR Go.IR Go.VL Go.VL.Color Go.VL.Wind Go.VL.Ic
noncomputable section
set_option linter.unusedSimpArgs false
set_option linter.unusedVariables false
set_option maxRecDepth 100000
set_option maxHeartbeats 1000000

theorem more_ok (Gl : xzv) (l : List Int) (a i : Nat) : StOk Go.VL.Er.E Gl f_glyphicmake_Seq_more [.ptr i 0] [(i, bSeq l a)] (.bool (decide (a < l.length))) [(i, bSeq l a)] := by
  refine st1_intro fun nx hn => xze E_glyphicmake_Seq_more ?_
  unfold c_glyphicmake_Seq_more r_glyphicmake_Seq_more
  simp only [xzC]
  by_cases c : a < l.length
  · have c1 : (a : Int) < (l.length : Int) := by omega
    simp only [qzj, xzD, qzn, qzF, qzi, qzf, qzd, qze, qzp, xzE, xzj, xzc, xzw, xzN, qzK, qzc, qzk, qzb, qzg, qzh, xzs, xzt, qzm, qzl, qzs, qza, qzr, qzu, qzx, qzI, xzd, nilChkV, qzL, qzC, qzB, cv, qzG, qzH, toA, ofA, FR.pop, abin, intBin, qzq, qzQ, qzM, qzV, qzP, countN, xzG, xzP, xzT, xzH, xzO, yza, xzZ, ↓reduceIte, Option.getD_some, Option.isSome_some, List.getElem?_cons_zero, List.getElem?_cons_succ, List.append_nil, List.contains_nil, Nat.reduceEqDiff, reduceCtorEq, Nat.add_zero, Nat.zero_add, and_self, Bool.and_self, Bool.not_false, decide_true, reduceCtorEq, cSeq, bSeq, c, c1] <;> first | rfl | exact ⟨rfl, rfl⟩ | exact qzt rfl
  · have c1 : ¬ (a : Int) < (l.length : Int) := by omega
    simp only [qzj, xzD, qzn, qzF, qzi, qzf, qzd, qze, qzp, xzE, xzj, xzc, xzw, xzN, qzK, qzc, qzk, qzb, qzg, qzh, xzs, xzt, qzm, qzl, qzs, qza, qzr, qzu, qzx, qzI, xzd, nilChkV, qzL, qzC, qzB, cv, qzG, qzH, toA, ofA, FR.pop, abin, intBin, qzq, qzQ, qzM, qzV, qzP, countN, xzG, xzP, xzT, xzH, xzO, yza, xzZ, ↓reduceIte, Option.getD_some, Option.isSome_some, List.getElem?_cons_zero, List.getElem?_cons_succ, List.append_nil, List.contains_nil, Nat.reduceEqDiff, reduceCtorEq, Nat.add_zero, Nat.zero_add, and_self, Bool.and_self, Bool.not_false, decide_false, reduceCtorEq, cSeq, bSeq, c, c1] <;> first | rfl | exact ⟨rfl, rfl⟩ | exact qzt rfl

def palS : List Cl := [⟨255, 0, 0, 255⟩, ⟨0, 128, 0, 255⟩, ⟨0, 0, 200, 100⟩, ⟨10, 20, 30, 1⟩, ⟨255, 255, 255, 255⟩, ⟨0, 0, 0, 0⟩, ⟨7, 0, 0, 254⟩]
def colorS (l : List Int) (a : Nat) : Cl := palS.getD (nextS l a 7).toNat ⟨0, 0, 0, 0⟩
theorem color_ok (Gl : xzv) (l : List Int) (a i : Nat) (hl : l.length < 4611686018427387904) (ha : a < 4611686018427387904) : StOk Go.VL.Er.E Gl f_glyphicmake_Color [.ptr i 0] [(i, bSeq l a)] (.agg (cCl (colorS l a))) [(i, bSeq l (a + 1))] := by
  refine st1_intro fun nx hn => xze E_glyphicmake_Color ?_
  unfold c_glyphicmake_Color r_glyphicmake_Color
  simp only [xzC]
  have n1 := next_in l a 7 (by omega)
  have e1 : ¬ nx = i := by omega
  have e2 : ¬ i = nx := by omega
  have e3 : ¬ nx + 1 = i := by omega
  have e4 : ¬ i = nx + 1 := by omega
  have e5 : ¬ nx + 1 = nx := by omega
  simp only [qzj, qzn, qzi, qzf, qzd, qze, qzp, qzZ, qzN, qzc, qzE, qzb, qzg, qzh, qzR, qzy, qzm, qzl, qzs, qza, qzr, qzu, qzx, xzk, xzL, xzA, qzS, cvs, cv, VN.at, VH.push, VV.cells, ntV, ↓reduceIte, List.length_cons, List.length_nil, List.drop_succ_cons, List.drop_zero, List.take_succ_cons, List.take_zero, List.append_nil, List.nil_append, List.cons_append, Nat.reduceAdd, Nat.reduceDiv, Nat.reduceEqDiff, reduceCtorEq, Nat.reduceLeDiff, Nat.zero_add, and_self, reduceCtorEq, cCl, cSeq, bSeq]
  refine xzF (next_ok Gl l a 7 i hl (by omega) (by omega) (by omega)) (by simp only [qza, ↓reduceIte, cSeq, bSeq, e1, e3]) rfl rfl ?_
  have z : ∀ n : Nat, natV (VV.int .i64 (n : Int)) = some n := xzu .i64
  have z1 : natV (VV.int .i64 1) = some 1 := rfl
  have z2 : natV (VV.int .i64 2) = some 2 := rfl
  have z3 : natV (VV.int .i64 3) = some 3 := rfl
  have z4 : natV (VV.int .i64 4) = some 4 := rfl
  have z5 : natV (VV.int .i64 5) = some 5 := rfl
  have z6 : natV (VV.int .i64 6) = some 6 := rfl
  have z0 : natV (VV.int .i64 0) = some 0 := rfl
  unfold colorS
  have cs : nextS l a 7 = 0 ∨ nextS l a 7 = 1 ∨ nextS l a 7 = 2 ∨ nextS l a 7 = 3 ∨ nextS l a 7 = 4 ∨ nextS l a 7 = 5 ∨ nextS l a 7 = 6 := by omega
  rcases cs with h | h | h | h | h | h | h
  all_goals
    rw [h]
    simp only [qzF, qzi, qzf, qzd, qze, qzp, qzJ, qzN, qzz, qzK, qzc, qzk, qzb, qzU, qzg, qzh, qzW, qzm, qzl, qzs, qza, qzr, qzu, xzp, qzL, qzC, qzS, xza, xzn, qzB, VH.set, qzq, VV.cells, ntV, qzQ, qzM, qzV, qzP, qzO, xzy, ↓reduceIte, Option.getD_some, List.length_cons, List.length_nil, List.drop_succ_cons, List.drop_zero, List.take_succ_cons, List.take_zero, List.append_nil, List.nil_append, List.head?_cons, Nat.reduceAdd, Nat.reduceMul, Nat.reduceLT, Nat.reduceEqDiff, Nat.reduceLeDiff, Nat.add_zero, Nat.zero_add, and_self, and_true, cSeq, bSeq, e1, e2, e4, e5, z0, z1, z2, z3, z4, z5, z6]
  all_goals first | exact ⟨rfl, rfl⟩ | rfl

def insideS (l : List Int) (a : Nat) (far : Int) : Pt := if nextS l a 12 = 0 then pointS l (a + 1) far else ⟨nextS l (a + 1) (far + 1), nextS l (a + 2) (far + 1)⟩
theorem inside_ok (Gl : xzv) (l : List Int) (a : Nat) (far : Int) (i : Nat) (hl : l.length < 4611686018427387904) (ha : a + 3 < 4611686018427387904) (h : 0 ≤ far) (hb : far < 4611686018427387000) :
    StOk Go.VL.Er.E Gl f_glyphicmake_inside [.ptr i 0, .int .i64 far] [(i, bSeq l a)] (.agg (cPt (insideS l a far))) [(i, bSeq l (a + 3))] := by
  refine st1_intro fun nx hn => xze E_glyphicmake_inside ?_
  unfold c_glyphicmake_inside r_glyphicmake_inside
  simp only [xzC]
  have e1 : ¬ nx = i := by omega
  have e2 : ¬ i = nx := by omega
  have w2 : IntKind.i64.wrap (far + 1) = far + 1 := xzi (by omega) (by omega)
  simp only [qzj, qzn, qzi, qzf, qzd, qze, qzp, qzZ, qzN, qzc, qzE, qzb, qzg, qzh, qzR, qzy, qzm, qzl, qzs, qza, qzr, qzu, qzx, xzk, cvs, cv, VN.at, VH.push, ↓reduceIte, reduceCtorEq, Nat.zero_add, reduceCtorEq, cSeq, bSeq, cPt]
  refine xzF (next_ok Gl l a 12 i hl (by omega) (by omega) (by omega)) (by simp only [qza, ↓reduceIte, cSeq, bSeq, e1]) rfl rfl ?_
  unfold insideS
  by_cases c : nextS l a 12 = 0
  · have c' : (nextS l a 12 == 0) = true := by simp [c]
    rw [if_pos c]
    simp only [qzA, qzj, qzn, qzw, qzo, qzi, qzf, qzd, qze, qzp, qzN, qzz, qzc, qzb, qzg, qzh, qzy, qzm, qzl, qzs, qza, qzr, qzu, qzx, cv, qzG, qzH, toA, ofA, FR.pop, abin, intBin, ↓reduceIte, Nat.reduceEqDiff, reduceCtorEq, and_true, forall_const, false_implies, Bool.true_eq_false, reduceCtorEq, cSeq, bSeq, c']
    refine xzF (point_ok Gl l (a + 1) far i hl (by omega) h hb) (by simp only [qza, ↓reduceIte, cSeq, bSeq]) rfl rfl ?_
    simp only [qzF, qzi, qzT, qzf, qzd, qze, qzN, qzz, qzK, qzb, qzU, qzg, qzW, qzm, qzl, qzs, qza, qzr, qzC, qzS, xza, xzn, qzB, VH.set, qzq, VV.cells, ntV, qzQ, qzM, qzV, qzP, qzO, xzy, ↓reduceIte, Option.getD_some, List.length_cons, List.length_nil, List.drop_succ_cons, List.drop_zero, List.take_succ_cons, List.take_zero, List.append_nil, List.nil_append, List.head?_cons, Nat.reduceAdd, Nat.reduceEqDiff, Nat.reduceLeDiff, Nat.zero_add, and_self, cSeq, bSeq, cPt, e1, e2] <;> first | rfl | exact ⟨rfl, rfl⟩ | exact qzt rfl
  · have c' : (nextS l a 12 == 0) = false := by simp [c]
    rw [if_neg c]
    simp only [qzA, qzj, qzn, qzw, qzo, qzi, qzf, qzd, qze, qzp, qzN, qzz, qzc, qzb, qzg, qzh, qzy, qzm, qzl, qzs, qza, qzr, qzu, qzx, cv, qzG, qzH, toA, ofA, FR.pop, abin, intBin, ↓reduceIte, Nat.reduceEqDiff, reduceCtorEq, true_and, Bool.false_eq_true, forall_const, false_implies, reduceCtorEq, cSeq, bSeq, c', w2]
    refine xzF (next_ok Gl l (a + 1) (far + 1) i hl (by omega) (by omega) (by omega)) (by simp only [qza, ↓reduceIte, cSeq, bSeq]) rfl rfl ?_
    simp only [qzj, qzn, qzi, qzf, qzd, qze, qzp, qzN, qzz, qzc, qzb, qzg, qzh, qzy, qzm, qzl, qzs, qza, qzr, qzu, qzx, cv, qzG, qzH, toA, ofA, FR.pop, abin, intBin, ↓reduceIte, Nat.reduceEqDiff, reduceCtorEq, reduceCtorEq, cSeq, bSeq, w2]
    refine xzF (next_ok Gl l (a + 2) (far + 1) i hl (by omega) (by omega) (by omega)) (by simp only [qza, ↓reduceIte, cSeq, bSeq]) rfl rfl ?_
    simp only [qzF, qzi, qzf, qzd, qze, qzp, qzN, qzz, qzK, qzc, qzb, qzU, qzg, qzh, qzW, qzm, qzl, qzs, qza, qzr, qzu, qzC, xzL, xzA, qzS, xza, xzn, qzB, cvs, cv, VH.set, qzq, VV.cells, ntV, qzQ, qzM, qzV, qzP, qzO, xzy, ↓reduceIte, Option.getD_some, List.length_cons, List.length_nil, List.drop_succ_cons, List.drop_zero, List.take_succ_cons, List.take_zero, List.append_nil, List.nil_append, List.cons_append, List.head?_cons, Nat.reduceAdd, Nat.reduceEqDiff, Nat.reduceLeDiff, Nat.zero_add, and_self, cSeq, bSeq, e1, e2] <;> first | rfl | exact ⟨rfl, rfl⟩ | exact qzt rfl

def zP : Pt := ⟨0, 0⟩
/-- A segment of which so many points are there. -/
def segP (l : List Int) (a : Nat) (far kind : Int) (k : Nat) : Seg := ⟨kind, if 0 < k then insideS l a far else zP, if 1 < k then insideS l (a + 3) far else zP, if 2 < k then insideS l (a + 6) far else zP⟩
theorem pts_loop (Gl : xzv) (l : List Int) (far : Int) (i bx : Nat) (kind : Nat) (hk : kind ≤ 3) (hl : l.length < 4611686018427387904) (hf : 0 ≤ far) (hb : far < 4611686018427387000) (a : Nat) (ha : a + 9 < 4611686018427387904) (hib : i ≠ bx) (T0 : VF) (hA : VH) (K : AEx → VF → VH → Prop)
    (hK : ∀ T h, (∀ k, k < 27 → k ≠ 10 → qzv T k = qzv T0 k) → qzv h.l i = some (some (bSeq l (a + 3 * kind))) → qzv h.l bx = some (some (.cells (cSeg (segP l a far kind kind)) false)) → (∀ k, k ≠ i → k ≠ bx → qzv h.l k = qzv hA.l k) → h.next = hA.next → K (.exit 2) T h) :
    ∀ (d k : Nat) (T : VF) (h : VH), d + k = kind → (∀ k, k < 27 → k ≠ 10 → qzv T k = qzv T0 k) → qzv T 0 = some (.ptr i 0) → qzv T 1 = some (.int .i64 far) → qzv T 9 = some (.ptr bx 0) → qzv T 10 = some (.int .i64 k) →
      qzv h.l i = some (some (bSeq l (a + 3 * k))) → qzv h.l bx = some (some (.cells (cSeg (segP l a far kind k)) false)) → (∀ k, k ≠ i → k ≠ bx → qzv h.l k = qzv hA.l k) → h.next = hA.next →
    wp Go.VL.Er.E Gl (.loop c_glyphicmake_Path_l0) T h K := by
  intro d
  induction d with
  | zero =>
    intro k T h hd hT t0 t1 t9 t10 s1 s2 hh hn
    obtain rfl : k = kind := by omega
    refine xzr c_glyphicmake_Path_l0.eq_1 ?_
    unfold segP at s2
    simp only [qzA, qzj, qzn, qzD, qzX, qzw, qzo, qzi, xzh, qzY, qzf, qzd, qze, qzp, qzJ, qzc, qzk, qzb, qzg, qzh, qzm, qzl, qzs, qza, qzr, qzu, qzx, qzI, qzL, qzC, qzB, qzG, qzH, toA, ofA, FR.pop, abin, intBin, qzq, ↓reduceIte, Option.getD_some, List.getElem?_cons_zero, Nat.reduceEqDiff, reduceCtorEq, Nat.add_zero, true_and, Bool.false_eq_true, decide_false, forall_const, false_implies, reduceCtorEq, cSeg, t9, t10, s2, Int.lt_irrefl]
    refine hK _ _ (fun k q1 q2 => ?_) s1 s2 hh hn
    simp only [qza]
    (repeat rw [if_neg (by omega)])
    exact hT k q1 q2
  | succ d ih =>
    intro k T h hd hT t0 t1 t9 t10 s1 s2 hh hn
    refine xzr c_glyphicmake_Path_l0.eq_1 ?_
    have c1 : (k : Int) < (kind : Int) := by omega
    have w : IntKind.i64.wrap ((k : Int) + 1) = ((k + 1 : Nat) : Int) := by rw [xzi (by omega) (by omega)]; rfl
    have k3 : k < 3 := by omega
    have e1 : ¬ bx = i := fun e => hib e.symm
    unfold segP at s2
    simp only [qzA, qzj, qzn, qzD, qzX, qzw, qzo, qzi, xzh, qzY, qzf, qzd, qze, qzp, qzJ, qzN, qzc, qzk, qzb, qzg, qzh, qzy, qzm, qzl, qzs, qza, qzr, qzu, qzx, qzI, qzL, qzC, qzB, qzG, qzH, toA, ofA, FR.pop, abin, intBin, qzq, ↓reduceIte, Option.getD_some, List.getElem?_cons_zero, Nat.reduceEqDiff, reduceCtorEq, Nat.add_zero, and_true, decide_true, forall_const, false_implies, Bool.true_eq_false, reduceCtorEq, cSeg, t0, t1, t9, t10, s2, c1]
    refine xzF (inside_ok Gl l (a + 3 * k) far i hl (by omega) hf hb) s1 rfl rfl ?_
    have hcs : k = 0 ∨ k = 1 ∨ k = 2 := by omega
    rcases hcs with rfl | rfl | rfl
    all_goals
      simp only [qzj, qzi, xzg, xzq, qzf, qzd, qze, qzp, qzN, qzz, qzc, qzb, qzU, qzg, qzh, qzW, qzm, qzl, qzs, qza, qzr, qzu, qzx, qzI, iAddrAV, qzS, xza, xzn, cv, qzG, qzH, toA, ofA, FR.pop, abin, intBin, VH.set, qzq, VV.cells, ntV, qzO, xzy, xzu, ↓reduceIte, Option.getD_some, List.length_cons, List.length_nil, List.drop_succ_cons, List.drop_zero, List.take_succ_cons, List.take_zero, List.append_nil, List.nil_append, List.cons_append, List.head?_cons, Nat.reduceAdd, Nat.reduceMul, Nat.reduceLT, Nat.reduceEqDiff, Nat.reduceLeDiff, Nat.add_zero, Nat.zero_add, and_self, cSeq, bSeq, cPt, cSeg, t9, t10, s2, xzu, hib, w]
      first | refine ih (0 + 1) _ _ (by omega) ?_ ?_ ?_ ?_ ?_ ?_ ?_ ?_ hn | refine ih (1 + 1) _ _ (by omega) ?_ ?_ ?_ ?_ ?_ ?_ ?_ ?_ hn | refine ih (2 + 1) _ _ (by omega) ?_ ?_ ?_ ?_ ?_ ?_ ?_ ?_ hn
      · intro k q1 q2
        simp only [qza]
        (repeat rw [if_neg (by omega)])
        exact hT k q1 q2
      · simp only [qza, ↓reduceIte, reduceCtorEq, reduceCtorEq, t0]
      · simp only [qza, ↓reduceIte, Nat.reduceEqDiff, t1]
      · simp only [qza, ↓reduceIte, Nat.reduceEqDiff, t9]
      · simp only [qza, ↓reduceIte, Nat.reduceAdd, Nat.zero_add]
      · simp only [qza, ↓reduceIte, Nat.reduceAdd, Nat.reduceMul, Nat.zero_add, cSeq, bSeq, e1]
      · simp only [qza, ↓reduceIte, Nat.reduceAdd, Nat.reduceLT, Nat.zero_add, cSeg, segP, zP]
      · intro k q1 q2
        simp only [qza, Ne.symm q1, Ne.symm q2, if_false]
        exact hh k q1 q2
end
end Go.VL.Mk
