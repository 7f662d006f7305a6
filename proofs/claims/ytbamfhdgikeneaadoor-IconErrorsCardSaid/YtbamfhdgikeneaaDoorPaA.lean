import Derived.Test.YtbamfhdgikeneaaDoorWiA
import Derived.Test.YtbamfhdgikeneaaDoorErB
import Derived.Test.YtbamfhdgikeneaaDoorMkB
/- Chapter 16: palettes. -/
namespace Go.VL.Pal
open Go.FR Go.IR Go.VL Go.VL.Color
noncomputable section
set_option linter.unusedSimpArgs false
set_option linter.unusedVariables false
set_option maxRecDepth 100000
set_option maxHeartbeats 1000000
abbrev E := lookE envL
theorem cCl_len (c : Cl) : (cCl c).length = 4 := rfl
def idxS : List Cl → Cl → Nat → Int
  | [], _, _ => -1
  | x :: l, c, k => if c = x then k else idxS l c (k + 1)

theorem index_loop (Gl : xzB) (c : Cl) (l : List Cl) (hl : l.length < 1000000) (r : Int) (K : AEx → VF → VH → Prop)
    (hK0 : ∀ T h, r = -1 → K (.exit 0) T h) (hK1 : ∀ T h, qzA T 4 = some (.int .i64 r) → K .ret T h) :
    ∀ (d i : Nat) (T : VF) (h : VH), d + i = l.length → idxS (l.drop i) c i = r → qzA T 0 = some (.fsl (xzP cCl l) l.length 4) → qzA T 3 = some (.ptr 0 0) → qzA T 7 = some (.int .i64 l.length) → qzA T 8 = some (.int .i64 i) → qzA h.l 0 = some (some (.cells (cCl c) false)) →
      wp E Gl (.loop c_slices_Index__api_Color_api_Color_l0) T h K := by
  intro d
  induction d with
  | zero =>
    intro i T h hd hr t0 t3 t7 t8 h0'
    obtain rfl : i = l.length := by omega
    refine xzy c_slices_Index__api_Color_api_Color_l0.eq_1 ?_
    simp only [qzz, qzp, xzw, qzq, qzF, xzg, qzw, qzn, qzj, xzm, xzh, qzf, qzd, qze, qzo, xzi, xze, xzG, qzc, qzb, qzg, qzh, xzn, qzk, qzl, qzs, qza, qzt, qzv, qzy, qzN, qzD, qzE, qzL, qzK, toA, ofA, FR.pop, abin, intBin, qzi, countN, xzA, xzE, xzR, xzz, xzF, xzV, xzW, ↓reduceIte, List.drop_zero, List.append_nil, List.contains_nil, Nat.reduceEqDiff, Nat.zero_add, and_true, true_and, Bool.and_self, Bool.and_true, Bool.not_false, Bool.false_eq_true, decide_false, forall_const, false_implies, t3, t7, t8, Int.lt_irrefl]
    refine hK0 _ _ ?_
    rw [← hr, List.drop_length]; rfl
  | succ d ih =>
    intro i T h hd hr t0 t3 t7 t8 h0'
    refine xzy c_slices_Index__api_Color_api_Color_l0.eq_1 ?_
    have hlt : i < l.length := by omega
    have c1 : (i : Int) < l.length := by omega
    obtain ⟨x, hx⟩ : ∃ x, l[i]? = some x := ⟨l[i], List.getElem?_eq_getElem hlt⟩
    have p1 := flat_le cCl_len hx
    have p2 := flat_at cCl_len hx
    have w : IntKind.i64.wrap ((i : Int) + 1) = ((i + 1 : Nat) : Int) := by rw [xzl (by omega) (by omega)]; rfl
    rw [drop_at hx, idxS] at hr
    have b : ∀ x y : Nat, ((x : Int) == (y : Int)) = decide (x = y) := fun x y => by
      by_cases e : x = y <;> simp [e] <;> omega
    by_cases e : c = x
    · rw [if_pos e] at hr
      subst e
      simp only [qzz, qzp, xzw, qzq, qzF, xzg, qzB, qzw, qzn, qzj, xzm, qzT, qzZ, xzd, xzt, xzh, xzK, qzf, qzd, qze, qzo, xzX, xzi, xze, xzx, xzG, qzc, qzm, qzb, qzg, qzh, xzn, xzq, qzk, qzl, qzs, qza, qzt, qzv, qzy, xzf, qzN, qzD, xzH, xzI, yzg, yzd, eqInt, qzE, cv, qzL, qzK, toA, ofA, FR.pop, abin, intBin, qzi, countN, xzA, xzE, xzR, xzz, xzF, xzV, xzW, xzO, ↓reduceIte, Option.getD_some, Option.isSome_some, List.getElem?_cons_zero, List.getElem?_cons_succ, List.length_cons, List.length_nil, List.drop_zero, List.take_succ_cons, List.take_zero, List.append_nil, List.contains_nil, Nat.reduceAdd, Nat.reduceEqDiff, reduceCtorEq, Nat.reduceLeDiff, Nat.zero_add, and_self, and_true, true_and, Bool.and_self, Bool.not_false, Bool.false_eq_true, beq_self_eq_true, decide_true, forall_const, false_implies, Bool.true_eq_false, reduceCtorEq, cCl, t0, t3, t7, t8, c1, hlt, p1, p2, h0']
      refine hK1 _ _ ?_
      simp only [qza, ↓reduceIte, hr]
    · rw [if_neg e] at hr
      have ne : ¬ (c.r = x.r ∧ c.g = x.g ∧ c.b = x.b ∧ c.a = x.a) := fun h => e (by cases c; cases x; simp at h; simp [h])
      by_cases e1 : c.r = x.r <;> by_cases e2 : c.g = x.g <;> by_cases e3 : c.b = x.b <;> by_cases e4 : c.a = x.a
      · exact absurd ⟨e1, e2, e3, e4⟩ ne
      all_goals
        simp only [qzz, qzp, xzw, qzq, qzF, xzg, qzB, qzw, qzn, qzj, xzm, qzT, qzZ, xzd, xzt, xzh, xzK, qzf, qzd, qze, qzo, xzX, xzi, xze, xzx, xzG, qzc, qzm, qzb, qzg, qzh, xzn, xzq, qzk, qzl, qzs, qza, qzt, qzv, qzy, xzf, qzN, qzD, xzH, xzI, yzg, yzd, eqInt, qzE, cv, qzL, qzK, toA, ofA, FR.pop, abin, intBin, qzi, countN, xzA, xzE, xzR, xzz, xzF, xzV, xzW, xzO, ↓reduceIte, Option.getD_some, Option.isSome_some, List.getElem?_cons_zero, List.getElem?_cons_succ, List.length_cons, List.length_nil, List.drop_zero, List.take_succ_cons, List.take_zero, List.append_nil, List.contains_nil, Nat.reduceAdd, Nat.reduceEqDiff, reduceCtorEq, Nat.reduceLeDiff, Nat.zero_add, and_self, and_true, true_and, Bool.and_self, Bool.not_false, Bool.false_eq_true, beq_self_eq_true, decide_true, decide_false, forall_const, false_implies, Bool.true_eq_false, reduceCtorEq, cCl, t0, t3, t7, t8, c1, hlt, p1, p2, h0', b, e1, e2, e3, e4, w]
        refine ih (i + 1) _ _ (by omega) hr ?_ ?_ ?_ ?_ h0'
        · simp only [qza, ↓reduceIte, reduceCtorEq, reduceCtorEq, t0]
        · simp only [qza, ↓reduceIte, Nat.reduceEqDiff, t3]
        · simp only [qza, ↓reduceIte, Nat.reduceEqDiff, t7]
        · simp only [qza, ↓reduceIte]

theorem index_ok (Gl : xzB) (c : Cl) (l : List Cl) (hl : l.length < 1000000) : xzS E Gl f_slices_Index__api_Color_api_Color [.fsl (xzP cCl l) l.length 4, .agg (cCl c)] (.int .i64 (idxS l c 0)) := by
  refine xzu (xzj E_slices_Index__api_Color_api_Color ?_)
  unfold c_slices_Index__api_Color_api_Color r_slices_Index__api_Color_api_Color
  simp only [xzQ]
  simp only [qzp, qzq, qzF, qzj, qzf, qzd, qze, qzo, xzc, qzc, qzH, qzb, qzg, qzh, qzY, qzk, qzl, qzs, qza, qzt, qzv, qzy, xzr, xzk, yzc, cv, VN.at, VH.push, h0, VV.cells, ntV, ↓reduceIte, reduceCtorEq, Nat.zero_add, reduceCtorEq, cCl]
  refine index_loop Gl c l hl (idxS l c 0) _ ?_ ?_ l.length 0 _ _ (by omega) rfl ?_ ?_ ?_ ?_ ?_
  · intro T h e
    simp only [qzp, qzq, qzB, qzj, xzD, qzf, qzd, qze, qzo, qzC, qzc, qzb, qzg, qzh, qzk, qzl, qzs, qza, qzt, qzv, qzy, cv, qzW, qzM, qzX, qzV, ↓reduceIte, e]
    exact qzx rfl
  · intro T h t4
    simp only [qzT, xzd, qzC, qzW, qzM, qzX, qzV, t4]
    exact qzx rfl
  all_goals simp only [qza, ↓reduceIte, Nat.reduceEqDiff, reduceCtorEq, reduceCtorEq, cCl]
  rfl

theorem acc_shut {α : Type} {base : Nat} {h : VH} {j : Nat} {f : α → List VV} {l : List α} {esz : Nat} {v : VV} (a : yza base h j f l esz v) (hf : ∀ a, (f a).length = esz) (hc : ∀ a, closedL (f a) = true) : ∃ a0, shut h v = some a0 ∧ subV a0 (.fsl (xzP f l) l.length esz) := by
  rcases a with ⟨rfl, rfl⟩ | ⟨rfl, a3, a4, a5⟩
  · exact ⟨.nilS, rfl, .inr ⟨esz, rfl⟩⟩
  · have hcl := closedL_flat hc l
    obtain ⟨h1, h2⟩ := flat_all hf l
    refine ⟨.fsl (xzP f l) l.length esz, ?_, subV_refl _⟩
    simp only [shut, qzi, a3, Option.getD_some, hcl, Nat.zero_add, h1, capOK, List.drop_zero, h2, and_self, if_true]

/-- What a call leaves of the caller's blocks, but one list. -/
def Fr (h h' : VH) : Prop := (∀ k, k < h.next → qzA h'.l k = qzA h.l k) ∧ h.next ≤ h'.next

def addL (l : List Cl) (c : Cl) : List Cl := if 0 ≤ idxS l c 0 then l else if 256 ≤ l.length then l else l ++ [c]
def addK (l : List Cl) (c : Cl) : Int := if 0 ≤ idxS l c 0 then idxS l c 0 else if 256 ≤ l.length then -1 else l.length
def addB (l : List Cl) (c : Cl) : Bool := if 0 ≤ idxS l c 0 then true else if 256 ≤ l.length then false else true

end
end Go.VL.Pal

/- Chapter 16: colors of few; the document's own search. -/
namespace Go.VL.Pal
open Go.FR Go.IR Go.VL Go.VL.Color Go.VL.Wind
noncomputable section
set_option linter.unusedSimpArgs false
set_option linter.unusedVariables false
set_option maxRecDepth 100000
set_option maxHeartbeats 1000000

def colT : List Cl := [⟨255, 0, 0, 255⟩, ⟨0, 128, 0, 255⟩, ⟨0, 0, 200, 100⟩, ⟨10, 20, 30, 1⟩, ⟨255, 255, 255, 255⟩, ⟨0, 0, 0, 0⟩, ⟨7, 0, 0, 254⟩]
def colS (l : List Int) (at_ : Nat) : Cl := colT.getD (nextS l at_ 7).toNat ⟨0, 0, 0, 0⟩
theorem colT_at (k : Nat) (h : k < 7) : colT[k]? = some (colT.getD k ⟨0, 0, 0, 0⟩) := by
  rw [List.getD_eq_getElem?_getD, List.getElem?_eq_getElem (by simpa [colT] using h)]; rfl
theorem color_ok (Gl : xzB) (l : List Int) (at_ : Nat) (i : Nat) (hl : l.length < 4611686018427387904) (ha : at_ < 1000000) :
    StOk Go.VL.Pal.E Gl f_glyphicmake_Color [.ptr i 0] [(i, bSeq l at_)] (.agg (cCl (colS l at_))) [(i, bSeq l (at_ + 1))] := by
  refine st1_intro fun nx hn => xzj E_glyphicmake_Color ?_
  unfold c_glyphicmake_Color r_glyphicmake_Color
  simp only [xzQ]
  have e1 : ¬ nx = i := by omega
  have e2 : ¬ i = nx := by omega
  have e3 : ¬ nx + 1 = i := by omega
  have e4 : ¬ i = nx + 1 := by omega
  have e5 : ¬ nx = nx + 1 := by omega
  have e6 : ¬ nx + 1 = nx := by omega
  have n1 := next_in l at_ 7 (by omega)
  obtain ⟨k, hk⟩ : ∃ k : Nat, nextS l at_ 7 = k := ⟨(nextS l at_ 7).toNat, by omega⟩
  have hk7 : k < 7 := by omega
  have hc : colS l at_ = colT.getD k ⟨0, 0, 0, 0⟩ := by unfold colS; rw [hk, Int.toNat_natCast]
  have p1 := flat_le cCl_len (colT_at k hk7)
  have p2 := flat_at cCl_len (colT_at k hk7)
  simp only [qzp, qzq, qzj, qzf, qzd, qze, qzo, xzc, qzJ, qzc, qzH, qzb, qzg, qzh, qzY, qzr, qzk, qzl, qzs, qza, qzt, qzv, qzy, xzk, xzs, xzv, qzS, cvs, cv, VN.at, VH.push, VV.cells, ntV, ↓reduceIte, List.length_cons, List.length_nil, List.drop_succ_cons, List.drop_zero, List.take_succ_cons, List.take_zero, List.append_nil, List.nil_append, List.cons_append, Nat.reduceAdd, Nat.reduceDiv, Nat.reduceEqDiff, reduceCtorEq, Nat.reduceLeDiff, Nat.zero_add, and_self, reduceCtorEq, cCl]
  have tab : [VV.int .u8 255, VV.int .u8 0, VV.int .u8 0, VV.int .u8 255, VV.int .u8 0, VV.int .u8 128, VV.int .u8 0, VV.int .u8 255, VV.int .u8 0, VV.int .u8 0, VV.int .u8 200, VV.int .u8 100, VV.int .u8 10, VV.int .u8 20, VV.int .u8 30, VV.int .u8 1, VV.int .u8 255, VV.int .u8 255, VV.int .u8 255, VV.int .u8 255, VV.int .u8 0, VV.int .u8 0, VV.int .u8 0, VV.int .u8 0, VV.int .u8 7, VV.int .u8 0, VV.int .u8 0, VV.int .u8 254] = xzP cCl colT := rfl
  rw [tab]
  refine xzC (next_ok Gl l at_ 7 i hl (by omega) (by omega) (by omega)) (by simp only [qza, ↓reduceIte, e1, e3]) rfl rfl ?_
  rw [hk, hc]
  simp only [qzB, qzj, qzf, qzd, qze, qzo, qzG, qzJ, qzu, qzC, qzc, qzm, qzb, qzP, qzg, qzh, qzO, qzk, qzl, qzs, qza, qzt, qzv, xzf, qzN, qzD, qzS, qzR, xza, qzE, VH.set, qzi, VV.cells, ntV, qzW, qzM, qzX, qzV, qzQ, xzp, xzO, ↓reduceIte, Option.getD_some, List.length_cons, List.length_nil, List.drop_succ_cons, List.drop_zero, List.take_succ_cons, List.take_zero, List.append_nil, List.nil_append, List.head?_cons, Nat.reduceAdd, Nat.reduceEqDiff, Nat.reduceLeDiff, Nat.zero_add, and_self, cCl, e1, e2, e4, e6, hk7, p1, p2]

theorem find_loop (Gl : xzB) (c : Cl) (l : List Cl) (hl : l.length < 1000000) (r : Int) (K : AEx → VF → VH → Prop)
    (hK0 : ∀ T h, r = -1 → K (.exit 0) T h) (hK1 : ∀ T h, qzA T 4 = some (.int .i64 r) → K .ret T h) :
    ∀ (d i : Nat) (T : VF) (h : VH), d + i = l.length → idxS (l.drop i) c i = r → qzA T 0 = some (.fsl (xzP cCl l) l.length 4) → qzA T 3 = some (.ptr 0 0) → qzA T 5 = some (.int .i64 i) → qzA h.l 0 = some (some (.cells (cCl c) false)) →
      wp Go.VL.Pal.E Gl (.loop c_glyphicref12_Find_l0) T h K := by
  intro d
  induction d with
  | zero =>
    intro i T h hd hr t0 t3 t5 h0'
    obtain rfl : i = l.length := by omega
    refine xzy c_glyphicref12_Find_l0.eq_1 ?_
    simp only [qzz, qzp, xzw, qzq, qzF, xzg, qzw, qzn, qzj, xzm, xzh, qzf, qzd, qze, qzo, xzi, xze, xzx, qzc, qzb, qzg, qzh, xzn, xzq, qzk, qzl, qzs, qza, qzt, qzv, qzy, xzf, xzr, qzL, qzK, toA, ofA, FR.pop, abin, intBin, countN, xzO, ↓reduceIte, Nat.reduceEqDiff, reduceCtorEq, true_and, Bool.false_eq_true, decide_false, forall_const, false_implies, reduceCtorEq, t0, t5, Int.lt_irrefl]
    refine hK0 _ _ ?_
    rw [← hr, List.drop_length]; rfl
  | succ d ih =>
    intro i T h hd hr t0 t3 t5 h0'
    refine xzy c_glyphicref12_Find_l0.eq_1 ?_
    have hlt : i < l.length := by omega
    have c1 : (i : Int) < l.length := by omega
    obtain ⟨x, hx⟩ : ∃ x, l[i]? = some x := ⟨l[i], List.getElem?_eq_getElem hlt⟩
    have p1 := flat_le cCl_len hx
    have p2 := flat_at cCl_len hx
    have w : IntKind.i64.wrap ((i : Int) + 1) = ((i + 1 : Nat) : Int) := by rw [xzl (by omega) (by omega)]; rfl
    rw [drop_at hx, idxS] at hr
    simp only [qzz, qzp, xzw, qzq, qzF, xzg, qzw, qzn, qzj, xzm, xzh, qzf, qzd, qze, qzo, xzi, xze, xzx, xzG, xzN, qzc, qzm, qzb, qzg, qzh, xzn, xzq, qzr, qzk, qzl, qzs, qza, qzt, qzv, qzy, xzf, xzr, qzN, qzD, qzE, qzL, qzK, toA, ofA, FR.pop, abin, intBin, qzi, countN, xzA, xzE, xzR, xzz, xzF, xzV, xzW, xzO, ↓reduceIte, Option.getD_some, Option.isSome_some, List.length_cons, List.length_nil, List.drop_zero, List.take_succ_cons, List.take_zero, List.append_nil, List.contains_nil, Nat.reduceAdd, Nat.reduceEqDiff, reduceCtorEq, Nat.reduceLeDiff, Nat.zero_add, and_self, and_true, true_and, Bool.and_self, Bool.not_false, decide_true, forall_const, false_implies, Bool.true_eq_false, reduceCtorEq, cCl, t0, t3, t5, c1, hlt, p1, p2, h0']
    refine qzU (same_ok Gl x c) rfl rfl ?_
    by_cases e : c = x
    · rw [if_pos e] at hr
      subst e
      have de : decide (c = c) = true := by simp
      simp only [qzz, qzp, qzq, qzB, qzw, qzn, qzj, qzT, qzZ, xzd, xzt, xzK, qzf, qzd, qze, qzo, xzX, yzf, qzc, qzb, qzg, qzh, qzk, qzl, qzs, qza, qzt, qzv, qzy, cv, qzL, qzK, toA, ofA, FR.pop, abin, intBin, ↓reduceIte, Option.map_some, List.append_nil, Nat.reduceEqDiff, and_true, decide_true, forall_const, false_implies, Bool.true_eq_false, t5]
      refine hK1 _ _ ?_
      simp only [qza, ↓reduceIte, hr]
    · rw [if_neg e] at hr
      have de : decide (x = c) = false := by simp; exact fun q => e q.symm
      simp only [qzz, qzp, qzq, qzB, qzw, qzn, qzj, qzT, qzZ, xzd, xzt, xzK, qzf, qzd, qze, qzo, xzX, yzf, qzc, qzb, qzg, qzh, qzk, qzl, qzs, qza, qzt, qzv, qzy, cv, qzL, qzK, toA, ofA, FR.pop, abin, intBin, ↓reduceIte, Option.map_some, List.append_nil, Nat.reduceEqDiff, true_and, Bool.false_eq_true, forall_const, false_implies, t5, de, w]
      refine ih (i + 1) _ _ (by omega) hr ?_ ?_ ?_ h0'
      · simp only [qza, ↓reduceIte, reduceCtorEq, reduceCtorEq, t0]
      · simp only [qza, ↓reduceIte, Nat.reduceEqDiff, t3]
      · simp only [qza, ↓reduceIte]

theorem refFind_ok (Gl : xzB) (c : Cl) (l : List Cl) (hl : l.length < 1000000) : xzS Go.VL.Pal.E Gl f_glyphicref12_Find [.fsl (xzP cCl l) l.length 4, .agg (cCl c)] (.int .i64 (idxS l c 0)) := by
  refine xzu (xzj E_glyphicref12_Find ?_)
  unfold c_glyphicref12_Find r_glyphicref12_Find
  simp only [xzQ]
  simp only [qzp, qzq, qzF, qzj, qzf, qzd, qze, qzo, xzc, qzc, qzH, qzb, qzg, qzh, qzY, qzk, qzl, qzs, qza, qzt, qzv, qzy, xzk, yzc, cv, VN.at, VH.push, h0, VV.cells, ntV, ↓reduceIte, reduceCtorEq, Nat.zero_add, reduceCtorEq, cCl]
  refine find_loop Gl c l hl (idxS l c 0) _ ?_ ?_ l.length 0 _ _ (by omega) rfl ?_ ?_ ?_ ?_
  · intro T h e
    simp only [qzp, qzq, qzB, qzj, xzD, qzf, qzd, qze, qzo, qzC, qzc, qzb, qzg, qzh, qzk, qzl, qzs, qza, qzt, qzv, qzy, cv, qzW, qzM, qzX, qzV, ↓reduceIte, e]
    exact qzx rfl
  · intro T h t4
    simp only [qzT, xzd, qzC, qzW, qzM, qzX, qzV, t4]
    exact qzx rfl
  all_goals simp only [qza, ↓reduceIte, Nat.reduceEqDiff, reduceCtorEq, reduceCtorEq, cCl]
  rfl

end
end Go.VL.Pal

/- A color of an icon. -/
namespace Go.VL.Mk
open Go.FR Go.IR Go.VL Go.VL.Color Go.VL.Wind Go.VL.Ic Go.VL.Pal
noncomputable section
set_option linter.unusedSimpArgs false
set_option linter.unusedVariables false
set_option maxRecDepth 100000
set_option maxHeartbeats 1000000

def addI (l : List Cl) (c : Cl) : List Cl := if 0 ≤ idxS l c 0 then l else l ++ [c]
def addP (l : List Cl) (c : Cl) : Int := if 0 ≤ idxS l c 0 then idxS l c 0 else l.length
theorem addI_len (l : List Cl) (c : Cl) : l.length ≤ (addI l c).length ∧ (addI l c).length ≤ l.length + 1 := by
  unfold addI; split <;> simp
theorem addi_run (Gl : xzB) (c : Cl) (l : List Cl) (hl : l.length < 100000) (base : Nat) (h : VH) (i j : Nat) (v x y z u : VV) (hb : base ≤ h.next) (hi : qzA h.l i = some (some (.cells [x, y, z, v, u] false))) (ha : yza base h j cCl l 4 v) (hin : i < h.next) (hij : i ≠ j ∨ v = .nilS) :
    CallsV Go.VL.Er.E Gl f_glyphicmake_add [.ptr i 0, .agg (cCl c)] h (fun r h' => r = .int .i64 (addP l c) ∧ ∃ j' v', qzA h'.l i = some (some (.cells [x, y, z, v', u] false)) ∧ yza base h' j' cCl (addI l c) 4 v' ∧ (∀ k, k < h.next → k ≠ i → (k ≠ j ∨ v = .nilS) → qzA h'.l k = qzA h.l k) ∧ h.next ≤ h'.next ∧ (j' = j ∧ v' = v ∨ h.next ≤ j')) := by
  refine xzj E_glyphicmake_add ?_
  unfold c_glyphicmake_add r_glyphicmake_add
  simp only [xzQ]
  have e1 : ¬ h.next = i := by omega
  simp only [qzp, xzw, qzq, qzj, qzf, qzd, qze, qzo, xzc, xzi, xze, xzx, xzG, xzN, qzc, qzm, qzH, qzb, qzg, qzh, qzY, xzn, xzq, qzr, qzk, qzl, qzs, qza, qzt, qzv, qzy, qzI, xzL, qzN, qzD, xzk, yzc, qzE, cv, VN.at, VH.push, qzi, VV.cells, ntV, countN, xzA, xzE, xzR, xzz, xzF, xzV, xzW, ↓reduceIte, Option.getD_some, Option.isSome_some, List.getElem?_cons_zero, List.getElem?_cons_succ, List.length_cons, List.length_nil, List.drop_zero, List.take_succ_cons, List.take_zero, List.append_nil, List.contains_nil, Nat.reduceAdd, Nat.reduceEqDiff, reduceCtorEq, Nat.reduceLeDiff, Nat.zero_add, and_self, true_and, Bool.and_self, Bool.not_false, reduceCtorEq, cCl, e1, hi]
  have acc2 := yza.ext (h' := h.push (.cells (cCl c) false)) ha (Nat.le_succ _) (fun g1 g2 => by simp only [VH.push, qza]; rw [if_neg (by omega)])
  obtain ⟨a0, s1, s2⟩ := acc_shut acc2 Pal.cCl_len (fun _ => rfl)
  refine call_plain_sub (a0 := [a0, .agg (cCl c)]) (refFind_ok Gl c l (by omega)) ?_ ⟨_, _, rfl, s2, subL_refl _⟩ rfl ?_
  · have s1' : shut (VH.mk ((h.next, some (.cells (cCl c) false)) :: h.l) (h.next + 1)) v = some a0 := s1
    simp only [shutL, s1']; rfl
  unfold addI addP
  by_cases k1 : 0 ≤ idxS l c 0
  · have k1' : idxS l c 0 ≥ 0 := k1
    simp only [if_pos k1]
    simp only [qzz, qzp, xzw, qzq, qzB, qzw, qzn, qzj, qzT, qzf, qzd, qze, qzo, xzX, xzi, xze, xzx, xzG, yzf, qzC, qzc, qzb, qzg, qzh, xzn, xzq, qzk, qzl, qzs, qza, qzt, qzv, qzy, qzI, xzL, qzN, qzD, qzE, cv, qzL, qzK, toA, ofA, FR.pop, abin, intBin, qzi, qzW, qzM, qzX, qzV, countN, xzA, xzE, xzR, xzz, xzF, xzV, xzW, ↓reduceIte, Option.map_some, List.append_nil, List.contains_nil, Nat.reduceEqDiff, reduceCtorEq, Nat.zero_add, and_true, true_and, Bool.and_self, Bool.and_true, Bool.not_false, decide_true, forall_const, false_implies, Bool.true_eq_false, reduceCtorEq, k1']
    refine ⟨j, v, by simp only [e1, if_false]; exact hi, acc2, fun k hk _ _ => ?_, Nat.le_succ _, .inl ⟨rfl, rfl⟩⟩
    rw [if_neg (by omega)]
  · have k1' : ¬ idxS l c 0 ≥ 0 := k1
    simp only [if_neg k1]
    simp only [qzz, qzp, xzw, qzq, qzB, qzw, qzn, qzj, qzT, qzf, qzd, qze, qzo, xzX, xzi, xze, xzx, xzG, yze, xzN, yzf, qzC, qzc, qzm, qzH, qzb, qzg, qzh, xzn, xzq, xzY, qzk, qzl, qzs, qza, qzt, qzv, qzy, qzI, xzL, qzN, qzD, xzk, xzv, qzS, qzE, cvs, cv, qzL, qzK, toA, ofA, FR.pop, abin, intBin, VN.at, VH.push, qzi, VV.cells, ntV, qzW, qzM, qzX, qzV, countN, xzA, xzE, xzR, xzz, xzF, xzV, xzW, ↓reduceIte, Option.getD_some, Option.isSome_some, Option.map_some, List.getElem?_cons_zero, List.getElem?_cons_succ, List.length_cons, List.length_nil, List.drop_succ_cons, List.drop_zero, List.take_succ_cons, List.take_zero, List.append_nil, List.nil_append, List.contains_nil, Nat.reduceAdd, Nat.reduceDiv, Nat.reduceLT, Nat.reduceEqDiff, reduceCtorEq, Nat.reduceLeDiff, Nat.zero_add, and_self, true_and, Bool.and_self, Bool.not_false, Bool.false_eq_true, decide_false, forall_const, false_implies, reduceCtorEq, k1', e1, hi]
    have acc4 : yza base ⟨(h.next + 1, some (VB.cells (cCl c) false)) :: (h.next, some (VB.cells (cCl c) false)) :: h.l, h.next + 1 + 1⟩ j cCl l 4 v := yza.ext (h := h) ha (by show h.next ≤ h.next + 1 + 1; omega) (fun q1 q2 => by simp only [qza]; rw [if_neg (by omega), if_neg (by omega)])
    refine wpW_acc (a := c) acc4 (by simp only [qza, srcV, winV, qzi, ↓reduceIte, Option.getD_some, List.length_cons, List.length_nil, List.drop_zero, List.take_succ_cons, List.take_zero, Nat.reduceAdd, Nat.reduceMul, reduceCtorEq, Nat.reduceLeDiff, Nat.zero_add, true_or, reduceCtorEq, true_or, cCl] <;> first | rfl | exact ⟨rfl, rfl⟩ | exact qzx rfl) Pal.cCl_len (by omega) (by show base ≤ h.next + 1 + 1; omega) (by omega) (by omega) ?_
    intro h3 g1 g2 q3
    simp only at g1 g2 q3
    have r0 : ∀ k, k < h.next → (k ≠ j ∨ v = VV.nilS) → qzA h3.l k = qzA h.l k := fun k hk hj => by
      rw [g2 k (by omega) hj]; simp only [qza]; rw [if_neg (by omega), if_neg (by omega)]
    have ri := (r0 i hin hij).trans hi
    obtain ⟨_, q4, _, q5⟩ := q3.some (by simp)
    have e5 : ¬ i = h.next + 1 + 1 := by omega
    have wl : IntKind.i64.wrap (((l.length + 1 : Nat) : Int) - 1) = (l.length : Int) := by rw [xzl (by omega) (by omega)]; omega
    simp only [qzp, qzq, qzB, qzj, qzf, qzd, qze, qzo, qzG, xzX, xzi, xze, xzx, xzN, yzf, qzC, qzc, qzm, qzb, qzP, qzg, qzh, xzn, xzq, qzO, qzk, qzl, qzs, qza, qzt, qzv, qzy, qzI, xzr, xzL, qzN, qzD, qzS, qzR, xza, qzE, cv, qzL, qzK, toA, ofA, FR.pop, abin, intBin, VH.set, qzi, VV.cells, ntV, qzW, qzM, qzX, qzV, qzQ, xzp, ↓reduceIte, Option.getD_some, Option.map_some, List.getElem?_cons_zero, List.getElem?_cons_succ, List.length_cons, List.length_nil, List.drop_succ_cons, List.drop_zero, List.take_succ_cons, List.take_zero, List.append_nil, List.nil_append, List.cons_append, List.head?_cons, Nat.reduceAdd, Nat.reduceEqDiff, reduceCtorEq, Nat.reduceLeDiff, Nat.zero_add, and_self, true_and, reduceCtorEq, ri, wl]
    refine ⟨h.next + 1 + 1, _, rfl, .inr ⟨by simp, by simp only [qza, e5, if_false]; exact q4, by omega, q5⟩, fun k hk hne hj => ?_, by omega, .inr (by omega)⟩
    rw [if_neg (by omega)]; exact r0 k hk (by first | exact hj | (simp at hj ⊢; exact hj))
end
end Go.VL.Mk
