/- Icons compared. (By wip/gen_same.py.) -/
import Derived.Test.YtbamfhdgikeneaaDoorIcD
import Derived.Test.YtbamfhdgikeneaaDoorEnQ
import Derived.Test.YtbamfhdgikeneaaDoorMkB
namespace Go.VL.Sm
open Go.FR Go.IR Go.VL Go.VL.Color Go.VL.Wind Go.VL.Ic
noncomputable section
set_option linter.unusedSimpArgs false
set_option linter.unusedVariables false
set_option maxRecDepth 100000
set_option maxHeartbeats 1000000

theorem pt_ok (Gl : xzt) (p q : Pt) : xzH Go.VL.Pal.E Gl f_glyphicref_SamePoint [.agg (cPt p), .agg (cPt q)] (.bool (decide (p = q))) := by
  have h := Mk.samePt_ok Gl p q
  have e : decide (p.x = q.x ∧ p.y = q.y) = decide (p = q) := by
    cases p; cases q; simp
  rw [← e]; exact h
theorem seg_ok (Gl : xzt) (s t : Seg) : xzH Go.VL.Pal.E Gl f_glyphicref_SameSeg [.agg (cSeg s), .agg (cSeg t)] (.bool (decide (s = t))) := by
  refine xzw (xzf E_glyphicref_SameSeg ?_)
  unfold c_glyphicref_SameSeg r_glyphicref_SameSeg
  simp only [xzB]
  have n0 : natV (VV.int .i64 0) = some 0 := rfl
  have n1 : natV (VV.int .i64 1) = some 1 := rfl
  have n2 : natV (VV.int .i64 2) = some 2 := rfl
  obtain ⟨k, p, q, r⟩ := s
  obtain ⟨k', p', q', r'⟩ := t
  by_cases e0 : k = k'
  case neg =>
    have d0 : (k == k') = false := by simp [e0]
    have d : decide (Seg.mk k p q r = Seg.mk k' p' q' r') = false := by simp [e0]
    rw [d]
    simp only [qzk, qzo, qzH, qzi, qzf, qze, qzd, xzl, qzp, qzF, qzX, qzK, qzc, qzj, qzE, qzb, qzg, qzh, qzO, qzl, qzm, qzt, qza, qzs, qzu, qzx, xzj, qzG, qzL, qzB, xzh, xzF, qzA, cv, qzI, qzJ, toA, ofA, FR.pop, abin, intBin, VN.at, VH.push, qzq, h0, VV.cells, ntV, qzQ, qzM, qzT, qzP, qzS, ↓reduceIte, Option.getD_some, List.getElem?_cons_zero, Nat.reduceAdd, Nat.reduceEqDiff, reduceCtorEq, Nat.add_zero, Nat.zero_add, Bool.false_eq_true, beq_true, reduceCtorEq, cSeg, d0] <;> first | rfl | exact ⟨rfl, rfl⟩ | exact qzr rfl
  subst e0
  simp only [qzk, qzo, qzi, qzf, qze, qzd, qzp, qzF, qzX, qzN, qzc, qzj, qzE, qzb, qzg, qzh, qzO, qzD, qzl, qzm, qzt, qza, qzs, qzu, qzx, qzG, iAddrAV, qzL, qzB, xzh, xzF, qzA, cv, qzI, qzJ, toA, ofA, FR.pop, abin, intBin, VN.at, VH.push, qzq, h0, VV.cells, ntV, ↓reduceIte, Option.getD_some, List.getElem?_cons_zero, List.length_cons, List.length_nil, List.drop_succ_cons, List.drop_zero, List.take_succ_cons, List.take_zero, Nat.reduceAdd, Nat.reduceMul, Nat.reduceLT, Nat.reduceEqDiff, reduceCtorEq, Nat.reduceLeDiff, Nat.add_zero, Nat.zero_add, beq_self_eq_true, reduceCtorEq, cSeg, n0]
  refine qzZ (pt_ok Gl p p') rfl rfl ?_
  by_cases e1 : p = p'
  case neg =>
    have d0 : decide (p = p') = false := by simp [e1]
    have d : decide (Seg.mk k p q r = Seg.mk k p' q' r') = false := by simp [e1]
    rw [d, d0]
    simp only [qzH, qzi, qzf, qze, qzd, xzl, qzp, qzy, qzK, qzc, qzb, qzg, qzh, qzl, qzm, qzt, qza, qzs, qzu, qzx, xzj, cv, qzQ, qzM, qzT, qzP, qzS, ↓reduceIte, Nat.reduceEqDiff, Bool.false_eq_true, beq_true] <;> first | rfl | exact ⟨rfl, rfl⟩ | exact qzr rfl
  subst e1
  have d1 : decide (p = p) = true := by simp
  rw [d1]
  simp only [qze, qzd, qzp, qzF, qzN, qzy, qzc, qzj, qzb, qzg, qzh, qzD, qzl, qzm, qzt, qza, qzs, qzu, qzx, xzj, qzG, iAddrAV, qzL, qzB, qzA, cv, qzq, ↓reduceIte, Option.getD_some, List.length_cons, List.length_nil, List.drop_succ_cons, List.drop_zero, List.take_succ_cons, List.take_zero, Nat.reduceAdd, Nat.reduceMul, Nat.reduceLT, Nat.reduceEqDiff, reduceCtorEq, Nat.reduceLeDiff, Nat.zero_add, beq_self_eq_true, reduceCtorEq, n1]
  refine qzZ (pt_ok Gl q q') rfl rfl ?_
  by_cases e2 : q = q'
  case neg =>
    have d0 : decide (q = q') = false := by simp [e2]
    have d : decide (Seg.mk k p q r = Seg.mk k p q' r') = false := by simp [e2]
    rw [d, d0]
    simp only [qzH, qzi, qzf, qze, qzd, xzl, qzp, qzy, qzK, qzc, qzb, qzg, qzh, qzl, qzm, qzt, qza, qzs, qzu, qzx, xzj, cv, qzQ, qzM, qzT, qzP, qzS, ↓reduceIte, Nat.reduceEqDiff, Bool.false_eq_true, beq_true] <;> first | rfl | exact ⟨rfl, rfl⟩ | exact qzr rfl
  subst e2
  have d2 : decide (q = q) = true := by simp
  rw [d2]
  simp only [qze, qzd, qzp, qzF, qzN, qzy, qzc, qzj, qzb, qzg, qzh, qzD, qzl, qzm, qzt, qza, qzs, qzu, qzx, xzj, qzG, iAddrAV, qzL, qzB, qzA, cv, qzq, ↓reduceIte, Option.getD_some, List.length_cons, List.length_nil, List.drop_succ_cons, List.drop_zero, List.take_succ_cons, List.take_zero, Nat.reduceAdd, Nat.reduceMul, Nat.reduceLT, Nat.reduceEqDiff, reduceCtorEq, Nat.reduceLeDiff, Nat.zero_add, beq_self_eq_true, reduceCtorEq, n2]
  refine qzZ (pt_ok Gl r r') rfl rfl ?_
  have d : decide (Seg.mk k p q r = Seg.mk k p q r') = decide (r = r') := by simp
  rw [d]
  simp only [qzH, qzi, qzf, qze, qzd, qzp, qzy, qzK, qzc, qzb, qzg, qzh, qzl, qzm, qzt, qza, qzs, qzu, qzx, xzj, cv, qzQ, qzM, qzT, qzP, ↓reduceIte, Nat.reduceEqDiff] <;> first | rfl | exact ⟨rfl, rfl⟩ | exact qzr rfl
def SizP (p : Path) : Prop := p.segs.length < 1000000
def SizC (c : Cmd) : Prop := c.paths.length < 1000000 ∧ ∀ p ∈ c.paths, SizP p

theorem segs_loop (Gl : xzt) (a b : List Seg) (hl : a.length < 1000000) (hab : a.length = b.length) (K : AEx → VF → VH → Prop)
    (hK0 : ∀ T h, a = b → K (.exit 0) T h) (hK1 : ∀ T h, a ≠ b → qzw T 4 = some (.bool false) → K .ret T h) :
    ∀ (d i : Nat) (T : VF) (h : VH), d + i = a.length → a.take i = b.take i → qzw T 0 = some (.fsl (xzk cSeg a) a.length 7) → qzw T 1 = some (.fsl (xzk cSeg b) b.length 7) → qzw T 5 = some (.int .i64 i) →
      wp Go.VL.Pal.E Gl (.loop c_glyphicref_SameSegs_l0) T h K := by
  intro d
  induction d with
  | zero =>
    intro i T h hd hr t0 t1 t5
    obtain rfl : i = a.length := by omega
    refine xzn c_glyphicref_SameSegs_l0.eq_1 ?_
    simp only [qzz, qzk, xzM, qzo, qzC, qzV, qzv, qzn, qzi, xzd, qzU, qzf, qze, qzd, qzp, xzr, xzp, xzD, qzc, qzb, qzg, qzh, xzx, xzy, qzl, qzm, qzt, qza, qzs, qzu, qzx, xzo, xzi, qzI, qzJ, toA, ofA, FR.pop, abin, intBin, countN, xzs, ↓reduceIte, Nat.reduceEqDiff, reduceCtorEq, true_and, Bool.false_eq_true, decide_false, forall_const, false_implies, reduceCtorEq, t0, t5, Int.lt_irrefl]
    refine hK0 _ _ ?_
    rw [List.take_length, hab, List.take_length] at hr
    exact hr
  | succ d ih =>
    intro i T h hd hr t0 t1 t5
    refine xzn c_glyphicref_SameSegs_l0.eq_1 ?_
    have hlt : i < a.length := by omega
    have hlt' : i < b.length := by omega
    have c1 : (i : Int) < a.length := by omega
    obtain ⟨x, hx⟩ : ∃ x, a[i]? = some x := ⟨a[i], List.getElem?_eq_getElem hlt⟩
    obtain ⟨y, hy⟩ : ∃ y, b[i]? = some y := ⟨b[i], List.getElem?_eq_getElem hlt'⟩
    have p1 := flat_le cSeg_len hx
    have p2 := flat_at cSeg_len hx
    have p3 := flat_le cSeg_len hy
    have p4 := flat_at cSeg_len hy
    have w : IntKind.i64.wrap ((i : Int) + 1) = ((i + 1 : Nat) : Int) := by rw [qzY (by omega) (by omega)]; rfl
    simp only [qzz, qzk, xzM, qzo, qzC, qzV, qzv, qzn, qzi, xzd, qzU, qzf, qze, qzd, qzp, xzr, xzp, xzD, xzT, xzN, qzc, qzj, qzb, qzg, qzh, xzx, xzy, qzD, qzl, qzm, qzt, qza, qzs, qzu, qzx, xzo, xzi, qzL, qzB, qzA, qzI, qzJ, toA, ofA, FR.pop, abin, intBin, countN, xzK, xzS, xzV, xzL, xzU, xzX, xzY, xzs, ↓reduceIte, List.append_nil, Nat.reduceEqDiff, reduceCtorEq, and_self, and_true, true_and, Bool.and_self, decide_true, forall_const, false_implies, Bool.true_eq_false, reduceCtorEq, cSeg, t0, t1, t5, c1, hlt, hlt', p1, p2, p3, p4]
    refine qzZ (seg_ok Gl x y) rfl rfl ?_
    by_cases e : x = y
    · subst e
      have de : decide (x = x) = true := by simp
      simp only [qzz, qzk, qzo, qzH, qzv, qzn, qzi, qzR, xzc, xze, xzm, xzA, qzf, qze, qzd, qzp, xzO, xzr, xzp, xzD, xzQ, qzc, qzb, qzg, qzh, xzx, xzy, qzl, qzm, qzt, qza, qzs, qzu, qzx, cv, qzI, qzJ, toA, ofA, FR.pop, abin, aun, intBin, ↓reduceIte, Option.map_some, List.append_nil, Nat.reduceEqDiff, true_and, Bool.not_true, Bool.false_eq_true, decide_true, forall_const, false_implies, t5, w]
      refine ih (i + 1) _ _ (by omega) (by rw [take_at hx, take_at hy, hr]) ?_ ?_ ?_
      · simp only [qza, ↓reduceIte, reduceCtorEq, reduceCtorEq, t0]
      · simp only [qza, ↓reduceIte, Nat.reduceEqDiff, t1]
      · simp only [qza, ↓reduceIte]
    · have de : decide (x = y) = false := by simp [e]
      simp only [qzz, qzk, qzo, qzH, qzv, qzn, qzi, qzR, xzc, xze, xzm, xzA, qzf, qze, qzd, qzp, xzO, xzr, xzp, xzD, xzQ, qzc, qzb, qzg, qzh, xzx, xzy, qzl, qzm, qzt, qza, qzs, qzu, qzx, cv, qzI, qzJ, toA, ofA, FR.pop, abin, aun, intBin, ↓reduceIte, Option.map_some, List.append_nil, Nat.reduceEqDiff, and_true, Bool.not_false, forall_const, false_implies, Bool.true_eq_false, t5, de]
      refine hK1 _ _ (fun q => e ?_) ?_
      · rw [q, hy] at hx; exact (Option.some.inj hx).symm
      · simp only [qza, ↓reduceIte]
theorem segs_ok (Gl : xzt) (a b : List Seg) (hl : a.length < 1000000) : xzH Go.VL.Pal.E Gl f_glyphicref_SameSegs [.fsl (xzk cSeg a) a.length 7, .fsl (xzk cSeg b) b.length 7] (.bool (decide (a = b))) := by
  refine xzw (xzf E_glyphicref_SameSegs ?_)
  unfold c_glyphicref_SameSegs r_glyphicref_SameSegs
  simp only [xzB]
  by_cases hab : a.length = b.length
  · have c : ((a.length : Int) == (b.length : Int)) = true := by simp [hab]
    have c' : ((a.length : Int) != (b.length : Int)) = false := by simp [hab]
    simp only [qzz, qzk, qzo, qzC, qzH, qzv, qzn, qzi, qzR, qzf, qze, qzd, qzp, qzK, qzc, qzb, qzg, qzh, qzl, qzm, qzt, qza, qzs, qzu, qzx, xzi, cv, qzI, qzJ, toA, ofA, FR.pop, abin, intBin, h0, qzQ, qzM, qzT, qzP, ↓reduceIte, Nat.reduceEqDiff, reduceCtorEq, Nat.zero_add, true_and, Bool.false_eq_true, forall_const, false_implies, reduceCtorEq, c']
    refine segs_loop Gl a b hl hab _ ?_ ?_ a.length 0 _ _ (by omega) rfl ?_ ?_ ?_
    · intro T h e
      have de : decide (a = b) = true := by simp [e]
      simp only [qzk, qzo, qzH, qzi, xzu, qzf, qze, qzd, qzp, qzK, qzc, qzb, qzg, qzh, qzl, qzm, qzt, qza, qzs, qzu, qzx, cv, qzQ, qzM, qzT, qzP, ↓reduceIte, de] <;> first | rfl | exact ⟨rfl, rfl⟩ | exact qzr rfl
    · intro T h e t4
      have de : decide (a = b) = false := by simp [e]
      simp only [qzR, xze, qzK, qzQ, qzM, qzT, qzP, t4, de]
      exact qzr rfl
    · simp only [qza, ↓reduceIte, reduceCtorEq, reduceCtorEq]
    · simp only [qza, ↓reduceIte, Nat.reduceEqDiff, reduceCtorEq, reduceCtorEq]
    · simp only [qza, ↓reduceIte]; rfl
  · have c : ((a.length : Int) == (b.length : Int)) = false := by simp; omega
    have c' : ((a.length : Int) != (b.length : Int)) = true := by simp; omega
    have de : decide (a = b) = false := by simp; intro e; exact hab (by rw [e])
    simp only [qzz, qzk, qzo, qzC, qzH, qzv, qzn, qzi, qzR, qzf, qze, qzd, qzp, qzK, qzc, qzb, qzg, qzh, qzl, qzm, qzt, qza, qzs, qzu, qzx, xzi, cv, qzI, qzJ, toA, ofA, FR.pop, abin, intBin, h0, qzQ, qzM, qzT, qzP, ↓reduceIte, Nat.reduceEqDiff, reduceCtorEq, Nat.zero_add, and_true, forall_const, false_implies, Bool.true_eq_false, reduceCtorEq, c', de] <;> first | rfl | exact ⟨rfl, rfl⟩ | exact qzr rfl

theorem path_ok (Gl : xzt) (s t : Path) (hs : SizP s) : xzH Go.VL.Pal.E Gl f_glyphicref_SamePath [.agg (cPath s), .agg (cPath t)] (.bool (decide (s = t))) := by
  refine xzw (xzf E_glyphicref_SamePath ?_)
  unfold c_glyphicref_SamePath r_glyphicref_SamePath
  simp only [xzB]
  obtain ⟨p, l, c⟩ := s
  obtain ⟨p', l', c'⟩ := t
  simp only [qzk, qzo, qzi, qzf, qze, qzd, qzp, qzF, qzX, qzN, qzc, qzj, qzE, qzb, qzg, qzh, qzO, qzD, qzl, qzm, qzt, qza, qzs, qzu, qzx, qzG, qzL, qzB, xzh, xzF, qzA, cv, VN.at, VH.push, qzq, h0, VV.cells, ntV, ↓reduceIte, Option.getD_some, List.length_cons, List.length_nil, List.drop_zero, List.take_succ_cons, List.take_zero, Nat.reduceAdd, Nat.reduceEqDiff, reduceCtorEq, Nat.reduceLeDiff, Nat.add_zero, Nat.zero_add, reduceCtorEq, cPath]
  refine qzZ (pt_ok Gl p p') rfl rfl ?_
  by_cases e1 : p = p'
  case neg =>
    have d0 : decide (p = p') = false := by simp [e1]
    have d : decide (Path.mk p l c = Path.mk p' l' c') = false := by simp [e1]
    rw [d, d0]
    simp only [qzH, qzi, qzf, qze, qzd, xzl, qzp, qzy, qzK, qzc, qzb, qzg, qzh, qzl, qzm, qzt, qza, qzs, qzu, qzx, xzj, cv, qzQ, qzM, qzT, qzP, qzS, ↓reduceIte, Nat.reduceEqDiff, Bool.false_eq_true, beq_true] <;> first | rfl | exact ⟨rfl, rfl⟩ | exact qzr rfl
  subst e1
  have d1 : decide (p = p) = true := by simp
  rw [d1]
  by_cases e2 : c = c'
  case neg =>
    have d0 : (c == c') = false := by simp [e2]
    have d : decide (Path.mk p l c = Path.mk p l' c') = false := by simp [e2]
    rw [d]
    simp only [qzH, qzi, qzf, qze, qzd, xzl, qzp, qzF, qzy, qzK, qzc, qzj, qzb, qzg, qzh, qzl, qzm, qzt, qza, qzs, qzu, qzx, xzj, qzG, qzL, qzB, xzI, xzJ, xzR, eqBool, qzA, cv, toA, qzq, qzQ, qzM, qzT, qzP, qzS, ↓reduceIte, Option.getD_some, List.getElem?_cons_zero, List.getElem?_cons_succ, Nat.reduceEqDiff, reduceCtorEq, Nat.zero_add, Bool.false_eq_true, beq_self_eq_true, beq_true, reduceCtorEq, d0] <;> first | rfl | exact ⟨rfl, rfl⟩ | exact qzr rfl
  subst e2
  simp only [qze, qzd, qzp, qzF, qzN, qzy, qzc, qzj, qzb, qzg, qzh, qzD, qzl, qzm, qzt, qza, qzs, qzu, qzx, xzj, qzG, qzL, qzB, xzI, xzJ, xzR, eqBool, qzA, cv, toA, qzq, ↓reduceIte, Option.getD_some, List.getElem?_cons_zero, List.getElem?_cons_succ, Nat.reduceEqDiff, reduceCtorEq, Nat.zero_add, Bool.false_eq_true, beq_self_eq_true, reduceCtorEq]
  refine qzZ (segs_ok Gl l l' hs) rfl rfl ?_
  have d : decide (Path.mk p l c = Path.mk p l' c) = decide (l = l') := by simp
  rw [d]
  simp only [qzH, qzi, qzf, qze, qzd, qzp, qzy, qzK, qzc, qzb, qzg, qzh, qzl, qzm, qzt, qza, qzs, qzu, qzx, xzj, cv, qzQ, qzM, qzT, qzP, ↓reduceIte, Nat.reduceEqDiff] <;> first | rfl | exact ⟨rfl, rfl⟩ | exact qzr rfl

theorem paths_loop (Gl : xzt) (a b : List Path) (hl : a.length < 1000000) (hz : ∀ x ∈ a, SizP x) (hab : a.length = b.length) (K : AEx → VF → VH → Prop)
    (hK0 : ∀ T h, a = b → K (.exit 0) T h) (hK1 : ∀ T h, a ≠ b → qzw T 4 = some (.bool false) → K .ret T h) :
    ∀ (d i : Nat) (T : VF) (h : VH), d + i = a.length → a.take i = b.take i → qzw T 0 = some (.fsl (xzk cPath a) a.length 4) → qzw T 1 = some (.fsl (xzk cPath b) b.length 4) → qzw T 5 = some (.int .i64 i) →
      wp Go.VL.Pal.E Gl (.loop c_glyphicref_SamePaths_l0) T h K := by
  intro d
  induction d with
  | zero =>
    intro i T h hd hr t0 t1 t5
    obtain rfl : i = a.length := by omega
    refine xzn c_glyphicref_SamePaths_l0.eq_1 ?_
    simp only [qzz, qzk, xzM, qzo, qzC, qzV, qzv, qzn, qzi, xzd, qzU, qzf, qze, qzd, qzp, xzr, xzp, xzD, qzc, qzb, qzg, qzh, xzx, xzy, qzl, qzm, qzt, qza, qzs, qzu, qzx, xzo, xzi, qzI, qzJ, toA, ofA, FR.pop, abin, intBin, countN, xzs, ↓reduceIte, Nat.reduceEqDiff, reduceCtorEq, true_and, Bool.false_eq_true, decide_false, forall_const, false_implies, reduceCtorEq, t0, t5, Int.lt_irrefl]
    refine hK0 _ _ ?_
    rw [List.take_length, hab, List.take_length] at hr
    exact hr
  | succ d ih =>
    intro i T h hd hr t0 t1 t5
    refine xzn c_glyphicref_SamePaths_l0.eq_1 ?_
    have hlt : i < a.length := by omega
    have hlt' : i < b.length := by omega
    have c1 : (i : Int) < a.length := by omega
    obtain ⟨x, hx⟩ : ∃ x, a[i]? = some x := ⟨a[i], List.getElem?_eq_getElem hlt⟩
    obtain ⟨y, hy⟩ : ∃ y, b[i]? = some y := ⟨b[i], List.getElem?_eq_getElem hlt'⟩
    have p1 := flat_le cPath_len hx
    have p2 := flat_at cPath_len hx
    have p3 := flat_le cPath_len hy
    have p4 := flat_at cPath_len hy
    have w : IntKind.i64.wrap ((i : Int) + 1) = ((i + 1 : Nat) : Int) := by rw [qzY (by omega) (by omega)]; rfl
    simp only [qzz, qzk, xzM, qzo, qzC, qzV, qzv, qzn, qzi, xzd, qzU, qzf, qze, qzd, qzp, xzr, xzp, xzD, xzT, xzN, qzc, qzj, qzb, qzg, qzh, xzx, xzy, qzD, qzl, qzm, qzt, qza, qzs, qzu, qzx, xzo, xzi, qzL, qzB, qzA, qzI, qzJ, toA, ofA, FR.pop, abin, intBin, countN, xzK, xzS, xzV, xzL, xzU, xzX, xzY, xzs, ↓reduceIte, List.append_nil, Nat.reduceEqDiff, reduceCtorEq, and_self, and_true, true_and, Bool.and_self, decide_true, forall_const, false_implies, Bool.true_eq_false, reduceCtorEq, cPath, t0, t1, t5, c1, hlt, hlt', p1, p2, p3, p4]
    refine qzZ (path_ok Gl x y (hz x (List.mem_of_getElem? hx))) rfl rfl ?_
    by_cases e : x = y
    · subst e
      have de : decide (x = x) = true := by simp
      simp only [qzz, qzk, qzo, qzH, qzv, qzn, qzi, qzR, xzc, xze, xzm, xzA, qzf, qze, qzd, qzp, xzO, xzr, xzp, xzD, xzQ, qzc, qzb, qzg, qzh, xzx, xzy, qzl, qzm, qzt, qza, qzs, qzu, qzx, cv, qzI, qzJ, toA, ofA, FR.pop, abin, aun, intBin, ↓reduceIte, Option.map_some, List.append_nil, Nat.reduceEqDiff, true_and, Bool.not_true, Bool.false_eq_true, decide_true, forall_const, false_implies, t5, w]
      refine ih (i + 1) _ _ (by omega) (by rw [take_at hx, take_at hy, hr]) ?_ ?_ ?_
      · simp only [qza, ↓reduceIte, reduceCtorEq, reduceCtorEq, t0]
      · simp only [qza, ↓reduceIte, Nat.reduceEqDiff, t1]
      · simp only [qza, ↓reduceIte]
    · have de : decide (x = y) = false := by simp [e]
      simp only [qzz, qzk, qzo, qzH, qzv, qzn, qzi, qzR, xzc, xze, xzm, xzA, qzf, qze, qzd, qzp, xzO, xzr, xzp, xzD, xzQ, qzc, qzb, qzg, qzh, xzx, xzy, qzl, qzm, qzt, qza, qzs, qzu, qzx, cv, qzI, qzJ, toA, ofA, FR.pop, abin, aun, intBin, ↓reduceIte, Option.map_some, List.append_nil, Nat.reduceEqDiff, and_true, Bool.not_false, forall_const, false_implies, Bool.true_eq_false, t5, de]
      refine hK1 _ _ (fun q => e ?_) ?_
      · rw [q, hy] at hx; exact (Option.some.inj hx).symm
      · simp only [qza, ↓reduceIte]
theorem paths_ok (Gl : xzt) (a b : List Path) (hl : a.length < 1000000) (hz : ∀ x ∈ a, SizP x) : xzH Go.VL.Pal.E Gl f_glyphicref_SamePaths [.fsl (xzk cPath a) a.length 4, .fsl (xzk cPath b) b.length 4] (.bool (decide (a = b))) := by
  refine xzw (xzf E_glyphicref_SamePaths ?_)
  unfold c_glyphicref_SamePaths r_glyphicref_SamePaths
  simp only [xzB]
  by_cases hab : a.length = b.length
  · have c : ((a.length : Int) == (b.length : Int)) = true := by simp [hab]
    have c' : ((a.length : Int) != (b.length : Int)) = false := by simp [hab]
    simp only [qzz, qzk, qzo, qzC, qzH, qzv, qzn, qzi, qzR, qzf, qze, qzd, qzp, qzK, qzc, qzb, qzg, qzh, qzl, qzm, qzt, qza, qzs, qzu, qzx, xzi, cv, qzI, qzJ, toA, ofA, FR.pop, abin, intBin, h0, qzQ, qzM, qzT, qzP, ↓reduceIte, Nat.reduceEqDiff, reduceCtorEq, Nat.zero_add, true_and, Bool.false_eq_true, forall_const, false_implies, reduceCtorEq, c']
    refine paths_loop Gl a b hl hz hab _ ?_ ?_ a.length 0 _ _ (by omega) rfl ?_ ?_ ?_
    · intro T h e
      have de : decide (a = b) = true := by simp [e]
      simp only [qzk, qzo, qzH, qzi, xzu, qzf, qze, qzd, qzp, qzK, qzc, qzb, qzg, qzh, qzl, qzm, qzt, qza, qzs, qzu, qzx, cv, qzQ, qzM, qzT, qzP, ↓reduceIte, de] <;> first | rfl | exact ⟨rfl, rfl⟩ | exact qzr rfl
    · intro T h e t4
      have de : decide (a = b) = false := by simp [e]
      simp only [qzR, xze, qzK, qzQ, qzM, qzT, qzP, t4, de]
      exact qzr rfl
    · simp only [qza, ↓reduceIte, reduceCtorEq, reduceCtorEq]
    · simp only [qza, ↓reduceIte, Nat.reduceEqDiff, reduceCtorEq, reduceCtorEq]
    · simp only [qza, ↓reduceIte]; rfl
  · have c : ((a.length : Int) == (b.length : Int)) = false := by simp; omega
    have c' : ((a.length : Int) != (b.length : Int)) = true := by simp; omega
    have de : decide (a = b) = false := by simp; intro e; exact hab (by rw [e])
    simp only [qzz, qzk, qzo, qzC, qzH, qzv, qzn, qzi, qzR, qzf, qze, qzd, qzp, qzK, qzc, qzb, qzg, qzh, qzl, qzm, qzt, qza, qzs, qzu, qzx, xzi, cv, qzI, qzJ, toA, ofA, FR.pop, abin, intBin, h0, qzQ, qzM, qzT, qzP, ↓reduceIte, Nat.reduceEqDiff, reduceCtorEq, Nat.zero_add, and_true, forall_const, false_implies, Bool.true_eq_false, reduceCtorEq, c', de] <;> first | rfl | exact ⟨rfl, rfl⟩ | exact qzr rfl

theorem paint_ok (Gl : xzt) (s t : Paint) : xzH Go.VL.Pal.E Gl f_glyphicref_SamePaint [.agg (cPaint s), .agg (cPaint t)] (.bool (decide (s = t))) := by
  refine xzw (xzf E_glyphicref_SamePaint ?_)
  unfold c_glyphicref_SamePaint r_glyphicref_SamePaint
  simp only [xzB]
  obtain ⟨k, a, b, p, q⟩ := s
  obtain ⟨k', a', b', p', q'⟩ := t
  by_cases e0 : k = k'
  case neg =>
    have d0 : (k == k') = false := by simp [e0]
    have d : decide (Paint.mk k a b p q = Paint.mk k' a' b' p' q') = false := by simp [e0]
    rw [d]
    simp only [qzk, qzo, qzH, qzi, qzf, qze, qzd, xzl, qzp, qzF, qzX, qzK, qzc, qzj, qzE, qzb, qzg, qzh, qzO, qzl, qzm, qzt, qza, qzs, qzu, qzx, xzj, qzG, qzL, qzB, xzh, xzF, qzA, cv, qzI, qzJ, toA, ofA, FR.pop, abin, intBin, VN.at, VH.push, qzq, h0, VV.cells, ntV, qzQ, qzM, qzT, qzP, qzS, ↓reduceIte, Option.getD_some, List.getElem?_cons_zero, Nat.reduceAdd, Nat.reduceEqDiff, reduceCtorEq, Nat.add_zero, Nat.zero_add, Bool.false_eq_true, beq_true, reduceCtorEq, cPaint, d0] <;> first | rfl | exact ⟨rfl, rfl⟩ | exact qzr rfl
  subst e0
  by_cases e1 : a = a'
  case neg =>
    have d0 : (a == a') = false := by simp [e1]
    have d : decide (Paint.mk k a b p q = Paint.mk k a' b' p' q') = false := by simp [e1]
    rw [d]
    simp only [qzk, qzo, qzH, qzi, qzf, qze, qzd, xzl, qzp, qzF, qzX, qzK, qzc, qzj, qzE, qzb, qzg, qzh, qzO, qzl, qzm, qzt, qza, qzs, qzu, qzx, xzj, qzG, qzL, qzB, xzh, xzF, qzA, cv, qzI, qzJ, toA, ofA, FR.pop, abin, intBin, VN.at, VH.push, qzq, h0, VV.cells, ntV, qzQ, qzM, qzT, qzP, qzS, ↓reduceIte, Option.getD_some, List.getElem?_cons_zero, List.getElem?_cons_succ, Nat.reduceAdd, Nat.reduceEqDiff, reduceCtorEq, Nat.add_zero, Nat.zero_add, Bool.false_eq_true, beq_self_eq_true, beq_true, reduceCtorEq, cPaint, d0] <;> first | rfl | exact ⟨rfl, rfl⟩ | exact qzr rfl
  subst e1
  by_cases e2 : b = b'
  case neg =>
    have d0 : (b == b') = false := by simp [e2]
    have d : decide (Paint.mk k a b p q = Paint.mk k a b' p' q') = false := by simp [e2]
    rw [d]
    simp only [qzk, qzo, qzH, qzi, qzf, qze, qzd, xzl, qzp, qzF, qzX, qzK, qzc, qzj, qzE, qzb, qzg, qzh, qzO, qzl, qzm, qzt, qza, qzs, qzu, qzx, xzj, qzG, qzL, qzB, xzh, xzF, qzA, cv, qzI, qzJ, toA, ofA, FR.pop, abin, intBin, VN.at, VH.push, qzq, h0, VV.cells, ntV, qzQ, qzM, qzT, qzP, qzS, ↓reduceIte, Option.getD_some, List.getElem?_cons_zero, List.getElem?_cons_succ, Nat.reduceAdd, Nat.reduceEqDiff, reduceCtorEq, Nat.add_zero, Nat.zero_add, Bool.false_eq_true, beq_self_eq_true, beq_true, reduceCtorEq, cPaint, d0] <;> first | rfl | exact ⟨rfl, rfl⟩ | exact qzr rfl
  subst e2
  simp only [qzk, qzo, qzi, qzf, qze, qzd, qzp, qzF, qzX, qzN, qzc, qzj, qzE, qzb, qzg, qzh, qzO, qzD, qzl, qzm, qzt, qza, qzs, qzu, qzx, xzj, qzG, qzL, qzB, xzh, xzF, qzA, cv, qzI, qzJ, toA, ofA, FR.pop, abin, intBin, VN.at, VH.push, qzq, h0, VV.cells, ntV, ↓reduceIte, Option.getD_some, List.getElem?_cons_zero, List.getElem?_cons_succ, List.length_cons, List.length_nil, List.drop_succ_cons, List.drop_zero, List.take_succ_cons, List.take_zero, Nat.reduceAdd, Nat.reduceEqDiff, reduceCtorEq, Nat.reduceLeDiff, Nat.add_zero, Nat.zero_add, beq_self_eq_true, reduceCtorEq, cPaint]
  refine qzZ (pt_ok Gl p p') rfl rfl ?_
  by_cases e1 : p = p'
  case neg =>
    have d0 : decide (p = p') = false := by simp [e1]
    have d : decide (Paint.mk k a b p q = Paint.mk k a b p' q') = false := by simp [e1]
    rw [d, d0]
    simp only [qzH, qzi, qzf, qze, qzd, xzl, qzp, qzy, qzK, qzc, qzb, qzg, qzh, qzl, qzm, qzt, qza, qzs, qzu, qzx, xzj, cv, qzQ, qzM, qzT, qzP, qzS, ↓reduceIte, Nat.reduceEqDiff, Bool.false_eq_true, beq_true] <;> first | rfl | exact ⟨rfl, rfl⟩ | exact qzr rfl
  subst e1
  have d1 : decide (p = p) = true := by simp
  rw [d1]
  simp only [qze, qzd, qzp, qzF, qzN, qzy, qzc, qzj, qzb, qzg, qzh, qzD, qzl, qzm, qzt, qza, qzs, qzu, qzx, xzj, qzG, qzL, qzB, qzA, cv, qzq, ↓reduceIte, Option.getD_some, List.length_cons, List.length_nil, List.drop_succ_cons, List.drop_zero, List.take_succ_cons, List.take_zero, Nat.reduceAdd, Nat.reduceEqDiff, reduceCtorEq, Nat.reduceLeDiff, Nat.zero_add, beq_self_eq_true, reduceCtorEq]
  refine qzZ (pt_ok Gl q q') rfl rfl ?_
  have d : decide (Paint.mk k a b p q = Paint.mk k a b p q') = decide (q = q') := by simp
  rw [d]
  simp only [qzH, qzi, qzf, qze, qzd, qzp, qzy, qzK, qzc, qzb, qzg, qzh, qzl, qzm, qzt, qza, qzs, qzu, qzx, xzj, cv, qzQ, qzM, qzT, qzP, ↓reduceIte, Nat.reduceEqDiff] <;> first | rfl | exact ⟨rfl, rfl⟩ | exact qzr rfl
theorem cmd_ok (Gl : xzt) (s t : Cmd) (hs : SizC s) : xzH Go.VL.Pal.E Gl f_glyphicref_SameCmd [.agg (cCmd s), .agg (cCmd t)] (.bool (decide (s = t))) := by
  refine xzw (xzf E_glyphicref_SameCmd ?_)
  unfold c_glyphicref_SameCmd r_glyphicref_SameCmd
  simp only [xzB]
  obtain ⟨k, a, b, p, l⟩ := s
  obtain ⟨k', a', b', p', l'⟩ := t
  by_cases e0 : k = k'
  case neg =>
    have d0 : (k == k') = false := by simp [e0]
    have d : decide (Cmd.mk k a b p l = Cmd.mk k' a' b' p' l') = false := by simp [e0]
    rw [d]
    simp only [qzk, qzo, qzH, qzi, qzf, qze, qzd, xzl, qzp, qzF, qzX, qzK, qzc, qzj, qzE, qzb, qzg, qzh, qzO, qzl, qzm, qzt, qza, qzs, qzu, qzx, xzj, qzG, qzL, qzB, xzh, xzF, qzA, cv, qzI, qzJ, toA, ofA, FR.pop, abin, intBin, VN.at, VH.push, qzq, h0, VV.cells, ntV, qzQ, qzM, qzT, qzP, qzS, ↓reduceIte, Option.getD_some, List.getElem?_cons_zero, Nat.reduceAdd, Nat.reduceEqDiff, reduceCtorEq, Nat.add_zero, Nat.zero_add, Bool.false_eq_true, beq_true, reduceCtorEq, cCmd, d0] <;> first | rfl | exact ⟨rfl, rfl⟩ | exact qzr rfl
  subst e0
  by_cases e1 : a = a'
  case neg =>
    have d0 : (a == a') = false := by simp [e1]
    have d : decide (Cmd.mk k a b p l = Cmd.mk k a' b' p' l') = false := by simp [e1]
    rw [d]
    simp only [qzk, qzo, qzH, qzi, qzf, qze, qzd, xzl, qzp, qzF, qzX, qzK, qzc, qzj, qzE, qzb, qzg, qzh, qzO, qzl, qzm, qzt, qza, qzs, qzu, qzx, xzj, qzG, qzL, qzB, xzh, xzF, qzA, cv, qzI, qzJ, toA, ofA, FR.pop, abin, intBin, VN.at, VH.push, qzq, h0, VV.cells, ntV, qzQ, qzM, qzT, qzP, qzS, ↓reduceIte, Option.getD_some, List.getElem?_cons_zero, List.getElem?_cons_succ, Nat.reduceAdd, Nat.reduceEqDiff, reduceCtorEq, Nat.add_zero, Nat.zero_add, Bool.false_eq_true, beq_self_eq_true, beq_true, reduceCtorEq, cCmd, d0] <;> first | rfl | exact ⟨rfl, rfl⟩ | exact qzr rfl
  subst e1
  by_cases e2 : b = b'
  case neg =>
    have d0 : (b == b') = false := by simp [e2]
    have d : decide (Cmd.mk k a b p l = Cmd.mk k a b' p' l') = false := by simp [e2]
    rw [d]
    simp only [qzk, qzo, qzH, qzi, qzf, qze, qzd, xzl, qzp, qzF, qzX, qzK, qzc, qzj, qzE, qzb, qzg, qzh, qzO, qzl, qzm, qzt, qza, qzs, qzu, qzx, xzj, qzG, qzL, qzB, xzh, xzF, qzA, cv, qzI, qzJ, toA, ofA, FR.pop, abin, intBin, VN.at, VH.push, qzq, h0, VV.cells, ntV, qzQ, qzM, qzT, qzP, qzS, ↓reduceIte, Option.getD_some, List.getElem?_cons_zero, List.getElem?_cons_succ, Nat.reduceAdd, Nat.reduceEqDiff, reduceCtorEq, Nat.add_zero, Nat.zero_add, Bool.false_eq_true, beq_self_eq_true, beq_true, reduceCtorEq, cCmd, d0] <;> first | rfl | exact ⟨rfl, rfl⟩ | exact qzr rfl
  subst e2
  simp only [qzk, qzo, qzi, qzf, qze, qzd, qzp, qzF, qzX, qzN, qzc, qzj, qzE, qzb, qzg, qzh, qzO, qzD, qzl, qzm, qzt, qza, qzs, qzu, qzx, xzj, qzG, qzL, qzB, xzh, xzF, qzA, cv, qzI, qzJ, toA, ofA, FR.pop, abin, intBin, VN.at, VH.push, qzq, h0, VV.cells, ntV, ↓reduceIte, Option.getD_some, List.getElem?_cons_zero, List.getElem?_cons_succ, List.length_cons, List.length_nil, List.drop_succ_cons, List.drop_zero, List.take_succ_cons, List.take_zero, Nat.reduceAdd, Nat.reduceEqDiff, reduceCtorEq, Nat.reduceLeDiff, Nat.add_zero, Nat.zero_add, beq_self_eq_true, reduceCtorEq, cCmd]
  refine qzZ (paint_ok Gl p p') rfl rfl ?_
  by_cases e1 : p = p'
  case neg =>
    have d0 : decide (p = p') = false := by simp [e1]
    have d : decide (Cmd.mk k a b p l = Cmd.mk k a b p' l') = false := by simp [e1]
    rw [d, d0]
    simp only [qzH, qzi, qzf, qze, qzd, xzl, qzp, qzy, qzK, qzc, qzb, qzg, qzh, qzl, qzm, qzt, qza, qzs, qzu, qzx, xzj, cv, qzQ, qzM, qzT, qzP, qzS, ↓reduceIte, Nat.reduceEqDiff, Bool.false_eq_true, beq_true] <;> first | rfl | exact ⟨rfl, rfl⟩ | exact qzr rfl
  subst e1
  have d1 : decide (p = p) = true := by simp
  rw [d1]
  simp only [qze, qzd, qzp, qzF, qzN, qzy, qzc, qzj, qzb, qzg, qzh, qzD, qzl, qzm, qzt, qza, qzs, qzu, qzx, xzj, qzG, qzL, qzB, qzA, cv, qzq, ↓reduceIte, Option.getD_some, List.getElem?_cons_zero, List.getElem?_cons_succ, Nat.reduceEqDiff, reduceCtorEq, Nat.zero_add, beq_self_eq_true, reduceCtorEq]
  refine qzZ (paths_ok Gl l l' hs.1 hs.2) rfl rfl ?_
  have d : decide (Cmd.mk k a b p l = Cmd.mk k a b p l') = decide (l = l') := by simp
  rw [d]
  simp only [qzH, qzi, qzf, qze, qzd, qzp, qzy, qzK, qzc, qzb, qzg, qzh, qzl, qzm, qzt, qza, qzs, qzu, qzx, xzj, cv, qzQ, qzM, qzT, qzP, ↓reduceIte, Nat.reduceEqDiff] <;> first | rfl | exact ⟨rfl, rfl⟩ | exact qzr rfl

end
end Go.VL.Sm
