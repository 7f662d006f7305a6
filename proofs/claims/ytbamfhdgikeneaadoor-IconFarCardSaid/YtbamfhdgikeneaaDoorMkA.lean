import Derived.Test.YtbamfhdgikeneaaDoorErB
import Derived.Test.YtbamfhdgikeneaaDoorLfP
/- The statements' own maker of icons: colors, points, paths. -/
namespace Go.VL.Mk
open Go.FR Go.IR Go.VL Go.VL.Color Go.VL.Wind Go.VL.Ic
noncomputable section
set_option linter.unusedSimpArgs false
set_option linter.unusedVariables false
set_option maxRecDepth 100000
set_option maxHeartbeats 1000000

theorem more_ok (Gl : xzE) (l : List Int) (a i : Nat) : StOk Go.VL.Er.E Gl f_glyphicmake_Seq_more [.ptr i 0] [(i, bSeq l a)] (.bool (decide (a < l.length))) [(i, bSeq l a)] := by
  refine st1_intro fun nx hn => xzp E_glyphicmake_Seq_more ?_
  unfold c_glyphicmake_Seq_more r_glyphicmake_Seq_more
  simp only [xzW]
  by_cases c : a < l.length
  · have c1 : (a : Int) < (l.length : Int) := by omega
    simp only [qzl, xzC, qzo, qzD, qzi, qzf, qzd, qze, qzq, xzF, xzl, xzf, xzB, xzI, qzG, qzc, qzj, qzb, qzg, qzh, xzr, xzt, qzn, qzm, qzt, qza, qzs, qzv, qzy, qzK, xzh, xzH, qzO, qzF, qzE, cv, qzJ, qzI, toA, ofA, FR.pop, abin, intBin, qzp, qzV, qzP, qzX, qzW, countN, xzA, xzJ, xzS, xzy, xzK, yze, yzh, ↓reduceIte, Option.getD_some, Option.isSome_some, List.getElem?_cons_zero, List.getElem?_cons_succ, List.append_nil, List.contains_nil, Nat.reduceEqDiff, reduceCtorEq, Nat.add_zero, Nat.zero_add, and_self, Bool.and_self, Bool.not_false, decide_true, reduceCtorEq, cSeq, bSeq, c, c1] <;> first | rfl | exact ⟨rfl, rfl⟩ | exact qzw rfl
  · have c1 : ¬ (a : Int) < (l.length : Int) := by omega
    simp only [qzl, xzC, qzo, qzD, qzi, qzf, qzd, qze, qzq, xzF, xzl, xzf, xzB, xzI, qzG, qzc, qzj, qzb, qzg, qzh, xzr, xzt, qzn, qzm, qzt, qza, qzs, qzv, qzy, qzK, xzh, xzH, qzO, qzF, qzE, cv, qzJ, qzI, toA, ofA, FR.pop, abin, intBin, qzp, qzV, qzP, qzX, qzW, countN, xzA, xzJ, xzS, xzy, xzK, yze, yzh, ↓reduceIte, Option.getD_some, Option.isSome_some, List.getElem?_cons_zero, List.getElem?_cons_succ, List.append_nil, List.contains_nil, Nat.reduceEqDiff, reduceCtorEq, Nat.add_zero, Nat.zero_add, and_self, Bool.and_self, Bool.not_false, decide_false, reduceCtorEq, cSeq, bSeq, c, c1] <;> first | rfl | exact ⟨rfl, rfl⟩ | exact qzw rfl

def palS : List Cl := [⟨255, 0, 0, 255⟩, ⟨0, 128, 0, 255⟩, ⟨0, 0, 200, 100⟩, ⟨10, 20, 30, 1⟩, ⟨255, 255, 255, 255⟩, ⟨0, 0, 0, 0⟩, ⟨7, 0, 0, 254⟩]
def colorS (l : List Int) (a : Nat) : Cl := palS.getD (nextS l a 7).toNat ⟨0, 0, 0, 0⟩
theorem color_ok (Gl : xzE) (l : List Int) (a i : Nat) (hl : l.length < 4611686018427387904) (ha : a < 4611686018427387904) : StOk Go.VL.Er.E Gl f_glyphicmake_Color [.ptr i 0] [(i, bSeq l a)] (.agg (cCl (colorS l a))) [(i, bSeq l (a + 1))] := by
  refine st1_intro fun nx hn => xzp E_glyphicmake_Color ?_
  unfold c_glyphicmake_Color r_glyphicmake_Color
  simp only [xzW]
  have n1 := next_in l a 7 (by omega)
  have e1 : ¬ nx = i := by omega
  have e2 : ¬ i = nx := by omega
  have e3 : ¬ nx + 1 = i := by omega
  have e4 : ¬ i = nx + 1 := by omega
  have e5 : ¬ nx + 1 = nx := by omega
  simp only [qzl, qzo, qzi, qzf, qzd, qze, qzq, xzb, qzL, qzc, qzC, qzb, qzg, qzh, qzT, qzu, qzn, qzm, qzt, qza, qzs, qzv, qzy, xzo, xzD, xzx, qzR, cvs, cv, VN.at, VH.push, VV.cells, ntV, ↓reduceIte, List.length_cons, List.length_nil, List.drop_succ_cons, List.drop_zero, List.take_succ_cons, List.take_zero, List.append_nil, List.nil_append, List.cons_append, Nat.reduceAdd, Nat.reduceDiv, Nat.reduceEqDiff, reduceCtorEq, Nat.reduceLeDiff, Nat.zero_add, and_self, reduceCtorEq, cCl, cSeq, bSeq]
  refine xzU (next_ok Gl l a 7 i hl (by omega) (by omega) (by omega)) (by simp only [qza, ↓reduceIte, cSeq, bSeq, e1, e3]) rfl rfl ?_
  have z : ∀ n : Nat, natV (VV.int .i64 (n : Int)) = some n := xzn .i64
  have z1 : natV (VV.int .i64 1) = some 1 := rfl
  have z2 : natV (VV.int .i64 2) = some 2 := rfl
  have z3 : natV (VV.int .i64 3) = some 3 := rfl
  have z4 : natV (VV.int .i64 4) = some 4 := rfl
  have z5 : natV (VV.int .i64 5) = some 5 := rfl
  have z6 : natV (VV.int .i64 6) = some 6 := rfl
  have z0 : natV (VV.int .i64 0) = some 0 := rfl
  unfold colorS
  have cs : nextS l a 7 = 0 ∨ nextS l a 7 = 1 ∨ nextS l a 7 = 2 ∨ nextS l a 7 = 3 ∨ nextS l a 7 = 4 ∨ nextS l a 7 = 5 ∨ nextS l a 7 = 6 := by omega
  rcases cs with h | h | h | h | h | h | h
  all_goals
    rw [h]
    simp only [qzD, qzi, qzf, qzd, qze, qzq, qzH, qzL, qzz, qzG, qzc, qzj, qzb, qzM, qzg, qzh, qzN, qzn, qzm, qzt, qza, qzs, qzv, xzi, qzO, qzF, qzR, qzS, xzd, qzE, VH.set, qzp, VV.cells, ntV, qzV, qzP, qzX, qzW, qzQ, xzs, ↓reduceIte, Option.getD_some, List.length_cons, List.length_nil, List.drop_succ_cons, List.drop_zero, List.take_succ_cons, List.take_zero, List.append_nil, List.nil_append, List.head?_cons, Nat.reduceAdd, Nat.reduceMul, Nat.reduceLT, Nat.reduceEqDiff, Nat.reduceLeDiff, Nat.add_zero, Nat.zero_add, and_self, and_true, cSeq, bSeq, e1, e2, e4, e5, z0, z1, z2, z3, z4, z5, z6]
  all_goals first | exact ⟨rfl, rfl⟩ | rfl

def insideS (l : List Int) (a : Nat) (far : Int) : Pt := if nextS l a 12 = 0 then pointS l (a + 1) far else ⟨nextS l (a + 1) (far + 1), nextS l (a + 2) (far + 1)⟩
theorem inside_ok (Gl : xzE) (l : List Int) (a : Nat) (far : Int) (i : Nat) (hl : l.length < 4611686018427387904) (ha : a + 3 < 4611686018427387904) (h : 0 ≤ far) (hb : far < 4611686018427387000) :
    StOk Go.VL.Er.E Gl f_glyphicmake_inside [.ptr i 0, .int .i64 far] [(i, bSeq l a)] (.agg (cPt (insideS l a far))) [(i, bSeq l (a + 3))] := by
  refine st1_intro fun nx hn => xzp E_glyphicmake_inside ?_
  unfold c_glyphicmake_inside r_glyphicmake_inside
  simp only [xzW]
  have e1 : ¬ nx = i := by omega
  have e2 : ¬ i = nx := by omega
  have w2 : IntKind.i64.wrap (far + 1) = far + 1 := xzu (by omega) (by omega)
  simp only [qzl, qzo, qzi, qzf, qzd, qze, qzq, xzb, qzL, qzc, qzC, qzb, qzg, qzh, qzT, qzu, qzn, qzm, qzt, qza, qzs, qzv, qzy, xzo, cvs, cv, VN.at, VH.push, ↓reduceIte, reduceCtorEq, Nat.zero_add, reduceCtorEq, cSeq, bSeq, cPt]
  refine xzU (next_ok Gl l a 12 i hl (by omega) (by omega) (by omega)) (by simp only [qza, ↓reduceIte, cSeq, bSeq, e1]) rfl rfl ?_
  unfold insideS
  by_cases c : nextS l a 12 = 0
  · have c' : (nextS l a 12 == 0) = true := by simp [c]
    rw [if_pos c]
    simp only [qzA, qzl, qzo, qzr, qzk, qzi, qzf, qzd, qze, qzq, qzL, qzz, qzc, qzb, qzg, qzh, qzu, qzn, qzm, qzt, qza, qzs, qzv, qzy, cv, qzJ, qzI, toA, ofA, FR.pop, abin, intBin, ↓reduceIte, Nat.reduceEqDiff, reduceCtorEq, and_true, forall_const, false_implies, Bool.true_eq_false, reduceCtorEq, cSeq, bSeq, c']
    refine xzU (point_ok Gl l (a + 1) far i hl (by omega) h hb) (by simp only [qza, ↓reduceIte, cSeq, bSeq]) rfl rfl ?_
    simp only [qzD, qzi, qzU, qzf, qzd, qze, qzL, qzz, qzG, qzb, qzM, qzg, qzN, qzn, qzm, qzt, qza, qzs, qzF, qzR, qzS, xzd, qzE, VH.set, qzp, VV.cells, ntV, qzV, qzP, qzX, qzW, qzQ, xzs, ↓reduceIte, Option.getD_some, List.length_cons, List.length_nil, List.drop_succ_cons, List.drop_zero, List.take_succ_cons, List.take_zero, List.append_nil, List.nil_append, List.head?_cons, Nat.reduceAdd, Nat.reduceEqDiff, Nat.reduceLeDiff, Nat.zero_add, and_self, cSeq, bSeq, cPt, e1, e2] <;> first | rfl | exact ⟨rfl, rfl⟩ | exact qzw rfl
  · have c' : (nextS l a 12 == 0) = false := by simp [c]
    rw [if_neg c]
    simp only [qzA, qzl, qzo, qzr, qzk, qzi, qzf, qzd, qze, qzq, qzL, qzz, qzc, qzb, qzg, qzh, qzu, qzn, qzm, qzt, qza, qzs, qzv, qzy, cv, qzJ, qzI, toA, ofA, FR.pop, abin, intBin, ↓reduceIte, Nat.reduceEqDiff, reduceCtorEq, true_and, Bool.false_eq_true, forall_const, false_implies, reduceCtorEq, cSeq, bSeq, c', w2]
    refine xzU (next_ok Gl l (a + 1) (far + 1) i hl (by omega) (by omega) (by omega)) (by simp only [qza, ↓reduceIte, cSeq, bSeq]) rfl rfl ?_
    simp only [qzl, qzo, qzi, qzf, qzd, qze, qzq, qzL, qzz, qzc, qzb, qzg, qzh, qzu, qzn, qzm, qzt, qza, qzs, qzv, qzy, cv, qzJ, qzI, toA, ofA, FR.pop, abin, intBin, ↓reduceIte, Nat.reduceEqDiff, reduceCtorEq, reduceCtorEq, cSeq, bSeq, w2]
    refine xzU (next_ok Gl l (a + 2) (far + 1) i hl (by omega) (by omega) (by omega)) (by simp only [qza, ↓reduceIte, cSeq, bSeq]) rfl rfl ?_
    simp only [qzD, qzi, qzf, qzd, qze, qzq, qzL, qzz, qzG, qzc, qzb, qzM, qzg, qzh, qzN, qzn, qzm, qzt, qza, qzs, qzv, qzF, xzD, xzx, qzR, qzS, xzd, qzE, cvs, cv, VH.set, qzp, VV.cells, ntV, qzV, qzP, qzX, qzW, qzQ, xzs, ↓reduceIte, Option.getD_some, List.length_cons, List.length_nil, List.drop_succ_cons, List.drop_zero, List.take_succ_cons, List.take_zero, List.append_nil, List.nil_append, List.cons_append, List.head?_cons, Nat.reduceAdd, Nat.reduceEqDiff, Nat.reduceLeDiff, Nat.zero_add, and_self, cSeq, bSeq, e1, e2] <;> first | rfl | exact ⟨rfl, rfl⟩ | exact qzw rfl

def zP : Pt := ⟨0, 0⟩
/-- A segment of which so many points are there. -/
def segP (l : List Int) (a : Nat) (far kind : Int) (k : Nat) : Seg := ⟨kind, if 0 < k then insideS l a far else zP, if 1 < k then insideS l (a + 3) far else zP, if 2 < k then insideS l (a + 6) far else zP⟩
theorem pts_loop (Gl : xzE) (l : List Int) (far : Int) (i bx : Nat) (kind : Nat) (hk : kind ≤ 3) (hl : l.length < 4611686018427387904) (hf : 0 ≤ far) (hb : far < 4611686018427387000) (a : Nat) (ha : a + 9 < 4611686018427387904) (hib : i ≠ bx) (T0 : VF) (hA : VH) (K : AEx → VF → VH → Prop)
    (hK : ∀ T h, (∀ k, k < 27 → k ≠ 10 → qzx T k = qzx T0 k) → qzx h.l i = some (some (bSeq l (a + 3 * kind))) → qzx h.l bx = some (some (.cells (cSeg (segP l a far kind kind)) false)) → (∀ k, k ≠ i → k ≠ bx → qzx h.l k = qzx hA.l k) → h.next = hA.next → K (.exit 2) T h) :
    ∀ (d k : Nat) (T : VF) (h : VH), d + k = kind → (∀ k, k < 27 → k ≠ 10 → qzx T k = qzx T0 k) → qzx T 0 = some (.ptr i 0) → qzx T 1 = some (.int .i64 far) → qzx T 9 = some (.ptr bx 0) → qzx T 10 = some (.int .i64 k) →
      qzx h.l i = some (some (bSeq l (a + 3 * k))) → qzx h.l bx = some (some (.cells (cSeg (segP l a far kind k)) false)) → (∀ k, k ≠ i → k ≠ bx → qzx h.l k = qzx hA.l k) → h.next = hA.next →
    wp Go.VL.Er.E Gl (.loop c_glyphicmake_Path_l0) T h K := by
  intro d
  induction d with
  | zero =>
    intro k T h hd hT t0 t1 t9 t10 s1 s2 hh hn
    obtain rfl : k = kind := by omega
    refine xzz c_glyphicmake_Path_l0.eq_1 ?_
    unfold segP at s2
    simp only [qzA, qzl, qzo, qzB, qzZ, qzr, qzk, qzi, xzg, qzY, qzf, qzd, qze, qzq, qzH, qzc, qzj, qzb, qzg, qzh, qzn, qzm, qzt, qza, qzs, qzv, qzy, qzK, qzO, qzF, qzE, qzJ, qzI, toA, ofA, FR.pop, abin, intBin, qzp, ↓reduceIte, Option.getD_some, List.getElem?_cons_zero, Nat.reduceEqDiff, reduceCtorEq, Nat.add_zero, true_and, Bool.false_eq_true, decide_false, forall_const, false_implies, reduceCtorEq, cSeg, t9, t10, s2, Int.lt_irrefl]
    refine hK _ _ (fun k q1 q2 => ?_) s1 s2 hh hn
    simp only [qza]
    (repeat rw [if_neg (by omega)])
    exact hT k q1 q2
  | succ d ih =>
    intro k T h hd hT t0 t1 t9 t10 s1 s2 hh hn
    refine xzz c_glyphicmake_Path_l0.eq_1 ?_
    have c1 : (k : Int) < (kind : Int) := by omega
    have w : IntKind.i64.wrap ((k : Int) + 1) = ((k + 1 : Nat) : Int) := by rw [xzu (by omega) (by omega)]; rfl
    have k3 : k < 3 := by omega
    have e1 : ¬ bx = i := fun e => hib e.symm
    unfold segP at s2
    simp only [qzA, qzl, qzo, qzB, qzZ, qzr, qzk, qzi, xzg, qzY, qzf, qzd, qze, qzq, qzH, qzL, qzc, qzj, qzb, qzg, qzh, qzu, qzn, qzm, qzt, qza, qzs, qzv, qzy, qzK, qzO, qzF, qzE, qzJ, qzI, toA, ofA, FR.pop, abin, intBin, qzp, ↓reduceIte, Option.getD_some, List.getElem?_cons_zero, Nat.reduceEqDiff, reduceCtorEq, Nat.add_zero, and_true, decide_true, forall_const, false_implies, Bool.true_eq_false, reduceCtorEq, cSeg, t0, t1, t9, t10, s2, c1]
    refine xzU (inside_ok Gl l (a + 3 * k) far i hl (by omega) hf hb) s1 rfl rfl ?_
    have hcs : k = 0 ∨ k = 1 ∨ k = 2 := by omega
    rcases hcs with rfl | rfl | rfl
    all_goals
      simp only [qzl, qzi, xzc, xzm, qzf, qzd, qze, qzq, qzL, qzz, qzc, qzb, qzM, qzg, qzh, qzN, qzn, qzm, qzt, qza, qzs, qzv, qzy, qzK, yzd, qzR, qzS, xzd, cv, qzJ, qzI, toA, ofA, FR.pop, abin, intBin, VH.set, qzp, VV.cells, ntV, qzQ, xzs, xzn, ↓reduceIte, Option.getD_some, List.length_cons, List.length_nil, List.drop_succ_cons, List.drop_zero, List.take_succ_cons, List.take_zero, List.append_nil, List.nil_append, List.cons_append, List.head?_cons, Nat.reduceAdd, Nat.reduceMul, Nat.reduceLT, Nat.reduceEqDiff, Nat.reduceLeDiff, Nat.add_zero, Nat.zero_add, and_self, cSeq, bSeq, cPt, cSeg, t9, t10, s2, xzn, hib, w]
      first | refine ih (0 + 1) _ _ (by omega) ?_ ?_ ?_ ?_ ?_ ?_ ?_ ?_ hn | refine ih (1 + 1) _ _ (by omega) ?_ ?_ ?_ ?_ ?_ ?_ ?_ ?_ hn | refine ih (2 + 1) _ _ (by omega) ?_ ?_ ?_ ?_ ?_ ?_ ?_ ?_ hn
      · intro k q1 q2
        simp only [qza]
        (repeat rw [if_neg (by omega)])
        exact hT k q1 q2
      · simp only [qza, ↓reduceIte, reduceCtorEq, reduceCtorEq, t0]
      · simp only [qza, ↓reduceIte, Nat.reduceEqDiff, t1]
      · simp only [qza, ↓reduceIte, Nat.reduceEqDiff, t9]
      · simp only [qza, ↓reduceIte, Nat.reduceAdd, Nat.zero_add]
      · simp only [qza, ↓reduceIte, Nat.reduceAdd, Nat.reduceMul, Nat.zero_add, cSeq, bSeq, e1]
      · simp only [qza, ↓reduceIte, Nat.reduceAdd, Nat.reduceLT, Nat.zero_add, cSeg, segP, zP]
      · intro k q1 q2
        simp only [qza, Ne.symm q1, Ne.symm q2, if_false]
        exact hh k q1 q2
end
end Go.VL.Mk

/- Paths. -/
namespace Go.VL.Mk
open Go.FR Go.IR Go.VL Go.VL.Color Go.VL.Wind Go.VL.Ic
noncomputable section
set_option linter.unusedSimpArgs false
set_option linter.unusedVariables false
set_option maxRecDepth 100000
set_option maxHeartbeats 1000000

def segN (l : List Int) (a : Nat) : Nat := (nextS l a 3).toNat + 1
theorem segN_in (l : List Int) (a : Nat) : 1 ≤ segN l a ∧ segN l a ≤ 3 ∧ 1 + nextS l a 3 = (segN l a : Int) := by
  have := next_in l a 3 (by omega)
  unfold segN; omega
def segOf (l : List Int) (a : Nat) (far : Int) : Seg := segP l (a + 1) far (segN l a) (segN l a)
def segEnd (l : List Int) (a : Nat) : Nat := a + 1 + 3 * segN l a
def segsS (l : List Int) (far : Int) : Nat → Nat → List Seg
  | 0, _ => []
  | n + 1, a => segOf l a far :: segsS l far n (segEnd l a)
def segsEnd (l : List Int) : Nat → Nat → Nat
  | 0, a => a
  | n + 1, a => segsEnd l n (segEnd l a)
theorem segsS_len (l : List Int) (far : Int) : ∀ n a, (segsS l far n a).length = n
  | 0, a => rfl
  | n + 1, a => by rw [segsS, List.length_cons, segsS_len l far n]
theorem segsEnd_le (l : List Int) : ∀ n a, a ≤ segsEnd l n a ∧ segsEnd l n a ≤ a + 10 * n
  | 0, a => by simp [segsEnd]
  | n + 1, a => by
    have h1 := segsEnd_le l n (segEnd l a)
    have h2 := segN_in l a
    unfold segEnd at h1
    rw [segsEnd]; unfold segEnd; omega
theorem segs_loop (Gl : xzE) (l : List Int) (far : Int) (i nx : Nat) (hin : i < nx) (hl : l.length < 4611686018427387904) (hf : 0 ≤ far) (hb : far < 4611686018427387000) (p : Pt) (b : Bool) (z : List VV) (K : AEx → VF → VH → Prop) (r : List Seg) (ae : Nat)
    (hK : ∀ T h v j, qzx T 6 = some (.ptr nx 0) → qzx T 7 = some (.ptr (nx + 1) 0) → yzp (nx + 2) h j cSeg r 7 v → qzx h.l i = some (some (bSeq l ae)) → qzx h.l nx = some (some (.cells z false)) → qzx h.l (nx + 1) = some (some (.cells [.int .i64 p.x, .int .i64 p.y, v, .bool b] false)) → nx + 2 ≤ h.next → K (.exit 0) T h) :
    ∀ (d a : Nat) (acc : List Seg) (T : VF) (h : VH) (v : VV) (j : Nat), r = acc ++ segsS l far d a → ae = segsEnd l d a → acc.length + d < 1000000 → a + 10 * d < 10000000 →
      qzx T 0 = some (.ptr i 0) → qzx T 1 = some (.int .i64 far) → qzx T 6 = some (.ptr nx 0) → qzx T 7 = some (.ptr (nx + 1) 0) → qzx T 8 = some (.int .i64 d) →
      yzp (nx + 2) h j cSeg acc 7 v → qzx h.l i = some (some (bSeq l a)) → qzx h.l nx = some (some (.cells z false)) → qzx h.l (nx + 1) = some (some (.cells [.int .i64 p.x, .int .i64 p.y, v, .bool b] false)) → nx + 2 ≤ h.next →
    wp Go.VL.Er.E Gl (.loop c_glyphicmake_Path_l1) T h K := by
  intro d
  induction d with
  | zero =>
    intro a acc T h v j hr hae h1 h2 t0 t1 t6 t7 t8 ha hs hz hA hn
    refine xzz c_glyphicmake_Path_l1.eq_1 ?_
    have c1 : ¬ ((0 : Nat) : Int) > 0 := by omega
    simp only [qzA, qzl, qzo, qzB, qzZ, qzr, qzk, qzi, xzg, qzY, qzf, qzd, qze, qzq, qzc, qzb, qzg, qzh, qzn, qzm, qzt, qza, qzs, qzv, qzy, cv, qzJ, qzI, toA, ofA, FR.pop, abin, intBin, ↓reduceIte, reduceCtorEq, true_and, Bool.false_eq_true, decide_false, forall_const, false_implies, reduceCtorEq, t8, c1]
    refine hK _ _ v j ?_ ?_ (by rw [hr, segsS, List.append_nil]; exact ha) (by rw [hae]; exact hs) hz hA hn
    · simp only [qza, ↓reduceIte, Nat.reduceEqDiff, t6]
    · simp only [qza, ↓reduceIte, Nat.reduceEqDiff, t7]
  | succ d ih =>
    intro a acc T h v j hr hae h1 h2 t0 t1 t6 t7 t8 ha hs hz hA hn
    refine xzz c_glyphicmake_Path_l1.eq_1 ?_
    have c1 : ((d + 1 : Nat) : Int) > 0 := by omega
    have w : IntKind.i64.wrap (((d + 1 : Nat) : Int) - 1) = (d : Int) := by rw [xzu (by omega) (by omega)]; omega
    obtain ⟨k1, k2, k3⟩ := segN_in l a
    have w2 : IntKind.i64.wrap (1 + nextS l a 3) = (segN l a : Int) := by rw [xzu (by omega) (by omega)]; omega
    have e1 : ¬ i = h.next := by omega
    have e2 : ¬ h.next = i := by omega
    have e3 : ¬ h.next = nx + 1 := by omega
    have e4 : ¬ i = nx + 1 := by omega
    have e5 : ¬ nx + 1 = h.next := by omega
    have e7 : ¬ nx + 1 = i := by omega
    simp only [qzA, qzl, qzo, qzB, qzZ, qzr, qzk, qzi, xzg, qzY, qzf, qzd, qze, qzq, qzL, qzc, qzb, qzg, qzh, qzu, qzn, qzm, qzt, qza, qzs, qzv, qzy, cv, qzJ, qzI, toA, ofA, FR.pop, abin, intBin, ↓reduceIte, reduceCtorEq, and_true, decide_true, forall_const, false_implies, Bool.true_eq_false, reduceCtorEq, t0, t8, c1]
    refine xzU (next_ok Gl l a 3 i hl (by omega) (by omega) (by omega)) hs rfl rfl ?_
    simp only [qzl, qzo, qzB, qzi, qzf, qzd, qze, qzq, xzb, qzL, qzz, qzc, qzC, qzb, qzM, qzg, qzh, qzT, qzN, qzn, qzm, qzt, qza, qzs, qzv, qzy, xzo, xzD, xzx, qzR, qzS, xzd, cvs, cv, qzJ, qzI, toA, ofA, FR.pop, abin, intBin, VN.at, VH.push, VH.set, qzp, VV.cells, ntV, qzQ, xzs, ↓reduceIte, Option.getD_some, List.length_cons, List.length_nil, List.drop_succ_cons, List.drop_zero, List.take_zero, List.append_nil, List.nil_append, List.cons_append, List.head?_cons, Nat.reduceAdd, Nat.reduceEqDiff, Nat.reduceLeDiff, Nat.zero_add, and_self, cSeq, bSeq, w2]
    refine pts_loop Gl l far i h.next (segN l a) (by omega) hl hf hb (a + 1) (by omega) (by omega) _ _ _ ?_ (segN l a) 0 _ _ (by omega) (fun _ _ _ => rfl) ?_ ?_ ?_ ?_ ?_ ?_ (fun _ _ _ => rfl) rfl
    · intro T' h' hT s1 s2 hh hx
      simp only at hx
      have oA : qzx h'.l (nx + 1) = some (some (.cells [.int .i64 p.x, .int .i64 p.y, v, .bool b] false)) := by
        rw [hh (nx + 1) (by omega) (by omega)]
        simp only [qza]
        rw [if_neg (by omega), if_neg (by omega), if_neg (by omega)]; exact hA
      have oz : qzx h'.l nx = some (some (.cells z false)) := by
        rw [hh nx (by omega) (by omega)]
        simp only [qza]
        rw [if_neg (by omega), if_neg (by omega), if_neg (by omega)]; exact hz
      have u7 : qzx T' 7 = some (.ptr (nx + 1) 0) := by rw [hT 7 (by omega) (by omega)]; simp only [qza, ↓reduceIte, Nat.reduceEqDiff, t7]
      have u9 : qzx T' 9 = some (.ptr h.next 0) := by rw [hT 9 (by omega) (by omega)]; simp only [qza, ↓reduceIte, Nat.reduceEqDiff]
      have u0 : qzx T' 0 = some (.ptr i 0) := by rw [hT 0 (by omega) (by omega)]; simp only [qza, ↓reduceIte, reduceCtorEq, reduceCtorEq, t0]
      have u1 : qzx T' 1 = some (.int .i64 far) := by rw [hT 1 (by omega) (by omega)]; simp only [qza, ↓reduceIte, Nat.reduceEqDiff, t1]
      have u6 : qzx T' 6 = some (.ptr nx 0) := by rw [hT 6 (by omega) (by omega)]; simp only [qza, ↓reduceIte, Nat.reduceEqDiff, t6]
      have u8 : qzx T' 8 = some (.int .i64 ((d + 1 : Nat) : Int)) := by rw [hT 8 (by omega) (by omega)]; simp only [qza, ↓reduceIte, Nat.reduceEqDiff, t8]
      have ex : (Seg.mk (segN l a : Int) (segP l (a + 1) far (segN l a) (segN l a)).p0 (segP l (a + 1) far (segN l a) (segN l a)).p1 (segP l (a + 1) far (segN l a) (segN l a)).p2) = segOf l a far := rfl
      simp only [qzl, qzi, xzv, qzd, qze, qzq, qzH, xzb, qzL, qzc, qzj, qzC, qzb, qzg, qzh, qzT, qzn, qzm, qzt, qza, qzs, qzv, qzK, qzO, qzF, xzo, xzx, qzR, qzE, cvs, cv, VN.at, VH.push, qzp, VV.cells, ntV, ↓reduceIte, Option.getD_some, List.getElem?_cons_zero, List.getElem?_cons_succ, List.length_cons, List.length_nil, List.drop_succ_cons, List.drop_zero, List.take_succ_cons, List.take_zero, List.append_nil, List.nil_append, Nat.reduceAdd, Nat.reduceDiv, Nat.reduceEqDiff, Nat.reduceLeDiff, Nat.zero_add, and_self, cSeg, u7, u9, oA, s2]
      refine wpW_acc (base := nx + 2) (j := j) (f := cSeg) (l := acc) (a := segOf l a far) (ha.ext (by simp; omega) (fun q1 q2 => ?_)) ?_ cSeg_len (by omega) (by simp; omega) (by omega) (by omega) ?_
      · simp only [qza]
        rw [if_neg (by omega), hh j (by omega) (by omega)]
        simp only [qza]
        rw [if_neg (by omega), if_neg (by omega), if_neg (by omega)]
      · simp only [qza, yzr, yzA, qzp, ↓reduceIte, Option.getD_some, List.length_cons, List.length_nil, List.drop_zero, List.take_succ_cons, List.take_zero, Nat.reduceAdd, Nat.reduceMul, reduceCtorEq, Nat.reduceLeDiff, Nat.zero_add, true_or, reduceCtorEq, true_or, cSeg] <;> first | rfl | exact ⟨rfl, rfl⟩ | exact qzw rfl
      · intro h2 g1 g2 g3
        have old : ∀ k, k < nx + 2 → qzx h2.l k = qzx h'.l k := fun k hk => by
          rw [g2 k (by simp; omega) (ha.ne (.inl hk))]
          simp only [qza]
          rw [if_neg (by omega)]
        have o1 := (old i (by omega)).trans s1
        have o2 := (old nx (by omega)).trans oz
        have o3 := (old (nx + 1) (by omega)).trans oA
        simp only at g1
        simp only [qzl, qzi, xzc, xzm, qzf, qzd, qze, qzq, qzL, qzz, qzc, qzb, qzM, qzg, qzh, qzN, qzn, qzm, qzt, qza, qzs, qzv, qzy, qzK, qzR, qzS, xzd, cv, qzJ, qzI, toA, ofA, FR.pop, abin, intBin, VH.set, qzp, VV.cells, ntV, qzQ, xzs, ↓reduceIte, Option.getD_some, List.length_cons, List.length_nil, List.drop_succ_cons, List.drop_zero, List.take_succ_cons, List.take_zero, List.nil_append, List.cons_append, List.head?_cons, Nat.reduceAdd, Nat.reduceEqDiff, Nat.reduceLeDiff, Nat.zero_add, and_self, u7, u8, o3, w]
        refine ih (segEnd l a) (acc ++ [segOf l a far]) _ _ _ _ ?_ ?_ (by simp; omega) (by unfold segEnd; omega) ?_ ?_ ?_ ?_ ?_ (g3.ext (Nat.le_refl _) (fun q1 q2 => ?_)) ?_ ?_ ?_ ?_
        · rw [hr, segsS, List.append_assoc]; rfl
        · rw [hae]; rfl
        · simp only [qza, ↓reduceIte, reduceCtorEq, reduceCtorEq, u0]
        · simp only [qza, ↓reduceIte, Nat.reduceEqDiff, u1]
        · simp only [qza, ↓reduceIte, Nat.reduceEqDiff, u6]
        · simp only [qza, ↓reduceIte, Nat.reduceEqDiff, u7]
        · simp only [qza, ↓reduceIte]
        · simp only [qza]; rw [if_neg (by omega)]
        · simp only [qza, e7, if_false]; exact o1
        · simp only [qza]; rw [if_neg (by omega)]; exact o2
        · simp only [qza, if_true]
        · show nx + 2 ≤ h2.next; omega
    · simp only [qza, ↓reduceIte, reduceCtorEq, reduceCtorEq, t0]
    · simp only [qza, ↓reduceIte, Nat.reduceEqDiff, t1]
    · simp only [qza, ↓reduceIte, Nat.reduceEqDiff]
    · simp only [qza, ↓reduceIte]; rfl
    · simp only [qza, ↓reduceIte, Nat.reduceMul, Nat.add_zero, cSeq, bSeq, e2]
    · simp only [qza, ↓reduceIte, Nat.reduceLT, cSeg, segP, zP]
def pathN (l : List Int) (a : Nat) : Nat := (nextS l (a + 3) 4).toNat + 1
theorem pathN_in (l : List Int) (a : Nat) : 1 ≤ pathN l a ∧ pathN l a ≤ 4 ∧ 1 + nextS l (a + 3) 4 = (pathN l a : Int) := by
  have := next_in l (a + 3) 4 (by omega)
  unfold pathN; omega
def pathOf (l : List Int) (a : Nat) (far : Int) (b : Bool) : Path := ⟨insideS l a far, segsS l far (pathN l a) (a + 4), b⟩
def pathEnd (l : List Int) (a : Nat) : Nat := segsEnd l (pathN l a) (a + 4)
theorem pathEnd_le (l : List Int) (a : Nat) : a ≤ pathEnd l a ∧ pathEnd l a ≤ a + 44 := by
  have h1 := segsEnd_le l (pathN l a) (a + 4)
  have h2 := pathN_in l a
  unfold pathEnd; omega
theorem path_ok (Gl : xzE) (l : List Int) (a : Nat) (far : Int) (b : Bool) (i : Nat) (hl : l.length < 4611686018427387904) (ha : a < 1000000) (hf : 0 ≤ far) (hb : far < 4611686018427387000) :
    StShut Go.VL.Er.E Gl f_glyphicmake_Path [.ptr i 0, .int .i64 far, .bool b] [(i, bSeq l a)] (.agg (cPath (pathOf l a far b))) [(i, bSeq l (pathEnd l a))] := by
  refine shut1_intro fun nx hn => xzp E_glyphicmake_Path ?_
  unfold c_glyphicmake_Path r_glyphicmake_Path
  simp only [xzW]
  obtain ⟨k1, k2, k3⟩ := pathN_in l a
  have w2 : IntKind.i64.wrap (1 + nextS l (a + 3) 4) = (pathN l a : Int) := by rw [xzu (by omega) (by omega)]; omega
  have e1 : ¬ nx = i := by omega
  have e2 : ¬ i = nx := by omega
  have e3 : ¬ nx + 1 = nx := by omega
  have e4 : ¬ nx = nx + 1 := by omega
  have e5 : ¬ nx + 1 = i := by omega
  have e6 : ¬ i = nx + 1 := by omega
  simp only [qzl, qzo, qzi, qzf, qzd, qze, qzq, xzb, qzL, qzc, qzC, qzb, qzg, qzh, qzT, qzu, qzn, qzm, qzt, qza, qzs, qzv, qzy, xzo, cvs, cv, VN.at, VH.push, ↓reduceIte, Nat.reduceAdd, Nat.reduceEqDiff, reduceCtorEq, Nat.zero_add, reduceCtorEq, cSeq, bSeq, cPath]
  refine xzU (inside_ok Gl l a far i hl (by omega) hf hb) (by simp only [qza, ↓reduceIte, cSeq, bSeq, e1]) rfl rfl ?_
  simp only [qzl, qzo, qzi, qzf, qzd, qze, qzq, xzb, qzL, qzz, qzc, qzC, qzb, qzM, qzg, qzh, qzT, qzN, qzu, qzn, qzm, qzt, qza, qzs, qzv, qzy, xzo, xzD, xzx, qzR, qzS, xzd, cvs, cv, VN.at, VH.push, VH.set, qzp, VV.cells, ntV, qzQ, xzs, ↓reduceIte, Option.getD_some, List.length_cons, List.length_nil, List.drop_succ_cons, List.drop_zero, List.take_succ_cons, List.take_zero, List.append_nil, List.nil_append, List.cons_append, List.head?_cons, Nat.reduceAdd, Nat.reduceEqDiff, reduceCtorEq, Nat.reduceLeDiff, Nat.zero_add, and_self, reduceCtorEq, cSeq, bSeq, cPt]
  refine xzU (next_ok Gl l (a + 3) 4 i hl (by omega) (by omega) (by omega)) (by simp only [qza, ↓reduceIte, cSeq, bSeq, e5]) rfl rfl ?_
  simp only [qzB, qzi, qzf, qzd, qze, qzq, qzz, qzc, qzb, qzg, qzh, qzn, qzm, qzt, qza, qzs, qzv, qzy, cv, qzJ, qzI, toA, ofA, FR.pop, abin, intBin, ↓reduceIte, cSeq, bSeq, w2]
  refine segs_loop Gl l far i nx hn hl hf hb (insideS l a far) b [.int .i64 0, .int .i64 0, .nilS, .bool false] _ (segsS l far (pathN l a) (a + 4)) (pathEnd l a) ?_ (pathN l a) (a + 4) [] _ _ .nilS 0 rfl rfl (by simp; omega) (by omega) ?_ ?_ ?_ ?_ ?_ yzp.nil ?_ ?_ ?_ ?_
  · intro T h v j t6 t7 hacc hs hz hA hnn
    have hne : segsS l far (pathN l a) (a + 4) ≠ [] := fun e => by
      have := segsS_len l far (pathN l a) (a + 4)
      rw [e] at this; simp at this; omega
    obtain ⟨rfl, b2, b3, b4⟩ := hacc.some hne
    have hlen := segsS_len l far (pathN l a) (a + 4)
    simp only [qzl, qzo, qzD, qzi, xzv, qzf, qzd, qze, qzH, qzL, qzz, qzG, qzj, qzb, qzM, qzg, qzh, qzN, qzn, qzm, qzt, qza, qzs, qzO, qzF, qzR, qzS, xzd, qzE, VH.set, qzp, VV.cells, ntV, qzV, qzP, qzX, qzW, qzQ, xzs, ↓reduceIte, Option.getD_some, List.length_cons, List.length_nil, List.drop_succ_cons, List.drop_zero, List.take_succ_cons, List.take_zero, List.append_nil, List.nil_append, List.head?_cons, Nat.reduceAdd, Nat.reduceEqDiff, Nat.reduceLeDiff, Nat.zero_add, and_self, t6, t7, hA, hz, e1]
    refine ⟨yzz.agg (xzX.cons (yzz.closed rfl) (xzX.cons (yzz.closed rfl) (xzX.cons (yzz.acc (f' := cSeg) (l := segsS l far (pathN l a) (a + 4)) (.inr ⟨rfl, b2, b3, b4⟩) (fun _ x hx => ?_) cSeg_len (fun _ _ => xzX.closed rfl)) (xzX.cons (yzz.closed rfl) xzX.nil)))), ?_⟩
    · rw [qzp] at hx
      unfold above
      rw [if_pos (by omega), qzp]
      simp only [qza]
      rw [if_neg (by omega)]
      exact hx
    · simp only [cSeq, bSeq, hs]
  all_goals first | (simp only [qza, ↓reduceIte, Nat.reduceEqDiff, reduceCtorEq, Nat.reduceLeDiff, reduceCtorEq, cSeq, bSeq, e2, e3, e6]; done) | (simp only [Nat.reduceLeDiff]; rfl) | exact Nat.le_refl _
end
end Go.VL.Mk
