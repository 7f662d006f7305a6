import Derived.Test.YtbamfhdgikeneaaDoorMkA
import Derived.Test.YtbamfhdgikeneaaDoorLfP
/- A color of an icon. -/
namespace Go.VL.Mk
open Go.FR Go.IR Go.VL Go.VL.Color Go.VL.Wind Go.VL.Ic Go.VL.Pal
noncomputable section
set_option linter.unusedSimpArgs false
set_option linter.unusedVariables false
set_option maxRecDepth 100000
set_option maxHeartbeats 1000000

def addI (l : List Cl) (c : Cl) : List Cl := if 0 ≤ idxS l c 0 then l else l ++ [c]
def addP (l : List Cl) (c : Cl) : Int := if 0 ≤ idxS l c 0 then idxS l c 0 else l.length
theorem addI_len (l : List Cl) (c : Cl) : l.length ≤ (addI l c).length ∧ (addI l c).length ≤ l.length + 1 := by
  unfold addI; split <;> simp
theorem addi_run (Gl : xzE) (c : Cl) (l : List Cl) (hl : l.length < 100000) (base : Nat) (h : VH) (i j : Nat) (v x y z u : VV) (hb : base ≤ h.next) (hi : qzx h.l i = some (some (.cells [x, y, z, v, u] false))) (ha : yzp base h j cCl l 4 v) (hin : i < h.next) (hij : i ≠ j ∨ v = .nilS) :
    CallsV Go.VL.Er.E Gl f_glyphicmake_add [.ptr i 0, .agg (cCl c)] h (fun r h' => r = .int .i64 (addP l c) ∧ ∃ j' v', qzx h'.l i = some (some (.cells [x, y, z, v', u] false)) ∧ yzp base h' j' cCl (addI l c) 4 v' ∧ (∀ k, k < h.next → k ≠ i → (k ≠ j ∨ v = .nilS) → qzx h'.l k = qzx h.l k) ∧ h.next ≤ h'.next ∧ (j' = j ∧ v' = v ∨ h.next ≤ j')) := by
  refine xzp E_glyphicmake_add ?_
  unfold c_glyphicmake_add r_glyphicmake_add
  simp only [xzW]
  have e1 : ¬ h.next = i := by omega
  simp only [qzl, xzC, qzo, qzi, qzf, qzd, qze, qzq, xzb, xzl, xzf, xzB, xzI, xzL, qzc, qzj, qzC, qzb, qzg, qzh, qzT, xzr, xzt, qzu, qzn, qzm, qzt, qza, qzs, qzv, qzy, qzK, xzH, qzO, qzF, xzo, xzY, qzE, cv, VN.at, VH.push, qzp, VV.cells, ntV, countN, xzA, xzJ, xzS, xzy, xzK, yze, yzh, ↓reduceIte, Option.getD_some, Option.isSome_some, List.getElem?_cons_zero, List.getElem?_cons_succ, List.length_cons, List.length_nil, List.drop_zero, List.take_succ_cons, List.take_zero, List.append_nil, List.contains_nil, Nat.reduceAdd, Nat.reduceEqDiff, reduceCtorEq, Nat.reduceLeDiff, Nat.zero_add, and_self, true_and, Bool.and_self, Bool.not_false, reduceCtorEq, cCl, e1, hi]
  have acc2 := yzp.ext (h' := h.push (.cells (cCl c) false)) ha (Nat.le_succ _) (fun g1 g2 => by simp only [VH.push, qza]; rw [if_neg (by omega)])
  obtain ⟨a0, s1, s2⟩ := acc_shut acc2 Pal.cCl_len (fun _ => rfl)
  refine call_plain_sub (a0 := [a0, .agg (cCl c)]) (refFind_ok Gl c l (by omega)) ?_ ⟨_, _, rfl, s2, subL_refl _⟩ rfl ?_
  · have s1' : shut (VH.mk ((h.next, some (.cells (cCl c) false)) :: h.l) (h.next + 1)) v = some a0 := s1
    simp only [shutL, s1']; rfl
  unfold addI addP
  by_cases k1 : 0 ≤ idxS l c 0
  · have k1' : idxS l c 0 ≥ 0 := k1
    simp only [if_pos k1]
    simp only [qzA, qzl, xzC, qzo, qzD, qzr, qzk, qzi, qzU, qzf, qzd, qze, qzq, xzF, xzl, xzf, xzB, xzI, xzM, qzG, qzc, qzb, qzg, qzh, xzr, xzt, qzn, qzm, qzt, qza, qzs, qzv, qzy, qzK, xzH, qzO, qzF, qzE, cv, qzJ, qzI, toA, ofA, FR.pop, abin, intBin, qzp, qzV, qzP, qzX, qzW, countN, xzA, xzJ, xzS, xzy, xzK, yze, yzh, ↓reduceIte, Option.map_some, List.append_nil, List.contains_nil, Nat.reduceEqDiff, reduceCtorEq, Nat.zero_add, and_true, true_and, Bool.and_self, Bool.and_true, Bool.not_false, decide_true, forall_const, false_implies, Bool.true_eq_false, reduceCtorEq, k1']
    refine ⟨j, v, by simp only [e1, if_false]; exact hi, acc2, fun k hk _ _ => ?_, Nat.le_succ _, .inl ⟨rfl, rfl⟩⟩
    rw [if_neg (by omega)]
  · have k1' : ¬ idxS l c 0 ≥ 0 := k1
    simp only [if_neg k1]
    simp only [qzA, qzl, xzC, qzo, qzD, qzr, qzk, qzi, qzU, qzf, qzd, qze, qzq, xzF, xzl, xzf, xzB, xzI, yzq, xzL, xzM, qzG, qzc, qzj, qzC, qzb, qzg, qzh, xzr, xzt, yzj, qzn, qzm, qzt, qza, qzs, qzv, qzy, qzK, xzH, qzO, qzF, xzo, xzx, qzR, qzE, cvs, cv, qzJ, qzI, toA, ofA, FR.pop, abin, intBin, VN.at, VH.push, qzp, VV.cells, ntV, qzV, qzP, qzX, qzW, countN, xzA, xzJ, xzS, xzy, xzK, yze, yzh, ↓reduceIte, Option.getD_some, Option.isSome_some, Option.map_some, List.getElem?_cons_zero, List.getElem?_cons_succ, List.length_cons, List.length_nil, List.drop_succ_cons, List.drop_zero, List.take_succ_cons, List.take_zero, List.append_nil, List.nil_append, List.contains_nil, Nat.reduceAdd, Nat.reduceDiv, Nat.reduceLT, Nat.reduceEqDiff, reduceCtorEq, Nat.reduceLeDiff, Nat.zero_add, and_self, true_and, Bool.and_self, Bool.not_false, Bool.false_eq_true, decide_false, forall_const, false_implies, reduceCtorEq, k1', e1, hi]
    have acc4 : yzp base ⟨(h.next + 1, some (VB.cells (cCl c) false)) :: (h.next, some (VB.cells (cCl c) false)) :: h.l, h.next + 1 + 1⟩ j cCl l 4 v := yzp.ext (h := h) ha (by show h.next ≤ h.next + 1 + 1; omega) (fun q1 q2 => by simp only [qza]; rw [if_neg (by omega), if_neg (by omega)])
    refine wpW_acc (a := c) acc4 (by simp only [qza, yzr, yzA, qzp, ↓reduceIte, Option.getD_some, List.length_cons, List.length_nil, List.drop_zero, List.take_succ_cons, List.take_zero, Nat.reduceAdd, Nat.reduceMul, reduceCtorEq, Nat.reduceLeDiff, Nat.zero_add, true_or, reduceCtorEq, true_or, cCl] <;> first | rfl | exact ⟨rfl, rfl⟩ | exact qzw rfl) Pal.cCl_len (by omega) (by show base ≤ h.next + 1 + 1; omega) (by omega) (by omega) ?_
    intro h3 g1 g2 q3
    simp only at g1 g2 q3
    have r0 : ∀ k, k < h.next → (k ≠ j ∨ v = VV.nilS) → qzx h3.l k = qzx h.l k := fun k hk hj => by
      rw [g2 k (by omega) hj]; simp only [qza]; rw [if_neg (by omega), if_neg (by omega)]
    have ri := (r0 i hin hij).trans hi
    obtain ⟨_, q4, _, q5⟩ := q3.some (by simp)
    have e5 : ¬ i = h.next + 1 + 1 := by omega
    have wl : IntKind.i64.wrap (((l.length + 1 : Nat) : Int) - 1) = (l.length : Int) := by rw [xzu (by omega) (by omega)]; omega
    simp only [qzl, qzo, qzD, qzi, qzf, qzd, qze, qzq, qzH, xzF, xzl, xzf, xzB, xzL, xzM, qzG, qzc, qzj, qzb, qzM, qzg, qzh, xzr, xzt, qzN, qzn, qzm, qzt, qza, qzs, qzv, qzy, qzK, xzh, xzH, qzO, qzF, qzR, qzS, xzd, qzE, cv, qzJ, qzI, toA, ofA, FR.pop, abin, intBin, VH.set, qzp, VV.cells, ntV, qzV, qzP, qzX, qzW, qzQ, xzs, ↓reduceIte, Option.getD_some, Option.map_some, List.getElem?_cons_zero, List.getElem?_cons_succ, List.length_cons, List.length_nil, List.drop_succ_cons, List.drop_zero, List.take_succ_cons, List.take_zero, List.append_nil, List.nil_append, List.cons_append, List.head?_cons, Nat.reduceAdd, Nat.reduceEqDiff, reduceCtorEq, Nat.reduceLeDiff, Nat.zero_add, and_self, true_and, reduceCtorEq, ri, wl]
    refine ⟨h.next + 1 + 1, _, rfl, .inr ⟨by simp, by simp only [qza, e5, if_false]; exact q4, by omega, q5⟩, fun k hk hne hj => ?_, by omega, .inr (by omega)⟩
    rw [if_neg (by omega)]; exact r0 k hk (by first | exact hj | (simp at hj ⊢; exact hj))
end
end Go.VL.Mk

/- A command's paths. -/
namespace Go.VL.Mk
open Go.FR Go.IR Go.VL Go.VL.Color Go.VL.Wind Go.VL.Ic
noncomputable section
set_option linter.unusedSimpArgs false
set_option linter.unusedVariables false
set_option maxRecDepth 100000
set_option maxHeartbeats 1000000

def shutB' (l : List Int) (kind : Nat) (a : Nat) : Bool := decide (kind = 2) && decide (nextS l a 2 = 0)
def kAt (kind : Nat) (a : Nat) : Nat := if kind = 2 then a + 1 else a
def pathsS (l : List Int) (far : Int) (kind : Nat) : Nat → Nat → List Path
  | 0, _ => []
  | n + 1, a => pathOf l (kAt kind a) far (shutB' l kind a) :: pathsS l far kind n (pathEnd l (kAt kind a))
def pathsEnd (l : List Int) (kind : Nat) : Nat → Nat → Nat
  | 0, a => a
  | n + 1, a => pathsEnd l kind n (pathEnd l (kAt kind a))
theorem pathsS_len (l : List Int) (far : Int) (kind : Nat) : ∀ n a, (pathsS l far kind n a).length = n
  | 0, a => rfl
  | n + 1, a => by rw [pathsS, List.length_cons, pathsS_len l far kind n]
theorem kAt_le (kind a : Nat) : a ≤ kAt kind a ∧ kAt kind a ≤ a + 1 := by unfold kAt; split <;> omega
theorem pathsEnd_le (l : List Int) (kind : Nat) : ∀ n a, a ≤ pathsEnd l kind n a ∧ pathsEnd l kind n a ≤ a + 45 * n
  | 0, a => by simp [pathsEnd]
  | n + 1, a => by
    have h1 := pathsEnd_le l kind n (pathEnd l (kAt kind a))
    have h2 := pathEnd_le l (kAt kind a)
    have h3 := kAt_le kind a
    rw [pathsEnd]; omega
theorem paths_loop (Gl : xzE) (l : List Int) (far : Int) (i bx b1 : Nat) (kind : Nat) (hl : l.length < 4611686018427387904) (hf : 0 ≤ far) (hb : far < 4611686018427387000) (hib : i ≠ bx) (hi1 : i < b1) (hbx : bx < b1) (x1 x2 x3 x4 x5 x6 x7 x8 x9 : VV) (T0 : VF) (hA : VH) (K : AEx → VF → VH → Prop) (r : List Path) (ae : Nat)
    (hK : ∀ T h v j, (∀ k, k < 7 → qzx T k = qzx T0 k) → yzp b1 h j cPath r 4 v → qzx h.l i = some (some (bSeq l ae)) → qzx h.l bx = some (some (.cells [.int .i64 kind, x1, x2, x3, x4, x5, x6, x7, x8, x9, v] false)) → (∀ k, k < b1 → k ≠ i → k ≠ bx → qzx h.l k = qzx hA.l k) → b1 ≤ h.next → K (.exit 2) T h) :
    ∀ (d a : Nat) (acc : List Path) (T : VF) (h : VH) (v : VV) (j : Nat), r = acc ++ pathsS l far kind d a → ae = pathsEnd l kind d a → acc.length + d < 1000 → a + 45 * d < 1000000 →
      (∀ k, k < 7 → qzx T k = qzx T0 k) → qzx T0 0 = some (.ptr i 0) → qzx T0 4 = some (.int .i64 far) → qzx T0 6 = some (.ptr bx 0) → qzx T 7 = some (.int .i64 ((d : Int) - 1)) →
      yzp b1 h j cPath acc 4 v → qzx h.l i = some (some (bSeq l a)) → qzx h.l bx = some (some (.cells [.int .i64 kind, x1, x2, x3, x4, x5, x6, x7, x8, x9, v] false)) → (∀ k, k < b1 → k ≠ i → k ≠ bx → qzx h.l k = qzx hA.l k) → b1 ≤ h.next →
    wp Go.VL.Er.E Gl (.loop c_glyphicmake_Icon_l0) T h K := by
  intro d
  induction d with
  | zero =>
    intro a acc T h v j hr hae h1 h2 hT u0 u4 u6 t7 ha hs hB hh hn
    refine xzz c_glyphicmake_Icon_l0.eq_1 ?_
    have c1 : ¬ ((0 : Nat) : Int) - 1 ≥ 0 := by omega
    simp only [qzA, qzl, xzC, qzo, qzB, qzZ, qzr, qzk, qzi, xzg, qzY, qzf, qzd, qze, qzq, xzl, xzf, qzc, qzb, qzg, qzh, qzn, qzm, qzt, qza, qzs, qzv, qzy, cv, qzJ, qzI, toA, ofA, FR.pop, abin, intBin, countN, ↓reduceIte, Nat.reduceEqDiff, Nat.zero_add, true_and, Bool.false_eq_true, decide_false, forall_const, false_implies, t7, c1]
    refine hK _ _ v j (fun k q => ?_) (by rw [hr, pathsS, List.append_nil]; exact ha) (by rw [hae]; exact hs) hB hh hn
    simp only [qza]
    (repeat rw [if_neg (by omega)])
    exact hT k q
  | succ d ih =>
    intro a acc T h v j hr hae h1 h2 hT u0 u4 u6 t7 ha hs hB hh hn
    refine xzz c_glyphicmake_Icon_l0.eq_1 ?_
    have t0 := (hT 0 (by omega)).trans u0
    have t4 := (hT 4 (by omega)).trans u4
    have t6 := (hT 6 (by omega)).trans u6
    have c1 : ((d + 1 : Nat) : Int) - 1 ≥ 0 := by omega
    have w : IntKind.i64.wrap (((d + 1 : Nat) : Int) - 1 - 1) = (d : Int) - 1 := by rw [xzu (by omega) (by omega)]; omega
    have e1 : ¬ i = bx := hib
    have e2 : ¬ bx = i := fun e => hib e.symm
    have e3 : ¬ h.next = bx := by omega
    have e4 : ¬ bx = h.next := by omega
    have x1' : bx < h.next := by omega
    have e5 : (i == bx) = false := by simp [hib]
    have e6 : (bx == i) = false := by simp [e2]
    have kb := kAt_le kind a
    obtain ⟨a', hka⟩ : ∃ a', kAt kind a = a' := ⟨_, rfl⟩
    obtain ⟨b, hsb⟩ : ∃ b, shutB' l kind a = b := ⟨_, rfl⟩
    by_cases k2 : kind = 2
    have q1 : ((kind : Int) == 2) = true := by simp [k2]
    have ka : a' = a + 1 := by rw [← hka]; unfold kAt; rw [if_pos k2]
    have sb : (nextS l a 2 == 0) = b := by rw [← hsb]; unfold shutB'; simp [k2]; rfl
    simp only [qzA, qzl, xzC, qzo, qzB, qzZ, qzr, qzk, qzi, xzg, qzY, qzf, qzd, qze, qzq, xzl, xzf, xzB, xzI, xzL, qzc, qzj, qzb, qzg, qzh, xzr, xzt, qzu, qzn, qzm, qzt, qza, qzs, qzv, qzy, qzK, qzO, qzF, qzE, cv, qzJ, qzI, toA, ofA, FR.pop, abin, intBin, qzp, countN, xzA, xzJ, xzS, xzy, xzK, yze, yzh, ↓reduceIte, Option.getD_some, Option.isSome_some, List.getElem?_cons_zero, List.append_nil, List.contains_nil, Nat.reduceEqDiff, reduceCtorEq, Nat.add_zero, Nat.zero_add, and_self, and_true, true_and, Bool.and_self, Bool.not_false, beq_self_eq_true, decide_true, forall_const, false_implies, Bool.true_eq_false, reduceCtorEq, t0, t6, t7, c1, hB, q1]
    refine xzU (next_ok Gl l a 2 i hl (by omega) (by omega) (by omega)) hs rfl rfl ?_
    rw [← ka]
    simp only [xzl, xzf, xzB, xzL, xzM, qzc, qzb, xzr, xzt, qzu, qzn, qzm, qzt, qza, qzs, qzv, qzy, xzq, cv, qzJ, qzI, toA, ofA, FR.pop, abin, intBin, ↓reduceIte, Option.map_some, List.append_nil, Nat.reduceEqDiff, reduceCtorEq, beq_self_eq_true, reduceCtorEq, cSeq, bSeq, t0, t4, sb]
    have hs' : qzx (VH.mk ((i, some (bSeq l a')) :: h.l) h.next).l i = some (some (bSeq l a')) := by simp only [qza, if_true]
    have hB' : qzx (VH.mk ((i, some (bSeq l a')) :: h.l) h.next).l bx = some (some (.cells [.int .i64 kind, x1, x2, x3, x4, x5, x6, x7, x8, x9, v] false)) := by simp only [qza, e1, if_false]; exact hB
    have hh' : ∀ k, k ≠ i → qzx (VH.mk ((i, some (bSeq l a')) :: h.l) h.next).l k = qzx h.l k := fun k q => by simp only [qza]; rw [if_neg (Ne.symm q)]
    rotate_left
    have q1 : ((kind : Int) == 2) = false := by simp; omega
    have ka : a' = a := by rw [← hka]; unfold kAt; rw [if_neg k2]
    have sb : false = b := by rw [← hsb]; unfold shutB'; simp [k2]
    simp only [qzA, qzl, xzC, qzo, qzB, qzZ, qzr, qzk, qzi, xzg, qzY, qzf, qzd, qze, qzq, xzl, xzf, xzQ, xzB, xzI, xzL, qzc, qzj, qzb, qzg, qzh, xzr, xzt, qzu, qzn, qzm, qzt, qza, qzs, qzv, qzy, xzq, qzK, qzO, qzF, qzE, cv, qzJ, qzI, toA, ofA, FR.pop, abin, intBin, qzp, qzQ, countN, xzA, xzJ, xzS, xzy, xzK, yze, yzh, ↓reduceIte, Option.getD_some, Option.isSome_some, List.getElem?_cons_zero, List.append_nil, List.contains_nil, Nat.reduceEqDiff, reduceCtorEq, Nat.add_zero, Nat.zero_add, and_self, and_true, true_and, Bool.and_self, Bool.not_false, Bool.false_eq_true, beq_true, decide_true, forall_const, false_implies, Bool.true_eq_false, reduceCtorEq, t0, t4, t6, t7, c1, hB, q1]
    rw [sb]
    have hs' := hs
    rw [← ka] at hs'
    have hB' := hB
    have hh' : ∀ k, k ≠ i → qzx h.l k = qzx h.l k := fun k q => rfl
    rotate_left
    all_goals
      refine call_shut1 (path_ok Gl l a' far b i hl (by omega) hf hb) hs' rfl ?_
      simp only [xzl, xzf, xzB, xzI, yzq, xzL, xzM, qzc, qzj, qzC, qzb, xzr, xzt, yzj, qzn, qzm, qzt, qza, qzs, qzv, qzK, qzO, qzF, xzo, xzx, qzR, qzE, cvs, cv, VN.at, VH.push, qzp, VV.cells, ntV, xzA, yzD, fzB, fzL, xzJ, xzS, xzy, xzK, yze, yzh, ↓reduceIte, Option.getD_some, Option.isSome_some, Option.map_some, List.getElem?_cons_zero, List.getElem?_cons_succ, List.length_cons, List.length_nil, List.drop_succ_cons, List.drop_zero, List.take_zero, List.append_nil, List.nil_append, List.cons_append, List.contains_cons, List.contains_nil, Nat.reduceAdd, Nat.reduceDiv, Nat.reduceLT, Nat.reduceEqDiff, Nat.reduceLeDiff, Nat.zero_add, and_self, true_and, Bool.and_self, Bool.or_false, Bool.or_true, Bool.not_false, decide_true, cSeq, bSeq, cPath, t6, hB, e1, e6, x1']
      refine wpW_acc (base := b1) (j := j) (f := cPath) (l := acc) (a := pathOf l a' far b) (ha.ext (by simp) (fun q1 q2 => ?_)) ?_ cPath_len (by omega) (by simp; omega) (by omega) (by omega) ?_
      · simp only [qza]
        (repeat rw [if_neg (by omega)])
      · simp only [qza, yzr, yzA, qzp, ↓reduceIte, Option.getD_some, List.length_cons, List.length_nil, List.drop_zero, List.take_succ_cons, List.take_zero, Nat.reduceAdd, Nat.reduceMul, reduceCtorEq, Nat.reduceLeDiff, Nat.zero_add, true_or, reduceCtorEq, true_or, cPath] <;> first | rfl | exact ⟨rfl, rfl⟩ | exact qzw rfl
      · intro h2 g1 g2 g3
        have old : ∀ k, k < b1 → k ≠ i → qzx h2.l k = qzx h.l k := fun k hk hi => by
          rw [g2 k (by simp; omega) (ha.ne (.inl hk))]
          simp only [qza]
          (repeat rw [if_neg (by omega)])
        have o1 : qzx h2.l i = some (some (bSeq l (pathEnd l a'))) := by
          rw [g2 i (by simp; omega) (ha.ne (.inl hi1))]
          simp only [qza]
          simp only [if_neg (show ¬ h.next = i by omega), if_true]
        have o3 := (old bx (by omega) (by omega)).trans hB
        simp only at g1
        simp only [qzl, qzi, xzc, xzm, qzf, qzd, qze, qzq, xzF, xzl, xzf, xzB, xzL, xzM, qzc, qzb, qzM, qzg, qzh, xzr, xzt, qzN, qzn, qzm, qzt, qza, qzs, qzv, qzy, qzK, qzR, qzS, xzd, cv, qzJ, qzI, toA, ofA, FR.pop, abin, intBin, VH.set, qzp, VV.cells, ntV, qzQ, xzs, ↓reduceIte, Option.getD_some, Option.map_some, List.length_cons, List.length_nil, List.drop_succ_cons, List.drop_zero, List.take_succ_cons, List.take_zero, List.append_nil, List.nil_append, List.cons_append, List.head?_cons, Nat.reduceAdd, Nat.reduceEqDiff, Nat.reduceLeDiff, Nat.zero_add, and_self, t6, t7, o3, w]
        refine ih (pathEnd l a') (acc ++ [pathOf l a' far b]) _ _ _ _ ?_ ?_ (by simp; omega) (by have := pathEnd_le l a'; omega) ?_ u0 u4 u6 ?_ (g3.ext (Nat.le_refl _) (fun q1 q2 => ?_)) ?_ ?_ ?_ ?_
        · rw [hr, pathsS, List.append_assoc, hka, hsb]; rfl
        · rw [hae, pathsEnd, hka]
        · intro k q
          simp only [qza]
          (repeat rw [if_neg (by omega)])
          exact hT k q
        · simp only [qza, ↓reduceIte]
        · simp only [qza]; rw [if_neg (by omega)]
        · simp only [qza, e2, if_false]; exact o1
        · simp only [qza, if_true]
        · intro k q1 q2 q3
          simp only [qza]
          rw [if_neg (by omega), old k q1 q2, hh k q1 q2 q3]
        · show b1 ≤ h2.next; omega
end
end Go.VL.Mk
