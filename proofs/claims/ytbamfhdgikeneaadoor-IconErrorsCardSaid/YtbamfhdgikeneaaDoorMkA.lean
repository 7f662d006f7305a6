import Derived.Test.YtbamfhdgikeneaaDoorErB
import Derived.Test.YtbamfhdgikeneaaDoorWiA
/- The statements' own maker of icons: colors, points, paths. -/
namespace Go.VL.Mk
open Go.FR Go.IR Go.VL Go.VL.Color Go.VL.Wind Go.VL.Ic
noncomputable section
set_option linter.unusedSimpArgs false
set_option linter.unusedVariables false
set_option maxRecDepth 100000
set_option maxHeartbeats 1000000

theorem more_ok (Gl : xzB) (l : List Int) (a i : Nat) : StOk Go.VL.Er.E Gl f_glyphicmake_Seq_more [.ptr i 0] [(i, bSeq l a)] (.bool (decide (a < l.length))) [(i, bSeq l a)] := by
  refine st1_intro fun nx hn => xzj E_glyphicmake_Seq_more ?_
  unfold c_glyphicmake_Seq_more r_glyphicmake_Seq_more
  simp only [xzQ]
  by_cases c : a < l.length
  · have c1 : (a : Int) < (l.length : Int) := by omega
    simp only [qzp, xzw, qzq, qzB, qzj, qzf, qzd, qze, qzo, xzX, xzi, xze, xzx, xzG, qzC, qzc, qzm, qzb, qzg, qzh, xzn, xzq, qzk, qzl, qzs, qza, qzt, qzv, qzy, qzI, xzr, xzL, qzN, qzD, qzE, cv, qzL, qzK, toA, ofA, FR.pop, abin, intBin, qzi, qzW, qzM, qzX, qzV, countN, xzA, xzE, xzR, xzz, xzF, xzV, xzW, ↓reduceIte, Option.getD_some, Option.isSome_some, List.getElem?_cons_zero, List.getElem?_cons_succ, List.append_nil, List.contains_nil, Nat.reduceEqDiff, reduceCtorEq, Nat.add_zero, Nat.zero_add, and_self, Bool.and_self, Bool.not_false, decide_true, reduceCtorEq, cSeq, bSeq, c, c1] <;> first | rfl | exact ⟨rfl, rfl⟩ | exact qzx rfl
  · have c1 : ¬ (a : Int) < (l.length : Int) := by omega
    simp only [qzp, xzw, qzq, qzB, qzj, qzf, qzd, qze, qzo, xzX, xzi, xze, xzx, xzG, qzC, qzc, qzm, qzb, qzg, qzh, xzn, xzq, qzk, qzl, qzs, qza, qzt, qzv, qzy, qzI, xzr, xzL, qzN, qzD, qzE, cv, qzL, qzK, toA, ofA, FR.pop, abin, intBin, qzi, qzW, qzM, qzX, qzV, countN, xzA, xzE, xzR, xzz, xzF, xzV, xzW, ↓reduceIte, Option.getD_some, Option.isSome_some, List.getElem?_cons_zero, List.getElem?_cons_succ, List.append_nil, List.contains_nil, Nat.reduceEqDiff, reduceCtorEq, Nat.add_zero, Nat.zero_add, and_self, Bool.and_self, Bool.not_false, decide_false, reduceCtorEq, cSeq, bSeq, c, c1] <;> first | rfl | exact ⟨rfl, rfl⟩ | exact qzx rfl

def palS : List Cl := [⟨255, 0, 0, 255⟩, ⟨0, 128, 0, 255⟩, ⟨0, 0, 200, 100⟩, ⟨10, 20, 30, 1⟩, ⟨255, 255, 255, 255⟩, ⟨0, 0, 0, 0⟩, ⟨7, 0, 0, 254⟩]
def colorS (l : List Int) (a : Nat) : Cl := palS.getD (nextS l a 7).toNat ⟨0, 0, 0, 0⟩
theorem color_ok (Gl : xzB) (l : List Int) (a i : Nat) (hl : l.length < 4611686018427387904) (ha : a < 4611686018427387904) : StOk Go.VL.Er.E Gl f_glyphicmake_Color [.ptr i 0] [(i, bSeq l a)] (.agg (cCl (colorS l a))) [(i, bSeq l (a + 1))] := by
  refine st1_intro fun nx hn => xzj E_glyphicmake_Color ?_
  unfold c_glyphicmake_Color r_glyphicmake_Color
  simp only [xzQ]
  have n1 := next_in l a 7 (by omega)
  have e1 : ¬ nx = i := by omega
  have e2 : ¬ i = nx := by omega
  have e3 : ¬ nx + 1 = i := by omega
  have e4 : ¬ i = nx + 1 := by omega
  have e5 : ¬ nx + 1 = nx := by omega
  simp only [qzp, qzq, qzj, qzf, qzd, qze, qzo, xzc, qzJ, qzc, qzH, qzb, qzg, qzh, qzY, qzr, qzk, qzl, qzs, qza, qzt, qzv, qzy, xzk, xzs, xzv, qzS, cvs, cv, VN.at, VH.push, VV.cells, ntV, ↓reduceIte, List.length_cons, List.length_nil, List.drop_succ_cons, List.drop_zero, List.take_succ_cons, List.take_zero, List.append_nil, List.nil_append, List.cons_append, Nat.reduceAdd, Nat.reduceDiv, Nat.reduceEqDiff, reduceCtorEq, Nat.reduceLeDiff, Nat.zero_add, and_self, reduceCtorEq, cCl, cSeq, bSeq]
  refine xzC (next_ok Gl l a 7 i hl (by omega) (by omega) (by omega)) (by simp only [qza, ↓reduceIte, cSeq, bSeq, e1, e3]) rfl rfl ?_
  have z : ∀ n : Nat, natV (VV.int .i64 (n : Int)) = some n := xzO .i64
  have z1 : natV (VV.int .i64 1) = some 1 := rfl
  have z2 : natV (VV.int .i64 2) = some 2 := rfl
  have z3 : natV (VV.int .i64 3) = some 3 := rfl
  have z4 : natV (VV.int .i64 4) = some 4 := rfl
  have z5 : natV (VV.int .i64 5) = some 5 := rfl
  have z6 : natV (VV.int .i64 6) = some 6 := rfl
  have z0 : natV (VV.int .i64 0) = some 0 := rfl
  unfold colorS
  have cs : nextS l a 7 = 0 ∨ nextS l a 7 = 1 ∨ nextS l a 7 = 2 ∨ nextS l a 7 = 3 ∨ nextS l a 7 = 4 ∨ nextS l a 7 = 5 ∨ nextS l a 7 = 6 := by omega
  rcases cs with h | h | h | h | h | h | h
  all_goals
    rw [h]
    simp only [qzB, qzj, qzf, qzd, qze, qzo, qzG, qzJ, qzu, qzC, qzc, qzm, qzb, qzP, qzg, qzh, qzO, qzk, qzl, qzs, qza, qzt, qzv, xzf, qzN, qzD, qzS, qzR, xza, qzE, VH.set, qzi, VV.cells, ntV, qzW, qzM, qzX, qzV, qzQ, xzp, ↓reduceIte, Option.getD_some, List.length_cons, List.length_nil, List.drop_succ_cons, List.drop_zero, List.take_succ_cons, List.take_zero, List.append_nil, List.nil_append, List.head?_cons, Nat.reduceAdd, Nat.reduceMul, Nat.reduceLT, Nat.reduceEqDiff, Nat.reduceLeDiff, Nat.add_zero, Nat.zero_add, and_self, and_true, cSeq, bSeq, e1, e2, e4, e5, z0, z1, z2, z3, z4, z5, z6]
  all_goals first | exact ⟨rfl, rfl⟩ | rfl

def insideS (l : List Int) (a : Nat) (far : Int) : Pt := if nextS l a 12 = 0 then pointS l (a + 1) far else ⟨nextS l (a + 1) (far + 1), nextS l (a + 2) (far + 1)⟩
theorem inside_ok (Gl : xzB) (l : List Int) (a : Nat) (far : Int) (i : Nat) (hl : l.length < 4611686018427387904) (ha : a + 3 < 4611686018427387904) (h : 0 ≤ far) (hb : far < 4611686018427387000) :
    StOk Go.VL.Er.E Gl f_glyphicmake_inside [.ptr i 0, .int .i64 far] [(i, bSeq l a)] (.agg (cPt (insideS l a far))) [(i, bSeq l (a + 3))] := by
  refine st1_intro fun nx hn => xzj E_glyphicmake_inside ?_
  unfold c_glyphicmake_inside r_glyphicmake_inside
  simp only [xzQ]
  have e1 : ¬ nx = i := by omega
  have e2 : ¬ i = nx := by omega
  have w2 : IntKind.i64.wrap (far + 1) = far + 1 := xzl (by omega) (by omega)
  simp only [qzp, qzq, qzj, qzf, qzd, qze, qzo, xzc, qzJ, qzc, qzH, qzb, qzg, qzh, qzY, qzr, qzk, qzl, qzs, qza, qzt, qzv, qzy, xzk, cvs, cv, VN.at, VH.push, ↓reduceIte, reduceCtorEq, Nat.zero_add, reduceCtorEq, cSeq, bSeq, cPt]
  refine xzC (next_ok Gl l a 12 i hl (by omega) (by omega) (by omega)) (by simp only [qza, ↓reduceIte, cSeq, bSeq, e1]) rfl rfl ?_
  unfold insideS
  by_cases c : nextS l a 12 = 0
  · have c' : (nextS l a 12 == 0) = true := by simp [c]
    rw [if_pos c]
    simp only [qzz, qzp, qzq, qzw, qzn, qzj, qzf, qzd, qze, qzo, qzJ, qzu, qzc, qzb, qzg, qzh, qzr, qzk, qzl, qzs, qza, qzt, qzv, qzy, cv, qzL, qzK, toA, ofA, FR.pop, abin, intBin, ↓reduceIte, Nat.reduceEqDiff, reduceCtorEq, and_true, forall_const, false_implies, Bool.true_eq_false, reduceCtorEq, cSeq, bSeq, c']
    refine xzC (point_ok Gl l (a + 1) far i hl (by omega) h hb) (by simp only [qza, ↓reduceIte, cSeq, bSeq]) rfl rfl ?_
    simp only [qzB, qzj, qzT, qzf, qzd, qze, qzJ, qzu, qzC, qzb, qzP, qzg, qzO, qzk, qzl, qzs, qza, qzt, qzD, qzS, qzR, xza, qzE, VH.set, qzi, VV.cells, ntV, qzW, qzM, qzX, qzV, qzQ, xzp, ↓reduceIte, Option.getD_some, List.length_cons, List.length_nil, List.drop_succ_cons, List.drop_zero, List.take_succ_cons, List.take_zero, List.append_nil, List.nil_append, List.head?_cons, Nat.reduceAdd, Nat.reduceEqDiff, Nat.reduceLeDiff, Nat.zero_add, and_self, cSeq, bSeq, cPt, e1, e2] <;> first | rfl | exact ⟨rfl, rfl⟩ | exact qzx rfl
  · have c' : (nextS l a 12 == 0) = false := by simp [c]
    rw [if_neg c]
    simp only [qzz, qzp, qzq, qzw, qzn, qzj, qzf, qzd, qze, qzo, qzJ, qzu, qzc, qzb, qzg, qzh, qzr, qzk, qzl, qzs, qza, qzt, qzv, qzy, cv, qzL, qzK, toA, ofA, FR.pop, abin, intBin, ↓reduceIte, Nat.reduceEqDiff, reduceCtorEq, true_and, Bool.false_eq_true, forall_const, false_implies, reduceCtorEq, cSeq, bSeq, c', w2]
    refine xzC (next_ok Gl l (a + 1) (far + 1) i hl (by omega) (by omega) (by omega)) (by simp only [qza, ↓reduceIte, cSeq, bSeq]) rfl rfl ?_
    simp only [qzp, qzq, qzj, qzf, qzd, qze, qzo, qzJ, qzu, qzc, qzb, qzg, qzh, qzr, qzk, qzl, qzs, qza, qzt, qzv, qzy, cv, qzL, qzK, toA, ofA, FR.pop, abin, intBin, ↓reduceIte, Nat.reduceEqDiff, reduceCtorEq, reduceCtorEq, cSeq, bSeq, w2]
    refine xzC (next_ok Gl l (a + 2) (far + 1) i hl (by omega) (by omega) (by omega)) (by simp only [qza, ↓reduceIte, cSeq, bSeq]) rfl rfl ?_
    simp only [qzB, qzj, qzf, qzd, qze, qzo, qzJ, qzu, qzC, qzc, qzb, qzP, qzg, qzh, qzO, qzk, qzl, qzs, qza, qzt, qzv, qzD, xzs, xzv, qzS, qzR, xza, qzE, cvs, cv, VH.set, qzi, VV.cells, ntV, qzW, qzM, qzX, qzV, qzQ, xzp, ↓reduceIte, Option.getD_some, List.length_cons, List.length_nil, List.drop_succ_cons, List.drop_zero, List.take_succ_cons, List.take_zero, List.append_nil, List.nil_append, List.cons_append, List.head?_cons, Nat.reduceAdd, Nat.reduceEqDiff, Nat.reduceLeDiff, Nat.zero_add, and_self, cSeq, bSeq, e1, e2] <;> first | rfl | exact ⟨rfl, rfl⟩ | exact qzx rfl

def zP : Pt := ⟨0, 0⟩
/-- A segment of which so many points are there. -/
def segP (l : List Int) (a : Nat) (far kind : Int) (k : Nat) : Seg := ⟨kind, if 0 < k then insideS l a far else zP, if 1 < k then insideS l (a + 3) far else zP, if 2 < k then insideS l (a + 6) far else zP⟩
theorem pts_loop (Gl : xzB) (l : List Int) (far : Int) (i bx : Nat) (kind : Nat) (hk : kind ≤ 3) (hl : l.length < 4611686018427387904) (hf : 0 ≤ far) (hb : far < 4611686018427387000) (a : Nat) (ha : a + 9 < 4611686018427387904) (hib : i ≠ bx) (T0 : VF) (hA : VH) (K : AEx → VF → VH → Prop)
    (hK : ∀ T h, (∀ k, k < 27 → k ≠ 10 → qzA T k = qzA T0 k) → qzA h.l i = some (some (bSeq l (a + 3 * kind))) → qzA h.l bx = some (some (.cells (cSeg (segP l a far kind kind)) false)) → (∀ k, k ≠ i → k ≠ bx → qzA h.l k = qzA hA.l k) → h.next = hA.next → K (.exit 2) T h) :
    ∀ (d k : Nat) (T : VF) (h : VH), d + k = kind → (∀ k, k < 27 → k ≠ 10 → qzA T k = qzA T0 k) → qzA T 0 = some (.ptr i 0) → qzA T 1 = some (.int .i64 far) → qzA T 9 = some (.ptr bx 0) → qzA T 10 = some (.int .i64 k) →
      qzA h.l i = some (some (bSeq l (a + 3 * k))) → qzA h.l bx = some (some (.cells (cSeg (segP l a far kind k)) false)) → (∀ k, k ≠ i → k ≠ bx → qzA h.l k = qzA hA.l k) → h.next = hA.next →
    wp Go.VL.Er.E Gl (.loop c_glyphicmake_Path_l0) T h K := by
  intro d
  induction d with
  | zero =>
    intro k T h hd hT t0 t1 t9 t10 s1 s2 hh hn
    obtain rfl : k = kind := by omega
    refine xzy c_glyphicmake_Path_l0.eq_1 ?_
    unfold segP at s2
    simp only [qzz, qzp, qzq, qzF, xzg, qzw, qzn, qzj, xzm, xzh, qzf, qzd, qze, qzo, qzG, qzc, qzm, qzb, qzg, qzh, qzk, qzl, qzs, qza, qzt, qzv, qzy, qzI, qzN, qzD, qzE, qzL, qzK, toA, ofA, FR.pop, abin, intBin, qzi, ↓reduceIte, Option.getD_some, List.getElem?_cons_zero, Nat.reduceEqDiff, reduceCtorEq, Nat.add_zero, true_and, Bool.false_eq_true, decide_false, forall_const, false_implies, reduceCtorEq, cSeg, t9, t10, s2, Int.lt_irrefl]
    refine hK _ _ (fun k q1 q2 => ?_) s1 s2 hh hn
    simp only [qza]
    (repeat rw [if_neg (by omega)])
    exact hT k q1 q2
  | succ d ih =>
    intro k T h hd hT t0 t1 t9 t10 s1 s2 hh hn
    refine xzy c_glyphicmake_Path_l0.eq_1 ?_
    have c1 : (k : Int) < (kind : Int) := by omega
    have w : IntKind.i64.wrap ((k : Int) + 1) = ((k + 1 : Nat) : Int) := by rw [xzl (by omega) (by omega)]; rfl
    have k3 : k < 3 := by omega
    have e1 : ¬ bx = i := fun e => hib e.symm
    unfold segP at s2
    simp only [qzz, qzp, qzq, qzF, xzg, qzw, qzn, qzj, xzm, xzh, qzf, qzd, qze, qzo, qzG, qzJ, qzc, qzm, qzb, qzg, qzh, qzr, qzk, qzl, qzs, qza, qzt, qzv, qzy, qzI, qzN, qzD, qzE, qzL, qzK, toA, ofA, FR.pop, abin, intBin, qzi, ↓reduceIte, Option.getD_some, List.getElem?_cons_zero, Nat.reduceEqDiff, reduceCtorEq, Nat.add_zero, and_true, decide_true, forall_const, false_implies, Bool.true_eq_false, reduceCtorEq, cSeg, t0, t1, t9, t10, s2, c1]
    refine xzC (inside_ok Gl l (a + 3 * k) far i hl (by omega) hf hb) s1 rfl rfl ?_
    have hcs : k = 0 ∨ k = 1 ∨ k = 2 := by omega
    rcases hcs with rfl | rfl | rfl
    all_goals
      simp only [qzp, qzj, qzZ, xzt, qzf, qzd, qze, qzo, qzJ, qzu, qzc, qzb, qzP, qzg, qzh, qzO, qzk, qzl, qzs, qza, qzt, qzv, qzy, qzI, yzb, qzS, qzR, xza, cv, qzL, qzK, toA, ofA, FR.pop, abin, intBin, VH.set, qzi, VV.cells, ntV, qzQ, xzp, xzO, ↓reduceIte, Option.getD_some, List.length_cons, List.length_nil, List.drop_succ_cons, List.drop_zero, List.take_succ_cons, List.take_zero, List.append_nil, List.nil_append, List.cons_append, List.head?_cons, Nat.reduceAdd, Nat.reduceMul, Nat.reduceLT, Nat.reduceEqDiff, Nat.reduceLeDiff, Nat.add_zero, Nat.zero_add, and_self, cSeq, bSeq, cPt, cSeg, t9, t10, s2, xzO, hib, w]
      first | refine ih (0 + 1) _ _ (by omega) ?_ ?_ ?_ ?_ ?_ ?_ ?_ ?_ hn | refine ih (1 + 1) _ _ (by omega) ?_ ?_ ?_ ?_ ?_ ?_ ?_ ?_ hn | refine ih (2 + 1) _ _ (by omega) ?_ ?_ ?_ ?_ ?_ ?_ ?_ ?_ hn
      · intro k q1 q2
        simp only [qza]
        (repeat rw [if_neg (by omega)])
        exact hT k q1 q2
      · simp only [qza, ↓reduceIte, reduceCtorEq, reduceCtorEq, t0]
      · simp only [qza, ↓reduceIte, Nat.reduceEqDiff, t1]
      · simp only [qza, ↓reduceIte, Nat.reduceEqDiff, t9]
      · simp only [qza, ↓reduceIte, Nat.reduceAdd, Nat.zero_add]
      · simp only [qza, ↓reduceIte, Nat.reduceAdd, Nat.reduceMul, Nat.zero_add, cSeq, bSeq, e1]
      · simp only [qza, ↓reduceIte, Nat.reduceAdd, Nat.reduceLT, Nat.zero_add, cSeg, segP, zP]
      · intro k q1 q2
        simp only [qza, Ne.symm q1, Ne.symm q2, if_false]
        exact hh k q1 q2
end
end Go.VL.Mk

/- Closing through and through, piece by piece. -/
namespace Go.VL
open Go.FR
noncomputable section
set_option linter.unusedVariables false
set_option linter.unusedSimpArgs false

theorem mapO_mono {f f' : VV → Option VV} (hf : ∀ v w, f v = some w → f' v = some w) : ∀ {cs ds : List VV}, mapO f cs = some ds → mapO f' cs = some ds
  | [], ds, h => h
  | c :: cs, ds, h => by
    simp only [mapO] at h ⊢
    split at h <;> try (cases h; done)
    rename_i x hx
    split at h <;> try (cases h; done)
    rename_i z hz
    simp only [hf _ _ hx, mapO_mono hf hz]; exact h
theorem shutS_mono {f f' : VV → Option VV} (hf : ∀ v w, f v = some w → f' v = some w) {cs ds : List VV} (h : shutS f cs = some ds) : shutS f' cs = some ds := by
  unfold shutS at h ⊢
  split at h
  · rename_i hc; rw [if_pos hc]; exact h
  · rename_i hc; rw [if_neg hc]; exact mapO_mono hf h
/-- One layer. -/
def stepD (F : VV → Option VV) (g : Nat → Option VB) (v : VV) : Option VV := if closedB v = true then some v else match v with
    | .ptr i o => match g i with
      | some (.cells cs _) => match shutS F cs with
        | some ds => some (.fptr ds o)
        | none => none
      | _ => none
    | .slice i o n e c => match g i with
      | some (.cells cs _) => if o + n * e ≤ cs.length ∧ capOK e n c then (match shutS F ((cs.drop o).take (n * e)) with
        | some ds => some (.fsl ds n e)
        | none => none) else none
      | _ => none
    | .map i => match g i with
      | some (.map ks vs _) => match shutS F ks, shutS F vs with
        | some a, some b => some (.fmap a b)
        | _, _ => none
      | _ => none
    | .iface t x => match F x with
      | some y => some (.iface t y)
      | none => none
    | .agg cs => match mapO F cs with
      | some ds => some (.agg ds)
      | none => none
    | .tuple cs => match mapO F cs with
      | some ds => some (.tuple ds)
      | none => none
    | _ => none
theorem shutD_step {g : Nat → Option VB} (k : Nat) (v : VV) : shutD (k + 1) g v = stepD (shutD k g) g v := by
  cases v <;> rfl
theorem stepD_mono {F F' : VV → Option VV} (ih : ∀ v w, F v = some w → F' v = some w) {g : Nat → Option VB} {v w : VV} (h : stepD F g v = some w) : stepD F' g v = some w := by
  have ihS : ∀ cs ds, shutS F cs = some ds → shutS F' cs = some ds := fun cs ds q => shutS_mono ih q
  by_cases hc : closedB v = true
  · simp only [stepD, hc, if_true] at h ⊢; exact h
  have e : ∀ (G : VV → Option VV) (x y : Option VV), (if closedB v = true then x else y) = y := fun _ x y => if_neg hc
  cases v
  case ptr i o =>
    unfold stepD at h ⊢
    rw [if_neg hc] at h ⊢
    simp only at h ⊢
    split at h <;> try (cases h; done)
    rename_i cs ro hg
    split at h <;> try (cases h; done)
    rename_i ds hd
    simp only [hg, ihS _ _ hd]; exact h
  case slice i o n e c =>
    unfold stepD at h ⊢
    rw [if_neg hc] at h ⊢
    simp only at h ⊢
    split at h <;> try (cases h; done)
    rename_i cs ro hg
    split at h <;> try (cases h; done)
    rename_i hr
    split at h <;> try (cases h; done)
    rename_i ds hd
    simp only [hg, if_pos hr, ihS _ _ hd]; exact h
  case map i =>
    unfold stepD at h ⊢
    rw [if_neg hc] at h ⊢
    simp only at h ⊢
    split at h <;> try (cases h; done)
    rename_i ks vs ro hg
    split at h <;> try (cases h; done)
    rename_i x y hx hy
    simp only [hg, ihS _ _ hx, ihS _ _ hy]; exact h
  case iface t x =>
    unfold stepD at h ⊢
    rw [if_neg hc] at h ⊢
    simp only at h ⊢
    split at h <;> try (cases h; done)
    rename_i y hy
    simp only [ih _ _ hy]; exact h
  case agg cs =>
    unfold stepD at h ⊢
    rw [if_neg hc] at h ⊢
    simp only at h ⊢
    split at h <;> try (cases h; done)
    rename_i y hy
    simp only [mapO_mono ih hy]; exact h
  case tuple cs =>
    unfold stepD at h ⊢
    rw [if_neg hc] at h ⊢
    simp only at h ⊢
    split at h <;> try (cases h; done)
    rename_i y hy
    simp only [mapO_mono ih hy]; exact h
  all_goals
    unfold stepD at h
    rw [if_neg hc] at h
    cases h
theorem shutD_succ {g : Nat → Option VB} : ∀ (k : Nat) (v w : VV), shutD k g v = some w → shutD (k + 1) g v = some w
  | 0, v, w, h => by
    simp only [shutD] at h
    split at h <;> try (cases h; done)
    rename_i hc
    simp only [shutD, hc, if_true]; exact h
  | k + 1, v, w, h => by
    rw [shutD_step] at h ⊢
    exact stepD_mono (shutD_succ k) h
theorem shutD_le {g : Nat → Option VB} {k n : Nat} (hk : k ≤ n) {v w : VV} (h : shutD k g v = some w) : shutD n g v = some w := by
  induction n with
  | zero => obtain rfl : k = 0 := by omega
            exact h
  | succ n ih =>
    by_cases e : k = n + 1
    · rw [← e]; exact h
    · exact shutD_succ _ _ _ (ih (by omega))

/-- A value, closed; a row of them. -/
def xzT (g : Nat → Option VB) (v w : VV) : Prop := ∃ k v1, shutD k g v = some v1 ∧ subV v1 w
def xzJ (g : Nat → Option VB) (cs ws : List VV) : Prop := ∃ k ds, mapO (shutD k g) cs = some ds ∧ subL ds ws
theorem shutD_closed {g : Nat → Option VB} {v : VV} (k : Nat) (hc : closedB v = true) : shutD k g v = some v := by
  cases k <;> simp only [shutD, hc, if_true]
theorem mapO_closed {g : Nat → Option VB} (k : Nat) : ∀ {cs : List VV}, closedL cs = true → mapO (shutD k g) cs = some cs
  | [], _ => rfl
  | c :: cs, h => by
    simp only [closedL, Bool.and_eq_true] at h
    simp only [mapO, shutD_closed k h.1, mapO_closed k h.2]
variable {g : Nat → Option VB}
theorem xzT.closed {v : VV} (hc : closedB v = true) : xzT g v v := ⟨0, v, shutD_closed 0 hc, subV_refl v⟩
theorem xzT.closed_sub {v w : VV} (hc : closedB v = true) (h : subV v w) : xzT g v w := ⟨0, v, shutD_closed 0 hc, h⟩
theorem xzJ.closed {cs : List VV} (hc : closedL cs = true) : xzJ g cs cs := ⟨0, cs, mapO_closed 0 hc, subL_refl cs⟩
theorem xzJ.nil : xzJ g [] [] := ⟨0, [], rfl, rfl⟩
theorem xzJ.cons {v w : VV} {cs ws : List VV} (h : xzT g v w) (hs : xzJ g cs ws) : xzJ g (v :: cs) (w :: ws) := by
  obtain ⟨k, v1, h1, h2⟩ := h
  obtain ⟨n, ds, h3, h4⟩ := hs
  refine ⟨max k n, v1 :: ds, ?_, ⟨_, _, rfl, h2, h4⟩⟩
  simp only [mapO, shutD_le (Nat.le_max_left k n) h1, mapO_mono (fun _ _ => shutD_le (Nat.le_max_right k n)) h3]
theorem xzJ.append : ∀ {a b c d : List VV}, xzJ g a b → xzJ g c d → xzJ g (a ++ c) (b ++ d)
  | [], b, c, d, ⟨k, ds, h1, h2⟩, h => by
    simp only [mapO, Option.some.injEq] at h1
    subst h1
    have : b = [] := h2
    subst this
    exact h
  | v :: a, b, c, d, ⟨k, ds, h1, h2⟩, h => by
    simp only [mapO] at h1
    split at h1 <;> try (cases h1; done)
    rename_i x hx
    split at h1 <;> try (cases h1; done)
    rename_i z hz
    obtain rfl := Option.some.inj h1
    obtain ⟨y, ys, rfl, k1, k2⟩ := h2
    exact xzJ.cons ⟨k, x, hx, k1⟩ (xzJ.append ⟨k, z, hz, k2⟩ h)
theorem xzJ.flat {α : Type} {f f' : α → List VV} : ∀ {l : List α}, (∀ a ∈ l, xzJ g (f a) (f' a)) → xzJ g (xzP f l) (xzP f' l)
  | [], _ => xzJ.nil
  | a :: l, h => by
    rw [flatL_cons, flatL_cons]
    exact xzJ.append (h a (.head _)) (xzJ.flat fun b hb => h b (.tail _ hb))
theorem xzT.agg {cs ws : List VV} (h : xzJ g cs ws) : xzT g (.agg cs) (.agg ws) := by
  obtain ⟨k, ds, h1, h2⟩ := h
  refine ⟨k + 1, .agg ds, ?_, ⟨_, rfl, h2⟩⟩
  rw [shutD_step]
  unfold stepD
  split
  · rename_i hc
    have : closedL cs = true := hc
    rw [mapO_closed k this] at h1
    rw [Option.some.inj h1]
  · simp only [h1]
theorem xzT.tuple {cs ws : List VV} (h : xzJ g cs ws) : xzT g (.tuple cs) (.tuple ws) := by
  obtain ⟨k, ds, h1, h2⟩ := h
  refine ⟨k + 1, .tuple ds, ?_, ⟨_, rfl, h2⟩⟩
  rw [shutD_step]
  unfold stepD
  split
  · rename_i hc
    have : closedL cs = true := hc
    rw [mapO_closed k this] at h1
    rw [Option.some.inj h1]
  · simp only [h1]
theorem xzJ.shutS {cs ws : List VV} (h : xzJ g cs ws) : ∃ k ds, shutS (shutD k g) cs = some ds ∧ subL ds ws := by
  obtain ⟨k, ds, h1, h2⟩ := h
  by_cases hc : closedL cs = true
  · rw [mapO_closed k hc] at h1
    refine ⟨k, ds, ?_, h2⟩
    unfold Go.VL.shutS; rw [if_pos hc]; exact h1
  · refine ⟨k, ds, ?_, h2⟩
    unfold Go.VL.shutS; rw [if_neg hc]; exact h1
theorem xzT.slice {i o n e : Nat} {c : ACap} {cs ws : List VV} {ro : Bool} (hi : g i = some (.cells cs ro)) (hr : o + n * e ≤ cs.length) (hc : capOK e n c) (h : xzJ g ((cs.drop o).take (n * e)) ws) : xzT g (.slice i o n e c) (.fsl ws n e) := by
  obtain ⟨k, ds, h1, h2⟩ := h.shutS
  exact ⟨k + 1, .fsl ds n e, by rw [shutD_step]; unfold stepD; rw [if_neg (by simp [closedB])]; simp only [hi, hr, hc, and_self, if_true, h1], ⟨_, rfl, h2⟩⟩
/-- A slice of a whole block. -/
theorem xzT.whole {i n e : Nat} {c : ACap} {cs ws : List VV} {ro : Bool} (hi : g i = some (.cells cs ro)) (hn : cs.length = n * e) (hc : capOK e n c) (h : xzJ g cs ws) : xzT g (.slice i 0 n e c) (.fsl ws n e) :=
  xzT.slice hi (by omega) hc (by rw [List.drop_zero, ← hn, List.take_length]; exact h)
theorem xzT.ptr {i o : Nat} {cs ws : List VV} {ro : Bool} (hi : g i = some (.cells cs ro)) (h : xzJ g cs ws) : xzT g (.ptr i o) (.fptr ws o) := by
  obtain ⟨k, ds, h1, h2⟩ := h.shutS
  exact ⟨k + 1, .fptr ds o, by rw [shutD_step]; unfold stepD; rw [if_neg (by simp [closedB])]; simp only [hi, h1], ⟨_, rfl, h2⟩⟩
/-- A list that was made. -/
theorem xzT.acc {α : Type} {base : Nat} {h : VH} {j : Nat} {f f' : α → List VV} {l : List α} {esz : Nat} {v : VV} (a : yza base h j f l esz v) (hg : base ≤ j → ∀ x, h.get j = some x → g j = some x) (hf : ∀ a, (f a).length = esz) (hs : ∀ a ∈ l, xzJ g (f a) (f' a)) : xzT g v (.fsl (xzP f' l) l.length esz) := by
  have hl := flatL_length hf l
  have hx := xzJ.flat hs
  rcases a with ⟨rfl, rfl⟩ | ⟨rfl, a2, a3, a4⟩
  · exact xzT.closed_sub rfl (.inr ⟨esz, rfl⟩)
  · have := hg a3 _ (by rw [qzi, a2]; rfl)
    exact xzT.whole this (by rw [hl]) rfl hx
theorem xzM {E : Env} {Gl : xzB} {f : Nat} {args vs : List VV} {v : VV} {h : VH} {K : VV → VH → Option (List Nat × Bool) → Prop} (hp : xzS E Gl f args v) (hs : xzJ h.get vs args) (hv : plainB v = true) (hk : K v h (some ([], true))) : wpCall E Gl f vs h K := by
  obtain ⟨n, ds, h1, h2⟩ := hs
  exact call_deep n hp h1 h2 hv hk
end
end Go.VL
