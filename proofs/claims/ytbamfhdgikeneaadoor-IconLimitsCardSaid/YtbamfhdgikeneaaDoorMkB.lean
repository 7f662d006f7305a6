import Derived.Test.YtbamfhdgikeneaaDoorSqA
import Derived.Test.YtbamfhdgikeneaaDoorErB
import Derived.Test.YtbamfhdgikeneaaDoorPaA
import Derived.Test.YtbamfhdgikeneaaDoorIcE
/- Paths. -/
namespace Go.VL.Mk
open Go.FR Go.IR Go.VL Go.VL.Color Go.VL.Wind Go.VL.Ic
noncomputable section
set_option linter.unusedSimpArgs false
set_option linter.unusedVariables false
set_option maxRecDepth 100000
set_option maxHeartbeats 1000000

def segN (l : List Int) (a : Nat) : Nat := (nextS l a 3).toNat + 1
theorem segN_in (l : List Int) (a : Nat) : 1 ≤ segN l a ∧ segN l a ≤ 3 ∧ 1 + nextS l a 3 = (segN l a : Int) := by
  have := next_in l a 3 (by omega)
  unfold segN; omega
def segOf (l : List Int) (a : Nat) (far : Int) : Seg := segP l (a + 1) far (segN l a) (segN l a)
def segEnd (l : List Int) (a : Nat) : Nat := a + 1 + 3 * segN l a
def segsS (l : List Int) (far : Int) : Nat → Nat → List Seg
  | 0, _ => []
  | n + 1, a => segOf l a far :: segsS l far n (segEnd l a)
def segsEnd (l : List Int) : Nat → Nat → Nat
  | 0, a => a
  | n + 1, a => segsEnd l n (segEnd l a)
theorem segsS_len (l : List Int) (far : Int) : ∀ n a, (segsS l far n a).length = n
  | 0, a => rfl
  | n + 1, a => by rw [segsS, List.length_cons, segsS_len l far n]
theorem segs_loop (Gl : xzy) (l : List Int) (far : Int) (i nx : Nat) (hin : i < nx) (hl : l.length < 4611686018427387904) (hf : 0 ≤ far) (hb : far < 4611686018427387000) (p : Pt) (b : Bool) (z : List VV) (K : AEx → VF → VH → Prop) (r : List Seg) (ae : Nat)
    (hK : ∀ T h v j, qzr T 6 = some (.ptr nx 0) → qzr T 7 = some (.ptr (nx + 1) 0) → xzW (nx + 2) h j cSeg r 7 v → qzr h.l i = some (some (bSeq l ae)) → qzr h.l nx = some (some (.cells z false)) → qzr h.l (nx + 1) = some (some (.cells [.int .i64 p.x, .int .i64 p.y, v, .bool b] false)) → nx + 2 ≤ h.next → K (.exit 0) T h) :
    ∀ (d a : Nat) (acc : List Seg) (T : VF) (h : VH) (v : VV) (j : Nat), r = acc ++ segsS l far d a → ae = segsEnd l d a → acc.length + d < 1000000 → a + 10 * d < 10000000 →
      qzr T 0 = some (.ptr i 0) → qzr T 1 = some (.int .i64 far) → qzr T 6 = some (.ptr nx 0) → qzr T 7 = some (.ptr (nx + 1) 0) → qzr T 8 = some (.int .i64 d) →
      xzW (nx + 2) h j cSeg acc 7 v → qzr h.l i = some (some (bSeq l a)) → qzr h.l nx = some (some (.cells z false)) → qzr h.l (nx + 1) = some (some (.cells [.int .i64 p.x, .int .i64 p.y, v, .bool b] false)) → nx + 2 ≤ h.next →
    wp Go.VL.Er.E Gl (.loop c_glyphicmake_Path_l1) T h K := by
  intro d
  induction d with
  | zero =>
    intro a acc T h v j hr hae h1 h2 t0 t1 t6 t7 t8 ha hs hz hA hn
    refine xzo c_glyphicmake_Path_l1.eq_1 ?_
    have c1 : ¬ ((0 : Nat) : Int) > 0 := by omega
    simp only [qzx, qzm, qzp, qzA, qzZ, qzs, qzj, qzi, xze, qzY, qzf, qze, qzd, qzq, qzc, qzb, qzg, qzh, qzn, qzo, qzu, qza, qzt, qzw, qzy, cv, qzI, qzJ, toA, ofA, FR.pop, abin, intBin, ↓reduceIte, reduceCtorEq, true_and, Bool.false_eq_true, decide_false, forall_const, false_implies, reduceCtorEq, t8, c1]
    refine hK _ _ v j ?_ ?_ (by rw [hr, segsS, List.append_nil]; exact ha) (by rw [hae]; exact hs) hz hA hn
    · simp only [qza, ↓reduceIte, Nat.reduceEqDiff, t6]
    · simp only [qza, ↓reduceIte, Nat.reduceEqDiff, t7]
  | succ d ih =>
    intro a acc T h v j hr hae h1 h2 t0 t1 t6 t7 t8 ha hs hz hA hn
    refine xzo c_glyphicmake_Path_l1.eq_1 ?_
    have c1 : ((d + 1 : Nat) : Int) > 0 := by omega
    have w : IntKind.i64.wrap (((d + 1 : Nat) : Int) - 1) = (d : Int) := by rw [xzj (by omega) (by omega)]; omega
    obtain ⟨k1, k2, k3⟩ := segN_in l a
    have w2 : IntKind.i64.wrap (1 + nextS l a 3) = (segN l a : Int) := by rw [xzj (by omega) (by omega)]; omega
    have e1 : ¬ i = h.next := by omega
    have e2 : ¬ h.next = i := by omega
    have e3 : ¬ h.next = nx + 1 := by omega
    have e4 : ¬ i = nx + 1 := by omega
    have e5 : ¬ nx + 1 = h.next := by omega
    have e7 : ¬ nx + 1 = i := by omega
    simp only [qzx, qzm, qzp, qzA, qzZ, qzs, qzj, qzi, xze, qzY, qzf, qze, qzd, qzq, qzK, qzc, qzb, qzg, qzh, qzB, qzn, qzo, qzu, qza, qzt, qzw, qzy, cv, qzI, qzJ, toA, ofA, FR.pop, abin, intBin, ↓reduceIte, reduceCtorEq, and_true, decide_true, forall_const, false_implies, Bool.true_eq_false, reduceCtorEq, t0, t8, c1]
    refine call_st1 (next_ok Gl l a 3 i hl (by omega) (by omega) (by omega)) hs rfl rfl ?_
    simp only [qzm, qzp, qzA, qzi, qzf, qze, qzd, qzq, xzd, qzK, qzz, qzc, qzC, qzb, qzQ, qzg, qzh, qzT, qzP, qzn, qzo, qzu, qza, qzt, qzw, qzy, xzi, xzt, xzr, qzS, qzU, xzg, cvs, cv, qzI, qzJ, toA, ofA, FR.pop, abin, intBin, VN.at, VH.push, VH.set, qzl, VV.cells, ntV, qzO, xzs, ↓reduceIte, Option.getD_some, List.length_cons, List.length_nil, List.drop_succ_cons, List.drop_zero, List.take_zero, List.append_nil, List.nil_append, List.cons_append, List.head?_cons, Nat.reduceAdd, Nat.reduceEqDiff, Nat.reduceLeDiff, Nat.zero_add, and_self, cSeq, bSeq, w2]
    refine pts_loop Gl l far i h.next (segN l a) (by omega) hl hf hb (a + 1) (by omega) (by omega) _ _ _ ?_ (segN l a) 0 _ _ (by omega) (fun _ _ _ => rfl) ?_ ?_ ?_ ?_ ?_ ?_ (fun _ _ _ => rfl) rfl
    · intro T' h' hT s1 s2 hh hx
      simp only at hx
      have oA : qzr h'.l (nx + 1) = some (some (.cells [.int .i64 p.x, .int .i64 p.y, v, .bool b] false)) := by
        rw [hh (nx + 1) (by omega) (by omega)]
        simp only [qza]
        rw [if_neg (by omega), if_neg (by omega), if_neg (by omega)]; exact hA
      have oz : qzr h'.l nx = some (some (.cells z false)) := by
        rw [hh nx (by omega) (by omega)]
        simp only [qza]
        rw [if_neg (by omega), if_neg (by omega), if_neg (by omega)]; exact hz
      have u7 : qzr T' 7 = some (.ptr (nx + 1) 0) := by rw [hT 7 (by omega) (by omega)]; simp only [qza, ↓reduceIte, Nat.reduceEqDiff, t7]
      have u9 : qzr T' 9 = some (.ptr h.next 0) := by rw [hT 9 (by omega) (by omega)]; simp only [qza, ↓reduceIte, Nat.reduceEqDiff]
      have u0 : qzr T' 0 = some (.ptr i 0) := by rw [hT 0 (by omega) (by omega)]; simp only [qza, ↓reduceIte, reduceCtorEq, reduceCtorEq, t0]
      have u1 : qzr T' 1 = some (.int .i64 far) := by rw [hT 1 (by omega) (by omega)]; simp only [qza, ↓reduceIte, Nat.reduceEqDiff, t1]
      have u6 : qzr T' 6 = some (.ptr nx 0) := by rw [hT 6 (by omega) (by omega)]; simp only [qza, ↓reduceIte, Nat.reduceEqDiff, t6]
      have u8 : qzr T' 8 = some (.int .i64 ((d + 1 : Nat) : Int)) := by rw [hT 8 (by omega) (by omega)]; simp only [qza, ↓reduceIte, Nat.reduceEqDiff, t8]
      have ex : (Seg.mk (segN l a : Int) (segP l (a + 1) far (segN l a) (segN l a)).p0 (segP l (a + 1) far (segN l a) (segN l a)).p1 (segP l (a + 1) far (segN l a) (segN l a)).p2) = segOf l a far := rfl
      simp only [qzm, qzi, xzp, qze, qzd, qzq, qzG, xzd, qzK, qzc, qzk, qzC, qzb, qzg, qzh, qzT, qzn, qzo, qzu, qza, qzt, qzw, qzL, qzM, qzF, xzi, xzr, qzS, qzE, cvs, cv, VN.at, VH.push, qzl, VV.cells, ntV, ↓reduceIte, Option.getD_some, List.getElem?_cons_zero, List.getElem?_cons_succ, List.length_cons, List.length_nil, List.drop_succ_cons, List.drop_zero, List.take_succ_cons, List.take_zero, List.append_nil, List.nil_append, Nat.reduceAdd, Nat.reduceDiv, Nat.reduceEqDiff, Nat.reduceLeDiff, Nat.zero_add, and_self, cSeg, u7, u9, oA, s2]
      refine wpW_acc (base := nx + 2) (j := j) (f := cSeg) (l := acc) (a := segOf l a far) (ha.ext (by simp; omega) (fun q1 q2 => ?_)) ?_ cSeg_len (by omega) (by simp; omega) (by omega) (by omega) ?_
      · simp only [qza]
        rw [if_neg (by omega), hh j (by omega) (by omega)]
        simp only [qza]
        rw [if_neg (by omega), if_neg (by omega), if_neg (by omega)]
      · simp only [qza, yza, yze, qzl, ↓reduceIte, Option.getD_some, List.length_cons, List.length_nil, List.drop_zero, List.take_succ_cons, List.take_zero, Nat.reduceAdd, Nat.reduceMul, reduceCtorEq, Nat.reduceLeDiff, Nat.zero_add, true_or, reduceCtorEq, true_or, cSeg] <;> first | rfl | exact ⟨rfl, rfl⟩ | exact qzv rfl
      · intro h2 g1 g2 g3
        have old : ∀ k, k < nx + 2 → qzr h2.l k = qzr h'.l k := fun k hk => by
          rw [g2 k (by simp; omega) (ha.ne (.inl hk))]
          simp only [qza]
          rw [if_neg (by omega)]
        have o1 := (old i (by omega)).trans s1
        have o2 := (old nx (by omega)).trans oz
        have o3 := (old (nx + 1) (by omega)).trans oA
        simp only at g1
        simp only [qzm, qzi, xza, xzh, qzf, qze, qzd, qzq, qzK, qzz, qzc, qzb, qzQ, qzg, qzh, qzP, qzn, qzo, qzu, qza, qzt, qzw, qzy, qzL, qzS, qzU, xzg, cv, qzI, qzJ, toA, ofA, FR.pop, abin, intBin, VH.set, qzl, VV.cells, ntV, qzO, xzs, ↓reduceIte, Option.getD_some, List.length_cons, List.length_nil, List.drop_succ_cons, List.drop_zero, List.take_succ_cons, List.take_zero, List.nil_append, List.cons_append, List.head?_cons, Nat.reduceAdd, Nat.reduceEqDiff, Nat.reduceLeDiff, Nat.zero_add, and_self, u7, u8, o3, w]
        refine ih (segEnd l a) (acc ++ [segOf l a far]) _ _ _ _ ?_ ?_ (by simp; omega) (by unfold segEnd; omega) ?_ ?_ ?_ ?_ ?_ (g3.ext (Nat.le_refl _) (fun q1 q2 => ?_)) ?_ ?_ ?_ ?_
        · rw [hr, segsS, List.append_assoc]; rfl
        · rw [hae]; rfl
        · simp only [qza, ↓reduceIte, reduceCtorEq, reduceCtorEq, u0]
        · simp only [qza, ↓reduceIte, Nat.reduceEqDiff, u1]
        · simp only [qza, ↓reduceIte, Nat.reduceEqDiff, u6]
        · simp only [qza, ↓reduceIte, Nat.reduceEqDiff, u7]
        · simp only [qza, ↓reduceIte]
        · simp only [qza]; rw [if_neg (by omega)]
        · simp only [qza, e7, if_false]; exact o1
        · simp only [qza]; rw [if_neg (by omega)]; exact o2
        · simp only [qza, if_true]
        · show nx + 2 ≤ h2.next; omega
    · simp only [qza, ↓reduceIte, reduceCtorEq, reduceCtorEq, t0]
    · simp only [qza, ↓reduceIte, Nat.reduceEqDiff, t1]
    · simp only [qza, ↓reduceIte, Nat.reduceEqDiff]
    · simp only [qza, ↓reduceIte]; rfl
    · simp only [qza, ↓reduceIte, Nat.reduceMul, Nat.add_zero, cSeq, bSeq, e2]
    · simp only [qza, ↓reduceIte, Nat.reduceLT, cSeg, segP, zP]
def pathN (l : List Int) (a : Nat) : Nat := (nextS l (a + 3) 4).toNat + 1
theorem pathN_in (l : List Int) (a : Nat) : 1 ≤ pathN l a ∧ pathN l a ≤ 4 ∧ 1 + nextS l (a + 3) 4 = (pathN l a : Int) := by
  have := next_in l (a + 3) 4 (by omega)
  unfold pathN; omega
def pathOf (l : List Int) (a : Nat) (far : Int) (b : Bool) : Path := ⟨insideS l a far, segsS l far (pathN l a) (a + 4), b⟩
def pathEnd (l : List Int) (a : Nat) : Nat := segsEnd l (pathN l a) (a + 4)
theorem path_ok (Gl : xzy) (l : List Int) (a : Nat) (far : Int) (b : Bool) (i : Nat) (hl : l.length < 4611686018427387904) (ha : a < 1000000) (hf : 0 ≤ far) (hb : far < 4611686018427387000) :
    StShut Go.VL.Er.E Gl f_glyphicmake_Path [.ptr i 0, .int .i64 far, .bool b] [(i, bSeq l a)] (.agg (cPath (pathOf l a far b))) [(i, bSeq l (pathEnd l a))] := by
  refine shut1_intro fun nx hn => xzk E_glyphicmake_Path ?_
  unfold c_glyphicmake_Path r_glyphicmake_Path
  simp only [xzG]
  obtain ⟨k1, k2, k3⟩ := pathN_in l a
  have w2 : IntKind.i64.wrap (1 + nextS l (a + 3) 4) = (pathN l a : Int) := by rw [xzj (by omega) (by omega)]; omega
  have e1 : ¬ nx = i := by omega
  have e2 : ¬ i = nx := by omega
  have e3 : ¬ nx + 1 = nx := by omega
  have e4 : ¬ nx = nx + 1 := by omega
  have e5 : ¬ nx + 1 = i := by omega
  have e6 : ¬ i = nx + 1 := by omega
  simp only [qzm, qzp, qzi, qzf, qze, qzd, qzq, xzd, qzK, qzc, qzC, qzb, qzg, qzh, qzT, qzB, qzn, qzo, qzu, qza, qzt, qzw, qzy, xzi, cvs, cv, VN.at, VH.push, ↓reduceIte, Nat.reduceAdd, Nat.reduceEqDiff, reduceCtorEq, Nat.zero_add, reduceCtorEq, cSeq, bSeq, cPath]
  refine call_st1 (inside_ok Gl l a far i hl (by omega) hf hb) (by simp only [qza, ↓reduceIte, cSeq, bSeq, e1]) rfl rfl ?_
  simp only [qzm, qzp, qzi, qzf, qze, qzd, qzq, xzd, qzK, qzz, qzc, qzC, qzb, qzQ, qzg, qzh, qzT, qzP, qzB, qzn, qzo, qzu, qza, qzt, qzw, qzy, xzi, xzt, xzr, qzS, qzU, xzg, cvs, cv, VN.at, VH.push, VH.set, qzl, VV.cells, ntV, qzO, xzs, ↓reduceIte, Option.getD_some, List.length_cons, List.length_nil, List.drop_succ_cons, List.drop_zero, List.take_succ_cons, List.take_zero, List.append_nil, List.nil_append, List.cons_append, List.head?_cons, Nat.reduceAdd, Nat.reduceEqDiff, reduceCtorEq, Nat.reduceLeDiff, Nat.zero_add, and_self, reduceCtorEq, cSeq, bSeq, cPt]
  refine call_st1 (next_ok Gl l (a + 3) 4 i hl (by omega) (by omega) (by omega)) (by simp only [qza, ↓reduceIte, cSeq, bSeq, e5]) rfl rfl ?_
  simp only [qzA, qzi, qzf, qze, qzd, qzq, qzz, qzc, qzb, qzg, qzh, qzn, qzo, qzu, qza, qzt, qzw, qzy, cv, qzI, qzJ, toA, ofA, FR.pop, abin, intBin, ↓reduceIte, cSeq, bSeq, w2]
  refine segs_loop Gl l far i nx hn hl hf hb (insideS l a far) b [.int .i64 0, .int .i64 0, .nilS, .bool false] _ (segsS l far (pathN l a) (a + 4)) (pathEnd l a) ?_ (pathN l a) (a + 4) [] _ _ .nilS 0 rfl rfl (by simp; omega) (by omega) ?_ ?_ ?_ ?_ ?_ xzW.nil ?_ ?_ ?_ ?_
  · intro T h v j t6 t7 hacc hs hz hA hnn
    have hne : segsS l far (pathN l a) (a + 4) ≠ [] := fun e => by
      have := segsS_len l far (pathN l a) (a + 4)
      rw [e] at this; simp at this; omega
    obtain ⟨rfl, b2, b3, b4⟩ := hacc.some hne
    have hlen := segsS_len l far (pathN l a) (a + 4)
    simp only [qzm, qzp, qzD, qzi, xzp, qzf, qze, qzd, qzG, qzK, qzz, qzH, qzk, qzb, qzQ, qzg, qzh, qzP, qzn, qzo, qzu, qza, qzt, qzM, qzF, qzS, qzU, xzg, qzE, VH.set, qzl, VV.cells, ntV, qzW, qzN, qzX, qzV, qzO, xzs, ↓reduceIte, Option.getD_some, List.length_cons, List.length_nil, List.drop_succ_cons, List.drop_zero, List.take_succ_cons, List.take_zero, List.append_nil, List.nil_append, List.head?_cons, Nat.reduceAdd, Nat.reduceEqDiff, Nat.reduceLeDiff, Nat.zero_add, and_self, t6, t7, hA, hz, e1]
    refine ⟨xzL.agg (xzD.cons (xzL.closed rfl) (xzD.cons (xzL.closed rfl) (xzD.cons (xzL.acc (f' := cSeg) (l := segsS l far (pathN l a) (a + 4)) (.inr ⟨rfl, b2, b3, b4⟩) (fun _ x hx => ?_) cSeg_len (fun _ _ => xzD.closed rfl)) (xzD.cons (xzL.closed rfl) xzD.nil)))), ?_⟩
    · rw [qzl] at hx
      unfold above
      rw [if_pos (by omega), qzl]
      simp only [qza]
      rw [if_neg (by omega)]
      exact hx
    · simp only [cSeq, bSeq, hs]
  all_goals first | (simp only [qza, ↓reduceIte, Nat.reduceEqDiff, reduceCtorEq, Nat.reduceLeDiff, reduceCtorEq, cSeq, bSeq, e2, e3, e6]; done) | (simp only [Nat.reduceLeDiff]; rfl) | exact Nat.le_refl _
end
end Go.VL.Mk

/- Chapter 16: colors of few; the document's own search. -/
namespace Go.VL.Pal
open Go.FR Go.IR Go.VL Go.VL.Color Go.VL.Wind
noncomputable section
set_option linter.unusedSimpArgs false
set_option linter.unusedVariables false
set_option maxRecDepth 100000
set_option maxHeartbeats 1000000

def colT : List Cl := [⟨255, 0, 0, 255⟩, ⟨0, 128, 0, 255⟩, ⟨0, 0, 200, 100⟩, ⟨10, 20, 30, 1⟩, ⟨255, 255, 255, 255⟩, ⟨0, 0, 0, 0⟩, ⟨7, 0, 0, 254⟩]
def colS (l : List Int) (at_ : Nat) : Cl := colT.getD (nextS l at_ 7).toNat ⟨0, 0, 0, 0⟩
end
end Go.VL.Pal

/- A color of an icon. -/
namespace Go.VL.Mk
open Go.FR Go.IR Go.VL Go.VL.Color Go.VL.Wind Go.VL.Ic Go.VL.Pal
noncomputable section
set_option linter.unusedSimpArgs false
set_option linter.unusedVariables false
set_option maxRecDepth 100000
set_option maxHeartbeats 1000000

def addI (l : List Cl) (c : Cl) : List Cl := if 0 ≤ idxS l c 0 then l else l ++ [c]
def addP (l : List Cl) (c : Cl) : Int := if 0 ≤ idxS l c 0 then idxS l c 0 else l.length
end
end Go.VL.Mk

/- A command's paths. -/
namespace Go.VL.Mk
open Go.FR Go.IR Go.VL Go.VL.Color Go.VL.Wind Go.VL.Ic
noncomputable section
set_option linter.unusedSimpArgs false
set_option linter.unusedVariables false
set_option maxRecDepth 100000
set_option maxHeartbeats 1000000

def shutB' (l : List Int) (kind : Nat) (a : Nat) : Bool := decide (kind = 2) && decide (nextS l a 2 = 0)
def kAt (kind : Nat) (a : Nat) : Nat := if kind = 2 then a + 1 else a
def pathsS (l : List Int) (far : Int) (kind : Nat) : Nat → Nat → List Path
  | 0, _ => []
  | n + 1, a => pathOf l (kAt kind a) far (shutB' l kind a) :: pathsS l far kind n (pathEnd l (kAt kind a))
def pathsEnd (l : List Int) (kind : Nat) : Nat → Nat → Nat
  | 0, a => a
  | n + 1, a => pathsEnd l kind n (pathEnd l (kAt kind a))
end
end Go.VL.Mk

/- A command. -/
namespace Go.VL.Mk
open Go.FR Go.IR Go.VL Go.VL.Color Go.VL.Wind Go.VL.Ic
noncomputable section
set_option linter.unusedSimpArgs false
set_option linter.unusedVariables false
set_option maxRecDepth 100000
set_option maxHeartbeats 1000000

def kindN (l : List Int) (a : Nat) : Nat := (nextS l a 2).toNat + 1
def ruleS (l : List Int) (a : Nat) : Int := if kindN l a = 1 then nextS l (a + 1) 2 else 0
def widthS (l : List Int) (far : Int) (a : Nat) : Int := if kindN l a = 1 then 0 else 1 + nextS l (a + 1) (max (far.tdiv 2) 1)
def pkS (l : List Int) (a : Nat) : Int := nextS l (a + 2) 3
def cols1 (l : List Int) (a : Nat) (cs : List Cl) : List Cl := addI cs (colorS l (a + 3))
def colsOf (l : List Int) (a : Nat) (cs : List Cl) : List Cl := if pkS l a = 0 then cols1 l a cs else addI (cols1 l a cs) (colorS l (a + 4))
def bS (l : List Int) (a : Nat) (cs : List Cl) : Int := if pkS l a = 0 then 0 else addP (cols1 l a cs) (colorS l (a + 4))
def pS (l : List Int) (far : Int) (a : Nat) : Pt := if pkS l a = 0 then zP else pointS l (a + 5) far
def moveS (p q : Pt) : Pt := if p.x = q.x ∧ p.y = q.y then ⟨q.x + 1, q.y⟩ else q
def qS (l : List Int) (far : Int) (a : Nat) : Pt := if pkS l a = 0 then zP else if pkS l a = 1 then moveS (pointS l (a + 5) far) (pointS l (a + 7) far) else ⟨1 + nextS l (a + 7) far, 0⟩
def thenS (l : List Int) (a : Nat) : Nat := if pkS l a = 0 then a + 4 else if pkS l a = 1 then a + 9 else a + 8
def pathsN (l : List Int) (a : Nat) : Nat := (nextS l (thenS l a) 3).toNat + 1
def cmdOf (l : List Int) (far : Int) (a : Nat) (cs : List Cl) : Cmd := ⟨kindN l a, ruleS l a, widthS l far a, ⟨pkS l a, addP cs (colorS l (a + 3)), bS l a cs, pS l far a, qS l far a⟩, pathsS l far (kindN l a) (pathsN l a) (thenS l a + 1)⟩
def cmdEnd (l : List Int) (a : Nat) : Nat := pathsEnd l (kindN l a) (pathsN l a) (thenS l a + 1)
/-- A command whose paths lie in a block. -/
abbrev fO (p : Cmd × Nat) : List VV := [.int .i64 p.1.kind, .int .i64 p.1.rule, .int .i64 p.1.width, .int .i64 p.1.paint.kind, .int .i64 p.1.paint.a, .int .i64 p.1.paint.b, .int .i64 p.1.paint.p.x, .int .i64 p.1.paint.p.y, .int .i64 p.1.paint.q.x, .int .i64 p.1.paint.q.y, .slice p.2 0 p.1.paths.length 4 (.toEnd 4)]
/-- The paths of these commands lie where they are said to. -/
def Lies (base : Nat) (h : VH) (j j2 : Nat) (v v2 : VV) (L : List (Cmd × Nat)) : Prop := ∀ p ∈ L, qzr h.l p.2 = some (some (.cells (xzA cPath p.1.paths) false)) ∧ base ≤ p.2 ∧ p.2 < h.next ∧ (p.2 ≠ j ∨ v = .nilS) ∧ (p.2 ≠ j2 ∨ v2 = .nilS)

end
end Go.VL.Mk

/- An icon. -/
namespace Go.VL.Mk
open Go.FR Go.IR Go.VL Go.VL.Color Go.VL.Wind Go.VL.Ic
noncomputable section
set_option linter.unusedSimpArgs false
set_option linter.unusedVariables false
set_option maxRecDepth 100000
set_option maxHeartbeats 1000000

def runS (l : List Int) (far : Int) : Nat → Nat → List Cl → List Cmd × List Cl × Nat
  | 0, a, cs => ([], cs, a)
  | n + 1, a, cs => if a < l.length then (cmdOf l far a cs :: (runS l far n (cmdEnd l a) (colsOf l a cs)).1, (runS l far n (cmdEnd l a) (colsOf l a cs)).2) else ([], cs, a)
def wS (l : List Int) (a : Nat) : Int := 1 + nextS l a 24
def hS (l : List Int) (a : Nat) : Int := 1 + nextS l (a + 1) 24
def scS (l : List Int) (a : Nat) : Int := nextS l (a + 2) 7
def farS' (l : List Int) (a : Nat) : Int := max (wS l a) (hS l a) * 2 ^ (scS l a).toNat
def cmdsN (l : List Int) (a : Nat) : Nat := (nextS l (a + 3) 4).toNat + 1
def iconRun (l : List Int) (a : Nat) : List Cmd × List Cl × Nat := runS l (farS' l a) (cmdsN l a) (a + 4) []
def iconS (l : List Int) (a : Nat) : Icon := ⟨wS l a, hS l a, scS l a, (iconRun l a).2.1, (iconRun l a).1⟩
def iconEnd (l : List Int) (a : Nat) : Nat := (iconRun l a).2.2
end
end Go.VL.Mk

/- What is made is right. -/
namespace Go.VL.Mk
open Go.FR Go.IR Go.VL Go.VL.Color Go.VL.Wind Go.VL.Ic Go.VL.Pal
noncomputable section
set_option linter.unusedSimpArgs false
set_option linter.unusedVariables false

def NearP (p : Pt) (m : Int) : Prop := (-m ≤ p.x ∧ p.x ≤ m) ∧ -m ≤ p.y ∧ p.y ≤ m
end
end Go.VL.Mk

/- Icons, closed piece by piece. -/
namespace Go.VL.Ic
open Go.FR Go.IR Go.VL Go.VL.Er Go.VL.Color Go.VL.Wind
noncomputable section
set_option linter.unusedSimpArgs false
set_option linter.unusedVariables false
set_option maxRecDepth 100000
set_option maxHeartbeats 1000000
variable {g : Nat → Option VB}

theorem shut_icon {W H S : Int} {vc vk : VV} {cols : List Cl} {cmds : List Cmd} (h1 : xzL g vc (.fsl (xzA cCl cols) cols.length 4)) (h2 : xzL g vk (.fsl (xzA cCmd cmds) cmds.length 11)) :
    xzD g [.agg [.int .i64 W, .int .i64 H, .int .i64 S, vc, vk]] [.agg (cIcon ⟨W, H, S, cols, cmds⟩)] :=
  xzD.cons (xzL.agg (xzD.cons (xzL.closed rfl) (xzD.cons (xzL.closed rfl) (xzD.cons (xzL.closed rfl) (xzD.cons h1 (xzD.cons h2 xzD.nil)))))) xzD.nil
theorem shut_nil {e : Nat} : xzL g .nilS (.fsl [] 0 e) := xzL.closed_sub rfl (.inr ⟨e, rfl⟩)
/-- The cells of a command whose paths are to be closed. -/
theorem shut_cmd {c : Cmd} {vp : VV} (h : xzL g vp (.fsl (xzA cPath c.paths) c.paths.length 4)) :
    xzD g [.int .i64 c.kind, .int .i64 c.rule, .int .i64 c.width, .int .i64 c.paint.kind, .int .i64 c.paint.a, .int .i64 c.paint.b, .int .i64 c.paint.p.x, .int .i64 c.paint.p.y, .int .i64 c.paint.q.x, .int .i64 c.paint.q.y, vp] (cCmd c) :=
  xzD.append (a := [_, _, _, _, _, _, _, _, _, _]) (c := [_]) (xzD.closed rfl) (xzD.cons h xzD.nil)
theorem shut_cmds1 {j : Nat} {ro : Bool} (c : Cmd) {vp : VV} (hj : g j = some (.cells [.int .i64 c.kind, .int .i64 c.rule, .int .i64 c.width, .int .i64 c.paint.kind, .int .i64 c.paint.a, .int .i64 c.paint.b, .int .i64 c.paint.p.x, .int .i64 c.paint.p.y, .int .i64 c.paint.q.x, .int .i64 c.paint.q.y, vp] ro)) (h : xzL g vp (.fsl (xzA cPath c.paths) c.paths.length 4)) :
    xzL g (.slice j 0 1 11 (.exact 1)) (.fsl (xzA cCmd [c]) 1 11) := xzL.whole hj rfl (Nat.le_refl _) (by rw [flatL_cons, flatL_nil, List.append_nil]; exact shut_cmd h)
theorem shut_paths1 {j : Nat} {ro : Bool} (p : Path) {vs : VV} (hj : g j = some (.cells [.int .i64 p.start.x, .int .i64 p.start.y, vs, .bool p.closed] ro)) (h : xzL g vs (.fsl (xzA cSeg p.segs) p.segs.length 7)) :
    xzL g (.slice j 0 1 4 (.exact 1)) (.fsl (xzA cPath [p]) 1 4) := xzL.whole hj rfl (Nat.le_refl _) (by rw [flatL_cons, flatL_nil, List.append_nil]; exact xzD.cons (xzL.closed rfl) (xzD.cons (xzL.closed rfl) (xzD.cons h (xzD.cons (xzL.closed rfl) xzD.nil))))
theorem shut_segs1 {j : Nat} {ro : Bool} (s : Seg) (hj : g j = some (.cells (cSeg s) ro)) :
    xzL g (.slice j 0 1 7 (.exact 1)) (.fsl (xzA cSeg [s]) 1 7) := xzL.whole hj rfl (Nat.le_refl _) (by rw [flatL_cons, flatL_nil, List.append_nil]; exact xzD.closed rfl)
theorem shut_cols {j n : Nat} {ro : Bool} {c : ACap} (l : List Cl) (hj : g j = some (.cells (xzA cCl l) ro)) (hn : l.length = n) (hc : yzb 4 n c) :
    xzL g (.slice j 0 n 4 c) (.fsl (xzA cCl l) n 4) := xzL.whole hj (by rw [flatL_length Ic.cCl_len, hn]) hc (xzD.closed (closedL_flat (fun _ => rfl) l))
theorem shut_segs {j n : Nat} {ro : Bool} {c : ACap} (l : List Seg) (hj : g j = some (.cells (xzA cSeg l) ro)) (hn : l.length = n) (hc : yzb 7 n c) :
    xzL g (.slice j 0 n 7 c) (.fsl (xzA cSeg l) n 7) := xzL.whole hj (by rw [flatL_length cSeg_len, hn]) hc (xzD.closed (closedL_flat (fun _ => rfl) l))

end
end Go.VL.Ic

/- Icons that a law makes by itself, closed. -/
namespace Go.VL.Ic
open Go.FR Go.IR Go.VL Go.VL.Er Go.VL.Color Go.VL.Wind
noncomputable section
set_option linter.unusedSimpArgs false
set_option linter.unusedVariables false
set_option maxRecDepth 100000
set_option maxHeartbeats 1000000

theorem icg_all {Gl : xzy} (hG : GlAll Gl) : IcG Gl := ⟨(hG 4 (by omega)).1, (hG 5 (by omega)).1, (hG 9 (by omega)).1⟩
theorem first5_ok {Gl : xzy} (hG : IcG Gl) : xzJ Go.VL.Er.E Gl f_glyphiclaw5_first [] (.bool true) := by
  refine xzv (xzk E_glyphiclaw5_first ?_)
  unfold c_glyphiclaw5_first r_glyphiclaw5_first
  simp only [xzG]
  have f : ∀ w h s : Int, (Icon.mk w h s [] []).Fit := fun w h s => ⟨by simp, by simp, fun c hc => by cases hc⟩
  have k1 := check_ok hG ⟨0, 0, 0, [], []⟩ (f _ _ _)
  have k2 := check_ok hG ⟨1, 1, 0, [], []⟩ (f _ _ _)
  have k3 := greatest_ok Gl ⟨1, 2, 1, [], []⟩
  rw [show checkS ⟨0, 0, 0, [], []⟩ = some 4 by decide] at k1
  rw [show checkS ⟨1, 1, 0, [], []⟩ = none by decide] at k2
  rw [show greatS ⟨1, 2, 1, [], []⟩ = 16 by decide] at k3
  simp only [qzm, qzp, qzi, qzf, qze, qzd, qzq, qzK, qzc, qzb, qzg, qzh, qzB, qzn, qzo, qzu, qza, qzt, qzw, qzy, xzt, xzr, cvs, cv, h0, ↓reduceIte]
  refine call_deepL (v := errK 4) k1 (shut_icon shut_nil shut_nil) rfl ?_
  simp only [qze, qzd, qzq, qzG, qzK, qzz, qzc, qzk, qzb, qzg, qzh, qzB, qzn, qzo, qzu, qza, qzt, qzw, qzy, qzM, xzC, xzB, xzY, xzt, xzr, qzS, cvs, cv, VV.cells, ntV, ↓reduceIte, List.length_cons, List.length_nil, List.drop_succ_cons, List.drop_zero, List.take_succ_cons, List.take_zero, List.nil_append, List.cons_append, Nat.reduceAdd, Nat.reduceEqDiff, Nat.reduceLeDiff, Nat.zero_add, and_self, Bool.not_false, beq_self_eq_true, errK]
  refine call_deepL (v := .nilI) k2 (shut_icon shut_nil shut_nil) rfl ?_
  simp only [qze, qzd, qzq, qzG, qzK, qzz, qzc, qzk, qzb, qzg, qzh, qzB, qzn, qzo, qzu, qza, qzt, qzw, qzy, xzl, qzM, xzC, xzB, xzY, xzt, xzr, qzS, cvs, cv, VV.cells, ntV, ↓reduceIte, List.length_cons, List.length_nil, List.drop_succ_cons, List.drop_zero, List.take_succ_cons, List.take_zero, List.nil_append, List.cons_append, Nat.reduceAdd, Nat.reduceEqDiff, Nat.reduceLeDiff, Nat.zero_add, and_self, Bool.false_eq_true, beq_self_eq_true]
  refine call_deepL k3 (shut_icon shut_nil shut_nil) rfl ?_
  simp only [qzD, qzi, qzf, qze, qzd, qzq, qzz, qzH, qzc, qzb, qzg, qzh, qzn, qzo, qzu, qza, qzt, qzw, qzy, xzl, cv, qzI, qzJ, toA, ofA, FR.pop, abin, intBin, qzW, qzN, qzX, qzV, ↓reduceIte, Nat.reduceEqDiff, beq_self_eq_true]
  exact qzv rfl
end
end Go.VL.Ic
