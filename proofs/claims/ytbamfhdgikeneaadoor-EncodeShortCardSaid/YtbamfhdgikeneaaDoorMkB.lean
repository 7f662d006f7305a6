import Derived.Test.YtbamfhdgikeneaaDoorEnQ
import Derived.Test.YtbamfhdgikeneaaDoorWiA
/- Paths. -/
namespace Go.VL.Mk
open Go.FR Go.IR Go.VL Go.VL.Color Go.VL.Wind Go.VL.Ic
noncomputable section
set_option linter.unusedSimpArgs false
set_option linter.unusedVariables false
set_option maxRecDepth 100000
set_option maxHeartbeats 1000000

def segN (l : List Int) (a : Nat) : Nat := (nextS l a 3).toNat + 1
theorem segN_in (l : List Int) (a : Nat) : 1 ≤ segN l a ∧ segN l a ≤ 3 ∧ 1 + nextS l a 3 = (segN l a : Int) := by
  have := next_in l a 3 (by omega)
  unfold segN; omega
def segOf (l : List Int) (a : Nat) (far : Int) : Seg := segP l (a + 1) far (segN l a) (segN l a)
def segEnd (l : List Int) (a : Nat) : Nat := a + 1 + 3 * segN l a
def segsS (l : List Int) (far : Int) : Nat → Nat → List Seg
  | 0, _ => []
  | n + 1, a => segOf l a far :: segsS l far n (segEnd l a)
def segsEnd (l : List Int) : Nat → Nat → Nat
  | 0, a => a
  | n + 1, a => segsEnd l n (segEnd l a)
theorem segsS_len (l : List Int) (far : Int) : ∀ n a, (segsS l far n a).length = n
  | 0, a => rfl
  | n + 1, a => by rw [segsS, List.length_cons, segsS_len l far n]
theorem segsEnd_le (l : List Int) : ∀ n a, a ≤ segsEnd l n a ∧ segsEnd l n a ≤ a + 10 * n
  | 0, a => by simp [segsEnd]
  | n + 1, a => by
    have h1 := segsEnd_le l n (segEnd l a)
    have h2 := segN_in l a
    unfold segEnd at h1
    rw [segsEnd]; unfold segEnd; omega
theorem segs_loop (Gl : xzt) (l : List Int) (far : Int) (i nx : Nat) (hin : i < nx) (hl : l.length < 4611686018427387904) (hf : 0 ≤ far) (hb : far < 4611686018427387000) (p : Pt) (b : Bool) (z : List VV) (K : AEx → VF → VH → Prop) (r : List Seg) (ae : Nat)
    (hK : ∀ T h v j, qzw T 6 = some (.ptr nx 0) → qzw T 7 = some (.ptr (nx + 1) 0) → AccAt (nx + 2) h j cSeg r 7 v → qzw h.l i = some (some (bSeq l ae)) → qzw h.l nx = some (some (.cells z false)) → qzw h.l (nx + 1) = some (some (.cells [.int .i64 p.x, .int .i64 p.y, v, .bool b] false)) → nx + 2 ≤ h.next → K (.exit 0) T h) :
    ∀ (d a : Nat) (acc : List Seg) (T : VF) (h : VH) (v : VV) (j : Nat), r = acc ++ segsS l far d a → ae = segsEnd l d a → acc.length + d < 1000000 → a + 10 * d < 10000000 →
      qzw T 0 = some (.ptr i 0) → qzw T 1 = some (.int .i64 far) → qzw T 6 = some (.ptr nx 0) → qzw T 7 = some (.ptr (nx + 1) 0) → qzw T 8 = some (.int .i64 d) →
      AccAt (nx + 2) h j cSeg acc 7 v → qzw h.l i = some (some (bSeq l a)) → qzw h.l nx = some (some (.cells z false)) → qzw h.l (nx + 1) = some (some (.cells [.int .i64 p.x, .int .i64 p.y, v, .bool b] false)) → nx + 2 ≤ h.next →
    wp Go.VL.Er.E Gl (.loop c_glyphicmake_Path_l1) T h K := by
  intro d
  induction d with
  | zero =>
    intro a acc T h v j hr hae h1 h2 t0 t1 t6 t7 t8 ha hs hz hA hn
    refine xzn c_glyphicmake_Path_l1.eq_1 ?_
    have c1 : ¬ ((0 : Nat) : Int) > 0 := by omega
    simp only [qzz, qzk, qzo, qzC, qzV, qzv, qzn, qzi, xzd, qzU, qzf, qze, qzd, qzp, qzc, qzb, qzg, qzh, qzl, qzm, qzt, qza, qzs, qzu, qzx, cv, qzI, qzJ, toA, ofA, FR.pop, abin, intBin, ↓reduceIte, reduceCtorEq, true_and, Bool.false_eq_true, decide_false, forall_const, false_implies, reduceCtorEq, t8, c1]
    refine hK _ _ v j ?_ ?_ (by rw [hr, segsS, List.append_nil]; exact ha) (by rw [hae]; exact hs) hz hA hn
    · simp only [qza, ↓reduceIte, Nat.reduceEqDiff, t6]
    · simp only [qza, ↓reduceIte, Nat.reduceEqDiff, t7]
  | succ d ih =>
    intro a acc T h v j hr hae h1 h2 t0 t1 t6 t7 t8 ha hs hz hA hn
    refine xzn c_glyphicmake_Path_l1.eq_1 ?_
    have c1 : ((d + 1 : Nat) : Int) > 0 := by omega
    have w : IntKind.i64.wrap (((d + 1 : Nat) : Int) - 1) = (d : Int) := by rw [qzY (by omega) (by omega)]; omega
    obtain ⟨k1, k2, k3⟩ := segN_in l a
    have w2 : IntKind.i64.wrap (1 + nextS l a 3) = (segN l a : Int) := by rw [qzY (by omega) (by omega)]; omega
    have e1 : ¬ i = h.next := by omega
    have e2 : ¬ h.next = i := by omega
    have e3 : ¬ h.next = nx + 1 := by omega
    have e4 : ¬ i = nx + 1 := by omega
    have e5 : ¬ nx + 1 = h.next := by omega
    have e7 : ¬ nx + 1 = i := by omega
    simp only [qzz, qzk, qzo, qzC, qzV, qzv, qzn, qzi, xzd, qzU, qzf, qze, qzd, qzp, qzN, qzc, qzb, qzg, qzh, qzD, qzl, qzm, qzt, qza, qzs, qzu, qzx, cv, qzI, qzJ, toA, ofA, FR.pop, abin, intBin, ↓reduceIte, reduceCtorEq, and_true, decide_true, forall_const, false_implies, Bool.true_eq_false, reduceCtorEq, t0, t8, c1]
    refine call_st1 (next_ok Gl l a 3 i hl (by omega) (by omega) (by omega)) hs rfl rfl ?_
    simp only [qzk, qzo, qzC, qzi, qzf, qze, qzd, qzp, qzX, qzN, qzy, qzc, qzE, qzb, xza, qzg, qzh, qzO, xzb, qzl, qzm, qzt, qza, qzs, qzu, qzx, xzh, xzE, xzv, qzW, xzg, xzq, cvs, cv, qzI, qzJ, toA, ofA, FR.pop, abin, intBin, VN.at, VH.push, VH.set, qzq, VV.cells, ntV, qzS, xzz, ↓reduceIte, Option.getD_some, List.length_cons, List.length_nil, List.drop_succ_cons, List.drop_zero, List.take_zero, List.append_nil, List.nil_append, List.cons_append, List.head?_cons, Nat.reduceAdd, Nat.reduceEqDiff, Nat.reduceLeDiff, Nat.zero_add, and_self, cSeq, bSeq, w2]
    refine pts_loop Gl l far i h.next (segN l a) (by omega) hl hf hb (a + 1) (by omega) (by omega) _ _ _ ?_ (segN l a) 0 _ _ (by omega) (fun _ _ _ => rfl) ?_ ?_ ?_ ?_ ?_ ?_ (fun _ _ _ => rfl) rfl
    · intro T' h' hT s1 s2 hh hx
      simp only at hx
      have oA : qzw h'.l (nx + 1) = some (some (.cells [.int .i64 p.x, .int .i64 p.y, v, .bool b] false)) := by
        rw [hh (nx + 1) (by omega) (by omega)]
        simp only [qza]
        rw [if_neg (by omega), if_neg (by omega), if_neg (by omega)]; exact hA
      have oz : qzw h'.l nx = some (some (.cells z false)) := by
        rw [hh nx (by omega) (by omega)]
        simp only [qza]
        rw [if_neg (by omega), if_neg (by omega), if_neg (by omega)]; exact hz
      have u7 : qzw T' 7 = some (.ptr (nx + 1) 0) := by rw [hT 7 (by omega) (by omega)]; simp only [qza, ↓reduceIte, Nat.reduceEqDiff, t7]
      have u9 : qzw T' 9 = some (.ptr h.next 0) := by rw [hT 9 (by omega) (by omega)]; simp only [qza, ↓reduceIte, Nat.reduceEqDiff]
      have u0 : qzw T' 0 = some (.ptr i 0) := by rw [hT 0 (by omega) (by omega)]; simp only [qza, ↓reduceIte, reduceCtorEq, reduceCtorEq, t0]
      have u1 : qzw T' 1 = some (.int .i64 far) := by rw [hT 1 (by omega) (by omega)]; simp only [qza, ↓reduceIte, Nat.reduceEqDiff, t1]
      have u6 : qzw T' 6 = some (.ptr nx 0) := by rw [hT 6 (by omega) (by omega)]; simp only [qza, ↓reduceIte, Nat.reduceEqDiff, t6]
      have u8 : qzw T' 8 = some (.int .i64 ((d + 1 : Nat) : Int)) := by rw [hT 8 (by omega) (by omega)]; simp only [qza, ↓reduceIte, Nat.reduceEqDiff, t8]
      have ex : (Seg.mk (segN l a : Int) (segP l (a + 1) far (segN l a) (segN l a)).p0 (segP l (a + 1) far (segN l a) (segN l a)).p1 (segP l (a + 1) far (segN l a) (segN l a)).p2) = segOf l a far := rfl
      simp only [qzk, qzi, xzu, qze, qzd, qzp, qzF, qzX, qzN, qzc, qzj, qzE, qzb, qzg, qzh, qzO, qzl, qzm, qzt, qza, qzs, qzu, qzG, qzL, qzB, xzh, xzv, qzW, qzA, cvs, cv, VN.at, VH.push, qzq, VV.cells, ntV, ↓reduceIte, Option.getD_some, List.getElem?_cons_zero, List.getElem?_cons_succ, List.length_cons, List.length_nil, List.drop_succ_cons, List.drop_zero, List.take_succ_cons, List.take_zero, List.append_nil, List.nil_append, Nat.reduceAdd, Nat.reduceDiv, Nat.reduceEqDiff, Nat.reduceLeDiff, Nat.zero_add, and_self, cSeg, u7, u9, oA, s2]
      refine wpW_acc (base := nx + 2) (j := j) (f := cSeg) (l := acc) (a := segOf l a far) (ha.ext (by simp; omega) (fun q1 q2 => ?_)) ?_ cSeg_len (by omega) (by simp; omega) (by omega) (by omega) ?_
      · simp only [qza]
        rw [if_neg (by omega), hh j (by omega) (by omega)]
        simp only [qza]
        rw [if_neg (by omega), if_neg (by omega), if_neg (by omega)]
      · simp only [qza, srcV, winV, qzq, ↓reduceIte, Option.getD_some, List.length_cons, List.length_nil, List.drop_zero, List.take_succ_cons, List.take_zero, Nat.reduceAdd, Nat.reduceMul, reduceCtorEq, Nat.reduceLeDiff, Nat.zero_add, true_or, reduceCtorEq, true_or, cSeg] <;> first | rfl | exact ⟨rfl, rfl⟩ | exact qzr rfl
      · intro h2 g1 g2 g3
        have old : ∀ k, k < nx + 2 → qzw h2.l k = qzw h'.l k := fun k hk => by
          rw [g2 k (by simp; omega) (ha.ne (.inl hk))]
          simp only [qza]
          rw [if_neg (by omega)]
        have o1 := (old i (by omega)).trans s1
        have o2 := (old nx (by omega)).trans oz
        have o3 := (old (nx + 1) (by omega)).trans oA
        simp only at g1
        simp only [qzk, qzi, xzc, xzm, qzf, qze, qzd, qzp, qzN, qzy, qzc, qzb, xza, qzg, qzh, xzb, qzl, qzm, qzt, qza, qzs, qzu, qzx, qzG, qzW, xzg, xzq, cv, qzI, qzJ, toA, ofA, FR.pop, abin, intBin, VH.set, qzq, VV.cells, ntV, qzS, xzz, ↓reduceIte, Option.getD_some, List.length_cons, List.length_nil, List.drop_succ_cons, List.drop_zero, List.take_succ_cons, List.take_zero, List.nil_append, List.cons_append, List.head?_cons, Nat.reduceAdd, Nat.reduceEqDiff, Nat.reduceLeDiff, Nat.zero_add, and_self, u7, u8, o3, w]
        refine ih (segEnd l a) (acc ++ [segOf l a far]) _ _ _ _ ?_ ?_ (by simp; omega) (by unfold segEnd; omega) ?_ ?_ ?_ ?_ ?_ (g3.ext (Nat.le_refl _) (fun q1 q2 => ?_)) ?_ ?_ ?_ ?_
        · rw [hr, segsS, List.append_assoc]; rfl
        · rw [hae]; rfl
        · simp only [qza, ↓reduceIte, reduceCtorEq, reduceCtorEq, u0]
        · simp only [qza, ↓reduceIte, Nat.reduceEqDiff, u1]
        · simp only [qza, ↓reduceIte, Nat.reduceEqDiff, u6]
        · simp only [qza, ↓reduceIte, Nat.reduceEqDiff, u7]
        · simp only [qza, ↓reduceIte]
        · simp only [qza]; rw [if_neg (by omega)]
        · simp only [qza, e7, if_false]; exact o1
        · simp only [qza]; rw [if_neg (by omega)]; exact o2
        · simp only [qza, if_true]
        · show nx + 2 ≤ h2.next; omega
    · simp only [qza, ↓reduceIte, reduceCtorEq, reduceCtorEq, t0]
    · simp only [qza, ↓reduceIte, Nat.reduceEqDiff, t1]
    · simp only [qza, ↓reduceIte, Nat.reduceEqDiff]
    · simp only [qza, ↓reduceIte]; rfl
    · simp only [qza, ↓reduceIte, Nat.reduceMul, Nat.add_zero, cSeq, bSeq, e2]
    · simp only [qza, ↓reduceIte, Nat.reduceLT, cSeg, segP, zP]
def pathN (l : List Int) (a : Nat) : Nat := (nextS l (a + 3) 4).toNat + 1
theorem pathN_in (l : List Int) (a : Nat) : 1 ≤ pathN l a ∧ pathN l a ≤ 4 ∧ 1 + nextS l (a + 3) 4 = (pathN l a : Int) := by
  have := next_in l (a + 3) 4 (by omega)
  unfold pathN; omega
def pathOf (l : List Int) (a : Nat) (far : Int) (b : Bool) : Path := ⟨insideS l a far, segsS l far (pathN l a) (a + 4), b⟩
def pathEnd (l : List Int) (a : Nat) : Nat := segsEnd l (pathN l a) (a + 4)
theorem pathEnd_le (l : List Int) (a : Nat) : a ≤ pathEnd l a ∧ pathEnd l a ≤ a + 44 := by
  have h1 := segsEnd_le l (pathN l a) (a + 4)
  have h2 := pathN_in l a
  unfold pathEnd; omega
theorem path_ok (Gl : xzt) (l : List Int) (a : Nat) (far : Int) (b : Bool) (i : Nat) (hl : l.length < 4611686018427387904) (ha : a < 1000000) (hf : 0 ≤ far) (hb : far < 4611686018427387000) :
    StShut Go.VL.Er.E Gl f_glyphicmake_Path [.ptr i 0, .int .i64 far, .bool b] [(i, bSeq l a)] (.agg (cPath (pathOf l a far b))) [(i, bSeq l (pathEnd l a))] := by
  refine shut1_intro fun nx hn => xzf E_glyphicmake_Path ?_
  unfold c_glyphicmake_Path r_glyphicmake_Path
  simp only [xzB]
  obtain ⟨k1, k2, k3⟩ := pathN_in l a
  have w2 : IntKind.i64.wrap (1 + nextS l (a + 3) 4) = (pathN l a : Int) := by rw [qzY (by omega) (by omega)]; omega
  have e1 : ¬ nx = i := by omega
  have e2 : ¬ i = nx := by omega
  have e3 : ¬ nx + 1 = nx := by omega
  have e4 : ¬ nx = nx + 1 := by omega
  have e5 : ¬ nx + 1 = i := by omega
  have e6 : ¬ i = nx + 1 := by omega
  simp only [qzk, qzo, qzi, qzf, qze, qzd, qzp, qzX, qzN, qzc, qzE, qzb, qzg, qzh, qzO, qzD, qzl, qzm, qzt, qza, qzs, qzu, qzx, xzh, cvs, cv, VN.at, VH.push, ↓reduceIte, Nat.reduceAdd, Nat.reduceEqDiff, reduceCtorEq, Nat.zero_add, reduceCtorEq, cSeq, bSeq, cPath]
  refine call_st1 (inside_ok Gl l a far i hl (by omega) hf hb) (by simp only [qza, ↓reduceIte, cSeq, bSeq, e1]) rfl rfl ?_
  simp only [qzk, qzo, qzi, qzf, qze, qzd, qzp, qzX, qzN, qzy, qzc, qzE, qzb, xza, qzg, qzh, qzO, xzb, qzD, qzl, qzm, qzt, qza, qzs, qzu, qzx, xzh, xzE, xzv, qzW, xzg, xzq, cvs, cv, VN.at, VH.push, VH.set, qzq, VV.cells, ntV, qzS, xzz, ↓reduceIte, Option.getD_some, List.length_cons, List.length_nil, List.drop_succ_cons, List.drop_zero, List.take_succ_cons, List.take_zero, List.append_nil, List.nil_append, List.cons_append, List.head?_cons, Nat.reduceAdd, Nat.reduceEqDiff, reduceCtorEq, Nat.reduceLeDiff, Nat.zero_add, and_self, reduceCtorEq, cSeq, bSeq, cPt]
  refine call_st1 (next_ok Gl l (a + 3) 4 i hl (by omega) (by omega) (by omega)) (by simp only [qza, ↓reduceIte, cSeq, bSeq, e5]) rfl rfl ?_
  simp only [qzC, qzi, qzf, qze, qzd, qzp, qzy, qzc, qzb, qzg, qzh, qzl, qzm, qzt, qza, qzs, qzu, qzx, cv, qzI, qzJ, toA, ofA, FR.pop, abin, intBin, ↓reduceIte, cSeq, bSeq, w2]
  refine segs_loop Gl l far i nx hn hl hf hb (insideS l a far) b [.int .i64 0, .int .i64 0, .nilS, .bool false] _ (segsS l far (pathN l a) (a + 4)) (pathEnd l a) ?_ (pathN l a) (a + 4) [] _ _ .nilS 0 rfl rfl (by simp; omega) (by omega) ?_ ?_ ?_ ?_ ?_ AccAt.nil ?_ ?_ ?_ ?_
  · intro T h v j t6 t7 hacc hs hz hA hnn
    have hne : segsS l far (pathN l a) (a + 4) ≠ [] := fun e => by
      have := segsS_len l far (pathN l a) (a + 4)
      rw [e] at this; simp at this; omega
    obtain ⟨rfl, b2, b3, b4⟩ := hacc.some hne
    have hlen := segsS_len l far (pathN l a) (a + 4)
    simp only [qzk, qzo, qzH, qzi, xzu, qzf, qze, qzd, qzF, qzN, qzy, qzK, qzj, qzb, xza, qzg, qzh, xzb, qzl, qzm, qzt, qza, qzs, qzL, qzB, qzW, xzg, xzq, qzA, VH.set, qzq, VV.cells, ntV, qzQ, qzM, qzT, qzP, qzS, xzz, ↓reduceIte, Option.getD_some, List.length_cons, List.length_nil, List.drop_succ_cons, List.drop_zero, List.take_succ_cons, List.take_zero, List.append_nil, List.nil_append, List.head?_cons, Nat.reduceAdd, Nat.reduceEqDiff, Nat.reduceLeDiff, Nat.zero_add, and_self, t6, t7, hA, hz, e1]
    refine ⟨xzP.agg (xzG.cons (xzP.closed rfl) (xzG.cons (xzP.closed rfl) (xzG.cons (xzP.acc (f' := cSeg) (l := segsS l far (pathN l a) (a + 4)) (.inr ⟨rfl, b2, b3, b4⟩) (fun _ x hx => ?_) cSeg_len (fun _ _ => xzG.closed rfl)) (xzG.cons (xzP.closed rfl) xzG.nil)))), ?_⟩
    · rw [qzq] at hx
      unfold above
      rw [if_pos (by omega), qzq]
      simp only [qza]
      rw [if_neg (by omega)]
      exact hx
    · simp only [cSeq, bSeq, hs]
  all_goals first | (simp only [qza, ↓reduceIte, Nat.reduceEqDiff, reduceCtorEq, Nat.reduceLeDiff, reduceCtorEq, cSeq, bSeq, e2, e3, e6]; done) | (simp only [Nat.reduceLeDiff]; rfl) | exact Nat.le_refl _
end
end Go.VL.Mk

/- A color of an icon. -/
namespace Go.VL.Mk
open Go.FR Go.IR Go.VL Go.VL.Color Go.VL.Wind Go.VL.Ic Go.VL.Pal
noncomputable section
set_option linter.unusedSimpArgs false
set_option linter.unusedVariables false
set_option maxRecDepth 100000
set_option maxHeartbeats 1000000

def addI (l : List Cl) (c : Cl) : List Cl := if 0 ≤ idxS l c 0 then l else l ++ [c]
def addP (l : List Cl) (c : Cl) : Int := if 0 ≤ idxS l c 0 then idxS l c 0 else l.length
end
end Go.VL.Mk

/- A command's paths. -/
namespace Go.VL.Mk
open Go.FR Go.IR Go.VL Go.VL.Color Go.VL.Wind Go.VL.Ic
noncomputable section
set_option linter.unusedSimpArgs false
set_option linter.unusedVariables false
set_option maxRecDepth 100000
set_option maxHeartbeats 1000000

def shutB' (l : List Int) (kind : Nat) (a : Nat) : Bool := decide (kind = 2) && decide (nextS l a 2 = 0)
def kAt (kind : Nat) (a : Nat) : Nat := if kind = 2 then a + 1 else a
def pathsS (l : List Int) (far : Int) (kind : Nat) : Nat → Nat → List Path
  | 0, _ => []
  | n + 1, a => pathOf l (kAt kind a) far (shutB' l kind a) :: pathsS l far kind n (pathEnd l (kAt kind a))
def pathsEnd (l : List Int) (kind : Nat) : Nat → Nat → Nat
  | 0, a => a
  | n + 1, a => pathsEnd l kind n (pathEnd l (kAt kind a))
theorem kAt_le (kind a : Nat) : a ≤ kAt kind a ∧ kAt kind a ≤ a + 1 := by unfold kAt; split <;> omega
theorem paths_loop (Gl : xzt) (l : List Int) (far : Int) (i bx b1 : Nat) (kind : Nat) (hl : l.length < 4611686018427387904) (hf : 0 ≤ far) (hb : far < 4611686018427387000) (hib : i ≠ bx) (hi1 : i < b1) (hbx : bx < b1) (x1 x2 x3 x4 x5 x6 x7 x8 x9 : VV) (T0 : VF) (hA : VH) (K : AEx → VF → VH → Prop) (r : List Path) (ae : Nat)
    (hK : ∀ T h v j, (∀ k, k < 7 → qzw T k = qzw T0 k) → AccAt b1 h j cPath r 4 v → qzw h.l i = some (some (bSeq l ae)) → qzw h.l bx = some (some (.cells [.int .i64 kind, x1, x2, x3, x4, x5, x6, x7, x8, x9, v] false)) → (∀ k, k < b1 → k ≠ i → k ≠ bx → qzw h.l k = qzw hA.l k) → b1 ≤ h.next → K (.exit 2) T h) :
    ∀ (d a : Nat) (acc : List Path) (T : VF) (h : VH) (v : VV) (j : Nat), r = acc ++ pathsS l far kind d a → ae = pathsEnd l kind d a → acc.length + d < 1000 → a + 45 * d < 1000000 →
      (∀ k, k < 7 → qzw T k = qzw T0 k) → qzw T0 0 = some (.ptr i 0) → qzw T0 4 = some (.int .i64 far) → qzw T0 6 = some (.ptr bx 0) → qzw T 7 = some (.int .i64 ((d : Int) - 1)) →
      AccAt b1 h j cPath acc 4 v → qzw h.l i = some (some (bSeq l a)) → qzw h.l bx = some (some (.cells [.int .i64 kind, x1, x2, x3, x4, x5, x6, x7, x8, x9, v] false)) → (∀ k, k < b1 → k ≠ i → k ≠ bx → qzw h.l k = qzw hA.l k) → b1 ≤ h.next →
    wp Go.VL.Er.E Gl (.loop c_glyphicmake_Icon_l0) T h K := by
  intro d
  induction d with
  | zero =>
    intro a acc T h v j hr hae h1 h2 hT u0 u4 u6 t7 ha hs hB hh hn
    refine xzn c_glyphicmake_Icon_l0.eq_1 ?_
    have c1 : ¬ ((0 : Nat) : Int) - 1 ≥ 0 := by omega
    simp only [qzz, qzk, xzM, qzo, qzC, qzV, qzv, qzn, qzi, xzd, qzU, qzf, qze, qzd, qzp, xzr, xzp, qzc, qzb, qzg, qzh, qzl, qzm, qzt, qza, qzs, qzu, qzx, cv, qzI, qzJ, toA, ofA, FR.pop, abin, intBin, countN, ↓reduceIte, Nat.reduceEqDiff, Nat.zero_add, true_and, Bool.false_eq_true, decide_false, forall_const, false_implies, t7, c1]
    refine hK _ _ v j (fun k q => ?_) (by rw [hr, pathsS, List.append_nil]; exact ha) (by rw [hae]; exact hs) hB hh hn
    simp only [qza]
    (repeat rw [if_neg (by omega)])
    exact hT k q
  | succ d ih =>
    intro a acc T h v j hr hae h1 h2 hT u0 u4 u6 t7 ha hs hB hh hn
    refine xzn c_glyphicmake_Icon_l0.eq_1 ?_
    have t0 := (hT 0 (by omega)).trans u0
    have t4 := (hT 4 (by omega)).trans u4
    have t6 := (hT 6 (by omega)).trans u6
    have c1 : ((d + 1 : Nat) : Int) - 1 ≥ 0 := by omega
    have w : IntKind.i64.wrap (((d + 1 : Nat) : Int) - 1 - 1) = (d : Int) - 1 := by rw [qzY (by omega) (by omega)]; omega
    have e1 : ¬ i = bx := hib
    have e2 : ¬ bx = i := fun e => hib e.symm
    have e3 : ¬ h.next = bx := by omega
    have e4 : ¬ bx = h.next := by omega
    have x1' : bx < h.next := by omega
    have e5 : (i == bx) = false := by simp [hib]
    have e6 : (bx == i) = false := by simp [e2]
    have kb := kAt_le kind a
    obtain ⟨a', hka⟩ : ∃ a', kAt kind a = a' := ⟨_, rfl⟩
    obtain ⟨b, hsb⟩ : ∃ b, shutB' l kind a = b := ⟨_, rfl⟩
    by_cases k2 : kind = 2
    have q1 : ((kind : Int) == 2) = true := by simp [k2]
    have ka : a' = a + 1 := by rw [← hka]; unfold kAt; rw [if_pos k2]
    have sb : (nextS l a 2 == 0) = b := by rw [← hsb]; unfold shutB'; simp [k2]; rfl
    simp only [qzz, qzk, xzM, qzo, qzC, qzV, qzv, qzn, qzi, xzd, qzU, qzf, qze, qzd, qzp, xzr, xzp, xzD, xzT, xzN, qzc, qzj, qzb, qzg, qzh, xzx, xzy, qzD, qzl, qzm, qzt, qza, qzs, qzu, qzx, qzG, qzL, qzB, qzA, cv, qzI, qzJ, toA, ofA, FR.pop, abin, intBin, qzq, countN, xzK, xzS, xzV, xzL, xzU, xzX, xzY, ↓reduceIte, Option.getD_some, Option.isSome_some, List.getElem?_cons_zero, List.append_nil, List.contains_nil, Nat.reduceEqDiff, reduceCtorEq, Nat.add_zero, Nat.zero_add, and_self, and_true, true_and, Bool.and_self, Bool.not_false, beq_self_eq_true, decide_true, forall_const, false_implies, Bool.true_eq_false, reduceCtorEq, t0, t6, t7, c1, hB, q1]
    refine call_st1 (next_ok Gl l a 2 i hl (by omega) (by omega) (by omega)) hs rfl rfl ?_
    rw [← ka]
    simp only [xzr, xzp, xzD, xzN, xzQ, qzc, qzb, xzx, xzy, qzD, qzl, qzm, qzt, qza, qzs, qzu, qzx, xzj, cv, qzI, qzJ, toA, ofA, FR.pop, abin, intBin, ↓reduceIte, Option.map_some, List.append_nil, Nat.reduceEqDiff, reduceCtorEq, beq_self_eq_true, reduceCtorEq, cSeq, bSeq, t0, t4, sb]
    have hs' : qzw (VH.mk ((i, some (bSeq l a')) :: h.l) h.next).l i = some (some (bSeq l a')) := by simp only [qza, if_true]
    have hB' : qzw (VH.mk ((i, some (bSeq l a')) :: h.l) h.next).l bx = some (some (.cells [.int .i64 kind, x1, x2, x3, x4, x5, x6, x7, x8, x9, v] false)) := by simp only [qza, e1, if_false]; exact hB
    have hh' : ∀ k, k ≠ i → qzw (VH.mk ((i, some (bSeq l a')) :: h.l) h.next).l k = qzw h.l k := fun k q => by simp only [qza]; rw [if_neg (Ne.symm q)]
    rotate_left
    have q1 : ((kind : Int) == 2) = false := by simp; omega
    have ka : a' = a := by rw [← hka]; unfold kAt; rw [if_neg k2]
    have sb : false = b := by rw [← hsb]; unfold shutB'; simp [k2]
    simp only [qzz, qzk, xzM, qzo, qzC, qzV, qzv, qzn, qzi, xzd, qzU, qzf, qze, qzd, qzp, xzr, xzp, wpXG_false, xzD, xzT, xzN, qzc, qzj, qzb, qzg, qzh, xzx, xzy, qzD, qzl, qzm, qzt, qza, qzs, qzu, qzx, xzj, qzG, qzL, qzB, qzA, cv, qzI, qzJ, toA, ofA, FR.pop, abin, intBin, qzq, qzS, countN, xzK, xzS, xzV, xzL, xzU, xzX, xzY, ↓reduceIte, Option.getD_some, Option.isSome_some, List.getElem?_cons_zero, List.append_nil, List.contains_nil, Nat.reduceEqDiff, reduceCtorEq, Nat.add_zero, Nat.zero_add, and_self, and_true, true_and, Bool.and_self, Bool.not_false, Bool.false_eq_true, beq_true, decide_true, forall_const, false_implies, Bool.true_eq_false, reduceCtorEq, t0, t4, t6, t7, c1, hB, q1]
    rw [sb]
    have hs' := hs
    rw [← ka] at hs'
    have hB' := hB
    have hh' : ∀ k, k ≠ i → qzw h.l k = qzw h.l k := fun k q => rfl
    rotate_left
    all_goals
      refine call_shut1 (path_ok Gl l a' far b i hl (by omega) hf hb) hs' rfl ?_
      simp only [xzr, xzp, xzD, xzT, wpXA_n, xzN, xzQ, qzc, qzj, qzE, qzb, xzx, xzy, kXN_app, qzl, qzm, qzt, qza, qzs, qzu, qzG, qzL, qzB, xzh, xzv, qzW, qzA, cvs, cv, VN.at, VH.push, qzq, VV.cells, ntV, xzK, lowB, fzB, fzL, xzS, xzV, xzL, xzU, xzX, xzY, ↓reduceIte, Option.getD_some, Option.isSome_some, Option.map_some, List.getElem?_cons_zero, List.getElem?_cons_succ, List.length_cons, List.length_nil, List.drop_succ_cons, List.drop_zero, List.take_zero, List.append_nil, List.nil_append, List.cons_append, List.contains_cons, List.contains_nil, Nat.reduceAdd, Nat.reduceDiv, Nat.reduceLT, Nat.reduceEqDiff, Nat.reduceLeDiff, Nat.zero_add, and_self, true_and, Bool.and_self, Bool.or_false, Bool.or_true, Bool.not_false, decide_true, cSeq, bSeq, cPath, t6, hB, e1, e6, x1']
      refine wpW_acc (base := b1) (j := j) (f := cPath) (l := acc) (a := pathOf l a' far b) (ha.ext (by simp) (fun q1 q2 => ?_)) ?_ cPath_len (by omega) (by simp; omega) (by omega) (by omega) ?_
      · simp only [qza]
        (repeat rw [if_neg (by omega)])
      · simp only [qza, srcV, winV, qzq, ↓reduceIte, Option.getD_some, List.length_cons, List.length_nil, List.drop_zero, List.take_succ_cons, List.take_zero, Nat.reduceAdd, Nat.reduceMul, reduceCtorEq, Nat.reduceLeDiff, Nat.zero_add, true_or, reduceCtorEq, true_or, cPath] <;> first | rfl | exact ⟨rfl, rfl⟩ | exact qzr rfl
      · intro h2 g1 g2 g3
        have old : ∀ k, k < b1 → k ≠ i → qzw h2.l k = qzw h.l k := fun k hk hi => by
          rw [g2 k (by simp; omega) (ha.ne (.inl hk))]
          simp only [qza]
          (repeat rw [if_neg (by omega)])
        have o1 : qzw h2.l i = some (some (bSeq l (pathEnd l a'))) := by
          rw [g2 i (by simp; omega) (ha.ne (.inl hi1))]
          simp only [qza]
          simp only [if_neg (show ¬ h.next = i by omega), if_true]
        have o3 := (old bx (by omega) (by omega)).trans hB
        simp only at g1
        simp only [qzk, qzi, xzc, xzm, qzf, qze, qzd, qzp, xzO, xzr, xzp, xzD, xzN, xzQ, qzc, qzb, xza, qzg, qzh, xzx, xzy, xzb, qzl, qzm, qzt, qza, qzs, qzu, qzx, qzG, qzW, xzg, xzq, cv, qzI, qzJ, toA, ofA, FR.pop, abin, intBin, VH.set, qzq, VV.cells, ntV, qzS, xzz, ↓reduceIte, Option.getD_some, Option.map_some, List.length_cons, List.length_nil, List.drop_succ_cons, List.drop_zero, List.take_succ_cons, List.take_zero, List.append_nil, List.nil_append, List.cons_append, List.head?_cons, Nat.reduceAdd, Nat.reduceEqDiff, Nat.reduceLeDiff, Nat.zero_add, and_self, t6, t7, o3, w]
        refine ih (pathEnd l a') (acc ++ [pathOf l a' far b]) _ _ _ _ ?_ ?_ (by simp; omega) (by have := pathEnd_le l a'; omega) ?_ u0 u4 u6 ?_ (g3.ext (Nat.le_refl _) (fun q1 q2 => ?_)) ?_ ?_ ?_ ?_
        · rw [hr, pathsS, List.append_assoc, hka, hsb]; rfl
        · rw [hae, pathsEnd, hka]
        · intro k q
          simp only [qza]
          (repeat rw [if_neg (by omega)])
          exact hT k q
        · simp only [qza, ↓reduceIte]
        · simp only [qza]; rw [if_neg (by omega)]
        · simp only [qza, e2, if_false]; exact o1
        · simp only [qza, if_true]
        · intro k q1 q2 q3
          simp only [qza]
          rw [if_neg (by omega), old k q1 q2, hh k q1 q2 q3]
        · show b1 ≤ h2.next; omega
end
end Go.VL.Mk

/- A command. -/
namespace Go.VL.Mk
open Go.FR Go.IR Go.VL Go.VL.Color Go.VL.Wind Go.VL.Ic
noncomputable section
set_option linter.unusedSimpArgs false
set_option linter.unusedVariables false
set_option maxRecDepth 100000
set_option maxHeartbeats 1000000

def kindN (l : List Int) (a : Nat) : Nat := (nextS l a 2).toNat + 1
def ruleS (l : List Int) (a : Nat) : Int := if kindN l a = 1 then nextS l (a + 1) 2 else 0
def widthS (l : List Int) (far : Int) (a : Nat) : Int := if kindN l a = 1 then 0 else 1 + nextS l (a + 1) (max (far.tdiv 2) 1)
def pkS (l : List Int) (a : Nat) : Int := nextS l (a + 2) 3
def cols1 (l : List Int) (a : Nat) (cs : List Cl) : List Cl := addI cs (colorS l (a + 3))
def colsOf (l : List Int) (a : Nat) (cs : List Cl) : List Cl := if pkS l a = 0 then cols1 l a cs else addI (cols1 l a cs) (colorS l (a + 4))
def bS (l : List Int) (a : Nat) (cs : List Cl) : Int := if pkS l a = 0 then 0 else addP (cols1 l a cs) (colorS l (a + 4))
def pS (l : List Int) (far : Int) (a : Nat) : Pt := if pkS l a = 0 then zP else pointS l (a + 5) far
def moveS (p q : Pt) : Pt := if p.x = q.x ∧ p.y = q.y then ⟨q.x + 1, q.y⟩ else q
def qS (l : List Int) (far : Int) (a : Nat) : Pt := if pkS l a = 0 then zP else if pkS l a = 1 then moveS (pointS l (a + 5) far) (pointS l (a + 7) far) else ⟨1 + nextS l (a + 7) far, 0⟩
def thenS (l : List Int) (a : Nat) : Nat := if pkS l a = 0 then a + 4 else if pkS l a = 1 then a + 9 else a + 8
def pathsN (l : List Int) (a : Nat) : Nat := (nextS l (thenS l a) 3).toNat + 1
def cmdOf (l : List Int) (far : Int) (a : Nat) (cs : List Cl) : Cmd := ⟨kindN l a, ruleS l a, widthS l far a, ⟨pkS l a, addP cs (colorS l (a + 3)), bS l a cs, pS l far a, qS l far a⟩, pathsS l far (kindN l a) (pathsN l a) (thenS l a + 1)⟩
def cmdEnd (l : List Int) (a : Nat) : Nat := pathsEnd l (kindN l a) (pathsN l a) (thenS l a + 1)
theorem samePt_ok (Gl : xzt) (p q : Pt) : xzH Go.VL.Er.E Gl f_glyphicref_SamePoint [.agg (cPt p), .agg (cPt q)] (.bool (decide (p.x = q.x ∧ p.y = q.y))) := by
  refine xzw (xzf E_glyphicref_SamePoint ?_)
  unfold c_glyphicref_SamePoint r_glyphicref_SamePoint
  simp only [xzB]
  by_cases h1 : p.x = q.x
  · have q1 : (p.x == q.x) = true := by simp [h1]
    by_cases h2 : p.y = q.y
    · have q2 : (p.y == q.y) = true := by simp [h2]
      simp only [qzk, qzo, qzH, qzi, qzf, qze, qzd, qzp, qzF, qzX, qzK, qzc, qzj, qzE, qzb, qzg, qzh, qzO, qzl, qzm, qzt, qza, qzs, qzu, qzx, xzj, qzG, qzL, qzB, xzh, xzF, qzA, cv, qzI, qzJ, toA, ofA, FR.pop, abin, intBin, VN.at, VH.push, qzq, h0, VV.cells, ntV, qzQ, qzM, qzT, qzP, ↓reduceIte, Option.getD_some, List.getElem?_cons_zero, List.getElem?_cons_succ, Nat.reduceAdd, Nat.reduceEqDiff, reduceCtorEq, Nat.add_zero, Nat.zero_add, and_self, beq_self_eq_true, decide_true, reduceCtorEq, cPt, h1, h2]
      exact qzr rfl
    · have q2 : (p.y == q.y) = false := by simp [h2]
      simp only [qzk, qzo, qzH, qzi, qzf, qze, qzd, qzp, qzF, qzX, qzK, qzc, qzj, qzE, qzb, qzg, qzh, qzO, qzl, qzm, qzt, qza, qzs, qzu, qzx, xzj, qzG, qzL, qzB, xzh, xzF, qzA, cv, qzI, qzJ, toA, ofA, FR.pop, abin, intBin, VN.at, VH.push, qzq, h0, VV.cells, ntV, qzQ, qzM, qzT, qzP, ↓reduceIte, Option.getD_some, List.getElem?_cons_zero, List.getElem?_cons_succ, Nat.reduceAdd, Nat.reduceEqDiff, reduceCtorEq, Nat.add_zero, Nat.zero_add, and_false, beq_self_eq_true, decide_false, reduceCtorEq, cPt, q2, h1, h2]
      exact qzr rfl
  · have q1 : (p.x == q.x) = false := by simp [h1]
    simp only [qzk, qzo, qzH, qzi, qzf, qze, qzd, xzl, qzp, qzF, qzX, qzK, qzc, qzj, qzE, qzb, qzg, qzh, qzO, qzl, qzm, qzt, qza, qzs, qzu, qzx, xzj, qzG, qzL, qzB, xzh, xzF, qzA, cv, qzI, qzJ, toA, ofA, FR.pop, abin, intBin, VN.at, VH.push, qzq, h0, VV.cells, ntV, qzQ, qzM, qzT, qzP, qzS, ↓reduceIte, Option.getD_some, List.getElem?_cons_zero, Nat.reduceAdd, Nat.reduceEqDiff, reduceCtorEq, Nat.add_zero, Nat.zero_add, false_and, Bool.false_eq_true, beq_true, decide_false, reduceCtorEq, cPt, q1, h1]
    exact qzr rfl

/-- A command whose paths lie in a block. -/
abbrev fO (p : Cmd × Nat) : List VV := [.int .i64 p.1.kind, .int .i64 p.1.rule, .int .i64 p.1.width, .int .i64 p.1.paint.kind, .int .i64 p.1.paint.a, .int .i64 p.1.paint.b, .int .i64 p.1.paint.p.x, .int .i64 p.1.paint.p.y, .int .i64 p.1.paint.q.x, .int .i64 p.1.paint.q.y, .slice p.2 0 p.1.paths.length 4 (.toEnd 4)]
/-- The paths of these commands lie where they are said to. -/
def Lies (base : Nat) (h : VH) (j j2 : Nat) (v v2 : VV) (L : List (Cmd × Nat)) : Prop := ∀ p ∈ L, qzw h.l p.2 = some (some (.cells (xzk cPath p.1.paths) false)) ∧ base ≤ p.2 ∧ p.2 < h.next ∧ (p.2 ≠ j ∨ v = .nilS) ∧ (p.2 ≠ j2 ∨ v2 = .nilS)

end
end Go.VL.Mk
