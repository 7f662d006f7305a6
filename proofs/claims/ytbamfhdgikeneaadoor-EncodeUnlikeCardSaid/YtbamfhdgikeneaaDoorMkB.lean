import Derived.Test.YtbamfhdgikeneaaDoorPaB
import Derived.Test.YtbamfhdgikeneaaDoorWiA
/- Paths. -/
namespace Go.VL.Mk
open Go.FR Go.IR Go.VL Go.VL.Color Go.VL.Wind Go.VL.Ic
noncomputable section
set_option linter.unusedSimpArgs false
set_option linter.unusedVariables false
set_option maxRecDepth 100000
set_option maxHeartbeats 1000000

def segN (l : List Int) (a : Nat) : Nat := (nextS l a 3).toNat + 1
theorem segN_in (l : List Int) (a : Nat) : 1 ≤ segN l a ∧ segN l a ≤ 3 ∧ 1 + nextS l a 3 = (segN l a : Int) := by
  have := next_in l a 3 (by omega)
  unfold segN; omega
def segOf (l : List Int) (a : Nat) (far : Int) : Seg := segP l (a + 1) far (segN l a) (segN l a)
def segEnd (l : List Int) (a : Nat) : Nat := a + 1 + 3 * segN l a
def segsS (l : List Int) (far : Int) : Nat → Nat → List Seg
  | 0, _ => []
  | n + 1, a => segOf l a far :: segsS l far n (segEnd l a)
def segsEnd (l : List Int) : Nat → Nat → Nat
  | 0, a => a
  | n + 1, a => segsEnd l n (segEnd l a)
theorem segsS_len (l : List Int) (far : Int) : ∀ n a, (segsS l far n a).length = n
  | 0, a => rfl
  | n + 1, a => by rw [segsS, List.length_cons, segsS_len l far n]
theorem segsEnd_le (l : List Int) : ∀ n a, a ≤ segsEnd l n a ∧ segsEnd l n a ≤ a + 10 * n
  | 0, a => by simp [segsEnd]
  | n + 1, a => by
    have h1 := segsEnd_le l n (segEnd l a)
    have h2 := segN_in l a
    unfold segEnd at h1
    rw [segsEnd]; unfold segEnd; omega
theorem segs_loop (Gl : xzv) (l : List Int) (far : Int) (i nx : Nat) (hin : i < nx) (hl : l.length < 4611686018427387904) (hf : 0 ≤ far) (hb : far < 4611686018427387000) (p : Pt) (b : Bool) (z : List VV) (K : AEx → VF → VH → Prop) (r : List Seg) (ae : Nat)
    (hK : ∀ T h v j, qzv T 6 = some (.ptr nx 0) → qzv T 7 = some (.ptr (nx + 1) 0) → xzS (nx + 2) h j cSeg r 7 v → qzv h.l i = some (some (bSeq l ae)) → qzv h.l nx = some (some (.cells z false)) → qzv h.l (nx + 1) = some (some (.cells [.int .i64 p.x, .int .i64 p.y, v, .bool b] false)) → nx + 2 ≤ h.next → K (.exit 0) T h) :
    ∀ (d a : Nat) (acc : List Seg) (T : VF) (h : VH) (v : VV) (j : Nat), r = acc ++ segsS l far d a → ae = segsEnd l d a → acc.length + d < 1000000 → a + 10 * d < 10000000 →
      qzv T 0 = some (.ptr i 0) → qzv T 1 = some (.int .i64 far) → qzv T 6 = some (.ptr nx 0) → qzv T 7 = some (.ptr (nx + 1) 0) → qzv T 8 = some (.int .i64 d) →
      xzS (nx + 2) h j cSeg acc 7 v → qzv h.l i = some (some (bSeq l a)) → qzv h.l nx = some (some (.cells z false)) → qzv h.l (nx + 1) = some (some (.cells [.int .i64 p.x, .int .i64 p.y, v, .bool b] false)) → nx + 2 ≤ h.next →
    wp Go.VL.Er.E Gl (.loop c_glyphicmake_Path_l1) T h K := by
  intro d
  induction d with
  | zero =>
    intro a acc T h v j hr hae h1 h2 t0 t1 t6 t7 t8 ha hs hz hA hn
    refine xzr c_glyphicmake_Path_l1.eq_1 ?_
    have c1 : ¬ ((0 : Nat) : Int) > 0 := by omega
    simp only [qzA, qzj, qzn, qzD, qzX, qzw, qzo, qzi, xzh, qzY, qzf, qzd, qze, qzp, qzc, qzb, qzg, qzh, qzm, qzl, qzs, qza, qzr, qzu, qzx, cv, qzG, qzH, toA, ofA, FR.pop, abin, intBin, ↓reduceIte, reduceCtorEq, true_and, Bool.false_eq_true, decide_false, forall_const, false_implies, reduceCtorEq, t8, c1]
    refine hK _ _ v j ?_ ?_ (by rw [hr, segsS, List.append_nil]; exact ha) (by rw [hae]; exact hs) hz hA hn
    · simp only [qza, ↓reduceIte, Nat.reduceEqDiff, t6]
    · simp only [qza, ↓reduceIte, Nat.reduceEqDiff, t7]
  | succ d ih =>
    intro a acc T h v j hr hae h1 h2 t0 t1 t6 t7 t8 ha hs hz hA hn
    refine xzr c_glyphicmake_Path_l1.eq_1 ?_
    have c1 : ((d + 1 : Nat) : Int) > 0 := by omega
    have w : IntKind.i64.wrap (((d + 1 : Nat) : Int) - 1) = (d : Int) := by rw [xzi (by omega) (by omega)]; omega
    obtain ⟨k1, k2, k3⟩ := segN_in l a
    have w2 : IntKind.i64.wrap (1 + nextS l a 3) = (segN l a : Int) := by rw [xzi (by omega) (by omega)]; omega
    have e1 : ¬ i = h.next := by omega
    have e2 : ¬ h.next = i := by omega
    have e3 : ¬ h.next = nx + 1 := by omega
    have e4 : ¬ i = nx + 1 := by omega
    have e5 : ¬ nx + 1 = h.next := by omega
    have e7 : ¬ nx + 1 = i := by omega
    simp only [qzA, qzj, qzn, qzD, qzX, qzw, qzo, qzi, xzh, qzY, qzf, qzd, qze, qzp, qzN, qzc, qzb, qzg, qzh, qzy, qzm, qzl, qzs, qza, qzr, qzu, qzx, cv, qzG, qzH, toA, ofA, FR.pop, abin, intBin, ↓reduceIte, reduceCtorEq, and_true, decide_true, forall_const, false_implies, Bool.true_eq_false, reduceCtorEq, t0, t8, c1]
    refine xzF (next_ok Gl l a 3 i hl (by omega) (by omega) (by omega)) hs rfl rfl ?_
    simp only [qzj, qzn, qzD, qzi, qzf, qzd, qze, qzp, qzZ, qzN, qzz, qzc, qzE, qzb, qzU, qzg, qzh, qzR, qzW, qzm, qzl, qzs, qza, qzr, qzu, qzx, xzk, xzL, xzA, qzS, xza, xzn, cvs, cv, qzG, qzH, toA, ofA, FR.pop, abin, intBin, VN.at, VH.push, VH.set, qzq, VV.cells, ntV, qzO, xzy, ↓reduceIte, Option.getD_some, List.length_cons, List.length_nil, List.drop_succ_cons, List.drop_zero, List.take_zero, List.append_nil, List.nil_append, List.cons_append, List.head?_cons, Nat.reduceAdd, Nat.reduceEqDiff, Nat.reduceLeDiff, Nat.zero_add, and_self, cSeq, bSeq, w2]
    refine pts_loop Gl l far i h.next (segN l a) (by omega) hl hf hb (a + 1) (by omega) (by omega) _ _ _ ?_ (segN l a) 0 _ _ (by omega) (fun _ _ _ => rfl) ?_ ?_ ?_ ?_ ?_ ?_ (fun _ _ _ => rfl) rfl
    · intro T' h' hT s1 s2 hh hx
      simp only at hx
      have oA : qzv h'.l (nx + 1) = some (some (.cells [.int .i64 p.x, .int .i64 p.y, v, .bool b] false)) := by
        rw [hh (nx + 1) (by omega) (by omega)]
        simp only [qza]
        rw [if_neg (by omega), if_neg (by omega), if_neg (by omega)]; exact hA
      have oz : qzv h'.l nx = some (some (.cells z false)) := by
        rw [hh nx (by omega) (by omega)]
        simp only [qza]
        rw [if_neg (by omega), if_neg (by omega), if_neg (by omega)]; exact hz
      have u7 : qzv T' 7 = some (.ptr (nx + 1) 0) := by rw [hT 7 (by omega) (by omega)]; simp only [qza, ↓reduceIte, Nat.reduceEqDiff, t7]
      have u9 : qzv T' 9 = some (.ptr h.next 0) := by rw [hT 9 (by omega) (by omega)]; simp only [qza, ↓reduceIte, Nat.reduceEqDiff]
      have u0 : qzv T' 0 = some (.ptr i 0) := by rw [hT 0 (by omega) (by omega)]; simp only [qza, ↓reduceIte, reduceCtorEq, reduceCtorEq, t0]
      have u1 : qzv T' 1 = some (.int .i64 far) := by rw [hT 1 (by omega) (by omega)]; simp only [qza, ↓reduceIte, Nat.reduceEqDiff, t1]
      have u6 : qzv T' 6 = some (.ptr nx 0) := by rw [hT 6 (by omega) (by omega)]; simp only [qza, ↓reduceIte, Nat.reduceEqDiff, t6]
      have u8 : qzv T' 8 = some (.int .i64 ((d + 1 : Nat) : Int)) := by rw [hT 8 (by omega) (by omega)]; simp only [qza, ↓reduceIte, Nat.reduceEqDiff, t8]
      have ex : (Seg.mk (segN l a : Int) (segP l (a + 1) far (segN l a) (segN l a)).p0 (segP l (a + 1) far (segN l a) (segN l a)).p1 (segP l (a + 1) far (segN l a) (segN l a)).p2) = segOf l a far := rfl
      simp only [qzj, qzi, xzz, qzd, qze, qzp, qzJ, qzZ, qzN, qzc, qzk, qzE, qzb, qzg, qzh, qzR, qzm, qzl, qzs, qza, qzr, qzu, qzI, qzL, qzC, xzk, xzA, qzS, qzB, cvs, cv, VN.at, VH.push, qzq, VV.cells, ntV, ↓reduceIte, Option.getD_some, List.getElem?_cons_zero, List.getElem?_cons_succ, List.length_cons, List.length_nil, List.drop_succ_cons, List.drop_zero, List.take_succ_cons, List.take_zero, List.append_nil, List.nil_append, Nat.reduceAdd, Nat.reduceDiv, Nat.reduceEqDiff, Nat.reduceLeDiff, Nat.zero_add, and_self, cSeg, u7, u9, oA, s2]
      refine wpW_acc (base := nx + 2) (j := j) (f := cSeg) (l := acc) (a := segOf l a far) (ha.ext (by simp; omega) (fun q1 q2 => ?_)) ?_ cSeg_len (by omega) (by simp; omega) (by omega) (by omega) ?_
      · simp only [qza]
        rw [if_neg (by omega), hh j (by omega) (by omega)]
        simp only [qza]
        rw [if_neg (by omega), if_neg (by omega), if_neg (by omega)]
      · simp only [qza, srcV, winV, qzq, ↓reduceIte, Option.getD_some, List.length_cons, List.length_nil, List.drop_zero, List.take_succ_cons, List.take_zero, Nat.reduceAdd, Nat.reduceMul, reduceCtorEq, Nat.reduceLeDiff, Nat.zero_add, true_or, reduceCtorEq, true_or, cSeg] <;> first | rfl | exact ⟨rfl, rfl⟩ | exact qzt rfl
      · intro h2 g1 g2 g3
        have old : ∀ k, k < nx + 2 → qzv h2.l k = qzv h'.l k := fun k hk => by
          rw [g2 k (by simp; omega) (ha.ne (.inl hk))]
          simp only [qza]
          rw [if_neg (by omega)]
        have o1 := (old i (by omega)).trans s1
        have o2 := (old nx (by omega)).trans oz
        have o3 := (old (nx + 1) (by omega)).trans oA
        simp only at g1
        simp only [qzj, qzi, xzg, xzq, qzf, qzd, qze, qzp, qzN, qzz, qzc, qzb, qzU, qzg, qzh, qzW, qzm, qzl, qzs, qza, qzr, qzu, qzx, qzI, qzS, xza, xzn, cv, qzG, qzH, toA, ofA, FR.pop, abin, intBin, VH.set, qzq, VV.cells, ntV, qzO, xzy, ↓reduceIte, Option.getD_some, List.length_cons, List.length_nil, List.drop_succ_cons, List.drop_zero, List.take_succ_cons, List.take_zero, List.nil_append, List.cons_append, List.head?_cons, Nat.reduceAdd, Nat.reduceEqDiff, Nat.reduceLeDiff, Nat.zero_add, and_self, u7, u8, o3, w]
        refine ih (segEnd l a) (acc ++ [segOf l a far]) _ _ _ _ ?_ ?_ (by simp; omega) (by unfold segEnd; omega) ?_ ?_ ?_ ?_ ?_ (g3.ext (Nat.le_refl _) (fun q1 q2 => ?_)) ?_ ?_ ?_ ?_
        · rw [hr, segsS, List.append_assoc]; rfl
        · rw [hae]; rfl
        · simp only [qza, ↓reduceIte, reduceCtorEq, reduceCtorEq, u0]
        · simp only [qza, ↓reduceIte, Nat.reduceEqDiff, u1]
        · simp only [qza, ↓reduceIte, Nat.reduceEqDiff, u6]
        · simp only [qza, ↓reduceIte, Nat.reduceEqDiff, u7]
        · simp only [qza, ↓reduceIte]
        · simp only [qza]; rw [if_neg (by omega)]
        · simp only [qza, e7, if_false]; exact o1
        · simp only [qza]; rw [if_neg (by omega)]; exact o2
        · simp only [qza, if_true]
        · show nx + 2 ≤ h2.next; omega
    · simp only [qza, ↓reduceIte, reduceCtorEq, reduceCtorEq, t0]
    · simp only [qza, ↓reduceIte, Nat.reduceEqDiff, t1]
    · simp only [qza, ↓reduceIte, Nat.reduceEqDiff]
    · simp only [qza, ↓reduceIte]; rfl
    · simp only [qza, ↓reduceIte, Nat.reduceMul, Nat.add_zero, cSeq, bSeq, e2]
    · simp only [qza, ↓reduceIte, Nat.reduceLT, cSeg, segP, zP]
def pathN (l : List Int) (a : Nat) : Nat := (nextS l (a + 3) 4).toNat + 1
theorem pathN_in (l : List Int) (a : Nat) : 1 ≤ pathN l a ∧ pathN l a ≤ 4 ∧ 1 + nextS l (a + 3) 4 = (pathN l a : Int) := by
  have := next_in l (a + 3) 4 (by omega)
  unfold pathN; omega
def pathOf (l : List Int) (a : Nat) (far : Int) (b : Bool) : Path := ⟨insideS l a far, segsS l far (pathN l a) (a + 4), b⟩
def pathEnd (l : List Int) (a : Nat) : Nat := segsEnd l (pathN l a) (a + 4)
theorem pathEnd_le (l : List Int) (a : Nat) : a ≤ pathEnd l a ∧ pathEnd l a ≤ a + 44 := by
  have h1 := segsEnd_le l (pathN l a) (a + 4)
  have h2 := pathN_in l a
  unfold pathEnd; omega
theorem path_ok (Gl : xzv) (l : List Int) (a : Nat) (far : Int) (b : Bool) (i : Nat) (hl : l.length < 4611686018427387904) (ha : a < 1000000) (hf : 0 ≤ far) (hb : far < 4611686018427387000) :
    StShut Go.VL.Er.E Gl f_glyphicmake_Path [.ptr i 0, .int .i64 far, .bool b] [(i, bSeq l a)] (.agg (cPath (pathOf l a far b))) [(i, bSeq l (pathEnd l a))] := by
  refine shut1_intro fun nx hn => xze E_glyphicmake_Path ?_
  unfold c_glyphicmake_Path r_glyphicmake_Path
  simp only [xzC]
  obtain ⟨k1, k2, k3⟩ := pathN_in l a
  have w2 : IntKind.i64.wrap (1 + nextS l (a + 3) 4) = (pathN l a : Int) := by rw [xzi (by omega) (by omega)]; omega
  have e1 : ¬ nx = i := by omega
  have e2 : ¬ i = nx := by omega
  have e3 : ¬ nx + 1 = nx := by omega
  have e4 : ¬ nx = nx + 1 := by omega
  have e5 : ¬ nx + 1 = i := by omega
  have e6 : ¬ i = nx + 1 := by omega
  simp only [qzj, qzn, qzi, qzf, qzd, qze, qzp, qzZ, qzN, qzc, qzE, qzb, qzg, qzh, qzR, qzy, qzm, qzl, qzs, qza, qzr, qzu, qzx, xzk, cvs, cv, VN.at, VH.push, ↓reduceIte, Nat.reduceAdd, Nat.reduceEqDiff, reduceCtorEq, Nat.zero_add, reduceCtorEq, cSeq, bSeq, cPath]
  refine xzF (inside_ok Gl l a far i hl (by omega) hf hb) (by simp only [qza, ↓reduceIte, cSeq, bSeq, e1]) rfl rfl ?_
  simp only [qzj, qzn, qzi, qzf, qzd, qze, qzp, qzZ, qzN, qzz, qzc, qzE, qzb, qzU, qzg, qzh, qzR, qzW, qzy, qzm, qzl, qzs, qza, qzr, qzu, qzx, xzk, xzL, xzA, qzS, xza, xzn, cvs, cv, VN.at, VH.push, VH.set, qzq, VV.cells, ntV, qzO, xzy, ↓reduceIte, Option.getD_some, List.length_cons, List.length_nil, List.drop_succ_cons, List.drop_zero, List.take_succ_cons, List.take_zero, List.append_nil, List.nil_append, List.cons_append, List.head?_cons, Nat.reduceAdd, Nat.reduceEqDiff, reduceCtorEq, Nat.reduceLeDiff, Nat.zero_add, and_self, reduceCtorEq, cSeq, bSeq, cPt]
  refine xzF (next_ok Gl l (a + 3) 4 i hl (by omega) (by omega) (by omega)) (by simp only [qza, ↓reduceIte, cSeq, bSeq, e5]) rfl rfl ?_
  simp only [qzD, qzi, qzf, qzd, qze, qzp, qzz, qzc, qzb, qzg, qzh, qzm, qzl, qzs, qza, qzr, qzu, qzx, cv, qzG, qzH, toA, ofA, FR.pop, abin, intBin, ↓reduceIte, cSeq, bSeq, w2]
  refine segs_loop Gl l far i nx hn hl hf hb (insideS l a far) b [.int .i64 0, .int .i64 0, .nilS, .bool false] _ (segsS l far (pathN l a) (a + 4)) (pathEnd l a) ?_ (pathN l a) (a + 4) [] _ _ .nilS 0 rfl rfl (by simp; omega) (by omega) ?_ ?_ ?_ ?_ ?_ xzS.nil ?_ ?_ ?_ ?_
  · intro T h v j t6 t7 hacc hs hz hA hnn
    have hne : segsS l far (pathN l a) (a + 4) ≠ [] := fun e => by
      have := segsS_len l far (pathN l a) (a + 4)
      rw [e] at this; simp at this; omega
    obtain ⟨rfl, b2, b3, b4⟩ := hacc.some hne
    have hlen := segsS_len l far (pathN l a) (a + 4)
    simp only [qzj, qzn, qzF, qzi, xzz, qzf, qzd, qze, qzJ, qzN, qzz, qzK, qzk, qzb, qzU, qzg, qzh, qzW, qzm, qzl, qzs, qza, qzr, qzL, qzC, qzS, xza, xzn, qzB, VH.set, qzq, VV.cells, ntV, qzQ, qzM, qzV, qzP, qzO, xzy, ↓reduceIte, Option.getD_some, List.length_cons, List.length_nil, List.drop_succ_cons, List.drop_zero, List.take_succ_cons, List.take_zero, List.append_nil, List.nil_append, List.head?_cons, Nat.reduceAdd, Nat.reduceEqDiff, Nat.reduceLeDiff, Nat.zero_add, and_self, t6, t7, hA, hz, e1]
    refine ⟨yzb.agg (xzR.cons (yzb.closed rfl) (xzR.cons (yzb.closed rfl) (xzR.cons (yzb.acc (f' := cSeg) (l := segsS l far (pathN l a) (a + 4)) (.inr ⟨rfl, b2, b3, b4⟩) (fun _ x hx => ?_) cSeg_len (fun _ _ => xzR.closed rfl)) (xzR.cons (yzb.closed rfl) xzR.nil)))), ?_⟩
    · rw [qzq] at hx
      unfold above
      rw [if_pos (by omega), qzq]
      simp only [qza]
      rw [if_neg (by omega)]
      exact hx
    · simp only [cSeq, bSeq, hs]
  all_goals first | (simp only [qza, ↓reduceIte, Nat.reduceEqDiff, reduceCtorEq, Nat.reduceLeDiff, reduceCtorEq, cSeq, bSeq, e2, e3, e6]; done) | (simp only [Nat.reduceLeDiff]; rfl) | exact Nat.le_refl _
end
end Go.VL.Mk

/- A color of an icon. -/
namespace Go.VL.Mk
open Go.FR Go.IR Go.VL Go.VL.Color Go.VL.Wind Go.VL.Ic Go.VL.Pal
noncomputable section
set_option linter.unusedSimpArgs false
set_option linter.unusedVariables false
set_option maxRecDepth 100000
set_option maxHeartbeats 1000000

def addI (l : List Cl) (c : Cl) : List Cl := if 0 ≤ idxS l c 0 then l else l ++ [c]
def addP (l : List Cl) (c : Cl) : Int := if 0 ≤ idxS l c 0 then idxS l c 0 else l.length
theorem addI_len (l : List Cl) (c : Cl) : l.length ≤ (addI l c).length ∧ (addI l c).length ≤ l.length + 1 := by
  unfold addI; split <;> simp
theorem addi_run (Gl : xzv) (c : Cl) (l : List Cl) (hl : l.length < 100000) (base : Nat) (h : VH) (i j : Nat) (v x y z u : VV) (hb : base ≤ h.next) (hi : qzv h.l i = some (some (.cells [x, y, z, v, u] false))) (ha : xzS base h j cCl l 4 v) (hin : i < h.next) (hij : i ≠ j ∨ v = .nilS) :
    CallsV Go.VL.Er.E Gl f_glyphicmake_add [.ptr i 0, .agg (cCl c)] h (fun r h' => r = .int .i64 (addP l c) ∧ ∃ j' v', qzv h'.l i = some (some (.cells [x, y, z, v', u] false)) ∧ xzS base h' j' cCl (addI l c) 4 v' ∧ (∀ k, k < h.next → k ≠ i → (k ≠ j ∨ v = .nilS) → qzv h'.l k = qzv h.l k) ∧ h.next ≤ h'.next ∧ (j' = j ∧ v' = v ∨ h.next ≤ j')) := by
  refine xze E_glyphicmake_add ?_
  unfold c_glyphicmake_add r_glyphicmake_add
  simp only [xzC]
  have e1 : ¬ h.next = i := by omega
  simp only [qzj, xzD, qzn, qzi, qzf, qzd, qze, qzp, qzZ, xzj, xzc, xzw, xzN, xzQ, qzc, qzk, qzE, qzb, qzg, qzh, qzR, xzs, xzt, qzy, qzm, qzl, qzs, qza, qzr, qzu, qzx, qzI, nilChkV, qzL, qzC, xzk, xzJ, qzB, cv, VN.at, VH.push, qzq, VV.cells, ntV, countN, xzG, xzP, xzT, xzH, xzO, yza, xzZ, ↓reduceIte, Option.getD_some, Option.isSome_some, List.getElem?_cons_zero, List.getElem?_cons_succ, List.length_cons, List.length_nil, List.drop_zero, List.take_succ_cons, List.take_zero, List.append_nil, List.contains_nil, Nat.reduceAdd, Nat.reduceEqDiff, reduceCtorEq, Nat.reduceLeDiff, Nat.zero_add, and_self, true_and, Bool.and_self, Bool.not_false, reduceCtorEq, cCl, e1, hi]
  have acc2 := xzS.ext (h' := h.push (.cells (cCl c) false)) ha (Nat.le_succ _) (fun g1 g2 => by simp only [VH.push, qza]; rw [if_neg (by omega)])
  obtain ⟨a0, s1, s2⟩ := acc_shut acc2 Pal.cCl_len (fun _ => rfl)
  refine call_plain_sub (a0 := [a0, .agg (cCl c)]) (refFind_ok Gl c l (by omega)) ?_ ⟨_, _, rfl, s2, subL_refl _⟩ rfl ?_
  · have s1' : shut (VH.mk ((h.next, some (.cells (cCl c) false)) :: h.l) (h.next + 1)) v = some a0 := s1
    simp only [shutL, s1']; rfl
  unfold addI addP
  by_cases k1 : 0 ≤ idxS l c 0
  · have k1' : idxS l c 0 ≥ 0 := k1
    simp only [if_pos k1]
    simp only [qzA, qzj, xzD, qzn, qzF, qzw, qzo, qzi, qzT, qzf, qzd, qze, qzp, xzE, xzj, xzc, xzw, xzN, xzM, qzK, qzc, qzb, qzg, qzh, xzs, xzt, qzm, qzl, qzs, qza, qzr, qzu, qzx, qzI, nilChkV, qzL, qzC, qzB, cv, qzG, qzH, toA, ofA, FR.pop, abin, intBin, qzq, qzQ, qzM, qzV, qzP, countN, xzG, xzP, xzT, xzH, xzO, yza, xzZ, ↓reduceIte, Option.map_some, List.append_nil, List.contains_nil, Nat.reduceEqDiff, reduceCtorEq, Nat.zero_add, and_true, true_and, Bool.and_self, Bool.and_true, Bool.not_false, decide_true, forall_const, false_implies, Bool.true_eq_false, reduceCtorEq, k1']
    refine ⟨j, v, by simp only [e1, if_false]; exact hi, acc2, fun k hk _ _ => ?_, Nat.le_succ _, .inl ⟨rfl, rfl⟩⟩
    rw [if_neg (by omega)]
  · have k1' : ¬ idxS l c 0 ≥ 0 := k1
    simp only [if_neg k1]
    simp only [qzA, qzj, xzD, qzn, qzF, qzw, qzo, qzi, qzT, qzf, qzd, qze, qzp, xzE, xzj, xzc, xzw, xzN, wpXA_n, xzQ, xzM, qzK, qzc, qzk, qzE, qzb, qzg, qzh, xzs, xzt, kXN_app, qzm, qzl, qzs, qza, qzr, qzu, qzx, qzI, nilChkV, qzL, qzC, xzk, xzA, qzS, qzB, cvs, cv, qzG, qzH, toA, ofA, FR.pop, abin, intBin, VN.at, VH.push, qzq, VV.cells, ntV, qzQ, qzM, qzV, qzP, countN, xzG, xzP, xzT, xzH, xzO, yza, xzZ, ↓reduceIte, Option.getD_some, Option.isSome_some, Option.map_some, List.getElem?_cons_zero, List.getElem?_cons_succ, List.length_cons, List.length_nil, List.drop_succ_cons, List.drop_zero, List.take_succ_cons, List.take_zero, List.append_nil, List.nil_append, List.contains_nil, Nat.reduceAdd, Nat.reduceDiv, Nat.reduceLT, Nat.reduceEqDiff, reduceCtorEq, Nat.reduceLeDiff, Nat.zero_add, and_self, true_and, Bool.and_self, Bool.not_false, Bool.false_eq_true, decide_false, forall_const, false_implies, reduceCtorEq, k1', e1, hi]
    have acc4 : xzS base ⟨(h.next + 1, some (VB.cells (cCl c) false)) :: (h.next, some (VB.cells (cCl c) false)) :: h.l, h.next + 1 + 1⟩ j cCl l 4 v := xzS.ext (h := h) ha (by show h.next ≤ h.next + 1 + 1; omega) (fun q1 q2 => by simp only [qza]; rw [if_neg (by omega), if_neg (by omega)])
    refine wpW_acc (a := c) acc4 (by simp only [qza, srcV, winV, qzq, ↓reduceIte, Option.getD_some, List.length_cons, List.length_nil, List.drop_zero, List.take_succ_cons, List.take_zero, Nat.reduceAdd, Nat.reduceMul, reduceCtorEq, Nat.reduceLeDiff, Nat.zero_add, true_or, reduceCtorEq, true_or, cCl] <;> first | rfl | exact ⟨rfl, rfl⟩ | exact qzt rfl) Pal.cCl_len (by omega) (by show base ≤ h.next + 1 + 1; omega) (by omega) (by omega) ?_
    intro h3 g1 g2 q3
    simp only at g1 g2 q3
    have r0 : ∀ k, k < h.next → (k ≠ j ∨ v = VV.nilS) → qzv h3.l k = qzv h.l k := fun k hk hj => by
      rw [g2 k (by omega) hj]; simp only [qza]; rw [if_neg (by omega), if_neg (by omega)]
    have ri := (r0 i hin hij).trans hi
    obtain ⟨_, q4, _, q5⟩ := q3.some (by simp)
    have e5 : ¬ i = h.next + 1 + 1 := by omega
    have wl : IntKind.i64.wrap (((l.length + 1 : Nat) : Int) - 1) = (l.length : Int) := by rw [xzi (by omega) (by omega)]; omega
    simp only [qzj, qzn, qzF, qzi, qzf, qzd, qze, qzp, qzJ, xzE, xzj, xzc, xzw, xzQ, xzM, qzK, qzc, qzk, qzb, qzU, qzg, qzh, xzs, xzt, qzW, qzm, qzl, qzs, qza, qzr, qzu, qzx, qzI, xzd, nilChkV, qzL, qzC, qzS, xza, xzn, qzB, cv, qzG, qzH, toA, ofA, FR.pop, abin, intBin, VH.set, qzq, VV.cells, ntV, qzQ, qzM, qzV, qzP, qzO, xzy, ↓reduceIte, Option.getD_some, Option.map_some, List.getElem?_cons_zero, List.getElem?_cons_succ, List.length_cons, List.length_nil, List.drop_succ_cons, List.drop_zero, List.take_succ_cons, List.take_zero, List.append_nil, List.nil_append, List.cons_append, List.head?_cons, Nat.reduceAdd, Nat.reduceEqDiff, reduceCtorEq, Nat.reduceLeDiff, Nat.zero_add, and_self, true_and, reduceCtorEq, ri, wl]
    refine ⟨h.next + 1 + 1, _, rfl, .inr ⟨by simp, by simp only [qza, e5, if_false]; exact q4, by omega, q5⟩, fun k hk hne hj => ?_, by omega, .inr (by omega)⟩
    rw [if_neg (by omega)]; exact r0 k hk (by first | exact hj | (simp at hj ⊢; exact hj))
end
end Go.VL.Mk

/- A command's paths. -/
namespace Go.VL.Mk
open Go.FR Go.IR Go.VL Go.VL.Color Go.VL.Wind Go.VL.Ic
noncomputable section
set_option linter.unusedSimpArgs false
set_option linter.unusedVariables false
set_option maxRecDepth 100000
set_option maxHeartbeats 1000000

def shutB' (l : List Int) (kind : Nat) (a : Nat) : Bool := decide (kind = 2) && decide (nextS l a 2 = 0)
def kAt (kind : Nat) (a : Nat) : Nat := if kind = 2 then a + 1 else a
def pathsS (l : List Int) (far : Int) (kind : Nat) : Nat → Nat → List Path
  | 0, _ => []
  | n + 1, a => pathOf l (kAt kind a) far (shutB' l kind a) :: pathsS l far kind n (pathEnd l (kAt kind a))
def pathsEnd (l : List Int) (kind : Nat) : Nat → Nat → Nat
  | 0, a => a
  | n + 1, a => pathsEnd l kind n (pathEnd l (kAt kind a))
theorem pathsS_len (l : List Int) (far : Int) (kind : Nat) : ∀ n a, (pathsS l far kind n a).length = n
  | 0, a => rfl
  | n + 1, a => by rw [pathsS, List.length_cons, pathsS_len l far kind n]
theorem kAt_le (kind a : Nat) : a ≤ kAt kind a ∧ kAt kind a ≤ a + 1 := by unfold kAt; split <;> omega
theorem pathsEnd_le (l : List Int) (kind : Nat) : ∀ n a, a ≤ pathsEnd l kind n a ∧ pathsEnd l kind n a ≤ a + 45 * n
  | 0, a => by simp [pathsEnd]
  | n + 1, a => by
    have h1 := pathsEnd_le l kind n (pathEnd l (kAt kind a))
    have h2 := pathEnd_le l (kAt kind a)
    have h3 := kAt_le kind a
    rw [pathsEnd]; omega
theorem paths_loop (Gl : xzv) (l : List Int) (far : Int) (i bx b1 : Nat) (kind : Nat) (hl : l.length < 4611686018427387904) (hf : 0 ≤ far) (hb : far < 4611686018427387000) (hib : i ≠ bx) (hi1 : i < b1) (hbx : bx < b1) (x1 x2 x3 x4 x5 x6 x7 x8 x9 : VV) (T0 : VF) (hA : VH) (K : AEx → VF → VH → Prop) (r : List Path) (ae : Nat)
    (hK : ∀ T h v j, (∀ k, k < 7 → qzv T k = qzv T0 k) → xzS b1 h j cPath r 4 v → qzv h.l i = some (some (bSeq l ae)) → qzv h.l bx = some (some (.cells [.int .i64 kind, x1, x2, x3, x4, x5, x6, x7, x8, x9, v] false)) → (∀ k, k < b1 → k ≠ i → k ≠ bx → qzv h.l k = qzv hA.l k) → b1 ≤ h.next → K (.exit 2) T h) :
    ∀ (d a : Nat) (acc : List Path) (T : VF) (h : VH) (v : VV) (j : Nat), r = acc ++ pathsS l far kind d a → ae = pathsEnd l kind d a → acc.length + d < 1000 → a + 45 * d < 1000000 →
      (∀ k, k < 7 → qzv T k = qzv T0 k) → qzv T0 0 = some (.ptr i 0) → qzv T0 4 = some (.int .i64 far) → qzv T0 6 = some (.ptr bx 0) → qzv T 7 = some (.int .i64 ((d : Int) - 1)) →
      xzS b1 h j cPath acc 4 v → qzv h.l i = some (some (bSeq l a)) → qzv h.l bx = some (some (.cells [.int .i64 kind, x1, x2, x3, x4, x5, x6, x7, x8, x9, v] false)) → (∀ k, k < b1 → k ≠ i → k ≠ bx → qzv h.l k = qzv hA.l k) → b1 ≤ h.next →
    wp Go.VL.Er.E Gl (.loop c_glyphicmake_Icon_l0) T h K := by
  intro d
  induction d with
  | zero =>
    intro a acc T h v j hr hae h1 h2 hT u0 u4 u6 t7 ha hs hB hh hn
    refine xzr c_glyphicmake_Icon_l0.eq_1 ?_
    have c1 : ¬ ((0 : Nat) : Int) - 1 ≥ 0 := by omega
    simp only [qzA, qzj, xzD, qzn, qzD, qzX, qzw, qzo, qzi, xzh, qzY, qzf, qzd, qze, qzp, xzj, xzc, qzc, qzb, qzg, qzh, qzm, qzl, qzs, qza, qzr, qzu, qzx, cv, qzG, qzH, toA, ofA, FR.pop, abin, intBin, countN, ↓reduceIte, Nat.reduceEqDiff, Nat.zero_add, true_and, Bool.false_eq_true, decide_false, forall_const, false_implies, t7, c1]
    refine hK _ _ v j (fun k q => ?_) (by rw [hr, pathsS, List.append_nil]; exact ha) (by rw [hae]; exact hs) hB hh hn
    simp only [qza]
    (repeat rw [if_neg (by omega)])
    exact hT k q
  | succ d ih =>
    intro a acc T h v j hr hae h1 h2 hT u0 u4 u6 t7 ha hs hB hh hn
    refine xzr c_glyphicmake_Icon_l0.eq_1 ?_
    have t0 := (hT 0 (by omega)).trans u0
    have t4 := (hT 4 (by omega)).trans u4
    have t6 := (hT 6 (by omega)).trans u6
    have c1 : ((d + 1 : Nat) : Int) - 1 ≥ 0 := by omega
    have w : IntKind.i64.wrap (((d + 1 : Nat) : Int) - 1 - 1) = (d : Int) - 1 := by rw [xzi (by omega) (by omega)]; omega
    have e1 : ¬ i = bx := hib
    have e2 : ¬ bx = i := fun e => hib e.symm
    have e3 : ¬ h.next = bx := by omega
    have e4 : ¬ bx = h.next := by omega
    have x1' : bx < h.next := by omega
    have e5 : (i == bx) = false := by simp [hib]
    have e6 : (bx == i) = false := by simp [e2]
    have kb := kAt_le kind a
    obtain ⟨a', hka⟩ : ∃ a', kAt kind a = a' := ⟨_, rfl⟩
    obtain ⟨b, hsb⟩ : ∃ b, shutB' l kind a = b := ⟨_, rfl⟩
    by_cases k2 : kind = 2
    have q1 : ((kind : Int) == 2) = true := by simp [k2]
    have ka : a' = a + 1 := by rw [← hka]; unfold kAt; rw [if_pos k2]
    have sb : (nextS l a 2 == 0) = b := by rw [← hsb]; unfold shutB'; simp [k2]; rfl
    simp only [qzA, qzj, xzD, qzn, qzD, qzX, qzw, qzo, qzi, xzh, qzY, qzf, qzd, qze, qzp, xzj, xzc, xzw, xzN, xzQ, qzc, qzk, qzb, qzg, qzh, xzs, xzt, qzy, qzm, qzl, qzs, qza, qzr, qzu, qzx, qzI, qzL, qzC, qzB, cv, qzG, qzH, toA, ofA, FR.pop, abin, intBin, qzq, countN, xzG, xzP, xzT, xzH, xzO, yza, xzZ, ↓reduceIte, Option.getD_some, Option.isSome_some, List.getElem?_cons_zero, List.append_nil, List.contains_nil, Nat.reduceEqDiff, reduceCtorEq, Nat.add_zero, Nat.zero_add, and_self, and_true, true_and, Bool.and_self, Bool.not_false, beq_self_eq_true, decide_true, forall_const, false_implies, Bool.true_eq_false, reduceCtorEq, t0, t6, t7, c1, hB, q1]
    refine xzF (next_ok Gl l a 2 i hl (by omega) (by omega) (by omega)) hs rfl rfl ?_
    rw [← ka]
    simp only [xzj, xzc, xzw, xzQ, xzM, qzc, qzb, xzs, xzt, qzy, qzm, qzl, qzs, qza, qzr, qzu, qzx, xzl, cv, qzG, qzH, toA, ofA, FR.pop, abin, intBin, ↓reduceIte, Option.map_some, List.append_nil, Nat.reduceEqDiff, reduceCtorEq, beq_self_eq_true, reduceCtorEq, cSeq, bSeq, t0, t4, sb]
    have hs' : qzv (VH.mk ((i, some (bSeq l a')) :: h.l) h.next).l i = some (some (bSeq l a')) := by simp only [qza, if_true]
    have hB' : qzv (VH.mk ((i, some (bSeq l a')) :: h.l) h.next).l bx = some (some (.cells [.int .i64 kind, x1, x2, x3, x4, x5, x6, x7, x8, x9, v] false)) := by simp only [qza, e1, if_false]; exact hB
    have hh' : ∀ k, k ≠ i → qzv (VH.mk ((i, some (bSeq l a')) :: h.l) h.next).l k = qzv h.l k := fun k q => by simp only [qza]; rw [if_neg (Ne.symm q)]
    rotate_left
    have q1 : ((kind : Int) == 2) = false := by simp; omega
    have ka : a' = a := by rw [← hka]; unfold kAt; rw [if_neg k2]
    have sb : false = b := by rw [← hsb]; unfold shutB'; simp [k2]
    simp only [qzA, qzj, xzD, qzn, qzD, qzX, qzw, qzo, qzi, xzh, qzY, qzf, qzd, qze, qzp, xzj, xzc, wpXG_false, xzw, xzN, xzQ, qzc, qzk, qzb, qzg, qzh, xzs, xzt, qzy, qzm, qzl, qzs, qza, qzr, qzu, qzx, xzl, qzI, qzL, qzC, qzB, cv, qzG, qzH, toA, ofA, FR.pop, abin, intBin, qzq, qzO, countN, xzG, xzP, xzT, xzH, xzO, yza, xzZ, ↓reduceIte, Option.getD_some, Option.isSome_some, List.getElem?_cons_zero, List.append_nil, List.contains_nil, Nat.reduceEqDiff, reduceCtorEq, Nat.add_zero, Nat.zero_add, and_self, and_true, true_and, Bool.and_self, Bool.not_false, Bool.false_eq_true, beq_true, decide_true, forall_const, false_implies, Bool.true_eq_false, reduceCtorEq, t0, t4, t6, t7, c1, hB, q1]
    rw [sb]
    have hs' := hs
    rw [← ka] at hs'
    have hB' := hB
    have hh' : ∀ k, k ≠ i → qzv h.l k = qzv h.l k := fun k q => rfl
    rotate_left
    all_goals
      refine call_shut1 (path_ok Gl l a' far b i hl (by omega) hf hb) hs' rfl ?_
      simp only [xzj, xzc, xzw, xzN, wpXA_n, xzQ, xzM, qzc, qzk, qzE, qzb, xzs, xzt, kXN_app, qzm, qzl, qzs, qza, qzr, qzu, qzI, qzL, qzC, xzk, xzA, qzS, qzB, cvs, cv, VN.at, VH.push, qzq, VV.cells, ntV, xzG, lowB, fzB, fzL, xzP, xzT, xzH, xzO, yza, xzZ, ↓reduceIte, Option.getD_some, Option.isSome_some, Option.map_some, List.getElem?_cons_zero, List.getElem?_cons_succ, List.length_cons, List.length_nil, List.drop_succ_cons, List.drop_zero, List.take_zero, List.append_nil, List.nil_append, List.cons_append, List.contains_cons, List.contains_nil, Nat.reduceAdd, Nat.reduceDiv, Nat.reduceLT, Nat.reduceEqDiff, Nat.reduceLeDiff, Nat.zero_add, and_self, true_and, Bool.and_self, Bool.or_false, Bool.or_true, Bool.not_false, decide_true, cSeq, bSeq, cPath, t6, hB, e1, e6, x1']
      refine wpW_acc (base := b1) (j := j) (f := cPath) (l := acc) (a := pathOf l a' far b) (ha.ext (by simp) (fun q1 q2 => ?_)) ?_ cPath_len (by omega) (by simp; omega) (by omega) (by omega) ?_
      · simp only [qza]
        (repeat rw [if_neg (by omega)])
      · simp only [qza, srcV, winV, qzq, ↓reduceIte, Option.getD_some, List.length_cons, List.length_nil, List.drop_zero, List.take_succ_cons, List.take_zero, Nat.reduceAdd, Nat.reduceMul, reduceCtorEq, Nat.reduceLeDiff, Nat.zero_add, true_or, reduceCtorEq, true_or, cPath] <;> first | rfl | exact ⟨rfl, rfl⟩ | exact qzt rfl
      · intro h2 g1 g2 g3
        have old : ∀ k, k < b1 → k ≠ i → qzv h2.l k = qzv h.l k := fun k hk hi => by
          rw [g2 k (by simp; omega) (ha.ne (.inl hk))]
          simp only [qza]
          (repeat rw [if_neg (by omega)])
        have o1 : qzv h2.l i = some (some (bSeq l (pathEnd l a'))) := by
          rw [g2 i (by simp; omega) (ha.ne (.inl hi1))]
          simp only [qza]
          simp only [if_neg (show ¬ h.next = i by omega), if_true]
        have o3 := (old bx (by omega) (by omega)).trans hB
        simp only at g1
        simp only [qzj, qzi, xzg, xzq, qzf, qzd, qze, qzp, xzE, xzj, xzc, xzw, xzQ, xzM, qzc, qzb, qzU, qzg, qzh, xzs, xzt, qzW, qzm, qzl, qzs, qza, qzr, qzu, qzx, qzI, qzS, xza, xzn, cv, qzG, qzH, toA, ofA, FR.pop, abin, intBin, VH.set, qzq, VV.cells, ntV, qzO, xzy, ↓reduceIte, Option.getD_some, Option.map_some, List.length_cons, List.length_nil, List.drop_succ_cons, List.drop_zero, List.take_succ_cons, List.take_zero, List.append_nil, List.nil_append, List.cons_append, List.head?_cons, Nat.reduceAdd, Nat.reduceEqDiff, Nat.reduceLeDiff, Nat.zero_add, and_self, t6, t7, o3, w]
        refine ih (pathEnd l a') (acc ++ [pathOf l a' far b]) _ _ _ _ ?_ ?_ (by simp; omega) (by have := pathEnd_le l a'; omega) ?_ u0 u4 u6 ?_ (g3.ext (Nat.le_refl _) (fun q1 q2 => ?_)) ?_ ?_ ?_ ?_
        · rw [hr, pathsS, List.append_assoc, hka, hsb]; rfl
        · rw [hae, pathsEnd, hka]
        · intro k q
          simp only [qza]
          (repeat rw [if_neg (by omega)])
          exact hT k q
        · simp only [qza, ↓reduceIte]
        · simp only [qza]; rw [if_neg (by omega)]
        · simp only [qza, e2, if_false]; exact o1
        · simp only [qza, if_true]
        · intro k q1 q2 q3
          simp only [qza]
          rw [if_neg (by omega), old k q1 q2, hh k q1 q2 q3]
        · show b1 ≤ h2.next; omega
end
end Go.VL.Mk
