import Derived.Test.YtbamfhdgikeneaaDoorMkA
import Derived.Test.YtbamfhdgikeneaaDoorWiA
import Derived.Test.YtbamfhdgikeneaaDoorErB
/- Paths. -/
namespace Go.VL.Mk
open Go.FR Go.IR Go.VL Go.VL.Color Go.VL.Wind Go.VL.Ic
noncomputable section
set_option linter.unusedSimpArgs false
set_option linter.unusedVariables false
set_option maxRecDepth 100000
set_option maxHeartbeats 1000000
local notation "EE" => Go.VL.Er.E

def segN (l : List Int) (a : Nat) : Nat := (nextS l a 3).toNat + 1
theorem segN_in (l : List Int) (a : Nat) : 1 ≤ segN l a ∧ segN l a ≤ 3 ∧ 1 + nextS l a 3 = (segN l a : Int) := by
  have := next_in l a 3 (by omega)
  unfold segN; omega
def segOf (l : List Int) (a : Nat) (far : Int) : Seg := segP l (a + 1) far (segN l a) (segN l a)
def segEnd (l : List Int) (a : Nat) : Nat := a + 1 + 3 * segN l a
def segsS (l : List Int) (far : Int) : Nat → Nat → List Seg
  | 0, _ => []
  | n + 1, a => segOf l a far :: segsS l far n (segEnd l a)
def segsEnd (l : List Int) : Nat → Nat → Nat
  | 0, a => a
  | n + 1, a => segsEnd l n (segEnd l a)
theorem segsS_len (l : List Int) (far : Int) : ∀ n a, (segsS l far n a).length = n
  | 0, a => rfl
  | n + 1, a => by rw [segsS, List.length_cons, segsS_len l far n]
theorem segsEnd_le (l : List Int) : ∀ n a, a ≤ segsEnd l n a ∧ segsEnd l n a ≤ a + 10 * n
  | 0, a => by simp [segsEnd]
  | n + 1, a => by
    have h1 := segsEnd_le l n (segEnd l a)
    have h2 := segN_in l a
    unfold segEnd at h1
    rw [segsEnd]; unfold segEnd; omega
theorem segs_loop (Gl : xzB) (l : List Int) (far : Int) (i nx : Nat) (hin : i < nx) (hl : l.length < 4611686018427387904) (hf : 0 ≤ far) (hb : far < 4611686018427387000) (p : Pt) (b : Bool) (z : List VV) (K : AEx → VF → VH → Prop) (r : List Seg) (ae : Nat)
    (hK : ∀ T h v j, qzB T 6 = some (.ptr nx 0) → qzB T 7 = some (.ptr (nx + 1) 0) → yza (nx + 2) h j cSeg r 7 v → qzB h.l i = some (some (bSeq l ae)) → qzB h.l nx = some (some (.cells z false)) → qzB h.l (nx + 1) = some (some (.cells [.int .i64 p.x, .int .i64 p.y, v, .bool b] false)) → nx + 2 ≤ h.next → K (.exit 0) T h) :
    ∀ (d a : Nat) (acc : List Seg) (T : VF) (h : VH) (v : VV) (j : Nat), r = acc ++ segsS l far d a → ae = segsEnd l d a → acc.length + d < 1000000 → a + 10 * d < 10000000 →
      qzB T 0 = some (.ptr i 0) → qzB T 1 = some (.int .i64 far) → qzB T 6 = some (.ptr nx 0) → qzB T 7 = some (.ptr (nx + 1) 0) → qzB T 8 = some (.int .i64 d) →
      yza (nx + 2) h j cSeg acc 7 v → qzB h.l i = some (some (bSeq l a)) → qzB h.l nx = some (some (.cells z false)) → qzB h.l (nx + 1) = some (some (.cells [.int .i64 p.x, .int .i64 p.y, v, .bool b] false)) → nx + 2 ≤ h.next →
    wp EE Gl (.loop c_glyphicmake_Path_l1) T h K := by
  intro d
  induction d with
  | zero =>
    intro a acc T h v j hr hae h1 h2 t0 t1 t6 t7 t8 ha hs hz hA hn
    refine xzy c_glyphicmake_Path_l1.eq_1 ?_
    have c1 : ¬ ((0 : Nat) : Int) > 0 := by omega
    simp only [qzz, qzp, qzq, qzF, xzh, qzw, qzn, qzj, xzn, xzi, qzf, qze, qzd, qzo, qzc, qzb, qzg, qzh, qzk, qzl, qzs, qza, qzr, qzu, qzy, cv, qzI, qzJ, toA, ofA, FR.pop, abin, intBin, ↓reduceIte, reduceCtorEq, true_and, Bool.false_eq_true, decide_false, forall_const, false_implies, reduceCtorEq, t8, c1]
    refine hK _ _ v j ?_ ?_ (by rw [hr, segsS, List.append_nil]; exact ha) (by rw [hae]; exact hs) hz hA hn
    · simp only [qza, ↓reduceIte, Nat.reduceEqDiff, t6]
    · simp only [qza, ↓reduceIte, Nat.reduceEqDiff, t7]
  | succ d ih =>
    intro a acc T h v j hr hae h1 h2 t0 t1 t6 t7 t8 ha hs hz hA hn
    refine xzy c_glyphicmake_Path_l1.eq_1 ?_
    have c1 : ((d + 1 : Nat) : Int) > 0 := by omega
    have w : IntKind.i64.wrap (((d + 1 : Nat) : Int) - 1) = (d : Int) := by rw [xzm (by omega) (by omega)]; omega
    obtain ⟨k1, k2, k3⟩ := segN_in l a
    have w2 : IntKind.i64.wrap (1 + nextS l a 3) = (segN l a : Int) := by rw [xzm (by omega) (by omega)]; omega
    have e1 : ¬ i = h.next := by omega
    have e2 : ¬ h.next = i := by omega
    have e3 : ¬ h.next = nx + 1 := by omega
    have e4 : ¬ i = nx + 1 := by omega
    have e5 : ¬ nx + 1 = h.next := by omega
    have e7 : ¬ nx + 1 = i := by omega
    simp only [qzz, qzp, qzq, qzF, xzh, qzw, qzn, qzj, xzn, xzi, qzf, qze, qzd, qzo, qzL, qzc, qzb, qzg, qzh, qzt, qzk, qzl, qzs, qza, qzr, qzu, qzy, cv, qzI, qzJ, toA, ofA, FR.pop, abin, intBin, ↓reduceIte, reduceCtorEq, and_true, decide_true, forall_const, false_implies, Bool.true_eq_false, reduceCtorEq, t0, t8, c1]
    refine xzC (next_ok Gl l a 3 i hl (by omega) (by omega) (by omega)) hs rfl rfl ?_
    simp only [qzp, qzq, qzF, qzj, qzf, qze, qzd, qzo, xzd, qzL, qzv, qzc, qzH, qzb, qzO, qzg, qzh, qzY, qzP, qzk, qzl, qzs, qza, qzr, qzu, qzy, xzk, xzu, xzw, qzX, qzS, xza, cvs, cv, qzI, qzJ, toA, ofA, FR.pop, abin, intBin, VN.at, VH.push, VH.set, qzi, VV.cells, ntV, qzQ, xzq, ↓reduceIte, Option.getD_some, List.length_cons, List.length_nil, List.drop_succ_cons, List.drop_zero, List.take_zero, List.append_nil, List.nil_append, List.cons_append, List.head?_cons, Nat.reduceAdd, Nat.reduceEqDiff, Nat.reduceLeDiff, Nat.zero_add, and_self, cSeq, bSeq, w2]
    refine pts_loop Gl l far i h.next (segN l a) (by omega) hl hf hb (a + 1) (by omega) (by omega) _ _ _ ?_ (segN l a) 0 _ _ (by omega) (fun _ _ _ => rfl) ?_ ?_ ?_ ?_ ?_ ?_ (fun _ _ _ => rfl) rfl
    · intro T' h' hT s1 s2 hh hx
      simp only at hx
      have oA : qzB h'.l (nx + 1) = some (some (.cells [.int .i64 p.x, .int .i64 p.y, v, .bool b] false)) := by
        rw [hh (nx + 1) (by omega) (by omega)]
        simp only [qza]
        rw [if_neg (by omega), if_neg (by omega), if_neg (by omega)]; exact hA
      have oz : qzB h'.l nx = some (some (.cells z false)) := by
        rw [hh nx (by omega) (by omega)]
        simp only [qza]
        rw [if_neg (by omega), if_neg (by omega), if_neg (by omega)]; exact hz
      have u7 : qzB T' 7 = some (.ptr (nx + 1) 0) := by rw [hT 7 (by omega) (by omega)]; simp only [qza, ↓reduceIte, Nat.reduceEqDiff, t7]
      have u9 : qzB T' 9 = some (.ptr h.next 0) := by rw [hT 9 (by omega) (by omega)]; simp only [qza, ↓reduceIte, Nat.reduceEqDiff]
      have u0 : qzB T' 0 = some (.ptr i 0) := by rw [hT 0 (by omega) (by omega)]; simp only [qza, ↓reduceIte, reduceCtorEq, reduceCtorEq, t0]
      have u1 : qzB T' 1 = some (.int .i64 far) := by rw [hT 1 (by omega) (by omega)]; simp only [qza, ↓reduceIte, Nat.reduceEqDiff, t1]
      have u6 : qzB T' 6 = some (.ptr nx 0) := by rw [hT 6 (by omega) (by omega)]; simp only [qza, ↓reduceIte, Nat.reduceEqDiff, t6]
      have u8 : qzB T' 8 = some (.int .i64 ((d + 1 : Nat) : Int)) := by rw [hT 8 (by omega) (by omega)]; simp only [qza, ↓reduceIte, Nat.reduceEqDiff, t8]
      have ex : (Seg.mk (segN l a : Int) (segP l (a + 1) far (segN l a) (segN l a)).p0 (segP l (a + 1) far (segN l a) (segN l a)).p1 (segP l (a + 1) far (segN l a) (segN l a)).p2) = segOf l a far := rfl
      simp only [qzp, qzj, xzH, qze, qzd, qzo, qzG, xzd, qzL, qzc, qzm, qzH, qzb, qzg, qzh, qzY, qzk, qzl, qzs, qza, qzr, qzu, qzK, qzN, qzD, xzk, xzw, qzX, qzE, cvs, cv, VN.at, VH.push, qzi, VV.cells, ntV, ↓reduceIte, Option.getD_some, List.getElem?_cons_zero, List.getElem?_cons_succ, List.length_cons, List.length_nil, List.drop_succ_cons, List.drop_zero, List.take_succ_cons, List.take_zero, List.append_nil, List.nil_append, Nat.reduceAdd, Nat.reduceDiv, Nat.reduceEqDiff, Nat.reduceLeDiff, Nat.zero_add, and_self, cSeg, u7, u9, oA, s2]
      refine wpW_acc (base := nx + 2) (j := j) (f := cSeg) (l := acc) (a := segOf l a far) (ha.ext (by simp; omega) (fun q1 q2 => ?_)) ?_ cSeg_len (by omega) (by simp; omega) (by omega) (by omega) ?_
      · simp only [qza]
        rw [if_neg (by omega), hh j (by omega) (by omega)]
        simp only [qza]
        rw [if_neg (by omega), if_neg (by omega), if_neg (by omega)]
      · simp only [qza, srcV, winV, qzi, ↓reduceIte, Option.getD_some, List.length_cons, List.length_nil, List.drop_zero, List.take_succ_cons, List.take_zero, Nat.reduceAdd, Nat.reduceMul, reduceCtorEq, Nat.reduceLeDiff, Nat.zero_add, true_or, reduceCtorEq, true_or, cSeg] <;> first | rfl | exact ⟨rfl, rfl⟩ | exact qzx rfl
      · intro h2 g1 g2 g3
        have old : ∀ k, k < nx + 2 → qzB h2.l k = qzB h'.l k := fun k hk => by
          rw [g2 k (by simp; omega) (ha.ne (.inl hk))]
          simp only [qza]
          rw [if_neg (by omega)]
        have o1 := (old i (by omega)).trans s1
        have o2 := (old nx (by omega)).trans oz
        have o3 := (old (nx + 1) (by omega)).trans oA
        simp only at g1
        simp only [qzp, qzj, qzZ, xzs, qzf, qze, qzd, qzo, qzL, qzv, qzc, qzb, qzO, qzg, qzh, qzP, qzk, qzl, qzs, qza, qzr, qzu, qzy, qzK, qzX, qzS, xza, cv, qzI, qzJ, toA, ofA, FR.pop, abin, intBin, VH.set, qzi, VV.cells, ntV, qzQ, xzq, ↓reduceIte, Option.getD_some, List.length_cons, List.length_nil, List.drop_succ_cons, List.drop_zero, List.take_succ_cons, List.take_zero, List.nil_append, List.cons_append, List.head?_cons, Nat.reduceAdd, Nat.reduceEqDiff, Nat.reduceLeDiff, Nat.zero_add, and_self, u7, u8, o3, w]
        refine ih (segEnd l a) (acc ++ [segOf l a far]) _ _ _ _ ?_ ?_ (by simp; omega) (by unfold segEnd; omega) ?_ ?_ ?_ ?_ ?_ (g3.ext (Nat.le_refl _) (fun q1 q2 => ?_)) ?_ ?_ ?_ ?_
        · rw [hr, segsS, List.append_assoc]; rfl
        · rw [hae]; rfl
        · simp only [qza, ↓reduceIte, reduceCtorEq, reduceCtorEq, u0]
        · simp only [qza, ↓reduceIte, Nat.reduceEqDiff, u1]
        · simp only [qza, ↓reduceIte, Nat.reduceEqDiff, u6]
        · simp only [qza, ↓reduceIte, Nat.reduceEqDiff, u7]
        · simp only [qza, ↓reduceIte]
        · simp only [qza]; rw [if_neg (by omega)]
        · simp only [qza, e7, if_false]; exact o1
        · simp only [qza]; rw [if_neg (by omega)]; exact o2
        · simp only [qza, if_true]
        · show nx + 2 ≤ h2.next; omega
    · simp only [qza, ↓reduceIte, reduceCtorEq, reduceCtorEq, t0]
    · simp only [qza, ↓reduceIte, Nat.reduceEqDiff, t1]
    · simp only [qza, ↓reduceIte, Nat.reduceEqDiff]
    · simp only [qza, ↓reduceIte]; rfl
    · simp only [qza, ↓reduceIte, Nat.reduceMul, Nat.add_zero, cSeq, bSeq, e2]
    · simp only [qza, ↓reduceIte, Nat.reduceLT, cSeg, segP, zP]
def pathN (l : List Int) (a : Nat) : Nat := (nextS l (a + 3) 4).toNat + 1
theorem pathN_in (l : List Int) (a : Nat) : 1 ≤ pathN l a ∧ pathN l a ≤ 4 ∧ 1 + nextS l (a + 3) 4 = (pathN l a : Int) := by
  have := next_in l (a + 3) 4 (by omega)
  unfold pathN; omega
def pathOf (l : List Int) (a : Nat) (far : Int) (b : Bool) : Path := ⟨insideS l a far, segsS l far (pathN l a) (a + 4), b⟩
def pathEnd (l : List Int) (a : Nat) : Nat := segsEnd l (pathN l a) (a + 4)
theorem pathEnd_le (l : List Int) (a : Nat) : a ≤ pathEnd l a ∧ pathEnd l a ≤ a + 44 := by
  have h1 := segsEnd_le l (pathN l a) (a + 4)
  have h2 := pathN_in l a
  unfold pathEnd; omega
theorem path_ok (Gl : xzB) (l : List Int) (a : Nat) (far : Int) (b : Bool) (i : Nat) (hl : l.length < 4611686018427387904) (ha : a < 1000000) (hf : 0 ≤ far) (hb : far < 4611686018427387000) :
    StShut EE Gl f_glyphicmake_Path [.ptr i 0, .int .i64 far, .bool b] [(i, bSeq l a)] (.agg (cPath (pathOf l a far b))) [(i, bSeq l (pathEnd l a))] := by
  refine shut1_intro fun nx hn => xzj E_glyphicmake_Path ?_
  unfold c_glyphicmake_Path r_glyphicmake_Path
  simp only [xzQ]
  obtain ⟨k1, k2, k3⟩ := pathN_in l a
  have w2 : IntKind.i64.wrap (1 + nextS l (a + 3) 4) = (pathN l a : Int) := by rw [xzm (by omega) (by omega)]; omega
  have e1 : ¬ nx = i := by omega
  have e2 : ¬ i = nx := by omega
  have e3 : ¬ nx + 1 = nx := by omega
  have e4 : ¬ nx = nx + 1 := by omega
  have e5 : ¬ nx + 1 = i := by omega
  have e6 : ¬ i = nx + 1 := by omega
  simp only [qzp, qzq, qzj, qzf, qze, qzd, qzo, xzd, qzL, qzc, qzH, qzb, qzg, qzh, qzY, qzt, qzk, qzl, qzs, qza, qzr, qzu, qzy, xzk, cvs, cv, VN.at, VH.push, ↓reduceIte, Nat.reduceAdd, Nat.reduceEqDiff, reduceCtorEq, Nat.zero_add, reduceCtorEq, cSeq, bSeq, cPath]
  refine xzC (inside_ok Gl l a far i hl (by omega) hf hb) (by simp only [qza, ↓reduceIte, cSeq, bSeq, e1]) rfl rfl ?_
  simp only [qzp, qzq, qzj, qzf, qze, qzd, qzo, xzd, qzL, qzv, qzc, qzH, qzb, qzO, qzg, qzh, qzY, qzP, qzt, qzk, qzl, qzs, qza, qzr, qzu, qzy, xzk, xzu, xzw, qzX, qzS, xza, cvs, cv, VN.at, VH.push, VH.set, qzi, VV.cells, ntV, qzQ, xzq, ↓reduceIte, Option.getD_some, List.length_cons, List.length_nil, List.drop_succ_cons, List.drop_zero, List.take_succ_cons, List.take_zero, List.append_nil, List.nil_append, List.cons_append, List.head?_cons, Nat.reduceAdd, Nat.reduceEqDiff, reduceCtorEq, Nat.reduceLeDiff, Nat.zero_add, and_self, reduceCtorEq, cSeq, bSeq, cPt]
  refine xzC (next_ok Gl l (a + 3) 4 i hl (by omega) (by omega) (by omega)) (by simp only [qza, ↓reduceIte, cSeq, bSeq, e5]) rfl rfl ?_
  simp only [qzF, qzj, qzf, qze, qzd, qzo, qzv, qzc, qzb, qzg, qzh, qzk, qzl, qzs, qza, qzr, qzu, qzy, cv, qzI, qzJ, toA, ofA, FR.pop, abin, intBin, ↓reduceIte, cSeq, bSeq, w2]
  refine segs_loop Gl l far i nx hn hl hf hb (insideS l a far) b [.int .i64 0, .int .i64 0, .nilS, .bool false] _ (segsS l far (pathN l a) (a + 4)) (pathEnd l a) ?_ (pathN l a) (a + 4) [] _ _ .nilS 0 rfl rfl (by simp; omega) (by omega) ?_ ?_ ?_ ?_ ?_ yza.nil ?_ ?_ ?_ ?_
  · intro T h v j t6 t7 hacc hs hz hA hnn
    have hne : segsS l far (pathN l a) (a + 4) ≠ [] := fun e => by
      have := segsS_len l far (pathN l a) (a + 4)
      rw [e] at this; simp at this; omega
    obtain ⟨rfl, b2, b3, b4⟩ := hacc.some hne
    have hlen := segsS_len l far (pathN l a) (a + 4)
    simp only [qzp, qzq, qzA, qzj, xzH, qzf, qze, qzd, qzG, qzL, qzv, qzC, qzm, qzb, qzO, qzg, qzh, qzP, qzk, qzl, qzs, qza, qzr, qzN, qzD, qzX, qzS, xza, qzE, VH.set, qzi, VV.cells, ntV, qzT, qzM, qzV, qzU, qzQ, xzq, ↓reduceIte, Option.getD_some, List.length_cons, List.length_nil, List.drop_succ_cons, List.drop_zero, List.take_succ_cons, List.take_zero, List.append_nil, List.nil_append, List.head?_cons, Nat.reduceAdd, Nat.reduceEqDiff, Nat.reduceLeDiff, Nat.zero_add, and_self, t6, t7, hA, hz, e1]
    refine ⟨xzT.agg (xzK.cons (xzT.closed rfl) (xzK.cons (xzT.closed rfl) (xzK.cons (xzT.acc (f' := cSeg) (l := segsS l far (pathN l a) (a + 4)) (.inr ⟨rfl, b2, b3, b4⟩) (fun _ x hx => ?_) cSeg_len (fun _ _ => xzK.closed rfl)) (xzK.cons (xzT.closed rfl) xzK.nil)))), ?_⟩
    · rw [qzi] at hx
      unfold above
      rw [if_pos (by omega), qzi]
      simp only [qza]
      rw [if_neg (by omega)]
      exact hx
    · simp only [cSeq, bSeq, hs]
  all_goals first | (simp only [qza, ↓reduceIte, Nat.reduceEqDiff, reduceCtorEq, Nat.reduceLeDiff, reduceCtorEq, cSeq, bSeq, e2, e3, e6]; done) | (simp only [Nat.reduceLeDiff]; rfl) | exact Nat.le_refl _
end
end Go.VL.Mk

/- Chapter 16: palettes. -/
namespace Go.VL.Pal
open Go.FR Go.IR Go.VL Go.VL.Color
noncomputable section
set_option linter.unusedSimpArgs false
set_option linter.unusedVariables false
set_option maxRecDepth 100000
set_option maxHeartbeats 1000000
abbrev E := lookE envL
theorem cCl_len (c : Cl) : (cCl c).length = 4 := rfl
def idxS : List Cl → Cl → Nat → Int
  | [], _, _ => -1
  | x :: l, c, k => if c = x then k else idxS l c (k + 1)

theorem index_loop (Gl : xzB) (c : Cl) (l : List Cl) (hl : l.length < 1000000) (r : Int) (K : AEx → VF → VH → Prop)
    (hK0 : ∀ T h, r = -1 → K (.exit 0) T h) (hK1 : ∀ T h, qzB T 4 = some (.int .i64 r) → K .ret T h) :
    ∀ (d i : Nat) (T : VF) (h : VH), d + i = l.length → idxS (l.drop i) c i = r → qzB T 0 = some (.fsl (xzL cCl l) l.length 4) → qzB T 3 = some (.ptr 0 0) → qzB T 7 = some (.int .i64 l.length) → qzB T 8 = some (.int .i64 i) → qzB h.l 0 = some (some (.cells (cCl c) false)) →
      wp E Gl (.loop c_slices_Index__api_Color_api_Color_l0) T h K := by
  intro d
  induction d with
  | zero =>
    intro i T h hd hr t0 t3 t7 t8 h0'
    obtain rfl : i = l.length := by omega
    refine xzy c_slices_Index__api_Color_api_Color_l0.eq_1 ?_
    simp only [qzz, qzp, xzx, qzq, qzF, xzh, qzw, qzn, qzj, xzn, xzi, qzf, qze, qzd, qzo, xzg, xzc, xzE, qzc, qzb, qzg, qzh, xzl, qzk, qzl, qzs, qza, qzr, qzu, qzy, qzN, qzD, qzE, qzI, qzJ, toA, ofA, FR.pop, abin, intBin, qzi, countN, xzz, xzD, xzS, xzA, xzF, xzX, xzW, ↓reduceIte, List.drop_zero, List.append_nil, List.contains_nil, Nat.reduceEqDiff, Nat.zero_add, and_true, true_and, Bool.and_self, Bool.and_true, Bool.not_false, Bool.false_eq_true, decide_false, forall_const, false_implies, t3, t7, t8, Int.lt_irrefl]
    refine hK0 _ _ ?_
    rw [← hr, List.drop_length]; rfl
  | succ d ih =>
    intro i T h hd hr t0 t3 t7 t8 h0'
    refine xzy c_slices_Index__api_Color_api_Color_l0.eq_1 ?_
    have hlt : i < l.length := by omega
    have c1 : (i : Int) < l.length := by omega
    obtain ⟨x, hx⟩ : ∃ x, l[i]? = some x := ⟨l[i], List.getElem?_eq_getElem hlt⟩
    have p1 := flat_le cCl_len hx
    have p2 := flat_at cCl_len hx
    have w : IntKind.i64.wrap ((i : Int) + 1) = ((i + 1 : Nat) : Int) := by rw [xzm (by omega) (by omega)]; rfl
    rw [drop_at hx, idxS] at hr
    have b : ∀ x y : Nat, ((x : Int) == (y : Int)) = decide (x = y) := fun x y => by
      by_cases e : x = y <;> simp [e] <;> omega
    by_cases e : c = x
    · rw [if_pos e] at hr
      subst e
      simp only [qzz, qzp, xzx, qzq, qzF, xzh, qzA, qzw, qzn, qzj, xzn, qzR, qzZ, xze, xzs, xzi, xzG, qzf, qze, qzd, qzo, xzU, xzg, xzc, xzv, xzE, qzc, qzm, qzb, qzg, qzh, xzl, xzo, qzk, qzl, qzs, qza, qzr, qzu, qzy, xzf, qzN, qzD, xzI, xzJ, yzg, yze, eqInt, qzE, cv, qzI, qzJ, toA, ofA, FR.pop, abin, intBin, qzi, countN, xzz, xzD, xzS, xzA, xzF, xzX, xzW, xzN, ↓reduceIte, Option.getD_some, Option.isSome_some, List.getElem?_cons_zero, List.getElem?_cons_succ, List.length_cons, List.length_nil, List.drop_zero, List.take_succ_cons, List.take_zero, List.append_nil, List.contains_nil, Nat.reduceAdd, Nat.reduceEqDiff, reduceCtorEq, Nat.reduceLeDiff, Nat.zero_add, and_self, and_true, true_and, Bool.and_self, Bool.not_false, Bool.false_eq_true, beq_self_eq_true, decide_true, forall_const, false_implies, Bool.true_eq_false, reduceCtorEq, cCl, t0, t3, t7, t8, c1, hlt, p1, p2, h0']
      refine hK1 _ _ ?_
      simp only [qza, ↓reduceIte, hr]
    · rw [if_neg e] at hr
      have ne : ¬ (c.r = x.r ∧ c.g = x.g ∧ c.b = x.b ∧ c.a = x.a) := fun h => e (by cases c; cases x; simp at h; simp [h])
      by_cases e1 : c.r = x.r <;> by_cases e2 : c.g = x.g <;> by_cases e3 : c.b = x.b <;> by_cases e4 : c.a = x.a
      · exact absurd ⟨e1, e2, e3, e4⟩ ne
      all_goals
        simp only [qzz, qzp, xzx, qzq, qzF, xzh, qzA, qzw, qzn, qzj, xzn, qzR, qzZ, xze, xzs, xzi, xzG, qzf, qze, qzd, qzo, xzU, xzg, xzc, xzv, xzE, qzc, qzm, qzb, qzg, qzh, xzl, xzo, qzk, qzl, qzs, qza, qzr, qzu, qzy, xzf, qzN, qzD, xzI, xzJ, yzg, yze, eqInt, qzE, cv, qzI, qzJ, toA, ofA, FR.pop, abin, intBin, qzi, countN, xzz, xzD, xzS, xzA, xzF, xzX, xzW, xzN, ↓reduceIte, Option.getD_some, Option.isSome_some, List.getElem?_cons_zero, List.getElem?_cons_succ, List.length_cons, List.length_nil, List.drop_zero, List.take_succ_cons, List.take_zero, List.append_nil, List.contains_nil, Nat.reduceAdd, Nat.reduceEqDiff, reduceCtorEq, Nat.reduceLeDiff, Nat.zero_add, and_self, and_true, true_and, Bool.and_self, Bool.not_false, Bool.false_eq_true, beq_self_eq_true, decide_true, decide_false, forall_const, false_implies, Bool.true_eq_false, reduceCtorEq, cCl, t0, t3, t7, t8, c1, hlt, p1, p2, h0', b, e1, e2, e3, e4, w]
        refine ih (i + 1) _ _ (by omega) hr ?_ ?_ ?_ ?_ h0'
        · simp only [qza, ↓reduceIte, reduceCtorEq, reduceCtorEq, t0]
        · simp only [qza, ↓reduceIte, Nat.reduceEqDiff, t3]
        · simp only [qza, ↓reduceIte, Nat.reduceEqDiff, t7]
        · simp only [qza, ↓reduceIte]

theorem index_ok (Gl : xzB) (c : Cl) (l : List Cl) (hl : l.length < 1000000) : xzR E Gl f_slices_Index__api_Color_api_Color [.fsl (xzL cCl l) l.length 4, .agg (cCl c)] (.int .i64 (idxS l c 0)) := by
  refine xzt (xzj E_slices_Index__api_Color_api_Color ?_)
  unfold c_slices_Index__api_Color_api_Color r_slices_Index__api_Color_api_Color
  simp only [xzQ]
  simp only [qzp, qzq, qzF, qzj, qzf, qze, qzd, qzo, xzd, qzc, qzH, qzb, qzg, qzh, qzY, qzk, qzl, qzs, qza, qzr, qzu, qzy, xzr, xzk, yzc, cv, VN.at, VH.push, h0, VV.cells, ntV, ↓reduceIte, reduceCtorEq, Nat.zero_add, reduceCtorEq, cCl]
  refine index_loop Gl c l hl (idxS l c 0) _ ?_ ?_ l.length 0 _ _ (by omega) rfl ?_ ?_ ?_ ?_ ?_
  · intro T h e
    simp only [qzp, qzq, qzA, qzj, xzH, qzf, qze, qzd, qzo, qzC, qzc, qzb, qzg, qzh, qzk, qzl, qzs, qza, qzr, qzu, qzy, cv, qzT, qzM, qzV, qzU, ↓reduceIte, e]
    exact qzx rfl
  · intro T h t4
    simp only [qzR, xze, qzC, qzT, qzM, qzV, qzU, t4]
    exact qzx rfl
  all_goals simp only [qza, ↓reduceIte, Nat.reduceEqDiff, reduceCtorEq, reduceCtorEq, cCl]
  rfl

theorem wpW_app0 {E : Env} {Gl : xzB} {h : VH} {K : VV → VH → Option (List Nat × Bool) → Prop} {esz eb n : Nat} {v x : VV} {cs : List VV} (hs : srcV h esz x = some (0, cs)) (hn : lenOfV v = some n) (hk : K v h (some (xzq (some v), true))) : wpW E Gl (.append esz eb) [v, x] h K := by
  rw [wpW_append]
  simp only [appendV, hs, hn, optW]
  exact hk
theorem acc_shut {α : Type} {base : Nat} {h : VH} {j : Nat} {f : α → List VV} {l : List α} {esz : Nat} {v : VV} (a : yza base h j f l esz v) (hf : ∀ a, (f a).length = esz) (hc : ∀ a, closedL (f a) = true) : ∃ a0, shut h v = some a0 ∧ subV a0 (.fsl (xzL f l) l.length esz) := by
  rcases a with ⟨rfl, rfl⟩ | ⟨rfl, a3, a4, a5⟩
  · exact ⟨.nilS, rfl, .inr ⟨esz, rfl⟩⟩
  · have hcl := closedL_flat hc l
    obtain ⟨h1, h2⟩ := flat_all hf l
    refine ⟨.fsl (xzL f l) l.length esz, ?_, subV_refl _⟩
    simp only [shut, qzi, a3, Option.getD_some, hcl, Nat.zero_add, h1, capOK, List.drop_zero, h2, and_self, if_true]

/-- What a call leaves of the caller's blocks, but one list. -/
def Fr (h h' : VH) : Prop := (∀ k, k < h.next → qzB h'.l k = qzB h.l k) ∧ h.next ≤ h'.next

def addL (l : List Cl) (c : Cl) : List Cl := if 0 ≤ idxS l c 0 then l else if 256 ≤ l.length then l else l ++ [c]
def addK (l : List Cl) (c : Cl) : Int := if 0 ≤ idxS l c 0 then idxS l c 0 else if 256 ≤ l.length then -1 else l.length
def addB (l : List Cl) (c : Cl) : Bool := if 0 ≤ idxS l c 0 then true else if 256 ≤ l.length then false else true

theorem idx_two {c d : Cl} (h : c ≠ d) : idxS [c] d 0 < 0 ∧ idxS [c, d] d 0 = 1 := by
  have h' : ¬ d = c := fun e => h e.symm
  simp [idxS, h']
theorem wrap_by (a b : Nat) : IntKind.u8.wrap ((a : Int) + (b : Int)) = (((a + b) % 256 : Nat) : Int) := by
  show ((a : Int) + b) % 256 = _
  omega
end
end Go.VL.Pal

/- Chapter 16: colors of few; the document's own search. -/
namespace Go.VL.Pal
open Go.FR Go.IR Go.VL Go.VL.Color Go.VL.Wind
noncomputable section
set_option linter.unusedSimpArgs false
set_option linter.unusedVariables false
set_option maxRecDepth 100000
set_option maxHeartbeats 1000000

def colT : List Cl := [⟨255, 0, 0, 255⟩, ⟨0, 128, 0, 255⟩, ⟨0, 0, 200, 100⟩, ⟨10, 20, 30, 1⟩, ⟨255, 255, 255, 255⟩, ⟨0, 0, 0, 0⟩, ⟨7, 0, 0, 254⟩]
def colS (l : List Int) (at_ : Nat) : Cl := colT.getD (nextS l at_ 7).toNat ⟨0, 0, 0, 0⟩
theorem colT_at (k : Nat) (h : k < 7) : colT[k]? = some (colT.getD k ⟨0, 0, 0, 0⟩) := by
  rw [List.getD_eq_getElem?_getD, List.getElem?_eq_getElem (by simpa [colT] using h)]; rfl
theorem colS_mem (l : List Int) (at_ : Nat) : colS l at_ ∈ colT := by
  have n1 := next_in l at_ 7 (by omega)
  exact List.mem_of_getElem? (colT_at _ (by omega))

theorem color_ok (Gl : xzB) (l : List Int) (at_ : Nat) (i : Nat) (hl : l.length < 4611686018427387904) (ha : at_ < 1000000) :
    StOk Go.VL.Pal.E Gl f_glyphicmake_Color [.ptr i 0] [(i, bSeq l at_)] (.agg (cCl (colS l at_))) [(i, bSeq l (at_ + 1))] := by
  refine st1_intro fun nx hn => xzj E_glyphicmake_Color ?_
  unfold c_glyphicmake_Color r_glyphicmake_Color
  simp only [xzQ]
  have e1 : ¬ nx = i := by omega
  have e2 : ¬ i = nx := by omega
  have e3 : ¬ nx + 1 = i := by omega
  have e4 : ¬ i = nx + 1 := by omega
  have e5 : ¬ nx = nx + 1 := by omega
  have e6 : ¬ nx + 1 = nx := by omega
  have n1 := next_in l at_ 7 (by omega)
  obtain ⟨k, hk⟩ : ∃ k : Nat, nextS l at_ 7 = k := ⟨(nextS l at_ 7).toNat, by omega⟩
  have hk7 : k < 7 := by omega
  have hc : colS l at_ = colT.getD k ⟨0, 0, 0, 0⟩ := by unfold colS; rw [hk, Int.toNat_natCast]
  have p1 := flat_le cCl_len (colT_at k hk7)
  have p2 := flat_at cCl_len (colT_at k hk7)
  simp only [qzp, qzq, qzj, qzf, qze, qzd, qzo, xzd, qzL, qzc, qzH, qzb, qzg, qzh, qzY, qzt, qzk, qzl, qzs, qza, qzr, qzu, qzy, xzk, xzu, xzw, qzX, cvs, cv, VN.at, VH.push, VV.cells, ntV, ↓reduceIte, List.length_cons, List.length_nil, List.drop_succ_cons, List.drop_zero, List.take_succ_cons, List.take_zero, List.append_nil, List.nil_append, List.cons_append, Nat.reduceAdd, Nat.reduceDiv, Nat.reduceEqDiff, reduceCtorEq, Nat.reduceLeDiff, Nat.zero_add, and_self, reduceCtorEq, cCl]
  have tab : [VV.int .u8 255, VV.int .u8 0, VV.int .u8 0, VV.int .u8 255, VV.int .u8 0, VV.int .u8 128, VV.int .u8 0, VV.int .u8 255, VV.int .u8 0, VV.int .u8 0, VV.int .u8 200, VV.int .u8 100, VV.int .u8 10, VV.int .u8 20, VV.int .u8 30, VV.int .u8 1, VV.int .u8 255, VV.int .u8 255, VV.int .u8 255, VV.int .u8 255, VV.int .u8 0, VV.int .u8 0, VV.int .u8 0, VV.int .u8 0, VV.int .u8 7, VV.int .u8 0, VV.int .u8 0, VV.int .u8 254] = xzL cCl colT := rfl
  rw [tab]
  refine xzC (next_ok Gl l at_ 7 i hl (by omega) (by omega) (by omega)) (by simp only [qza, ↓reduceIte, e1, e3]) rfl rfl ?_
  rw [hk, hc]
  simp only [qzA, qzj, qzf, qze, qzd, qzo, qzG, qzL, qzv, qzC, qzc, qzm, qzb, qzO, qzg, qzh, qzP, qzk, qzl, qzs, qza, qzr, qzu, xzf, qzN, qzD, qzX, qzS, xza, qzE, VH.set, qzi, VV.cells, ntV, qzT, qzM, qzV, qzU, qzQ, xzq, xzN, ↓reduceIte, Option.getD_some, List.length_cons, List.length_nil, List.drop_succ_cons, List.drop_zero, List.take_succ_cons, List.take_zero, List.append_nil, List.nil_append, List.head?_cons, Nat.reduceAdd, Nat.reduceEqDiff, Nat.reduceLeDiff, Nat.zero_add, and_self, cCl, e1, e2, e4, e6, hk7, p1, p2]

theorem find_loop (Gl : xzB) (c : Cl) (l : List Cl) (hl : l.length < 1000000) (r : Int) (K : AEx → VF → VH → Prop)
    (hK0 : ∀ T h, r = -1 → K (.exit 0) T h) (hK1 : ∀ T h, qzB T 4 = some (.int .i64 r) → K .ret T h) :
    ∀ (d i : Nat) (T : VF) (h : VH), d + i = l.length → idxS (l.drop i) c i = r → qzB T 0 = some (.fsl (xzL cCl l) l.length 4) → qzB T 3 = some (.ptr 0 0) → qzB T 5 = some (.int .i64 i) → qzB h.l 0 = some (some (.cells (cCl c) false)) →
      wp Go.VL.Pal.E Gl (.loop c_glyphicref12_Find_l0) T h K := by
  intro d
  induction d with
  | zero =>
    intro i T h hd hr t0 t3 t5 h0'
    obtain rfl : i = l.length := by omega
    refine xzy c_glyphicref12_Find_l0.eq_1 ?_
    simp only [qzz, qzp, xzx, qzq, qzF, xzh, qzw, qzn, qzj, xzn, xzi, qzf, qze, qzd, qzo, xzg, xzc, xzv, qzc, qzb, qzg, qzh, xzl, xzo, qzk, qzl, qzs, qza, qzr, qzu, qzy, xzf, xzr, qzI, qzJ, toA, ofA, FR.pop, abin, intBin, countN, xzN, ↓reduceIte, Nat.reduceEqDiff, reduceCtorEq, true_and, Bool.false_eq_true, decide_false, forall_const, false_implies, reduceCtorEq, t0, t5, Int.lt_irrefl]
    refine hK0 _ _ ?_
    rw [← hr, List.drop_length]; rfl
  | succ d ih =>
    intro i T h hd hr t0 t3 t5 h0'
    refine xzy c_glyphicref12_Find_l0.eq_1 ?_
    have hlt : i < l.length := by omega
    have c1 : (i : Int) < l.length := by omega
    obtain ⟨x, hx⟩ : ∃ x, l[i]? = some x := ⟨l[i], List.getElem?_eq_getElem hlt⟩
    have p1 := flat_le cCl_len hx
    have p2 := flat_at cCl_len hx
    have w : IntKind.i64.wrap ((i : Int) + 1) = ((i + 1 : Nat) : Int) := by rw [xzm (by omega) (by omega)]; rfl
    rw [drop_at hx, idxS] at hr
    simp only [qzz, qzp, xzx, qzq, qzF, xzh, qzw, qzn, qzj, xzn, xzi, qzf, qze, qzd, qzo, xzg, xzc, xzv, xzE, xzM, qzc, qzm, qzb, qzg, qzh, xzl, xzo, qzt, qzk, qzl, qzs, qza, qzr, qzu, qzy, xzf, xzr, qzN, qzD, qzE, qzI, qzJ, toA, ofA, FR.pop, abin, intBin, qzi, countN, xzz, xzD, xzS, xzA, xzF, xzX, xzW, xzN, ↓reduceIte, Option.getD_some, Option.isSome_some, List.length_cons, List.length_nil, List.drop_zero, List.take_succ_cons, List.take_zero, List.append_nil, List.contains_nil, Nat.reduceAdd, Nat.reduceEqDiff, reduceCtorEq, Nat.reduceLeDiff, Nat.zero_add, and_self, and_true, true_and, Bool.and_self, Bool.not_false, decide_true, forall_const, false_implies, Bool.true_eq_false, reduceCtorEq, cCl, t0, t3, t5, c1, hlt, p1, p2, h0']
    refine qzW (same_ok Gl x c) rfl rfl ?_
    by_cases e : c = x
    · rw [if_pos e] at hr
      subst e
      have de : decide (c = c) = true := by simp
      simp only [qzz, qzp, qzq, qzA, qzw, qzn, qzj, qzR, qzZ, xze, xzs, xzG, qzf, qze, qzd, qzo, xzU, yzd, qzc, qzb, qzg, qzh, qzk, qzl, qzs, qza, qzr, qzu, qzy, cv, qzI, qzJ, toA, ofA, FR.pop, abin, intBin, ↓reduceIte, Option.map_some, List.append_nil, Nat.reduceEqDiff, and_true, decide_true, forall_const, false_implies, Bool.true_eq_false, t5]
      refine hK1 _ _ ?_
      simp only [qza, ↓reduceIte, hr]
    · rw [if_neg e] at hr
      have de : decide (x = c) = false := by simp; exact fun q => e q.symm
      simp only [qzz, qzp, qzq, qzA, qzw, qzn, qzj, qzR, qzZ, xze, xzs, xzG, qzf, qze, qzd, qzo, xzU, yzd, qzc, qzb, qzg, qzh, qzk, qzl, qzs, qza, qzr, qzu, qzy, cv, qzI, qzJ, toA, ofA, FR.pop, abin, intBin, ↓reduceIte, Option.map_some, List.append_nil, Nat.reduceEqDiff, true_and, Bool.false_eq_true, forall_const, false_implies, t5, de, w]
      refine ih (i + 1) _ _ (by omega) hr ?_ ?_ ?_ h0'
      · simp only [qza, ↓reduceIte, reduceCtorEq, reduceCtorEq, t0]
      · simp only [qza, ↓reduceIte, Nat.reduceEqDiff, t3]
      · simp only [qza, ↓reduceIte]

theorem refFind_ok (Gl : xzB) (c : Cl) (l : List Cl) (hl : l.length < 1000000) : xzR Go.VL.Pal.E Gl f_glyphicref12_Find [.fsl (xzL cCl l) l.length 4, .agg (cCl c)] (.int .i64 (idxS l c 0)) := by
  refine xzt (xzj E_glyphicref12_Find ?_)
  unfold c_glyphicref12_Find r_glyphicref12_Find
  simp only [xzQ]
  simp only [qzp, qzq, qzF, qzj, qzf, qze, qzd, qzo, xzd, qzc, qzH, qzb, qzg, qzh, qzY, qzk, qzl, qzs, qza, qzr, qzu, qzy, xzk, yzc, cv, VN.at, VH.push, h0, VV.cells, ntV, ↓reduceIte, reduceCtorEq, Nat.zero_add, reduceCtorEq, cCl]
  refine find_loop Gl c l hl (idxS l c 0) _ ?_ ?_ l.length 0 _ _ (by omega) rfl ?_ ?_ ?_ ?_
  · intro T h e
    simp only [qzp, qzq, qzA, qzj, xzH, qzf, qze, qzd, qzo, qzC, qzc, qzb, qzg, qzh, qzk, qzl, qzs, qza, qzr, qzu, qzy, cv, qzT, qzM, qzV, qzU, ↓reduceIte, e]
    exact qzx rfl
  · intro T h t4
    simp only [qzR, xze, qzC, qzT, qzM, qzV, qzU, t4]
    exact qzx rfl
  all_goals simp only [qza, ↓reduceIte, Nat.reduceEqDiff, reduceCtorEq, reduceCtorEq, cCl]
  rfl

theorem sames_loop (Gl : xzB) (a b : List Cl) (hl : a.length < 1000000) (hab : a.length = b.length) (K : AEx → VF → VH → Prop)
    (hK0 : ∀ T h, a = b → K (.exit 0) T h) (hK1 : ∀ T h, a ≠ b → qzB T 4 = some (.bool false) → K .ret T h) :
    ∀ (d i : Nat) (T : VF) (h : VH), d + i = a.length → a.take i = b.take i → qzB T 0 = some (.fsl (xzL cCl a) a.length 4) → qzB T 1 = some (.fsl (xzL cCl b) b.length 4) → qzB T 5 = some (.int .i64 i) →
      wp Go.VL.Pal.E Gl (.loop c_glyphicref_SameColors_l0) T h K := by
  intro d
  induction d with
  | zero =>
    intro i T h hd hr t0 t1 t5
    obtain rfl : i = a.length := by omega
    refine xzy c_glyphicref_SameColors_l0.eq_1 ?_
    simp only [qzz, qzp, xzx, qzq, qzF, xzh, qzw, qzn, qzj, xzn, xzi, qzf, qze, qzd, qzo, xzg, xzc, xzv, qzc, qzb, qzg, qzh, xzl, xzo, qzk, qzl, qzs, qza, qzr, qzu, qzy, xzf, xzr, qzI, qzJ, toA, ofA, FR.pop, abin, intBin, countN, xzN, ↓reduceIte, Nat.reduceEqDiff, reduceCtorEq, true_and, Bool.false_eq_true, decide_false, forall_const, false_implies, reduceCtorEq, t0, t5, Int.lt_irrefl]
    refine hK0 _ _ ?_
    rw [List.take_length, hab, List.take_length] at hr
    exact hr
  | succ d ih =>
    intro i T h hd hr t0 t1 t5
    refine xzy c_glyphicref_SameColors_l0.eq_1 ?_
    have hlt : i < a.length := by omega
    have hlt' : i < b.length := by omega
    have c1 : (i : Int) < a.length := by omega
    obtain ⟨x, hx⟩ : ∃ x, a[i]? = some x := ⟨a[i], List.getElem?_eq_getElem hlt⟩
    obtain ⟨y, hy⟩ : ∃ y, b[i]? = some y := ⟨b[i], List.getElem?_eq_getElem hlt'⟩
    have p1 := flat_le cCl_len hx
    have p2 := flat_at cCl_len hx
    have p3 := flat_le cCl_len hy
    have p4 := flat_at cCl_len hy
    have w : IntKind.i64.wrap ((i : Int) + 1) = ((i + 1 : Nat) : Int) := by rw [xzm (by omega) (by omega)]; rfl
    simp only [qzz, qzp, xzx, qzq, qzF, xzh, qzw, qzn, qzj, xzn, xzi, qzf, qze, qzd, qzo, xzg, xzc, xzv, xzE, xzM, qzc, qzm, qzb, qzg, qzh, xzl, xzo, qzt, qzk, qzl, qzs, qza, qzr, qzu, qzy, xzf, xzr, qzN, qzD, qzE, qzI, qzJ, toA, ofA, FR.pop, abin, intBin, countN, xzz, xzD, xzS, xzA, xzF, xzX, xzW, xzN, ↓reduceIte, List.append_nil, Nat.reduceEqDiff, reduceCtorEq, and_self, and_true, true_and, Bool.and_self, decide_true, forall_const, false_implies, Bool.true_eq_false, reduceCtorEq, cCl, t0, t1, t5, c1, hlt, hlt', p1, p2, p3, p4]
    refine qzW (same_ok Gl x y) rfl rfl ?_
    by_cases e : x = y
    · subst e
      have de : decide (x = x) = true := by simp
      simp only [qzz, qzp, qzq, qzA, qzw, qzn, qzj, qzR, qzZ, xze, xzs, xzG, qzf, qze, qzd, qzo, xzU, xzg, xzc, xzv, yzd, qzc, qzb, qzg, qzh, xzl, xzo, qzk, qzl, qzs, qza, qzr, qzu, qzy, cv, qzI, qzJ, toA, ofA, FR.pop, abin, aun, intBin, ↓reduceIte, Option.map_some, List.append_nil, Nat.reduceEqDiff, true_and, Bool.not_true, Bool.false_eq_true, decide_true, forall_const, false_implies, t5, w]
      refine ih (i + 1) _ _ (by omega) (by rw [take_at hx, take_at hy, hr]) ?_ ?_ ?_
      · simp only [qza, ↓reduceIte, reduceCtorEq, reduceCtorEq, t0]
      · simp only [qza, ↓reduceIte, Nat.reduceEqDiff, t1]
      · simp only [qza, ↓reduceIte]
    · have de : decide (x = y) = false := by simp [e]
      simp only [qzz, qzp, qzq, qzA, qzw, qzn, qzj, qzR, qzZ, xze, xzs, xzG, qzf, qze, qzd, qzo, xzU, xzg, xzc, xzv, yzd, qzc, qzb, qzg, qzh, xzl, xzo, qzk, qzl, qzs, qza, qzr, qzu, qzy, cv, qzI, qzJ, toA, ofA, FR.pop, abin, aun, intBin, ↓reduceIte, Option.map_some, List.append_nil, Nat.reduceEqDiff, and_true, Bool.not_false, forall_const, false_implies, Bool.true_eq_false, t5, de]
      refine hK1 _ _ (fun q => e ?_) ?_
      · rw [q, hy] at hx; exact (Option.some.inj hx).symm
      · simp only [qza, ↓reduceIte]

theorem sames_ok (Gl : xzB) (a b : List Cl) (hl : a.length < 1000000) : xzR Go.VL.Pal.E Gl f_glyphicref_SameColors [.fsl (xzL cCl a) a.length 4, .fsl (xzL cCl b) b.length 4] (.bool (decide (a = b))) := by
  refine xzt (xzj E_glyphicref_SameColors ?_)
  unfold c_glyphicref_SameColors r_glyphicref_SameColors
  simp only [xzQ]
  by_cases hab : a.length = b.length
  · have h1 : ((a.length : Int) != (b.length : Int)) = false := by simp [hab]
    simp only [qzz, qzp, qzq, qzF, qzA, qzw, qzn, qzj, qzR, qzf, qze, qzd, qzo, qzC, qzc, qzb, qzg, qzh, qzk, qzl, qzs, qza, qzr, qzu, qzy, xzr, cv, qzI, qzJ, toA, ofA, FR.pop, abin, intBin, h0, qzT, qzM, qzV, qzU, ↓reduceIte, Nat.reduceEqDiff, reduceCtorEq, Nat.zero_add, true_and, Bool.false_eq_true, forall_const, false_implies, reduceCtorEq, h1]
    refine sames_loop Gl a b hl hab _ ?_ ?_ a.length 0 _ _ (by omega) rfl ?_ ?_ ?_
    · intro T h e
      simp only [qzp, qzq, qzA, qzj, xzH, qzf, qze, qzd, qzo, qzC, qzc, qzb, qzg, qzh, qzk, qzl, qzs, qza, qzr, qzu, qzy, cv, qzT, qzM, qzV, qzU, ↓reduceIte, decide_true, e]
      first | exact qzx rfl | (subst e; simp only [decide_true]; exact qzx rfl)
    · intro T h e t4
      simp only [qzR, xze, qzC, qzT, qzM, qzV, qzU, decide_false, t4, e]
      exact qzx rfl
    all_goals simp only [qza, ↓reduceIte, Nat.reduceEqDiff, reduceCtorEq, reduceCtorEq]
    rfl
  · have h1 : ((a.length : Int) != (b.length : Int)) = true := by simp; omega
    have e : a ≠ b := fun q => hab (by rw [q])
    simp only [qzz, qzp, qzq, qzF, qzA, qzw, qzn, qzj, qzR, qzf, qze, qzd, qzo, qzC, qzc, qzb, qzg, qzh, qzk, qzl, qzs, qza, qzr, qzu, qzy, xzr, cv, qzI, qzJ, toA, ofA, FR.pop, abin, intBin, h0, qzT, qzM, qzV, qzU, ↓reduceIte, Nat.reduceEqDiff, reduceCtorEq, Nat.zero_add, and_true, decide_false, forall_const, false_implies, Bool.true_eq_false, reduceCtorEq, h1, e]
    exact qzx rfl
end
end Go.VL.Pal
