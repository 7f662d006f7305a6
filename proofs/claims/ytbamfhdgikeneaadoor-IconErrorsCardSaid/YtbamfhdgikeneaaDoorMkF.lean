/- An icon. -/
import Derived.Test.YtbamfhdgikeneaaDoorMkE
namespace Go.VL.Mk
open Go.FR Go.IR Go.VL Go.VL.Color Go.VL.Wind Go.VL.Ic
noncomputable section
set_option linter.unusedSimpArgs false
set_option linter.unusedVariables false
set_option maxRecDepth 100000
set_option maxHeartbeats 1000000

def runS (l : List Int) (far : Int) : Nat → Nat → List Cl → List Cmd × List Cl × Nat
  | 0, a, cs => ([], cs, a)
  | n + 1, a, cs => if a < l.length then (cmdOf l far a cs :: (runS l far n (cmdEnd l a) (colsOf l a cs)).1, (runS l far n (cmdEnd l a) (colsOf l a cs)).2) else ([], cs, a)
theorem cmds_loop (Gl : xzB) (l : List Int) (far : Int) (i r0 b0 base : Nat) (hl : l.length < 4611686018427387904) (hf : 0 < far) (hb : far < 1000000) (hi0 : i ≠ b0) (hi1 : i < base) (hb0 : b0 < base) (hr0 : r0 < base) (hri : r0 ≠ i) (hrb : r0 ≠ b0) (W H S : VV) (zr : Option (Option VB)) (R : List Cmd × List Cl × Nat) (K : AEx → VF → VH → Prop)
    (hK : ∀ T h v vc j j2 L, L.map Prod.fst = R.1 → qzA T 2 = some (.ptr r0 0) → qzA T 3 = some (.ptr b0 0) → qzA h.l i = some (some (bSeq l R.2.2)) → qzA h.l b0 = some (some (.cells [W, H, S, v, vc] false)) → yza base h j cCl R.2.1 4 v → yza base h j2 fO L 11 vc → Lies base h j j2 v vc L → base ≤ h.next → qzA h.l r0 = zr → K (.exit 0) T h) :
    ∀ (n a : Nat) (cs : List Cl) (L : List (Cmd × Nat)) (T : VF) (h : VH) (v vc : VV) (j j2 : Nat), R = (L.map Prod.fst ++ (runS l far n a cs).1, (runS l far n a cs).2) → a + 150 * n + 200 < 1000000 → cs.length + 2 * n < 90000 → L.length + n < 90000 → n < 1000 →
      qzA T 0 = some (.ptr i 0) → qzA T 2 = some (.ptr r0 0) → qzA T 3 = some (.ptr b0 0) → qzA T 4 = some (.int .i64 far) → qzA T 5 = some (.int .i64 ((n : Int) - 1)) →
      qzA h.l i = some (some (bSeq l a)) → qzA h.l b0 = some (some (.cells [W, H, S, v, vc] false)) → yza base h j cCl cs 4 v → yza base h j2 fO L 11 vc → Lies base h j j2 v vc L → (j ≠ j2 ∨ v = .nilS ∨ vc = .nilS) → base ≤ h.next → qzA h.l r0 = zr →
    wp Go.VL.Er.E Gl (.loop c_glyphicmake_Icon_l1) T h K := by
  intro n
  induction n with
  | zero =>
    intro a cs L T h v vc j j2 hR k1 k2 k3 k4 t0 t2 t3 t4 t5 s1 s2 q1 q2 q3 qj hn hz
    refine xzy c_glyphicmake_Icon_l1.eq_1 ?_
    have c1 : ¬ ((0 : Nat) : Int) - 1 ≥ 0 := by omega
    simp only [qzz, qzp, qzq, qzF, xzg, qzw, qzn, qzj, xzm, xzh, qzf, qzd, qze, xzo, qzo, qzJ, qzc, qzb, qzg, qzh, qzr, qzk, qzl, qzs, qza, qzt, qzv, qzy, xzb, cv, qzL, qzK, toA, ofA, FR.pop, abin, intBin, qzQ, ↓reduceIte, Nat.reduceEqDiff, reduceCtorEq, true_and, Bool.false_eq_true, beq_true, decide_false, forall_const, false_implies, reduceCtorEq, t0, t5, c1]
    simp only [runS, List.append_nil] at hR
    refine hK _ h v vc j j2 L (by rw [hR]) ?_ ?_ (by rw [hR]; exact s1) s2 (by rw [hR]; exact q1) q2 q3 hn hz
    · simp only [qza, ↓reduceIte, Nat.reduceEqDiff, t2]
    · simp only [qza, ↓reduceIte, Nat.reduceEqDiff, t3]
  | succ n ih =>
    intro a cs L T h v vc j j2 hR k1 k2 k3 k4 t0 t2 t3 t4 t5 s1 s2 q1 q2 q3 qj hn hz
    have e : ((n + 1 : Nat) : Int) - 1 = (n : Int) := by omega
    rw [e] at t5
    by_cases c : a < l.length
    · have hc := cmdEnd_le l a
      have hcl := colsOf_len l a cs
      rw [runS, if_pos c] at hR
      refine cmd_step Gl l far i r0 b0 base hl hf hb hi0 hi1 hb0 hr0 hri hrb W H S .nilS a cs L n T h v vc j j2 K (by omega) (by omega) (by omega) c t0 t2 t3 t4 t5 (by omega) s1 s2 q1 q2 q3 qj hn ?_
      intro T' h' v' vc' j' j2' jp u0 u2 u3 u4 u5 p1 p2 p3 p4 p5 p6 p7 p8
      refine ih (cmdEnd l a) (colsOf l a cs) (L ++ [(cmdOf l far a cs, jp)]) T' h' v' vc' j' j2' ?_ (by omega) (by omega) (by simp; omega) (by omega) u0 u2 u3 u4 u5 p1 p2 p3 p4 p5 p6 p7 (p8.trans hz)
      rw [hR, List.map_append, List.append_assoc]; rfl
    · refine xzy c_glyphicmake_Icon_l1.eq_1 ?_
      have c1 : (n : Int) ≥ 0 := by omega
      have dal : decide (a < l.length) = false := decide_eq_false c
      rw [runS, if_neg c] at hR
      simp only [List.append_nil] at hR
      simp only [qzp, qzq, qzd, qze, qzo, qzJ, qzc, qzb, qzg, qzh, qzr, qzk, qzl, qzs, qza, qzt, qzv, qzy, cv, qzL, qzK, toA, ofA, FR.pop, abin, intBin, ↓reduceIte, Nat.reduceEqDiff, reduceCtorEq, beq_self_eq_true, decide_true, reduceCtorEq, t0, t5, c1]
      refine xzC (more_ok Gl l a i) s1 rfl rfl ?_
      simp only [qzz, qzp, qzq, qzF, xzg, qzw, qzn, qzj, xzm, xzh, qzf, qzd, qze, qzo, qzJ, qzu, qzc, qzb, qzg, qzh, qzr, qzk, qzl, qzs, qza, qzt, qzv, qzy, xzb, cv, ↓reduceIte, Nat.reduceEqDiff, reduceCtorEq, true_and, Bool.false_eq_true, forall_const, false_implies, reduceCtorEq, cSeq, bSeq, t0, dal]
      have f : ∀ k, qzA ((i, some (bSeq l a)) :: h.l) k = qzA h.l k := fun k => by
        simp only [qza]
        by_cases e : i = k
        · rw [if_pos e, ← e]; exact s1.symm
        · rw [if_neg e]
      refine hK _ _ v vc j j2 L (by rw [hR]) ?_ ?_ (by rw [hR]; exact (f i).trans s1) ((f b0).trans s2) (by rw [hR]; exact q1.ext (Nat.le_refl _) (fun _ _ => f j)) (q2.ext (Nat.le_refl _) (fun _ _ => f j2)) (fun p hp => by rw [f]; exact q3 p hp) hn ((f r0).trans hz)
      · simp only [qza, ↓reduceIte, Nat.reduceEqDiff, t2]
      · simp only [qza, ↓reduceIte, Nat.reduceEqDiff, t3]
def wS (l : List Int) (a : Nat) : Int := 1 + nextS l a 24
def hS (l : List Int) (a : Nat) : Int := 1 + nextS l (a + 1) 24
def scS (l : List Int) (a : Nat) : Int := nextS l (a + 2) 7
def farS' (l : List Int) (a : Nat) : Int := max (wS l a) (hS l a) * 2 ^ (scS l a).toNat
def cmdsN (l : List Int) (a : Nat) : Nat := (nextS l (a + 3) 4).toNat + 1
def iconRun (l : List Int) (a : Nat) : List Cmd × List Cl × Nat := runS l (farS' l a) (cmdsN l a) (a + 4) []
def iconS (l : List Int) (a : Nat) : Icon := ⟨wS l a, hS l a, scS l a, (iconRun l a).2.1, (iconRun l a).1⟩
def iconEnd (l : List Int) (a : Nat) : Nat := (iconRun l a).2.2
theorem icon_in (l : List Int) (a : Nat) : (1 ≤ wS l a ∧ wS l a ≤ 24) ∧ (1 ≤ hS l a ∧ hS l a ≤ 24) ∧ (0 ≤ scS l a ∧ scS l a ≤ 6) ∧ (1 ≤ farS' l a ∧ farS' l a ≤ 24 * 64) := by
  have h1 := next_in l a 24 (by omega)
  have h2 := next_in l (a + 1) 24 (by omega)
  have h3 := next_in l (a + 2) 7 (by omega)
  have w : 1 ≤ wS l a ∧ wS l a ≤ 24 := by unfold wS; omega
  have h : 1 ≤ hS l a ∧ hS l a ≤ 24 := by unfold hS; omega
  have s : 0 ≤ scS l a ∧ scS l a ≤ 6 := by unfold scS; omega
  refine ⟨w, h, s, ?_⟩
  unfold farS'
  have : ∀ s : Fin 7, (1:Int) ≤ 2 ^ s.val ∧ (2:Int) ^ s.val ≤ 64 := by decide
  have q := this ⟨(scS l a).toNat, by omega⟩
  simp only at q
  generalize (2:Int) ^ (scS l a).toNat = z at q
  have e : 1 ≤ max (wS l a) (hS l a) ∧ max (wS l a) (hS l a) ≤ 24 := by omega
  generalize max (wS l a) (hS l a) = m at e
  have p := Int.mul_le_mul e.1 q.1 (by omega) (by omega)
  exact ⟨by omega, Int.mul_le_mul e.2 q.2 (by omega) (by omega)⟩
theorem icon_ok (Gl : xzB) (l : List Int) (a : Nat) (i : Nat) (hl : l.length < 4611686018427387904) (ha : a < 1000) :
    StShut Go.VL.Er.E Gl f_glyphicmake_Icon [.ptr i 0] [(i, bSeq l a)] (.agg (cIcon (iconS l a))) [(i, bSeq l (iconEnd l a))] := by
  refine shut1_intro fun nx hn => xzj E_glyphicmake_Icon ?_
  unfold c_glyphicmake_Icon r_glyphicmake_Icon
  simp only [xzQ]
  have h1 := next_in l a 24 (by omega)
  have h2 := next_in l (a + 1) 24 (by omega)
  have h3 := next_in l (a + 2) 7 (by omega)
  have h4 := next_in l (a + 3) 4 (by omega)
  obtain ⟨b1, b2, b3, b4⟩ := icon_in l a
  have e1 : ¬ nx = i := by omega
  have e2 : ¬ i = nx := by omega
  have e3 : ¬ nx + 1 = nx := by omega
  have e4 : ¬ nx = nx + 1 := by omega
  have e5 : ¬ nx + 1 = i := by omega
  have e6 : ¬ i = nx + 1 := by omega
  have w1 : IntKind.i64.wrap (1 + nextS l a 24) = wS l a := xzl (by omega) (by omega)
  have w2 : IntKind.i64.wrap (1 + nextS l (a + 1) 24) = hS l a := xzl (by omega) (by omega)
  have w3 : IntKind.u64.wrap (scS l a) = scS l a := by
    have : ∀ s : Fin 7, IntKind.u64.wrap ((s.val : Nat) : Int) = ((s.val : Nat) : Int) := by decide
    have q := this ⟨(scS l a).toNat, by omega⟩
    simp only at q
    rwa [Int.toNat_of_nonneg b3.1] at q
  have mm : (if hS l a > wS l a then hS l a else wS l a) = max (wS l a) (hS l a) := by split <;> omega
  have m64 : min (scS l a).toNat IntKind.i64.bits = (scS l a).toNat := by show min _ 64 = _; omega
  have nn : ¬ scS l a < 0 := by omega
  have w4 : IntKind.i64.wrap (max (wS l a) (hS l a) * 2 ^ (scS l a).toNat) = farS' l a := xzl (by unfold farS' at b4; omega) (by unfold farS' at b4; omega)
  simp only [qzp, qzq, qzj, qzf, qzd, qze, qzo, xzc, qzJ, qzc, qzH, qzb, qzg, qzh, qzY, qzr, qzk, qzl, qzs, qza, qzt, qzv, qzy, xzk, cvs, cv, VN.at, VH.push, ↓reduceIte, reduceCtorEq, reduceCtorEq, cSeq, bSeq, cIcon]
  refine xzC (next_ok Gl l a 24 i hl (by omega) (by omega) (by omega)) (by simp only [qza, ↓reduceIte, cSeq, bSeq, e1]) rfl rfl ?_
  simp only [qzd, qze, qzo, qzJ, qzu, qzc, qzb, qzg, qzh, qzr, qzk, qzl, qzs, qza, qzt, qzv, qzy, cv, qzL, qzK, toA, ofA, FR.pop, abin, intBin, ↓reduceIte, reduceCtorEq, reduceCtorEq, cSeq, bSeq, w1]
  refine xzC (next_ok Gl l (a + 1) 24 i hl (by omega) (by omega) (by omega)) (by simp only [qza, ↓reduceIte, cSeq, bSeq]) rfl rfl ?_
  simp only [qzd, qze, qzo, qzJ, qzu, qzc, qzb, qzg, qzh, qzr, qzk, qzl, qzs, qza, qzt, qzv, qzy, cv, qzL, qzK, toA, ofA, FR.pop, abin, intBin, ↓reduceIte, reduceCtorEq, reduceCtorEq, cSeq, bSeq, w2]
  refine xzC (next_ok Gl l (a + 2) 7 i hl (by omega) (by omega) (by omega)) (by simp only [qza, ↓reduceIte, cSeq, bSeq]) rfl rfl ?_
  simp only [qzp, qzq, qzj, qzf, qzd, qze, qzo, qzG, xzc, qzJ, qzu, qzc, qzm, qzH, qzb, qzP, qzg, qzh, qzY, qzO, qzr, qzk, qzl, qzs, qza, qzt, qzv, qzy, qzI, qzN, qzD, xzk, xzs, xzv, qzS, qzR, xza, qzE, cvs, cv, qzL, qzK, toA, ofA, FR.pop, abin, shiftBin, max2A, foldA, VN.at, VH.push, VH.set, qzi, VV.cells, ntV, qzQ, xzp, ↓reduceIte, Option.getD_some, List.getElem?_cons_zero, List.getElem?_cons_succ, List.length_cons, List.length_nil, List.drop_succ_cons, List.drop_zero, List.take_succ_cons, List.take_zero, List.append_nil, List.nil_append, List.cons_append, List.head?_cons, Nat.reduceAdd, Nat.reduceEqDiff, reduceCtorEq, Nat.reduceLeDiff, Nat.add_zero, Nat.zero_add, and_self, reduceCtorEq, cSeq, bSeq, show nextS l (a + 2) 7 = scS l a from rfl, w3, mm, m64, nn, w4]
  refine xzC (next_ok Gl l (a + 3) 4 i hl (by omega) (by omega) (by omega)) (by simp only [qza, ↓reduceIte, cSeq, bSeq, e5]) rfl rfl ?_
  have hk : nextS l (a + 3) 4 = (cmdsN l a : Int) - 1 := by unfold cmdsN; omega
  rw [hk]
  simp only [qzF, qzj, qzf, qzd, qze, qzo, qzu, qzc, qzb, qzg, qzh, qzk, qzl, qzs, qza, qzt, qzv, qzy, ↓reduceIte, cSeq, bSeq]
  refine cmds_loop Gl l (farS' l a) i nx (nx + 1) (nx + 2) hl (by omega) (by omega) (by omega) (by omega) (by omega) (by omega) (by omega) (by omega) (.int .i64 (wS l a)) (.int .i64 (hS l a)) (.int .i64 (scS l a)) (some (some (.cells [.int .i64 0, .int .i64 0, .int .i64 0, .nilS, .nilS] false))) (iconRun l a) _ ?_ (cmdsN l a) (a + 4) [] [] _ _ .nilS .nilS 0 0 (by unfold iconRun; simp) (by unfold cmdsN; omega) (by simp; unfold cmdsN; omega) (by simp; unfold cmdsN; omega) (by unfold cmdsN; omega) ?_ ?_ ?_ ?_ ?_ ?_ ?_ yza.nil yza.nil (fun p hp => by cases hp) (.inr (.inl rfl)) ?_ ?_
  · intro T h v vc j j2 L hL t2 t3 s1 s2 q1 q2 q3 hnn hz
    simp only [qzp, qzq, qzB, qzj, xzD, qzf, qzd, qze, qzG, qzJ, qzu, qzC, qzm, qzb, qzP, qzg, qzh, qzO, qzk, qzl, qzs, qza, qzt, qzN, qzD, qzS, qzR, xza, qzE, VH.set, qzi, VV.cells, ntV, qzW, qzM, qzX, qzV, qzQ, xzp, ↓reduceIte, Option.getD_some, List.length_cons, List.length_nil, List.drop_succ_cons, List.drop_zero, List.take_succ_cons, List.take_zero, List.append_nil, List.nil_append, List.head?_cons, Nat.reduceAdd, Nat.reduceEqDiff, Nat.reduceLeDiff, Nat.zero_add, and_self, t2, t3, s2, hz, e1]
    refine ⟨?_, ?_⟩
    · have ab : ∀ jj, nx + 2 ≤ jj → ∀ x, h.get jj = some x → above nx (VH.mk ((nx, some (VB.cells [.int .i64 (wS l a), .int .i64 (hS l a), .int .i64 (scS l a), v, vc] false)) :: h.l) h.next) jj = some x := fun jj hj x hx => by
        rw [qzi] at hx
        unfold above
        rw [if_pos (by omega), qzi]
        simp only [qza]
        rw [if_neg (by omega)]
        exact hx
      refine xzT.agg (xzJ.cons (xzT.closed rfl) (xzJ.cons (xzT.closed rfl) (xzJ.cons (xzT.closed rfl) (xzJ.cons (xzT.acc (f' := cCl) (l := (iconRun l a).2.1) q1 (fun hb x hx => ab j hb x hx) Pal.cCl_len (fun _ _ => xzJ.closed rfl)) (xzJ.cons ?_ xzJ.nil)))))
      have hx := xzT.acc (g := above nx (VH.mk ((nx, some (VB.cells [.int .i64 (wS l a), .int .i64 (hS l a), .int .i64 (scS l a), v, vc] false)) :: h.l) h.next)) (f' := fun p => cCmd p.1) (l := L) q2 (fun hb x hx => ab j2 hb x hx) fO_len (fun p hp => ?_)
      · have e : xzP (fun p : Cmd × Nat => cCmd p.1) L = xzP cCmd (iconRun l a).1 := by rw [← hL]; unfold xzP; rw [List.map_map]; rfl
        have e' : L.length = (iconRun l a).1.length := by rw [← hL, List.length_map]
        rw [e, e'] at hx
        exact hx
      · obtain ⟨z1, z2, z3, z4, z5⟩ := q3 p hp
        refine xzJ.append (a := [_, _, _, _, _, _, _, _, _, _]) (c := [_]) (xzJ.closed rfl) (xzJ.cons (xzT.whole (ab p.2 z2 _ (by rw [qzi, z1]; rfl)) (by rw [flatL_length cPath_len]) rfl (xzJ.closed (closedL_flat (fun _ => rfl) _))) xzJ.nil)
    · exact s1
  all_goals first | (simp only [qza, ↓reduceIte, Nat.reduceEqDiff, reduceCtorEq, Nat.reduceLeDiff, reduceCtorEq, cSeq, bSeq, e2, e3, e6]; done) | (simp only [Nat.reduceLeDiff]; rfl) | exact Nat.le_refl _
end
end Go.VL.Mk
