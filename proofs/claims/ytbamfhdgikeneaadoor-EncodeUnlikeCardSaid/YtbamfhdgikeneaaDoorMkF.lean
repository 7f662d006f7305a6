import Derived.Test.YtbamfhdgikeneaaDoorMkE
import Derived.Test.YtbamfhdgikeneaaDoorIcD
import Derived.Test.YtbamfhdgikeneaaDoorWiA
import Derived.Test.YtbamfhdgikeneaaDoorEnF
import Derived.Test.YtbamfhdgikeneaaDoorEnP
import Derived.Test.YtbamfhdgikeneaaDoorEnK
import Derived.Test.YtbamfhdgikeneaaDoorSmA
import Derived.Test.YtbamfhdgikeneaaDoorWrA
/- An icon. -/
namespace Go.VL.Mk
open Go.FR Go.IR Go.VL Go.VL.Color Go.VL.Wind Go.VL.Ic
noncomputable section
set_option linter.unusedSimpArgs false
set_option linter.unusedVariables false
set_option maxRecDepth 100000
set_option maxHeartbeats 1000000

def runS (l : List Int) (far : Int) : Nat → Nat → List Cl → List Cmd × List Cl × Nat
  | 0, a, cs => ([], cs, a)
  | n + 1, a, cs => if a < l.length then (cmdOf l far a cs :: (runS l far n (cmdEnd l a) (colsOf l a cs)).1, (runS l far n (cmdEnd l a) (colsOf l a cs)).2) else ([], cs, a)
theorem cmds_loop (Gl : xzv) (l : List Int) (far : Int) (i r0 b0 base : Nat) (hl : l.length < 4611686018427387904) (hf : 0 < far) (hb : far < 1000000) (hi0 : i ≠ b0) (hi1 : i < base) (hb0 : b0 < base) (hr0 : r0 < base) (hri : r0 ≠ i) (hrb : r0 ≠ b0) (W H S : VV) (zr : Option (Option VB)) (R : List Cmd × List Cl × Nat) (K : AEx → VF → VH → Prop)
    (hK : ∀ T h v vc j j2 L, L.map Prod.fst = R.1 → qzv T 2 = some (.ptr r0 0) → qzv T 3 = some (.ptr b0 0) → qzv h.l i = some (some (bSeq l R.2.2)) → qzv h.l b0 = some (some (.cells [W, H, S, v, vc] false)) → xzS base h j cCl R.2.1 4 v → xzS base h j2 fO L 11 vc → Lies base h j j2 v vc L → base ≤ h.next → qzv h.l r0 = zr → K (.exit 0) T h) :
    ∀ (n a : Nat) (cs : List Cl) (L : List (Cmd × Nat)) (T : VF) (h : VH) (v vc : VV) (j j2 : Nat), R = (L.map Prod.fst ++ (runS l far n a cs).1, (runS l far n a cs).2) → a + 150 * n + 200 < 1000000 → cs.length + 2 * n < 90000 → L.length + n < 90000 → n < 1000 →
      qzv T 0 = some (.ptr i 0) → qzv T 2 = some (.ptr r0 0) → qzv T 3 = some (.ptr b0 0) → qzv T 4 = some (.int .i64 far) → qzv T 5 = some (.int .i64 ((n : Int) - 1)) →
      qzv h.l i = some (some (bSeq l a)) → qzv h.l b0 = some (some (.cells [W, H, S, v, vc] false)) → xzS base h j cCl cs 4 v → xzS base h j2 fO L 11 vc → Lies base h j j2 v vc L → (j ≠ j2 ∨ v = .nilS ∨ vc = .nilS) → base ≤ h.next → qzv h.l r0 = zr →
    wp Go.VL.Er.E Gl (.loop c_glyphicmake_Icon_l1) T h K := by
  intro n
  induction n with
  | zero =>
    intro a cs L T h v vc j j2 hR k1 k2 k3 k4 t0 t2 t3 t4 t5 s1 s2 q1 q2 q3 qj hn hz
    refine xzr c_glyphicmake_Icon_l1.eq_1 ?_
    have c1 : ¬ ((0 : Nat) : Int) - 1 ≥ 0 := by omega
    simp only [qzA, qzj, qzn, qzD, qzX, qzw, qzo, qzi, xzh, qzY, qzf, qzd, qze, xzo, qzp, qzN, qzc, qzb, qzg, qzh, qzy, qzm, qzl, qzs, qza, qzr, qzu, qzx, xzl, cv, qzG, qzH, toA, ofA, FR.pop, abin, intBin, qzO, ↓reduceIte, Nat.reduceEqDiff, reduceCtorEq, true_and, Bool.false_eq_true, beq_true, decide_false, forall_const, false_implies, reduceCtorEq, t0, t5, c1]
    simp only [runS, List.append_nil] at hR
    refine hK _ h v vc j j2 L (by rw [hR]) ?_ ?_ (by rw [hR]; exact s1) s2 (by rw [hR]; exact q1) q2 q3 hn hz
    · simp only [qza, ↓reduceIte, Nat.reduceEqDiff, t2]
    · simp only [qza, ↓reduceIte, Nat.reduceEqDiff, t3]
  | succ n ih =>
    intro a cs L T h v vc j j2 hR k1 k2 k3 k4 t0 t2 t3 t4 t5 s1 s2 q1 q2 q3 qj hn hz
    have e : ((n + 1 : Nat) : Int) - 1 = (n : Int) := by omega
    rw [e] at t5
    by_cases c : a < l.length
    · have hc := cmdEnd_le l a
      have hcl := colsOf_len l a cs
      rw [runS, if_pos c] at hR
      refine cmd_step Gl l far i r0 b0 base hl hf hb hi0 hi1 hb0 hr0 hri hrb W H S .nilS a cs L n T h v vc j j2 K (by omega) (by omega) (by omega) c t0 t2 t3 t4 t5 (by omega) s1 s2 q1 q2 q3 qj hn ?_
      intro T' h' v' vc' j' j2' jp u0 u2 u3 u4 u5 p1 p2 p3 p4 p5 p6 p7 p8
      refine ih (cmdEnd l a) (colsOf l a cs) (L ++ [(cmdOf l far a cs, jp)]) T' h' v' vc' j' j2' ?_ (by omega) (by omega) (by simp; omega) (by omega) u0 u2 u3 u4 u5 p1 p2 p3 p4 p5 p6 p7 (p8.trans hz)
      rw [hR, List.map_append, List.append_assoc]; rfl
    · refine xzr c_glyphicmake_Icon_l1.eq_1 ?_
      have c1 : (n : Int) ≥ 0 := by omega
      have dal : decide (a < l.length) = false := decide_eq_false c
      rw [runS, if_neg c] at hR
      simp only [List.append_nil] at hR
      simp only [qzj, qzn, qzd, qze, qzp, qzN, qzc, qzb, qzg, qzh, qzy, qzm, qzl, qzs, qza, qzr, qzu, qzx, cv, qzG, qzH, toA, ofA, FR.pop, abin, intBin, ↓reduceIte, Nat.reduceEqDiff, reduceCtorEq, beq_self_eq_true, decide_true, reduceCtorEq, t0, t5, c1]
      refine xzF (more_ok Gl l a i) s1 rfl rfl ?_
      simp only [qzA, qzj, qzn, qzD, qzX, qzw, qzo, qzi, xzh, qzY, qzf, qzd, qze, qzp, qzN, qzz, qzc, qzb, qzg, qzh, qzy, qzm, qzl, qzs, qza, qzr, qzu, qzx, xzl, cv, ↓reduceIte, Nat.reduceEqDiff, reduceCtorEq, true_and, Bool.false_eq_true, forall_const, false_implies, reduceCtorEq, cSeq, bSeq, t0, dal]
      have f : ∀ k, qzv ((i, some (bSeq l a)) :: h.l) k = qzv h.l k := fun k => by
        simp only [qza]
        by_cases e : i = k
        · rw [if_pos e, ← e]; exact s1.symm
        · rw [if_neg e]
      refine hK _ _ v vc j j2 L (by rw [hR]) ?_ ?_ (by rw [hR]; exact (f i).trans s1) ((f b0).trans s2) (by rw [hR]; exact q1.ext (Nat.le_refl _) (fun _ _ => f j)) (q2.ext (Nat.le_refl _) (fun _ _ => f j2)) (fun p hp => by rw [f]; exact q3 p hp) hn ((f r0).trans hz)
      · simp only [qza, ↓reduceIte, Nat.reduceEqDiff, t2]
      · simp only [qza, ↓reduceIte, Nat.reduceEqDiff, t3]
def wS (l : List Int) (a : Nat) : Int := 1 + nextS l a 24
def hS (l : List Int) (a : Nat) : Int := 1 + nextS l (a + 1) 24
def scS (l : List Int) (a : Nat) : Int := nextS l (a + 2) 7
def farS' (l : List Int) (a : Nat) : Int := max (wS l a) (hS l a) * 2 ^ (scS l a).toNat
def cmdsN (l : List Int) (a : Nat) : Nat := (nextS l (a + 3) 4).toNat + 1
def iconRun (l : List Int) (a : Nat) : List Cmd × List Cl × Nat := runS l (farS' l a) (cmdsN l a) (a + 4) []
def iconS (l : List Int) (a : Nat) : Icon := ⟨wS l a, hS l a, scS l a, (iconRun l a).2.1, (iconRun l a).1⟩
def iconEnd (l : List Int) (a : Nat) : Nat := (iconRun l a).2.2
theorem icon_in (l : List Int) (a : Nat) : (1 ≤ wS l a ∧ wS l a ≤ 24) ∧ (1 ≤ hS l a ∧ hS l a ≤ 24) ∧ (0 ≤ scS l a ∧ scS l a ≤ 6) ∧ (1 ≤ farS' l a ∧ farS' l a ≤ 24 * 64) := by
  have h1 := next_in l a 24 (by omega)
  have h2 := next_in l (a + 1) 24 (by omega)
  have h3 := next_in l (a + 2) 7 (by omega)
  have w : 1 ≤ wS l a ∧ wS l a ≤ 24 := by unfold wS; omega
  have h : 1 ≤ hS l a ∧ hS l a ≤ 24 := by unfold hS; omega
  have s : 0 ≤ scS l a ∧ scS l a ≤ 6 := by unfold scS; omega
  refine ⟨w, h, s, ?_⟩
  unfold farS'
  have : ∀ s : Fin 7, (1:Int) ≤ 2 ^ s.val ∧ (2:Int) ^ s.val ≤ 64 := by decide
  have q := this ⟨(scS l a).toNat, by omega⟩
  simp only at q
  generalize (2:Int) ^ (scS l a).toNat = z at q
  have e : 1 ≤ max (wS l a) (hS l a) ∧ max (wS l a) (hS l a) ≤ 24 := by omega
  generalize max (wS l a) (hS l a) = m at e
  have p := Int.mul_le_mul e.1 q.1 (by omega) (by omega)
  exact ⟨by omega, Int.mul_le_mul e.2 q.2 (by omega) (by omega)⟩
theorem icon_ok (Gl : xzv) (l : List Int) (a : Nat) (i : Nat) (hl : l.length < 4611686018427387904) (ha : a < 1000) :
    StShut Go.VL.Er.E Gl f_glyphicmake_Icon [.ptr i 0] [(i, bSeq l a)] (.agg (cIcon (iconS l a))) [(i, bSeq l (iconEnd l a))] := by
  refine shut1_intro fun nx hn => xze E_glyphicmake_Icon ?_
  unfold c_glyphicmake_Icon r_glyphicmake_Icon
  simp only [xzC]
  have h1 := next_in l a 24 (by omega)
  have h2 := next_in l (a + 1) 24 (by omega)
  have h3 := next_in l (a + 2) 7 (by omega)
  have h4 := next_in l (a + 3) 4 (by omega)
  obtain ⟨b1, b2, b3, b4⟩ := icon_in l a
  have e1 : ¬ nx = i := by omega
  have e2 : ¬ i = nx := by omega
  have e3 : ¬ nx + 1 = nx := by omega
  have e4 : ¬ nx = nx + 1 := by omega
  have e5 : ¬ nx + 1 = i := by omega
  have e6 : ¬ i = nx + 1 := by omega
  have w1 : IntKind.i64.wrap (1 + nextS l a 24) = wS l a := xzi (by omega) (by omega)
  have w2 : IntKind.i64.wrap (1 + nextS l (a + 1) 24) = hS l a := xzi (by omega) (by omega)
  have w3 : IntKind.u64.wrap (scS l a) = scS l a := by
    have : ∀ s : Fin 7, IntKind.u64.wrap ((s.val : Nat) : Int) = ((s.val : Nat) : Int) := by decide
    have q := this ⟨(scS l a).toNat, by omega⟩
    simp only at q
    rwa [Int.toNat_of_nonneg b3.1] at q
  have mm : (if hS l a > wS l a then hS l a else wS l a) = max (wS l a) (hS l a) := by split <;> omega
  have m64 : min (scS l a).toNat IntKind.i64.bits = (scS l a).toNat := by show min _ 64 = _; omega
  have nn : ¬ scS l a < 0 := by omega
  have w4 : IntKind.i64.wrap (max (wS l a) (hS l a) * 2 ^ (scS l a).toNat) = farS' l a := xzi (by unfold farS' at b4; omega) (by unfold farS' at b4; omega)
  simp only [qzj, qzn, qzi, qzf, qzd, qze, qzp, qzZ, qzN, qzc, qzE, qzb, qzg, qzh, qzR, qzy, qzm, qzl, qzs, qza, qzr, qzu, qzx, xzk, cvs, cv, VN.at, VH.push, ↓reduceIte, reduceCtorEq, reduceCtorEq, cSeq, bSeq, cIcon]
  refine xzF (next_ok Gl l a 24 i hl (by omega) (by omega) (by omega)) (by simp only [qza, ↓reduceIte, cSeq, bSeq, e1]) rfl rfl ?_
  simp only [qzd, qze, qzp, qzN, qzz, qzc, qzb, qzg, qzh, qzy, qzm, qzl, qzs, qza, qzr, qzu, qzx, cv, qzG, qzH, toA, ofA, FR.pop, abin, intBin, ↓reduceIte, reduceCtorEq, reduceCtorEq, cSeq, bSeq, w1]
  refine xzF (next_ok Gl l (a + 1) 24 i hl (by omega) (by omega) (by omega)) (by simp only [qza, ↓reduceIte, cSeq, bSeq]) rfl rfl ?_
  simp only [qzd, qze, qzp, qzN, qzz, qzc, qzb, qzg, qzh, qzy, qzm, qzl, qzs, qza, qzr, qzu, qzx, cv, qzG, qzH, toA, ofA, FR.pop, abin, intBin, ↓reduceIte, reduceCtorEq, reduceCtorEq, cSeq, bSeq, w2]
  refine xzF (next_ok Gl l (a + 2) 7 i hl (by omega) (by omega) (by omega)) (by simp only [qza, ↓reduceIte, cSeq, bSeq]) rfl rfl ?_
  simp only [qzj, qzn, qzi, qzf, qzd, qze, qzp, qzJ, qzZ, qzN, qzz, qzc, qzk, qzE, qzb, qzU, qzg, qzh, qzR, qzW, qzy, qzm, qzl, qzs, qza, qzr, qzu, qzx, qzI, qzL, qzC, xzk, xzL, xzA, qzS, xza, xzn, qzB, cvs, cv, qzG, qzH, toA, ofA, FR.pop, abin, shiftBin, max2A, foldA, VN.at, VH.push, VH.set, qzq, VV.cells, ntV, qzO, xzy, ↓reduceIte, Option.getD_some, List.getElem?_cons_zero, List.getElem?_cons_succ, List.length_cons, List.length_nil, List.drop_succ_cons, List.drop_zero, List.take_succ_cons, List.take_zero, List.append_nil, List.nil_append, List.cons_append, List.head?_cons, Nat.reduceAdd, Nat.reduceEqDiff, reduceCtorEq, Nat.reduceLeDiff, Nat.add_zero, Nat.zero_add, and_self, reduceCtorEq, cSeq, bSeq, show nextS l (a + 2) 7 = scS l a from rfl, w3, mm, m64, nn, w4]
  refine xzF (next_ok Gl l (a + 3) 4 i hl (by omega) (by omega) (by omega)) (by simp only [qza, ↓reduceIte, cSeq, bSeq, e5]) rfl rfl ?_
  have hk : nextS l (a + 3) 4 = (cmdsN l a : Int) - 1 := by unfold cmdsN; omega
  rw [hk]
  simp only [qzD, qzi, qzf, qzd, qze, qzp, qzz, qzc, qzb, qzg, qzh, qzm, qzl, qzs, qza, qzr, qzu, qzx, ↓reduceIte, cSeq, bSeq]
  refine cmds_loop Gl l (farS' l a) i nx (nx + 1) (nx + 2) hl (by omega) (by omega) (by omega) (by omega) (by omega) (by omega) (by omega) (by omega) (.int .i64 (wS l a)) (.int .i64 (hS l a)) (.int .i64 (scS l a)) (some (some (.cells [.int .i64 0, .int .i64 0, .int .i64 0, .nilS, .nilS] false))) (iconRun l a) _ ?_ (cmdsN l a) (a + 4) [] [] _ _ .nilS .nilS 0 0 (by unfold iconRun; simp) (by unfold cmdsN; omega) (by simp; unfold cmdsN; omega) (by simp; unfold cmdsN; omega) (by unfold cmdsN; omega) ?_ ?_ ?_ ?_ ?_ ?_ ?_ xzS.nil xzS.nil (fun p hp => by cases hp) (.inr (.inl rfl)) ?_ ?_
  · intro T h v vc j j2 L hL t2 t3 s1 s2 q1 q2 q3 hnn hz
    simp only [qzj, qzn, qzF, qzi, xzz, qzf, qzd, qze, qzJ, qzN, qzz, qzK, qzk, qzb, qzU, qzg, qzh, qzW, qzm, qzl, qzs, qza, qzr, qzL, qzC, qzS, xza, xzn, qzB, VH.set, qzq, VV.cells, ntV, qzQ, qzM, qzV, qzP, qzO, xzy, ↓reduceIte, Option.getD_some, List.length_cons, List.length_nil, List.drop_succ_cons, List.drop_zero, List.take_succ_cons, List.take_zero, List.append_nil, List.nil_append, List.head?_cons, Nat.reduceAdd, Nat.reduceEqDiff, Nat.reduceLeDiff, Nat.zero_add, and_self, t2, t3, s2, hz, e1]
    refine ⟨?_, ?_⟩
    · have ab : ∀ jj, nx + 2 ≤ jj → ∀ x, h.get jj = some x → above nx (VH.mk ((nx, some (VB.cells [.int .i64 (wS l a), .int .i64 (hS l a), .int .i64 (scS l a), v, vc] false)) :: h.l) h.next) jj = some x := fun jj hj x hx => by
        rw [qzq] at hx
        unfold above
        rw [if_pos (by omega), qzq]
        simp only [qza]
        rw [if_neg (by omega)]
        exact hx
      refine yzb.agg (xzR.cons (yzb.closed rfl) (xzR.cons (yzb.closed rfl) (xzR.cons (yzb.closed rfl) (xzR.cons (yzb.acc (f' := cCl) (l := (iconRun l a).2.1) q1 (fun hb x hx => ab j hb x hx) Pal.cCl_len (fun _ _ => xzR.closed rfl)) (xzR.cons ?_ xzR.nil)))))
      have hx := yzb.acc (g := above nx (VH.mk ((nx, some (VB.cells [.int .i64 (wS l a), .int .i64 (hS l a), .int .i64 (scS l a), v, vc] false)) :: h.l) h.next)) (f' := fun p => cCmd p.1) (l := L) q2 (fun hb x hx => ab j2 hb x hx) fO_len (fun p hp => ?_)
      · have e : xzm (fun p : Cmd × Nat => cCmd p.1) L = xzm cCmd (iconRun l a).1 := by rw [← hL]; unfold xzm; rw [List.map_map]; rfl
        have e' : L.length = (iconRun l a).1.length := by rw [← hL, List.length_map]
        rw [e, e'] at hx
        exact hx
      · obtain ⟨z1, z2, z3, z4, z5⟩ := q3 p hp
        refine xzR.append (a := [_, _, _, _, _, _, _, _, _, _]) (c := [_]) (xzR.closed rfl) (xzR.cons (yzb.whole (ab p.2 z2 _ (by rw [qzq, z1]; rfl)) (by rw [flatL_length cPath_len]) rfl (xzR.closed (closedL_flat (fun _ => rfl) _))) xzR.nil)
    · exact s1
  all_goals first | (simp only [qza, ↓reduceIte, Nat.reduceEqDiff, reduceCtorEq, Nat.reduceLeDiff, reduceCtorEq, cSeq, bSeq, e2, e3, e6]; done) | (simp only [Nat.reduceLeDiff]; rfl) | exact Nat.le_refl _
end
end Go.VL.Mk

/- What is made is right. -/
namespace Go.VL.Mk
open Go.FR Go.IR Go.VL Go.VL.Color Go.VL.Wind Go.VL.Ic Go.VL.Pal
noncomputable section
set_option linter.unusedSimpArgs false
set_option linter.unusedVariables false

theorem idx_lt (c : Cl) : ∀ (l : List Cl) (k : Nat), idxS l c k < ((k + l.length : Nat) : Int)
  | [], k => by simp [idxS]; omega
  | x :: l, k => by
    rw [idxS]
    split
    · simp; omega
    · have := idx_lt c l (k + 1)
      simp only [List.length_cons]; omega
theorem add_in (cs : List Cl) (c : Cl) : 0 ≤ addP cs c ∧ addP cs c < (addI cs c).length := by
  have h := idx_lt c cs 0
  unfold addP addI
  split
  · omega
  · simp; omega
theorem add_use (cs : List Cl) (c : Cl) (l : List Int) : nextUse cs.length (addP cs c :: l) = nextUse (addI cs c).length l := by
  have h := idx_lt c cs 0
  unfold addP addI
  rw [nextUse]
  split
  · rw [if_neg (by omega), if_neg (by omega)]
  · rw [if_neg (by omega), if_pos rfl]; simp
theorem add_nodup (cs : List Cl) (c : Cl) (h : cs.Nodup) : (addI cs c).Nodup := by
  unfold addI
  split
  · exact h
  · rename_i hn
    have hc : c ∉ cs := fun hm => hn ((idx_mem c cs 0).mpr hm)
    rw [List.nodup_append]
    exact ⟨h, by simp, fun a ha b hb e => by rw [List.mem_singleton] at hb; rw [e, hb] at ha; exact hc ha⟩
theorem once_nodup : ∀ (l s : List Cl), (s ++ l).Nodup → onceS s l = true
  | [], s, _ => rfl
  | c :: l, s, h => by
    rw [onceS]
    have hc : c ∉ s := fun hm => by
      rw [List.nodup_append] at h
      exact h.2.2 c hm c (.head _) rfl
    rw [if_neg hc]
    exact once_nodup l (s ++ [c]) (by rw [List.append_assoc]; exact h)

def NearP (p : Pt) (m : Int) : Prop := (-m ≤ p.x ∧ p.x ≤ m) ∧ -m ≤ p.y ∧ p.y ≤ m
theorem far_no {p : Pt} {m : Int} (h : NearP p m) : farS p m = false := by
  obtain ⟨⟨h1, h2⟩, h3, h4⟩ := h
  unfold farS inS
  rw [if_pos h1, if_pos h3]; simp [h2, h4]
theorem in_yes {n lo hi : Int} (h1 : lo ≤ n) (h2 : n ≤ hi) : inS n lo hi = true := by
  unfold inS; rw [if_pos h1]; simp [h2]
theorem near_le {p : Pt} {m k : Int} (h : NearP p m) (hk : m ≤ k) : NearP p k := by
  unfold NearP at h ⊢; omega
theorem near_z {m : Int} (h : 0 ≤ m) : NearP zP m := by unfold NearP zP; simp only; omega
theorem near_point (l : List Int) (a : Nat) (far : Int) (h : 0 ≤ far) : NearP (pointS l a far) far := by
  have := point_in l a far h
  unfold NearP; omega
theorem near_inside (l : List Int) (a : Nat) (far : Int) (h : 0 ≤ far) : NearP (insideS l a far) far := by
  unfold insideS
  split
  · exact near_point l _ far h
  · have h1 := next_in l (a + 1) (far + 1) (by omega)
    have h2 := next_in l (a + 2) (far + 1) (by omega)
    unfold NearP; simp only; omega
theorem seg_right (l : List Int) (a : Nat) (far m : Int) (h : 0 ≤ far) (hm : far ≤ m) : segS (segOf l a far) m = none := by
  obtain ⟨k1, k2, k3⟩ := segN_in l a
  have i1 := far_no (near_le (near_inside l (a + 1) far h) hm)
  have i2 := far_no (near_le (near_inside l (a + 1 + 3) far h) hm)
  have i3 := far_no (near_le (near_inside l (a + 1 + 6) far h) hm)
  have hz : zeroP zP := ⟨rfl, rfl⟩
  unfold segOf segP
  have hc : segN l a = 1 ∨ segN l a = 2 ∨ segN l a = 3 := by omega
  have r1 : inS 1 1 3 = true := by decide
  have r2 : inS 2 1 3 = true := by decide
  have r3 : inS 3 1 3 = true := by decide
  rcases hc with e | e | e
  all_goals
    rw [e]
    simp [segS, segPts, r1, r2, r3, i1, i2, i3, hz]
theorem segs_right (l : List Int) (far m : Int) (h : 0 ≤ far) (hm : far ≤ m) : ∀ n a, ∀ s ∈ segsS l far n a, segS s m = none
  | 0, a, s, hs => by cases hs
  | n + 1, a, s, hs => by
    rw [segsS] at hs
    rcases List.mem_cons.mp hs with rfl | hs
    · exact seg_right l a far m h hm
    · exact segs_right l far m h hm n _ s hs
theorem path_right (l : List Int) (a : Nat) (far m : Int) (b f : Bool) (h : 0 ≤ far) (hm : far ≤ m) (hb : (f && b) = false) : pathS (pathOf l a far b) f m = none := by
  have hl := segsS_len l far (pathN l a) (a + 4)
  obtain ⟨k1, k2, k3⟩ := pathN_in l a
  unfold pathS pathOf
  simp only
  rw [if_neg (by simp [hb]), if_neg (by omega), if_neg (by omega), if_neg (by rw [far_no (near_le (near_inside l a far h) hm)]; simp)]
  exact firstS_none.mpr (segs_right l far m h hm _ _)
theorem paths_right (l : List Int) (far m : Int) (kind : Nat) (h : 0 ≤ far) (hm : far ≤ m) : ∀ n a, ∀ p ∈ pathsS l far kind n a, pathS p (decide ((kind : Int) = 1)) m = none
  | 0, a, s, hs => by cases hs
  | n + 1, a, s, hs => by
    rw [pathsS] at hs
    rcases List.mem_cons.mp hs with rfl | hs
    · refine path_right l _ far m _ _ h hm ?_
      unfold shutB'
      by_cases e : kind = 2
      · simp [e]
      · simp [e]
    · exact paths_right l far m kind h hm n _ s hs
theorem path_pts (l : List Int) (a : Nat) (far : Int) (b : Bool) : pathPts (pathOf l a far b) ≤ 13 := by
  have hl := segsS_len l far (pathN l a) (a + 4)
  obtain ⟨k1, k2, k3⟩ := pathN_in l a
  have hk : ∀ n a, ∀ s ∈ segsS l far n a, s.kind ≤ 3 := fun n => by
    induction n with
    | zero => intro a s hs; cases hs
    | succ n ih =>
      intro a s hs
      rw [segsS] at hs
      rcases List.mem_cons.mp hs with rfl | hs
      · have := segN_in l a
        show (segN l a : Int) ≤ 3; omega
      · exact ih _ s hs
  have := sum_mem_le (f := fun s : Seg => s.kind) (hk (pathN l a) (a + 4)) (by omega) 4 (by omega)
  unfold pathPts pathOf; simp only; omega
theorem paths_pts (l : List Int) (far : Int) (kind : Nat) : ∀ n a, ∀ p ∈ pathsS l far kind n a, pathPts p ≤ 13
  | 0, a, s, hs => by cases hs
  | n + 1, a, s, hs => by
    rw [pathsS] at hs
    rcases List.mem_cons.mp hs with rfl | hs
    · exact path_pts l _ far _
    · exact paths_pts l far kind n _ s hs

theorem cmd_uses (l : List Int) (far : Int) (a : Nat) (cs : List Cl) : nextUse cs.length (usesOf (cmdOf l far a cs)) = some ((colsOf l a cs).length : Int) := by
  unfold usesOf cmdOf colsOf bS
  simp only
  by_cases h : pkS l a = 0
  · rw [if_pos h, if_pos h, add_use]; rfl
  · rw [if_neg h, if_neg h, if_neg h, add_use]
    show nextUse ((cols1 l a cs).length : Int) _ = _
    rw [add_use]; rfl
theorem cols_nodup (l : List Int) (a : Nat) (cs : List Cl) (h : cs.Nodup) : (colsOf l a cs).Nodup := by
  unfold colsOf cols1
  split
  · exact add_nodup _ _ h
  · exact add_nodup _ _ (add_nodup _ _ h)
theorem head_right (l : List Int) (far : Int) (a : Nat) (cs : List Cl) (m : Int) (h : 1 ≤ far) (hm : far ≤ m) : headS (cmdOf l far a cs) m = none := by
  have n1 := next_in l (a + 1) 2 (by omega)
  have n2 := next_in l (a + 1) (max (far.tdiv 2) 1) (by omega)
  have td : 0 ≤ far.tdiv 2 ∧ far.tdiv 2 ≤ far := ⟨Int.tdiv_nonneg (by omega) (by omega), Int.tdiv_le_self _ (by omega)⟩
  rcases kind_in l a with ⟨e, _⟩ | ⟨e, _⟩
  · have r : ruleS l a = nextS l (a + 1) 2 := by unfold ruleS; rw [if_pos e]
    have w : widthS l far a = 0 := by unfold widthS; rw [if_pos e]
    unfold headS cmdOf
    simp only
    rw [r, w, if_pos ⟨by rw [e]; rfl, in_yes (by omega) (by omega), rfl⟩]
  · have r : ruleS l a = 0 := by unfold ruleS; rw [if_neg (by omega)]
    have w : widthS l far a = 1 + nextS l (a + 1) (max (far.tdiv 2) 1) := by unfold widthS; rw [if_neg (by omega)]
    unfold headS cmdOf
    simp only
    rw [r, w, if_neg (by rw [e]; simp), if_pos ⟨by rw [e]; rfl, rfl, in_yes (by omega) (by omega)⟩]
theorem near_q (l : List Int) (far : Int) (a : Nat) (h : 1 ≤ far) : NearP (qS l far a) (far + 1) := by
  unfold qS
  split
  · exact near_z (by omega)
  split
  · have := near_point l (a + 7) far (by omega)
    unfold moveS
    unfold NearP at this
    split
    · unfold NearP; simp only; omega
    · unfold NearP; omega
  · have := next_in l (a + 7) far (by omega)
    unfold NearP; simp only; omega
theorem paint_right (l : List Int) (far : Int) (a : Nat) (cs : List Cl) (n m : Int) (h : 1 ≤ far) (hm : far + 1 ≤ m) (hn : ((colsOf l a cs).length : Int) ≤ n) : paintS (cmdOf l far a cs).paint n m = none := by
  have n3 := next_in l (a + 2) 3 (by omega)
  have a1 := add_in cs (colorS l (a + 3))
  have a2 := add_in (cols1 l a cs) (colorS l (a + 4))
  have a3 := addI_len (cols1 l a cs) (colorS l (a + 4))
  have q := far_no (near_le (near_q l far a h) hm)
  have nq := near_q l far a h
  have hz : zeroP zP := ⟨rfl, rfl⟩
  unfold paintS cmdOf
  simp only
  have k1 : inS (pkS l a) 0 2 = true := in_yes (by unfold pkS; omega) (by unfold pkS; omega)
  by_cases p0 : pkS l a = 0
  · have hc : colsOf l a cs = addI cs (colorS l (a + 3)) := by unfold colsOf; rw [if_pos p0]; rfl
    rw [hc] at hn
    have k2 : inS (addP cs (colorS l (a + 3))) 0 (n - 1) = true := in_yes a1.1 (by omega)
    have e1 : bS l a cs = 0 := by unfold bS; rw [if_pos p0]
    have e2 : pS l far a = zP := by unfold pS; rw [if_pos p0]
    have e3 : qS l far a = zP := by unfold qS; rw [if_pos p0]
    rw [k1, k2, e1, e2, e3, if_neg (by simp [p0]), if_pos p0, if_neg (by simp [hz])]
  · have hc : colsOf l a cs = addI (cols1 l a cs) (colorS l (a + 4)) := by unfold colsOf; rw [if_neg p0]
    rw [hc] at hn
    have hc1 : cols1 l a cs = addI cs (colorS l (a + 3)) := rfl
    rw [← hc1] at a1
    have k2 : inS (addP cs (colorS l (a + 3))) 0 (n - 1) = true := in_yes a1.1 (by omega)
    have e1 : bS l a cs = addP (cols1 l a cs) (colorS l (a + 4)) := by unfold bS; rw [if_neg p0]
    have e2 : pS l far a = pointS l (a + 5) far := by unfold pS; rw [if_neg p0]
    have k3 : inS (bS l a cs) 0 (n - 1) = true := in_yes (by omega) (by omega)
    have kp : farS (pS l far a) m = false := by rw [e2]; exact far_no (near_le (near_point l _ far (by omega)) (by omega))
    rw [k1, k2, k3, if_neg (by simp), if_neg p0, kp, if_neg (by simp)]
    by_cases p1 : pkS l a = 1
    · rw [if_pos p1, q, if_neg ?_]
      have e3 : qS l far a = moveS (pointS l (a + 5) far) (pointS l (a + 7) far) := by unfold qS; rw [if_neg p0, if_pos p1]
      intro o
      rcases o with o | o
      · cases o
      · rw [e2, e3] at o
        unfold moveS sameP at o
        split at o
        · rename_i g; simp only at o; omega
        · rename_i g; exact g o
    · have e3 : qS l far a = ⟨1 + nextS l (a + 7) far, 0⟩ := by unfold qS; rw [if_neg p0, if_neg p1]
      have nf := next_in l (a + 7) far (by omega)
      rw [if_neg p1, e3, if_neg (by rw [in_yes (by show 1 ≤ 1 + _; omega) (by show 1 + _ ≤ m; omega)]; simp), if_neg (by simp)]
theorem cmd_right (l : List Int) (far : Int) (a : Nat) (cs : List Cl) (n m : Int) (h : 1 ≤ far) (hm : far + 1 ≤ m) (hn : ((colsOf l a cs).length : Int) ≤ n) : cmdS (cmdOf l far a cs) n m = none := by
  have hp := cmd_paths l far a cs
  obtain ⟨k1, k2, _⟩ := pathsN_in l a
  unfold cmdS
  rw [head_right l far a cs m h (by omega), paint_right l far a cs n m h hm hn]
  simp only
  rw [if_neg (by omega), if_neg (by omega)]
  exact firstS_none.mpr (paths_right l far m (kindN l a) (by omega) (by omega) _ _)
theorem cmd_pts (l : List Int) (far : Int) (a : Nat) (cs : List Cl) : sumS' pathPts (cmdOf l far a cs).paths ≤ 39 := by
  have hp := cmd_paths l far a cs
  obtain ⟨k1, k2, _⟩ := pathsN_in l a
  have := sum_mem_le (f := pathPts) (c := 13) (l := (cmdOf l far a cs).paths) (paths_pts l far (kindN l a) _ _) (by omega) 3 (by omega)
  omega
theorem run_right (l : List Int) (far : Int) (h : 1 ≤ far) (m : Int) (hm : far + 1 ≤ m) : ∀ (n a : Nat) (cs : List Cl), cs.Nodup →
    (runS l far n a cs).1.length ≤ n ∧ cs.length ≤ (runS l far n a cs).2.1.length ∧ (runS l far n a cs).2.1.length ≤ cs.length + 2 * n ∧ (runS l far n a cs).2.1.Nodup ∧
    useAll cs.length (runS l far n a cs).1 = some ((runS l far n a cs).2.1.length : Int) ∧
    (∀ N : Int, ((runS l far n a cs).2.1.length : Int) ≤ N → ∀ c ∈ (runS l far n a cs).1, cmdS c N m = none) ∧
    (∀ c ∈ (runS l far n a cs).1, sumS' pathPts c.paths ≤ 39)
  | 0, a, cs, hd => ⟨Nat.le_refl _, Nat.le_refl _, by simp [runS], hd, rfl, (fun _ _ c hc => by cases hc), (fun c hc => by cases hc)⟩
  | n + 1, a, cs, hd => by
    rw [runS]
    split
    · obtain ⟨i1, i2, i3, i4, i5, i6, i7⟩ := run_right l far h m hm n (cmdEnd l a) (colsOf l a cs) (cols_nodup l a cs hd)
      have hcl := colsOf_len l a cs
      refine ⟨by simp; omega, by show cs.length ≤ _; simp only; omega, by simp only; omega, i4, ?_, fun N hN c hc => ?_, fun c hc => ?_⟩
      · simp only [useAll, cmd_uses]; exact i5
      · rcases List.mem_cons.mp hc with rfl | hc
        · simp only at hN; exact cmd_right l far a cs N m h hm (by omega)
        · exact i6 N hN c hc
      · rcases List.mem_cons.mp hc with rfl | hc
        · exact cmd_pts l far a cs
        · exact i7 c hc
    · exact ⟨Nat.zero_le _, Nat.le_refl _, by simp, hd, rfl, fun _ _ c hc => (by cases hc), fun c hc => (by cases hc)⟩
theorem sized_icon (l : List Int) (a : Nat) : sizedS (iconS l a) = true := by
  obtain ⟨b1, b2, b3, b4⟩ := icon_in l a
  unfold sizedS iconS
  simp only
  rw [in_yes b1.1 (by omega), in_yes b2.1 (by omega), in_yes b3.1 (by omega)]; rfl
theorem great_icon (l : List Int) (a : Nat) : greatS (iconS l a) = 4 * farS' l a := by
  unfold greatS
  rw [if_pos (sized_icon l a)]
  show 4 * max (wS l a) (hS l a) * 2 ^ (scS l a).toNat = 4 * (max (wS l a) (hS l a) * 2 ^ (scS l a).toNat)
  rw [Int.mul_assoc]
theorem cmdsN_in (l : List Int) (a : Nat) : 1 ≤ cmdsN l a ∧ cmdsN l a ≤ 4 := by
  have := next_in l (a + 3) 4 (by omega)
  unfold cmdsN; omega
theorem icon_right (l : List Int) (a : Nat) : checkS (iconS l a) = none ∧ (iconS l a).Fit := by
  obtain ⟨b1, b2, b3, b4⟩ := icon_in l a
  have k := cmdsN_in l a
  obtain ⟨i1, i2, i3, i4, i5, i6, i7⟩ := run_right l (farS' l a) b4.1 (greatS (iconS l a)) (by rw [great_icon]; omega) (cmdsN l a) (a + 4) [] List.nodup_nil
  have hx : runS l (farS' l a) (cmdsN l a) (a + 4) [] = iconRun l a := rfl
  rw [hx] at i1 i2 i3 i4 i5 i6 i7
  simp only [List.length_nil, Nat.zero_add] at i3
  have hcm : (iconS l a).cmds = (iconRun l a).1 := rfl
  have hco : (iconS l a).colors = (iconRun l a).2.1 := rfl
  have hcmd : ∀ c ∈ (iconS l a).cmds, cmdS c (iconS l a).colors.length (greatS (iconS l a)) = none := fun c hc => i6 _ (Int.le_refl _) c hc
  have hpts : pointsS (iconS l a) ≤ 39 * (4 : Nat) := sum_mem_le (f := fun c : Cmd => sumS' pathPts c.paths) i7 (by omega) 4 (by omega)
  refine ⟨?_, by rw [hco]; omega, by rw [hcm]; omega, fun c hc => ?_⟩
  · unfold checkS
    rw [if_neg (by rw [sized_icon]; simp), if_neg (by rw [hco, hcm]; omega), firstS_none.mpr hcmd]
    simp only
    rw [if_neg (by omega), if_neg ?_]
    unfold usedS
    rw [hcm, hco]
    have : useAll 0 (iconRun l a).1 = some ((iconRun l a).2.1.length : Int) := i5
    rw [this]
    simp only
    rw [once_nodup _ [] (by rw [List.nil_append]; exact i4)]
    simp
  · obtain ⟨c1, c2, c3, c4, c5⟩ := cmdS_none (hcmd c hc)
    exact ⟨by omega, fun p hp => by have := (pathS_none (c5 p hp)).1; omega⟩
end
end Go.VL.Mk

/- What is made: its colors, its sizes. -/
namespace Go.VL.Mk
open Go.FR Go.IR Go.VL Go.VL.Color Go.VL.Wind Go.VL.Ic Go.VL.Pal
noncomputable section
set_option linter.unusedSimpArgs false
set_option linter.unusedVariables false

theorem color_in (l : List Int) (a : Nat) : (colorS l a).In := by
  unfold colorS
  have : ∀ k, (palS.getD k ⟨0, 0, 0, 0⟩).In := fun k => by
    rcases Nat.lt_or_ge k 7 with h | h
    · have : ∀ k : Fin 7, (palS.getD k.val ⟨0, 0, 0, 0⟩).In := by unfold Cl.In; decide
      exact this ⟨k, h⟩
    · rw [List.getD_eq_getElem?_getD, List.getElem?_eq_none (by simpa [palS] using h)]; unfold Cl.In; simp
  exact this _
theorem addI_in {cs : List Cl} {c : Cl} (h : ∀ x ∈ cs, x.In) (hc : c.In) : ∀ x ∈ addI cs c, x.In := by
  unfold addI
  split
  · exact h
  · intro x hx
    rcases List.mem_append.mp hx with hx | hx
    · exact h x hx
    · rw [List.mem_singleton.mp hx]; exact hc
theorem cols_in {l : List Int} {a : Nat} {cs : List Cl} (h : ∀ x ∈ cs, x.In) : ∀ x ∈ colsOf l a cs, x.In := by
  have h1 : ∀ x ∈ cols1 l a cs, x.In := addI_in h (color_in _ _)
  unfold colsOf
  split
  · exact h1
  · exact addI_in h1 (color_in _ _)
theorem run_cols (l : List Int) (far : Int) : ∀ (n a : Nat) (cs : List Cl), (∀ x ∈ cs, x.In) → ∀ x ∈ (runS l far n a cs).2.1, x.In
  | 0, a, cs, h => h
  | n + 1, a, cs, h => by
    rw [runS]
    split
    · exact run_cols l far n _ _ (cols_in h)
    · exact h
theorem icon_cols (l : List Int) (a : Nat) : ∀ c ∈ (iconS l a).colors, c.In := run_cols l (farS' l a) (cmdsN l a) (a + 4) [] (fun x hx => by cases hx)
end
end Go.VL.Mk

/- Icons, closed piece by piece. -/
namespace Go.VL.Ic
open Go.FR Go.IR Go.VL Go.VL.Er Go.VL.Color Go.VL.Wind
noncomputable section
set_option linter.unusedSimpArgs false
set_option linter.unusedVariables false
set_option maxRecDepth 100000
set_option maxHeartbeats 1000000
variable {g : Nat → Option VB}

theorem shut_icon {W H S : Int} {vc vk : VV} {cols : List Cl} {cmds : List Cmd} (h1 : yzb g vc (.fsl (xzm cCl cols) cols.length 4)) (h2 : yzb g vk (.fsl (xzm cCmd cmds) cmds.length 11)) :
    xzR g [.agg [.int .i64 W, .int .i64 H, .int .i64 S, vc, vk]] [.agg (cIcon ⟨W, H, S, cols, cmds⟩)] :=
  xzR.cons (yzb.agg (xzR.cons (yzb.closed rfl) (xzR.cons (yzb.closed rfl) (xzR.cons (yzb.closed rfl) (xzR.cons h1 (xzR.cons h2 xzR.nil)))))) xzR.nil
theorem shut_nil {e : Nat} : yzb g .nilS (.fsl [] 0 e) := yzb.closed_sub rfl (.inr ⟨e, rfl⟩)
end
end Go.VL.Ic

/- 'glyphiclaw6.EncodeRuns' answers true, whatever it is given. -/
namespace Go.VL.En
open Go.FR Go.IR Go.VL Go.VL.Color Go.VL.Wind Go.VL.Ic Go.VL.Wire
noncomputable section
set_option linter.unusedSimpArgs false
set_option linter.unusedVariables false
set_option maxRecDepth 100000
set_option maxHeartbeats 1000000

theorem first6_ok {Gl : xzv} (hG : IcG Gl) : xzK Go.VL.Er.E Gl f_glyphiclaw6_first [] (.bool true) := by
  refine xzx (xze E_glyphiclaw6_first ?_)
  unfold c_glyphiclaw6_first r_glyphiclaw6_first
  simp only [xzC]
  have bk := bytes_ok hG ⟨1, 1, 0, [], []⟩ ⟨by simp, by simp, fun c hc => by cases hc⟩ (by decide) (fun c hc => by cases hc) (fun _ => []) (m := 0) (by omega) (fun c hc => by cases hc) (by simp)
  have hl : (bytesS (fun _ => []) ⟨1, 1, 0, [], []⟩).length = 9 := by
    have p0 : putS 0 = [0] := putS_lt (by omega)
    have p1 : putS 1 = [1] := putS_lt (by omega)
    simp [bytesS, numsB, colorsB, p0, p1]
  rw [hl] at bk
  simp only [qzj, qzn, qzi, qzf, qzd, qze, qzp, qzN, qzc, qzb, qzg, qzh, qzy, qzm, qzl, qzs, qza, qzr, qzu, qzx, xzL, xzA, qzS, cvs, cv, h0, VV.cells, ntV, ↓reduceIte, List.length_cons, List.length_nil, List.drop_succ_cons, List.drop_zero, List.take_succ_cons, List.take_zero, List.nil_append, List.cons_append, Nat.reduceAdd, Nat.reduceLeDiff, Nat.zero_add, and_self, t_p_api_At, t_p_errors_errorString]
  refine call_deepL_refs bk (shut_icon shut_nil shut_nil) ?_
  simp only [qzj, qzn, qzi, qzf, qzd, qze, qzp, qzN, qzz, qzc, qzb, qzg, qzh, qzy, qzm, qzl, qzs, qza, qzr, qzu, qzx, extV, cv, ↓reduceIte, List.getElem?_cons_zero, List.getElem?_cons_succ, Nat.reduceEqDiff]
  refine call_plain_sub (a0 := [.nilS]) (runs_nil Gl) rfl ⟨_, _, rfl, .inr ⟨7, rfl⟩, rfl⟩ rfl ?_
  have z9 : ((9 : Nat) : Int) = 9 := rfl
  simp only [qzF, qzi, qzf, qzd, qze, qzp, qzJ, qzz, qzK, qzc, qzk, qzb, qzg, qzh, qzm, qzl, qzs, qza, qzr, qzu, qzx, xzl, xzd, qzL, xzU, xzV, eqIV, cv, qzG, qzH, toA, ofA, FR.pop, abin, intBin, qzQ, qzM, qzV, qzP, ↓reduceIte, Nat.reduceEqDiff, Bool.false_eq_true, beq_self_eq_true, z9]
  exact qzt rfl

def kindOf (z : Int) : Int := (z.tmod 3 + 3).tmod 3 + 1
def kseg (z : Int) : Seg := ⟨kindOf z, ⟨0, 0⟩, ⟨0, 0⟩, ⟨0, 0⟩⟩
end
end Go.VL.En

/- 'glyphiclaw6.EncodeUnlike' answers true, whatever it is given. -/
namespace Go.VL.En
open Go.FR Go.IR Go.VL Go.VL.Color Go.VL.Wind Go.VL.Ic Go.VL.Wire
noncomputable section
set_option linter.unusedSimpArgs false
set_option linter.unusedVariables false
set_option maxRecDepth 100000
set_option maxHeartbeats 1000000

theorem bytes_le {i : Icon} (h : IconR i) : (bytesS cmdB i).length ≤ 400000 := by
  have h1 := cmds_len h
  have h2 := numsB_le [i.w.toNat, i.h.toNat, i.scale.toNat, i.colors.length] (by have := h.w; have := h.h; have := h.s; have := h.cs; simp; omega)
  have h3 := numsB_le [i.cmds.length] (by have := h.cl; simp; omega)
  have h4 := colorsB_len i.colors
  have := h.cs
  unfold bytesS
  simp only [List.length_append, List.length_cons, List.length_nil] at h1 h2 h3 h4 ⊢
  omega
/-- Alike as far as the shorter one goes: just if they are the same. -/
theorem unlike {a b : Icon} (ha : IconR a) (hb : IconR b) (n : Nat) (hn : n = min (bytesS cmdB a).length (bytesS cmdB b).length) : decide ((bytesS cmdB a).take n = (bytesS cmdB b).take n) = decide (a = b) := by
  by_cases e : a = b
  · subst e; simp
  · have : ¬ (bytesS cmdB a).take n = (bytesS cmdB b).take n := fun q => by
      rcases Nat.le_total (bytesS cmdB a).length (bytesS cmdB b).length with l | l
      · obtain rfl : n = (bytesS cmdB a).length := by omega
        rw [List.take_length] at q
        have := List.take_append_drop (bytesS cmdB a).length (bytesS cmdB b)
        rw [← q] at this
        exact e (icon_inj (s := List.drop (bytesS cmdB a).length (bytesS cmdB b)) (t := []) ha hb (by rw [List.append_nil]; exact this)).1
      · obtain rfl : n = (bytesS cmdB b).length := by omega
        rw [List.take_length] at q
        have := List.take_append_drop (bytesS cmdB b).length (bytesS cmdB a)
        rw [q] at this
        exact e (icon_inj (s := []) (t := List.drop (bytesS cmdB b).length (bytesS cmdB a)) ha hb (by rw [List.append_nil]; exact this.symm)).1
    rw [decide_eq_false e, decide_eq_false this]
theorem unlike_run {Gl : xzv} (hG : IcG Gl) (l m : List Int) :
    CallsV Go.VL.Er.E Gl f_glyphiclaw6_EncodeUnlike [.fsl (l.map (VV.int .i64)) l.length 1, .fsl (m.map (VV.int .i64)) m.length 1] h0 (fun v _ => v = .bool true) := by
  refine xze E_glyphiclaw6_EncodeUnlike ?_
  unfold c_glyphiclaw6_EncodeUnlike r_glyphiclaw6_EncodeUnlike
  simp only [xzC]
  simp only [qzj, qzn, qzi, qzf, qzd, qze, qzp, qzN, qzc, qzb, qzg, qzh, qzy, qzm, qzl, qzs, qzr, qzu, qzx, cv, h0, Nat.zero_add, t_p_api_At, t_p_errors_errorString]
  refine xzb (first6_ok hG) rfl rfl ?_
  by_cases h1 : (l.length : Int) > 200
  · simp only [qzA, qzj, qzn, qzF, qzw, qzo, qzi, qzT, qzf, qzd, qze, xzo, qzp, qzZ, qzN, qzz, qzK, qzc, qzE, qzb, qzg, qzh, qzR, qzy, qzm, qzl, qzs, qza, qzr, qzu, qzx, xzl, xzd, xzk, xzJ, xzL, xzA, qzS, cvs, cv, qzG, qzH, toA, ofA, FR.pop, abin, aun, intBin, VN.at, VH.push, VV.cells, ntV, qzQ, qzM, qzV, qzP, qzO, ↓reduceIte, List.length_cons, List.length_nil, List.drop_succ_cons, List.drop_zero, List.take_zero, List.nil_append, List.cons_append, Nat.reduceAdd, Nat.reduceEqDiff, reduceCtorEq, Nat.reduceLeDiff, Nat.zero_add, and_self, Bool.not_true, Bool.false_eq_true, beq_false, decide_true, forall_const, false_implies, Bool.true_eq_false, reduceCtorEq, h1] <;> first | rfl | exact ⟨rfl, rfl⟩ | exact qzt rfl
  by_cases h2 : (m.length : Int) > 200
  · simp only [qzA, qzj, qzn, qzF, qzw, qzo, qzi, qzT, qzf, qzd, qze, qzp, qzZ, qzN, qzz, qzK, qzc, qzE, qzb, qzg, qzh, qzR, qzy, qzm, qzl, qzs, qza, qzr, qzu, qzx, xzl, xzd, xzk, xzJ, xzL, xzA, qzS, cvs, cv, qzG, qzH, toA, ofA, FR.pop, abin, aun, intBin, VN.at, VH.push, VV.cells, ntV, qzQ, qzM, qzV, qzP, ↓reduceIte, List.length_cons, List.length_nil, List.drop_succ_cons, List.drop_zero, List.take_zero, List.nil_append, List.cons_append, Nat.reduceAdd, Nat.reduceEqDiff, reduceCtorEq, Nat.reduceLeDiff, Nat.zero_add, and_self, Bool.not_true, Bool.false_eq_true, beq_self_eq_true, decide_true, decide_false, forall_const, false_implies, Bool.true_eq_false, reduceCtorEq, h1, h2] <;> first | rfl | exact ⟨rfl, rfl⟩ | exact qzt rfl
  have hl : l.length < 4611686018427387904 := by omega
  have hm : m.length < 4611686018427387904 := by omega
  simp only [qzA, qzj, qzn, qzF, qzw, qzo, qzi, qzT, qzf, qzd, qze, qzp, qzZ, qzN, qzz, qzK, qzc, qzE, qzb, qzg, qzh, qzR, qzy, qzm, qzl, qzs, qza, qzr, qzu, qzx, xzl, xzd, xzk, xzJ, xzL, xzA, qzS, cvs, cv, qzG, qzH, toA, ofA, FR.pop, abin, aun, intBin, VN.at, VH.push, VV.cells, ntV, qzQ, qzM, qzV, qzP, ↓reduceIte, List.length_cons, List.length_nil, List.drop_succ_cons, List.drop_zero, List.take_zero, List.nil_append, List.cons_append, Nat.reduceAdd, Nat.reduceEqDiff, reduceCtorEq, Nat.reduceLeDiff, Nat.zero_add, and_self, true_and, Bool.not_true, Bool.false_eq_true, beq_self_eq_true, decide_false, forall_const, false_implies, reduceCtorEq, h1, h2]
  refine call_shut1 (Mk.icon_ok Gl l 0 0 hl (by omega)) (by simp only [qza, ↓reduceIte]; rfl) rfl ?_
  simp only [qzj, qzn, qzi, qzf, qzd, qze, qzp, qzZ, qzN, qzz, qzc, qzE, qzb, qzU, qzg, qzh, qzR, qzW, qzy, qzm, qzl, qzs, qza, qzr, qzu, qzx, xzk, xzJ, xzL, xzA, qzS, xza, xzn, cvs, cv, VN.at, VH.push, VH.set, qzq, VV.cells, ntV, qzO, xzy, ↓reduceIte, Option.getD_some, List.length_cons, List.length_nil, List.drop_succ_cons, List.drop_zero, List.take_zero, List.append_nil, List.nil_append, List.cons_append, List.head?_cons, Nat.reduceAdd, Nat.reduceEqDiff, reduceCtorEq, Nat.reduceLeDiff, Nat.zero_add, and_self, reduceCtorEq, cIcon]
  refine call_shut1 (Mk.icon_ok Gl m 0 2 hm (by omega)) (by simp only [qza, ↓reduceIte]; rfl) rfl ?_
  obtain ⟨r1, f1⟩ := Mk.icon_right l 0
  obtain ⟨r2, f2⟩ := Mk.icon_right m 0
  have k1 := bytes_right hG _ f1 r1 (Mk.icon_cols l 0)
  have k2 := bytes_right hG _ f2 r2 (Mk.icon_cols m 0)
  have q1 := icon_r r1
  have q2 := icon_r r2
  have sm := Sm.icon_ok Gl (Mk.iconS l 0) (Mk.iconS m 0) f1
  generalize Mk.iconS l 0 = A at *
  generalize Mk.iconS m 0 = B at *
  have e := unlike q1 q2 _ rfl
  have inj : A = B → (bytesS cmdB A).length = (bytesS cmdB B).length := fun e => by rw [e]
  have l1 := bytes_le q1
  have l2 := bytes_le q2
  generalize bytesS cmdB A = X at *
  generalize bytesS cmdB B = Y at *
  simp only [qzj, qzn, qzi, qzf, qzd, qze, qzJ, qzZ, qzN, qzz, qzk, qzE, qzb, qzU, qzg, qzh, qzR, qzW, qzy, qzm, qzl, qzs, qza, qzr, qzL, qzC, xzk, qzS, xza, xzn, qzB, cvs, cv, VN.at, VH.push, VH.set, qzq, VV.cells, ntV, qzO, xzy, ↓reduceIte, Option.getD_some, List.length_cons, List.length_nil, List.drop_succ_cons, List.drop_zero, List.take_succ_cons, List.take_zero, List.append_nil, List.nil_append, List.head?_cons, Nat.reduceAdd, Nat.reduceEqDiff, Nat.reduceLeDiff, Nat.zero_add, and_self, cIcon]
  refine call_refs k1 rfl rfl ?_
  simp only [qzj, qzn, qzi, qzf, qzd, qze, qzp, qzJ, qzN, qzz, qzc, qzk, qzb, qzg, qzh, qzy, qzm, qzl, qzs, qza, qzr, qzu, qzx, extV, qzL, qzC, qzB, VH.fix, qzq, yza, xzZ, ↓reduceIte, Option.getD_some, List.getElem?_cons_zero, List.getElem?_cons_succ, List.length_cons, List.length_nil, List.drop_zero, List.take_succ_cons, List.take_zero, List.append_nil, Nat.reduceAdd, Nat.reduceEqDiff, Nat.reduceLeDiff, Nat.zero_add]
  refine call_refs k2 rfl rfl ?_
  simp only [qzA, qzj, qzn, qzF, qzw, qzo, qzi, qzT, qzf, qzd, qze, qzp, qzJ, qzN, qzz, qzK, qzc, qzk, qzb, qzg, qzh, qzy, qzm, qzl, qzs, qza, qzr, qzu, qzx, xzl, extV, qzL, qzC, xzU, xzV, eqIV, qzB, cv, VH.fix, qzq, qzQ, qzM, qzV, qzP, yza, xzZ, ↓reduceIte, Option.getD_some, List.getElem?_cons_zero, List.getElem?_cons_succ, List.length_cons, List.length_nil, List.drop_zero, List.take_succ_cons, List.take_zero, List.append_nil, Nat.reduceAdd, Nat.reduceEqDiff, Nat.reduceLeDiff, Nat.zero_add, true_and, Bool.not_true, Bool.false_eq_true, beq_self_eq_true, forall_const, false_implies]
  refine xzb sm rfl rfl ?_
  obtain ⟨n, hn⟩ : ∃ n, n = min X.length Y.length := ⟨_, rfl⟩
  rw [← hn] at e
  have mn : (if (Y.length : Int) < (X.length : Int) then (Y.length : Int) else (X.length : Int)) = (n : Int) := by split <;> omega
  have zn := xzu .i64 n
  have n1 : n ≤ X.length := by omega
  have n2 : n ≤ Y.length := by omega
  have ft := flatL_take cB_len n X
  have fu := flatL_take cB_len n Y
  have lx : (X.take n).length = n := by rw [List.length_take]; omega
  have ly : (Y.take n).length = n := by rw [List.length_take]; omega
  have sb := samesB_ok Gl (X.take n) (Y.take n) (by omega)
  rw [lx, ly, e] at sb
  simp only [qzj, xzD, qzn, qzi, qzf, qzd, qze, qzp, qzz, xzj, xzc, xzw, xzQ, qzc, qzb, qzg, qzh, xzs, xzt, qzy, qzm, qzl, qzs, qza, qzr, qzu, qzx, xzd, slV, yzd, qzG, qzH, toA, ofA, FR.pop, min2A, foldA, countN, ↓reduceIte, List.drop_zero, Nat.reduceEqDiff, beq_self_eq_true, mn, zn, n1, n2, ft, fu, Nat.sub_zero, Nat.zero_mul]
  refine xzb sb rfl rfl ?_
  by_cases ab : A = B
  · have li := inj ab
    have z : ((X.length : Int) == (Y.length : Int)) = true := by simp; omega
    rw [decide_eq_true ab]
    simp only [qzF, qzi, xzE, xzj, xzc, xzw, xzN, xzM, qzK, qzc, qzk, qzb, xzs, xzt, qzm, qzl, qzs, qza, qzr, qzu, qzx, xzl, xzd, qzL, xzU, xzV, xzY, eqBool, cv, qzG, qzH, toA, ofA, FR.pop, abin, aun, intBin, qzQ, qzM, qzV, qzP, xzG, xzP, xzT, xzH, xzO, yza, xzZ, ↓reduceIte, Option.map_some, List.append_nil, Nat.reduceEqDiff, and_self, Bool.and_self, Bool.not_true, Bool.false_eq_true, beq_self_eq_true, z] <;> first | rfl | exact ⟨rfl, rfl⟩ | exact qzt rfl
  · rw [decide_eq_false ab]
    simp only [qzF, qzi, xzE, xzj, xzc, wpXG_false, xzw, xzN, xzM, qzK, qzc, qzk, qzb, xzs, xzt, qzm, qzl, qzs, qza, qzr, qzu, qzx, xzl, qzL, xzU, xzV, xzY, eqBool, cv, qzG, qzH, toA, ofA, FR.pop, aun, qzQ, qzM, qzV, qzP, qzO, xzG, xzP, xzT, xzH, xzO, yza, xzZ, ↓reduceIte, Option.map_some, List.append_nil, Nat.reduceEqDiff, and_self, Bool.and_self, Bool.not_false, Bool.not_true, Bool.false_eq_true, beq_self_eq_true, beq_false] <;> first | rfl | exact ⟨rfl, rfl⟩ | exact qzt rfl
theorem encodeUnlike (Gl : xzv) (hG : IcG Gl) (l : List Int) (_ : ∀ z ∈ l, IntKind.i64.min ≤ z ∧ z ≤ IntKind.i64.max) (_ : l.length ≤ 9223372036854775807) (m : List Int) (_ : ∀ z ∈ m, IntKind.i64.min ≤ z ∧ z ≤ IntKind.i64.max) (_ : m.length ≤ 9223372036854775807) :
    CallsV Go.VL.Er.E Gl f_glyphiclaw6_EncodeUnlike [.fsl (l.map (VV.int .i64)) l.length 1, .fsl (m.map (VV.int .i64)) m.length 1] h0 (fun v _ => v = .bool true) := unlike_run hG l m
end
end Go.VL.En
