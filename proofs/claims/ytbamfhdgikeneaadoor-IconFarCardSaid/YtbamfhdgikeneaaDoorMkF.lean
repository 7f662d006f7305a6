import Derived.Test.YtbamfhdgikeneaaDoorMkE
import Derived.Test.YtbamfhdgikeneaaDoorIcD
import Derived.Test.YtbamfhdgikeneaaDoorErB
/- An icon. -/
namespace Go.VL.Mk
open Go.FR Go.IR Go.VL Go.VL.Color Go.VL.Wind Go.VL.Ic
noncomputable section
set_option linter.unusedSimpArgs false
set_option linter.unusedVariables false
set_option maxRecDepth 100000
set_option maxHeartbeats 1000000

def runS (l : List Int) (far : Int) : Nat → Nat → List Cl → List Cmd × List Cl × Nat
  | 0, a, cs => ([], cs, a)
  | n + 1, a, cs => if a < l.length then (cmdOf l far a cs :: (runS l far n (cmdEnd l a) (colsOf l a cs)).1, (runS l far n (cmdEnd l a) (colsOf l a cs)).2) else ([], cs, a)
theorem cmds_loop (Gl : xzE) (l : List Int) (far : Int) (i r0 b0 base : Nat) (hl : l.length < 4611686018427387904) (hf : 0 < far) (hb : far < 1000000) (hi0 : i ≠ b0) (hi1 : i < base) (hb0 : b0 < base) (hr0 : r0 < base) (hri : r0 ≠ i) (hrb : r0 ≠ b0) (W H S : VV) (zr : Option (Option VB)) (R : List Cmd × List Cl × Nat) (K : AEx → VF → VH → Prop)
    (hK : ∀ T h v vc j j2 L, L.map Prod.fst = R.1 → qzx T 2 = some (.ptr r0 0) → qzx T 3 = some (.ptr b0 0) → qzx h.l i = some (some (bSeq l R.2.2)) → qzx h.l b0 = some (some (.cells [W, H, S, v, vc] false)) → yzp base h j cCl R.2.1 4 v → yzp base h j2 fO L 11 vc → Lies base h j j2 v vc L → base ≤ h.next → qzx h.l r0 = zr → K (.exit 0) T h) :
    ∀ (n a : Nat) (cs : List Cl) (L : List (Cmd × Nat)) (T : VF) (h : VH) (v vc : VV) (j j2 : Nat), R = (L.map Prod.fst ++ (runS l far n a cs).1, (runS l far n a cs).2) → a + 150 * n + 200 < 1000000 → cs.length + 2 * n < 90000 → L.length + n < 90000 → n < 1000 →
      qzx T 0 = some (.ptr i 0) → qzx T 2 = some (.ptr r0 0) → qzx T 3 = some (.ptr b0 0) → qzx T 4 = some (.int .i64 far) → qzx T 5 = some (.int .i64 ((n : Int) - 1)) →
      qzx h.l i = some (some (bSeq l a)) → qzx h.l b0 = some (some (.cells [W, H, S, v, vc] false)) → yzp base h j cCl cs 4 v → yzp base h j2 fO L 11 vc → Lies base h j j2 v vc L → (j ≠ j2 ∨ v = .nilS ∨ vc = .nilS) → base ≤ h.next → qzx h.l r0 = zr →
    wp Go.VL.Er.E Gl (.loop c_glyphicmake_Icon_l1) T h K := by
  intro n
  induction n with
  | zero =>
    intro a cs L T h v vc j j2 hR k1 k2 k3 k4 t0 t2 t3 t4 t5 s1 s2 q1 q2 q3 qj hn hz
    refine xzz c_glyphicmake_Icon_l1.eq_1 ?_
    have c1 : ¬ ((0 : Nat) : Int) - 1 ≥ 0 := by omega
    simp only [qzA, qzl, qzo, qzB, qzZ, qzr, qzk, qzi, xzg, qzY, qzf, qzd, qze, xza, qzq, qzL, qzc, qzb, qzg, qzh, qzu, qzn, qzm, qzt, qza, qzs, qzv, qzy, xzq, cv, qzJ, qzI, toA, ofA, FR.pop, abin, intBin, qzQ, ↓reduceIte, Nat.reduceEqDiff, reduceCtorEq, true_and, Bool.false_eq_true, beq_true, decide_false, forall_const, false_implies, reduceCtorEq, t0, t5, c1]
    simp only [runS, List.append_nil] at hR
    refine hK _ h v vc j j2 L (by rw [hR]) ?_ ?_ (by rw [hR]; exact s1) s2 (by rw [hR]; exact q1) q2 q3 hn hz
    · simp only [qza, ↓reduceIte, Nat.reduceEqDiff, t2]
    · simp only [qza, ↓reduceIte, Nat.reduceEqDiff, t3]
  | succ n ih =>
    intro a cs L T h v vc j j2 hR k1 k2 k3 k4 t0 t2 t3 t4 t5 s1 s2 q1 q2 q3 qj hn hz
    have e : ((n + 1 : Nat) : Int) - 1 = (n : Int) := by omega
    rw [e] at t5
    by_cases c : a < l.length
    · have hc := cmdEnd_le l a
      have hcl := colsOf_len l a cs
      rw [runS, if_pos c] at hR
      refine cmd_step Gl l far i r0 b0 base hl hf hb hi0 hi1 hb0 hr0 hri hrb W H S .nilS a cs L n T h v vc j j2 K (by omega) (by omega) (by omega) c t0 t2 t3 t4 t5 (by omega) s1 s2 q1 q2 q3 qj hn ?_
      intro T' h' v' vc' j' j2' jp u0 u2 u3 u4 u5 p1 p2 p3 p4 p5 p6 p7 p8
      refine ih (cmdEnd l a) (colsOf l a cs) (L ++ [(cmdOf l far a cs, jp)]) T' h' v' vc' j' j2' ?_ (by omega) (by omega) (by simp; omega) (by omega) u0 u2 u3 u4 u5 p1 p2 p3 p4 p5 p6 p7 (p8.trans hz)
      rw [hR, List.map_append, List.append_assoc]; rfl
    · refine xzz c_glyphicmake_Icon_l1.eq_1 ?_
      have c1 : (n : Int) ≥ 0 := by omega
      have dal : decide (a < l.length) = false := decide_eq_false c
      rw [runS, if_neg c] at hR
      simp only [List.append_nil] at hR
      simp only [qzl, qzo, qzd, qze, qzq, qzL, qzc, qzb, qzg, qzh, qzu, qzn, qzm, qzt, qza, qzs, qzv, qzy, cv, qzJ, qzI, toA, ofA, FR.pop, abin, intBin, ↓reduceIte, Nat.reduceEqDiff, reduceCtorEq, beq_self_eq_true, decide_true, reduceCtorEq, t0, t5, c1]
      refine xzU (more_ok Gl l a i) s1 rfl rfl ?_
      simp only [qzA, qzl, qzo, qzB, qzZ, qzr, qzk, qzi, xzg, qzY, qzf, qzd, qze, qzq, qzL, qzz, qzc, qzb, qzg, qzh, qzu, qzn, qzm, qzt, qza, qzs, qzv, qzy, xzq, cv, ↓reduceIte, Nat.reduceEqDiff, reduceCtorEq, true_and, Bool.false_eq_true, forall_const, false_implies, reduceCtorEq, cSeq, bSeq, t0, dal]
      have f : ∀ k, qzx ((i, some (bSeq l a)) :: h.l) k = qzx h.l k := fun k => by
        simp only [qza]
        by_cases e : i = k
        · rw [if_pos e, ← e]; exact s1.symm
        · rw [if_neg e]
      refine hK _ _ v vc j j2 L (by rw [hR]) ?_ ?_ (by rw [hR]; exact (f i).trans s1) ((f b0).trans s2) (by rw [hR]; exact q1.ext (Nat.le_refl _) (fun _ _ => f j)) (q2.ext (Nat.le_refl _) (fun _ _ => f j2)) (fun p hp => by rw [f]; exact q3 p hp) hn ((f r0).trans hz)
      · simp only [qza, ↓reduceIte, Nat.reduceEqDiff, t2]
      · simp only [qza, ↓reduceIte, Nat.reduceEqDiff, t3]
def wS (l : List Int) (a : Nat) : Int := 1 + nextS l a 24
def hS (l : List Int) (a : Nat) : Int := 1 + nextS l (a + 1) 24
def scS (l : List Int) (a : Nat) : Int := nextS l (a + 2) 7
def farS' (l : List Int) (a : Nat) : Int := max (wS l a) (hS l a) * 2 ^ (scS l a).toNat
def cmdsN (l : List Int) (a : Nat) : Nat := (nextS l (a + 3) 4).toNat + 1
def iconRun (l : List Int) (a : Nat) : List Cmd × List Cl × Nat := runS l (farS' l a) (cmdsN l a) (a + 4) []
def iconS (l : List Int) (a : Nat) : Icon := ⟨wS l a, hS l a, scS l a, (iconRun l a).2.1, (iconRun l a).1⟩
def iconEnd (l : List Int) (a : Nat) : Nat := (iconRun l a).2.2
theorem icon_in (l : List Int) (a : Nat) : (1 ≤ wS l a ∧ wS l a ≤ 24) ∧ (1 ≤ hS l a ∧ hS l a ≤ 24) ∧ (0 ≤ scS l a ∧ scS l a ≤ 6) ∧ (1 ≤ farS' l a ∧ farS' l a ≤ 24 * 64) := by
  have h1 := next_in l a 24 (by omega)
  have h2 := next_in l (a + 1) 24 (by omega)
  have h3 := next_in l (a + 2) 7 (by omega)
  have w : 1 ≤ wS l a ∧ wS l a ≤ 24 := by unfold wS; omega
  have h : 1 ≤ hS l a ∧ hS l a ≤ 24 := by unfold hS; omega
  have s : 0 ≤ scS l a ∧ scS l a ≤ 6 := by unfold scS; omega
  refine ⟨w, h, s, ?_⟩
  unfold farS'
  have : ∀ s : Fin 7, (1:Int) ≤ 2 ^ s.val ∧ (2:Int) ^ s.val ≤ 64 := by decide
  have q := this ⟨(scS l a).toNat, by omega⟩
  simp only at q
  generalize (2:Int) ^ (scS l a).toNat = z at q
  have e : 1 ≤ max (wS l a) (hS l a) ∧ max (wS l a) (hS l a) ≤ 24 := by omega
  generalize max (wS l a) (hS l a) = m at e
  have p := Int.mul_le_mul e.1 q.1 (by omega) (by omega)
  exact ⟨by omega, Int.mul_le_mul e.2 q.2 (by omega) (by omega)⟩
theorem icon_ok (Gl : xzE) (l : List Int) (a : Nat) (i : Nat) (hl : l.length < 4611686018427387904) (ha : a < 1000) :
    StShut Go.VL.Er.E Gl f_glyphicmake_Icon [.ptr i 0] [(i, bSeq l a)] (.agg (cIcon (iconS l a))) [(i, bSeq l (iconEnd l a))] := by
  refine shut1_intro fun nx hn => xzp E_glyphicmake_Icon ?_
  unfold c_glyphicmake_Icon r_glyphicmake_Icon
  simp only [xzW]
  have h1 := next_in l a 24 (by omega)
  have h2 := next_in l (a + 1) 24 (by omega)
  have h3 := next_in l (a + 2) 7 (by omega)
  have h4 := next_in l (a + 3) 4 (by omega)
  obtain ⟨b1, b2, b3, b4⟩ := icon_in l a
  have e1 : ¬ nx = i := by omega
  have e2 : ¬ i = nx := by omega
  have e3 : ¬ nx + 1 = nx := by omega
  have e4 : ¬ nx = nx + 1 := by omega
  have e5 : ¬ nx + 1 = i := by omega
  have e6 : ¬ i = nx + 1 := by omega
  have w1 : IntKind.i64.wrap (1 + nextS l a 24) = wS l a := xzu (by omega) (by omega)
  have w2 : IntKind.i64.wrap (1 + nextS l (a + 1) 24) = hS l a := xzu (by omega) (by omega)
  have w3 : IntKind.u64.wrap (scS l a) = scS l a := by
    have : ∀ s : Fin 7, IntKind.u64.wrap ((s.val : Nat) : Int) = ((s.val : Nat) : Int) := by decide
    have q := this ⟨(scS l a).toNat, by omega⟩
    simp only at q
    rwa [Int.toNat_of_nonneg b3.1] at q
  have mm : (if hS l a > wS l a then hS l a else wS l a) = max (wS l a) (hS l a) := by split <;> omega
  have m64 : min (scS l a).toNat IntKind.i64.bits = (scS l a).toNat := by show min _ 64 = _; omega
  have nn : ¬ scS l a < 0 := by omega
  have w4 : IntKind.i64.wrap (max (wS l a) (hS l a) * 2 ^ (scS l a).toNat) = farS' l a := xzu (by unfold farS' at b4; omega) (by unfold farS' at b4; omega)
  simp only [qzl, qzo, qzi, qzf, qzd, qze, qzq, xzb, qzL, qzc, qzC, qzb, qzg, qzh, qzT, qzu, qzn, qzm, qzt, qza, qzs, qzv, qzy, xzo, cvs, cv, VN.at, VH.push, ↓reduceIte, reduceCtorEq, reduceCtorEq, cSeq, bSeq, cIcon]
  refine xzU (next_ok Gl l a 24 i hl (by omega) (by omega) (by omega)) (by simp only [qza, ↓reduceIte, cSeq, bSeq, e1]) rfl rfl ?_
  simp only [qzd, qze, qzq, qzL, qzz, qzc, qzb, qzg, qzh, qzu, qzn, qzm, qzt, qza, qzs, qzv, qzy, cv, qzJ, qzI, toA, ofA, FR.pop, abin, intBin, ↓reduceIte, reduceCtorEq, reduceCtorEq, cSeq, bSeq, w1]
  refine xzU (next_ok Gl l (a + 1) 24 i hl (by omega) (by omega) (by omega)) (by simp only [qza, ↓reduceIte, cSeq, bSeq]) rfl rfl ?_
  simp only [qzd, qze, qzq, qzL, qzz, qzc, qzb, qzg, qzh, qzu, qzn, qzm, qzt, qza, qzs, qzv, qzy, cv, qzJ, qzI, toA, ofA, FR.pop, abin, intBin, ↓reduceIte, reduceCtorEq, reduceCtorEq, cSeq, bSeq, w2]
  refine xzU (next_ok Gl l (a + 2) 7 i hl (by omega) (by omega) (by omega)) (by simp only [qza, ↓reduceIte, cSeq, bSeq]) rfl rfl ?_
  simp only [qzl, qzo, qzi, qzf, qzd, qze, qzq, qzH, xzb, qzL, qzz, qzc, qzj, qzC, qzb, qzM, qzg, qzh, qzT, qzN, qzu, qzn, qzm, qzt, qza, qzs, qzv, qzy, qzK, qzO, qzF, xzo, xzD, xzx, qzR, qzS, xzd, qzE, cvs, cv, qzJ, qzI, toA, ofA, FR.pop, abin, shiftBin, max2A, foldA, VN.at, VH.push, VH.set, qzp, VV.cells, ntV, qzQ, xzs, ↓reduceIte, Option.getD_some, List.getElem?_cons_zero, List.getElem?_cons_succ, List.length_cons, List.length_nil, List.drop_succ_cons, List.drop_zero, List.take_succ_cons, List.take_zero, List.append_nil, List.nil_append, List.cons_append, List.head?_cons, Nat.reduceAdd, Nat.reduceEqDiff, reduceCtorEq, Nat.reduceLeDiff, Nat.add_zero, Nat.zero_add, and_self, reduceCtorEq, cSeq, bSeq, show nextS l (a + 2) 7 = scS l a from rfl, w3, mm, m64, nn, w4]
  refine xzU (next_ok Gl l (a + 3) 4 i hl (by omega) (by omega) (by omega)) (by simp only [qza, ↓reduceIte, cSeq, bSeq, e5]) rfl rfl ?_
  have hk : nextS l (a + 3) 4 = (cmdsN l a : Int) - 1 := by unfold cmdsN; omega
  rw [hk]
  simp only [qzB, qzi, qzf, qzd, qze, qzq, qzz, qzc, qzb, qzg, qzh, qzn, qzm, qzt, qza, qzs, qzv, qzy, ↓reduceIte, cSeq, bSeq]
  refine cmds_loop Gl l (farS' l a) i nx (nx + 1) (nx + 2) hl (by omega) (by omega) (by omega) (by omega) (by omega) (by omega) (by omega) (by omega) (.int .i64 (wS l a)) (.int .i64 (hS l a)) (.int .i64 (scS l a)) (some (some (.cells [.int .i64 0, .int .i64 0, .int .i64 0, .nilS, .nilS] false))) (iconRun l a) _ ?_ (cmdsN l a) (a + 4) [] [] _ _ .nilS .nilS 0 0 (by unfold iconRun; simp) (by unfold cmdsN; omega) (by simp; unfold cmdsN; omega) (by simp; unfold cmdsN; omega) (by unfold cmdsN; omega) ?_ ?_ ?_ ?_ ?_ ?_ ?_ yzp.nil yzp.nil (fun p hp => by cases hp) (.inr (.inl rfl)) ?_ ?_
  · intro T h v vc j j2 L hL t2 t3 s1 s2 q1 q2 q3 hnn hz
    simp only [qzl, qzo, qzD, qzi, xzv, qzf, qzd, qze, qzH, qzL, qzz, qzG, qzj, qzb, qzM, qzg, qzh, qzN, qzn, qzm, qzt, qza, qzs, qzO, qzF, qzR, qzS, xzd, qzE, VH.set, qzp, VV.cells, ntV, qzV, qzP, qzX, qzW, qzQ, xzs, ↓reduceIte, Option.getD_some, List.length_cons, List.length_nil, List.drop_succ_cons, List.drop_zero, List.take_succ_cons, List.take_zero, List.append_nil, List.nil_append, List.head?_cons, Nat.reduceAdd, Nat.reduceEqDiff, Nat.reduceLeDiff, Nat.zero_add, and_self, t2, t3, s2, hz, e1]
    refine ⟨?_, ?_⟩
    · have ab : ∀ jj, nx + 2 ≤ jj → ∀ x, h.get jj = some x → above nx (VH.mk ((nx, some (VB.cells [.int .i64 (wS l a), .int .i64 (hS l a), .int .i64 (scS l a), v, vc] false)) :: h.l) h.next) jj = some x := fun jj hj x hx => by
        rw [qzp] at hx
        unfold above
        rw [if_pos (by omega), qzp]
        simp only [qza]
        rw [if_neg (by omega)]
        exact hx
      refine yzz.agg (xzX.cons (yzz.closed rfl) (xzX.cons (yzz.closed rfl) (xzX.cons (yzz.closed rfl) (xzX.cons (yzz.acc (f' := cCl) (l := (iconRun l a).2.1) q1 (fun hb x hx => ab j hb x hx) Pal.cCl_len (fun _ _ => xzX.closed rfl)) (xzX.cons ?_ xzX.nil)))))
      have hx := yzz.acc (g := above nx (VH.mk ((nx, some (VB.cells [.int .i64 (wS l a), .int .i64 (hS l a), .int .i64 (scS l a), v, vc] false)) :: h.l) h.next)) (f' := fun p => cCmd p.1) (l := L) q2 (fun hb x hx => ab j2 hb x hx) fO_len (fun p hp => ?_)
      · have e : xzk (fun p : Cmd × Nat => cCmd p.1) L = xzk cCmd (iconRun l a).1 := by rw [← hL]; unfold xzk; rw [List.map_map]; rfl
        have e' : L.length = (iconRun l a).1.length := by rw [← hL, List.length_map]
        rw [e, e'] at hx
        exact hx
      · obtain ⟨z1, z2, z3, z4, z5⟩ := q3 p hp
        refine xzX.append (a := [_, _, _, _, _, _, _, _, _, _]) (c := [_]) (xzX.closed rfl) (xzX.cons (yzz.whole (ab p.2 z2 _ (by rw [qzp, z1]; rfl)) (by rw [flatL_length cPath_len]) rfl (xzX.closed (closedL_flat (fun _ => rfl) _))) xzX.nil)
    · exact s1
  all_goals first | (simp only [qza, ↓reduceIte, Nat.reduceEqDiff, reduceCtorEq, Nat.reduceLeDiff, reduceCtorEq, cSeq, bSeq, e2, e3, e6]; done) | (simp only [Nat.reduceLeDiff]; rfl) | exact Nat.le_refl _
end
end Go.VL.Mk

/- What is made is right. -/
namespace Go.VL.Mk
open Go.FR Go.IR Go.VL Go.VL.Color Go.VL.Wind Go.VL.Ic Go.VL.Pal
noncomputable section
set_option linter.unusedSimpArgs false
set_option linter.unusedVariables false

theorem idx_lt (c : Cl) : ∀ (l : List Cl) (k : Nat), idxS l c k < ((k + l.length : Nat) : Int)
  | [], k => by simp [idxS]; omega
  | x :: l, k => by
    rw [idxS]
    split
    · simp; omega
    · have := idx_lt c l (k + 1)
      simp only [List.length_cons]; omega
theorem add_in (cs : List Cl) (c : Cl) : 0 ≤ addP cs c ∧ addP cs c < (addI cs c).length := by
  have h := idx_lt c cs 0
  unfold addP addI
  split
  · omega
  · simp; omega
theorem add_use (cs : List Cl) (c : Cl) (l : List Int) : nextUse cs.length (addP cs c :: l) = nextUse (addI cs c).length l := by
  have h := idx_lt c cs 0
  unfold addP addI
  rw [nextUse]
  split
  · rw [if_neg (by omega), if_neg (by omega)]
  · rw [if_neg (by omega), if_pos rfl]; simp
theorem add_nodup (cs : List Cl) (c : Cl) (h : cs.Nodup) : (addI cs c).Nodup := by
  unfold addI
  split
  · exact h
  · rename_i hn
    have hc : c ∉ cs := fun hm => hn ((idx_mem c cs 0).mpr hm)
    rw [List.nodup_append]
    exact ⟨h, by simp, fun a ha b hb e => by rw [List.mem_singleton] at hb; rw [e, hb] at ha; exact hc ha⟩
theorem once_nodup : ∀ (l s : List Cl), (s ++ l).Nodup → onceS s l = true
  | [], s, _ => rfl
  | c :: l, s, h => by
    rw [onceS]
    have hc : c ∉ s := fun hm => by
      rw [List.nodup_append] at h
      exact h.2.2 c hm c (.head _) rfl
    rw [if_neg hc]
    exact once_nodup l (s ++ [c]) (by rw [List.append_assoc]; exact h)

def NearP (p : Pt) (m : Int) : Prop := (-m ≤ p.x ∧ p.x ≤ m) ∧ -m ≤ p.y ∧ p.y ≤ m
theorem far_no {p : Pt} {m : Int} (h : NearP p m) : farS p m = false := by
  obtain ⟨⟨h1, h2⟩, h3, h4⟩ := h
  unfold farS inS
  rw [if_pos h1, if_pos h3]; simp [h2, h4]
theorem in_yes {n lo hi : Int} (h1 : lo ≤ n) (h2 : n ≤ hi) : inS n lo hi = true := by
  unfold inS; rw [if_pos h1]; simp [h2]
theorem near_le {p : Pt} {m k : Int} (h : NearP p m) (hk : m ≤ k) : NearP p k := by
  unfold NearP at h ⊢; omega
theorem near_z {m : Int} (h : 0 ≤ m) : NearP zP m := by unfold NearP zP; simp only; omega
theorem near_point (l : List Int) (a : Nat) (far : Int) (h : 0 ≤ far) : NearP (pointS l a far) far := by
  have := point_in l a far h
  unfold NearP; omega
theorem near_inside (l : List Int) (a : Nat) (far : Int) (h : 0 ≤ far) : NearP (insideS l a far) far := by
  unfold insideS
  split
  · exact near_point l _ far h
  · have h1 := next_in l (a + 1) (far + 1) (by omega)
    have h2 := next_in l (a + 2) (far + 1) (by omega)
    unfold NearP; simp only; omega
theorem seg_right (l : List Int) (a : Nat) (far m : Int) (h : 0 ≤ far) (hm : far ≤ m) : segS (segOf l a far) m = none := by
  obtain ⟨k1, k2, k3⟩ := segN_in l a
  have i1 := far_no (near_le (near_inside l (a + 1) far h) hm)
  have i2 := far_no (near_le (near_inside l (a + 1 + 3) far h) hm)
  have i3 := far_no (near_le (near_inside l (a + 1 + 6) far h) hm)
  have hz : zeroP zP := ⟨rfl, rfl⟩
  unfold segOf segP
  have hc : segN l a = 1 ∨ segN l a = 2 ∨ segN l a = 3 := by omega
  have r1 : inS 1 1 3 = true := by decide
  have r2 : inS 2 1 3 = true := by decide
  have r3 : inS 3 1 3 = true := by decide
  rcases hc with e | e | e
  all_goals
    rw [e]
    simp [segS, segPts, r1, r2, r3, i1, i2, i3, hz]
theorem segs_right (l : List Int) (far m : Int) (h : 0 ≤ far) (hm : far ≤ m) : ∀ n a, ∀ s ∈ segsS l far n a, segS s m = none
  | 0, a, s, hs => by cases hs
  | n + 1, a, s, hs => by
    rw [segsS] at hs
    rcases List.mem_cons.mp hs with rfl | hs
    · exact seg_right l a far m h hm
    · exact segs_right l far m h hm n _ s hs
theorem path_right (l : List Int) (a : Nat) (far m : Int) (b f : Bool) (h : 0 ≤ far) (hm : far ≤ m) (hb : (f && b) = false) : pathS (pathOf l a far b) f m = none := by
  have hl := segsS_len l far (pathN l a) (a + 4)
  obtain ⟨k1, k2, k3⟩ := pathN_in l a
  unfold pathS pathOf
  simp only
  rw [if_neg (by simp [hb]), if_neg (by omega), if_neg (by omega), if_neg (by rw [far_no (near_le (near_inside l a far h) hm)]; simp)]
  exact firstS_none.mpr (segs_right l far m h hm _ _)
theorem paths_right (l : List Int) (far m : Int) (kind : Nat) (h : 0 ≤ far) (hm : far ≤ m) : ∀ n a, ∀ p ∈ pathsS l far kind n a, pathS p (decide ((kind : Int) = 1)) m = none
  | 0, a, s, hs => by cases hs
  | n + 1, a, s, hs => by
    rw [pathsS] at hs
    rcases List.mem_cons.mp hs with rfl | hs
    · refine path_right l _ far m _ _ h hm ?_
      unfold shutB'
      by_cases e : kind = 2
      · simp [e]
      · simp [e]
    · exact paths_right l far m kind h hm n _ s hs
theorem path_pts (l : List Int) (a : Nat) (far : Int) (b : Bool) : pathPts (pathOf l a far b) ≤ 13 := by
  have hl := segsS_len l far (pathN l a) (a + 4)
  obtain ⟨k1, k2, k3⟩ := pathN_in l a
  have hk : ∀ n a, ∀ s ∈ segsS l far n a, s.kind ≤ 3 := fun n => by
    induction n with
    | zero => intro a s hs; cases hs
    | succ n ih =>
      intro a s hs
      rw [segsS] at hs
      rcases List.mem_cons.mp hs with rfl | hs
      · have := segN_in l a
        show (segN l a : Int) ≤ 3; omega
      · exact ih _ s hs
  have := sum_mem_le (f := fun s : Seg => s.kind) (hk (pathN l a) (a + 4)) (by omega) 4 (by omega)
  unfold pathPts pathOf; simp only; omega
theorem paths_pts (l : List Int) (far : Int) (kind : Nat) : ∀ n a, ∀ p ∈ pathsS l far kind n a, pathPts p ≤ 13
  | 0, a, s, hs => by cases hs
  | n + 1, a, s, hs => by
    rw [pathsS] at hs
    rcases List.mem_cons.mp hs with rfl | hs
    · exact path_pts l _ far _
    · exact paths_pts l far kind n _ s hs

theorem cmd_uses (l : List Int) (far : Int) (a : Nat) (cs : List Cl) : nextUse cs.length (usesOf (cmdOf l far a cs)) = some ((colsOf l a cs).length : Int) := by
  unfold usesOf cmdOf colsOf bS
  simp only
  by_cases h : pkS l a = 0
  · rw [if_pos h, if_pos h, add_use]; rfl
  · rw [if_neg h, if_neg h, if_neg h, add_use]
    show nextUse ((cols1 l a cs).length : Int) _ = _
    rw [add_use]; rfl
theorem cols_nodup (l : List Int) (a : Nat) (cs : List Cl) (h : cs.Nodup) : (colsOf l a cs).Nodup := by
  unfold colsOf cols1
  split
  · exact add_nodup _ _ h
  · exact add_nodup _ _ (add_nodup _ _ h)
theorem head_right (l : List Int) (far : Int) (a : Nat) (cs : List Cl) (m : Int) (h : 1 ≤ far) (hm : far ≤ m) : headS (cmdOf l far a cs) m = none := by
  have n1 := next_in l (a + 1) 2 (by omega)
  have n2 := next_in l (a + 1) (max (far.tdiv 2) 1) (by omega)
  have td : 0 ≤ far.tdiv 2 ∧ far.tdiv 2 ≤ far := ⟨Int.tdiv_nonneg (by omega) (by omega), Int.tdiv_le_self _ (by omega)⟩
  rcases kind_in l a with ⟨e, _⟩ | ⟨e, _⟩
  · have r : ruleS l a = nextS l (a + 1) 2 := by unfold ruleS; rw [if_pos e]
    have w : widthS l far a = 0 := by unfold widthS; rw [if_pos e]
    unfold headS cmdOf
    simp only
    rw [r, w, if_pos ⟨by rw [e]; rfl, in_yes (by omega) (by omega), rfl⟩]
  · have r : ruleS l a = 0 := by unfold ruleS; rw [if_neg (by omega)]
    have w : widthS l far a = 1 + nextS l (a + 1) (max (far.tdiv 2) 1) := by unfold widthS; rw [if_neg (by omega)]
    unfold headS cmdOf
    simp only
    rw [r, w, if_neg (by rw [e]; simp), if_pos ⟨by rw [e]; rfl, rfl, in_yes (by omega) (by omega)⟩]
theorem near_q (l : List Int) (far : Int) (a : Nat) (h : 1 ≤ far) : NearP (qS l far a) (far + 1) := by
  unfold qS
  split
  · exact near_z (by omega)
  split
  · have := near_point l (a + 7) far (by omega)
    unfold moveS
    unfold NearP at this
    split
    · unfold NearP; simp only; omega
    · unfold NearP; omega
  · have := next_in l (a + 7) far (by omega)
    unfold NearP; simp only; omega
theorem paint_right (l : List Int) (far : Int) (a : Nat) (cs : List Cl) (n m : Int) (h : 1 ≤ far) (hm : far + 1 ≤ m) (hn : ((colsOf l a cs).length : Int) ≤ n) : paintS (cmdOf l far a cs).paint n m = none := by
  have n3 := next_in l (a + 2) 3 (by omega)
  have a1 := add_in cs (colorS l (a + 3))
  have a2 := add_in (cols1 l a cs) (colorS l (a + 4))
  have a3 := addI_len (cols1 l a cs) (colorS l (a + 4))
  have q := far_no (near_le (near_q l far a h) hm)
  have nq := near_q l far a h
  have hz : zeroP zP := ⟨rfl, rfl⟩
  unfold paintS cmdOf
  simp only
  have k1 : inS (pkS l a) 0 2 = true := in_yes (by unfold pkS; omega) (by unfold pkS; omega)
  by_cases p0 : pkS l a = 0
  · have hc : colsOf l a cs = addI cs (colorS l (a + 3)) := by unfold colsOf; rw [if_pos p0]; rfl
    rw [hc] at hn
    have k2 : inS (addP cs (colorS l (a + 3))) 0 (n - 1) = true := in_yes a1.1 (by omega)
    have e1 : bS l a cs = 0 := by unfold bS; rw [if_pos p0]
    have e2 : pS l far a = zP := by unfold pS; rw [if_pos p0]
    have e3 : qS l far a = zP := by unfold qS; rw [if_pos p0]
    rw [k1, k2, e1, e2, e3, if_neg (by simp [p0]), if_pos p0, if_neg (by simp [hz])]
  · have hc : colsOf l a cs = addI (cols1 l a cs) (colorS l (a + 4)) := by unfold colsOf; rw [if_neg p0]
    rw [hc] at hn
    have hc1 : cols1 l a cs = addI cs (colorS l (a + 3)) := rfl
    rw [← hc1] at a1
    have k2 : inS (addP cs (colorS l (a + 3))) 0 (n - 1) = true := in_yes a1.1 (by omega)
    have e1 : bS l a cs = addP (cols1 l a cs) (colorS l (a + 4)) := by unfold bS; rw [if_neg p0]
    have e2 : pS l far a = pointS l (a + 5) far := by unfold pS; rw [if_neg p0]
    have k3 : inS (bS l a cs) 0 (n - 1) = true := in_yes (by omega) (by omega)
    have kp : farS (pS l far a) m = false := by rw [e2]; exact far_no (near_le (near_point l _ far (by omega)) (by omega))
    rw [k1, k2, k3, if_neg (by simp), if_neg p0, kp, if_neg (by simp)]
    by_cases p1 : pkS l a = 1
    · rw [if_pos p1, q, if_neg ?_]
      have e3 : qS l far a = moveS (pointS l (a + 5) far) (pointS l (a + 7) far) := by unfold qS; rw [if_neg p0, if_pos p1]
      intro o
      rcases o with o | o
      · cases o
      · rw [e2, e3] at o
        unfold moveS sameP at o
        split at o
        · rename_i g; simp only at o; omega
        · rename_i g; exact g o
    · have e3 : qS l far a = ⟨1 + nextS l (a + 7) far, 0⟩ := by unfold qS; rw [if_neg p0, if_neg p1]
      have nf := next_in l (a + 7) far (by omega)
      rw [if_neg p1, e3, if_neg (by rw [in_yes (by show 1 ≤ 1 + _; omega) (by show 1 + _ ≤ m; omega)]; simp), if_neg (by simp)]
theorem cmd_right (l : List Int) (far : Int) (a : Nat) (cs : List Cl) (n m : Int) (h : 1 ≤ far) (hm : far + 1 ≤ m) (hn : ((colsOf l a cs).length : Int) ≤ n) : cmdS (cmdOf l far a cs) n m = none := by
  have hp := cmd_paths l far a cs
  obtain ⟨k1, k2, _⟩ := pathsN_in l a
  unfold cmdS
  rw [head_right l far a cs m h (by omega), paint_right l far a cs n m h hm hn]
  simp only
  rw [if_neg (by omega), if_neg (by omega)]
  exact firstS_none.mpr (paths_right l far m (kindN l a) (by omega) (by omega) _ _)
theorem cmd_pts (l : List Int) (far : Int) (a : Nat) (cs : List Cl) : sumS' pathPts (cmdOf l far a cs).paths ≤ 39 := by
  have hp := cmd_paths l far a cs
  obtain ⟨k1, k2, _⟩ := pathsN_in l a
  have := sum_mem_le (f := pathPts) (c := 13) (l := (cmdOf l far a cs).paths) (paths_pts l far (kindN l a) _ _) (by omega) 3 (by omega)
  omega
theorem run_right (l : List Int) (far : Int) (h : 1 ≤ far) (m : Int) (hm : far + 1 ≤ m) : ∀ (n a : Nat) (cs : List Cl), cs.Nodup →
    (runS l far n a cs).1.length ≤ n ∧ cs.length ≤ (runS l far n a cs).2.1.length ∧ (runS l far n a cs).2.1.length ≤ cs.length + 2 * n ∧ (runS l far n a cs).2.1.Nodup ∧
    useAll cs.length (runS l far n a cs).1 = some ((runS l far n a cs).2.1.length : Int) ∧
    (∀ N : Int, ((runS l far n a cs).2.1.length : Int) ≤ N → ∀ c ∈ (runS l far n a cs).1, cmdS c N m = none) ∧
    (∀ c ∈ (runS l far n a cs).1, sumS' pathPts c.paths ≤ 39)
  | 0, a, cs, hd => ⟨Nat.le_refl _, Nat.le_refl _, by simp [runS], hd, rfl, (fun _ _ c hc => by cases hc), (fun c hc => by cases hc)⟩
  | n + 1, a, cs, hd => by
    rw [runS]
    split
    · obtain ⟨i1, i2, i3, i4, i5, i6, i7⟩ := run_right l far h m hm n (cmdEnd l a) (colsOf l a cs) (cols_nodup l a cs hd)
      have hcl := colsOf_len l a cs
      refine ⟨by simp; omega, by show cs.length ≤ _; simp only; omega, by simp only; omega, i4, ?_, fun N hN c hc => ?_, fun c hc => ?_⟩
      · simp only [useAll, cmd_uses]; exact i5
      · rcases List.mem_cons.mp hc with rfl | hc
        · simp only at hN; exact cmd_right l far a cs N m h hm (by omega)
        · exact i6 N hN c hc
      · rcases List.mem_cons.mp hc with rfl | hc
        · exact cmd_pts l far a cs
        · exact i7 c hc
    · exact ⟨Nat.zero_le _, Nat.le_refl _, by simp, hd, rfl, fun _ _ c hc => (by cases hc), fun c hc => (by cases hc)⟩
theorem sized_icon (l : List Int) (a : Nat) : sizedS (iconS l a) = true := by
  obtain ⟨b1, b2, b3, b4⟩ := icon_in l a
  unfold sizedS iconS
  simp only
  rw [in_yes b1.1 (by omega), in_yes b2.1 (by omega), in_yes b3.1 (by omega)]; rfl
theorem great_icon (l : List Int) (a : Nat) : greatS (iconS l a) = 4 * farS' l a := by
  unfold greatS
  rw [if_pos (sized_icon l a)]
  show 4 * max (wS l a) (hS l a) * 2 ^ (scS l a).toNat = 4 * (max (wS l a) (hS l a) * 2 ^ (scS l a).toNat)
  rw [Int.mul_assoc]
theorem cmdsN_in (l : List Int) (a : Nat) : 1 ≤ cmdsN l a ∧ cmdsN l a ≤ 4 := by
  have := next_in l (a + 3) 4 (by omega)
  unfold cmdsN; omega
theorem icon_right (l : List Int) (a : Nat) : checkS (iconS l a) = none ∧ (iconS l a).Fit := by
  obtain ⟨b1, b2, b3, b4⟩ := icon_in l a
  have k := cmdsN_in l a
  obtain ⟨i1, i2, i3, i4, i5, i6, i7⟩ := run_right l (farS' l a) b4.1 (greatS (iconS l a)) (by rw [great_icon]; omega) (cmdsN l a) (a + 4) [] List.nodup_nil
  have hx : runS l (farS' l a) (cmdsN l a) (a + 4) [] = iconRun l a := rfl
  rw [hx] at i1 i2 i3 i4 i5 i6 i7
  simp only [List.length_nil, Nat.zero_add] at i3
  have hcm : (iconS l a).cmds = (iconRun l a).1 := rfl
  have hco : (iconS l a).colors = (iconRun l a).2.1 := rfl
  have hcmd : ∀ c ∈ (iconS l a).cmds, cmdS c (iconS l a).colors.length (greatS (iconS l a)) = none := fun c hc => i6 _ (Int.le_refl _) c hc
  have hpts : pointsS (iconS l a) ≤ 39 * (4 : Nat) := sum_mem_le (f := fun c : Cmd => sumS' pathPts c.paths) i7 (by omega) 4 (by omega)
  refine ⟨?_, by rw [hco]; omega, by rw [hcm]; omega, fun c hc => ?_⟩
  · unfold checkS
    rw [if_neg (by rw [sized_icon]; simp), if_neg (by rw [hco, hcm]; omega), firstS_none.mpr hcmd]
    simp only
    rw [if_neg (by omega), if_neg ?_]
    unfold usedS
    rw [hcm, hco]
    have : useAll 0 (iconRun l a).1 = some ((iconRun l a).2.1.length : Int) := i5
    rw [this]
    simp only
    rw [once_nodup _ [] (by rw [List.nil_append]; exact i4)]
    simp
  · obtain ⟨c1, c2, c3, c4, c5⟩ := cmdS_none (hcmd c hc)
    exact ⟨by omega, fun p hp => by have := (pathS_none (c5 p hp)).1; omega⟩
end
end Go.VL.Mk

/- What is made: its colors, its sizes. -/
namespace Go.VL.Mk
open Go.FR Go.IR Go.VL Go.VL.Color Go.VL.Wind Go.VL.Ic Go.VL.Pal
noncomputable section
set_option linter.unusedSimpArgs false
set_option linter.unusedVariables false

/-- Few commands, few colors. -/
theorem icon_few (l : List Int) (a : Nat) : (iconS l a).cmds.length ≤ 4 ∧ (iconS l a).colors.length ≤ 8 := by
  obtain ⟨b1, b2, b3, b4⟩ := icon_in l a
  obtain ⟨i1, i2, i3, i4, i5, i6, i7⟩ := run_right l (farS' l a) b4.1 (greatS (iconS l a)) (by rw [great_icon]; omega) (cmdsN l a) (a + 4) [] List.nodup_nil
  have := cmdsN_in l a
  exact ⟨by show (iconRun l a).1.length ≤ 4; unfold iconRun; omega, by show (iconRun l a).2.1.length ≤ 8; unfold iconRun; simp only [List.length_nil] at i3; omega⟩
end
end Go.VL.Mk

/- Icons, closed piece by piece. -/
namespace Go.VL.Ic
open Go.FR Go.IR Go.VL Go.VL.Er Go.VL.Color Go.VL.Wind
noncomputable section
set_option linter.unusedSimpArgs false
set_option linter.unusedVariables false
set_option maxRecDepth 100000
set_option maxHeartbeats 1000000
variable {g : Nat → Option VB}

theorem shut_icon {W H S : Int} {vc vk : VV} {cols : List Cl} {cmds : List Cmd} (h1 : yzz g vc (.fsl (xzk cCl cols) cols.length 4)) (h2 : yzz g vk (.fsl (xzk cCmd cmds) cmds.length 11)) :
    xzX g [.agg [.int .i64 W, .int .i64 H, .int .i64 S, vc, vk]] [.agg (cIcon ⟨W, H, S, cols, cmds⟩)] :=
  xzX.cons (yzz.agg (xzX.cons (yzz.closed rfl) (xzX.cons (yzz.closed rfl) (xzX.cons (yzz.closed rfl) (xzX.cons h1 (xzX.cons h2 xzX.nil)))))) xzX.nil
theorem shut_nil {e : Nat} : yzz g .nilS (.fsl [] 0 e) := yzz.closed_sub rfl (.inr ⟨e, rfl⟩)
/-- The cells of a command whose paths are to be closed. -/
theorem shut_cmd {c : Cmd} {vp : VV} (h : yzz g vp (.fsl (xzk cPath c.paths) c.paths.length 4)) :
    xzX g [.int .i64 c.kind, .int .i64 c.rule, .int .i64 c.width, .int .i64 c.paint.kind, .int .i64 c.paint.a, .int .i64 c.paint.b, .int .i64 c.paint.p.x, .int .i64 c.paint.p.y, .int .i64 c.paint.q.x, .int .i64 c.paint.q.y, vp] (cCmd c) :=
  xzX.append (a := [_, _, _, _, _, _, _, _, _, _]) (c := [_]) (xzX.closed rfl) (xzX.cons h xzX.nil)
theorem shut_segs {j n : Nat} {ro : Bool} {c : ACap} (l : List Seg) (hj : g j = some (.cells (xzk cSeg l) ro)) (hn : l.length = n) (hc : yzv 7 n c) :
    yzz g (.slice j 0 n 7 c) (.fsl (xzk cSeg l) n 7) := yzz.whole hj (by rw [flatL_length cSeg_len, hn]) hc (xzX.closed (closedL_flat (fun _ => rfl) l))

end
end Go.VL.Ic

/- Icons that a law makes by itself, closed. -/
namespace Go.VL.Ic
open Go.FR Go.IR Go.VL Go.VL.Er Go.VL.Color Go.VL.Wind
noncomputable section
set_option linter.unusedSimpArgs false
set_option linter.unusedVariables false
set_option maxRecDepth 100000
set_option maxHeartbeats 1000000

theorem icg_all {Gl : xzE} (hG : GlAll Gl) : IcG Gl := ⟨(hG 4 (by omega)).1, (hG 5 (by omega)).1, (hG 9 (by omega)).1⟩
theorem first5_ok {Gl : xzE} (hG : IcG Gl) : yzg Go.VL.Er.E Gl f_glyphiclaw5_first [] (.bool true) := by
  refine xzG (xzp E_glyphiclaw5_first ?_)
  unfold c_glyphiclaw5_first r_glyphiclaw5_first
  simp only [xzW]
  have f : ∀ w h s : Int, (Icon.mk w h s [] []).Fit := fun w h s => ⟨by simp, by simp, fun c hc => by cases hc⟩
  have k1 := check_ok hG ⟨0, 0, 0, [], []⟩ (f _ _ _)
  have k2 := check_ok hG ⟨1, 1, 0, [], []⟩ (f _ _ _)
  have k3 := greatest_ok Gl ⟨1, 2, 1, [], []⟩
  rw [show checkS ⟨0, 0, 0, [], []⟩ = some 4 by decide] at k1
  rw [show checkS ⟨1, 1, 0, [], []⟩ = none by decide] at k2
  rw [show greatS ⟨1, 2, 1, [], []⟩ = 16 by decide] at k3
  simp only [qzl, qzo, qzi, qzf, qzd, qze, qzq, qzL, qzc, qzb, qzg, qzh, qzu, qzn, qzm, qzt, qza, qzs, qzv, qzy, xzD, xzx, cvs, cv, h0, ↓reduceIte]
  refine call_deepL (v := errK 4) k1 (shut_icon shut_nil shut_nil) rfl ?_
  simp only [qzd, qze, qzq, qzH, qzL, qzz, qzc, qzj, qzb, qzg, qzh, qzu, qzn, qzm, qzt, qza, qzs, qzv, qzy, qzO, xzN, xzO, yzk, xzD, xzx, qzR, cvs, cv, VV.cells, ntV, ↓reduceIte, List.length_cons, List.length_nil, List.drop_succ_cons, List.drop_zero, List.take_succ_cons, List.take_zero, List.nil_append, List.cons_append, Nat.reduceAdd, Nat.reduceEqDiff, Nat.reduceLeDiff, Nat.zero_add, and_self, Bool.not_false, beq_self_eq_true, errK]
  refine call_deepL (v := .nilI) k2 (shut_icon shut_nil shut_nil) rfl ?_
  simp only [qzd, qze, qzq, qzH, qzL, qzz, qzc, qzj, qzb, qzg, qzh, qzu, qzn, qzm, qzt, qza, qzs, qzv, qzy, xzq, qzO, xzN, xzO, yzk, xzD, xzx, qzR, cvs, cv, VV.cells, ntV, ↓reduceIte, List.length_cons, List.length_nil, List.drop_succ_cons, List.drop_zero, List.take_succ_cons, List.take_zero, List.nil_append, List.cons_append, Nat.reduceAdd, Nat.reduceEqDiff, Nat.reduceLeDiff, Nat.zero_add, and_self, Bool.false_eq_true, beq_self_eq_true]
  refine call_deepL k3 (shut_icon shut_nil shut_nil) rfl ?_
  simp only [qzD, qzi, qzf, qzd, qze, qzq, qzz, qzG, qzc, qzb, qzg, qzh, qzn, qzm, qzt, qza, qzs, qzv, qzy, xzq, cv, qzJ, qzI, toA, ofA, FR.pop, abin, intBin, qzV, qzP, qzX, qzW, ↓reduceIte, Nat.reduceEqDiff, beq_self_eq_true]
  exact qzw rfl
end
end Go.VL.Ic
