/- 'glyphiclaw12.NamesTwice': its loops. -/
import Derived.Test.YthojeoldjhghpabDoorNmD
namespace Go.VL.Nm
open Go.FR Go.IR Go.VL Go.VL.Er Go.VL.Color
noncomputable section
set_option linter.unusedSimpArgs false
set_option linter.unusedVariables false
set_option maxRecDepth 100000
set_option maxHeartbeats 2000000

def chS (z : Int) : UInt8 := UInt8.ofNat (97 + ((z.tmod 20 + 20).tmod 20).toNat)
theorem ch_in (z : Int) : IntKind.i64.wrap (z.tmod 20 + 20) = z.tmod 20 + 20 ∧ IntKind.i64.wrap (97 + (z.tmod 20 + 20).tmod 20) = 97 + (z.tmod 20 + 20).tmod 20 ∧ IntKind.u8.wrap (97 + (z.tmod 20 + 20).tmod 20) = (((chS z).toNat : Nat) : Int) := by
  have h1 := Int.lt_tmod_of_pos z (show (0 : Int) < 20 by omega)
  have h2 := Int.tmod_lt_of_pos z (show (0 : Int) < 20 by omega)
  have h3 := Int.tmod_lt_of_pos (z.tmod 20 + 20) (show (0 : Int) < 20 by omega)
  have h4 : 0 ≤ (z.tmod 20 + 20).tmod 20 := Int.tmod_nonneg _ (by omega)
  refine ⟨yzF (by omega) (by omega), yzF (by omega) (by omega), ?_⟩
  show (97 + (z.tmod 20 + 20).tmod 20) % 256 = _
  unfold chS
  rw [UInt8.toNat_ofNat']; omega
def conT : Nat → List Int → List Con
  | _, [] => []
  | i, z :: l => ⟨[99, chS z], 0, 10 + (i : Int)⟩ :: conT (i + 1) l
def namT : Nat → List Int → List Nam
  | _, [] => []
  | i, z :: l => ⟨[99, chS z], ⟨0, 0, 0, 0⟩, 50 + (i : Int)⟩ :: namT (i + 1) l
theorem conT_app : ∀ (l : List Int) (i : Nat) (z : Int), conT i (l ++ [z]) = conT i l ++ [⟨[99, chS z], 0, 10 + ((i + l.length : Nat) : Int)⟩]
  | [], i, z => rfl
  | y :: l, i, z => by
    have e : i + 1 + l.length = i + (l.length + 1) := by omega
    rw [List.cons_append, conT, conT, conT_app l (i + 1) z, List.cons_append, List.length_cons, e]
theorem namT_app : ∀ (l : List Int) (i : Nat) (z : Int), namT i (l ++ [z]) = namT i l ++ [⟨[99, chS z], ⟨0, 0, 0, 0⟩, 50 + ((i + l.length : Nat) : Int)⟩]
  | [], i, z => rfl
  | y :: l, i, z => by
    have e : i + 1 + l.length = i + (l.length + 1) := by omega
    rw [List.cons_append, namT, namT, namT_app l (i + 1) z, List.cons_append, List.length_cons, e]
theorem conT_len : ∀ (l : List Int) (i : Nat), (conT i l).length = l.length
  | [], _ => rfl
  | z :: l, i => by simp [conT, conT_len l (i + 1)]
theorem namT_len : ∀ (l : List Int) (i : Nat), (namT i l).length = l.length
  | [], _ => rfl
  | z :: l, i => by simp [namT, namT_len l (i + 1)]
theorem conT_pos : ∀ (l : List Int) (i k : Nat) {x : Con}, (conT i l)[k]? = some x → x.pos = 10 + ((i + k : Nat) : Int)
  | [], i, k, x, h => by simp [conT] at h
  | z :: l, i, 0, x, h => by simp [conT] at h; rw [← h]; rfl
  | z :: l, i, k + 1, x, h => by
    simp only [conT, List.getElem?_cons_succ] at h
    rw [conT_pos l (i + 1) k h]; congr 2; omega
theorem namT_pos : ∀ (l : List Int) (i k : Nat) {x : Nam}, (namT i l)[k]? = some x → x.pos = 50 + ((i + k : Nat) : Int)
  | [], i, k, x, h => by simp [namT] at h
  | z :: l, i, 0, x, h => by simp [namT] at h; rw [← h]; rfl
  | z :: l, i, k + 1, x, h => by
    simp only [namT, List.getElem?_cons_succ] at h
    rw [namT_pos l (i + 1) k h]; congr 2; omega

theorem twice_bC (Gl : yzG) (l m : List Int) (hl : l.length ≤ 12) (hm : m.length ≤ 12) (T0 : VF) (tL : yzz T0 0 = some (.fsl (l.map (VV.int .i64)) l.length 1)) (t6 : yzz T0 6 = some (.ptr 0 0)) (K : AEx → VF → VH → Prop)
    (hK : ∀ T h j v, (∀ s, s < 7 → yzz T s = yzz T0 s) → True → yzz h.l 0 = some (some (.cells [.int .i64 0, .int .i64 0, .int .i64 0, v, .nilS, .nilS, .nilS] false)) → AccAt 1 h j cCon (conT 0 l) 3 v → 1 ≤ h.next → K (.exit 0) T h) :
    ∀ (d i : Nat) (T : VF) (h : VH) (j : Nat) (v : VV), d + i = l.length → (∀ s, s < 7 → yzz T s = yzz T0 s) → yzz T 7 = some (.int .i64 i) → True → yzz h.l 0 = some (some (.cells [.int .i64 0, .int .i64 0, .int .i64 0, v, .nilS, .nilS, .nilS] false)) → AccAt 1 h j cCon (conT 0 (l.take i)) 3 v → 1 ≤ h.next →
      wp Go.VL.Er.E Gl (.loop c_glyphiclaw12_NamesTwice_l5) T h K := by
  intro d
  induction d with
  | zero =>
    intro i T h j v hd hT ti hh s0 acc hn
    obtain rfl : i = l.length := by omega
    rw [List.take_length] at acc
    refine yzD c_glyphiclaw12_NamesTwice_l5.eq_1 ?_
    have tl := (hT 0 (by omega)).trans tL
    simp only [qzC, qzY, qzM, qzX, qzs, qzJ, xzd, qzD, qzp, qzb, qzg, qzW, xzg, xza, xzh, xzr, xzb, qzN, qzH, qzG, qzB, qzq, qzr, qzo, xzE, xzG, xzJ, xzL, xzn, qzI, qzt, qzi, qzd, xzc, xzs, xzx, xzm, xzf, xzz, xzj, qzf, qzh, qzj, qze, qzm, qzZ, qzV, xzi, qzE, qzF, qzR, qzk, qzy, qzc, qzw, qzl, qzn, xzD, xzF, xzU, qza, xzV, xzW, xzX, xzS, xze, qzL, qzT, xzC, qzS, yzn, yzu, xzQ, xzo, qzU, qzO, slV, xzA, yzr, xzY, xzI, yze, yzd, xzR, yzl, yzo, yzc, yzv, yzs, yzm, yzx, xzw, eqBool, eqInt, eqStr, yzg, yzk, xzu, xzO, qzK, qzu, xzq, yzq, xzv, yzy, xzP, yzw, yzt, qzx, xzH, cvs, cv, yza, xzZ, toA, ofA, FR.pop, abin, aun, intBin, shiftBin, strBin, bnds, natOf, max2A, min2A, foldA, VN.at, VH.push, VH.set, VH.kill, VH.fix, VB.fix, qzA, h0, VV.cells, ntV, yzf, xzK, yzh, yzi, closedB, qzz, xzt, xzy, xzk, countN, qzQ, yzp, fzB, fzL, xzp, xzM, qzP, xzl, yzb, xzT, yzj, xzB, qzv, xzN, capMost, capDrop, ↓reduceIte, Option.getD_some, Option.getD_none, Option.isSome_some, Option.map_some, Option.map_none, List.getElem?_cons_zero, List.getElem?_cons_succ, List.length_cons, List.length_nil, List.drop_succ_cons, List.drop_zero, List.take_succ_cons, List.take_zero, List.append_nil, List.nil_append, List.cons_append, List.contains_cons, List.contains_nil, List.head?_cons, Nat.reduceAdd, Nat.reduceMul, Nat.reduceSub, Nat.reduceDiv, Nat.reduceLT, Nat.reduceEqDiff, reduceCtorEq, Nat.reduceLeDiff, Nat.reduceBEq, Int.reduceEq, Int.reduceLT, Int.reduceLE, Int.reduceBEq, Int.reduceGT, Nat.add_zero, Nat.zero_add, and_self, and_true, true_and, and_false, false_and, not_true_eq_false, not_false_eq_true, Bool.and_self, Bool.and_true, Bool.true_and, Bool.and_false, Bool.or_false, Bool.true_or, Bool.or_true, Bool.false_or, Bool.not_false, Bool.not_true, Bool.false_eq_true, beq_self_eq_true, bne_self_eq_false, beq_true, beq_false, decide_true, decide_false, true_or, if_true, if_false, forall_const, false_implies, true_implies, Bool.true_eq_false, reduceCtorEq, true_or, cCl, erP, cCon, cNam, cShp, cFault, t_p_api_At, t_p_errors_errorString, ti, tl, Int.lt_irrefl]
    refine hK _ h j v (fun s hs => ?_) hh s0 acc hn
    simp only [qza]; repeat rw [if_neg (by omega)]
    exact hT s hs
  | succ d ih =>
    intro i T h j v hd hT ti hh s0 acc hn
    refine yzD c_glyphiclaw12_NamesTwice_l5.eq_1 ?_
    have tl := (hT 0 (by omega)).trans tL
    have t6' := (hT 6 (by omega)).trans t6
    have hlt : i < l.length := by omega
    have c1 : (i : Int) < l.length := by omega
    obtain ⟨z, hz⟩ : ∃ z, l[i]? = some z := ⟨l[i], List.getElem?_eq_getElem hlt⟩
    have pz : (l.map (VV.int .i64))[i]? = some (.int .i64 z) := by rw [List.getElem?_map, hz]; rfl
    obtain ⟨w1, w2, w3⟩ := ch_in z
    have wi : IntKind.i64.wrap ((i : Int) + 1) = ((i + 1 : Nat) : Int) := by rw [yzF (by omega) (by omega)]; rfl
    have wp_ : IntKind.i64.wrap (10 + (i : Int)) = 10 + (i : Int) := yzF (by omega) (by omega)
    have e0 : ¬ h.next = 0 := by omega
    have e1 : ¬ h.next + 1 = 0 := by omega
    have e2 : ¬ h.next + 1 = h.next := by omega
    have e3 : ¬ h.next = h.next + 1 := by omega
    have len : (conT 0 (l.take i)).length = i := by rw [conT_len, List.length_take]; omega
    have tk : conT 0 (l.take i) ++ [⟨[99, chS z], 0, 10 + (i : Int)⟩] = conT 0 (l.take (i + 1)) := by
      rw [take_at hz, conT_app, Nat.zero_add, List.length_take, Nat.min_eq_left (by omega)]
    simp only [qzC, qzY, qzM, qzX, qzs, qzJ, xzd, qzD, qzp, qzb, qzg, qzW, xzg, xza, xzh, xzr, xzb, qzN, qzH, qzG, qzB, qzq, qzr, qzo, xzE, xzG, xzJ, xzL, xzn, qzI, qzt, qzi, qzd, xzc, xzs, xzx, xzm, xzf, xzz, xzj, qzf, qzh, qzj, qze, qzm, qzZ, qzV, xzi, qzE, qzF, qzR, qzk, qzy, qzc, qzw, qzl, qzn, xzD, xzF, xzU, qza, xzV, xzW, xzX, xzS, xze, qzL, qzT, xzC, qzS, yzn, yzu, xzQ, xzo, qzU, qzO, slV, xzA, yzr, xzY, xzI, yze, yzd, xzR, yzl, yzo, yzc, yzv, yzs, yzm, yzx, xzw, eqBool, eqInt, eqStr, yzg, yzk, xzu, xzO, qzK, qzu, xzq, yzq, xzv, yzy, xzP, yzw, yzt, qzx, xzH, cvs, cv, yza, xzZ, toA, ofA, FR.pop, abin, aun, intBin, shiftBin, strBin, bnds, natOf, max2A, min2A, foldA, VN.at, VH.push, VH.set, VH.kill, VH.fix, VB.fix, qzA, h0, VV.cells, ntV, yzf, xzK, yzh, yzi, closedB, qzz, xzt, xzy, xzk, countN, qzQ, yzp, fzB, fzL, xzp, xzM, qzP, xzl, yzb, xzT, yzj, xzB, qzv, xzN, capMost, capDrop, ↓reduceIte, Option.getD_some, Option.getD_none, Option.isSome_some, Option.map_some, Option.map_none, List.getElem?_cons_zero, List.getElem?_cons_succ, List.length_cons, List.length_nil, List.drop_succ_cons, List.drop_zero, List.take_succ_cons, List.take_zero, List.append_nil, List.nil_append, List.cons_append, List.contains_cons, List.contains_nil, List.head?_cons, Nat.reduceAdd, Nat.reduceMul, Nat.reduceSub, Nat.reduceDiv, Nat.reduceLT, Nat.reduceEqDiff, reduceCtorEq, Nat.reduceLeDiff, Nat.reduceBEq, Int.reduceEq, Int.reduceLT, Int.reduceLE, Int.reduceBEq, Int.reduceGT, Nat.add_zero, Nat.zero_add, and_self, and_true, true_and, and_false, false_and, not_true_eq_false, not_false_eq_true, Bool.and_self, Bool.and_true, Bool.true_and, Bool.and_false, Bool.or_false, Bool.true_or, Bool.or_true, Bool.false_or, Bool.not_false, Bool.not_true, Bool.false_eq_true, beq_self_eq_true, bne_self_eq_false, beq_true, beq_false, decide_true, decide_false, true_or, if_true, if_false, forall_const, false_implies, true_implies, Bool.true_eq_false, reduceCtorEq, true_or, cCl, erP, cCon, cNam, cShp, cFault, t_p_api_At, t_p_errors_errorString, ti, tl, c1, t6', s0, hlt, Nat.mul_one, pz, w1, w2, w3, wp_, e0, e1, e2, e3, bytes_cons, bytes_nil]
    refine wpW_acc (base := 1) (j := j) (f := cCon) (l := conT 0 (l.take i)) (a := ⟨[99, chS z], 0, 10 + (i : Int)⟩) (AccAt.ext (h := h) acc (by show h.next ≤ h.next + 1 + 1; omega) (fun q1 q2 => ?_)) (by simp only [qzC, qzY, qzM, qzX, qzs, qzJ, xzd, qzD, qzp, qzb, qzg, qzW, xzg, xza, xzh, xzr, xzb, qzN, qzH, qzG, qzB, qzq, qzr, qzo, xzE, xzG, xzJ, xzL, xzn, qzI, qzt, qzi, qzd, xzc, xzs, xzx, xzm, xzf, xzz, xzj, qzf, qzh, qzj, qze, qzm, qzZ, qzV, xzi, qzE, qzF, qzR, qzk, qzy, qzc, qzw, qzl, qzn, xzD, xzF, xzU, qza, xzV, xzW, xzX, xzS, xze, qzL, qzT, xzC, qzS, yzn, yzu, xzQ, xzo, qzU, qzO, slV, xzA, yzr, xzY, xzI, yze, yzd, xzR, yzl, yzo, yzc, yzv, yzs, yzm, yzx, xzw, eqBool, eqInt, eqStr, yzg, yzk, xzu, xzO, qzK, qzu, xzq, yzq, xzv, yzy, xzP, yzw, yzt, qzx, xzH, cvs, cv, yza, xzZ, toA, ofA, FR.pop, abin, aun, intBin, shiftBin, strBin, bnds, natOf, max2A, min2A, foldA, VN.at, VH.push, VH.set, VH.kill, VH.fix, VB.fix, qzA, h0, VV.cells, ntV, yzf, xzK, yzh, yzi, closedB, qzz, xzt, xzy, xzk, countN, qzQ, yzp, fzB, fzL, xzp, xzM, qzP, xzl, yzb, xzT, yzj, xzB, qzv, xzN, capMost, capDrop, ↓reduceIte, Option.getD_some, Option.getD_none, Option.isSome_some, Option.map_some, Option.map_none, List.getElem?_cons_zero, List.getElem?_cons_succ, List.length_cons, List.length_nil, List.drop_succ_cons, List.drop_zero, List.take_succ_cons, List.take_zero, List.append_nil, List.nil_append, List.cons_append, List.contains_cons, List.contains_nil, List.head?_cons, Nat.reduceAdd, Nat.reduceMul, Nat.reduceSub, Nat.reduceDiv, Nat.reduceLT, Nat.reduceEqDiff, reduceCtorEq, Nat.reduceLeDiff, Nat.reduceBEq, Int.reduceEq, Int.reduceLT, Int.reduceLE, Int.reduceBEq, Int.reduceGT, Nat.add_zero, Nat.zero_add, and_self, and_true, true_and, and_false, false_and, not_true_eq_false, not_false_eq_true, Bool.and_self, Bool.and_true, Bool.true_and, Bool.and_false, Bool.or_false, Bool.true_or, Bool.or_true, Bool.false_or, Bool.not_false, Bool.not_true, Bool.false_eq_true, beq_self_eq_true, bne_self_eq_false, beq_true, beq_false, decide_true, decide_false, true_or, if_true, if_false, forall_const, false_implies, true_implies, Bool.true_eq_false, reduceCtorEq, true_or, cCl, erP, cCon, cNam, cShp, cFault, t_p_api_At, t_p_errors_errorString, Int.natCast_zero] <;> first | rfl | exact ⟨rfl, rfl⟩ | exact yzA rfl) cCon_len (by omega) (by show 1 ≤ h.next + 1 + 1; omega) (by rw [len]; omega) (by rw [len]; omega) ?_
    · simp only [qza]; repeat rw [if_neg (by omega)]
    intro h' g1 g2 g3
    simp only at g1
    have s1 : yzz h'.l 0 = some (some (.cells [.int .i64 0, .int .i64 0, .int .i64 0, v, .nilS, .nilS, .nilS] false)) := by
      rw [g2 0 (by show 0 ≠ h.next + 1 + 1; omega) (acc.ne (.inl (by omega)))]
      simp only [qza, e0, e1, if_false]; exact s0
    rw [tk] at g3
    simp only [qzC, qzY, qzM, qzX, qzs, qzJ, xzd, qzD, qzp, qzb, qzg, qzW, xzg, xza, xzh, xzr, xzb, qzN, qzH, qzG, qzB, qzq, qzr, qzo, xzE, xzG, xzJ, xzL, xzn, qzI, qzt, qzi, qzd, xzc, xzs, xzx, xzm, xzf, xzz, xzj, qzf, qzh, qzj, qze, qzm, qzZ, qzV, xzi, qzE, qzF, qzR, qzk, qzy, qzc, qzw, qzl, qzn, xzD, xzF, xzU, qza, xzV, xzW, xzX, xzS, xze, qzL, qzT, xzC, qzS, yzn, yzu, xzQ, xzo, qzU, qzO, slV, xzA, yzr, xzY, xzI, yze, yzd, xzR, yzl, yzo, yzc, yzv, yzs, yzm, yzx, xzw, eqBool, eqInt, eqStr, yzg, yzk, xzu, xzO, qzK, qzu, xzq, yzq, xzv, yzy, xzP, yzw, yzt, qzx, xzH, cvs, cv, yza, xzZ, toA, ofA, FR.pop, abin, aun, intBin, shiftBin, strBin, bnds, natOf, max2A, min2A, foldA, VN.at, VH.push, VH.set, VH.kill, VH.fix, VB.fix, qzA, h0, VV.cells, ntV, yzf, xzK, yzh, yzi, closedB, qzz, xzt, xzy, xzk, countN, qzQ, yzp, fzB, fzL, xzp, xzM, qzP, xzl, yzb, xzT, yzj, xzB, qzv, xzN, capMost, capDrop, ↓reduceIte, Option.getD_some, Option.getD_none, Option.isSome_some, Option.map_some, Option.map_none, List.getElem?_cons_zero, List.getElem?_cons_succ, List.length_cons, List.length_nil, List.drop_succ_cons, List.drop_zero, List.take_succ_cons, List.take_zero, List.append_nil, List.nil_append, List.cons_append, List.contains_cons, List.contains_nil, List.head?_cons, Nat.reduceAdd, Nat.reduceMul, Nat.reduceSub, Nat.reduceDiv, Nat.reduceLT, Nat.reduceEqDiff, reduceCtorEq, Nat.reduceLeDiff, Nat.reduceBEq, Int.reduceEq, Int.reduceLT, Int.reduceLE, Int.reduceBEq, Int.reduceGT, Nat.add_zero, Nat.zero_add, and_self, and_true, true_and, and_false, false_and, not_true_eq_false, not_false_eq_true, Bool.and_self, Bool.and_true, Bool.true_and, Bool.and_false, Bool.or_false, Bool.true_or, Bool.or_true, Bool.false_or, Bool.not_false, Bool.not_true, Bool.false_eq_true, beq_self_eq_true, bne_self_eq_false, beq_true, beq_false, decide_true, decide_false, true_or, if_true, if_false, forall_const, false_implies, true_implies, Bool.true_eq_false, reduceCtorEq, true_or, cCl, erP, cCon, cNam, cShp, cFault, t_p_api_At, t_p_errors_errorString, t6', s1, wi, ti]
    refine ih (i + 1) _ _ (h.next + 1 + 1) _ (by omega) (fun s hs => ?_) ?_ ?_ ?_ (AccAt.ext (h := h') g3 (Nat.le_refl _) (fun q1 q2 => ?_)) ?_
    · simp only [qza]; repeat rw [if_neg (by omega)]
      exact hT s hs
    · simp only [qzC, qzY, qzM, qzX, qzs, qzJ, xzd, qzD, qzp, qzb, qzg, qzW, xzg, xza, xzh, xzr, xzb, qzN, qzH, qzG, qzB, qzq, qzr, qzo, xzE, xzG, xzJ, xzL, xzn, qzI, qzt, qzi, qzd, xzc, xzs, xzx, xzm, xzf, xzz, xzj, qzf, qzh, qzj, qze, qzm, qzZ, qzV, xzi, qzE, qzF, qzR, qzk, qzy, qzc, qzw, qzl, qzn, xzD, xzF, xzU, qza, xzV, xzW, xzX, xzS, xze, qzL, qzT, xzC, qzS, yzn, yzu, xzQ, xzo, qzU, qzO, slV, xzA, yzr, xzY, xzI, yze, yzd, xzR, yzl, yzo, yzc, yzv, yzs, yzm, yzx, xzw, eqBool, eqInt, eqStr, yzg, yzk, xzu, xzO, qzK, qzu, xzq, yzq, xzv, yzy, xzP, yzw, yzt, qzx, xzH, cvs, cv, yza, xzZ, toA, ofA, FR.pop, abin, aun, intBin, shiftBin, strBin, bnds, natOf, max2A, min2A, foldA, VN.at, VH.push, VH.set, VH.kill, VH.fix, VB.fix, qzA, h0, VV.cells, ntV, yzf, xzK, yzh, yzi, closedB, qzz, xzt, xzy, xzk, countN, qzQ, yzp, fzB, fzL, xzp, xzM, qzP, xzl, yzb, xzT, yzj, xzB, qzv, xzN, capMost, capDrop, ↓reduceIte, Option.getD_some, Option.getD_none, Option.isSome_some, Option.map_some, Option.map_none, List.getElem?_cons_zero, List.getElem?_cons_succ, List.length_cons, List.length_nil, List.drop_succ_cons, List.drop_zero, List.take_succ_cons, List.take_zero, List.append_nil, List.nil_append, List.cons_append, List.contains_cons, List.contains_nil, List.head?_cons, Nat.reduceAdd, Nat.reduceMul, Nat.reduceSub, Nat.reduceDiv, Nat.reduceLT, Nat.reduceEqDiff, reduceCtorEq, Nat.reduceLeDiff, Nat.reduceBEq, Int.reduceEq, Int.reduceLT, Int.reduceLE, Int.reduceBEq, Int.reduceGT, Nat.add_zero, Nat.zero_add, and_self, and_true, true_and, and_false, false_and, not_true_eq_false, not_false_eq_true, Bool.and_self, Bool.and_true, Bool.true_and, Bool.and_false, Bool.or_false, Bool.true_or, Bool.or_true, Bool.false_or, Bool.not_false, Bool.not_true, Bool.false_eq_true, beq_self_eq_true, bne_self_eq_false, beq_true, beq_false, decide_true, decide_false, true_or, if_true, if_false, forall_const, false_implies, true_implies, Bool.true_eq_false, reduceCtorEq, true_or, cCl, erP, cCon, cNam, cShp, cFault, t_p_api_At, t_p_errors_errorString]
    · trivial
    · simp only [qza, if_true]
    · simp only [qza]; rw [if_neg (by omega)]
    · show 1 ≤ h'.next; omega

theorem twice_bN (Gl : yzG) (l m : List Int) (hl : l.length ≤ 12) (hm : m.length ≤ 12) (T0 : VF) (tL : yzz T0 1 = some (.fsl (m.map (VV.int .i64)) m.length 1)) (t6 : yzz T0 6 = some (.ptr 0 0)) (v3 : VV) (j3 : Nat) (K : AEx → VF → VH → Prop)
    (hK : ∀ T h j v, (∀ s, s < 8 → yzz T s = yzz T0 s) → (AccAt 1 h j3 cCon (conT 0 l) 3 v3 ∧ (v3 = .nilS ∨ j3 ≠ j ∨ v = .nilS)) → yzz h.l 0 = some (some (.cells [.int .i64 0, .int .i64 0, .int .i64 0, v3, v, .nilS, .nilS] false)) → AccAt 1 h j cNam (namT 0 m) 6 v → 1 ≤ h.next → K (.exit 2) T h) :
    ∀ (d i : Nat) (T : VF) (h : VH) (j : Nat) (v : VV), d + i = m.length → (∀ s, s < 8 → yzz T s = yzz T0 s) → yzz T 8 = some (.int .i64 i) → (AccAt 1 h j3 cCon (conT 0 l) 3 v3 ∧ (v3 = .nilS ∨ j3 ≠ j ∨ v = .nilS)) → yzz h.l 0 = some (some (.cells [.int .i64 0, .int .i64 0, .int .i64 0, v3, v, .nilS, .nilS] false)) → AccAt 1 h j cNam (namT 0 (m.take i)) 6 v → 1 ≤ h.next →
      wp Go.VL.Er.E Gl (.loop c_glyphiclaw12_NamesTwice_l4) T h K := by
  intro d
  induction d with
  | zero =>
    intro i T h j v hd hT ti hh s0 acc hn
    obtain rfl : i = m.length := by omega
    rw [List.take_length] at acc
    refine yzD c_glyphiclaw12_NamesTwice_l4.eq_1 ?_
    have tl := (hT 1 (by omega)).trans tL
    simp only [qzC, qzY, qzM, qzX, qzs, qzJ, xzd, qzD, qzp, qzb, qzg, qzW, xzg, xza, xzh, xzr, xzb, qzN, qzH, qzG, qzB, qzq, qzr, qzo, xzE, xzG, xzJ, xzL, xzn, qzI, qzt, qzi, qzd, xzc, xzs, xzx, xzm, xzf, xzz, xzj, qzf, qzh, qzj, qze, qzm, qzZ, qzV, xzi, qzE, qzF, qzR, qzk, qzy, qzc, qzw, qzl, qzn, xzD, xzF, xzU, qza, xzV, xzW, xzX, xzS, xze, qzL, qzT, xzC, qzS, yzn, yzu, xzQ, xzo, qzU, qzO, slV, xzA, yzr, xzY, xzI, yze, yzd, xzR, yzl, yzo, yzc, yzv, yzs, yzm, yzx, xzw, eqBool, eqInt, eqStr, yzg, yzk, xzu, xzO, qzK, qzu, xzq, yzq, xzv, yzy, xzP, yzw, yzt, qzx, xzH, cvs, cv, yza, xzZ, toA, ofA, FR.pop, abin, aun, intBin, shiftBin, strBin, bnds, natOf, max2A, min2A, foldA, VN.at, VH.push, VH.set, VH.kill, VH.fix, VB.fix, qzA, h0, VV.cells, ntV, yzf, xzK, yzh, yzi, closedB, qzz, xzt, xzy, xzk, countN, qzQ, yzp, fzB, fzL, xzp, xzM, qzP, xzl, yzb, xzT, yzj, xzB, qzv, xzN, capMost, capDrop, ↓reduceIte, Option.getD_some, Option.getD_none, Option.isSome_some, Option.map_some, Option.map_none, List.getElem?_cons_zero, List.getElem?_cons_succ, List.length_cons, List.length_nil, List.drop_succ_cons, List.drop_zero, List.take_succ_cons, List.take_zero, List.append_nil, List.nil_append, List.cons_append, List.contains_cons, List.contains_nil, List.head?_cons, Nat.reduceAdd, Nat.reduceMul, Nat.reduceSub, Nat.reduceDiv, Nat.reduceLT, Nat.reduceEqDiff, reduceCtorEq, Nat.reduceLeDiff, Nat.reduceBEq, Int.reduceEq, Int.reduceLT, Int.reduceLE, Int.reduceBEq, Int.reduceGT, Nat.add_zero, Nat.zero_add, and_self, and_true, true_and, and_false, false_and, not_true_eq_false, not_false_eq_true, Bool.and_self, Bool.and_true, Bool.true_and, Bool.and_false, Bool.or_false, Bool.true_or, Bool.or_true, Bool.false_or, Bool.not_false, Bool.not_true, Bool.false_eq_true, beq_self_eq_true, bne_self_eq_false, beq_true, beq_false, decide_true, decide_false, true_or, if_true, if_false, forall_const, false_implies, true_implies, Bool.true_eq_false, reduceCtorEq, true_or, cCl, erP, cCon, cNam, cShp, cFault, t_p_api_At, t_p_errors_errorString, ti, tl, Int.lt_irrefl]
    refine hK _ h j v (fun s hs => ?_) hh s0 acc hn
    simp only [qza]; repeat rw [if_neg (by omega)]
    exact hT s hs
  | succ d ih =>
    intro i T h j v hd hT ti hh s0 acc hn
    refine yzD c_glyphiclaw12_NamesTwice_l4.eq_1 ?_
    have tl := (hT 1 (by omega)).trans tL
    have t6' := (hT 6 (by omega)).trans t6
    have hlt : i < m.length := by omega
    have c1 : (i : Int) < m.length := by omega
    obtain ⟨z, hz⟩ : ∃ z, m[i]? = some z := ⟨m[i], List.getElem?_eq_getElem hlt⟩
    have pz : (m.map (VV.int .i64))[i]? = some (.int .i64 z) := by rw [List.getElem?_map, hz]; rfl
    obtain ⟨w1, w2, w3⟩ := ch_in z
    have wi : IntKind.i64.wrap ((i : Int) + 1) = ((i + 1 : Nat) : Int) := by rw [yzF (by omega) (by omega)]; rfl
    have wp_ : IntKind.i64.wrap (50 + (i : Int)) = 50 + (i : Int) := yzF (by omega) (by omega)
    have e0 : ¬ h.next = 0 := by omega
    have e1 : ¬ h.next + 1 = 0 := by omega
    have e2 : ¬ h.next + 1 = h.next := by omega
    have e3 : ¬ h.next = h.next + 1 := by omega
    have len : (namT 0 (m.take i)).length = i := by rw [namT_len, List.length_take]; omega
    have tk : namT 0 (m.take i) ++ [⟨[99, chS z], ⟨0, 0, 0, 0⟩, 50 + (i : Int)⟩] = namT 0 (m.take (i + 1)) := by
      rw [take_at hz, namT_app, Nat.zero_add, List.length_take, Nat.min_eq_left (by omega)]
    simp only [qzC, qzY, qzM, qzX, qzs, qzJ, xzd, qzD, qzp, qzb, qzg, qzW, xzg, xza, xzh, xzr, xzb, qzN, qzH, qzG, qzB, qzq, qzr, qzo, xzE, xzG, xzJ, xzL, xzn, qzI, qzt, qzi, qzd, xzc, xzs, xzx, xzm, xzf, xzz, xzj, qzf, qzh, qzj, qze, qzm, qzZ, qzV, xzi, qzE, qzF, qzR, qzk, qzy, qzc, qzw, qzl, qzn, xzD, xzF, xzU, qza, xzV, xzW, xzX, xzS, xze, qzL, qzT, xzC, qzS, yzn, yzu, xzQ, xzo, qzU, qzO, slV, xzA, yzr, xzY, xzI, yze, yzd, xzR, yzl, yzo, yzc, yzv, yzs, yzm, yzx, xzw, eqBool, eqInt, eqStr, yzg, yzk, xzu, xzO, qzK, qzu, xzq, yzq, xzv, yzy, xzP, yzw, yzt, qzx, xzH, cvs, cv, yza, xzZ, toA, ofA, FR.pop, abin, aun, intBin, shiftBin, strBin, bnds, natOf, max2A, min2A, foldA, VN.at, VH.push, VH.set, VH.kill, VH.fix, VB.fix, qzA, h0, VV.cells, ntV, yzf, xzK, yzh, yzi, closedB, qzz, xzt, xzy, xzk, countN, qzQ, yzp, fzB, fzL, xzp, xzM, qzP, xzl, yzb, xzT, yzj, xzB, qzv, xzN, capMost, capDrop, ↓reduceIte, Option.getD_some, Option.getD_none, Option.isSome_some, Option.map_some, Option.map_none, List.getElem?_cons_zero, List.getElem?_cons_succ, List.length_cons, List.length_nil, List.drop_succ_cons, List.drop_zero, List.take_succ_cons, List.take_zero, List.append_nil, List.nil_append, List.cons_append, List.contains_cons, List.contains_nil, List.head?_cons, Nat.reduceAdd, Nat.reduceMul, Nat.reduceSub, Nat.reduceDiv, Nat.reduceLT, Nat.reduceEqDiff, reduceCtorEq, Nat.reduceLeDiff, Nat.reduceBEq, Int.reduceEq, Int.reduceLT, Int.reduceLE, Int.reduceBEq, Int.reduceGT, Nat.add_zero, Nat.zero_add, and_self, and_true, true_and, and_false, false_and, not_true_eq_false, not_false_eq_true, Bool.and_self, Bool.and_true, Bool.true_and, Bool.and_false, Bool.or_false, Bool.true_or, Bool.or_true, Bool.false_or, Bool.not_false, Bool.not_true, Bool.false_eq_true, beq_self_eq_true, bne_self_eq_false, beq_true, beq_false, decide_true, decide_false, true_or, if_true, if_false, forall_const, false_implies, true_implies, Bool.true_eq_false, reduceCtorEq, true_or, cCl, erP, cCon, cNam, cShp, cFault, t_p_api_At, t_p_errors_errorString, ti, tl, c1, t6', s0, hlt, Nat.mul_one, pz, w1, w2, w3, wp_, e0, e1, e2, e3, bytes_cons, bytes_nil]
    refine wpW_acc (base := 1) (j := j) (f := cNam) (l := namT 0 (m.take i)) (a := ⟨[99, chS z], ⟨0, 0, 0, 0⟩, 50 + (i : Int)⟩) (AccAt.ext (h := h) acc (by show h.next ≤ h.next + 1 + 1; omega) (fun q1 q2 => ?_)) (by simp only [qzC, qzY, qzM, qzX, qzs, qzJ, xzd, qzD, qzp, qzb, qzg, qzW, xzg, xza, xzh, xzr, xzb, qzN, qzH, qzG, qzB, qzq, qzr, qzo, xzE, xzG, xzJ, xzL, xzn, qzI, qzt, qzi, qzd, xzc, xzs, xzx, xzm, xzf, xzz, xzj, qzf, qzh, qzj, qze, qzm, qzZ, qzV, xzi, qzE, qzF, qzR, qzk, qzy, qzc, qzw, qzl, qzn, xzD, xzF, xzU, qza, xzV, xzW, xzX, xzS, xze, qzL, qzT, xzC, qzS, yzn, yzu, xzQ, xzo, qzU, qzO, slV, xzA, yzr, xzY, xzI, yze, yzd, xzR, yzl, yzo, yzc, yzv, yzs, yzm, yzx, xzw, eqBool, eqInt, eqStr, yzg, yzk, xzu, xzO, qzK, qzu, xzq, yzq, xzv, yzy, xzP, yzw, yzt, qzx, xzH, cvs, cv, yza, xzZ, toA, ofA, FR.pop, abin, aun, intBin, shiftBin, strBin, bnds, natOf, max2A, min2A, foldA, VN.at, VH.push, VH.set, VH.kill, VH.fix, VB.fix, qzA, h0, VV.cells, ntV, yzf, xzK, yzh, yzi, closedB, qzz, xzt, xzy, xzk, countN, qzQ, yzp, fzB, fzL, xzp, xzM, qzP, xzl, yzb, xzT, yzj, xzB, qzv, xzN, capMost, capDrop, ↓reduceIte, Option.getD_some, Option.getD_none, Option.isSome_some, Option.map_some, Option.map_none, List.getElem?_cons_zero, List.getElem?_cons_succ, List.length_cons, List.length_nil, List.drop_succ_cons, List.drop_zero, List.take_succ_cons, List.take_zero, List.append_nil, List.nil_append, List.cons_append, List.contains_cons, List.contains_nil, List.head?_cons, Nat.reduceAdd, Nat.reduceMul, Nat.reduceSub, Nat.reduceDiv, Nat.reduceLT, Nat.reduceEqDiff, reduceCtorEq, Nat.reduceLeDiff, Nat.reduceBEq, Int.reduceEq, Int.reduceLT, Int.reduceLE, Int.reduceBEq, Int.reduceGT, Nat.add_zero, Nat.zero_add, and_self, and_true, true_and, and_false, false_and, not_true_eq_false, not_false_eq_true, Bool.and_self, Bool.and_true, Bool.true_and, Bool.and_false, Bool.or_false, Bool.true_or, Bool.or_true, Bool.false_or, Bool.not_false, Bool.not_true, Bool.false_eq_true, beq_self_eq_true, bne_self_eq_false, beq_true, beq_false, decide_true, decide_false, true_or, if_true, if_false, forall_const, false_implies, true_implies, Bool.true_eq_false, reduceCtorEq, true_or, cCl, erP, cCon, cNam, cShp, cFault, t_p_api_At, t_p_errors_errorString, Int.natCast_zero] <;> first | rfl | exact ⟨rfl, rfl⟩ | exact yzA rfl) cNam_len (by omega) (by show 1 ≤ h.next + 1 + 1; omega) (by rw [len]; omega) (by rw [len]; omega) ?_
    · simp only [qza]; repeat rw [if_neg (by omega)]
    intro h' g1 g2 g3
    simp only at g1
    have s1 : yzz h'.l 0 = some (some (.cells [.int .i64 0, .int .i64 0, .int .i64 0, v3, v, .nilS, .nilS] false)) := by
      rw [g2 0 (by show 0 ≠ h.next + 1 + 1; omega) (acc.ne (.inl (by omega)))]
      simp only [qza, e0, e1, if_false]; exact s0
    rw [tk] at g3
    simp only [qzC, qzY, qzM, qzX, qzs, qzJ, xzd, qzD, qzp, qzb, qzg, qzW, xzg, xza, xzh, xzr, xzb, qzN, qzH, qzG, qzB, qzq, qzr, qzo, xzE, xzG, xzJ, xzL, xzn, qzI, qzt, qzi, qzd, xzc, xzs, xzx, xzm, xzf, xzz, xzj, qzf, qzh, qzj, qze, qzm, qzZ, qzV, xzi, qzE, qzF, qzR, qzk, qzy, qzc, qzw, qzl, qzn, xzD, xzF, xzU, qza, xzV, xzW, xzX, xzS, xze, qzL, qzT, xzC, qzS, yzn, yzu, xzQ, xzo, qzU, qzO, slV, xzA, yzr, xzY, xzI, yze, yzd, xzR, yzl, yzo, yzc, yzv, yzs, yzm, yzx, xzw, eqBool, eqInt, eqStr, yzg, yzk, xzu, xzO, qzK, qzu, xzq, yzq, xzv, yzy, xzP, yzw, yzt, qzx, xzH, cvs, cv, yza, xzZ, toA, ofA, FR.pop, abin, aun, intBin, shiftBin, strBin, bnds, natOf, max2A, min2A, foldA, VN.at, VH.push, VH.set, VH.kill, VH.fix, VB.fix, qzA, h0, VV.cells, ntV, yzf, xzK, yzh, yzi, closedB, qzz, xzt, xzy, xzk, countN, qzQ, yzp, fzB, fzL, xzp, xzM, qzP, xzl, yzb, xzT, yzj, xzB, qzv, xzN, capMost, capDrop, ↓reduceIte, Option.getD_some, Option.getD_none, Option.isSome_some, Option.map_some, Option.map_none, List.getElem?_cons_zero, List.getElem?_cons_succ, List.length_cons, List.length_nil, List.drop_succ_cons, List.drop_zero, List.take_succ_cons, List.take_zero, List.append_nil, List.nil_append, List.cons_append, List.contains_cons, List.contains_nil, List.head?_cons, Nat.reduceAdd, Nat.reduceMul, Nat.reduceSub, Nat.reduceDiv, Nat.reduceLT, Nat.reduceEqDiff, reduceCtorEq, Nat.reduceLeDiff, Nat.reduceBEq, Int.reduceEq, Int.reduceLT, Int.reduceLE, Int.reduceBEq, Int.reduceGT, Nat.add_zero, Nat.zero_add, and_self, and_true, true_and, and_false, false_and, not_true_eq_false, not_false_eq_true, Bool.and_self, Bool.and_true, Bool.true_and, Bool.and_false, Bool.or_false, Bool.true_or, Bool.or_true, Bool.false_or, Bool.not_false, Bool.not_true, Bool.false_eq_true, beq_self_eq_true, bne_self_eq_false, beq_true, beq_false, decide_true, decide_false, true_or, if_true, if_false, forall_const, false_implies, true_implies, Bool.true_eq_false, reduceCtorEq, true_or, cCl, erP, cCon, cNam, cShp, cFault, t_p_api_At, t_p_errors_errorString, t6', s1, wi, ti]
    refine ih (i + 1) _ _ (h.next + 1 + 1) _ (by omega) (fun s hs => ?_) ?_ ?_ ?_ (AccAt.ext (h := h') g3 (Nat.le_refl _) (fun q1 q2 => ?_)) ?_
    · simp only [qza]; repeat rw [if_neg (by omega)]
      exact hT s hs
    · simp only [qzC, qzY, qzM, qzX, qzs, qzJ, xzd, qzD, qzp, qzb, qzg, qzW, xzg, xza, xzh, xzr, xzb, qzN, qzH, qzG, qzB, qzq, qzr, qzo, xzE, xzG, xzJ, xzL, xzn, qzI, qzt, qzi, qzd, xzc, xzs, xzx, xzm, xzf, xzz, xzj, qzf, qzh, qzj, qze, qzm, qzZ, qzV, xzi, qzE, qzF, qzR, qzk, qzy, qzc, qzw, qzl, qzn, xzD, xzF, xzU, qza, xzV, xzW, xzX, xzS, xze, qzL, qzT, xzC, qzS, yzn, yzu, xzQ, xzo, qzU, qzO, slV, xzA, yzr, xzY, xzI, yze, yzd, xzR, yzl, yzo, yzc, yzv, yzs, yzm, yzx, xzw, eqBool, eqInt, eqStr, yzg, yzk, xzu, xzO, qzK, qzu, xzq, yzq, xzv, yzy, xzP, yzw, yzt, qzx, xzH, cvs, cv, yza, xzZ, toA, ofA, FR.pop, abin, aun, intBin, shiftBin, strBin, bnds, natOf, max2A, min2A, foldA, VN.at, VH.push, VH.set, VH.kill, VH.fix, VB.fix, qzA, h0, VV.cells, ntV, yzf, xzK, yzh, yzi, closedB, qzz, xzt, xzy, xzk, countN, qzQ, yzp, fzB, fzL, xzp, xzM, qzP, xzl, yzb, xzT, yzj, xzB, qzv, xzN, capMost, capDrop, ↓reduceIte, Option.getD_some, Option.getD_none, Option.isSome_some, Option.map_some, Option.map_none, List.getElem?_cons_zero, List.getElem?_cons_succ, List.length_cons, List.length_nil, List.drop_succ_cons, List.drop_zero, List.take_succ_cons, List.take_zero, List.append_nil, List.nil_append, List.cons_append, List.contains_cons, List.contains_nil, List.head?_cons, Nat.reduceAdd, Nat.reduceMul, Nat.reduceSub, Nat.reduceDiv, Nat.reduceLT, Nat.reduceEqDiff, reduceCtorEq, Nat.reduceLeDiff, Nat.reduceBEq, Int.reduceEq, Int.reduceLT, Int.reduceLE, Int.reduceBEq, Int.reduceGT, Nat.add_zero, Nat.zero_add, and_self, and_true, true_and, and_false, false_and, not_true_eq_false, not_false_eq_true, Bool.and_self, Bool.and_true, Bool.true_and, Bool.and_false, Bool.or_false, Bool.true_or, Bool.or_true, Bool.false_or, Bool.not_false, Bool.not_true, Bool.false_eq_true, beq_self_eq_true, bne_self_eq_false, beq_true, beq_false, decide_true, decide_false, true_or, if_true, if_false, forall_const, false_implies, true_implies, Bool.true_eq_false, reduceCtorEq, true_or, cCl, erP, cCon, cNam, cShp, cFault, t_p_api_At, t_p_errors_errorString]
    · rcases hh.1 with ⟨a1, a2⟩ | ⟨a1, a2, a3, a4⟩
      · exact ⟨.inl ⟨a1, a2⟩, .inl a2⟩
      · refine ⟨.inr ⟨a1, ?_, a3, by show j3 < h'.next; omega⟩, .inr (.inl (by show j3 ≠ h.next + 1 + 1; omega))⟩
        have := g2 j3 (by show j3 ≠ h.next + 1 + 1; omega) (by
          rcases hh.2 with e | e | e
          · rw [e] at a1; cases a1
          · exact .inl e
          · exact .inr e)
        simp only [qza]; rw [if_neg (by omega), this]
        simp only [qza]; repeat rw [if_neg (by omega)]
        exact a2
    · simp only [qza, if_true]
    · simp only [qza]; rw [if_neg (by omega)]
    · show 1 ≤ h'.next; omega
end
end Go.VL.Nm
