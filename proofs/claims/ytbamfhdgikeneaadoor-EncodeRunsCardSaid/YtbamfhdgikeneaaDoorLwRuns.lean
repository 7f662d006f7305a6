/- 'glyphiclaw6.EncodeRuns' answers true, whatever it is given. -/
import Derived.Test.YtbamfhdgikeneaaDoorEnF
namespace Go.VL.En
open Go.FR Go.IR Go.VL Go.VL.Color Go.VL.Wind Go.VL.Ic Go.VL.Wire
noncomputable section
set_option linter.unusedSimpArgs false
set_option linter.unusedVariables false
set_option maxRecDepth 100000
set_option maxHeartbeats 1000000

theorem first6_ok {Gl : xzv} (hG : IcG Gl) : PureOk Go.VL.Er.E Gl f_glyphiclaw6_first [] (.bool true) := by
  refine pure_sound (xzp E_glyphiclaw6_first ?_)
  unfold c_glyphiclaw6_first r_glyphiclaw6_first
  simp only [xzF]
  have bk := bytes_ok hG ⟨1, 1, 0, [], []⟩ ⟨by simp, by simp, fun c hc => by cases hc⟩ (by decide) (fun c hc => by cases hc) (fun _ => []) (m := 0) (by omega) (fun c hc => by cases hc) (by simp)
  have hl : (bytesS (fun _ => []) ⟨1, 1, 0, [], []⟩).length = 9 := by
    have p0 : putS 0 = [0] := putS_lt (by omega)
    have p1 : putS 1 = [1] := putS_lt (by omega)
    simp [bytesS, numsB, colorsB, p0, p1]
  rw [hl] at bk
  simp only [qzl, qzm, qzk, qzf, qze, qzd, qzp, qzU, qzc, qzb, qzh, qzi, qzL, qzn, qzo, qzu, qza, qzt, qzv, qzy, xzC, xzy, xzh, cvs, cv, h0, VV.cells, ntV, ↓reduceIte, List.length_cons, List.length_nil, List.drop_succ_cons, List.drop_zero, List.take_succ_cons, List.take_zero, List.nil_append, List.cons_append, Nat.reduceAdd, Nat.reduceLeDiff, Nat.zero_add, and_self, t_p_api_At, t_p_errors_errorString]
  refine call_deepL_refs bk (shut_icon shut_nil shut_nil) ?_
  simp only [qzl, qzm, qzk, qzf, qze, qzd, qzp, qzU, qzz, qzc, qzb, qzh, qzi, qzL, qzn, qzo, qzu, qza, qzt, qzv, qzy, extV, cv, ↓reduceIte, List.getElem?_cons_zero, List.getElem?_cons_succ, Nat.reduceEqDiff]
  refine call_plain_sub (a0 := [.nilS]) (runs_nil Gl) rfl ⟨_, _, rfl, .inr ⟨7, rfl⟩, rfl⟩ rfl ?_
  have z9 : ((9 : Nat) : Int) = 9 := rfl
  simp only [qzG, qzk, qzf, qze, qzd, qzp, qzC, qzz, qzI, qzc, qzj, qzb, qzh, qzi, qzn, qzo, qzu, qza, qzt, qzv, qzy, xzi, qzY, qzH, xzB, xzA, eqIV, cv, qzF, qzE, toA, ofA, FR.pop, abin, intBin, qzT, qzM, qzW, qzS, ↓reduceIte, Nat.reduceEqDiff, Bool.false_eq_true, beq_self_eq_true, z9]
  exact qzr rfl

def kindOf (z : Int) : Int := (z.tmod 3 + 3).tmod 3 + 1
def kseg (z : Int) : Seg := ⟨kindOf z, ⟨0, 0⟩, ⟨0, 0⟩, ⟨0, 0⟩⟩
theorem build_loop {Gl : xzv} (ks : List Int) (hl : ks.length ≤ 60) (K : AEx → VF → VH → Prop)
    (hK : ∀ T h j v, qzB T 4 = some v → qzB T 3 = some (.bool true) → AccAt 0 h j cSeg (ks.map kseg) 7 v → (ks = [] → v = .nilS) → K (.exit 0) T h) :
    ∀ (d i : Nat) (T : VF) (h : VH) (j : Nat) (v : VV), d + i = ks.length → qzB T 0 = some (.fsl (ks.map (VV.int .i64)) ks.length 1) → qzB T 3 = some (.bool true) → qzB T 4 = some v → qzB T 5 = some (.int .i64 i) → AccAt 0 h j cSeg ((ks.take i).map kseg) 7 v → (i = 0 → v = .nilS) →
    wp Go.VL.Er.E Gl (.loop c_glyphiclaw6_EncodeRuns_l2) T h K := by
  intro d
  induction d with
  | zero =>
    intro i T h j v hd t0 t3 t4 t5 q hv
    obtain rfl : i = ks.length := by omega
    rw [List.take_length] at q
    refine xzf c_glyphiclaw6_EncodeRuns_l2.eq_1 ?_
    have c : ¬ ((ks.length : Int) < ks.length) := by omega
    simp only [qzx, qzl, qzm, qzw, qzP, qzq, qzg, qzk, qzV, qzO, qzf, qze, qzd, qzp, qzc, qzb, qzh, qzi, qzn, qzo, qzu, qza, qzt, qzv, qzy, qzY, qzF, qzE, toA, ofA, FR.pop, abin, intBin, ↓reduceIte, Nat.reduceEqDiff, reduceCtorEq, true_and, Bool.false_eq_true, decide_false, forall_const, false_implies, reduceCtorEq, t0, t5, c]
    refine hK _ _ j v (by simp only [qza, ↓reduceIte, Nat.reduceEqDiff, t4]) (by simp only [qza, ↓reduceIte, Nat.reduceEqDiff, t3]) q (fun e => hv (by rw [e]; rfl))
  | succ d ih =>
    intro i T h j v hd t0 t3 t4 t5 q hv
    refine xzf c_glyphiclaw6_EncodeRuns_l2.eq_1 ?_
    have hlt : i < ks.length := by omega
    have c : (i : Int) < ks.length := by omega
    obtain ⟨z, hz⟩ : ∃ z, ks[i]? = some z := ⟨ks[i], List.getElem?_eq_getElem hlt⟩
    have hz' : (ks.map (VV.int .i64))[i]? = some (.int .i64 z) := by rw [List.getElem?_map, hz]; rfl
    have r0 := Int.lt_tmod_of_pos z (show (0:Int) < 3 by omega)
    have r1 := Int.tmod_lt_of_pos z (show (0:Int) < 3 by omega)
    have m0 : 0 ≤ (z.tmod 3 + 3).tmod 3 := Int.tmod_nonneg _ (by omega)
    have m1 : (z.tmod 3 + 3).tmod 3 < 3 := Int.tmod_lt_of_pos _ (by omega)
    have u1 : IntKind.i64.wrap (z.tmod 3) = z.tmod 3 := xzm (by omega) (by omega)
    have u2 : IntKind.i64.wrap (z.tmod 3 + 3) = z.tmod 3 + 3 := xzm (by omega) (by omega)
    have u3 : IntKind.i64.wrap ((z.tmod 3 + 3).tmod 3) = (z.tmod 3 + 3).tmod 3 := xzm (by omega) (by omega)
    have u4 : IntKind.i64.wrap ((z.tmod 3 + 3).tmod 3 + 1) = kindOf z := xzm (by omega) (by omega)
    have hw : IntKind.i64.wrap ((i : Int) + 1) = ((i + 1 : Nat) : Int) := by rw [xzm (by omega) (by omega)]; rfl
    have zi := xzn .i64 i
    simp only [qzx, qzl, qzm, qzw, qzP, qzq, qzg, qzk, qzV, qzO, qzf, qze, qzd, qzp, qzC, xzd, qzU, qzc, qzj, qzK, qzb, qzh, qzi, qzX, qzn, qzo, qzu, qza, qzt, qzv, qzy, xzb, qzY, qzH, qzD, xzo, xzC, xzy, xzh, qzA, cvs, cv, qzF, qzE, toA, ofA, FR.pop, abin, intBin, VN.at, VH.push, VV.cells, ntV, xzn, ↓reduceIte, List.length_cons, List.length_nil, List.drop_succ_cons, List.drop_zero, List.take_zero, List.append_nil, List.nil_append, List.cons_append, Nat.reduceAdd, Nat.reduceDiv, Nat.reduceEqDiff, reduceCtorEq, Nat.reduceLeDiff, Int.reduceEq, Nat.zero_add, and_self, and_true, decide_true, forall_const, false_implies, Bool.true_eq_false, reduceCtorEq, t0, t4, t5, c, hlt, hz', Nat.mul_one, u2, u4]
    refine wpW_acc (base := 0) (j := j) (f := cSeg) (l := (ks.take i).map kseg) (a := kseg z) (q.ext (Nat.le_succ _) (fun x y => by simp only [qza]; rw [if_neg (by omega)])) (by simp only [kseg]; simp only [qza, srcV, winV, qzs, ↓reduceIte, Option.getD_some, List.length_cons, List.length_nil, List.drop_zero, List.take_succ_cons, List.take_zero, Nat.reduceAdd, Nat.reduceMul, reduceCtorEq, Nat.reduceLeDiff, Nat.zero_add, true_or, reduceCtorEq, true_or, cSeg] <;> first | rfl | exact ⟨rfl, rfl⟩ | exact qzr rfl) cSeg_len (by omega) (Nat.zero_le _) (by simp; omega) (by simp; omega) ?_
    intro h' g1 g2 g3
    have e : (ks.take i).map kseg ++ [kseg z] = (ks.take (i + 1)).map kseg := by rw [take_at hz]; simp
    rw [e] at g3
    simp only [qzl, qzk, qzR, xzc, qzf, qze, qzd, qzp, qzz, qzc, qzb, qzh, qzi, qzn, qzo, qzu, qza, qzt, qzv, qzy, cv, qzF, qzE, toA, ofA, FR.pop, abin, intBin, xzz, ↓reduceIte, Nat.reduceEqDiff, t5, hw]
    refine ih (i + 1) _ h' _ _ (by omega) ?_ ?_ ?_ ?_ g3 (fun e => nomatch e)
    · simp only [qza, ↓reduceIte, reduceCtorEq, reduceCtorEq, t0]
    · simp only [qza, ↓reduceIte, Nat.reduceEqDiff, t3]
    · simp only [qza, ↓reduceIte, Nat.reduceEqDiff]
    · simp only [qza, ↓reduceIte]
theorem kinds_loop {Gl : xzv} (l : List Seg) (hl : l.length ≤ 60) (j jr : Nat) (i : Nat) (r : Run) (hr : (runsS l)[i]? = some r) (T0 : VF) (h : VH) (hj : qzB h.l j = some (some (.cells (xzq cSeg l) false))) (hjr : qzB h.l jr = some (some (.cells (xzq cR (runsS l)) false))) (K : AEx → VF → VH → Prop)
    (hK : ∀ T, (∀ k, k < 9 → k ≠ 2 → qzB T k = qzB T0 k) → K (.exit 4) T h) :
    ∀ (d k : Nat) (T : VF), d + k = r.2 → (∀ k, k < 9 → k ≠ 2 → qzB T k = qzB T0 k) → qzB T0 4 = some (.slice j 0 l.length 7 (.toEnd 7)) → qzB T0 6 = some (.slice jr 0 (runsS l).length 2 (.toEnd 2)) → qzB T0 7 = some (.int .i64 (countR ((runsS l).take i) : Int)) → qzB T0 8 = some (.int .i64 i) → qzB T 9 = some (.int .i64 k) →
    wp Go.VL.Er.E Gl (.loop c_glyphiclaw6_EncodeRuns_l0) T h K := by
  have hi : i < (runsS l).length := by
    rcases Nat.lt_or_ge i (runsS l).length with q | q
    · exact q
    · rw [List.getElem?_eq_none q] at hr; exact nomatch hr
  have hi' : (i : Int) < (runsS l).length := by omega
  have f3 := flatL_length cR_len (runsS l)
  have fa := part_flat1 cR_len hr (q := 0) (by omega)
  have fb := part_flat1 cR_len hr (q := 1) (by omega)
  simp only [qzA, Nat.add_zero] at fa fb
  have cl : (runsS l).length ≤ l.length ∧ countR (runsS l) = l.length := by
    refine ⟨?_, by rw [← exp_len, exp_runs, List.length_map]⟩
    have : ∀ (m : List Seg) (A : List Run), (m.foldl (fun A s => pushR A s.kind) A).length ≤ A.length + m.length := fun m => by
      induction m with
      | nil => intro A; simp
      | cons s m ih => intro A; have := ih (pushR A s.kind); have := pushR_len A s.kind; simp only [List.foldl_cons, List.length_cons]; omega
    have := this l []
    simp only [List.length_nil, Nat.zero_add] at this
    exact this
  have ct := count_take _ hr
  have cle := count_le (runsS l) (i + 1)
  have n0 : natV (VV.int .i64 0) = some 0 := rfl
  have n1 : natV (VV.int .i64 1) = some 1 := rfl
  have zi := xzn .i64 i
  intro d
  induction d with
  | zero =>
    intro k T hd hT u4 u6 u7 u8 t9
    obtain rfl : k = r.2 := by omega
    have t6 := (hT 6 (by omega) (by omega)).trans u6
    have t8 := (hT 8 (by omega) (by omega)).trans u8
    refine xzf c_glyphiclaw6_EncodeRuns_l0.eq_1 ?_
    have c : ¬ ((r.2 : Int) < r.2) := by omega
    simp only [qzx, qzl, wp_draw, qzm, qzw, qzP, qzq, qzg, qzk, qzV, qzO, qzf, qze, qzd, qzp, qzC, xzu, xzs, qzc, qzj, qzb, qzh, qzi, qzn, qzo, qzu, qza, qzt, qzv, qzy, xzb, iAddrAV, qzH, qzD, qzA, cv, qzF, qzE, toA, ofA, FR.pop, abin, intBin, qzs, countN, ↓reduceIte, Option.getD_some, List.getElem?_cons_zero, List.getElem?_cons_succ, Nat.reduceMul, Nat.reduceLT, Nat.reduceEqDiff, Nat.zero_add, true_and, Bool.false_eq_true, decide_false, forall_const, false_implies, cR, t6, t8, t9, zi, hi, hjr, n1, fb, c]
    refine hK _ (fun k h1 h2 => ?_)
    simp only [qza]
    (repeat rw [if_neg (by omega)])
    exact hT k h1 h2
  | succ d ih =>
    intro k T hd hT u4 u6 u7 u8 t9
    have t4 := (hT 4 (by omega) (by omega)).trans u4
    have t6 := (hT 6 (by omega) (by omega)).trans u6
    have t7 := (hT 7 (by omega) (by omega)).trans u7
    have t8 := (hT 8 (by omega) (by omega)).trans u8
    refine xzf c_glyphiclaw6_EncodeRuns_l0.eq_1 ?_
    have c : ((k : Int) < r.2) := by omega
    obtain ⟨s, hs, hk⟩ := kind_run l hr (show k < r.2 by omega)
    obtain ⟨m, hm⟩ : ∃ m, countR ((runsS l).take i) + k = m := ⟨_, rfl⟩
    have wm : IntKind.i64.wrap ((countR ((runsS l).take i) : Int) + (k : Int)) = (m : Int) := by rw [xzm (by omega) (by omega)]; omega
    rw [hm] at hs
    have hml : m < l.length := by omega
    have hml' : (m : Int) < l.length := by omega
    have sa := part_flat1 cSeg_len hs (q := 0) (by omega)
    simp only [qzA, Nat.add_zero] at sa
    have zm := xzn .i64 m
    have ne : (s.kind != r.1) = false := by rw [hk]; simp
    have hw : IntKind.i64.wrap ((k : Int) + 1) = ((k + 1 : Nat) : Int) := by rw [xzm (by omega) (by omega)]; rfl
    simp only [qzx, qzl, wp_draw, qzm, qzw, qzP, qzG, qzq, qzg, qzk, qzV, qzN, qzR, qzQ, xzc, qzO, xzr, qzf, qze, qzd, qzp, qzC, wpX_nil, xzu, xzs, xzD, wpXA_r, qzc, qzj, qzb, qzh, qzi, xzw, xzx, qzn, qzo, qzu, qza, qzt, qzv, qzy, qzJ, xzb, iAddrAV, qzH, qzD, qzA, cv, qzF, qzE, toA, ofA, FR.pop, abin, intBin, qzs, countN, mayRead, apartB, liveB, refsOKL, refsOK, idsL, idsV, ↓reduceIte, Option.getD_some, Option.isSome_some, List.getElem?_cons_zero, List.getElem?_cons_succ, List.append_nil, List.contains_nil, Nat.reduceMul, Nat.reduceLT, Nat.reduceEqDiff, Nat.add_zero, Nat.zero_add, and_self, and_true, true_and, Bool.and_self, Bool.not_false, Bool.false_eq_true, decide_true, forall_const, false_implies, Bool.true_eq_false, cSeg, cR, t4, t6, t7, t8, t9, zi, zm, hi, hj, hjr, n0, n1, fa, fb, c, wm, hml, sa, ne, hw]
    refine ih (k + 1) _ (by omega) (fun k h1 h2 => ?_) u4 u6 u7 u8 ?_
    · simp only [qza]
      (repeat rw [if_neg (by omega)])
      exact hT k h1 h2
    · simp only [qza, ↓reduceIte]
theorem outer_loop {Gl : xzv} (l : List Seg) (hl : l.length ≤ 60) (j jr : Nat) (h : VH) (hj : qzB h.l j = some (some (.cells (xzq cSeg l) false))) (hjr : qzB h.l jr = some (some (.cells (xzq cR (runsS l)) false))) (K : AEx → VF → VH → Prop)
    (hK : ∀ T, qzB T 3 = some (.bool true) → qzB T 4 = some (.slice j 0 l.length 7 (.toEnd 7)) → qzB T 7 = some (.int .i64 l.length) → K (.exit 2) T h) :
    ∀ (d i : Nat) (T : VF), d + i = (runsS l).length → qzB T 3 = some (.bool true) → qzB T 4 = some (.slice j 0 l.length 7 (.toEnd 7)) → qzB T 6 = some (.slice jr 0 (runsS l).length 2 (.toEnd 2)) → qzB T 7 = some (.int .i64 (countR ((runsS l).take i) : Int)) → qzB T 8 = some (.int .i64 i) →
    wp Go.VL.Er.E Gl (.loop c_glyphiclaw6_EncodeRuns_l1) T h K := by
  have f3 := flatL_length cR_len (runsS l)
  have cl : countR (runsS l) = l.length := by rw [← exp_len, exp_runs, List.length_map]
  have cl2 := runs_len_le l
  have gd := good_runs l
  have n0 : natV (VV.int .i64 0) = some 0 := rfl
  have n1 : natV (VV.int .i64 1) = some 1 := rfl
  intro d
  induction d with
  | zero =>
    intro i T hd t3 t4 t6 t7 t8
    obtain rfl : i = (runsS l).length := by omega
    rw [List.take_length, cl] at t7
    refine xzf c_glyphiclaw6_EncodeRuns_l1.eq_1 ?_
    have c : ¬ (((runsS l).length : Int) < (runsS l).length) := by omega
    simp only [qzx, qzl, wp_draw, qzm, qzw, qzP, qzq, qzg, qzk, qzV, qzO, qzf, qze, qzd, qzp, xzu, xzs, xzD, qzc, qzb, qzh, qzi, xzw, xzx, qzn, qzo, qzu, qza, qzt, qzv, qzy, xzb, qzY, qzF, qzE, toA, ofA, FR.pop, abin, intBin, countN, xzn, ↓reduceIte, Nat.reduceEqDiff, Nat.zero_add, true_and, Bool.false_eq_true, decide_false, forall_const, false_implies, t6, t8, c]
    refine hK _ ?_ ?_ ?_
    · simp only [qza, ↓reduceIte, Nat.reduceEqDiff, t3]
    · simp only [qza, ↓reduceIte, Nat.reduceEqDiff, t4]
    · simp only [qza, ↓reduceIte, Nat.reduceEqDiff, t7]
  | succ d ih =>
    intro i T hd t3 t4 t6 t7 t8
    refine xzf c_glyphiclaw6_EncodeRuns_l1.eq_1 ?_
    have hi : i < (runsS l).length := by omega
    have hi' : (i : Int) < (runsS l).length := by omega
    obtain ⟨r, hr⟩ : ∃ r, (runsS l)[i]? = some r := ⟨(runsS l)[i], List.getElem?_eq_getElem hi⟩
    have fa := part_flat1 cR_len hr (q := 0) (by omega)
    have fb := part_flat1 cR_len hr (q := 1) (by omega)
    simp only [qzA, Nat.add_zero] at fa fb
    have r1 := gd.1 r (List.mem_of_getElem? hr)
    have ct := count_take _ hr
    have cle := count_le (runsS l) (i + 1)
    have zi := xzn .i64 i
    have c1 : ¬ (r.2 : Int) < 1 := by omega
    have wa : IntKind.i64.wrap ((countR ((runsS l).take i) : Int) + (r.2 : Int)) = (countR ((runsS l).take (i + 1)) : Int) := by rw [xzm (by omega) (by omega)]; omega
    have c3 : ¬ (countR ((runsS l).take (i + 1)) : Int) > (l.length : Int) := by omega
    have hw : IntKind.i64.wrap ((i : Int) + 1) = ((i + 1 : Nat) : Int) := by rw [xzm (by omega) (by omega)]; rfl
    have ci : (i : Int) > 0 ∨ ¬ (i : Int) > 0 := by omega
    -- the one ahead
    obtain ⟨i0, hi0⟩ : ∃ i0 : Nat, i0 = i - 1 := ⟨_, rfl⟩
    rcases ci with ci | ci
    have hi1 : i0 < (runsS l).length := by omega
    have hi1' : (i0 : Int) < (runsS l).length := by omega
    obtain ⟨r', hr'⟩ : ∃ r, (runsS l)[i0]? = some r := ⟨(runsS l)[i0], List.getElem?_eq_getElem hi1⟩
    have ga := part_flat1 cR_len hr' (q := 0) (by omega)
    simp only [qzA, Nat.add_zero] at ga
    have wi : IntKind.i64.wrap ((i : Int) - 1) = (i0 : Int) := by rw [xzm (by omega) (by omega)]; omega
    have zi0 := xzn .i64 i0
    have ne : (r.1 == r'.1) = false := by
      have := gd.2 i0 r' r hr' (by rw [show i0 + 1 = i by omega]; exact hr)
      simp; exact fun e => this e.symm
    simp only [qzx, qzl, wp_draw, qzm, qzw, qzP, qzG, qzq, qzg, qzk, qzV, qzN, qzQ, qzO, xzr, qzf, qze, qzd, qzp, wpX_nil, xzu, xzs, xzD, wpXA_r, qzc, qzj, qzb, qzh, qzi, xzw, xzx, qzn, qzo, qzu, qza, qzt, qzv, qzy, xzi, xzb, iAddrAV, qzY, qzH, qzD, qzA, cv, qzF, qzE, toA, ofA, FR.pop, abin, intBin, qzs, countN, mayRead, apartB, liveB, refsOKL, refsOK, idsL, idsV, ↓reduceIte, Option.getD_some, Option.isSome_some, List.getElem?_cons_zero, List.getElem?_cons_succ, List.append_nil, List.contains_nil, Nat.reduceMul, Nat.reduceLT, Nat.reduceEqDiff, Nat.add_zero, Nat.zero_add, and_self, and_true, true_and, Bool.and_self, Bool.not_false, Bool.false_eq_true, beq_self_eq_true, decide_true, decide_false, forall_const, false_implies, Bool.true_eq_false, cR, t4, t6, t7, t8, zi, zi0, hi, hi', hi1, hjr, n0, n1, fa, fb, ga, c1, ci, wi, ne, wa, c3]
    rotate_left
    simp only [qzx, qzl, wp_draw, qzm, qzw, qzP, qzG, qzq, qzg, qzk, qzV, qzN, qzQ, qzO, xzr, qzf, qze, qzd, qzp, wpX_nil, xzu, xzs, wpXG_false, xzD, wpXA_r, qzc, qzj, qzb, qzh, qzi, xzw, xzx, qzn, qzo, qzu, qza, qzt, qzv, qzy, xzi, xzb, iAddrAV, qzY, qzH, qzD, qzA, cv, qzF, qzE, toA, ofA, FR.pop, abin, intBin, qzs, qzZ, countN, mayRead, apartB, liveB, refsOKL, refsOK, idsL, idsV, ↓reduceIte, Option.getD_some, Option.isSome_some, List.getElem?_cons_zero, List.getElem?_cons_succ, List.append_nil, List.contains_nil, Nat.reduceMul, Nat.reduceLT, Nat.reduceEqDiff, Nat.zero_add, and_self, and_true, true_and, Bool.and_self, Bool.not_false, Bool.false_eq_true, beq_self_eq_true, beq_true, decide_true, decide_false, forall_const, false_implies, Bool.true_eq_false, cR, t4, t6, t7, t8, zi, hi, hi', hjr, n1, fb, c1, ci, wa, c3]
    rotate_left
    all_goals
      refine kinds_loop l hl j jr i r hr _ h hj hjr _ ?_ r.2 0 _ (by omega) (fun _ _ _ => rfl) ?_ ?_ ?_ ?_ ?_
      rotate_left
      · simp only [qza, ↓reduceIte, Nat.reduceEqDiff, t4]
      · simp only [qza, ↓reduceIte, Nat.reduceEqDiff, t6]
      · simp only [qza, ↓reduceIte, Nat.reduceEqDiff, t7]
      · simp only [qza, ↓reduceIte, Nat.reduceEqDiff, t8]
      · simp only [qza, ↓reduceIte]; rfl
      intro T' hT'
      have u3 := hT' 3 (by omega) (by omega)
      have u4 := hT' 4 (by omega) (by omega)
      have u6 := hT' 6 (by omega) (by omega)
      have u7 := hT' 7 (by omega) (by omega)
      have u8 := hT' 8 (by omega) (by omega)
      simp only [qza, Nat.reduceEqDiff, if_false, t3, t4, t6, t7, t8] at u3 u4 u6 u7 u8
      simp only [qzl, qzk, qzR, xzk, xzc, qzf, qze, qzd, qzp, qzC, qzc, qzj, qzb, qzh, qzi, qzn, qzo, qzu, qza, qzt, qzv, qzy, xzb, iAddrAV, qzH, qzD, qzA, cv, qzF, qzE, toA, ofA, FR.pop, abin, intBin, qzs, ↓reduceIte, Option.getD_some, List.getElem?_cons_zero, List.getElem?_cons_succ, Nat.reduceMul, Nat.reduceLT, Nat.reduceEqDiff, Nat.zero_add, cR, u6, u7, u8, zi, hi, hjr, n1, fb, wa, hw]
      refine ih (i + 1) _ (by omega) ?_ ?_ ?_ ?_ ?_
      · simp only [qza, ↓reduceIte, Nat.reduceEqDiff, u3]
      · simp only [qza, ↓reduceIte, Nat.reduceEqDiff, u4]
      · simp only [qza, ↓reduceIte, Nat.reduceEqDiff, u6]
      · simp only [qza, ↓reduceIte, Nat.reduceEqDiff]
      · simp only [qza, ↓reduceIte]
theorem runs_law {Gl : xzv} (hG : IcG Gl) (ks : List Int) : CallsV Go.VL.Er.E Gl f_glyphiclaw6_EncodeRuns [.fsl (ks.map (VV.int .i64)) ks.length 1] h0 (fun v _ => v = .bool true) := by
  refine xzp E_glyphiclaw6_EncodeRuns ?_
  unfold c_glyphiclaw6_EncodeRuns r_glyphiclaw6_EncodeRuns
  simp only [xzF]
  simp only [qzl, qzm, qzk, qzf, qze, qzd, qzp, qzU, qzc, qzb, qzh, qzi, qzL, qzn, qzo, qzu, qzt, qzv, qzy, cv, h0]
  refine xza (first6_ok hG) rfl rfl ?_
  by_cases h1 : (ks.length : Int) > 60
  · simp only [qzx, qzl, qzm, qzw, qzG, qzq, qzg, qzk, qzN, qzf, qze, qzd, qzp, qzz, qzI, qzc, qzb, qzh, qzi, qzn, qzo, qzu, qza, qzt, qzv, qzy, qzY, cv, qzF, qzE, toA, ofA, FR.pop, abin, aun, intBin, qzT, qzM, qzW, qzS, ↓reduceIte, Nat.reduceEqDiff, reduceCtorEq, and_self, Bool.not_true, Bool.false_eq_true, decide_true, forall_const, false_implies, Bool.true_eq_false, reduceCtorEq, h1] <;> first | rfl | exact ⟨rfl, rfl⟩ | exact qzr rfl
  have hl : ks.length ≤ 60 := by omega
  simp only [qzx, qzl, qzm, qzw, qzG, qzq, qzg, qzk, qzN, qzf, qze, qzd, qzp, qzz, qzI, qzc, qzb, qzh, qzi, qzn, qzo, qzu, qza, qzt, qzv, qzy, qzY, cv, qzF, qzE, toA, ofA, FR.pop, abin, aun, intBin, qzT, qzM, qzW, qzS, ↓reduceIte, Nat.reduceEqDiff, reduceCtorEq, true_and, Bool.not_true, Bool.false_eq_true, decide_false, forall_const, false_implies, reduceCtorEq, h1]
  refine build_loop ks hl _ ?_ ks.length 0 _ _ 0 .nilS (by omega) ?_ ?_ ?_ ?_ AccAt.nil (fun _ => rfl)
  rotate_left
  · simp only [qza, ↓reduceIte, reduceCtorEq, reduceCtorEq]
  · simp only [qza, ↓reduceIte, Nat.reduceEqDiff]
  · simp only [qza, ↓reduceIte, Nat.reduceEqDiff]
  · simp only [qza, ↓reduceIte]; rfl
  intro T h j v t4 t3 q hv
  by_cases e : ks = []
  · subst e
    obtain rfl := hv rfl
    simp only [qzl, qzm, qzk, xzk, qze, qzd, qzp, qzU, qzc, qzb, qzh, qzi, qzL, qzn, qzo, qzu, qza, qzt, qzv, qzy, ↓reduceIte, t4]
    refine call_plain_sub (a0 := [.nilS]) (runs_nil Gl) rfl ⟨_, _, rfl, .inr ⟨7, rfl⟩, rfl⟩ rfl ?_
    simp only [qzl, qzm, qzw, qzk, qzf, qze, qzd, qzp, qzz, qzc, qzb, qzh, qzi, qzn, qzo, qzu, qza, qzt, qzv, qzy, cv, ↓reduceIte]
    refine xzf c_glyphiclaw6_EncodeRuns_l1.eq_1 ?_
    have z0 : ¬ ((0 : Int) < 0) := by omega
    have z1 : ((0 : Nat) : Int) = 0 := rfl
    simp only [qzx, qzl, wp_draw, qzm, qzw, qzP, qzG, qzq, qzg, qzk, qzV, xzk, qzO, qzf, qze, qzd, qzp, xzu, xzs, xzD, qzI, qzc, qzb, qzh, qzi, xzw, xzx, qzn, qzo, qzu, qza, qzt, qzv, qzy, xzi, xzb, qzY, cv, qzF, qzE, toA, ofA, FR.pop, abin, intBin, qzT, qzM, qzW, qzS, countN, ↓reduceIte, Nat.reduceEqDiff, and_self, Bool.false_eq_true, beq_self_eq_true, decide_false, forall_const, false_implies, z0, t3, t4]
  · have ne : ks.map kseg ≠ [] := by simpa using e
    obtain ⟨rfl, q2, q3, q4⟩ := q.some ne
    have ln : (ks.map kseg).length = ks.length := by simp
    obtain ⟨w1, w2⟩ := flat_all cSeg_len (ks.map kseg)
    have hsh : shut h (.slice j 0 (ks.map kseg).length 7 (.toEnd 7)) = some (.fsl (xzq cSeg (ks.map kseg)) (ks.map kseg).length 7) := by
      simp only [Go.VL.shut, qzs, q2, Option.getD_some, closedL_flat (f := cSeg) (fun _ => rfl), Nat.zero_add, w1, capOK, List.drop_zero, w2, and_self, if_true]
    simp only [qzl, qzm, qzk, xzk, qze, qzd, qzp, qzU, qzc, qzb, qzh, qzi, qzL, qzn, qzo, qzu, qza, qzt, qzv, qzy, ↓reduceIte, t4]
    refine call_own_sub (a0 := [.fsl (xzq cSeg (ks.map kseg)) (ks.map kseg).length 7]) (runs_own Gl (ks.map kseg) (by omega) ne) (by simp only [shutL, hsh]) (subL_refl _) (plainL_flat (fun _ => rfl) _) ?_
    simp only [qzl, qzm, qzw, qzk, qzf, qze, qzd, qzp, qzz, qzc, qzb, qzh, qzi, qzn, qzo, qzu, qza, qzt, qzv, qzy, cv, VH.push, ↓reduceIte]
    refine outer_loop (ks.map kseg) (by omega) j h.next _ (by simp only [qza]; rw [if_neg (by omega)]; exact q2) (by simp only [qza, if_true]) _ ?_ (runsS (ks.map kseg)).length 0 _ (by omega) ?_ ?_ ?_ ?_ ?_
    rotate_left
    · simp only [qza, ↓reduceIte, Nat.reduceEqDiff, t3]
    · simp only [qza, ↓reduceIte, Nat.reduceEqDiff, t4]
    · simp only [qza, ↓reduceIte, Nat.reduceEqDiff]
    · simp only [qza, ↓reduceIte, List.take_zero, Nat.reduceEqDiff]; rfl
    · simp only [qza, ↓reduceIte]; rfl
    intro T' u3 u4 u7
    have z1 : (((ks.map kseg).length : Int) == ((ks.map kseg).length : Int)) = true := by simp
    simp only [qzl, qzm, qzG, qzk, xzk, qzf, qze, qzd, qzp, qzI, qzc, qzb, qzh, qzi, qzn, qzo, qzu, qza, qzt, qzv, qzy, xzi, qzY, cv, qzF, qzE, toA, ofA, FR.pop, abin, intBin, qzT, qzM, qzW, qzS, ↓reduceIte, Nat.reduceEqDiff, beq_self_eq_true, u3, u4, u7]
theorem encodeRuns (Gl : xzv) (hG : IcG Gl) (l : List Int) (_ : ∀ z ∈ l, IntKind.i64.min ≤ z ∧ z ≤ IntKind.i64.max) (_ : l.length ≤ 9223372036854775807) :
    CallsV Go.VL.Er.E Gl f_glyphiclaw6_EncodeRuns [.fsl (l.map (VV.int .i64)) l.length 1] h0 (fun v _ => v = .bool true) := runs_law hG l
end
end Go.VL.En
