import Derived.Test.YtbamfhdgikeneaaDoorIcD
import Derived.Test.YtbamfhdgikeneaaDoorMkF
import Derived.Test.YtbamfhdgikeneaaDoorMkA
/- Chapter 5: icon.Check. -/
namespace Go.VL.Ic
open Go.FR Go.IR Go.VL Go.VL.Er Go.VL.Color Go.VL.Wind Go.VL.Pal
noncomputable section
set_option linter.unusedSimpArgs false
set_option linter.unusedVariables false
set_option maxRecDepth 100000
set_option maxHeartbeats 1000000

/-- Lists that may be (a million). -/
def Icon.Fit (i : Icon) : Prop := i.colors.length < 1000000 ∧ i.cmds.length < 1000000 ∧ ∀ c ∈ i.cmds, c.paths.length < 1000000 ∧ ∀ p ∈ c.paths, p.segs.length < 1000000
theorem firstS_none {α : Type} {f : α → Option Nat} : ∀ {l : List α}, firstS f l = none ↔ ∀ x ∈ l, f x = none
  | [] => by simp [firstS]
  | x :: l => by
    rw [firstS]
    cases e : f x with
    | some n => simp [e]
    | none => simp only [firstS_none (l := l), List.mem_cons, forall_eq_or_imp, e, true_and]
theorem segS_none {s : Seg} {m : Int} (h : segS s m = none) : 1 ≤ s.kind ∧ s.kind ≤ 3 := by
  unfold segS at h
  cases e : inS s.kind 1 3
  · rw [e] at h; simp at h
  · unfold inS at e; simp at e; omega
theorem pathS_none {p : Path} {b : Bool} {m : Int} (h : pathS p b m = none) : p.segs.length ≤ 400 ∧ p.segs ≠ [] ∧ farS p.start m = false ∧ (b && p.closed) = false ∧ ∀ s ∈ p.segs, segS s m = none := by
  unfold pathS at h
  by_cases h1 : (b && p.closed) = true
  · rw [if_pos h1] at h; exact nomatch h
  rw [if_neg h1] at h
  by_cases h2 : p.segs.length = 0
  · rw [if_pos h2] at h; exact nomatch h
  rw [if_neg h2] at h
  by_cases h3 : 400 < p.segs.length
  · rw [if_pos h3] at h; exact nomatch h
  rw [if_neg h3] at h
  by_cases h4 : farS p.start m = true
  · rw [if_pos h4] at h; exact nomatch h
  rw [if_neg h4] at h
  exact ⟨by omega, fun e => h2 (by rw [e]; rfl), by simpa using h4, by simpa using h1, firstS_none.mp h⟩
theorem cmdS_none {c : Cmd} {n m : Int} (h : cmdS c n m = none) : headS c m = none ∧ paintS c.paint n m = none ∧ c.paths ≠ [] ∧ c.paths.length ≤ 200 ∧ ∀ p ∈ c.paths, pathS p (decide (c.kind = 1)) m = none := by
  unfold cmdS at h
  cases h1 : headS c m with
  | some e => rw [h1] at h; exact nomatch h
  | none =>
  rw [h1] at h
  cases h2 : paintS c.paint n m with
  | some e => rw [h2] at h; exact nomatch h
  | none =>
  rw [h2] at h
  simp only at h
  by_cases h3 : c.paths.length = 0
  · rw [if_pos h3] at h; exact nomatch h
  rw [if_neg h3] at h
  by_cases h4 : 200 < c.paths.length
  · rw [if_pos h4] at h; exact nomatch h
  rw [if_neg h4] at h
  exact ⟨rfl, rfl, fun e => h3 (by rw [e]; rfl), by omega, firstS_none.mp h⟩
theorem sum_mem_le {α : Type} {f : α → Int} {c : Int} {l : List α} (h : ∀ x ∈ l, f x ≤ c) (c0 : 0 ≤ c) (n : Nat) (hn : l.length ≤ n) : sumS' f l ≤ c * n :=
  Int.le_trans (sum_le h) (Int.mul_le_mul_of_nonneg_left (by omega) c0)
theorem pathPts_le {p : Path} {b : Bool} {m : Int} (h : pathS p b m = none) : pathPts p ≤ 1201 ∧ ∀ s ∈ p.segs, 0 ≤ s.kind := by
  obtain ⟨h1, h2, h3, h4, h5⟩ := pathS_none h
  have := sum_mem_le (f := fun s : Seg => s.kind) (c := 3) (l := p.segs) (fun s hs => (segS_none (h5 s hs)).2) (by omega) 400 h1
  refine ⟨by unfold pathPts; omega, fun s hs => by have := (segS_none (h5 s hs)).1; omega⟩
theorem points_le {i : Icon} {n m : Int} (h : ∀ c ∈ i.cmds, cmdS c n m = none) (hc : i.cmds.length ≤ 200) : pointsS i ≤ 2 ^ 62 := by
  have hh : ∀ c ∈ i.cmds, sumS' pathPts c.paths ≤ 1201 * (200 : Nat) := fun c hc => by
    obtain ⟨h1, h2, h3, h4, h5⟩ := cmdS_none (h c hc)
    exact sum_mem_le (fun p hp => (pathPts_le (h5 p hp)).1) (by omega) 200 h4
  have := sum_mem_le (f := fun c : Cmd => sumS' pathPts c.paths) hh (by omega) 200 hc
  have e : pointsS i = sumS' (fun c : Cmd => sumS' pathPts c.paths) i.cmds := rfl
  rw [e]; omega
theorem check_loop {Gl : xzB} (hG : IcG Gl) (i0 : Icon) (hf : i0.Fit) (b : Nat) (K : AEx → VF → VH → Prop)
    (hE : ∀ T h e, firstS (fun c => cmdS c i0.colors.length (greatS i0)) i0.cmds = some e → qzA T 2 = some (errK e) → K .ret T h)
    (hK : ∀ T h, firstS (fun c => cmdS c i0.colors.length (greatS i0)) i0.cmds = none → qzA T 1 = some (.ptr b 0) → qzA h.l b = some (some (.cells (cIcon i0) false)) → K (.exit 1) T h) :
    ∀ (d i : Nat) (T : VF) (h : VH), d + i = i0.cmds.length → firstS (fun c => cmdS c i0.colors.length (greatS i0)) i0.cmds = firstS (fun c => cmdS c i0.colors.length (greatS i0)) (i0.cmds.drop i) → qzA T 1 = some (.ptr b 0) → qzA T 24 = some (.fsl (xzP cCmd i0.cmds) i0.cmds.length 11) → qzA T 25 = some (.int .i64 i0.cmds.length) → qzA T 26 = some (.int .i64 i) → qzA h.l b = some (some (.cells (cIcon i0) false)) → b < h.next →
    wp Go.VL.Er.E Gl (.loop c_icon_Check_l0) T h K := by
  intro d
  induction d with
  | zero =>
    intro i T h hd hs t1 t24 t25 t26 hb hx
    obtain rfl : i = i0.cmds.length := by omega
    rw [List.drop_length] at hs
    refine xzy c_icon_Check_l0.eq_1 ?_
    have c : ¬ ((i0.cmds.length : Int) < i0.cmds.length) := by omega
    simp only [qzz, qzp, qzq, qzF, xzg, qzw, qzn, qzj, xzm, xzh, qzf, qzd, qze, qzo, qzc, qzb, qzg, qzh, qzk, qzl, qzs, qza, qzt, qzv, qzL, qzK, toA, ofA, FR.pop, abin, intBin, ↓reduceIte, Nat.reduceEqDiff, true_and, Bool.false_eq_true, decide_false, forall_const, false_implies, t_p_api_At, t_p_errors_errorString, t25, t26, c]
    refine hK _ _ hs ?_ hb
    simp only [qza, ↓reduceIte, Nat.reduceEqDiff, t1]
  | succ d ih =>
    intro i T h hd hs t1 t24 t25 t26 hb hx
    refine xzy c_icon_Check_l0.eq_1 ?_
    obtain ⟨f1, f2, f3⟩ := hf
    have hlt : i < i0.cmds.length := by omega
    have c : (i : Int) < i0.cmds.length := by omega
    obtain ⟨e, he⟩ : ∃ e, i0.cmds[i]? = some e := ⟨i0.cmds[i], List.getElem?_eq_getElem hlt⟩
    obtain ⟨f4, f5⟩ := f3 e (List.mem_of_getElem? he)
    have p1 := flat_le cCmd_len he
    have p2 := flat_at cCmd_len he
    have hw : IntKind.i64.wrap ((i : Int) + 1) = ((i + 1 : Nat) : Int) := by rw [xzl (by omega) (by omega)]; rfl
    have e0 : ¬ h.next = b := by omega
    have x1 : h.next < h.next + 1 := by omega
    have x2 : b < h.next + 1 := by omega
    have gb := great_bnd i0
    rw [firstS_drop he] at hs
    simp only [qzz, qzp, xzw, qzq, qzF, xzg, qzw, qzn, qzj, xzm, xzh, qzf, qzd, qze, qzo, qzG, xzc, qzJ, qzu, xzi, xze, xzG, xzN, qzc, qzm, qzH, qzb, qzP, qzg, qzh, qzY, xzn, xzq, qzO, qzr, qzk, qzl, qzs, qza, qzt, qzv, xzf, qzN, qzD, xzk, qzS, qzR, xza, qzE, cvs, cv, qzL, qzK, toA, ofA, FR.pop, abin, intBin, VN.at, VH.push, VH.set, qzi, VV.cells, ntV, qzQ, countN, xzA, xzE, xzR, xzz, xzF, xzV, xzW, xzp, xzO, ↓reduceIte, Option.getD_some, Option.isSome_some, List.length_cons, List.length_nil, List.drop_succ_cons, List.drop_zero, List.take_succ_cons, List.take_zero, List.append_nil, List.nil_append, List.contains_nil, List.head?_cons, Nat.reduceAdd, Nat.reduceEqDiff, Nat.reduceLeDiff, Nat.zero_add, and_self, and_true, true_and, Bool.and_self, Bool.not_false, decide_true, forall_const, false_implies, Bool.true_eq_false, cCmd, cIcon, t_p_api_At, t_p_errors_errorString, t1, t24, t25, t26, c, hlt, p1, p2, hb, e0]
    refine qzU (greatest_ok Gl i0) rfl rfl ?_
    simp only [xzi, xze, xzx, xzG, xzN, yzf, qzc, qzm, qzb, xzn, xzq, qzr, qzk, qzl, qzs, qza, qzt, qzv, qzI, xzr, qzN, qzD, qzE, qzi, xzA, lowB, fzB, fzL, xzE, xzR, xzz, xzF, xzV, xzW, ↓reduceIte, Option.getD_some, Option.isSome_some, Option.map_some, List.getElem?_cons_zero, List.getElem?_cons_succ, List.length_cons, List.length_nil, List.drop_zero, List.take_succ_cons, List.take_zero, List.append_nil, List.contains_nil, Nat.reduceAdd, Nat.reduceEqDiff, Nat.reduceLeDiff, Nat.zero_add, and_self, true_and, Bool.and_self, Bool.or_false, Bool.or_true, Bool.not_false, decide_true, cIcon, t1, hb, e0, x1, x2]
    refine qzU (cmd_ok hG e i0.colors.length (greatS i0) f4 f5 (by omega) (by omega) (by omega) (by omega)) rfl (by cases cmdS e i0.colors.length (greatS i0) <;> rfl) ?_
    cases q : cmdS e i0.colors.length (greatS i0) with
    | some n =>
      rw [q] at hs
      simp only [errV]
      simp only [qzz, qzp, qzq, qzB, qzw, qzn, qzj, qzT, qzZ, xzd, xzK, qzf, qzd, qze, qzo, qzG, xzX, xzi, xze, xzx, yzf, qzc, qzm, qzb, qzg, qzh, xzn, xzq, qzk, qzl, qzs, qza, qzt, qzv, qzy, qzN, xzH, xzI, xzZ, cv, ↓reduceIte, Option.map_some, List.append_nil, Nat.reduceEqDiff, and_true, Bool.not_false, forall_const, false_implies, Bool.true_eq_false, errK, t_p_errors_errorString]
      exact hE _ _ n hs (by simp only [qza, ↓reduceIte, errK, t_p_errors_errorString])
    | none =>
      rw [q] at hs
      simp only [errV]
      simp only [qzz, qzp, qzq, qzB, qzw, qzn, qzj, qzT, qzZ, xzd, xzt, xzK, qzf, qzd, qze, qzo, qzG, xzX, xzi, xze, xzx, yzf, qzc, qzm, qzb, qzg, qzh, xzn, xzq, qzk, qzl, qzs, qza, qzt, qzv, qzy, qzN, xzH, xzI, xzZ, cv, qzL, qzK, toA, ofA, FR.pop, abin, intBin, ↓reduceIte, Option.map_some, List.append_nil, Nat.reduceEqDiff, true_and, Bool.not_true, Bool.false_eq_true, forall_const, false_implies, t26, hw]
      refine ih (i + 1) _ _ (by omega) hs ?_ ?_ ?_ ?_ ?_ ?_
      · simp only [qza, ↓reduceIte, Nat.reduceEqDiff, t1]
      · simp only [qza, ↓reduceIte, Nat.reduceEqDiff, t24]
      · simp only [qza, ↓reduceIte, Nat.reduceEqDiff, t25]
      · simp only [qza, ↓reduceIte]
      · simp only [qza, ↓reduceIte, cIcon, e0, hb]
      · simp only []; omega
theorem check_ok {Gl : xzB} (hG : IcG Gl) (i : Icon) (hf : i.Fit) : xzS Go.VL.Er.E Gl f_icon_Check [.agg (cIcon i)] (errV (checkS i)) := by
  refine xzu (xzj E_icon_Check ?_)
  have g4 : qzA Gl g_ErrRange = some [errK 4] := hG.r
  have g5 : qzA Gl g_ErrLimit = some [errK 5] := hG.l
  have g9 : qzA Gl g_ErrCanon = some [errK 9] := hG.c
  unfold c_icon_Check r_icon_Check
  simp only [xzQ]
  simp only [qzp, qzq, qzF, qzj, qzf, qzd, qze, qzo, qzG, xzc, qzJ, qzc, qzm, qzH, qzb, qzg, qzh, qzY, qzr, qzk, qzl, qzs, qza, qzt, qzv, qzy, qzN, qzD, xzk, yzc, qzE, cv, VN.at, VH.push, qzi, h0, VV.cells, ntV, ↓reduceIte, Option.getD_some, List.length_cons, List.length_nil, List.drop_zero, List.take_succ_cons, List.take_zero, Nat.reduceAdd, Nat.reduceEqDiff, Nat.reduceLeDiff, Nat.zero_add, cIcon]
  refine qzU (sized_ok Gl i) rfl rfl ?_
  cases r1 : sizedS i
  · rw [show checkS i = some 4 by simp [checkS, r1]]
    simp only [qzp, qzq, qzB, qzw, qzn, qzj, qzT, xzd, qzf, qzd, qze, qzo, qzG, qzu, qzC, qzc, qzm, qzb, qzg, qzh, qzk, qzl, qzs, qza, qzt, qzv, qzy, qzI, xzr, qzN, qzD, qzE, cv, qzL, qzK, toA, ofA, FR.pop, abin, aun, intBin, qzi, qzW, qzM, qzX, qzV, ↓reduceIte, Option.getD_some, List.getElem?_cons_zero, List.getElem?_cons_succ, Nat.reduceEqDiff, Nat.zero_add, and_true, Bool.not_false, beq_false, forall_const, false_implies, Bool.true_eq_false, errK, t_p_errors_errorString, g4]
    exact qzx rfl
  by_cases r2 : 256 < i.colors.length
  · have r2' : (i.colors.length : Int) > 256 := by omega
    rw [show checkS i = some 5 by simp [checkS, r1, r2]]
    simp only [qzz, qzp, qzq, qzF, qzB, qzw, qzn, qzj, qzT, qzZ, xzd, qzf, qzd, qze, xzo, qzo, qzG, qzu, qzC, qzc, qzm, qzb, qzg, qzh, qzk, qzl, qzs, qza, qzt, qzv, qzy, xzb, qzI, xzr, qzN, qzD, qzE, cv, qzL, qzK, toA, ofA, FR.pop, abin, aun, intBin, qzi, qzW, qzM, qzX, qzV, qzQ, ↓reduceIte, Option.getD_some, List.getElem?_cons_zero, List.getElem?_cons_succ, Nat.reduceEqDiff, Nat.zero_add, and_true, true_and, Bool.not_true, Bool.false_eq_true, beq_false, decide_true, forall_const, false_implies, Bool.true_eq_false, errK, t_p_errors_errorString, r2', g5]
    exact qzx rfl
  have r2' : ¬ (i.colors.length : Int) > 256 := by omega
  by_cases r3 : 200 < i.cmds.length
  · have r3' : (i.cmds.length : Int) > 200 := by omega
    rw [show checkS i = some 5 by simp [checkS, r1, r3]]
    simp only [qzz, qzp, qzq, qzF, qzB, qzw, qzn, qzj, qzT, qzZ, xzd, qzf, qzd, qze, qzo, qzG, qzu, qzC, qzc, qzm, qzb, qzg, qzh, qzk, qzl, qzs, qza, qzt, qzv, qzy, xzb, qzI, xzr, qzN, qzD, qzE, cv, qzL, qzK, toA, ofA, FR.pop, abin, aun, intBin, qzi, qzW, qzM, qzX, qzV, ↓reduceIte, Option.getD_some, List.getElem?_cons_zero, List.getElem?_cons_succ, Nat.reduceEqDiff, Nat.zero_add, and_true, true_and, Bool.not_true, Bool.false_eq_true, beq_self_eq_true, decide_true, decide_false, forall_const, false_implies, Bool.true_eq_false, errK, t_p_errors_errorString, r2', r3', g5]
    exact qzx rfl
  have r3' : ¬ (i.cmds.length : Int) > 200 := by omega
  have hc : checkS i = match firstS (fun c => cmdS c i.colors.length (greatS i)) i.cmds with
    | some e => some e
    | none => if pointsS i > 4000 then some 5 else if usedS i = false then some 9 else none := by
    unfold checkS; rw [if_neg (by simp [r1]), if_neg (by omega)]; rfl
  simp only [qzz, qzp, qzq, qzF, qzw, qzn, qzj, qzZ, qzf, qzd, qze, qzo, qzG, qzu, qzc, qzm, qzb, qzg, qzh, qzk, qzl, qzs, qza, qzt, qzv, qzy, xzb, qzI, xzr, qzN, qzD, qzE, cv, qzL, qzK, toA, ofA, FR.pop, abin, aun, intBin, qzi, ↓reduceIte, Option.getD_some, List.getElem?_cons_zero, List.getElem?_cons_succ, Nat.reduceEqDiff, Nat.zero_add, true_and, Bool.not_true, Bool.false_eq_true, beq_self_eq_true, decide_false, forall_const, false_implies, r2', r3']
  refine check_loop hG i hf 0 _ ?_ ?_ i.cmds.length 0 _ _ (by omega) rfl ?_ ?_ ?_ ?_ ?_ ?_
  · intro T h e he t2
    rw [hc, he]
    simp only [qzT, xzd, qzC, qzW, qzM, qzX, qzV, errK, t_p_errors_errorString, t2]
    exact qzx rfl
  · intro T h he t1 hb
    rw [he] at hc
    simp only at hc
    have hn := firstS_none.mp he
    have hp := points_ok Gl i hf.2.1 (fun c hm => ⟨(hf.2.2 c hm).1, fun p hpp => ⟨(hf.2.2 c hm).2 p hpp, (pathPts_le ((cmdS_none (hn c hm)).2.2.2.2 p hpp)).2⟩⟩) (points_le hn (by omega))
    simp only [qzp, qzq, qzF, qzj, xzD, qzd, qze, qzG, qzJ, qzm, qzb, qzg, qzh, qzr, qzk, qzl, qzs, qza, qzt, qzN, qzD, qzE, qzi, ↓reduceIte, Option.getD_some, List.length_cons, List.length_nil, List.drop_zero, List.take_succ_cons, List.take_zero, Nat.reduceAdd, Nat.reduceLeDiff, Nat.zero_add, cIcon, t1, hb]
    refine qzU hp rfl rfl ?_
    by_cases r4 : pointsS i > 4000
    · rw [if_pos r4] at hc
      rw [hc]
      simp only [qzp, qzq, qzB, qzw, qzn, qzj, qzT, xzd, qzf, qzd, qze, qzo, qzG, qzu, qzC, qzc, qzm, qzb, qzg, qzh, qzk, qzl, qzs, qza, qzt, qzv, qzy, qzN, qzD, qzE, cv, qzL, qzK, toA, ofA, FR.pop, abin, intBin, qzW, qzM, qzX, qzV, ↓reduceIte, List.getElem?_cons_zero, Nat.reduceEqDiff, and_true, decide_true, forall_const, false_implies, Bool.true_eq_false, errK, t_p_errors_errorString, r4, g5]
      exact qzx rfl
    rw [if_neg r4] at hc
    simp only [qzp, qzq, qzw, qzn, qzj, qzf, qzd, qze, qzo, qzG, qzJ, qzu, qzc, qzm, qzb, qzg, qzh, qzr, qzk, qzl, qzs, qza, qzt, qzv, qzy, qzN, qzD, qzE, cv, qzL, qzK, toA, ofA, FR.pop, abin, intBin, qzi, ↓reduceIte, Option.getD_some, List.length_cons, List.length_nil, List.drop_zero, List.take_succ_cons, List.take_zero, Nat.reduceAdd, Nat.reduceEqDiff, Nat.reduceLeDiff, Nat.zero_add, true_and, Bool.false_eq_true, decide_false, forall_const, false_implies, cIcon, r4, t1, hb]
    refine qzU (used_ok Gl i hf.1 hf.2.1) rfl rfl ?_
    cases r5 : usedS i
    · rw [r5, if_pos rfl] at hc
      rw [hc]
      simp only [qzz, qzp, qzq, qzB, qzw, qzn, qzj, qzT, qzZ, xzd, qzf, qzd, qze, qzo, qzG, qzu, qzC, qzc, qzm, qzb, qzg, qzh, qzk, qzl, qzs, qza, qzt, qzv, qzy, qzN, qzD, qzE, cv, qzL, qzK, toA, ofA, FR.pop, aun, qzW, qzM, qzX, qzV, ↓reduceIte, List.getElem?_cons_zero, and_true, Bool.not_false, forall_const, false_implies, Bool.true_eq_false, errK, t_p_errors_errorString, g9]
      exact qzx rfl
    · rw [r5, if_neg (by simp)] at hc
      rw [hc]
      simp only [qzz, qzp, qzq, qzB, qzw, qzn, qzj, qzZ, qzf, qzd, qze, qzo, qzG, qzu, qzC, qzc, qzb, qzg, qzh, qzk, qzl, qzs, qza, qzt, qzv, qzy, qzN, qzD, qzE, cv, qzL, qzK, toA, ofA, FR.pop, aun, qzW, qzM, qzX, qzV, ↓reduceIte, true_and, Bool.not_true, Bool.false_eq_true, forall_const, false_implies]
      exact qzx rfl
  all_goals first | (simp only [qza, ↓reduceIte, Nat.reduceLT, Nat.reduceEqDiff, cIcon]; done) | (simp only [qza, ↓reduceIte]; rfl) | (simp only [qzz, qzp, xzw, qzq, qzF, xzg, qzB, qzw, wpIf_true, wpIf_false, qzn, qzj, xzm, qzT, qzZ, xzD, xzd, xzt, xzh, xzK, qzf, qzd, qze, xzo, qzo, qzG, xzc, qzJ, qzu, xzX, xzi, xze, wpXG_false, xzx, xzG, yze, xzN, yzf, Ends_n, qzC, qzc, qzm, qzH, qzb, qzP, qzg, qzh, qzY, xzn, xzq, xzY, qzO, wpW_copy, wpW_mapUpd, wpW_mark, qzr, wpW_callV, qzk, qzl, qzs, qza, qzt, qzv, qzy, xzb, qzI, xzf, yzb, fieldV, idxArrV, extV, mkIV, tAssV, xzr, lenArrV, xzL, slV, slArrV, bndV, qzN, qzD, xzH, xzI, yzg, eqPV, eqSV, xzZ, eqFV, eqMV, eqGV, inGl, yzd, eqBool, eqInt, eqStr, xzk, yzc, xzs, xzv, qzS, qzR, xza, srcV, lenOfV, winV, copyV, b2sV, s2bV, xzU, qzE, cvs, cv, qzL, qzK, toA, ofA, FR.pop, abin, aun, intBin, shiftBin, strBin, bnds, natOf, max2A, min2A, foldA, VN.at, VH.push, VH.set, VH.kill, VH.fix, VB.fix, qzi, h0, VV.cells, ntV, qzW, qzM, qzX, qzV, closedB, closedL, plainB, plainL, qzQ, countN, xzA, lowB, fzB, fzL, xzE, xzR, xzz, xzF, xzV, xzW, xzp, nilCmp, xzO, capOK, capMost, capDrop, ↓reduceIte, Option.getD_some, Option.getD_none, Option.isSome_some, Option.map_some, Option.map_none, List.getElem?_cons_zero, List.getElem?_cons_succ, List.length_cons, List.length_nil, List.drop_succ_cons, List.drop_zero, List.take_succ_cons, List.take_zero, List.append_nil, List.nil_append, List.cons_append, List.contains_cons, List.contains_nil, List.head?_cons, Nat.reduceAdd, Nat.reduceMul, Nat.reduceSub, Nat.reduceDiv, Nat.reduceLT, Nat.reduceEqDiff, reduceCtorEq, Nat.reduceLeDiff, Nat.reduceBEq, Int.reduceEq, Int.reduceLT, Int.reduceLE, Int.reduceBEq, Int.reduceGT, Nat.add_zero, Nat.zero_add, and_self, and_true, true_and, and_false, false_and, not_true_eq_false, not_false_eq_true, Bool.and_self, Bool.and_true, Bool.true_and, Bool.and_false, Bool.or_false, Bool.true_or, Bool.or_true, Bool.false_or, Bool.not_false, Bool.not_true, Bool.false_eq_true, beq_self_eq_true, bne_self_eq_false, beq_true, beq_false, decide_true, decide_false, true_or, if_true, if_false, forall_const, false_implies, true_implies, Bool.true_eq_false, reduceCtorEq, true_or, cCl, erP, errK, cSeg, cPath, cPaint, cCmd, cIcon, t_p_api_At, t_p_errors_errorString]; exact Nat.zero_lt_succ _)
end
end Go.VL.Ic

/- What is made is right. -/
namespace Go.VL.Mk
open Go.FR Go.IR Go.VL Go.VL.Color Go.VL.Wind Go.VL.Ic Go.VL.Pal
noncomputable section
set_option linter.unusedSimpArgs false
set_option linter.unusedVariables false

def NearP (p : Pt) (m : Int) : Prop := (-m ≤ p.x ∧ p.x ≤ m) ∧ -m ≤ p.y ∧ p.y ≤ m
theorem in_yes {n lo hi : Int} (h1 : lo ≤ n) (h2 : n ≤ hi) : inS n lo hi = true := by
  unfold inS; rw [if_pos h1]; simp [h2]
end
end Go.VL.Mk

/- Icons, closed piece by piece. -/
namespace Go.VL.Ic
open Go.FR Go.IR Go.VL Go.VL.Er Go.VL.Color Go.VL.Wind
noncomputable section
set_option linter.unusedSimpArgs false
set_option linter.unusedVariables false
set_option maxRecDepth 100000
set_option maxHeartbeats 1000000
variable {g : Nat → Option VB}

theorem shut_icon {W H S : Int} {vc vk : VV} {cols : List Cl} {cmds : List Cmd} (h1 : xzT g vc (.fsl (xzP cCl cols) cols.length 4)) (h2 : xzT g vk (.fsl (xzP cCmd cmds) cmds.length 11)) :
    xzJ g [.agg [.int .i64 W, .int .i64 H, .int .i64 S, vc, vk]] [.agg (cIcon ⟨W, H, S, cols, cmds⟩)] :=
  xzJ.cons (xzT.agg (xzJ.cons (xzT.closed rfl) (xzJ.cons (xzT.closed rfl) (xzJ.cons (xzT.closed rfl) (xzJ.cons h1 (xzJ.cons h2 xzJ.nil)))))) xzJ.nil
theorem shut_nil {e : Nat} : xzT g .nilS (.fsl [] 0 e) := xzT.closed_sub rfl (.inr ⟨e, rfl⟩)
/-- The cells of a command whose paths are to be closed. -/
theorem shut_cmd {c : Cmd} {vp : VV} (h : xzT g vp (.fsl (xzP cPath c.paths) c.paths.length 4)) :
    xzJ g [.int .i64 c.kind, .int .i64 c.rule, .int .i64 c.width, .int .i64 c.paint.kind, .int .i64 c.paint.a, .int .i64 c.paint.b, .int .i64 c.paint.p.x, .int .i64 c.paint.p.y, .int .i64 c.paint.q.x, .int .i64 c.paint.q.y, vp] (cCmd c) :=
  xzJ.append (a := [_, _, _, _, _, _, _, _, _, _]) (c := [_]) (xzJ.closed rfl) (xzJ.cons h xzJ.nil)
theorem shut_cmds1 {j : Nat} {ro : Bool} (c : Cmd) {vp : VV} (hj : g j = some (.cells [.int .i64 c.kind, .int .i64 c.rule, .int .i64 c.width, .int .i64 c.paint.kind, .int .i64 c.paint.a, .int .i64 c.paint.b, .int .i64 c.paint.p.x, .int .i64 c.paint.p.y, .int .i64 c.paint.q.x, .int .i64 c.paint.q.y, vp] ro)) (h : xzT g vp (.fsl (xzP cPath c.paths) c.paths.length 4)) :
    xzT g (.slice j 0 1 11 (.exact 1)) (.fsl (xzP cCmd [c]) 1 11) := xzT.whole hj rfl (Nat.le_refl _) (by rw [flatL_cons, flatL_nil, List.append_nil]; exact shut_cmd h)
theorem shut_paths1 {j : Nat} {ro : Bool} (p : Path) {vs : VV} (hj : g j = some (.cells [.int .i64 p.start.x, .int .i64 p.start.y, vs, .bool p.closed] ro)) (h : xzT g vs (.fsl (xzP cSeg p.segs) p.segs.length 7)) :
    xzT g (.slice j 0 1 4 (.exact 1)) (.fsl (xzP cPath [p]) 1 4) := xzT.whole hj rfl (Nat.le_refl _) (by rw [flatL_cons, flatL_nil, List.append_nil]; exact xzJ.cons (xzT.closed rfl) (xzJ.cons (xzT.closed rfl) (xzJ.cons h (xzJ.cons (xzT.closed rfl) xzJ.nil))))
theorem shut_segs1 {j : Nat} {ro : Bool} (s : Seg) (hj : g j = some (.cells (cSeg s) ro)) :
    xzT g (.slice j 0 1 7 (.exact 1)) (.fsl (xzP cSeg [s]) 1 7) := xzT.whole hj rfl (Nat.le_refl _) (by rw [flatL_cons, flatL_nil, List.append_nil]; exact xzJ.closed rfl)
theorem shut_cols {j n : Nat} {ro : Bool} {c : ACap} (l : List Cl) (hj : g j = some (.cells (xzP cCl l) ro)) (hn : l.length = n) (hc : capOK 4 n c) :
    xzT g (.slice j 0 n 4 c) (.fsl (xzP cCl l) n 4) := xzT.whole hj (by rw [flatL_length Ic.cCl_len, hn]) hc (xzJ.closed (closedL_flat (fun _ => rfl) l))
theorem shut_segs {j n : Nat} {ro : Bool} {c : ACap} (l : List Seg) (hj : g j = some (.cells (xzP cSeg l) ro)) (hn : l.length = n) (hc : capOK 7 n c) :
    xzT g (.slice j 0 n 7 c) (.fsl (xzP cSeg l) n 7) := xzT.whole hj (by rw [flatL_length cSeg_len, hn]) hc (xzJ.closed (closedL_flat (fun _ => rfl) l))

end
end Go.VL.Ic

/- Icons that a law makes by itself, closed. -/
namespace Go.VL.Ic
open Go.FR Go.IR Go.VL Go.VL.Er Go.VL.Color Go.VL.Wind
noncomputable section
set_option linter.unusedSimpArgs false
set_option linter.unusedVariables false
set_option maxRecDepth 100000
set_option maxHeartbeats 1000000

theorem icg_all {Gl : xzB} (hG : GlAll Gl) : IcG Gl := ⟨(hG 4 (by omega)).1, (hG 5 (by omega)).1, (hG 9 (by omega)).1⟩
theorem first5_ok {Gl : xzB} (hG : IcG Gl) : xzS Go.VL.Er.E Gl f_glyphiclaw5_first [] (.bool true) := by
  refine xzu (xzj E_glyphiclaw5_first ?_)
  unfold c_glyphiclaw5_first r_glyphiclaw5_first
  simp only [xzQ]
  have f : ∀ w h s : Int, (Icon.mk w h s [] []).Fit := fun w h s => ⟨by simp, by simp, fun c hc => by cases hc⟩
  have k1 := check_ok hG ⟨0, 0, 0, [], []⟩ (f _ _ _)
  have k2 := check_ok hG ⟨1, 1, 0, [], []⟩ (f _ _ _)
  have k3 := greatest_ok Gl ⟨1, 2, 1, [], []⟩
  rw [show checkS ⟨0, 0, 0, [], []⟩ = some 4 by decide] at k1
  rw [show checkS ⟨1, 1, 0, [], []⟩ = none by decide] at k2
  rw [show greatS ⟨1, 2, 1, [], []⟩ = 16 by decide] at k3
  simp only [qzp, qzq, qzj, qzf, qzd, qze, qzo, qzJ, qzc, qzb, qzg, qzh, qzr, qzk, qzl, qzs, qza, qzt, qzv, qzy, xzs, xzv, cvs, cv, h0, ↓reduceIte]
  refine xzM (v := errK 4) k1 (shut_icon shut_nil shut_nil) rfl ?_
  simp only [qzd, qze, qzo, qzG, qzJ, qzu, qzc, qzm, qzb, qzg, qzh, qzr, qzk, qzl, qzs, qza, qzt, qzv, qzy, qzN, xzH, xzI, xzZ, xzs, xzv, qzS, cvs, cv, VV.cells, ntV, ↓reduceIte, List.length_cons, List.length_nil, List.drop_succ_cons, List.drop_zero, List.take_succ_cons, List.take_zero, List.nil_append, List.cons_append, Nat.reduceAdd, Nat.reduceEqDiff, Nat.reduceLeDiff, Nat.zero_add, and_self, Bool.not_false, beq_self_eq_true, errK]
  refine xzM (v := .nilI) k2 (shut_icon shut_nil shut_nil) rfl ?_
  simp only [qzd, qze, qzo, qzG, qzJ, qzu, qzc, qzm, qzb, qzg, qzh, qzr, qzk, qzl, qzs, qza, qzt, qzv, qzy, xzb, qzN, xzH, xzI, xzZ, xzs, xzv, qzS, cvs, cv, VV.cells, ntV, ↓reduceIte, List.length_cons, List.length_nil, List.drop_succ_cons, List.drop_zero, List.take_succ_cons, List.take_zero, List.nil_append, List.cons_append, Nat.reduceAdd, Nat.reduceEqDiff, Nat.reduceLeDiff, Nat.zero_add, and_self, Bool.false_eq_true, beq_self_eq_true]
  refine xzM k3 (shut_icon shut_nil shut_nil) rfl ?_
  simp only [qzB, qzj, qzf, qzd, qze, qzo, qzu, qzC, qzc, qzb, qzg, qzh, qzk, qzl, qzs, qza, qzt, qzv, qzy, xzb, cv, qzL, qzK, toA, ofA, FR.pop, abin, intBin, qzW, qzM, qzX, qzV, ↓reduceIte, Nat.reduceEqDiff, beq_self_eq_true]
  exact qzx rfl
/-- An icon of one command. -/
theorem check_one {W H S : Int} {cols : List Cl} {c : Cmd} (hs : sizedS ⟨W, H, S, cols, [c]⟩ = true) (hl : cols.length ≤ 256) :
    checkS ⟨W, H, S, cols, [c]⟩ = match cmdS c cols.length (greatS ⟨W, H, S, cols, [c]⟩) with
      | some e => some e
      | none => if sumS' pathPts c.paths > 4000 then some 5 else if usedS ⟨W, H, S, cols, [c]⟩ = false then some 9 else none := by
  unfold checkS
  rw [if_neg (by rw [hs]; simp), if_neg (by simp only [List.length_cons, List.length_nil]; omega)]
  simp only [firstS]
  cases cmdS c cols.length (greatS ⟨W, H, S, cols, [c]⟩) with
  | some e => rfl
  | none =>
    have : pointsS ⟨W, H, S, cols, [c]⟩ = sumS' pathPts c.paths := by show sumS' pathPts c.paths + 0 = _; omega
    rw [← this]
theorem sized_of {W H S : Int} {cols : List Cl} {cmds : List Cmd} (h1 : 1 ≤ W ∧ W ≤ 24) (h2 : 1 ≤ H ∧ H ≤ 24) (h3 : 0 ≤ S ∧ S ≤ 6) : sizedS ⟨W, H, S, cols, cmds⟩ = true := by
  unfold sizedS
  simp only
  rw [Mk.in_yes h1.1 (by omega), Mk.in_yes h2.1 (by omega), Mk.in_yes h3.1 h3.2]; rfl
theorem great_of {W H S : Int} {cols : List Cl} {cmds : List Cmd} (h1 : 1 ≤ W ∧ W ≤ 24) (h2 : 1 ≤ H ∧ H ≤ 24) (h3 : 0 ≤ S ∧ S ≤ 6) : greatS ⟨W, H, S, cols, cmds⟩ = 4 * max W H * 2 ^ S.toNat := by
  unfold greatS
  rw [if_pos (sized_of h1 h2 h3)]
end
end Go.VL.Ic
