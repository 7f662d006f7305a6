/- Chapter 5: icon.Check. -/
import Derived.Test.YtbamfhdgikeneaaDoorIcD
namespace Go.VL.Ic
open Go.FR Go.IR Go.VL Go.VL.Er Go.VL.Color Go.VL.Wind Go.VL.Pal
noncomputable section
set_option linter.unusedSimpArgs false
set_option linter.unusedVariables false
set_option maxRecDepth 100000
set_option maxHeartbeats 1000000

/-- Lists that may be (a million). -/
def Icon.Fit (i : Icon) : Prop := i.colors.length < 1000000 ∧ i.cmds.length < 1000000 ∧ ∀ c ∈ i.cmds, c.paths.length < 1000000 ∧ ∀ p ∈ c.paths, p.segs.length < 1000000
theorem firstS_none {α : Type} {f : α → Option Nat} : ∀ {l : List α}, firstS f l = none ↔ ∀ x ∈ l, f x = none
  | [] => by simp [firstS]
  | x :: l => by
    rw [firstS]
    cases e : f x with
    | some n => simp [e]
    | none => simp only [firstS_none (l := l), List.mem_cons, forall_eq_or_imp, e, true_and]
theorem segS_none {s : Seg} {m : Int} (h : segS s m = none) : 1 ≤ s.kind ∧ s.kind ≤ 3 := by
  unfold segS at h
  cases e : inS s.kind 1 3
  · rw [e] at h; simp at h
  · unfold inS at e; simp at e; omega
theorem pathS_none {p : Path} {b : Bool} {m : Int} (h : pathS p b m = none) : p.segs.length ≤ 400 ∧ p.segs ≠ [] ∧ farS p.start m = false ∧ (b && p.closed) = false ∧ ∀ s ∈ p.segs, segS s m = none := by
  unfold pathS at h
  by_cases h1 : (b && p.closed) = true
  · rw [if_pos h1] at h; exact nomatch h
  rw [if_neg h1] at h
  by_cases h2 : p.segs.length = 0
  · rw [if_pos h2] at h; exact nomatch h
  rw [if_neg h2] at h
  by_cases h3 : 400 < p.segs.length
  · rw [if_pos h3] at h; exact nomatch h
  rw [if_neg h3] at h
  by_cases h4 : farS p.start m = true
  · rw [if_pos h4] at h; exact nomatch h
  rw [if_neg h4] at h
  exact ⟨by omega, fun e => h2 (by rw [e]; rfl), by simpa using h4, by simpa using h1, firstS_none.mp h⟩
theorem cmdS_none {c : Cmd} {n m : Int} (h : cmdS c n m = none) : headS c m = none ∧ paintS c.paint n m = none ∧ c.paths ≠ [] ∧ c.paths.length ≤ 200 ∧ ∀ p ∈ c.paths, pathS p (decide (c.kind = 1)) m = none := by
  unfold cmdS at h
  cases h1 : headS c m with
  | some e => rw [h1] at h; exact nomatch h
  | none =>
  rw [h1] at h
  cases h2 : paintS c.paint n m with
  | some e => rw [h2] at h; exact nomatch h
  | none =>
  rw [h2] at h
  simp only at h
  by_cases h3 : c.paths.length = 0
  · rw [if_pos h3] at h; exact nomatch h
  rw [if_neg h3] at h
  by_cases h4 : 200 < c.paths.length
  · rw [if_pos h4] at h; exact nomatch h
  rw [if_neg h4] at h
  exact ⟨rfl, rfl, fun e => h3 (by rw [e]; rfl), by omega, firstS_none.mp h⟩
theorem sum_mem_le {α : Type} {f : α → Int} {c : Int} {l : List α} (h : ∀ x ∈ l, f x ≤ c) (c0 : 0 ≤ c) (n : Nat) (hn : l.length ≤ n) : sumS' f l ≤ c * n :=
  Int.le_trans (sum_le h) (Int.mul_le_mul_of_nonneg_left (by omega) c0)
theorem pathPts_le {p : Path} {b : Bool} {m : Int} (h : pathS p b m = none) : pathPts p ≤ 1201 ∧ ∀ s ∈ p.segs, 0 ≤ s.kind := by
  obtain ⟨h1, h2, h3, h4, h5⟩ := pathS_none h
  have := sum_mem_le (f := fun s : Seg => s.kind) (c := 3) (l := p.segs) (fun s hs => (segS_none (h5 s hs)).2) (by omega) 400 h1
  refine ⟨by unfold pathPts; omega, fun s hs => by have := (segS_none (h5 s hs)).1; omega⟩
theorem points_le {i : Icon} {n m : Int} (h : ∀ c ∈ i.cmds, cmdS c n m = none) (hc : i.cmds.length ≤ 200) : pointsS i ≤ 2 ^ 62 := by
  have hh : ∀ c ∈ i.cmds, sumS' pathPts c.paths ≤ 1201 * (200 : Nat) := fun c hc => by
    obtain ⟨h1, h2, h3, h4, h5⟩ := cmdS_none (h c hc)
    exact sum_mem_le (fun p hp => (pathPts_le (h5 p hp)).1) (by omega) 200 h4
  have := sum_mem_le (f := fun c : Cmd => sumS' pathPts c.paths) hh (by omega) 200 hc
  have e : pointsS i = sumS' (fun c : Cmd => sumS' pathPts c.paths) i.cmds := rfl
  rw [e]; omega
theorem check_loop {Gl : xzy} (hG : IcG Gl) (i0 : Icon) (hf : i0.Fit) (b : Nat) (K : AEx → VF → VH → Prop)
    (hE : ∀ T h e, firstS (fun c => cmdS c i0.colors.length (greatS i0)) i0.cmds = some e → qzr T 2 = some (errK e) → K .ret T h)
    (hK : ∀ T h, firstS (fun c => cmdS c i0.colors.length (greatS i0)) i0.cmds = none → qzr T 1 = some (.ptr b 0) → qzr h.l b = some (some (.cells (cIcon i0) false)) → K (.exit 1) T h) :
    ∀ (d i : Nat) (T : VF) (h : VH), d + i = i0.cmds.length → firstS (fun c => cmdS c i0.colors.length (greatS i0)) i0.cmds = firstS (fun c => cmdS c i0.colors.length (greatS i0)) (i0.cmds.drop i) → qzr T 1 = some (.ptr b 0) → qzr T 24 = some (.fsl (xzA cCmd i0.cmds) i0.cmds.length 11) → qzr T 25 = some (.int .i64 i0.cmds.length) → qzr T 26 = some (.int .i64 i) → qzr h.l b = some (some (.cells (cIcon i0) false)) → b < h.next →
    wp Go.VL.Er.E Gl (.loop c_icon_Check_l0) T h K := by
  intro d
  induction d with
  | zero =>
    intro i T h hd hs t1 t24 t25 t26 hb hx
    obtain rfl : i = i0.cmds.length := by omega
    rw [List.drop_length] at hs
    refine xzo c_icon_Check_l0.eq_1 ?_
    have c : ¬ ((i0.cmds.length : Int) < i0.cmds.length) := by omega
    simp only [qzx, qzm, qzp, qzA, qzZ, qzs, qzj, qzi, xze, qzY, qzf, qze, qzd, qzq, qzc, qzb, qzg, qzh, qzn, qzo, qzu, qza, qzt, qzw, qzI, qzJ, toA, ofA, FR.pop, abin, intBin, ↓reduceIte, Nat.reduceEqDiff, true_and, Bool.false_eq_true, decide_false, forall_const, false_implies, t_p_api_At, t_p_errors_errorString, t25, t26, c]
    refine hK _ _ hs ?_ hb
    simp only [qza, ↓reduceIte, Nat.reduceEqDiff, t1]
  | succ d ih =>
    intro i T h hd hs t1 t24 t25 t26 hb hx
    refine xzo c_icon_Check_l0.eq_1 ?_
    obtain ⟨f1, f2, f3⟩ := hf
    have hlt : i < i0.cmds.length := by omega
    have c : (i : Int) < i0.cmds.length := by omega
    obtain ⟨e, he⟩ : ∃ e, i0.cmds[i]? = some e := ⟨i0.cmds[i], List.getElem?_eq_getElem hlt⟩
    obtain ⟨f4, f5⟩ := f3 e (List.mem_of_getElem? he)
    have p1 := flat_le cCmd_len he
    have p2 := flat_at cCmd_len he
    have hw : IntKind.i64.wrap ((i : Int) + 1) = ((i + 1 : Nat) : Int) := by rw [xzj (by omega) (by omega)]; rfl
    have e0 : ¬ h.next = b := by omega
    have x1 : h.next < h.next + 1 := by omega
    have x2 : b < h.next + 1 := by omega
    have gb := great_bnd i0
    rw [firstS_drop he] at hs
    simp only [qzx, qzm, xzM, qzp, qzA, qzZ, qzs, qzj, qzi, xze, qzY, qzf, qze, qzd, qzq, qzG, xzd, qzK, qzz, xzu, xzq, xzT, xzS, qzc, qzk, qzC, qzb, qzQ, qzg, qzh, qzT, xzz, xzE, qzP, qzB, qzn, qzo, qzu, qza, qzt, qzw, xzm, qzM, qzF, xzi, qzS, qzU, xzg, qzE, cvs, cv, qzI, qzJ, toA, ofA, FR.pop, abin, intBin, VN.at, VH.push, VH.set, qzl, VV.cells, ntV, qzO, countN, xzI, xzQ, xzZ, xzH, xzO, yzf, yzd, xzs, xzx, ↓reduceIte, Option.getD_some, Option.isSome_some, List.length_cons, List.length_nil, List.drop_succ_cons, List.drop_zero, List.take_succ_cons, List.take_zero, List.append_nil, List.nil_append, List.contains_nil, List.head?_cons, Nat.reduceAdd, Nat.reduceEqDiff, Nat.reduceLeDiff, Nat.zero_add, and_self, and_true, true_and, Bool.and_self, Bool.not_false, decide_true, forall_const, false_implies, Bool.true_eq_false, cCmd, cIcon, t_p_api_At, t_p_errors_errorString, t1, t24, t25, t26, c, hlt, p1, p2, hb, e0]
    refine xzb (greatest_ok Gl i0) rfl rfl ?_
    simp only [xzu, xzq, xzK, xzT, xzS, xzP, qzc, qzk, qzb, xzz, xzE, qzB, qzn, qzo, qzu, qza, qzt, qzw, qzL, xzn, qzM, qzF, qzE, qzl, xzI, lowB, fzB, fzL, xzQ, xzZ, xzH, xzO, yzf, yzd, ↓reduceIte, Option.getD_some, Option.isSome_some, Option.map_some, List.getElem?_cons_zero, List.getElem?_cons_succ, List.length_cons, List.length_nil, List.drop_zero, List.take_succ_cons, List.take_zero, List.append_nil, List.contains_nil, Nat.reduceAdd, Nat.reduceEqDiff, Nat.reduceLeDiff, Nat.zero_add, and_self, true_and, Bool.and_self, Bool.or_false, Bool.or_true, Bool.not_false, decide_true, cIcon, t1, hb, e0, x1, x2]
    refine xzb (cmd_ok hG e i0.colors.length (greatS i0) f4 f5 (by omega) (by omega) (by omega) (by omega)) rfl (by cases cmdS e i0.colors.length (greatS i0) <;> rfl) ?_
    cases q : cmdS e i0.colors.length (greatS i0) with
    | some n =>
      rw [q] at hs
      simp only [errV]
      simp only [qzx, qzm, qzp, qzD, qzs, qzj, qzi, qzR, xza, xzc, xzw, qzf, qze, qzd, qzq, qzG, xzN, xzu, xzq, xzK, xzP, qzc, qzk, qzb, qzg, qzh, xzz, xzE, qzn, qzo, qzu, qza, qzt, qzw, qzy, qzM, xzC, xzB, xzY, cv, ↓reduceIte, Option.map_some, List.append_nil, Nat.reduceEqDiff, and_true, Bool.not_false, forall_const, false_implies, Bool.true_eq_false, errK, t_p_errors_errorString]
      exact hE _ _ n hs (by simp only [qza, ↓reduceIte, errK, t_p_errors_errorString])
    | none =>
      rw [q] at hs
      simp only [errV]
      simp only [qzx, qzm, qzp, qzD, qzs, qzj, qzi, qzR, xza, xzc, xzh, xzw, qzf, qze, qzd, qzq, qzG, xzN, xzu, xzq, xzK, xzP, qzc, qzk, qzb, qzg, qzh, xzz, xzE, qzn, qzo, qzu, qza, qzt, qzw, qzy, qzM, xzC, xzB, xzY, cv, qzI, qzJ, toA, ofA, FR.pop, abin, intBin, ↓reduceIte, Option.map_some, List.append_nil, Nat.reduceEqDiff, true_and, Bool.not_true, Bool.false_eq_true, forall_const, false_implies, t26, hw]
      refine ih (i + 1) _ _ (by omega) hs ?_ ?_ ?_ ?_ ?_ ?_
      · simp only [qza, ↓reduceIte, Nat.reduceEqDiff, t1]
      · simp only [qza, ↓reduceIte, Nat.reduceEqDiff, t24]
      · simp only [qza, ↓reduceIte, Nat.reduceEqDiff, t25]
      · simp only [qza, ↓reduceIte]
      · simp only [qza, ↓reduceIte, cIcon, e0, hb]
      · simp only []; omega
theorem check_ok {Gl : xzy} (hG : IcG Gl) (i : Icon) (hf : i.Fit) : xzJ Go.VL.Er.E Gl f_icon_Check [.agg (cIcon i)] (errV (checkS i)) := by
  refine xzv (xzk E_icon_Check ?_)
  have g4 : qzr Gl g_ErrRange = some [errK 4] := hG.r
  have g5 : qzr Gl g_ErrLimit = some [errK 5] := hG.l
  have g9 : qzr Gl g_ErrCanon = some [errK 9] := hG.c
  unfold c_icon_Check r_icon_Check
  simp only [xzG]
  simp only [qzm, qzp, qzA, qzi, qzf, qze, qzd, qzq, qzG, xzd, qzK, qzc, qzk, qzC, qzb, qzg, qzh, qzT, qzB, qzn, qzo, qzu, qza, qzt, qzw, qzy, qzM, qzF, xzi, xzU, qzE, cv, VN.at, VH.push, qzl, h0, VV.cells, ntV, ↓reduceIte, Option.getD_some, List.length_cons, List.length_nil, List.drop_zero, List.take_succ_cons, List.take_zero, Nat.reduceAdd, Nat.reduceEqDiff, Nat.reduceLeDiff, Nat.zero_add, cIcon]
  refine xzb (sized_ok Gl i) rfl rfl ?_
  cases r1 : sizedS i
  · rw [show checkS i = some 4 by simp [checkS, r1]]
    simp only [qzm, qzp, qzD, qzs, qzj, qzi, qzR, xzc, qzf, qze, qzd, qzq, qzG, qzz, qzH, qzc, qzk, qzb, qzg, qzh, qzn, qzo, qzu, qza, qzt, qzw, qzy, qzL, xzn, qzM, qzF, qzE, cv, qzI, qzJ, toA, ofA, FR.pop, abin, aun, intBin, qzl, qzW, qzN, qzX, qzV, ↓reduceIte, Option.getD_some, List.getElem?_cons_zero, List.getElem?_cons_succ, Nat.reduceEqDiff, Nat.zero_add, and_true, Bool.not_false, beq_false, forall_const, false_implies, Bool.true_eq_false, errK, t_p_errors_errorString, g4]
    exact qzv rfl
  by_cases r2 : 256 < i.colors.length
  · have r2' : (i.colors.length : Int) > 256 := by omega
    rw [show checkS i = some 5 by simp [checkS, r1, r2]]
    simp only [qzx, qzm, qzp, qzA, qzD, qzs, qzj, qzi, qzR, xza, xzc, qzf, qze, qzd, xzf, qzq, qzG, qzz, qzH, qzc, qzk, qzb, qzg, qzh, qzn, qzo, qzu, qza, qzt, qzw, qzy, xzl, qzL, xzn, qzM, qzF, qzE, cv, qzI, qzJ, toA, ofA, FR.pop, abin, aun, intBin, qzl, qzW, qzN, qzX, qzV, qzO, ↓reduceIte, Option.getD_some, List.getElem?_cons_zero, List.getElem?_cons_succ, Nat.reduceEqDiff, Nat.zero_add, and_true, true_and, Bool.not_true, Bool.false_eq_true, beq_false, decide_true, forall_const, false_implies, Bool.true_eq_false, errK, t_p_errors_errorString, r2', g5]
    exact qzv rfl
  have r2' : ¬ (i.colors.length : Int) > 256 := by omega
  by_cases r3 : 200 < i.cmds.length
  · have r3' : (i.cmds.length : Int) > 200 := by omega
    rw [show checkS i = some 5 by simp [checkS, r1, r3]]
    simp only [qzx, qzm, qzp, qzA, qzD, qzs, qzj, qzi, qzR, xza, xzc, qzf, qze, qzd, qzq, qzG, qzz, qzH, qzc, qzk, qzb, qzg, qzh, qzn, qzo, qzu, qza, qzt, qzw, qzy, xzl, qzL, xzn, qzM, qzF, qzE, cv, qzI, qzJ, toA, ofA, FR.pop, abin, aun, intBin, qzl, qzW, qzN, qzX, qzV, ↓reduceIte, Option.getD_some, List.getElem?_cons_zero, List.getElem?_cons_succ, Nat.reduceEqDiff, Nat.zero_add, and_true, true_and, Bool.not_true, Bool.false_eq_true, beq_self_eq_true, decide_true, decide_false, forall_const, false_implies, Bool.true_eq_false, errK, t_p_errors_errorString, r2', r3', g5]
    exact qzv rfl
  have r3' : ¬ (i.cmds.length : Int) > 200 := by omega
  have hc : checkS i = match firstS (fun c => cmdS c i.colors.length (greatS i)) i.cmds with
    | some e => some e
    | none => if pointsS i > 4000 then some 5 else if usedS i = false then some 9 else none := by
    unfold checkS; rw [if_neg (by simp [r1]), if_neg (by omega)]; rfl
  simp only [qzx, qzm, qzp, qzA, qzs, qzj, qzi, xza, qzf, qze, qzd, qzq, qzG, qzz, qzc, qzk, qzb, qzg, qzh, qzn, qzo, qzu, qza, qzt, qzw, qzy, xzl, qzL, xzn, qzM, qzF, qzE, cv, qzI, qzJ, toA, ofA, FR.pop, abin, aun, intBin, qzl, ↓reduceIte, Option.getD_some, List.getElem?_cons_zero, List.getElem?_cons_succ, Nat.reduceEqDiff, Nat.zero_add, true_and, Bool.not_true, Bool.false_eq_true, beq_self_eq_true, decide_false, forall_const, false_implies, r2', r3']
  refine check_loop hG i hf 0 _ ?_ ?_ i.cmds.length 0 _ _ (by omega) rfl ?_ ?_ ?_ ?_ ?_ ?_
  · intro T h e he t2
    rw [hc, he]
    simp only [qzR, xzc, qzH, qzW, qzN, qzX, qzV, errK, t_p_errors_errorString, t2]
    exact qzv rfl
  · intro T h he t1 hb
    rw [he] at hc
    simp only at hc
    have hn := firstS_none.mp he
    have hp := points_ok Gl i hf.2.1 (fun c hm => ⟨(hf.2.2 c hm).1, fun p hpp => ⟨(hf.2.2 c hm).2 p hpp, (pathPts_le ((cmdS_none (hn c hm)).2.2.2.2 p hpp)).2⟩⟩) (points_le hn (by omega))
    simp only [qzm, qzp, qzA, qzi, xzp, qze, qzd, qzG, qzK, qzk, qzb, qzg, qzh, qzB, qzn, qzo, qzu, qza, qzt, qzM, qzF, qzE, qzl, ↓reduceIte, Option.getD_some, List.length_cons, List.length_nil, List.drop_zero, List.take_succ_cons, List.take_zero, Nat.reduceAdd, Nat.reduceLeDiff, Nat.zero_add, cIcon, t1, hb]
    refine xzb hp rfl rfl ?_
    by_cases r4 : pointsS i > 4000
    · rw [if_pos r4] at hc
      rw [hc]
      simp only [qzm, qzp, qzD, qzs, qzj, qzi, qzR, xzc, qzf, qze, qzd, qzq, qzG, qzz, qzH, qzc, qzk, qzb, qzg, qzh, qzn, qzo, qzu, qza, qzt, qzw, qzy, qzM, qzF, qzE, cv, qzI, qzJ, toA, ofA, FR.pop, abin, intBin, qzW, qzN, qzX, qzV, ↓reduceIte, List.getElem?_cons_zero, Nat.reduceEqDiff, and_true, decide_true, forall_const, false_implies, Bool.true_eq_false, errK, t_p_errors_errorString, r4, g5]
      exact qzv rfl
    rw [if_neg r4] at hc
    simp only [qzm, qzp, qzs, qzj, qzi, qzf, qze, qzd, qzq, qzG, qzK, qzz, qzc, qzk, qzb, qzg, qzh, qzB, qzn, qzo, qzu, qza, qzt, qzw, qzy, qzM, qzF, qzE, cv, qzI, qzJ, toA, ofA, FR.pop, abin, intBin, qzl, ↓reduceIte, Option.getD_some, List.length_cons, List.length_nil, List.drop_zero, List.take_succ_cons, List.take_zero, Nat.reduceAdd, Nat.reduceEqDiff, Nat.reduceLeDiff, Nat.zero_add, true_and, Bool.false_eq_true, decide_false, forall_const, false_implies, cIcon, r4, t1, hb]
    refine xzb (used_ok Gl i hf.1 hf.2.1) rfl rfl ?_
    cases r5 : usedS i
    · rw [r5, if_pos rfl] at hc
      rw [hc]
      simp only [qzx, qzm, qzp, qzD, qzs, qzj, qzi, qzR, xza, xzc, qzf, qze, qzd, qzq, qzG, qzz, qzH, qzc, qzk, qzb, qzg, qzh, qzn, qzo, qzu, qza, qzt, qzw, qzy, qzM, qzF, qzE, cv, qzI, qzJ, toA, ofA, FR.pop, aun, qzW, qzN, qzX, qzV, ↓reduceIte, List.getElem?_cons_zero, and_true, Bool.not_false, forall_const, false_implies, Bool.true_eq_false, errK, t_p_errors_errorString, g9]
      exact qzv rfl
    · rw [r5, if_neg (by simp)] at hc
      rw [hc]
      simp only [qzx, qzm, qzp, qzD, qzs, qzj, qzi, xza, qzf, qze, qzd, qzq, qzG, qzz, qzH, qzc, qzb, qzg, qzh, qzn, qzo, qzu, qza, qzt, qzw, qzy, qzM, qzF, qzE, cv, qzI, qzJ, toA, ofA, FR.pop, aun, qzW, qzN, qzX, qzV, ↓reduceIte, true_and, Bool.not_true, Bool.false_eq_true, forall_const, false_implies]
      exact qzv rfl
  all_goals first | (simp only [qza, ↓reduceIte, Nat.reduceLT, Nat.reduceEqDiff, cIcon]; done) | (simp only [qza, ↓reduceIte]; rfl) | (simp only [qzx, qzm, xzM, qzp, qzA, qzZ, qzD, qzs, wpIf_true, wpIf_false, qzj, qzi, xze, qzR, xza, xzp, xzc, xzh, qzY, xzw, qzf, qze, qzd, xzf, qzq, qzG, xzd, qzK, qzz, xzN, xzu, xzq, wpXG_false, xzK, xzT, wpXA_n, xzS, xzP, Ends_n, qzH, qzc, qzk, qzC, qzb, qzQ, qzg, qzh, qzT, xzz, xzE, kXN_app, qzP, wpW_copy, wpW_mapUpd, wpW_mark, qzB, wpW_callV, qzn, qzo, qzu, qza, qzt, qzw, qzy, xzl, qzL, xzm, iAddrAV, fieldV, idxArrV, extV, mkIV, tAssV, xzn, lenArrV, xzX, slV, xzR, yzc, qzM, qzF, xzC, xzB, xzV, eqPV, eqSV, xzY, eqFV, eqMV, eqGV, inGl, xzF, eqBool, eqInt, eqStr, xzi, xzU, xzt, xzr, qzS, qzU, xzg, yza, lenOfV, yze, copyV, b2sV, s2bV, mkSliceV, qzE, cvs, cv, qzI, qzJ, toA, ofA, FR.pop, abin, aun, intBin, shiftBin, strBin, bnds, natOf, max2A, min2A, foldA, VN.at, VH.push, VH.set, VH.kill, VH.fix, VB.fix, qzl, h0, VV.cells, ntV, qzW, qzN, qzX, qzV, closedB, closedL, plainB, plainL, qzO, countN, xzI, lowB, fzB, fzL, xzQ, xzZ, xzH, xzO, yzf, yzd, xzs, nilCmp, xzx, yzb, capMost, capDrop, ↓reduceIte, Option.getD_some, Option.getD_none, Option.isSome_some, Option.map_some, Option.map_none, List.getElem?_cons_zero, List.getElem?_cons_succ, List.length_cons, List.length_nil, List.drop_succ_cons, List.drop_zero, List.take_succ_cons, List.take_zero, List.append_nil, List.nil_append, List.cons_append, List.contains_cons, List.contains_nil, List.head?_cons, Nat.reduceAdd, Nat.reduceMul, Nat.reduceSub, Nat.reduceDiv, Nat.reduceLT, Nat.reduceEqDiff, reduceCtorEq, Nat.reduceLeDiff, Nat.reduceBEq, Int.reduceEq, Int.reduceLT, Int.reduceLE, Int.reduceBEq, Int.reduceGT, Nat.add_zero, Nat.zero_add, and_self, and_true, true_and, and_false, false_and, not_true_eq_false, not_false_eq_true, Bool.and_self, Bool.and_true, Bool.true_and, Bool.and_false, Bool.or_false, Bool.true_or, Bool.or_true, Bool.false_or, Bool.not_false, Bool.not_true, Bool.false_eq_true, beq_self_eq_true, bne_self_eq_false, beq_true, beq_false, decide_true, decide_false, true_or, if_true, if_false, forall_const, false_implies, true_implies, Bool.true_eq_false, reduceCtorEq, true_or, cCl, erP, errK, cSeg, cPath, cPaint, cCmd, cIcon, t_p_api_At, t_p_errors_errorString]; exact Nat.zero_lt_succ _)
end
end Go.VL.Ic
