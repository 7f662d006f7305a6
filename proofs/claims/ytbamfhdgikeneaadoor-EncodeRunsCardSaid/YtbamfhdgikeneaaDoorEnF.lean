import Derived.Test.YtbamfhdgikeneaaDoorEnD
import Derived.Test.YtbamfhdgikeneaaDoorIcE
import Derived.Test.YtbamfhdgikeneaaDoorEnA
import Derived.Test.YtbamfhdgikeneaaDoorVlL
/- Chapter 6: an icon's bytes. -/
namespace Go.VL.En
open Go.FR Go.IR Go.VL Go.VL.Color Go.VL.Wind Go.VL.Ic Go.VL.Wire
noncomputable section
set_option linter.unusedSimpArgs false
set_option linter.unusedVariables false
set_option maxRecDepth 100000
set_option maxHeartbeats 1000000
/-- What stands, and what follows. -/
theorem WrQ.opened {b j : Nat} {v : VV} {X bs : List Nat} {h h2 : VH} (hb : b < h.next) (q : WrQ b j v X bs h h2) : ∃ j1 v1, qzB h2.l b = some (some (.cells [v1] false)) ∧ AccE 0 h2 j1 cB (X ++ bs) 1 v1 ∧ (b ≠ j1 ∨ v1 = .nilS) ∧
    (∀ k, k < h.next → k ≠ b → (k ≠ j ∨ v = .nilS) → qzB h2.l k = qzB h.l k ∧ (k ≠ j1 ∨ v1 = .nilS)) ∧ (∀ cs h3, WrQ b j1 v1 (X ++ bs) cs h2 h3 → WrQ b j v X (bs ++ cs) h h3) ∧ h.next ≤ h2.next := by
  obtain ⟨j1, v1, a1, a2, a3, a4, a5, a6⟩ := q
  refine ⟨j1, v1, a1, a2, a3, fun k k1 k2 k3 => ⟨a4 k k1 k2 k3, ?_⟩, fun cs h3 q => wrq_snoc hb a4 a5 a6 q, a5⟩
  rcases a6 with ⟨rfl, rfl⟩ | a6
  · exact k3
  · exact .inl (by omega)
def colorsB (l : List Cl) : List Nat := l.flatMap colorB
/-- An icon's bytes, of what its commands come to. -/
def bytesS (g : Cmd → List Nat) (i : Icon) : List Nat := [71, 76, 89, 49] ++ (numsB [i.w.toNat, i.h.toNat, i.scale.toNat, i.colors.length] ++ (colorsB i.colors ++ (numsB [i.cmds.length] ++ i.cmds.flatMap g)))
theorem colorsB_len (l : List Cl) : (colorsB l).length = 4 * l.length := by
  induction l with
  | nil => rfl
  | cons c l ih => simp only [colorsB, List.flatMap_cons, List.length_append, List.length_cons] at ih ⊢; rw [ih]; simp [colorB]; omega
theorem bytes_run {Gl : xzv} (hG : IcG Gl) (i : Icon) (hf : i.Fit) (hk : checkS i = none) (hc : ∀ c ∈ i.colors, c.In) (g : Cmd → List Nat) {m : Nat} (hm : m < 10000000) (hw : ∀ c ∈ i.cmds, Wr f_encode_writer_cmd (fun b => [.ptr b 0, .agg (cCmd c)]) (g c) m) (hlen : (i.cmds.flatMap g).length < 100000000) :
    CallsV Go.VL.Er.E Gl f_encode_Bytes [.agg (cIcon i)] h0 (fun v h' => ∃ j v', v = .tuple [v', .nilI] ∧ AccE 0 h' j cB (bytesS g i) 1 v') := by
  refine xzp E_encode_Bytes ?_
  unfold c_encode_Bytes r_encode_Bytes
  simp only [xzF]
  have ck := check_ok hG i hf
  rw [hk] at ck
  simp only [qzl, qzm, qzk, qzf, qze, qzd, qzp, qzC, xzd, qzU, qzc, qzj, qzK, qzb, qzh, qzi, qzX, qzL, qzn, qzo, qzu, qza, qzt, qzv, qzy, qzH, qzD, xzo, xzG, qzA, cv, VN.at, VH.push, qzs, h0, VV.cells, ntV, ↓reduceIte, Option.getD_some, List.length_cons, List.length_nil, List.drop_zero, List.take_succ_cons, List.take_zero, Nat.reduceAdd, Nat.reduceEqDiff, Nat.reduceLeDiff, Nat.zero_add, cIcon, t_p_api_At, t_p_errors_errorString]
  refine xza (v := .nilI) ck rfl rfl ?_
  have sz : sizedS i = true := by
    unfold checkS at hk
    cases e : sizedS i
    · rw [if_pos e] at hk; exact nomatch hk
    · rfl
  have lens : i.colors.length ≤ 256 ∧ i.cmds.length ≤ 200 := by
    unfold checkS at hk
    rw [if_neg (by rw [sz]; simp)] at hk
    by_cases e : 256 < i.colors.length ∨ 200 < i.cmds.length
    · rw [if_pos e] at hk; exact nomatch hk
    · omega
  obtain ⟨b1, b2, b3, b4, b5, b6⟩ := sized_bnd sz
  obtain ⟨W, hW⟩ : ∃ W : Nat, i.w = W := ⟨i.w.toNat, by omega⟩
  obtain ⟨H, hH⟩ : ∃ H : Nat, i.h = H := ⟨i.h.toNat, by omega⟩
  obtain ⟨S, hS⟩ : ∃ S : Nat, i.scale = S := ⟨i.scale.toNat, by omega⟩
  have w1 : i.w.toNat = W := by omega
  have w2 : i.h.toNat = H := by omega
  have w3 : i.scale.toNat = S := by omega
  have l1 := numsB_le [W, H, S, i.colors.length] (by simp; omega)
  have l2 := numsB_le [i.cmds.length] (by simp; omega)
  have l3 := colorsB_len i.colors
  simp only [List.length_cons, List.length_nil] at l1 l2
  simp only [qzx, qzl, qzm, qzG, qzq, qzg, qzk, qzN, qzf, qze, qzd, qzp, qzC, xzd, qzU, qzz, qzI, qzc, qzj, qzK, qzb, xze, qzh, qzi, qzX, wpW_mark, qzL, qzn, qzo, qzu, qza, qzt, qzv, qzy, qzJ, qzY, qzH, qzD, xzB, xzA, eqIV, xzo, xzG, xzC, xzy, xzh, qzA, cvs, cv, VN.at, VH.push, qzs, VV.cells, ntV, qzT, qzM, qzW, qzS, xzz, ↓reduceIte, Option.getD_some, List.getElem?_cons_zero, List.getElem?_cons_succ, List.length_cons, List.length_nil, List.drop_succ_cons, List.drop_zero, List.take_succ_cons, List.take_zero, List.append_nil, List.nil_append, List.cons_append, List.head?_cons, Nat.reduceAdd, Nat.reduceDiv, Nat.reduceEqDiff, reduceCtorEq, Nat.reduceLeDiff, Nat.add_zero, Nat.zero_add, and_self, true_and, Bool.not_true, Bool.false_eq_true, forall_const, false_implies, reduceCtorEq, markV, hW, hH, hS]
  refine call_heap (num_run [W, H, S, i.colors.length] (by simp; omega) (by simp) 2 3 (by omega) 1 (.slice 1 0 4 1 (.exact 4)) [71, 76, 89, 49] _ ?_ ?_ ?_ ?_ ?_ ?_ ?_ (.inl (by omega))) ?_
  · simp only [List.length_cons, List.length_nil]; omega
  · show 2 < 4; omega
  · show 3 < 4; omega
  · exact .inl (by omega)
  · simp only [qza, ↓reduceIte]; rfl
  · simp only [qza, ↓reduceIte, Nat.reduceEqDiff]
  · exact .inr ⟨1, .inl rfl, rfl, by simp only [qza, ↓reduceIte, Nat.reduceEqDiff]; rfl, Nat.zero_le _, by show 1 < 4; omega⟩
  intro r h2 q
  obtain ⟨j2, v2, i2, ac2, bj2, fr2, tr2, n2⟩ := q.opened (show 2 < 4 by omega)
  simp only at n2 fr2
  have ic2 : qzB h2.l 0 = some (some (.cells (cIcon i) false)) := by
    rw [(fr2 0 (by omega) (by omega) (.inl (by omega))).1]; simp only [qza, ↓reduceIte, reduceCtorEq, reduceCtorEq, cIcon, hW, hH, hS]
  have nj2 := (fr2 0 (by omega) (by omega) (.inl (by omega))).2
  simp only [qzl, qzm, qzk, qzf, qze, qzd, qzp, qzC, qzU, qzz, qzc, qzj, qzb, qzh, qzi, qzL, qzn, qzo, qzu, qza, qzt, qzv, qzy, qzJ, qzH, qzD, qzA, qzs, ↓reduceIte, Option.getD_some, List.getElem?_cons_zero, List.getElem?_cons_succ, List.drop_succ_cons, List.drop_zero, List.take_succ_cons, List.take_zero, Nat.reduceEqDiff, Nat.zero_add, cIcon, ic2]
  refine call_heap (eachColor_wr i.colors f_encode_writer_color colorB (by omega) (fun c hcm => color_wr c (hc c hcm)) Gl h2 2 j2 v2 _ i2 ac2 (by omega) bj2 (by rw [List.length_append]; show _ + (colorsB i.colors).length + 0 < _; simp only [List.length_cons, List.length_nil]; omega)) ?_
  intro r h3 q3
  obtain ⟨j3, v3, i3, ac3, bj3, fr3, tr3, n3⟩ := q3.opened (by omega)
  have ic3 := (fr3 0 (by omega) (by omega) nj2).1.trans ic2
  have nj3 := (fr3 0 (by omega) (by omega) nj2).2
  simp only [qzl, qzm, qzk, qzf, qze, qzd, qzp, qzC, xzd, qzU, qzz, qzc, qzj, qzK, qzb, qzh, qzi, qzX, qzL, qzn, qzo, qzu, qza, qzt, qzv, qzy, qzJ, qzY, qzH, qzD, xzo, xzy, xzh, qzA, cvs, cv, VN.at, VH.push, qzs, VV.cells, ntV, ↓reduceIte, Option.getD_some, List.getElem?_cons_zero, List.getElem?_cons_succ, List.length_cons, List.length_nil, List.drop_succ_cons, List.drop_zero, List.take_zero, List.append_nil, List.nil_append, Nat.reduceDiv, Nat.reduceEqDiff, Nat.reduceLeDiff, Nat.zero_add, and_self, cIcon, ic3]
  have fX : ∀ k, k < h3.next → qzB ((h3.next, some (VB.cells [.int .i64 (i.cmds.length : Int)] false)) :: h3.l) k = qzB h3.l k := fun k hk => by simp only [qza]; rw [if_neg (by omega)]
  refine call_heap (num_run [i.cmds.length] (by simp; omega) (by simp) 2 h3.next (by omega) j3 v3 _ ⟨(h3.next, some (VB.cells [.int .i64 (i.cmds.length : Int)] false)) :: h3.l, h3.next + 1⟩ ?_ (by show 2 < h3.next + 1; omega) (by show h3.next < h3.next + 1; omega) ?_ (by simp only [qza, if_true]; rfl) (by rw [fX 2 (by omega)]; exact i3) (Go.VL.Wire.AccE.ext ac3 (by show h3.next ≤ h3.next + 1; omega) (fun _ q => fX j3 q)) bj3) ?_
  · rw [List.length_append, List.length_append]; show _ + _ + (colorsB i.colors).length + _ < _; simp only [List.length_cons, List.length_nil]; omega
  · exact AccE.ne ac3 (.inr (Nat.le_refl _))
  intro r h4 q4
  have q4 := q4.weak (h := h3) (by show h3.next ≤ h3.next + 1; omega) fX
  obtain ⟨j4, v4, i4, ac4, bj4, fr4, tr4, n4⟩ := q4.opened (by omega)
  have ic4 := (fr4 0 (by omega) (by omega) nj3).1.trans ic3
  simp only [qzl, qzm, qzk, qzf, qze, qzd, qzp, qzC, qzU, qzz, qzc, qzj, qzb, qzh, qzi, qzL, qzn, qzo, qzu, qza, qzt, qzv, qzy, qzJ, qzH, qzD, qzA, qzs, ↓reduceIte, Option.getD_some, List.getElem?_cons_zero, List.getElem?_cons_succ, List.drop_succ_cons, List.drop_zero, List.take_succ_cons, List.take_zero, Nat.reduceEqDiff, Nat.zero_add, cIcon, ic4]
  refine call_heap (eachCmd_wr i.cmds f_encode_writer_cmd g (by omega) hw Gl h4 2 j4 v4 _ i4 ac4 (by omega) bj4 (by rw [List.length_append, List.length_append, List.length_append]; show _ + _ + (colorsB i.colors).length + _ + _ + m < _; simp only [List.length_cons, List.length_nil]; omega)) ?_
  intro r h5 q5
  obtain ⟨j5, v5, i5, ac5, bj5, fr5, tr5, n5⟩ := q5.opened (by omega)
  simp only [qzl, qzm, qzG, qzk, qzf, qze, qzd, qzp, qzC, qzz, qzI, qzc, qzj, qzb, qzh, qzi, qzn, qzo, qzu, qza, qzt, qzv, qzy, qzJ, nilChkV, qzH, qzD, qzA, cv, qzs, qzT, qzM, qzW, qzS, ↓reduceIte, Option.getD_some, List.getElem?_cons_zero, Nat.reduceEqDiff, Nat.add_zero, i5]
  refine ⟨j5, v5, rfl, ?_⟩
  have e : bytesS g i = [71, 76, 89, 49] ++ numsB [W, H, S, i.colors.length] ++ i.colors.flatMap colorB ++ numsB [i.cmds.length] ++ i.cmds.flatMap g := by
    unfold bytesS; rw [w1, w2, w3]; simp only [List.append_assoc]; rfl
  rw [e]; exact ac5
theorem accE_shuts {h : VH} {j : Nat} {v : VV} {l : List Nat} (a : AccE 0 h j cB l 1 v) (hn : l ≠ []) : Shuts h.get v (.fsl (xzq cB l) l.length 1) := by
  rcases a with a | ⟨e, e1, rfl, a2, a3, a4⟩
  · exact Shuts.acc (f' := cB) a (fun _ x hx => hx) cB_len (fun _ _ => ShutsL.closed rfl)
  · obtain rfl := e1.resolve_right hn
    exact Shuts.whole (by rw [qzs, a2]; rfl) (by rw [flatL_length cB_len]) (Nat.le_refl _) (ShutsL.closed (closedL_flat (fun _ => rfl) _))
theorem bytes_ok {Gl : xzv} (hG : IcG Gl) (i : Icon) (hf : i.Fit) (hk : checkS i = none) (hc : ∀ c ∈ i.colors, c.In) (g : Cmd → List Nat) {m : Nat} (hm : m < 10000000) (hw : ∀ c ∈ i.cmds, Wr f_encode_writer_cmd (fun b => [.ptr b 0, .agg (cCmd c)]) (g c) m) (hlen : (i.cmds.flatMap g).length < 100000000) :
    PureOk Go.VL.Er.E Gl f_encode_Bytes [.agg (cIcon i)] (.tuple [.fsl (xzq cB (bytesS g i)) (bytesS g i).length 1, .nilI]) :=
  pure_sound ((bytes_run hG i hf hk hc g hm hw hlen).mono fun v h ⟨j, v', e, a⟩ => by
    rw [e]
    exact Shuts.tuple (ShutsL.cons (accE_shuts a (by simp [bytesS])) (ShutsL.cons (Shuts.closed rfl) ShutsL.nil)))
end
end Go.VL.En

/- Runs in plain numbers. -/
namespace Go.VL.En
open Go.FR Go.IR Go.VL Go.VL.Color Go.VL.Wind Go.VL.Ic
noncomputable section
set_option linter.unusedSimpArgs false
set_option linter.unusedVariables false
def expR (A : List Run) : List Int := A.flatMap fun r => List.replicate r.2 r.1
theorem exp_snoc (A : List Run) (r : Run) : expR (A ++ [r]) = expR A ++ List.replicate r.2 r.1 := by simp [expR]
theorem exp_push (A : List Run) (k : Int) : expR (pushR A k) = expR A ++ [k] := by
  rcases List.eq_nil_or_concat A with rfl | ⟨B, ⟨k', n⟩, rfl⟩
  · rfl
  · rw [List.concat_eq_append, pushR_snoc]
    split
    · rename_i e; subst e
      rw [exp_snoc, exp_snoc]; simp only; rw [List.replicate_succ', List.append_assoc]
    · rw [exp_snoc (B ++ [(k', n)])]; rfl
theorem exp_fold : ∀ (l : List Seg) (A : List Run), expR (l.foldl (fun A s => pushR A s.kind) A) = expR A ++ l.map (·.kind)
  | [], A => by simp
  | s :: l, A => by rw [List.foldl_cons, exp_fold l, exp_push, List.map_cons, List.append_assoc]; rfl
theorem exp_runs (l : List Seg) : expR (runsS l) = l.map (·.kind) := exp_fold l []
theorem exp_len (A : List Run) : (expR A).length = countR A := by
  induction A with
  | nil => rfl
  | cons r A ih => simp only [expR, countR, List.flatMap_cons, List.length_append, List.length_replicate, List.map_cons, List.sum_cons] at ih ⊢; rw [ih]
/-- Each at least once, no two beside each other of one kind. -/
def GoodR (A : List Run) : Prop := (∀ r ∈ A, 1 ≤ r.2) ∧ ∀ i r r', A[i]? = some r → A[i + 1]? = some r' → r.1 ≠ r'.1
theorem good_snoc {A : List Run} {r r' : Run} (h : GoodR (A ++ [r])) (h1 : 1 ≤ r'.2) : (r.1 ≠ r'.1 → GoodR (A ++ [r] ++ [r'])) ∧ (r.1 = r'.1 → GoodR (A ++ [r'])) := by
  refine ⟨fun ne => ⟨fun x hx => ?_, fun i x y hx hy => ?_⟩, fun e => ⟨fun x hx => ?_, fun i x y hx hy => ?_⟩⟩
  · rcases List.mem_append.mp hx with hx | hx
    · exact h.1 x hx
    · rw [List.mem_singleton.mp hx]; exact h1
  · by_cases c : i + 1 < (A ++ [r]).length
    · rw [List.getElem?_append_left (by omega)] at hx
      rw [List.getElem?_append_left c] at hy
      exact h.2 i x y hx hy
    · have ly : i + 1 < (A ++ [r] ++ [r']).length := by
        rcases Nat.lt_or_ge (i + 1) (A ++ [r] ++ [r']).length with q | q
        · exact q
        · rw [List.getElem?_eq_none q] at hy; exact nomatch hy
      have ei : i = A.length := by simp at c ly; omega
      subst ei
      have e1 : (A ++ [r] ++ [r'])[A.length]? = some r := by simp
      have e2 : (A ++ [r] ++ [r'])[A.length + 1]? = some r' := by
        rw [List.getElem?_append_right (by simp)]; simp
      rw [e1] at hx; rw [e2] at hy
      obtain rfl := Option.some.inj hx
      obtain rfl := Option.some.inj hy
      exact ne
  · rcases List.mem_append.mp hx with hx | hx
    · exact h.1 x (List.mem_append.mpr (.inl hx))
    · rw [List.mem_singleton.mp hx]; exact h1
  · by_cases c : i + 1 < A.length
    · rw [List.getElem?_append_left (by omega)] at hx
      rw [List.getElem?_append_left c] at hy
      exact h.2 i x y (by rw [List.getElem?_append_left (by omega)]; exact hx) (by rw [List.getElem?_append_left c]; exact hy)
    · have ly : i + 1 < (A ++ [r']).length := by
        rcases Nat.lt_or_ge (i + 1) (A ++ [r']).length with q | q
        · exact q
        · rw [List.getElem?_eq_none q] at hy; exact nomatch hy
      have ei : i + 1 = A.length := by simp at ly; omega
      have e2 : (A ++ [r'])[i + 1]? = some r' := by rw [ei]; simp
      rw [e2] at hy
      obtain rfl := Option.some.inj hy
      rw [List.getElem?_append_left (by omega)] at hx
      have := h.2 i x r (by rw [List.getElem?_append_left (by omega)]; exact hx) (by rw [ei]; simp)
      rw [← e]; exact this
theorem good_push {A : List Run} (h : GoodR A) (k : Int) : GoodR (pushR A k) := by
  rcases List.eq_nil_or_concat A with rfl | ⟨B, ⟨k', n⟩, rfl⟩
  · rw [pushR_nil]
    exact ⟨fun r hr => by rw [List.mem_singleton.mp hr]; exact Nat.le_refl _, fun i r r' h1 h2 => by simp at h2⟩
  · rw [List.concat_eq_append] at h ⊢
    rw [pushR_snoc]
    split
    · rename_i e; exact (good_snoc h (r' := (k', n + 1)) (Nat.le_add_left 1 n)).2 rfl
    · rename_i e; exact (good_snoc h (r' := (k, 1)) (Nat.le_refl _)).1 e
theorem good_fold : ∀ (l : List Seg) (A : List Run), GoodR A → GoodR (l.foldl (fun A s => pushR A s.kind) A)
  | [], A, h => h
  | s :: l, A, h => good_fold l _ (good_push h s.kind)
theorem good_runs (l : List Seg) : GoodR (runsS l) := good_fold l [] ⟨(fun r hr => by cases hr), (fun i r r' h1 h2 => by simp at h1)⟩
theorem exp_take (R : List Run) {i : Nat} {r : Run} (h : R[i]? = some r) : expR (R.take (i + 1)) = expR (R.take i) ++ List.replicate r.2 r.1 := by rw [take_at h, exp_snoc]
theorem count_take (R : List Run) {i : Nat} {r : Run} (h : R[i]? = some r) : countR (R.take (i + 1)) = countR (R.take i) + r.2 := by rw [take_at h, countR_snoc]
theorem count_le (R : List Run) (i : Nat) : countR (R.take i) ≤ countR R := by
  have : countR R = countR (R.take i) + countR (R.drop i) := by
    conv => lhs; rw [← List.take_append_drop i R]
    unfold countR; rw [List.map_append, List.sum_append]
  omega
/-- The kind of each of a run. -/
theorem kind_run (l : List Seg) {i k : Nat} {r : Run} (h : (runsS l)[i]? = some r) (hk : k < r.2) : ∃ s, l[countR ((runsS l).take i) + k]? = some s ∧ s.kind = r.1 := by
  have e : l.map (·.kind) = expR ((runsS l).take i) ++ (List.replicate r.2 r.1 ++ expR ((runsS l).drop (i + 1))) := by
    rw [← exp_runs l, ← List.append_assoc, ← exp_take _ h]
    unfold expR; rw [← List.flatMap_append, List.take_append_drop]
  have g : (l.map (·.kind))[countR ((runsS l).take i) + k]? = some r.1 := by
    rw [e, List.getElem?_append_right (by rw [exp_len]; omega), exp_len, Nat.add_sub_cancel_left, List.getElem?_append_left (by simpa using hk)]
    simp [List.getElem?_replicate, hk]
  rw [List.getElem?_map] at g
  cases q : l[countR ((runsS l).take i) + k]? with
  | none => rw [q] at g; exact nomatch g
  | some s => rw [q] at g; exact ⟨s, rfl, Option.some.inj g⟩

theorem runs_len_le (l : List Seg) : (runsS l).length ≤ l.length := by
  have : ∀ (m : List Seg) (A : List Run), (m.foldl (fun A s => pushR A s.kind) A).length ≤ A.length + m.length := fun m => by
    induction m with
    | nil => intro A; simp
    | cons s m ih => intro A; have := ih (pushR A s.kind); have := pushR_len A s.kind; simp only [List.foldl_cons, List.length_cons]; omega
  have := this l []
  simp only [List.length_nil, Nat.zero_add] at this
  exact this
end
end Go.VL.En

/- Icons, closed piece by piece. -/
namespace Go.VL.Ic
open Go.FR Go.IR Go.VL Go.VL.Er Go.VL.Color Go.VL.Wind
noncomputable section
set_option linter.unusedSimpArgs false
set_option linter.unusedVariables false
set_option maxRecDepth 100000
set_option maxHeartbeats 1000000
variable {g : Nat → Option VB}

theorem shut_icon {W H S : Int} {vc vk : VV} {cols : List Cl} {cmds : List Cmd} (h1 : Shuts g vc (.fsl (xzq cCl cols) cols.length 4)) (h2 : Shuts g vk (.fsl (xzq cCmd cmds) cmds.length 11)) :
    ShutsL g [.agg [.int .i64 W, .int .i64 H, .int .i64 S, vc, vk]] [.agg (cIcon ⟨W, H, S, cols, cmds⟩)] :=
  ShutsL.cons (Shuts.agg (ShutsL.cons (Shuts.closed rfl) (ShutsL.cons (Shuts.closed rfl) (ShutsL.cons (Shuts.closed rfl) (ShutsL.cons h1 (ShutsL.cons h2 ShutsL.nil)))))) ShutsL.nil
theorem shut_nil {e : Nat} : Shuts g .nilS (.fsl [] 0 e) := Shuts.closed_sub rfl (.inr ⟨e, rfl⟩)
end
end Go.VL.Ic
