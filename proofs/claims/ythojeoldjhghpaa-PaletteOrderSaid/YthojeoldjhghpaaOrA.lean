/- 'glyphiclaw16.PaletteOrder': one round; the colors' copy beside reads. -/
import Derived.Test.YthojeoldjhghpaaPaB
namespace Go.VL.Pal
open Go.FR Go.IR Go.VL Go.VL.Color Go.VL.Wind
noncomputable section
set_option linter.unusedSimpArgs false
set_option linter.unusedVariables false
set_option maxRecDepth 100000
set_option maxHeartbeats 4000000

theorem idx_ge (x : Cl) : ∀ (l : List Cl) (k : Nat), -1 ≤ idxS l x k
  | [], k => by simp [idxS]
  | y :: l, k => by
    rw [idxS]; split
    · omega
    · exact idx_ge x l (k + 1)
theorem idx_none (x : Cl) : ∀ (l : List Cl) (k : Nat), x ∉ l → idxS l x k = -1
  | [], k, _ => rfl
  | y :: l, k, h => by
    rw [List.mem_cons, not_or] at h
    rw [idxS, if_neg h.1, idx_none x l (k + 1) h.2]
theorem idx_lt (x : Cl) : ∀ (l : List Cl) (k : Nat), idxS l x k < 0 → x ∉ l
  | [], k, _ => by simp
  | y :: l, k, h => by
    rw [idxS] at h
    by_cases e : x = y
    · rw [if_pos e] at h; omega
    · rw [if_neg e] at h
      rw [List.mem_cons, not_or]; exact ⟨e, idx_lt x l (k + 1) h⟩
theorem idx_get (x : Cl) : ∀ (l : List Cl) (k : Nat), 0 ≤ idxS l x k → ∃ m, idxS l x k = ((k + m : Nat) : Int) ∧ l[m]? = some x
  | [], k, h => by simp [idxS] at h
  | y :: l, k, h => by
    rw [idxS] at h ⊢
    by_cases e : x = y
    · exact ⟨0, by rw [if_pos e]; rfl, by rw [e]; rfl⟩
    · rw [if_neg e] at h ⊢
      obtain ⟨m, h1, h2⟩ := idx_get x l (k + 1) h
      exact ⟨m + 1, by rw [h1]; congr 1; omega, by simpa using h2⟩
theorem idx_at (x : Cl) : ∀ (l : List Cl) (k i : Nat), l.Nodup → l[i]? = some x → idxS l x k = ((k + i : Nat) : Int)
  | [], k, i, _, h => by simp at h
  | y :: l, k, 0, _, h => by
    simp at h; rw [idxS, if_pos h.symm]; rfl
  | y :: l, k, i + 1, hn, h => by
    simp only [List.getElem?_cons_succ] at h
    have hm : x ∈ l := List.mem_of_getElem? h
    have : x ≠ y := fun e => (List.nodup_cons.1 hn).1 (e ▸ hm)
    rw [idxS, if_neg this, idx_at x l (k + 1) i (List.nodup_cons.1 hn).2 h]; congr 1; omega

theorem lenSl_acc {α : Type} {base : Nat} {h : VH} {j : Nat} {f : α → List VV} {l : List α} {esz : Nat} {v : VV} (a : AccE base h j f l esz v) : qzV [v] = some (.int .i64 (l.length : Int)) := by
  rcases a with (⟨rfl, rfl⟩ | ⟨rfl, _⟩) | ⟨e, _, rfl, _⟩ <;> rfl

theorem lent2 {h : VH} {i j : Nat} {b b' d d' : VB} (hi : yzA h.l i = some (some b)) (hj : yzA h.l j = some (some d)) (hij : i ≠ j) (hb : b'.ids = [j]) (hd : d'.ids = []) : Lent h [(i, b), (j, d)] [(i, b'), (j, d')] :=
  ⟨fun k x q => by
    simp only [yzA] at q
    split at q
    · rename_i e; subst e; obtain rfl := Option.some.inj q; rw [qzz, hi]; rfl
    · split at q <;> try (cases q; done)
      rename_i e; subst e; obtain rfl := Option.some.inj q; rw [qzz, hj]; rfl,
   fun p hp => by
    simp only [List.mem_cons, List.not_mem_nil, or_false] at hp
    rcases hp with rfl | rfl
    · simp [yzA]
    · simp [yzA, hij],
   rfl, fun p hp k hk => by
    simp only [List.mem_cons, List.not_mem_nil, or_false] at hp
    rcases hp with rfl | rfl
    · rw [hb] at hk; simp at hk; simp [hk]
    · rw [hd] at hk; cases hk⟩

theorem idsL_flat : ∀ l : List Cl, xzV (yzH cCl l) = []
  | [] => rfl
  | a :: l => by rw [flatL_cons]; simp [xzV, xzX, idsL_flat l]
theorem clone_ne (Gl : yzD) (l : List Cl) (hl : l.length < 100000) (hne : l ≠ []) (h : VH) (j : Nat) (v : VV) (ha : yzC 0 h j cCl l 4 v) :
    CallsV Go.VL.Pal.E Gl f_slices_Clone__api_Color_api_Color [v] h (fun r h' => (∃ j', yzC h.next h' j' cCl l 4 r) ∧ Fr h h') := by
  refine yzB E_slices_Clone__api_Color_api_Color ?_
  unfold c_slices_Clone__api_Color_api_Color r_slices_Clone__api_Color_api_Color
  simp only [yzG]
  rcases ha with ⟨rfl, rfl⟩ | ⟨rfl, g3, _, g5⟩
  · exact (hne rfl).elim
  · simp only [qzO, qzX, qzQ, xzd, qzs, qzD, xzh, qzB, qzk, qzb, qzm, xzv, xzn, xzt, xzk, qzY, xzq, qzU, qzE, qzM, qzJ, qzx, qzq, qzh, xzS, xzP, xzR, xzQ, xzm, qzL, qzw, qzg, qzd, xzc, xzx, xzs, xzC, xzy, xzA, xzw, qzj, qzn, qze, qzl, qzp, xzf, qzZ, xzj, qzC, qzR, qzF, qzo, qzv, qzc, qzr, qzi, qzf, xzO, xzJ, yzy, qza, yzm, yzi, yzq, xzH, xzr, qzK, qzS, xzo, qzI, yzw, yzp, xzM, qzV, qzN, qzP, slV, xzi, yzu, yzl, xzE, yzv, yzd, xzI, yzj, yzx, yzg, yzh, yzr, yze, yzc, xzb, eqBool, eqInt, eqStr, yzn, yzb, xzz, xzL, qzT, qzu, xzl, xzT, qzW, xzU, xzK, xzY, yzk, qzy, xzG, cvs, cv, yzf, yzo, toA, ofA, FR.pop, abin, aun, intBin, shiftBin, strBin, bnds, natOf, max2A, min2A, foldA, VN.at, VH.push, VH.set, VH.kill, VH.fix, VB.fix, qzz, h0, VV.cells, ntV, xzZ, xzF, yza, yzs, closedB, qzA, xzu, xzB, xzg, countN, qzH, yzt, fzB, fzL, xza, xzN, qzG, xze, xzV, xzX, xzW, xzp, qzt, xzD, capMost, capDrop, ↓reduceIte, Option.getD_some, Option.getD_none, Option.isSome_some, Option.map_some, Option.map_none, List.getElem?_cons_zero, List.getElem?_cons_succ, List.length_cons, List.length_nil, List.drop_succ_cons, List.drop_zero, List.take_succ_cons, List.take_zero, List.append_nil, List.nil_append, List.cons_append, List.contains_cons, List.contains_nil, List.head?_cons, Nat.reduceAdd, Nat.reduceMul, Nat.reduceSub, Nat.reduceDiv, Nat.reduceLT, Nat.reduceEqDiff, reduceCtorEq, Nat.reduceLeDiff, Nat.reduceBEq, Int.reduceEq, Int.reduceLT, Int.reduceLE, Int.reduceBEq, Int.reduceGT, Nat.add_zero, Nat.zero_add, and_self, and_true, true_and, and_false, false_and, not_true_eq_false, not_false_eq_true, Bool.and_self, Bool.and_true, Bool.true_and, Bool.and_false, Bool.or_false, Bool.true_or, Bool.or_true, Bool.false_or, Bool.not_false, Bool.not_true, Bool.false_eq_true, beq_self_eq_true, bne_self_eq_false, beq_true, beq_false, decide_true, decide_false, if_true, if_false, forall_const, false_implies, true_implies, Bool.true_eq_false, reduceCtorEq, cCl, cSeq]
    have fr : ∀ k, k < h.next → yzA ((h.next, some (VB.cells [] false)) :: h.l) k = yzA h.l k := fun k hk => by simp only [qza]; rw [if_neg (by omega)]
    obtain ⟨f1, f2⟩ := flat_all cCl_len l
    have hsrc : xzT (VH.mk ((h.next, some (.cells [] false)) :: h.l) (h.next + 1)) 4 (.slice j 0 l.length 4 (.toEnd 4)) = some (l.length, yzH cCl l) := by
      simp only [xzT, true_or, if_true, xzU, qzz, fr j g5, g3, Option.getD_some, Nat.zero_add, f1, List.drop_zero, f2]
    refine wpW_accE (base := h.next) (j := h.next) (f := cCl) (l := []) (ls := l) (.inr ⟨0, .inr rfl, rfl, by simp only [qza, if_true]; rfl, Nat.le_refl _, Nat.lt_succ_self _⟩) hsrc hne cCl_len (by omega) (Nat.le_succ _) (by simp; omega) (by simp; omega) ?_
    intro h' g1 g2 g4
    simp only [qzO, qzX, qzQ, xzd, qzs, qzD, xzh, qzB, qzk, qzb, qzm, xzv, xzn, xzt, xzk, qzY, xzq, qzU, qzE, qzM, qzJ, qzx, qzq, qzh, xzS, xzP, xzR, xzQ, xzm, qzL, qzw, qzg, qzd, xzc, xzx, xzs, xzC, xzy, xzA, xzw, qzj, qzn, qze, qzl, qzp, xzf, qzZ, xzj, qzC, qzR, qzF, qzo, qzv, qzc, qzr, qzi, qzf, xzO, xzJ, yzy, qza, yzm, yzi, yzq, xzH, xzr, qzK, qzS, xzo, qzI, yzw, yzp, xzM, qzV, qzN, qzP, slV, xzi, yzu, yzl, xzE, yzv, yzd, xzI, yzj, yzx, yzg, yzh, yzr, yze, yzc, xzb, eqBool, eqInt, eqStr, yzn, yzb, xzz, xzL, qzT, qzu, xzl, xzT, qzW, xzU, xzK, xzY, yzk, qzy, xzG, cvs, cv, yzf, yzo, toA, ofA, FR.pop, abin, aun, intBin, shiftBin, strBin, bnds, natOf, max2A, min2A, foldA, VN.at, VH.push, VH.set, VH.kill, VH.fix, VB.fix, qzz, h0, VV.cells, ntV, xzZ, xzF, yza, yzs, closedB, qzA, xzu, xzB, xzg, countN, qzH, yzt, fzB, fzL, xza, xzN, qzG, xze, xzV, xzX, xzW, xzp, qzt, xzD, capMost, capDrop, ↓reduceIte, Option.getD_some, Option.getD_none, Option.isSome_some, Option.map_some, Option.map_none, List.getElem?_cons_zero, List.getElem?_cons_succ, List.length_cons, List.length_nil, List.drop_succ_cons, List.drop_zero, List.take_succ_cons, List.take_zero, List.append_nil, List.nil_append, List.cons_append, List.contains_cons, List.contains_nil, List.head?_cons, Nat.reduceAdd, Nat.reduceMul, Nat.reduceSub, Nat.reduceDiv, Nat.reduceLT, Nat.reduceEqDiff, reduceCtorEq, Nat.reduceLeDiff, Nat.reduceBEq, Int.reduceEq, Int.reduceLT, Int.reduceLE, Int.reduceBEq, Int.reduceGT, Nat.add_zero, Nat.zero_add, and_self, and_true, true_and, and_false, false_and, not_true_eq_false, not_false_eq_true, Bool.and_self, Bool.and_true, Bool.true_and, Bool.and_false, Bool.or_false, Bool.true_or, Bool.or_true, Bool.false_or, Bool.not_false, Bool.not_true, Bool.false_eq_true, beq_self_eq_true, bne_self_eq_false, beq_true, beq_false, decide_true, decide_false, if_true, if_false, forall_const, false_implies, true_implies, Bool.true_eq_false, reduceCtorEq, cCl, cSeq]
    simp only [List.nil_append, List.length_nil, Nat.zero_add] at g4
    refine ⟨⟨_, g4⟩, fun k hk => ?_, by simp only at g1; omega⟩
    rw [g2 k (by show k ≠ h.next + 1; omega) (.inl (by omega))]; exact fr k hk
theorem colors_ne (Gl : yzD) (l : List Cl) (hl : l.length < 100000) (hne : l ≠ []) (h : VH) (i j : Nat) (v : VV) (hi : yzA h.l i = some (some (.cells [v] false))) (ha : yzC 0 h j cCl l 4 v) (hin : i < h.next) :
    CallsV Go.VL.Pal.E Gl f_palette_Palette_Colors [.ptr i 0] h (fun r h' => (∃ j', yzC h.next h' j' cCl l 4 r) ∧ Fr h h') := by
  refine yzB E_palette_Palette_Colors ?_
  unfold c_palette_Palette_Colors r_palette_Palette_Colors
  simp only [yzG]
  simp only [qzO, qzX, qzQ, xzd, qzs, qzD, xzh, qzB, qzk, qzb, qzm, xzv, xzn, xzt, xzk, qzY, xzq, qzU, qzE, qzM, qzJ, qzx, qzq, qzh, xzS, xzP, xzR, xzQ, xzm, qzL, qzw, qzg, qzd, xzc, xzx, xzs, xzC, xzy, xzA, xzw, qzj, qzn, qze, qzl, qzp, xzf, qzZ, xzj, qzC, qzR, qzF, qzo, qzv, qzc, qzr, qzi, qzf, xzO, xzJ, yzy, qza, yzm, yzi, yzq, xzH, xzr, qzK, qzS, xzo, qzI, yzw, yzp, xzM, qzV, qzN, qzP, slV, xzi, yzu, yzl, xzE, yzv, yzd, xzI, yzj, yzx, yzg, yzh, yzr, yze, yzc, xzb, eqBool, eqInt, eqStr, yzn, yzb, xzz, xzL, qzT, qzu, xzl, xzT, qzW, xzU, xzK, xzY, yzk, qzy, xzG, cvs, cv, yzf, yzo, toA, ofA, FR.pop, abin, aun, intBin, shiftBin, strBin, bnds, natOf, max2A, min2A, foldA, VN.at, VH.push, VH.set, VH.kill, VH.fix, VB.fix, qzz, h0, VV.cells, ntV, xzZ, xzF, yza, yzs, closedB, qzA, xzu, xzB, xzg, countN, qzH, yzt, fzB, fzL, xza, xzN, qzG, xze, xzV, xzX, xzW, xzp, qzt, xzD, capMost, capDrop, ↓reduceIte, Option.getD_some, Option.getD_none, Option.isSome_some, Option.map_some, Option.map_none, List.getElem?_cons_zero, List.getElem?_cons_succ, List.length_cons, List.length_nil, List.drop_succ_cons, List.drop_zero, List.take_succ_cons, List.take_zero, List.append_nil, List.nil_append, List.cons_append, List.contains_cons, List.contains_nil, List.head?_cons, Nat.reduceAdd, Nat.reduceMul, Nat.reduceSub, Nat.reduceDiv, Nat.reduceLT, Nat.reduceEqDiff, reduceCtorEq, Nat.reduceLeDiff, Nat.reduceBEq, Int.reduceEq, Int.reduceLT, Int.reduceLE, Int.reduceBEq, Int.reduceGT, Nat.add_zero, Nat.zero_add, and_self, and_true, true_and, and_false, false_and, not_true_eq_false, not_false_eq_true, Bool.and_self, Bool.and_true, Bool.true_and, Bool.and_false, Bool.or_false, Bool.true_or, Bool.or_true, Bool.false_or, Bool.not_false, Bool.not_true, Bool.false_eq_true, beq_self_eq_true, bne_self_eq_false, beq_true, beq_false, decide_true, decide_false, if_true, if_false, forall_const, false_implies, true_implies, Bool.true_eq_false, reduceCtorEq, cCl, cSeq, hi]
  refine call_heap (clone_ne Gl l hl hne h j v ha) ?_
  intro r h' hq
  simp only [qzO, qzX, qzQ, xzd, qzs, qzD, xzh, qzB, qzk, qzb, qzm, xzv, xzn, xzt, xzk, qzY, xzq, qzU, qzE, qzM, qzJ, qzx, qzq, qzh, xzS, xzP, xzR, xzQ, xzm, qzL, qzw, qzg, qzd, xzc, xzx, xzs, xzC, xzy, xzA, xzw, qzj, qzn, qze, qzl, qzp, xzf, qzZ, xzj, qzC, qzR, qzF, qzo, qzv, qzc, qzr, qzi, qzf, xzO, xzJ, yzy, qza, yzm, yzi, yzq, xzH, xzr, qzK, qzS, xzo, qzI, yzw, yzp, xzM, qzV, qzN, qzP, slV, xzi, yzu, yzl, xzE, yzv, yzd, xzI, yzj, yzx, yzg, yzh, yzr, yze, yzc, xzb, eqBool, eqInt, eqStr, yzn, yzb, xzz, xzL, qzT, qzu, xzl, xzT, qzW, xzU, xzK, xzY, yzk, qzy, xzG, cvs, cv, yzf, yzo, toA, ofA, FR.pop, abin, aun, intBin, shiftBin, strBin, bnds, natOf, max2A, min2A, foldA, VN.at, VH.push, VH.set, VH.kill, VH.fix, VB.fix, qzz, h0, VV.cells, ntV, xzZ, xzF, yza, yzs, closedB, qzA, xzu, xzB, xzg, countN, qzH, yzt, fzB, fzL, xza, xzN, qzG, xze, xzV, xzX, xzW, xzp, qzt, xzD, capMost, capDrop, ↓reduceIte, Option.getD_some, Option.getD_none, Option.isSome_some, Option.map_some, Option.map_none, List.getElem?_cons_zero, List.getElem?_cons_succ, List.length_cons, List.length_nil, List.drop_succ_cons, List.drop_zero, List.take_succ_cons, List.take_zero, List.append_nil, List.nil_append, List.cons_append, List.contains_cons, List.contains_nil, List.head?_cons, Nat.reduceAdd, Nat.reduceMul, Nat.reduceSub, Nat.reduceDiv, Nat.reduceLT, Nat.reduceEqDiff, reduceCtorEq, Nat.reduceLeDiff, Nat.reduceBEq, Int.reduceEq, Int.reduceLT, Int.reduceLE, Int.reduceBEq, Int.reduceGT, Nat.add_zero, Nat.zero_add, and_self, and_true, true_and, and_false, false_and, not_true_eq_false, not_false_eq_true, Bool.and_self, Bool.and_true, Bool.true_and, Bool.and_false, Bool.or_false, Bool.true_or, Bool.or_true, Bool.false_or, Bool.not_false, Bool.not_true, Bool.false_eq_true, beq_self_eq_true, bne_self_eq_false, beq_true, beq_false, decide_true, decide_false, if_true, if_false, forall_const, false_implies, true_implies, Bool.true_eq_false, reduceCtorEq, cCl, cSeq]
  exact hq

/-- The colors, copied: which of the caller's blocks are handed over. -/
theorem colors_own (Gl : yzD) (l : List Cl) (hl : l.length < 100000) (i j : Nat) (hij : i ≠ j) (hne : l ≠ []) :
    StOwn Go.VL.Pal.E Gl f_palette_Palette_Colors [.ptr i 0] [(i, .cells [.slice j 0 l.length 4 (.toEnd 4)] false), (j, .cells (yzH cCl l) false)] (yzH cCl l) 0 l.length 4 (.toEnd 4) [(i, .cells [.slice j 0 l.length 4 (.toEnd 4)] false), (j, .cells (yzH cCl l) false)] := fun nx hnx => by
  have hi := hnx (i, .cells [.slice j 0 l.length 4 (.toEnd 4)] false) (by simp)
  have hj := hnx (j, .cells (yzH cCl l) false) (by simp)
  have s0 : yzA (mkL [(i, VB.cells [.slice j 0 l.length 4 (.toEnd 4)] false), (j, .cells (yzH cCl l) false)]) i = some (some (.cells [.slice j 0 l.length 4 (.toEnd 4)] false)) := by simp [mkL, yzA]
  have s1 : yzA (mkL [(i, VB.cells [.slice j 0 l.length 4 (.toEnd 4)] false), (j, .cells (yzH cCl l) false)]) j = some (some (.cells (yzH cCl l) false)) := by simp [mkL, yzA, hij]
  refine (colors_ne Gl l hl hne ⟨_, nx⟩ i j _ s0 (.inr ⟨rfl, s1, Nat.zero_le _, hj⟩) hi).mono ?_
  rintro r h' ⟨⟨j', acc⟩, f, n⟩
  refine ⟨?_, fun k x q => ?_⟩
  · rcases acc with ⟨q, _⟩ | ⟨q1, q2, q3, q4⟩
    · exact (hne q).elim
    · exact ⟨j', _, q1, q3, by rw [qzz, q2]; rfl, closedL_flat (fun _ => rfl) l, subL_refl _⟩
  · have u0 := (f _ hi).trans s0
    have u1 := (f _ hj).trans s1
    simp only [yzA] at q
    split at q
    · rename_i e; subst e; obtain rfl := Option.some.inj q; rw [qzz, u0]; rfl
    · split at q <;> try (cases q; done)
      rename_i e; subst e; obtain rfl := Option.some.inj q; rw [qzz, u1]; rfl
/-- The copy beside reads. -/
theorem call_colors {Gl : yzD} {l : List Cl} {h : VH} {i j : Nat} {K : VV → VH → Option (List Nat × Bool) → Prop} (hl : l.length < 100000) (hij : i ≠ j) (hne : l ≠ []) (hi : yzA h.l i = some (some (.cells [.slice j 0 l.length 4 (.toEnd 4)] false))) (hj : yzA h.l j = some (some (.cells (yzH cCl l) false)))
    (hk : K (.slice h.next 0 l.length 4 (.toEnd 4)) ⟨(h.next, some (.cells (yzH cCl l) false)) :: (i, some (.cells [.slice j 0 l.length 4 (.toEnd 4)] false)) :: (j, some (.cells (yzH cCl l) false)) :: h.l, h.next + 1⟩ (some ([i, j], false))) :
    wpCall Go.VL.Pal.E Gl f_palette_Palette_Colors [.ptr i 0] h K :=
  .inr (.inr (.inr (.inl ⟨_, _, _, _, _, _, _, lent2 (b' := .cells [.slice j 0 l.length 4 (.toEnd 4)] false) (d' := .cells (yzH cCl l) false) hi hj hij rfl (idsL_flat l), colors_own Gl l hl i j hij hne, hk⟩)))
end
end Go.VL.Pal
