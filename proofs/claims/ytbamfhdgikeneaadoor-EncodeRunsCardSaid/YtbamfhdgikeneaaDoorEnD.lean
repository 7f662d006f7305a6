/- Chapter 6: a writer's lists. (By wip/gen_end.py.) -/
import Derived.Test.YtbamfhdgikeneaaDoorGeA
namespace Go.VL.En
open Go.FR Go.IR Go.VL Go.VL.Color Go.VL.Wind Go.VL.Ic Go.VL.Wire
noncomputable section
set_option linter.unusedSimpArgs false
set_option linter.unusedVariables false
set_option maxRecDepth 100000
set_option maxHeartbeats 1000000
theorem WrQ.weak {b j : Nat} {v : VV} {X bs : List Nat} {h h1 h2 : VH} (hn : h.next ≤ h1.next) (hf : ∀ k, k < h.next → qzB h1.l k = qzB h.l k) (q : WrQ b j v X bs h1 h2) : WrQ b j v X bs h h2 := by
  obtain ⟨j1, v1, a1, a2, a3, a4, a5, a6⟩ := q
  exact ⟨j1, v1, a1, a2, a3, fun k k1 k2 k3 => by rw [a4 k (by omega) k2 k3, hf k k1], by omega, a6.imp id (fun x => by omega)⟩
theorem fm_take {α : Type} {g : α → List Nat} {l : List α} {i : Nat} {e : α} (he : l[i]? = some e) : (l.take (i + 1)).flatMap g = (l.take i).flatMap g ++ g e := by
  rw [take_at he, List.flatMap_append]; simp
theorem fm_le {α : Type} {g : α → List Nat} (l : List α) (i : Nat) : ((l.take i).flatMap g).length ≤ (l.flatMap g).length := by
  have : l.flatMap g = (l.take i).flatMap g ++ (l.drop i).flatMap g := by rw [← List.flatMap_append, List.take_append_drop]
  rw [this, List.length_append]; omega

theorem eachColor_loop {Gl : xzv} (l : List Cl) (f : Nat) (g : Cl → List Nat) (hl : l.length < 1000000) {m : Nat} (hw : ∀ c ∈ l, Wr f (fun b => [.ptr b 0, .agg (cCl c)]) (g c) m) (b j : Nat) (v : VV) (X : List Nat) (h : VH) (hX : X.length + (l.flatMap g).length + m < 1000000000) (hb : b < h.next) (K : AEx → VF → VH → Prop)
    (hK : ∀ T h', WrQ b j v X (l.flatMap g) h h' → K (.exit 0) T h') :
    ∀ (d i : Nat) (T : VF) (h1 : VH), d + i = l.length → WrQ b j v X ((l.take i).flatMap g) h h1 → qzB T 1 = some (.func f [.ptr b 0] []) → qzB T 6 = some (.fsl (xzq cCl l) l.length 4) → qzB T 7 = some (.int .i64 l.length) → qzB T 8 = some (.int .i64 i) →
    wp Go.VL.Er.E Gl (.loop c_encode_each__api_Color_l0) T h1 K := by
  intro d
  induction d with
  | zero =>
    intro i T h1 hd q t1 t6 t7 t8
    obtain rfl : i = l.length := by omega
    rw [List.take_length] at q
    refine xzf c_encode_each__api_Color_l0.eq_1 ?_
    have c : ¬ ((l.length : Int) < l.length) := by omega
    simp only [qzx, qzl, qzm, qzw, qzP, qzq, qzg, qzk, qzV, qzO, qzf, qze, qzd, qzp, qzc, qzb, qzh, qzi, qzn, qzo, qzu, qza, qzt, qzv, qzF, qzE, toA, ofA, FR.pop, abin, intBin, ↓reduceIte, Nat.reduceEqDiff, true_and, Bool.false_eq_true, decide_false, forall_const, false_implies, t7, t8, c]
    exact hK _ _ q
  | succ d ih =>
    intro i T h1 hd q t1 t6 t7 t8
    refine xzf c_encode_each__api_Color_l0.eq_1 ?_
    have hlt : i < l.length := by omega
    have c : (i : Int) < l.length := by omega
    obtain ⟨e, he⟩ : ∃ e, l[i]? = some e := ⟨l[i], List.getElem?_eq_getElem hlt⟩
    have p1 := flat_le Ic.cCl_len he
    have p2 := flat_at Ic.cCl_len he
    have hx : IntKind.i64.wrap ((i : Int) + 1) = ((i + 1 : Nat) : Int) := by rw [xzm (by omega) (by omega)]; rfl
    obtain ⟨j1, v1, a1, a2, a3, a4, a5, a6⟩ := q
    have nb := fm_take (g := g) he
    have nl : ((l.take i).flatMap g).length + (g e).length ≤ (l.flatMap g).length := by
      rw [← List.length_append, ← nb]; exact fm_le l (i + 1)
    simp only [qzx, qzl, qzm, qzw, qzP, qzq, qzg, qzk, qzV, qzO, qzf, qze, qzd, qzp, qzC, xzd, qzU, qzz, qzc, qzj, qzK, qzb, xze, qzh, qzi, qzX, xzg, wpW_callV, qzn, qzo, qzu, qza, qzt, qzv, qzy, xzb, qzH, qzD, xzo, xzh, xzl, xzt, qzA, cvs, cv, qzF, qzE, toA, ofA, FR.pop, abin, intBin, VN.at, VH.push, VH.set, qzs, VV.cells, ntV, qzZ, xzz, xzn, ↓reduceIte, Option.getD_some, List.length_cons, List.length_nil, List.drop_succ_cons, List.drop_zero, List.take_succ_cons, List.take_zero, List.append_nil, List.nil_append, List.cons_append, List.head?_cons, Nat.reduceAdd, Nat.reduceEqDiff, Nat.reduceLeDiff, Nat.zero_add, and_self, and_true, decide_true, forall_const, false_implies, Bool.true_eq_false, cCl, t1, t6, t7, t8, c, hlt, p1, p2, wpW_callV]
    have fX : ∀ k, k < h1.next → qzB ((h1.next, some (VB.cells (cCl e) false)) :: (h1.next, some (VB.cells [.int .u8 0, .int .u8 0, .int .u8 0, .int .u8 0] false)) :: h1.l) k = qzB h1.l k := fun k hk => by simp only [qza]; rw [if_neg (by omega), if_neg (by omega)]
    refine call_heap (hw e (List.mem_of_getElem? he) Gl ⟨(h1.next, some (VB.cells (cCl e) false)) :: (h1.next, some (VB.cells [.int .u8 0, .int .u8 0, .int .u8 0, .int .u8 0] false)) :: h1.l, h1.next + 1⟩ b j1 v1 (X ++ (l.take i).flatMap g) (by rw [fX b (by omega)]; exact a1) (Go.VL.Wire.AccE.ext a2 (by show h1.next ≤ h1.next + 1; omega) (fun _ q => fX j1 q)) (by show b < h1.next + 1; omega) a3 (by rw [List.length_append]; omega)) ?_
    intro r h2 q2
    simp only [qzl, qzk, qzR, xzc, qzf, qze, qzd, qzp, qzz, qzc, qzb, qzh, qzi, qzn, qzo, qzu, qza, qzt, qzv, qzy, cv, qzF, qzE, toA, ofA, FR.pop, abin, intBin, ↓reduceIte, Nat.reduceEqDiff, t8, hx]
    refine ih (i + 1) _ _ (by omega) (by rw [nb]; exact wrq_snoc hb a4 a5 a6 (q2.weak (by show h1.next ≤ h1.next + 1; omega) fX)) ?_ ?_ ?_ ?_
    · simp only [qza, ↓reduceIte, Nat.reduceEqDiff, t1]
    · simp only [qza, ↓reduceIte, Nat.reduceEqDiff, t6]
    · simp only [qza, ↓reduceIte, Nat.reduceEqDiff, t7]
    · simp only [qza, ↓reduceIte]
theorem eachColor_wr (l : List Cl) (f : Nat) (g : Cl → List Nat) (hl : l.length < 1000000) {m : Nat} (hw : ∀ c ∈ l, Wr f (fun b => [.ptr b 0, .agg (cCl c)]) (g c) m) : Wr f_encode_each__api_Color (fun b => [.fsl (xzq cCl l) l.length 4, .func f [.ptr b 0] []]) (l.flatMap g) m := by
  intro Gl h b j v X hi ha hb hbj hX
  refine xzp E_encode_each__api_Color ?_
  unfold c_encode_each__api_Color r_encode_each__api_Color
  simp only [xzF]
  simp only [qzl, qzm, qzw, qzk, qzf, qze, qzd, qzp, qzc, qzb, qzh, qzi, qzn, qzo, qzu, qza, qzt, qzv, qzy, qzY, cv, ↓reduceIte, Nat.zero_add]
  refine eachColor_loop l f g hl hw b j v X h hX hb _ ?_ l.length 0 _ _ (by omega) (WrQ.refl hi ha hbj) ?_ ?_ ?_ ?_
  · intro T h' q
    simp only [xzk, Ends_n, qzT, qzM, qzS, ↓reduceIte]
    exact q
  all_goals first | (simp only [qza, ↓reduceIte, Nat.reduceEqDiff, reduceCtorEq, reduceCtorEq]; done) | (simp only [qza, ↓reduceIte]; rfl)

theorem eachCmd_loop {Gl : xzv} (l : List Cmd) (f : Nat) (g : Cmd → List Nat) (hl : l.length < 1000000) {m : Nat} (hw : ∀ c ∈ l, Wr f (fun b => [.ptr b 0, .agg (cCmd c)]) (g c) m) (b j : Nat) (v : VV) (X : List Nat) (h : VH) (hX : X.length + (l.flatMap g).length + m < 1000000000) (hb : b < h.next) (K : AEx → VF → VH → Prop)
    (hK : ∀ T h', WrQ b j v X (l.flatMap g) h h' → K (.exit 0) T h') :
    ∀ (d i : Nat) (T : VF) (h1 : VH), d + i = l.length → WrQ b j v X ((l.take i).flatMap g) h h1 → qzB T 1 = some (.func f [.ptr b 0] []) → qzB T 6 = some (.fsl (xzq cCmd l) l.length 11) → qzB T 7 = some (.int .i64 l.length) → qzB T 8 = some (.int .i64 i) →
    wp Go.VL.Er.E Gl (.loop c_encode_each__api_Cmd_l0) T h1 K := by
  intro d
  induction d with
  | zero =>
    intro i T h1 hd q t1 t6 t7 t8
    obtain rfl : i = l.length := by omega
    rw [List.take_length] at q
    refine xzf c_encode_each__api_Cmd_l0.eq_1 ?_
    have c : ¬ ((l.length : Int) < l.length) := by omega
    simp only [qzx, qzl, qzm, qzw, qzP, qzq, qzg, qzk, qzV, qzO, qzf, qze, qzd, qzp, qzc, qzb, qzh, qzi, qzn, qzo, qzu, qza, qzt, qzv, qzF, qzE, toA, ofA, FR.pop, abin, intBin, ↓reduceIte, Nat.reduceEqDiff, true_and, Bool.false_eq_true, decide_false, forall_const, false_implies, t7, t8, c]
    exact hK _ _ q
  | succ d ih =>
    intro i T h1 hd q t1 t6 t7 t8
    refine xzf c_encode_each__api_Cmd_l0.eq_1 ?_
    have hlt : i < l.length := by omega
    have c : (i : Int) < l.length := by omega
    obtain ⟨e, he⟩ : ∃ e, l[i]? = some e := ⟨l[i], List.getElem?_eq_getElem hlt⟩
    have p1 := flat_le cCmd_len he
    have p2 := flat_at cCmd_len he
    have hx : IntKind.i64.wrap ((i : Int) + 1) = ((i + 1 : Nat) : Int) := by rw [xzm (by omega) (by omega)]; rfl
    obtain ⟨j1, v1, a1, a2, a3, a4, a5, a6⟩ := q
    have nb := fm_take (g := g) he
    have nl : ((l.take i).flatMap g).length + (g e).length ≤ (l.flatMap g).length := by
      rw [← List.length_append, ← nb]; exact fm_le l (i + 1)
    simp only [qzx, qzl, qzm, qzw, qzP, qzq, qzg, qzk, qzV, qzO, qzf, qze, qzd, qzp, qzC, xzd, qzU, qzz, qzc, qzj, qzK, qzb, xze, qzh, qzi, qzX, xzg, wpW_callV, qzn, qzo, qzu, qza, qzt, qzv, qzy, xzb, qzH, qzD, xzo, xzh, xzl, xzt, qzA, cvs, cv, qzF, qzE, toA, ofA, FR.pop, abin, intBin, VN.at, VH.push, VH.set, qzs, VV.cells, ntV, qzZ, xzz, xzn, ↓reduceIte, Option.getD_some, List.length_cons, List.length_nil, List.drop_succ_cons, List.drop_zero, List.take_succ_cons, List.take_zero, List.append_nil, List.nil_append, List.cons_append, List.head?_cons, Nat.reduceAdd, Nat.reduceEqDiff, Nat.reduceLeDiff, Nat.zero_add, and_self, and_true, decide_true, forall_const, false_implies, Bool.true_eq_false, cCmd, t1, t6, t7, t8, c, hlt, p1, p2, wpW_callV]
    have fX : ∀ k, k < h1.next → qzB ((h1.next, some (VB.cells (cCmd e) false)) :: (h1.next, some (VB.cells [.int .i64 0, .int .i64 0, .int .i64 0, .int .i64 0, .int .i64 0, .int .i64 0, .int .i64 0, .int .i64 0, .int .i64 0, .int .i64 0, .nilS] false)) :: h1.l) k = qzB h1.l k := fun k hk => by simp only [qza]; rw [if_neg (by omega), if_neg (by omega)]
    refine call_heap (hw e (List.mem_of_getElem? he) Gl ⟨(h1.next, some (VB.cells (cCmd e) false)) :: (h1.next, some (VB.cells [.int .i64 0, .int .i64 0, .int .i64 0, .int .i64 0, .int .i64 0, .int .i64 0, .int .i64 0, .int .i64 0, .int .i64 0, .int .i64 0, .nilS] false)) :: h1.l, h1.next + 1⟩ b j1 v1 (X ++ (l.take i).flatMap g) (by rw [fX b (by omega)]; exact a1) (Go.VL.Wire.AccE.ext a2 (by show h1.next ≤ h1.next + 1; omega) (fun _ q => fX j1 q)) (by show b < h1.next + 1; omega) a3 (by rw [List.length_append]; omega)) ?_
    intro r h2 q2
    simp only [qzl, qzk, qzR, xzc, qzf, qze, qzd, qzp, qzz, qzc, qzb, qzh, qzi, qzn, qzo, qzu, qza, qzt, qzv, qzy, cv, qzF, qzE, toA, ofA, FR.pop, abin, intBin, ↓reduceIte, Nat.reduceEqDiff, t8, hx]
    refine ih (i + 1) _ _ (by omega) (by rw [nb]; exact wrq_snoc hb a4 a5 a6 (q2.weak (by show h1.next ≤ h1.next + 1; omega) fX)) ?_ ?_ ?_ ?_
    · simp only [qza, ↓reduceIte, Nat.reduceEqDiff, t1]
    · simp only [qza, ↓reduceIte, Nat.reduceEqDiff, t6]
    · simp only [qza, ↓reduceIte, Nat.reduceEqDiff, t7]
    · simp only [qza, ↓reduceIte]
theorem eachCmd_wr (l : List Cmd) (f : Nat) (g : Cmd → List Nat) (hl : l.length < 1000000) {m : Nat} (hw : ∀ c ∈ l, Wr f (fun b => [.ptr b 0, .agg (cCmd c)]) (g c) m) : Wr f_encode_each__api_Cmd (fun b => [.fsl (xzq cCmd l) l.length 11, .func f [.ptr b 0] []]) (l.flatMap g) m := by
  intro Gl h b j v X hi ha hb hbj hX
  refine xzp E_encode_each__api_Cmd ?_
  unfold c_encode_each__api_Cmd r_encode_each__api_Cmd
  simp only [xzF]
  simp only [qzl, qzm, qzw, qzk, qzf, qze, qzd, qzp, qzc, qzb, qzh, qzi, qzn, qzo, qzu, qza, qzt, qzv, qzy, qzY, cv, ↓reduceIte, Nat.zero_add]
  refine eachCmd_loop l f g hl hw b j v X h hX hb _ ?_ l.length 0 _ _ (by omega) (WrQ.refl hi ha hbj) ?_ ?_ ?_ ?_
  · intro T h' q
    simp only [xzk, Ends_n, qzT, qzM, qzS, ↓reduceIte]
    exact q
  all_goals first | (simp only [qza, ↓reduceIte, Nat.reduceEqDiff, reduceCtorEq, reduceCtorEq]; done) | (simp only [qza, ↓reduceIte]; rfl)

end
end Go.VL.En
