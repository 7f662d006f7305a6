import Derived.Test.YtbamfhdgikeneaaDoorGeA
/- Chapter 6: a writer's numbers; each of a list. -/
namespace Go.VL.En
open Go.FR Go.IR Go.VL Go.VL.Color Go.VL.Wind Go.VL.Ic Go.VL.Wire
noncomputable section
set_option linter.unusedSimpArgs false
set_option linter.unusedVariables false
set_option maxRecDepth 100000
set_option maxHeartbeats 1000000

abbrev iC (n : Nat) : VV := .int .i64 (n : Int)
def numsB (ns : List Nat) : List Nat := ns.flatMap putS
theorem numsB_cons (n : Nat) (ns : List Nat) : numsB (n :: ns) = putS n ++ numsB ns := by simp [numsB]
theorem numsB_le : ∀ (ns : List Nat), (∀ n ∈ ns, n < 18446744073709551616) → (numsB ns).length ≤ 10 * ns.length
  | [], _ => by simp [numsB]
  | n :: ns, h => by
    have h1 := putS_10 (h n (.head _))
    have h2 := numsB_le ns fun m hm => h m (.tail _ hm)
    rw [numsB_cons, List.length_append, List.length_cons]; omega
/-- One more append. -/
theorem wrq_snoc {b j j1 : Nat} {v v1 : VV} {X as bs : List Nat} {h h1 h2 : VH} (hb : b < h.next) (f1 : ∀ k, k < h.next → k ≠ b → (k ≠ j ∨ v = .nilS) → qzw h1.l k = qzw h.l k) (n1 : h.next ≤ h1.next) (d1 : j1 = j ∧ v1 = v ∨ h.next ≤ j1) (p2 : WrQ b j1 v1 (X ++ as) bs h1 h2) : WrQ b j v X (as ++ bs) h h2 := WrQ.trans hb f1 n1 d1 p2
theorem num_loop {Gl : xzt} (ns : List Nat) (hn : ∀ n ∈ ns, n < 9223372036854775808) (hl : ns.length < 100000) (b jn : Nat) (hjb : jn ≠ b) (j : Nat) (v : VV) (X : List Nat) (h : VH) (hX : X.length + (numsB ns).length < 1000000000) (hb : b < h.next) (hjn : jn < h.next) (hjv : jn ≠ j ∨ v = .nilS) (hi : qzw h.l jn = some (some (.cells (ns.map iC) false))) (K : AEx → VF → VH → Prop)
    (hK : ∀ T h', WrQ b j v X (numsB ns) h h' → K (.exit 0) T h') :
    ∀ (d i : Nat) (T : VF) (h1 : VH), d + i = ns.length → WrQ b j v X (numsB (ns.take i)) h h1 → qzw T 0 = some (.ptr b 0) → qzw T 6 = some (.slice jn 0 ns.length 1 (.exact ns.length)) → qzw T 7 = some (.int .i64 ns.length) → qzw T 8 = some (.int .i64 i) →
    wp Go.VL.Er.E Gl (.loop c_encode_writer_num_l0) T h1 K := by
  intro d
  induction d with
  | zero =>
    intro i T h1 hd q t0 t6 t7 t8
    obtain rfl : i = ns.length := by omega
    rw [List.take_length] at q
    refine xzn c_encode_writer_num_l0.eq_1 ?_
    have c : ¬ ((ns.length : Int) < ns.length) := by omega
    simp only [qzz, qzk, qzo, qzC, qzV, qzv, qzn, qzi, xzd, qzU, qzf, qze, qzd, qzp, qzc, qzb, qzg, qzh, qzl, qzm, qzt, qza, qzs, qzu, qzI, qzJ, toA, ofA, FR.pop, abin, intBin, ↓reduceIte, Nat.reduceEqDiff, true_and, Bool.false_eq_true, decide_false, forall_const, false_implies, t7, t8, c]
    exact hK _ _ q
  | succ d ih =>
    intro i T h1 hd q t0 t6 t7 t8
    refine xzn c_encode_writer_num_l0.eq_1 ?_
    have hlt : i < ns.length := by omega
    have c : (i : Int) < ns.length := by omega
    obtain ⟨e, he⟩ : ∃ e, ns[i]? = some e := ⟨ns[i], List.getElem?_eq_getElem hlt⟩
    have hne := hn e (List.mem_of_getElem? he)
    have he' : (ns.map iC)[i]? = some (.int .i64 (e : Int)) := by rw [List.getElem?_map, he]; rfl
    have hw : IntKind.i64.wrap ((i : Int) + 1) = ((i + 1 : Nat) : Int) := by rw [qzY (by omega) (by omega)]; rfl
    have hu : IntKind.u64.wrap (e : Int) = (e : Int) := by rw [wrap_u64]; omega
    obtain ⟨j1, v1, a1, a2, a3, a4, a5, a6⟩ := q
    have tk : ns.take (i + 1) = ns.take i ++ [e] := take_at he
    have nb : numsB (ns.take (i + 1)) = numsB (ns.take i) ++ putS e := by rw [tk]; simp [numsB]
    have nl : (numsB (ns.take i)).length + (putS e).length ≤ (numsB ns).length := by
      rw [← List.length_append, ← nb]
      have e2 : numsB ns = numsB (ns.take (i + 1)) ++ numsB (ns.drop (i + 1)) := by
        unfold numsB; rw [← List.flatMap_append, List.take_append_drop]
      rw [e2, List.length_append (as := numsB (ns.take (i + 1)))]; omega
    have hi1 : qzw h1.l jn = some (some (.cells (ns.map iC) false)) := by rw [a4 jn hjn hjb hjv]; exact hi
    have x1 : b < h1.next := by omega
    have x2 : b < h1.next + 1 := by omega
    have y1 : ¬ h1.next = b := by omega
    have zi := xzs .i64 i
    simp only [qzz, qzk, xzM, qzo, qzC, qzV, qzv, qzn, qzi, xzd, qzU, qzf, qze, qzd, qzp, qzF, xzr, xzp, xzD, xzN, qzc, qzj, qzb, qzg, qzh, xzx, xzy, qzD, qzl, qzm, qzt, qza, qzs, qzu, qzx, xzo, qzL, qzB, qzA, cv, qzI, qzJ, toA, ofA, FR.pop, abin, intBin, qzq, countN, xzs, ↓reduceIte, Option.getD_some, Nat.reduceEqDiff, Nat.zero_add, and_true, decide_true, forall_const, false_implies, Bool.true_eq_false, t6, t7, t8, c, hlt, he', hi1, hu, Nat.mul_one]
    refine call_own (putNil Gl e (by omega)) rfl (plainL_flat (fun _ => rfl) _) ?_
    simp only [xzr, xzp, xzD, xzT, xzN, xzQ, qzc, qzj, qzb, xzx, xzy, qzl, qzm, qzt, qza, qzs, qzu, qzx, qzG, nilChkV, qzL, qzB, qzA, VH.push, qzq, xzK, lowB, fzB, fzL, xzS, xzV, xzL, xzU, xzX, xzY, ↓reduceIte, Option.getD_some, Option.isSome_some, Option.map_some, List.getElem?_cons_zero, List.append_nil, List.contains_nil, Nat.reduceEqDiff, reduceCtorEq, Nat.add_zero, and_self, true_and, Bool.and_self, Bool.or_false, Bool.or_true, Bool.not_false, decide_true, reduceCtorEq, t0, x1, y1, a1]
    obtain ⟨w1, w2⟩ := flat_all cB_len (putS e)
    have pl := putS_pos e
    have p10 := putS_10 (n := e) (by omega)
    have fX : ∀ k, k < h1.next → qzw ((h1.next, some (VB.cells (xzk cB (putS e)) false)) :: h1.l) k = qzw h1.l k := fun k hk => by simp only [qza]; rw [if_neg (by omega)]
    have acc2 : AccE 0 ⟨(h1.next, some (VB.cells (xzk cB (putS e)) false)) :: h1.l, h1.next + 1⟩ j1 cB (X ++ numsB (ns.take i)) 1 v1 := Go.VL.Wire.AccE.ext a2 (by show h1.next ≤ h1.next + 1; omega) (fun _ q => fX j1 q)
    refine wpW_accE (ls := putS e) acc2 (by simp only [srcV, winV, qzq, qza, Option.getD_some, Nat.zero_add, w1, w2, List.drop_zero, true_or, if_true]) (by intro e; rw [e] at pl; simp at pl) cB_len (by omega) (Nat.zero_le _) (by rw [List.length_append]; omega) (by rw [List.length_append]; omega) ?_
    intro h3 g1 g2 g3
    simp only at g1 g2
    have bi : qzw h3.l b = some (some (.cells [v1] false)) := by
      rw [g2 b (by omega) a3, fX b x1]; exact a1
    simp only [qzk, qzi, xzc, xzm, qzf, qze, qzd, qzp, xzO, xzr, xzp, xzD, xzN, xzQ, qzc, qzb, xza, qzg, qzh, xzx, xzy, xzb, qzl, qzm, qzt, qza, qzs, qzu, qzx, qzG, nilChkV, qzW, xzg, xzq, cv, qzI, qzJ, toA, ofA, FR.pop, abin, intBin, VH.set, qzq, VV.cells, ntV, qzS, xzz, ↓reduceIte, Option.getD_some, Option.map_some, List.length_cons, List.length_nil, List.drop_succ_cons, List.drop_zero, List.take_zero, List.append_nil, List.nil_append, List.head?_cons, Nat.reduceEqDiff, reduceCtorEq, Nat.reduceLeDiff, Nat.add_zero, Nat.zero_add, and_self, reduceCtorEq, bi, t0, t8, hw]
    have q2 := wrq_app (h := h1) (h0 := ⟨(h1.next, some (VB.cells (xzk cB (putS e)) false)) :: h1.l, h1.next + 1⟩) x1 a3 (by show h1.next ≤ h1.next + 1; omega) fX g1 g2 g3
    refine ih (i + 1) _ _ (by omega) (by rw [nb]; exact wrq_snoc hb a4 a5 a6 q2) ?_ ?_ ?_ ?_
    · simp only [qza, ↓reduceIte, reduceCtorEq, reduceCtorEq, t0]
    · simp only [qza, ↓reduceIte, Nat.reduceEqDiff, t6]
    · simp only [qza, ↓reduceIte, Nat.reduceEqDiff, t7]
    · simp only [qza, ↓reduceIte]
theorem WrQ.refl {b j : Nat} {v : VV} {X : List Nat} {h : VH} (hi : qzw h.l b = some (some (.cells [v] false))) (ha : AccE 0 h j cB X 1 v) (hbj : b ≠ j ∨ v = .nilS) : WrQ b j v X [] h h :=
  ⟨j, v, hi, by rw [List.append_nil]; exact ha, hbj, fun _ _ _ _ => rfl, Nat.le_refl _, .inl ⟨rfl, rfl⟩⟩
theorem num_run {Gl : xzt} (ns : List Nat) (hn : ∀ n ∈ ns, n < 9223372036854775808) (hl : ns.length < 100000) (b jn : Nat) (hjb : jn ≠ b) (j : Nat) (v : VV) (X : List Nat) (h : VH) (hX : X.length + (numsB ns).length < 1000000000) (hb : b < h.next) (hjn : jn < h.next) (hjv : jn ≠ j ∨ v = .nilS) (hi : qzw h.l jn = some (some (.cells (ns.map iC) false)))
    (hw : qzw h.l b = some (some (.cells [v] false))) (ha : AccE 0 h j cB X 1 v) (hbj : b ≠ j ∨ v = .nilS) :
    CallsV Go.VL.Er.E Gl f_encode_writer_num [.ptr b 0, .slice jn 0 ns.length 1 (.exact ns.length)] h (fun _ h' => WrQ b j v X (numsB ns) h h') := by
  refine xzf E_encode_writer_num ?_
  unfold c_encode_writer_num r_encode_writer_num
  simp only [xzB]
  simp only [qzk, qzo, qzC, qzi, qzf, qze, qzd, qzp, qzc, qzb, qzg, qzh, qzl, qzm, qzt, qza, qzs, qzu, qzx, xzi, cv, ↓reduceIte, reduceCtorEq, Nat.zero_add, reduceCtorEq]
  refine num_loop ns hn hl b jn hjb j v X h hX hb hjn hjv hi _ ?_ ns.length 0 _ _ (by omega) (WrQ.refl hw ha hbj) ?_ ?_ ?_ ?_
  · intro T h' q
    simp only [xzu, Ends_n, qzQ, qzM, qzP, ↓reduceIte]
    exact q
  all_goals first | (simp only [qza, ↓reduceIte, Nat.reduceEqDiff, reduceCtorEq, reduceCtorEq]; done) | (simp only [qza, ↓reduceIte]; rfl)
end
end Go.VL.En

/- Chapter 6: a writer's lists. (By wip/gen_end.py.) -/
namespace Go.VL.En
open Go.FR Go.IR Go.VL Go.VL.Color Go.VL.Wind Go.VL.Ic Go.VL.Wire
noncomputable section
set_option linter.unusedSimpArgs false
set_option linter.unusedVariables false
set_option maxRecDepth 100000
set_option maxHeartbeats 1000000
theorem WrQ.weak {b j : Nat} {v : VV} {X bs : List Nat} {h h1 h2 : VH} (hn : h.next ≤ h1.next) (hf : ∀ k, k < h.next → qzw h1.l k = qzw h.l k) (q : WrQ b j v X bs h1 h2) : WrQ b j v X bs h h2 := by
  obtain ⟨j1, v1, a1, a2, a3, a4, a5, a6⟩ := q
  exact ⟨j1, v1, a1, a2, a3, fun k k1 k2 k3 => by rw [a4 k (by omega) k2 k3, hf k k1], by omega, a6.imp id (fun x => by omega)⟩
theorem fm_take {α : Type} {g : α → List Nat} {l : List α} {i : Nat} {e : α} (he : l[i]? = some e) : (l.take (i + 1)).flatMap g = (l.take i).flatMap g ++ g e := by
  rw [take_at he, List.flatMap_append]; simp
theorem fm_le {α : Type} {g : α → List Nat} (l : List α) (i : Nat) : ((l.take i).flatMap g).length ≤ (l.flatMap g).length := by
  have : l.flatMap g = (l.take i).flatMap g ++ (l.drop i).flatMap g := by rw [← List.flatMap_append, List.take_append_drop]
  rw [this, List.length_append]; omega

theorem eachColor_loop {Gl : xzt} (l : List Cl) (f : Nat) (g : Cl → List Nat) (hl : l.length < 1000000) {m : Nat} (hw : ∀ c ∈ l, Wr f (fun b => [.ptr b 0, .agg (cCl c)]) (g c) m) (b j : Nat) (v : VV) (X : List Nat) (h : VH) (hX : X.length + (l.flatMap g).length + m < 1000000000) (hb : b < h.next) (K : AEx → VF → VH → Prop)
    (hK : ∀ T h', WrQ b j v X (l.flatMap g) h h' → K (.exit 0) T h') :
    ∀ (d i : Nat) (T : VF) (h1 : VH), d + i = l.length → WrQ b j v X ((l.take i).flatMap g) h h1 → qzw T 1 = some (.func f [.ptr b 0] []) → qzw T 6 = some (.fsl (xzk cCl l) l.length 4) → qzw T 7 = some (.int .i64 l.length) → qzw T 8 = some (.int .i64 i) →
    wp Go.VL.Er.E Gl (.loop c_encode_each__api_Color_l0) T h1 K := by
  intro d
  induction d with
  | zero =>
    intro i T h1 hd q t1 t6 t7 t8
    obtain rfl : i = l.length := by omega
    rw [List.take_length] at q
    refine xzn c_encode_each__api_Color_l0.eq_1 ?_
    have c : ¬ ((l.length : Int) < l.length) := by omega
    simp only [qzz, qzk, qzo, qzC, qzV, qzv, qzn, qzi, xzd, qzU, qzf, qze, qzd, qzp, qzc, qzb, qzg, qzh, qzl, qzm, qzt, qza, qzs, qzu, qzI, qzJ, toA, ofA, FR.pop, abin, intBin, ↓reduceIte, Nat.reduceEqDiff, true_and, Bool.false_eq_true, decide_false, forall_const, false_implies, t7, t8, c]
    exact hK _ _ q
  | succ d ih =>
    intro i T h1 hd q t1 t6 t7 t8
    refine xzn c_encode_each__api_Color_l0.eq_1 ?_
    have hlt : i < l.length := by omega
    have c : (i : Int) < l.length := by omega
    obtain ⟨e, he⟩ : ∃ e, l[i]? = some e := ⟨l[i], List.getElem?_eq_getElem hlt⟩
    have p1 := flat_le Ic.cCl_len he
    have p2 := flat_at Ic.cCl_len he
    have hx : IntKind.i64.wrap ((i : Int) + 1) = ((i + 1 : Nat) : Int) := by rw [qzY (by omega) (by omega)]; rfl
    obtain ⟨j1, v1, a1, a2, a3, a4, a5, a6⟩ := q
    have nb := fm_take (g := g) he
    have nl : ((l.take i).flatMap g).length + (g e).length ≤ (l.flatMap g).length := by
      rw [← List.length_append, ← nb]; exact fm_le l (i + 1)
    simp only [qzz, qzk, qzo, qzC, qzV, qzv, qzn, qzi, xzd, qzU, qzf, qze, qzd, qzp, qzF, qzX, qzN, qzy, qzc, qzj, qzE, qzb, xza, qzg, qzh, qzO, xzb, wpW_callV, qzl, qzm, qzt, qza, qzs, qzu, qzx, xzo, qzL, qzB, xzh, qzW, xzg, xzq, qzA, cvs, cv, qzI, qzJ, toA, ofA, FR.pop, abin, intBin, VN.at, VH.push, VH.set, qzq, VV.cells, ntV, qzS, xzz, xzs, ↓reduceIte, Option.getD_some, List.length_cons, List.length_nil, List.drop_succ_cons, List.drop_zero, List.take_succ_cons, List.take_zero, List.append_nil, List.nil_append, List.cons_append, List.head?_cons, Nat.reduceAdd, Nat.reduceEqDiff, Nat.reduceLeDiff, Nat.zero_add, and_self, and_true, decide_true, forall_const, false_implies, Bool.true_eq_false, cCl, t1, t6, t7, t8, c, hlt, p1, p2, wpW_callV]
    have fX : ∀ k, k < h1.next → qzw ((h1.next, some (VB.cells (cCl e) false)) :: (h1.next, some (VB.cells [.int .u8 0, .int .u8 0, .int .u8 0, .int .u8 0] false)) :: h1.l) k = qzw h1.l k := fun k hk => by simp only [qza]; rw [if_neg (by omega), if_neg (by omega)]
    refine xzC (hw e (List.mem_of_getElem? he) Gl ⟨(h1.next, some (VB.cells (cCl e) false)) :: (h1.next, some (VB.cells [.int .u8 0, .int .u8 0, .int .u8 0, .int .u8 0] false)) :: h1.l, h1.next + 1⟩ b j1 v1 (X ++ (l.take i).flatMap g) (by rw [fX b (by omega)]; exact a1) (Go.VL.Wire.AccE.ext a2 (by show h1.next ≤ h1.next + 1; omega) (fun _ q => fX j1 q)) (by show b < h1.next + 1; omega) a3 (by rw [List.length_append]; omega)) ?_
    intro r h2 q2
    simp only [qzk, qzi, xzc, xzm, qzf, qze, qzd, qzp, qzy, qzc, qzb, qzg, qzh, qzl, qzm, qzt, qza, qzs, qzu, qzx, cv, qzI, qzJ, toA, ofA, FR.pop, abin, intBin, ↓reduceIte, Nat.reduceEqDiff, t8, hx]
    refine ih (i + 1) _ _ (by omega) (by rw [nb]; exact wrq_snoc hb a4 a5 a6 (q2.weak (by show h1.next ≤ h1.next + 1; omega) fX)) ?_ ?_ ?_ ?_
    · simp only [qza, ↓reduceIte, Nat.reduceEqDiff, t1]
    · simp only [qza, ↓reduceIte, Nat.reduceEqDiff, t6]
    · simp only [qza, ↓reduceIte, Nat.reduceEqDiff, t7]
    · simp only [qza, ↓reduceIte]
theorem eachColor_wr (l : List Cl) (f : Nat) (g : Cl → List Nat) (hl : l.length < 1000000) {m : Nat} (hw : ∀ c ∈ l, Wr f (fun b => [.ptr b 0, .agg (cCl c)]) (g c) m) : Wr f_encode_each__api_Color (fun b => [.fsl (xzk cCl l) l.length 4, .func f [.ptr b 0] []]) (l.flatMap g) m := by
  intro Gl h b j v X hi ha hb hbj hX
  refine xzf E_encode_each__api_Color ?_
  unfold c_encode_each__api_Color r_encode_each__api_Color
  simp only [xzB]
  simp only [qzk, qzo, qzC, qzi, qzf, qze, qzd, qzp, qzc, qzb, qzg, qzh, qzl, qzm, qzt, qza, qzs, qzu, qzx, xzi, cv, ↓reduceIte, Nat.zero_add]
  refine eachColor_loop l f g hl hw b j v X h hX hb _ ?_ l.length 0 _ _ (by omega) (WrQ.refl hi ha hbj) ?_ ?_ ?_ ?_
  · intro T h' q
    simp only [xzu, Ends_n, qzQ, qzM, qzP, ↓reduceIte]
    exact q
  all_goals first | (simp only [qza, ↓reduceIte, Nat.reduceEqDiff, reduceCtorEq, reduceCtorEq]; done) | (simp only [qza, ↓reduceIte]; rfl)

theorem eachPath_loop {Gl : xzt} (l : List Path) (f : Nat) (g : Path → List Nat) (hl : l.length < 1000000) {m : Nat} (hw : ∀ c ∈ l, Wr f (fun b => [.ptr b 0, .agg (cPath c)]) (g c) m) (b j : Nat) (v : VV) (X : List Nat) (h : VH) (hX : X.length + (l.flatMap g).length + m < 1000000000) (hb : b < h.next) (K : AEx → VF → VH → Prop)
    (hK : ∀ T h', WrQ b j v X (l.flatMap g) h h' → K (.exit 0) T h') :
    ∀ (d i : Nat) (T : VF) (h1 : VH), d + i = l.length → WrQ b j v X ((l.take i).flatMap g) h h1 → qzw T 1 = some (.func f [.ptr b 0] []) → qzw T 6 = some (.fsl (xzk cPath l) l.length 4) → qzw T 7 = some (.int .i64 l.length) → qzw T 8 = some (.int .i64 i) →
    wp Go.VL.Er.E Gl (.loop c_encode_each__api_Path_l0) T h1 K := by
  intro d
  induction d with
  | zero =>
    intro i T h1 hd q t1 t6 t7 t8
    obtain rfl : i = l.length := by omega
    rw [List.take_length] at q
    refine xzn c_encode_each__api_Path_l0.eq_1 ?_
    have c : ¬ ((l.length : Int) < l.length) := by omega
    simp only [qzz, qzk, qzo, qzC, qzV, qzv, qzn, qzi, xzd, qzU, qzf, qze, qzd, qzp, qzc, qzb, qzg, qzh, qzl, qzm, qzt, qza, qzs, qzu, qzI, qzJ, toA, ofA, FR.pop, abin, intBin, ↓reduceIte, Nat.reduceEqDiff, true_and, Bool.false_eq_true, decide_false, forall_const, false_implies, t7, t8, c]
    exact hK _ _ q
  | succ d ih =>
    intro i T h1 hd q t1 t6 t7 t8
    refine xzn c_encode_each__api_Path_l0.eq_1 ?_
    have hlt : i < l.length := by omega
    have c : (i : Int) < l.length := by omega
    obtain ⟨e, he⟩ : ∃ e, l[i]? = some e := ⟨l[i], List.getElem?_eq_getElem hlt⟩
    have p1 := flat_le cPath_len he
    have p2 := flat_at cPath_len he
    have hx : IntKind.i64.wrap ((i : Int) + 1) = ((i + 1 : Nat) : Int) := by rw [qzY (by omega) (by omega)]; rfl
    obtain ⟨j1, v1, a1, a2, a3, a4, a5, a6⟩ := q
    have nb := fm_take (g := g) he
    have nl : ((l.take i).flatMap g).length + (g e).length ≤ (l.flatMap g).length := by
      rw [← List.length_append, ← nb]; exact fm_le l (i + 1)
    simp only [qzz, qzk, qzo, qzC, qzV, qzv, qzn, qzi, xzd, qzU, qzf, qze, qzd, qzp, qzF, qzX, qzN, qzy, qzc, qzj, qzE, qzb, xza, qzg, qzh, qzO, xzb, wpW_callV, qzl, qzm, qzt, qza, qzs, qzu, qzx, xzo, qzL, qzB, xzh, qzW, xzg, xzq, qzA, cvs, cv, qzI, qzJ, toA, ofA, FR.pop, abin, intBin, VN.at, VH.push, VH.set, qzq, VV.cells, ntV, qzS, xzz, xzs, ↓reduceIte, Option.getD_some, List.length_cons, List.length_nil, List.drop_succ_cons, List.drop_zero, List.take_succ_cons, List.take_zero, List.append_nil, List.nil_append, List.cons_append, List.head?_cons, Nat.reduceAdd, Nat.reduceEqDiff, Nat.reduceLeDiff, Nat.zero_add, and_self, and_true, decide_true, forall_const, false_implies, Bool.true_eq_false, cPath, t1, t6, t7, t8, c, hlt, p1, p2, wpW_callV]
    have fX : ∀ k, k < h1.next → qzw ((h1.next, some (VB.cells (cPath e) false)) :: (h1.next, some (VB.cells [.int .i64 0, .int .i64 0, .nilS, .bool false] false)) :: h1.l) k = qzw h1.l k := fun k hk => by simp only [qza]; rw [if_neg (by omega), if_neg (by omega)]
    refine xzC (hw e (List.mem_of_getElem? he) Gl ⟨(h1.next, some (VB.cells (cPath e) false)) :: (h1.next, some (VB.cells [.int .i64 0, .int .i64 0, .nilS, .bool false] false)) :: h1.l, h1.next + 1⟩ b j1 v1 (X ++ (l.take i).flatMap g) (by rw [fX b (by omega)]; exact a1) (Go.VL.Wire.AccE.ext a2 (by show h1.next ≤ h1.next + 1; omega) (fun _ q => fX j1 q)) (by show b < h1.next + 1; omega) a3 (by rw [List.length_append]; omega)) ?_
    intro r h2 q2
    simp only [qzk, qzi, xzc, xzm, qzf, qze, qzd, qzp, qzy, qzc, qzb, qzg, qzh, qzl, qzm, qzt, qza, qzs, qzu, qzx, cv, qzI, qzJ, toA, ofA, FR.pop, abin, intBin, ↓reduceIte, Nat.reduceEqDiff, t8, hx]
    refine ih (i + 1) _ _ (by omega) (by rw [nb]; exact wrq_snoc hb a4 a5 a6 (q2.weak (by show h1.next ≤ h1.next + 1; omega) fX)) ?_ ?_ ?_ ?_
    · simp only [qza, ↓reduceIte, Nat.reduceEqDiff, t1]
    · simp only [qza, ↓reduceIte, Nat.reduceEqDiff, t6]
    · simp only [qza, ↓reduceIte, Nat.reduceEqDiff, t7]
    · simp only [qza, ↓reduceIte]
theorem eachPath_wr (l : List Path) (f : Nat) (g : Path → List Nat) (hl : l.length < 1000000) {m : Nat} (hw : ∀ c ∈ l, Wr f (fun b => [.ptr b 0, .agg (cPath c)]) (g c) m) : Wr f_encode_each__api_Path (fun b => [.fsl (xzk cPath l) l.length 4, .func f [.ptr b 0] []]) (l.flatMap g) m := by
  intro Gl h b j v X hi ha hb hbj hX
  refine xzf E_encode_each__api_Path ?_
  unfold c_encode_each__api_Path r_encode_each__api_Path
  simp only [xzB]
  simp only [qzk, qzo, qzC, qzi, qzf, qze, qzd, qzp, qzc, qzb, qzg, qzh, qzl, qzm, qzt, qza, qzs, qzu, qzx, xzi, cv, ↓reduceIte, Nat.zero_add]
  refine eachPath_loop l f g hl hw b j v X h hX hb _ ?_ l.length 0 _ _ (by omega) (WrQ.refl hi ha hbj) ?_ ?_ ?_ ?_
  · intro T h' q
    simp only [xzu, Ends_n, qzQ, qzM, qzP, ↓reduceIte]
    exact q
  all_goals first | (simp only [qza, ↓reduceIte, Nat.reduceEqDiff, reduceCtorEq, reduceCtorEq]; done) | (simp only [qza, ↓reduceIte]; rfl)

theorem eachCmd_loop {Gl : xzt} (l : List Cmd) (f : Nat) (g : Cmd → List Nat) (hl : l.length < 1000000) {m : Nat} (hw : ∀ c ∈ l, Wr f (fun b => [.ptr b 0, .agg (cCmd c)]) (g c) m) (b j : Nat) (v : VV) (X : List Nat) (h : VH) (hX : X.length + (l.flatMap g).length + m < 1000000000) (hb : b < h.next) (K : AEx → VF → VH → Prop)
    (hK : ∀ T h', WrQ b j v X (l.flatMap g) h h' → K (.exit 0) T h') :
    ∀ (d i : Nat) (T : VF) (h1 : VH), d + i = l.length → WrQ b j v X ((l.take i).flatMap g) h h1 → qzw T 1 = some (.func f [.ptr b 0] []) → qzw T 6 = some (.fsl (xzk cCmd l) l.length 11) → qzw T 7 = some (.int .i64 l.length) → qzw T 8 = some (.int .i64 i) →
    wp Go.VL.Er.E Gl (.loop c_encode_each__api_Cmd_l0) T h1 K := by
  intro d
  induction d with
  | zero =>
    intro i T h1 hd q t1 t6 t7 t8
    obtain rfl : i = l.length := by omega
    rw [List.take_length] at q
    refine xzn c_encode_each__api_Cmd_l0.eq_1 ?_
    have c : ¬ ((l.length : Int) < l.length) := by omega
    simp only [qzz, qzk, qzo, qzC, qzV, qzv, qzn, qzi, xzd, qzU, qzf, qze, qzd, qzp, qzc, qzb, qzg, qzh, qzl, qzm, qzt, qza, qzs, qzu, qzI, qzJ, toA, ofA, FR.pop, abin, intBin, ↓reduceIte, Nat.reduceEqDiff, true_and, Bool.false_eq_true, decide_false, forall_const, false_implies, t7, t8, c]
    exact hK _ _ q
  | succ d ih =>
    intro i T h1 hd q t1 t6 t7 t8
    refine xzn c_encode_each__api_Cmd_l0.eq_1 ?_
    have hlt : i < l.length := by omega
    have c : (i : Int) < l.length := by omega
    obtain ⟨e, he⟩ : ∃ e, l[i]? = some e := ⟨l[i], List.getElem?_eq_getElem hlt⟩
    have p1 := flat_le cCmd_len he
    have p2 := flat_at cCmd_len he
    have hx : IntKind.i64.wrap ((i : Int) + 1) = ((i + 1 : Nat) : Int) := by rw [qzY (by omega) (by omega)]; rfl
    obtain ⟨j1, v1, a1, a2, a3, a4, a5, a6⟩ := q
    have nb := fm_take (g := g) he
    have nl : ((l.take i).flatMap g).length + (g e).length ≤ (l.flatMap g).length := by
      rw [← List.length_append, ← nb]; exact fm_le l (i + 1)
    simp only [qzz, qzk, qzo, qzC, qzV, qzv, qzn, qzi, xzd, qzU, qzf, qze, qzd, qzp, qzF, qzX, qzN, qzy, qzc, qzj, qzE, qzb, xza, qzg, qzh, qzO, xzb, wpW_callV, qzl, qzm, qzt, qza, qzs, qzu, qzx, xzo, qzL, qzB, xzh, qzW, xzg, xzq, qzA, cvs, cv, qzI, qzJ, toA, ofA, FR.pop, abin, intBin, VN.at, VH.push, VH.set, qzq, VV.cells, ntV, qzS, xzz, xzs, ↓reduceIte, Option.getD_some, List.length_cons, List.length_nil, List.drop_succ_cons, List.drop_zero, List.take_succ_cons, List.take_zero, List.append_nil, List.nil_append, List.cons_append, List.head?_cons, Nat.reduceAdd, Nat.reduceEqDiff, Nat.reduceLeDiff, Nat.zero_add, and_self, and_true, decide_true, forall_const, false_implies, Bool.true_eq_false, cCmd, t1, t6, t7, t8, c, hlt, p1, p2, wpW_callV]
    have fX : ∀ k, k < h1.next → qzw ((h1.next, some (VB.cells (cCmd e) false)) :: (h1.next, some (VB.cells [.int .i64 0, .int .i64 0, .int .i64 0, .int .i64 0, .int .i64 0, .int .i64 0, .int .i64 0, .int .i64 0, .int .i64 0, .int .i64 0, .nilS] false)) :: h1.l) k = qzw h1.l k := fun k hk => by simp only [qza]; rw [if_neg (by omega), if_neg (by omega)]
    refine xzC (hw e (List.mem_of_getElem? he) Gl ⟨(h1.next, some (VB.cells (cCmd e) false)) :: (h1.next, some (VB.cells [.int .i64 0, .int .i64 0, .int .i64 0, .int .i64 0, .int .i64 0, .int .i64 0, .int .i64 0, .int .i64 0, .int .i64 0, .int .i64 0, .nilS] false)) :: h1.l, h1.next + 1⟩ b j1 v1 (X ++ (l.take i).flatMap g) (by rw [fX b (by omega)]; exact a1) (Go.VL.Wire.AccE.ext a2 (by show h1.next ≤ h1.next + 1; omega) (fun _ q => fX j1 q)) (by show b < h1.next + 1; omega) a3 (by rw [List.length_append]; omega)) ?_
    intro r h2 q2
    simp only [qzk, qzi, xzc, xzm, qzf, qze, qzd, qzp, qzy, qzc, qzb, qzg, qzh, qzl, qzm, qzt, qza, qzs, qzu, qzx, cv, qzI, qzJ, toA, ofA, FR.pop, abin, intBin, ↓reduceIte, Nat.reduceEqDiff, t8, hx]
    refine ih (i + 1) _ _ (by omega) (by rw [nb]; exact wrq_snoc hb a4 a5 a6 (q2.weak (by show h1.next ≤ h1.next + 1; omega) fX)) ?_ ?_ ?_ ?_
    · simp only [qza, ↓reduceIte, Nat.reduceEqDiff, t1]
    · simp only [qza, ↓reduceIte, Nat.reduceEqDiff, t6]
    · simp only [qza, ↓reduceIte, Nat.reduceEqDiff, t7]
    · simp only [qza, ↓reduceIte]
theorem eachCmd_wr (l : List Cmd) (f : Nat) (g : Cmd → List Nat) (hl : l.length < 1000000) {m : Nat} (hw : ∀ c ∈ l, Wr f (fun b => [.ptr b 0, .agg (cCmd c)]) (g c) m) : Wr f_encode_each__api_Cmd (fun b => [.fsl (xzk cCmd l) l.length 11, .func f [.ptr b 0] []]) (l.flatMap g) m := by
  intro Gl h b j v X hi ha hb hbj hX
  refine xzf E_encode_each__api_Cmd ?_
  unfold c_encode_each__api_Cmd r_encode_each__api_Cmd
  simp only [xzB]
  simp only [qzk, qzo, qzC, qzi, qzf, qze, qzd, qzp, qzc, qzb, qzg, qzh, qzl, qzm, qzt, qza, qzs, qzu, qzx, xzi, cv, ↓reduceIte, Nat.zero_add]
  refine eachCmd_loop l f g hl hw b j v X h hX hb _ ?_ l.length 0 _ _ (by omega) (WrQ.refl hi ha hbj) ?_ ?_ ?_ ?_
  · intro T h' q
    simp only [xzu, Ends_n, qzQ, qzM, qzP, ↓reduceIte]
    exact q
  all_goals first | (simp only [qza, ↓reduceIte, Nat.reduceEqDiff, reduceCtorEq, reduceCtorEq]; done) | (simp only [qza, ↓reduceIte]; rfl)

end
end Go.VL.En
