import Derived.Test.YtbamfhdgikeneaaDoorWiA
import Derived.Test.YtbamfhdgikeneaaDoorWrA
/- Chapter 6: a writer's parts. -/
namespace Go.VL.En
open Go.FR Go.IR Go.VL Go.VL.Color Go.VL.Wind Go.VL.Ic Go.VL.Wire
noncomputable section
set_option linter.unusedSimpArgs false
set_option linter.unusedVariables false
set_option maxRecDepth 100000
set_option maxHeartbeats 1000000

/-- What a writer's part leaves: so many bytes more. -/
def WrQ (b j : Nat) (v : VV) (X bs : List Nat) (h : VH) (h' : VH) : Prop := ∃ j' v', qzv h'.l b = some (some (.cells [v'] false)) ∧ AccE 0 h' j' cB (X ++ bs) 1 v' ∧ (b ≠ j' ∨ v' = .nilS) ∧ (∀ k, k < h.next → k ≠ b → (k ≠ j ∨ v = .nilS) → qzv h'.l k = qzv h.l k) ∧ h.next ≤ h'.next ∧ (j' = j ∧ v' = v ∨ h.next ≤ j')
/-- A writer's part, in the caller's heap. -/
def Wr (f : Nat) (args : Nat → List VV) (bs : List Nat) (m : Nat := 0) : Prop := ∀ (Gl : xzv) (h : VH) (b j : Nat) (v : VV) (X : List Nat), qzv h.l b = some (some (.cells [v] false)) → AccE 0 h j cB X 1 v → b < h.next → (b ≠ j ∨ v = .nilS) → X.length + bs.length + m < 1000000000 →
  CallsV Go.VL.Er.E Gl f (args b) h (fun _ h' => WrQ b j v X bs h h')
theorem WrQ.trans {b j j1 : Nat} {v v1 : VV} {X bs cs : List Nat} {h h1 h2 : VH} (hb : b < h.next) (f1 : ∀ k, k < h.next → k ≠ b → (k ≠ j ∨ v = .nilS) → qzv h1.l k = qzv h.l k) (n1 : h.next ≤ h1.next) (d1 : j1 = j ∧ v1 = v ∨ h.next ≤ j1) (p2 : WrQ b j1 v1 (X ++ bs) cs h1 h2) : WrQ b j v X (bs ++ cs) h h2 := by
  obtain ⟨j2, v2, a1, a2, a3, a4, a5, a6⟩ := p2
  refine ⟨j2, v2, a1, by rw [← List.append_assoc]; exact a2, a3, fun k k1 k2 k3 => ?_, by omega, ?_⟩
  · rw [a4 k (by omega) k2 ?_, f1 k k1 k2 k3]
    rcases d1 with ⟨rfl, rfl⟩ | d1
    · exact k3
    · exact .inl (by omega)
  · rcases a6 with ⟨rfl, rfl⟩ | a6
    · exact d1
    · exact .inr (by omega)
theorem AccE.ne {α : Type} {base : Nat} {h : VH} {j : Nat} {f : α → List VV} {l : List α} {esz : Nat} {v : VV} (a : AccE base h j f l esz v) {k : Nat} (hk : k < base ∨ h.next ≤ k) : k ≠ j ∨ v = .nilS := by
  rcases a with a | ⟨e, _, _, _, a4, a5⟩
  · exact a.ne hk
  · exact .inl (by omega)
/-- The same as an append leaves it. -/
theorem wrq_app {b j : Nat} {v x : VV} {X bs : List Nat} {h h0 h3 : VH} (hb : b < h.next) (hbj : b ≠ j ∨ v = .nilS) (hn : h.next ≤ h0.next) (hf : ∀ k, k < h.next → qzv h0.l k = qzv h.l k) (g1 : h3.next = h0.next + 1) (g2 : ∀ k, k ≠ h0.next → k ≠ j ∨ v = .nilS → qzv h3.l k = qzv h0.l k) (g3 : xzS 0 h3 h0.next cB (X ++ bs) 1 x) :
    WrQ b j v X bs h ⟨(b, some (.cells [x] false)) :: h3.l, h3.next⟩ := by
  refine ⟨h0.next, x, by simp only [qza, if_true], .inl (g3.ext (Nat.le_refl _) (fun _ q => by simp only [qza]; rw [if_neg (by omega)])), .inl (by omega), fun k k1 k2 k3 => ?_, by show h.next ≤ h3.next; omega, .inr hn⟩
  simp only [qza]
  rw [if_neg (Ne.symm k2), g2 k (by omega) k3, hf k k1]

def colorB (c : Cl) : List Nat := [c.r, c.g, c.b, c.a]
theorem color_wr (c : Cl) (hc : c.In) : Wr f_encode_writer_color (fun b => [.ptr b 0, .agg (cCl c)]) (colorB c) := by
  intro Gl h b j v X hi ha hb hbj hX
  refine xze E_encode_writer_color ?_
  unfold c_encode_writer_color r_encode_writer_color
  simp only [xzC]
  have e1 : ¬ h.next = b := by omega
  simp only [qzj, xzD, qzn, qzi, qzf, qzd, qze, qzZ, xzj, xzc, xzw, xzN, wpXA_n, xzQ, qzc, qzk, qzE, qzb, qzg, qzR, xzs, xzt, kXN_app, qzm, qzl, qzs, qza, qzr, qzu, qzx, qzI, nilChkV, qzL, qzC, xzk, xzJ, xzA, qzS, qzB, cvs, cv, VN.at, VH.push, qzq, VV.cells, ntV, countN, xzG, xzP, xzT, xzH, xzO, yza, xzZ, ↓reduceIte, Option.getD_some, Option.isSome_some, List.getElem?_cons_zero, List.getElem?_cons_succ, List.length_cons, List.length_nil, List.drop_succ_cons, List.drop_zero, List.take_succ_cons, List.take_zero, List.append_nil, List.nil_append, List.cons_append, List.contains_nil, Nat.reduceAdd, Nat.reduceDiv, Nat.reduceLT, Nat.reduceEqDiff, reduceCtorEq, Nat.reduceLeDiff, Nat.add_zero, Nat.zero_add, and_self, true_and, Bool.and_self, Bool.not_false, reduceCtorEq, cCl, e1, hi]
  have acc2 : AccE 0 ⟨(h.next + 1, some (VB.cells (xzm cB (colorB c)) false)) :: (h.next, some (.cells (cCl c) false)) :: h.l, h.next + 1 + 1⟩ j cB X 1 v := Go.VL.Wire.AccE.ext ha (by show h.next ≤ h.next + 1 + 1; omega) (fun _ q => by simp only [qza]; rw [if_neg (by omega), if_neg (by omega)])
  refine wpW_accE (ls := colorB c) acc2 (by simp only [colorB]; simp only [qza, srcV, winV, qzq, ↓reduceIte, Option.getD_some, List.length_cons, List.length_nil, List.drop_zero, List.take_succ_cons, List.take_zero, Nat.reduceAdd, Nat.reduceMul, reduceCtorEq, Nat.reduceLeDiff, Nat.zero_add, true_or, reduceCtorEq, true_or] <;> first | rfl | exact ⟨rfl, rfl⟩ | exact qzt rfl) (by simp [colorB]) cB_len (by omega) (Nat.zero_le _) (by simp [colorB] at hX ⊢; omega) (by simp [colorB] at hX ⊢; omega) ?_
  intro h3 g1 g2 g3
  simp only at g1 g2 g3
  have bi : qzv h3.l b = some (some (.cells [v] false)) := by
    rw [g2 b (by omega) hbj]; simp only [qza]; rw [if_neg (by omega), if_neg (by omega)]; exact hi
  simp only [xzE, xzj, xzc, xzw, xzQ, xzM, Ends_n, qzc, qzb, qzU, xzs, xzt, qzW, qzm, qzl, qzs, qza, qzr, qzu, qzx, qzI, nilChkV, qzS, xza, xzn, VH.set, qzq, VV.cells, ntV, qzQ, qzM, qzP, qzO, xzy, ↓reduceIte, Option.getD_some, Option.map_some, List.length_cons, List.length_nil, List.drop_succ_cons, List.drop_zero, List.take_zero, List.append_nil, List.nil_append, List.head?_cons, Nat.reduceEqDiff, reduceCtorEq, Nat.reduceLeDiff, Nat.add_zero, Nat.zero_add, and_self, reduceCtorEq, bi]
  exact wrq_app (h0 := ⟨_, h.next + 1 + 1⟩) hb hbj (by show h.next ≤ h.next + 1 + 1; omega) (fun k hk => by simp only [qza]; rw [if_neg (by omega), if_neg (by omega)]) g1 g2 g3
def pointB (p : Pt) : List Nat := putS (zigS p.x) ++ putS (zigS p.y)
theorem point_wr (p : Pt) (h1 : -9223372036854775808 ≤ p.x) (h2 : p.x ≤ 9223372036854775807) (h3 : -9223372036854775808 ≤ p.y) (h4 : p.y ≤ 9223372036854775807) : Wr f_encode_writer_point (fun b => [.ptr b 0, .agg (cPt p)]) (pointB p) := by
  intro Gl h b j v X hi ha hb hbj hX
  refine xze E_encode_writer_point ?_
  unfold c_encode_writer_point r_encode_writer_point
  simp only [xzC]
  have e1 : ¬ h.next = b := by omega
  have z1 := zig_lt h1 h2
  have z2 := zig_lt h3 h4
  have x1 : b < h.next + 1 := by omega
  have x2 : b < h.next + 1 + 1 := by omega
  have x3 : b < h.next + 1 + 1 + 1 := by omega
  have y1 : h.next < h.next + 1 := by omega
  have y2 : ¬ h.next + 1 = h.next := by omega
  have y3 : ¬ h.next + 1 = b := by omega
  have y4 : ¬ h.next + 1 + 1 = b := by omega
  have y5 : ¬ h.next + 1 + 1 = h.next := by omega
  have k1 := putS_10 z1
  have k2 := putS_10 z2
  simp only [qzj, xzD, qzn, qzi, qzf, qzd, qze, qzZ, xzj, xzc, xzw, xzN, xzQ, qzc, qzk, qzE, qzb, qzg, qzR, xzs, xzt, qzy, qzm, qzl, qzs, qza, qzr, qzu, qzI, qzL, qzC, xzk, xzJ, qzB, VN.at, VH.push, qzq, VV.cells, ntV, countN, xzG, xzP, xzT, xzH, xzO, yza, xzZ, ↓reduceIte, Option.getD_some, Option.isSome_some, List.getElem?_cons_zero, List.append_nil, List.contains_nil, reduceCtorEq, Nat.add_zero, Nat.zero_add, and_self, true_and, Bool.and_self, Bool.not_false, reduceCtorEq, cPt]
  refine xzb (zig_ok Gl p.x h1 h2) rfl rfl ?_
  simp only [xzj, xzc, xzQ, xzM, qzb, xzs, qzy, qzm, qzl, qzs, qza, qzr, cv, ↓reduceIte, Option.map_some, List.append_nil]
  refine call_own (putNil Gl (zigS p.x) z1) rfl (plainL_flat (fun _ => rfl) _) ?_
  simp only [xzj, xzc, xzw, xzN, xzQ, xzM, qzc, qzk, qzb, xzs, xzt, qzy, qzm, qzl, qzs, qza, qzr, qzu, qzI, qzL, qzC, qzB, VH.push, qzq, xzG, lowB, fzB, fzL, xzP, xzT, xzH, xzO, yza, xzZ, ↓reduceIte, Option.getD_some, Option.isSome_some, Option.map_some, List.getElem?_cons_zero, List.getElem?_cons_succ, List.append_nil, List.contains_nil, Nat.reduceEqDiff, Nat.zero_add, and_self, true_and, Bool.and_self, Bool.or_false, Bool.or_true, Bool.not_false, decide_true, y1, y2]
  refine xzb (zig_ok Gl p.y h3 h4) rfl rfl ?_
  simp only [xzj, xzc, xzQ, xzM, qzb, xzs, qzy, qzm, qzl, qzs, qza, qzr, ↓reduceIte, Option.map_some, List.append_nil, Nat.reduceEqDiff]
  have hsh := own1_shut (h := VH.mk ((h.next + 1, some (.cells (xzm cB (putS (zigS p.x))) false)) :: (h.next, some (.cells (cPt p) false)) :: h.l) (h.next + 1 + 1)) (X := putS (zigS p.x)) (j := h.next + 1) (n := (putS (zigS p.x)).length) (by simp only [qza, if_true]) rfl
  refine call_own_sub (a0 := [.fsl (xzm cB (putS (zigS p.x))) (putS (zigS p.x)).length 1, .int .u64 (zigS p.y : Int)]) (putC Gl (putS (zigS p.x)) (by omega) 1 (.inl rfl) (zigS p.y) z2) (by simp only [shutL]; rw [hsh]; rfl) (subL_refl _) (plainL_flat (fun _ => rfl) _) ?_
  simp only [xzj, xzc, xzw, xzN, xzQ, xzM, qzc, qzk, qzb, xzs, xzt, qzm, qzl, qzs, qza, qzr, qzu, qzx, qzI, nilChkV, qzL, qzC, qzB, VH.push, qzq, xzG, lowB, fzB, fzL, xzP, xzT, xzH, xzO, yza, xzZ, ↓reduceIte, Option.getD_some, Option.isSome_some, Option.map_some, List.getElem?_cons_zero, List.append_nil, List.contains_nil, Nat.reduceEqDiff, reduceCtorEq, Nat.add_zero, and_self, true_and, Bool.and_self, Bool.or_false, Bool.or_true, Bool.not_false, decide_true, reduceCtorEq, e1, hi, x1, x2, y3, y4]
  have len : (putS (zigS p.x) ++ putS (zigS p.y)).length = (pointB p).length := rfl
  obtain ⟨hX', eX⟩ : ∃ hX' : VH, VH.mk ((h.next + 1 + 1, some (VB.cells (xzm cB (putS (zigS p.x) ++ putS (zigS p.y))) false)) :: (h.next + 1, some (VB.cells (xzm cB (putS (zigS p.x))) false)) :: (h.next, some (VB.cells (cPt p) false)) :: h.l) (h.next + 1 + 1 + 1) = hX' := ⟨_, rfl⟩
  have fX : ∀ k, k < h.next → qzv hX'.l k = qzv h.l k := fun k hk => by rw [← eX]; simp only [qza]; rw [if_neg (by omega), if_neg (by omega), if_neg (by omega)]
  have nX : hX'.next = h.next + 1 + 1 + 1 := by rw [← eX]
  have aX : qzv hX'.l (h.next + 1 + 1) = some (some (.cells (xzm cB (pointB p)) false)) := by rw [← eX]; simp only [qza, if_true]; rfl
  have acc2 : AccE 0 hX' j cB X 1 v := Go.VL.Wire.AccE.ext ha (by omega) (fun _ q => fX j q)
  rw [eX]
  obtain ⟨w1, w2⟩ := flat_all cB_len (pointB p)
  have wz : (xzm cB (pointB p)).length = (pointB p).length := flat1_len _
  have pl : 0 < (pointB p).length := by unfold pointB; rw [List.length_append]; have := putS_pos (zigS p.x); omega
  have pb : (pointB p).length ≤ 20 := by unfold pointB; rw [List.length_append]; omega
  refine wpW_accE (ls := pointB p) acc2 (by rw [len]; simp only [srcV, winV, qzq, aX, Option.getD_some, Nat.zero_add, w1, w2, List.drop_zero, true_or, if_true]) (by intro e; rw [e] at pl; simp at pl) cB_len (by omega) (Nat.zero_le _) (by omega) (by omega) ?_
  intro h3 g1 g2 g3
  have bi : qzv h3.l b = some (some (.cells [v] false)) := by
    rw [g2 b (by omega) hbj]; rw [fX b hb]; exact hi
  simp only [xzE, xzj, xzc, xzw, xzQ, xzM, Ends_n, qzc, qzb, qzU, xzs, xzt, qzW, qzm, qzl, qzs, qza, qzr, qzu, qzx, qzI, nilChkV, qzS, xza, xzn, VH.set, qzq, VV.cells, ntV, qzQ, qzM, qzP, qzO, xzy, ↓reduceIte, Option.getD_some, Option.map_some, List.length_cons, List.length_nil, List.drop_succ_cons, List.drop_zero, List.take_zero, List.append_nil, List.nil_append, List.head?_cons, Nat.reduceEqDiff, reduceCtorEq, Nat.reduceLeDiff, Nat.add_zero, Nat.zero_add, and_self, reduceCtorEq, bi]
  exact wrq_app (h0 := hX') hb hbj (by omega) fX g1 g2 g3
end
end Go.VL.En

/- Chapter 6: a writer's numbers; each of a list. -/
namespace Go.VL.En
open Go.FR Go.IR Go.VL Go.VL.Color Go.VL.Wind Go.VL.Ic Go.VL.Wire
noncomputable section
set_option linter.unusedSimpArgs false
set_option linter.unusedVariables false
set_option maxRecDepth 100000
set_option maxHeartbeats 1000000

abbrev iC (n : Nat) : VV := .int .i64 (n : Int)
def numsB (ns : List Nat) : List Nat := ns.flatMap putS
theorem numsB_cons (n : Nat) (ns : List Nat) : numsB (n :: ns) = putS n ++ numsB ns := by simp [numsB]
theorem numsB_le : ∀ (ns : List Nat), (∀ n ∈ ns, n < 18446744073709551616) → (numsB ns).length ≤ 10 * ns.length
  | [], _ => by simp [numsB]
  | n :: ns, h => by
    have h1 := putS_10 (h n (.head _))
    have h2 := numsB_le ns fun m hm => h m (.tail _ hm)
    rw [numsB_cons, List.length_append, List.length_cons]; omega
/-- One more append. -/
theorem wrq_snoc {b j j1 : Nat} {v v1 : VV} {X as bs : List Nat} {h h1 h2 : VH} (hb : b < h.next) (f1 : ∀ k, k < h.next → k ≠ b → (k ≠ j ∨ v = .nilS) → qzv h1.l k = qzv h.l k) (n1 : h.next ≤ h1.next) (d1 : j1 = j ∧ v1 = v ∨ h.next ≤ j1) (p2 : WrQ b j1 v1 (X ++ as) bs h1 h2) : WrQ b j v X (as ++ bs) h h2 := WrQ.trans hb f1 n1 d1 p2
theorem num_loop {Gl : xzv} (ns : List Nat) (hn : ∀ n ∈ ns, n < 9223372036854775808) (hl : ns.length < 100000) (b jn : Nat) (hjb : jn ≠ b) (j : Nat) (v : VV) (X : List Nat) (h : VH) (hX : X.length + (numsB ns).length < 1000000000) (hb : b < h.next) (hjn : jn < h.next) (hjv : jn ≠ j ∨ v = .nilS) (hi : qzv h.l jn = some (some (.cells (ns.map iC) false))) (K : AEx → VF → VH → Prop)
    (hK : ∀ T h', WrQ b j v X (numsB ns) h h' → K (.exit 0) T h') :
    ∀ (d i : Nat) (T : VF) (h1 : VH), d + i = ns.length → WrQ b j v X (numsB (ns.take i)) h h1 → qzv T 0 = some (.ptr b 0) → qzv T 6 = some (.slice jn 0 ns.length 1 (.exact ns.length)) → qzv T 7 = some (.int .i64 ns.length) → qzv T 8 = some (.int .i64 i) →
    wp Go.VL.Er.E Gl (.loop c_encode_writer_num_l0) T h1 K := by
  intro d
  induction d with
  | zero =>
    intro i T h1 hd q t0 t6 t7 t8
    obtain rfl : i = ns.length := by omega
    rw [List.take_length] at q
    refine xzr c_encode_writer_num_l0.eq_1 ?_
    have c : ¬ ((ns.length : Int) < ns.length) := by omega
    simp only [qzA, qzj, qzn, qzD, qzX, qzw, qzo, qzi, xzh, qzY, qzf, qzd, qze, qzp, qzc, qzb, qzg, qzh, qzm, qzl, qzs, qza, qzr, qzu, qzG, qzH, toA, ofA, FR.pop, abin, intBin, ↓reduceIte, Nat.reduceEqDiff, true_and, Bool.false_eq_true, decide_false, forall_const, false_implies, t7, t8, c]
    exact hK _ _ q
  | succ d ih =>
    intro i T h1 hd q t0 t6 t7 t8
    refine xzr c_encode_writer_num_l0.eq_1 ?_
    have hlt : i < ns.length := by omega
    have c : (i : Int) < ns.length := by omega
    obtain ⟨e, he⟩ : ∃ e, ns[i]? = some e := ⟨ns[i], List.getElem?_eq_getElem hlt⟩
    have hne := hn e (List.mem_of_getElem? he)
    have he' : (ns.map iC)[i]? = some (.int .i64 (e : Int)) := by rw [List.getElem?_map, he]; rfl
    have hw : IntKind.i64.wrap ((i : Int) + 1) = ((i + 1 : Nat) : Int) := by rw [xzi (by omega) (by omega)]; rfl
    have hu : IntKind.u64.wrap (e : Int) = (e : Int) := by rw [wrap_u64]; omega
    obtain ⟨j1, v1, a1, a2, a3, a4, a5, a6⟩ := q
    have tk : ns.take (i + 1) = ns.take i ++ [e] := take_at he
    have nb : numsB (ns.take (i + 1)) = numsB (ns.take i) ++ putS e := by rw [tk]; simp [numsB]
    have nl : (numsB (ns.take i)).length + (putS e).length ≤ (numsB ns).length := by
      rw [← List.length_append, ← nb]
      have e2 : numsB ns = numsB (ns.take (i + 1)) ++ numsB (ns.drop (i + 1)) := by
        unfold numsB; rw [← List.flatMap_append, List.take_append_drop]
      rw [e2, List.length_append (as := numsB (ns.take (i + 1)))]; omega
    have hi1 : qzv h1.l jn = some (some (.cells (ns.map iC) false)) := by rw [a4 jn hjn hjb hjv]; exact hi
    have x1 : b < h1.next := by omega
    have x2 : b < h1.next + 1 := by omega
    have y1 : ¬ h1.next = b := by omega
    have zi := xzu .i64 i
    simp only [qzA, qzj, xzD, qzn, qzD, qzX, qzw, qzo, qzi, xzh, qzY, qzf, qzd, qze, qzp, qzJ, xzj, xzc, xzw, xzQ, qzc, qzk, qzb, qzg, qzh, xzs, xzt, qzy, qzm, qzl, qzs, qza, qzr, qzu, qzx, xzp, qzL, qzC, qzB, cv, qzG, qzH, toA, ofA, FR.pop, abin, intBin, qzq, countN, xzu, ↓reduceIte, Option.getD_some, Nat.reduceEqDiff, Nat.zero_add, and_true, decide_true, forall_const, false_implies, Bool.true_eq_false, t6, t7, t8, c, hlt, he', hi1, hu, Nat.mul_one]
    refine call_own (putNil Gl e (by omega)) rfl (plainL_flat (fun _ => rfl) _) ?_
    simp only [xzj, xzc, xzw, xzN, xzQ, xzM, qzc, qzk, qzb, xzs, xzt, qzm, qzl, qzs, qza, qzr, qzu, qzx, qzI, nilChkV, qzL, qzC, qzB, VH.push, qzq, xzG, lowB, fzB, fzL, xzP, xzT, xzH, xzO, yza, xzZ, ↓reduceIte, Option.getD_some, Option.isSome_some, Option.map_some, List.getElem?_cons_zero, List.append_nil, List.contains_nil, Nat.reduceEqDiff, reduceCtorEq, Nat.add_zero, and_self, true_and, Bool.and_self, Bool.or_false, Bool.or_true, Bool.not_false, decide_true, reduceCtorEq, t0, x1, y1, a1]
    obtain ⟨w1, w2⟩ := flat_all cB_len (putS e)
    have pl := putS_pos e
    have p10 := putS_10 (n := e) (by omega)
    have fX : ∀ k, k < h1.next → qzv ((h1.next, some (VB.cells (xzm cB (putS e)) false)) :: h1.l) k = qzv h1.l k := fun k hk => by simp only [qza]; rw [if_neg (by omega)]
    have acc2 : AccE 0 ⟨(h1.next, some (VB.cells (xzm cB (putS e)) false)) :: h1.l, h1.next + 1⟩ j1 cB (X ++ numsB (ns.take i)) 1 v1 := Go.VL.Wire.AccE.ext a2 (by show h1.next ≤ h1.next + 1; omega) (fun _ q => fX j1 q)
    refine wpW_accE (ls := putS e) acc2 (by simp only [srcV, winV, qzq, qza, Option.getD_some, Nat.zero_add, w1, w2, List.drop_zero, true_or, if_true]) (by intro e; rw [e] at pl; simp at pl) cB_len (by omega) (Nat.zero_le _) (by rw [List.length_append]; omega) (by rw [List.length_append]; omega) ?_
    intro h3 g1 g2 g3
    simp only at g1 g2
    have bi : qzv h3.l b = some (some (.cells [v1] false)) := by
      rw [g2 b (by omega) a3, fX b x1]; exact a1
    simp only [qzj, qzi, xzg, xzq, qzf, qzd, qze, qzp, xzE, xzj, xzc, xzw, xzQ, xzM, qzc, qzb, qzU, qzg, qzh, xzs, xzt, qzW, qzm, qzl, qzs, qza, qzr, qzu, qzx, qzI, nilChkV, qzS, xza, xzn, cv, qzG, qzH, toA, ofA, FR.pop, abin, intBin, VH.set, qzq, VV.cells, ntV, qzO, xzy, ↓reduceIte, Option.getD_some, Option.map_some, List.length_cons, List.length_nil, List.drop_succ_cons, List.drop_zero, List.take_zero, List.append_nil, List.nil_append, List.head?_cons, Nat.reduceEqDiff, reduceCtorEq, Nat.reduceLeDiff, Nat.add_zero, Nat.zero_add, and_self, reduceCtorEq, bi, t0, t8, hw]
    have q2 := wrq_app (h := h1) (h0 := ⟨(h1.next, some (VB.cells (xzm cB (putS e)) false)) :: h1.l, h1.next + 1⟩) x1 a3 (by show h1.next ≤ h1.next + 1; omega) fX g1 g2 g3
    refine ih (i + 1) _ _ (by omega) (by rw [nb]; exact wrq_snoc hb a4 a5 a6 q2) ?_ ?_ ?_ ?_
    · simp only [qza, ↓reduceIte, reduceCtorEq, reduceCtorEq, t0]
    · simp only [qza, ↓reduceIte, Nat.reduceEqDiff, t6]
    · simp only [qza, ↓reduceIte, Nat.reduceEqDiff, t7]
    · simp only [qza, ↓reduceIte]
theorem WrQ.refl {b j : Nat} {v : VV} {X : List Nat} {h : VH} (hi : qzv h.l b = some (some (.cells [v] false))) (ha : AccE 0 h j cB X 1 v) (hbj : b ≠ j ∨ v = .nilS) : WrQ b j v X [] h h :=
  ⟨j, v, hi, by rw [List.append_nil]; exact ha, hbj, fun _ _ _ _ => rfl, Nat.le_refl _, .inl ⟨rfl, rfl⟩⟩
theorem num_run {Gl : xzv} (ns : List Nat) (hn : ∀ n ∈ ns, n < 9223372036854775808) (hl : ns.length < 100000) (b jn : Nat) (hjb : jn ≠ b) (j : Nat) (v : VV) (X : List Nat) (h : VH) (hX : X.length + (numsB ns).length < 1000000000) (hb : b < h.next) (hjn : jn < h.next) (hjv : jn ≠ j ∨ v = .nilS) (hi : qzv h.l jn = some (some (.cells (ns.map iC) false)))
    (hw : qzv h.l b = some (some (.cells [v] false))) (ha : AccE 0 h j cB X 1 v) (hbj : b ≠ j ∨ v = .nilS) :
    CallsV Go.VL.Er.E Gl f_encode_writer_num [.ptr b 0, .slice jn 0 ns.length 1 (.exact ns.length)] h (fun _ h' => WrQ b j v X (numsB ns) h h') := by
  refine xze E_encode_writer_num ?_
  unfold c_encode_writer_num r_encode_writer_num
  simp only [xzC]
  simp only [qzj, qzn, qzD, qzi, qzf, qzd, qze, qzp, qzc, qzb, qzg, qzh, qzm, qzl, qzs, qza, qzr, qzu, qzx, xzd, cv, ↓reduceIte, reduceCtorEq, Nat.zero_add, reduceCtorEq]
  refine num_loop ns hn hl b jn hjb j v X h hX hb hjn hjv hi _ ?_ ns.length 0 _ _ (by omega) (WrQ.refl hw ha hbj) ?_ ?_ ?_ ?_
  · intro T h' q
    simp only [xzz, Ends_n, qzQ, qzM, qzP, ↓reduceIte]
    exact q
  all_goals first | (simp only [qza, ↓reduceIte, Nat.reduceEqDiff, reduceCtorEq, reduceCtorEq]; done) | (simp only [qza, ↓reduceIte]; rfl)
end
end Go.VL.En

/- Chapter 6: a writer's lists. (By wip/gen_end.py.) -/
namespace Go.VL.En
open Go.FR Go.IR Go.VL Go.VL.Color Go.VL.Wind Go.VL.Ic Go.VL.Wire
noncomputable section
set_option linter.unusedSimpArgs false
set_option linter.unusedVariables false
set_option maxRecDepth 100000
set_option maxHeartbeats 1000000
theorem WrQ.weak {b j : Nat} {v : VV} {X bs : List Nat} {h h1 h2 : VH} (hn : h.next ≤ h1.next) (hf : ∀ k, k < h.next → qzv h1.l k = qzv h.l k) (q : WrQ b j v X bs h1 h2) : WrQ b j v X bs h h2 := by
  obtain ⟨j1, v1, a1, a2, a3, a4, a5, a6⟩ := q
  exact ⟨j1, v1, a1, a2, a3, fun k k1 k2 k3 => by rw [a4 k (by omega) k2 k3, hf k k1], by omega, a6.imp id (fun x => by omega)⟩
theorem fm_take {α : Type} {g : α → List Nat} {l : List α} {i : Nat} {e : α} (he : l[i]? = some e) : (l.take (i + 1)).flatMap g = (l.take i).flatMap g ++ g e := by
  rw [take_at he, List.flatMap_append]; simp
theorem fm_le {α : Type} {g : α → List Nat} (l : List α) (i : Nat) : ((l.take i).flatMap g).length ≤ (l.flatMap g).length := by
  have : l.flatMap g = (l.take i).flatMap g ++ (l.drop i).flatMap g := by rw [← List.flatMap_append, List.take_append_drop]
  rw [this, List.length_append]; omega

theorem eachColor_loop {Gl : xzv} (l : List Cl) (f : Nat) (g : Cl → List Nat) (hl : l.length < 1000000) {m : Nat} (hw : ∀ c ∈ l, Wr f (fun b => [.ptr b 0, .agg (cCl c)]) (g c) m) (b j : Nat) (v : VV) (X : List Nat) (h : VH) (hX : X.length + (l.flatMap g).length + m < 1000000000) (hb : b < h.next) (K : AEx → VF → VH → Prop)
    (hK : ∀ T h', WrQ b j v X (l.flatMap g) h h' → K (.exit 0) T h') :
    ∀ (d i : Nat) (T : VF) (h1 : VH), d + i = l.length → WrQ b j v X ((l.take i).flatMap g) h h1 → qzv T 1 = some (.func f [.ptr b 0] []) → qzv T 6 = some (.fsl (xzm cCl l) l.length 4) → qzv T 7 = some (.int .i64 l.length) → qzv T 8 = some (.int .i64 i) →
    wp Go.VL.Er.E Gl (.loop c_encode_each__api_Color_l0) T h1 K := by
  intro d
  induction d with
  | zero =>
    intro i T h1 hd q t1 t6 t7 t8
    obtain rfl : i = l.length := by omega
    rw [List.take_length] at q
    refine xzr c_encode_each__api_Color_l0.eq_1 ?_
    have c : ¬ ((l.length : Int) < l.length) := by omega
    simp only [qzA, qzj, qzn, qzD, qzX, qzw, qzo, qzi, xzh, qzY, qzf, qzd, qze, qzp, qzc, qzb, qzg, qzh, qzm, qzl, qzs, qza, qzr, qzu, qzG, qzH, toA, ofA, FR.pop, abin, intBin, ↓reduceIte, Nat.reduceEqDiff, true_and, Bool.false_eq_true, decide_false, forall_const, false_implies, t7, t8, c]
    exact hK _ _ q
  | succ d ih =>
    intro i T h1 hd q t1 t6 t7 t8
    refine xzr c_encode_each__api_Color_l0.eq_1 ?_
    have hlt : i < l.length := by omega
    have c : (i : Int) < l.length := by omega
    obtain ⟨e, he⟩ : ∃ e, l[i]? = some e := ⟨l[i], List.getElem?_eq_getElem hlt⟩
    have p1 := xzW Ic.cCl_len he
    have p2 := xzX Ic.cCl_len he
    have hx : IntKind.i64.wrap ((i : Int) + 1) = ((i + 1 : Nat) : Int) := by rw [xzi (by omega) (by omega)]; rfl
    obtain ⟨j1, v1, a1, a2, a3, a4, a5, a6⟩ := q
    have nb := fm_take (g := g) he
    have nl : ((l.take i).flatMap g).length + (g e).length ≤ (l.flatMap g).length := by
      rw [← List.length_append, ← nb]; exact fm_le l (i + 1)
    simp only [qzA, qzj, qzn, qzD, qzX, qzw, qzo, qzi, xzh, qzY, qzf, qzd, qze, qzp, qzJ, qzZ, qzN, qzz, qzc, qzk, qzE, qzb, qzU, qzg, qzh, qzR, qzW, wpW_callV, qzm, qzl, qzs, qza, qzr, qzu, qzx, xzp, qzL, qzC, xzk, qzS, xza, xzn, qzB, cvs, cv, qzG, qzH, toA, ofA, FR.pop, abin, intBin, VN.at, VH.push, VH.set, qzq, VV.cells, ntV, qzO, xzy, xzu, ↓reduceIte, Option.getD_some, List.length_cons, List.length_nil, List.drop_succ_cons, List.drop_zero, List.take_succ_cons, List.take_zero, List.append_nil, List.nil_append, List.cons_append, List.head?_cons, Nat.reduceAdd, Nat.reduceEqDiff, Nat.reduceLeDiff, Nat.zero_add, and_self, and_true, decide_true, forall_const, false_implies, Bool.true_eq_false, cCl, t1, t6, t7, t8, c, hlt, p1, p2, wpW_callV]
    have fX : ∀ k, k < h1.next → qzv ((h1.next, some (VB.cells (cCl e) false)) :: (h1.next, some (VB.cells [.int .u8 0, .int .u8 0, .int .u8 0, .int .u8 0] false)) :: h1.l) k = qzv h1.l k := fun k hk => by simp only [qza]; rw [if_neg (by omega), if_neg (by omega)]
    refine xzI (hw e (List.mem_of_getElem? he) Gl ⟨(h1.next, some (VB.cells (cCl e) false)) :: (h1.next, some (VB.cells [.int .u8 0, .int .u8 0, .int .u8 0, .int .u8 0] false)) :: h1.l, h1.next + 1⟩ b j1 v1 (X ++ (l.take i).flatMap g) (by rw [fX b (by omega)]; exact a1) (Go.VL.Wire.AccE.ext a2 (by show h1.next ≤ h1.next + 1; omega) (fun _ q => fX j1 q)) (by show b < h1.next + 1; omega) a3 (by rw [List.length_append]; omega)) ?_
    intro r h2 q2
    simp only [qzj, qzi, xzg, xzq, qzf, qzd, qze, qzp, qzz, qzc, qzb, qzg, qzh, qzm, qzl, qzs, qza, qzr, qzu, qzx, cv, qzG, qzH, toA, ofA, FR.pop, abin, intBin, ↓reduceIte, Nat.reduceEqDiff, t8, hx]
    refine ih (i + 1) _ _ (by omega) (by rw [nb]; exact wrq_snoc hb a4 a5 a6 (q2.weak (by show h1.next ≤ h1.next + 1; omega) fX)) ?_ ?_ ?_ ?_
    · simp only [qza, ↓reduceIte, Nat.reduceEqDiff, t1]
    · simp only [qza, ↓reduceIte, Nat.reduceEqDiff, t6]
    · simp only [qza, ↓reduceIte, Nat.reduceEqDiff, t7]
    · simp only [qza, ↓reduceIte]
theorem eachColor_wr (l : List Cl) (f : Nat) (g : Cl → List Nat) (hl : l.length < 1000000) {m : Nat} (hw : ∀ c ∈ l, Wr f (fun b => [.ptr b 0, .agg (cCl c)]) (g c) m) : Wr f_encode_each__api_Color (fun b => [.fsl (xzm cCl l) l.length 4, .func f [.ptr b 0] []]) (l.flatMap g) m := by
  intro Gl h b j v X hi ha hb hbj hX
  refine xze E_encode_each__api_Color ?_
  unfold c_encode_each__api_Color r_encode_each__api_Color
  simp only [xzC]
  simp only [qzj, qzn, qzD, qzi, qzf, qzd, qze, qzp, qzc, qzb, qzg, qzh, qzm, qzl, qzs, qza, qzr, qzu, qzx, xzd, cv, ↓reduceIte, Nat.zero_add]
  refine eachColor_loop l f g hl hw b j v X h hX hb _ ?_ l.length 0 _ _ (by omega) (WrQ.refl hi ha hbj) ?_ ?_ ?_ ?_
  · intro T h' q
    simp only [xzz, Ends_n, qzQ, qzM, qzP, ↓reduceIte]
    exact q
  all_goals first | (simp only [qza, ↓reduceIte, Nat.reduceEqDiff, reduceCtorEq, reduceCtorEq]; done) | (simp only [qza, ↓reduceIte]; rfl)

theorem eachPath_loop {Gl : xzv} (l : List Path) (f : Nat) (g : Path → List Nat) (hl : l.length < 1000000) {m : Nat} (hw : ∀ c ∈ l, Wr f (fun b => [.ptr b 0, .agg (cPath c)]) (g c) m) (b j : Nat) (v : VV) (X : List Nat) (h : VH) (hX : X.length + (l.flatMap g).length + m < 1000000000) (hb : b < h.next) (K : AEx → VF → VH → Prop)
    (hK : ∀ T h', WrQ b j v X (l.flatMap g) h h' → K (.exit 0) T h') :
    ∀ (d i : Nat) (T : VF) (h1 : VH), d + i = l.length → WrQ b j v X ((l.take i).flatMap g) h h1 → qzv T 1 = some (.func f [.ptr b 0] []) → qzv T 6 = some (.fsl (xzm cPath l) l.length 4) → qzv T 7 = some (.int .i64 l.length) → qzv T 8 = some (.int .i64 i) →
    wp Go.VL.Er.E Gl (.loop c_encode_each__api_Path_l0) T h1 K := by
  intro d
  induction d with
  | zero =>
    intro i T h1 hd q t1 t6 t7 t8
    obtain rfl : i = l.length := by omega
    rw [List.take_length] at q
    refine xzr c_encode_each__api_Path_l0.eq_1 ?_
    have c : ¬ ((l.length : Int) < l.length) := by omega
    simp only [qzA, qzj, qzn, qzD, qzX, qzw, qzo, qzi, xzh, qzY, qzf, qzd, qze, qzp, qzc, qzb, qzg, qzh, qzm, qzl, qzs, qza, qzr, qzu, qzG, qzH, toA, ofA, FR.pop, abin, intBin, ↓reduceIte, Nat.reduceEqDiff, true_and, Bool.false_eq_true, decide_false, forall_const, false_implies, t7, t8, c]
    exact hK _ _ q
  | succ d ih =>
    intro i T h1 hd q t1 t6 t7 t8
    refine xzr c_encode_each__api_Path_l0.eq_1 ?_
    have hlt : i < l.length := by omega
    have c : (i : Int) < l.length := by omega
    obtain ⟨e, he⟩ : ∃ e, l[i]? = some e := ⟨l[i], List.getElem?_eq_getElem hlt⟩
    have p1 := xzW cPath_len he
    have p2 := xzX cPath_len he
    have hx : IntKind.i64.wrap ((i : Int) + 1) = ((i + 1 : Nat) : Int) := by rw [xzi (by omega) (by omega)]; rfl
    obtain ⟨j1, v1, a1, a2, a3, a4, a5, a6⟩ := q
    have nb := fm_take (g := g) he
    have nl : ((l.take i).flatMap g).length + (g e).length ≤ (l.flatMap g).length := by
      rw [← List.length_append, ← nb]; exact fm_le l (i + 1)
    simp only [qzA, qzj, qzn, qzD, qzX, qzw, qzo, qzi, xzh, qzY, qzf, qzd, qze, qzp, qzJ, qzZ, qzN, qzz, qzc, qzk, qzE, qzb, qzU, qzg, qzh, qzR, qzW, wpW_callV, qzm, qzl, qzs, qza, qzr, qzu, qzx, xzp, qzL, qzC, xzk, qzS, xza, xzn, qzB, cvs, cv, qzG, qzH, toA, ofA, FR.pop, abin, intBin, VN.at, VH.push, VH.set, qzq, VV.cells, ntV, qzO, xzy, xzu, ↓reduceIte, Option.getD_some, List.length_cons, List.length_nil, List.drop_succ_cons, List.drop_zero, List.take_succ_cons, List.take_zero, List.append_nil, List.nil_append, List.cons_append, List.head?_cons, Nat.reduceAdd, Nat.reduceEqDiff, Nat.reduceLeDiff, Nat.zero_add, and_self, and_true, decide_true, forall_const, false_implies, Bool.true_eq_false, cPath, t1, t6, t7, t8, c, hlt, p1, p2, wpW_callV]
    have fX : ∀ k, k < h1.next → qzv ((h1.next, some (VB.cells (cPath e) false)) :: (h1.next, some (VB.cells [.int .i64 0, .int .i64 0, .nilS, .bool false] false)) :: h1.l) k = qzv h1.l k := fun k hk => by simp only [qza]; rw [if_neg (by omega), if_neg (by omega)]
    refine xzI (hw e (List.mem_of_getElem? he) Gl ⟨(h1.next, some (VB.cells (cPath e) false)) :: (h1.next, some (VB.cells [.int .i64 0, .int .i64 0, .nilS, .bool false] false)) :: h1.l, h1.next + 1⟩ b j1 v1 (X ++ (l.take i).flatMap g) (by rw [fX b (by omega)]; exact a1) (Go.VL.Wire.AccE.ext a2 (by show h1.next ≤ h1.next + 1; omega) (fun _ q => fX j1 q)) (by show b < h1.next + 1; omega) a3 (by rw [List.length_append]; omega)) ?_
    intro r h2 q2
    simp only [qzj, qzi, xzg, xzq, qzf, qzd, qze, qzp, qzz, qzc, qzb, qzg, qzh, qzm, qzl, qzs, qza, qzr, qzu, qzx, cv, qzG, qzH, toA, ofA, FR.pop, abin, intBin, ↓reduceIte, Nat.reduceEqDiff, t8, hx]
    refine ih (i + 1) _ _ (by omega) (by rw [nb]; exact wrq_snoc hb a4 a5 a6 (q2.weak (by show h1.next ≤ h1.next + 1; omega) fX)) ?_ ?_ ?_ ?_
    · simp only [qza, ↓reduceIte, Nat.reduceEqDiff, t1]
    · simp only [qza, ↓reduceIte, Nat.reduceEqDiff, t6]
    · simp only [qza, ↓reduceIte, Nat.reduceEqDiff, t7]
    · simp only [qza, ↓reduceIte]
theorem eachPath_wr (l : List Path) (f : Nat) (g : Path → List Nat) (hl : l.length < 1000000) {m : Nat} (hw : ∀ c ∈ l, Wr f (fun b => [.ptr b 0, .agg (cPath c)]) (g c) m) : Wr f_encode_each__api_Path (fun b => [.fsl (xzm cPath l) l.length 4, .func f [.ptr b 0] []]) (l.flatMap g) m := by
  intro Gl h b j v X hi ha hb hbj hX
  refine xze E_encode_each__api_Path ?_
  unfold c_encode_each__api_Path r_encode_each__api_Path
  simp only [xzC]
  simp only [qzj, qzn, qzD, qzi, qzf, qzd, qze, qzp, qzc, qzb, qzg, qzh, qzm, qzl, qzs, qza, qzr, qzu, qzx, xzd, cv, ↓reduceIte, Nat.zero_add]
  refine eachPath_loop l f g hl hw b j v X h hX hb _ ?_ l.length 0 _ _ (by omega) (WrQ.refl hi ha hbj) ?_ ?_ ?_ ?_
  · intro T h' q
    simp only [xzz, Ends_n, qzQ, qzM, qzP, ↓reduceIte]
    exact q
  all_goals first | (simp only [qza, ↓reduceIte, Nat.reduceEqDiff, reduceCtorEq, reduceCtorEq]; done) | (simp only [qza, ↓reduceIte]; rfl)

theorem eachCmd_loop {Gl : xzv} (l : List Cmd) (f : Nat) (g : Cmd → List Nat) (hl : l.length < 1000000) {m : Nat} (hw : ∀ c ∈ l, Wr f (fun b => [.ptr b 0, .agg (cCmd c)]) (g c) m) (b j : Nat) (v : VV) (X : List Nat) (h : VH) (hX : X.length + (l.flatMap g).length + m < 1000000000) (hb : b < h.next) (K : AEx → VF → VH → Prop)
    (hK : ∀ T h', WrQ b j v X (l.flatMap g) h h' → K (.exit 0) T h') :
    ∀ (d i : Nat) (T : VF) (h1 : VH), d + i = l.length → WrQ b j v X ((l.take i).flatMap g) h h1 → qzv T 1 = some (.func f [.ptr b 0] []) → qzv T 6 = some (.fsl (xzm cCmd l) l.length 11) → qzv T 7 = some (.int .i64 l.length) → qzv T 8 = some (.int .i64 i) →
    wp Go.VL.Er.E Gl (.loop c_encode_each__api_Cmd_l0) T h1 K := by
  intro d
  induction d with
  | zero =>
    intro i T h1 hd q t1 t6 t7 t8
    obtain rfl : i = l.length := by omega
    rw [List.take_length] at q
    refine xzr c_encode_each__api_Cmd_l0.eq_1 ?_
    have c : ¬ ((l.length : Int) < l.length) := by omega
    simp only [qzA, qzj, qzn, qzD, qzX, qzw, qzo, qzi, xzh, qzY, qzf, qzd, qze, qzp, qzc, qzb, qzg, qzh, qzm, qzl, qzs, qza, qzr, qzu, qzG, qzH, toA, ofA, FR.pop, abin, intBin, ↓reduceIte, Nat.reduceEqDiff, true_and, Bool.false_eq_true, decide_false, forall_const, false_implies, t7, t8, c]
    exact hK _ _ q
  | succ d ih =>
    intro i T h1 hd q t1 t6 t7 t8
    refine xzr c_encode_each__api_Cmd_l0.eq_1 ?_
    have hlt : i < l.length := by omega
    have c : (i : Int) < l.length := by omega
    obtain ⟨e, he⟩ : ∃ e, l[i]? = some e := ⟨l[i], List.getElem?_eq_getElem hlt⟩
    have p1 := xzW cCmd_len he
    have p2 := xzX cCmd_len he
    have hx : IntKind.i64.wrap ((i : Int) + 1) = ((i + 1 : Nat) : Int) := by rw [xzi (by omega) (by omega)]; rfl
    obtain ⟨j1, v1, a1, a2, a3, a4, a5, a6⟩ := q
    have nb := fm_take (g := g) he
    have nl : ((l.take i).flatMap g).length + (g e).length ≤ (l.flatMap g).length := by
      rw [← List.length_append, ← nb]; exact fm_le l (i + 1)
    simp only [qzA, qzj, qzn, qzD, qzX, qzw, qzo, qzi, xzh, qzY, qzf, qzd, qze, qzp, qzJ, qzZ, qzN, qzz, qzc, qzk, qzE, qzb, qzU, qzg, qzh, qzR, qzW, wpW_callV, qzm, qzl, qzs, qza, qzr, qzu, qzx, xzp, qzL, qzC, xzk, qzS, xza, xzn, qzB, cvs, cv, qzG, qzH, toA, ofA, FR.pop, abin, intBin, VN.at, VH.push, VH.set, qzq, VV.cells, ntV, qzO, xzy, xzu, ↓reduceIte, Option.getD_some, List.length_cons, List.length_nil, List.drop_succ_cons, List.drop_zero, List.take_succ_cons, List.take_zero, List.append_nil, List.nil_append, List.cons_append, List.head?_cons, Nat.reduceAdd, Nat.reduceEqDiff, Nat.reduceLeDiff, Nat.zero_add, and_self, and_true, decide_true, forall_const, false_implies, Bool.true_eq_false, cCmd, t1, t6, t7, t8, c, hlt, p1, p2, wpW_callV]
    have fX : ∀ k, k < h1.next → qzv ((h1.next, some (VB.cells (cCmd e) false)) :: (h1.next, some (VB.cells [.int .i64 0, .int .i64 0, .int .i64 0, .int .i64 0, .int .i64 0, .int .i64 0, .int .i64 0, .int .i64 0, .int .i64 0, .int .i64 0, .nilS] false)) :: h1.l) k = qzv h1.l k := fun k hk => by simp only [qza]; rw [if_neg (by omega), if_neg (by omega)]
    refine xzI (hw e (List.mem_of_getElem? he) Gl ⟨(h1.next, some (VB.cells (cCmd e) false)) :: (h1.next, some (VB.cells [.int .i64 0, .int .i64 0, .int .i64 0, .int .i64 0, .int .i64 0, .int .i64 0, .int .i64 0, .int .i64 0, .int .i64 0, .int .i64 0, .nilS] false)) :: h1.l, h1.next + 1⟩ b j1 v1 (X ++ (l.take i).flatMap g) (by rw [fX b (by omega)]; exact a1) (Go.VL.Wire.AccE.ext a2 (by show h1.next ≤ h1.next + 1; omega) (fun _ q => fX j1 q)) (by show b < h1.next + 1; omega) a3 (by rw [List.length_append]; omega)) ?_
    intro r h2 q2
    simp only [qzj, qzi, xzg, xzq, qzf, qzd, qze, qzp, qzz, qzc, qzb, qzg, qzh, qzm, qzl, qzs, qza, qzr, qzu, qzx, cv, qzG, qzH, toA, ofA, FR.pop, abin, intBin, ↓reduceIte, Nat.reduceEqDiff, t8, hx]
    refine ih (i + 1) _ _ (by omega) (by rw [nb]; exact wrq_snoc hb a4 a5 a6 (q2.weak (by show h1.next ≤ h1.next + 1; omega) fX)) ?_ ?_ ?_ ?_
    · simp only [qza, ↓reduceIte, Nat.reduceEqDiff, t1]
    · simp only [qza, ↓reduceIte, Nat.reduceEqDiff, t6]
    · simp only [qza, ↓reduceIte, Nat.reduceEqDiff, t7]
    · simp only [qza, ↓reduceIte]
theorem eachCmd_wr (l : List Cmd) (f : Nat) (g : Cmd → List Nat) (hl : l.length < 1000000) {m : Nat} (hw : ∀ c ∈ l, Wr f (fun b => [.ptr b 0, .agg (cCmd c)]) (g c) m) : Wr f_encode_each__api_Cmd (fun b => [.fsl (xzm cCmd l) l.length 11, .func f [.ptr b 0] []]) (l.flatMap g) m := by
  intro Gl h b j v X hi ha hb hbj hX
  refine xze E_encode_each__api_Cmd ?_
  unfold c_encode_each__api_Cmd r_encode_each__api_Cmd
  simp only [xzC]
  simp only [qzj, qzn, qzD, qzi, qzf, qzd, qze, qzp, qzc, qzb, qzg, qzh, qzm, qzl, qzs, qza, qzr, qzu, qzx, xzd, cv, ↓reduceIte, Nat.zero_add]
  refine eachCmd_loop l f g hl hw b j v X h hX hb _ ?_ l.length 0 _ _ (by omega) (WrQ.refl hi ha hbj) ?_ ?_ ?_ ?_
  · intro T h' q
    simp only [xzz, Ends_n, qzQ, qzM, qzP, ↓reduceIte]
    exact q
  all_goals first | (simp only [qza, ↓reduceIte, Nat.reduceEqDiff, reduceCtorEq, reduceCtorEq]; done) | (simp only [qza, ↓reduceIte]; rfl)

end
end Go.VL.En
