import Derived.Test.YtbamfhdgikeneaaDoorWrA
import Derived.Test.YtbamfhdgikeneaaDoorWiA
import Derived.Test.YtbamfhdgikeneaaDoorEnA
/- Chapter 2: bytes as a number. -/
namespace Go.VL.Wire
open Go.FR Go.IR Go.VL Go.VL.Er
noncomputable section
set_option linter.unusedSimpArgs false
set_option linter.unusedVariables false
set_option maxRecDepth 100000
set_option maxHeartbeats 1000000

inductive Got where
  | short
  | varint
  | got (n k : Nat)
def getL : List Nat → Nat → Nat → Got
  | [], _, _ => .short
  | x :: r, k, n => if (k = 9 ∧ 1 < x) ∨ (x = 0 ∧ 0 < k) then .varint else if x < 128 then .got (n + x * 128 ^ k) (k + 1) else getL r (k + 1) (n + (x % 128) * 128 ^ k)

/-- What is got of these from a place on. -/
structure GotS where
  n : Nat
  k : Int
  e : ErrV
def getS (bs : List Nat) (at_ : Int) : GotS :=
  if at_ < 0 ∨ (bs.length : Int) < at_ then ⟨0, 0, .placed 6 at_⟩ else match getL (bs.drop at_.toNat) 0 0 with
    | .short => ⟨0, 0, .placed 6 at_⟩
    | .varint => ⟨0, 0, .placed 8 at_⟩
    | .got n k => ⟨n, at_ + k, .none⟩
def GotS.v (g : GotS) : VV := .tuple [.int .u64 (g.n : Int), .int .i64 g.k, g.e.v]

end
end Go.VL.Wire

/- Chapter 2: what is put is got. In plain numbers. -/
namespace Go.VL.Wire
open Go.FR Go.IR Go.VL Go.VL.Er
noncomputable section
set_option linter.unusedSimpArgs false
set_option linter.unusedVariables false
set_option maxRecDepth 100000
set_option maxHeartbeats 1000000

/-- The last byte, told to go on. -/
def moreS (m : Nat) : List Nat := if m < 128 then [m + 128] else (m % 128 + 128) :: moreS (m / 128)
termination_by m
decreasing_by omega
end
end Go.VL.Wire

/- Chapter 2: what the laws of bytes share. -/
namespace Go.VL.Wire
open Go.FR Go.IR Go.VL Go.VL.Er
noncomputable section
set_option linter.unusedSimpArgs false
set_option linter.unusedVariables false
set_option maxRecDepth 100000
set_option maxHeartbeats 1000000

end
end Go.VL.Wire

/- Chapter 2: a number put behind bytes. -/
namespace Go.VL.Wire
open Go.FR Go.IR Go.VL Go.VL.Er
noncomputable section
set_option linter.unusedSimpArgs false
set_option linter.unusedVariables false
set_option maxRecDepth 100000
set_option maxHeartbeats 1000000

end
end Go.VL.Wire

/- Chapter 6: a writer's parts. -/
namespace Go.VL.En
open Go.FR Go.IR Go.VL Go.VL.Color Go.VL.Wind Go.VL.Ic Go.VL.Wire
noncomputable section
set_option linter.unusedSimpArgs false
set_option linter.unusedVariables false
set_option maxRecDepth 100000
set_option maxHeartbeats 1000000

/-- What a writer's part leaves: so many bytes more. -/
def WrQ (b j : Nat) (v : VV) (X bs : List Nat) (h : VH) (h' : VH) : Prop := ∃ j' v', qzB h'.l b = some (some (.cells [v'] false)) ∧ AccE 0 h' j' cB (X ++ bs) 1 v' ∧ (b ≠ j' ∨ v' = .nilS) ∧ (∀ k, k < h.next → k ≠ b → (k ≠ j ∨ v = .nilS) → qzB h'.l k = qzB h.l k) ∧ h.next ≤ h'.next ∧ (j' = j ∧ v' = v ∨ h.next ≤ j')
/-- A writer's part, in the caller's heap. -/
def Wr (f : Nat) (args : Nat → List VV) (bs : List Nat) (m : Nat := 0) : Prop := ∀ (Gl : xzv) (h : VH) (b j : Nat) (v : VV) (X : List Nat), qzB h.l b = some (some (.cells [v] false)) → AccE 0 h j cB X 1 v → b < h.next → (b ≠ j ∨ v = .nilS) → X.length + bs.length + m < 1000000000 →
  CallsV Go.VL.Er.E Gl f (args b) h (fun _ h' => WrQ b j v X bs h h')
theorem WrQ.trans {b j j1 : Nat} {v v1 : VV} {X bs cs : List Nat} {h h1 h2 : VH} (hb : b < h.next) (f1 : ∀ k, k < h.next → k ≠ b → (k ≠ j ∨ v = .nilS) → qzB h1.l k = qzB h.l k) (n1 : h.next ≤ h1.next) (d1 : j1 = j ∧ v1 = v ∨ h.next ≤ j1) (p2 : WrQ b j1 v1 (X ++ bs) cs h1 h2) : WrQ b j v X (bs ++ cs) h h2 := by
  obtain ⟨j2, v2, a1, a2, a3, a4, a5, a6⟩ := p2
  refine ⟨j2, v2, a1, by rw [← List.append_assoc]; exact a2, a3, fun k k1 k2 k3 => ?_, by omega, ?_⟩
  · rw [a4 k (by omega) k2 ?_, f1 k k1 k2 k3]
    rcases d1 with ⟨rfl, rfl⟩ | d1
    · exact k3
    · exact .inl (by omega)
  · rcases a6 with ⟨rfl, rfl⟩ | a6
    · exact d1
    · exact .inr (by omega)
theorem AccE.ne {α : Type} {base : Nat} {h : VH} {j : Nat} {f : α → List VV} {l : List α} {esz : Nat} {v : VV} (a : AccE base h j f l esz v) {k : Nat} (hk : k < base ∨ h.next ≤ k) : k ≠ j ∨ v = .nilS := by
  rcases a with a | ⟨e, _, _, _, a4, a5⟩
  · exact a.ne hk
  · exact .inl (by omega)
/-- The same as an append leaves it. -/
theorem wrq_app {b j : Nat} {v x : VV} {X bs : List Nat} {h h0 h3 : VH} (hb : b < h.next) (hbj : b ≠ j ∨ v = .nilS) (hn : h.next ≤ h0.next) (hf : ∀ k, k < h.next → qzB h0.l k = qzB h.l k) (g1 : h3.next = h0.next + 1) (g2 : ∀ k, k ≠ h0.next → k ≠ j ∨ v = .nilS → qzB h3.l k = qzB h0.l k) (g3 : AccAt 0 h3 h0.next cB (X ++ bs) 1 x) :
    WrQ b j v X bs h ⟨(b, some (.cells [x] false)) :: h3.l, h3.next⟩ := by
  refine ⟨h0.next, x, by simp only [qza, if_true], .inl (g3.ext (Nat.le_refl _) (fun _ q => by simp only [qza]; rw [if_neg (by omega)])), .inl (by omega), fun k k1 k2 k3 => ?_, by show h.next ≤ h3.next; omega, .inr hn⟩
  simp only [qza]
  rw [if_neg (Ne.symm k2), g2 k (by omega) k3, hf k k1]

def colorB (c : Cl) : List Nat := [c.r, c.g, c.b, c.a]
theorem color_wr (c : Cl) (hc : c.In) : Wr f_encode_writer_color (fun b => [.ptr b 0, .agg (cCl c)]) (colorB c) := by
  intro Gl h b j v X hi ha hb hbj hX
  refine xzp E_encode_writer_color ?_
  unfold c_encode_writer_color r_encode_writer_color
  simp only [xzF]
  have e1 : ¬ h.next = b := by omega
  simp only [qzl, wp_draw, qzm, qzk, qzf, qze, qzd, xzd, xzu, xzs, xzD, wpXA_r, wpXA_n, wpXA_w, qzc, qzj, qzK, qzb, qzh, qzX, xzw, xzx, kXN_app, qzn, qzo, qzu, qza, qzt, qzv, qzy, qzJ, nilChkV, qzH, qzD, xzo, xzG, xzy, xzh, qzA, cvs, cv, VN.at, VH.push, qzs, VV.cells, ntV, countN, mayRead, apartB, liveB, refsOKL, refsOK, idsL, idsV, ↓reduceIte, Option.getD_some, Option.isSome_some, List.getElem?_cons_zero, List.getElem?_cons_succ, List.length_cons, List.length_nil, List.drop_succ_cons, List.drop_zero, List.take_succ_cons, List.take_zero, List.append_nil, List.nil_append, List.cons_append, List.contains_nil, Nat.reduceAdd, Nat.reduceDiv, Nat.reduceLT, Nat.reduceEqDiff, reduceCtorEq, Nat.reduceLeDiff, Nat.add_zero, Nat.zero_add, and_self, true_and, Bool.and_self, Bool.not_false, reduceCtorEq, cCl, e1, hi]
  have acc2 : AccE 0 ⟨(h.next + 1, some (VB.cells (xzq cB (colorB c)) false)) :: (h.next, some (.cells (cCl c) false)) :: h.l, h.next + 1 + 1⟩ j cB X 1 v := Go.VL.Wire.AccE.ext ha (by show h.next ≤ h.next + 1 + 1; omega) (fun _ q => by simp only [qza]; rw [if_neg (by omega), if_neg (by omega)])
  refine wpW_accE (ls := colorB c) acc2 (by simp only [colorB]; simp only [qza, srcV, winV, qzs, ↓reduceIte, Option.getD_some, List.length_cons, List.length_nil, List.drop_zero, List.take_succ_cons, List.take_zero, Nat.reduceAdd, Nat.reduceMul, reduceCtorEq, Nat.reduceLeDiff, Nat.zero_add, true_or, reduceCtorEq, true_or] <;> first | rfl | exact ⟨rfl, rfl⟩ | exact qzr rfl) (by simp [colorB]) cB_len (by omega) (Nat.zero_le _) (by simp [colorB] at hX ⊢; omega) (by simp [colorB] at hX ⊢; omega) ?_
  intro h3 g1 g2 g3
  simp only at g1 g2 g3
  have bi : qzB h3.l b = some (some (.cells [v] false)) := by
    rw [g2 b (by omega) hbj]; simp only [qza]; rw [if_neg (by omega), if_neg (by omega)]; exact hi
  simp only [wpX_nil, xzu, xzs, xzD, wpXA_w, kX_app, Ends_n, qzc, qzb, xze, xzw, xzx, xzg, qzn, qzo, qzu, qza, qzt, qzv, qzy, qzJ, nilChkV, xzh, xzl, xzt, VH.set, qzs, VV.cells, ntV, qzT, qzM, qzS, qzZ, xzz, ↓reduceIte, Option.getD_some, Option.map_some, List.length_cons, List.length_nil, List.drop_succ_cons, List.drop_zero, List.take_zero, List.append_nil, List.nil_append, List.head?_cons, Nat.reduceEqDiff, reduceCtorEq, Nat.reduceLeDiff, Nat.add_zero, Nat.zero_add, and_self, reduceCtorEq, bi]
  exact wrq_app (h0 := ⟨_, h.next + 1 + 1⟩) hb hbj (by show h.next ≤ h.next + 1 + 1; omega) (fun k hk => by simp only [qza]; rw [if_neg (by omega), if_neg (by omega)]) g1 g2 g3
def pointB (p : Pt) : List Nat := putS (zigS p.x) ++ putS (zigS p.y)
end
end Go.VL.En

/- Chapter 6: a writer's numbers; each of a list. -/
namespace Go.VL.En
open Go.FR Go.IR Go.VL Go.VL.Color Go.VL.Wind Go.VL.Ic Go.VL.Wire
noncomputable section
set_option linter.unusedSimpArgs false
set_option linter.unusedVariables false
set_option maxRecDepth 100000
set_option maxHeartbeats 1000000

abbrev iC (n : Nat) : VV := .int .i64 (n : Int)
def numsB (ns : List Nat) : List Nat := ns.flatMap putS
theorem numsB_cons (n : Nat) (ns : List Nat) : numsB (n :: ns) = putS n ++ numsB ns := by simp [numsB]
theorem numsB_le : ∀ (ns : List Nat), (∀ n ∈ ns, n < 18446744073709551616) → (numsB ns).length ≤ 10 * ns.length
  | [], _ => by simp [numsB]
  | n :: ns, h => by
    have h1 := putS_10 (h n (.head _))
    have h2 := numsB_le ns fun m hm => h m (.tail _ hm)
    rw [numsB_cons, List.length_append, List.length_cons]; omega
/-- One more append. -/
theorem wrq_snoc {b j j1 : Nat} {v v1 : VV} {X as bs : List Nat} {h h1 h2 : VH} (hb : b < h.next) (f1 : ∀ k, k < h.next → k ≠ b → (k ≠ j ∨ v = .nilS) → qzB h1.l k = qzB h.l k) (n1 : h.next ≤ h1.next) (d1 : j1 = j ∧ v1 = v ∨ h.next ≤ j1) (p2 : WrQ b j1 v1 (X ++ as) bs h1 h2) : WrQ b j v X (as ++ bs) h h2 := WrQ.trans hb f1 n1 d1 p2
theorem num_loop {Gl : xzv} (ns : List Nat) (hn : ∀ n ∈ ns, n < 9223372036854775808) (hl : ns.length < 100000) (b jn : Nat) (hjb : jn ≠ b) (j : Nat) (v : VV) (X : List Nat) (h : VH) (hX : X.length + (numsB ns).length < 1000000000) (hb : b < h.next) (hjn : jn < h.next) (hjv : jn ≠ j ∨ v = .nilS) (hi : qzB h.l jn = some (some (.cells (ns.map iC) false))) (K : AEx → VF → VH → Prop)
    (hK : ∀ T h', WrQ b j v X (numsB ns) h h' → K (.exit 0) T h') :
    ∀ (d i : Nat) (T : VF) (h1 : VH), d + i = ns.length → WrQ b j v X (numsB (ns.take i)) h h1 → qzB T 0 = some (.ptr b 0) → qzB T 6 = some (.slice jn 0 ns.length 1 (.exact ns.length)) → qzB T 7 = some (.int .i64 ns.length) → qzB T 8 = some (.int .i64 i) →
    wp Go.VL.Er.E Gl (.loop c_encode_writer_num_l0) T h1 K := by
  intro d
  induction d with
  | zero =>
    intro i T h1 hd q t0 t6 t7 t8
    obtain rfl : i = ns.length := by omega
    rw [List.take_length] at q
    refine xzf c_encode_writer_num_l0.eq_1 ?_
    have c : ¬ ((ns.length : Int) < ns.length) := by omega
    simp only [qzx, qzl, qzm, qzw, qzP, qzq, qzg, qzk, qzV, qzO, qzf, qze, qzd, qzp, qzc, qzb, qzh, qzi, qzn, qzo, qzu, qza, qzt, qzv, qzF, qzE, toA, ofA, FR.pop, abin, intBin, ↓reduceIte, Nat.reduceEqDiff, true_and, Bool.false_eq_true, decide_false, forall_const, false_implies, t7, t8, c]
    exact hK _ _ q
  | succ d ih =>
    intro i T h1 hd q t0 t6 t7 t8
    refine xzf c_encode_writer_num_l0.eq_1 ?_
    have hlt : i < ns.length := by omega
    have c : (i : Int) < ns.length := by omega
    obtain ⟨e, he⟩ : ∃ e, ns[i]? = some e := ⟨ns[i], List.getElem?_eq_getElem hlt⟩
    have hne := hn e (List.mem_of_getElem? he)
    have he' : (ns.map iC)[i]? = some (.int .i64 (e : Int)) := by rw [List.getElem?_map, he]; rfl
    have hw : IntKind.i64.wrap ((i : Int) + 1) = ((i + 1 : Nat) : Int) := by rw [xzm (by omega) (by omega)]; rfl
    have hu : IntKind.u64.wrap (e : Int) = (e : Int) := by rw [wrap_u64]; omega
    obtain ⟨j1, v1, a1, a2, a3, a4, a5, a6⟩ := q
    have tk : ns.take (i + 1) = ns.take i ++ [e] := take_at he
    have nb : numsB (ns.take (i + 1)) = numsB (ns.take i) ++ putS e := by rw [tk]; simp [numsB]
    have nl : (numsB (ns.take i)).length + (putS e).length ≤ (numsB ns).length := by
      rw [← List.length_append, ← nb]
      have e2 : numsB ns = numsB (ns.take (i + 1)) ++ numsB (ns.drop (i + 1)) := by
        unfold numsB; rw [← List.flatMap_append, List.take_append_drop]
      rw [e2, List.length_append (as := numsB (ns.take (i + 1)))]; omega
    have hi1 : qzB h1.l jn = some (some (.cells (ns.map iC) false)) := by rw [a4 jn hjn hjb hjv]; exact hi
    have x1 : b < h1.next := by omega
    have x2 : b < h1.next + 1 := by omega
    have y1 : ¬ h1.next = b := by omega
    have zi := xzn .i64 i
    simp only [qzx, qzl, wp_draw, qzm, qzw, qzP, qzq, qzg, qzk, qzV, qzO, qzf, qze, qzd, qzp, qzC, xzu, xzs, xzD, wpXA_w, qzc, qzj, qzb, qzh, qzi, xzw, xzx, qzL, qzn, qzo, qzu, qza, qzt, qzv, qzy, xzb, qzH, qzD, qzA, cv, qzF, qzE, toA, ofA, FR.pop, abin, intBin, qzs, countN, xzn, ↓reduceIte, Option.getD_some, Nat.reduceEqDiff, Nat.zero_add, and_true, decide_true, forall_const, false_implies, Bool.true_eq_false, t6, t7, t8, c, hlt, he', hi1, hu, Nat.mul_one]
    refine call_own (putNil Gl e (by omega)) rfl (plainL_flat (fun _ => rfl) _) ?_
    simp only [xzu, xzs, xzD, wpXA_r, wpXA_w, kX_app, qzc, qzj, qzb, xzw, xzx, qzn, qzo, qzu, qza, qzt, qzv, qzy, qzJ, nilChkV, qzH, qzD, qzA, VH.push, qzs, mayRead, lowB, fzB, fzL, apartB, liveB, refsOKL, refsOK, idsL, idsV, ↓reduceIte, Option.getD_some, Option.isSome_some, Option.map_some, List.getElem?_cons_zero, List.append_nil, List.contains_nil, Nat.reduceEqDiff, reduceCtorEq, Nat.add_zero, and_self, true_and, Bool.and_self, Bool.or_false, Bool.or_true, Bool.not_false, decide_true, reduceCtorEq, t0, x1, y1, a1]
    obtain ⟨w1, w2⟩ := flat_all cB_len (putS e)
    have pl := putS_pos e
    have p10 := putS_10 (n := e) (by omega)
    have fX : ∀ k, k < h1.next → qzB ((h1.next, some (VB.cells (xzq cB (putS e)) false)) :: h1.l) k = qzB h1.l k := fun k hk => by simp only [qza]; rw [if_neg (by omega)]
    have acc2 : AccE 0 ⟨(h1.next, some (VB.cells (xzq cB (putS e)) false)) :: h1.l, h1.next + 1⟩ j1 cB (X ++ numsB (ns.take i)) 1 v1 := Go.VL.Wire.AccE.ext a2 (by show h1.next ≤ h1.next + 1; omega) (fun _ q => fX j1 q)
    refine wpW_accE (ls := putS e) acc2 (by simp only [srcV, winV, qzs, qza, Option.getD_some, Nat.zero_add, w1, w2, List.drop_zero, true_or, if_true]) (by intro e; rw [e] at pl; simp at pl) cB_len (by omega) (Nat.zero_le _) (by rw [List.length_append]; omega) (by rw [List.length_append]; omega) ?_
    intro h3 g1 g2 g3
    simp only at g1 g2
    have bi : qzB h3.l b = some (some (.cells [v1] false)) := by
      rw [g2 b (by omega) a3, fX b x1]; exact a1
    simp only [qzl, qzk, qzR, xzc, qzf, qze, qzd, qzp, wpX_nil, xzu, xzs, xzD, wpXA_w, kX_app, qzc, qzb, xze, qzh, qzi, xzw, xzx, xzg, qzn, qzo, qzu, qza, qzt, qzv, qzy, qzJ, nilChkV, xzh, xzl, xzt, cv, qzF, qzE, toA, ofA, FR.pop, abin, intBin, VH.set, qzs, VV.cells, ntV, qzZ, xzz, ↓reduceIte, Option.getD_some, Option.map_some, List.length_cons, List.length_nil, List.drop_succ_cons, List.drop_zero, List.take_zero, List.append_nil, List.nil_append, List.head?_cons, Nat.reduceEqDiff, reduceCtorEq, Nat.reduceLeDiff, Nat.add_zero, Nat.zero_add, and_self, reduceCtorEq, bi, t0, t8, hw]
    have q2 := wrq_app (h := h1) (h0 := ⟨(h1.next, some (VB.cells (xzq cB (putS e)) false)) :: h1.l, h1.next + 1⟩) x1 a3 (by show h1.next ≤ h1.next + 1; omega) fX g1 g2 g3
    refine ih (i + 1) _ _ (by omega) (by rw [nb]; exact wrq_snoc hb a4 a5 a6 q2) ?_ ?_ ?_ ?_
    · simp only [qza, ↓reduceIte, reduceCtorEq, reduceCtorEq, t0]
    · simp only [qza, ↓reduceIte, Nat.reduceEqDiff, t6]
    · simp only [qza, ↓reduceIte, Nat.reduceEqDiff, t7]
    · simp only [qza, ↓reduceIte]
theorem WrQ.refl {b j : Nat} {v : VV} {X : List Nat} {h : VH} (hi : qzB h.l b = some (some (.cells [v] false))) (ha : AccE 0 h j cB X 1 v) (hbj : b ≠ j ∨ v = .nilS) : WrQ b j v X [] h h :=
  ⟨j, v, hi, by rw [List.append_nil]; exact ha, hbj, fun _ _ _ _ => rfl, Nat.le_refl _, .inl ⟨rfl, rfl⟩⟩
theorem num_run {Gl : xzv} (ns : List Nat) (hn : ∀ n ∈ ns, n < 9223372036854775808) (hl : ns.length < 100000) (b jn : Nat) (hjb : jn ≠ b) (j : Nat) (v : VV) (X : List Nat) (h : VH) (hX : X.length + (numsB ns).length < 1000000000) (hb : b < h.next) (hjn : jn < h.next) (hjv : jn ≠ j ∨ v = .nilS) (hi : qzB h.l jn = some (some (.cells (ns.map iC) false)))
    (hw : qzB h.l b = some (some (.cells [v] false))) (ha : AccE 0 h j cB X 1 v) (hbj : b ≠ j ∨ v = .nilS) :
    CallsV Go.VL.Er.E Gl f_encode_writer_num [.ptr b 0, .slice jn 0 ns.length 1 (.exact ns.length)] h (fun _ h' => WrQ b j v X (numsB ns) h h') := by
  refine xzp E_encode_writer_num ?_
  unfold c_encode_writer_num r_encode_writer_num
  simp only [xzF]
  simp only [qzl, qzm, qzw, qzk, qzf, qze, qzd, qzp, qzc, qzb, qzh, qzi, qzn, qzo, qzu, qza, qzt, qzv, qzy, qzY, cv, ↓reduceIte, reduceCtorEq, Nat.zero_add, reduceCtorEq]
  refine num_loop ns hn hl b jn hjb j v X h hX hb hjn hjv hi _ ?_ ns.length 0 _ _ (by omega) (WrQ.refl hw ha hbj) ?_ ?_ ?_ ?_
  · intro T h' q
    simp only [xzk, Ends_n, qzT, qzM, qzS, ↓reduceIte]
    exact q
  all_goals first | (simp only [qza, ↓reduceIte, Nat.reduceEqDiff, reduceCtorEq, reduceCtorEq]; done) | (simp only [qza, ↓reduceIte]; rfl)
end
end Go.VL.En
