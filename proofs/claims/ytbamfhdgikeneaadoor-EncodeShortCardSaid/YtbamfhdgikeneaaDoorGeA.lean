import Derived.Test.YtbamfhdgikeneaaDoorWiA
import Derived.Test.YtbamfhdgikeneaaDoorEnA
/- Chapter 2: bytes as a number. -/
namespace Go.VL.Wire
open Go.FR Go.IR Go.VL Go.VL.Er
noncomputable section
set_option linter.unusedSimpArgs false
set_option linter.unusedVariables false
set_option maxRecDepth 100000
set_option maxHeartbeats 1000000

inductive Got where
  | short
  | varint
  | got (n k : Nat)
def getL : List Nat → Nat → Nat → Got
  | [], _, _ => .short
  | x :: r, k, n => if (k = 9 ∧ 1 < x) ∨ (x = 0 ∧ 0 < k) then .varint else if x < 128 then .got (n + x * 128 ^ k) (k + 1) else getL r (k + 1) (n + (x % 128) * 128 ^ k)

/-- What is got of these from a place on. -/
structure GotS where
  n : Nat
  k : Int
  e : ErrV
def getS (bs : List Nat) (at_ : Int) : GotS :=
  if at_ < 0 ∨ (bs.length : Int) < at_ then ⟨0, 0, .placed 6 at_⟩ else match getL (bs.drop at_.toNat) 0 0 with
    | .short => ⟨0, 0, .placed 6 at_⟩
    | .varint => ⟨0, 0, .placed 8 at_⟩
    | .got n k => ⟨n, at_ + k, .none⟩
def GotS.v (g : GotS) : VV := .tuple [.int .u64 (g.n : Int), .int .i64 g.k, g.e.v]

end
end Go.VL.Wire

/- Chapter 2: what is put is got. In plain numbers. -/
namespace Go.VL.Wire
open Go.FR Go.IR Go.VL Go.VL.Er
noncomputable section
set_option linter.unusedSimpArgs false
set_option linter.unusedVariables false
set_option maxRecDepth 100000
set_option maxHeartbeats 1000000

theorem pow_ge9 {m k : Nat} (h9 : 9 < k + 1) (hk : k ≤ 9) (h : m * 128 ^ k < 18446744073709551616) : m ≤ 1 := by
  obtain rfl : k = 9 := by omega
  simp only [Nat.reducePow] at h
  omega
theorem pow_split (m k : Nat) : (m / 128) * 128 ^ (k + 1) + (m % 128) * 128 ^ k = m * 128 ^ k := by
  rw [Nat.pow_succ, ← Nat.mul_assoc, Nat.mul_right_comm, ← Nat.add_mul]
  congr 1; omega
theorem get_put : ∀ (m : Nat) (r : List Nat) (k acc : Nat), k ≤ 9 → m * 128 ^ k + acc < 18446744073709551616 → (0 < k → 0 < m) → getL (putS m ++ r) k acc = .got (acc + m * 128 ^ k) (k + (putS m).length) := fun m => by
  induction m using Nat.strongRecOn with
  | _ m ih =>
    intro r k acc hk hm h0
    by_cases c : m < 128
    · rw [putS_lt c, List.cons_append, List.nil_append, getL, if_neg, if_pos c]
      · rfl
      · rintro (⟨h1, h2⟩ | ⟨h1, h2⟩)
        · have := pow_ge9 (m := m) (k := k) (by omega) hk (by omega); omega
        · have := h0 h2; omega
    · have k9 : k ≠ 9 := fun e => by have := pow_ge9 (m := m) (k := k) (by omega) hk (by omega); omega
      rw [putS_ge c, List.cons_append, getL, if_neg (by omega), if_neg (by omega), show (m % 128 + 128) % 128 = m % 128 by omega]
      have hs := pow_split m k
      rw [ih (m / 128) (by omega) r (k + 1) _ (by omega) (by omega) (by omega), List.length_cons]
      congr 1
      · omega
      · omega
/-- The last byte, told to go on. -/
def moreS (m : Nat) : List Nat := if m < 128 then [m + 128] else (m % 128 + 128) :: moreS (m / 128)
termination_by m
decreasing_by omega
end
end Go.VL.Wire

/- Chapter 2: what the laws of bytes share. -/
namespace Go.VL.Wire
open Go.FR Go.IR Go.VL Go.VL.Er
noncomputable section
set_option linter.unusedSimpArgs false
set_option linter.unusedVariables false
set_option maxRecDepth 100000
set_option maxHeartbeats 1000000

theorem flat1_len (l : List Nat) : (xzk cB l).length = l.length := by rw [flatL_length cB_len, Nat.mul_one]
theorem own1_shut {h : VH} {X : List Nat} {j n : Nat} (hj : qzw h.l j = some (some (.cells (xzk cB X) false))) (hn : X.length = n) : shut h (.slice j 0 n 1 (.toEnd 1)) = some (.fsl (xzk cB X) X.length 1) := by
  have hcl := closedL_flat (f := cB) (fun _ => rfl) X
  obtain ⟨h1, h2⟩ := flat_all cB_len X
  subst hn
  simp only [shut, qzq, hj, Option.getD_some, hcl, Nat.zero_add, h1, capOK, List.drop_zero, h2, and_self, if_true]
end
end Go.VL.Wire

/- Chapter 2: a number put behind bytes. -/
namespace Go.VL.Wire
open Go.FR Go.IR Go.VL Go.VL.Er
noncomputable section
set_option linter.unusedSimpArgs false
set_option linter.unusedVariables false
set_option maxRecDepth 100000
set_option maxHeartbeats 1000000

theorem wpW_app0 {E : Env} {Gl : xzt} {h : VH} {K : VV → VH → Option (List Nat × Bool) → Prop} {esz eb n : Nat} {v x : VV} {cs : List VV} (hs : srcV h esz x = some (0, cs)) (hn : lenOfV v = some n) (hk : K v h (some (xzz (some v), true))) : wpW E Gl (.append esz eb) [v, x] h K := by
  rw [wpW_append]
  simp only [appendV, hs, hn, optW]
  exact hk

theorem cloneB_run (Gl : xzt) (bs : List Nat) (hl : bs.length < 100000) (e : Nat) (he : e = 1 ∨ bs = []) (h : VH) :
    CallsV Go.VL.Wire.E Gl f_slices_Clone__byte_byte [.fsl (xzk cB bs) bs.length e] h (fun r h' => (∃ j, AccE h.next h' j cB bs 1 r) ∧ h.next ≤ h'.next) := by
  refine xzf E_slices_Clone__byte_byte ?_
  unfold c_slices_Clone__byte_byte r_slices_Clone__byte_byte
  simp only [xzB]
  cases bs with
  | nil =>
    simp only [qzk, qzo, qzi, qzf, qze, qzd, qzp, qzF, qzc, qzb, qzg, qzh, qzl, qzm, qzt, qza, qzs, qzu, qzx, qzL, xzI, xzJ, eqSV, cv, ↓reduceIte, List.length_nil, reduceCtorEq, reduceCtorEq]
    rw [optR_none rfl]
    intro b
    cases b
    · simp only [qzz, qzk, qzo, qzH, qzv, qzn, qzi, qzR, qzf, qze, qzd, qzp, qzX, qzN, qzK, qzc, qzE, qzb, qzg, qzh, qzO, qzl, qzm, qzt, qza, qzs, qzu, qzx, xzh, xzv, cvs, cv, VN.at, VH.push, qzQ, qzM, qzT, qzP, ↓reduceIte, List.length_nil, Nat.reduceDiv, Nat.reduceEqDiff, reduceCtorEq, true_and, Bool.false_eq_true, forall_const, false_implies, reduceCtorEq]
      refine wpW_app0 (n := 0) (cs := []) (by simp only [srcV, flatL_nil, or_true, if_true]) rfl ?_
      simp only [qzH, qzi, qzf, qze, qzd, qzp, qzy, qzK, qzc, qzb, qzg, qzh, qzl, qzm, qzt, qza, qzs, qzu, qzx, qzQ, qzM, qzT, qzP, xzz, ↓reduceIte]
      exact ⟨⟨h.next, .inr ⟨0, .inr rfl, rfl, by simp only [qza, if_true]; rfl, Nat.le_refl _, Nat.lt_succ_self _⟩⟩, Nat.le_succ _⟩
    · simp only [qzz, qzk, qzo, qzH, qzv, qzn, qzi, qzR, qzf, qze, qzd, qzp, qzX, qzN, qzK, qzc, qzE, qzb, qzg, qzh, qzO, qzl, qzm, qzt, qza, qzs, qzu, qzx, xzh, xzv, cvs, cv, VN.at, VH.push, qzQ, qzM, qzT, qzP, ↓reduceIte, List.length_nil, Nat.reduceDiv, Nat.reduceEqDiff, reduceCtorEq, and_true, forall_const, false_implies, Bool.true_eq_false, reduceCtorEq]
      exact ⟨⟨0, .inl AccAt.nil⟩, Nat.le_refl _⟩
  | cons x l =>
    obtain rfl : e = 1 := by rcases he with rfl | he; rfl; cases he
    simp only [qzz, qzk, qzo, qzH, qzv, qzn, qzi, qzR, qzf, qze, qzd, qzp, qzF, qzX, qzN, qzK, qzc, qzj, qzE, qzb, qzg, qzh, qzO, qzl, qzm, qzt, qza, qzs, qzu, qzx, qzL, xzI, xzJ, eqSV, xzh, xzv, cvs, cv, VN.at, VH.push, qzQ, qzM, qzT, qzP, ↓reduceIte, List.length_cons, List.length_nil, Nat.reduceDiv, Nat.reduceEqDiff, reduceCtorEq, true_and, Bool.false_eq_true, forall_const, false_implies, reduceCtorEq]
    refine wpW_accE (base := h.next) (j := h.next) (f := cB) (l := []) (ls := x :: l) (.inr ⟨0, .inr rfl, rfl, by simp only [qza, if_true]; rfl, Nat.le_refl _, Nat.lt_succ_self _⟩) (by simp only [srcV, true_or, if_true, List.length_cons]) (by simp) cB_len (by omega) (Nat.le_succ _) (by simp at *; omega) (by simp at *; omega) ?_
    intro h' g1 g2 g4
    simp only [qzH, qzi, qzf, qze, qzd, qzp, qzy, qzK, qzc, qzb, qzg, qzh, qzl, qzm, qzt, qza, qzs, qzu, qzx, qzQ, qzM, qzT, qzP, xzz, ↓reduceIte, List.length_cons, List.length_nil, Nat.zero_add]
    simp only [List.nil_append, List.length_nil, Nat.zero_add] at g4
    exact ⟨⟨_, .inl g4⟩, by simp only at g1; omega⟩

theorem putC (Gl : xzt) (bs : List Nat) (hl : bs.length < 90000) (e : Nat) (he : e = 1 ∨ bs = []) (n : Nat) (hn : n < 18446744073709551616) :
    PureOwn Go.VL.Wire.E Gl f_wire_Put [.fsl (xzk cB bs) bs.length e, .int .u64 (n : Int)] (xzk cB (bs ++ putS n)) 0 (bs ++ putS n).length 1 (.toEnd 1) := by
  refine own_sound (xzf E_wire_Put ?_)
  unfold c_wire_Put r_wire_Put
  simp only [xzB]
  simp only [qzk, qzo, qzi, qzf, qze, qzd, qzp, qzN, qzc, qzb, qzg, qzh, qzD, qzl, qzm, qzt, qza, qzs, qzu, qzx, cv, qzq, h0, ↓reduceIte, reduceCtorEq, Nat.zero_add, reduceCtorEq]
  refine xzC (cloneB_run Gl bs (by omega) e he _) ?_
  rintro r h' ⟨⟨j, acc⟩, hn'⟩
  have acc' : AccE 0 h' j cB bs 1 r := by
    rcases acc with a | ⟨e, a1, a2, a3, a4, a5⟩
    · exact .inl (a.low (Nat.zero_le _))
    · exact .inr ⟨e, a1, a2, a3, Nat.zero_le _, a5⟩
  simp only [qzo, qzC, qzi, qzf, qze, qzd, qzp, qzy, qzc, qzb, qzg, qzh, qzl, qzm, qzt, qza, qzs, qzu, qzx, ↓reduceIte]
  refine put_end Gl n _ h' j r hn ?_ ?_ bs (by omega) acc' _ (fun h'' i hi => ⟨i, _, rfl, by rw [hi]; rfl, closedL_flat (fun _ => rfl) _, subL_refl _⟩)
  · simp only [qza, ↓reduceIte]
  · simp only [qza, ↓reduceIte, Nat.reduceEqDiff, reduceCtorEq, reduceCtorEq]
end
end Go.VL.Wire

/- Chapter 6: a writer's parts. -/
namespace Go.VL.En
open Go.FR Go.IR Go.VL Go.VL.Color Go.VL.Wind Go.VL.Ic Go.VL.Wire
noncomputable section
set_option linter.unusedSimpArgs false
set_option linter.unusedVariables false
set_option maxRecDepth 100000
set_option maxHeartbeats 1000000

/-- What a writer's part leaves: so many bytes more. -/
def WrQ (b j : Nat) (v : VV) (X bs : List Nat) (h : VH) (h' : VH) : Prop := ∃ j' v', qzw h'.l b = some (some (.cells [v'] false)) ∧ AccE 0 h' j' cB (X ++ bs) 1 v' ∧ (b ≠ j' ∨ v' = .nilS) ∧ (∀ k, k < h.next → k ≠ b → (k ≠ j ∨ v = .nilS) → qzw h'.l k = qzw h.l k) ∧ h.next ≤ h'.next ∧ (j' = j ∧ v' = v ∨ h.next ≤ j')
/-- A writer's part, in the caller's heap. -/
def Wr (f : Nat) (args : Nat → List VV) (bs : List Nat) (m : Nat := 0) : Prop := ∀ (Gl : xzt) (h : VH) (b j : Nat) (v : VV) (X : List Nat), qzw h.l b = some (some (.cells [v] false)) → AccE 0 h j cB X 1 v → b < h.next → (b ≠ j ∨ v = .nilS) → X.length + bs.length + m < 1000000000 →
  CallsV Go.VL.Er.E Gl f (args b) h (fun _ h' => WrQ b j v X bs h h')
theorem WrQ.trans {b j j1 : Nat} {v v1 : VV} {X bs cs : List Nat} {h h1 h2 : VH} (hb : b < h.next) (f1 : ∀ k, k < h.next → k ≠ b → (k ≠ j ∨ v = .nilS) → qzw h1.l k = qzw h.l k) (n1 : h.next ≤ h1.next) (d1 : j1 = j ∧ v1 = v ∨ h.next ≤ j1) (p2 : WrQ b j1 v1 (X ++ bs) cs h1 h2) : WrQ b j v X (bs ++ cs) h h2 := by
  obtain ⟨j2, v2, a1, a2, a3, a4, a5, a6⟩ := p2
  refine ⟨j2, v2, a1, by rw [← List.append_assoc]; exact a2, a3, fun k k1 k2 k3 => ?_, by omega, ?_⟩
  · rw [a4 k (by omega) k2 ?_, f1 k k1 k2 k3]
    rcases d1 with ⟨rfl, rfl⟩ | d1
    · exact k3
    · exact .inl (by omega)
  · rcases a6 with ⟨rfl, rfl⟩ | a6
    · exact d1
    · exact .inr (by omega)
theorem AccE.ne {α : Type} {base : Nat} {h : VH} {j : Nat} {f : α → List VV} {l : List α} {esz : Nat} {v : VV} (a : AccE base h j f l esz v) {k : Nat} (hk : k < base ∨ h.next ≤ k) : k ≠ j ∨ v = .nilS := by
  rcases a with a | ⟨e, _, _, _, a4, a5⟩
  · exact a.ne hk
  · exact .inl (by omega)
/-- The same as an append leaves it. -/
theorem wrq_app {b j : Nat} {v x : VV} {X bs : List Nat} {h h0 h3 : VH} (hb : b < h.next) (hbj : b ≠ j ∨ v = .nilS) (hn : h.next ≤ h0.next) (hf : ∀ k, k < h.next → qzw h0.l k = qzw h.l k) (g1 : h3.next = h0.next + 1) (g2 : ∀ k, k ≠ h0.next → k ≠ j ∨ v = .nilS → qzw h3.l k = qzw h0.l k) (g3 : AccAt 0 h3 h0.next cB (X ++ bs) 1 x) :
    WrQ b j v X bs h ⟨(b, some (.cells [x] false)) :: h3.l, h3.next⟩ := by
  refine ⟨h0.next, x, by simp only [qza, if_true], .inl (g3.ext (Nat.le_refl _) (fun _ q => by simp only [qza]; rw [if_neg (by omega)])), .inl (by omega), fun k k1 k2 k3 => ?_, by show h.next ≤ h3.next; omega, .inr hn⟩
  simp only [qza]
  rw [if_neg (Ne.symm k2), g2 k (by omega) k3, hf k k1]

def colorB (c : Cl) : List Nat := [c.r, c.g, c.b, c.a]
theorem color_wr (c : Cl) (hc : c.In) : Wr f_encode_writer_color (fun b => [.ptr b 0, .agg (cCl c)]) (colorB c) := by
  intro Gl h b j v X hi ha hb hbj hX
  refine xzf E_encode_writer_color ?_
  unfold c_encode_writer_color r_encode_writer_color
  simp only [xzB]
  have e1 : ¬ h.next = b := by omega
  simp only [qzk, xzM, qzo, qzi, qzf, qze, qzd, qzX, xzr, xzp, xzD, xzT, wpXA_n, xzN, qzc, qzj, qzE, qzb, qzg, qzO, xzx, xzy, kXN_app, qzl, qzm, qzt, qza, qzs, qzu, qzx, qzG, nilChkV, qzL, qzB, xzh, xzF, xzv, qzW, qzA, cvs, cv, VN.at, VH.push, qzq, VV.cells, ntV, countN, xzK, xzS, xzV, xzL, xzU, xzX, xzY, ↓reduceIte, Option.getD_some, Option.isSome_some, List.getElem?_cons_zero, List.getElem?_cons_succ, List.length_cons, List.length_nil, List.drop_succ_cons, List.drop_zero, List.take_succ_cons, List.take_zero, List.append_nil, List.nil_append, List.cons_append, List.contains_nil, Nat.reduceAdd, Nat.reduceDiv, Nat.reduceLT, Nat.reduceEqDiff, reduceCtorEq, Nat.reduceLeDiff, Nat.add_zero, Nat.zero_add, and_self, true_and, Bool.and_self, Bool.not_false, reduceCtorEq, cCl, e1, hi]
  have acc2 : AccE 0 ⟨(h.next + 1, some (VB.cells (xzk cB (colorB c)) false)) :: (h.next, some (.cells (cCl c) false)) :: h.l, h.next + 1 + 1⟩ j cB X 1 v := Go.VL.Wire.AccE.ext ha (by show h.next ≤ h.next + 1 + 1; omega) (fun _ q => by simp only [qza]; rw [if_neg (by omega), if_neg (by omega)])
  refine wpW_accE (ls := colorB c) acc2 (by simp only [colorB]; simp only [qza, srcV, winV, qzq, ↓reduceIte, Option.getD_some, List.length_cons, List.length_nil, List.drop_zero, List.take_succ_cons, List.take_zero, Nat.reduceAdd, Nat.reduceMul, reduceCtorEq, Nat.reduceLeDiff, Nat.zero_add, true_or, reduceCtorEq, true_or] <;> first | rfl | exact ⟨rfl, rfl⟩ | exact qzr rfl) (by simp [colorB]) cB_len (by omega) (Nat.zero_le _) (by simp [colorB] at hX ⊢; omega) (by simp [colorB] at hX ⊢; omega) ?_
  intro h3 g1 g2 g3
  simp only at g1 g2 g3
  have bi : qzw h3.l b = some (some (.cells [v] false)) := by
    rw [g2 b (by omega) hbj]; simp only [qza]; rw [if_neg (by omega), if_neg (by omega)]; exact hi
  simp only [xzO, xzr, xzp, xzD, xzN, xzQ, Ends_n, qzc, qzb, xza, xzx, xzy, xzb, qzl, qzm, qzt, qza, qzs, qzu, qzx, qzG, nilChkV, qzW, xzg, xzq, VH.set, qzq, VV.cells, ntV, qzQ, qzM, qzP, qzS, xzz, ↓reduceIte, Option.getD_some, Option.map_some, List.length_cons, List.length_nil, List.drop_succ_cons, List.drop_zero, List.take_zero, List.append_nil, List.nil_append, List.head?_cons, Nat.reduceEqDiff, reduceCtorEq, Nat.reduceLeDiff, Nat.add_zero, Nat.zero_add, and_self, reduceCtorEq, bi]
  exact wrq_app (h0 := ⟨_, h.next + 1 + 1⟩) hb hbj (by show h.next ≤ h.next + 1 + 1; omega) (fun k hk => by simp only [qza]; rw [if_neg (by omega), if_neg (by omega)]) g1 g2 g3
def pointB (p : Pt) : List Nat := putS (zigS p.x) ++ putS (zigS p.y)
theorem point_wr (p : Pt) (h1 : -9223372036854775808 ≤ p.x) (h2 : p.x ≤ 9223372036854775807) (h3 : -9223372036854775808 ≤ p.y) (h4 : p.y ≤ 9223372036854775807) : Wr f_encode_writer_point (fun b => [.ptr b 0, .agg (cPt p)]) (pointB p) := by
  intro Gl h b j v X hi ha hb hbj hX
  refine xzf E_encode_writer_point ?_
  unfold c_encode_writer_point r_encode_writer_point
  simp only [xzB]
  have e1 : ¬ h.next = b := by omega
  have z1 := zig_lt h1 h2
  have z2 := zig_lt h3 h4
  have x1 : b < h.next + 1 := by omega
  have x2 : b < h.next + 1 + 1 := by omega
  have x3 : b < h.next + 1 + 1 + 1 := by omega
  have y1 : h.next < h.next + 1 := by omega
  have y2 : ¬ h.next + 1 = h.next := by omega
  have y3 : ¬ h.next + 1 = b := by omega
  have y4 : ¬ h.next + 1 + 1 = b := by omega
  have y5 : ¬ h.next + 1 + 1 = h.next := by omega
  have k1 := putS_10 z1
  have k2 := putS_10 z2
  simp only [qzk, xzM, qzo, qzi, qzf, qze, qzd, qzX, xzr, xzp, xzD, xzT, xzN, qzc, qzj, qzE, qzb, qzg, qzO, xzx, xzy, qzD, qzl, qzm, qzt, qza, qzs, qzu, qzG, qzL, qzB, xzh, xzF, qzA, VN.at, VH.push, qzq, VV.cells, ntV, countN, xzK, xzS, xzV, xzL, xzU, xzX, xzY, ↓reduceIte, Option.getD_some, Option.isSome_some, List.getElem?_cons_zero, List.append_nil, List.contains_nil, reduceCtorEq, Nat.add_zero, Nat.zero_add, and_self, true_and, Bool.and_self, Bool.not_false, reduceCtorEq, cPt]
  refine qzZ (zig_ok Gl p.x h1 h2) rfl rfl ?_
  simp only [xzr, xzp, xzN, xzQ, qzb, xzx, qzD, qzl, qzm, qzt, qza, qzs, cv, ↓reduceIte, Option.map_some, List.append_nil]
  refine call_own (putNil Gl (zigS p.x) z1) rfl (plainL_flat (fun _ => rfl) _) ?_
  simp only [xzr, xzp, xzD, xzT, xzN, xzQ, qzc, qzj, qzb, xzx, xzy, qzD, qzl, qzm, qzt, qza, qzs, qzu, qzG, qzL, qzB, qzA, VH.push, qzq, xzK, lowB, fzB, fzL, xzS, xzV, xzL, xzU, xzX, xzY, ↓reduceIte, Option.getD_some, Option.isSome_some, Option.map_some, List.getElem?_cons_zero, List.getElem?_cons_succ, List.append_nil, List.contains_nil, Nat.reduceEqDiff, Nat.zero_add, and_self, true_and, Bool.and_self, Bool.or_false, Bool.or_true, Bool.not_false, decide_true, y1, y2]
  refine qzZ (zig_ok Gl p.y h3 h4) rfl rfl ?_
  simp only [xzr, xzp, xzN, xzQ, qzb, xzx, qzD, qzl, qzm, qzt, qza, qzs, ↓reduceIte, Option.map_some, List.append_nil, Nat.reduceEqDiff]
  have hsh := own1_shut (h := VH.mk ((h.next + 1, some (.cells (xzk cB (putS (zigS p.x))) false)) :: (h.next, some (.cells (cPt p) false)) :: h.l) (h.next + 1 + 1)) (X := putS (zigS p.x)) (j := h.next + 1) (n := (putS (zigS p.x)).length) (by simp only [qza, if_true]) rfl
  refine call_own_sub (a0 := [.fsl (xzk cB (putS (zigS p.x))) (putS (zigS p.x)).length 1, .int .u64 (zigS p.y : Int)]) (putC Gl (putS (zigS p.x)) (by omega) 1 (.inl rfl) (zigS p.y) z2) (by simp only [shutL]; rw [hsh]; rfl) (subL_refl _) (plainL_flat (fun _ => rfl) _) ?_
  simp only [xzr, xzp, xzD, xzT, xzN, xzQ, qzc, qzj, qzb, xzx, xzy, qzl, qzm, qzt, qza, qzs, qzu, qzx, qzG, nilChkV, qzL, qzB, qzA, VH.push, qzq, xzK, lowB, fzB, fzL, xzS, xzV, xzL, xzU, xzX, xzY, ↓reduceIte, Option.getD_some, Option.isSome_some, Option.map_some, List.getElem?_cons_zero, List.append_nil, List.contains_nil, Nat.reduceEqDiff, reduceCtorEq, Nat.add_zero, and_self, true_and, Bool.and_self, Bool.or_false, Bool.or_true, Bool.not_false, decide_true, reduceCtorEq, e1, hi, x1, x2, y3, y4]
  have len : (putS (zigS p.x) ++ putS (zigS p.y)).length = (pointB p).length := rfl
  obtain ⟨hX', eX⟩ : ∃ hX' : VH, VH.mk ((h.next + 1 + 1, some (VB.cells (xzk cB (putS (zigS p.x) ++ putS (zigS p.y))) false)) :: (h.next + 1, some (VB.cells (xzk cB (putS (zigS p.x))) false)) :: (h.next, some (VB.cells (cPt p) false)) :: h.l) (h.next + 1 + 1 + 1) = hX' := ⟨_, rfl⟩
  have fX : ∀ k, k < h.next → qzw hX'.l k = qzw h.l k := fun k hk => by rw [← eX]; simp only [qza]; rw [if_neg (by omega), if_neg (by omega), if_neg (by omega)]
  have nX : hX'.next = h.next + 1 + 1 + 1 := by rw [← eX]
  have aX : qzw hX'.l (h.next + 1 + 1) = some (some (.cells (xzk cB (pointB p)) false)) := by rw [← eX]; simp only [qza, if_true]; rfl
  have acc2 : AccE 0 hX' j cB X 1 v := Go.VL.Wire.AccE.ext ha (by omega) (fun _ q => fX j q)
  rw [eX]
  obtain ⟨w1, w2⟩ := flat_all cB_len (pointB p)
  have wz : (xzk cB (pointB p)).length = (pointB p).length := flat1_len _
  have pl : 0 < (pointB p).length := by unfold pointB; rw [List.length_append]; have := putS_pos (zigS p.x); omega
  have pb : (pointB p).length ≤ 20 := by unfold pointB; rw [List.length_append]; omega
  refine wpW_accE (ls := pointB p) acc2 (by rw [len]; simp only [srcV, winV, qzq, aX, Option.getD_some, Nat.zero_add, w1, w2, List.drop_zero, true_or, if_true]) (by intro e; rw [e] at pl; simp at pl) cB_len (by omega) (Nat.zero_le _) (by omega) (by omega) ?_
  intro h3 g1 g2 g3
  have bi : qzw h3.l b = some (some (.cells [v] false)) := by
    rw [g2 b (by omega) hbj]; rw [fX b hb]; exact hi
  simp only [xzO, xzr, xzp, xzD, xzN, xzQ, Ends_n, qzc, qzb, xza, xzx, xzy, xzb, qzl, qzm, qzt, qza, qzs, qzu, qzx, qzG, nilChkV, qzW, xzg, xzq, VH.set, qzq, VV.cells, ntV, qzQ, qzM, qzP, qzS, xzz, ↓reduceIte, Option.getD_some, Option.map_some, List.length_cons, List.length_nil, List.drop_succ_cons, List.drop_zero, List.take_zero, List.append_nil, List.nil_append, List.head?_cons, Nat.reduceEqDiff, reduceCtorEq, Nat.reduceLeDiff, Nat.add_zero, Nat.zero_add, and_self, reduceCtorEq, bi]
  exact wrq_app (h0 := hX') hb hbj (by omega) fX g1 g2 g3
end
end Go.VL.En
