/- Chapter 2: numbers as bytes. -/
import Derived.Test.YtbamfhdgikeneaaDoorVlJ
import Derived.Test.YtbamfhdgikeneaaDoorIrA
namespace Go.VL.Wire
open Go.FR Go.IR Go.VL
noncomputable section
set_option linter.unusedSimpArgs false
set_option linter.unusedVariables false
set_option maxRecDepth 100000
set_option maxHeartbeats 1000000
abbrev E := lookE envL

/-- A number's bytes. -/
def putS (n : Nat) : List Nat := if n < 128 then [n] else (n % 128 + 128) :: putS (n / 128)
termination_by n
decreasing_by omega
abbrev cB (b : Nat) : List VV := [.int .u8 (b : Int)]
theorem cB_len (b : Nat) : (cB b).length = 1 := rfl
theorem putS_lt {n : Nat} (h : n < 128) : putS n = [n] := by rw [putS, if_pos h]
theorem putS_ge {n : Nat} (h : ¬ n < 128) : putS n = (n % 128 + 128) :: putS (n / 128) := by rw [putS, if_neg h]
theorem putS_pos (n : Nat) : 0 < (putS n).length := by
  rw [putS]; split <;> simp
theorem putS_len : ∀ (k n : Nat), n < 128 ^ (k + 1) → (putS n).length ≤ k + 1
  | 0, n, h => by rw [putS_lt (by simpa using h)]; simp
  | k + 1, n, h => by
    by_cases c : n < 128
    · rw [putS_lt c]; simp
    · rw [putS_ge c]
      have := putS_len k (n / 128) (by rw [Nat.div_lt_iff_lt_mul (by omega)]; rw [Nat.pow_succ] at h; exact h)
      simp only [List.length_cons]; omega
theorem putS_10 {n : Nat} (h : n < 18446744073709551616) : (putS n).length ≤ 10 := putS_len 9 n (by omega)
theorem wrap_u8 (n : Nat) : IntKind.u8.wrap (n : Int) = ((n % 256 : Nat) : Int) := by
  show ((n : Int) % 256) = _
  omega
theorem or128 (x : Nat) (h : x < 256) : IntKind.u8.wrap ((BitVec.ofInt IntKind.u8.bits (x : Int) ||| BitVec.ofInt IntKind.u8.bits 128).toNat : Int) = ((x % 128 + 128 : Nat) : Int) := by
  have key : ∀ x : Fin 256, IntKind.u8.wrap ((BitVec.ofInt IntKind.u8.bits ((x.val : Nat) : Int) ||| BitVec.ofInt IntKind.u8.bits 128).toNat : Int) = ((x.val % 128 + 128 : Nat) : Int) := by decide +kernel
  exact key ⟨x, h⟩

theorem AccE.ext {α : Type} {base : Nat} {h h' : VH} {j : Nat} {f : α → List VV} {l : List α} {esz : Nat} {v : VV} (a : AccE base h j f l esz v) (hn : h.next ≤ h'.next) (hl : base ≤ j → j < h.next → qzB h'.l j = qzB h.l j) : AccE base h' j f l esz v := by
  rcases a with a | ⟨e, a1, a2, a3, a4, a5⟩
  · exact .inl (a.ext hn hl)
  · exact .inr ⟨e, a1, a2, by rw [hl a4 a5]; exact a3, a4, by omega⟩

theorem cloneNil (Gl : xzv) : PureOk E Gl f_slices_Clone__byte_byte [.nilS] .nilS := by
  refine pure_sound (xzp E_slices_Clone__byte_byte ?_)
  unfold c_slices_Clone__byte_byte r_slices_Clone__byte_byte
  simp only [xzF]
  simp only [qzx, qzl, qzm, qzG, qzq, qzg, qzk, qzN, qzf, qze, qzd, qzp, qzC, xzd, qzU, qzI, qzc, qzj, qzK, qzb, qzh, qzi, qzX, qzn, qzo, qzu, qza, qzt, qzv, qzy, qzH, xzB, xzA, eqSV, xzo, xzy, cvs, cv, VN.at, VH.push, h0, qzT, qzM, qzW, qzS, ↓reduceIte, List.length_nil, Nat.reduceDiv, Nat.reduceEqDiff, reduceCtorEq, Nat.zero_add, and_true, Bool.false_eq_true, forall_const, false_implies, Bool.true_eq_false, reduceCtorEq]
  exact qzr rfl

theorem put_loop (Gl : xzv) (base : Nat) (K : AEx → VF → VH → Prop) (n0 : Nat) (acc0 : List Nat)
    (hK : ∀ (T : VF) (h : VH) (j : Nat) (v : VV) (m : Nat) (acc : List Nat), acc ++ [m] = acc0 ++ putS n0 → m < 128 → qzB T 0 = some v → qzB T 1 = some (.int .u64 (m : Int)) → AccE base h j cB acc 1 v → base ≤ h.next → K (.exit 0) T h) :
    ∀ (d n : Nat) (acc : List Nat) (T : VF) (h : VH) (j : Nat) (v : VV), n < 2 ^ d → acc.length + d < 1000000 → acc ++ putS n = acc0 ++ putS n0 → qzB T 0 = some v → qzB T 1 = some (.int .u64 (n : Int)) → AccE base h j cB acc 1 v → base ≤ h.next →
      wp E Gl (.loop c_wire_Put_l0) T h K := by
  intro d
  induction d with
  | zero =>
    intro n acc T h j v hn hl ha t0 t1 hacc hb
    refine xzf c_wire_Put_l0.eq_1 ?_
    obtain rfl : n = 0 := by omega
    have c : ¬ (((0 : Nat) : Int) ≥ 128) := by omega
    simp only [qzx, qzl, qzm, qzw, qzP, qzq, qzg, qzk, qzV, qzO, qzf, qze, qzd, qzp, xzd, qzU, qzc, qzK, qzb, qzh, qzi, qzX, qzn, qzo, qzu, qza, qzt, qzv, qzy, xzo, xzy, xzh, cvs, cv, qzF, qzE, toA, ofA, FR.pop, abin, intBin, VN.at, VH.push, VV.cells, ntV, ↓reduceIte, List.length_cons, List.length_nil, List.drop_succ_cons, List.drop_zero, List.take_zero, List.append_nil, List.nil_append, Nat.reduceDiv, Nat.reduceEqDiff, reduceCtorEq, Nat.reduceLeDiff, Nat.zero_add, and_self, true_and, Bool.false_eq_true, decide_false, forall_const, false_implies, reduceCtorEq, t0, t1, c]
    refine hK _ _ j v 0 acc (by rw [← ha, putS_lt (by omega)]) (by omega) ?_ ?_ hacc hb
    · simp only [qza, ↓reduceIte, reduceCtorEq, reduceCtorEq, t0]
    · simp only [qza, ↓reduceIte, Nat.reduceEqDiff, t1]
  | succ d ih =>
    intro n acc T h j v hn hl ha t0 t1 hacc hb
    refine xzf c_wire_Put_l0.eq_1 ?_
    by_cases c : n < 128
    · have c' : ¬ ((n : Int) ≥ 128) := by omega
      simp only [qzx, qzl, qzm, qzw, qzP, qzq, qzg, qzk, qzV, qzO, qzf, qze, qzd, qzp, xzd, qzU, qzc, qzK, qzb, qzh, qzi, qzX, qzn, qzo, qzu, qza, qzt, qzv, qzy, xzo, xzy, xzh, cvs, cv, qzF, qzE, toA, ofA, FR.pop, abin, intBin, VN.at, VH.push, VV.cells, ntV, ↓reduceIte, List.length_cons, List.length_nil, List.drop_succ_cons, List.drop_zero, List.take_zero, List.append_nil, List.nil_append, Nat.reduceDiv, Nat.reduceEqDiff, reduceCtorEq, Nat.reduceLeDiff, Nat.zero_add, and_self, true_and, Bool.false_eq_true, decide_false, forall_const, false_implies, reduceCtorEq, t0, t1, c']
      refine hK _ _ j v n acc (by rw [← ha, putS_lt c]) c ?_ ?_ hacc hb
      · simp only [qza, ↓reduceIte, reduceCtorEq, reduceCtorEq, t0]
      · simp only [qza, ↓reduceIte, Nat.reduceEqDiff, t1]
    · have c' : ((n : Int) ≥ 128) := by omega
      have w1 := wrap_u8 n
      have w2 := or128 (n % 256) (Nat.mod_lt _ (by omega))
      rw [show n % 256 % 128 = n % 128 by omega] at w2
      have w3 : Int.fdiv (n : Int) (2 ^ min (7 : Int).toNat IntKind.u64.bits) = ((n / 128 : Nat) : Int) := by
        show Int.fdiv (n : Int) 128 = _
        rw [Int.fdiv_eq_ediv_of_nonneg _ (by omega)]; omega
      have z7 : ¬ ((7 : Int) < 0) := by omega
      simp only [qzx, qzl, qzm, qzw, qzP, qzq, qzg, qzk, qzV, qzO, qzf, qze, qzd, qzp, xzd, qzU, qzc, qzK, qzb, qzh, qzi, qzX, qzn, qzo, qzu, qza, qzt, qzv, qzy, xzo, xzy, xzh, cvs, cv, qzF, qzE, toA, ofA, FR.pop, abin, intBin, VN.at, VH.push, VV.cells, ntV, ↓reduceIte, List.length_cons, List.length_nil, List.drop_succ_cons, List.drop_zero, List.take_zero, List.append_nil, List.nil_append, Nat.reduceDiv, Nat.reduceEqDiff, reduceCtorEq, Nat.reduceLeDiff, Nat.zero_add, and_self, and_true, decide_true, forall_const, false_implies, Bool.true_eq_false, reduceCtorEq, t0, t1, c', w1, w2]
      have acc2 := AccE.ext (h' := h.push (.cells [VV.int IntKind.u8 ((n % 128 + 128 : Nat) : Int)] false)) hacc (Nat.le_succ _) (fun g1 g2 => by simp only [VH.push, qza]; rw [if_neg (by omega)])
      refine wpW_accE (ls := [n % 128 + 128]) acc2 (by simp only [qza, srcV, winV, qzs, ↓reduceIte, Option.getD_some, List.length_cons, List.length_nil, List.drop_zero, List.take_succ_cons, List.take_zero, Nat.reduceMul, reduceCtorEq, Nat.reduceLeDiff, Nat.zero_add, true_or, reduceCtorEq, true_or] <;> first | rfl | exact ⟨rfl, rfl⟩ | exact qzr rfl) (by simp) cB_len (by omega) (by show base ≤ h.next + 1; omega) (by simp; omega) (by simp; omega) ?_
      intro h' g1 g2 g3
      simp only [] at g1
      simp only [qzl, qzk, qzR, xzc, qzf, qze, qzd, qzp, qzz, qzc, qzb, qzh, qzi, qzn, qzo, qzu, qza, qzt, qzv, qzy, cv, qzF, qzE, toA, ofA, FR.pop, abin, shiftBin, xzz, ↓reduceIte, List.length_cons, List.length_nil, Nat.reduceEqDiff, reduceCtorEq, Nat.zero_add, reduceCtorEq, t1, w3, z7, shiftBin]
      refine ih (n / 128) (acc ++ [n % 128 + 128]) _ h' _ _ (by rw [Nat.pow_succ] at hn; omega) (by simp; omega) (by rw [← ha, putS_ge c]; simp) ?_ ?_ (.inl g3) (by omega)
      · simp only [qza, ↓reduceIte, List.length_cons, List.length_nil, reduceCtorEq, Nat.zero_add, reduceCtorEq]
      · simp only [qza, ↓reduceIte]

theorem put_end (Gl : xzv) (n : Nat) (T : VF) (h : VH) (j : Nat) (v : VV) (hn : n < 18446744073709551616) (t0 : qzB T 0 = some v) (t1 : qzB T 1 = some (.int .u64 (n : Int))) (acc : List Nat) (hl : acc.length < 100000) (hacc : AccE 0 h j cB acc 1 v) (Q : VV → VH → Prop)
    (hQ : ∀ h' i, qzB h'.l i = some (some (.cells (xzq cB (acc ++ putS n)) false)) → Q (.slice i 0 (acc ++ putS n).length 1 (.toEnd 1)) h') :
    wp E Gl (.loop c_wire_Put_l0) T h (kBlk 0 (kSeq E Gl (.seq (.ops [⟨(some 17), [.t 0], .p (.mov), none⟩,
   ⟨(some 18), [.t 1], .p (.mov), none⟩,
   ⟨(some 19), [.t 18], .p (.conv .u8), none⟩,
   ⟨(some 20), [.t 19], .n (.bslice 1 [(.int .u8 0)] [(0, 1)]), none⟩,
   ⟨(some 21), [.t 17, .t 20], .w (.append 1 1), none⟩,
   ⟨(some 4), [.t 21], .p (.mov), none⟩]) .ret) (Ends Gl [.tmp 4] Q))) := by
  refine put_loop Gl 0 _ n acc ?_ 64 n acc T h j v (by omega) (by omega) rfl t0 t1 hacc (Nat.zero_le _)
  intro T h j v m ac ham hm t0 t1 hacc hb
  have w1 : IntKind.u8.wrap (m : Int) = (m : Int) := by rw [wrap_u8, Nat.mod_eq_of_lt (by omega)]
  simp only [qzl, qzm, qzk, xzk, qze, qzd, qzp, xzd, qzU, qzc, qzK, qzb, qzh, qzi, qzX, qzn, qzo, qzu, qza, qzt, qzv, qzy, xzo, xzy, xzh, cvs, cv, qzF, qzE, toA, ofA, FR.pop, VN.at, VH.push, VV.cells, ntV, ↓reduceIte, List.length_cons, List.length_nil, List.drop_succ_cons, List.drop_zero, List.take_zero, List.append_nil, List.nil_append, Nat.reduceDiv, Nat.reduceEqDiff, Nat.reduceLeDiff, Nat.zero_add, and_self, t0, t1, w1]
  have acc2 := AccE.ext (h' := h.push (.cells [VV.int IntKind.u8 (m : Int)] false)) hacc (Nat.le_succ _) (fun g1 g2 => by simp only [VH.push, qza]; rw [if_neg (by omega)])
  have hlen : ac.length < 200000 := by
    have := congrArg List.length ham
    have := putS_10 hn
    simp at *; omega
  refine wpW_accE (ls := [m]) acc2 (by simp only [qza, srcV, winV, qzs, ↓reduceIte, Option.getD_some, List.length_cons, List.length_nil, List.drop_zero, List.take_succ_cons, List.take_zero, Nat.reduceMul, reduceCtorEq, Nat.reduceLeDiff, Nat.zero_add, true_or, reduceCtorEq, true_or] <;> first | rfl | exact ⟨rfl, rfl⟩ | exact qzr rfl) (by simp) cB_len (by omega) (Nat.zero_le _) (by simp; omega) (by simp; omega) ?_
  intro h' g1 g2 g3
  obtain ⟨e1, e2, _, _⟩ := g3.some (by simp)
  rw [ham] at e2
  simp only [qzG, qzk, qzf, qze, qzd, qzp, qzz, qzI, qzc, qzb, qzh, qzi, qzn, qzo, qzu, qza, qzt, qzv, qzy, qzT, qzM, qzW, qzS, xzz, ↓reduceIte, List.length_cons, List.length_nil, Nat.zero_add]
  have := hQ h' (h.next + 1) e2
  rw [← ham, List.length_append] at this
  exact this

theorem putNil (Gl : xzv) (n : Nat) (hn : n < 18446744073709551616) : PureOwn E Gl f_wire_Put [.nilS, .int .u64 (n : Int)] (xzq cB (putS n)) 0 (putS n).length 1 (.toEnd 1) := by
  refine own_sound (xzp E_wire_Put ?_)
  unfold c_wire_Put r_wire_Put
  simp only [xzF]
  simp only [qzl, qzm, qzk, qzf, qze, qzd, qzp, qzU, qzc, qzb, qzh, qzi, qzL, qzn, qzo, qzu, qza, qzt, qzv, qzy, cv, qzs, h0, ↓reduceIte, reduceCtorEq, Nat.zero_add, reduceCtorEq]
  refine xza (cloneNil Gl) rfl rfl ?_
  simp only [qzm, qzw, qzk, qzf, qze, qzd, qzp, qzz, qzc, qzb, qzh, qzi, qzn, qzo, qzu, qza, qzt, qzv, qzy, ↓reduceIte]
  refine put_end Gl n _ _ 0 .nilS hn ?_ ?_ [] (by simp) (.inl AccAt.nil) _ (fun h' i hi => ⟨i, _, rfl, by rw [hi]; rfl, closedL_flat (fun _ => rfl) _, subL_refl _⟩)
  · simp only [qza, ↓reduceIte]
  · simp only [qza, ↓reduceIte, Nat.reduceEqDiff, reduceCtorEq, reduceCtorEq]

/-- A sign turned in. -/
def zigS (z : Int) : Nat := if z < 0 then (-2 * z - 1).toNat else (2 * z).toNat
theorem wrap_u64 (n : Int) : IntKind.u64.wrap n = n % 18446744073709551616 := rfl
end
end Go.VL.Wire
