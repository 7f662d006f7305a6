import Derived.Test.YtbamfhdgikeneaaDoorVlI
import Derived.Test.YtbamfhdgikeneaaDoorIrA
import Derived.Test.YtbamfhdgikeneaaDoorErB
/- Chapter 2: numbers as bytes. -/
namespace Go.VL.Wire
open Go.FR Go.IR Go.VL
noncomputable section
set_option linter.unusedSimpArgs false
set_option linter.unusedVariables false
set_option maxRecDepth 100000
set_option maxHeartbeats 1000000
abbrev E := lookE envL

/-- A number's bytes. -/
def putS (n : Nat) : List Nat := if n < 128 then [n] else (n % 128 + 128) :: putS (n / 128)
termination_by n
decreasing_by omega
abbrev cB (b : Nat) : List VV := [.int .u8 (b : Int)]
theorem cB_len (b : Nat) : (cB b).length = 1 := rfl
theorem putS_lt {n : Nat} (h : n < 128) : putS n = [n] := by rw [putS, if_pos h]
theorem putS_ge {n : Nat} (h : ¬ n < 128) : putS n = (n % 128 + 128) :: putS (n / 128) := by rw [putS, if_neg h]
theorem putS_pos (n : Nat) : 0 < (putS n).length := by
  rw [putS]; split <;> simp
theorem putS_len : ∀ (k n : Nat), n < 128 ^ (k + 1) → (putS n).length ≤ k + 1
  | 0, n, h => by rw [putS_lt (by simpa using h)]; simp
  | k + 1, n, h => by
    by_cases c : n < 128
    · rw [putS_lt c]; simp
    · rw [putS_ge c]
      have := putS_len k (n / 128) (by rw [Nat.div_lt_iff_lt_mul (by omega)]; rw [Nat.pow_succ] at h; exact h)
      simp only [List.length_cons]; omega
theorem putS_10 {n : Nat} (h : n < 18446744073709551616) : (putS n).length ≤ 10 := putS_len 9 n (by omega)
theorem wrap_u8 (n : Nat) : IntKind.u8.wrap (n : Int) = ((n % 256 : Nat) : Int) := by
  show ((n : Int) % 256) = _
  omega
theorem or128 (x : Nat) (h : x < 256) : IntKind.u8.wrap ((BitVec.ofInt IntKind.u8.bits (x : Int) ||| BitVec.ofInt IntKind.u8.bits 128).toNat : Int) = ((x % 128 + 128 : Nat) : Int) := by
  have key : ∀ x : Fin 256, IntKind.u8.wrap ((BitVec.ofInt IntKind.u8.bits ((x.val : Nat) : Int) ||| BitVec.ofInt IntKind.u8.bits 128).toNat : Int) = ((x.val % 128 + 128 : Nat) : Int) := by decide +kernel
  exact key ⟨x, h⟩

theorem AccE.ext {α : Type} {base : Nat} {h h' : VH} {j : Nat} {f : α → List VV} {l : List α} {esz : Nat} {v : VV} (a : AccE base h j f l esz v) (hn : h.next ≤ h'.next) (hl : base ≤ j → j < h.next → qzr h'.l j = qzr h.l j) : AccE base h' j f l esz v := by
  rcases a with a | ⟨e, a1, a2, a3, a4, a5⟩
  · exact .inl (a.ext hn hl)
  · exact .inr ⟨e, a1, a2, by rw [hl a4 a5]; exact a3, a4, by omega⟩

theorem cloneNil (Gl : xzy) : xzJ E Gl f_slices_Clone__byte_byte [.nilS] .nilS := by
  refine xzv (xzk E_slices_Clone__byte_byte ?_)
  unfold c_slices_Clone__byte_byte r_slices_Clone__byte_byte
  simp only [xzG]
  simp only [qzx, qzm, qzp, qzD, qzs, qzj, qzi, qzR, qzf, qze, qzd, qzq, qzG, xzd, qzK, qzH, qzc, qzk, qzC, qzb, qzg, qzh, qzT, qzn, qzo, qzu, qza, qzt, qzw, qzy, qzM, xzC, xzB, eqSV, xzi, xzr, cvs, cv, VN.at, VH.push, h0, qzW, qzN, qzX, qzV, ↓reduceIte, List.length_nil, Nat.reduceDiv, Nat.reduceEqDiff, reduceCtorEq, Nat.zero_add, and_true, Bool.false_eq_true, forall_const, false_implies, Bool.true_eq_false, reduceCtorEq]
  exact qzv rfl

theorem put_loop (Gl : xzy) (base : Nat) (K : AEx → VF → VH → Prop) (n0 : Nat) (acc0 : List Nat)
    (hK : ∀ (T : VF) (h : VH) (j : Nat) (v : VV) (m : Nat) (acc : List Nat), acc ++ [m] = acc0 ++ putS n0 → m < 128 → qzr T 0 = some v → qzr T 1 = some (.int .u64 (m : Int)) → AccE base h j cB acc 1 v → base ≤ h.next → K (.exit 0) T h) :
    ∀ (d n : Nat) (acc : List Nat) (T : VF) (h : VH) (j : Nat) (v : VV), n < 2 ^ d → acc.length + d < 1000000 → acc ++ putS n = acc0 ++ putS n0 → qzr T 0 = some v → qzr T 1 = some (.int .u64 (n : Int)) → AccE base h j cB acc 1 v → base ≤ h.next →
      wp E Gl (.loop c_wire_Put_l0) T h K := by
  intro d
  induction d with
  | zero =>
    intro n acc T h j v hn hl ha t0 t1 hacc hb
    refine xzo c_wire_Put_l0.eq_1 ?_
    obtain rfl : n = 0 := by omega
    have c : ¬ (((0 : Nat) : Int) ≥ 128) := by omega
    simp only [qzx, qzm, qzp, qzA, qzZ, qzs, qzj, qzi, xze, qzY, qzf, qze, qzd, qzq, xzd, qzK, qzc, qzC, qzb, qzg, qzh, qzT, qzn, qzo, qzu, qza, qzt, qzw, qzy, xzi, xzr, qzS, cvs, cv, qzI, qzJ, toA, ofA, FR.pop, abin, intBin, VN.at, VH.push, VV.cells, ntV, ↓reduceIte, List.length_cons, List.length_nil, List.drop_succ_cons, List.drop_zero, List.take_zero, List.append_nil, List.nil_append, Nat.reduceDiv, Nat.reduceEqDiff, reduceCtorEq, Nat.reduceLeDiff, Nat.zero_add, and_self, true_and, Bool.false_eq_true, decide_false, forall_const, false_implies, reduceCtorEq, t0, t1, c]
    refine hK _ _ j v 0 acc (by rw [← ha, putS_lt (by omega)]) (by omega) ?_ ?_ hacc hb
    · simp only [qza, ↓reduceIte, reduceCtorEq, reduceCtorEq, t0]
    · simp only [qza, ↓reduceIte, Nat.reduceEqDiff, t1]
  | succ d ih =>
    intro n acc T h j v hn hl ha t0 t1 hacc hb
    refine xzo c_wire_Put_l0.eq_1 ?_
    by_cases c : n < 128
    · have c' : ¬ ((n : Int) ≥ 128) := by omega
      simp only [qzx, qzm, qzp, qzA, qzZ, qzs, qzj, qzi, xze, qzY, qzf, qze, qzd, qzq, xzd, qzK, qzc, qzC, qzb, qzg, qzh, qzT, qzn, qzo, qzu, qza, qzt, qzw, qzy, xzi, xzr, qzS, cvs, cv, qzI, qzJ, toA, ofA, FR.pop, abin, intBin, VN.at, VH.push, VV.cells, ntV, ↓reduceIte, List.length_cons, List.length_nil, List.drop_succ_cons, List.drop_zero, List.take_zero, List.append_nil, List.nil_append, Nat.reduceDiv, Nat.reduceEqDiff, reduceCtorEq, Nat.reduceLeDiff, Nat.zero_add, and_self, true_and, Bool.false_eq_true, decide_false, forall_const, false_implies, reduceCtorEq, t0, t1, c']
      refine hK _ _ j v n acc (by rw [← ha, putS_lt c]) c ?_ ?_ hacc hb
      · simp only [qza, ↓reduceIte, reduceCtorEq, reduceCtorEq, t0]
      · simp only [qza, ↓reduceIte, Nat.reduceEqDiff, t1]
    · have c' : ((n : Int) ≥ 128) := by omega
      have w1 := wrap_u8 n
      have w2 := or128 (n % 256) (Nat.mod_lt _ (by omega))
      rw [show n % 256 % 128 = n % 128 by omega] at w2
      have w3 : Int.fdiv (n : Int) (2 ^ min (7 : Int).toNat IntKind.u64.bits) = ((n / 128 : Nat) : Int) := by
        show Int.fdiv (n : Int) 128 = _
        rw [Int.fdiv_eq_ediv_of_nonneg _ (by omega)]; omega
      have z7 : ¬ ((7 : Int) < 0) := by omega
      simp only [qzx, qzm, qzp, qzA, qzZ, qzs, qzj, qzi, xze, qzY, qzf, qze, qzd, qzq, xzd, qzK, qzc, qzC, qzb, qzg, qzh, qzT, qzn, qzo, qzu, qza, qzt, qzw, qzy, xzi, xzr, qzS, cvs, cv, qzI, qzJ, toA, ofA, FR.pop, abin, intBin, VN.at, VH.push, VV.cells, ntV, ↓reduceIte, List.length_cons, List.length_nil, List.drop_succ_cons, List.drop_zero, List.take_zero, List.append_nil, List.nil_append, Nat.reduceDiv, Nat.reduceEqDiff, reduceCtorEq, Nat.reduceLeDiff, Nat.zero_add, and_self, and_true, decide_true, forall_const, false_implies, Bool.true_eq_false, reduceCtorEq, t0, t1, c', w1, w2]
      have acc2 := AccE.ext (h' := h.push (.cells [VV.int IntKind.u8 ((n % 128 + 128 : Nat) : Int)] false)) hacc (Nat.le_succ _) (fun g1 g2 => by simp only [VH.push, qza]; rw [if_neg (by omega)])
      refine wpW_accE (ls := [n % 128 + 128]) acc2 (by simp only [qza, yza, yze, qzl, ↓reduceIte, Option.getD_some, List.length_cons, List.length_nil, List.drop_zero, List.take_succ_cons, List.take_zero, Nat.reduceMul, reduceCtorEq, Nat.reduceLeDiff, Nat.zero_add, true_or, reduceCtorEq, true_or] <;> first | rfl | exact ⟨rfl, rfl⟩ | exact qzv rfl) (by simp) cB_len (by omega) (by show base ≤ h.next + 1; omega) (by simp; omega) (by simp; omega) ?_
      intro h' g1 g2 g3
      simp only [] at g1
      simp only [qzm, qzi, xza, xzh, qzf, qze, qzd, qzq, qzz, qzc, qzb, qzg, qzh, qzn, qzo, qzu, qza, qzt, qzw, qzy, cv, qzI, qzJ, toA, ofA, FR.pop, abin, shiftBin, xzs, ↓reduceIte, List.length_cons, List.length_nil, Nat.reduceEqDiff, reduceCtorEq, Nat.zero_add, reduceCtorEq, t1, w3, z7, shiftBin]
      refine ih (n / 128) (acc ++ [n % 128 + 128]) _ h' _ _ (by rw [Nat.pow_succ] at hn; omega) (by simp; omega) (by rw [← ha, putS_ge c]; simp) ?_ ?_ (.inl g3) (by omega)
      · simp only [qza, ↓reduceIte, List.length_cons, List.length_nil, reduceCtorEq, Nat.zero_add, reduceCtorEq]
      · simp only [qza, ↓reduceIte]

theorem put_end (Gl : xzy) (n : Nat) (T : VF) (h : VH) (j : Nat) (v : VV) (hn : n < 18446744073709551616) (t0 : qzr T 0 = some v) (t1 : qzr T 1 = some (.int .u64 (n : Int))) (acc : List Nat) (hl : acc.length < 100000) (hacc : AccE 0 h j cB acc 1 v) (Q : VV → VH → Prop)
    (hQ : ∀ h' i, qzr h'.l i = some (some (.cells (xzA cB (acc ++ putS n)) false)) → Q (.slice i 0 (acc ++ putS n).length 1 (.toEnd 1)) h') :
    wp E Gl (.loop c_wire_Put_l0) T h (kBlk 0 (kSeq E Gl (.seq (.ops [⟨(some 17), [.t 0], .p (.mov), none⟩,
   ⟨(some 18), [.t 1], .p (.mov), none⟩,
   ⟨(some 19), [.t 18], .p (.conv .u8), none⟩,
   ⟨(some 20), [.t 19], .n (.bslice 1 [(.int .u8 0)] [(0, 1)]), none⟩,
   ⟨(some 21), [.t 17, .t 20], .w (.append 1 1), none⟩,
   ⟨(some 4), [.t 21], .p (.mov), none⟩]) .ret) (Ends Gl [.tmp 4] Q))) := by
  refine put_loop Gl 0 _ n acc ?_ 64 n acc T h j v (by omega) (by omega) rfl t0 t1 hacc (Nat.zero_le _)
  intro T h j v m ac ham hm t0 t1 hacc hb
  have w1 : IntKind.u8.wrap (m : Int) = (m : Int) := by rw [wrap_u8, Nat.mod_eq_of_lt (by omega)]
  simp only [qzm, qzp, qzi, xzp, qze, qzd, qzq, xzd, qzK, qzc, qzC, qzb, qzg, qzh, qzT, qzn, qzo, qzu, qza, qzt, qzw, qzy, xzi, xzr, qzS, cvs, cv, qzI, qzJ, toA, ofA, FR.pop, VN.at, VH.push, VV.cells, ntV, ↓reduceIte, List.length_cons, List.length_nil, List.drop_succ_cons, List.drop_zero, List.take_zero, List.append_nil, List.nil_append, Nat.reduceDiv, Nat.reduceEqDiff, Nat.reduceLeDiff, Nat.zero_add, and_self, t0, t1, w1]
  have acc2 := AccE.ext (h' := h.push (.cells [VV.int IntKind.u8 (m : Int)] false)) hacc (Nat.le_succ _) (fun g1 g2 => by simp only [VH.push, qza]; rw [if_neg (by omega)])
  have hlen : ac.length < 200000 := by
    have := congrArg List.length ham
    have := putS_10 hn
    simp at *; omega
  refine wpW_accE (ls := [m]) acc2 (by simp only [qza, yza, yze, qzl, ↓reduceIte, Option.getD_some, List.length_cons, List.length_nil, List.drop_zero, List.take_succ_cons, List.take_zero, Nat.reduceMul, reduceCtorEq, Nat.reduceLeDiff, Nat.zero_add, true_or, reduceCtorEq, true_or] <;> first | rfl | exact ⟨rfl, rfl⟩ | exact qzv rfl) (by simp) cB_len (by omega) (Nat.zero_le _) (by simp; omega) (by simp; omega) ?_
  intro h' g1 g2 g3
  obtain ⟨e1, e2, _, _⟩ := g3.some (by simp)
  rw [ham] at e2
  simp only [qzD, qzi, qzf, qze, qzd, qzq, qzz, qzH, qzc, qzb, qzg, qzh, qzn, qzo, qzu, qza, qzt, qzw, qzy, qzW, qzN, qzX, qzV, xzs, ↓reduceIte, List.length_cons, List.length_nil, Nat.zero_add]
  have := hQ h' (h.next + 1) e2
  rw [← ham, List.length_append] at this
  exact this

theorem putNil (Gl : xzy) (n : Nat) (hn : n < 18446744073709551616) : PureOwn E Gl f_wire_Put [.nilS, .int .u64 (n : Int)] (xzA cB (putS n)) 0 (putS n).length 1 (.toEnd 1) := by
  refine own_sound (xzk E_wire_Put ?_)
  unfold c_wire_Put r_wire_Put
  simp only [xzG]
  simp only [qzm, qzp, qzi, qzf, qze, qzd, qzq, qzK, qzc, qzb, qzg, qzh, qzB, qzn, qzo, qzu, qza, qzt, qzw, qzy, cv, qzl, h0, ↓reduceIte, reduceCtorEq, Nat.zero_add, reduceCtorEq]
  refine xzb (cloneNil Gl) rfl rfl ?_
  simp only [qzp, qzA, qzi, qzf, qze, qzd, qzq, qzz, qzc, qzb, qzg, qzh, qzn, qzo, qzu, qza, qzt, qzw, qzy, ↓reduceIte]
  refine put_end Gl n _ _ 0 .nilS hn ?_ ?_ [] (by simp) (.inl xzW.nil) _ (fun h' i hi => ⟨i, _, rfl, by rw [hi]; rfl, closedL_flat (fun _ => rfl) _, subL_refl _⟩)
  · simp only [qza, ↓reduceIte]
  · simp only [qza, ↓reduceIte, Nat.reduceEqDiff, reduceCtorEq, reduceCtorEq]

/-- A sign turned in. -/
def zigS (z : Int) : Nat := if z < 0 then (-2 * z - 1).toNat else (2 * z).toNat
theorem zig_lt {z : Int} (h1 : -9223372036854775808 ≤ z) (h2 : z ≤ 9223372036854775807) : zigS z < 18446744073709551616 := by unfold zigS; split <;> omega
theorem wrap_u64 (n : Int) : IntKind.u64.wrap n = n % 18446744073709551616 := rfl
theorem zig_math (z : Int) (h1 : -9223372036854775808 ≤ z) (h2 : z ≤ 9223372036854775807) : IntKind.u64.wrap (BitVec.ofInt IntKind.u64.bits (IntKind.u64.wrap (IntKind.u64.wrap z * 2 ^ min (Int.toNat 1) IntKind.u64.bits)) ^^^ BitVec.ofInt IntKind.u64.bits (IntKind.u64.wrap (z.fdiv (2 ^ min (Int.toNat 63) IntKind.i64.bits)))).toNat = (zigS z : Nat) := by
  show IntKind.u64.wrap ((BitVec.ofInt 64 (IntKind.u64.wrap (IntKind.u64.wrap z * 2)) ^^^ BitVec.ofInt 64 (IntKind.u64.wrap (z.fdiv 9223372036854775808))).toNat : Int) = (zigS z : Nat)
  simp only [wrap_u64]
  by_cases c : z < 0
  · have e1 : z.fdiv 9223372036854775808 = -1 := by rw [Int.fdiv_eq_ediv_of_nonneg _ (by omega)]; omega
    have e2 : BitVec.ofInt 64 (-1 % 18446744073709551616) = BitVec.allOnes 64 := by decide
    rw [e1, e2, BitVec.xor_allOnes, BitVec.toNat_not, BitVec.toNat_ofInt]
    unfold zigS
    rw [if_pos c]
    omega
  · have e1 : z.fdiv 9223372036854775808 = 0 := by rw [Int.fdiv_eq_ediv_of_nonneg _ (by omega)]; omega
    have e2 : BitVec.ofInt 64 (0 % 18446744073709551616) = 0#64 := by decide
    rw [e1, e2, BitVec.xor_zero, BitVec.toNat_ofInt]
    unfold zigS
    rw [if_neg c]
    omega
theorem zig_ok (Gl : xzy) (z : Int) (h1 : -9223372036854775808 ≤ z) (h2 : z ≤ 9223372036854775807) : xzJ E Gl f_wire_Zig [.int .i64 z] (.int .u64 (zigS z : Nat)) := by
  refine xzv (xzk E_wire_Zig ?_)
  unfold c_wire_Zig r_wire_Zig
  simp only [xzG]
  have z1 : ¬ ((1 : Int) < 0) := by omega
  have z2 : ¬ ((63 : Int) < 0) := by omega
  simp only [qzm, qzp, qzD, qzi, qzf, qze, qzd, qzq, qzH, qzc, qzb, qzg, qzh, qzn, qzo, qzu, qza, qzt, qzw, qzy, cv, qzI, qzJ, toA, ofA, FR.pop, abin, intBin, shiftBin, h0, qzW, qzN, qzX, qzV, ↓reduceIte, Nat.reduceEqDiff, reduceCtorEq, reduceCtorEq, shiftBin, z1, z2]
  rw [zig_math z h1 h2]
  exact qzv rfl
end
end Go.VL.Wire

/- Chapter 2: bytes as a number. -/
namespace Go.VL.Wire
open Go.FR Go.IR Go.VL Go.VL.Er
noncomputable section
set_option linter.unusedSimpArgs false
set_option linter.unusedVariables false
set_option maxRecDepth 100000
set_option maxHeartbeats 1000000

inductive Got where
  | short
  | varint
  | got (n k : Nat)
def getL : List Nat → Nat → Nat → Got
  | [], _, _ => .short
  | x :: r, k, n => if (k = 9 ∧ 1 < x) ∨ (x = 0 ∧ 0 < k) then .varint else if x < 128 then .got (n + x * 128 ^ k) (k + 1) else getL r (k + 1) (n + (x % 128) * 128 ^ k)

/-- What is got of these from a place on. -/
structure GotS where
  n : Nat
  k : Int
  e : ErrV
def getS (bs : List Nat) (at_ : Int) : GotS :=
  if at_ < 0 ∨ (bs.length : Int) < at_ then ⟨0, 0, .placed 6 at_⟩ else match getL (bs.drop at_.toNat) 0 0 with
    | .short => ⟨0, 0, .placed 6 at_⟩
    | .varint => ⟨0, 0, .placed 8 at_⟩
    | .got n k => ⟨n, at_ + k, .none⟩
def GotS.v (g : GotS) : VV := .tuple [.int .u64 (g.n : Int), .int .i64 g.k, g.e.v]

end
end Go.VL.Wire

/- Chapter 2: what is put is got. In plain numbers. -/
namespace Go.VL.Wire
open Go.FR Go.IR Go.VL Go.VL.Er
noncomputable section
set_option linter.unusedSimpArgs false
set_option linter.unusedVariables false
set_option maxRecDepth 100000
set_option maxHeartbeats 1000000

/-- The last byte, told to go on. -/
def moreS (m : Nat) : List Nat := if m < 128 then [m + 128] else (m % 128 + 128) :: moreS (m / 128)
termination_by m
decreasing_by omega
end
end Go.VL.Wire

/- Chapter 2: what the laws of bytes share. -/
namespace Go.VL.Wire
open Go.FR Go.IR Go.VL Go.VL.Er
noncomputable section
set_option linter.unusedSimpArgs false
set_option linter.unusedVariables false
set_option maxRecDepth 100000
set_option maxHeartbeats 1000000

theorem flat1_len (l : List Nat) : (xzA cB l).length = l.length := by rw [flatL_length cB_len, Nat.mul_one]
theorem own1_shut {h : VH} {X : List Nat} {j n : Nat} (hj : qzr h.l j = some (some (.cells (xzA cB X) false))) (hn : X.length = n) : shut h (.slice j 0 n 1 (.toEnd 1)) = some (.fsl (xzA cB X) X.length 1) := by
  have hcl := closedL_flat (f := cB) (fun _ => rfl) X
  obtain ⟨h1, h2⟩ := flat_all cB_len X
  subst hn
  simp only [shut, qzl, hj, Option.getD_some, hcl, Nat.zero_add, h1, yzb, List.drop_zero, h2, and_self, if_true]
end
end Go.VL.Wire

/- Chapter 2: a number put behind bytes. -/
namespace Go.VL.Wire
open Go.FR Go.IR Go.VL Go.VL.Er
noncomputable section
set_option linter.unusedSimpArgs false
set_option linter.unusedVariables false
set_option maxRecDepth 100000
set_option maxHeartbeats 1000000

theorem wpW_app0 {E : Env} {Gl : xzy} {h : VH} {K : VV → VH → Option (List Nat × Bool) → Prop} {esz eb n : Nat} {v x : VV} {cs : List VV} (hs : yza h esz x = some (0, cs)) (hn : lenOfV v = some n) (hk : K v h (some (xzs (some v), true))) : wpW E Gl (.append esz eb) [v, x] h K := by
  rw [wpW_append]
  simp only [appendV, hs, hn, optW]
  exact hk

theorem cloneB_run (Gl : xzy) (bs : List Nat) (hl : bs.length < 100000) (e : Nat) (he : e = 1 ∨ bs = []) (h : VH) :
    CallsV Go.VL.Wire.E Gl f_slices_Clone__byte_byte [.fsl (xzA cB bs) bs.length e] h (fun r h' => (∃ j, AccE h.next h' j cB bs 1 r) ∧ h.next ≤ h'.next) := by
  refine xzk E_slices_Clone__byte_byte ?_
  unfold c_slices_Clone__byte_byte r_slices_Clone__byte_byte
  simp only [xzG]
  cases bs with
  | nil =>
    simp only [qzm, qzp, qzi, qzf, qze, qzd, qzq, qzG, qzc, qzb, qzg, qzh, qzn, qzo, qzu, qza, qzt, qzw, qzy, qzM, xzC, xzB, eqSV, cv, ↓reduceIte, List.length_nil, reduceCtorEq, reduceCtorEq]
    rw [optR_none rfl]
    intro b
    cases b
    · simp only [qzx, qzm, qzp, qzD, qzs, qzj, qzi, qzR, qzf, qze, qzd, qzq, xzd, qzK, qzH, qzc, qzC, qzb, qzg, qzh, qzT, qzn, qzo, qzu, qza, qzt, qzw, qzy, xzi, xzr, cvs, cv, VN.at, VH.push, qzW, qzN, qzX, qzV, ↓reduceIte, List.length_nil, Nat.reduceDiv, Nat.reduceEqDiff, reduceCtorEq, true_and, Bool.false_eq_true, forall_const, false_implies, reduceCtorEq]
      refine wpW_app0 (n := 0) (cs := []) (by simp only [yza, flatL_nil, or_true, if_true]) rfl ?_
      simp only [qzD, qzi, qzf, qze, qzd, qzq, qzz, qzH, qzc, qzb, qzg, qzh, qzn, qzo, qzu, qza, qzt, qzw, qzy, qzW, qzN, qzX, qzV, xzs, ↓reduceIte]
      exact ⟨⟨h.next, .inr ⟨0, .inr rfl, rfl, by simp only [qza, if_true]; rfl, Nat.le_refl _, Nat.lt_succ_self _⟩⟩, Nat.le_succ _⟩
    · simp only [qzx, qzm, qzp, qzD, qzs, qzj, qzi, qzR, qzf, qze, qzd, qzq, xzd, qzK, qzH, qzc, qzC, qzb, qzg, qzh, qzT, qzn, qzo, qzu, qza, qzt, qzw, qzy, xzi, xzr, cvs, cv, VN.at, VH.push, qzW, qzN, qzX, qzV, ↓reduceIte, List.length_nil, Nat.reduceDiv, Nat.reduceEqDiff, reduceCtorEq, and_true, forall_const, false_implies, Bool.true_eq_false, reduceCtorEq]
      exact ⟨⟨0, .inl xzW.nil⟩, Nat.le_refl _⟩
  | cons x l =>
    obtain rfl : e = 1 := by rcases he with rfl | he; rfl; cases he
    simp only [qzx, qzm, qzp, qzD, qzs, qzj, qzi, qzR, qzf, qze, qzd, qzq, qzG, xzd, qzK, qzH, qzc, qzk, qzC, qzb, qzg, qzh, qzT, qzn, qzo, qzu, qza, qzt, qzw, qzy, qzM, xzC, xzB, eqSV, xzi, xzr, cvs, cv, VN.at, VH.push, qzW, qzN, qzX, qzV, ↓reduceIte, List.length_cons, List.length_nil, Nat.reduceDiv, Nat.reduceEqDiff, reduceCtorEq, true_and, Bool.false_eq_true, forall_const, false_implies, reduceCtorEq]
    refine wpW_accE (base := h.next) (j := h.next) (f := cB) (l := []) (ls := x :: l) (.inr ⟨0, .inr rfl, rfl, by simp only [qza, if_true]; rfl, Nat.le_refl _, Nat.lt_succ_self _⟩) (by simp only [yza, true_or, if_true, List.length_cons]) (by simp) cB_len (by omega) (Nat.le_succ _) (by simp at *; omega) (by simp at *; omega) ?_
    intro h' g1 g2 g4
    simp only [qzD, qzi, qzf, qze, qzd, qzq, qzz, qzH, qzc, qzb, qzg, qzh, qzn, qzo, qzu, qza, qzt, qzw, qzy, qzW, qzN, qzX, qzV, xzs, ↓reduceIte, List.length_cons, List.length_nil, Nat.zero_add]
    simp only [List.nil_append, List.length_nil, Nat.zero_add] at g4
    exact ⟨⟨_, .inl g4⟩, by simp only at g1; omega⟩

theorem putC (Gl : xzy) (bs : List Nat) (hl : bs.length < 90000) (e : Nat) (he : e = 1 ∨ bs = []) (n : Nat) (hn : n < 18446744073709551616) :
    PureOwn Go.VL.Wire.E Gl f_wire_Put [.fsl (xzA cB bs) bs.length e, .int .u64 (n : Int)] (xzA cB (bs ++ putS n)) 0 (bs ++ putS n).length 1 (.toEnd 1) := by
  refine own_sound (xzk E_wire_Put ?_)
  unfold c_wire_Put r_wire_Put
  simp only [xzG]
  simp only [qzm, qzp, qzi, qzf, qze, qzd, qzq, qzK, qzc, qzb, qzg, qzh, qzB, qzn, qzo, qzu, qza, qzt, qzw, qzy, cv, qzl, h0, ↓reduceIte, reduceCtorEq, Nat.zero_add, reduceCtorEq]
  refine call_heap (cloneB_run Gl bs (by omega) e he _) ?_
  rintro r h' ⟨⟨j, acc⟩, hn'⟩
  have acc' : AccE 0 h' j cB bs 1 r := by
    rcases acc with a | ⟨e, a1, a2, a3, a4, a5⟩
    · exact .inl (a.low (Nat.zero_le _))
    · exact .inr ⟨e, a1, a2, a3, Nat.zero_le _, a5⟩
  simp only [qzp, qzA, qzi, qzf, qze, qzd, qzq, qzz, qzc, qzb, qzg, qzh, qzn, qzo, qzu, qza, qzt, qzw, qzy, ↓reduceIte]
  refine put_end Gl n _ h' j r hn ?_ ?_ bs (by omega) acc' _ (fun h'' i hi => ⟨i, _, rfl, by rw [hi]; rfl, closedL_flat (fun _ => rfl) _, subL_refl _⟩)
  · simp only [qza, ↓reduceIte]
  · simp only [qza, ↓reduceIte, Nat.reduceEqDiff, reduceCtorEq, reduceCtorEq]
end
end Go.VL.Wire

/- Chapter 6: a writer's parts. -/
namespace Go.VL.En
open Go.FR Go.IR Go.VL Go.VL.Color Go.VL.Wind Go.VL.Ic Go.VL.Wire
noncomputable section
set_option linter.unusedSimpArgs false
set_option linter.unusedVariables false
set_option maxRecDepth 100000
set_option maxHeartbeats 1000000

/-- What a writer's part leaves: so many bytes more. -/
def WrQ (b j : Nat) (v : VV) (X bs : List Nat) (h : VH) (h' : VH) : Prop := ∃ j' v', qzr h'.l b = some (some (.cells [v'] false)) ∧ AccE 0 h' j' cB (X ++ bs) 1 v' ∧ (b ≠ j' ∨ v' = .nilS) ∧ (∀ k, k < h.next → k ≠ b → (k ≠ j ∨ v = .nilS) → qzr h'.l k = qzr h.l k) ∧ h.next ≤ h'.next ∧ (j' = j ∧ v' = v ∨ h.next ≤ j')
/-- A writer's part, in the caller's heap. -/
def Wr (f : Nat) (args : Nat → List VV) (bs : List Nat) (m : Nat := 0) : Prop := ∀ (Gl : xzy) (h : VH) (b j : Nat) (v : VV) (X : List Nat), qzr h.l b = some (some (.cells [v] false)) → AccE 0 h j cB X 1 v → b < h.next → (b ≠ j ∨ v = .nilS) → X.length + bs.length + m < 1000000000 →
  CallsV Go.VL.Er.E Gl f (args b) h (fun _ h' => WrQ b j v X bs h h')
theorem WrQ.trans {b j j1 : Nat} {v v1 : VV} {X bs cs : List Nat} {h h1 h2 : VH} (hb : b < h.next) (f1 : ∀ k, k < h.next → k ≠ b → (k ≠ j ∨ v = .nilS) → qzr h1.l k = qzr h.l k) (n1 : h.next ≤ h1.next) (d1 : j1 = j ∧ v1 = v ∨ h.next ≤ j1) (p2 : WrQ b j1 v1 (X ++ bs) cs h1 h2) : WrQ b j v X (bs ++ cs) h h2 := by
  obtain ⟨j2, v2, a1, a2, a3, a4, a5, a6⟩ := p2
  refine ⟨j2, v2, a1, by rw [← List.append_assoc]; exact a2, a3, fun k k1 k2 k3 => ?_, by omega, ?_⟩
  · rw [a4 k (by omega) k2 ?_, f1 k k1 k2 k3]
    rcases d1 with ⟨rfl, rfl⟩ | d1
    · exact k3
    · exact .inl (by omega)
  · rcases a6 with ⟨rfl, rfl⟩ | a6
    · exact d1
    · exact .inr (by omega)
theorem AccE.ne {α : Type} {base : Nat} {h : VH} {j : Nat} {f : α → List VV} {l : List α} {esz : Nat} {v : VV} (a : AccE base h j f l esz v) {k : Nat} (hk : k < base ∨ h.next ≤ k) : k ≠ j ∨ v = .nilS := by
  rcases a with a | ⟨e, _, _, _, a4, a5⟩
  · exact a.ne hk
  · exact .inl (by omega)
/-- The same as an append leaves it. -/
theorem wrq_app {b j : Nat} {v x : VV} {X bs : List Nat} {h h0 h3 : VH} (hb : b < h.next) (hbj : b ≠ j ∨ v = .nilS) (hn : h.next ≤ h0.next) (hf : ∀ k, k < h.next → qzr h0.l k = qzr h.l k) (g1 : h3.next = h0.next + 1) (g2 : ∀ k, k ≠ h0.next → k ≠ j ∨ v = .nilS → qzr h3.l k = qzr h0.l k) (g3 : xzW 0 h3 h0.next cB (X ++ bs) 1 x) :
    WrQ b j v X bs h ⟨(b, some (.cells [x] false)) :: h3.l, h3.next⟩ := by
  refine ⟨h0.next, x, by simp only [qza, if_true], .inl (g3.ext (Nat.le_refl _) (fun _ q => by simp only [qza]; rw [if_neg (by omega)])), .inl (by omega), fun k k1 k2 k3 => ?_, by show h.next ≤ h3.next; omega, .inr hn⟩
  simp only [qza]
  rw [if_neg (Ne.symm k2), g2 k (by omega) k3, hf k k1]

def colorB (c : Cl) : List Nat := [c.r, c.g, c.b, c.a]
def pointB (p : Pt) : List Nat := putS (zigS p.x) ++ putS (zigS p.y)
theorem point_wr (p : Pt) (h1 : -9223372036854775808 ≤ p.x) (h2 : p.x ≤ 9223372036854775807) (h3 : -9223372036854775808 ≤ p.y) (h4 : p.y ≤ 9223372036854775807) : Wr f_encode_writer_point (fun b => [.ptr b 0, .agg (cPt p)]) (pointB p) := by
  intro Gl h b j v X hi ha hb hbj hX
  refine xzk E_encode_writer_point ?_
  unfold c_encode_writer_point r_encode_writer_point
  simp only [xzG]
  have e1 : ¬ h.next = b := by omega
  have z1 := zig_lt h1 h2
  have z2 := zig_lt h3 h4
  have x1 : b < h.next + 1 := by omega
  have x2 : b < h.next + 1 + 1 := by omega
  have x3 : b < h.next + 1 + 1 + 1 := by omega
  have y1 : h.next < h.next + 1 := by omega
  have y2 : ¬ h.next + 1 = h.next := by omega
  have y3 : ¬ h.next + 1 = b := by omega
  have y4 : ¬ h.next + 1 + 1 = b := by omega
  have y5 : ¬ h.next + 1 + 1 = h.next := by omega
  have k1 := putS_10 z1
  have k2 := putS_10 z2
  simp only [qzm, xzM, qzp, qzi, qzf, qze, qzd, xzd, xzu, xzq, xzK, xzT, xzS, qzc, qzk, qzC, qzb, qzg, qzT, xzz, xzE, qzB, qzn, qzo, qzu, qza, qzt, qzw, qzL, qzM, qzF, xzi, xzU, qzE, VN.at, VH.push, qzl, VV.cells, ntV, countN, xzI, xzQ, xzZ, xzH, xzO, yzf, yzd, ↓reduceIte, Option.getD_some, Option.isSome_some, List.getElem?_cons_zero, List.append_nil, List.contains_nil, reduceCtorEq, Nat.add_zero, Nat.zero_add, and_self, true_and, Bool.and_self, Bool.not_false, reduceCtorEq, cPt]
  refine xzb (zig_ok Gl p.x h1 h2) rfl rfl ?_
  simp only [xzu, xzq, xzS, xzP, qzb, xzz, qzB, qzn, qzo, qzu, qza, qzt, cv, ↓reduceIte, Option.map_some, List.append_nil]
  refine call_own (putNil Gl (zigS p.x) z1) rfl (plainL_flat (fun _ => rfl) _) ?_
  simp only [xzu, xzq, xzK, xzT, xzS, xzP, qzc, qzk, qzb, xzz, xzE, qzB, qzn, qzo, qzu, qza, qzt, qzw, qzL, qzM, qzF, qzE, VH.push, qzl, xzI, lowB, fzB, fzL, xzQ, xzZ, xzH, xzO, yzf, yzd, ↓reduceIte, Option.getD_some, Option.isSome_some, Option.map_some, List.getElem?_cons_zero, List.getElem?_cons_succ, List.append_nil, List.contains_nil, Nat.reduceEqDiff, Nat.zero_add, and_self, true_and, Bool.and_self, Bool.or_false, Bool.or_true, Bool.not_false, decide_true, y1, y2]
  refine xzb (zig_ok Gl p.y h3 h4) rfl rfl ?_
  simp only [xzu, xzq, xzS, xzP, qzb, xzz, qzB, qzn, qzo, qzu, qza, qzt, ↓reduceIte, Option.map_some, List.append_nil, Nat.reduceEqDiff]
  have hsh := own1_shut (h := VH.mk ((h.next + 1, some (.cells (xzA cB (putS (zigS p.x))) false)) :: (h.next, some (.cells (cPt p) false)) :: h.l) (h.next + 1 + 1)) (X := putS (zigS p.x)) (j := h.next + 1) (n := (putS (zigS p.x)).length) (by simp only [qza, if_true]) rfl
  refine call_own_sub (a0 := [.fsl (xzA cB (putS (zigS p.x))) (putS (zigS p.x)).length 1, .int .u64 (zigS p.y : Int)]) (putC Gl (putS (zigS p.x)) (by omega) 1 (.inl rfl) (zigS p.y) z2) (by simp only [shutL]; rw [hsh]; rfl) (subL_refl _) (plainL_flat (fun _ => rfl) _) ?_
  simp only [xzu, xzq, xzK, xzT, xzS, xzP, qzc, qzk, qzb, xzz, xzE, qzn, qzo, qzu, qza, qzt, qzw, qzy, qzL, xzX, qzM, qzF, qzE, VH.push, qzl, xzI, lowB, fzB, fzL, xzQ, xzZ, xzH, xzO, yzf, yzd, ↓reduceIte, Option.getD_some, Option.isSome_some, Option.map_some, List.getElem?_cons_zero, List.append_nil, List.contains_nil, Nat.reduceEqDiff, reduceCtorEq, Nat.add_zero, and_self, true_and, Bool.and_self, Bool.or_false, Bool.or_true, Bool.not_false, decide_true, reduceCtorEq, e1, hi, x1, x2, y3, y4]
  have len : (putS (zigS p.x) ++ putS (zigS p.y)).length = (pointB p).length := rfl
  obtain ⟨hX', eX⟩ : ∃ hX' : VH, VH.mk ((h.next + 1 + 1, some (VB.cells (xzA cB (putS (zigS p.x) ++ putS (zigS p.y))) false)) :: (h.next + 1, some (VB.cells (xzA cB (putS (zigS p.x))) false)) :: (h.next, some (VB.cells (cPt p) false)) :: h.l) (h.next + 1 + 1 + 1) = hX' := ⟨_, rfl⟩
  have fX : ∀ k, k < h.next → qzr hX'.l k = qzr h.l k := fun k hk => by rw [← eX]; simp only [qza]; rw [if_neg (by omega), if_neg (by omega), if_neg (by omega)]
  have nX : hX'.next = h.next + 1 + 1 + 1 := by rw [← eX]
  have aX : qzr hX'.l (h.next + 1 + 1) = some (some (.cells (xzA cB (pointB p)) false)) := by rw [← eX]; simp only [qza, if_true]; rfl
  have acc2 : AccE 0 hX' j cB X 1 v := Go.VL.Wire.AccE.ext ha (by omega) (fun _ q => fX j q)
  rw [eX]
  obtain ⟨w1, w2⟩ := flat_all cB_len (pointB p)
  have wz : (xzA cB (pointB p)).length = (pointB p).length := flat1_len _
  have pl : 0 < (pointB p).length := by unfold pointB; rw [List.length_append]; have := putS_pos (zigS p.x); omega
  have pb : (pointB p).length ≤ 20 := by unfold pointB; rw [List.length_append]; omega
  refine wpW_accE (ls := pointB p) acc2 (by rw [len]; simp only [yza, yze, qzl, aX, Option.getD_some, Nat.zero_add, w1, w2, List.drop_zero, true_or, if_true]) (by intro e; rw [e] at pl; simp at pl) cB_len (by omega) (Nat.zero_le _) (by omega) (by omega) ?_
  intro h3 g1 g2 g3
  have bi : qzr h3.l b = some (some (.cells [v] false)) := by
    rw [g2 b (by omega) hbj]; rw [fX b hb]; exact hi
  simp only [xzN, xzu, xzq, xzK, xzS, xzP, Ends_n, qzc, qzb, qzQ, xzz, xzE, qzP, qzn, qzo, qzu, qza, qzt, qzw, qzy, qzL, xzX, qzS, qzU, xzg, VH.set, qzl, VV.cells, ntV, qzW, qzN, qzV, qzO, xzs, ↓reduceIte, Option.getD_some, Option.map_some, List.length_cons, List.length_nil, List.drop_succ_cons, List.drop_zero, List.take_zero, List.append_nil, List.nil_append, List.head?_cons, Nat.reduceEqDiff, reduceCtorEq, Nat.reduceLeDiff, Nat.add_zero, Nat.zero_add, and_self, reduceCtorEq, bi]
  exact wrq_app (h0 := hX') hb hbj (by omega) fX g1 g2 g3
end
end Go.VL.En

/- Chapter 6: a writer's numbers; each of a list. -/
namespace Go.VL.En
open Go.FR Go.IR Go.VL Go.VL.Color Go.VL.Wind Go.VL.Ic Go.VL.Wire
noncomputable section
set_option linter.unusedSimpArgs false
set_option linter.unusedVariables false
set_option maxRecDepth 100000
set_option maxHeartbeats 1000000

abbrev iC (n : Nat) : VV := .int .i64 (n : Int)
def numsB (ns : List Nat) : List Nat := ns.flatMap putS
theorem WrQ.refl {b j : Nat} {v : VV} {X : List Nat} {h : VH} (hi : qzr h.l b = some (some (.cells [v] false))) (ha : AccE 0 h j cB X 1 v) (hbj : b ≠ j ∨ v = .nilS) : WrQ b j v X [] h h :=
  ⟨j, v, hi, by rw [List.append_nil]; exact ha, hbj, fun _ _ _ _ => rfl, Nat.le_refl _, .inl ⟨rfl, rfl⟩⟩
end
end Go.VL.En

/- Chapter 6: a writer's lists. (By wip/gen_end.py.) -/
namespace Go.VL.En
open Go.FR Go.IR Go.VL Go.VL.Color Go.VL.Wind Go.VL.Ic Go.VL.Wire
noncomputable section
set_option linter.unusedSimpArgs false
set_option linter.unusedVariables false
set_option maxRecDepth 100000
set_option maxHeartbeats 1000000
end
end Go.VL.En
