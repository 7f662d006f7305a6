import Derived.Test.YtbamfhdgikeneaaDoorVlJ
import Derived.Test.YtbamfhdgikeneaaDoorIrA
import Derived.Test.YtbamfhdgikeneaaDoorWiA
/- Chapter 2: numbers as bytes. -/
namespace Go.VL.Wire
open Go.FR Go.IR Go.VL
noncomputable section
set_option linter.unusedSimpArgs false
set_option linter.unusedVariables false
set_option maxRecDepth 100000
set_option maxHeartbeats 1000000
abbrev E := lookE envL

/-- A number's bytes. -/
def putS (n : Nat) : List Nat := if n < 128 then [n] else (n % 128 + 128) :: putS (n / 128)
termination_by n
decreasing_by omega
abbrev cB (b : Nat) : List VV := [.int .u8 (b : Int)]
theorem cB_len (b : Nat) : (cB b).length = 1 := rfl
theorem putS_lt {n : Nat} (h : n < 128) : putS n = [n] := by rw [putS, if_pos h]
theorem putS_ge {n : Nat} (h : ¬ n < 128) : putS n = (n % 128 + 128) :: putS (n / 128) := by rw [putS, if_neg h]
theorem putS_pos (n : Nat) : 0 < (putS n).length := by
  rw [putS]; split <;> simp
theorem putS_len : ∀ (k n : Nat), n < 128 ^ (k + 1) → (putS n).length ≤ k + 1
  | 0, n, h => by rw [putS_lt (by simpa using h)]; simp
  | k + 1, n, h => by
    by_cases c : n < 128
    · rw [putS_lt c]; simp
    · rw [putS_ge c]
      have := putS_len k (n / 128) (by rw [Nat.div_lt_iff_lt_mul (by omega)]; rw [Nat.pow_succ] at h; exact h)
      simp only [List.length_cons]; omega
theorem putS_10 {n : Nat} (h : n < 18446744073709551616) : (putS n).length ≤ 10 := putS_len 9 n (by omega)
theorem wrap_u8 (n : Nat) : IntKind.u8.wrap (n : Int) = ((n % 256 : Nat) : Int) := by
  show ((n : Int) % 256) = _
  omega
theorem or128 (x : Nat) (h : x < 256) : IntKind.u8.wrap ((BitVec.ofInt IntKind.u8.bits (x : Int) ||| BitVec.ofInt IntKind.u8.bits 128).toNat : Int) = ((x % 128 + 128 : Nat) : Int) := by
  have key : ∀ x : Fin 256, IntKind.u8.wrap ((BitVec.ofInt IntKind.u8.bits ((x.val : Nat) : Int) ||| BitVec.ofInt IntKind.u8.bits 128).toNat : Int) = ((x.val % 128 + 128 : Nat) : Int) := by decide +kernel
  exact key ⟨x, h⟩

theorem AccE.ext {α : Type} {base : Nat} {h h' : VH} {j : Nat} {f : α → List VV} {l : List α} {esz : Nat} {v : VV} (a : AccE base h j f l esz v) (hn : h.next ≤ h'.next) (hl : base ≤ j → j < h.next → qzv h'.l j = qzv h.l j) : AccE base h' j f l esz v := by
  rcases a with a | ⟨e, a1, a2, a3, a4, a5⟩
  · exact .inl (a.ext hn hl)
  · exact .inr ⟨e, a1, a2, by rw [hl a4 a5]; exact a3, a4, by omega⟩

theorem cloneNil (Gl : xzv) : xzK E Gl f_slices_Clone__byte_byte [.nilS] .nilS := by
  refine xzx (xze E_slices_Clone__byte_byte ?_)
  unfold c_slices_Clone__byte_byte r_slices_Clone__byte_byte
  simp only [xzC]
  simp only [qzA, qzj, qzn, qzF, qzw, qzo, qzi, qzT, qzf, qzd, qze, qzp, qzJ, qzZ, qzN, qzK, qzc, qzk, qzE, qzb, qzg, qzh, qzR, qzm, qzl, qzs, qza, qzr, qzu, qzx, qzL, xzU, xzV, eqSV, xzk, xzA, cvs, cv, VN.at, VH.push, h0, qzQ, qzM, qzV, qzP, ↓reduceIte, List.length_nil, Nat.reduceDiv, Nat.reduceEqDiff, reduceCtorEq, Nat.zero_add, and_true, Bool.false_eq_true, forall_const, false_implies, Bool.true_eq_false, reduceCtorEq]
  exact qzt rfl

theorem put_loop (Gl : xzv) (base : Nat) (K : AEx → VF → VH → Prop) (n0 : Nat) (acc0 : List Nat)
    (hK : ∀ (T : VF) (h : VH) (j : Nat) (v : VV) (m : Nat) (acc : List Nat), acc ++ [m] = acc0 ++ putS n0 → m < 128 → qzv T 0 = some v → qzv T 1 = some (.int .u64 (m : Int)) → AccE base h j cB acc 1 v → base ≤ h.next → K (.exit 0) T h) :
    ∀ (d n : Nat) (acc : List Nat) (T : VF) (h : VH) (j : Nat) (v : VV), n < 2 ^ d → acc.length + d < 1000000 → acc ++ putS n = acc0 ++ putS n0 → qzv T 0 = some v → qzv T 1 = some (.int .u64 (n : Int)) → AccE base h j cB acc 1 v → base ≤ h.next →
      wp E Gl (.loop c_wire_Put_l0) T h K := by
  intro d
  induction d with
  | zero =>
    intro n acc T h j v hn hl ha t0 t1 hacc hb
    refine xzr c_wire_Put_l0.eq_1 ?_
    obtain rfl : n = 0 := by omega
    have c : ¬ (((0 : Nat) : Int) ≥ 128) := by omega
    simp only [qzA, qzj, qzn, qzD, qzX, qzw, qzo, qzi, xzh, qzY, qzf, qzd, qze, qzp, qzZ, qzN, qzc, qzE, qzb, qzg, qzh, qzR, qzm, qzl, qzs, qza, qzr, qzu, qzx, xzk, xzA, qzS, cvs, cv, qzG, qzH, toA, ofA, FR.pop, abin, intBin, VN.at, VH.push, VV.cells, ntV, ↓reduceIte, List.length_cons, List.length_nil, List.drop_succ_cons, List.drop_zero, List.take_zero, List.append_nil, List.nil_append, Nat.reduceDiv, Nat.reduceEqDiff, reduceCtorEq, Nat.reduceLeDiff, Nat.zero_add, and_self, true_and, Bool.false_eq_true, decide_false, forall_const, false_implies, reduceCtorEq, t0, t1, c]
    refine hK _ _ j v 0 acc (by rw [← ha, putS_lt (by omega)]) (by omega) ?_ ?_ hacc hb
    · simp only [qza, ↓reduceIte, reduceCtorEq, reduceCtorEq, t0]
    · simp only [qza, ↓reduceIte, Nat.reduceEqDiff, t1]
  | succ d ih =>
    intro n acc T h j v hn hl ha t0 t1 hacc hb
    refine xzr c_wire_Put_l0.eq_1 ?_
    by_cases c : n < 128
    · have c' : ¬ ((n : Int) ≥ 128) := by omega
      simp only [qzA, qzj, qzn, qzD, qzX, qzw, qzo, qzi, xzh, qzY, qzf, qzd, qze, qzp, qzZ, qzN, qzc, qzE, qzb, qzg, qzh, qzR, qzm, qzl, qzs, qza, qzr, qzu, qzx, xzk, xzA, qzS, cvs, cv, qzG, qzH, toA, ofA, FR.pop, abin, intBin, VN.at, VH.push, VV.cells, ntV, ↓reduceIte, List.length_cons, List.length_nil, List.drop_succ_cons, List.drop_zero, List.take_zero, List.append_nil, List.nil_append, Nat.reduceDiv, Nat.reduceEqDiff, reduceCtorEq, Nat.reduceLeDiff, Nat.zero_add, and_self, true_and, Bool.false_eq_true, decide_false, forall_const, false_implies, reduceCtorEq, t0, t1, c']
      refine hK _ _ j v n acc (by rw [← ha, putS_lt c]) c ?_ ?_ hacc hb
      · simp only [qza, ↓reduceIte, reduceCtorEq, reduceCtorEq, t0]
      · simp only [qza, ↓reduceIte, Nat.reduceEqDiff, t1]
    · have c' : ((n : Int) ≥ 128) := by omega
      have w1 := wrap_u8 n
      have w2 := or128 (n % 256) (Nat.mod_lt _ (by omega))
      rw [show n % 256 % 128 = n % 128 by omega] at w2
      have w3 : Int.fdiv (n : Int) (2 ^ min (7 : Int).toNat IntKind.u64.bits) = ((n / 128 : Nat) : Int) := by
        show Int.fdiv (n : Int) 128 = _
        rw [Int.fdiv_eq_ediv_of_nonneg _ (by omega)]; omega
      have z7 : ¬ ((7 : Int) < 0) := by omega
      simp only [qzA, qzj, qzn, qzD, qzX, qzw, qzo, qzi, xzh, qzY, qzf, qzd, qze, qzp, qzZ, qzN, qzc, qzE, qzb, qzg, qzh, qzR, qzm, qzl, qzs, qza, qzr, qzu, qzx, xzk, xzA, qzS, cvs, cv, qzG, qzH, toA, ofA, FR.pop, abin, intBin, VN.at, VH.push, VV.cells, ntV, ↓reduceIte, List.length_cons, List.length_nil, List.drop_succ_cons, List.drop_zero, List.take_zero, List.append_nil, List.nil_append, Nat.reduceDiv, Nat.reduceEqDiff, reduceCtorEq, Nat.reduceLeDiff, Nat.zero_add, and_self, and_true, decide_true, forall_const, false_implies, Bool.true_eq_false, reduceCtorEq, t0, t1, c', w1, w2]
      have acc2 := AccE.ext (h' := h.push (.cells [VV.int IntKind.u8 ((n % 128 + 128 : Nat) : Int)] false)) hacc (Nat.le_succ _) (fun g1 g2 => by simp only [VH.push, qza]; rw [if_neg (by omega)])
      refine wpW_accE (ls := [n % 128 + 128]) acc2 (by simp only [qza, srcV, winV, qzq, ↓reduceIte, Option.getD_some, List.length_cons, List.length_nil, List.drop_zero, List.take_succ_cons, List.take_zero, Nat.reduceMul, reduceCtorEq, Nat.reduceLeDiff, Nat.zero_add, true_or, reduceCtorEq, true_or] <;> first | rfl | exact ⟨rfl, rfl⟩ | exact qzt rfl) (by simp) cB_len (by omega) (by show base ≤ h.next + 1; omega) (by simp; omega) (by simp; omega) ?_
      intro h' g1 g2 g3
      simp only [] at g1
      simp only [qzj, qzi, xzg, xzq, qzf, qzd, qze, qzp, qzz, qzc, qzb, qzg, qzh, qzm, qzl, qzs, qza, qzr, qzu, qzx, cv, qzG, qzH, toA, ofA, FR.pop, abin, shiftBin, xzy, ↓reduceIte, List.length_cons, List.length_nil, Nat.reduceEqDiff, reduceCtorEq, Nat.zero_add, reduceCtorEq, t1, w3, z7, shiftBin]
      refine ih (n / 128) (acc ++ [n % 128 + 128]) _ h' _ _ (by rw [Nat.pow_succ] at hn; omega) (by simp; omega) (by rw [← ha, putS_ge c]; simp) ?_ ?_ (.inl g3) (by omega)
      · simp only [qza, ↓reduceIte, List.length_cons, List.length_nil, reduceCtorEq, Nat.zero_add, reduceCtorEq]
      · simp only [qza, ↓reduceIte]

theorem put_end (Gl : xzv) (n : Nat) (T : VF) (h : VH) (j : Nat) (v : VV) (hn : n < 18446744073709551616) (t0 : qzv T 0 = some v) (t1 : qzv T 1 = some (.int .u64 (n : Int))) (acc : List Nat) (hl : acc.length < 100000) (hacc : AccE 0 h j cB acc 1 v) (Q : VV → VH → Prop)
    (hQ : ∀ h' i, qzv h'.l i = some (some (.cells (xzm cB (acc ++ putS n)) false)) → Q (.slice i 0 (acc ++ putS n).length 1 (.toEnd 1)) h') :
    wp E Gl (.loop c_wire_Put_l0) T h (kBlk 0 (kSeq E Gl (.seq (.ops [⟨(some 17), [.t 0], .p (.mov), none⟩,
   ⟨(some 18), [.t 1], .p (.mov), none⟩,
   ⟨(some 19), [.t 18], .p (.conv .u8), none⟩,
   ⟨(some 20), [.t 19], .n (.bslice 1 [(.int .u8 0)] [(0, 1)]), none⟩,
   ⟨(some 21), [.t 17, .t 20], .w (.append 1 1), none⟩,
   ⟨(some 4), [.t 21], .p (.mov), none⟩]) .ret) (Ends Gl [.tmp 4] Q))) := by
  refine put_loop Gl 0 _ n acc ?_ 64 n acc T h j v (by omega) (by omega) rfl t0 t1 hacc (Nat.zero_le _)
  intro T h j v m ac ham hm t0 t1 hacc hb
  have w1 : IntKind.u8.wrap (m : Int) = (m : Int) := by rw [wrap_u8, Nat.mod_eq_of_lt (by omega)]
  simp only [qzj, qzn, qzi, xzz, qzd, qze, qzp, qzZ, qzN, qzc, qzE, qzb, qzg, qzh, qzR, qzm, qzl, qzs, qza, qzr, qzu, qzx, xzk, xzA, qzS, cvs, cv, qzG, qzH, toA, ofA, FR.pop, VN.at, VH.push, VV.cells, ntV, ↓reduceIte, List.length_cons, List.length_nil, List.drop_succ_cons, List.drop_zero, List.take_zero, List.append_nil, List.nil_append, Nat.reduceDiv, Nat.reduceEqDiff, Nat.reduceLeDiff, Nat.zero_add, and_self, t0, t1, w1]
  have acc2 := AccE.ext (h' := h.push (.cells [VV.int IntKind.u8 (m : Int)] false)) hacc (Nat.le_succ _) (fun g1 g2 => by simp only [VH.push, qza]; rw [if_neg (by omega)])
  have hlen : ac.length < 200000 := by
    have := congrArg List.length ham
    have := putS_10 hn
    simp at *; omega
  refine wpW_accE (ls := [m]) acc2 (by simp only [qza, srcV, winV, qzq, ↓reduceIte, Option.getD_some, List.length_cons, List.length_nil, List.drop_zero, List.take_succ_cons, List.take_zero, Nat.reduceMul, reduceCtorEq, Nat.reduceLeDiff, Nat.zero_add, true_or, reduceCtorEq, true_or] <;> first | rfl | exact ⟨rfl, rfl⟩ | exact qzt rfl) (by simp) cB_len (by omega) (Nat.zero_le _) (by simp; omega) (by simp; omega) ?_
  intro h' g1 g2 g3
  obtain ⟨e1, e2, _, _⟩ := g3.some (by simp)
  rw [ham] at e2
  simp only [qzF, qzi, qzf, qzd, qze, qzp, qzz, qzK, qzc, qzb, qzg, qzh, qzm, qzl, qzs, qza, qzr, qzu, qzx, qzQ, qzM, qzV, qzP, xzy, ↓reduceIte, List.length_cons, List.length_nil, Nat.zero_add]
  have := hQ h' (h.next + 1) e2
  rw [← ham, List.length_append] at this
  exact this

theorem putNil (Gl : xzv) (n : Nat) (hn : n < 18446744073709551616) : PureOwn E Gl f_wire_Put [.nilS, .int .u64 (n : Int)] (xzm cB (putS n)) 0 (putS n).length 1 (.toEnd 1) := by
  refine own_sound (xze E_wire_Put ?_)
  unfold c_wire_Put r_wire_Put
  simp only [xzC]
  simp only [qzj, qzn, qzi, qzf, qzd, qze, qzp, qzN, qzc, qzb, qzg, qzh, qzy, qzm, qzl, qzs, qza, qzr, qzu, qzx, cv, qzq, h0, ↓reduceIte, reduceCtorEq, Nat.zero_add, reduceCtorEq]
  refine xzb (cloneNil Gl) rfl rfl ?_
  simp only [qzn, qzD, qzi, qzf, qzd, qze, qzp, qzz, qzc, qzb, qzg, qzh, qzm, qzl, qzs, qza, qzr, qzu, qzx, ↓reduceIte]
  refine put_end Gl n _ _ 0 .nilS hn ?_ ?_ [] (by simp) (.inl xzS.nil) _ (fun h' i hi => ⟨i, _, rfl, by rw [hi]; rfl, closedL_flat (fun _ => rfl) _, subL_refl _⟩)
  · simp only [qza, ↓reduceIte]
  · simp only [qza, ↓reduceIte, Nat.reduceEqDiff, reduceCtorEq, reduceCtorEq]

/-- A sign turned in. -/
def zigS (z : Int) : Nat := if z < 0 then (-2 * z - 1).toNat else (2 * z).toNat
theorem zig_lt {z : Int} (h1 : -9223372036854775808 ≤ z) (h2 : z ≤ 9223372036854775807) : zigS z < 18446744073709551616 := by unfold zigS; split <;> omega
theorem wrap_u64 (n : Int) : IntKind.u64.wrap n = n % 18446744073709551616 := rfl
theorem zig_math (z : Int) (h1 : -9223372036854775808 ≤ z) (h2 : z ≤ 9223372036854775807) : IntKind.u64.wrap (BitVec.ofInt IntKind.u64.bits (IntKind.u64.wrap (IntKind.u64.wrap z * 2 ^ min (Int.toNat 1) IntKind.u64.bits)) ^^^ BitVec.ofInt IntKind.u64.bits (IntKind.u64.wrap (z.fdiv (2 ^ min (Int.toNat 63) IntKind.i64.bits)))).toNat = (zigS z : Nat) := by
  show IntKind.u64.wrap ((BitVec.ofInt 64 (IntKind.u64.wrap (IntKind.u64.wrap z * 2)) ^^^ BitVec.ofInt 64 (IntKind.u64.wrap (z.fdiv 9223372036854775808))).toNat : Int) = (zigS z : Nat)
  simp only [wrap_u64]
  by_cases c : z < 0
  · have e1 : z.fdiv 9223372036854775808 = -1 := by rw [Int.fdiv_eq_ediv_of_nonneg _ (by omega)]; omega
    have e2 : BitVec.ofInt 64 (-1 % 18446744073709551616) = BitVec.allOnes 64 := by decide
    rw [e1, e2, BitVec.xor_allOnes, BitVec.toNat_not, BitVec.toNat_ofInt]
    unfold zigS
    rw [if_pos c]
    omega
  · have e1 : z.fdiv 9223372036854775808 = 0 := by rw [Int.fdiv_eq_ediv_of_nonneg _ (by omega)]; omega
    have e2 : BitVec.ofInt 64 (0 % 18446744073709551616) = 0#64 := by decide
    rw [e1, e2, BitVec.xor_zero, BitVec.toNat_ofInt]
    unfold zigS
    rw [if_neg c]
    omega
theorem zig_ok (Gl : xzv) (z : Int) (h1 : -9223372036854775808 ≤ z) (h2 : z ≤ 9223372036854775807) : xzK E Gl f_wire_Zig [.int .i64 z] (.int .u64 (zigS z : Nat)) := by
  refine xzx (xze E_wire_Zig ?_)
  unfold c_wire_Zig r_wire_Zig
  simp only [xzC]
  have z1 : ¬ ((1 : Int) < 0) := by omega
  have z2 : ¬ ((63 : Int) < 0) := by omega
  simp only [qzj, qzn, qzF, qzi, qzf, qzd, qze, qzp, qzK, qzc, qzb, qzg, qzh, qzm, qzl, qzs, qza, qzr, qzu, qzx, cv, qzG, qzH, toA, ofA, FR.pop, abin, intBin, shiftBin, h0, qzQ, qzM, qzV, qzP, ↓reduceIte, Nat.reduceEqDiff, reduceCtorEq, reduceCtorEq, shiftBin, z1, z2]
  rw [zig_math z h1 h2]
  exact qzt rfl
end
end Go.VL.Wire

/- Chapter 2: bytes as a number. -/
namespace Go.VL.Wire
open Go.FR Go.IR Go.VL Go.VL.Er
noncomputable section
set_option linter.unusedSimpArgs false
set_option linter.unusedVariables false
set_option maxRecDepth 100000
set_option maxHeartbeats 1000000

inductive Got where
  | short
  | varint
  | got (n k : Nat)
def getL : List Nat → Nat → Nat → Got
  | [], _, _ => .short
  | x :: r, k, n => if (k = 9 ∧ 1 < x) ∨ (x = 0 ∧ 0 < k) then .varint else if x < 128 then .got (n + x * 128 ^ k) (k + 1) else getL r (k + 1) (n + (x % 128) * 128 ^ k)

theorem flat1_at {l : List Nat} {k x : Nat} (h : l[k]? = some x) : (xzm cB l)[k]? = some (.int .u8 (x : Int)) := by
  have := part_flat1 cB_len h (q := 0) (by omega)
  simp only [qzB, Nat.mul_one, Nat.add_zero] at this
  rw [this]; rfl
/-- What is got of these from a place on. -/
structure GotS where
  n : Nat
  k : Int
  e : ErrV
def getS (bs : List Nat) (at_ : Int) : GotS :=
  if at_ < 0 ∨ (bs.length : Int) < at_ then ⟨0, 0, .placed 6 at_⟩ else match getL (bs.drop at_.toNat) 0 0 with
    | .short => ⟨0, 0, .placed 6 at_⟩
    | .varint => ⟨0, 0, .placed 8 at_⟩
    | .got n k => ⟨n, at_ + k, .none⟩
def GotS.v (g : GotS) : VV := .tuple [.int .u64 (g.n : Int), .int .i64 g.k, g.e.v]

end
end Go.VL.Wire

/- Chapter 2: what is put is got. In plain numbers. -/
namespace Go.VL.Wire
open Go.FR Go.IR Go.VL Go.VL.Er
noncomputable section
set_option linter.unusedSimpArgs false
set_option linter.unusedVariables false
set_option maxRecDepth 100000
set_option maxHeartbeats 1000000

theorem pow_ge9 {m k : Nat} (h9 : 9 < k + 1) (hk : k ≤ 9) (h : m * 128 ^ k < 18446744073709551616) : m ≤ 1 := by
  obtain rfl : k = 9 := by omega
  simp only [Nat.reducePow] at h
  omega
theorem pow_split (m k : Nat) : (m / 128) * 128 ^ (k + 1) + (m % 128) * 128 ^ k = m * 128 ^ k := by
  rw [Nat.pow_succ, ← Nat.mul_assoc, Nat.mul_right_comm, ← Nat.add_mul]
  congr 1; omega
theorem get_put : ∀ (m : Nat) (r : List Nat) (k acc : Nat), k ≤ 9 → m * 128 ^ k + acc < 18446744073709551616 → (0 < k → 0 < m) → getL (putS m ++ r) k acc = .got (acc + m * 128 ^ k) (k + (putS m).length) := fun m => by
  induction m using Nat.strongRecOn with
  | _ m ih =>
    intro r k acc hk hm h0
    by_cases c : m < 128
    · rw [putS_lt c, List.cons_append, List.nil_append, getL, if_neg, if_pos c]
      · rfl
      · rintro (⟨h1, h2⟩ | ⟨h1, h2⟩)
        · have := pow_ge9 (m := m) (k := k) (by omega) hk (by omega); omega
        · have := h0 h2; omega
    · have k9 : k ≠ 9 := fun e => by have := pow_ge9 (m := m) (k := k) (by omega) hk (by omega); omega
      rw [putS_ge c, List.cons_append, getL, if_neg (by omega), if_neg (by omega), show (m % 128 + 128) % 128 = m % 128 by omega]
      have hs := pow_split m k
      rw [ih (m / 128) (by omega) r (k + 1) _ (by omega) (by omega) (by omega), List.length_cons]
      congr 1
      · omega
      · omega
/-- The last byte, told to go on. -/
def moreS (m : Nat) : List Nat := if m < 128 then [m + 128] else (m % 128 + 128) :: moreS (m / 128)
termination_by m
decreasing_by omega
end
end Go.VL.Wire

/- Chapter 2: what the laws of bytes share. -/
namespace Go.VL.Wire
open Go.FR Go.IR Go.VL Go.VL.Er
noncomputable section
set_option linter.unusedSimpArgs false
set_option linter.unusedVariables false
set_option maxRecDepth 100000
set_option maxHeartbeats 1000000

theorem flat1_len (l : List Nat) : (xzm cB l).length = l.length := by rw [flatL_length cB_len, Nat.mul_one]
theorem samesB_loop (Gl : xzv) (a b : List Nat) (hl : a.length < 1000000) (hab : a.length = b.length) (K : AEx → VF → VH → Prop)
    (hK0 : ∀ T h, a = b → K (.exit 0) T h) (hK1 : ∀ T h, a ≠ b → qzv T 4 = some (.bool false) → K .ret T h) :
    ∀ (d i : Nat) (T : VF) (h : VH), d + i = a.length → a.take i = b.take i → qzv T 0 = some (.fsl (xzm cB a) a.length 1) → qzv T 1 = some (.fsl (xzm cB b) b.length 1) → qzv T 5 = some (.int .i64 i) →
      wp Go.VL.Wire.E Gl (.loop c_glyphicref_SameBytes_l0) T h K := by
  intro d
  induction d with
  | zero =>
    intro i T h hd ht t0 t1 t5
    obtain rfl : i = a.length := by omega
    refine xzr c_glyphicref_SameBytes_l0.eq_1 ?_
    simp only [qzA, qzj, xzD, qzn, qzD, qzX, qzw, qzo, qzi, xzh, qzY, qzf, qzd, qze, qzp, xzj, xzc, xzw, qzc, qzb, qzg, qzh, xzs, xzt, qzm, qzl, qzs, qza, qzr, qzu, qzx, xzp, xzd, qzG, qzH, toA, ofA, FR.pop, abin, intBin, countN, xzu, ↓reduceIte, Nat.reduceEqDiff, reduceCtorEq, true_and, Bool.false_eq_true, decide_false, forall_const, false_implies, reduceCtorEq, t0, t5, Int.lt_irrefl]
    refine hK0 _ _ ?_
    rw [List.take_of_length_le (Nat.le_refl _), List.take_of_length_le (by omega)] at ht
    exact ht
  | succ d ih =>
    intro i T h hd ht t0 t1 t5
    refine xzr c_glyphicref_SameBytes_l0.eq_1 ?_
    have h1 : i < a.length := by omega
    have h2 : i < b.length := by omega
    have c1 : (i : Int) < a.length := by omega
    obtain ⟨x, hx⟩ : ∃ x, a[i]? = some x := ⟨a[i], List.getElem?_eq_getElem h1⟩
    obtain ⟨y, hy⟩ : ∃ y, b[i]? = some y := ⟨b[i], List.getElem?_eq_getElem h2⟩
    have p1 := flat1_at hx
    have p2 := flat1_at hy
    have w : IntKind.i64.wrap ((i : Int) + 1) = ((i + 1 : Nat) : Int) := by rw [xzi (by omega) (by omega)]; rfl
    by_cases e : x = y
    · have q : ((x : Int) == (y : Int)) = true := by simp [e]
      simp only [qzA, qzj, xzD, qzn, qzD, qzX, qzF, qzw, qzo, qzi, xzh, qzT, xzg, xzf, xzq, qzY, xzB, qzf, qzd, qze, qzp, xzE, xzj, xzc, xzw, xzN, qzc, qzk, qzb, qzg, qzh, xzs, xzt, qzm, qzl, qzs, qza, qzr, qzu, qzx, xzp, xzd, qzL, qzC, qzB, cv, qzG, qzH, toA, ofA, FR.pop, abin, aun, intBin, countN, xzG, xzP, xzT, xzH, xzO, yza, xzZ, xzu, ↓reduceIte, List.append_nil, Nat.reduceEqDiff, reduceCtorEq, and_self, and_true, true_and, Bool.and_self, Bool.not_true, Bool.false_eq_true, decide_true, forall_const, false_implies, Bool.true_eq_false, reduceCtorEq, t0, t1, t5, c1, h1, h2, Nat.mul_one, p1, p2, q, w]
      refine ih (i + 1) _ h (by omega) (by rw [take_at hx, take_at hy, ht, e]) ?_ ?_ ?_
      · simp only [qza, ↓reduceIte, reduceCtorEq, reduceCtorEq, t0]
      · simp only [qza, ↓reduceIte, Nat.reduceEqDiff, t1]
      · simp only [qza, ↓reduceIte]
    · have q : ((x : Int) == (y : Int)) = false := by simp; omega
      simp only [qzA, qzj, xzD, qzn, qzD, qzX, qzF, qzw, qzo, qzi, xzh, qzT, xzg, xzf, xzq, qzY, xzB, qzf, qzd, qze, qzp, xzE, xzj, xzc, xzw, xzN, qzc, qzk, qzb, qzg, qzh, xzs, xzt, qzm, qzl, qzs, qza, qzr, qzu, qzx, xzp, xzd, qzL, qzC, qzB, cv, qzG, qzH, toA, ofA, FR.pop, abin, aun, intBin, countN, xzG, xzP, xzT, xzH, xzO, yza, xzZ, xzu, ↓reduceIte, List.append_nil, Nat.reduceEqDiff, reduceCtorEq, and_self, and_true, true_and, Bool.and_self, Bool.not_false, decide_true, forall_const, false_implies, Bool.true_eq_false, reduceCtorEq, t0, t1, t5, c1, h1, h2, Nat.mul_one, p1, p2, q, w]
      refine hK1 _ _ (fun e' => e ?_) ?_
      · rw [e', hy] at hx; exact (Option.some.inj hx).symm
      · simp only [qza, ↓reduceIte]
theorem samesB_ok (Gl : xzv) (a b : List Nat) (hl : a.length < 1000000) : xzK Go.VL.Wire.E Gl f_glyphicref_SameBytes [.fsl (xzm cB a) a.length 1, .fsl (xzm cB b) b.length 1] (.bool (decide (a = b))) := by
  refine xzx (xze E_glyphicref_SameBytes ?_)
  unfold c_glyphicref_SameBytes r_glyphicref_SameBytes
  simp only [xzC]
  by_cases hab : a.length = b.length
  · have q : ((a.length : Int) != (b.length : Int)) = false := by simp; omega
    simp only [qzA, qzj, qzn, qzD, qzF, qzw, qzo, qzi, qzT, qzf, qzd, qze, qzp, qzK, qzc, qzb, qzg, qzh, qzm, qzl, qzs, qza, qzr, qzu, qzx, xzd, cv, qzG, qzH, toA, ofA, FR.pop, abin, intBin, h0, qzQ, qzM, qzV, qzP, ↓reduceIte, Nat.reduceEqDiff, reduceCtorEq, Nat.zero_add, true_and, Bool.false_eq_true, forall_const, false_implies, reduceCtorEq, q]
    refine samesB_loop Gl a b hl hab _ ?_ ?_ a.length 0 _ _ (by omega) rfl ?_ ?_ ?_
    · intro T h e
      simp only [qzj, qzn, qzF, qzi, xzz, qzf, qzd, qze, qzp, qzK, qzc, qzb, qzg, qzh, qzm, qzl, qzs, qza, qzr, qzu, qzx, cv, qzQ, qzM, qzV, qzP, ↓reduceIte]
      rw [decide_eq_true e]
      exact qzt rfl
    · intro T h e t4
      simp only [qzT, xzf, qzK, qzQ, qzM, qzV, qzP, t4]
      rw [decide_eq_false e]
      exact qzt rfl
    · simp only [qza, ↓reduceIte, reduceCtorEq, reduceCtorEq]
    · simp only [qza, ↓reduceIte, Nat.reduceEqDiff, reduceCtorEq, reduceCtorEq]
    · simp only [qza, ↓reduceIte]; rfl
  · have q : ((a.length : Int) != (b.length : Int)) = true := by simp; omega
    have e : a ≠ b := fun e => hab (by rw [e])
    simp only [qzA, qzj, qzn, qzD, qzF, qzw, qzo, qzi, qzT, qzf, qzd, qze, qzp, qzK, qzc, qzb, qzg, qzh, qzm, qzl, qzs, qza, qzr, qzu, qzx, xzd, cv, qzG, qzH, toA, ofA, FR.pop, abin, intBin, h0, qzQ, qzM, qzV, qzP, ↓reduceIte, Nat.reduceEqDiff, reduceCtorEq, Nat.zero_add, and_true, forall_const, false_implies, Bool.true_eq_false, reduceCtorEq, q]
    rw [decide_eq_false e]
    exact qzt rfl
theorem own1_shut {h : VH} {X : List Nat} {j n : Nat} (hj : qzv h.l j = some (some (.cells (xzm cB X) false))) (hn : X.length = n) : shut h (.slice j 0 n 1 (.toEnd 1)) = some (.fsl (xzm cB X) X.length 1) := by
  have hcl := closedL_flat (f := cB) (fun _ => rfl) X
  obtain ⟨h1, h2⟩ := flat_all cB_len X
  subst hn
  simp only [shut, qzq, hj, Option.getD_some, hcl, Nat.zero_add, h1, capOK, List.drop_zero, h2, and_self, if_true]
end
end Go.VL.Wire

/- Chapter 2: a number put behind bytes. -/
namespace Go.VL.Wire
open Go.FR Go.IR Go.VL Go.VL.Er
noncomputable section
set_option linter.unusedSimpArgs false
set_option linter.unusedVariables false
set_option maxRecDepth 100000
set_option maxHeartbeats 1000000

theorem wpW_app0 {E : Env} {Gl : xzv} {h : VH} {K : VV → VH → Option (List Nat × Bool) → Prop} {esz eb n : Nat} {v x : VV} {cs : List VV} (hs : srcV h esz x = some (0, cs)) (hn : lenOfV v = some n) (hk : K v h (some (xzy (some v), true))) : wpW E Gl (.append esz eb) [v, x] h K := by
  rw [wpW_append]
  simp only [appendV, hs, hn, optW]
  exact hk

theorem cloneB_run (Gl : xzv) (bs : List Nat) (hl : bs.length < 100000) (e : Nat) (he : e = 1 ∨ bs = []) (h : VH) :
    CallsV Go.VL.Wire.E Gl f_slices_Clone__byte_byte [.fsl (xzm cB bs) bs.length e] h (fun r h' => (∃ j, AccE h.next h' j cB bs 1 r) ∧ h.next ≤ h'.next) := by
  refine xze E_slices_Clone__byte_byte ?_
  unfold c_slices_Clone__byte_byte r_slices_Clone__byte_byte
  simp only [xzC]
  cases bs with
  | nil =>
    simp only [qzj, qzn, qzi, qzf, qzd, qze, qzp, qzJ, qzc, qzb, qzg, qzh, qzm, qzl, qzs, qza, qzr, qzu, qzx, qzL, xzU, xzV, eqSV, cv, ↓reduceIte, List.length_nil, reduceCtorEq, reduceCtorEq]
    rw [optR_none rfl]
    intro b
    cases b
    · simp only [qzA, qzj, qzn, qzF, qzw, qzo, qzi, qzT, qzf, qzd, qze, qzp, qzZ, qzN, qzK, qzc, qzE, qzb, qzg, qzh, qzR, qzm, qzl, qzs, qza, qzr, qzu, qzx, xzk, xzA, cvs, cv, VN.at, VH.push, qzQ, qzM, qzV, qzP, ↓reduceIte, List.length_nil, Nat.reduceDiv, Nat.reduceEqDiff, reduceCtorEq, true_and, Bool.false_eq_true, forall_const, false_implies, reduceCtorEq]
      refine wpW_app0 (n := 0) (cs := []) (by simp only [srcV, flatL_nil, or_true, if_true]) rfl ?_
      simp only [qzF, qzi, qzf, qzd, qze, qzp, qzz, qzK, qzc, qzb, qzg, qzh, qzm, qzl, qzs, qza, qzr, qzu, qzx, qzQ, qzM, qzV, qzP, xzy, ↓reduceIte]
      exact ⟨⟨h.next, .inr ⟨0, .inr rfl, rfl, by simp only [qza, if_true]; rfl, Nat.le_refl _, Nat.lt_succ_self _⟩⟩, Nat.le_succ _⟩
    · simp only [qzA, qzj, qzn, qzF, qzw, qzo, qzi, qzT, qzf, qzd, qze, qzp, qzZ, qzN, qzK, qzc, qzE, qzb, qzg, qzh, qzR, qzm, qzl, qzs, qza, qzr, qzu, qzx, xzk, xzA, cvs, cv, VN.at, VH.push, qzQ, qzM, qzV, qzP, ↓reduceIte, List.length_nil, Nat.reduceDiv, Nat.reduceEqDiff, reduceCtorEq, and_true, forall_const, false_implies, Bool.true_eq_false, reduceCtorEq]
      exact ⟨⟨0, .inl xzS.nil⟩, Nat.le_refl _⟩
  | cons x l =>
    obtain rfl : e = 1 := by rcases he with rfl | he; rfl; cases he
    simp only [qzA, qzj, qzn, qzF, qzw, qzo, qzi, qzT, qzf, qzd, qze, qzp, qzJ, qzZ, qzN, qzK, qzc, qzk, qzE, qzb, qzg, qzh, qzR, qzm, qzl, qzs, qza, qzr, qzu, qzx, qzL, xzU, xzV, eqSV, xzk, xzA, cvs, cv, VN.at, VH.push, qzQ, qzM, qzV, qzP, ↓reduceIte, List.length_cons, List.length_nil, Nat.reduceDiv, Nat.reduceEqDiff, reduceCtorEq, true_and, Bool.false_eq_true, forall_const, false_implies, reduceCtorEq]
    refine wpW_accE (base := h.next) (j := h.next) (f := cB) (l := []) (ls := x :: l) (.inr ⟨0, .inr rfl, rfl, by simp only [qza, if_true]; rfl, Nat.le_refl _, Nat.lt_succ_self _⟩) (by simp only [srcV, true_or, if_true, List.length_cons]) (by simp) cB_len (by omega) (Nat.le_succ _) (by simp at *; omega) (by simp at *; omega) ?_
    intro h' g1 g2 g4
    simp only [qzF, qzi, qzf, qzd, qze, qzp, qzz, qzK, qzc, qzb, qzg, qzh, qzm, qzl, qzs, qza, qzr, qzu, qzx, qzQ, qzM, qzV, qzP, xzy, ↓reduceIte, List.length_cons, List.length_nil, Nat.zero_add]
    simp only [List.nil_append, List.length_nil, Nat.zero_add] at g4
    exact ⟨⟨_, .inl g4⟩, by simp only at g1; omega⟩

theorem putC (Gl : xzv) (bs : List Nat) (hl : bs.length < 90000) (e : Nat) (he : e = 1 ∨ bs = []) (n : Nat) (hn : n < 18446744073709551616) :
    PureOwn Go.VL.Wire.E Gl f_wire_Put [.fsl (xzm cB bs) bs.length e, .int .u64 (n : Int)] (xzm cB (bs ++ putS n)) 0 (bs ++ putS n).length 1 (.toEnd 1) := by
  refine own_sound (xze E_wire_Put ?_)
  unfold c_wire_Put r_wire_Put
  simp only [xzC]
  simp only [qzj, qzn, qzi, qzf, qzd, qze, qzp, qzN, qzc, qzb, qzg, qzh, qzy, qzm, qzl, qzs, qza, qzr, qzu, qzx, cv, qzq, h0, ↓reduceIte, reduceCtorEq, Nat.zero_add, reduceCtorEq]
  refine xzI (cloneB_run Gl bs (by omega) e he _) ?_
  rintro r h' ⟨⟨j, acc⟩, hn'⟩
  have acc' : AccE 0 h' j cB bs 1 r := by
    rcases acc with a | ⟨e, a1, a2, a3, a4, a5⟩
    · exact .inl (a.low (Nat.zero_le _))
    · exact .inr ⟨e, a1, a2, a3, Nat.zero_le _, a5⟩
  simp only [qzn, qzD, qzi, qzf, qzd, qze, qzp, qzz, qzc, qzb, qzg, qzh, qzm, qzl, qzs, qza, qzr, qzu, qzx, ↓reduceIte]
  refine put_end Gl n _ h' j r hn ?_ ?_ bs (by omega) acc' _ (fun h'' i hi => ⟨i, _, rfl, by rw [hi]; rfl, closedL_flat (fun _ => rfl) _, subL_refl _⟩)
  · simp only [qza, ↓reduceIte]
  · simp only [qza, ↓reduceIte, Nat.reduceEqDiff, reduceCtorEq, reduceCtorEq]
end
end Go.VL.Wire
