import Derived.Test.YtbamfhdgikeneaaDoorWiA
import Derived.Test.YtbamfhdgikeneaaDoorErB
/- The statements' own makers: numbers one by one; points, edges, rings out of them. -/
namespace Go.VL.Wind
open Go.FR Go.IR Go.VL
noncomputable section
set_option linter.unusedSimpArgs false
set_option linter.unusedVariables false
set_option maxRecDepth 100000
set_option maxHeartbeats 1000000

abbrev cSeq (l : List Int) (at_ : Nat) : List VV := [.fsl (l.map (VV.int .i64)) l.length 1, .int .i64 at_]
abbrev bSeq (l : List Int) (at_ : Nat) : VB := .cells (cSeq l at_) false

/-- A number from 0 to below a bound, of any. -/
def numbS (n below : Int) : Int := if n.tmod below < 0 then n.tmod below + below else n.tmod below
theorem numb_in (n below : Int) (h : 0 < below) : 0 ≤ numbS n below ∧ numbS n below < below := by
  unfold numbS
  have h1 := Int.lt_tmod_of_pos n h
  have h2 := Int.tmod_lt_of_pos n h
  split <;> omega

theorem numb_ok (Gl : xzy) (n below : Int) (h : 0 < below) (hb : below < 9223372036854775807) : xzJ E Gl f_glyphicworld_Number [.int .i64 n, .int .i64 below] (.int .i64 (numbS n below)) := by
  refine xzv (xzk E_glyphicworld_Number ?_)
  unfold c_glyphicworld_Number r_glyphicworld_Number numbS
  simp only [xzG]
  have h0 : ¬ below = 0 := by omega
  have h1 := Int.lt_tmod_of_pos n h
  have h2 := Int.tmod_lt_of_pos n h
  by_cases c : n.tmod below < 0
  · have w : IntKind.i64.wrap (n.tmod below + below) = n.tmod below + below := xzj (by omega) (by omega)
    simp only [qzx, qzm, qzp, qzD, qzs, qzj, qzi, qzf, qze, qzd, qzq, qzH, qzc, qzb, qzg, qzh, qzn, qzo, qzu, qza, qzt, qzw, qzy, cv, qzI, qzJ, toA, ofA, FR.pop, abin, intBin, qzW, qzN, qzX, qzV, ↓reduceIte, Nat.reduceEqDiff, reduceCtorEq, Nat.zero_add, and_true, decide_true, forall_const, false_implies, Bool.true_eq_false, reduceCtorEq, h0, c, w]
    exact qzv rfl
  · simp only [qzx, qzm, qzp, qzD, qzs, qzj, qzi, qzf, qze, qzd, qzq, qzH, qzc, qzb, qzg, qzh, qzn, qzo, qzu, qza, qzt, qzw, qzy, cv, qzI, qzJ, toA, ofA, FR.pop, abin, intBin, qzW, qzN, qzX, qzV, ↓reduceIte, Nat.reduceEqDiff, reduceCtorEq, Nat.zero_add, true_and, Bool.false_eq_true, decide_false, forall_const, false_implies, reduceCtorEq, h0, c]
    exact qzv rfl

def pickS (l : List Int) (at_ : Nat) : Int := if at_ < l.length then l.getD at_ 0 else 0
def nextS (l : List Int) (at_ : Nat) (below : Int) : Int := numbS (pickS l at_) below
theorem next_in (l : List Int) (at_ : Nat) (below : Int) (h : 0 < below) : 0 ≤ nextS l at_ below ∧ nextS l at_ below < below := numb_in _ _ h

theorem next_ok (Gl : xzy) (l : List Int) (at_ : Nat) (below : Int) (i : Nat) (hl : l.length < 4611686018427387904) (ha : at_ < 4611686018427387904) (h : 0 < below) (hb : below < 9223372036854775807) :
    StOk E Gl f_glyphicmake_Seq_Next [.ptr i 0, .int .i64 below] [(i, bSeq l at_)] (.int .i64 (nextS l at_ below)) [(i, bSeq l (at_ + 1))] := by
  refine st1_intro fun nx hn => xzk E_glyphicmake_Seq_Next ?_
  unfold c_glyphicmake_Seq_Next r_glyphicmake_Seq_Next
  simp only [xzG]
  have w : IntKind.i64.wrap ((at_ : Int) + 1) = ((at_ + 1 : Nat) : Int) := by rw [xzj (by omega) (by omega)]; rfl
  by_cases c : at_ < l.length
  · have c1 : (at_ : Int) < (l.length : Int) := by omega
    have hp : (l.map (VV.int .i64))[at_]? = some (.int .i64 (pickS l at_)) := by
      rw [List.getElem?_map, List.getElem?_eq_getElem c]
      simp [pickS, c, List.getD]
    simp only [qzx, qzm, xzM, qzp, qzs, qzj, qzi, qzf, qze, qzd, qzq, qzG, qzK, qzz, xzN, xzu, xzq, xzK, xzT, qzc, qzk, qzb, qzQ, qzg, qzh, xzz, xzE, qzP, qzB, qzn, qzo, qzu, qza, qzt, qzw, qzy, qzL, xzm, xzn, xzX, qzM, qzF, qzS, qzU, xzg, qzE, cv, qzI, qzJ, toA, ofA, FR.pop, abin, intBin, VH.set, qzl, VV.cells, ntV, qzO, countN, xzI, xzQ, xzZ, xzH, xzO, yzf, yzd, xzs, xzx, ↓reduceIte, Option.getD_some, Option.isSome_some, List.getElem?_cons_zero, List.getElem?_cons_succ, List.length_cons, List.length_nil, List.drop_succ_cons, List.drop_zero, List.take_succ_cons, List.take_zero, List.append_nil, List.nil_append, List.cons_append, List.contains_nil, List.head?_cons, Nat.reduceAdd, Nat.reduceEqDiff, reduceCtorEq, Nat.reduceLeDiff, Nat.add_zero, Nat.zero_add, and_self, and_true, true_and, Bool.and_self, Bool.not_false, decide_true, forall_const, false_implies, Bool.true_eq_false, reduceCtorEq, cSeq, c1, c, hp, Nat.mul_one, w]
    refine xzb (numb_ok Gl _ below h hb) rfl rfl ?_
    simp only [qzD, qzi, qzf, qze, qzd, qzq, qzz, qzH, qzc, qzb, qzg, qzh, qzn, qzo, qzu, qza, qzt, qzw, qzy, qzW, qzN, qzX, qzV, ↓reduceIte, and_true] <;> first | rfl | exact ⟨rfl, rfl⟩ | exact qzv rfl
  · have c1 : ¬ (at_ : Int) < (l.length : Int) := by omega
    have hp : pickS l at_ = 0 := by simp [pickS, c]
    simp only [qzx, qzm, xzM, qzp, qzs, qzj, qzi, qzf, qze, qzd, qzq, qzG, qzK, qzz, xzN, xzu, xzq, xzK, xzT, qzc, qzk, qzb, qzQ, qzg, qzh, xzz, xzE, qzP, qzB, qzn, qzo, qzu, qza, qzt, qzw, qzy, qzL, xzm, xzn, xzX, qzM, qzF, qzS, qzU, xzg, qzE, cv, qzI, qzJ, toA, ofA, FR.pop, abin, intBin, VH.set, qzl, VV.cells, ntV, qzO, countN, xzI, xzQ, xzZ, xzH, xzO, yzf, yzd, xzs, xzx, ↓reduceIte, Option.getD_some, Option.isSome_some, List.getElem?_cons_zero, List.getElem?_cons_succ, List.length_cons, List.length_nil, List.drop_succ_cons, List.drop_zero, List.take_succ_cons, List.take_zero, List.append_nil, List.nil_append, List.cons_append, List.contains_nil, List.head?_cons, Nat.reduceAdd, Nat.reduceEqDiff, reduceCtorEq, Nat.reduceLeDiff, Nat.add_zero, Nat.zero_add, and_self, true_and, Bool.and_self, Bool.not_false, Bool.false_eq_true, decide_false, forall_const, false_implies, reduceCtorEq, cSeq, c1, w]
    refine xzb (numb_ok Gl 0 below h hb) rfl rfl ?_
    unfold nextS
    simp only [qzD, qzi, qzf, qze, qzd, qzq, qzz, qzH, qzc, qzb, qzg, qzh, qzn, qzo, qzu, qza, qzt, qzw, qzy, qzW, qzN, qzX, qzV, ↓reduceIte, and_self, hp] <;> first | rfl | exact ⟨rfl, rfl⟩ | exact qzv rfl

def pointS (l : List Int) (at_ : Nat) (far : Int) : Pt := ⟨nextS l at_ (2 * far + 1) - far, nextS l (at_ + 1) (2 * far + 1) - far⟩
theorem point_ok (Gl : xzy) (l : List Int) (at_ : Nat) (far : Int) (i : Nat) (hl : l.length < 4611686018427387904) (ha : at_ + 1 < 4611686018427387904) (h : 0 ≤ far) (hb : far < 4611686018427387000) :
    StOk E Gl f_glyphicmake_Point [.ptr i 0, .int .i64 far] [(i, bSeq l at_)] (.agg (cPt (pointS l at_ far))) [(i, bSeq l (at_ + 2))] := by
  refine st1_intro fun nx hn => xzk E_glyphicmake_Point ?_
  unfold c_glyphicmake_Point r_glyphicmake_Point
  simp only [xzG]
  have w1 : IntKind.i64.wrap (2 * far) = 2 * far := xzj (by omega) (by omega)
  have w2 : IntKind.i64.wrap (2 * far + 1) = 2 * far + 1 := xzj (by omega) (by omega)
  have n1 := next_in l at_ (2 * far + 1) (by omega)
  have n2 := next_in l (at_ + 1) (2 * far + 1) (by omega)
  have w3 : IntKind.i64.wrap (nextS l at_ (2 * far + 1) - far) = nextS l at_ (2 * far + 1) - far := xzj (by omega) (by omega)
  have w4 : IntKind.i64.wrap (nextS l (at_ + 1) (2 * far + 1) - far) = nextS l (at_ + 1) (2 * far + 1) - far := xzj (by omega) (by omega)
  have ne1 : ¬ nx = i := by omega
  have ne2 : ¬ i = nx := by omega
  simp only [qzm, qzp, qzi, qzf, qze, qzd, qzq, xzd, qzK, qzc, qzC, qzb, qzg, qzh, qzT, qzB, qzn, qzo, qzu, qza, qzt, qzw, qzy, xzi, cvs, cv, qzI, qzJ, toA, ofA, FR.pop, abin, intBin, VN.at, VH.push, ↓reduceIte, Nat.reduceEqDiff, reduceCtorEq, Nat.zero_add, reduceCtorEq, cPt, w1, w2]
  refine call_st1 (next_ok Gl l at_ (2 * far + 1) i hl (by omega) (by omega) (by omega)) (by simp only [qza, ↓reduceIte, ne1]) rfl rfl ?_
  simp only [qzm, qzp, qzi, qzf, qze, qzd, qzq, qzK, qzz, qzc, qzb, qzg, qzh, qzB, qzn, qzo, qzu, qza, qzt, qzw, qzy, cv, qzI, qzJ, toA, ofA, FR.pop, abin, intBin, ↓reduceIte, Nat.reduceEqDiff, reduceCtorEq, reduceCtorEq, w1, w2, w3]
  refine call_st1 (next_ok Gl l (at_ + 1) (2 * far + 1) i hl (by omega) (by omega) (by omega)) (by simp only [qza, ↓reduceIte]) rfl rfl ?_
  simp only [qzD, qzi, qzf, qze, qzd, qzq, qzK, qzz, qzH, qzc, qzb, qzQ, qzg, qzh, qzP, qzn, qzo, qzu, qza, qzt, qzw, qzy, qzF, xzt, xzr, qzS, qzU, xzg, qzE, cvs, cv, qzI, qzJ, toA, ofA, FR.pop, abin, intBin, VH.set, qzl, VV.cells, ntV, qzW, qzN, qzX, qzV, qzO, xzs, ↓reduceIte, Option.getD_some, List.length_cons, List.length_nil, List.drop_succ_cons, List.drop_zero, List.take_succ_cons, List.take_zero, List.append_nil, List.nil_append, List.cons_append, List.head?_cons, Nat.reduceAdd, Nat.reduceEqDiff, reduceCtorEq, Nat.reduceLeDiff, Nat.zero_add, and_self, and_true, reduceCtorEq, w4, ne1, ne2] <;> first | rfl | exact ⟨rfl, rfl⟩ | exact qzv rfl

def edgesS (l : List Int) : Nat → Nat → Int → List Edge
  | 0, _, _ => []
  | n + 1, at_, far => ⟨pointS l at_ far, pointS l (at_ + 2) far⟩ :: edgesS l n (at_ + 4) far

def chainS (l : List Int) (far : Int) : Nat → Nat → Pt → List Edge
  | 0, _, _ => []
  | n + 1, at_, p => ⟨p, pointS l at_ far⟩ :: chainS l far n (at_ + 2) (pointS l at_ far)
def lastS (l : List Int) (far : Int) : Nat → Nat → Pt → Pt
  | 0, _, p => p
  | n + 1, at_, p => lastS l far n (at_ + 2) (pointS l at_ far)
def ringS (l : List Int) (n at_ : Nat) (far : Int) : List Edge :=
  chainS l far (n - 1) (at_ + 2) (pointS l at_ far) ++ [⟨lastS l far (n - 1) (at_ + 2) (pointS l at_ far), pointS l at_ far⟩]
end
end Go.VL.Wind

/- The statements' own maker of icons: colors, points, paths. -/
namespace Go.VL.Mk
open Go.FR Go.IR Go.VL Go.VL.Color Go.VL.Wind Go.VL.Ic
noncomputable section
set_option linter.unusedSimpArgs false
set_option linter.unusedVariables false
set_option maxRecDepth 100000
set_option maxHeartbeats 1000000

def palS : List Cl := [⟨255, 0, 0, 255⟩, ⟨0, 128, 0, 255⟩, ⟨0, 0, 200, 100⟩, ⟨10, 20, 30, 1⟩, ⟨255, 255, 255, 255⟩, ⟨0, 0, 0, 0⟩, ⟨7, 0, 0, 254⟩]
def colorS (l : List Int) (a : Nat) : Cl := palS.getD (nextS l a 7).toNat ⟨0, 0, 0, 0⟩
def insideS (l : List Int) (a : Nat) (far : Int) : Pt := if nextS l a 12 = 0 then pointS l (a + 1) far else ⟨nextS l (a + 1) (far + 1), nextS l (a + 2) (far + 1)⟩
theorem inside_ok (Gl : xzy) (l : List Int) (a : Nat) (far : Int) (i : Nat) (hl : l.length < 4611686018427387904) (ha : a + 3 < 4611686018427387904) (h : 0 ≤ far) (hb : far < 4611686018427387000) :
    StOk Go.VL.Er.E Gl f_glyphicmake_inside [.ptr i 0, .int .i64 far] [(i, bSeq l a)] (.agg (cPt (insideS l a far))) [(i, bSeq l (a + 3))] := by
  refine st1_intro fun nx hn => xzk E_glyphicmake_inside ?_
  unfold c_glyphicmake_inside r_glyphicmake_inside
  simp only [xzG]
  have e1 : ¬ nx = i := by omega
  have e2 : ¬ i = nx := by omega
  have w2 : IntKind.i64.wrap (far + 1) = far + 1 := xzj (by omega) (by omega)
  simp only [qzm, qzp, qzi, qzf, qze, qzd, qzq, xzd, qzK, qzc, qzC, qzb, qzg, qzh, qzT, qzB, qzn, qzo, qzu, qza, qzt, qzw, qzy, xzi, cvs, cv, VN.at, VH.push, ↓reduceIte, reduceCtorEq, Nat.zero_add, reduceCtorEq, cSeq, bSeq, cPt]
  refine call_st1 (next_ok Gl l a 12 i hl (by omega) (by omega) (by omega)) (by simp only [qza, ↓reduceIte, cSeq, bSeq, e1]) rfl rfl ?_
  unfold insideS
  by_cases c : nextS l a 12 = 0
  · have c' : (nextS l a 12 == 0) = true := by simp [c]
    rw [if_pos c]
    simp only [qzx, qzm, qzp, qzs, qzj, qzi, qzf, qze, qzd, qzq, qzK, qzz, qzc, qzb, qzg, qzh, qzB, qzn, qzo, qzu, qza, qzt, qzw, qzy, cv, qzI, qzJ, toA, ofA, FR.pop, abin, intBin, ↓reduceIte, Nat.reduceEqDiff, reduceCtorEq, and_true, forall_const, false_implies, Bool.true_eq_false, reduceCtorEq, cSeq, bSeq, c']
    refine call_st1 (point_ok Gl l (a + 1) far i hl (by omega) h hb) (by simp only [qza, ↓reduceIte, cSeq, bSeq]) rfl rfl ?_
    simp only [qzD, qzi, qzR, qzf, qze, qzd, qzK, qzz, qzH, qzb, qzQ, qzg, qzP, qzn, qzo, qzu, qza, qzt, qzF, qzS, qzU, xzg, qzE, VH.set, qzl, VV.cells, ntV, qzW, qzN, qzX, qzV, qzO, xzs, ↓reduceIte, Option.getD_some, List.length_cons, List.length_nil, List.drop_succ_cons, List.drop_zero, List.take_succ_cons, List.take_zero, List.append_nil, List.nil_append, List.head?_cons, Nat.reduceAdd, Nat.reduceEqDiff, Nat.reduceLeDiff, Nat.zero_add, and_self, cSeq, bSeq, cPt, e1, e2] <;> first | rfl | exact ⟨rfl, rfl⟩ | exact qzv rfl
  · have c' : (nextS l a 12 == 0) = false := by simp [c]
    rw [if_neg c]
    simp only [qzx, qzm, qzp, qzs, qzj, qzi, qzf, qze, qzd, qzq, qzK, qzz, qzc, qzb, qzg, qzh, qzB, qzn, qzo, qzu, qza, qzt, qzw, qzy, cv, qzI, qzJ, toA, ofA, FR.pop, abin, intBin, ↓reduceIte, Nat.reduceEqDiff, reduceCtorEq, true_and, Bool.false_eq_true, forall_const, false_implies, reduceCtorEq, cSeq, bSeq, c', w2]
    refine call_st1 (next_ok Gl l (a + 1) (far + 1) i hl (by omega) (by omega) (by omega)) (by simp only [qza, ↓reduceIte, cSeq, bSeq]) rfl rfl ?_
    simp only [qzm, qzp, qzi, qzf, qze, qzd, qzq, qzK, qzz, qzc, qzb, qzg, qzh, qzB, qzn, qzo, qzu, qza, qzt, qzw, qzy, cv, qzI, qzJ, toA, ofA, FR.pop, abin, intBin, ↓reduceIte, Nat.reduceEqDiff, reduceCtorEq, reduceCtorEq, cSeq, bSeq, w2]
    refine call_st1 (next_ok Gl l (a + 2) (far + 1) i hl (by omega) (by omega) (by omega)) (by simp only [qza, ↓reduceIte, cSeq, bSeq]) rfl rfl ?_
    simp only [qzD, qzi, qzf, qze, qzd, qzq, qzK, qzz, qzH, qzc, qzb, qzQ, qzg, qzh, qzP, qzn, qzo, qzu, qza, qzt, qzw, qzF, xzt, xzr, qzS, qzU, xzg, qzE, cvs, cv, VH.set, qzl, VV.cells, ntV, qzW, qzN, qzX, qzV, qzO, xzs, ↓reduceIte, Option.getD_some, List.length_cons, List.length_nil, List.drop_succ_cons, List.drop_zero, List.take_succ_cons, List.take_zero, List.append_nil, List.nil_append, List.cons_append, List.head?_cons, Nat.reduceAdd, Nat.reduceEqDiff, Nat.reduceLeDiff, Nat.zero_add, and_self, cSeq, bSeq, e1, e2] <;> first | rfl | exact ⟨rfl, rfl⟩ | exact qzv rfl

def zP : Pt := ⟨0, 0⟩
/-- A segment of which so many points are there. -/
def segP (l : List Int) (a : Nat) (far kind : Int) (k : Nat) : Seg := ⟨kind, if 0 < k then insideS l a far else zP, if 1 < k then insideS l (a + 3) far else zP, if 2 < k then insideS l (a + 6) far else zP⟩
theorem pts_loop (Gl : xzy) (l : List Int) (far : Int) (i bx : Nat) (kind : Nat) (hk : kind ≤ 3) (hl : l.length < 4611686018427387904) (hf : 0 ≤ far) (hb : far < 4611686018427387000) (a : Nat) (ha : a + 9 < 4611686018427387904) (hib : i ≠ bx) (T0 : VF) (hA : VH) (K : AEx → VF → VH → Prop)
    (hK : ∀ T h, (∀ k, k < 27 → k ≠ 10 → qzr T k = qzr T0 k) → qzr h.l i = some (some (bSeq l (a + 3 * kind))) → qzr h.l bx = some (some (.cells (cSeg (segP l a far kind kind)) false)) → (∀ k, k ≠ i → k ≠ bx → qzr h.l k = qzr hA.l k) → h.next = hA.next → K (.exit 2) T h) :
    ∀ (d k : Nat) (T : VF) (h : VH), d + k = kind → (∀ k, k < 27 → k ≠ 10 → qzr T k = qzr T0 k) → qzr T 0 = some (.ptr i 0) → qzr T 1 = some (.int .i64 far) → qzr T 9 = some (.ptr bx 0) → qzr T 10 = some (.int .i64 k) →
      qzr h.l i = some (some (bSeq l (a + 3 * k))) → qzr h.l bx = some (some (.cells (cSeg (segP l a far kind k)) false)) → (∀ k, k ≠ i → k ≠ bx → qzr h.l k = qzr hA.l k) → h.next = hA.next →
    wp Go.VL.Er.E Gl (.loop c_glyphicmake_Path_l0) T h K := by
  intro d
  induction d with
  | zero =>
    intro k T h hd hT t0 t1 t9 t10 s1 s2 hh hn
    obtain rfl : k = kind := by omega
    refine xzo c_glyphicmake_Path_l0.eq_1 ?_
    unfold segP at s2
    simp only [qzx, qzm, qzp, qzA, qzZ, qzs, qzj, qzi, xze, qzY, qzf, qze, qzd, qzq, qzG, qzc, qzk, qzb, qzg, qzh, qzn, qzo, qzu, qza, qzt, qzw, qzy, qzL, qzM, qzF, qzE, qzI, qzJ, toA, ofA, FR.pop, abin, intBin, qzl, ↓reduceIte, Option.getD_some, List.getElem?_cons_zero, Nat.reduceEqDiff, reduceCtorEq, Nat.add_zero, true_and, Bool.false_eq_true, decide_false, forall_const, false_implies, reduceCtorEq, cSeg, t9, t10, s2, Int.lt_irrefl]
    refine hK _ _ (fun k q1 q2 => ?_) s1 s2 hh hn
    simp only [qza]
    (repeat rw [if_neg (by omega)])
    exact hT k q1 q2
  | succ d ih =>
    intro k T h hd hT t0 t1 t9 t10 s1 s2 hh hn
    refine xzo c_glyphicmake_Path_l0.eq_1 ?_
    have c1 : (k : Int) < (kind : Int) := by omega
    have w : IntKind.i64.wrap ((k : Int) + 1) = ((k + 1 : Nat) : Int) := by rw [xzj (by omega) (by omega)]; rfl
    have k3 : k < 3 := by omega
    have e1 : ¬ bx = i := fun e => hib e.symm
    unfold segP at s2
    simp only [qzx, qzm, qzp, qzA, qzZ, qzs, qzj, qzi, xze, qzY, qzf, qze, qzd, qzq, qzG, qzK, qzc, qzk, qzb, qzg, qzh, qzB, qzn, qzo, qzu, qza, qzt, qzw, qzy, qzL, qzM, qzF, qzE, qzI, qzJ, toA, ofA, FR.pop, abin, intBin, qzl, ↓reduceIte, Option.getD_some, List.getElem?_cons_zero, Nat.reduceEqDiff, reduceCtorEq, Nat.add_zero, and_true, decide_true, forall_const, false_implies, Bool.true_eq_false, reduceCtorEq, cSeg, t0, t1, t9, t10, s2, c1]
    refine call_st1 (inside_ok Gl l (a + 3 * k) far i hl (by omega) hf hb) s1 rfl rfl ?_
    have hcs : k = 0 ∨ k = 1 ∨ k = 2 := by omega
    rcases hcs with rfl | rfl | rfl
    all_goals
      simp only [qzm, qzi, xza, xzh, qzf, qze, qzd, qzq, qzK, qzz, qzc, qzb, qzQ, qzg, qzh, qzP, qzn, qzo, qzu, qza, qzt, qzw, qzy, qzL, iAddrAV, qzS, qzU, xzg, cv, qzI, qzJ, toA, ofA, FR.pop, abin, intBin, VH.set, qzl, VV.cells, ntV, qzO, xzs, xzx, ↓reduceIte, Option.getD_some, List.length_cons, List.length_nil, List.drop_succ_cons, List.drop_zero, List.take_succ_cons, List.take_zero, List.append_nil, List.nil_append, List.cons_append, List.head?_cons, Nat.reduceAdd, Nat.reduceMul, Nat.reduceLT, Nat.reduceEqDiff, Nat.reduceLeDiff, Nat.add_zero, Nat.zero_add, and_self, cSeq, bSeq, cPt, cSeg, t9, t10, s2, xzx, hib, w]
      first | refine ih (0 + 1) _ _ (by omega) ?_ ?_ ?_ ?_ ?_ ?_ ?_ ?_ hn | refine ih (1 + 1) _ _ (by omega) ?_ ?_ ?_ ?_ ?_ ?_ ?_ ?_ hn | refine ih (2 + 1) _ _ (by omega) ?_ ?_ ?_ ?_ ?_ ?_ ?_ ?_ hn
      · intro k q1 q2
        simp only [qza]
        (repeat rw [if_neg (by omega)])
        exact hT k q1 q2
      · simp only [qza, ↓reduceIte, reduceCtorEq, reduceCtorEq, t0]
      · simp only [qza, ↓reduceIte, Nat.reduceEqDiff, t1]
      · simp only [qza, ↓reduceIte, Nat.reduceEqDiff, t9]
      · simp only [qza, ↓reduceIte, Nat.reduceAdd, Nat.zero_add]
      · simp only [qza, ↓reduceIte, Nat.reduceAdd, Nat.reduceMul, Nat.zero_add, cSeq, bSeq, e1]
      · simp only [qza, ↓reduceIte, Nat.reduceAdd, Nat.reduceLT, Nat.zero_add, cSeg, segP, zP]
      · intro k q1 q2
        simp only [qza, Ne.symm q1, Ne.symm q2, if_false]
        exact hh k q1 q2
end
end Go.VL.Mk
