import Derived.Test.YtbamfhdgikeneaaDoorVlI
import Derived.Test.YtbamfhdgikeneaaDoorIrA
/- Chapter 22: what the program's functions and the document's come to. -/
namespace Go.VL.Wind
open Go.FR Go.IR Go.VL
noncomputable section
set_option linter.unusedSimpArgs false
set_option linter.unusedVariables false
set_option maxRecDepth 100000
set_option maxHeartbeats 1000000

abbrev w64 (n : Int) : Int := IntKind.i64.wrap n
structure Pt where
  x : Int
  y : Int
deriving DecidableEq
structure Edge where
  a : Pt
  b : Pt
abbrev cPt (p : Pt) : List VV := [.int .i64 p.x, .int .i64 p.y]
abbrev cEdge (e : Edge) : List VV := [.int .i64 e.a.x, .int .i64 e.a.y, .int .i64 e.b.x, .int .i64 e.b.y]
abbrev sEdges (l : List Edge) : VV := .fsl (xzA cEdge l) l.length 4
abbrev E := lookE envL

def crossS (a b p : Pt) : Int := w64 (w64 (w64 (b.x - a.x) * w64 (p.y - a.y)) - w64 (w64 (b.y - a.y) * w64 (p.x - a.x)))
def oneS (e : Edge) (p : Pt) : Int :=
  if e.a.y ≤ p.y ∧ e.b.y > p.y ∧ crossS e.a e.b p > 0 then 1 else if e.b.y ≤ p.y ∧ e.a.y > p.y ∧ crossS e.a e.b p < 0 then -1 else 0
def numS (l : List Edge) (p : Pt) (n : Int) : Int := l.foldl (fun n e => w64 (n + oneS e p)) n
def insS (l : List Edge) (rule : Int) (p : Pt) : Bool := if rule = 0 then (numS l p 0).tmod 2 != 0 else numS l p 0 != 0

theorem sub_ok (Gl : xzy) (a b : Pt) : xzJ E Gl f_plane_Sub [.agg (cPt a), .agg (cPt b)] (.agg [.int .i64 (w64 (a.x - b.x)), .int .i64 (w64 (a.y - b.y))]) := by
  refine xzv (xzk E_plane_Sub ?_)
  unfold c_plane_Sub r_plane_Sub
  simp only [xzG]
  simp only [qzm, qzp, qzD, qzi, qzf, qze, qzd, qzq, qzG, xzd, qzK, qzz, qzH, qzc, qzk, qzC, qzb, qzQ, qzg, qzh, qzT, qzP, qzn, qzo, qzu, qza, qzt, qzw, qzL, qzM, qzF, xzi, xzU, xzt, xzr, qzS, qzU, xzg, qzE, cvs, cv, qzI, qzJ, toA, ofA, FR.pop, abin, intBin, VN.at, VH.push, VH.set, qzl, h0, VV.cells, ntV, qzW, qzN, qzX, qzV, qzO, xzs, ↓reduceIte, Option.getD_some, List.getElem?_cons_zero, List.getElem?_cons_succ, List.length_cons, List.length_nil, List.drop_succ_cons, List.drop_zero, List.take_succ_cons, List.take_zero, List.append_nil, List.nil_append, List.cons_append, List.head?_cons, Nat.reduceAdd, Nat.reduceEqDiff, reduceCtorEq, Nat.reduceLeDiff, Nat.add_zero, Nat.zero_add, and_self, reduceCtorEq, cPt]
  exact qzv rfl

end
end Go.VL.Wind

/- Chapter 3: colors as text. -/
namespace Go.VL.Color
open Go.FR Go.IR Go.VL
noncomputable section
set_option linter.unusedSimpArgs false
set_option linter.unusedVariables false
set_option maxRecDepth 100000
set_option maxHeartbeats 1000000
abbrev E := lookE envL
structure Cl where
  r : Nat
  g : Nat
  b : Nat
  a : Nat
deriving DecidableEq
def Cl.In (c : Cl) : Prop := c.r < 256 ∧ c.g < 256 ∧ c.b < 256 ∧ c.a < 256
abbrev cCl (c : Cl) : List VV := [.int .u8 (c.r : Int), .int .u8 (c.g : Int), .int .u8 (c.b : Int), .int .u8 (c.a : Int)]
abbrev digits : List UInt8 := [48, 49, 50, 51, 52, 53, 54, 55, 56, 57, 97, 98, 99, 100, 101, 102]
def dig (k : Nat) : UInt8 := digits.getD k 0
def hx (n : Nat) : List UInt8 := [dig (n / 16), dig (n % 16)]
def showS (c : Cl) : List UInt8 := 35 :: (hx c.r ++ (hx c.g ++ (hx c.b ++ if c.a = 255 then [] else hx c.a)))

end
end Go.VL.Color

/- What the package's error variables hold, laid. -/
namespace Go.VL
open Go.FR
noncomputable section
set_option linter.unusedVariables false
set_option linter.unusedSimpArgs false

def globsFrom (tp : Nat) : Nat → List Er → xzy
  | _, [] => []
  | n, e :: l => (n, [.iface tp (.gptr (n + 1) 0)]) :: (n + 1, [.str e.text]) :: globsFrom tp (n + 2) l
abbrev globsOf (tp : Nat) (l : List Er) : xzy := globsFrom tp 0 l

theorem errTr_low (tp : Nat) : ∀ (l : List Er) (n : Nat) (T : Tr ABlk) (k : Nat), k < n → (errTr tp n l T).get k = T.get k
  | [], _, _, _, _ => rfl
  | e :: l, n, T, k, hk => by
    simp only [errTr]
    rw [errTr_low tp l (n + 2) _ k (by omega), Tr.get_set, if_neg (by omega), Tr.get_set, if_neg (by omega)]

theorem glob_tr (tp : Nat) : ∀ (l : List Er) (n : Nat) (T : Tr ABlk) (i : Nat) (cs : List VV), qzr (globsFrom tp n l) i = some cs →
    n ≤ i ∧ i < n + 2 * l.length ∧ ∃ as, (errTr tp n l T).get i = some (.cells as false false) ∧ ∀ G, VRs G noP cs as
  | [], n, T, i, cs, h => by simp [globsFrom, qzr] at h
  | e :: l, n, T, i, cs, h => by
    simp only [globsFrom, qzr] at h
    simp only [errTr, List.length_cons]
    by_cases e1 : n = i
    · rw [if_pos e1] at h
      obtain rfl := Option.some.inj h
      refine ⟨by omega, by omega, [.iface tp (.ptr (some (n + 1, 0)))], ?_, fun G => VRs.cons ⟨_, rfl, rfl⟩ VRs.nil⟩
      rw [errTr_low tp l (n + 2) _ i (by omega), Tr.get_set, if_neg (by omega), Tr.get_set, if_pos e1.symm]
    · rw [if_neg e1] at h
      by_cases e2 : n + 1 = i
      · rw [if_pos e2] at h
        obtain rfl := Option.some.inj h
        refine ⟨by omega, by omega, [.str e.text], ?_, fun G => VRs.cons rfl VRs.nil⟩
        rw [errTr_low tp l (n + 2) _ i (by omega), Tr.get_set, if_pos e2.symm]
      · rw [if_neg e2] at h
        obtain ⟨h1, h2, h3⟩ := glob_tr tp l (n + 2) ((T.set n (.cells [.iface tp (.ptr (some (n + 1, 0)))] false false)).set (n + 1) (.cells [.str e.text] false false)) i cs h
        exact ⟨by omega, by omega, h3⟩

theorem glob_ok (tp : Nat) (l : List Er) (i : Nat) (cs : List VV) (h : qzr (globsOf tp l) i = some cs) : ∃ as, GG (errHeap tp l) i = some (.cells as false false) ∧ VRs (GG (errHeap tp l)) noP cs as := by
  obtain ⟨h1, h2, as, h3, h4⟩ := glob_tr tp l 0 .nil i cs h
  refine ⟨as, ?_, h4 _⟩
  unfold GG
  rw [if_pos (by simp only [errHeap]; omega)]
  exact h3
end
end Go.VL

/- Errors: what the statements' own eyes see of them. -/
namespace Go.VL.Er
open Go.FR Go.IR Go.VL
noncomputable section
set_option linter.unusedSimpArgs false
set_option linter.unusedVariables false
set_option maxRecDepth 100000
set_option maxHeartbeats 1000000
abbrev E := lookE envL

/-- The k-th of api's errors; one with a place. -/
abbrev erP (k : Nat) : VV := .iface t_p_errors_errorString (.gptr (2 * k + 1) 0)
abbrev atV (k : Nat) (pos : Int) : VV := .iface t_p_api_At (.fptr [.int .i64 pos, erP k] 0)
/-- What the package's variables hold. -/
def GlHas (Gl : xzy) (k : Nat) : Prop := qzr Gl (2 * k) = some [erP k] ∧ (qzr Gl (2 * k + 1)).isSome = true
def GlAll (Gl : xzy) : Prop := ∀ k, k < 13 → GlHas Gl k

theorem look_globs (tp : Nat) : ∀ (l : List Er) (n k : Nat), k < l.length → qzr (globsFrom tp n l) (n + 2 * k) = some [.iface tp (.gptr (n + 2 * k + 1) 0)] ∧ (qzr (globsFrom tp n l) (n + 2 * k + 1)).isSome = true
  | [], n, k, h => by simp at h
  | e :: l, n, 0, h => by simp [globsFrom, qzr]
  | e :: l, n, k + 1, h => by
    have := look_globs tp l (n + 2) k (by simpa using h)
    have e1 : n + 2 + 2 * k = n + 2 * (k + 1) := by omega
    rw [e1] at this
    simp only [globsFrom, qzr]
    rw [if_neg (by omega), if_neg (by omega), if_neg (by omega), if_neg (by omega)]
    exact this
theorem glob_all {l : List Er} (h : 13 ≤ l.length) : GlAll (globsOf t_p_errors_errorString l) := fun k hk => by
  have := look_globs t_p_errors_errorString l 0 k (by omega)
  rw [Nat.zero_add] at this
  exact this

structure Fault where
  code : Int
  placed : Bool
  pos : Int
deriving DecidableEq
abbrev cFault (f : Fault) : List VV := [.int .i64 f.code, .bool f.placed, .int .i64 f.pos]
def bareF (n : Int) : Fault := ⟨n, false, 0⟩
def placedF (n pos : Int) : Fault := if n = 0 then bareF 0 else ⟨n, true, pos⟩

theorem none_ok (Gl : xzy) : xzJ E Gl f_glyphicref_None [] (.agg (cFault (bareF 0))) := by
  refine xzv (xzk E_glyphicref_None ?_)
  unfold c_glyphicref_None r_glyphicref_None bareF
  simp only [xzG]
  simp only [qzm, qzp, qzD, qzi, qzf, qze, qzd, qzq, xzd, qzK, qzz, qzH, qzc, qzC, qzb, qzQ, qzg, qzh, qzT, qzP, qzn, qzo, qzu, qza, qzt, qzw, qzF, xzi, xzt, xzr, qzS, qzU, xzg, qzE, cvs, cv, VN.at, VH.push, VH.set, qzl, h0, VV.cells, ntV, qzW, qzN, qzX, qzV, qzO, xzs, ↓reduceIte, Option.getD_some, List.length_cons, List.length_nil, List.drop_succ_cons, List.drop_zero, List.take_succ_cons, List.take_zero, List.append_nil, List.nil_append, List.head?_cons, Nat.reduceAdd, reduceCtorEq, Nat.reduceLeDiff, Nat.zero_add, and_self, reduceCtorEq, cFault]
  exact qzv rfl
theorem bare_ok (Gl : xzy) (n : Int) : xzJ E Gl f_glyphicref_Bare [.int .i64 n] (.agg (cFault (bareF n))) := by
  refine xzv (xzk E_glyphicref_Bare ?_)
  unfold c_glyphicref_Bare r_glyphicref_Bare bareF
  simp only [xzG]
  simp only [qzm, qzp, qzD, qzi, qzf, qze, qzd, qzq, xzd, qzK, qzz, qzH, qzc, qzC, qzb, qzQ, qzg, qzh, qzT, qzP, qzn, qzo, qzu, qza, qzt, qzw, qzy, qzF, xzi, xzt, xzr, qzS, qzU, xzg, qzE, cvs, cv, VN.at, VH.push, VH.set, qzl, h0, VV.cells, ntV, qzW, qzN, qzX, qzV, qzO, xzs, ↓reduceIte, Option.getD_some, List.length_cons, List.length_nil, List.drop_succ_cons, List.drop_zero, List.take_succ_cons, List.take_zero, List.append_nil, List.nil_append, List.cons_append, List.head?_cons, Nat.reduceAdd, Nat.reduceEqDiff, reduceCtorEq, Nat.reduceLeDiff, Nat.zero_add, and_self, reduceCtorEq, cFault]
  exact qzv rfl
theorem placed_ok (Gl : xzy) (n pos : Int) : xzJ E Gl f_glyphicref_Placed [.int .i64 n, .int .i64 pos] (.agg (cFault (placedF n pos))) := by
  refine xzv (xzk E_glyphicref_Placed ?_)
  unfold c_glyphicref_Placed r_glyphicref_Placed placedF
  simp only [xzG]
  by_cases h : n = 0
  · have hb : (n == 0) = true := by simp [h]
    rw [if_pos h]
    simp only [qzx, qzm, qzp, qzD, qzs, qzj, qzi, qzf, qze, qzd, qzq, xzd, qzK, qzz, qzH, qzc, qzC, qzb, qzQ, qzg, qzh, qzT, qzP, qzB, qzn, qzo, qzu, qza, qzt, qzw, qzy, qzF, xzi, xzt, xzr, qzS, qzU, xzg, qzE, cvs, cv, qzI, qzJ, toA, ofA, FR.pop, abin, intBin, VN.at, VH.push, VH.set, qzl, h0, VV.cells, ntV, qzW, qzN, qzX, qzV, qzO, xzs, ↓reduceIte, Option.getD_some, List.length_cons, List.length_nil, List.drop_succ_cons, List.drop_zero, List.take_succ_cons, List.take_zero, List.append_nil, List.nil_append, List.cons_append, List.head?_cons, Nat.reduceAdd, Nat.reduceEqDiff, reduceCtorEq, Nat.reduceLeDiff, Nat.zero_add, and_self, and_true, forall_const, false_implies, Bool.true_eq_false, reduceCtorEq, cFault, hb]
    refine xzb (none_ok Gl) rfl rfl ?_
    simp only [qzD, qzi, qzR, qzf, qze, qzd, qzK, qzz, qzH, qzb, qzQ, qzg, qzP, qzn, qzo, qzu, qza, qzt, qzF, qzS, qzU, xzg, qzE, VH.set, qzl, VV.cells, ntV, qzW, qzN, qzX, qzV, qzO, xzs, ↓reduceIte, Option.getD_some, List.length_cons, List.length_nil, List.drop_succ_cons, List.drop_zero, List.take_succ_cons, List.take_zero, List.append_nil, List.nil_append, List.head?_cons, Nat.reduceAdd, Nat.reduceEqDiff, Nat.reduceLeDiff, Nat.zero_add, and_self, cFault]
    exact qzv rfl
  · have hb : (n == 0) = false := by simp [h]
    rw [if_neg h]
    simp only [qzx, qzm, qzp, qzD, qzs, qzj, qzi, qzf, qze, qzd, qzq, xzd, qzK, qzz, qzH, qzc, qzC, qzb, qzQ, qzg, qzh, qzT, qzP, qzB, qzn, qzo, qzu, qza, qzt, qzw, qzy, qzF, xzi, xzt, xzr, qzS, qzU, xzg, qzE, cvs, cv, qzI, qzJ, toA, ofA, FR.pop, abin, intBin, VN.at, VH.push, VH.set, qzl, h0, VV.cells, ntV, qzW, qzN, qzX, qzV, qzO, xzs, ↓reduceIte, Option.getD_some, List.length_cons, List.length_nil, List.drop_succ_cons, List.drop_zero, List.take_succ_cons, List.take_zero, List.append_nil, List.nil_append, List.cons_append, List.head?_cons, Nat.reduceAdd, Nat.reduceEqDiff, reduceCtorEq, Nat.reduceLeDiff, Nat.zero_add, and_self, true_and, Bool.false_eq_true, forall_const, false_implies, reduceCtorEq, cFault, hb]
    exact qzv rfl
theorem sameF_ok (Gl : xzy) (a b : Fault) : xzJ E Gl f_glyphicref_SameFault [.agg (cFault a), .agg (cFault b)] (.bool (decide (a = b))) := by
  refine xzv (xzk E_glyphicref_SameFault ?_)
  unfold c_glyphicref_SameFault r_glyphicref_SameFault
  simp only [xzG]
  obtain ⟨a1, a2, a3⟩ := a
  obtain ⟨b1, b2, b3⟩ := b
  have e : decide ((⟨a1, a2, a3⟩ : Fault) = ⟨b1, b2, b3⟩) = ((a1 == b1) && ((a2 == b2) && (a3 == b3))) := by
    by_cases h1 : a1 = b1 <;> by_cases h2 : a2 = b2 <;> by_cases h3 : a3 = b3 <;> simp [h1, h2, h3]
  rw [e]
  by_cases h1 : a1 = b1
  · have q1 : (a1 == b1) = true := by simp [h1]
    by_cases h2 : a2 = b2
    · have q2 : (a2 == b2) = true := by simp [h2]
      simp only [qzm, qzp, qzD, qzi, qzf, qze, qzd, qzq, qzG, xzd, qzH, qzc, qzk, qzC, qzb, qzg, qzh, qzT, qzn, qzo, qzu, qza, qzt, qzw, qzy, xzl, qzL, qzM, qzF, xzC, xzB, xzF, eqBool, xzi, xzU, qzE, cv, qzI, qzJ, toA, ofA, FR.pop, abin, intBin, VN.at, VH.push, qzl, h0, VV.cells, ntV, qzW, qzN, qzX, qzV, ↓reduceIte, Option.getD_some, List.getElem?_cons_zero, List.getElem?_cons_succ, Nat.reduceAdd, Nat.reduceEqDiff, reduceCtorEq, Nat.add_zero, Nat.zero_add, Bool.true_and, Bool.false_eq_true, beq_self_eq_true, reduceCtorEq, cFault, q1, q2]
      exact qzv rfl
    · have q2 : (a2 == b2) = false := by simp [h2]
      simp only [qzm, qzp, qzD, qzi, qzf, qze, qzd, xzf, qzq, qzG, xzd, qzH, qzc, qzk, qzC, qzb, qzg, qzh, qzT, qzn, qzo, qzu, qza, qzt, qzw, qzy, xzl, qzL, qzM, qzF, xzC, xzB, xzF, eqBool, xzi, xzU, qzE, cv, qzI, qzJ, toA, ofA, FR.pop, abin, intBin, VN.at, VH.push, qzl, h0, VV.cells, ntV, qzW, qzN, qzX, qzV, qzO, ↓reduceIte, Option.getD_some, List.getElem?_cons_zero, List.getElem?_cons_succ, Nat.reduceAdd, Nat.reduceEqDiff, reduceCtorEq, Nat.add_zero, Nat.zero_add, Bool.true_and, Bool.false_eq_true, beq_self_eq_true, beq_true, reduceCtorEq, cFault, q1, q2]
      exact qzv rfl
  · have q1 : (a1 == b1) = false := by simp [h1]
    simp only [qzm, qzp, qzD, qzi, qzf, qze, qzd, xzf, qzq, qzG, xzd, qzH, qzc, qzk, qzC, qzb, qzg, qzh, qzT, qzn, qzo, qzu, qza, qzt, qzw, qzy, xzl, qzL, qzM, qzF, xzi, xzU, qzE, cv, qzI, qzJ, toA, ofA, FR.pop, abin, intBin, VN.at, VH.push, qzl, h0, VV.cells, ntV, qzW, qzN, qzX, qzV, qzO, ↓reduceIte, Option.getD_some, List.getElem?_cons_zero, Nat.reduceAdd, Nat.reduceEqDiff, reduceCtorEq, Nat.add_zero, Nat.zero_add, Bool.false_eq_true, beq_true, reduceCtorEq, cFault, q1]
    exact qzv rfl

theorem sents_ok {Gl : xzy} (hG : GlAll Gl) : PureOwn E Gl f_glyphicsee_sentinels [] ((List.range 13).map erP) 0 13 1 (.exact 13) := by
  refine own_sound (xzk E_glyphicsee_sentinels ?_)
  unfold c_glyphicsee_sentinels r_glyphicsee_sentinels
  simp only [xzG]
  have g0 : qzr Gl 0 = some [erP 0] := (hG 0 (by omega)).1
  have g1 : qzr Gl 2 = some [erP 1] := (hG 1 (by omega)).1
  have g2 : qzr Gl 4 = some [erP 2] := (hG 2 (by omega)).1
  have g3 : qzr Gl 6 = some [erP 3] := (hG 3 (by omega)).1
  have g4 : qzr Gl 8 = some [erP 4] := (hG 4 (by omega)).1
  have g5 : qzr Gl 10 = some [erP 5] := (hG 5 (by omega)).1
  have g6 : qzr Gl 12 = some [erP 6] := (hG 6 (by omega)).1
  have g7 : qzr Gl 14 = some [erP 7] := (hG 7 (by omega)).1
  have g8 : qzr Gl 16 = some [erP 8] := (hG 8 (by omega)).1
  have g9 : qzr Gl 18 = some [erP 9] := (hG 9 (by omega)).1
  have g10 : qzr Gl 20 = some [erP 10] := (hG 10 (by omega)).1
  have g11 : qzr Gl 22 = some [erP 11] := (hG 11 (by omega)).1
  have g12 : qzr Gl 24 = some [erP 12] := (hG 12 (by omega)).1
  simp only [qzm, qzp, qzD, qzi, qzf, qze, qzd, qzq, qzG, xzd, qzH, qzc, qzk, qzC, qzb, qzg, qzh, qzT, qzn, qzo, qzu, qza, qzt, qzw, qzy, qzM, qzF, xzi, xzr, qzS, qzE, cvs, cv, VN.at, VH.push, qzl, h0, VV.cells, ntV, qzW, qzN, qzX, qzV, ↓reduceIte, List.getElem?_cons_zero, List.length_cons, List.length_nil, List.drop_succ_cons, List.drop_zero, List.take_succ_cons, List.take_zero, List.append_nil, List.nil_append, List.cons_append, Nat.reduceAdd, Nat.reduceMul, Nat.reduceDiv, Nat.reduceEqDiff, Nat.reduceLeDiff, Nat.zero_add, and_self, erP, t_p_errors_errorString, g_ErrText, g_ErrName, g_ErrTwice, g_ErrPath, g_ErrRange, g_ErrLimit, g_ErrShort, g_ErrMagic, g_ErrVarint, g_ErrCanon, g_ErrTrail, g_ErrWidth, g_ErrBudget, g0, g1, g2, g3, g4, g5, g6, g7, g8, g9, g10, g11, g12]
  exact ⟨0, _, rfl, rfl, rfl, subL_refl _⟩

theorem alike_ok {Gl : xzy} (hG : GlAll Gl) (k i : Nat) (hk : k < 13) (hi : i < 13) : xzJ E Gl f_glyphicsee_Alike [erP k, erP i] (.bool (decide (k = i))) := by
  refine xzv (xzk E_glyphicsee_Alike ?_)
  unfold c_glyphicsee_Alike r_glyphicsee_Alike
  simp only [xzG]
  have g1 := (hG k hk).2
  have g2 := (hG i hi).2
  by_cases h : k = i
  · subst h
    simp only [qzx, qzm, qzp, qzD, qzs, qzj, qzi, qzR, qzf, qze, qzd, xzf, qzq, qzG, qzH, qzc, qzk, qzb, qzg, qzh, qzn, qzo, qzu, qza, qzt, qzw, qzy, xzl, qzM, xzC, xzB, xzY, eqGV, cv, h0, qzW, qzN, qzX, qzV, qzO, ↓reduceIte, List.contains_cons, List.contains_nil, Nat.reduceEqDiff, reduceCtorEq, Nat.reduceBEq, Nat.zero_add, true_and, Bool.or_false, Bool.or_true, Bool.false_eq_true, beq_self_eq_true, beq_true, decide_true, forall_const, false_implies, reduceCtorEq, erP, t_p_api_At, t_p_errors_errorString, eq_self]
    exact qzv rfl
  · have h' : ¬ 2 * k + 1 = 2 * i + 1 := by omega
    have hd : decide (k = i) = false := by simp [h]
    simp only [qzx, qzm, qzp, qzD, qzs, qzj, qzi, qzR, qzf, qze, qzd, xzf, qzq, qzG, qzH, qzc, qzk, qzb, qzg, qzh, qzn, qzo, qzu, qza, qzt, qzw, qzy, xzl, qzM, xzC, xzB, xzY, eqGV, inGl, cv, h0, qzW, qzN, qzX, qzV, qzO, ↓reduceIte, List.contains_cons, List.contains_nil, Nat.reduceEqDiff, reduceCtorEq, Nat.reduceBEq, Nat.zero_add, and_self, true_and, Bool.or_false, Bool.or_true, Bool.false_eq_true, beq_self_eq_true, beq_true, forall_const, false_implies, reduceCtorEq, erP, t_p_api_At, t_p_errors_errorString, g1, g2, h', hd]
    exact qzv rfl
end
end Go.VL.Er
