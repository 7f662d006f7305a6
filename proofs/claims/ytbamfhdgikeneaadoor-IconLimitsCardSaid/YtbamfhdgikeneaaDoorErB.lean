import Derived.Test.YtbamfhdgikeneaaDoorWiA
/- Errors as plain data. -/
namespace Go.VL.Er
open Go.FR Go.IR Go.VL
noncomputable section
set_option linter.unusedSimpArgs false
set_option linter.unusedVariables false
set_option maxRecDepth 100000
set_option maxHeartbeats 1000000

theorem sent_at (i : Nat) (hi : i < 13) : ((List.range 13).map erP)[i]? = some (erP i) := by
  rw [List.getElem?_map, List.getElem?_range hi]; rfl
theorem sent_loop {Gl : xzy} (hG : GlAll Gl) (k : Nat) (hk : k < 13) (K : AEx → VF → VH → Prop)
    (hK : ∀ T h, qzr T 2 = some (.int .i64 (101 + (k : Int))) → K .ret T h) :
    ∀ (d i : Nat) (T : VF) (h : VH) (j : Nat), d + i = k → qzr T 0 = some (erP k) → qzr T 3 = some (.slice j 0 13 1 (.exact 13)) → qzr T 4 = some (.int .i64 i) → qzr h.l j = some (some (.cells ((List.range 13).map erP) false)) →
      wp E Gl (.loop c_glyphicsee_sentinel_l0) T h K := by
  intro d
  induction d with
  | zero =>
    intro i T h j hd t0 t3 t4 hj
    obtain rfl : i = k := by omega
    refine xzo c_glyphicsee_sentinel_l0.eq_1 ?_
    have c1 : (i : Int) < ((13 : Nat) : Int) := by omega
    have p1 := sent_at i hk
    have w : IntKind.i64.wrap (101 + (i : Int)) = 101 + (i : Int) := xzj (by omega) (by omega)
    simp only [qzx, qzm, qzp, qzA, qzZ, qzs, qzj, qzi, xze, qzY, qzf, qze, qzd, qzq, qzG, qzK, qzc, qzk, qzb, qzg, qzh, qzB, qzn, qzo, qzu, qza, qzt, qzw, qzy, xzm, xzn, qzM, qzF, qzE, qzI, qzJ, toA, ofA, FR.pop, abin, intBin, qzl, xzx, ↓reduceIte, Option.getD_some, Nat.reduceEqDiff, reduceCtorEq, Nat.zero_add, and_true, decide_true, forall_const, false_implies, Bool.true_eq_false, reduceCtorEq, erP, t_p_errors_errorString, t0, t3, t4, c1, hk, hj, Nat.mul_one, p1]
    refine xzb (alike_ok hG i i hk hk) rfl rfl ?_
    have de : decide (i = i) = true := by simp
    simp only [qzx, qzm, qzp, qzD, qzs, qzj, qzi, qzR, xza, xzc, xzh, xzw, qzf, qze, qzd, qzq, qzz, qzc, qzb, qzg, qzh, qzn, qzo, qzu, qza, qzt, qzw, qzy, cv, qzI, qzJ, toA, ofA, FR.pop, abin, intBin, ↓reduceIte, Nat.reduceEqDiff, and_true, decide_true, forall_const, false_implies, Bool.true_eq_false, t4, w]
    refine hK _ _ ?_
    simp only [qza, ↓reduceIte]
  | succ d ih =>
    intro i T h j hd t0 t3 t4 hj
    refine xzo c_glyphicsee_sentinel_l0.eq_1 ?_
    have hi : i < 13 := by omega
    have c1 : (i : Int) < ((13 : Nat) : Int) := by omega
    have p1 := sent_at i hi
    have w : IntKind.i64.wrap ((i : Int) + 1) = ((i + 1 : Nat) : Int) := by rw [xzj (by omega) (by omega)]; rfl
    simp only [qzx, qzm, qzp, qzA, qzZ, qzs, qzj, qzi, xze, qzY, qzf, qze, qzd, qzq, qzG, qzK, qzc, qzk, qzb, qzg, qzh, qzB, qzn, qzo, qzu, qza, qzt, qzw, qzy, xzm, xzn, qzM, qzF, qzE, qzI, qzJ, toA, ofA, FR.pop, abin, intBin, qzl, xzx, ↓reduceIte, Option.getD_some, Nat.reduceEqDiff, reduceCtorEq, Nat.zero_add, and_true, decide_true, forall_const, false_implies, Bool.true_eq_false, reduceCtorEq, erP, t_p_errors_errorString, t0, t3, t4, c1, hi, hj, Nat.mul_one, p1]
    refine xzb (alike_ok hG k i hk hi) rfl rfl ?_
    have de : decide (k = i) = false := by simp; omega
    simp only [qzx, qzm, qzp, qzD, qzs, qzj, qzi, qzR, xza, xzc, xzh, xzw, qzf, qze, qzd, qzq, qzz, qzc, qzb, qzg, qzh, qzn, qzo, qzu, qza, qzt, qzw, qzy, cv, qzI, qzJ, toA, ofA, FR.pop, abin, intBin, ↓reduceIte, Nat.reduceEqDiff, true_and, Bool.false_eq_true, forall_const, false_implies, de, t4, w]
    refine ih (i + 1) _ h j (by omega) ?_ ?_ ?_ hj
    · simp only [qza, ↓reduceIte, reduceCtorEq, reduceCtorEq, erP, t_p_errors_errorString, t0]
    · simp only [qza, ↓reduceIte, Nat.reduceEqDiff, t3]
    · simp only [qza, ↓reduceIte]

theorem sent_ok {Gl : xzy} (hG : GlAll Gl) (k : Nat) (hk : k < 13) : xzJ E Gl f_glyphicsee_sentinel [erP k] (.int .i64 (101 + (k : Int))) := by
  refine xzv (xzk E_glyphicsee_sentinel ?_)
  unfold c_glyphicsee_sentinel r_glyphicsee_sentinel
  simp only [xzG]
  simp only [qzm, qzp, qzi, qzf, qze, qzd, qzq, qzK, qzc, qzb, qzg, qzh, qzB, qzn, qzo, qzu, qzt, qzw, qzy, cv, h0, erP, t_p_errors_errorString]
  refine call_own (sents_ok hG) rfl (plainL_map (fun _ => rfl) _) ?_
  simp only [qzm, qzp, qzA, qzi, qzf, qze, qzd, qzq, qzz, qzc, qzb, qzg, qzh, qzn, qzo, qzu, qza, qzt, qzw, qzy, cv, VH.push, ↓reduceIte, Nat.zero_add]
  refine sent_loop hG k hk _ ?_ k 0 _ _ 0 (by omega) ?_ ?_ ?_ ?_
  · intro T h t2
    simp only [qzR, xzc, qzH, qzW, qzN, qzX, qzV, t2]
    exact qzv rfl
  · simp only [qza, ↓reduceIte, reduceCtorEq, reduceCtorEq, erP, t_p_errors_errorString]
  · simp only [qza, ↓reduceIte, Nat.reduceEqDiff]
  · simp only [qza, ↓reduceIte]; rfl
  · simp only [qza, ↓reduceIte]

theorem fault_nil (Gl : xzy) : xzJ E Gl f_glyphicsee_Fault [.nilI] (.agg (cFault (bareF 0))) := by
  refine xzv (xzk E_glyphicsee_Fault ?_)
  unfold c_glyphicsee_Fault r_glyphicsee_Fault
  simp only [xzG]
  simp only [qzx, qzm, xzM, qzp, qzs, qzj, qzi, qzf, qze, qzd, xzf, qzq, qzG, xzd, qzK, xzu, xzq, xzK, qzc, qzk, qzC, qzb, qzg, qzh, qzT, xzz, xzE, qzB, qzn, qzo, qzu, qza, qzt, qzw, qzy, xzl, extV, tAssV, xzX, qzM, xzC, xzB, eqPV, xzY, xzi, cvs, cv, qzI, qzJ, toA, ofA, FR.pop, aun, VN.at, VH.push, h0, qzO, countN, ↓reduceIte, List.getElem?_cons_zero, List.getElem?_cons_succ, Nat.reduceEqDiff, reduceCtorEq, Nat.zero_add, and_true, Bool.not_false, Bool.not_true, Bool.false_eq_true, beq_false, forall_const, false_implies, Bool.true_eq_false, reduceCtorEq, cFault, t_p_api_At, t_p_errors_errorString]
  refine xzb (none_ok Gl) rfl rfl ?_
  simp only [qzD, qzi, qzR, qzf, qze, qzd, qzK, qzz, qzH, qzb, qzQ, qzg, qzP, qzn, qzo, qzu, qza, qzt, qzF, qzS, qzU, xzg, qzE, VH.set, qzl, VV.cells, ntV, qzW, qzN, qzX, qzV, qzO, xzs, ↓reduceIte, Option.getD_some, List.length_cons, List.length_nil, List.drop_succ_cons, List.drop_zero, List.take_succ_cons, List.take_zero, List.append_nil, List.nil_append, List.head?_cons, Nat.reduceAdd, Nat.reduceEqDiff, Nat.reduceLeDiff, Nat.zero_add, and_self, cFault]
  exact qzv rfl
theorem fault_bare {Gl : xzy} (hG : GlAll Gl) (k : Nat) (hk : k < 13) : xzJ E Gl f_glyphicsee_Fault [erP k] (.agg (cFault (bareF (101 + (k : Int))))) := by
  refine xzv (xzk E_glyphicsee_Fault ?_)
  unfold c_glyphicsee_Fault r_glyphicsee_Fault
  simp only [xzG]
  simp only [qzx, qzm, xzM, qzp, qzs, qzj, qzi, qzf, qze, qzd, xzf, qzq, qzG, xzd, qzK, xzu, xzq, xzK, qzc, qzk, qzC, qzb, qzg, qzh, qzT, xzz, xzE, qzB, qzn, qzo, qzu, qza, qzt, qzw, qzy, xzl, extV, tAssV, xzX, qzM, xzC, xzB, eqPV, xzY, xzi, cvs, cv, qzI, qzJ, toA, ofA, FR.pop, aun, VN.at, VH.push, h0, qzO, countN, ↓reduceIte, List.getElem?_cons_zero, List.getElem?_cons_succ, Nat.reduceEqDiff, reduceCtorEq, Nat.zero_add, and_true, true_and, Bool.not_false, Bool.not_true, Bool.false_eq_true, beq_false, forall_const, false_implies, Bool.true_eq_false, reduceCtorEq, cFault, erP, t_p_api_At, t_p_errors_errorString]
  refine xzb (sent_ok hG k hk) rfl rfl ?_
  simp only [qze, qzd, qzK, qzz, qzb, qzg, qzB, qzn, qzo, qzu, qza, qzt, ↓reduceIte]
  refine xzb (bare_ok Gl _) rfl rfl ?_
  simp only [qzD, qzi, qzR, qzf, qze, qzd, qzK, qzz, qzH, qzb, qzQ, qzg, qzP, qzn, qzo, qzu, qza, qzt, qzF, qzS, qzU, xzg, qzE, VH.set, qzl, VV.cells, ntV, qzW, qzN, qzX, qzV, qzO, xzs, ↓reduceIte, Option.getD_some, List.length_cons, List.length_nil, List.drop_succ_cons, List.drop_zero, List.take_succ_cons, List.take_zero, List.append_nil, List.nil_append, List.head?_cons, Nat.reduceAdd, Nat.reduceEqDiff, Nat.reduceLeDiff, Nat.zero_add, and_self, cFault]
  exact qzv rfl
theorem fault_at {Gl : xzy} (hG : GlAll Gl) (k : Nat) (hk : k < 13) (pos : Int) : xzJ E Gl f_glyphicsee_Fault [atV k pos] (.agg (cFault (placedF (101 + (k : Int)) pos))) := by
  refine xzv (xzk E_glyphicsee_Fault ?_)
  unfold c_glyphicsee_Fault r_glyphicsee_Fault
  simp only [xzG]
  simp only [qzx, qzm, xzM, qzp, qzs, qzj, qzi, qzf, qze, qzd, qzq, qzG, xzd, qzK, xzu, xzq, xzK, xzT, xzS, qzc, qzk, qzC, qzb, qzg, qzh, qzT, xzz, xzE, qzB, qzn, qzo, qzu, qza, qzt, qzw, qzy, xzl, qzL, extV, tAssV, xzX, qzM, qzF, xzC, xzB, eqPV, xzY, xzi, qzE, cvs, cv, qzI, qzJ, toA, ofA, FR.pop, aun, VN.at, VH.push, h0, countN, xzI, xzQ, xzZ, xzH, xzO, yzf, yzd, ↓reduceIte, List.getElem?_cons_zero, List.getElem?_cons_succ, List.append_nil, Nat.reduceEqDiff, reduceCtorEq, Nat.zero_add, and_self, true_and, Bool.and_self, Bool.not_true, Bool.false_eq_true, beq_self_eq_true, forall_const, false_implies, reduceCtorEq, cFault, erP, atV, t_p_api_At, t_p_errors_errorString]
  refine xzb (sent_ok hG k hk) rfl rfl ?_
  simp only [xzu, xzq, xzK, xzT, xzS, xzP, qzc, qzk, qzb, xzz, xzE, qzB, qzn, qzo, qzu, qza, qzt, qzw, qzy, qzL, xzX, qzM, qzF, qzE, xzI, lowB, fzB, fzL, xzQ, xzZ, xzH, xzO, yzf, yzd, ↓reduceIte, Option.map_some, List.getElem?_cons_zero, List.append_nil, Nat.reduceEqDiff, Nat.add_zero, and_self, true_and, Bool.and_self, Bool.or_false, Bool.not_true]
  refine xzb (placed_ok Gl _ _) rfl rfl ?_
  simp only [qzD, qzi, xzN, xzu, xzq, xzS, xzP, qzH, qzb, qzQ, xzz, qzP, qzn, qzo, qzu, qza, qzt, qzF, qzS, qzU, xzg, qzE, VH.set, qzl, VV.cells, ntV, qzW, qzN, qzX, qzV, qzO, xzs, ↓reduceIte, Option.getD_some, Option.map_some, List.length_cons, List.length_nil, List.drop_succ_cons, List.drop_zero, List.take_succ_cons, List.take_zero, List.append_nil, List.nil_append, List.head?_cons, Nat.reduceAdd, Nat.reduceEqDiff, Nat.reduceLeDiff, Nat.zero_add, and_self, cFault]
  exact qzv rfl

/-- An error, and what it is. -/
inductive ErrV where
  | none
  | bare (k : Nat)
  | placed (k : Nat) (pos : Int)
def ErrV.v : ErrV → VV
  | .none => .nilI
  | .bare k => erP k
  | .placed k pos => atV k pos
def ErrV.ok : ErrV → Prop
  | .none => True
  | .bare k => k < 13
  | .placed k _ => k < 13
def ErrV.f : ErrV → Fault
  | .none => bareF 0
  | .bare k => bareF (101 + (k : Int))
  | .placed k pos => placedF (101 + (k : Int)) pos
theorem fault_ok {Gl : xzy} (hG : GlAll Gl) (e : ErrV) (he : e.ok) : xzJ E Gl f_glyphicsee_Fault [e.v] (.agg (cFault e.f)) := by
  cases e with
  | none => exact fault_nil Gl
  | bare k => exact fault_bare hG k he
  | placed k pos => exact fault_at hG k he pos
theorem shut_closed {h : VH} : ∀ e : ErrV, shut h e.v = some e.v := fun e => by cases e <;> rfl
theorem see_same {Gl : xzy} (hG : GlAll Gl) (e : ErrV) (he : e.ok) (f : Fault) : xzJ E Gl f_glyphicsee_Same [e.v, .agg (cFault f)] (.bool (decide (e.f = f))) := by
  refine xzv (xzk E_glyphicsee_Same ?_)
  unfold c_glyphicsee_Same r_glyphicsee_Same
  simp only [xzG]
  simp only [qzm, xzM, qzp, qzi, qzf, qze, qzd, qzq, xzd, xzu, xzq, xzK, xzS, qzc, qzC, qzb, qzg, qzh, qzT, xzz, xzE, qzB, qzn, qzo, qzu, qza, qzt, qzw, qzy, xzi, xzU, cv, VN.at, VH.push, h0, VV.cells, ntV, countN, ↓reduceIte, reduceCtorEq, Nat.zero_add, reduceCtorEq, cFault]
  refine xzb (fault_ok hG e he) (by simp only [shutL, shut_closed]) rfl ?_
  simp only [xzu, xzq, xzT, xzS, xzP, qzk, qzb, xzz, xzE, qzB, qzn, qzo, qzu, qza, qzt, qzM, qzF, qzE, qzl, xzI, lowB, fzB, fzL, xzQ, xzZ, xzH, xzO, yzf, yzd, ↓reduceIte, Option.getD_some, Option.isSome_some, Option.map_some, List.length_cons, List.length_nil, List.drop_zero, List.take_succ_cons, List.take_zero, List.append_nil, List.contains_nil, Nat.reduceAdd, Nat.reduceLT, Nat.reduceEqDiff, Nat.reduceLeDiff, Nat.zero_add, and_self, true_and, Bool.and_self, Bool.or_false, Bool.or_true, Bool.not_false, decide_true, cFault]
  refine xzb (sameF_ok Gl e.f f) rfl rfl ?_
  simp only [qzD, qzi, xzN, xzu, xzq, xzK, xzP, qzH, qzc, qzb, xzz, xzE, qzn, qzo, qzu, qza, qzt, qzw, qzy, qzW, qzN, qzX, qzV, ↓reduceIte, Option.map_some, List.append_nil]
  exact qzv rfl
theorem see_is {Gl : xzy} (hG : GlAll Gl) (e : ErrV) (he : e.ok) (n : Int) : xzJ E Gl f_glyphicsee_Is [e.v, .int .i64 n] (.bool (decide (e.f = bareF n))) := by
  refine xzv (xzk E_glyphicsee_Is ?_)
  unfold c_glyphicsee_Is r_glyphicsee_Is
  simp only [xzG]
  simp only [qzm, qzp, qzi, qzf, qze, qzd, qzq, qzK, qzc, qzb, qzg, qzh, qzB, qzn, qzo, qzu, qza, qzt, qzw, qzy, cv, h0, ↓reduceIte, Nat.reduceEqDiff, reduceCtorEq, Nat.zero_add, reduceCtorEq]
  refine xzb (bare_ok Gl n) rfl rfl ?_
  simp only [qze, qzd, qzK, qzz, qzb, qzg, qzB, qzn, qzo, qzu, qza, qzt, ↓reduceIte, Nat.reduceEqDiff, cFault]
  refine xzb (see_same hG e he _) (by simp only [shutL, shut_closed]; rfl) rfl ?_
  simp only [qzD, qzi, qzf, qze, qzd, qzq, qzz, qzH, qzc, qzb, qzg, qzh, qzn, qzo, qzu, qza, qzt, qzw, qzy, qzW, qzN, qzX, qzV, ↓reduceIte]
  exact qzv rfl
end
end Go.VL.Er

/- Chapters 5 and 6 in plain numbers: icons, what is amiss with them. -/
namespace Go.VL.Ic
open Go.FR Go.IR Go.VL Go.VL.Er Go.VL.Color Go.VL.Wind
noncomputable section
set_option linter.unusedVariables false
set_option linter.unusedSimpArgs false

structure Seg where
  kind : Int
  p0 : Pt
  p1 : Pt
  p2 : Pt
deriving DecidableEq
structure Path where
  start : Pt
  segs : List Seg
  closed : Bool
deriving DecidableEq
structure Paint where
  kind : Int
  a : Int
  b : Int
  p : Pt
  q : Pt
deriving DecidableEq
structure Cmd where
  kind : Int
  rule : Int
  width : Int
  paint : Paint
  paths : List Path
deriving DecidableEq
structure Icon where
  w : Int
  h : Int
  scale : Int
  colors : List Cl
  cmds : List Cmd
deriving DecidableEq
abbrev cSeg (s : Seg) : List VV := [.int .i64 s.kind, .int .i64 s.p0.x, .int .i64 s.p0.y, .int .i64 s.p1.x, .int .i64 s.p1.y, .int .i64 s.p2.x, .int .i64 s.p2.y]
abbrev cPath (p : Path) : List VV := [.int .i64 p.start.x, .int .i64 p.start.y, .fsl (xzA cSeg p.segs) p.segs.length 7, .bool p.closed]
abbrev cPaint (p : Paint) : List VV := [.int .i64 p.kind, .int .i64 p.a, .int .i64 p.b, .int .i64 p.p.x, .int .i64 p.p.y, .int .i64 p.q.x, .int .i64 p.q.y]
abbrev cCmd (c : Cmd) : List VV := [.int .i64 c.kind, .int .i64 c.rule, .int .i64 c.width, .int .i64 c.paint.kind, .int .i64 c.paint.a, .int .i64 c.paint.b, .int .i64 c.paint.p.x, .int .i64 c.paint.p.y, .int .i64 c.paint.q.x, .int .i64 c.paint.q.y, .fsl (xzA cPath c.paths) c.paths.length 4]
abbrev cIcon (i : Icon) : List VV := [.int .i64 i.w, .int .i64 i.h, .int .i64 i.scale, .fsl (xzA cCl i.colors) i.colors.length 4, .fsl (xzA cCmd i.cmds) i.cmds.length 11]
theorem cSeg_len (s : Seg) : (cSeg s).length = 7 := rfl
theorem cPath_len (s : Path) : (cPath s).length = 4 := rfl
theorem cCmd_len (s : Cmd) : (cCmd s).length = 11 := rfl
theorem cCl_len (c : Cl) : (cCl c).length = 4 := rfl

def inS (n lo hi : Int) : Bool := if n ≥ lo then decide (n ≤ hi) else false
def farS (p : Pt) (m : Int) : Bool := !(inS p.x (-m) m) || !(inS p.y (-m) m)
def sizedS (i : Icon) : Bool := inS i.w 1 4096 && (inS i.h 1 4096 && inS i.scale 0 6)
def greatS (i : Icon) : Int := if sizedS i then 4 * max i.w i.h * 2 ^ i.scale.toNat else 0
/-- What is amiss: the number of one of api's errors. -/
def headS (c : Cmd) (m : Int) : Option Nat :=
  if c.kind = 1 ∧ inS c.rule 0 1 = true ∧ c.width = 0 then none
  else if c.kind = 2 ∧ c.rule = 0 ∧ inS c.width 1 m = true then none
  else some 4
def zeroP (p : Pt) : Prop := p.x = 0 ∧ p.y = 0
instance (p : Pt) : Decidable (zeroP p) := by unfold zeroP; infer_instance
def sameP (p q : Pt) : Prop := p.x = q.x ∧ p.y = q.y
instance (p q : Pt) : Decidable (sameP p q) := by unfold sameP; infer_instance
def paintS (p : Paint) (n m : Int) : Option Nat :=
  if inS p.kind 0 2 = false ∨ inS p.a 0 (n - 1) = false ∨ (p.kind ≠ 0 ∧ inS p.b 0 (n - 1) = false) then some 4
  else if p.kind = 0 then (if p.b ≠ 0 ∨ ¬ zeroP p.p ∨ ¬ zeroP p.q then some 9 else none)
  else if farS p.p m = true then some 4
  else if p.kind = 1 then (if farS p.q m = true ∨ sameP p.p p.q then some 4 else none)
  else if inS p.q.x 1 m = false then some 4
  else if p.q.y ≠ 0 then some 9
  else none
def segPts (s : Seg) : List Pt := [s.p0, s.p1, s.p2]
def segS (s : Seg) (m : Int) : Option Nat :=
  if inS s.kind 1 3 = false then some 4
  else if ((segPts s).take s.kind.toNat).any (farS · m) = true then some 4
  else if ((segPts s).drop s.kind.toNat).all (fun p => decide (zeroP p)) = false then some 9
  else none
def firstS {α : Type} (f : α → Option Nat) : List α → Option Nat
  | [] => none
  | x :: l => match f x with
    | some e => some e
    | none => firstS f l
def pathS (p : Path) (fill : Bool) (m : Int) : Option Nat :=
  if (fill && p.closed) = true then some 9
  else if p.segs.length = 0 then some 4
  else if 400 < p.segs.length then some 5
  else if farS p.start m = true then some 4
  else firstS (segS · m) p.segs
def cmdS (c : Cmd) (n m : Int) : Option Nat :=
  match headS c m with
  | some e => some e
  | none => match paintS c.paint n m with
    | some e => some e
    | none => if c.paths.length = 0 then some 4 else if 200 < c.paths.length then some 5 else firstS (fun p => pathS p (decide (c.kind = 1)) m) c.paths
def sumS' {α : Type} (f : α → Int) : List α → Int
  | [] => 0
  | x :: l => f x + sumS' f l
def pointsS (i : Icon) : Int := sumS' (fun c => sumS' (fun p => 1 + sumS' (fun s => s.kind) p.segs) c.paths) i.cmds
/-- Colors in the order in which they come first: the next one, behind these. -/
def nextUse (next : Int) : List Int → Option Int
  | [] => some next
  | k :: l => if k > next then none else nextUse (if k = next then next + 1 else next) l
def usesOf (c : Cmd) : List Int := if c.paint.kind = 0 then [c.paint.a] else [c.paint.a, c.paint.b]
def useAll : Int → List Cmd → Option Int
  | n, [] => some n
  | n, c :: l => match nextUse n (usesOf c) with
    | none => none
    | some m => useAll m l
def onceS : List Cl → List Cl → Bool
  | _, [] => true
  | seen, c :: l => if c ∈ seen then false else onceS (seen ++ [c]) l
def usedS (i : Icon) : Bool := match useAll 0 i.cmds with
  | none => false
  | some n => if onceS [] i.colors then decide (n = i.colors.length) else false
def checkS (i : Icon) : Option Nat :=
  if sizedS i = false then some 4
  else if 256 < i.colors.length ∨ 200 < i.cmds.length then some 5
  else match firstS (fun c => cmdS c i.colors.length (greatS i)) i.cmds with
    | some e => some e
    | none => if pointsS i > 4000 then some 5 else if usedS i = false then some 9 else none
/-- The errors, as the program's variables hold them. -/
abbrev erG (n : Nat) : VV := .iface t_p_errors_errorString (.gptr (n + 1) 0)
def eG : Nat → Nat
  | 4 => g_ErrRange
  | 5 => g_ErrLimit
  | _ => g_ErrCanon
abbrev errK (k : Nat) : VV := .iface t_p_errors_errorString (.gptr (eG k + 1) 0)
def errV : Option Nat → VV
  | none => .nilI
  | some k => errK k
structure IcG (Gl : xzy) : Prop where
  r : qzr Gl g_ErrRange = some [errK 4]
  l : qzr Gl g_ErrLimit = some [errK 5]
  c : qzr Gl g_ErrCanon = some [errK 9]
end
end Go.VL.Ic

/- Closing through and through, piece by piece. -/
namespace Go.VL
open Go.FR
noncomputable section
set_option linter.unusedVariables false
set_option linter.unusedSimpArgs false

theorem mapO_mono {f f' : VV → Option VV} (hf : ∀ v w, f v = some w → f' v = some w) : ∀ {cs ds : List VV}, mapO f cs = some ds → mapO f' cs = some ds
  | [], ds, h => h
  | c :: cs, ds, h => by
    simp only [mapO] at h ⊢
    split at h <;> try (cases h; done)
    rename_i x hx
    split at h <;> try (cases h; done)
    rename_i z hz
    simp only [hf _ _ hx, mapO_mono hf hz]; exact h
theorem shutS_mono {f f' : VV → Option VV} (hf : ∀ v w, f v = some w → f' v = some w) {cs ds : List VV} (h : shutS f cs = some ds) : shutS f' cs = some ds := by
  unfold shutS at h ⊢
  split at h
  · rename_i hc; rw [if_pos hc]; exact h
  · rename_i hc; rw [if_neg hc]; exact mapO_mono hf h
/-- One layer. -/
def stepD (F : VV → Option VV) (g : Nat → Option VB) (v : VV) : Option VV := if closedB v = true then some v else match v with
    | .ptr i o => match g i with
      | some (.cells cs _) => match shutS F cs with
        | some ds => some (.fptr ds o)
        | none => none
      | _ => none
    | .slice i o n e c => match g i with
      | some (.cells cs _) => if o + n * e ≤ cs.length ∧ yzb e n c then (match shutS F ((cs.drop o).take (n * e)) with
        | some ds => some (.fsl ds n e)
        | none => none) else none
      | _ => none
    | .map i => match g i with
      | some (.map ks vs _) => match shutS F ks, shutS F vs with
        | some a, some b => some (.fmap a b)
        | _, _ => none
      | _ => none
    | .iface t x => match F x with
      | some y => some (.iface t y)
      | none => none
    | .agg cs => match mapO F cs with
      | some ds => some (.agg ds)
      | none => none
    | .tuple cs => match mapO F cs with
      | some ds => some (.tuple ds)
      | none => none
    | _ => none
theorem shutD_step {g : Nat → Option VB} (k : Nat) (v : VV) : shutD (k + 1) g v = stepD (shutD k g) g v := by
  cases v <;> rfl
theorem stepD_mono {F F' : VV → Option VV} (ih : ∀ v w, F v = some w → F' v = some w) {g : Nat → Option VB} {v w : VV} (h : stepD F g v = some w) : stepD F' g v = some w := by
  have ihS : ∀ cs ds, shutS F cs = some ds → shutS F' cs = some ds := fun cs ds q => shutS_mono ih q
  by_cases hc : closedB v = true
  · simp only [stepD, hc, if_true] at h ⊢; exact h
  have e : ∀ (G : VV → Option VV) (x y : Option VV), (if closedB v = true then x else y) = y := fun _ x y => if_neg hc
  cases v
  case ptr i o =>
    unfold stepD at h ⊢
    rw [if_neg hc] at h ⊢
    simp only at h ⊢
    split at h <;> try (cases h; done)
    rename_i cs ro hg
    split at h <;> try (cases h; done)
    rename_i ds hd
    simp only [hg, ihS _ _ hd]; exact h
  case slice i o n e c =>
    unfold stepD at h ⊢
    rw [if_neg hc] at h ⊢
    simp only at h ⊢
    split at h <;> try (cases h; done)
    rename_i cs ro hg
    split at h <;> try (cases h; done)
    rename_i hr
    split at h <;> try (cases h; done)
    rename_i ds hd
    simp only [hg, if_pos hr, ihS _ _ hd]; exact h
  case map i =>
    unfold stepD at h ⊢
    rw [if_neg hc] at h ⊢
    simp only at h ⊢
    split at h <;> try (cases h; done)
    rename_i ks vs ro hg
    split at h <;> try (cases h; done)
    rename_i x y hx hy
    simp only [hg, ihS _ _ hx, ihS _ _ hy]; exact h
  case iface t x =>
    unfold stepD at h ⊢
    rw [if_neg hc] at h ⊢
    simp only at h ⊢
    split at h <;> try (cases h; done)
    rename_i y hy
    simp only [ih _ _ hy]; exact h
  case agg cs =>
    unfold stepD at h ⊢
    rw [if_neg hc] at h ⊢
    simp only at h ⊢
    split at h <;> try (cases h; done)
    rename_i y hy
    simp only [mapO_mono ih hy]; exact h
  case tuple cs =>
    unfold stepD at h ⊢
    rw [if_neg hc] at h ⊢
    simp only at h ⊢
    split at h <;> try (cases h; done)
    rename_i y hy
    simp only [mapO_mono ih hy]; exact h
  all_goals
    unfold stepD at h
    rw [if_neg hc] at h
    cases h
theorem shutD_succ {g : Nat → Option VB} : ∀ (k : Nat) (v w : VV), shutD k g v = some w → shutD (k + 1) g v = some w
  | 0, v, w, h => by
    simp only [shutD] at h
    split at h <;> try (cases h; done)
    rename_i hc
    simp only [shutD, hc, if_true]; exact h
  | k + 1, v, w, h => by
    rw [shutD_step] at h ⊢
    exact stepD_mono (shutD_succ k) h
theorem shutD_le {g : Nat → Option VB} {k n : Nat} (hk : k ≤ n) {v w : VV} (h : shutD k g v = some w) : shutD n g v = some w := by
  induction n with
  | zero => obtain rfl : k = 0 := by omega
            exact h
  | succ n ih =>
    by_cases e : k = n + 1
    · rw [← e]; exact h
    · exact shutD_succ _ _ _ (ih (by omega))

/-- A value, closed; a row of them. -/
def xzL (g : Nat → Option VB) (v w : VV) : Prop := ∃ k v1, shutD k g v = some v1 ∧ subV v1 w
def xzD (g : Nat → Option VB) (cs ws : List VV) : Prop := ∃ k ds, mapO (shutD k g) cs = some ds ∧ subL ds ws
theorem shutD_closed {g : Nat → Option VB} {v : VV} (k : Nat) (hc : closedB v = true) : shutD k g v = some v := by
  cases k <;> simp only [shutD, hc, if_true]
theorem mapO_closed {g : Nat → Option VB} (k : Nat) : ∀ {cs : List VV}, closedL cs = true → mapO (shutD k g) cs = some cs
  | [], _ => rfl
  | c :: cs, h => by
    simp only [closedL, Bool.and_eq_true] at h
    simp only [mapO, shutD_closed k h.1, mapO_closed k h.2]
variable {g : Nat → Option VB}
theorem xzL.closed {v : VV} (hc : closedB v = true) : xzL g v v := ⟨0, v, shutD_closed 0 hc, subV_refl v⟩
theorem xzL.closed_sub {v w : VV} (hc : closedB v = true) (h : subV v w) : xzL g v w := ⟨0, v, shutD_closed 0 hc, h⟩
theorem xzD.closed {cs : List VV} (hc : closedL cs = true) : xzD g cs cs := ⟨0, cs, mapO_closed 0 hc, subL_refl cs⟩
theorem xzD.nil : xzD g [] [] := ⟨0, [], rfl, rfl⟩
theorem xzD.cons {v w : VV} {cs ws : List VV} (h : xzL g v w) (hs : xzD g cs ws) : xzD g (v :: cs) (w :: ws) := by
  obtain ⟨k, v1, h1, h2⟩ := h
  obtain ⟨n, ds, h3, h4⟩ := hs
  refine ⟨max k n, v1 :: ds, ?_, ⟨_, _, rfl, h2, h4⟩⟩
  simp only [mapO, shutD_le (Nat.le_max_left k n) h1, mapO_mono (fun _ _ => shutD_le (Nat.le_max_right k n)) h3]
theorem xzD.append : ∀ {a b c d : List VV}, xzD g a b → xzD g c d → xzD g (a ++ c) (b ++ d)
  | [], b, c, d, ⟨k, ds, h1, h2⟩, h => by
    simp only [mapO, Option.some.injEq] at h1
    subst h1
    have : b = [] := h2
    subst this
    exact h
  | v :: a, b, c, d, ⟨k, ds, h1, h2⟩, h => by
    simp only [mapO] at h1
    split at h1 <;> try (cases h1; done)
    rename_i x hx
    split at h1 <;> try (cases h1; done)
    rename_i z hz
    obtain rfl := Option.some.inj h1
    obtain ⟨y, ys, rfl, k1, k2⟩ := h2
    exact xzD.cons ⟨k, x, hx, k1⟩ (xzD.append ⟨k, z, hz, k2⟩ h)
theorem xzD.flat {α : Type} {f f' : α → List VV} : ∀ {l : List α}, (∀ a ∈ l, xzD g (f a) (f' a)) → xzD g (xzA f l) (xzA f' l)
  | [], _ => xzD.nil
  | a :: l, h => by
    rw [flatL_cons, flatL_cons]
    exact xzD.append (h a (.head _)) (xzD.flat fun b hb => h b (.tail _ hb))
theorem xzL.agg {cs ws : List VV} (h : xzD g cs ws) : xzL g (.agg cs) (.agg ws) := by
  obtain ⟨k, ds, h1, h2⟩ := h
  refine ⟨k + 1, .agg ds, ?_, ⟨_, rfl, h2⟩⟩
  rw [shutD_step]
  unfold stepD
  split
  · rename_i hc
    have : closedL cs = true := hc
    rw [mapO_closed k this] at h1
    rw [Option.some.inj h1]
  · simp only [h1]
theorem xzL.tuple {cs ws : List VV} (h : xzD g cs ws) : xzL g (.tuple cs) (.tuple ws) := by
  obtain ⟨k, ds, h1, h2⟩ := h
  refine ⟨k + 1, .tuple ds, ?_, ⟨_, rfl, h2⟩⟩
  rw [shutD_step]
  unfold stepD
  split
  · rename_i hc
    have : closedL cs = true := hc
    rw [mapO_closed k this] at h1
    rw [Option.some.inj h1]
  · simp only [h1]
theorem xzD.shutS {cs ws : List VV} (h : xzD g cs ws) : ∃ k ds, shutS (shutD k g) cs = some ds ∧ subL ds ws := by
  obtain ⟨k, ds, h1, h2⟩ := h
  by_cases hc : closedL cs = true
  · rw [mapO_closed k hc] at h1
    refine ⟨k, ds, ?_, h2⟩
    unfold Go.VL.shutS; rw [if_pos hc]; exact h1
  · refine ⟨k, ds, ?_, h2⟩
    unfold Go.VL.shutS; rw [if_neg hc]; exact h1
theorem xzL.slice {i o n e : Nat} {c : ACap} {cs ws : List VV} {ro : Bool} (hi : g i = some (.cells cs ro)) (hr : o + n * e ≤ cs.length) (hc : yzb e n c) (h : xzD g ((cs.drop o).take (n * e)) ws) : xzL g (.slice i o n e c) (.fsl ws n e) := by
  obtain ⟨k, ds, h1, h2⟩ := h.shutS
  exact ⟨k + 1, .fsl ds n e, by rw [shutD_step]; unfold stepD; rw [if_neg (by simp [closedB])]; simp only [hi, hr, hc, and_self, if_true, h1], ⟨_, rfl, h2⟩⟩
/-- A slice of a whole block. -/
theorem xzL.whole {i n e : Nat} {c : ACap} {cs ws : List VV} {ro : Bool} (hi : g i = some (.cells cs ro)) (hn : cs.length = n * e) (hc : yzb e n c) (h : xzD g cs ws) : xzL g (.slice i 0 n e c) (.fsl ws n e) :=
  xzL.slice hi (by omega) hc (by rw [List.drop_zero, ← hn, List.take_length]; exact h)
theorem xzL.ptr {i o : Nat} {cs ws : List VV} {ro : Bool} (hi : g i = some (.cells cs ro)) (h : xzD g cs ws) : xzL g (.ptr i o) (.fptr ws o) := by
  obtain ⟨k, ds, h1, h2⟩ := h.shutS
  exact ⟨k + 1, .fptr ds o, by rw [shutD_step]; unfold stepD; rw [if_neg (by simp [closedB])]; simp only [hi, h1], ⟨_, rfl, h2⟩⟩
/-- A list that was made. -/
theorem xzL.acc {α : Type} {base : Nat} {h : VH} {j : Nat} {f f' : α → List VV} {l : List α} {esz : Nat} {v : VV} (a : xzW base h j f l esz v) (hg : base ≤ j → ∀ x, h.get j = some x → g j = some x) (hf : ∀ a, (f a).length = esz) (hs : ∀ a ∈ l, xzD g (f a) (f' a)) : xzL g v (.fsl (xzA f' l) l.length esz) := by
  have hl := flatL_length hf l
  have hx := xzD.flat hs
  rcases a with ⟨rfl, rfl⟩ | ⟨rfl, a2, a3, a4⟩
  · exact xzL.closed_sub rfl (.inr ⟨esz, rfl⟩)
  · have := hg a3 _ (by rw [qzl, a2]; rfl)
    exact xzL.whole this (by rw [hl]) rfl hx
theorem call_deepL {E : Env} {Gl : xzy} {f : Nat} {args vs : List VV} {v : VV} {h : VH} {K : VV → VH → Option (List Nat × Bool) → Prop} (hp : xzJ E Gl f args v) (hs : xzD h.get vs args) (hv : plainB v = true) (hk : K v h (some ([], true))) : wpCall E Gl f vs h K := by
  obtain ⟨n, ds, h1, h2⟩ := hs
  exact call_deep n hp h1 h2 hv hk
end
end Go.VL

/- Chapter 6: runs. -/
namespace Go.VL.En
open Go.FR Go.IR Go.VL Go.VL.Color Go.VL.Wind Go.VL.Ic
noncomputable section
set_option linter.unusedSimpArgs false
set_option linter.unusedVariables false
set_option maxRecDepth 100000
set_option maxHeartbeats 1000000

/-- Kinds in a row: which, how many. -/
abbrev Run := Int × Nat
abbrev cR (r : Run) : List VV := [.int .i64 r.1, .int .i64 (r.2 : Int)]
def pushR (A : List Run) (k : Int) : List Run := match A.reverse with
  | [] => [(k, 1)]
  | (k', n) :: B => if k' = k then B.reverse ++ [(k', n + 1)] else A ++ [(k, 1)]
def runsS (l : List Seg) : List Run := l.foldl (fun A s => pushR A s.kind) []
/-- How many, all together. -/
def countR (A : List Run) : Nat := (A.map (·.2)).sum
end
end Go.VL.En
