import Derived.Test.YtbamfhdgikeneaaDoorWiA
/- Errors as plain data. -/
namespace Go.VL.Er
open Go.FR Go.IR Go.VL
noncomputable section
set_option linter.unusedSimpArgs false
set_option linter.unusedVariables false
set_option maxRecDepth 100000
set_option maxHeartbeats 1000000

theorem sent_at (i : Nat) (hi : i < 13) : ((List.range 13).map erP)[i]? = some (erP i) := by
  rw [List.getElem?_map, List.getElem?_range hi]; rfl
theorem sent_loop {Gl : xzB} (hG : GlAll Gl) (k : Nat) (hk : k < 13) (K : AEx → VF → VH → Prop)
    (hK : ∀ T h, qzA T 2 = some (.int .i64 (101 + (k : Int))) → K .ret T h) :
    ∀ (d i : Nat) (T : VF) (h : VH) (j : Nat), d + i = k → qzA T 0 = some (erP k) → qzA T 3 = some (.slice j 0 13 1 (.exact 13)) → qzA T 4 = some (.int .i64 i) → qzA h.l j = some (some (.cells ((List.range 13).map erP) false)) →
      wp E Gl (.loop c_glyphicsee_sentinel_l0) T h K := by
  intro d
  induction d with
  | zero =>
    intro i T h j hd t0 t3 t4 hj
    obtain rfl : i = k := by omega
    refine xzy c_glyphicsee_sentinel_l0.eq_1 ?_
    have c1 : (i : Int) < ((13 : Nat) : Int) := by omega
    have p1 := sent_at i hk
    have w : IntKind.i64.wrap (101 + (i : Int)) = 101 + (i : Int) := xzl (by omega) (by omega)
    simp only [qzz, qzp, qzq, qzF, xzg, qzw, qzn, qzj, xzm, xzh, qzf, qzd, qze, qzo, qzG, qzJ, qzc, qzm, qzb, qzg, qzh, qzr, qzk, qzl, qzs, qza, qzt, qzv, qzy, xzf, xzr, qzN, qzD, qzE, qzL, qzK, toA, ofA, FR.pop, abin, intBin, qzi, xzO, ↓reduceIte, Option.getD_some, Nat.reduceEqDiff, reduceCtorEq, Nat.zero_add, and_true, decide_true, forall_const, false_implies, Bool.true_eq_false, reduceCtorEq, erP, t_p_errors_errorString, t0, t3, t4, c1, hk, hj, Nat.mul_one, p1]
    refine qzU (alike_ok hG i i hk hk) rfl rfl ?_
    have de : decide (i = i) = true := by simp
    simp only [qzz, qzp, qzq, qzB, qzw, qzn, qzj, qzT, qzZ, xzd, xzt, xzK, qzf, qzd, qze, qzo, qzu, qzc, qzb, qzg, qzh, qzk, qzl, qzs, qza, qzt, qzv, qzy, cv, qzL, qzK, toA, ofA, FR.pop, abin, intBin, ↓reduceIte, Nat.reduceEqDiff, and_true, decide_true, forall_const, false_implies, Bool.true_eq_false, t4, w]
    refine hK _ _ ?_
    simp only [qza, ↓reduceIte]
  | succ d ih =>
    intro i T h j hd t0 t3 t4 hj
    refine xzy c_glyphicsee_sentinel_l0.eq_1 ?_
    have hi : i < 13 := by omega
    have c1 : (i : Int) < ((13 : Nat) : Int) := by omega
    have p1 := sent_at i hi
    have w : IntKind.i64.wrap ((i : Int) + 1) = ((i + 1 : Nat) : Int) := by rw [xzl (by omega) (by omega)]; rfl
    simp only [qzz, qzp, qzq, qzF, xzg, qzw, qzn, qzj, xzm, xzh, qzf, qzd, qze, qzo, qzG, qzJ, qzc, qzm, qzb, qzg, qzh, qzr, qzk, qzl, qzs, qza, qzt, qzv, qzy, xzf, xzr, qzN, qzD, qzE, qzL, qzK, toA, ofA, FR.pop, abin, intBin, qzi, xzO, ↓reduceIte, Option.getD_some, Nat.reduceEqDiff, reduceCtorEq, Nat.zero_add, and_true, decide_true, forall_const, false_implies, Bool.true_eq_false, reduceCtorEq, erP, t_p_errors_errorString, t0, t3, t4, c1, hi, hj, Nat.mul_one, p1]
    refine qzU (alike_ok hG k i hk hi) rfl rfl ?_
    have de : decide (k = i) = false := by simp; omega
    simp only [qzz, qzp, qzq, qzB, qzw, qzn, qzj, qzT, qzZ, xzd, xzt, xzK, qzf, qzd, qze, qzo, qzu, qzc, qzb, qzg, qzh, qzk, qzl, qzs, qza, qzt, qzv, qzy, cv, qzL, qzK, toA, ofA, FR.pop, abin, intBin, ↓reduceIte, Nat.reduceEqDiff, true_and, Bool.false_eq_true, forall_const, false_implies, de, t4, w]
    refine ih (i + 1) _ h j (by omega) ?_ ?_ ?_ hj
    · simp only [qza, ↓reduceIte, reduceCtorEq, reduceCtorEq, erP, t_p_errors_errorString, t0]
    · simp only [qza, ↓reduceIte, Nat.reduceEqDiff, t3]
    · simp only [qza, ↓reduceIte]

theorem sent_ok {Gl : xzB} (hG : GlAll Gl) (k : Nat) (hk : k < 13) : xzS E Gl f_glyphicsee_sentinel [erP k] (.int .i64 (101 + (k : Int))) := by
  refine xzu (xzj E_glyphicsee_sentinel ?_)
  unfold c_glyphicsee_sentinel r_glyphicsee_sentinel
  simp only [xzQ]
  simp only [qzp, qzq, qzj, qzf, qzd, qze, qzo, qzJ, qzc, qzb, qzg, qzh, qzr, qzk, qzl, qzs, qzt, qzv, qzy, cv, h0, erP, t_p_errors_errorString]
  refine call_own (sents_ok hG) rfl (plainL_map (fun _ => rfl) _) ?_
  simp only [qzp, qzq, qzF, qzj, qzf, qzd, qze, qzo, qzu, qzc, qzb, qzg, qzh, qzk, qzl, qzs, qza, qzt, qzv, qzy, cv, VH.push, ↓reduceIte, Nat.zero_add]
  refine sent_loop hG k hk _ ?_ k 0 _ _ 0 (by omega) ?_ ?_ ?_ ?_
  · intro T h t2
    simp only [qzT, xzd, qzC, qzW, qzM, qzX, qzV, t2]
    exact qzx rfl
  · simp only [qza, ↓reduceIte, reduceCtorEq, reduceCtorEq, erP, t_p_errors_errorString]
  · simp only [qza, ↓reduceIte, Nat.reduceEqDiff]
  · simp only [qza, ↓reduceIte]; rfl
  · simp only [qza, ↓reduceIte]

theorem fault_nil (Gl : xzB) : xzS E Gl f_glyphicsee_Fault [.nilI] (.agg (cFault (bareF 0))) := by
  refine xzu (xzj E_glyphicsee_Fault ?_)
  unfold c_glyphicsee_Fault r_glyphicsee_Fault
  simp only [xzQ]
  simp only [qzz, qzp, xzw, qzq, qzw, qzn, qzj, qzf, qzd, qze, xzo, qzo, qzG, xzc, qzJ, xzi, xze, xzx, qzc, qzm, qzH, qzb, qzg, qzh, qzY, xzn, xzq, qzr, qzk, qzl, qzs, qza, qzt, qzv, qzy, xzb, extV, tAssV, xzL, qzN, xzH, xzI, eqPV, xzZ, xzk, cvs, cv, qzL, qzK, toA, ofA, FR.pop, aun, VN.at, VH.push, h0, qzQ, countN, ↓reduceIte, List.getElem?_cons_zero, List.getElem?_cons_succ, Nat.reduceEqDiff, reduceCtorEq, Nat.zero_add, and_true, Bool.not_false, Bool.not_true, Bool.false_eq_true, beq_false, forall_const, false_implies, Bool.true_eq_false, reduceCtorEq, cFault, t_p_api_At, t_p_errors_errorString]
  refine qzU (none_ok Gl) rfl rfl ?_
  simp only [qzB, qzj, qzT, qzf, qzd, qze, qzJ, qzu, qzC, qzb, qzP, qzg, qzO, qzk, qzl, qzs, qza, qzt, qzD, qzS, qzR, xza, qzE, VH.set, qzi, VV.cells, ntV, qzW, qzM, qzX, qzV, qzQ, xzp, ↓reduceIte, Option.getD_some, List.length_cons, List.length_nil, List.drop_succ_cons, List.drop_zero, List.take_succ_cons, List.take_zero, List.append_nil, List.nil_append, List.head?_cons, Nat.reduceAdd, Nat.reduceEqDiff, Nat.reduceLeDiff, Nat.zero_add, and_self, cFault]
  exact qzx rfl
theorem fault_bare {Gl : xzB} (hG : GlAll Gl) (k : Nat) (hk : k < 13) : xzS E Gl f_glyphicsee_Fault [erP k] (.agg (cFault (bareF (101 + (k : Int))))) := by
  refine xzu (xzj E_glyphicsee_Fault ?_)
  unfold c_glyphicsee_Fault r_glyphicsee_Fault
  simp only [xzQ]
  simp only [qzz, qzp, xzw, qzq, qzw, qzn, qzj, qzf, qzd, qze, xzo, qzo, qzG, xzc, qzJ, xzi, xze, xzx, qzc, qzm, qzH, qzb, qzg, qzh, qzY, xzn, xzq, qzr, qzk, qzl, qzs, qza, qzt, qzv, qzy, xzb, extV, tAssV, xzL, qzN, xzH, xzI, eqPV, xzZ, xzk, cvs, cv, qzL, qzK, toA, ofA, FR.pop, aun, VN.at, VH.push, h0, qzQ, countN, ↓reduceIte, List.getElem?_cons_zero, List.getElem?_cons_succ, Nat.reduceEqDiff, reduceCtorEq, Nat.zero_add, and_true, true_and, Bool.not_false, Bool.not_true, Bool.false_eq_true, beq_false, forall_const, false_implies, Bool.true_eq_false, reduceCtorEq, cFault, erP, t_p_api_At, t_p_errors_errorString]
  refine qzU (sent_ok hG k hk) rfl rfl ?_
  simp only [qzd, qze, qzJ, qzu, qzb, qzg, qzr, qzk, qzl, qzs, qza, qzt, ↓reduceIte]
  refine qzU (bare_ok Gl _) rfl rfl ?_
  simp only [qzB, qzj, qzT, qzf, qzd, qze, qzJ, qzu, qzC, qzb, qzP, qzg, qzO, qzk, qzl, qzs, qza, qzt, qzD, qzS, qzR, xza, qzE, VH.set, qzi, VV.cells, ntV, qzW, qzM, qzX, qzV, qzQ, xzp, ↓reduceIte, Option.getD_some, List.length_cons, List.length_nil, List.drop_succ_cons, List.drop_zero, List.take_succ_cons, List.take_zero, List.append_nil, List.nil_append, List.head?_cons, Nat.reduceAdd, Nat.reduceEqDiff, Nat.reduceLeDiff, Nat.zero_add, and_self, cFault]
  exact qzx rfl
theorem fault_at {Gl : xzB} (hG : GlAll Gl) (k : Nat) (hk : k < 13) (pos : Int) : xzS E Gl f_glyphicsee_Fault [atV k pos] (.agg (cFault (placedF (101 + (k : Int)) pos))) := by
  refine xzu (xzj E_glyphicsee_Fault ?_)
  unfold c_glyphicsee_Fault r_glyphicsee_Fault
  simp only [xzQ]
  simp only [qzz, qzp, xzw, qzq, qzw, qzn, qzj, qzf, qzd, qze, qzo, qzG, xzc, qzJ, xzi, xze, xzx, xzG, xzN, qzc, qzm, qzH, qzb, qzg, qzh, qzY, xzn, xzq, qzr, qzk, qzl, qzs, qza, qzt, qzv, qzy, xzb, qzI, extV, tAssV, xzL, qzN, qzD, xzH, xzI, eqPV, xzZ, xzk, qzE, cvs, cv, qzL, qzK, toA, ofA, FR.pop, aun, VN.at, VH.push, h0, countN, xzA, xzE, xzR, xzz, xzF, xzV, xzW, ↓reduceIte, List.getElem?_cons_zero, List.getElem?_cons_succ, List.append_nil, Nat.reduceEqDiff, reduceCtorEq, Nat.zero_add, and_self, true_and, Bool.and_self, Bool.not_true, Bool.false_eq_true, beq_self_eq_true, forall_const, false_implies, reduceCtorEq, cFault, erP, atV, t_p_api_At, t_p_errors_errorString]
  refine qzU (sent_ok hG k hk) rfl rfl ?_
  simp only [xzi, xze, xzx, xzG, xzN, yzf, qzc, qzm, qzb, xzn, xzq, qzr, qzk, qzl, qzs, qza, qzt, qzv, qzy, qzI, xzL, qzN, qzD, qzE, xzA, lowB, fzB, fzL, xzE, xzR, xzz, xzF, xzV, xzW, ↓reduceIte, Option.map_some, List.getElem?_cons_zero, List.append_nil, Nat.reduceEqDiff, Nat.add_zero, and_self, true_and, Bool.and_self, Bool.or_false, Bool.not_true]
  refine qzU (placed_ok Gl _ _) rfl rfl ?_
  simp only [qzB, qzj, xzX, xzi, xze, xzN, yzf, qzC, qzb, qzP, xzn, qzO, qzk, qzl, qzs, qza, qzt, qzD, qzS, qzR, xza, qzE, VH.set, qzi, VV.cells, ntV, qzW, qzM, qzX, qzV, qzQ, xzp, ↓reduceIte, Option.getD_some, Option.map_some, List.length_cons, List.length_nil, List.drop_succ_cons, List.drop_zero, List.take_succ_cons, List.take_zero, List.append_nil, List.nil_append, List.head?_cons, Nat.reduceAdd, Nat.reduceEqDiff, Nat.reduceLeDiff, Nat.zero_add, and_self, cFault]
  exact qzx rfl

/-- An error, and what it is. -/
inductive ErrV where
  | none
  | bare (k : Nat)
  | placed (k : Nat) (pos : Int)
def ErrV.v : ErrV → VV
  | .none => .nilI
  | .bare k => erP k
  | .placed k pos => atV k pos
def ErrV.ok : ErrV → Prop
  | .none => True
  | .bare k => k < 13
  | .placed k _ => k < 13
def ErrV.f : ErrV → Fault
  | .none => bareF 0
  | .bare k => bareF (101 + (k : Int))
  | .placed k pos => placedF (101 + (k : Int)) pos
theorem fault_ok {Gl : xzB} (hG : GlAll Gl) (e : ErrV) (he : e.ok) : xzS E Gl f_glyphicsee_Fault [e.v] (.agg (cFault e.f)) := by
  cases e with
  | none => exact fault_nil Gl
  | bare k => exact fault_bare hG k he
  | placed k pos => exact fault_at hG k he pos
theorem shut_closed {h : VH} : ∀ e : ErrV, shut h e.v = some e.v := fun e => by cases e <;> rfl
theorem see_same {Gl : xzB} (hG : GlAll Gl) (e : ErrV) (he : e.ok) (f : Fault) : xzS E Gl f_glyphicsee_Same [e.v, .agg (cFault f)] (.bool (decide (e.f = f))) := by
  refine xzu (xzj E_glyphicsee_Same ?_)
  unfold c_glyphicsee_Same r_glyphicsee_Same
  simp only [xzQ]
  simp only [qzp, xzw, qzq, qzj, qzf, qzd, qze, qzo, xzc, xzi, xze, xzx, xzN, qzc, qzH, qzb, qzg, qzh, qzY, xzn, xzq, qzr, qzk, qzl, qzs, qza, qzt, qzv, qzy, xzk, yzc, cv, VN.at, VH.push, h0, VV.cells, ntV, countN, ↓reduceIte, reduceCtorEq, Nat.zero_add, reduceCtorEq, cFault]
  refine qzU (fault_ok hG e he) (by simp only [shutL, shut_closed]) rfl ?_
  simp only [xzi, xze, xzG, xzN, yzf, qzm, qzb, xzn, xzq, qzr, qzk, qzl, qzs, qza, qzt, qzN, qzD, qzE, qzi, xzA, lowB, fzB, fzL, xzE, xzR, xzz, xzF, xzV, xzW, ↓reduceIte, Option.getD_some, Option.isSome_some, Option.map_some, List.length_cons, List.length_nil, List.drop_zero, List.take_succ_cons, List.take_zero, List.append_nil, List.contains_nil, Nat.reduceAdd, Nat.reduceLT, Nat.reduceEqDiff, Nat.reduceLeDiff, Nat.zero_add, and_self, true_and, Bool.and_self, Bool.or_false, Bool.or_true, Bool.not_false, decide_true, cFault]
  refine qzU (sameF_ok Gl e.f f) rfl rfl ?_
  simp only [qzB, qzj, xzX, xzi, xze, xzx, yzf, qzC, qzc, qzb, xzn, xzq, qzk, qzl, qzs, qza, qzt, qzv, qzy, qzW, qzM, qzX, qzV, ↓reduceIte, Option.map_some, List.append_nil]
  exact qzx rfl
theorem see_is {Gl : xzB} (hG : GlAll Gl) (e : ErrV) (he : e.ok) (n : Int) : xzS E Gl f_glyphicsee_Is [e.v, .int .i64 n] (.bool (decide (e.f = bareF n))) := by
  refine xzu (xzj E_glyphicsee_Is ?_)
  unfold c_glyphicsee_Is r_glyphicsee_Is
  simp only [xzQ]
  simp only [qzp, qzq, qzj, qzf, qzd, qze, qzo, qzJ, qzc, qzb, qzg, qzh, qzr, qzk, qzl, qzs, qza, qzt, qzv, qzy, cv, h0, ↓reduceIte, Nat.reduceEqDiff, reduceCtorEq, Nat.zero_add, reduceCtorEq]
  refine qzU (bare_ok Gl n) rfl rfl ?_
  simp only [qzd, qze, qzJ, qzu, qzb, qzg, qzr, qzk, qzl, qzs, qza, qzt, ↓reduceIte, Nat.reduceEqDiff, cFault]
  refine qzU (see_same hG e he _) (by simp only [shutL, shut_closed]; rfl) rfl ?_
  simp only [qzB, qzj, qzf, qzd, qze, qzo, qzu, qzC, qzc, qzb, qzg, qzh, qzk, qzl, qzs, qza, qzt, qzv, qzy, qzW, qzM, qzX, qzV, ↓reduceIte]
  exact qzx rfl
end
end Go.VL.Er

/- Chapters 5 and 6 in plain numbers: icons, what is amiss with them. -/
namespace Go.VL.Ic
open Go.FR Go.IR Go.VL Go.VL.Er Go.VL.Color Go.VL.Wind
noncomputable section
set_option linter.unusedVariables false
set_option linter.unusedSimpArgs false

structure Seg where
  kind : Int
  p0 : Pt
  p1 : Pt
  p2 : Pt
deriving DecidableEq
structure Path where
  start : Pt
  segs : List Seg
  closed : Bool
deriving DecidableEq
structure Paint where
  kind : Int
  a : Int
  b : Int
  p : Pt
  q : Pt
deriving DecidableEq
structure Cmd where
  kind : Int
  rule : Int
  width : Int
  paint : Paint
  paths : List Path
deriving DecidableEq
structure Icon where
  w : Int
  h : Int
  scale : Int
  colors : List Cl
  cmds : List Cmd
deriving DecidableEq
abbrev cSeg (s : Seg) : List VV := [.int .i64 s.kind, .int .i64 s.p0.x, .int .i64 s.p0.y, .int .i64 s.p1.x, .int .i64 s.p1.y, .int .i64 s.p2.x, .int .i64 s.p2.y]
abbrev cPath (p : Path) : List VV := [.int .i64 p.start.x, .int .i64 p.start.y, .fsl (xzP cSeg p.segs) p.segs.length 7, .bool p.closed]
abbrev cPaint (p : Paint) : List VV := [.int .i64 p.kind, .int .i64 p.a, .int .i64 p.b, .int .i64 p.p.x, .int .i64 p.p.y, .int .i64 p.q.x, .int .i64 p.q.y]
abbrev cCmd (c : Cmd) : List VV := [.int .i64 c.kind, .int .i64 c.rule, .int .i64 c.width, .int .i64 c.paint.kind, .int .i64 c.paint.a, .int .i64 c.paint.b, .int .i64 c.paint.p.x, .int .i64 c.paint.p.y, .int .i64 c.paint.q.x, .int .i64 c.paint.q.y, .fsl (xzP cPath c.paths) c.paths.length 4]
abbrev cIcon (i : Icon) : List VV := [.int .i64 i.w, .int .i64 i.h, .int .i64 i.scale, .fsl (xzP cCl i.colors) i.colors.length 4, .fsl (xzP cCmd i.cmds) i.cmds.length 11]
theorem cSeg_len (s : Seg) : (cSeg s).length = 7 := rfl
theorem cPath_len (s : Path) : (cPath s).length = 4 := rfl
theorem cCmd_len (s : Cmd) : (cCmd s).length = 11 := rfl
theorem cCl_len (c : Cl) : (cCl c).length = 4 := rfl

def inS (n lo hi : Int) : Bool := if n ≥ lo then decide (n ≤ hi) else false
def farS (p : Pt) (m : Int) : Bool := !(inS p.x (-m) m) || !(inS p.y (-m) m)
def sizedS (i : Icon) : Bool := inS i.w 1 4096 && (inS i.h 1 4096 && inS i.scale 0 6)
def greatS (i : Icon) : Int := if sizedS i then 4 * max i.w i.h * 2 ^ i.scale.toNat else 0
/-- What is amiss: the number of one of api's errors. -/
def headS (c : Cmd) (m : Int) : Option Nat :=
  if c.kind = 1 ∧ inS c.rule 0 1 = true ∧ c.width = 0 then none
  else if c.kind = 2 ∧ c.rule = 0 ∧ inS c.width 1 m = true then none
  else some 4
def zeroP (p : Pt) : Prop := p.x = 0 ∧ p.y = 0
instance (p : Pt) : Decidable (zeroP p) := by unfold zeroP; infer_instance
def sameP (p q : Pt) : Prop := p.x = q.x ∧ p.y = q.y
instance (p q : Pt) : Decidable (sameP p q) := by unfold sameP; infer_instance
def paintS (p : Paint) (n m : Int) : Option Nat :=
  if inS p.kind 0 2 = false ∨ inS p.a 0 (n - 1) = false ∨ (p.kind ≠ 0 ∧ inS p.b 0 (n - 1) = false) then some 4
  else if p.kind = 0 then (if p.b ≠ 0 ∨ ¬ zeroP p.p ∨ ¬ zeroP p.q then some 9 else none)
  else if farS p.p m = true then some 4
  else if p.kind = 1 then (if farS p.q m = true ∨ sameP p.p p.q then some 4 else none)
  else if inS p.q.x 1 m = false then some 4
  else if p.q.y ≠ 0 then some 9
  else none
def segPts (s : Seg) : List Pt := [s.p0, s.p1, s.p2]
def segS (s : Seg) (m : Int) : Option Nat :=
  if inS s.kind 1 3 = false then some 4
  else if ((segPts s).take s.kind.toNat).any (farS · m) = true then some 4
  else if ((segPts s).drop s.kind.toNat).all (fun p => decide (zeroP p)) = false then some 9
  else none
def firstS {α : Type} (f : α → Option Nat) : List α → Option Nat
  | [] => none
  | x :: l => match f x with
    | some e => some e
    | none => firstS f l
def pathS (p : Path) (fill : Bool) (m : Int) : Option Nat :=
  if (fill && p.closed) = true then some 9
  else if p.segs.length = 0 then some 4
  else if 400 < p.segs.length then some 5
  else if farS p.start m = true then some 4
  else firstS (segS · m) p.segs
def cmdS (c : Cmd) (n m : Int) : Option Nat :=
  match headS c m with
  | some e => some e
  | none => match paintS c.paint n m with
    | some e => some e
    | none => if c.paths.length = 0 then some 4 else if 200 < c.paths.length then some 5 else firstS (fun p => pathS p (decide (c.kind = 1)) m) c.paths
def sumS' {α : Type} (f : α → Int) : List α → Int
  | [] => 0
  | x :: l => f x + sumS' f l
def pointsS (i : Icon) : Int := sumS' (fun c => sumS' (fun p => 1 + sumS' (fun s => s.kind) p.segs) c.paths) i.cmds
/-- Colors in the order in which they come first: the next one, behind these. -/
def nextUse (next : Int) : List Int → Option Int
  | [] => some next
  | k :: l => if k > next then none else nextUse (if k = next then next + 1 else next) l
def usesOf (c : Cmd) : List Int := if c.paint.kind = 0 then [c.paint.a] else [c.paint.a, c.paint.b]
def useAll : Int → List Cmd → Option Int
  | n, [] => some n
  | n, c :: l => match nextUse n (usesOf c) with
    | none => none
    | some m => useAll m l
def onceS : List Cl → List Cl → Bool
  | _, [] => true
  | seen, c :: l => if c ∈ seen then false else onceS (seen ++ [c]) l
def usedS (i : Icon) : Bool := match useAll 0 i.cmds with
  | none => false
  | some n => if onceS [] i.colors then decide (n = i.colors.length) else false
def checkS (i : Icon) : Option Nat :=
  if sizedS i = false then some 4
  else if 256 < i.colors.length ∨ 200 < i.cmds.length then some 5
  else match firstS (fun c => cmdS c i.colors.length (greatS i)) i.cmds with
    | some e => some e
    | none => if pointsS i > 4000 then some 5 else if usedS i = false then some 9 else none
/-- The errors, as the program's variables hold them. -/
abbrev erG (n : Nat) : VV := .iface t_p_errors_errorString (.gptr (n + 1) 0)
def eG : Nat → Nat
  | 4 => g_ErrRange
  | 5 => g_ErrLimit
  | _ => g_ErrCanon
abbrev errK (k : Nat) : VV := .iface t_p_errors_errorString (.gptr (eG k + 1) 0)
def errV : Option Nat → VV
  | none => .nilI
  | some k => errK k
structure IcG (Gl : xzB) : Prop where
  r : qzA Gl g_ErrRange = some [errK 4]
  l : qzA Gl g_ErrLimit = some [errK 5]
  c : qzA Gl g_ErrCanon = some [errK 9]
end
end Go.VL.Ic

/- The statements' own makers: numbers one by one; points, edges, rings out of them. -/
namespace Go.VL.Wind
open Go.FR Go.IR Go.VL
noncomputable section
set_option linter.unusedSimpArgs false
set_option linter.unusedVariables false
set_option maxRecDepth 100000
set_option maxHeartbeats 1000000

abbrev cSeq (l : List Int) (at_ : Nat) : List VV := [.fsl (l.map (VV.int .i64)) l.length 1, .int .i64 at_]
abbrev bSeq (l : List Int) (at_ : Nat) : VB := .cells (cSeq l at_) false

/-- A number from 0 to below a bound, of any. -/
def numbS (n below : Int) : Int := if n.tmod below < 0 then n.tmod below + below else n.tmod below
theorem numb_in (n below : Int) (h : 0 < below) : 0 ≤ numbS n below ∧ numbS n below < below := by
  unfold numbS
  have h1 := Int.lt_tmod_of_pos n h
  have h2 := Int.tmod_lt_of_pos n h
  split <;> omega

theorem numb_ok (Gl : xzB) (n below : Int) (h : 0 < below) (hb : below < 9223372036854775807) : xzS E Gl f_glyphicworld_Number [.int .i64 n, .int .i64 below] (.int .i64 (numbS n below)) := by
  refine xzu (xzj E_glyphicworld_Number ?_)
  unfold c_glyphicworld_Number r_glyphicworld_Number numbS
  simp only [xzQ]
  have h0 : ¬ below = 0 := by omega
  have h1 := Int.lt_tmod_of_pos n h
  have h2 := Int.tmod_lt_of_pos n h
  by_cases c : n.tmod below < 0
  · have w : IntKind.i64.wrap (n.tmod below + below) = n.tmod below + below := xzl (by omega) (by omega)
    simp only [qzz, qzp, qzq, qzB, qzw, qzn, qzj, qzf, qzd, qze, qzo, qzC, qzc, qzb, qzg, qzh, qzk, qzl, qzs, qza, qzt, qzv, qzy, cv, qzL, qzK, toA, ofA, FR.pop, abin, intBin, qzW, qzM, qzX, qzV, ↓reduceIte, Nat.reduceEqDiff, reduceCtorEq, Nat.zero_add, and_true, decide_true, forall_const, false_implies, Bool.true_eq_false, reduceCtorEq, h0, c, w]
    exact qzx rfl
  · simp only [qzz, qzp, qzq, qzB, qzw, qzn, qzj, qzf, qzd, qze, qzo, qzC, qzc, qzb, qzg, qzh, qzk, qzl, qzs, qza, qzt, qzv, qzy, cv, qzL, qzK, toA, ofA, FR.pop, abin, intBin, qzW, qzM, qzX, qzV, ↓reduceIte, Nat.reduceEqDiff, reduceCtorEq, Nat.zero_add, true_and, Bool.false_eq_true, decide_false, forall_const, false_implies, reduceCtorEq, h0, c]
    exact qzx rfl

def pickS (l : List Int) (at_ : Nat) : Int := if at_ < l.length then l.getD at_ 0 else 0
def nextS (l : List Int) (at_ : Nat) (below : Int) : Int := numbS (pickS l at_) below
theorem next_in (l : List Int) (at_ : Nat) (below : Int) (h : 0 < below) : 0 ≤ nextS l at_ below ∧ nextS l at_ below < below := numb_in _ _ h

theorem next_ok (Gl : xzB) (l : List Int) (at_ : Nat) (below : Int) (i : Nat) (hl : l.length < 4611686018427387904) (ha : at_ < 4611686018427387904) (h : 0 < below) (hb : below < 9223372036854775807) :
    StOk E Gl f_glyphicmake_Seq_Next [.ptr i 0, .int .i64 below] [(i, bSeq l at_)] (.int .i64 (nextS l at_ below)) [(i, bSeq l (at_ + 1))] := by
  refine st1_intro fun nx hn => xzj E_glyphicmake_Seq_Next ?_
  unfold c_glyphicmake_Seq_Next r_glyphicmake_Seq_Next
  simp only [xzQ]
  have w : IntKind.i64.wrap ((at_ : Int) + 1) = ((at_ + 1 : Nat) : Int) := by rw [xzl (by omega) (by omega)]; rfl
  by_cases c : at_ < l.length
  · have c1 : (at_ : Int) < (l.length : Int) := by omega
    have hp : (l.map (VV.int .i64))[at_]? = some (.int .i64 (pickS l at_)) := by
      rw [List.getElem?_map, List.getElem?_eq_getElem c]
      simp [pickS, c, List.getD]
    simp only [qzz, qzp, xzw, qzq, qzw, qzn, qzj, qzf, qzd, qze, qzo, qzG, qzJ, qzu, xzX, xzi, xze, xzx, xzG, qzc, qzm, qzb, qzP, qzg, qzh, xzn, xzq, qzO, qzr, qzk, qzl, qzs, qza, qzt, qzv, qzy, qzI, xzf, xzr, xzL, qzN, qzD, qzS, qzR, xza, qzE, cv, qzL, qzK, toA, ofA, FR.pop, abin, intBin, VH.set, qzi, VV.cells, ntV, qzQ, countN, xzA, xzE, xzR, xzz, xzF, xzV, xzW, xzp, xzO, ↓reduceIte, Option.getD_some, Option.isSome_some, List.getElem?_cons_zero, List.getElem?_cons_succ, List.length_cons, List.length_nil, List.drop_succ_cons, List.drop_zero, List.take_succ_cons, List.take_zero, List.append_nil, List.nil_append, List.cons_append, List.contains_nil, List.head?_cons, Nat.reduceAdd, Nat.reduceEqDiff, reduceCtorEq, Nat.reduceLeDiff, Nat.add_zero, Nat.zero_add, and_self, and_true, true_and, Bool.and_self, Bool.not_false, decide_true, forall_const, false_implies, Bool.true_eq_false, reduceCtorEq, cSeq, c1, c, hp, Nat.mul_one, w]
    refine qzU (numb_ok Gl _ below h hb) rfl rfl ?_
    simp only [qzB, qzj, qzf, qzd, qze, qzo, qzu, qzC, qzc, qzb, qzg, qzh, qzk, qzl, qzs, qza, qzt, qzv, qzy, qzW, qzM, qzX, qzV, ↓reduceIte, and_true] <;> first | rfl | exact ⟨rfl, rfl⟩ | exact qzx rfl
  · have c1 : ¬ (at_ : Int) < (l.length : Int) := by omega
    have hp : pickS l at_ = 0 := by simp [pickS, c]
    simp only [qzz, qzp, xzw, qzq, qzw, qzn, qzj, qzf, qzd, qze, qzo, qzG, qzJ, qzu, xzX, xzi, xze, xzx, xzG, qzc, qzm, qzb, qzP, qzg, qzh, xzn, xzq, qzO, qzr, qzk, qzl, qzs, qza, qzt, qzv, qzy, qzI, xzf, xzr, xzL, qzN, qzD, qzS, qzR, xza, qzE, cv, qzL, qzK, toA, ofA, FR.pop, abin, intBin, VH.set, qzi, VV.cells, ntV, qzQ, countN, xzA, xzE, xzR, xzz, xzF, xzV, xzW, xzp, xzO, ↓reduceIte, Option.getD_some, Option.isSome_some, List.getElem?_cons_zero, List.getElem?_cons_succ, List.length_cons, List.length_nil, List.drop_succ_cons, List.drop_zero, List.take_succ_cons, List.take_zero, List.append_nil, List.nil_append, List.cons_append, List.contains_nil, List.head?_cons, Nat.reduceAdd, Nat.reduceEqDiff, reduceCtorEq, Nat.reduceLeDiff, Nat.add_zero, Nat.zero_add, and_self, true_and, Bool.and_self, Bool.not_false, Bool.false_eq_true, decide_false, forall_const, false_implies, reduceCtorEq, cSeq, c1, w]
    refine qzU (numb_ok Gl 0 below h hb) rfl rfl ?_
    unfold nextS
    simp only [qzB, qzj, qzf, qzd, qze, qzo, qzu, qzC, qzc, qzb, qzg, qzh, qzk, qzl, qzs, qza, qzt, qzv, qzy, qzW, qzM, qzX, qzV, ↓reduceIte, and_self, hp] <;> first | rfl | exact ⟨rfl, rfl⟩ | exact qzx rfl

def pointS (l : List Int) (at_ : Nat) (far : Int) : Pt := ⟨nextS l at_ (2 * far + 1) - far, nextS l (at_ + 1) (2 * far + 1) - far⟩
theorem point_in (l : List Int) (at_ : Nat) (far : Int) (h : 0 ≤ far) : (-far ≤ (pointS l at_ far).x ∧ (pointS l at_ far).x ≤ far) ∧ -far ≤ (pointS l at_ far).y ∧ (pointS l at_ far).y ≤ far := by
  have h1 := next_in l at_ (2 * far + 1) (by omega)
  have h2 := next_in l (at_ + 1) (2 * far + 1) (by omega)
  simp only [pointS]; omega

theorem point_ok (Gl : xzB) (l : List Int) (at_ : Nat) (far : Int) (i : Nat) (hl : l.length < 4611686018427387904) (ha : at_ + 1 < 4611686018427387904) (h : 0 ≤ far) (hb : far < 4611686018427387000) :
    StOk E Gl f_glyphicmake_Point [.ptr i 0, .int .i64 far] [(i, bSeq l at_)] (.agg (cPt (pointS l at_ far))) [(i, bSeq l (at_ + 2))] := by
  refine st1_intro fun nx hn => xzj E_glyphicmake_Point ?_
  unfold c_glyphicmake_Point r_glyphicmake_Point
  simp only [xzQ]
  have w1 : IntKind.i64.wrap (2 * far) = 2 * far := xzl (by omega) (by omega)
  have w2 : IntKind.i64.wrap (2 * far + 1) = 2 * far + 1 := xzl (by omega) (by omega)
  have n1 := next_in l at_ (2 * far + 1) (by omega)
  have n2 := next_in l (at_ + 1) (2 * far + 1) (by omega)
  have w3 : IntKind.i64.wrap (nextS l at_ (2 * far + 1) - far) = nextS l at_ (2 * far + 1) - far := xzl (by omega) (by omega)
  have w4 : IntKind.i64.wrap (nextS l (at_ + 1) (2 * far + 1) - far) = nextS l (at_ + 1) (2 * far + 1) - far := xzl (by omega) (by omega)
  have ne1 : ¬ nx = i := by omega
  have ne2 : ¬ i = nx := by omega
  simp only [qzp, qzq, qzj, qzf, qzd, qze, qzo, xzc, qzJ, qzc, qzH, qzb, qzg, qzh, qzY, qzr, qzk, qzl, qzs, qza, qzt, qzv, qzy, xzk, cvs, cv, qzL, qzK, toA, ofA, FR.pop, abin, intBin, VN.at, VH.push, ↓reduceIte, Nat.reduceEqDiff, reduceCtorEq, Nat.zero_add, reduceCtorEq, cPt, w1, w2]
  refine xzC (next_ok Gl l at_ (2 * far + 1) i hl (by omega) (by omega) (by omega)) (by simp only [qza, ↓reduceIte, ne1]) rfl rfl ?_
  simp only [qzp, qzq, qzj, qzf, qzd, qze, qzo, qzJ, qzu, qzc, qzb, qzg, qzh, qzr, qzk, qzl, qzs, qza, qzt, qzv, qzy, cv, qzL, qzK, toA, ofA, FR.pop, abin, intBin, ↓reduceIte, Nat.reduceEqDiff, reduceCtorEq, reduceCtorEq, w1, w2, w3]
  refine xzC (next_ok Gl l (at_ + 1) (2 * far + 1) i hl (by omega) (by omega) (by omega)) (by simp only [qza, ↓reduceIte]) rfl rfl ?_
  simp only [qzB, qzj, qzf, qzd, qze, qzo, qzJ, qzu, qzC, qzc, qzb, qzP, qzg, qzh, qzO, qzk, qzl, qzs, qza, qzt, qzv, qzy, qzD, xzs, xzv, qzS, qzR, xza, qzE, cvs, cv, qzL, qzK, toA, ofA, FR.pop, abin, intBin, VH.set, qzi, VV.cells, ntV, qzW, qzM, qzX, qzV, qzQ, xzp, ↓reduceIte, Option.getD_some, List.length_cons, List.length_nil, List.drop_succ_cons, List.drop_zero, List.take_succ_cons, List.take_zero, List.append_nil, List.nil_append, List.cons_append, List.head?_cons, Nat.reduceAdd, Nat.reduceEqDiff, reduceCtorEq, Nat.reduceLeDiff, Nat.zero_add, and_self, and_true, reduceCtorEq, w4, ne1, ne2] <;> first | rfl | exact ⟨rfl, rfl⟩ | exact qzx rfl

def edgesS (l : List Int) : Nat → Nat → Int → List Edge
  | 0, _, _ => []
  | n + 1, at_, far => ⟨pointS l at_ far, pointS l (at_ + 2) far⟩ :: edgesS l n (at_ + 4) far

def chainS (l : List Int) (far : Int) : Nat → Nat → Pt → List Edge
  | 0, _, _ => []
  | n + 1, at_, p => ⟨p, pointS l at_ far⟩ :: chainS l far n (at_ + 2) (pointS l at_ far)
def lastS (l : List Int) (far : Int) : Nat → Nat → Pt → Pt
  | 0, _, p => p
  | n + 1, at_, p => lastS l far n (at_ + 2) (pointS l at_ far)
def ringS (l : List Int) (n at_ : Nat) (far : Int) : List Edge :=
  chainS l far (n - 1) (at_ + 2) (pointS l at_ far) ++ [⟨lastS l far (n - 1) (at_ + 2) (pointS l at_ far), pointS l at_ far⟩]
end
end Go.VL.Wind
