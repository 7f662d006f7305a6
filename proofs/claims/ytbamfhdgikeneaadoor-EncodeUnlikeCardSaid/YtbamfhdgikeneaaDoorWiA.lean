import Derived.Test.YtbamfhdgikeneaaDoorVlJ
import Derived.Test.YtbamfhdgikeneaaDoorIrA
/- Chapter 22: what the program's functions and the document's come to. -/
namespace Go.VL.Wind
open Go.FR Go.IR Go.VL
noncomputable section
set_option linter.unusedSimpArgs false
set_option linter.unusedVariables false
set_option maxRecDepth 100000
set_option maxHeartbeats 1000000

abbrev w64 (n : Int) : Int := IntKind.i64.wrap n
structure Pt where
  x : Int
  y : Int
deriving DecidableEq
structure Edge where
  a : Pt
  b : Pt
abbrev cPt (p : Pt) : List VV := [.int .i64 p.x, .int .i64 p.y]
abbrev cEdge (e : Edge) : List VV := [.int .i64 e.a.x, .int .i64 e.a.y, .int .i64 e.b.x, .int .i64 e.b.y]
abbrev sEdges (l : List Edge) : VV := .fsl (xzm cEdge l) l.length 4
abbrev E := lookE envL

def crossS (a b p : Pt) : Int := w64 (w64 (w64 (b.x - a.x) * w64 (p.y - a.y)) - w64 (w64 (b.y - a.y) * w64 (p.x - a.x)))
def oneS (e : Edge) (p : Pt) : Int :=
  if e.a.y ≤ p.y ∧ e.b.y > p.y ∧ crossS e.a e.b p > 0 then 1 else if e.b.y ≤ p.y ∧ e.a.y > p.y ∧ crossS e.a e.b p < 0 then -1 else 0
def numS (l : List Edge) (p : Pt) (n : Int) : Int := l.foldl (fun n e => w64 (n + oneS e p)) n
def insS (l : List Edge) (rule : Int) (p : Pt) : Bool := if rule = 0 then (numS l p 0).tmod 2 != 0 else numS l p 0 != 0

theorem sub_ok (Gl : xzv) (a b : Pt) : xzK E Gl f_plane_Sub [.agg (cPt a), .agg (cPt b)] (.agg [.int .i64 (w64 (a.x - b.x)), .int .i64 (w64 (a.y - b.y))]) := by
  refine xzx (xze E_plane_Sub ?_)
  unfold c_plane_Sub r_plane_Sub
  simp only [xzC]
  simp only [qzj, qzn, qzF, qzi, qzf, qzd, qze, qzp, qzJ, qzZ, qzN, qzz, qzK, qzc, qzk, qzE, qzb, qzU, qzg, qzh, qzR, qzW, qzm, qzl, qzs, qza, qzr, qzu, qzI, qzL, qzC, xzk, xzJ, xzL, xzA, qzS, xza, xzn, qzB, cvs, cv, qzG, qzH, toA, ofA, FR.pop, abin, intBin, VN.at, VH.push, VH.set, qzq, h0, VV.cells, ntV, qzQ, qzM, qzV, qzP, qzO, xzy, ↓reduceIte, Option.getD_some, List.getElem?_cons_zero, List.getElem?_cons_succ, List.length_cons, List.length_nil, List.drop_succ_cons, List.drop_zero, List.take_succ_cons, List.take_zero, List.append_nil, List.nil_append, List.cons_append, List.head?_cons, Nat.reduceAdd, Nat.reduceEqDiff, reduceCtorEq, Nat.reduceLeDiff, Nat.add_zero, Nat.zero_add, and_self, reduceCtorEq, cPt]
  exact qzt rfl

end
end Go.VL.Wind

/- Chapter 3: colors as text. -/
namespace Go.VL.Color
open Go.FR Go.IR Go.VL
noncomputable section
set_option linter.unusedSimpArgs false
set_option linter.unusedVariables false
set_option maxRecDepth 100000
set_option maxHeartbeats 1000000
abbrev E := lookE envL
structure Cl where
  r : Nat
  g : Nat
  b : Nat
  a : Nat
deriving DecidableEq
def Cl.In (c : Cl) : Prop := c.r < 256 ∧ c.g < 256 ∧ c.b < 256 ∧ c.a < 256
abbrev cCl (c : Cl) : List VV := [.int .u8 (c.r : Int), .int .u8 (c.g : Int), .int .u8 (c.b : Int), .int .u8 (c.a : Int)]
abbrev digits : List UInt8 := [48, 49, 50, 51, 52, 53, 54, 55, 56, 57, 97, 98, 99, 100, 101, 102]
def dig (k : Nat) : UInt8 := digits.getD k 0
def hx (n : Nat) : List UInt8 := [dig (n / 16), dig (n % 16)]
def showS (c : Cl) : List UInt8 := 35 :: (hx c.r ++ (hx c.g ++ (hx c.b ++ if c.a = 255 then [] else hx c.a)))

theorem same_ok (Gl : xzv) (c d : Cl) : xzK E Gl f_glyphicref_SameColor [.agg (cCl c), .agg (cCl d)] (.bool (decide (c = d))) := by
  refine xzx (xze E_glyphicref_SameColor ?_)
  unfold c_glyphicref_SameColor r_glyphicref_SameColor
  simp only [xzC]
  obtain ⟨c1, c2, c3, c4⟩ := c
  obtain ⟨d1, d2, d3, d4⟩ := d
  have b : ∀ x y : Nat, ((x : Int) == (y : Int)) = decide (x = y) := fun x y => by
    by_cases e : x = y <;> simp [e] <;> omega
  simp only [Cl.mk.injEq]
  by_cases e1 : c1 = d1 <;> by_cases e2 : c2 = d2 <;> by_cases e3 : c3 = d3 <;> by_cases e4 : c4 = d4
  all_goals
    simp only [qzj, qzn, qzF, qzi, qzf, qzd, qze, xzo, qzp, qzJ, qzZ, qzK, qzc, qzk, qzE, qzb, qzg, qzh, qzR, qzm, qzl, qzs, qza, qzr, qzu, qzx, xzl, qzI, qzL, qzC, xzk, xzJ, qzB, cv, qzG, qzH, toA, ofA, FR.pop, abin, intBin, VN.at, VH.push, qzq, h0, VV.cells, ntV, qzQ, qzM, qzV, qzP, qzO, ↓reduceIte, Option.getD_some, List.getElem?_cons_zero, List.getElem?_cons_succ, Nat.reduceAdd, Nat.reduceEqDiff, reduceCtorEq, Nat.add_zero, Nat.zero_add, and_self, and_true, and_false, Bool.false_eq_true, beq_self_eq_true, beq_true, decide_true, decide_false, reduceCtorEq, b, e1, e2, e3, e4]
    exact qzt rfl

end
end Go.VL.Color

/- What the package's error variables hold, laid. -/
namespace Go.VL
open Go.FR
noncomputable section
set_option linter.unusedVariables false
set_option linter.unusedSimpArgs false

def globsFrom (tp : Nat) : Nat → List Er → xzv
  | _, [] => []
  | n, e :: l => (n, [.iface tp (.gptr (n + 1) 0)]) :: (n + 1, [.str e.text]) :: globsFrom tp (n + 2) l
abbrev globsOf (tp : Nat) (l : List Er) : xzv := globsFrom tp 0 l

theorem errTr_low (tp : Nat) : ∀ (l : List Er) (n : Nat) (T : Tr ABlk) (k : Nat), k < n → (errTr tp n l T).get k = T.get k
  | [], _, _, _, _ => rfl
  | e :: l, n, T, k, hk => by
    simp only [errTr]
    rw [errTr_low tp l (n + 2) _ k (by omega), Tr.get_set, if_neg (by omega), Tr.get_set, if_neg (by omega)]

theorem glob_tr (tp : Nat) : ∀ (l : List Er) (n : Nat) (T : Tr ABlk) (i : Nat) (cs : List VV), qzv (globsFrom tp n l) i = some cs →
    n ≤ i ∧ i < n + 2 * l.length ∧ ∃ as, (errTr tp n l T).get i = some (.cells as false false) ∧ ∀ G, VRs G noP cs as
  | [], n, T, i, cs, h => by simp [globsFrom, qzv] at h
  | e :: l, n, T, i, cs, h => by
    simp only [globsFrom, qzv] at h
    simp only [errTr, List.length_cons]
    by_cases e1 : n = i
    · rw [if_pos e1] at h
      obtain rfl := Option.some.inj h
      refine ⟨by omega, by omega, [.iface tp (.ptr (some (n + 1, 0)))], ?_, fun G => VRs.cons ⟨_, rfl, rfl⟩ VRs.nil⟩
      rw [errTr_low tp l (n + 2) _ i (by omega), Tr.get_set, if_neg (by omega), Tr.get_set, if_pos e1.symm]
    · rw [if_neg e1] at h
      by_cases e2 : n + 1 = i
      · rw [if_pos e2] at h
        obtain rfl := Option.some.inj h
        refine ⟨by omega, by omega, [.str e.text], ?_, fun G => VRs.cons rfl VRs.nil⟩
        rw [errTr_low tp l (n + 2) _ i (by omega), Tr.get_set, if_pos e2.symm]
      · rw [if_neg e2] at h
        obtain ⟨h1, h2, h3⟩ := glob_tr tp l (n + 2) ((T.set n (.cells [.iface tp (.ptr (some (n + 1, 0)))] false false)).set (n + 1) (.cells [.str e.text] false false)) i cs h
        exact ⟨by omega, by omega, h3⟩

theorem glob_ok (tp : Nat) (l : List Er) (i : Nat) (cs : List VV) (h : qzv (globsOf tp l) i = some cs) : ∃ as, GG (errHeap tp l) i = some (.cells as false false) ∧ VRs (GG (errHeap tp l)) noP cs as := by
  obtain ⟨h1, h2, as, h3, h4⟩ := glob_tr tp l 0 .nil i cs h
  refine ⟨as, ?_, h4 _⟩
  unfold GG
  rw [if_pos (by simp only [errHeap]; omega)]
  exact h3
end
end Go.VL

/- Errors: what the statements' own eyes see of them. -/
namespace Go.VL.Er
open Go.FR Go.IR Go.VL
noncomputable section
set_option linter.unusedSimpArgs false
set_option linter.unusedVariables false
set_option maxRecDepth 100000
set_option maxHeartbeats 1000000
abbrev E := lookE envL

/-- The k-th of api's errors; one with a place. -/
abbrev erP (k : Nat) : VV := .iface t_p_errors_errorString (.gptr (2 * k + 1) 0)
abbrev atV (k : Nat) (pos : Int) : VV := .iface t_p_api_At (.fptr [.int .i64 pos, erP k] 0)
/-- What the package's variables hold. -/
def GlHas (Gl : xzv) (k : Nat) : Prop := qzv Gl (2 * k) = some [erP k] ∧ (qzv Gl (2 * k + 1)).isSome = true
def GlAll (Gl : xzv) : Prop := ∀ k, k < 13 → GlHas Gl k

structure Fault where
  code : Int
  placed : Bool
  pos : Int
deriving DecidableEq
abbrev cFault (f : Fault) : List VV := [.int .i64 f.code, .bool f.placed, .int .i64 f.pos]
def bareF (n : Int) : Fault := ⟨n, false, 0⟩
def placedF (n pos : Int) : Fault := if n = 0 then bareF 0 else ⟨n, true, pos⟩

end
end Go.VL.Er

/- Errors as plain data. -/
namespace Go.VL.Er
open Go.FR Go.IR Go.VL
noncomputable section
set_option linter.unusedSimpArgs false
set_option linter.unusedVariables false
set_option maxRecDepth 100000
set_option maxHeartbeats 1000000

/-- An error, and what it is. -/
inductive ErrV where
  | none
  | bare (k : Nat)
  | placed (k : Nat) (pos : Int)
def ErrV.v : ErrV → VV
  | .none => .nilI
  | .bare k => erP k
  | .placed k pos => atV k pos
def ErrV.ok : ErrV → Prop
  | .none => True
  | .bare k => k < 13
  | .placed k _ => k < 13
def ErrV.f : ErrV → Fault
  | .none => bareF 0
  | .bare k => bareF (101 + (k : Int))
  | .placed k pos => placedF (101 + (k : Int)) pos
end
end Go.VL.Er

/- Chapters 5 and 6 in plain numbers: icons, what is amiss with them. -/
namespace Go.VL.Ic
open Go.FR Go.IR Go.VL Go.VL.Er Go.VL.Color Go.VL.Wind
noncomputable section
set_option linter.unusedVariables false
set_option linter.unusedSimpArgs false

structure Seg where
  kind : Int
  p0 : Pt
  p1 : Pt
  p2 : Pt
deriving DecidableEq
structure Path where
  start : Pt
  segs : List Seg
  closed : Bool
deriving DecidableEq
structure Paint where
  kind : Int
  a : Int
  b : Int
  p : Pt
  q : Pt
deriving DecidableEq
structure Cmd where
  kind : Int
  rule : Int
  width : Int
  paint : Paint
  paths : List Path
deriving DecidableEq
structure Icon where
  w : Int
  h : Int
  scale : Int
  colors : List Cl
  cmds : List Cmd
deriving DecidableEq
abbrev cSeg (s : Seg) : List VV := [.int .i64 s.kind, .int .i64 s.p0.x, .int .i64 s.p0.y, .int .i64 s.p1.x, .int .i64 s.p1.y, .int .i64 s.p2.x, .int .i64 s.p2.y]
abbrev cPath (p : Path) : List VV := [.int .i64 p.start.x, .int .i64 p.start.y, .fsl (xzm cSeg p.segs) p.segs.length 7, .bool p.closed]
abbrev cPaint (p : Paint) : List VV := [.int .i64 p.kind, .int .i64 p.a, .int .i64 p.b, .int .i64 p.p.x, .int .i64 p.p.y, .int .i64 p.q.x, .int .i64 p.q.y]
abbrev cCmd (c : Cmd) : List VV := [.int .i64 c.kind, .int .i64 c.rule, .int .i64 c.width, .int .i64 c.paint.kind, .int .i64 c.paint.a, .int .i64 c.paint.b, .int .i64 c.paint.p.x, .int .i64 c.paint.p.y, .int .i64 c.paint.q.x, .int .i64 c.paint.q.y, .fsl (xzm cPath c.paths) c.paths.length 4]
abbrev cIcon (i : Icon) : List VV := [.int .i64 i.w, .int .i64 i.h, .int .i64 i.scale, .fsl (xzm cCl i.colors) i.colors.length 4, .fsl (xzm cCmd i.cmds) i.cmds.length 11]
theorem cSeg_len (s : Seg) : (cSeg s).length = 7 := rfl
theorem cPath_len (s : Path) : (cPath s).length = 4 := rfl
theorem cCmd_len (s : Cmd) : (cCmd s).length = 11 := rfl
theorem cCl_len (c : Cl) : (cCl c).length = 4 := rfl

def inS (n lo hi : Int) : Bool := if n ≥ lo then decide (n ≤ hi) else false
def farS (p : Pt) (m : Int) : Bool := !(inS p.x (-m) m) || !(inS p.y (-m) m)
def sizedS (i : Icon) : Bool := inS i.w 1 4096 && (inS i.h 1 4096 && inS i.scale 0 6)
def greatS (i : Icon) : Int := if sizedS i then 4 * max i.w i.h * 2 ^ i.scale.toNat else 0
/-- What is amiss: the number of one of api's errors. -/
def headS (c : Cmd) (m : Int) : Option Nat :=
  if c.kind = 1 ∧ inS c.rule 0 1 = true ∧ c.width = 0 then none
  else if c.kind = 2 ∧ c.rule = 0 ∧ inS c.width 1 m = true then none
  else some 4
def zeroP (p : Pt) : Prop := p.x = 0 ∧ p.y = 0
instance (p : Pt) : Decidable (zeroP p) := by unfold zeroP; infer_instance
def sameP (p q : Pt) : Prop := p.x = q.x ∧ p.y = q.y
instance (p q : Pt) : Decidable (sameP p q) := by unfold sameP; infer_instance
def paintS (p : Paint) (n m : Int) : Option Nat :=
  if inS p.kind 0 2 = false ∨ inS p.a 0 (n - 1) = false ∨ (p.kind ≠ 0 ∧ inS p.b 0 (n - 1) = false) then some 4
  else if p.kind = 0 then (if p.b ≠ 0 ∨ ¬ zeroP p.p ∨ ¬ zeroP p.q then some 9 else none)
  else if farS p.p m = true then some 4
  else if p.kind = 1 then (if farS p.q m = true ∨ sameP p.p p.q then some 4 else none)
  else if inS p.q.x 1 m = false then some 4
  else if p.q.y ≠ 0 then some 9
  else none
def segPts (s : Seg) : List Pt := [s.p0, s.p1, s.p2]
def segS (s : Seg) (m : Int) : Option Nat :=
  if inS s.kind 1 3 = false then some 4
  else if ((segPts s).take s.kind.toNat).any (farS · m) = true then some 4
  else if ((segPts s).drop s.kind.toNat).all (fun p => decide (zeroP p)) = false then some 9
  else none
def firstS {α : Type} (f : α → Option Nat) : List α → Option Nat
  | [] => none
  | x :: l => match f x with
    | some e => some e
    | none => firstS f l
def pathS (p : Path) (fill : Bool) (m : Int) : Option Nat :=
  if (fill && p.closed) = true then some 9
  else if p.segs.length = 0 then some 4
  else if 400 < p.segs.length then some 5
  else if farS p.start m = true then some 4
  else firstS (segS · m) p.segs
def cmdS (c : Cmd) (n m : Int) : Option Nat :=
  match headS c m with
  | some e => some e
  | none => match paintS c.paint n m with
    | some e => some e
    | none => if c.paths.length = 0 then some 4 else if 200 < c.paths.length then some 5 else firstS (fun p => pathS p (decide (c.kind = 1)) m) c.paths
def sumS' {α : Type} (f : α → Int) : List α → Int
  | [] => 0
  | x :: l => f x + sumS' f l
def pointsS (i : Icon) : Int := sumS' (fun c => sumS' (fun p => 1 + sumS' (fun s => s.kind) p.segs) c.paths) i.cmds
/-- Colors in the order in which they come first: the next one, behind these. -/
def nextUse (next : Int) : List Int → Option Int
  | [] => some next
  | k :: l => if k > next then none else nextUse (if k = next then next + 1 else next) l
def usesOf (c : Cmd) : List Int := if c.paint.kind = 0 then [c.paint.a] else [c.paint.a, c.paint.b]
def useAll : Int → List Cmd → Option Int
  | n, [] => some n
  | n, c :: l => match nextUse n (usesOf c) with
    | none => none
    | some m => useAll m l
def onceS : List Cl → List Cl → Bool
  | _, [] => true
  | seen, c :: l => if c ∈ seen then false else onceS (seen ++ [c]) l
def usedS (i : Icon) : Bool := match useAll 0 i.cmds with
  | none => false
  | some n => if onceS [] i.colors then decide (n = i.colors.length) else false
def checkS (i : Icon) : Option Nat :=
  if sizedS i = false then some 4
  else if 256 < i.colors.length ∨ 200 < i.cmds.length then some 5
  else match firstS (fun c => cmdS c i.colors.length (greatS i)) i.cmds with
    | some e => some e
    | none => if pointsS i > 4000 then some 5 else if usedS i = false then some 9 else none
/-- The errors, as the program's variables hold them. -/
abbrev erG (n : Nat) : VV := .iface t_p_errors_errorString (.gptr (n + 1) 0)
def eG : Nat → Nat
  | 4 => g_ErrRange
  | 5 => g_ErrLimit
  | _ => g_ErrCanon
abbrev errK (k : Nat) : VV := .iface t_p_errors_errorString (.gptr (eG k + 1) 0)
def errV : Option Nat → VV
  | none => .nilI
  | some k => errK k
structure IcG (Gl : xzv) : Prop where
  r : qzv Gl g_ErrRange = some [errK 4]
  l : qzv Gl g_ErrLimit = some [errK 5]
  c : qzv Gl g_ErrCanon = some [errK 9]
end
end Go.VL.Ic

/- Closing through and through, piece by piece. -/
namespace Go.VL
open Go.FR
noncomputable section
set_option linter.unusedVariables false
set_option linter.unusedSimpArgs false

theorem mapO_mono {f f' : VV → Option VV} (hf : ∀ v w, f v = some w → f' v = some w) : ∀ {cs ds : List VV}, mapO f cs = some ds → mapO f' cs = some ds
  | [], ds, h => h
  | c :: cs, ds, h => by
    simp only [mapO] at h ⊢
    split at h <;> try (cases h; done)
    rename_i x hx
    split at h <;> try (cases h; done)
    rename_i z hz
    simp only [hf _ _ hx, mapO_mono hf hz]; exact h
theorem shutS_mono {f f' : VV → Option VV} (hf : ∀ v w, f v = some w → f' v = some w) {cs ds : List VV} (h : shutS f cs = some ds) : shutS f' cs = some ds := by
  unfold shutS at h ⊢
  split at h
  · rename_i hc; rw [if_pos hc]; exact h
  · rename_i hc; rw [if_neg hc]; exact mapO_mono hf h
/-- One layer. -/
def stepD (F : VV → Option VV) (g : Nat → Option VB) (v : VV) : Option VV := if closedB v = true then some v else match v with
    | .ptr i o => match g i with
      | some (.cells cs _) => match shutS F cs with
        | some ds => some (.fptr ds o)
        | none => none
      | _ => none
    | .slice i o n e c => match g i with
      | some (.cells cs _) => if o + n * e ≤ cs.length ∧ capOK e n c then (match shutS F ((cs.drop o).take (n * e)) with
        | some ds => some (.fsl ds n e)
        | none => none) else none
      | _ => none
    | .map i => match g i with
      | some (.map ks vs _) => match shutS F ks, shutS F vs with
        | some a, some b => some (.fmap a b)
        | _, _ => none
      | _ => none
    | .iface t x => match F x with
      | some y => some (.iface t y)
      | none => none
    | .agg cs => match mapO F cs with
      | some ds => some (.agg ds)
      | none => none
    | .tuple cs => match mapO F cs with
      | some ds => some (.tuple ds)
      | none => none
    | _ => none
theorem shutD_step {g : Nat → Option VB} (k : Nat) (v : VV) : shutD (k + 1) g v = stepD (shutD k g) g v := by
  cases v <;> rfl
theorem stepD_mono {F F' : VV → Option VV} (ih : ∀ v w, F v = some w → F' v = some w) {g : Nat → Option VB} {v w : VV} (h : stepD F g v = some w) : stepD F' g v = some w := by
  have ihS : ∀ cs ds, shutS F cs = some ds → shutS F' cs = some ds := fun cs ds q => shutS_mono ih q
  by_cases hc : closedB v = true
  · simp only [stepD, hc, if_true] at h ⊢; exact h
  have e : ∀ (G : VV → Option VV) (x y : Option VV), (if closedB v = true then x else y) = y := fun _ x y => if_neg hc
  cases v
  case ptr i o =>
    unfold stepD at h ⊢
    rw [if_neg hc] at h ⊢
    simp only at h ⊢
    split at h <;> try (cases h; done)
    rename_i cs ro hg
    split at h <;> try (cases h; done)
    rename_i ds hd
    simp only [hg, ihS _ _ hd]; exact h
  case slice i o n e c =>
    unfold stepD at h ⊢
    rw [if_neg hc] at h ⊢
    simp only at h ⊢
    split at h <;> try (cases h; done)
    rename_i cs ro hg
    split at h <;> try (cases h; done)
    rename_i hr
    split at h <;> try (cases h; done)
    rename_i ds hd
    simp only [hg, if_pos hr, ihS _ _ hd]; exact h
  case map i =>
    unfold stepD at h ⊢
    rw [if_neg hc] at h ⊢
    simp only at h ⊢
    split at h <;> try (cases h; done)
    rename_i ks vs ro hg
    split at h <;> try (cases h; done)
    rename_i x y hx hy
    simp only [hg, ihS _ _ hx, ihS _ _ hy]; exact h
  case iface t x =>
    unfold stepD at h ⊢
    rw [if_neg hc] at h ⊢
    simp only at h ⊢
    split at h <;> try (cases h; done)
    rename_i y hy
    simp only [ih _ _ hy]; exact h
  case agg cs =>
    unfold stepD at h ⊢
    rw [if_neg hc] at h ⊢
    simp only at h ⊢
    split at h <;> try (cases h; done)
    rename_i y hy
    simp only [mapO_mono ih hy]; exact h
  case tuple cs =>
    unfold stepD at h ⊢
    rw [if_neg hc] at h ⊢
    simp only at h ⊢
    split at h <;> try (cases h; done)
    rename_i y hy
    simp only [mapO_mono ih hy]; exact h
  all_goals
    unfold stepD at h
    rw [if_neg hc] at h
    cases h
theorem shutD_succ {g : Nat → Option VB} : ∀ (k : Nat) (v w : VV), shutD k g v = some w → shutD (k + 1) g v = some w
  | 0, v, w, h => by
    simp only [shutD] at h
    split at h <;> try (cases h; done)
    rename_i hc
    simp only [shutD, hc, if_true]; exact h
  | k + 1, v, w, h => by
    rw [shutD_step] at h ⊢
    exact stepD_mono (shutD_succ k) h
theorem shutD_le {g : Nat → Option VB} {k n : Nat} (hk : k ≤ n) {v w : VV} (h : shutD k g v = some w) : shutD n g v = some w := by
  induction n with
  | zero => obtain rfl : k = 0 := by omega
            exact h
  | succ n ih =>
    by_cases e : k = n + 1
    · rw [← e]; exact h
    · exact shutD_succ _ _ _ (ih (by omega))

/-- A value, closed; a row of them. -/
def yzb (g : Nat → Option VB) (v w : VV) : Prop := ∃ k v1, shutD k g v = some v1 ∧ subV v1 w
def xzR (g : Nat → Option VB) (cs ws : List VV) : Prop := ∃ k ds, mapO (shutD k g) cs = some ds ∧ subL ds ws
theorem shutD_closed {g : Nat → Option VB} {v : VV} (k : Nat) (hc : closedB v = true) : shutD k g v = some v := by
  cases k <;> simp only [shutD, hc, if_true]
theorem mapO_closed {g : Nat → Option VB} (k : Nat) : ∀ {cs : List VV}, closedL cs = true → mapO (shutD k g) cs = some cs
  | [], _ => rfl
  | c :: cs, h => by
    simp only [closedL, Bool.and_eq_true] at h
    simp only [mapO, shutD_closed k h.1, mapO_closed k h.2]
variable {g : Nat → Option VB}
theorem yzb.closed {v : VV} (hc : closedB v = true) : yzb g v v := ⟨0, v, shutD_closed 0 hc, subV_refl v⟩
theorem yzb.closed_sub {v w : VV} (hc : closedB v = true) (h : subV v w) : yzb g v w := ⟨0, v, shutD_closed 0 hc, h⟩
theorem xzR.closed {cs : List VV} (hc : closedL cs = true) : xzR g cs cs := ⟨0, cs, mapO_closed 0 hc, subL_refl cs⟩
theorem xzR.nil : xzR g [] [] := ⟨0, [], rfl, rfl⟩
theorem xzR.cons {v w : VV} {cs ws : List VV} (h : yzb g v w) (hs : xzR g cs ws) : xzR g (v :: cs) (w :: ws) := by
  obtain ⟨k, v1, h1, h2⟩ := h
  obtain ⟨n, ds, h3, h4⟩ := hs
  refine ⟨max k n, v1 :: ds, ?_, ⟨_, _, rfl, h2, h4⟩⟩
  simp only [mapO, shutD_le (Nat.le_max_left k n) h1, mapO_mono (fun _ _ => shutD_le (Nat.le_max_right k n)) h3]
theorem xzR.append : ∀ {a b c d : List VV}, xzR g a b → xzR g c d → xzR g (a ++ c) (b ++ d)
  | [], b, c, d, ⟨k, ds, h1, h2⟩, h => by
    simp only [mapO, Option.some.injEq] at h1
    subst h1
    have : b = [] := h2
    subst this
    exact h
  | v :: a, b, c, d, ⟨k, ds, h1, h2⟩, h => by
    simp only [mapO] at h1
    split at h1 <;> try (cases h1; done)
    rename_i x hx
    split at h1 <;> try (cases h1; done)
    rename_i z hz
    obtain rfl := Option.some.inj h1
    obtain ⟨y, ys, rfl, k1, k2⟩ := h2
    exact xzR.cons ⟨k, x, hx, k1⟩ (xzR.append ⟨k, z, hz, k2⟩ h)
theorem xzR.flat {α : Type} {f f' : α → List VV} : ∀ {l : List α}, (∀ a ∈ l, xzR g (f a) (f' a)) → xzR g (xzm f l) (xzm f' l)
  | [], _ => xzR.nil
  | a :: l, h => by
    rw [flatL_cons, flatL_cons]
    exact xzR.append (h a (.head _)) (xzR.flat fun b hb => h b (.tail _ hb))
theorem yzb.agg {cs ws : List VV} (h : xzR g cs ws) : yzb g (.agg cs) (.agg ws) := by
  obtain ⟨k, ds, h1, h2⟩ := h
  refine ⟨k + 1, .agg ds, ?_, ⟨_, rfl, h2⟩⟩
  rw [shutD_step]
  unfold stepD
  split
  · rename_i hc
    have : closedL cs = true := hc
    rw [mapO_closed k this] at h1
    rw [Option.some.inj h1]
  · simp only [h1]
theorem yzb.tuple {cs ws : List VV} (h : xzR g cs ws) : yzb g (.tuple cs) (.tuple ws) := by
  obtain ⟨k, ds, h1, h2⟩ := h
  refine ⟨k + 1, .tuple ds, ?_, ⟨_, rfl, h2⟩⟩
  rw [shutD_step]
  unfold stepD
  split
  · rename_i hc
    have : closedL cs = true := hc
    rw [mapO_closed k this] at h1
    rw [Option.some.inj h1]
  · simp only [h1]
theorem xzR.shutS {cs ws : List VV} (h : xzR g cs ws) : ∃ k ds, shutS (shutD k g) cs = some ds ∧ subL ds ws := by
  obtain ⟨k, ds, h1, h2⟩ := h
  by_cases hc : closedL cs = true
  · rw [mapO_closed k hc] at h1
    refine ⟨k, ds, ?_, h2⟩
    unfold Go.VL.shutS; rw [if_pos hc]; exact h1
  · refine ⟨k, ds, ?_, h2⟩
    unfold Go.VL.shutS; rw [if_neg hc]; exact h1
theorem yzb.slice {i o n e : Nat} {c : ACap} {cs ws : List VV} {ro : Bool} (hi : g i = some (.cells cs ro)) (hr : o + n * e ≤ cs.length) (hc : capOK e n c) (h : xzR g ((cs.drop o).take (n * e)) ws) : yzb g (.slice i o n e c) (.fsl ws n e) := by
  obtain ⟨k, ds, h1, h2⟩ := h.shutS
  exact ⟨k + 1, .fsl ds n e, by rw [shutD_step]; unfold stepD; rw [if_neg (by simp [closedB])]; simp only [hi, hr, hc, and_self, if_true, h1], ⟨_, rfl, h2⟩⟩
/-- A slice of a whole block. -/
theorem yzb.whole {i n e : Nat} {c : ACap} {cs ws : List VV} {ro : Bool} (hi : g i = some (.cells cs ro)) (hn : cs.length = n * e) (hc : capOK e n c) (h : xzR g cs ws) : yzb g (.slice i 0 n e c) (.fsl ws n e) :=
  yzb.slice hi (by omega) hc (by rw [List.drop_zero, ← hn, List.take_length]; exact h)
theorem yzb.ptr {i o : Nat} {cs ws : List VV} {ro : Bool} (hi : g i = some (.cells cs ro)) (h : xzR g cs ws) : yzb g (.ptr i o) (.fptr ws o) := by
  obtain ⟨k, ds, h1, h2⟩ := h.shutS
  exact ⟨k + 1, .fptr ds o, by rw [shutD_step]; unfold stepD; rw [if_neg (by simp [closedB])]; simp only [hi, h1], ⟨_, rfl, h2⟩⟩
/-- A list that was made. -/
theorem yzb.acc {α : Type} {base : Nat} {h : VH} {j : Nat} {f f' : α → List VV} {l : List α} {esz : Nat} {v : VV} (a : xzS base h j f l esz v) (hg : base ≤ j → ∀ x, h.get j = some x → g j = some x) (hf : ∀ a, (f a).length = esz) (hs : ∀ a ∈ l, xzR g (f a) (f' a)) : yzb g v (.fsl (xzm f' l) l.length esz) := by
  have hl := flatL_length hf l
  have hx := xzR.flat hs
  rcases a with ⟨rfl, rfl⟩ | ⟨rfl, a2, a3, a4⟩
  · exact yzb.closed_sub rfl (.inr ⟨esz, rfl⟩)
  · have := hg a3 _ (by rw [qzq, a2]; rfl)
    exact yzb.whole this (by rw [hl]) rfl hx
theorem call_deepL_refs {E : Env} {Gl : xzv} {f : Nat} {args vs : List VV} {v : VV} {h : VH} {K : VV → VH → Option (List Nat × Bool) → Prop} (hp : xzK E Gl f args v) (hs : xzR h.get vs args) (hk : K v h.clo none) : wpCall E Gl f vs h K := by
  obtain ⟨n, ds, h1, h2⟩ := hs
  exact call_deep_refs n hp h1 h2 hk
end
end Go.VL

/- Chapter 6: runs. -/
namespace Go.VL.En
open Go.FR Go.IR Go.VL Go.VL.Color Go.VL.Wind Go.VL.Ic
noncomputable section
set_option linter.unusedSimpArgs false
set_option linter.unusedVariables false
set_option maxRecDepth 100000
set_option maxHeartbeats 1000000

/-- Kinds in a row: which, how many. -/
abbrev Run := Int × Nat
abbrev cR (r : Run) : List VV := [.int .i64 r.1, .int .i64 (r.2 : Int)]
theorem cR_len (r : Run) : (cR r).length = 2 := rfl
def pushR (A : List Run) (k : Int) : List Run := match A.reverse with
  | [] => [(k, 1)]
  | (k', n) :: B => if k' = k then B.reverse ++ [(k', n + 1)] else A ++ [(k, 1)]
theorem pushR_nil (k : Int) : pushR [] k = [(k, 1)] := rfl
theorem pushR_snoc (A : List Run) (k' : Int) (n : Nat) (k : Int) : pushR (A ++ [(k', n)]) k = if k' = k then A ++ [(k', n + 1)] else A ++ [(k', n)] ++ [(k, 1)] := by
  unfold pushR
  rw [List.reverse_append]
  simp only [List.reverse_cons, List.reverse_nil, List.nil_append, List.cons_append, List.reverse_reverse]
def runsS (l : List Seg) : List Run := l.foldl (fun A s => pushR A s.kind) []
theorem pushR_len (A : List Run) (k : Int) : (pushR A k).length ≤ A.length + 1 := by
  rcases List.eq_nil_or_concat A with rfl | ⟨B, ⟨k', n⟩, rfl⟩
  · simp [pushR_nil]
  · rw [List.concat_eq_append, pushR_snoc]; split <;> simp
/-- How many, all together. -/
def countR (A : List Run) : Nat := (A.map (·.2)).sum
theorem countR_snoc (A : List Run) (r : Run) : countR (A ++ [r]) = countR A + r.2 := by unfold countR; simp
theorem flatR_at (A : List Run) (r : Run) : (xzm cR (A ++ [r]))[A.length * 2]? = some (.int .i64 r.1) ∧ (xzm cR (A ++ [r]))[A.length * 2 + 1]? = some (.int .i64 (r.2 : Int)) := by
  have hl := flatL_length cR_len A
  rw [flatL_append]
  refine ⟨?_, ?_⟩
  · rw [List.getElem?_append_right (by omega), hl, Nat.sub_self]; rfl
  · rw [List.getElem?_append_right (by omega), hl, Nat.add_sub_cancel_left]; rfl
theorem flatR_set (A : List Run) (r : Run) (n : Nat) : (xzm cR (A ++ [r])).take (A.length * 2 + 1) ++ ([.int .i64 (n : Int)] ++ (xzm cR (A ++ [r])).drop (A.length * 2 + 1 + 1)) = xzm cR (A ++ [(r.1, n)]) := by
  have hl := flatL_length cR_len A
  rw [flatL_append, flatL_append, List.take_append, List.drop_append, hl]
  rw [List.take_of_length_le (by omega), List.drop_of_length_le (by omega)]
  rw [show A.length * 2 + 1 - A.length * 2 = 1 by omega, show A.length * 2 + 1 + 1 - A.length * 2 = 2 by omega]
  simp [xzm, cR]
theorem runs_loop {Gl : xzv} (l : List Seg) (hl : l.length < 1000000) (R : List Run) (nx : Nat) (K : AEx → VF → VH → Prop)
    (hK : ∀ T h j v, qzv T 3 = some v → xzS nx h j cR R 2 v → (R = [] → v = .nilS) → K (.exit 0) T h) :
    ∀ (d i : Nat) (A : List Run) (T : VF) (h : VH) (j : Nat) (v : VV), d + i = l.length → R = (l.drop i).foldl (fun A s => pushR A s.kind) A → A.length ≤ i → countR A = i → (A = [] → v = .nilS) → qzv T 3 = some v → qzv T 7 = some (.fsl (xzm cSeg l) l.length 7) → qzv T 8 = some (.int .i64 l.length) → qzv T 9 = some (.int .i64 i) → xzS nx h j cR A 2 v → nx ≤ h.next →
    wp Go.VL.Er.E Gl (.loop c_encode_Runs_l0) T h K := by
  intro d
  induction d with
  | zero =>
    intro i A T h j v hd hR hA hc hv0 t3 t7 t8 t9 q hn
    obtain rfl : i = l.length := by omega
    rw [List.drop_length] at hR
    refine xzr c_encode_Runs_l0.eq_1 ?_
    have c : ¬ ((l.length : Int) < l.length) := by omega
    simp only [qzA, qzj, qzn, qzD, qzX, qzw, qzo, qzi, xzh, qzY, qzf, qzd, qze, qzp, qzc, qzb, qzg, qzh, qzm, qzl, qzs, qza, qzr, qzu, qzG, qzH, toA, ofA, FR.pop, abin, intBin, ↓reduceIte, Nat.reduceEqDiff, true_and, Bool.false_eq_true, decide_false, forall_const, false_implies, t8, t9, c]
    exact hK _ _ j v (by simp only [qza, ↓reduceIte, Nat.reduceEqDiff, t3]) (by rw [hR]; exact q) (by rw [hR]; exact hv0)
  | succ d ih =>
    intro i A T h j v hd hR hA hc hv0 t3 t7 t8 t9 q hn
    refine xzr c_encode_Runs_l0.eq_1 ?_
    have hlt : i < l.length := by omega
    have c : (i : Int) < l.length := by omega
    obtain ⟨e, he⟩ : ∃ e, l[i]? = some e := ⟨l[i], List.getElem?_eq_getElem hlt⟩
    have p1 := xzW cSeg_len he
    have p2 := xzX cSeg_len he
    have hw : IntKind.i64.wrap ((i : Int) + 1) = ((i + 1 : Nat) : Int) := by rw [xzi (by omega) (by omega)]; rfl
    rw [drop_at he, List.foldl_cons] at hR
    have n0 : natV (VV.int .i64 0) = some 0 := rfl
    have n1 : natV (VV.int .i64 1) = some 1 := rfl
    rcases List.eq_nil_or_concat A with rfl | ⟨B, ⟨k', n⟩, rfl⟩
    · rw [pushR_nil] at hR
      have hv := hv0 rfl
      subst hv
      have z0 : ¬ ((0 : Nat) : Int) > 0 := by omega
      simp only [qzA, qzj, xzD, qzn, qzD, qzX, qzw, qzo, qzi, xzh, qzY, qzf, qzd, qze, qzp, qzJ, qzZ, qzN, qzz, xzE, xzj, xzc, wpXG_false, xzw, qzc, qzk, qzE, qzb, qzU, qzg, qzh, qzR, xzs, xzt, qzW, qzm, qzl, qzs, qza, qzr, qzu, qzx, xzl, qzI, xzp, xzd, qzL, qzC, xzk, xzL, xzA, qzS, xza, xzn, qzB, cvs, cv, qzG, qzH, toA, ofA, FR.pop, abin, intBin, VN.at, VH.push, VH.set, qzq, VV.cells, ntV, qzO, countN, xzy, xzu, ↓reduceIte, Option.getD_some, List.getElem?_cons_zero, List.length_cons, List.length_nil, List.drop_succ_cons, List.drop_zero, List.take_succ_cons, List.take_zero, List.append_nil, List.nil_append, List.cons_append, List.head?_cons, Nat.reduceAdd, Nat.reduceDiv, Nat.reduceEqDiff, Nat.reduceLeDiff, Int.reduceGT, Nat.add_zero, Nat.zero_add, and_self, and_true, true_and, Bool.false_eq_true, beq_true, decide_true, decide_false, forall_const, false_implies, Bool.true_eq_false, cSeg, t3, t7, t8, t9, c, hlt, p1, p2]
      refine wpW_acc (base := nx) (j := j) (f := cR) (l := []) (a := (e.kind, 1)) (.inl ⟨rfl, rfl⟩) (by simp only [qza, srcV, winV, qzq, ↓reduceIte, Option.getD_some, List.length_cons, List.length_nil, List.drop_zero, List.take_succ_cons, List.take_zero, Nat.reduceAdd, Nat.reduceMul, reduceCtorEq, Nat.reduceLeDiff, Nat.zero_add, true_or, reduceCtorEq, true_or, cR] <;> first | rfl | exact ⟨rfl, rfl⟩ | exact qzt rfl) cR_len (by omega) (by show nx ≤ h.next + 1 + 1; omega) (by simp) (by simp) ?_
      intro h' g1 g2 g3
      simp only [qzj, qzi, xzg, xzq, qzf, qzd, qze, qzp, qzz, qzc, qzb, qzg, qzh, qzm, qzl, qzs, qza, qzr, qzu, qzx, cv, qzG, qzH, toA, ofA, FR.pop, abin, intBin, xzy, ↓reduceIte, List.length_nil, Nat.reduceEqDiff, Nat.zero_add, t9, hw]
      refine ih (i + 1) [(e.kind, 1)] _ h' _ _ (by omega) hR (by simp) (by rw [← hc]; rfl) (fun e => nomatch e) ?_ ?_ ?_ ?_ g3 ?_
      · simp only [qza, ↓reduceIte, List.length_nil, Nat.reduceEqDiff, Nat.zero_add]
      · simp only [qza, ↓reduceIte, Nat.reduceEqDiff, t7]
      · simp only [qza, ↓reduceIte, Nat.reduceEqDiff, t8]
      · simp only [qza, ↓reduceIte]
      · simp only at g1; omega
    · rw [List.concat_eq_append] at hR hA hc q hv0
      rw [pushR_snoc] at hR
      rw [countR_snoc] at hc
      obtain ⟨rfl, q2, q3, q4⟩ := q.some (by simp)
      have len : (B ++ [(k', n)]).length = B.length + 1 := by simp
      rw [len] at t3 hA
      have f1 := (flatR_at B (k', n)).1
      have f2 := (flatR_at B (k', n)).2
      have f3 := flatL_length cR_len (B ++ [(k', n)])
      rw [len] at f3
      have z0 : ((B.length + 1 : Nat) : Int) > 0 := by omega
      have wl : IntKind.i64.wrap (((B.length + 1 : Nat) : Int) - 1) = (B.length : Int) := by rw [xzi (by omega) (by omega)]; omega
      have zl := xzu .i64 B.length
      have e1 : ¬ h.next = j := by omega
      have e2 : ¬ j = h.next := by omega
      have b1 : B.length < B.length + 1 := by omega
      have b2 : (B.length : Int) < ((B.length + 1 : Nat) : Int) := by omega
      have f4 : B.length * 2 + 1 < (xzm cR (B ++ [(k', n)])).length := by omega
      have f5 : B.length * 2 + 1 + 1 ≤ (xzm cR (B ++ [(k', n)])).length := by omega
      have fs := flatR_set B (k', n) (n + 1)
      simp only [List.cons_append, List.nil_append] at fs
      have wn : IntKind.i64.wrap ((n : Int) + 1) = ((n + 1 : Nat) : Int) := by rw [xzi (by omega) (by omega)]; rfl
      by_cases g : k' = e.kind
      · have gb : (k' == e.kind) = true := by simp [g]
        rw [if_pos g] at hR
        simp only [qzA, qzj, xzD, qzn, qzD, qzX, qzw, qzo, qzi, xzh, xzg, xzq, qzY, qzf, qzd, qze, qzp, qzJ, qzZ, qzN, qzz, xzE, xzj, xzc, xzw, xzN, xzQ, xzM, qzc, qzk, qzE, qzb, qzU, qzg, qzh, qzR, xzs, xzt, qzW, qzm, qzl, qzs, qza, qzr, qzu, qzx, xzl, qzI, xzp, iAddrAV, xzd, qzL, qzC, xzk, xzL, xzA, qzS, xza, xzn, qzB, cvs, cv, qzG, qzH, toA, ofA, FR.pop, abin, intBin, VN.at, VH.push, VH.set, qzq, VV.cells, ntV, qzO, countN, xzG, xzP, xzT, xzH, xzO, yza, xzZ, xzy, xzu, ↓reduceIte, Option.getD_some, Option.isSome_some, Option.map_some, List.getElem?_cons_zero, List.length_cons, List.length_nil, List.drop_succ_cons, List.drop_zero, List.take_succ_cons, List.take_zero, List.append_nil, List.nil_append, List.cons_append, List.contains_nil, List.head?_cons, Nat.reduceAdd, Nat.reduceMul, Nat.reduceDiv, Nat.reduceLT, Nat.reduceEqDiff, Nat.reduceLeDiff, Nat.add_zero, Nat.zero_add, and_self, and_true, true_and, Bool.and_self, Bool.not_false, beq_self_eq_true, decide_true, forall_const, false_implies, Bool.true_eq_false, cSeg, t3, t7, t8, t9, c, hlt, p1, p2, z0, wl, zl, q2, f1, f2, f5, e1, b1, n0, n1, gb, wn, fs, hw]
        refine ih (i + 1) (B ++ [(k', n + 1)]) _ _ j (.slice j 0 (B.length + 1) 2 (.toEnd 2)) (by omega) hR (by simp; omega) (by rw [countR_snoc]; omega) (fun e => by simp at e) ?_ ?_ ?_ ?_ (.inr ⟨?_, ?_, q3, ?_⟩) ?_
        · simp only [qza, ↓reduceIte, Nat.reduceEqDiff, t3]
        · simp only [qza, ↓reduceIte, Nat.reduceEqDiff, t7]
        · simp only [qza, ↓reduceIte, Nat.reduceEqDiff, t8]
        · simp only [qza, ↓reduceIte]
        · exact congrArg (fun n => VV.slice j 0 n 2 (.toEnd 2)) (by simp)
        · simp only [qza, if_true]
        · show j < h.next + 1; omega
        · show nx ≤ h.next + 1; omega
      · have gb : (k' == e.kind) = false := by simp [g]
        rw [if_neg g] at hR
        simp only [qzA, qzj, xzD, qzn, qzD, qzX, qzw, qzo, qzi, xzh, qzY, qzf, qzd, qze, qzp, qzJ, qzZ, qzN, qzz, xzE, xzj, xzc, xzw, xzN, xzQ, qzc, qzk, qzE, qzb, qzU, qzg, qzh, qzR, xzs, xzt, qzW, qzm, qzl, qzs, qza, qzr, qzu, qzx, xzl, qzI, xzp, iAddrAV, xzd, qzL, qzC, xzk, xzL, xzA, qzS, xza, xzn, qzB, cvs, cv, qzG, qzH, toA, ofA, FR.pop, abin, intBin, VN.at, VH.push, VH.set, qzq, VV.cells, ntV, qzO, countN, xzG, xzP, xzT, xzH, xzO, yza, xzZ, xzy, xzu, ↓reduceIte, Option.getD_some, Option.isSome_some, List.getElem?_cons_zero, List.length_cons, List.length_nil, List.drop_succ_cons, List.drop_zero, List.take_succ_cons, List.take_zero, List.append_nil, List.nil_append, List.cons_append, List.contains_nil, List.head?_cons, Nat.reduceAdd, Nat.reduceMul, Nat.reduceDiv, Nat.reduceLT, Nat.reduceEqDiff, Nat.reduceLeDiff, Nat.add_zero, Nat.zero_add, and_self, and_true, true_and, Bool.and_self, Bool.not_false, Bool.false_eq_true, beq_self_eq_true, decide_true, forall_const, false_implies, Bool.true_eq_false, cSeg, t3, t7, t8, t9, c, hlt, p1, p2, z0, wl, zl, q2, f1, f2, e1, b1, n0, n1, gb]
        refine wpW_acc (base := nx) (j := j) (f := cR) (l := B ++ [(k', n)]) (a := (e.kind, 1)) (by rw [← len]; exact q.ext (show h.next ≤ h.next + 1 + 1 by omega) (fun x y => by simp only [qza]; rw [if_neg (by omega), if_neg (by omega), if_neg (by omega)])) (by simp only [qza, srcV, winV, qzq, ↓reduceIte, Option.getD_some, List.length_cons, List.length_nil, List.drop_zero, List.take_succ_cons, List.take_zero, Nat.reduceAdd, Nat.reduceMul, reduceCtorEq, Nat.reduceLeDiff, Nat.zero_add, true_or, reduceCtorEq, true_or, cR] <;> first | rfl | exact ⟨rfl, rfl⟩ | exact qzt rfl) cR_len (by omega) (by show nx ≤ h.next + 1 + 1; omega) (by simp; omega) (by simp; omega) ?_
        intro h' g1 g2 g3
        simp only [qzj, qzi, xzg, xzq, qzf, qzd, qze, qzp, qzz, qzc, qzb, qzg, qzh, qzm, qzl, qzs, qza, qzr, qzu, qzx, cv, qzG, qzH, toA, ofA, FR.pop, abin, intBin, xzy, ↓reduceIte, Nat.reduceEqDiff, t9, hw]
        refine ih (i + 1) (B ++ [(k', n)] ++ [(e.kind, 1)]) _ h' _ _ (by omega) hR (by simp; omega) (by rw [countR_snoc, countR_snoc]; simp only; omega) (fun e => by simp at e) ?_ ?_ ?_ ?_ g3 ?_
        · simp only [qza, ↓reduceIte, Nat.reduceEqDiff]
        · simp only [qza, ↓reduceIte, Nat.reduceEqDiff, t7]
        · simp only [qza, ↓reduceIte, Nat.reduceEqDiff, t8]
        · simp only [qza, ↓reduceIte]
        · simp only at g1; omega
theorem runs_run (Gl : xzv) (l : List Seg) (hl : l.length < 1000000) : CallsV Go.VL.Er.E Gl f_encode_Runs [.fsl (xzm cSeg l) l.length 7] h0 (fun v h => ∃ j, xzS 0 h j cR (runsS l) 2 v ∧ (l = [] → v = .nilS)) := by
  refine xze E_encode_Runs ?_
  unfold c_encode_Runs r_encode_Runs
  simp only [xzC]
  simp only [qzj, qzn, qzD, qzi, qzf, qzd, qze, qzp, qzc, qzb, qzg, qzh, qzm, qzl, qzs, qza, qzr, qzu, qzx, xzd, cv, h0, ↓reduceIte, reduceCtorEq, reduceCtorEq]
  refine runs_loop l hl (runsS l) 0 _ ?_ l.length 0 [] _ _ 0 .nilS (by omega) rfl (Nat.le_refl _) rfl (fun _ => rfl) ?_ ?_ ?_ ?_ xzS.nil (Nat.zero_le _)
  · intro T h j v t3 q hv
    simp only [qzj, qzn, qzF, qzi, xzz, qzf, qzd, qze, qzp, qzK, qzc, qzb, qzg, qzh, qzm, qzl, qzs, qza, qzr, qzu, qzx, qzQ, qzM, qzV, qzP, ↓reduceIte, t3]
    exact ⟨j, q, fun e => hv (by rw [e]; rfl)⟩
  all_goals first | (simp only [qza, ↓reduceIte, Nat.reduceEqDiff]; done) | (simp only [qza, ↓reduceIte]; rfl)
theorem push_ne (A : List Run) (k : Int) : pushR A k ≠ [] := by
  rcases List.eq_nil_or_concat A with rfl | ⟨B, ⟨k', n⟩, rfl⟩
  · simp [pushR_nil]
  · rw [List.concat_eq_append, pushR_snoc]; split <;> simp
theorem fold_ne : ∀ (l : List Seg) (A : List Run), A ≠ [] → l.foldl (fun A s => pushR A s.kind) A ≠ []
  | [], A, h => h
  | s :: l, A, h => fold_ne l _ (push_ne A s.kind)
theorem runs_ne {l : List Seg} (h : l ≠ []) : runsS l ≠ [] := by
  cases l with
  | nil => exact (h rfl).elim
  | cons s l => exact fold_ne l _ (push_ne [] s.kind)
theorem runs_own (Gl : xzv) (l : List Seg) (hl : l.length < 1000000) (hn : l ≠ []) : PureOwn Go.VL.Er.E Gl f_encode_Runs [.fsl (xzm cSeg l) l.length 7] (xzm cR (runsS l)) 0 (runsS l).length 2 (.toEnd 2) :=
  own_sound ((runs_run Gl l hl).mono fun v h ⟨j, q, _⟩ => by
    obtain ⟨e1, e2, _, _⟩ := q.some (runs_ne hn)
    exact ⟨j, _, e1, by rw [qzq, e2]; rfl, closedL_flat (fun _ => rfl) _, subL_refl _⟩)
theorem runs_nil (Gl : xzv) : xzK Go.VL.Er.E Gl f_encode_Runs [.fsl [] 0 7] .nilS :=
  xzx ((runs_run Gl [] (by simp)).mono fun v h ⟨j, q, e⟩ => by
    rw [e rfl]; exact qzt rfl)
end
end Go.VL.En
