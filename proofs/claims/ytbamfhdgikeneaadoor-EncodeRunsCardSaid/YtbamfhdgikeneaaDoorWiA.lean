import Derived.Test.YtbamfhdgikeneaaDoorVlJ
import Derived.Test.YtbamfhdgikeneaaDoorIrA
/- Chapter 22: what the program's functions and the document's come to. -/
namespace Go.VL.Wind
open Go.FR Go.IR Go.VL
noncomputable section
set_option linter.unusedSimpArgs false
set_option linter.unusedVariables false
set_option maxRecDepth 100000
set_option maxHeartbeats 1000000

abbrev w64 (n : Int) : Int := IntKind.i64.wrap n
structure Pt where
  x : Int
  y : Int
deriving DecidableEq
structure Edge where
  a : Pt
  b : Pt
abbrev cPt (p : Pt) : List VV := [.int .i64 p.x, .int .i64 p.y]
abbrev cEdge (e : Edge) : List VV := [.int .i64 e.a.x, .int .i64 e.a.y, .int .i64 e.b.x, .int .i64 e.b.y]
abbrev sEdges (l : List Edge) : VV := .fsl (xzq cEdge l) l.length 4
abbrev E := lookE envL

def crossS (a b p : Pt) : Int := w64 (w64 (w64 (b.x - a.x) * w64 (p.y - a.y)) - w64 (w64 (b.y - a.y) * w64 (p.x - a.x)))
def oneS (e : Edge) (p : Pt) : Int :=
  if e.a.y ≤ p.y ∧ e.b.y > p.y ∧ crossS e.a e.b p > 0 then 1 else if e.b.y ≤ p.y ∧ e.a.y > p.y ∧ crossS e.a e.b p < 0 then -1 else 0
def numS (l : List Edge) (p : Pt) (n : Int) : Int := l.foldl (fun n e => w64 (n + oneS e p)) n
def insS (l : List Edge) (rule : Int) (p : Pt) : Bool := if rule = 0 then (numS l p 0).tmod 2 != 0 else numS l p 0 != 0

end
end Go.VL.Wind

/- Chapter 3: colors as text. -/
namespace Go.VL.Color
open Go.FR Go.IR Go.VL
noncomputable section
set_option linter.unusedSimpArgs false
set_option linter.unusedVariables false
set_option maxRecDepth 100000
set_option maxHeartbeats 1000000
abbrev E := lookE envL
structure Cl where
  r : Nat
  g : Nat
  b : Nat
  a : Nat
deriving DecidableEq
def Cl.In (c : Cl) : Prop := c.r < 256 ∧ c.g < 256 ∧ c.b < 256 ∧ c.a < 256
abbrev cCl (c : Cl) : List VV := [.int .u8 (c.r : Int), .int .u8 (c.g : Int), .int .u8 (c.b : Int), .int .u8 (c.a : Int)]
abbrev digits : List UInt8 := [48, 49, 50, 51, 52, 53, 54, 55, 56, 57, 97, 98, 99, 100, 101, 102]
def dig (k : Nat) : UInt8 := digits.getD k 0
def hx (n : Nat) : List UInt8 := [dig (n / 16), dig (n % 16)]
def showS (c : Cl) : List UInt8 := 35 :: (hx c.r ++ (hx c.g ++ (hx c.b ++ if c.a = 255 then [] else hx c.a)))

end
end Go.VL.Color

/- What the package's error variables hold, laid. -/
namespace Go.VL
open Go.FR
noncomputable section
set_option linter.unusedVariables false
set_option linter.unusedSimpArgs false

def globsFrom (tp : Nat) : Nat → List Er → xzv
  | _, [] => []
  | n, e :: l => (n, [.iface tp (.gptr (n + 1) 0)]) :: (n + 1, [.str e.text]) :: globsFrom tp (n + 2) l
abbrev globsOf (tp : Nat) (l : List Er) : xzv := globsFrom tp 0 l

theorem errTr_low (tp : Nat) : ∀ (l : List Er) (n : Nat) (T : Tr ABlk) (k : Nat), k < n → (errTr tp n l T).get k = T.get k
  | [], _, _, _, _ => rfl
  | e :: l, n, T, k, hk => by
    simp only [errTr]
    rw [errTr_low tp l (n + 2) _ k (by omega), Tr.get_set, if_neg (by omega), Tr.get_set, if_neg (by omega)]

theorem glob_tr (tp : Nat) : ∀ (l : List Er) (n : Nat) (T : Tr ABlk) (i : Nat) (cs : List VV), qzB (globsFrom tp n l) i = some cs →
    n ≤ i ∧ i < n + 2 * l.length ∧ ∃ as, (errTr tp n l T).get i = some (.cells as false false) ∧ ∀ G, VRs G noP cs as
  | [], n, T, i, cs, h => by simp [globsFrom, qzB] at h
  | e :: l, n, T, i, cs, h => by
    simp only [globsFrom, qzB] at h
    simp only [errTr, List.length_cons]
    by_cases e1 : n = i
    · rw [if_pos e1] at h
      obtain rfl := Option.some.inj h
      refine ⟨by omega, by omega, [.iface tp (.ptr (some (n + 1, 0)))], ?_, fun G => VRs.cons ⟨_, rfl, rfl⟩ VRs.nil⟩
      rw [errTr_low tp l (n + 2) _ i (by omega), Tr.get_set, if_neg (by omega), Tr.get_set, if_pos e1.symm]
    · rw [if_neg e1] at h
      by_cases e2 : n + 1 = i
      · rw [if_pos e2] at h
        obtain rfl := Option.some.inj h
        refine ⟨by omega, by omega, [.str e.text], ?_, fun G => VRs.cons rfl VRs.nil⟩
        rw [errTr_low tp l (n + 2) _ i (by omega), Tr.get_set, if_pos e2.symm]
      · rw [if_neg e2] at h
        obtain ⟨h1, h2, h3⟩ := glob_tr tp l (n + 2) ((T.set n (.cells [.iface tp (.ptr (some (n + 1, 0)))] false false)).set (n + 1) (.cells [.str e.text] false false)) i cs h
        exact ⟨by omega, by omega, h3⟩

theorem glob_ok (tp : Nat) (l : List Er) (i : Nat) (cs : List VV) (h : qzB (globsOf tp l) i = some cs) : ∃ as, GG (errHeap tp l) i = some (.cells as false false) ∧ VRs (GG (errHeap tp l)) noP cs as := by
  obtain ⟨h1, h2, as, h3, h4⟩ := glob_tr tp l 0 .nil i cs h
  refine ⟨as, ?_, h4 _⟩
  unfold GG
  rw [if_pos (by simp only [errHeap]; omega)]
  exact h3
end
end Go.VL

/- Errors: what the statements' own eyes see of them. -/
namespace Go.VL.Er
open Go.FR Go.IR Go.VL
noncomputable section
set_option linter.unusedSimpArgs false
set_option linter.unusedVariables false
set_option maxRecDepth 100000
set_option maxHeartbeats 1000000
abbrev E := lookE envL

/-- The k-th of api's errors; one with a place. -/
abbrev erP (k : Nat) : VV := .iface t_p_errors_errorString (.gptr (2 * k + 1) 0)
abbrev atV (k : Nat) (pos : Int) : VV := .iface t_p_api_At (.fptr [.int .i64 pos, erP k] 0)
/-- What the package's variables hold. -/
def GlHas (Gl : xzv) (k : Nat) : Prop := qzB Gl (2 * k) = some [erP k] ∧ (qzB Gl (2 * k + 1)).isSome = true
def GlAll (Gl : xzv) : Prop := ∀ k, k < 13 → GlHas Gl k

structure Fault where
  code : Int
  placed : Bool
  pos : Int
deriving DecidableEq
abbrev cFault (f : Fault) : List VV := [.int .i64 f.code, .bool f.placed, .int .i64 f.pos]
def bareF (n : Int) : Fault := ⟨n, false, 0⟩
def placedF (n pos : Int) : Fault := if n = 0 then bareF 0 else ⟨n, true, pos⟩

end
end Go.VL.Er

/- Errors as plain data. -/
namespace Go.VL.Er
open Go.FR Go.IR Go.VL
noncomputable section
set_option linter.unusedSimpArgs false
set_option linter.unusedVariables false
set_option maxRecDepth 100000
set_option maxHeartbeats 1000000

/-- An error, and what it is. -/
inductive ErrV where
  | none
  | bare (k : Nat)
  | placed (k : Nat) (pos : Int)
def ErrV.v : ErrV → VV
  | .none => .nilI
  | .bare k => erP k
  | .placed k pos => atV k pos
def ErrV.ok : ErrV → Prop
  | .none => True
  | .bare k => k < 13
  | .placed k _ => k < 13
def ErrV.f : ErrV → Fault
  | .none => bareF 0
  | .bare k => bareF (101 + (k : Int))
  | .placed k pos => placedF (101 + (k : Int)) pos
end
end Go.VL.Er

/- Chapters 5 and 6 in plain numbers: icons, what is amiss with them. -/
namespace Go.VL.Ic
open Go.FR Go.IR Go.VL Go.VL.Er Go.VL.Color Go.VL.Wind
noncomputable section
set_option linter.unusedVariables false
set_option linter.unusedSimpArgs false

structure Seg where
  kind : Int
  p0 : Pt
  p1 : Pt
  p2 : Pt
deriving DecidableEq
structure Path where
  start : Pt
  segs : List Seg
  closed : Bool
deriving DecidableEq
structure Paint where
  kind : Int
  a : Int
  b : Int
  p : Pt
  q : Pt
deriving DecidableEq
structure Cmd where
  kind : Int
  rule : Int
  width : Int
  paint : Paint
  paths : List Path
deriving DecidableEq
structure Icon where
  w : Int
  h : Int
  scale : Int
  colors : List Cl
  cmds : List Cmd
deriving DecidableEq
abbrev cSeg (s : Seg) : List VV := [.int .i64 s.kind, .int .i64 s.p0.x, .int .i64 s.p0.y, .int .i64 s.p1.x, .int .i64 s.p1.y, .int .i64 s.p2.x, .int .i64 s.p2.y]
abbrev cPath (p : Path) : List VV := [.int .i64 p.start.x, .int .i64 p.start.y, .fsl (xzq cSeg p.segs) p.segs.length 7, .bool p.closed]
abbrev cPaint (p : Paint) : List VV := [.int .i64 p.kind, .int .i64 p.a, .int .i64 p.b, .int .i64 p.p.x, .int .i64 p.p.y, .int .i64 p.q.x, .int .i64 p.q.y]
abbrev cCmd (c : Cmd) : List VV := [.int .i64 c.kind, .int .i64 c.rule, .int .i64 c.width, .int .i64 c.paint.kind, .int .i64 c.paint.a, .int .i64 c.paint.b, .int .i64 c.paint.p.x, .int .i64 c.paint.p.y, .int .i64 c.paint.q.x, .int .i64 c.paint.q.y, .fsl (xzq cPath c.paths) c.paths.length 4]
abbrev cIcon (i : Icon) : List VV := [.int .i64 i.w, .int .i64 i.h, .int .i64 i.scale, .fsl (xzq cCl i.colors) i.colors.length 4, .fsl (xzq cCmd i.cmds) i.cmds.length 11]
theorem cSeg_len (s : Seg) : (cSeg s).length = 7 := rfl
theorem cPath_len (s : Path) : (cPath s).length = 4 := rfl
theorem cCmd_len (s : Cmd) : (cCmd s).length = 11 := rfl
theorem cCl_len (c : Cl) : (cCl c).length = 4 := rfl

def inS (n lo hi : Int) : Bool := if n ≥ lo then decide (n ≤ hi) else false
def farS (p : Pt) (m : Int) : Bool := !(inS p.x (-m) m) || !(inS p.y (-m) m)
def sizedS (i : Icon) : Bool := inS i.w 1 4096 && (inS i.h 1 4096 && inS i.scale 0 6)
def greatS (i : Icon) : Int := if sizedS i then 4 * max i.w i.h * 2 ^ i.scale.toNat else 0
/-- What is amiss: the number of one of api's errors. -/
def headS (c : Cmd) (m : Int) : Option Nat :=
  if c.kind = 1 ∧ inS c.rule 0 1 = true ∧ c.width = 0 then none
  else if c.kind = 2 ∧ c.rule = 0 ∧ inS c.width 1 m = true then none
  else some 4
def zeroP (p : Pt) : Prop := p.x = 0 ∧ p.y = 0
instance (p : Pt) : Decidable (zeroP p) := by unfold zeroP; infer_instance
def sameP (p q : Pt) : Prop := p.x = q.x ∧ p.y = q.y
instance (p q : Pt) : Decidable (sameP p q) := by unfold sameP; infer_instance
def paintS (p : Paint) (n m : Int) : Option Nat :=
  if inS p.kind 0 2 = false ∨ inS p.a 0 (n - 1) = false ∨ (p.kind ≠ 0 ∧ inS p.b 0 (n - 1) = false) then some 4
  else if p.kind = 0 then (if p.b ≠ 0 ∨ ¬ zeroP p.p ∨ ¬ zeroP p.q then some 9 else none)
  else if farS p.p m = true then some 4
  else if p.kind = 1 then (if farS p.q m = true ∨ sameP p.p p.q then some 4 else none)
  else if inS p.q.x 1 m = false then some 4
  else if p.q.y ≠ 0 then some 9
  else none
def segPts (s : Seg) : List Pt := [s.p0, s.p1, s.p2]
def segS (s : Seg) (m : Int) : Option Nat :=
  if inS s.kind 1 3 = false then some 4
  else if ((segPts s).take s.kind.toNat).any (farS · m) = true then some 4
  else if ((segPts s).drop s.kind.toNat).all (fun p => decide (zeroP p)) = false then some 9
  else none
def firstS {α : Type} (f : α → Option Nat) : List α → Option Nat
  | [] => none
  | x :: l => match f x with
    | some e => some e
    | none => firstS f l
def pathS (p : Path) (fill : Bool) (m : Int) : Option Nat :=
  if (fill && p.closed) = true then some 9
  else if p.segs.length = 0 then some 4
  else if 400 < p.segs.length then some 5
  else if farS p.start m = true then some 4
  else firstS (segS · m) p.segs
def cmdS (c : Cmd) (n m : Int) : Option Nat :=
  match headS c m with
  | some e => some e
  | none => match paintS c.paint n m with
    | some e => some e
    | none => if c.paths.length = 0 then some 4 else if 200 < c.paths.length then some 5 else firstS (fun p => pathS p (decide (c.kind = 1)) m) c.paths
def sumS' {α : Type} (f : α → Int) : List α → Int
  | [] => 0
  | x :: l => f x + sumS' f l
def pointsS (i : Icon) : Int := sumS' (fun c => sumS' (fun p => 1 + sumS' (fun s => s.kind) p.segs) c.paths) i.cmds
/-- Colors in the order in which they come first: the next one, behind these. -/
def nextUse (next : Int) : List Int → Option Int
  | [] => some next
  | k :: l => if k > next then none else nextUse (if k = next then next + 1 else next) l
def usesOf (c : Cmd) : List Int := if c.paint.kind = 0 then [c.paint.a] else [c.paint.a, c.paint.b]
def useAll : Int → List Cmd → Option Int
  | n, [] => some n
  | n, c :: l => match nextUse n (usesOf c) with
    | none => none
    | some m => useAll m l
def onceS : List Cl → List Cl → Bool
  | _, [] => true
  | seen, c :: l => if c ∈ seen then false else onceS (seen ++ [c]) l
def usedS (i : Icon) : Bool := match useAll 0 i.cmds with
  | none => false
  | some n => if onceS [] i.colors then decide (n = i.colors.length) else false
def checkS (i : Icon) : Option Nat :=
  if sizedS i = false then some 4
  else if 256 < i.colors.length ∨ 200 < i.cmds.length then some 5
  else match firstS (fun c => cmdS c i.colors.length (greatS i)) i.cmds with
    | some e => some e
    | none => if pointsS i > 4000 then some 5 else if usedS i = false then some 9 else none
/-- The errors, as the program's variables hold them. -/
abbrev erG (n : Nat) : VV := .iface t_p_errors_errorString (.gptr (n + 1) 0)
def eG : Nat → Nat
  | 4 => g_ErrRange
  | 5 => g_ErrLimit
  | _ => g_ErrCanon
abbrev errK (k : Nat) : VV := .iface t_p_errors_errorString (.gptr (eG k + 1) 0)
def errV : Option Nat → VV
  | none => .nilI
  | some k => errK k
structure IcG (Gl : xzv) : Prop where
  r : qzB Gl g_ErrRange = some [errK 4]
  l : qzB Gl g_ErrLimit = some [errK 5]
  c : qzB Gl g_ErrCanon = some [errK 9]
end
end Go.VL.Ic
