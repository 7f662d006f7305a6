import Derived.Test.YtbamfhdgikeneaaDoorVlI
import Derived.Test.YtbamfhdgikeneaaDoorIrA
/- Chapter 22: what the program's functions and the document's come to. -/
namespace Go.VL.Wind
open Go.FR Go.IR Go.VL
noncomputable section
set_option linter.unusedSimpArgs false
set_option linter.unusedVariables false
set_option maxRecDepth 100000
set_option maxHeartbeats 1000000

abbrev w64 (n : Int) : Int := IntKind.i64.wrap n
structure Pt where
  x : Int
  y : Int
deriving DecidableEq
structure Edge where
  a : Pt
  b : Pt
abbrev cPt (p : Pt) : List VV := [.int .i64 p.x, .int .i64 p.y]
abbrev cEdge (e : Edge) : List VV := [.int .i64 e.a.x, .int .i64 e.a.y, .int .i64 e.b.x, .int .i64 e.b.y]
abbrev sEdges (l : List Edge) : VV := .fsl (xzk cEdge l) l.length 4
abbrev E := lookE envL

def crossS (a b p : Pt) : Int := w64 (w64 (w64 (b.x - a.x) * w64 (p.y - a.y)) - w64 (w64 (b.y - a.y) * w64 (p.x - a.x)))
def oneS (e : Edge) (p : Pt) : Int :=
  if e.a.y ≤ p.y ∧ e.b.y > p.y ∧ crossS e.a e.b p > 0 then 1 else if e.b.y ≤ p.y ∧ e.a.y > p.y ∧ crossS e.a e.b p < 0 then -1 else 0
def numS (l : List Edge) (p : Pt) (n : Int) : Int := l.foldl (fun n e => w64 (n + oneS e p)) n
def insS (l : List Edge) (rule : Int) (p : Pt) : Bool := if rule = 0 then (numS l p 0).tmod 2 != 0 else numS l p 0 != 0

theorem sub_ok (Gl : xzt) (a b : Pt) : xzH E Gl f_plane_Sub [.agg (cPt a), .agg (cPt b)] (.agg [.int .i64 (w64 (a.x - b.x)), .int .i64 (w64 (a.y - b.y))]) := by
  refine xzw (xzf E_plane_Sub ?_)
  unfold c_plane_Sub r_plane_Sub
  simp only [xzB]
  simp only [qzk, qzo, qzH, qzi, qzf, qze, qzd, qzp, qzF, qzX, qzN, qzy, qzK, qzc, qzj, qzE, qzb, xza, qzg, qzh, qzO, xzb, qzl, qzm, qzt, qza, qzs, qzu, qzG, qzL, qzB, xzh, xzF, xzE, xzv, qzW, xzg, xzq, qzA, cvs, cv, qzI, qzJ, toA, ofA, FR.pop, abin, intBin, VN.at, VH.push, VH.set, qzq, h0, VV.cells, ntV, qzQ, qzM, qzT, qzP, qzS, xzz, ↓reduceIte, Option.getD_some, List.getElem?_cons_zero, List.getElem?_cons_succ, List.length_cons, List.length_nil, List.drop_succ_cons, List.drop_zero, List.take_succ_cons, List.take_zero, List.append_nil, List.nil_append, List.cons_append, List.head?_cons, Nat.reduceAdd, Nat.reduceEqDiff, reduceCtorEq, Nat.reduceLeDiff, Nat.add_zero, Nat.zero_add, and_self, reduceCtorEq, cPt]
  exact qzr rfl

end
end Go.VL.Wind

/- Chapter 3: colors as text. -/
namespace Go.VL.Color
open Go.FR Go.IR Go.VL
noncomputable section
set_option linter.unusedSimpArgs false
set_option linter.unusedVariables false
set_option maxRecDepth 100000
set_option maxHeartbeats 1000000
abbrev E := lookE envL
structure Cl where
  r : Nat
  g : Nat
  b : Nat
  a : Nat
deriving DecidableEq
def Cl.In (c : Cl) : Prop := c.r < 256 ∧ c.g < 256 ∧ c.b < 256 ∧ c.a < 256
abbrev cCl (c : Cl) : List VV := [.int .u8 (c.r : Int), .int .u8 (c.g : Int), .int .u8 (c.b : Int), .int .u8 (c.a : Int)]
abbrev digits : List UInt8 := [48, 49, 50, 51, 52, 53, 54, 55, 56, 57, 97, 98, 99, 100, 101, 102]
def dig (k : Nat) : UInt8 := digits.getD k 0
def hx (n : Nat) : List UInt8 := [dig (n / 16), dig (n % 16)]
def showS (c : Cl) : List UInt8 := 35 :: (hx c.r ++ (hx c.g ++ (hx c.b ++ if c.a = 255 then [] else hx c.a)))

end
end Go.VL.Color

/- What the package's error variables hold, laid. -/
namespace Go.VL
open Go.FR
noncomputable section
set_option linter.unusedVariables false
set_option linter.unusedSimpArgs false

def globsFrom (tp : Nat) : Nat → List Er → xzt
  | _, [] => []
  | n, e :: l => (n, [.iface tp (.gptr (n + 1) 0)]) :: (n + 1, [.str e.text]) :: globsFrom tp (n + 2) l
abbrev globsOf (tp : Nat) (l : List Er) : xzt := globsFrom tp 0 l

theorem errTr_low (tp : Nat) : ∀ (l : List Er) (n : Nat) (T : Tr ABlk) (k : Nat), k < n → (errTr tp n l T).get k = T.get k
  | [], _, _, _, _ => rfl
  | e :: l, n, T, k, hk => by
    simp only [errTr]
    rw [errTr_low tp l (n + 2) _ k (by omega), Tr.get_set, if_neg (by omega), Tr.get_set, if_neg (by omega)]

theorem glob_tr (tp : Nat) : ∀ (l : List Er) (n : Nat) (T : Tr ABlk) (i : Nat) (cs : List VV), qzw (globsFrom tp n l) i = some cs →
    n ≤ i ∧ i < n + 2 * l.length ∧ ∃ as, (errTr tp n l T).get i = some (.cells as false false) ∧ ∀ G, VRs G noP cs as
  | [], n, T, i, cs, h => by simp [globsFrom, qzw] at h
  | e :: l, n, T, i, cs, h => by
    simp only [globsFrom, qzw] at h
    simp only [errTr, List.length_cons]
    by_cases e1 : n = i
    · rw [if_pos e1] at h
      obtain rfl := Option.some.inj h
      refine ⟨by omega, by omega, [.iface tp (.ptr (some (n + 1, 0)))], ?_, fun G => VRs.cons ⟨_, rfl, rfl⟩ VRs.nil⟩
      rw [errTr_low tp l (n + 2) _ i (by omega), Tr.get_set, if_neg (by omega), Tr.get_set, if_pos e1.symm]
    · rw [if_neg e1] at h
      by_cases e2 : n + 1 = i
      · rw [if_pos e2] at h
        obtain rfl := Option.some.inj h
        refine ⟨by omega, by omega, [.str e.text], ?_, fun G => VRs.cons rfl VRs.nil⟩
        rw [errTr_low tp l (n + 2) _ i (by omega), Tr.get_set, if_pos e2.symm]
      · rw [if_neg e2] at h
        obtain ⟨h1, h2, h3⟩ := glob_tr tp l (n + 2) ((T.set n (.cells [.iface tp (.ptr (some (n + 1, 0)))] false false)).set (n + 1) (.cells [.str e.text] false false)) i cs h
        exact ⟨by omega, by omega, h3⟩

theorem glob_ok (tp : Nat) (l : List Er) (i : Nat) (cs : List VV) (h : qzw (globsOf tp l) i = some cs) : ∃ as, GG (errHeap tp l) i = some (.cells as false false) ∧ VRs (GG (errHeap tp l)) noP cs as := by
  obtain ⟨h1, h2, as, h3, h4⟩ := glob_tr tp l 0 .nil i cs h
  refine ⟨as, ?_, h4 _⟩
  unfold GG
  rw [if_pos (by simp only [errHeap]; omega)]
  exact h3
end
end Go.VL

/- Errors: what the statements' own eyes see of them. -/
namespace Go.VL.Er
open Go.FR Go.IR Go.VL
noncomputable section
set_option linter.unusedSimpArgs false
set_option linter.unusedVariables false
set_option maxRecDepth 100000
set_option maxHeartbeats 1000000
abbrev E := lookE envL

/-- The k-th of api's errors; one with a place. -/
abbrev erP (k : Nat) : VV := .iface t_p_errors_errorString (.gptr (2 * k + 1) 0)
abbrev atV (k : Nat) (pos : Int) : VV := .iface t_p_api_At (.fptr [.int .i64 pos, erP k] 0)
/-- What the package's variables hold. -/
def GlHas (Gl : xzt) (k : Nat) : Prop := qzw Gl (2 * k) = some [erP k] ∧ (qzw Gl (2 * k + 1)).isSome = true
def GlAll (Gl : xzt) : Prop := ∀ k, k < 13 → GlHas Gl k

structure Fault where
  code : Int
  placed : Bool
  pos : Int
deriving DecidableEq
abbrev cFault (f : Fault) : List VV := [.int .i64 f.code, .bool f.placed, .int .i64 f.pos]
def bareF (n : Int) : Fault := ⟨n, false, 0⟩
def placedF (n pos : Int) : Fault := if n = 0 then bareF 0 else ⟨n, true, pos⟩

end
end Go.VL.Er

/- Errors as plain data. -/
namespace Go.VL.Er
open Go.FR Go.IR Go.VL
noncomputable section
set_option linter.unusedSimpArgs false
set_option linter.unusedVariables false
set_option maxRecDepth 100000
set_option maxHeartbeats 1000000

/-- An error, and what it is. -/
inductive ErrV where
  | none
  | bare (k : Nat)
  | placed (k : Nat) (pos : Int)
def ErrV.v : ErrV → VV
  | .none => .nilI
  | .bare k => erP k
  | .placed k pos => atV k pos
def ErrV.ok : ErrV → Prop
  | .none => True
  | .bare k => k < 13
  | .placed k _ => k < 13
def ErrV.f : ErrV → Fault
  | .none => bareF 0
  | .bare k => bareF (101 + (k : Int))
  | .placed k pos => placedF (101 + (k : Int)) pos
end
end Go.VL.Er

/- Chapters 5 and 6 in plain numbers: icons, what is amiss with them. -/
namespace Go.VL.Ic
open Go.FR Go.IR Go.VL Go.VL.Er Go.VL.Color Go.VL.Wind
noncomputable section
set_option linter.unusedVariables false
set_option linter.unusedSimpArgs false

structure Seg where
  kind : Int
  p0 : Pt
  p1 : Pt
  p2 : Pt
deriving DecidableEq
structure Path where
  start : Pt
  segs : List Seg
  closed : Bool
deriving DecidableEq
structure Paint where
  kind : Int
  a : Int
  b : Int
  p : Pt
  q : Pt
deriving DecidableEq
structure Cmd where
  kind : Int
  rule : Int
  width : Int
  paint : Paint
  paths : List Path
deriving DecidableEq
structure Icon where
  w : Int
  h : Int
  scale : Int
  colors : List Cl
  cmds : List Cmd
deriving DecidableEq
abbrev cSeg (s : Seg) : List VV := [.int .i64 s.kind, .int .i64 s.p0.x, .int .i64 s.p0.y, .int .i64 s.p1.x, .int .i64 s.p1.y, .int .i64 s.p2.x, .int .i64 s.p2.y]
abbrev cPath (p : Path) : List VV := [.int .i64 p.start.x, .int .i64 p.start.y, .fsl (xzk cSeg p.segs) p.segs.length 7, .bool p.closed]
abbrev cPaint (p : Paint) : List VV := [.int .i64 p.kind, .int .i64 p.a, .int .i64 p.b, .int .i64 p.p.x, .int .i64 p.p.y, .int .i64 p.q.x, .int .i64 p.q.y]
abbrev cCmd (c : Cmd) : List VV := [.int .i64 c.kind, .int .i64 c.rule, .int .i64 c.width, .int .i64 c.paint.kind, .int .i64 c.paint.a, .int .i64 c.paint.b, .int .i64 c.paint.p.x, .int .i64 c.paint.p.y, .int .i64 c.paint.q.x, .int .i64 c.paint.q.y, .fsl (xzk cPath c.paths) c.paths.length 4]
abbrev cIcon (i : Icon) : List VV := [.int .i64 i.w, .int .i64 i.h, .int .i64 i.scale, .fsl (xzk cCl i.colors) i.colors.length 4, .fsl (xzk cCmd i.cmds) i.cmds.length 11]
theorem cSeg_len (s : Seg) : (cSeg s).length = 7 := rfl
theorem cPath_len (s : Path) : (cPath s).length = 4 := rfl
theorem cCmd_len (s : Cmd) : (cCmd s).length = 11 := rfl
theorem cCl_len (c : Cl) : (cCl c).length = 4 := rfl

def inS (n lo hi : Int) : Bool := if n ≥ lo then decide (n ≤ hi) else false
def farS (p : Pt) (m : Int) : Bool := !(inS p.x (-m) m) || !(inS p.y (-m) m)
def sizedS (i : Icon) : Bool := inS i.w 1 4096 && (inS i.h 1 4096 && inS i.scale 0 6)
def greatS (i : Icon) : Int := if sizedS i then 4 * max i.w i.h * 2 ^ i.scale.toNat else 0
/-- What is amiss: the number of one of api's errors. -/
def headS (c : Cmd) (m : Int) : Option Nat :=
  if c.kind = 1 ∧ inS c.rule 0 1 = true ∧ c.width = 0 then none
  else if c.kind = 2 ∧ c.rule = 0 ∧ inS c.width 1 m = true then none
  else some 4
def zeroP (p : Pt) : Prop := p.x = 0 ∧ p.y = 0
instance (p : Pt) : Decidable (zeroP p) := by unfold zeroP; infer_instance
def sameP (p q : Pt) : Prop := p.x = q.x ∧ p.y = q.y
instance (p q : Pt) : Decidable (sameP p q) := by unfold sameP; infer_instance
def paintS (p : Paint) (n m : Int) : Option Nat :=
  if inS p.kind 0 2 = false ∨ inS p.a 0 (n - 1) = false ∨ (p.kind ≠ 0 ∧ inS p.b 0 (n - 1) = false) then some 4
  else if p.kind = 0 then (if p.b ≠ 0 ∨ ¬ zeroP p.p ∨ ¬ zeroP p.q then some 9 else none)
  else if farS p.p m = true then some 4
  else if p.kind = 1 then (if farS p.q m = true ∨ sameP p.p p.q then some 4 else none)
  else if inS p.q.x 1 m = false then some 4
  else if p.q.y ≠ 0 then some 9
  else none
def segPts (s : Seg) : List Pt := [s.p0, s.p1, s.p2]
def segS (s : Seg) (m : Int) : Option Nat :=
  if inS s.kind 1 3 = false then some 4
  else if ((segPts s).take s.kind.toNat).any (farS · m) = true then some 4
  else if ((segPts s).drop s.kind.toNat).all (fun p => decide (zeroP p)) = false then some 9
  else none
def firstS {α : Type} (f : α → Option Nat) : List α → Option Nat
  | [] => none
  | x :: l => match f x with
    | some e => some e
    | none => firstS f l
def pathS (p : Path) (fill : Bool) (m : Int) : Option Nat :=
  if (fill && p.closed) = true then some 9
  else if p.segs.length = 0 then some 4
  else if 400 < p.segs.length then some 5
  else if farS p.start m = true then some 4
  else firstS (segS · m) p.segs
def cmdS (c : Cmd) (n m : Int) : Option Nat :=
  match headS c m with
  | some e => some e
  | none => match paintS c.paint n m with
    | some e => some e
    | none => if c.paths.length = 0 then some 4 else if 200 < c.paths.length then some 5 else firstS (fun p => pathS p (decide (c.kind = 1)) m) c.paths
def sumS' {α : Type} (f : α → Int) : List α → Int
  | [] => 0
  | x :: l => f x + sumS' f l
def pointsS (i : Icon) : Int := sumS' (fun c => sumS' (fun p => 1 + sumS' (fun s => s.kind) p.segs) c.paths) i.cmds
/-- Colors in the order in which they come first: the next one, behind these. -/
def nextUse (next : Int) : List Int → Option Int
  | [] => some next
  | k :: l => if k > next then none else nextUse (if k = next then next + 1 else next) l
def usesOf (c : Cmd) : List Int := if c.paint.kind = 0 then [c.paint.a] else [c.paint.a, c.paint.b]
def useAll : Int → List Cmd → Option Int
  | n, [] => some n
  | n, c :: l => match nextUse n (usesOf c) with
    | none => none
    | some m => useAll m l
def onceS : List Cl → List Cl → Bool
  | _, [] => true
  | seen, c :: l => if c ∈ seen then false else onceS (seen ++ [c]) l
def usedS (i : Icon) : Bool := match useAll 0 i.cmds with
  | none => false
  | some n => if onceS [] i.colors then decide (n = i.colors.length) else false
def checkS (i : Icon) : Option Nat :=
  if sizedS i = false then some 4
  else if 256 < i.colors.length ∨ 200 < i.cmds.length then some 5
  else match firstS (fun c => cmdS c i.colors.length (greatS i)) i.cmds with
    | some e => some e
    | none => if pointsS i > 4000 then some 5 else if usedS i = false then some 9 else none
/-- The errors, as the program's variables hold them. -/
abbrev erG (n : Nat) : VV := .iface t_p_errors_errorString (.gptr (n + 1) 0)
def eG : Nat → Nat
  | 4 => g_ErrRange
  | 5 => g_ErrLimit
  | _ => g_ErrCanon
abbrev errK (k : Nat) : VV := .iface t_p_errors_errorString (.gptr (eG k + 1) 0)
def errV : Option Nat → VV
  | none => .nilI
  | some k => errK k
structure IcG (Gl : xzt) : Prop where
  r : qzw Gl g_ErrRange = some [errK 4]
  l : qzw Gl g_ErrLimit = some [errK 5]
  c : qzw Gl g_ErrCanon = some [errK 9]
end
end Go.VL.Ic

/- Closing through and through, piece by piece. -/
namespace Go.VL
open Go.FR
noncomputable section
set_option linter.unusedVariables false
set_option linter.unusedSimpArgs false

theorem mapO_mono {f f' : VV → Option VV} (hf : ∀ v w, f v = some w → f' v = some w) : ∀ {cs ds : List VV}, mapO f cs = some ds → mapO f' cs = some ds
  | [], ds, h => h
  | c :: cs, ds, h => by
    simp only [mapO] at h ⊢
    split at h <;> try (cases h; done)
    rename_i x hx
    split at h <;> try (cases h; done)
    rename_i z hz
    simp only [hf _ _ hx, mapO_mono hf hz]; exact h
theorem shutS_mono {f f' : VV → Option VV} (hf : ∀ v w, f v = some w → f' v = some w) {cs ds : List VV} (h : shutS f cs = some ds) : shutS f' cs = some ds := by
  unfold shutS at h ⊢
  split at h
  · rename_i hc; rw [if_pos hc]; exact h
  · rename_i hc; rw [if_neg hc]; exact mapO_mono hf h
/-- One layer. -/
def stepD (F : VV → Option VV) (g : Nat → Option VB) (v : VV) : Option VV := if closedB v = true then some v else match v with
    | .ptr i o => match g i with
      | some (.cells cs _) => match shutS F cs with
        | some ds => some (.fptr ds o)
        | none => none
      | _ => none
    | .slice i o n e c => match g i with
      | some (.cells cs _) => if o + n * e ≤ cs.length ∧ capOK e n c then (match shutS F ((cs.drop o).take (n * e)) with
        | some ds => some (.fsl ds n e)
        | none => none) else none
      | _ => none
    | .map i => match g i with
      | some (.map ks vs _) => match shutS F ks, shutS F vs with
        | some a, some b => some (.fmap a b)
        | _, _ => none
      | _ => none
    | .iface t x => match F x with
      | some y => some (.iface t y)
      | none => none
    | .agg cs => match mapO F cs with
      | some ds => some (.agg ds)
      | none => none
    | .tuple cs => match mapO F cs with
      | some ds => some (.tuple ds)
      | none => none
    | _ => none
theorem shutD_step {g : Nat → Option VB} (k : Nat) (v : VV) : shutD (k + 1) g v = stepD (shutD k g) g v := by
  cases v <;> rfl
theorem stepD_mono {F F' : VV → Option VV} (ih : ∀ v w, F v = some w → F' v = some w) {g : Nat → Option VB} {v w : VV} (h : stepD F g v = some w) : stepD F' g v = some w := by
  have ihS : ∀ cs ds, shutS F cs = some ds → shutS F' cs = some ds := fun cs ds q => shutS_mono ih q
  by_cases hc : closedB v = true
  · simp only [stepD, hc, if_true] at h ⊢; exact h
  have e : ∀ (G : VV → Option VV) (x y : Option VV), (if closedB v = true then x else y) = y := fun _ x y => if_neg hc
  cases v
  case ptr i o =>
    unfold stepD at h ⊢
    rw [if_neg hc] at h ⊢
    simp only at h ⊢
    split at h <;> try (cases h; done)
    rename_i cs ro hg
    split at h <;> try (cases h; done)
    rename_i ds hd
    simp only [hg, ihS _ _ hd]; exact h
  case slice i o n e c =>
    unfold stepD at h ⊢
    rw [if_neg hc] at h ⊢
    simp only at h ⊢
    split at h <;> try (cases h; done)
    rename_i cs ro hg
    split at h <;> try (cases h; done)
    rename_i hr
    split at h <;> try (cases h; done)
    rename_i ds hd
    simp only [hg, if_pos hr, ihS _ _ hd]; exact h
  case map i =>
    unfold stepD at h ⊢
    rw [if_neg hc] at h ⊢
    simp only at h ⊢
    split at h <;> try (cases h; done)
    rename_i ks vs ro hg
    split at h <;> try (cases h; done)
    rename_i x y hx hy
    simp only [hg, ihS _ _ hx, ihS _ _ hy]; exact h
  case iface t x =>
    unfold stepD at h ⊢
    rw [if_neg hc] at h ⊢
    simp only at h ⊢
    split at h <;> try (cases h; done)
    rename_i y hy
    simp only [ih _ _ hy]; exact h
  case agg cs =>
    unfold stepD at h ⊢
    rw [if_neg hc] at h ⊢
    simp only at h ⊢
    split at h <;> try (cases h; done)
    rename_i y hy
    simp only [mapO_mono ih hy]; exact h
  case tuple cs =>
    unfold stepD at h ⊢
    rw [if_neg hc] at h ⊢
    simp only at h ⊢
    split at h <;> try (cases h; done)
    rename_i y hy
    simp only [mapO_mono ih hy]; exact h
  all_goals
    unfold stepD at h
    rw [if_neg hc] at h
    cases h
theorem shutD_succ {g : Nat → Option VB} : ∀ (k : Nat) (v w : VV), shutD k g v = some w → shutD (k + 1) g v = some w
  | 0, v, w, h => by
    simp only [shutD] at h
    split at h <;> try (cases h; done)
    rename_i hc
    simp only [shutD, hc, if_true]; exact h
  | k + 1, v, w, h => by
    rw [shutD_step] at h ⊢
    exact stepD_mono (shutD_succ k) h
theorem shutD_le {g : Nat → Option VB} {k n : Nat} (hk : k ≤ n) {v w : VV} (h : shutD k g v = some w) : shutD n g v = some w := by
  induction n with
  | zero => obtain rfl : k = 0 := by omega
            exact h
  | succ n ih =>
    by_cases e : k = n + 1
    · rw [← e]; exact h
    · exact shutD_succ _ _ _ (ih (by omega))

/-- A value, closed; a row of them. -/
def xzP (g : Nat → Option VB) (v w : VV) : Prop := ∃ k v1, shutD k g v = some v1 ∧ subV v1 w
def xzG (g : Nat → Option VB) (cs ws : List VV) : Prop := ∃ k ds, mapO (shutD k g) cs = some ds ∧ subL ds ws
theorem shutD_closed {g : Nat → Option VB} {v : VV} (k : Nat) (hc : closedB v = true) : shutD k g v = some v := by
  cases k <;> simp only [shutD, hc, if_true]
theorem mapO_closed {g : Nat → Option VB} (k : Nat) : ∀ {cs : List VV}, closedL cs = true → mapO (shutD k g) cs = some cs
  | [], _ => rfl
  | c :: cs, h => by
    simp only [closedL, Bool.and_eq_true] at h
    simp only [mapO, shutD_closed k h.1, mapO_closed k h.2]
variable {g : Nat → Option VB}
theorem xzP.closed {v : VV} (hc : closedB v = true) : xzP g v v := ⟨0, v, shutD_closed 0 hc, subV_refl v⟩
theorem xzP.closed_sub {v w : VV} (hc : closedB v = true) (h : subV v w) : xzP g v w := ⟨0, v, shutD_closed 0 hc, h⟩
theorem xzG.closed {cs : List VV} (hc : closedL cs = true) : xzG g cs cs := ⟨0, cs, mapO_closed 0 hc, subL_refl cs⟩
theorem xzG.nil : xzG g [] [] := ⟨0, [], rfl, rfl⟩
theorem xzG.cons {v w : VV} {cs ws : List VV} (h : xzP g v w) (hs : xzG g cs ws) : xzG g (v :: cs) (w :: ws) := by
  obtain ⟨k, v1, h1, h2⟩ := h
  obtain ⟨n, ds, h3, h4⟩ := hs
  refine ⟨max k n, v1 :: ds, ?_, ⟨_, _, rfl, h2, h4⟩⟩
  simp only [mapO, shutD_le (Nat.le_max_left k n) h1, mapO_mono (fun _ _ => shutD_le (Nat.le_max_right k n)) h3]
theorem xzG.append : ∀ {a b c d : List VV}, xzG g a b → xzG g c d → xzG g (a ++ c) (b ++ d)
  | [], b, c, d, ⟨k, ds, h1, h2⟩, h => by
    simp only [mapO, Option.some.injEq] at h1
    subst h1
    have : b = [] := h2
    subst this
    exact h
  | v :: a, b, c, d, ⟨k, ds, h1, h2⟩, h => by
    simp only [mapO] at h1
    split at h1 <;> try (cases h1; done)
    rename_i x hx
    split at h1 <;> try (cases h1; done)
    rename_i z hz
    obtain rfl := Option.some.inj h1
    obtain ⟨y, ys, rfl, k1, k2⟩ := h2
    exact xzG.cons ⟨k, x, hx, k1⟩ (xzG.append ⟨k, z, hz, k2⟩ h)
theorem xzG.flat {α : Type} {f f' : α → List VV} : ∀ {l : List α}, (∀ a ∈ l, xzG g (f a) (f' a)) → xzG g (xzk f l) (xzk f' l)
  | [], _ => xzG.nil
  | a :: l, h => by
    rw [flatL_cons, flatL_cons]
    exact xzG.append (h a (.head _)) (xzG.flat fun b hb => h b (.tail _ hb))
theorem xzP.agg {cs ws : List VV} (h : xzG g cs ws) : xzP g (.agg cs) (.agg ws) := by
  obtain ⟨k, ds, h1, h2⟩ := h
  refine ⟨k + 1, .agg ds, ?_, ⟨_, rfl, h2⟩⟩
  rw [shutD_step]
  unfold stepD
  split
  · rename_i hc
    have : closedL cs = true := hc
    rw [mapO_closed k this] at h1
    rw [Option.some.inj h1]
  · simp only [h1]
theorem xzP.tuple {cs ws : List VV} (h : xzG g cs ws) : xzP g (.tuple cs) (.tuple ws) := by
  obtain ⟨k, ds, h1, h2⟩ := h
  refine ⟨k + 1, .tuple ds, ?_, ⟨_, rfl, h2⟩⟩
  rw [shutD_step]
  unfold stepD
  split
  · rename_i hc
    have : closedL cs = true := hc
    rw [mapO_closed k this] at h1
    rw [Option.some.inj h1]
  · simp only [h1]
theorem xzG.shutS {cs ws : List VV} (h : xzG g cs ws) : ∃ k ds, shutS (shutD k g) cs = some ds ∧ subL ds ws := by
  obtain ⟨k, ds, h1, h2⟩ := h
  by_cases hc : closedL cs = true
  · rw [mapO_closed k hc] at h1
    refine ⟨k, ds, ?_, h2⟩
    unfold Go.VL.shutS; rw [if_pos hc]; exact h1
  · refine ⟨k, ds, ?_, h2⟩
    unfold Go.VL.shutS; rw [if_neg hc]; exact h1
theorem xzP.slice {i o n e : Nat} {c : ACap} {cs ws : List VV} {ro : Bool} (hi : g i = some (.cells cs ro)) (hr : o + n * e ≤ cs.length) (hc : capOK e n c) (h : xzG g ((cs.drop o).take (n * e)) ws) : xzP g (.slice i o n e c) (.fsl ws n e) := by
  obtain ⟨k, ds, h1, h2⟩ := h.shutS
  exact ⟨k + 1, .fsl ds n e, by rw [shutD_step]; unfold stepD; rw [if_neg (by simp [closedB])]; simp only [hi, hr, hc, and_self, if_true, h1], ⟨_, rfl, h2⟩⟩
/-- A slice of a whole block. -/
theorem xzP.whole {i n e : Nat} {c : ACap} {cs ws : List VV} {ro : Bool} (hi : g i = some (.cells cs ro)) (hn : cs.length = n * e) (hc : capOK e n c) (h : xzG g cs ws) : xzP g (.slice i 0 n e c) (.fsl ws n e) :=
  xzP.slice hi (by omega) hc (by rw [List.drop_zero, ← hn, List.take_length]; exact h)
theorem xzP.ptr {i o : Nat} {cs ws : List VV} {ro : Bool} (hi : g i = some (.cells cs ro)) (h : xzG g cs ws) : xzP g (.ptr i o) (.fptr ws o) := by
  obtain ⟨k, ds, h1, h2⟩ := h.shutS
  exact ⟨k + 1, .fptr ds o, by rw [shutD_step]; unfold stepD; rw [if_neg (by simp [closedB])]; simp only [hi, h1], ⟨_, rfl, h2⟩⟩
/-- A list that was made. -/
theorem xzP.acc {α : Type} {base : Nat} {h : VH} {j : Nat} {f f' : α → List VV} {l : List α} {esz : Nat} {v : VV} (a : AccAt base h j f l esz v) (hg : base ≤ j → ∀ x, h.get j = some x → g j = some x) (hf : ∀ a, (f a).length = esz) (hs : ∀ a ∈ l, xzG g (f a) (f' a)) : xzP g v (.fsl (xzk f' l) l.length esz) := by
  have hl := flatL_length hf l
  have hx := xzG.flat hs
  rcases a with ⟨rfl, rfl⟩ | ⟨rfl, a2, a3, a4⟩
  · exact xzP.closed_sub rfl (.inr ⟨esz, rfl⟩)
  · have := hg a3 _ (by rw [qzq, a2]; rfl)
    exact xzP.whole this (by rw [hl]) rfl hx
theorem call_deepL_refs {E : Env} {Gl : xzt} {f : Nat} {args vs : List VV} {v : VV} {h : VH} {K : VV → VH → Option (List Nat × Bool) → Prop} (hp : xzH E Gl f args v) (hs : xzG h.get vs args) (hk : K v h.clo none) : wpCall E Gl f vs h K := by
  obtain ⟨n, ds, h1, h2⟩ := hs
  exact call_deep_refs n hp h1 h2 hk
end
end Go.VL
