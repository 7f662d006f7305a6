import Derived.Test.YtbamfhdgikeneaaDoorMkB
import Derived.Test.YtbamfhdgikeneaaDoorIcD
import Derived.Test.YtbamfhdgikeneaaDoorWiA
import Derived.Test.YtbamfhdgikeneaaDoorEnF
import Derived.Test.YtbamfhdgikeneaaDoorEnP
import Derived.Test.YtbamfhdgikeneaaDoorEnK
import Derived.Test.YtbamfhdgikeneaaDoorEnQ
import Derived.Test.YtbamfhdgikeneaaDoorSmA
import Derived.Test.YtbamfhdgikeneaaDoorGeA
/- An icon. -/
namespace Go.VL.Mk
open Go.FR Go.IR Go.VL Go.VL.Color Go.VL.Wind Go.VL.Ic
noncomputable section
set_option linter.unusedSimpArgs false
set_option linter.unusedVariables false
set_option maxRecDepth 100000
set_option maxHeartbeats 1000000

def runS (l : List Int) (far : Int) : Nat → Nat → List Cl → List Cmd × List Cl × Nat
  | 0, a, cs => ([], cs, a)
  | n + 1, a, cs => if a < l.length then (cmdOf l far a cs :: (runS l far n (cmdEnd l a) (colsOf l a cs)).1, (runS l far n (cmdEnd l a) (colsOf l a cs)).2) else ([], cs, a)
def wS (l : List Int) (a : Nat) : Int := 1 + nextS l a 24
def hS (l : List Int) (a : Nat) : Int := 1 + nextS l (a + 1) 24
def scS (l : List Int) (a : Nat) : Int := nextS l (a + 2) 7
def farS' (l : List Int) (a : Nat) : Int := max (wS l a) (hS l a) * 2 ^ (scS l a).toNat
def cmdsN (l : List Int) (a : Nat) : Nat := (nextS l (a + 3) 4).toNat + 1
def iconRun (l : List Int) (a : Nat) : List Cmd × List Cl × Nat := runS l (farS' l a) (cmdsN l a) (a + 4) []
def iconS (l : List Int) (a : Nat) : Icon := ⟨wS l a, hS l a, scS l a, (iconRun l a).2.1, (iconRun l a).1⟩
def iconEnd (l : List Int) (a : Nat) : Nat := (iconRun l a).2.2
end
end Go.VL.Mk

/- What is made is right. -/
namespace Go.VL.Mk
open Go.FR Go.IR Go.VL Go.VL.Color Go.VL.Wind Go.VL.Ic Go.VL.Pal
noncomputable section
set_option linter.unusedSimpArgs false
set_option linter.unusedVariables false

def NearP (p : Pt) (m : Int) : Prop := (-m ≤ p.x ∧ p.x ≤ m) ∧ -m ≤ p.y ∧ p.y ≤ m
theorem near_point (l : List Int) (a : Nat) (far : Int) (h : 0 ≤ far) : NearP (pointS l a far) far := by
  have := point_in l a far h
  unfold NearP; omega
end
end Go.VL.Mk

/- What is made: its colors, its sizes. -/
namespace Go.VL.Mk
open Go.FR Go.IR Go.VL Go.VL.Color Go.VL.Wind Go.VL.Ic Go.VL.Pal
noncomputable section
set_option linter.unusedSimpArgs false
set_option linter.unusedVariables false

end
end Go.VL.Mk

/- Icons, closed piece by piece. -/
namespace Go.VL.Ic
open Go.FR Go.IR Go.VL Go.VL.Er Go.VL.Color Go.VL.Wind
noncomputable section
set_option linter.unusedSimpArgs false
set_option linter.unusedVariables false
set_option maxRecDepth 100000
set_option maxHeartbeats 1000000
variable {g : Nat → Option VB}

theorem shut_icon {W H S : Int} {vc vk : VV} {cols : List Cl} {cmds : List Cmd} (h1 : xzP g vc (.fsl (xzk cCl cols) cols.length 4)) (h2 : xzP g vk (.fsl (xzk cCmd cmds) cmds.length 11)) :
    xzG g [.agg [.int .i64 W, .int .i64 H, .int .i64 S, vc, vk]] [.agg (cIcon ⟨W, H, S, cols, cmds⟩)] :=
  xzG.cons (xzP.agg (xzG.cons (xzP.closed rfl) (xzG.cons (xzP.closed rfl) (xzG.cons (xzP.closed rfl) (xzG.cons h1 (xzG.cons h2 xzG.nil)))))) xzG.nil
theorem shut_nil {e : Nat} : xzP g .nilS (.fsl [] 0 e) := xzP.closed_sub rfl (.inr ⟨e, rfl⟩)
/-- The cells of a command whose paths are to be closed. -/
theorem shut_cmd {c : Cmd} {vp : VV} (h : xzP g vp (.fsl (xzk cPath c.paths) c.paths.length 4)) :
    xzG g [.int .i64 c.kind, .int .i64 c.rule, .int .i64 c.width, .int .i64 c.paint.kind, .int .i64 c.paint.a, .int .i64 c.paint.b, .int .i64 c.paint.p.x, .int .i64 c.paint.p.y, .int .i64 c.paint.q.x, .int .i64 c.paint.q.y, vp] (cCmd c) :=
  xzG.append (a := [_, _, _, _, _, _, _, _, _, _]) (c := [_]) (xzG.closed rfl) (xzG.cons h xzG.nil)
theorem shut_cmds1 {j : Nat} {ro : Bool} (c : Cmd) {vp : VV} (hj : g j = some (.cells [.int .i64 c.kind, .int .i64 c.rule, .int .i64 c.width, .int .i64 c.paint.kind, .int .i64 c.paint.a, .int .i64 c.paint.b, .int .i64 c.paint.p.x, .int .i64 c.paint.p.y, .int .i64 c.paint.q.x, .int .i64 c.paint.q.y, vp] ro)) (h : xzP g vp (.fsl (xzk cPath c.paths) c.paths.length 4)) :
    xzP g (.slice j 0 1 11 (.exact 1)) (.fsl (xzk cCmd [c]) 1 11) := xzP.whole hj rfl (Nat.le_refl _) (by rw [flatL_cons, flatL_nil, List.append_nil]; exact shut_cmd h)
theorem shut_paths1 {j : Nat} {ro : Bool} (p : Path) {vs : VV} (hj : g j = some (.cells [.int .i64 p.start.x, .int .i64 p.start.y, vs, .bool p.closed] ro)) (h : xzP g vs (.fsl (xzk cSeg p.segs) p.segs.length 7)) :
    xzP g (.slice j 0 1 4 (.exact 1)) (.fsl (xzk cPath [p]) 1 4) := xzP.whole hj rfl (Nat.le_refl _) (by rw [flatL_cons, flatL_nil, List.append_nil]; exact xzG.cons (xzP.closed rfl) (xzG.cons (xzP.closed rfl) (xzG.cons h (xzG.cons (xzP.closed rfl) xzG.nil))))
theorem shut_cols {j n : Nat} {ro : Bool} {c : ACap} (l : List Cl) (hj : g j = some (.cells (xzk cCl l) ro)) (hn : l.length = n) (hc : capOK 4 n c) :
    xzP g (.slice j 0 n 4 c) (.fsl (xzk cCl l) n 4) := xzP.whole hj (by rw [flatL_length Ic.cCl_len, hn]) hc (xzG.closed (closedL_flat (fun _ => rfl) l))
theorem shut_segs {j n : Nat} {ro : Bool} {c : ACap} (l : List Seg) (hj : g j = some (.cells (xzk cSeg l) ro)) (hn : l.length = n) (hc : capOK 7 n c) :
    xzP g (.slice j 0 n 7 c) (.fsl (xzk cSeg l) n 7) := xzP.whole hj (by rw [flatL_length cSeg_len, hn]) hc (xzG.closed (closedL_flat (fun _ => rfl) l))

end
end Go.VL.Ic

/- 'glyphiclaw6.EncodeRuns' answers true, whatever it is given. -/
namespace Go.VL.En
open Go.FR Go.IR Go.VL Go.VL.Color Go.VL.Wind Go.VL.Ic Go.VL.Wire
noncomputable section
set_option linter.unusedSimpArgs false
set_option linter.unusedVariables false
set_option maxRecDepth 100000
set_option maxHeartbeats 1000000

theorem first6_ok {Gl : xzt} (hG : IcG Gl) : xzH Go.VL.Er.E Gl f_glyphiclaw6_first [] (.bool true) := by
  refine xzw (xzf E_glyphiclaw6_first ?_)
  unfold c_glyphiclaw6_first r_glyphiclaw6_first
  simp only [xzB]
  have bk := bytes_ok hG ⟨1, 1, 0, [], []⟩ ⟨by simp, by simp, fun c hc => by cases hc⟩ (by decide) (fun c hc => by cases hc) (fun _ => []) (m := 0) (by omega) (fun c hc => by cases hc) (by simp)
  have hl : (bytesS (fun _ => []) ⟨1, 1, 0, [], []⟩).length = 9 := by
    have p0 : putS 0 = [0] := putS_lt (by omega)
    have p1 : putS 1 = [1] := putS_lt (by omega)
    simp [bytesS, numsB, colorsB, p0, p1]
  rw [hl] at bk
  simp only [qzk, qzo, qzi, qzf, qze, qzd, qzp, qzN, qzc, qzb, qzg, qzh, qzD, qzl, qzm, qzt, qza, qzs, qzu, qzx, xzE, xzv, qzW, cvs, cv, h0, VV.cells, ntV, ↓reduceIte, List.length_cons, List.length_nil, List.drop_succ_cons, List.drop_zero, List.take_succ_cons, List.take_zero, List.nil_append, List.cons_append, Nat.reduceAdd, Nat.reduceLeDiff, Nat.zero_add, and_self, t_p_api_At, t_p_errors_errorString]
  refine call_deepL_refs bk (shut_icon shut_nil shut_nil) ?_
  simp only [qzk, qzo, qzi, qzf, qze, qzd, qzp, qzN, qzy, qzc, qzb, qzg, qzh, qzD, qzl, qzm, qzt, qza, qzs, qzu, qzx, extV, cv, ↓reduceIte, List.getElem?_cons_zero, List.getElem?_cons_succ, Nat.reduceEqDiff]
  refine call_plain_sub (a0 := [.nilS]) (runs_nil Gl) rfl ⟨_, _, rfl, .inr ⟨7, rfl⟩, rfl⟩ rfl ?_
  have z9 : ((9 : Nat) : Int) = 9 := rfl
  simp only [qzH, qzi, qzf, qze, qzd, qzp, qzF, qzy, qzK, qzc, qzj, qzb, qzg, qzh, qzl, qzm, qzt, qza, qzs, qzu, qzx, xzj, xzi, qzL, xzI, xzJ, eqIV, cv, qzI, qzJ, toA, ofA, FR.pop, abin, intBin, qzQ, qzM, qzT, qzP, ↓reduceIte, Nat.reduceEqDiff, Bool.false_eq_true, beq_self_eq_true, z9]
  exact qzr rfl

def kindOf (z : Int) : Int := (z.tmod 3 + 3).tmod 3 + 1
def kseg (z : Int) : Seg := ⟨kindOf z, ⟨0, 0⟩, ⟨0, 0⟩, ⟨0, 0⟩⟩
end
end Go.VL.En

/- 'glyphiclaw6.EncodeUnlike' answers true, whatever it is given. -/
namespace Go.VL.En
open Go.FR Go.IR Go.VL Go.VL.Color Go.VL.Wind Go.VL.Ic Go.VL.Wire
noncomputable section
set_option linter.unusedSimpArgs false
set_option linter.unusedVariables false
set_option maxRecDepth 100000
set_option maxHeartbeats 1000000

/-- Alike as far as the shorter one goes: just if they are the same. -/
theorem unlike {a b : Icon} (ha : IconR a) (hb : IconR b) (n : Nat) (hn : n = min (bytesS cmdB a).length (bytesS cmdB b).length) : decide ((bytesS cmdB a).take n = (bytesS cmdB b).take n) = decide (a = b) := by
  by_cases e : a = b
  · subst e; simp
  · have : ¬ (bytesS cmdB a).take n = (bytesS cmdB b).take n := fun q => by
      rcases Nat.le_total (bytesS cmdB a).length (bytesS cmdB b).length with l | l
      · obtain rfl : n = (bytesS cmdB a).length := by omega
        rw [List.take_length] at q
        have := List.take_append_drop (bytesS cmdB a).length (bytesS cmdB b)
        rw [← q] at this
        exact e (icon_inj (s := List.drop (bytesS cmdB a).length (bytesS cmdB b)) (t := []) ha hb (by rw [List.append_nil]; exact this)).1
      · obtain rfl : n = (bytesS cmdB b).length := by omega
        rw [List.take_length] at q
        have := List.take_append_drop (bytesS cmdB b).length (bytesS cmdB a)
        rw [q] at this
        exact e (icon_inj (s := []) (t := List.drop (bytesS cmdB b).length (bytesS cmdB a)) ha hb (by rw [List.append_nil]; exact this.symm)).1
    rw [decide_eq_false e, decide_eq_false this]
end
end Go.VL.En

/- 'glyphiclaw6.EncodeShort' answers true, whatever it is given. -/
namespace Go.VL.En
open Go.FR Go.IR Go.VL Go.VL.Color Go.VL.Wind Go.VL.Ic Go.VL.Wire
noncomputable section
set_option linter.unusedSimpArgs false
set_option linter.unusedVariables false
set_option maxRecDepth 100000
set_option maxHeartbeats 1000000

def ptN (x y : Int) : Nat → Pt
  | 0 => ⟨0, 0⟩
  | k + 1 => ⟨(ptN x y k).x + x, (ptN x y k).y + y⟩
def segN (x y : Int) (k : Nat) : Seg := ⟨1, ptN x y (k + 1), ⟨0, 0⟩, ⟨0, 0⟩⟩
def segsN (x y : Int) (n : Nat) : List Seg := (List.range n).map (segN x y)
theorem segsN_len (x y : Int) (n : Nat) : (segsN x y n).length = n := by simp [segsN]
theorem segsN_snoc (x y : Int) (n : Nat) : segsN x y (n + 1) = segsN x y n ++ [segN x y n] := by simp [segsN, List.range_succ]
theorem ptN_near {x y : Int} (hx : -1 ≤ x ∧ x ≤ 1) (hy : -1 ≤ y ∧ y ≤ 1) : ∀ k : Nat, NearM k (ptN x y k)
  | 0 => by simp [ptN, NearM]
  | k + 1 => by
    obtain ⟨⟨a, b⟩, c, d⟩ := ptN_near hx hy k
    refine ⟨⟨?_, ?_⟩, ?_, ?_⟩ <;> simp only [ptN] <;> omega
def pathN (x y : Int) (n : Nat) : Path := ⟨⟨0, 0⟩, segsN x y n, false⟩
def cmdN (x y : Int) (n : Nat) : Cmd := ⟨1, 0, 0, ⟨0, 0, 0, ⟨0, 0⟩, ⟨0, 0⟩⟩, [pathN x y n]⟩
def iconN (x y : Int) (n : Nat) : Icon := ⟨100, 100, 0, [⟨1, 0, 0, 0⟩], [cmdN x y n]⟩
theorem runsN (x y : Int) : ∀ n, runsS (segsN x y (n + 1)) = [(1, n + 1)]
  | 0 => by rw [segsN_snoc]; rfl
  | n + 1 => by
    have h := runsN x y n
    rw [segsN_snoc]
    unfold runsS at h ⊢
    rw [List.foldl_append, h]
    show pushR ([] ++ [(1, n + 1)]) 1 = _
    rw [pushR_snoc, if_pos rfl]; rfl
theorem endN (x y : Int) : ∀ n, endPt ⟨0, 0⟩ (segsN x y n) = ptN x y n
  | 0 => rfl
  | n + 1 => by rw [segsN_snoc, end_snoc]; rfl
theorem zig1 {x : Int} (hx : -1 ≤ x ∧ x ≤ 1) : (putS (zigS x)).length = 1 := by
  have : zigS x < 128 := by unfold zigS; split <;> omega
  rw [putS_lt this]; rfl
theorem lenN {x y : Int} (hx : -1 ≤ x ∧ x ≤ 1) (hy : -1 ≤ y ∧ y ≤ 1) : ∀ n, (segsB ⟨0, 0⟩ (segsN x y n)).length = 2 * n
  | 0 => rfl
  | n + 1 => by
    have e : deltaB (ptN x y n) (ptsOf (segN x y n)) = pointB ⟨x, y⟩ := by
      show pointB (subPt (ptN x y (n + 1)) (ptN x y n)) ++ [] = _
      rw [List.append_nil]
      congr 1
      unfold subPt
      simp only [ptN, Pt.mk.injEq]; omega
    rw [segsN_snoc, segs_snoc, endN, List.length_append, lenN hx hy n, e]
    unfold pointB
    rw [List.length_append, zig1 hx, zig1 hy]; omega
theorem sizeN {x y : Int} (hx : -1 ≤ x ∧ x ≤ 1) (hy : -1 ≤ y ∧ y ≤ 1) (n : Nat) (h0 : 1 ≤ n) (hn : n ≤ 300) : ((bytesS cmdB (iconN x y n)).length : Int) = if 4 * (n : Int) + 1 < 128 then 21 + 2 * (n : Int) - 1 else 21 + 2 * (n : Int) := by
  obtain ⟨m, rfl⟩ : ∃ m, n = m + 1 := ⟨n - 1, by omega⟩
  have p0 : putS 0 = [0] := putS_lt (by omega)
  have p1 : putS 1 = [1] := putS_lt (by omega)
  have p2 : putS 2 = [2] := putS_lt (by omega)
  have p100 : putS 100 = [100] := putS_lt (by omega)
  have r := runsN x y m
  have l := lenN hx hy (m + 1)
  have tk : (segsN x y (m + 1)).take (m + 1) = segsN x y (m + 1) := List.take_of_length_le (by rw [segsN_len]; omega)
  have z0 : zigS 0 = 0 := rfl
  have pl : (pathB (pathN x y (m + 1))).length = 3 + (putS (4 * (m + 1) + 1)).length + 2 * (m + 1) := by
    unfold pathB pathN
    simp only [r, runsB, tk, List.length_append, l, pointB, z0, p0, List.length_cons, List.length_nil, Nat.zero_add, Nat.mul_one]
    have : (2 * 1 + if (false = true) then 1 else 0) = 2 := rfl
    simp [p2]; omega
  have bl : (bytesS cmdB (iconN x y (m + 1))).length = 16 + (pathB (pathN x y (m + 1))).length := by
    generalize hp : (pathB (pathN x y (m + 1))).length = L at *
    simp [bytesS, iconN, numsB, colorsB, colorB, cmdB, cmdN, paintB, p0, p1, p100, hp]
    omega
  rw [bl, pl]
  split
  · rw [putS_lt (by omega)]; simp; omega
  · rw [putS_ge (by omega), putS_lt (by omega)]; simp; omega
theorem fitN (x y : Int) (n : Nat) (hn : n ≤ 300) : (iconN x y n).Fit := by
  refine ⟨by simp [iconN], by simp [iconN], fun c hc => ?_⟩
  simp only [iconN, List.mem_singleton] at hc
  subst hc
  refine ⟨by simp [cmdN], fun p hp => ?_⟩
  simp only [cmdN, List.mem_singleton] at hp
  subst hp
  simp only [pathN, segsN_len]; omega
theorem checkN {x y : Int} (hx : -1 ≤ x ∧ x ≤ 1) (hy : -1 ≤ y ∧ y ≤ 1) (n : Nat) (h0 : 1 ≤ n) (hn : n ≤ 300) : checkS (iconN x y n) = none := by
  have sz : sizedS (iconN x y n) = true := by simp [sizedS, iconN, inS]
  have g : greatS (iconN x y n) = 400 := by unfold greatS; rw [if_pos sz]; rfl
  have pz : ∀ m : Int, 0 ≤ m → farS ⟨0, 0⟩ m = false := fun m hm => by
    have : inS 0 (-m) m = true := inS_true.mpr (by omega)
    simp [farS, this]
  have sg : ∀ s ∈ segsN x y n, segS s 400 = none := fun s hs => by
    simp only [segsN, List.mem_map, List.mem_range] at hs
    obtain ⟨k, hk, rfl⟩ := hs
    obtain ⟨⟨a, b⟩, c, d⟩ := ptN_near hx hy (k + 1)
    have f : farS (ptN x y (k + 1)) 400 = false := by
      have i1 : inS (ptN x y (k + 1)).x (-400) 400 = true := inS_true.mpr (by omega)
      have i2 : inS (ptN x y (k + 1)).y (-400) 400 = true := inS_true.mpr (by omega)
      simp [farS, i1, i2]
    have i3 : inS (1 : Int) 1 3 = true := inS_true.mpr (by omega)
    simp [segS, segN, segPts, i3, f, zeroP]
  have ne : ¬ (segsN x y n).length = 0 := by rw [segsN_len]; omega
  have lt : ¬ 400 < (segsN x y n).length := by rw [segsN_len]; omega
  have pa : pathS (pathN x y n) true 400 = none := by
    unfold pathS pathN
    simp only
    rw [if_neg (by simp), if_neg ne, if_neg lt, if_neg (by rw [pz 400 (by omega)]; simp)]
    exact firstS_none.mpr sg
  have cm : cmdS (cmdN x y n) 1 400 = none := by
    have i1 : inS (0 : Int) 0 1 = true := inS_true.mpr (by omega)
    have i2 : inS (0 : Int) 0 2 = true := inS_true.mpr (by omega)
    have i3 : inS (0 : Int) 0 0 = true := inS_true.mpr (by omega)
    simp [cmdS, cmdN, headS, paintS, i1, i2, i3, zeroP, firstS, pa]
  have pt : ¬ pointsS (iconN x y n) > 4000 := by
    have : ∀ m, sumS' (fun s : Seg => s.kind) (segsN x y m) = m := fun m => by
      induction m with
      | zero => rfl
      | succ m ih =>
        rw [segsN_snoc]
        have sa : ∀ (l : List Seg) (s : Seg), sumS' (fun s => s.kind) (l ++ [s]) = sumS' (fun s => s.kind) l + s.kind := fun l s => by
          induction l with
          | nil => simp [sumS']
          | cons t l ih => simp only [List.cons_append, sumS', ih]; omega
        rw [sa, ih]; simp [segN]
    simp only [pointsS, iconN, cmdN, pathN, sumS', this]; omega
  have us : usedS (iconN x y n) = true := by simp [usedS, iconN, cmdN, useAll, nextUse, usesOf, onceS]
  unfold checkS
  rw [sz, g, us]
  simp only [Bool.true_eq_false, if_false]
  rw [if_neg (by simp [iconN])]
  have : firstS (fun c => cmdS c (iconN x y n).colors.length 400) (iconN x y n).cmds = none := by
    simp only [iconN, firstS, List.length_cons, List.length_nil, Nat.zero_add]
    have e : ((1 : Nat) : Int) = 1 := rfl
    rw [e, cm]
  rw [this]
  simp only
  rw [if_neg pt]
theorem short_loop {Gl : xzt} (x y : Int) (hx : -1 ≤ x ∧ x ≤ 1) (hy : -1 ≤ y ∧ y ≤ 1) (n : Nat) (hn : n ≤ 300) (K : AEx → VF → VH → Prop)
    (hK : ∀ T h j v, qzw T 0 = some (.int .i64 n) → qzw T 7 = some (.bool true) → qzw T 8 = some (.ptr 0 0) → qzw h.l 0 = some (some (.cells [.int .i64 0, .int .i64 0, v, .bool false] false)) → AccAt 2 h j cSeg (segsN x y n) 7 v → 2 ≤ h.next → K (.exit 0) T h) :
    ∀ (d i : Nat) (T : VF) (h : VH) (j : Nat) (v : VV), d + i = n → qzw T 0 = some (.int .i64 n) → qzw T 1 = some (.int .i64 x) → qzw T 2 = some (.int .i64 y) → qzw T 7 = some (.bool true) → qzw T 8 = some (.ptr 0 0) → qzw T 9 = some (.ptr 1 0) → qzw T 10 = some (.int .i64 i) →
      qzw h.l 0 = some (some (.cells [.int .i64 0, .int .i64 0, v, .bool false] false)) → qzw h.l 1 = some (some (.cells (cPt (ptN x y i)) false)) → AccAt 2 h j cSeg (segsN x y i) 7 v → 2 ≤ h.next →
    wp Go.VL.Er.E Gl (.loop c_glyphiclaw6_EncodeShort_l0) T h K := by
  intro d
  induction d with
  | zero =>
    intro i T h j v hd t0 t1 t2 t7 t8 t9 t10 i0 i1 q hn2
    obtain rfl : i = n := by omega
    refine xzn c_glyphiclaw6_EncodeShort_l0.eq_1 ?_
    simp only [qzz, qzk, qzo, qzC, qzV, qzv, qzn, qzi, xzd, qzU, qzf, qze, qzd, qzp, qzc, qzb, qzg, qzh, qzl, qzm, qzt, qza, qzs, qzu, qzx, qzI, qzJ, toA, ofA, FR.pop, abin, intBin, ↓reduceIte, Nat.reduceEqDiff, reduceCtorEq, true_and, Bool.false_eq_true, decide_false, forall_const, false_implies, reduceCtorEq, t0, t10, Int.lt_irrefl]
    refine hK _ _ j v ?_ ?_ ?_ i0 q hn2
    · simp only [qza, ↓reduceIte, reduceCtorEq, reduceCtorEq, t0]
    · simp only [qza, ↓reduceIte, Nat.reduceEqDiff, t7]
    · simp only [qza, ↓reduceIte, Nat.reduceEqDiff, t8]
  | succ d ih =>
    intro i T h j v hd t0 t1 t2 t7 t8 t9 t10 i0 i1 q hn2
    refine xzn c_glyphiclaw6_EncodeShort_l0.eq_1 ?_
    have c : (i : Int) < n := by omega
    obtain ⟨⟨a1, a2⟩, a3, a4⟩ := ptN_near hx hy i
    have w1 : IntKind.i64.wrap ((ptN x y i).x + x) = (ptN x y (i + 1)).x := qzY (by omega) (by omega)
    have w2 : IntKind.i64.wrap ((ptN x y i).y + y) = (ptN x y (i + 1)).y := qzY (by omega) (by omega)
    have hw : IntKind.i64.wrap ((i : Int) + 1) = ((i + 1 : Nat) : Int) := by rw [qzY (by omega) (by omega)]; rfl
    have y0 : ¬ h.next = 0 := by omega
    have y1 : ¬ h.next = 1 := by omega
    simp only [qzz, qzk, qzo, qzC, qzV, qzv, qzn, qzi, xzd, qzU, qzf, qze, qzd, qzp, qzF, qzX, qzN, qzy, qzc, qzj, qzE, qzb, xza, qzg, qzh, qzO, xzb, qzl, qzm, qzt, qza, qzs, qzu, qzx, qzG, qzL, qzB, xzh, xzE, xzv, qzW, xzg, xzq, qzA, cvs, cv, qzI, qzJ, toA, ofA, FR.pop, abin, intBin, VN.at, VH.push, VH.set, qzq, VV.cells, ntV, qzS, xzz, ↓reduceIte, Option.getD_some, List.getElem?_cons_zero, List.getElem?_cons_succ, List.length_cons, List.length_nil, List.drop_succ_cons, List.drop_zero, List.take_succ_cons, List.take_zero, List.append_nil, List.nil_append, List.cons_append, List.head?_cons, Nat.reduceAdd, Nat.reduceDiv, Nat.reduceEqDiff, reduceCtorEq, Nat.reduceLeDiff, Nat.add_zero, Nat.zero_add, and_self, and_true, decide_true, forall_const, false_implies, Bool.true_eq_false, reduceCtorEq, cPt, t0, t1, t2, t8, t9, t10, c, i0, i1, w1, w2]
    have q' : AccAt 2 ⟨(h.next, some (VB.cells (cSeg (segN x y i)) false)) :: (1, some (VB.cells (cPt (ptN x y (i + 1))) false)) :: h.l, h.next + 1⟩ j cSeg (segsN x y i) 7 v := q.ext (by show h.next ≤ h.next + 1; omega) (fun x y => by simp only [qza]; rw [if_neg (by omega), if_neg (by omega)])
    refine wpW_acc (base := 2) (j := j) (f := cSeg) (l := segsN x y i) (a := segN x y i) q' (by simp only [segN]; simp only [qza, srcV, winV, qzq, ↓reduceIte, Option.getD_some, List.length_cons, List.length_nil, List.drop_zero, List.take_succ_cons, List.take_zero, Nat.reduceAdd, Nat.reduceMul, reduceCtorEq, Nat.reduceLeDiff, Nat.zero_add, true_or, reduceCtorEq, true_or, cSeg] <;> first | rfl | exact ⟨rfl, rfl⟩ | exact qzr rfl) cSeg_len (by omega) (by show 2 ≤ h.next + 1; omega) (by rw [segsN_len]; omega) (by rw [segsN_len]; omega) ?_
    intro h' g1 g2 g3
    simp only at g1 g2 g3
    rw [← segsN_snoc] at g3
    have n0 : 0 ≠ j ∨ v = .nilS := q.ne (.inl (by omega))
    have n1 : 1 ≠ j ∨ v = .nilS := q.ne (.inl (by omega))
    have j0 := g2 0 (by omega) n0
    have j1 := g2 1 (by omega) n1
    have i0' : qzw h'.l 0 = some (some (.cells [.int .i64 0, .int .i64 0, v, .bool false] false)) := by rw [j0]; simp only [qza]; rw [if_neg (by omega), if_neg (by omega)]; exact i0
    have i1' : qzw h'.l 1 = some (some (.cells (cPt (ptN x y (i + 1))) false)) := by rw [j1]; simp only [qza]; rw [if_neg (by omega), if_pos trivial]
    simp only [qzk, qzi, xzc, xzm, qzf, qze, qzd, qzp, qzN, qzy, qzc, qzb, xza, qzg, qzh, xzb, qzl, qzm, qzt, qza, qzs, qzu, qzx, qzG, qzW, xzg, xzq, cv, qzI, qzJ, toA, ofA, FR.pop, abin, intBin, VH.set, qzq, VV.cells, ntV, qzS, xzz, ↓reduceIte, Option.getD_some, List.length_cons, List.length_nil, List.drop_succ_cons, List.drop_zero, List.take_succ_cons, List.take_zero, List.nil_append, List.cons_append, List.head?_cons, Nat.reduceAdd, Nat.reduceEqDiff, Nat.reduceLeDiff, Nat.zero_add, and_self, t8, t10, i0', hw]
    refine ih (i + 1) _ _ (h.next + 1) (.slice (h.next + 1) 0 ((segsN x y i).length + 1) 7 (.toEnd 7)) (by omega) ?_ ?_ ?_ ?_ ?_ ?_ ?_ ?_ ?_ ?_ ?_
    · simp only [qza, ↓reduceIte, reduceCtorEq, reduceCtorEq, t0]
    · simp only [qza, ↓reduceIte, Nat.reduceEqDiff, t1]
    · simp only [qza, ↓reduceIte, Nat.reduceEqDiff, t2]
    · simp only [qza, ↓reduceIte, Nat.reduceEqDiff, t7]
    · simp only [qza, ↓reduceIte, Nat.reduceEqDiff, t8]
    · simp only [qza, ↓reduceIte, Nat.reduceEqDiff, t9]
    · simp only [qza, ↓reduceIte]
    · simp only [qza, ↓reduceIte]
    · simp only [qza, ↓reduceIte, reduceCtorEq, reduceCtorEq, cPt, i1']
    · exact g3.ext (Nat.le_refl _) (fun x y => by simp only [qza]; rw [if_neg (by omega)])
    · show 2 ≤ h'.next; omega
theorem short_run {Gl : xzt} (hG : IcG Gl) (n x y : Int) :
    CallsV Go.VL.Er.E Gl f_glyphiclaw6_EncodeShort [.int .i64 n, .int .i64 x, .int .i64 y] h0 (fun v _ => v = .bool true) := by
  refine xzf E_glyphiclaw6_EncodeShort ?_
  unfold c_glyphiclaw6_EncodeShort r_glyphiclaw6_EncodeShort
  simp only [xzB]
  simp only [qzk, qzo, qzi, qzf, qze, qzd, qzp, qzN, qzc, qzb, qzg, qzh, qzD, qzl, qzm, qzt, qzs, qzu, qzx, cv, h0, Nat.reduceAdd, Nat.zero_add, t_p_api_At, t_p_errors_errorString]
  refine qzZ (first6_ok hG) rfl rfl ?_
  have r0 := Int.lt_tmod_of_pos n (show (0:Int) < 300 by omega)
  have r1 := Int.tmod_lt_of_pos n (show (0:Int) < 300 by omega)
  have m0 : 0 ≤ (n.tmod 300 + 300).tmod 300 := Int.tmod_nonneg _ (by omega)
  have m1 : (n.tmod 300 + 300).tmod 300 < 300 := Int.tmod_lt_of_pos _ (by omega)
  have x0 := Int.lt_tmod_of_pos x (show (0:Int) < 2 by omega)
  have x1 := Int.tmod_lt_of_pos x (show (0:Int) < 2 by omega)
  have y0 := Int.lt_tmod_of_pos y (show (0:Int) < 2 by omega)
  have y1 := Int.tmod_lt_of_pos y (show (0:Int) < 2 by omega)
  have u1 : IntKind.i64.wrap (n.tmod 300) = n.tmod 300 := qzY (by omega) (by omega)
  have u2 : IntKind.i64.wrap (n.tmod 300 + 300) = n.tmod 300 + 300 := qzY (by omega) (by omega)
  have u3 : IntKind.i64.wrap ((n.tmod 300 + 300).tmod 300) = (n.tmod 300 + 300).tmod 300 := qzY (by omega) (by omega)
  obtain ⟨N, hN⟩ : ∃ N : Nat, (n.tmod 300 + 300).tmod 300 + 1 = N := ⟨((n.tmod 300 + 300).tmod 300 + 1).toNat, by omega⟩
  have u4 : IntKind.i64.wrap ((n.tmod 300 + 300).tmod 300 + 1) = N := by rw [hN]; exact qzY (by omega) (by omega)
  have u5 : IntKind.i64.wrap (x.tmod 2) = x.tmod 2 := qzY (by omega) (by omega)
  have u6 : IntKind.i64.wrap (y.tmod 2) = y.tmod 2 := qzY (by omega) (by omega)
  obtain ⟨X, hX⟩ : ∃ X, x.tmod 2 = X := ⟨_, rfl⟩
  obtain ⟨Y, hY⟩ : ∃ Y, y.tmod 2 = Y := ⟨_, rfl⟩
  rw [hX] at u5 x0 x1
  rw [hY] at u6 y0 y1
  have hx : -1 ≤ X ∧ X ≤ 1 := by omega
  have hy : -1 ≤ Y ∧ Y ≤ 1 := by omega
  simp only [qzz, qzk, qzo, qzC, qzH, qzv, qzn, qzi, qzR, qzf, qze, qzd, qzp, qzX, qzN, qzy, qzK, qzc, qzE, qzb, xza, qzg, qzh, qzO, xzb, qzl, qzm, qzt, qza, qzs, qzu, qzx, xzh, xzE, xzv, qzW, xzg, xzq, cvs, cv, qzI, qzJ, toA, ofA, FR.pop, abin, aun, intBin, VN.at, VH.push, VH.set, qzq, VV.cells, ntV, qzQ, qzM, qzT, qzP, qzS, xzz, ↓reduceIte, Option.getD_some, List.length_cons, List.length_nil, List.drop_succ_cons, List.drop_zero, List.take_zero, List.append_nil, List.nil_append, List.head?_cons, Nat.reduceAdd, Nat.reduceEqDiff, reduceCtorEq, Nat.reduceLeDiff, Int.reduceEq, Nat.zero_add, and_self, true_and, Bool.not_true, Bool.false_eq_true, forall_const, false_implies, reduceCtorEq, u2, u4, hX, hY]
  refine short_loop X Y hx hy N (by omega) _ ?_ N 0 _ _ 0 .nilS (by omega) ?_ ?_ ?_ ?_ ?_ ?_ ?_ ?_ ?_ AccAt.nil (by show 2 ≤ 2; omega)
  rotate_left
  all_goals try first | (simp only [qzk, qzo, qzi, xzu, qze, qzd, qzp, qzX, qzc, qzE, qzb, qzg, qzh, qzO, qzl, qzm, qzt, qza, qzs, qzu, xzh, xzE, xzv, qzW, cvs, cv, VN.at, VH.push, VV.cells, ntV, ↓reduceIte, List.length_cons, List.length_nil, List.drop_succ_cons, List.drop_zero, List.take_zero, List.append_nil, List.nil_append, List.cons_append, Nat.reduceAdd, Nat.reduceDiv, Nat.reduceEqDiff, reduceCtorEq, Nat.reduceLeDiff, Nat.zero_add, and_self, reduceCtorEq, cPt]; done) | (simp only [qzk, qzo, qzi, xzu, qze, qzd, qzp, qzX, qzc, qzE, qzb, qzg, qzh, qzO, qzl, qzm, qzt, qza, qzs, qzu, xzh, xzE, xzv, qzW, cvs, cv, VN.at, VH.push, VV.cells, ntV, ↓reduceIte, List.length_cons, List.length_nil, List.drop_succ_cons, List.drop_zero, List.take_zero, List.append_nil, List.nil_append, List.cons_append, Nat.reduceAdd, Nat.reduceDiv, Nat.reduceEqDiff, Nat.reduceLeDiff, Nat.zero_add, and_self, cPt]; rfl)
  intro T h j v t0 t7 t8 i0 q hn
  obtain ⟨rfl, q2, q3, q4⟩ := q.some (fun e => by have := segsN_len X Y N; rw [e] at this; simp at this; omega)
  rw [segsN_len] at i0
  have y0 : ¬ h.next = 0 := by omega
  simp only [qzk, qzo, qzi, xzu, qzf, qze, qzd, qzp, qzF, qzX, qzN, qzy, qzc, qzj, qzE, qzb, xza, qzg, qzh, qzO, xzb, qzD, qzl, qzm, qzt, qza, qzs, qzu, qzL, qzB, xzh, xzE, xzv, qzW, xzg, xzq, qzA, cvs, cv, VN.at, VH.push, VH.set, qzq, VV.cells, ntV, qzS, xzz, ↓reduceIte, Option.getD_some, List.length_cons, List.length_nil, List.drop_succ_cons, List.drop_zero, List.take_succ_cons, List.take_zero, List.append_nil, List.nil_append, List.cons_append, List.head?_cons, Nat.reduceAdd, Nat.reduceDiv, Nat.reduceEqDiff, Nat.reduceLeDiff, Nat.zero_add, and_self, t8, i0, y0]
  have bk := bytes_right hG (iconN X Y N) (fitN X Y N (by omega)) (checkN hx hy N (by omega) (by omega)) (fun c hc => by simp only [iconN, List.mem_singleton] at hc; subst hc; unfold Cl.In; simp)
  have sz := sizeN hx hy N (by omega) (by omega)
  generalize bytesS cmdB (iconN X Y N) = B at *
  have k1 : ¬ h.next + 1 = h.next := by omega
  have k2 : ¬ h.next + 1 + 1 = h.next := by omega
  have k3 : ¬ h.next + 1 + 1 + 1 = h.next := by omega
  have k4 : ¬ h.next + 1 + 1 + 1 = h.next + 1 := by omega
  have k5 : ¬ h.next + 1 + 1 + 1 = h.next + 1 + 1 := by omega
  have k6 : ¬ h.next + 1 + 1 = h.next + 1 := by omega
  have z0 : ¬ h.next = j := by omega
  have z1 : ¬ h.next + 1 = j := by omega
  have z2 : ¬ h.next + 1 + 1 = j := by omega
  have z3 : ¬ h.next + 1 + 1 + 1 = j := by omega
  refine call_deepL_refs bk (shut_icon (shut_cols [⟨1, 0, 0, 0⟩] (by simp only [qza, qzq, ↓reduceIte, Option.getD_some, k1, k2, k3]; rfl) rfl (Nat.le_refl _)) (shut_cmds1 (cmdN X Y N) (by simp only [qza, qzq, ↓reduceIte, Option.getD_some, k5]; rfl) (shut_paths1 (pathN X Y N) (by simp only [qza, qzq, ↓reduceIte, Option.getD_some, k4, k6]; rfl) (by
    have e : (pathN X Y N).segs.length = N := segsN_len X Y N
    rw [e]
    exact shut_segs (segsN X Y N) (by simp only [qza, qzq, ↓reduceIte, Option.getD_some, z0, z1, z2, z3, q2]; rfl) (segsN_len X Y N) (by simp [capOK]))))) ?_
  have v1 : IntKind.i64.wrap (2 * (N : Int)) = 2 * (N : Int) := qzY (by omega) (by omega)
  have v2 : IntKind.i64.wrap (21 + 2 * (N : Int)) = 21 + 2 * (N : Int) := qzY (by omega) (by omega)
  have v3 : IntKind.i64.wrap (4 * (N : Int)) = 4 * (N : Int) := qzY (by omega) (by omega)
  have v4 : IntKind.i64.wrap (4 * (N : Int) + 1) = 4 * (N : Int) + 1 := qzY (by omega) (by omega)
  have v5 : IntKind.i64.wrap (21 + 2 * (N : Int) - 1) = 21 + 2 * (N : Int) - 1 := qzY (by omega) (by omega)
  by_cases c : 4 * (N : Int) + 1 < 128
  · rw [if_pos c] at sz
    simp only [qzz, qzk, qzo, qzH, qzv, qzn, qzi, qzf, qze, qzd, qzp, qzF, qzy, qzK, qzc, qzj, qzb, qzg, qzh, qzl, qzm, qzt, qza, qzs, qzu, qzx, xzj, extV, xzi, qzL, xzI, xzJ, eqIV, cv, qzI, qzJ, toA, ofA, FR.pop, abin, intBin, qzQ, qzM, qzT, qzP, ↓reduceIte, List.getElem?_cons_zero, List.getElem?_cons_succ, Nat.reduceEqDiff, reduceCtorEq, and_self, Bool.false_eq_true, beq_self_eq_true, decide_true, forall_const, false_implies, Bool.true_eq_false, reduceCtorEq, t0, t7, v1, v2, v3, v4, v5, c, sz] <;> first | rfl | exact ⟨rfl, rfl⟩ | exact qzr rfl
  · rw [if_neg c] at sz
    simp only [qzz, qzk, qzo, qzH, qzv, qzn, qzi, qzf, qze, qzd, qzp, qzF, qzy, qzK, qzc, qzj, qzb, qzg, qzh, qzl, qzm, qzt, qza, qzs, qzu, qzx, xzj, extV, xzi, qzL, xzI, xzJ, eqIV, cv, qzI, qzJ, toA, ofA, FR.pop, abin, intBin, qzQ, qzM, qzT, qzP, ↓reduceIte, List.getElem?_cons_zero, List.getElem?_cons_succ, Nat.reduceEqDiff, reduceCtorEq, and_self, Bool.false_eq_true, beq_self_eq_true, decide_false, forall_const, false_implies, reduceCtorEq, t0, t7, v1, v2, v3, v4, v5, c, sz] <;> first | rfl | exact ⟨rfl, rfl⟩ | exact qzr rfl
theorem encodeShort (Gl : xzt) (hG : IcG Gl) (n : Int) (_ : IntKind.i64.min ≤ n) (_ : n ≤ IntKind.i64.max) (x : Int) (_ : IntKind.i64.min ≤ x) (_ : x ≤ IntKind.i64.max) (y : Int) (_ : IntKind.i64.min ≤ y) (_ : y ≤ IntKind.i64.max) :
    CallsV Go.VL.Er.E Gl f_glyphiclaw6_EncodeShort [.int .i64 n, .int .i64 x, .int .i64 y] h0 (fun v _ => v = .bool true) := short_run hG n x y
end
end Go.VL.En
