import Derived.Test.YtbamfhdgikeneaaDoorMkF
import Derived.Test.YtbamfhdgikeneaaDoorIcE
import Derived.Test.YtbamfhdgikeneaaDoorMkA
/- What is made is right. -/
namespace Go.VL.Mk
open Go.FR Go.IR Go.VL Go.VL.Color Go.VL.Wind Go.VL.Ic Go.VL.Pal
noncomputable section
set_option linter.unusedSimpArgs false
set_option linter.unusedVariables false

theorem idx_lt (c : Cl) : ∀ (l : List Cl) (k : Nat), idxS l c k < ((k + l.length : Nat) : Int)
  | [], k => by simp [idxS]; omega
  | x :: l, k => by
    rw [idxS]
    split
    · simp; omega
    · have := idx_lt c l (k + 1)
      simp only [List.length_cons]; omega
theorem add_in (cs : List Cl) (c : Cl) : 0 ≤ addP cs c ∧ addP cs c < (addI cs c).length := by
  have h := idx_lt c cs 0
  unfold addP addI
  split
  · omega
  · simp; omega
theorem add_use (cs : List Cl) (c : Cl) (l : List Int) : nextUse cs.length (addP cs c :: l) = nextUse (addI cs c).length l := by
  have h := idx_lt c cs 0
  unfold addP addI
  rw [nextUse]
  split
  · rw [if_neg (by omega), if_neg (by omega)]
  · rw [if_neg (by omega), if_pos rfl]; simp
theorem add_nodup (cs : List Cl) (c : Cl) (h : cs.Nodup) : (addI cs c).Nodup := by
  unfold addI
  split
  · exact h
  · rename_i hn
    have hc : c ∉ cs := fun hm => hn ((idx_mem c cs 0).mpr hm)
    rw [List.nodup_append]
    exact ⟨h, by simp, fun a ha b hb e => by rw [List.mem_singleton] at hb; rw [e, hb] at ha; exact hc ha⟩
theorem once_nodup : ∀ (l s : List Cl), (s ++ l).Nodup → onceS s l = true
  | [], s, _ => rfl
  | c :: l, s, h => by
    rw [onceS]
    have hc : c ∉ s := fun hm => by
      rw [List.nodup_append] at h
      exact h.2.2 c hm c (.head _) rfl
    rw [if_neg hc]
    exact once_nodup l (s ++ [c]) (by rw [List.append_assoc]; exact h)

def NearP (p : Pt) (m : Int) : Prop := (-m ≤ p.x ∧ p.x ≤ m) ∧ -m ≤ p.y ∧ p.y ≤ m
theorem far_no {p : Pt} {m : Int} (h : NearP p m) : farS p m = false := by
  obtain ⟨⟨h1, h2⟩, h3, h4⟩ := h
  unfold farS inS
  rw [if_pos h1, if_pos h3]; simp [h2, h4]
theorem in_yes {n lo hi : Int} (h1 : lo ≤ n) (h2 : n ≤ hi) : inS n lo hi = true := by
  unfold inS; rw [if_pos h1]; simp [h2]
theorem near_le {p : Pt} {m k : Int} (h : NearP p m) (hk : m ≤ k) : NearP p k := by
  unfold NearP at h ⊢; omega
theorem near_z {m : Int} (h : 0 ≤ m) : NearP zP m := by unfold NearP zP; simp only; omega
theorem near_point (l : List Int) (a : Nat) (far : Int) (h : 0 ≤ far) : NearP (pointS l a far) far := by
  have := point_in l a far h
  unfold NearP; omega
theorem near_inside (l : List Int) (a : Nat) (far : Int) (h : 0 ≤ far) : NearP (insideS l a far) far := by
  unfold insideS
  split
  · exact near_point l _ far h
  · have h1 := next_in l (a + 1) (far + 1) (by omega)
    have h2 := next_in l (a + 2) (far + 1) (by omega)
    unfold NearP; simp only; omega
theorem seg_right (l : List Int) (a : Nat) (far m : Int) (h : 0 ≤ far) (hm : far ≤ m) : segS (segOf l a far) m = none := by
  obtain ⟨k1, k2, k3⟩ := segN_in l a
  have i1 := far_no (near_le (near_inside l (a + 1) far h) hm)
  have i2 := far_no (near_le (near_inside l (a + 1 + 3) far h) hm)
  have i3 := far_no (near_le (near_inside l (a + 1 + 6) far h) hm)
  have hz : zeroP zP := ⟨rfl, rfl⟩
  unfold segOf segP
  have hc : segN l a = 1 ∨ segN l a = 2 ∨ segN l a = 3 := by omega
  have r1 : inS 1 1 3 = true := by decide
  have r2 : inS 2 1 3 = true := by decide
  have r3 : inS 3 1 3 = true := by decide
  rcases hc with e | e | e
  all_goals
    rw [e]
    simp [segS, segPts, r1, r2, r3, i1, i2, i3, hz]
theorem segs_right (l : List Int) (far m : Int) (h : 0 ≤ far) (hm : far ≤ m) : ∀ n a, ∀ s ∈ segsS l far n a, segS s m = none
  | 0, a, s, hs => by cases hs
  | n + 1, a, s, hs => by
    rw [segsS] at hs
    rcases List.mem_cons.mp hs with rfl | hs
    · exact seg_right l a far m h hm
    · exact segs_right l far m h hm n _ s hs
theorem path_right (l : List Int) (a : Nat) (far m : Int) (b f : Bool) (h : 0 ≤ far) (hm : far ≤ m) (hb : (f && b) = false) : pathS (pathOf l a far b) f m = none := by
  have hl := segsS_len l far (pathN l a) (a + 4)
  obtain ⟨k1, k2, k3⟩ := pathN_in l a
  unfold pathS pathOf
  simp only
  rw [if_neg (by simp [hb]), if_neg (by omega), if_neg (by omega), if_neg (by rw [far_no (near_le (near_inside l a far h) hm)]; simp)]
  exact firstS_none.mpr (segs_right l far m h hm _ _)
theorem paths_right (l : List Int) (far m : Int) (kind : Nat) (h : 0 ≤ far) (hm : far ≤ m) : ∀ n a, ∀ p ∈ pathsS l far kind n a, pathS p (decide ((kind : Int) = 1)) m = none
  | 0, a, s, hs => by cases hs
  | n + 1, a, s, hs => by
    rw [pathsS] at hs
    rcases List.mem_cons.mp hs with rfl | hs
    · refine path_right l _ far m _ _ h hm ?_
      unfold shutB'
      by_cases e : kind = 2
      · simp [e]
      · simp [e]
    · exact paths_right l far m kind h hm n _ s hs
theorem path_pts (l : List Int) (a : Nat) (far : Int) (b : Bool) : pathPts (pathOf l a far b) ≤ 13 := by
  have hl := segsS_len l far (pathN l a) (a + 4)
  obtain ⟨k1, k2, k3⟩ := pathN_in l a
  have hk : ∀ n a, ∀ s ∈ segsS l far n a, s.kind ≤ 3 := fun n => by
    induction n with
    | zero => intro a s hs; cases hs
    | succ n ih =>
      intro a s hs
      rw [segsS] at hs
      rcases List.mem_cons.mp hs with rfl | hs
      · have := segN_in l a
        show (segN l a : Int) ≤ 3; omega
      · exact ih _ s hs
  have := sum_mem_le (f := fun s : Seg => s.kind) (hk (pathN l a) (a + 4)) (by omega) 4 (by omega)
  unfold pathPts pathOf; simp only; omega
theorem paths_pts (l : List Int) (far : Int) (kind : Nat) : ∀ n a, ∀ p ∈ pathsS l far kind n a, pathPts p ≤ 13
  | 0, a, s, hs => by cases hs
  | n + 1, a, s, hs => by
    rw [pathsS] at hs
    rcases List.mem_cons.mp hs with rfl | hs
    · exact path_pts l _ far _
    · exact paths_pts l far kind n _ s hs

theorem cmd_uses (l : List Int) (far : Int) (a : Nat) (cs : List Cl) : nextUse cs.length (usesOf (cmdOf l far a cs)) = some ((colsOf l a cs).length : Int) := by
  unfold usesOf cmdOf colsOf bS
  simp only
  by_cases h : pkS l a = 0
  · rw [if_pos h, if_pos h, add_use]; rfl
  · rw [if_neg h, if_neg h, if_neg h, add_use]
    show nextUse ((cols1 l a cs).length : Int) _ = _
    rw [add_use]; rfl
theorem cols_nodup (l : List Int) (a : Nat) (cs : List Cl) (h : cs.Nodup) : (colsOf l a cs).Nodup := by
  unfold colsOf cols1
  split
  · exact add_nodup _ _ h
  · exact add_nodup _ _ (add_nodup _ _ h)
theorem head_right (l : List Int) (far : Int) (a : Nat) (cs : List Cl) (m : Int) (h : 1 ≤ far) (hm : far ≤ m) : headS (cmdOf l far a cs) m = none := by
  have n1 := next_in l (a + 1) 2 (by omega)
  have n2 := next_in l (a + 1) (max (far.tdiv 2) 1) (by omega)
  have td : 0 ≤ far.tdiv 2 ∧ far.tdiv 2 ≤ far := ⟨Int.tdiv_nonneg (by omega) (by omega), Int.tdiv_le_self _ (by omega)⟩
  rcases kind_in l a with ⟨e, _⟩ | ⟨e, _⟩
  · have r : ruleS l a = nextS l (a + 1) 2 := by unfold ruleS; rw [if_pos e]
    have w : widthS l far a = 0 := by unfold widthS; rw [if_pos e]
    unfold headS cmdOf
    simp only
    rw [r, w, if_pos ⟨by rw [e]; rfl, in_yes (by omega) (by omega), rfl⟩]
  · have r : ruleS l a = 0 := by unfold ruleS; rw [if_neg (by omega)]
    have w : widthS l far a = 1 + nextS l (a + 1) (max (far.tdiv 2) 1) := by unfold widthS; rw [if_neg (by omega)]
    unfold headS cmdOf
    simp only
    rw [r, w, if_neg (by rw [e]; simp), if_pos ⟨by rw [e]; rfl, rfl, in_yes (by omega) (by omega)⟩]
theorem near_q (l : List Int) (far : Int) (a : Nat) (h : 1 ≤ far) : NearP (qS l far a) (far + 1) := by
  unfold qS
  split
  · exact near_z (by omega)
  split
  · have := near_point l (a + 7) far (by omega)
    unfold moveS
    unfold NearP at this
    split
    · unfold NearP; simp only; omega
    · unfold NearP; omega
  · have := next_in l (a + 7) far (by omega)
    unfold NearP; simp only; omega
theorem paint_right (l : List Int) (far : Int) (a : Nat) (cs : List Cl) (n m : Int) (h : 1 ≤ far) (hm : far + 1 ≤ m) (hn : ((colsOf l a cs).length : Int) ≤ n) : paintS (cmdOf l far a cs).paint n m = none := by
  have n3 := next_in l (a + 2) 3 (by omega)
  have a1 := add_in cs (colorS l (a + 3))
  have a2 := add_in (cols1 l a cs) (colorS l (a + 4))
  have a3 := addI_len (cols1 l a cs) (colorS l (a + 4))
  have q := far_no (near_le (near_q l far a h) hm)
  have nq := near_q l far a h
  have hz : zeroP zP := ⟨rfl, rfl⟩
  unfold paintS cmdOf
  simp only
  have k1 : inS (pkS l a) 0 2 = true := in_yes (by unfold pkS; omega) (by unfold pkS; omega)
  by_cases p0 : pkS l a = 0
  · have hc : colsOf l a cs = addI cs (colorS l (a + 3)) := by unfold colsOf; rw [if_pos p0]; rfl
    rw [hc] at hn
    have k2 : inS (addP cs (colorS l (a + 3))) 0 (n - 1) = true := in_yes a1.1 (by omega)
    have e1 : bS l a cs = 0 := by unfold bS; rw [if_pos p0]
    have e2 : pS l far a = zP := by unfold pS; rw [if_pos p0]
    have e3 : qS l far a = zP := by unfold qS; rw [if_pos p0]
    rw [k1, k2, e1, e2, e3, if_neg (by simp [p0]), if_pos p0, if_neg (by simp [hz])]
  · have hc : colsOf l a cs = addI (cols1 l a cs) (colorS l (a + 4)) := by unfold colsOf; rw [if_neg p0]
    rw [hc] at hn
    have hc1 : cols1 l a cs = addI cs (colorS l (a + 3)) := rfl
    rw [← hc1] at a1
    have k2 : inS (addP cs (colorS l (a + 3))) 0 (n - 1) = true := in_yes a1.1 (by omega)
    have e1 : bS l a cs = addP (cols1 l a cs) (colorS l (a + 4)) := by unfold bS; rw [if_neg p0]
    have e2 : pS l far a = pointS l (a + 5) far := by unfold pS; rw [if_neg p0]
    have k3 : inS (bS l a cs) 0 (n - 1) = true := in_yes (by omega) (by omega)
    have kp : farS (pS l far a) m = false := by rw [e2]; exact far_no (near_le (near_point l _ far (by omega)) (by omega))
    rw [k1, k2, k3, if_neg (by simp), if_neg p0, kp, if_neg (by simp)]
    by_cases p1 : pkS l a = 1
    · rw [if_pos p1, q, if_neg ?_]
      have e3 : qS l far a = moveS (pointS l (a + 5) far) (pointS l (a + 7) far) := by unfold qS; rw [if_neg p0, if_pos p1]
      intro o
      rcases o with o | o
      · cases o
      · rw [e2, e3] at o
        unfold moveS sameP at o
        split at o
        · rename_i g; simp only at o; omega
        · rename_i g; exact g o
    · have e3 : qS l far a = ⟨1 + nextS l (a + 7) far, 0⟩ := by unfold qS; rw [if_neg p0, if_neg p1]
      have nf := next_in l (a + 7) far (by omega)
      rw [if_neg p1, e3, if_neg (by rw [in_yes (by show 1 ≤ 1 + _; omega) (by show 1 + _ ≤ m; omega)]; simp), if_neg (by simp)]
theorem cmd_right (l : List Int) (far : Int) (a : Nat) (cs : List Cl) (n m : Int) (h : 1 ≤ far) (hm : far + 1 ≤ m) (hn : ((colsOf l a cs).length : Int) ≤ n) : cmdS (cmdOf l far a cs) n m = none := by
  have hp := cmd_paths l far a cs
  obtain ⟨k1, k2, _⟩ := pathsN_in l a
  unfold cmdS
  rw [head_right l far a cs m h (by omega), paint_right l far a cs n m h hm hn]
  simp only
  rw [if_neg (by omega), if_neg (by omega)]
  exact firstS_none.mpr (paths_right l far m (kindN l a) (by omega) (by omega) _ _)
theorem cmd_pts (l : List Int) (far : Int) (a : Nat) (cs : List Cl) : sumS' pathPts (cmdOf l far a cs).paths ≤ 39 := by
  have hp := cmd_paths l far a cs
  obtain ⟨k1, k2, _⟩ := pathsN_in l a
  have := sum_mem_le (f := pathPts) (c := 13) (l := (cmdOf l far a cs).paths) (paths_pts l far (kindN l a) _ _) (by omega) 3 (by omega)
  omega
theorem run_right (l : List Int) (far : Int) (h : 1 ≤ far) (m : Int) (hm : far + 1 ≤ m) : ∀ (n a : Nat) (cs : List Cl), cs.Nodup →
    (runS l far n a cs).1.length ≤ n ∧ cs.length ≤ (runS l far n a cs).2.1.length ∧ (runS l far n a cs).2.1.length ≤ cs.length + 2 * n ∧ (runS l far n a cs).2.1.Nodup ∧
    useAll cs.length (runS l far n a cs).1 = some ((runS l far n a cs).2.1.length : Int) ∧
    (∀ N : Int, ((runS l far n a cs).2.1.length : Int) ≤ N → ∀ c ∈ (runS l far n a cs).1, cmdS c N m = none) ∧
    (∀ c ∈ (runS l far n a cs).1, sumS' pathPts c.paths ≤ 39)
  | 0, a, cs, hd => ⟨Nat.le_refl _, Nat.le_refl _, by simp [runS], hd, rfl, (fun _ _ c hc => by cases hc), (fun c hc => by cases hc)⟩
  | n + 1, a, cs, hd => by
    rw [runS]
    split
    · obtain ⟨i1, i2, i3, i4, i5, i6, i7⟩ := run_right l far h m hm n (cmdEnd l a) (colsOf l a cs) (cols_nodup l a cs hd)
      have hcl := colsOf_len l a cs
      refine ⟨by simp; omega, by show cs.length ≤ _; simp only; omega, by simp only; omega, i4, ?_, fun N hN c hc => ?_, fun c hc => ?_⟩
      · simp only [useAll, cmd_uses]; exact i5
      · rcases List.mem_cons.mp hc with rfl | hc
        · simp only at hN; exact cmd_right l far a cs N m h hm (by omega)
        · exact i6 N hN c hc
      · rcases List.mem_cons.mp hc with rfl | hc
        · exact cmd_pts l far a cs
        · exact i7 c hc
    · exact ⟨Nat.zero_le _, Nat.le_refl _, by simp, hd, rfl, fun _ _ c hc => (by cases hc), fun c hc => (by cases hc)⟩
theorem sized_icon (l : List Int) (a : Nat) : sizedS (iconS l a) = true := by
  obtain ⟨b1, b2, b3, b4⟩ := icon_in l a
  unfold sizedS iconS
  simp only
  rw [in_yes b1.1 (by omega), in_yes b2.1 (by omega), in_yes b3.1 (by omega)]; rfl
theorem great_icon (l : List Int) (a : Nat) : greatS (iconS l a) = 4 * farS' l a := by
  unfold greatS
  rw [if_pos (sized_icon l a)]
  show 4 * max (wS l a) (hS l a) * 2 ^ (scS l a).toNat = 4 * (max (wS l a) (hS l a) * 2 ^ (scS l a).toNat)
  rw [Int.mul_assoc]
theorem cmdsN_in (l : List Int) (a : Nat) : 1 ≤ cmdsN l a ∧ cmdsN l a ≤ 4 := by
  have := next_in l (a + 3) 4 (by omega)
  unfold cmdsN; omega
theorem icon_right (l : List Int) (a : Nat) : checkS (iconS l a) = none ∧ (iconS l a).Fit := by
  obtain ⟨b1, b2, b3, b4⟩ := icon_in l a
  have k := cmdsN_in l a
  obtain ⟨i1, i2, i3, i4, i5, i6, i7⟩ := run_right l (farS' l a) b4.1 (greatS (iconS l a)) (by rw [great_icon]; omega) (cmdsN l a) (a + 4) [] List.nodup_nil
  have hx : runS l (farS' l a) (cmdsN l a) (a + 4) [] = iconRun l a := rfl
  rw [hx] at i1 i2 i3 i4 i5 i6 i7
  simp only [List.length_nil, Nat.zero_add] at i3
  have hcm : (iconS l a).cmds = (iconRun l a).1 := rfl
  have hco : (iconS l a).colors = (iconRun l a).2.1 := rfl
  have hcmd : ∀ c ∈ (iconS l a).cmds, cmdS c (iconS l a).colors.length (greatS (iconS l a)) = none := fun c hc => i6 _ (Int.le_refl _) c hc
  have hpts : pointsS (iconS l a) ≤ 39 * (4 : Nat) := sum_mem_le (f := fun c : Cmd => sumS' pathPts c.paths) i7 (by omega) 4 (by omega)
  refine ⟨?_, by rw [hco]; omega, by rw [hcm]; omega, fun c hc => ?_⟩
  · unfold checkS
    rw [if_neg (by rw [sized_icon]; simp), if_neg (by rw [hco, hcm]; omega), firstS_none.mpr hcmd]
    simp only
    rw [if_neg (by omega), if_neg ?_]
    unfold usedS
    rw [hcm, hco]
    have : useAll 0 (iconRun l a).1 = some ((iconRun l a).2.1.length : Int) := i5
    rw [this]
    simp only
    rw [once_nodup _ [] (by rw [List.nil_append]; exact i4)]
    simp
  · obtain ⟨c1, c2, c3, c4, c5⟩ := cmdS_none (hcmd c hc)
    exact ⟨by omega, fun p hp => by have := (pathS_none (c5 p hp)).1; omega⟩
end
end Go.VL.Mk

/- Icons, closed piece by piece. -/
namespace Go.VL.Ic
open Go.FR Go.IR Go.VL Go.VL.Er Go.VL.Color Go.VL.Wind
noncomputable section
set_option linter.unusedSimpArgs false
set_option linter.unusedVariables false
set_option maxRecDepth 100000
set_option maxHeartbeats 1000000
local notation "EE" => Go.VL.Er.E
variable {g : Nat → Option VB}

theorem shut_icon {W H S : Int} {vc vk : VV} {cols : List Cl} {cmds : List Cmd} (h1 : xzT g vc (.fsl (xzL cCl cols) cols.length 4)) (h2 : xzT g vk (.fsl (xzL cCmd cmds) cmds.length 11)) :
    xzK g [.agg [.int .i64 W, .int .i64 H, .int .i64 S, vc, vk]] [.agg (cIcon ⟨W, H, S, cols, cmds⟩)] :=
  xzK.cons (xzT.agg (xzK.cons (xzT.closed rfl) (xzK.cons (xzT.closed rfl) (xzK.cons (xzT.closed rfl) (xzK.cons h1 (xzK.cons h2 xzK.nil)))))) xzK.nil
theorem shut_nil {e : Nat} : xzT g .nilS (.fsl [] 0 e) := xzT.closed_sub rfl (.inr ⟨e, rfl⟩)
/-- The cells of a command whose paths are to be closed. -/
theorem shut_cmd {c : Cmd} {vp : VV} (h : xzT g vp (.fsl (xzL cPath c.paths) c.paths.length 4)) :
    xzK g [.int .i64 c.kind, .int .i64 c.rule, .int .i64 c.width, .int .i64 c.paint.kind, .int .i64 c.paint.a, .int .i64 c.paint.b, .int .i64 c.paint.p.x, .int .i64 c.paint.p.y, .int .i64 c.paint.q.x, .int .i64 c.paint.q.y, vp] (cCmd c) :=
  xzK.append (a := [_, _, _, _, _, _, _, _, _, _]) (c := [_]) (xzK.closed rfl) (xzK.cons h xzK.nil)
theorem shut_cmds1 {j : Nat} {ro : Bool} (c : Cmd) {vp : VV} (hj : g j = some (.cells [.int .i64 c.kind, .int .i64 c.rule, .int .i64 c.width, .int .i64 c.paint.kind, .int .i64 c.paint.a, .int .i64 c.paint.b, .int .i64 c.paint.p.x, .int .i64 c.paint.p.y, .int .i64 c.paint.q.x, .int .i64 c.paint.q.y, vp] ro)) (h : xzT g vp (.fsl (xzL cPath c.paths) c.paths.length 4)) :
    xzT g (.slice j 0 1 11 (.exact 1)) (.fsl (xzL cCmd [c]) 1 11) := xzT.whole hj rfl (Nat.le_refl _) (by rw [flatL_cons, flatL_nil, List.append_nil]; exact shut_cmd h)
theorem shut_paths1 {j : Nat} {ro : Bool} (p : Path) {vs : VV} (hj : g j = some (.cells [.int .i64 p.start.x, .int .i64 p.start.y, vs, .bool p.closed] ro)) (h : xzT g vs (.fsl (xzL cSeg p.segs) p.segs.length 7)) :
    xzT g (.slice j 0 1 4 (.exact 1)) (.fsl (xzL cPath [p]) 1 4) := xzT.whole hj rfl (Nat.le_refl _) (by rw [flatL_cons, flatL_nil, List.append_nil]; exact xzK.cons (xzT.closed rfl) (xzK.cons (xzT.closed rfl) (xzK.cons h (xzK.cons (xzT.closed rfl) xzK.nil))))
theorem shut_segs1 {j : Nat} {ro : Bool} (s : Seg) (hj : g j = some (.cells (cSeg s) ro)) :
    xzT g (.slice j 0 1 7 (.exact 1)) (.fsl (xzL cSeg [s]) 1 7) := xzT.whole hj rfl (Nat.le_refl _) (by rw [flatL_cons, flatL_nil, List.append_nil]; exact xzK.closed rfl)
theorem shut_cols {j n : Nat} {ro : Bool} {c : ACap} (l : List Cl) (hj : g j = some (.cells (xzL cCl l) ro)) (hn : l.length = n) (hc : capOK 4 n c) :
    xzT g (.slice j 0 n 4 c) (.fsl (xzL cCl l) n 4) := xzT.whole hj (by rw [flatL_length Ic.cCl_len, hn]) hc (xzK.closed (closedL_flat (fun _ => rfl) l))
theorem shut_segs {j n : Nat} {ro : Bool} {c : ACap} (l : List Seg) (hj : g j = some (.cells (xzL cSeg l) ro)) (hn : l.length = n) (hc : capOK 7 n c) :
    xzT g (.slice j 0 n 7 c) (.fsl (xzL cSeg l) n 7) := xzT.whole hj (by rw [flatL_length cSeg_len, hn]) hc (xzK.closed (closedL_flat (fun _ => rfl) l))

end
end Go.VL.Ic

/- Icons that a law makes by itself, closed. -/
namespace Go.VL.Ic
open Go.FR Go.IR Go.VL Go.VL.Er Go.VL.Color Go.VL.Wind
noncomputable section
set_option linter.unusedSimpArgs false
set_option linter.unusedVariables false
set_option maxRecDepth 100000
set_option maxHeartbeats 1000000
local notation "EE" => Go.VL.Er.E

theorem icg_all {Gl : xzB} (hG : GlAll Gl) : IcG Gl := ⟨(hG 4 (by omega)).1, (hG 5 (by omega)).1, (hG 9 (by omega)).1⟩
theorem first5_ok {Gl : xzB} (hG : IcG Gl) : xzR EE Gl f_glyphiclaw5_first [] (.bool true) := by
  refine xzt (xzj E_glyphiclaw5_first ?_)
  unfold c_glyphiclaw5_first r_glyphiclaw5_first
  simp only [xzQ]
  have f : ∀ w h s : Int, (Icon.mk w h s [] []).Fit := fun w h s => ⟨by simp, by simp, fun c hc => by cases hc⟩
  have k1 := check_ok hG ⟨0, 0, 0, [], []⟩ (f _ _ _)
  have k2 := check_ok hG ⟨1, 1, 0, [], []⟩ (f _ _ _)
  have k3 := greatest_ok Gl ⟨1, 2, 1, [], []⟩
  rw [show checkS ⟨0, 0, 0, [], []⟩ = some 4 by decide] at k1
  rw [show checkS ⟨1, 1, 0, [], []⟩ = none by decide] at k2
  rw [show greatS ⟨1, 2, 1, [], []⟩ = 16 by decide] at k3
  simp only [qzp, qzq, qzj, qzf, qze, qzd, qzo, qzL, qzc, qzb, qzg, qzh, qzt, qzk, qzl, qzs, qza, qzr, qzu, qzy, xzu, xzw, cvs, cv, h0, ↓reduceIte]
  refine xzP (v := errK 4) k1 (shut_icon shut_nil shut_nil) rfl ?_
  simp only [qze, qzd, qzo, qzG, qzL, qzv, qzc, qzm, qzb, qzg, qzh, qzt, qzk, qzl, qzs, qza, qzr, qzu, qzy, qzN, xzI, xzJ, xzZ, xzu, xzw, qzX, cvs, cv, VV.cells, ntV, ↓reduceIte, List.length_cons, List.length_nil, List.drop_succ_cons, List.drop_zero, List.take_succ_cons, List.take_zero, List.nil_append, List.cons_append, Nat.reduceAdd, Nat.reduceEqDiff, Nat.reduceLeDiff, Nat.zero_add, and_self, Bool.not_false, beq_self_eq_true, errK]
  refine xzP (v := .nilI) k2 (shut_icon shut_nil shut_nil) rfl ?_
  simp only [qze, qzd, qzo, qzG, qzL, qzv, qzc, qzm, qzb, qzg, qzh, qzt, qzk, qzl, qzs, qza, qzr, qzu, qzy, xzb, qzN, xzI, xzJ, xzZ, xzu, xzw, qzX, cvs, cv, VV.cells, ntV, ↓reduceIte, List.length_cons, List.length_nil, List.drop_succ_cons, List.drop_zero, List.take_succ_cons, List.take_zero, List.nil_append, List.cons_append, Nat.reduceAdd, Nat.reduceEqDiff, Nat.reduceLeDiff, Nat.zero_add, and_self, Bool.false_eq_true, beq_self_eq_true]
  refine xzP k3 (shut_icon shut_nil shut_nil) rfl ?_
  simp only [qzA, qzj, qzf, qze, qzd, qzo, qzv, qzC, qzc, qzb, qzg, qzh, qzk, qzl, qzs, qza, qzr, qzu, qzy, xzb, cv, qzI, qzJ, toA, ofA, FR.pop, abin, intBin, qzT, qzM, qzV, qzU, ↓reduceIte, Nat.reduceEqDiff, beq_self_eq_true]
  exact qzx rfl
/-- An icon of one command. -/
theorem check_one {W H S : Int} {cols : List Cl} {c : Cmd} (hs : sizedS ⟨W, H, S, cols, [c]⟩ = true) (hl : cols.length ≤ 256) :
    checkS ⟨W, H, S, cols, [c]⟩ = match cmdS c cols.length (greatS ⟨W, H, S, cols, [c]⟩) with
      | some e => some e
      | none => if sumS' pathPts c.paths > 4000 then some 5 else if usedS ⟨W, H, S, cols, [c]⟩ = false then some 9 else none := by
  unfold checkS
  rw [if_neg (by rw [hs]; simp), if_neg (by simp only [List.length_cons, List.length_nil]; omega)]
  simp only [firstS]
  cases cmdS c cols.length (greatS ⟨W, H, S, cols, [c]⟩) with
  | some e => rfl
  | none =>
    have : pointsS ⟨W, H, S, cols, [c]⟩ = sumS' pathPts c.paths := by show sumS' pathPts c.paths + 0 = _; omega
    rw [← this]
theorem sized_of {W H S : Int} {cols : List Cl} {cmds : List Cmd} (h1 : 1 ≤ W ∧ W ≤ 24) (h2 : 1 ≤ H ∧ H ≤ 24) (h3 : 0 ≤ S ∧ S ≤ 6) : sizedS ⟨W, H, S, cols, cmds⟩ = true := by
  unfold sizedS
  simp only
  rw [Mk.in_yes h1.1 (by omega), Mk.in_yes h2.1 (by omega), Mk.in_yes h3.1 h3.2]; rfl
theorem great_of {W H S : Int} {cols : List Cl} {cmds : List Cmd} (h1 : 1 ≤ W ∧ W ≤ 24) (h2 : 1 ≤ H ∧ H ≤ 24) (h3 : 0 ≤ S ∧ S ≤ 6) : greatS ⟨W, H, S, cols, cmds⟩ = 4 * max W H * 2 ^ S.toNat := by
  unfold greatS
  rw [if_pos (sized_of h1 h2 h3)]
end
end Go.VL.Ic
