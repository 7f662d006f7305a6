/- Icons as great as they may be, and greater ones: in plain numbers. -/
import Derived.Test.YtbamfhdgikeneaaDoorEnF
namespace Go.VL.Lm
open Go.FR Go.IR Go.VL Go.VL.Color Go.VL.Wind Go.VL.Ic Go.VL.En
noncomputable section
set_option linter.unusedSimpArgs false
set_option linter.unusedVariables false

def lineS : Seg := ⟨1, ⟨0, 0⟩, ⟨0, 0⟩, ⟨0, 0⟩⟩
def cubS : Seg := ⟨3, ⟨1, 0⟩, ⟨2, 0⟩, ⟨1, 0⟩⟩
abbrev pathL (S : List Seg) : Path := ⟨⟨0, 0⟩, S, false⟩
abbrev fillC (ps : List Path) : Cmd := ⟨1, 0, 0, ⟨0, 0, 0, ⟨0, 0⟩, ⟨0, 0⟩⟩, ps⟩
abbrev iconL (cs : List Cmd) : Icon := ⟨1, 1, 0, [⟨0, 0, 0, 0⟩], cs⟩
theorem sized_l (cs : List Cmd) : sizedS (iconL cs) = true := by simp [sizedS, inS]
theorem great_l (cs : List Cmd) : greatS (iconL cs) = 4 := by unfold greatS; rw [if_pos (sized_l cs)]; rfl
theorem far_l {x y : Int} (h1 : -4 ≤ x) (h2 : x ≤ 4) (h3 : -4 ≤ y) (h4 : y ≤ 4) : farS ⟨x, y⟩ 4 = false := by
  have i1 : inS x (-4) 4 = true := inS_true.mpr ⟨h1, h2⟩
  have i2 : inS y (-4) 4 = true := inS_true.mpr ⟨h3, h4⟩
  simp [farS, i1, i2]
theorem line_l : segS lineS 4 = none := by
  have i : inS (1 : Int) 1 3 = true := inS_true.mpr (by omega)
  have f : farS ⟨0, 0⟩ 4 = false := far_l (by omega) (by omega) (by omega) (by omega)
  simp [segS, lineS, segPts, i, f, zeroP]
theorem cub_l : segS cubS 4 = none := by
  have i : inS (3 : Int) 1 3 = true := inS_true.mpr (by omega)
  have f : farS ⟨1, 0⟩ 4 = false := far_l (by omega) (by omega) (by omega) (by omega)
  have f2 : farS ⟨2, 0⟩ 4 = false := far_l (by omega) (by omega) (by omega) (by omega)
  simp [segS, cubS, segPts, i, f, f2, zeroP]
theorem path_l {S : List Seg} (h0 : S ≠ []) (hl : S.length ≤ 400) (hs : ∀ s ∈ S, segS s 4 = none) : pathS (pathL S) true 4 = none := by
  unfold pathS
  simp only
  rw [if_neg (by simp), if_neg (fun e => h0 (List.length_eq_zero_iff.mp e)), if_neg (by omega), if_neg (by rw [far_l (by omega) (by omega) (by omega) (by omega)]; simp)]
  exact firstS_none.mpr hs
theorem path_over {S : List Seg} (hl : 400 < S.length) : pathS (pathL S) true 4 = some 5 := by
  unfold pathS
  simp only
  rw [if_neg (by simp), if_neg (by omega), if_pos hl]
theorem head_l (ps : List Path) : headS (fillC ps) 4 = none := by
  have i : inS (0 : Int) 0 1 = true := inS_true.mpr (by omega)
  simp [headS, i]
theorem paint_l : paintS ⟨0, 0, 0, ⟨0, 0⟩, ⟨0, 0⟩⟩ 1 4 = none := by
  have i2 : inS (0 : Int) 0 2 = true := inS_true.mpr (by omega)
  have i3 : inS (0 : Int) 0 0 = true := inS_true.mpr (by omega)
  simp [paintS, i2, i3, zeroP]
theorem cmd_l {ps : List Path} (h0 : ps ≠ []) (hl : ps.length ≤ 200) (hs : ∀ p ∈ ps, pathS p true 4 = none) : cmdS (fillC ps) 1 4 = none := by
  unfold cmdS
  rw [head_l]
  simp only
  rw [paint_l]
  simp only
  rw [if_neg (fun e => h0 (List.length_eq_zero_iff.mp e)), if_neg (by omega)]
  exact firstS_none.mpr hs
theorem cmd_over {ps : List Path} (hl : 200 < ps.length) : cmdS (fillC ps) 1 4 = some 5 := by
  unfold cmdS
  rw [head_l]
  simp only
  rw [paint_l]
  simp only
  rw [if_neg (by omega), if_pos hl]
theorem cmd_bad {p : Path} (h : pathS p true 4 = some 5) : cmdS (fillC [p]) 1 4 = some 5 := by
  unfold cmdS
  rw [head_l]
  simp only
  rw [paint_l]
  simp only
  rw [if_neg (by simp), if_neg (by simp)]
  show firstS (fun p => pathS p true 4) [p] = some 5
  rw [firstS, h]
theorem len1 : (((iconL []).colors.length : Nat) : Int) = 1 := rfl
theorem check_over {cs : List Cmd} (hl : 200 < cs.length) : checkS (iconL cs) = some 5 := by
  unfold checkS
  rw [sized_l]
  simp only [Bool.true_eq_false, if_false]
  rw [if_pos (.inr hl)]
theorem check_bad {c : Cmd} (h : cmdS c 1 4 = some 5) : checkS (iconL [c]) = some 5 := by
  unfold checkS
  rw [sized_l, great_l]
  simp only [Bool.true_eq_false, if_false]
  rw [if_neg (by simp)]
  have : firstS (fun c => cmdS c (([⟨0, 0, 0, 0⟩] : List Cl).length : Int) 4) [c] = some 5 := by
    rw [firstS]
    have e : cmdS c (([⟨0, 0, 0, 0⟩] : List Cl).length : Int) 4 = some 5 := h
    rw [e]
  rw [this]
theorem use_l : ∀ (cs : List (List Path)), useAll 1 (cs.map fillC) = some 1
  | [] => rfl
  | c :: cs => by
    have := use_l cs
    simp only [List.map_cons, useAll, usesOf, if_true, nextUse]
    simpa using this
theorem check_l {cs : List (List Path)} (h0 : cs ≠ []) (hl : cs.length ≤ 200) (hc : ∀ ps ∈ cs, cmdS (fillC ps) 1 4 = none) : checkS (iconL (cs.map fillC)) = if pointsS (iconL (cs.map fillC)) > 4000 then some 5 else none := by
  have us : usedS (iconL (cs.map fillC)) = true := by
    rcases cs with _ | ⟨c, cs⟩
    · exact absurd rfl h0
    · have := use_l cs
      have e : useAll 0 (fillC c :: cs.map fillC) = some 1 := by
        simp only [useAll, usesOf, if_true, nextUse]
        simpa using this
      unfold usedS
      simp only [List.map_cons]
      rw [e]
      simp [onceS]
  unfold checkS
  rw [sized_l, great_l, us]
  simp only [Bool.true_eq_false, if_false]
  rw [if_neg (by simp; omega)]
  have : firstS (fun c => cmdS c (([⟨0, 0, 0, 0⟩] : List Cl).length : Int) 4) (cs.map fillC) = none := firstS_none.mpr fun c hm => by
    obtain ⟨ps, hp, rfl⟩ := List.mem_map.mp hm
    exact hc ps hp
  rw [this]
theorem sum_rep {α : Type} (f : α → Int) (a : α) : ∀ n : Nat, sumS' f (List.replicate n a) = n * f a
  | 0 => by simp [sumS']
  | n + 1 => by rw [List.replicate_succ]; simp only [sumS']; rw [sum_rep f a n, Int.natCast_add, Int.add_mul]; simp; omega

theorem rep_ne {α : Type} {n : Nat} {a : α} (h : 0 < n) : List.replicate n a ≠ [] := fun e => by
  have := congrArg List.length e
  rw [List.length_replicate, List.length_nil] at this
  omega
theorem rep_le {α : Type} {n k : Nat} {a : α} (h : n ≤ k) : (List.replicate n a).length ≤ k := by rw [List.length_replicate]; exact h
theorem rep_gt {α : Type} {n k : Nat} {a : α} (h : k < n) : k < (List.replicate n a).length := by rw [List.length_replicate]; exact h
theorem one_ne {α : Type} (a : α) : [a] ≠ [] := List.cons_ne_nil _ _
theorem one_le {α : Type} (a : α) : [a].length ≤ 200 := by rw [List.length_cons, List.length_nil]; omega
/-! The four kinds. -/
def segs0 (m : Nat) : List Seg := List.replicate 131 cubS ++ List.replicate (3 + m) lineS
def paths0 (m : Nat) : List Path := List.replicate 3 (pathL (List.replicate 400 cubS)) ++ [pathL (segs0 m)]
theorem mem_segs0 {m : Nat} {s : Seg} (h : s ∈ segs0 m) : segS s 4 = none := by
  rcases List.mem_append.mp h with h | h
  · rw [List.eq_of_mem_replicate h]; exact cub_l
  · rw [List.eq_of_mem_replicate h]; exact line_l
theorem segs0_len (m : Nat) : (segs0 m).length = 134 + m := by
  rw [segs0, List.length_append, List.length_replicate, List.length_replicate]; omega
theorem points0 (m : Nat) : pointsS (iconL ((paths0 m).map fun p => fillC [p])) = 4000 + m := by
  have s1 : sumS' (fun s : Seg => s.kind) (List.replicate 400 cubS) = 1200 := by rw [sum_rep]; rfl
  have s2 : sumS' (fun s : Seg => s.kind) (segs0 m) = 396 + m := by
    unfold segs0
    rw [Lf.sum_app, sum_rep, sum_rep]
    simp only [cubS, lineS]; omega
  have p1 : sumS' (fun p : Path => 1 + sumS' (fun s : Seg => s.kind) p.segs) [pathL (List.replicate 400 cubS)] = 1201 := by
    simp only [sumS', s1]; rfl
  have p2 : sumS' (fun p : Path => 1 + sumS' (fun s : Seg => s.kind) p.segs) [pathL (segs0 m)] = 397 + m := by
    simp only [sumS', s2]; omega
  show sumS' (fun c : Cmd => sumS' (fun p : Path => 1 + sumS' (fun s : Seg => s.kind) p.segs) c.paths) ((paths0 m).map fun p => fillC [p]) = _
  unfold paths0
  rw [List.map_append, List.map_replicate, Lf.sum_app, sum_rep, List.map_cons, List.map_nil]
  show ((3 : Nat) : Int) * sumS' (fun p : Path => 1 + sumS' (fun s : Seg => s.kind) p.segs) [pathL (List.replicate 400 cubS)] + (sumS' (fun p : Path => 1 + sumS' (fun s : Seg => s.kind) p.segs) [pathL (segs0 m)] + 0) = _
  rw [p1, p2]; omega
theorem paths0_len (m : Nat) : (paths0 m).length = 4 := by
  rw [paths0, List.length_append, List.length_replicate]; rfl
theorem mem_paths0 {m : Nat} (hm : m ≤ 1) {p : Path} (hp : p ∈ paths0 m) : pathS p true 4 = none := by
  unfold paths0 at hp
  rcases List.mem_append.mp hp with hp | hp
  · rw [List.eq_of_mem_replicate hp]
    exact path_l (rep_ne (by omega)) (rep_le (Nat.le_refl _)) fun s hs => by rw [List.eq_of_mem_replicate hs]; exact cub_l
  · rw [List.mem_singleton.mp hp]
    exact path_l (fun e => by have := segs0_len m; rw [e, List.length_nil] at this; omega) (by rw [segs0_len]; omega) fun s hs => mem_segs0 hs
theorem check0 (m : Nat) (hm : m ≤ 1) : checkS (iconL ((paths0 m).map fun p => fillC [p])) = if m = 1 then some 5 else none := by
  have e : ((paths0 m).map fun p => fillC [p]) = ((paths0 m).map fun p => [p]).map fillC := by rw [List.map_map]; rfl
  have pt := points0 m
  have l4 := paths0_len m
  rw [e] at pt ⊢
  rw [check_l (fun e => by have := congrArg List.length e; rw [List.length_map, l4, List.length_nil] at this; omega) (by rw [List.length_map, l4]; omega) ?_, pt]
  · split <;> split <;> first | rfl | omega
  · intro ps hp
    obtain ⟨p, hp2, rfl⟩ := List.mem_map.mp hp
    refine cmd_l (one_ne _) (one_le _) fun q hq => ?_
    rw [List.mem_singleton.mp hq]
    exact mem_paths0 hm hp2
theorem one_l : pathS (pathL [lineS]) true 4 = none := path_l (by simp) (by simp) fun s hs => by rw [List.mem_singleton.mp hs]; exact line_l
theorem pointsR (n : Nat) : pointsS (iconL [fillC (List.replicate n (pathL [lineS]))]) = 2 * n := by
  simp only [pointsS, sumS', sum_rep, lineS]; omega
theorem check1 (m : Nat) (hm : m ≤ 1) : checkS (iconL [fillC (List.replicate (200 + m) (pathL [lineS]))]) = if m = 1 then some 5 else none := by
  split
  · rename_i e; subst e
    exact check_bad (cmd_over (rep_gt (by omega)))
  · obtain rfl : m = 0 := by omega
    have := check_l (cs := [List.replicate 200 (pathL [lineS])]) (one_ne _) (one_le _) fun ps hp => by
      rw [List.mem_singleton.mp hp]
      exact cmd_l (rep_ne (by omega)) (rep_le (Nat.le_refl _)) fun q hq => by rw [List.eq_of_mem_replicate hq]; exact one_l
    simp only [List.map_cons, List.map_nil] at this
    rw [pointsR] at this
    exact this
theorem check2 (m : Nat) (hm : m ≤ 1) : checkS (iconL (List.replicate (200 + m) (fillC [pathL [lineS]]))) = if m = 1 then some 5 else none := by
  split
  · rename_i e; subst e
    exact check_over (rep_gt (by omega))
  · obtain rfl : m = 0 := by omega
    have := check_l (cs := List.replicate 200 [pathL [lineS]]) (rep_ne (by omega)) (rep_le (Nat.le_refl _)) fun ps hp => by
      rw [List.eq_of_mem_replicate hp]
      exact cmd_l (one_ne _) (one_le _) fun q hq => by rw [List.mem_singleton.mp hq]; exact one_l
    rw [List.map_replicate] at this
    have pt : pointsS (iconL (List.replicate 200 (fillC [pathL [lineS]]))) = 400 := by
      show sumS' _ (List.replicate 200 (fillC [pathL [lineS]])) = 400
      rw [sum_rep]; rfl
    rw [pt] at this
    exact this
theorem check3 (m : Nat) (hm : m ≤ 1) : checkS (iconL [fillC [pathL (List.replicate (400 + m) lineS)]]) = if m = 1 then some 5 else none := by
  split
  · rename_i e; subst e
    exact check_bad (cmd_bad (path_over (rep_gt (by omega))))
  · obtain rfl : m = 0 := by omega
    have := check_l (cs := [[pathL (List.replicate 400 lineS)]]) (one_ne _) (one_le _) fun ps hp => by
      rw [List.mem_singleton.mp hp]
      exact cmd_l (one_ne _) (one_le _) fun q hq => by
        rw [List.mem_singleton.mp hq]
        exact path_l (rep_ne (by omega)) (rep_le (Nat.le_refl _)) fun s hs => by rw [List.eq_of_mem_replicate hs]; exact line_l
    simp only [List.map_cons, List.map_nil] at this
    have pt : pointsS (iconL [fillC [pathL (List.replicate 400 lineS)]]) = 401 := by
      have s1 : sumS' (fun s : Seg => s.kind) (List.replicate 400 lineS) = 400 := by rw [sum_rep]; rfl
      simp only [pointsS, sumS', s1]; rfl
    rw [pt] at this
    exact this
end
end Go.VL.Lm
