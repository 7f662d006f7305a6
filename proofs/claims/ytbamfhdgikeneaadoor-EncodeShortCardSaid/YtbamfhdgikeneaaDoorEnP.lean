import Derived.Test.YtbamfhdgikeneaaDoorEnA
import Derived.Test.YtbamfhdgikeneaaDoorEnF
import Derived.Test.YtbamfhdgikeneaaDoorIcD
/- Runs in plain numbers. -/
namespace Go.VL.En
open Go.FR Go.IR Go.VL Go.VL.Color Go.VL.Wind Go.VL.Ic
noncomputable section
set_option linter.unusedSimpArgs false
set_option linter.unusedVariables false
def expR (A : List Run) : List Int := A.flatMap fun r => List.replicate r.2 r.1
theorem exp_snoc (A : List Run) (r : Run) : expR (A ++ [r]) = expR A ++ List.replicate r.2 r.1 := by simp [expR]
theorem exp_push (A : List Run) (k : Int) : expR (pushR A k) = expR A ++ [k] := by
  rcases List.eq_nil_or_concat A with rfl | ⟨B, ⟨k', n⟩, rfl⟩
  · rfl
  · rw [List.concat_eq_append, pushR_snoc]
    split
    · rename_i e; subst e
      rw [exp_snoc, exp_snoc]; simp only; rw [List.replicate_succ', List.append_assoc]
    · rw [exp_snoc (B ++ [(k', n)])]; rfl
theorem exp_fold : ∀ (l : List Seg) (A : List Run), expR (l.foldl (fun A s => pushR A s.kind) A) = expR A ++ l.map (·.kind)
  | [], A => by simp
  | s :: l, A => by rw [List.foldl_cons, exp_fold l, exp_push, List.map_cons, List.append_assoc]; rfl
theorem exp_runs (l : List Seg) : expR (runsS l) = l.map (·.kind) := exp_fold l []
theorem exp_len (A : List Run) : (expR A).length = countR A := by
  induction A with
  | nil => rfl
  | cons r A ih => simp only [expR, countR, List.flatMap_cons, List.length_append, List.length_replicate, List.map_cons, List.sum_cons] at ih ⊢; rw [ih]
/-- Each at least once, no two beside each other of one kind. -/
def GoodR (A : List Run) : Prop := (∀ r ∈ A, 1 ≤ r.2) ∧ ∀ i r r', A[i]? = some r → A[i + 1]? = some r' → r.1 ≠ r'.1
theorem good_snoc {A : List Run} {r r' : Run} (h : GoodR (A ++ [r])) (h1 : 1 ≤ r'.2) : (r.1 ≠ r'.1 → GoodR (A ++ [r] ++ [r'])) ∧ (r.1 = r'.1 → GoodR (A ++ [r'])) := by
  refine ⟨fun ne => ⟨fun x hx => ?_, fun i x y hx hy => ?_⟩, fun e => ⟨fun x hx => ?_, fun i x y hx hy => ?_⟩⟩
  · rcases List.mem_append.mp hx with hx | hx
    · exact h.1 x hx
    · rw [List.mem_singleton.mp hx]; exact h1
  · by_cases c : i + 1 < (A ++ [r]).length
    · rw [List.getElem?_append_left (by omega)] at hx
      rw [List.getElem?_append_left c] at hy
      exact h.2 i x y hx hy
    · have ly : i + 1 < (A ++ [r] ++ [r']).length := by
        rcases Nat.lt_or_ge (i + 1) (A ++ [r] ++ [r']).length with q | q
        · exact q
        · rw [List.getElem?_eq_none q] at hy; exact nomatch hy
      have ei : i = A.length := by simp at c ly; omega
      subst ei
      have e1 : (A ++ [r] ++ [r'])[A.length]? = some r := by simp
      have e2 : (A ++ [r] ++ [r'])[A.length + 1]? = some r' := by
        rw [List.getElem?_append_right (by simp)]; simp
      rw [e1] at hx; rw [e2] at hy
      obtain rfl := Option.some.inj hx
      obtain rfl := Option.some.inj hy
      exact ne
  · rcases List.mem_append.mp hx with hx | hx
    · exact h.1 x (List.mem_append.mpr (.inl hx))
    · rw [List.mem_singleton.mp hx]; exact h1
  · by_cases c : i + 1 < A.length
    · rw [List.getElem?_append_left (by omega)] at hx
      rw [List.getElem?_append_left c] at hy
      exact h.2 i x y (by rw [List.getElem?_append_left (by omega)]; exact hx) (by rw [List.getElem?_append_left c]; exact hy)
    · have ly : i + 1 < (A ++ [r']).length := by
        rcases Nat.lt_or_ge (i + 1) (A ++ [r']).length with q | q
        · exact q
        · rw [List.getElem?_eq_none q] at hy; exact nomatch hy
      have ei : i + 1 = A.length := by simp at ly; omega
      have e2 : (A ++ [r'])[i + 1]? = some r' := by rw [ei]; simp
      rw [e2] at hy
      obtain rfl := Option.some.inj hy
      rw [List.getElem?_append_left (by omega)] at hx
      have := h.2 i x r (by rw [List.getElem?_append_left (by omega)]; exact hx) (by rw [ei]; simp)
      rw [← e]; exact this
theorem good_push {A : List Run} (h : GoodR A) (k : Int) : GoodR (pushR A k) := by
  rcases List.eq_nil_or_concat A with rfl | ⟨B, ⟨k', n⟩, rfl⟩
  · rw [pushR_nil]
    exact ⟨fun r hr => by rw [List.mem_singleton.mp hr]; exact Nat.le_refl _, fun i r r' h1 h2 => by simp at h2⟩
  · rw [List.concat_eq_append] at h ⊢
    rw [pushR_snoc]
    split
    · rename_i e; exact (good_snoc h (r' := (k', n + 1)) (Nat.le_add_left 1 n)).2 rfl
    · rename_i e; exact (good_snoc h (r' := (k, 1)) (Nat.le_refl _)).1 e
theorem good_fold : ∀ (l : List Seg) (A : List Run), GoodR A → GoodR (l.foldl (fun A s => pushR A s.kind) A)
  | [], A, h => h
  | s :: l, A, h => good_fold l _ (good_push h s.kind)
theorem good_runs (l : List Seg) : GoodR (runsS l) := good_fold l [] ⟨(fun r hr => by cases hr), (fun i r r' h1 h2 => by simp at h1)⟩
theorem exp_take (R : List Run) {i : Nat} {r : Run} (h : R[i]? = some r) : expR (R.take (i + 1)) = expR (R.take i) ++ List.replicate r.2 r.1 := by rw [take_at h, exp_snoc]
theorem count_take (R : List Run) {i : Nat} {r : Run} (h : R[i]? = some r) : countR (R.take (i + 1)) = countR (R.take i) + r.2 := by rw [take_at h, countR_snoc]
theorem count_le (R : List Run) (i : Nat) : countR (R.take i) ≤ countR R := by
  have : countR R = countR (R.take i) + countR (R.drop i) := by
    conv => lhs; rw [← List.take_append_drop i R]
    unfold countR; rw [List.map_append, List.sum_append]
  omega
/-- The kind of each of a run. -/
theorem kind_run (l : List Seg) {i k : Nat} {r : Run} (h : (runsS l)[i]? = some r) (hk : k < r.2) : ∃ s, l[countR ((runsS l).take i) + k]? = some s ∧ s.kind = r.1 := by
  have e : l.map (·.kind) = expR ((runsS l).take i) ++ (List.replicate r.2 r.1 ++ expR ((runsS l).drop (i + 1))) := by
    rw [← exp_runs l, ← List.append_assoc, ← exp_take _ h]
    unfold expR; rw [← List.flatMap_append, List.take_append_drop]
  have g : (l.map (·.kind))[countR ((runsS l).take i) + k]? = some r.1 := by
    rw [e, List.getElem?_append_right (by rw [exp_len]; omega), exp_len, Nat.add_sub_cancel_left, List.getElem?_append_left (by simpa using hk)]
    simp [List.getElem?_replicate, hk]
  rw [List.getElem?_map] at g
  cases q : l[countR ((runsS l).take i) + k]? with
  | none => rw [q] at g; exact nomatch g
  | some s => rw [q] at g; exact ⟨s, rfl, Option.some.inj g⟩

theorem runs_len_le (l : List Seg) : (runsS l).length ≤ l.length := by
  have : ∀ (m : List Seg) (A : List Run), (m.foldl (fun A s => pushR A s.kind) A).length ≤ A.length + m.length := fun m => by
    induction m with
    | nil => intro A; simp
    | cons s m ih => intro A; have := ih (pushR A s.kind); have := pushR_len A s.kind; simp only [List.foldl_cons, List.length_cons]; omega
  have := this l []
  simp only [List.length_nil, Nat.zero_add] at this
  exact this
theorem run_mem (l : List Seg) {r : Run} (hr : r ∈ runsS l) : r.2 ≤ l.length ∧ ∃ s ∈ l, s.kind = r.1 := by
  obtain ⟨i, h⟩ := List.mem_iff_getElem?.mp hr
  have c := count_take _ h
  have c2 := count_le (runsS l) (i + 1)
  have c3 : countR (runsS l) = l.length := by rw [← exp_len, exp_runs, List.length_map]
  refine ⟨by omega, ?_⟩
  obtain ⟨s, hs, hk⟩ := kind_run l h (k := 0) (by have := (good_runs l).1 r hr; omega)
  exact ⟨s, List.mem_of_getElem? hs, hk⟩
end
end Go.VL.En

/- An icon's bytes in plain numbers: what a right icon has. -/
namespace Go.VL.En
open Go.FR Go.IR Go.VL Go.VL.Color Go.VL.Wind Go.VL.Ic Go.VL.Wire
noncomputable section
set_option linter.unusedSimpArgs false
set_option linter.unusedVariables false

theorem inS_true {n lo hi : Int} : inS n lo hi = true ↔ lo ≤ n ∧ n ≤ hi := by
  unfold inS; split
  · simp; omega
  · simp; omega
theorem inS_false {n lo hi : Int} : inS n lo hi = false ↔ ¬ (lo ≤ n ∧ n ≤ hi) := by
  rw [← inS_true]; simp
def NearM (m : Int) (p : Pt) : Prop := (-m ≤ p.x ∧ p.x ≤ m) ∧ -m ≤ p.y ∧ p.y ≤ m
theorem far_false {p : Pt} {m : Int} (h : farS p m = false) : NearM m p := by
  unfold farS at h
  simp only [Bool.or_eq_false_iff, Bool.not_eq_false', inS_true] at h
  exact h
theorem NearM.b {m : Int} {p : Pt} (h : NearM m p) (hm : m ≤ 1048576) : NearB p := by
  obtain ⟨⟨a, b⟩, c, d⟩ := h
  exact ⟨⟨by omega, by omega⟩, by omega, by omega⟩
/-- A segment as it may be: nothing behind its points. -/
def SegR (s : Seg) : Prop := SegOk s ∧ ∀ p ∈ (segPts s).drop s.kind.toNat, zeroP p
theorem seg_r {s : Seg} {m : Int} (hm : m ≤ 1048576) (h : segS s m = none) : SegR s := by
  have k := segS_none h
  unfold segS at h
  split at h
  · exact nomatch h
  split at h
  · exact nomatch h
  rename_i h2
  split at h
  · exact nomatch h
  rename_i h3
  refine ⟨⟨k.1, k.2, fun p hp => ?_⟩, fun p hp => ?_⟩
  · rw [Bool.not_eq_true, List.any_eq_false] at h2
    have := h2 p hp
    exact (far_false (by simpa using this)).b hm
  · rw [Bool.not_eq_false, List.all_eq_true] at h3
    simpa using h3 p hp
structure PathR (p : Path) : Prop where
  l : p.segs.length ≤ 400
  n : p.segs ≠ []
  s : NearB p.start
  r : ∀ s ∈ p.segs, SegR s
theorem path_r {p : Path} {b : Bool} {m : Int} (hm : m ≤ 1048576) (h : pathS p b m = none) : PathR p := by
  obtain ⟨a1, a2, a3, _, a5⟩ := pathS_none h
  exact ⟨a1, a2, (far_false a3).b hm, fun s hs => seg_r hm (a5 s hs)⟩
/-- A paint as it may be. -/
structure PaintR (p : Paint) : Prop where
  k : 0 ≤ p.kind ∧ p.kind ≤ 2
  a : 0 ≤ p.a ∧ p.a < 256
  b : 0 ≤ p.b ∧ p.b < 256
  np : NearB p.p
  nq : NearB p.q
  z0 : p.kind = 0 → p.b = 0 ∧ zeroP p.p ∧ zeroP p.q
  z2 : p.kind = 2 → 0 < p.q.x ∧ p.q.y = 0
theorem zero_near {p : Pt} (h : zeroP p) : NearB p := by
  obtain ⟨a, b⟩ := h
  exact ⟨⟨by omega, by omega⟩, by omega, by omega⟩
theorem paint_r {p : Paint} {n m : Int} (hn : n ≤ 256) (hm : m ≤ 1048576) (h : paintS p n m = none) : PaintR p := by
  unfold paintS at h
  split at h
  · exact nomatch h
  rename_i h1
  simp only [inS_false, not_or, Decidable.not_not, not_and] at h1
  obtain ⟨k, a, b⟩ := h1
  split at h
  · rename_i k0
    split at h
    · exact nomatch h
    rename_i h2
    simp only [not_or, Decidable.not_not, ne_eq] at h2
    obtain ⟨b0, z1, z2⟩ := h2
    exact ⟨⟨by omega, by omega⟩, ⟨by omega, by omega⟩, ⟨by omega, by omega⟩, zero_near z1, zero_near z2, fun _ => ⟨b0, z1, z2⟩, fun e => by omega⟩
  · rename_i k0
    have b' := b k0
    split at h
    · exact nomatch h
    rename_i f
    have fp := (far_false (p := p.p) (by simpa using f)).b hm
    split at h
    · rename_i k1
      split at h
      · exact nomatch h
      rename_i f2
      simp only [not_or, Bool.not_eq_true] at f2
      exact ⟨⟨by omega, by omega⟩, ⟨by omega, by omega⟩, ⟨by omega, by omega⟩, fp, (far_false f2.1).b hm, fun e => by omega, fun e => by omega⟩
    · rename_i k1
      split at h
      · exact nomatch h
      rename_i f2
      rw [Bool.not_eq_false, inS_true] at f2
      split at h
      · exact nomatch h
      rename_i f3
      simp only [ne_eq, Decidable.not_not] at f3
      exact ⟨⟨by omega, by omega⟩, ⟨by omega, by omega⟩, ⟨by omega, by omega⟩, fp, ⟨⟨by omega, by omega⟩, by omega, by omega⟩, fun e => by omega, fun _ => ⟨by omega, f3⟩⟩
structure CmdR (c : Cmd) : Prop where
  k : c.kind = 1 ∧ 0 ≤ c.rule ∧ c.rule ≤ 1 ∧ c.width = 0 ∨ c.kind = 2 ∧ c.rule = 0 ∧ 1 ≤ c.width ∧ c.width ≤ 1048576
  p : PaintR c.paint
  n : c.paths ≠ []
  l : c.paths.length ≤ 200
  r : ∀ p ∈ c.paths, PathR p
  o : c.kind = 1 → ∀ p ∈ c.paths, p.closed = false
theorem cmd_r {c : Cmd} {n m : Int} (hn : n ≤ 256) (hm : m ≤ 1048576) (h : cmdS c n m = none) : CmdR c := by
  obtain ⟨a1, a2, a3, a4, a5⟩ := cmdS_none h
  refine ⟨?_, paint_r hn hm a2, a3, a4, fun p hp => path_r hm (a5 p hp), fun e p hp => ?_⟩
  · unfold headS at a1
    split at a1
    · rename_i q
      simp only [inS_true] at q
      exact .inl ⟨q.1, q.2.1.1, q.2.1.2, q.2.2⟩
    · split at a1
      · rename_i q
        simp only [inS_true] at q
        exact .inr ⟨q.1, q.2.1, q.2.2.1, by omega⟩
      · exact nomatch a1
  · have := (pathS_none (a5 p hp)).2.2.2.1
    rw [decide_eq_true e] at this
    simpa using this
structure IconR (i : Icon) : Prop where
  w : 1 ≤ i.w ∧ i.w ≤ 4096
  h : 1 ≤ i.h ∧ i.h ≤ 4096
  s : 0 ≤ i.scale ∧ i.scale ≤ 6
  cs : i.colors.length ≤ 256
  cl : i.cmds.length ≤ 200
  r : ∀ c ∈ i.cmds, CmdR c
  p : pointsS i ≤ 4000
theorem icon_r {i : Icon} (h : checkS i = none) : IconR i := by
  unfold checkS at h
  split at h
  · exact nomatch h
  rename_i sz
  obtain ⟨b1, b2, b3, b4, b5, b6⟩ := sized_bnd (by simpa using sz)
  split at h
  · exact nomatch h
  rename_i le
  split at h
  · exact nomatch h
  rename_i e
  split at h
  · exact nomatch h
  rename_i pt
  have g := great_bnd i
  exact ⟨⟨b1, b2⟩, ⟨b3, b4⟩, ⟨b5, b6⟩, by omega, by omega, fun c hc => cmd_r (by omega) (by omega) (firstS_none.mp e c hc), by omega⟩

def pathB (p : Path) : List Nat := putS (2 * (runsS p.segs).length + (if p.closed then 1 else 0)) ++ (pointB p.start ++ runsB p.start (runsS p.segs) p.segs)
def paintB (p : Paint) : List Nat := putS p.a.toNat ++ (if p.kind = 0 then [] else putS p.b.toNat ++ (pointB p.p ++ (if p.kind = 1 then pointB p.q else putS p.q.x.toNat)))
def cmdB (c : Cmd) : List Nat := putS (c.kind - 1 + 2 * c.rule + 4 * c.paint.kind).toNat ++ ((if c.kind = 2 then putS c.width.toNat else []) ++ (paintB c.paint ++ (putS c.paths.length ++ c.paths.flatMap pathB)))

theorem point_le20 {p : Pt} (h : NearB p) : (pointB p).length ≤ 20 := by
  have := point_le p h ⟨0, 0⟩ ⟨⟨by simp, by simp⟩, by simp, by simp⟩
  unfold subPt at this; simpa using this
theorem path_runs {p : Path} (h : PathR p) : ∀ r ∈ runsS p.segs, r.2 < 1000000 ∧ 1 ≤ r.1 ∧ r.1 ≤ 3 := fun r hr => by
  obtain ⟨a, s, hs, e⟩ := run_mem p.segs hr
  have k := (h.r s hs).1
  have := h.l
  exact ⟨by omega, by have := k.1; omega, by have := k.2.1; omega⟩
theorem path_len0 {p : Path} (h : PathR p) : (pathB p).length ≤ 30 + 70 * p.segs.length := by
  have h1 := runs_le (runsS p.segs) p.start p.segs (fun r hr => ⟨(path_runs h r hr).1, (path_runs h r hr).2.2⟩) h.s (fun s hs => (h.r s hs).1)
  have h2 := runs_len_le p.segs
  have h3 := point_le20 h.s
  have hl := h.l
  have h4 := putS_10 (n := 2 * (runsS p.segs).length + (if p.closed then 1 else 0)) (by split <;> omega)
  unfold pathB
  rw [List.length_append, List.length_append]; omega
theorem kind_sum : ∀ (l : List Seg), (∀ s ∈ l, SegR s) → (l.length : Int) ≤ sumS' (fun s => s.kind) l
  | [], _ => by simp [sumS']
  | s :: l, h => by
    have h1 := (h s (.head _)).1.1
    have h2 := kind_sum l fun t ht => h t (.tail _ ht)
    simp only [sumS', List.length_cons]; omega
abbrev ptsP (p : Path) : Int := 1 + sumS' (fun s => s.kind) p.segs
theorem path_len {p : Path} (h : PathR p) : ((pathB p).length : Int) ≤ 70 * ptsP p := by
  have h1 := path_len0 h
  have h2 := kind_sum p.segs h.r
  unfold ptsP; omega
theorem fm_sum {α : Type} {g : α → List Nat} {f : α → Int} (c : Int) : ∀ {l : List α}, (∀ x ∈ l, ((g x).length : Int) ≤ c + 70 * f x) → ((l.flatMap g).length : Int) ≤ c * l.length + 70 * sumS' f l
  | [], _ => by simp [sumS']
  | x :: l, h => by
    have h1 := h x (.head _)
    have h2 := fm_sum (l := l) c fun y hy => h y (.tail _ hy)
    simp only [sumS', List.flatMap_cons, List.length_append, List.length_cons, Int.natCast_add, Int.natCast_one, Int.mul_add]; omega
theorem paint_len {p : Paint} (h : PaintR p) : (paintB p).length ≤ 60 := by
  have h1 := putS_10 (n := p.a.toNat) (by have := h.a; omega)
  have h2 := putS_10 (n := p.b.toNat) (by have := h.b; omega)
  have h3 := point_le20 h.np
  have h4 := point_le20 h.nq
  have h5 := putS_10 (n := p.q.x.toNat) (by have := h.nq.1; omega)
  unfold paintB
  split
  · simp; omega
  · split <;> simp only [List.length_append] <;> omega
theorem cmd_len {c : Cmd} (h : CmdR c) : ((cmdB c).length : Int) ≤ 100 + 70 * sumS' ptsP c.paths := by
  have h1 := putS_10 (n := (c.kind - 1 + 2 * c.rule + 4 * c.paint.kind).toNat) (by have := h.k; have := h.p.k; omega)
  have h2 := putS_10 (n := c.width.toNat) (by have := h.k; omega)
  have h3 := paint_len h.p
  have h4 := putS_10 (n := c.paths.length) (by have := h.l; omega)
  have h5 := fm_sum (g := pathB) (f := ptsP) 0 (l := c.paths) fun p hp => by have := path_len (h.r p hp); omega
  unfold cmdB
  split <;> simp only [List.length_append, List.length_nil] <;> omega
theorem cmds_len {i : Icon} (h : IconR i) : (i.cmds.flatMap cmdB).length ≤ 300000 := by
  have h5 := fm_sum (g := cmdB) (f := fun c => sumS' ptsP c.paths) 100 (l := i.cmds) fun c hc => cmd_len (h.r c hc)
  have h6 : sumS' (fun c : Cmd => sumS' ptsP c.paths) i.cmds = pointsS i := rfl
  have := h.cl
  have := h.p
  omega
end
end Go.VL.En

/- Chapter 6: a path's, a paint's, a command's bytes. -/
namespace Go.VL.En
open Go.FR Go.IR Go.VL Go.VL.Color Go.VL.Wind Go.VL.Ic Go.VL.Wire
noncomputable section
set_option linter.unusedSimpArgs false
set_option linter.unusedVariables false
set_option maxRecDepth 100000
set_option maxHeartbeats 1000000

theorem near_pt {p : Pt} (h : NearB p) : (-9223372036854775808 ≤ p.x ∧ p.x ≤ 9223372036854775807) ∧ -9223372036854775808 ≤ p.y ∧ p.y ≤ 9223372036854775807 := by
  obtain ⟨⟨a, b⟩, c, d⟩ := h; exact ⟨⟨by omega, by omega⟩, by omega, by omega⟩
theorem path_wr (p : Path) (hp : PathR p) : Wr f_encode_writer_path (fun b => [.ptr b 0, .agg (cPath p)]) (pathB p) 100000 := by
  intro Gl h b j v X hi ha hb hbj hX
  obtain ⟨p0, sg, cl⟩ := p
  have hR := path_runs hp
  have rl := runs_len_le sg
  have sl := hp.l
  have hst := hp.s
  have l20 := point_le20 hst
  have hn0 := near_pt hst
  have hsg := hp.r
  simp only at hR sl hst l20 hn0 hsg
  have own := runs_own Gl sg (by omega) hp.n
  obtain ⟨R, eR⟩ : ∃ R, runsS sg = R := ⟨_, rfl⟩
  have cRl : countR R = sg.length := by rw [← eR, ← exp_len, exp_runs, List.length_map]
  rw [eR] at own hR rl
  have rle := runs_le R p0 sg (fun r hr => ⟨(hR r hr).1, (hR r hr).2.2⟩) hst (fun s hs => (hsg s hs).1)
  obtain ⟨n, hn, hcl⟩ : ∃ n : Nat, n < 1000 ∧ (cl = true ∧ n = 2 * R.length + 1 ∨ cl = false ∧ n = 2 * R.length) := by
    cases e : cl
    · exact ⟨_, by omega, .inr ⟨rfl, rfl⟩⟩
    · exact ⟨_, by omega, .inl ⟨rfl, rfl⟩⟩
  have eB : pathB ⟨p0, sg, cl⟩ = putS n ++ (pointB p0 ++ runsB p0 R sg) := by
    unfold pathB; rw [eR]
    rcases hcl with ⟨e, rfl⟩ | ⟨e, rfl⟩ <;> simp [e]
  have w1 : IntKind.i64.wrap (2 * (R.length : Int)) = 2 * (R.length : Int) := qzY (by omega) (by omega)
  have wc : cl = true → IntKind.i64.wrap (2 * (R.length : Int) + 1) = (n : Int) := fun e => by rw [qzY (by omega) (by omega)]; rcases hcl with q | q <;> simp [e] at q; omega
  have wo : cl = false → IntKind.i64.wrap (2 * (R.length : Int) + 0) = (n : Int) := fun e => by rw [qzY (by omega) (by omega)]; rcases hcl with q | q <;> simp [e] at q; omega
  have pn := putS_10 (n := n) (by omega)
  have nb : numsB [n] = putS n := by simp [numsB]
  have nbl : (numsB [n]).length ≤ 10 := by rw [nb]; exact pn
  rw [eB] at hX ⊢
  rw [List.length_append, List.length_append] at hX
  have st0 : St h.next b j v X h [] h j v := ⟨hi, by rw [List.append_nil]; exact ha, hbj, fun _ _ _ _ => rfl, .inl ⟨rfl, rfl⟩, Nat.le_refl _⟩
  obtain ⟨hA, eA⟩ : ∃ hA : VH, VH.mk ((h.next + 1 + 1, some (VB.cells [.int .i64 (n : Int)] false)) :: (h.next + 1, some (.cells (xzk cR R) false)) :: (h.next, some (.cells (cPath ⟨p0, sg, cl⟩) false)) :: h.l) (h.next + 1 + 1 + 1) = hA := ⟨_, rfl⟩
  have nA : hA.next = h.next + 1 + 1 + 1 := by rw [← eA]
  have fA : ∀ k, k < h.next → qzw hA.l k = qzw h.l k := fun k k1 => by rw [← eA]; simp only [qza]; rw [if_neg (by omega), if_neg (by omega), if_neg (by omega)]
  have a0 : qzw hA.l h.next = some (some (.cells (cPath ⟨p0, sg, cl⟩) false)) := by rw [← eA]; simp only [qza]; rw [if_neg (by omega), if_neg (by omega), if_pos trivial]
  have a1 : qzw hA.l (h.next + 1) = some (some (.cells (xzk cR R) false)) := by rw [← eA]; simp only [qza]; rw [if_neg (by omega), if_pos trivial]
  have a2 : qzw hA.l (h.next + 1 + 1) = some (some (.cells [.int .i64 (n : Int)] false)) := by rw [← eA]; simp only [qza, if_true]
  obtain ⟨st1, _⟩ := st0.move (h2 := hA) hb h.next (Nat.le_refl _) (AccE.ne ha (.inr (Nat.le_refl _))) (by omega) (fun k k1 _ => fA k k1)
  have y1 : ¬ h.next + 1 = h.next := by omega
  have y2 : ¬ h.next + 1 + 1 = h.next := by omega
  have y3 : ¬ h.next + 1 + 1 = h.next + 1 := by omega
  refine xzf E_encode_writer_path ?_
  unfold c_encode_writer_path r_encode_writer_path
  simp only [xzB]
  rcases hcl with ⟨rfl, _⟩ | ⟨rfl, _⟩
  have wn := wc rfl
  simp only [qzk, qzo, qzi, qzf, qze, qzd, qzp, qzF, qzX, qzN, qzc, qzj, qzE, qzb, qzg, qzh, qzO, qzD, qzl, qzm, qzt, qza, qzs, qzu, qzG, qzL, qzB, xzh, xzF, qzA, VN.at, VH.push, qzq, VV.cells, ntV, ↓reduceIte, Option.getD_some, List.getElem?_cons_zero, List.getElem?_cons_succ, reduceCtorEq, Nat.zero_add, reduceCtorEq, cPath]
  refine call_own own rfl (plainL_flat (fun _ => rfl) _) ?_
  simp only [qzz, qzk, qzo, qzv, qzn, qzi, qzf, qze, qzd, qzp, qzF, qzX, qzN, qzy, qzc, qzj, qzE, qzb, qzg, qzh, qzO, qzD, qzl, qzm, qzt, qza, qzs, qzu, qzx, qzG, xzi, qzL, qzB, xzh, xzv, qzW, qzA, cvs, cv, qzI, qzJ, toA, ofA, FR.pop, abin, intBin, VN.at, VH.push, qzq, VV.cells, ntV, ↓reduceIte, Option.getD_some, List.getElem?_cons_zero, List.getElem?_cons_succ, List.length_cons, List.length_nil, List.drop_succ_cons, List.drop_zero, List.take_zero, List.append_nil, List.nil_append, Nat.reduceDiv, Nat.reduceEqDiff, reduceCtorEq, Nat.reduceLeDiff, Nat.zero_add, and_self, and_true, forall_const, false_implies, Bool.true_eq_false, reduceCtorEq, w1, wn, y1]
  show wpCall Go.VL.Er.E Gl f_encode_writer_num [.ptr b 0, .slice (h.next + 1 + 1) 0 1 1 (.exact 1)] (VH.mk ((h.next + 1 + 1, some (VB.cells [.int .i64 (n : Int)] false)) :: (h.next + 1, some (.cells (xzk cR R) false)) :: (h.next, some (.cells (cPath ⟨p0, sg, true⟩) false)) :: h.l) (h.next + 1 + 1 + 1)) _
  rw [eA]
  rotate_left
  have wn := wo rfl
  simp only [qzk, qzo, qzi, qzf, qze, qzd, qzp, qzF, qzX, qzN, qzc, qzj, qzE, qzb, qzg, qzh, qzO, qzD, qzl, qzm, qzt, qza, qzs, qzu, qzG, qzL, qzB, xzh, xzF, qzA, VN.at, VH.push, qzq, VV.cells, ntV, ↓reduceIte, Option.getD_some, List.getElem?_cons_zero, List.getElem?_cons_succ, reduceCtorEq, Nat.zero_add, reduceCtorEq, cPath]
  refine call_own own rfl (plainL_flat (fun _ => rfl) _) ?_
  simp only [qzz, qzk, qzo, qzv, qzn, qzi, qzf, qze, qzd, qzp, qzF, qzX, qzN, qzy, qzc, qzj, qzE, qzb, qzg, qzh, qzO, qzD, qzl, qzm, qzt, qza, qzs, qzu, qzx, qzG, xzi, qzL, qzB, xzh, xzv, qzW, qzA, cvs, cv, qzI, qzJ, toA, ofA, FR.pop, abin, intBin, VN.at, VH.push, qzq, VV.cells, ntV, ↓reduceIte, Option.getD_some, List.getElem?_cons_zero, List.getElem?_cons_succ, List.length_cons, List.length_nil, List.drop_succ_cons, List.drop_zero, List.take_zero, List.append_nil, List.nil_append, Nat.reduceDiv, Nat.reduceEqDiff, reduceCtorEq, Nat.reduceLeDiff, Nat.zero_add, and_self, true_and, Bool.false_eq_true, forall_const, false_implies, reduceCtorEq, w1, wn, y1]
  show wpCall Go.VL.Er.E Gl f_encode_writer_num [.ptr b 0, .slice (h.next + 1 + 1) 0 1 1 (.exact 1)] (VH.mk ((h.next + 1 + 1, some (VB.cells [.int .i64 (n : Int)] false)) :: (h.next + 1, some (.cells (xzk cR R) false)) :: (h.next, some (.cells (cPath ⟨p0, sg, false⟩) false)) :: h.l) (h.next + 1 + 1 + 1)) _
  rw [eA]
  rotate_left
  all_goals
    refine xzC (num_run [n] (by simp; omega) (by simp) b (h.next + 1 + 1) (by omega) j v (X ++ []) hA (by rw [List.append_nil]; omega) (by omega) (by omega) (AccE.ne ha (.inr (by omega))) a2 st1.i st1.a st1.bj) ?_
    intro rr h2 q
    obtain ⟨j2, v2, st2, kp2, bk2⟩ := st1.call hb h.next q (st1.d.symm)
    have n2 := kp2.1
    have b2 := bk2 (by omega) (by omega) (AccE.ne ha (.inr (by omega)))
    have c1 := kp2.2 (h.next + 1) (by omega) (by omega) (by omega) (AccE.ne ha (.inr (by omega)))
    have ic2 := b2.1.trans a0
    have ir2 := c1.1.trans a1
    simp only [qzk, qzo, qzi, qzf, qze, qzd, qzp, qzF, qzN, qzy, qzc, qzj, qzb, qzg, qzh, qzD, qzl, qzm, qzt, qza, qzs, qzu, qzx, qzG, qzL, qzB, qzA, qzq, ↓reduceIte, Option.getD_some, List.length_cons, List.length_nil, List.drop_zero, List.take_succ_cons, List.take_zero, Nat.reduceAdd, Nat.reduceEqDiff, reduceCtorEq, Nat.reduceLeDiff, Nat.add_zero, Nat.zero_add, reduceCtorEq, cPath, ic2]
    refine xzC (point_wr p0 hn0.1.1 hn0.1.2 hn0.2.1 hn0.2.2 Gl h2 b j2 v2 (X ++ ([] ++ numsB [n])) st2.i st2.a (by omega) st2.bj (by rw [List.length_append, List.nil_append]; omega)) ?_
    intro rr h3 q3
    obtain ⟨j3, v3, st3, kp3, bk3⟩ := st2.call hb h.next q3 (st2.d.symm)
    have n3 := kp3.1
    have b3 := bk3 (by omega) (by omega) b2.2
    have c3 := kp3.2 (h.next + 1) (by omega) (by omega) (by omega) c1.2
    have ic3 := b3.1.trans ic2
    have ir3 := c3.1.trans ir2
    have z1 : (h.next == h3.next) = false := by simp; omega
    have z2 : ¬ h3.next = h.next := by omega
    have z3 : decide (h.next < h3.next + 1) = true := by simp; omega
    simp only [qzk, xzM, qzo, qzC, qzi, qzf, qze, qzd, qzp, qzy, xzO, xzr, xzp, xzD, xzT, wpXA_n, xzN, xzQ, qzc, qzj, qzE, qzb, xza, qzg, qzh, xzx, xzy, kXN_app, xzb, qzl, qzm, qzt, qza, qzs, qzu, qzx, qzG, xzi, qzL, qzB, xzh, qzW, xzg, xzq, qzA, cvs, cv, VN.at, VH.push, VH.set, qzq, VV.cells, ntV, qzS, countN, xzK, lowB, fzB, fzL, xzS, xzV, xzL, xzU, xzX, xzY, xzz, ↓reduceIte, Option.getD_some, Option.isSome_some, Option.map_some, List.getElem?_cons_zero, List.getElem?_cons_succ, List.length_cons, List.length_nil, List.drop_succ_cons, List.drop_zero, List.take_succ_cons, List.take_zero, List.append_nil, List.nil_append, List.contains_cons, List.contains_nil, List.head?_cons, Nat.reduceAdd, Nat.reduceLT, Nat.reduceEqDiff, Nat.reduceLeDiff, Nat.add_zero, Nat.zero_add, and_self, true_and, Bool.and_self, Bool.or_false, Bool.or_true, Bool.not_false, cPath, ic3, z1, z2, z3]
    obtain ⟨st4, kp4⟩ := st3.move (h2 := ⟨(h3.next, some (VB.cells (cPt p0) false)) :: (h3.next, some (VB.cells [.int .i64 0, .int .i64 0] false)) :: h3.l, h3.next + 1⟩) hb h3.next (by omega) (AccE.ne st3.a (.inr (Nat.le_refl _))) (by show h3.next ≤ h3.next + 1; omega) (fun k k1 k3 => by simp only [qza]; rw [if_neg (by omega), if_neg (by omega)])
    have lD : ([] ++ numsB [n] ++ pointB p0).length ≤ 30 := by rw [List.length_append, List.nil_append]; omega
    refine runs_loop2 h.next b j v X h hb h3.next (by omega) (h.next + 1) (by omega) (by omega) R hR (by omega) ([] ++ numsB [n] ++ pointB p0) _ ⟨(h3.next, some (VB.cells (cPt p0) false)) :: (h3.next, some (VB.cells [.int .i64 0, .int .i64 0] false)) :: h3.l, h3.next + 1⟩ j3 v3 (by simp only [qza]; rw [if_neg (by omega), if_neg (by omega)]; exact ir3) (by show h.next + 1 < h3.next + 1; omega) c3.2 _ (runsB p0 R sg) ?_ ?_ ?_ ?_ ?_ (by omega) R.length 0 sg p0 [] _ _ j3 v3 (by omega) (by simp) (by simpa using cRl) (by omega) (fun s hs => (hsg s hs).1) hst (fun _ _ _ _ _ _ => rfl) ?_ ?_ (by rw [List.append_nil]; exact st4) Kp.refl (by simp only [qza, if_true]) (by show h3.next < h3.next + 1; omega) (AccE.ne st3.a (.inr (Nat.le_refl _))) (by rw [List.append_nil]; omega)
    · intro T h5 j5 v5 st5
      simp only [xzu, Ends_n, qzQ, qzM, qzP, ↓reduceIte]
      refine ⟨j5, v5, st5.i, ?_, st5.bj, st5.fr, st5.n, st5.d⟩
      have := st5.a
      rw [nb, List.nil_append, List.append_assoc] at this
      exact this
    all_goals first | (simp only [qza, ↓reduceIte, Nat.reduceEqDiff, reduceCtorEq, reduceCtorEq]; done) | (simp only [qza, ↓reduceIte]; rfl)
end
end Go.VL.En
