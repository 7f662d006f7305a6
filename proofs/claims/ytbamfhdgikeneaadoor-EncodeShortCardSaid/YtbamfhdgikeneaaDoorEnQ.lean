import Derived.Test.YtbamfhdgikeneaaDoorEnP
import Derived.Test.YtbamfhdgikeneaaDoorGeA
import Derived.Test.YtbamfhdgikeneaaDoorWiA
import Derived.Test.YtbamfhdgikeneaaDoorPaA
/- Unlike icons have unlike bytes: in plain numbers. -/
namespace Go.VL.En
open Go.FR Go.IR Go.VL Go.VL.Color Go.VL.Wind Go.VL.Ic Go.VL.Wire
noncomputable section
set_option linter.unusedSimpArgs false
set_option linter.unusedVariables false

theorem put_inj {a b : Nat} {s t : List Nat} (ha : a < 18446744073709551616) (hb : b < 18446744073709551616) (h : putS a ++ s = putS b ++ t) : a = b ∧ s = t := by
  have e1 := get_put a s 0 0 (by omega) (by simpa using ha) (by omega)
  have e2 := get_put b t 0 0 (by omega) (by simpa using hb) (by omega)
  rw [h, e2] at e1
  injection e1 with e3 e4
  obtain rfl : a = b := by simpa using e3.symm
  exact ⟨rfl, List.append_cancel_left h⟩
theorem zig_inj {a b : Int} (h : zigS a = zigS b) : a = b := by
  unfold zigS at h; split at h <;> split at h <;> omega
theorem point_inj {p q : Pt} {s t : List Nat} (hp : (-9223372036854775808 ≤ p.x ∧ p.x ≤ 9223372036854775807) ∧ -9223372036854775808 ≤ p.y ∧ p.y ≤ 9223372036854775807) (hq : (-9223372036854775808 ≤ q.x ∧ q.x ≤ 9223372036854775807) ∧ -9223372036854775808 ≤ q.y ∧ q.y ≤ 9223372036854775807) (h : pointB p ++ s = pointB q ++ t) : p = q ∧ s = t := by
  unfold pointB at h
  rw [List.append_assoc, List.append_assoc] at h
  obtain ⟨h1, h2⟩ := put_inj (zig_lt hp.1.1 hp.1.2) (zig_lt hq.1.1 hq.1.2) h
  obtain ⟨h3, h4⟩ := put_inj (zig_lt hp.2.1 hp.2.2) (zig_lt hq.2.1 hq.2.2) h2
  refine ⟨?_, h4⟩
  cases p; cases q
  have := zig_inj h1; have := zig_inj h3
  simp_all
theorem near_point {p : Pt} (h : NearB p) : (-9223372036854775808 ≤ p.x ∧ p.x ≤ 9223372036854775807) ∧ -9223372036854775808 ≤ p.y ∧ p.y ≤ 9223372036854775807 := by
  obtain ⟨⟨a, b⟩, c, d⟩ := h; exact ⟨⟨by omega, by omega⟩, by omega, by omega⟩
theorem near_sub {p q : Pt} (h : NearB p) (h' : NearB q) : (-9223372036854775808 ≤ (subPt p q).x ∧ (subPt p q).x ≤ 9223372036854775807) ∧ -9223372036854775808 ≤ (subPt p q).y ∧ (subPt p q).y ≤ 9223372036854775807 := by
  obtain ⟨⟨a, b⟩, c, d⟩ := h; obtain ⟨⟨a', b'⟩, c', d'⟩ := h'
  unfold subPt; exact ⟨⟨by simp only; omega, by simp only; omega⟩, by simp only; omega, by simp only; omega⟩
theorem sub_inj {p q a : Pt} (h : subPt p a = subPt q a) : p = q := by
  cases p; cases q
  simp only [subPt, Pt.mk.injEq] at h ⊢
  omega
theorem delta_inj : ∀ (l l' : List Pt) (a : Pt) (s t : List Nat), l.length = l'.length → NearB a → (∀ p ∈ l, NearB p) → (∀ p ∈ l', NearB p) → deltaB a l ++ s = deltaB a l' ++ t → l = l' ∧ s = t
  | [], [], _, _, _, _, _, _, _, h => ⟨rfl, h⟩
  | [], _ :: _, _, _, _, hl, _, _, _, _ => nomatch hl
  | _ :: _, [], _, _, _, hl, _, _, _, _ => nomatch hl
  | p :: l, q :: l', a, s, t, hl, ha, h1, h2, h => by
    rw [deltaB, deltaB, List.append_assoc, List.append_assoc] at h
    have np := h1 p (.head _)
    have nq := h2 q (.head _)
    obtain ⟨e1, e2⟩ := point_inj (near_sub np ha) (near_sub nq ha) h
    obtain rfl := sub_inj e1
    obtain ⟨rfl, e3⟩ := delta_inj l l' p s t (by simpa using hl) np (fun x hx => h1 x (.tail _ hx)) (fun x hx => h2 x (.tail _ hx)) e2
    exact ⟨rfl, e3⟩
theorem zero_eq {p q : Pt} (h : zeroP p) (h' : zeroP q) : p = q := by
  cases p; cases q
  simp only [zeroP] at h h'
  obtain ⟨rfl, rfl⟩ := h
  obtain ⟨rfl, rfl⟩ := h'
  rfl
theorem seg_eq {s s' : Seg} (h : SegR s) (h' : SegR s') (hk : s.kind = s'.kind) (hp : ptsOf s = ptsOf s') : s = s' := by
  obtain ⟨k, p, q, r⟩ := s
  obtain ⟨k', p', q', r'⟩ := s'
  simp only at hk
  subst hk
  obtain ⟨⟨k1, k2, _⟩, z⟩ := h
  obtain ⟨_, z'⟩ := h'
  simp only [ptsOf, segPts] at *
  have : k = 1 ∨ k = 2 ∨ k = 3 := by omega
  rcases this with rfl | rfl | rfl
  · simp at hp z z'
    rw [hp, zero_eq z.1 z'.1, zero_eq z.2 z'.2]
  · simp at hp z z'
    rw [hp.1, hp.2, zero_eq z z']
  · simp at hp
    rw [hp.1, hp.2.1, hp.2.2]
theorem segs_inj : ∀ (l l' : List Seg) (a : Pt) (s t : List Nat), l.map (·.kind) = l'.map (·.kind) → NearB a → (∀ p ∈ l, SegR p) → (∀ p ∈ l', SegR p) → segsB a l ++ s = segsB a l' ++ t → l = l' ∧ s = t
  | [], [], _, _, _, _, _, _, _, h => ⟨rfl, h⟩
  | [], _ :: _, _, _, _, hl, _, _, _, _ => nomatch hl
  | _ :: _, [], _, _, _, hl, _, _, _, _ => nomatch hl
  | p :: l, q :: l', a, s, t, hl, ha, h1, h2, h => by
    rw [segsB, segsB, List.append_assoc, List.append_assoc] at h
    have np := h1 p (.head _)
    have nq := h2 q (.head _)
    simp only [List.map_cons, List.cons.injEq] at hl
    obtain ⟨e1, e2⟩ := delta_inj (ptsOf p) (ptsOf q) a _ _ (by rw [pts_len np.1, pts_len nq.1, hl.1]) ha np.1.2.2 nq.1.2.2 h
    obtain rfl := seg_eq np nq hl.1 e1
    obtain ⟨rfl, e3⟩ := segs_inj l l' _ s t hl.2 (last_near _ _ ha np.1.2.2) (fun x hx => h1 x (.tail _ hx)) (fun x hx => h2 x (.tail _ hx)) e2
    exact ⟨rfl, e3⟩
theorem runs_inj : ∀ (R R' : List Run) (a : Pt) (l l' : List Seg) (s t : List Nat), R.length = R'.length → (∀ r ∈ R, r.2 < 1000000 ∧ 1 ≤ r.1 ∧ r.1 ≤ 3) → (∀ r ∈ R', r.2 < 1000000 ∧ 1 ≤ r.1 ∧ r.1 ≤ 3) → l.map (·.kind) = expR R → l'.map (·.kind) = expR R' → NearB a → (∀ p ∈ l, SegR p) → (∀ p ∈ l', SegR p) → runsB a R l ++ s = runsB a R' l' ++ t → l = l' ∧ s = t
  | [], [], _, l, l', _, _, _, _, _, k, k', _, _, _, h => by
    obtain rfl : l = [] := by simpa [expR] using k
    obtain rfl : l' = [] := by simpa [expR] using k'
    exact ⟨rfl, h⟩
  | [], _ :: _, _, _, _, _, _, hl, _, _, _, _, _, _, _, _ => nomatch hl
  | _ :: _, [], _, _, _, _, _, hl, _, _, _, _, _, _, _, _ => nomatch hl
  | (k, n) :: R, (k', n') :: R', a, l, l', s, t, hl, hr, hr', ek, ek', ha, h1, h2, h => by
    rw [runsB, runsB, List.append_assoc, List.append_assoc, List.append_assoc, List.append_assoc] at h
    obtain ⟨b1, b2, b3⟩ := hr (k, n) (.head _)
    obtain ⟨c1, c2, c3⟩ := hr' (k', n') (.head _)
    simp only at b1 b2 b3 c1 c2 c3 h
    obtain ⟨e1, e2⟩ := put_inj (by omega) (by omega) h
    obtain rfl : n = n' := by omega
    obtain rfl : k = k' := by omega
    simp only [expR, List.flatMap_cons] at ek ek'
    have tk : ∀ (m : List Seg) (X : List Int), m.map (·.kind) = List.replicate n k ++ X → (m.take n).map (·.kind) = List.replicate n k ∧ (m.drop n).map (·.kind) = X := fun m X e => by
      have x1 := congrArg (List.take n) e
      have x2 := congrArg (List.drop n) e
      rw [← List.map_take] at x1
      rw [← List.map_drop] at x2
      exact ⟨by rw [x1]; simp, by rw [x2]; simp⟩
    obtain ⟨t1, t2⟩ := tk l _ ek
    obtain ⟨t3, t4⟩ := tk l' _ ek'
    obtain ⟨e3, e4⟩ := segs_inj (l.take n) (l'.take n) a _ _ (by rw [t1, t3]) ha (fun x hx => h1 x (List.mem_of_mem_take hx)) (fun x hx => h2 x (List.mem_of_mem_take hx)) e2
    rw [← e3] at e4
    obtain ⟨e5, e6⟩ := runs_inj R R' _ (l.drop n) (l'.drop n) s t (by simpa using hl) (fun x hx => hr x (.tail _ hx)) (fun x hx => hr' x (.tail _ hx)) t2 t4 (segs_le _ a ha fun x hx => (h1 x (List.mem_of_mem_take hx)).1).2 (fun x hx => h1 x (List.mem_of_mem_drop hx)) (fun x hx => h2 x (List.mem_of_mem_drop hx)) e4
    refine ⟨?_, e6⟩
    rw [← List.take_append_drop n l, ← List.take_append_drop n l', e3, e5]
theorem path_inj {p p' : Path} {s t : List Nat} (h : PathR p) (h' : PathR p') (e : pathB p ++ s = pathB p' ++ t) : p = p' ∧ s = t := by
  unfold pathB at e
  simp only [List.append_assoc] at e
  have l1 := runs_len_le p.segs
  have l2 := runs_len_le p'.segs
  have l3 := h.l
  have l4 := h'.l
  obtain ⟨e1, e2⟩ := put_inj (by split <;> omega) (by split <;> omega) e
  have hc : p.closed = p'.closed := by
    cases a : p.closed <;> cases b : p'.closed <;> simp [a, b] at e1 <;> first | rfl | omega
  rw [hc] at e1
  obtain ⟨e3, e4⟩ := point_inj (near_point h.s) (near_point h'.s) e2
  rw [← e3] at e4
  obtain ⟨e5, e6⟩ := runs_inj _ _ p.start p.segs p'.segs s t (by omega) (path_runs h) (path_runs h') (exp_runs _).symm (exp_runs _).symm h.s h.r h'.r e4
  refine ⟨?_, e6⟩
  cases p; cases p'
  simp_all
theorem list_inj {α : Type} {g : α → List Nat} {P : α → Prop} (hg : ∀ x y s t, P x → P y → g x ++ s = g y ++ t → x = y ∧ s = t) : ∀ (l l' : List α) (s t : List Nat), l.length = l'.length → (∀ x ∈ l, P x) → (∀ x ∈ l', P x) → l.flatMap g ++ s = l'.flatMap g ++ t → l = l' ∧ s = t
  | [], [], _, _, _, _, _, h => ⟨rfl, h⟩
  | [], _ :: _, _, _, hl, _, _, _ => nomatch hl
  | _ :: _, [], _, _, hl, _, _, _ => nomatch hl
  | x :: l, y :: l', s, t, hl, h1, h2, h => by
    rw [List.flatMap_cons, List.flatMap_cons, List.append_assoc, List.append_assoc] at h
    obtain ⟨rfl, e⟩ := hg x y _ _ (h1 x (.head _)) (h2 y (.head _)) h
    obtain ⟨rfl, e2⟩ := list_inj hg l l' s t (by simpa using hl) (fun x hx => h1 x (.tail _ hx)) (fun x hx => h2 x (.tail _ hx)) e
    exact ⟨rfl, e2⟩
theorem paint_inj {p p' : Paint} {s t : List Nat} (hk : p.kind = p'.kind) (h : PaintR p) (h' : PaintR p') (e : paintB p ++ s = paintB p' ++ t) : p = p' ∧ s = t := by
  obtain ⟨k, a, b, x, y⟩ := p
  obtain ⟨k', a', b', x', y'⟩ := p'
  simp only at hk
  subst hk
  have := h.a; have := h'.a; have := h.b; have := h'.b; have := h.k
  have z0 := h.z0; have z0' := h'.z0; have z2 := h.z2; have z2' := h'.z2
  have q1 := near_point h.nq; have q2 := near_point h'.nq
  have p1 := near_point h.np; have p2 := near_point h'.np
  simp only at *
  unfold paintB at e
  simp only [List.append_assoc] at e
  obtain ⟨e1, e2⟩ := put_inj (by omega) (by omega) e
  obtain rfl : a = a' := by omega
  by_cases k0 : k = 0
  · rw [if_pos k0, if_pos k0] at e2
    obtain ⟨rfl, c1, c2⟩ := z0 k0
    obtain ⟨rfl, c3, c4⟩ := z0' k0
    rw [zero_eq c1 c3, zero_eq c2 c4]
    exact ⟨rfl, e2⟩
  · rw [if_neg k0, if_neg k0] at e2
    simp only [List.append_assoc] at e2
    obtain ⟨e3, e4⟩ := put_inj (by omega) (by omega) e2
    obtain rfl : b = b' := by omega
    obtain ⟨rfl, e5⟩ := point_inj p1 p2 e4
    by_cases k1 : k = 1
    · rw [if_pos k1, if_pos k1] at e5
      obtain ⟨rfl, e6⟩ := point_inj q1 q2 e5
      exact ⟨rfl, e6⟩
    · rw [if_neg k1, if_neg k1] at e5
      obtain ⟨w1, w2⟩ := z2 (by omega)
      obtain ⟨w3, w4⟩ := z2' (by omega)
      obtain ⟨e6, e7⟩ := put_inj (by omega) (by omega) e5
      obtain ⟨yx, yy⟩ := y
      obtain ⟨yx', yy'⟩ := y'
      simp only at *
      obtain rfl : yx = yx' := by omega
      subst w2 w4
      exact ⟨rfl, e7⟩
theorem cmd_inj {c c' : Cmd} {s t : List Nat} (h : CmdR c) (h' : CmdR c') (e : cmdB c ++ s = cmdB c' ++ t) : c = c' ∧ s = t := by
  obtain ⟨k, r, w, p, l⟩ := c
  obtain ⟨k', r', w', p', l'⟩ := c'
  have hk := h.k; have hk' := h'.k; have pk := h.p.k; have pk' := h'.p.k
  have hp := h.p; have hp' := h'.p; have hr := h.r; have hr' := h'.r; have hl := h.l; have hl' := h'.l
  clear h h'
  simp only at *
  unfold cmdB at e
  simp only [List.append_assoc] at e
  obtain ⟨e1, e2⟩ := put_inj (by omega) (by omega) e
  obtain rfl : k = k' := by omega
  obtain rfl : r = r' := by omega
  have pke : p.kind = p'.kind := by omega
  have : w = w' ∧ (paintB p ++ (putS l.length ++ (l.flatMap pathB ++ s))) = (paintB p' ++ (putS l'.length ++ (l'.flatMap pathB ++ t))) := by
    by_cases k2 : k = 2
    · rw [if_pos k2, if_pos k2] at e2
      obtain ⟨e3, e4⟩ := put_inj (by omega) (by omega) e2
      exact ⟨by omega, e4⟩
    · rw [if_neg k2, if_neg k2] at e2
      exact ⟨by omega, e2⟩
  obtain ⟨rfl, e3⟩ := this
  obtain ⟨rfl, e4⟩ := paint_inj pke hp hp' e3
  obtain ⟨e5, e6⟩ := put_inj (by omega) (by omega) e4
  obtain ⟨rfl, e7⟩ := list_inj (P := PathR) (fun _ _ _ _ => path_inj) l l' s t e5 hr hr' e6
  exact ⟨rfl, e7⟩
theorem color_inj {c c' : Cl} {s t : List Nat} (e : colorB c ++ s = colorB c' ++ t) : c = c' ∧ s = t := by
  cases c; cases c'
  simp only [colorB, List.cons_append, List.nil_append, List.cons.injEq] at e
  obtain ⟨rfl, rfl, rfl, rfl, e⟩ := e
  exact ⟨rfl, e⟩
theorem icon_inj {i i' : Icon} {s t : List Nat} (h : IconR i) (h' : IconR i') (e : bytesS cmdB i ++ s = bytesS cmdB i' ++ t) : i = i' ∧ s = t := by
  obtain ⟨w, hh, sc, cs, cm⟩ := i
  obtain ⟨w', hh', sc', cs', cm'⟩ := i'
  have := h.w; have := h.h; have := h.s; have := h.cs; have := h.cl
  have := h'.w; have := h'.h; have := h'.s; have := h'.cs; have := h'.cl
  have hr := h.r; have hr' := h'.r
  clear h h'
  simp only at *
  unfold bytesS at e
  simp only [List.append_assoc, numsB, List.flatMap_cons, List.flatMap_nil, List.nil_append, List.cons_append, List.cons.injEq, true_and] at e
  obtain ⟨e1, e2⟩ := put_inj (by omega) (by omega) e
  obtain ⟨e3, e4⟩ := put_inj (by omega) (by omega) e2
  obtain ⟨e5, e6⟩ := put_inj (by omega) (by omega) e4
  obtain ⟨e7, e8⟩ := put_inj (by omega) (by omega) e6
  obtain ⟨rfl, e9⟩ := list_inj (P := fun _ => True) (fun _ _ _ _ _ _ => color_inj) cs cs' _ _ e7 (fun _ _ => trivial) (fun _ _ => trivial) e8
  obtain ⟨e10, e11⟩ := put_inj (by omega) (by omega) e9
  obtain ⟨rfl, e12⟩ := list_inj (P := CmdR) (fun _ _ _ _ => cmd_inj) cm cm' s t e10 hr hr' e11
  obtain rfl : w = w' := by omega
  obtain rfl : hh = hh' := by omega
  obtain rfl : sc = sc' := by omega
  exact ⟨rfl, e12⟩
end
end Go.VL.En

/- The statements' own makers: numbers one by one; points, edges, rings out of them. -/
namespace Go.VL.Wind
open Go.FR Go.IR Go.VL
noncomputable section
set_option linter.unusedSimpArgs false
set_option linter.unusedVariables false
set_option maxRecDepth 100000
set_option maxHeartbeats 1000000

abbrev cSeq (l : List Int) (at_ : Nat) : List VV := [.fsl (l.map (VV.int .i64)) l.length 1, .int .i64 at_]
abbrev bSeq (l : List Int) (at_ : Nat) : VB := .cells (cSeq l at_) false

/-- A number from 0 to below a bound, of any. -/
def numbS (n below : Int) : Int := if n.tmod below < 0 then n.tmod below + below else n.tmod below
theorem numb_in (n below : Int) (h : 0 < below) : 0 ≤ numbS n below ∧ numbS n below < below := by
  unfold numbS
  have h1 := Int.lt_tmod_of_pos n h
  have h2 := Int.tmod_lt_of_pos n h
  split <;> omega

theorem numb_ok (Gl : xzt) (n below : Int) (h : 0 < below) (hb : below < 9223372036854775807) : xzH E Gl f_glyphicworld_Number [.int .i64 n, .int .i64 below] (.int .i64 (numbS n below)) := by
  refine xzw (xzf E_glyphicworld_Number ?_)
  unfold c_glyphicworld_Number r_glyphicworld_Number numbS
  simp only [xzB]
  have h0 : ¬ below = 0 := by omega
  have h1 := Int.lt_tmod_of_pos n h
  have h2 := Int.tmod_lt_of_pos n h
  by_cases c : n.tmod below < 0
  · have w : IntKind.i64.wrap (n.tmod below + below) = n.tmod below + below := qzY (by omega) (by omega)
    simp only [qzz, qzk, qzo, qzH, qzv, qzn, qzi, qzf, qze, qzd, qzp, qzK, qzc, qzb, qzg, qzh, qzl, qzm, qzt, qza, qzs, qzu, qzx, cv, qzI, qzJ, toA, ofA, FR.pop, abin, intBin, qzQ, qzM, qzT, qzP, ↓reduceIte, Nat.reduceEqDiff, reduceCtorEq, Nat.zero_add, and_true, decide_true, forall_const, false_implies, Bool.true_eq_false, reduceCtorEq, h0, c, w]
    exact qzr rfl
  · simp only [qzz, qzk, qzo, qzH, qzv, qzn, qzi, qzf, qze, qzd, qzp, qzK, qzc, qzb, qzg, qzh, qzl, qzm, qzt, qza, qzs, qzu, qzx, cv, qzI, qzJ, toA, ofA, FR.pop, abin, intBin, qzQ, qzM, qzT, qzP, ↓reduceIte, Nat.reduceEqDiff, reduceCtorEq, Nat.zero_add, true_and, Bool.false_eq_true, decide_false, forall_const, false_implies, reduceCtorEq, h0, c]
    exact qzr rfl

def pickS (l : List Int) (at_ : Nat) : Int := if at_ < l.length then l.getD at_ 0 else 0
def nextS (l : List Int) (at_ : Nat) (below : Int) : Int := numbS (pickS l at_) below
theorem next_in (l : List Int) (at_ : Nat) (below : Int) (h : 0 < below) : 0 ≤ nextS l at_ below ∧ nextS l at_ below < below := numb_in _ _ h

theorem next_ok (Gl : xzt) (l : List Int) (at_ : Nat) (below : Int) (i : Nat) (hl : l.length < 4611686018427387904) (ha : at_ < 4611686018427387904) (h : 0 < below) (hb : below < 9223372036854775807) :
    StOk E Gl f_glyphicmake_Seq_Next [.ptr i 0, .int .i64 below] [(i, bSeq l at_)] (.int .i64 (nextS l at_ below)) [(i, bSeq l (at_ + 1))] := by
  refine st1_intro fun nx hn => xzf E_glyphicmake_Seq_Next ?_
  unfold c_glyphicmake_Seq_Next r_glyphicmake_Seq_Next
  simp only [xzB]
  have w : IntKind.i64.wrap ((at_ : Int) + 1) = ((at_ + 1 : Nat) : Int) := by rw [qzY (by omega) (by omega)]; rfl
  by_cases c : at_ < l.length
  · have c1 : (at_ : Int) < (l.length : Int) := by omega
    have hp : (l.map (VV.int .i64))[at_]? = some (.int .i64 (pickS l at_)) := by
      rw [List.getElem?_map, List.getElem?_eq_getElem c]
      simp [pickS, c, List.getD]
    simp only [qzz, qzk, xzM, qzo, qzv, qzn, qzi, qzf, qze, qzd, qzp, qzF, qzN, qzy, xzO, xzr, xzp, xzD, xzT, qzc, qzj, qzb, xza, qzg, qzh, xzx, xzy, xzb, qzD, qzl, qzm, qzt, qza, qzs, qzu, qzx, qzG, xzo, xzi, nilChkV, qzL, qzB, qzW, xzg, xzq, qzA, cv, qzI, qzJ, toA, ofA, FR.pop, abin, intBin, VH.set, qzq, VV.cells, ntV, qzS, countN, xzK, xzS, xzV, xzL, xzU, xzX, xzY, xzz, xzs, ↓reduceIte, Option.getD_some, Option.isSome_some, List.getElem?_cons_zero, List.getElem?_cons_succ, List.length_cons, List.length_nil, List.drop_succ_cons, List.drop_zero, List.take_succ_cons, List.take_zero, List.append_nil, List.nil_append, List.cons_append, List.contains_nil, List.head?_cons, Nat.reduceAdd, Nat.reduceEqDiff, reduceCtorEq, Nat.reduceLeDiff, Nat.add_zero, Nat.zero_add, and_self, and_true, true_and, Bool.and_self, Bool.not_false, decide_true, forall_const, false_implies, Bool.true_eq_false, reduceCtorEq, cSeq, c1, c, hp, Nat.mul_one, w]
    refine qzZ (numb_ok Gl _ below h hb) rfl rfl ?_
    simp only [qzH, qzi, qzf, qze, qzd, qzp, qzy, qzK, qzc, qzb, qzg, qzh, qzl, qzm, qzt, qza, qzs, qzu, qzx, qzQ, qzM, qzT, qzP, ↓reduceIte, and_true] <;> first | rfl | exact ⟨rfl, rfl⟩ | exact qzr rfl
  · have c1 : ¬ (at_ : Int) < (l.length : Int) := by omega
    have hp : pickS l at_ = 0 := by simp [pickS, c]
    simp only [qzz, qzk, xzM, qzo, qzv, qzn, qzi, qzf, qze, qzd, qzp, qzF, qzN, qzy, xzO, xzr, xzp, xzD, xzT, qzc, qzj, qzb, xza, qzg, qzh, xzx, xzy, xzb, qzD, qzl, qzm, qzt, qza, qzs, qzu, qzx, qzG, xzo, xzi, nilChkV, qzL, qzB, qzW, xzg, xzq, qzA, cv, qzI, qzJ, toA, ofA, FR.pop, abin, intBin, VH.set, qzq, VV.cells, ntV, qzS, countN, xzK, xzS, xzV, xzL, xzU, xzX, xzY, xzz, xzs, ↓reduceIte, Option.getD_some, Option.isSome_some, List.getElem?_cons_zero, List.getElem?_cons_succ, List.length_cons, List.length_nil, List.drop_succ_cons, List.drop_zero, List.take_succ_cons, List.take_zero, List.append_nil, List.nil_append, List.cons_append, List.contains_nil, List.head?_cons, Nat.reduceAdd, Nat.reduceEqDiff, reduceCtorEq, Nat.reduceLeDiff, Nat.add_zero, Nat.zero_add, and_self, true_and, Bool.and_self, Bool.not_false, Bool.false_eq_true, decide_false, forall_const, false_implies, reduceCtorEq, cSeq, c1, w]
    refine qzZ (numb_ok Gl 0 below h hb) rfl rfl ?_
    unfold nextS
    simp only [qzH, qzi, qzf, qze, qzd, qzp, qzy, qzK, qzc, qzb, qzg, qzh, qzl, qzm, qzt, qza, qzs, qzu, qzx, qzQ, qzM, qzT, qzP, ↓reduceIte, and_self, hp] <;> first | rfl | exact ⟨rfl, rfl⟩ | exact qzr rfl

def pointS (l : List Int) (at_ : Nat) (far : Int) : Pt := ⟨nextS l at_ (2 * far + 1) - far, nextS l (at_ + 1) (2 * far + 1) - far⟩
theorem point_in (l : List Int) (at_ : Nat) (far : Int) (h : 0 ≤ far) : (-far ≤ (pointS l at_ far).x ∧ (pointS l at_ far).x ≤ far) ∧ -far ≤ (pointS l at_ far).y ∧ (pointS l at_ far).y ≤ far := by
  have h1 := next_in l at_ (2 * far + 1) (by omega)
  have h2 := next_in l (at_ + 1) (2 * far + 1) (by omega)
  simp only [pointS]; omega

theorem point_ok (Gl : xzt) (l : List Int) (at_ : Nat) (far : Int) (i : Nat) (hl : l.length < 4611686018427387904) (ha : at_ + 1 < 4611686018427387904) (h : 0 ≤ far) (hb : far < 4611686018427387000) :
    StOk E Gl f_glyphicmake_Point [.ptr i 0, .int .i64 far] [(i, bSeq l at_)] (.agg (cPt (pointS l at_ far))) [(i, bSeq l (at_ + 2))] := by
  refine st1_intro fun nx hn => xzf E_glyphicmake_Point ?_
  unfold c_glyphicmake_Point r_glyphicmake_Point
  simp only [xzB]
  have w1 : IntKind.i64.wrap (2 * far) = 2 * far := qzY (by omega) (by omega)
  have w2 : IntKind.i64.wrap (2 * far + 1) = 2 * far + 1 := qzY (by omega) (by omega)
  have n1 := next_in l at_ (2 * far + 1) (by omega)
  have n2 := next_in l (at_ + 1) (2 * far + 1) (by omega)
  have w3 : IntKind.i64.wrap (nextS l at_ (2 * far + 1) - far) = nextS l at_ (2 * far + 1) - far := qzY (by omega) (by omega)
  have w4 : IntKind.i64.wrap (nextS l (at_ + 1) (2 * far + 1) - far) = nextS l (at_ + 1) (2 * far + 1) - far := qzY (by omega) (by omega)
  have ne1 : ¬ nx = i := by omega
  have ne2 : ¬ i = nx := by omega
  simp only [qzk, qzo, qzi, qzf, qze, qzd, qzp, qzX, qzN, qzc, qzE, qzb, qzg, qzh, qzO, qzD, qzl, qzm, qzt, qza, qzs, qzu, qzx, xzh, cvs, cv, qzI, qzJ, toA, ofA, FR.pop, abin, intBin, VN.at, VH.push, ↓reduceIte, Nat.reduceEqDiff, reduceCtorEq, Nat.zero_add, reduceCtorEq, cPt, w1, w2]
  refine call_st1 (next_ok Gl l at_ (2 * far + 1) i hl (by omega) (by omega) (by omega)) (by simp only [qza, ↓reduceIte, ne1]) rfl rfl ?_
  simp only [qzk, qzo, qzi, qzf, qze, qzd, qzp, qzN, qzy, qzc, qzb, qzg, qzh, qzD, qzl, qzm, qzt, qza, qzs, qzu, qzx, cv, qzI, qzJ, toA, ofA, FR.pop, abin, intBin, ↓reduceIte, Nat.reduceEqDiff, reduceCtorEq, reduceCtorEq, w1, w2, w3]
  refine call_st1 (next_ok Gl l (at_ + 1) (2 * far + 1) i hl (by omega) (by omega) (by omega)) (by simp only [qza, ↓reduceIte]) rfl rfl ?_
  simp only [qzH, qzi, qzf, qze, qzd, qzp, qzN, qzy, qzK, qzc, qzb, xza, qzg, qzh, xzb, qzl, qzm, qzt, qza, qzs, qzu, qzx, qzB, xzE, xzv, qzW, xzg, xzq, qzA, cvs, cv, qzI, qzJ, toA, ofA, FR.pop, abin, intBin, VH.set, qzq, VV.cells, ntV, qzQ, qzM, qzT, qzP, qzS, xzz, ↓reduceIte, Option.getD_some, List.length_cons, List.length_nil, List.drop_succ_cons, List.drop_zero, List.take_succ_cons, List.take_zero, List.append_nil, List.nil_append, List.cons_append, List.head?_cons, Nat.reduceAdd, Nat.reduceEqDiff, reduceCtorEq, Nat.reduceLeDiff, Nat.zero_add, and_self, and_true, reduceCtorEq, w4, ne1, ne2] <;> first | rfl | exact ⟨rfl, rfl⟩ | exact qzr rfl

def edgesS (l : List Int) : Nat → Nat → Int → List Edge
  | 0, _, _ => []
  | n + 1, at_, far => ⟨pointS l at_ far, pointS l (at_ + 2) far⟩ :: edgesS l n (at_ + 4) far

def chainS (l : List Int) (far : Int) : Nat → Nat → Pt → List Edge
  | 0, _, _ => []
  | n + 1, at_, p => ⟨p, pointS l at_ far⟩ :: chainS l far n (at_ + 2) (pointS l at_ far)
def lastS (l : List Int) (far : Int) : Nat → Nat → Pt → Pt
  | 0, _, p => p
  | n + 1, at_, p => lastS l far n (at_ + 2) (pointS l at_ far)
def ringS (l : List Int) (n at_ : Nat) (far : Int) : List Edge :=
  chainS l far (n - 1) (at_ + 2) (pointS l at_ far) ++ [⟨lastS l far (n - 1) (at_ + 2) (pointS l at_ far), pointS l at_ far⟩]
end
end Go.VL.Wind

/- Chapter 16: colors of few; the document's own search. -/
namespace Go.VL.Pal
open Go.FR Go.IR Go.VL Go.VL.Color Go.VL.Wind
noncomputable section
set_option linter.unusedSimpArgs false
set_option linter.unusedVariables false
set_option maxRecDepth 100000
set_option maxHeartbeats 1000000

def colT : List Cl := [⟨255, 0, 0, 255⟩, ⟨0, 128, 0, 255⟩, ⟨0, 0, 200, 100⟩, ⟨10, 20, 30, 1⟩, ⟨255, 255, 255, 255⟩, ⟨0, 0, 0, 0⟩, ⟨7, 0, 0, 254⟩]
def colS (l : List Int) (at_ : Nat) : Cl := colT.getD (nextS l at_ 7).toNat ⟨0, 0, 0, 0⟩
end
end Go.VL.Pal

/- The statements' own maker of icons: colors, points, paths. -/
namespace Go.VL.Mk
open Go.FR Go.IR Go.VL Go.VL.Color Go.VL.Wind Go.VL.Ic
noncomputable section
set_option linter.unusedSimpArgs false
set_option linter.unusedVariables false
set_option maxRecDepth 100000
set_option maxHeartbeats 1000000

def palS : List Cl := [⟨255, 0, 0, 255⟩, ⟨0, 128, 0, 255⟩, ⟨0, 0, 200, 100⟩, ⟨10, 20, 30, 1⟩, ⟨255, 255, 255, 255⟩, ⟨0, 0, 0, 0⟩, ⟨7, 0, 0, 254⟩]
def colorS (l : List Int) (a : Nat) : Cl := palS.getD (nextS l a 7).toNat ⟨0, 0, 0, 0⟩
def insideS (l : List Int) (a : Nat) (far : Int) : Pt := if nextS l a 12 = 0 then pointS l (a + 1) far else ⟨nextS l (a + 1) (far + 1), nextS l (a + 2) (far + 1)⟩
theorem inside_ok (Gl : xzt) (l : List Int) (a : Nat) (far : Int) (i : Nat) (hl : l.length < 4611686018427387904) (ha : a + 3 < 4611686018427387904) (h : 0 ≤ far) (hb : far < 4611686018427387000) :
    StOk Go.VL.Er.E Gl f_glyphicmake_inside [.ptr i 0, .int .i64 far] [(i, bSeq l a)] (.agg (cPt (insideS l a far))) [(i, bSeq l (a + 3))] := by
  refine st1_intro fun nx hn => xzf E_glyphicmake_inside ?_
  unfold c_glyphicmake_inside r_glyphicmake_inside
  simp only [xzB]
  have e1 : ¬ nx = i := by omega
  have e2 : ¬ i = nx := by omega
  have w2 : IntKind.i64.wrap (far + 1) = far + 1 := qzY (by omega) (by omega)
  simp only [qzk, qzo, qzi, qzf, qze, qzd, qzp, qzX, qzN, qzc, qzE, qzb, qzg, qzh, qzO, qzD, qzl, qzm, qzt, qza, qzs, qzu, qzx, xzh, cvs, cv, VN.at, VH.push, ↓reduceIte, reduceCtorEq, Nat.zero_add, reduceCtorEq, cSeq, bSeq, cPt]
  refine call_st1 (next_ok Gl l a 12 i hl (by omega) (by omega) (by omega)) (by simp only [qza, ↓reduceIte, cSeq, bSeq, e1]) rfl rfl ?_
  unfold insideS
  by_cases c : nextS l a 12 = 0
  · have c' : (nextS l a 12 == 0) = true := by simp [c]
    rw [if_pos c]
    simp only [qzz, qzk, qzo, qzv, qzn, qzi, qzf, qze, qzd, qzp, qzN, qzy, qzc, qzb, qzg, qzh, qzD, qzl, qzm, qzt, qza, qzs, qzu, qzx, cv, qzI, qzJ, toA, ofA, FR.pop, abin, intBin, ↓reduceIte, Nat.reduceEqDiff, reduceCtorEq, and_true, forall_const, false_implies, Bool.true_eq_false, reduceCtorEq, cSeq, bSeq, c']
    refine call_st1 (point_ok Gl l (a + 1) far i hl (by omega) h hb) (by simp only [qza, ↓reduceIte, cSeq, bSeq]) rfl rfl ?_
    simp only [qzH, qzi, qzR, qzf, qze, qzd, qzN, qzy, qzK, qzb, xza, qzg, xzb, qzl, qzm, qzt, qza, qzs, qzB, qzW, xzg, xzq, qzA, VH.set, qzq, VV.cells, ntV, qzQ, qzM, qzT, qzP, qzS, xzz, ↓reduceIte, Option.getD_some, List.length_cons, List.length_nil, List.drop_succ_cons, List.drop_zero, List.take_succ_cons, List.take_zero, List.append_nil, List.nil_append, List.head?_cons, Nat.reduceAdd, Nat.reduceEqDiff, Nat.reduceLeDiff, Nat.zero_add, and_self, cSeq, bSeq, cPt, e1, e2] <;> first | rfl | exact ⟨rfl, rfl⟩ | exact qzr rfl
  · have c' : (nextS l a 12 == 0) = false := by simp [c]
    rw [if_neg c]
    simp only [qzz, qzk, qzo, qzv, qzn, qzi, qzf, qze, qzd, qzp, qzN, qzy, qzc, qzb, qzg, qzh, qzD, qzl, qzm, qzt, qza, qzs, qzu, qzx, cv, qzI, qzJ, toA, ofA, FR.pop, abin, intBin, ↓reduceIte, Nat.reduceEqDiff, reduceCtorEq, true_and, Bool.false_eq_true, forall_const, false_implies, reduceCtorEq, cSeq, bSeq, c', w2]
    refine call_st1 (next_ok Gl l (a + 1) (far + 1) i hl (by omega) (by omega) (by omega)) (by simp only [qza, ↓reduceIte, cSeq, bSeq]) rfl rfl ?_
    simp only [qzk, qzo, qzi, qzf, qze, qzd, qzp, qzN, qzy, qzc, qzb, qzg, qzh, qzD, qzl, qzm, qzt, qza, qzs, qzu, qzx, cv, qzI, qzJ, toA, ofA, FR.pop, abin, intBin, ↓reduceIte, Nat.reduceEqDiff, reduceCtorEq, reduceCtorEq, cSeq, bSeq, w2]
    refine call_st1 (next_ok Gl l (a + 2) (far + 1) i hl (by omega) (by omega) (by omega)) (by simp only [qza, ↓reduceIte, cSeq, bSeq]) rfl rfl ?_
    simp only [qzH, qzi, qzf, qze, qzd, qzp, qzN, qzy, qzK, qzc, qzb, xza, qzg, qzh, xzb, qzl, qzm, qzt, qza, qzs, qzu, qzB, xzE, xzv, qzW, xzg, xzq, qzA, cvs, cv, VH.set, qzq, VV.cells, ntV, qzQ, qzM, qzT, qzP, qzS, xzz, ↓reduceIte, Option.getD_some, List.length_cons, List.length_nil, List.drop_succ_cons, List.drop_zero, List.take_succ_cons, List.take_zero, List.append_nil, List.nil_append, List.cons_append, List.head?_cons, Nat.reduceAdd, Nat.reduceEqDiff, Nat.reduceLeDiff, Nat.zero_add, and_self, cSeq, bSeq, e1, e2] <;> first | rfl | exact ⟨rfl, rfl⟩ | exact qzr rfl

def zP : Pt := ⟨0, 0⟩
/-- A segment of which so many points are there. -/
def segP (l : List Int) (a : Nat) (far kind : Int) (k : Nat) : Seg := ⟨kind, if 0 < k then insideS l a far else zP, if 1 < k then insideS l (a + 3) far else zP, if 2 < k then insideS l (a + 6) far else zP⟩
theorem pts_loop (Gl : xzt) (l : List Int) (far : Int) (i bx : Nat) (kind : Nat) (hk : kind ≤ 3) (hl : l.length < 4611686018427387904) (hf : 0 ≤ far) (hb : far < 4611686018427387000) (a : Nat) (ha : a + 9 < 4611686018427387904) (hib : i ≠ bx) (T0 : VF) (hA : VH) (K : AEx → VF → VH → Prop)
    (hK : ∀ T h, (∀ k, k < 27 → k ≠ 10 → qzw T k = qzw T0 k) → qzw h.l i = some (some (bSeq l (a + 3 * kind))) → qzw h.l bx = some (some (.cells (cSeg (segP l a far kind kind)) false)) → (∀ k, k ≠ i → k ≠ bx → qzw h.l k = qzw hA.l k) → h.next = hA.next → K (.exit 2) T h) :
    ∀ (d k : Nat) (T : VF) (h : VH), d + k = kind → (∀ k, k < 27 → k ≠ 10 → qzw T k = qzw T0 k) → qzw T 0 = some (.ptr i 0) → qzw T 1 = some (.int .i64 far) → qzw T 9 = some (.ptr bx 0) → qzw T 10 = some (.int .i64 k) →
      qzw h.l i = some (some (bSeq l (a + 3 * k))) → qzw h.l bx = some (some (.cells (cSeg (segP l a far kind k)) false)) → (∀ k, k ≠ i → k ≠ bx → qzw h.l k = qzw hA.l k) → h.next = hA.next →
    wp Go.VL.Er.E Gl (.loop c_glyphicmake_Path_l0) T h K := by
  intro d
  induction d with
  | zero =>
    intro k T h hd hT t0 t1 t9 t10 s1 s2 hh hn
    obtain rfl : k = kind := by omega
    refine xzn c_glyphicmake_Path_l0.eq_1 ?_
    unfold segP at s2
    simp only [qzz, qzk, qzo, qzC, qzV, qzv, qzn, qzi, xzd, qzU, qzf, qze, qzd, qzp, qzF, qzc, qzj, qzb, qzg, qzh, qzl, qzm, qzt, qza, qzs, qzu, qzx, qzG, qzL, qzB, qzA, qzI, qzJ, toA, ofA, FR.pop, abin, intBin, qzq, ↓reduceIte, Option.getD_some, List.getElem?_cons_zero, Nat.reduceEqDiff, reduceCtorEq, Nat.add_zero, true_and, Bool.false_eq_true, decide_false, forall_const, false_implies, reduceCtorEq, cSeg, t9, t10, s2, Int.lt_irrefl]
    refine hK _ _ (fun k q1 q2 => ?_) s1 s2 hh hn
    simp only [qza]
    (repeat rw [if_neg (by omega)])
    exact hT k q1 q2
  | succ d ih =>
    intro k T h hd hT t0 t1 t9 t10 s1 s2 hh hn
    refine xzn c_glyphicmake_Path_l0.eq_1 ?_
    have c1 : (k : Int) < (kind : Int) := by omega
    have w : IntKind.i64.wrap ((k : Int) + 1) = ((k + 1 : Nat) : Int) := by rw [qzY (by omega) (by omega)]; rfl
    have k3 : k < 3 := by omega
    have e1 : ¬ bx = i := fun e => hib e.symm
    unfold segP at s2
    simp only [qzz, qzk, qzo, qzC, qzV, qzv, qzn, qzi, xzd, qzU, qzf, qze, qzd, qzp, qzF, qzN, qzc, qzj, qzb, qzg, qzh, qzD, qzl, qzm, qzt, qza, qzs, qzu, qzx, qzG, qzL, qzB, qzA, qzI, qzJ, toA, ofA, FR.pop, abin, intBin, qzq, ↓reduceIte, Option.getD_some, List.getElem?_cons_zero, Nat.reduceEqDiff, reduceCtorEq, Nat.add_zero, and_true, decide_true, forall_const, false_implies, Bool.true_eq_false, reduceCtorEq, cSeg, t0, t1, t9, t10, s2, c1]
    refine call_st1 (inside_ok Gl l (a + 3 * k) far i hl (by omega) hf hb) s1 rfl rfl ?_
    have hcs : k = 0 ∨ k = 1 ∨ k = 2 := by omega
    rcases hcs with rfl | rfl | rfl
    all_goals
      simp only [qzk, qzi, xzc, xzm, qzf, qze, qzd, qzp, qzN, qzy, qzc, qzb, xza, qzg, qzh, xzb, qzl, qzm, qzt, qza, qzs, qzu, qzx, qzG, iAddrAV, qzW, xzg, xzq, cv, qzI, qzJ, toA, ofA, FR.pop, abin, intBin, VH.set, qzq, VV.cells, ntV, qzS, xzz, xzs, ↓reduceIte, Option.getD_some, List.length_cons, List.length_nil, List.drop_succ_cons, List.drop_zero, List.take_succ_cons, List.take_zero, List.append_nil, List.nil_append, List.cons_append, List.head?_cons, Nat.reduceAdd, Nat.reduceMul, Nat.reduceLT, Nat.reduceEqDiff, Nat.reduceLeDiff, Nat.add_zero, Nat.zero_add, and_self, cSeq, bSeq, cPt, cSeg, t9, t10, s2, xzs, hib, w]
      first | refine ih (0 + 1) _ _ (by omega) ?_ ?_ ?_ ?_ ?_ ?_ ?_ ?_ hn | refine ih (1 + 1) _ _ (by omega) ?_ ?_ ?_ ?_ ?_ ?_ ?_ ?_ hn | refine ih (2 + 1) _ _ (by omega) ?_ ?_ ?_ ?_ ?_ ?_ ?_ ?_ hn
      · intro k q1 q2
        simp only [qza]
        (repeat rw [if_neg (by omega)])
        exact hT k q1 q2
      · simp only [qza, ↓reduceIte, reduceCtorEq, reduceCtorEq, t0]
      · simp only [qza, ↓reduceIte, Nat.reduceEqDiff, t1]
      · simp only [qza, ↓reduceIte, Nat.reduceEqDiff, t9]
      · simp only [qza, ↓reduceIte, Nat.reduceAdd, Nat.zero_add]
      · simp only [qza, ↓reduceIte, Nat.reduceAdd, Nat.reduceMul, Nat.zero_add, cSeq, bSeq, e1]
      · simp only [qza, ↓reduceIte, Nat.reduceAdd, Nat.reduceLT, Nat.zero_add, cSeg, segP, zP]
      · intro k q1 q2
        simp only [qza, Ne.symm q1, Ne.symm q2, if_false]
        exact hh k q1 q2
end
end Go.VL.Mk
