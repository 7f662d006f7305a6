import Derived.Test.YtbamfhdgikeneaaDoorEnF
import Derived.Test.YtbamfhdgikeneaaDoorWiA
import Derived.Test.YtbamfhdgikeneaaDoorPaA
import Derived.Test.YtbamfhdgikeneaaDoorIcD
/- An icon of which one point is put elsewhere: what is amiss with it. In plain numbers. -/
namespace Go.VL.Lf
open Go.FR Go.IR Go.VL Go.VL.Color Go.VL.Wind Go.VL.Ic Go.VL.En
noncomputable section
set_option linter.unusedSimpArgs false
set_option linter.unusedVariables false

theorem first_app {α : Type} {f : α → Option Nat} : ∀ {l m : List α}, (∀ x ∈ l, f x = none) → firstS f (l ++ m) = firstS f m
  | [], m, _ => rfl
  | x :: l, m, h => by
    rw [List.cons_append, firstS, h x (.head _)]
    exact first_app fun y hy => h y (.tail _ hy)
theorem first_one {α : Type} {f : α → Option Nat} (x : α) : firstS f [x] = f x := by
  rw [firstS]; cases f x <;> rfl
theorem sum_app {α : Type} {f : α → Int} : ∀ (l m : List α), sumS' f (l ++ m) = sumS' f l + sumS' f m
  | [], m => by simp [sumS']
  | x :: l, m => by simp only [List.cons_append, sumS', sum_app l m]; omega
theorem use_app : ∀ (l : List Cmd) (c c' : Cmd) (n : Int), usesOf c = usesOf c' → useAll n (l ++ [c]) = useAll n (l ++ [c'])
  | [], c, c', n, h => by simp only [List.nil_append, useAll, h]
  | x :: l, c, c', n, h => by
    simp only [List.cons_append, useAll]
    cases nextUse n (usesOf x) with
    | none => rfl
    | some m => exact use_app l c c' m h
abbrev pathM (p : Path) (st : Pt) (S : List Seg) (s' : Seg) : Path := ⟨st, S ++ [s'], p.closed⟩
abbrev cmdM (c : Cmd) (q : Path) (P : List Path) : Cmd := ⟨c.kind, c.rule, c.width, c.paint, q :: P⟩
abbrev iconM (i : Icon) (L : List Cmd) (c : Cmd) : Icon := ⟨i.w, i.h, i.scale, i.colors, L ++ [c]⟩
theorem far_check {i : Icon} (h : checkS i = none) {L : List Cmd} {c : Cmd} {p : Path} {P : List Path} {S : List Seg} {s : Seg} (hc : i.cmds = L ++ [c]) (hp : c.paths = p :: P) (hs : p.segs = S ++ [s]) (st : Pt) (s' : Seg) (hk : s'.kind = s.kind) :
    checkS (iconM i L (cmdM c (pathM p st S s') P)) = pathS (pathM p st S s') (decide (c.kind = 1)) (greatS i) := by
  obtain ⟨w, hh, sc, cs, cm⟩ := i
  simp only at hc
  subst hc
  obtain ⟨k, r, wd, pa, ps⟩ := c
  simp only at hp
  subst hp
  obtain ⟨p0, sg, cl⟩ := p
  simp only at hs
  subst hs
  have g1 : greatS (iconM ⟨w, hh, sc, cs, L ++ [⟨k, r, wd, pa, ⟨p0, S ++ [s], cl⟩ :: P⟩]⟩ L (cmdM ⟨k, r, wd, pa, ⟨p0, S ++ [s], cl⟩ :: P⟩ (pathM ⟨p0, S ++ [s], cl⟩ st S s') P)) = greatS ⟨w, hh, sc, cs, L ++ [⟨k, r, wd, pa, ⟨p0, S ++ [s], cl⟩ :: P⟩]⟩ := rfl
  obtain ⟨m, hm⟩ : ∃ m, greatS ⟨w, hh, sc, cs, L ++ [⟨k, r, wd, pa, ⟨p0, S ++ [s], cl⟩ :: P⟩]⟩ = m := ⟨_, rfl⟩
  rw [hm] at g1 ⊢
  unfold checkS at h ⊢
  split at h
  · exact nomatch h
  rename_i sz
  split at h
  · exact nomatch h
  rename_i le
  split at h
  · exact nomatch h
  rename_i fs
  split at h
  · exact nomatch h
  rename_i pt
  split at h
  · exact nomatch h
  rename_i us
  rw [if_neg (by exact sz), if_neg (by simpa using le)]
  rw [firstS_none] at fs
  simp only [hm] at fs
  have f1 : ∀ x ∈ L, cmdS x cs.length m = none := fun x hx => by
    have := fs x (List.mem_append.mpr (.inl hx))
    exact this
  obtain ⟨c1, c2, c3, c4, c5⟩ := cmdS_none (fs _ (List.mem_append.mpr (.inr (.head _))))
  simp only at c1 c2 c4 c5 ⊢
  rw [g1, first_app f1, first_one]
  have ce : cmdS ⟨k, r, wd, pa, ⟨st, S ++ [s'], cl⟩ :: P⟩ cs.length m = pathS ⟨st, S ++ [s'], cl⟩ (decide (k = 1)) m := by
    unfold cmdS
    have e1 : headS ⟨k, r, wd, pa, ⟨st, S ++ [s'], cl⟩ :: P⟩ m = none := c1
    rw [e1]
    simp only
    have e2 : paintS pa cs.length m = none := c2
    rw [e2]
    simp only
    rw [if_neg (by simp), if_neg (by simp at c4 ⊢; omega), firstS]
    cases e : pathS ⟨st, S ++ [s'], cl⟩ (decide (k = 1)) m with
    | some n => rfl
    | none => exact firstS_none.mpr fun x hx => c5 x (.tail _ hx)
  simp only [pathM, cmdM]
  rw [ce]
  cases e : pathS ⟨st, S ++ [s'], cl⟩ (decide (k = 1)) m with
  | some n => rfl
  | none =>
    simp only
    rw [if_neg, if_neg]
    · unfold usedS at us ⊢
      simp only [iconM] at us ⊢
      rw [use_app L ⟨k, r, wd, pa, ⟨st, S ++ [s'], cl⟩ :: P⟩ ⟨k, r, wd, pa, ⟨p0, S ++ [s], cl⟩ :: P⟩ 0 rfl]
      exact us
    · have : pointsS (iconM ⟨w, hh, sc, cs, L ++ [⟨k, r, wd, pa, ⟨p0, S ++ [s], cl⟩ :: P⟩]⟩ L ⟨k, r, wd, pa, ⟨st, S ++ [s'], cl⟩ :: P⟩) = pointsS ⟨w, hh, sc, cs, L ++ [⟨k, r, wd, pa, ⟨p0, S ++ [s], cl⟩ :: P⟩]⟩ := by
        unfold pointsS
        simp only [iconM, sum_app, sumS', hk]
      rw [this]; exact pt
theorem path_check {p : Path} {b : Bool} {m : Int} (h : pathS p b m = none) {S : List Seg} {s : Seg} (hs : p.segs = S ++ [s]) (st : Pt) (s' : Seg) :
    pathS (pathM p st S s') b m = if farS st m = true then some 4 else segS s' m := by
  obtain ⟨a1, a2, a3, a4, a5⟩ := pathS_none h
  rw [hs] at a1 a5
  unfold pathS
  simp only [pathM]
  rw [if_neg (by rw [a4]; simp), if_neg (by simp), if_neg (by simp at a1 ⊢; omega), first_app (fun x hx => a5 x (List.mem_append.mpr (.inl hx))), first_one]
theorem segs_last {p : Path} {b : Bool} {m : Int} (h : pathS p b m = none) : ∃ S s, p.segs = S ++ [s] ∧ segS s m = none := by
  obtain ⟨a1, a2, a3, a4, a5⟩ := pathS_none h
  rcases List.eq_nil_or_concat p.segs with e | ⟨S, s, e⟩
  · exact absurd e a2
  · rw [List.concat_eq_append] at e
    exact ⟨S, s, e, a5 s (by rw [e]; simp)⟩
theorem far_x {p : Pt} {m : Int} (h0 : 0 ≤ m) (h : NearM m p) (o : Bool) : farS ⟨if o then m + 1 else m, p.y⟩ m = o ∧ farS ⟨-(if o then m + 1 else m), p.y⟩ m = o := by
  obtain ⟨⟨a, b⟩, c, d⟩ := h
  have e1 : inS p.y (-m) m = true := inS_true.mpr ⟨c, d⟩
  unfold farS
  cases o
  · have e2 : inS m (-m) m = true := inS_true.mpr ⟨by omega, by omega⟩
    have e3 : inS (-m) (-m) m = true := inS_true.mpr ⟨by omega, by omega⟩
    simp [e1, e2, e3]
  · have e2 : inS (m + 1) (-m) m = false := inS_false.mpr (by omega)
    have e3 : inS (-(m + 1)) (-m) m = false := inS_false.mpr (by omega)
    simp [e2, e3]
theorem far_y {p : Pt} {m : Int} (h0 : 0 ≤ m) (h : NearM m p) (o : Bool) : farS ⟨p.x, if o then m + 1 else m⟩ m = o ∧ farS ⟨p.x, -(if o then m + 1 else m)⟩ m = o := by
  obtain ⟨⟨a, b⟩, c, d⟩ := h
  have e1 : inS p.x (-m) m = true := inS_true.mpr ⟨a, b⟩
  unfold farS
  cases o
  · have e2 : inS m (-m) m = true := inS_true.mpr ⟨by omega, by omega⟩
    have e3 : inS (-m) (-m) m = true := inS_true.mpr ⟨by omega, by omega⟩
    simp [e1, e2, e3]
  · have e2 : inS (m + 1) (-m) m = false := inS_false.mpr (by omega)
    have e3 : inS (-(m + 1)) (-m) m = false := inS_false.mpr (by omega)
    simp [e1, e2, e3]
/-- A segment's points, one put elsewhere. -/
def setPt (s : Seg) (k : Nat) (q : Pt) : Seg := match k with
  | 0 => ⟨s.kind, q, s.p1, s.p2⟩
  | 1 => ⟨s.kind, s.p0, q, s.p2⟩
  | _ => ⟨s.kind, s.p0, s.p1, q⟩
theorem seg_set {s : Seg} {m : Int} (h : segS s m = none) (k : Nat) (hk : (k : Int) < s.kind) (q : Pt) : segS (setPt s k q) m = if farS q m = true then some 4 else none := by
  have kk := segS_none h
  obtain ⟨kd, p, p', p''⟩ := s
  simp only at kk hk
  unfold segS at h ⊢
  have c : kd = 1 ∧ k = 0 ∨ kd = 2 ∧ k = 0 ∨ kd = 2 ∧ k = 1 ∨ kd = 3 ∧ k = 0 ∨ kd = 3 ∧ k = 1 ∨ kd = 3 ∧ k = 2 := by omega
  have i1 : inS (1 : Int) 1 3 = true := inS_true.mpr (by omega)
  have i2 : inS (2 : Int) 1 3 = true := inS_true.mpr (by omega)
  have i3 : inS (3 : Int) 1 3 = true := inS_true.mpr (by omega)
  rcases c with ⟨rfl, rfl⟩ | ⟨rfl, rfl⟩ | ⟨rfl, rfl⟩ | ⟨rfl, rfl⟩ | ⟨rfl, rfl⟩ | ⟨rfl, rfl⟩
  all_goals
    simp [setPt, segPts, i1, i2, i3] at h ⊢
    (repeat' split at h)
    all_goals (cases e : farS q m <;> simp_all)
end
end Go.VL.Lf

/- The statements' own makers: numbers one by one; points, edges, rings out of them. -/
namespace Go.VL.Wind
open Go.FR Go.IR Go.VL
noncomputable section
set_option linter.unusedSimpArgs false
set_option linter.unusedVariables false
set_option maxRecDepth 100000
set_option maxHeartbeats 1000000

abbrev cSeq (l : List Int) (at_ : Nat) : List VV := [.fsl (l.map (VV.int .i64)) l.length 1, .int .i64 at_]
abbrev bSeq (l : List Int) (at_ : Nat) : VB := .cells (cSeq l at_) false

/-- A number from 0 to below a bound, of any. -/
def numbS (n below : Int) : Int := if n.tmod below < 0 then n.tmod below + below else n.tmod below
theorem numb_in (n below : Int) (h : 0 < below) : 0 ≤ numbS n below ∧ numbS n below < below := by
  unfold numbS
  have h1 := Int.lt_tmod_of_pos n h
  have h2 := Int.tmod_lt_of_pos n h
  split <;> omega

theorem numb_ok (Gl : xzE) (n below : Int) (h : 0 < below) (hb : below < 9223372036854775807) : yzg E Gl f_glyphicworld_Number [.int .i64 n, .int .i64 below] (.int .i64 (numbS n below)) := by
  refine xzG (xzp E_glyphicworld_Number ?_)
  unfold c_glyphicworld_Number r_glyphicworld_Number numbS
  simp only [xzW]
  have h0 : ¬ below = 0 := by omega
  have h1 := Int.lt_tmod_of_pos n h
  have h2 := Int.tmod_lt_of_pos n h
  by_cases c : n.tmod below < 0
  · have w : IntKind.i64.wrap (n.tmod below + below) = n.tmod below + below := xzu (by omega) (by omega)
    simp only [qzA, qzl, qzo, qzD, qzr, qzk, qzi, qzf, qzd, qze, qzq, qzG, qzc, qzb, qzg, qzh, qzn, qzm, qzt, qza, qzs, qzv, qzy, cv, qzJ, qzI, toA, ofA, FR.pop, abin, intBin, qzV, qzP, qzX, qzW, ↓reduceIte, Nat.reduceEqDiff, reduceCtorEq, Nat.zero_add, and_true, decide_true, forall_const, false_implies, Bool.true_eq_false, reduceCtorEq, h0, c, w]
    exact qzw rfl
  · simp only [qzA, qzl, qzo, qzD, qzr, qzk, qzi, qzf, qzd, qze, qzq, qzG, qzc, qzb, qzg, qzh, qzn, qzm, qzt, qza, qzs, qzv, qzy, cv, qzJ, qzI, toA, ofA, FR.pop, abin, intBin, qzV, qzP, qzX, qzW, ↓reduceIte, Nat.reduceEqDiff, reduceCtorEq, Nat.zero_add, true_and, Bool.false_eq_true, decide_false, forall_const, false_implies, reduceCtorEq, h0, c]
    exact qzw rfl

def pickS (l : List Int) (at_ : Nat) : Int := if at_ < l.length then l.getD at_ 0 else 0
def nextS (l : List Int) (at_ : Nat) (below : Int) : Int := numbS (pickS l at_) below
theorem next_in (l : List Int) (at_ : Nat) (below : Int) (h : 0 < below) : 0 ≤ nextS l at_ below ∧ nextS l at_ below < below := numb_in _ _ h

theorem next_ok (Gl : xzE) (l : List Int) (at_ : Nat) (below : Int) (i : Nat) (hl : l.length < 4611686018427387904) (ha : at_ < 4611686018427387904) (h : 0 < below) (hb : below < 9223372036854775807) :
    StOk E Gl f_glyphicmake_Seq_Next [.ptr i 0, .int .i64 below] [(i, bSeq l at_)] (.int .i64 (nextS l at_ below)) [(i, bSeq l (at_ + 1))] := by
  refine st1_intro fun nx hn => xzp E_glyphicmake_Seq_Next ?_
  unfold c_glyphicmake_Seq_Next r_glyphicmake_Seq_Next
  simp only [xzW]
  have w : IntKind.i64.wrap ((at_ : Int) + 1) = ((at_ + 1 : Nat) : Int) := by rw [xzu (by omega) (by omega)]; rfl
  by_cases c : at_ < l.length
  · have c1 : (at_ : Int) < (l.length : Int) := by omega
    have hp : (l.map (VV.int .i64))[at_]? = some (.int .i64 (pickS l at_)) := by
      rw [List.getElem?_map, List.getElem?_eq_getElem c]
      simp [pickS, c, List.getD]
    simp only [qzA, qzl, xzC, qzo, qzr, qzk, qzi, qzf, qzd, qze, qzq, qzH, qzL, qzz, xzF, xzl, xzf, xzB, xzI, qzc, qzj, qzb, qzM, qzg, qzh, xzr, xzt, qzN, qzu, qzn, qzm, qzt, qza, qzs, qzv, qzy, qzK, xzi, xzh, xzH, qzO, qzF, qzR, qzS, xzd, qzE, cv, qzJ, qzI, toA, ofA, FR.pop, abin, intBin, VH.set, qzp, VV.cells, ntV, qzQ, countN, xzA, xzJ, xzS, xzy, xzK, yze, yzh, xzs, xzn, ↓reduceIte, Option.getD_some, Option.isSome_some, List.getElem?_cons_zero, List.getElem?_cons_succ, List.length_cons, List.length_nil, List.drop_succ_cons, List.drop_zero, List.take_succ_cons, List.take_zero, List.append_nil, List.nil_append, List.cons_append, List.contains_nil, List.head?_cons, Nat.reduceAdd, Nat.reduceEqDiff, reduceCtorEq, Nat.reduceLeDiff, Nat.add_zero, Nat.zero_add, and_self, and_true, true_and, Bool.and_self, Bool.not_false, decide_true, forall_const, false_implies, Bool.true_eq_false, reduceCtorEq, cSeq, c1, c, hp, Nat.mul_one, w]
    refine xzj (numb_ok Gl _ below h hb) rfl rfl ?_
    simp only [qzD, qzi, qzf, qzd, qze, qzq, qzz, qzG, qzc, qzb, qzg, qzh, qzn, qzm, qzt, qza, qzs, qzv, qzy, qzV, qzP, qzX, qzW, ↓reduceIte, and_true] <;> first | rfl | exact ⟨rfl, rfl⟩ | exact qzw rfl
  · have c1 : ¬ (at_ : Int) < (l.length : Int) := by omega
    have hp : pickS l at_ = 0 := by simp [pickS, c]
    simp only [qzA, qzl, xzC, qzo, qzr, qzk, qzi, qzf, qzd, qze, qzq, qzH, qzL, qzz, xzF, xzl, xzf, xzB, xzI, qzc, qzj, qzb, qzM, qzg, qzh, xzr, xzt, qzN, qzu, qzn, qzm, qzt, qza, qzs, qzv, qzy, qzK, xzi, xzh, xzH, qzO, qzF, qzR, qzS, xzd, qzE, cv, qzJ, qzI, toA, ofA, FR.pop, abin, intBin, VH.set, qzp, VV.cells, ntV, qzQ, countN, xzA, xzJ, xzS, xzy, xzK, yze, yzh, xzs, xzn, ↓reduceIte, Option.getD_some, Option.isSome_some, List.getElem?_cons_zero, List.getElem?_cons_succ, List.length_cons, List.length_nil, List.drop_succ_cons, List.drop_zero, List.take_succ_cons, List.take_zero, List.append_nil, List.nil_append, List.cons_append, List.contains_nil, List.head?_cons, Nat.reduceAdd, Nat.reduceEqDiff, reduceCtorEq, Nat.reduceLeDiff, Nat.add_zero, Nat.zero_add, and_self, true_and, Bool.and_self, Bool.not_false, Bool.false_eq_true, decide_false, forall_const, false_implies, reduceCtorEq, cSeq, c1, w]
    refine xzj (numb_ok Gl 0 below h hb) rfl rfl ?_
    unfold nextS
    simp only [qzD, qzi, qzf, qzd, qze, qzq, qzz, qzG, qzc, qzb, qzg, qzh, qzn, qzm, qzt, qza, qzs, qzv, qzy, qzV, qzP, qzX, qzW, ↓reduceIte, and_self, hp] <;> first | rfl | exact ⟨rfl, rfl⟩ | exact qzw rfl

def pointS (l : List Int) (at_ : Nat) (far : Int) : Pt := ⟨nextS l at_ (2 * far + 1) - far, nextS l (at_ + 1) (2 * far + 1) - far⟩
theorem point_in (l : List Int) (at_ : Nat) (far : Int) (h : 0 ≤ far) : (-far ≤ (pointS l at_ far).x ∧ (pointS l at_ far).x ≤ far) ∧ -far ≤ (pointS l at_ far).y ∧ (pointS l at_ far).y ≤ far := by
  have h1 := next_in l at_ (2 * far + 1) (by omega)
  have h2 := next_in l (at_ + 1) (2 * far + 1) (by omega)
  simp only [pointS]; omega

theorem point_ok (Gl : xzE) (l : List Int) (at_ : Nat) (far : Int) (i : Nat) (hl : l.length < 4611686018427387904) (ha : at_ + 1 < 4611686018427387904) (h : 0 ≤ far) (hb : far < 4611686018427387000) :
    StOk E Gl f_glyphicmake_Point [.ptr i 0, .int .i64 far] [(i, bSeq l at_)] (.agg (cPt (pointS l at_ far))) [(i, bSeq l (at_ + 2))] := by
  refine st1_intro fun nx hn => xzp E_glyphicmake_Point ?_
  unfold c_glyphicmake_Point r_glyphicmake_Point
  simp only [xzW]
  have w1 : IntKind.i64.wrap (2 * far) = 2 * far := xzu (by omega) (by omega)
  have w2 : IntKind.i64.wrap (2 * far + 1) = 2 * far + 1 := xzu (by omega) (by omega)
  have n1 := next_in l at_ (2 * far + 1) (by omega)
  have n2 := next_in l (at_ + 1) (2 * far + 1) (by omega)
  have w3 : IntKind.i64.wrap (nextS l at_ (2 * far + 1) - far) = nextS l at_ (2 * far + 1) - far := xzu (by omega) (by omega)
  have w4 : IntKind.i64.wrap (nextS l (at_ + 1) (2 * far + 1) - far) = nextS l (at_ + 1) (2 * far + 1) - far := xzu (by omega) (by omega)
  have ne1 : ¬ nx = i := by omega
  have ne2 : ¬ i = nx := by omega
  simp only [qzl, qzo, qzi, qzf, qzd, qze, qzq, xzb, qzL, qzc, qzC, qzb, qzg, qzh, qzT, qzu, qzn, qzm, qzt, qza, qzs, qzv, qzy, xzo, cvs, cv, qzJ, qzI, toA, ofA, FR.pop, abin, intBin, VN.at, VH.push, ↓reduceIte, Nat.reduceEqDiff, reduceCtorEq, Nat.zero_add, reduceCtorEq, cPt, w1, w2]
  refine xzU (next_ok Gl l at_ (2 * far + 1) i hl (by omega) (by omega) (by omega)) (by simp only [qza, ↓reduceIte, ne1]) rfl rfl ?_
  simp only [qzl, qzo, qzi, qzf, qzd, qze, qzq, qzL, qzz, qzc, qzb, qzg, qzh, qzu, qzn, qzm, qzt, qza, qzs, qzv, qzy, cv, qzJ, qzI, toA, ofA, FR.pop, abin, intBin, ↓reduceIte, Nat.reduceEqDiff, reduceCtorEq, reduceCtorEq, w1, w2, w3]
  refine xzU (next_ok Gl l (at_ + 1) (2 * far + 1) i hl (by omega) (by omega) (by omega)) (by simp only [qza, ↓reduceIte]) rfl rfl ?_
  simp only [qzD, qzi, qzf, qzd, qze, qzq, qzL, qzz, qzG, qzc, qzb, qzM, qzg, qzh, qzN, qzn, qzm, qzt, qza, qzs, qzv, qzy, qzF, xzD, xzx, qzR, qzS, xzd, qzE, cvs, cv, qzJ, qzI, toA, ofA, FR.pop, abin, intBin, VH.set, qzp, VV.cells, ntV, qzV, qzP, qzX, qzW, qzQ, xzs, ↓reduceIte, Option.getD_some, List.length_cons, List.length_nil, List.drop_succ_cons, List.drop_zero, List.take_succ_cons, List.take_zero, List.append_nil, List.nil_append, List.cons_append, List.head?_cons, Nat.reduceAdd, Nat.reduceEqDiff, reduceCtorEq, Nat.reduceLeDiff, Nat.zero_add, and_self, and_true, reduceCtorEq, w4, ne1, ne2] <;> first | rfl | exact ⟨rfl, rfl⟩ | exact qzw rfl

def edgesS (l : List Int) : Nat → Nat → Int → List Edge
  | 0, _, _ => []
  | n + 1, at_, far => ⟨pointS l at_ far, pointS l (at_ + 2) far⟩ :: edgesS l n (at_ + 4) far

def chainS (l : List Int) (far : Int) : Nat → Nat → Pt → List Edge
  | 0, _, _ => []
  | n + 1, at_, p => ⟨p, pointS l at_ far⟩ :: chainS l far n (at_ + 2) (pointS l at_ far)
def lastS (l : List Int) (far : Int) : Nat → Nat → Pt → Pt
  | 0, _, p => p
  | n + 1, at_, p => lastS l far n (at_ + 2) (pointS l at_ far)
def ringS (l : List Int) (n at_ : Nat) (far : Int) : List Edge :=
  chainS l far (n - 1) (at_ + 2) (pointS l at_ far) ++ [⟨lastS l far (n - 1) (at_ + 2) (pointS l at_ far), pointS l at_ far⟩]
end
end Go.VL.Wind

/- Chapter 16: colors of few; the document's own search. -/
namespace Go.VL.Pal
open Go.FR Go.IR Go.VL Go.VL.Color Go.VL.Wind
noncomputable section
set_option linter.unusedSimpArgs false
set_option linter.unusedVariables false
set_option maxRecDepth 100000
set_option maxHeartbeats 1000000

def colT : List Cl := [⟨255, 0, 0, 255⟩, ⟨0, 128, 0, 255⟩, ⟨0, 0, 200, 100⟩, ⟨10, 20, 30, 1⟩, ⟨255, 255, 255, 255⟩, ⟨0, 0, 0, 0⟩, ⟨7, 0, 0, 254⟩]
def colS (l : List Int) (at_ : Nat) : Cl := colT.getD (nextS l at_ 7).toNat ⟨0, 0, 0, 0⟩
theorem colT_at (k : Nat) (h : k < 7) : colT[k]? = some (colT.getD k ⟨0, 0, 0, 0⟩) := by
  rw [List.getD_eq_getElem?_getD, List.getElem?_eq_getElem (by simpa [colT] using h)]; rfl
theorem color_ok (Gl : xzE) (l : List Int) (at_ : Nat) (i : Nat) (hl : l.length < 4611686018427387904) (ha : at_ < 1000000) :
    StOk Go.VL.Pal.E Gl f_glyphicmake_Color [.ptr i 0] [(i, bSeq l at_)] (.agg (cCl (colS l at_))) [(i, bSeq l (at_ + 1))] := by
  refine st1_intro fun nx hn => xzp E_glyphicmake_Color ?_
  unfold c_glyphicmake_Color r_glyphicmake_Color
  simp only [xzW]
  have e1 : ¬ nx = i := by omega
  have e2 : ¬ i = nx := by omega
  have e3 : ¬ nx + 1 = i := by omega
  have e4 : ¬ i = nx + 1 := by omega
  have e5 : ¬ nx = nx + 1 := by omega
  have e6 : ¬ nx + 1 = nx := by omega
  have n1 := next_in l at_ 7 (by omega)
  obtain ⟨k, hk⟩ : ∃ k : Nat, nextS l at_ 7 = k := ⟨(nextS l at_ 7).toNat, by omega⟩
  have hk7 : k < 7 := by omega
  have hc : colS l at_ = colT.getD k ⟨0, 0, 0, 0⟩ := by unfold colS; rw [hk, Int.toNat_natCast]
  have p1 := flat_le cCl_len (colT_at k hk7)
  have p2 := flat_at cCl_len (colT_at k hk7)
  simp only [qzl, qzo, qzi, qzf, qzd, qze, qzq, xzb, qzL, qzc, qzC, qzb, qzg, qzh, qzT, qzu, qzn, qzm, qzt, qza, qzs, qzv, qzy, xzo, xzD, xzx, qzR, cvs, cv, VN.at, VH.push, VV.cells, ntV, ↓reduceIte, List.length_cons, List.length_nil, List.drop_succ_cons, List.drop_zero, List.take_succ_cons, List.take_zero, List.append_nil, List.nil_append, List.cons_append, Nat.reduceAdd, Nat.reduceDiv, Nat.reduceEqDiff, reduceCtorEq, Nat.reduceLeDiff, Nat.zero_add, and_self, reduceCtorEq, cCl]
  have tab : [VV.int .u8 255, VV.int .u8 0, VV.int .u8 0, VV.int .u8 255, VV.int .u8 0, VV.int .u8 128, VV.int .u8 0, VV.int .u8 255, VV.int .u8 0, VV.int .u8 0, VV.int .u8 200, VV.int .u8 100, VV.int .u8 10, VV.int .u8 20, VV.int .u8 30, VV.int .u8 1, VV.int .u8 255, VV.int .u8 255, VV.int .u8 255, VV.int .u8 255, VV.int .u8 0, VV.int .u8 0, VV.int .u8 0, VV.int .u8 0, VV.int .u8 7, VV.int .u8 0, VV.int .u8 0, VV.int .u8 254] = xzk cCl colT := rfl
  rw [tab]
  refine xzU (next_ok Gl l at_ 7 i hl (by omega) (by omega) (by omega)) (by simp only [qza, ↓reduceIte, e1, e3]) rfl rfl ?_
  rw [hk, hc]
  simp only [qzD, qzi, qzf, qzd, qze, qzq, qzH, qzL, qzz, qzG, qzc, qzj, qzb, qzM, qzg, qzh, qzN, qzn, qzm, qzt, qza, qzs, qzv, xzi, qzO, qzF, qzR, qzS, xzd, qzE, VH.set, qzp, VV.cells, ntV, qzV, qzP, qzX, qzW, qzQ, xzs, xzn, ↓reduceIte, Option.getD_some, List.length_cons, List.length_nil, List.drop_succ_cons, List.drop_zero, List.take_succ_cons, List.take_zero, List.append_nil, List.nil_append, List.head?_cons, Nat.reduceAdd, Nat.reduceEqDiff, Nat.reduceLeDiff, Nat.zero_add, and_self, cCl, e1, e2, e4, e6, hk7, p1, p2]

theorem find_loop (Gl : xzE) (c : Cl) (l : List Cl) (hl : l.length < 1000000) (r : Int) (K : AEx → VF → VH → Prop)
    (hK0 : ∀ T h, r = -1 → K (.exit 0) T h) (hK1 : ∀ T h, qzx T 4 = some (.int .i64 r) → K .ret T h) :
    ∀ (d i : Nat) (T : VF) (h : VH), d + i = l.length → idxS (l.drop i) c i = r → qzx T 0 = some (.fsl (xzk cCl l) l.length 4) → qzx T 3 = some (.ptr 0 0) → qzx T 5 = some (.int .i64 i) → qzx h.l 0 = some (some (.cells (cCl c) false)) →
      wp Go.VL.Pal.E Gl (.loop c_glyphicref12_Find_l0) T h K := by
  intro d
  induction d with
  | zero =>
    intro i T h hd hr t0 t3 t5 h0'
    obtain rfl : i = l.length := by omega
    refine xzz c_glyphicref12_Find_l0.eq_1 ?_
    simp only [qzA, qzl, xzC, qzo, qzB, qzZ, qzr, qzk, qzi, xzg, qzY, qzf, qzd, qze, qzq, xzl, xzf, xzB, qzc, qzb, qzg, qzh, xzr, xzt, qzn, qzm, qzt, qza, qzs, qzv, qzy, xzi, xzh, qzJ, qzI, toA, ofA, FR.pop, abin, intBin, countN, xzn, ↓reduceIte, Nat.reduceEqDiff, reduceCtorEq, true_and, Bool.false_eq_true, decide_false, forall_const, false_implies, reduceCtorEq, t0, t5, Int.lt_irrefl]
    refine hK0 _ _ ?_
    rw [← hr, List.drop_length]; rfl
  | succ d ih =>
    intro i T h hd hr t0 t3 t5 h0'
    refine xzz c_glyphicref12_Find_l0.eq_1 ?_
    have hlt : i < l.length := by omega
    have c1 : (i : Int) < l.length := by omega
    obtain ⟨x, hx⟩ : ∃ x, l[i]? = some x := ⟨l[i], List.getElem?_eq_getElem hlt⟩
    have p1 := flat_le cCl_len hx
    have p2 := flat_at cCl_len hx
    have w : IntKind.i64.wrap ((i : Int) + 1) = ((i + 1 : Nat) : Int) := by rw [xzu (by omega) (by omega)]; rfl
    rw [drop_at hx, idxS] at hr
    simp only [qzA, qzl, xzC, qzo, qzB, qzZ, qzr, qzk, qzi, xzg, qzY, qzf, qzd, qze, qzq, xzl, xzf, xzB, xzI, xzL, qzc, qzj, qzb, qzg, qzh, xzr, xzt, qzu, qzn, qzm, qzt, qza, qzs, qzv, qzy, xzi, xzh, qzO, qzF, qzE, qzJ, qzI, toA, ofA, FR.pop, abin, intBin, qzp, countN, xzA, xzJ, xzS, xzy, xzK, yze, yzh, xzn, ↓reduceIte, Option.getD_some, Option.isSome_some, List.length_cons, List.length_nil, List.drop_zero, List.take_succ_cons, List.take_zero, List.append_nil, List.contains_nil, Nat.reduceAdd, Nat.reduceEqDiff, reduceCtorEq, Nat.reduceLeDiff, Nat.zero_add, and_self, and_true, true_and, Bool.and_self, Bool.not_false, decide_true, forall_const, false_implies, Bool.true_eq_false, reduceCtorEq, cCl, t0, t3, t5, c1, hlt, p1, p2, h0']
    refine xzj (same_ok Gl x c) rfl rfl ?_
    by_cases e : c = x
    · rw [if_pos e] at hr
      subst e
      have de : decide (c = c) = true := by simp
      simp only [qzA, qzl, qzo, qzD, qzr, qzk, qzi, qzU, xzc, xze, xzm, xzw, qzf, qzd, qze, qzq, xzF, xzM, qzc, qzb, qzg, qzh, qzn, qzm, qzt, qza, qzs, qzv, qzy, cv, qzJ, qzI, toA, ofA, FR.pop, abin, intBin, ↓reduceIte, Option.map_some, List.append_nil, Nat.reduceEqDiff, and_true, decide_true, forall_const, false_implies, Bool.true_eq_false, t5]
      refine hK1 _ _ ?_
      simp only [qza, ↓reduceIte, hr]
    · rw [if_neg e] at hr
      have de : decide (x = c) = false := by simp; exact fun q => e q.symm
      simp only [qzA, qzl, qzo, qzD, qzr, qzk, qzi, qzU, xzc, xze, xzm, xzw, qzf, qzd, qze, qzq, xzF, xzM, qzc, qzb, qzg, qzh, qzn, qzm, qzt, qza, qzs, qzv, qzy, cv, qzJ, qzI, toA, ofA, FR.pop, abin, intBin, ↓reduceIte, Option.map_some, List.append_nil, Nat.reduceEqDiff, true_and, Bool.false_eq_true, forall_const, false_implies, t5, de, w]
      refine ih (i + 1) _ _ (by omega) hr ?_ ?_ ?_ h0'
      · simp only [qza, ↓reduceIte, reduceCtorEq, reduceCtorEq, t0]
      · simp only [qza, ↓reduceIte, Nat.reduceEqDiff, t3]
      · simp only [qza, ↓reduceIte]

theorem refFind_ok (Gl : xzE) (c : Cl) (l : List Cl) (hl : l.length < 1000000) : yzg Go.VL.Pal.E Gl f_glyphicref12_Find [.fsl (xzk cCl l) l.length 4, .agg (cCl c)] (.int .i64 (idxS l c 0)) := by
  refine xzG (xzp E_glyphicref12_Find ?_)
  unfold c_glyphicref12_Find r_glyphicref12_Find
  simp only [xzW]
  simp only [qzl, qzo, qzB, qzi, qzf, qzd, qze, qzq, xzb, qzc, qzC, qzb, qzg, qzh, qzT, qzn, qzm, qzt, qza, qzs, qzv, qzy, xzo, xzY, cv, VN.at, VH.push, h0, VV.cells, ntV, ↓reduceIte, reduceCtorEq, Nat.zero_add, reduceCtorEq, cCl]
  refine find_loop Gl c l hl (idxS l c 0) _ ?_ ?_ l.length 0 _ _ (by omega) rfl ?_ ?_ ?_ ?_
  · intro T h e
    simp only [qzl, qzo, qzD, qzi, xzv, qzf, qzd, qze, qzq, qzG, qzc, qzb, qzg, qzh, qzn, qzm, qzt, qza, qzs, qzv, qzy, cv, qzV, qzP, qzX, qzW, ↓reduceIte, e]
    exact qzw rfl
  · intro T h t4
    simp only [qzU, xze, qzG, qzV, qzP, qzX, qzW, t4]
    exact qzw rfl
  all_goals simp only [qza, ↓reduceIte, Nat.reduceEqDiff, reduceCtorEq, reduceCtorEq, cCl]
  rfl

end
end Go.VL.Pal

/- Copies of lists. (By wip/gen_copy.py.) -/
namespace Go.VL.Cp
open Go.FR Go.IR Go.VL Go.VL.Color Go.VL.Wind Go.VL.Ic
noncomputable section
set_option linter.unusedSimpArgs false
set_option linter.unusedVariables false
set_option maxRecDepth 100000
set_option maxHeartbeats 1000000
def copyCap {α : Type} (l : List α) (e : Nat) : ACap := if l = [] then .exact 0 else .toEnd e

theorem segs_loop (Gl : xzE) (l : List Seg) (hl : l.length < 1000000) (K : AEx → VF → VH → Prop)
    (hK : ∀ T h j, qzx T 3 = some (.slice j 0 l.length 7 (.toEnd 7)) → qzx h.l j = some (some (.cells (xzk cSeg l) false)) → K (.exit 0) T h) :
    ∀ (d i : Nat) (T : VF) (h : VH) (j : Nat), d + i = l.length → qzx T 0 = some (.fsl (xzk cSeg l) l.length 7) → qzx T 4 = some (.int .i64 i) → qzx T 3 = some (.slice j 0 i 7 (.toEnd 7)) → qzx h.l j = some (some (.cells (xzk cSeg (l.take i)) false)) → j < h.next →
      wp Go.VL.Pal.E Gl (.loop c_glyphicref_Segs_l0) T h K := by
  intro d
  induction d with
  | zero =>
    intro i T h j hd t0 t4 t3 hj hn
    obtain rfl : i = l.length := by omega
    refine xzz c_glyphicref_Segs_l0.eq_1 ?_
    simp only [qzA, qzl, qzo, qzB, qzZ, qzr, qzk, qzi, xzg, qzY, qzf, qzd, qze, qzq, qzc, qzb, qzg, qzh, qzn, qzm, qzt, qza, qzs, qzv, qzy, xzi, xzh, qzJ, qzI, toA, ofA, FR.pop, abin, intBin, xzn, ↓reduceIte, Nat.reduceEqDiff, reduceCtorEq, true_and, Bool.false_eq_true, decide_false, forall_const, false_implies, reduceCtorEq, t0, t4, t3, Int.lt_irrefl]
    refine hK _ _ j ?_ (by rw [List.take_length] at hj; exact hj)
    simp only [qza, ↓reduceIte, Nat.reduceEqDiff, t3]
  | succ d ih =>
    intro i T h j hd t0 t4 t3 hj hn
    refine xzz c_glyphicref_Segs_l0.eq_1 ?_
    have hlt : i < l.length := by omega
    have c : (i : Int) < l.length := by omega
    obtain ⟨e, he⟩ : ∃ e, l[i]? = some e := ⟨l[i], List.getElem?_eq_getElem hlt⟩
    have p1 := flat_le cSeg_len he
    have p2 := flat_at cSeg_len he
    have w : IntKind.i64.wrap ((i : Int) + 1) = ((i + 1 : Nat) : Int) := by rw [xzu (by omega) (by omega)]; rfl
    have e1 : ¬ h.next = j := by omega
    have hli : (l.take i).length = i := by rw [List.length_take]; omega
    simp only [qzA, qzl, qzo, qzB, qzZ, qzr, qzk, qzi, xzg, qzY, qzf, qzd, qze, qzq, qzH, xzb, qzL, qzc, qzj, qzC, qzb, qzg, qzh, qzT, qzn, qzm, qzt, qza, qzs, qzv, qzy, xzi, xzh, qzO, qzF, xzo, xzx, qzR, qzE, cvs, cv, qzJ, qzI, toA, ofA, FR.pop, abin, intBin, VN.at, VH.push, VV.cells, ntV, xzn, ↓reduceIte, List.length_cons, List.length_nil, List.drop_succ_cons, List.drop_zero, List.take_zero, List.append_nil, List.nil_append, Nat.reduceAdd, Nat.reduceDiv, Nat.reduceEqDiff, reduceCtorEq, Nat.reduceLeDiff, Nat.zero_add, and_self, and_true, decide_true, forall_const, false_implies, Bool.true_eq_false, reduceCtorEq, cSeg, t0, t4, t3, c, hlt, p1, p2]
    have acc : yzp 0 (h.push (.cells (cSeg e) false)) j cSeg (l.take i) 7 (.slice j 0 i 7 (.toEnd 7)) := .inr ⟨by rw [hli], by simp only [VH.push, qza, e1, if_false]; exact hj, Nat.zero_le _, by show j < h.next + 1; omega⟩
    refine wpW_acc (a := e) acc ?_ cSeg_len (by omega) (Nat.zero_le _) (by rw [hli]; omega) (by rw [hli]; omega) ?_
    · simp only [qza, yzr, yzA, qzp, ↓reduceIte, Option.getD_some, List.length_cons, List.length_nil, List.drop_zero, List.take_succ_cons, List.take_zero, Nat.reduceAdd, Nat.reduceMul, reduceCtorEq, Nat.reduceLeDiff, Nat.zero_add, true_or, reduceCtorEq, true_or, cSeg] <;> first | rfl | exact ⟨rfl, rfl⟩ | exact qzw rfl
    · intro h' g1 g2 g3
      rw [hli] at g3
      simp only [qzl, qzi, xzc, xzm, qzf, qzd, qze, qzq, qzz, qzc, qzb, qzg, qzh, qzn, qzm, qzt, qza, qzs, qzv, qzy, cv, qzJ, qzI, toA, ofA, FR.pop, abin, intBin, xzs, ↓reduceIte, Nat.reduceEqDiff, t4, w, hli]
      rcases g3 with ⟨_, g3⟩ | ⟨_, g4, _, g5⟩
      · exact nomatch g3
      refine ih (i + 1) _ h' (h.next + 1) (by omega) ?_ ?_ ?_ ?_ g5
      · simp only [qza, ↓reduceIte, reduceCtorEq, reduceCtorEq, t0]
      · simp only [qza, ↓reduceIte]
      · simp only [qza, ↓reduceIte, Nat.reduceEqDiff]
      · rw [take_at he]; exact g4
theorem segs_ok (Gl : xzE) (l : List Seg) (hl : l.length < 1000000) : PureOwn Go.VL.Pal.E Gl f_glyphicref_Segs [.fsl (xzk cSeg l) l.length 7] (xzk cSeg l) 0 l.length 7 (copyCap l 7) := by
  refine own_sound (xzp E_glyphicref_Segs ?_)
  unfold c_glyphicref_Segs r_glyphicref_Segs copyCap
  have hz : natV (VV.int .i64 0) = some 0 := rfl
  simp only [xzW]
  have q : l.length < 9223372036854775808 ∧ l.length * 56 ≤ 281474976710656 := by omega
  rcases l with _ | ⟨e, l⟩
  · simp only [qzl, qzo, qzB, qzi, qzf, qzd, qze, qzq, xzb, qzc, qzC, qzb, qzg, qzh, qzT, qzn, qzm, qzt, qza, qzs, qzv, qzy, xzh, xzo, xzV, cvs, cv, VN.at, VH.push, qzp, h0, ↓reduceIte, List.length_cons, List.length_nil, Nat.reduceAdd, Nat.reduceLT, reduceCtorEq, Nat.zero_add, and_self, reduceCtorEq, repV, List.replicate_zero, List.flatten_nil, Nat.le_refl, Nat.zero_mul, Nat.zero_le, Int.natCast_zero, eq_self, hz]
    refine xzz c_glyphicref_Segs_l0.eq_1 ?_
    simp only [qzA, qzl, qzo, qzB, qzZ, qzD, qzr, qzk, qzi, xzg, xzv, qzY, qzf, qzd, qze, qzq, qzG, qzc, qzb, qzg, qzh, qzn, qzm, qzt, qza, qzs, qzv, qzy, xzi, xzh, qzJ, qzI, toA, ofA, FR.pop, abin, intBin, qzV, qzP, qzX, qzW, ↓reduceIte, Nat.reduceEqDiff, reduceCtorEq, true_and, Bool.false_eq_true, decide_false, forall_const, false_implies, reduceCtorEq, Int.natCast_zero, Int.lt_irrefl]
    exact ⟨0, _, rfl, rfl, rfl, subL_refl _⟩
  · have q0 : ¬ (0 = l.length + 1) := by omega
    rw [List.length_cons] at q
    simp only [qzl, qzo, qzB, qzi, qzf, qzd, qze, qzq, xzb, qzc, qzC, qzb, qzg, qzh, qzT, qzn, qzm, qzt, qza, qzs, qzv, qzy, xzh, xzo, xzV, cvs, cv, VN.at, VH.push, qzp, h0, xzn, ↓reduceIte, List.length_cons, List.length_nil, Nat.reduceAdd, reduceCtorEq, Nat.zero_add, and_self, reduceCtorEq, repV, List.replicate_zero, List.flatten_nil, Nat.zero_le, q, q0, hz]
    refine segs_loop Gl (e :: l) hl _ ?_ (l.length + 1) 0 _ _ 0 (by simp) ?_ ?_ ?_ ?_ ?_
    · intro T h j t3 hj
      simp only [qzl, qzo, qzD, qzi, xzv, qzf, qzd, qze, qzq, qzG, qzc, qzb, qzg, qzh, qzn, qzm, qzt, qza, qzs, qzv, qzy, qzV, qzP, qzX, qzW, ↓reduceIte, List.length_cons, t3]
      exact ⟨j, _, rfl, by rw [hj]; rfl, closedL_flat (fun _ => rfl) _, subL_refl _⟩
    · simp only [qza, ↓reduceIte, List.length_cons, reduceCtorEq, reduceCtorEq]
    · simp only [qza, ↓reduceIte]; rfl
    · simp only [qza, ↓reduceIte, Nat.reduceEqDiff]
    · simp only [qza, ↓reduceIte, List.take_zero, List.take_zero, flatL_nil]
    · simp only [Nat.reduceLT]
theorem segs_some (Gl : xzE) (l : List Seg) (hl : l.length < 1000000) (hn : l ≠ []) : PureOwn Go.VL.Pal.E Gl f_glyphicref_Segs [.fsl (xzk cSeg l) l.length 7] (xzk cSeg l) 0 l.length 7 (.toEnd 7) := by
  have := segs_ok Gl l hl
  rwa [copyCap, if_neg hn] at this

theorem paths_loop (Gl : xzE) (l : List Path) (hl : l.length < 1000000) (K : AEx → VF → VH → Prop)
    (hK : ∀ T h j, qzx T 3 = some (.slice j 0 l.length 4 (.toEnd 4)) → qzx h.l j = some (some (.cells (xzk cPath l) false)) → K (.exit 0) T h) :
    ∀ (d i : Nat) (T : VF) (h : VH) (j : Nat), d + i = l.length → qzx T 0 = some (.fsl (xzk cPath l) l.length 4) → qzx T 4 = some (.int .i64 i) → qzx T 3 = some (.slice j 0 i 4 (.toEnd 4)) → qzx h.l j = some (some (.cells (xzk cPath (l.take i)) false)) → j < h.next →
      wp Go.VL.Pal.E Gl (.loop c_glyphicref_Paths_l0) T h K := by
  intro d
  induction d with
  | zero =>
    intro i T h j hd t0 t4 t3 hj hn
    obtain rfl : i = l.length := by omega
    refine xzz c_glyphicref_Paths_l0.eq_1 ?_
    simp only [qzA, qzl, qzo, qzB, qzZ, qzr, qzk, qzi, xzg, qzY, qzf, qzd, qze, qzq, qzc, qzb, qzg, qzh, qzn, qzm, qzt, qza, qzs, qzv, qzy, xzi, xzh, qzJ, qzI, toA, ofA, FR.pop, abin, intBin, xzn, ↓reduceIte, Nat.reduceEqDiff, reduceCtorEq, true_and, Bool.false_eq_true, decide_false, forall_const, false_implies, reduceCtorEq, t0, t4, t3, Int.lt_irrefl]
    refine hK _ _ j ?_ (by rw [List.take_length] at hj; exact hj)
    simp only [qza, ↓reduceIte, Nat.reduceEqDiff, t3]
  | succ d ih =>
    intro i T h j hd t0 t4 t3 hj hn
    refine xzz c_glyphicref_Paths_l0.eq_1 ?_
    have hlt : i < l.length := by omega
    have c : (i : Int) < l.length := by omega
    obtain ⟨e, he⟩ : ∃ e, l[i]? = some e := ⟨l[i], List.getElem?_eq_getElem hlt⟩
    have p1 := flat_le cPath_len he
    have p2 := flat_at cPath_len he
    have w : IntKind.i64.wrap ((i : Int) + 1) = ((i + 1 : Nat) : Int) := by rw [xzu (by omega) (by omega)]; rfl
    have e1 : ¬ h.next = j := by omega
    have hli : (l.take i).length = i := by rw [List.length_take]; omega
    simp only [qzA, qzl, qzo, qzB, qzZ, qzr, qzk, qzi, xzg, qzY, qzf, qzd, qze, qzq, qzH, xzb, qzL, qzc, qzj, qzC, qzb, qzg, qzh, qzT, qzn, qzm, qzt, qza, qzs, qzv, qzy, xzi, xzh, qzO, qzF, xzo, xzx, qzR, qzE, cvs, cv, qzJ, qzI, toA, ofA, FR.pop, abin, intBin, VN.at, VH.push, VV.cells, ntV, xzn, ↓reduceIte, List.length_cons, List.length_nil, List.drop_succ_cons, List.drop_zero, List.take_zero, List.append_nil, List.nil_append, Nat.reduceAdd, Nat.reduceDiv, Nat.reduceEqDiff, reduceCtorEq, Nat.reduceLeDiff, Nat.zero_add, and_self, and_true, decide_true, forall_const, false_implies, Bool.true_eq_false, reduceCtorEq, cPath, t0, t4, t3, c, hlt, p1, p2]
    have acc : yzp 0 (h.push (.cells (cPath e) false)) j cPath (l.take i) 4 (.slice j 0 i 4 (.toEnd 4)) := .inr ⟨by rw [hli], by simp only [VH.push, qza, e1, if_false]; exact hj, Nat.zero_le _, by show j < h.next + 1; omega⟩
    refine wpW_acc (a := e) acc ?_ cPath_len (by omega) (Nat.zero_le _) (by rw [hli]; omega) (by rw [hli]; omega) ?_
    · simp only [qza, yzr, yzA, qzp, ↓reduceIte, Option.getD_some, List.length_cons, List.length_nil, List.drop_zero, List.take_succ_cons, List.take_zero, Nat.reduceAdd, Nat.reduceMul, reduceCtorEq, Nat.reduceLeDiff, Nat.zero_add, true_or, reduceCtorEq, true_or, cPath] <;> first | rfl | exact ⟨rfl, rfl⟩ | exact qzw rfl
    · intro h' g1 g2 g3
      rw [hli] at g3
      simp only [qzl, qzi, xzc, xzm, qzf, qzd, qze, qzq, qzz, qzc, qzb, qzg, qzh, qzn, qzm, qzt, qza, qzs, qzv, qzy, cv, qzJ, qzI, toA, ofA, FR.pop, abin, intBin, xzs, ↓reduceIte, Nat.reduceEqDiff, t4, w, hli]
      rcases g3 with ⟨_, g3⟩ | ⟨_, g4, _, g5⟩
      · exact nomatch g3
      refine ih (i + 1) _ h' (h.next + 1) (by omega) ?_ ?_ ?_ ?_ g5
      · simp only [qza, ↓reduceIte, reduceCtorEq, reduceCtorEq, t0]
      · simp only [qza, ↓reduceIte]
      · simp only [qza, ↓reduceIte, Nat.reduceEqDiff]
      · rw [take_at he]; exact g4
theorem paths_ok (Gl : xzE) (l : List Path) (hl : l.length < 1000000) : PureOwn Go.VL.Pal.E Gl f_glyphicref_Paths [.fsl (xzk cPath l) l.length 4] (xzk cPath l) 0 l.length 4 (copyCap l 4) := by
  refine own_sound (xzp E_glyphicref_Paths ?_)
  unfold c_glyphicref_Paths r_glyphicref_Paths copyCap
  have hz : natV (VV.int .i64 0) = some 0 := rfl
  simp only [xzW]
  have q : l.length < 9223372036854775808 ∧ l.length * 48 ≤ 281474976710656 := by omega
  rcases l with _ | ⟨e, l⟩
  · simp only [qzl, qzo, qzB, qzi, qzf, qzd, qze, qzq, xzb, qzc, qzC, qzb, qzg, qzh, qzT, qzn, qzm, qzt, qza, qzs, qzv, qzy, xzh, xzo, xzV, cvs, cv, VN.at, VH.push, qzp, h0, ↓reduceIte, List.length_cons, List.length_nil, Nat.reduceAdd, Nat.reduceLT, reduceCtorEq, Nat.zero_add, and_self, reduceCtorEq, repV, List.replicate_zero, List.flatten_nil, Nat.le_refl, Nat.zero_mul, Nat.zero_le, Int.natCast_zero, eq_self, hz]
    refine xzz c_glyphicref_Paths_l0.eq_1 ?_
    simp only [qzA, qzl, qzo, qzB, qzZ, qzD, qzr, qzk, qzi, xzg, xzv, qzY, qzf, qzd, qze, qzq, qzG, qzc, qzb, qzg, qzh, qzn, qzm, qzt, qza, qzs, qzv, qzy, xzi, xzh, qzJ, qzI, toA, ofA, FR.pop, abin, intBin, qzV, qzP, qzX, qzW, ↓reduceIte, Nat.reduceEqDiff, reduceCtorEq, true_and, Bool.false_eq_true, decide_false, forall_const, false_implies, reduceCtorEq, Int.natCast_zero, Int.lt_irrefl]
    exact ⟨0, _, rfl, rfl, rfl, subL_refl _⟩
  · have q0 : ¬ (0 = l.length + 1) := by omega
    rw [List.length_cons] at q
    simp only [qzl, qzo, qzB, qzi, qzf, qzd, qze, qzq, xzb, qzc, qzC, qzb, qzg, qzh, qzT, qzn, qzm, qzt, qza, qzs, qzv, qzy, xzh, xzo, xzV, cvs, cv, VN.at, VH.push, qzp, h0, xzn, ↓reduceIte, List.length_cons, List.length_nil, Nat.reduceAdd, reduceCtorEq, Nat.zero_add, and_self, reduceCtorEq, repV, List.replicate_zero, List.flatten_nil, Nat.zero_le, q, q0, hz]
    refine paths_loop Gl (e :: l) hl _ ?_ (l.length + 1) 0 _ _ 0 (by simp) ?_ ?_ ?_ ?_ ?_
    · intro T h j t3 hj
      simp only [qzl, qzo, qzD, qzi, xzv, qzf, qzd, qze, qzq, qzG, qzc, qzb, qzg, qzh, qzn, qzm, qzt, qza, qzs, qzv, qzy, qzV, qzP, qzX, qzW, ↓reduceIte, List.length_cons, t3]
      exact ⟨j, _, rfl, by rw [hj]; rfl, closedL_flat (fun _ => rfl) _, subL_refl _⟩
    · simp only [qza, ↓reduceIte, List.length_cons, reduceCtorEq, reduceCtorEq]
    · simp only [qza, ↓reduceIte]; rfl
    · simp only [qza, ↓reduceIte, Nat.reduceEqDiff]
    · simp only [qza, ↓reduceIte, List.take_zero, List.take_zero, flatL_nil]
    · simp only [Nat.reduceLT]
theorem paths_some (Gl : xzE) (l : List Path) (hl : l.length < 1000000) (hn : l ≠ []) : PureOwn Go.VL.Pal.E Gl f_glyphicref_Paths [.fsl (xzk cPath l) l.length 4] (xzk cPath l) 0 l.length 4 (.toEnd 4) := by
  have := paths_ok Gl l hl
  rwa [copyCap, if_neg hn] at this

theorem cmds_loop (Gl : xzE) (l : List Cmd) (hl : l.length < 1000000) (K : AEx → VF → VH → Prop)
    (hK : ∀ T h j, qzx T 3 = some (.slice j 0 l.length 11 (.toEnd 11)) → qzx h.l j = some (some (.cells (xzk cCmd l) false)) → K (.exit 0) T h) :
    ∀ (d i : Nat) (T : VF) (h : VH) (j : Nat), d + i = l.length → qzx T 0 = some (.fsl (xzk cCmd l) l.length 11) → qzx T 4 = some (.int .i64 i) → qzx T 3 = some (.slice j 0 i 11 (.toEnd 11)) → qzx h.l j = some (some (.cells (xzk cCmd (l.take i)) false)) → j < h.next →
      wp Go.VL.Pal.E Gl (.loop c_glyphicref_Cmds_l0) T h K := by
  intro d
  induction d with
  | zero =>
    intro i T h j hd t0 t4 t3 hj hn
    obtain rfl : i = l.length := by omega
    refine xzz c_glyphicref_Cmds_l0.eq_1 ?_
    simp only [qzA, qzl, qzo, qzB, qzZ, qzr, qzk, qzi, xzg, qzY, qzf, qzd, qze, qzq, qzc, qzb, qzg, qzh, qzn, qzm, qzt, qza, qzs, qzv, qzy, xzi, xzh, qzJ, qzI, toA, ofA, FR.pop, abin, intBin, xzn, ↓reduceIte, Nat.reduceEqDiff, reduceCtorEq, true_and, Bool.false_eq_true, decide_false, forall_const, false_implies, reduceCtorEq, t0, t4, t3, Int.lt_irrefl]
    refine hK _ _ j ?_ (by rw [List.take_length] at hj; exact hj)
    simp only [qza, ↓reduceIte, Nat.reduceEqDiff, t3]
  | succ d ih =>
    intro i T h j hd t0 t4 t3 hj hn
    refine xzz c_glyphicref_Cmds_l0.eq_1 ?_
    have hlt : i < l.length := by omega
    have c : (i : Int) < l.length := by omega
    obtain ⟨e, he⟩ : ∃ e, l[i]? = some e := ⟨l[i], List.getElem?_eq_getElem hlt⟩
    have p1 := flat_le cCmd_len he
    have p2 := flat_at cCmd_len he
    have w : IntKind.i64.wrap ((i : Int) + 1) = ((i + 1 : Nat) : Int) := by rw [xzu (by omega) (by omega)]; rfl
    have e1 : ¬ h.next = j := by omega
    have hli : (l.take i).length = i := by rw [List.length_take]; omega
    simp only [qzA, qzl, qzo, qzB, qzZ, qzr, qzk, qzi, xzg, qzY, qzf, qzd, qze, qzq, qzH, xzb, qzL, qzc, qzj, qzC, qzb, qzg, qzh, qzT, qzn, qzm, qzt, qza, qzs, qzv, qzy, xzi, xzh, qzO, qzF, xzo, xzx, qzR, qzE, cvs, cv, qzJ, qzI, toA, ofA, FR.pop, abin, intBin, VN.at, VH.push, VV.cells, ntV, xzn, ↓reduceIte, List.length_cons, List.length_nil, List.drop_succ_cons, List.drop_zero, List.take_zero, List.append_nil, List.nil_append, Nat.reduceAdd, Nat.reduceDiv, Nat.reduceEqDiff, reduceCtorEq, Nat.reduceLeDiff, Nat.zero_add, and_self, and_true, decide_true, forall_const, false_implies, Bool.true_eq_false, reduceCtorEq, cCmd, t0, t4, t3, c, hlt, p1, p2]
    have acc : yzp 0 (h.push (.cells (cCmd e) false)) j cCmd (l.take i) 11 (.slice j 0 i 11 (.toEnd 11)) := .inr ⟨by rw [hli], by simp only [VH.push, qza, e1, if_false]; exact hj, Nat.zero_le _, by show j < h.next + 1; omega⟩
    refine wpW_acc (a := e) acc ?_ cCmd_len (by omega) (Nat.zero_le _) (by rw [hli]; omega) (by rw [hli]; omega) ?_
    · simp only [qza, yzr, yzA, qzp, ↓reduceIte, Option.getD_some, List.length_cons, List.length_nil, List.drop_zero, List.take_succ_cons, List.take_zero, Nat.reduceAdd, Nat.reduceMul, reduceCtorEq, Nat.reduceLeDiff, Nat.zero_add, true_or, reduceCtorEq, true_or, cCmd] <;> first | rfl | exact ⟨rfl, rfl⟩ | exact qzw rfl
    · intro h' g1 g2 g3
      rw [hli] at g3
      simp only [qzl, qzi, xzc, xzm, qzf, qzd, qze, qzq, qzz, qzc, qzb, qzg, qzh, qzn, qzm, qzt, qza, qzs, qzv, qzy, cv, qzJ, qzI, toA, ofA, FR.pop, abin, intBin, xzs, ↓reduceIte, Nat.reduceEqDiff, t4, w, hli]
      rcases g3 with ⟨_, g3⟩ | ⟨_, g4, _, g5⟩
      · exact nomatch g3
      refine ih (i + 1) _ h' (h.next + 1) (by omega) ?_ ?_ ?_ ?_ g5
      · simp only [qza, ↓reduceIte, reduceCtorEq, reduceCtorEq, t0]
      · simp only [qza, ↓reduceIte]
      · simp only [qza, ↓reduceIte, Nat.reduceEqDiff]
      · rw [take_at he]; exact g4
theorem cmds_ok (Gl : xzE) (l : List Cmd) (hl : l.length < 1000000) : PureOwn Go.VL.Pal.E Gl f_glyphicref_Cmds [.fsl (xzk cCmd l) l.length 11] (xzk cCmd l) 0 l.length 11 (copyCap l 11) := by
  refine own_sound (xzp E_glyphicref_Cmds ?_)
  unfold c_glyphicref_Cmds r_glyphicref_Cmds copyCap
  have hz : natV (VV.int .i64 0) = some 0 := rfl
  simp only [xzW]
  have q : l.length < 9223372036854775808 ∧ l.length * 104 ≤ 281474976710656 := by omega
  rcases l with _ | ⟨e, l⟩
  · simp only [qzl, qzo, qzB, qzi, qzf, qzd, qze, qzq, xzb, qzc, qzC, qzb, qzg, qzh, qzT, qzn, qzm, qzt, qza, qzs, qzv, qzy, xzh, xzo, xzV, cvs, cv, VN.at, VH.push, qzp, h0, ↓reduceIte, List.length_cons, List.length_nil, Nat.reduceAdd, Nat.reduceLT, reduceCtorEq, Nat.zero_add, and_self, reduceCtorEq, repV, List.replicate_zero, List.flatten_nil, Nat.le_refl, Nat.zero_mul, Nat.zero_le, Int.natCast_zero, eq_self, hz]
    refine xzz c_glyphicref_Cmds_l0.eq_1 ?_
    simp only [qzA, qzl, qzo, qzB, qzZ, qzD, qzr, qzk, qzi, xzg, xzv, qzY, qzf, qzd, qze, qzq, qzG, qzc, qzb, qzg, qzh, qzn, qzm, qzt, qza, qzs, qzv, qzy, xzi, xzh, qzJ, qzI, toA, ofA, FR.pop, abin, intBin, qzV, qzP, qzX, qzW, ↓reduceIte, Nat.reduceEqDiff, reduceCtorEq, true_and, Bool.false_eq_true, decide_false, forall_const, false_implies, reduceCtorEq, Int.natCast_zero, Int.lt_irrefl]
    exact ⟨0, _, rfl, rfl, rfl, subL_refl _⟩
  · have q0 : ¬ (0 = l.length + 1) := by omega
    rw [List.length_cons] at q
    simp only [qzl, qzo, qzB, qzi, qzf, qzd, qze, qzq, xzb, qzc, qzC, qzb, qzg, qzh, qzT, qzn, qzm, qzt, qza, qzs, qzv, qzy, xzh, xzo, xzV, cvs, cv, VN.at, VH.push, qzp, h0, xzn, ↓reduceIte, List.length_cons, List.length_nil, Nat.reduceAdd, reduceCtorEq, Nat.zero_add, and_self, reduceCtorEq, repV, List.replicate_zero, List.flatten_nil, Nat.zero_le, q, q0, hz]
    refine cmds_loop Gl (e :: l) hl _ ?_ (l.length + 1) 0 _ _ 0 (by simp) ?_ ?_ ?_ ?_ ?_
    · intro T h j t3 hj
      simp only [qzl, qzo, qzD, qzi, xzv, qzf, qzd, qze, qzq, qzG, qzc, qzb, qzg, qzh, qzn, qzm, qzt, qza, qzs, qzv, qzy, qzV, qzP, qzX, qzW, ↓reduceIte, List.length_cons, t3]
      exact ⟨j, _, rfl, by rw [hj]; rfl, closedL_flat (fun _ => rfl) _, subL_refl _⟩
    · simp only [qza, ↓reduceIte, List.length_cons, reduceCtorEq, reduceCtorEq]
    · simp only [qza, ↓reduceIte]; rfl
    · simp only [qza, ↓reduceIte, Nat.reduceEqDiff]
    · simp only [qza, ↓reduceIte, List.take_zero, List.take_zero, flatL_nil]
    · simp only [Nat.reduceLT]
theorem cmds_some (Gl : xzE) (l : List Cmd) (hl : l.length < 1000000) (hn : l ≠ []) : PureOwn Go.VL.Pal.E Gl f_glyphicref_Cmds [.fsl (xzk cCmd l) l.length 11] (xzk cCmd l) 0 l.length 11 (.toEnd 11) := by
  have := cmds_ok Gl l hl
  rwa [copyCap, if_neg hn] at this

end
end Go.VL.Cp
