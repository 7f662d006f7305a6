import Derived.Test.YtbamfhdgikeneaaDoorEnP
import Derived.Test.YtbamfhdgikeneaaDoorEnF
import Derived.Test.YtbamfhdgikeneaaDoorWrA
import Derived.Test.YtbamfhdgikeneaaDoorWiA
/- Chapter 6: a paint's, a command's bytes; any right icon's. -/
namespace Go.VL.En
open Go.FR Go.IR Go.VL Go.VL.Color Go.VL.Wind Go.VL.Ic Go.VL.Wire
noncomputable section
set_option linter.unusedSimpArgs false
set_option linter.unusedVariables false
set_option maxRecDepth 100000
set_option maxHeartbeats 1000000

/-- What is left as it was. -/
def Fr (b : Nat) (h1 : VH) (j1 : Nat) (v1 : VV) (h2 : VH) (j2 : Nat) (v2 : VV) : Prop := h1.next ≤ h2.next ∧ ∀ k, k < h1.next → k ≠ b → (k ≠ j1 ∨ v1 = .nilS) → qzv h2.l k = qzv h1.l k ∧ (k ≠ j2 ∨ v2 = .nilS)
def StQ (N b j : Nat) (v : VV) (X : List Nat) (h : VH) (done : List Nat) (h1 : VH) (j1 : Nat) (v1 : VV) (h2 : VH) : Prop := ∃ j2 v2, St N b j v X h done h2 j2 v2 ∧ Fr b h1 j1 v1 h2 j2 v2
theorem St.wr {Gl : xzv} {N b j : Nat} {v : VV} {X : List Nat} {h : VH} {done : List Nat} {h1 : VH} {j1 : Nat} {v1 : VV} (st : St N b j v X h done h1 j1 v1) (hb : b < N) {f m : Nat} {args : Nat → List VV} {bs : List Nat} (w : Wr f args bs m) (hX : X.length + (done.length + bs.length) + m < 1000000000) :
    CallsV Go.VL.Er.E Gl f (args b) h1 (fun _ h2 => StQ N b j v X h (done ++ bs) h1 j1 v1 h2) := by
  have hn := st.n
  refine (w Gl h1 b j1 v1 (X ++ done) st.i st.a (by omega) st.bj (by rw [List.length_append]; omega)).mono fun _ h2 q => ?_
  obtain ⟨j2, v2, st2, kp2, bk2⟩ := st.call hb h1.next q (st.d.symm)
  exact ⟨j2, v2, st2, kp2.1, fun k k1 k2 k3 => kp2.2 k k1 k2 (by omega) k3⟩
theorem St.num {Gl : xzv} {N b j : Nat} {v : VV} {X : List Nat} {h : VH} {done : List Nat} {h1 : VH} {j1 : Nat} {v1 : VV} (st : St N b j v X h done h1 j1 v1) (hb : b < N) (n : Nat) (hn : n < 9223372036854775808) (hX : X.length + done.length + 10 < 1000000000) :
    CallsV Go.VL.Er.E Gl f_encode_writer_num [.ptr b 0, .slice h1.next 0 1 1 (.exact 1)] ⟨(h1.next, some (.cells [.int .i64 (n : Int)] false)) :: h1.l, h1.next + 1⟩ (fun _ h2 => StQ N b j v X h (done ++ putS n) h1 j1 v1 h2) := by
  have hN := st.n
  have pn := putS_10 (n := n) (by omega)
  have nb : numsB [n] = putS n := by simp [numsB]
  have fX : ∀ k, k < h1.next → qzv ((h1.next, some (VB.cells [.int .i64 (n : Int)] false)) :: h1.l) k = qzv h1.l k := fun k hk => by simp only [qza]; rw [if_neg (by omega)]
  refine (num_run [n] (by simp; omega) (by simp) b h1.next (by omega) j1 v1 (X ++ done) ⟨(h1.next, some (.cells [.int .i64 (n : Int)] false)) :: h1.l, h1.next + 1⟩ (by rw [List.length_append, nb]; omega) (by show b < h1.next + 1; omega) (by show h1.next < h1.next + 1; omega) (AccE.ne st.a (.inr (Nat.le_refl _))) (by simp only [qza, if_true]; rfl) (by rw [fX b (by omega)]; exact st.i) (Go.VL.Wire.AccE.ext st.a (by show h1.next ≤ h1.next + 1; omega) (fun _ q => fX j1 q)) st.bj).mono fun _ h2 q => ?_
  rw [nb] at q
  obtain ⟨j2, v2, st2, kp2, bk2⟩ := st.call hb h1.next (q.weak (by show h1.next ≤ h1.next + 1; omega) fX) (st.d.symm)
  exact ⟨j2, v2, st2, kp2.1, fun k k1 k2 k3 => kp2.2 k k1 k2 (by omega) k3⟩
theorem St.done {N b j : Nat} {v : VV} {X : List Nat} {h : VH} {bs : List Nat} {h1 : VH} {j1 : Nat} {v1 : VV} (st : St N b j v X h bs h1 j1 v1) (hN : h.next = N) : WrQ b j v X bs h h1 := by
  subst hN
  exact ⟨j1, v1, st.i, st.a, st.bj, st.fr, st.n, st.d⟩
theorem St.start {b j : Nat} {v : VV} {X : List Nat} {h : VH} (hi : qzv h.l b = some (some (.cells [v] false))) (ha : AccE 0 h j cB X 1 v) (hbj : b ≠ j ∨ v = .nilS) (hb : b < h.next) (cs : List VV) : St h.next b j v X h [] ⟨(h.next, some (.cells cs false)) :: h.l, h.next + 1⟩ j v := by
  have st0 : St h.next b j v X h [] h j v := ⟨hi, by rw [List.append_nil]; exact ha, hbj, fun _ _ _ _ => rfl, .inl ⟨rfl, rfl⟩, Nat.le_refl _⟩
  exact (st0.move (h2 := ⟨(h.next, some (.cells cs false)) :: h.l, h.next + 1⟩) hb h.next (Nat.le_refl _) (AccE.ne ha (.inr (Nat.le_refl _))) (by show h.next ≤ h.next + 1; omega) (fun k k1 _ => by simp only [qza]; rw [if_neg (by omega)])).1

theorem paint_wr (p : Paint) (hp : PaintR p) : Wr f_encode_writer_paint (fun b => [.ptr b 0, .agg (cPaint p)]) (paintB p) 100000 := by
  intro Gl h b j v X hi ha hb hbj hX
  have hk := hp.k; have pa := hp.a; have pb := hp.b
  have np := near_pt hp.np; have nq := near_pt hp.nq
  have lp := point_le20 hp.np; have lq := point_le20 hp.nq
  obtain ⟨k, a, b', x, y⟩ := p
  simp only at *
  obtain ⟨A, rfl⟩ : ∃ A : Nat, a = A := ⟨a.toNat, by omega⟩
  obtain ⟨B, rfl⟩ : ∃ B : Nat, b' = B := ⟨b'.toNat, by omega⟩
  have e1 : ((A : Int)).toNat = A := by omega
  have e2 : ((B : Int)).toNat = B := by omega
  have l1 := putS_10 (n := A) (by omega)
  have l2 := putS_10 (n := B) (by omega)
  have zq := hp.z2
  simp only at zq
  refine xze E_encode_writer_paint ?_
  unfold c_encode_writer_paint r_encode_writer_paint
  simp only [xzC]
  have st0 := St.start (X := X) hi ha hbj hb (cPaint ⟨k, A, B, x, y⟩)
  obtain ⟨h1, eh⟩ : ∃ h1 : VH, VH.mk ((h.next, some (.cells (cPaint ⟨k, A, B, x, y⟩) false)) :: h.l) (h.next + 1) = h1 := ⟨_, rfl⟩
  have n1 : h1.next = h.next + 1 := by rw [← eh]
  have i1 : qzv h1.l h.next = some (some (.cells (cPaint ⟨k, A, B, x, y⟩) false)) := by rw [← eh]; simp only [qza, if_true]
  rw [eh] at st0
  have f1 : h.next ≠ j ∨ v = .nilS := AccE.ne ha (.inr (Nat.le_refl _))
  simp only [qzj, qzn, qzi, qzf, qzd, qze, qzp, qzJ, qzZ, qzN, qzc, qzk, qzE, qzb, qzg, qzh, qzR, qzy, qzm, qzl, qzs, qza, qzr, qzu, qzx, qzI, qzL, qzC, xzk, xzJ, xzA, qzS, qzB, cvs, cv, VN.at, VH.push, qzq, VV.cells, ntV, ↓reduceIte, Option.getD_some, List.getElem?_cons_zero, List.getElem?_cons_succ, List.length_cons, List.length_nil, List.drop_succ_cons, List.drop_zero, List.take_zero, List.append_nil, List.nil_append, Nat.reduceDiv, Nat.reduceEqDiff, reduceCtorEq, Nat.reduceLeDiff, Nat.zero_add, and_self, reduceCtorEq, cPaint]
  have r1 : VH.mk ((h.next + 1, some (VB.cells [.int .i64 (A : Int)] false)) :: (h.next, some (.cells (cPaint ⟨k, A, B, x, y⟩) false)) :: h.l) (h.next + 1 + 1) = ⟨(h1.next, some (VB.cells [.int .i64 (A : Int)] false)) :: h1.l, h1.next + 1⟩ := by rw [← eh]
  show wpCall Go.VL.Er.E Gl f_encode_writer_num [.ptr b 0, .slice (h.next + 1) 0 1 1 (.exact 1)] (VH.mk ((h.next + 1, some (VB.cells [.int .i64 (A : Int)] false)) :: (h.next, some (.cells (cPaint ⟨k, A, B, x, y⟩) false)) :: h.l) (h.next + 1 + 1)) _
  rw [r1, ← n1]
  refine xzI (st0.num hb A (by omega) (by rw [List.length_nil]; omega)) ?_
  intro rr h2 ⟨j2, v2, st2, fr2⟩
  have n2 := fr2.1
  have c2 := fr2.2 h.next (by omega) (by omega) f1
  have i2 := c2.1.trans i1
  by_cases k0 : k = 0
  · subst k0
    simp only [qzA, qzj, qzn, qzF, qzw, qzo, qzi, qzT, qzf, qzd, qze, qzp, qzJ, qzZ, qzN, qzz, qzK, qzc, qzk, qzE, qzb, qzg, qzh, qzR, qzy, qzm, qzl, qzs, qza, qzr, qzu, qzx, qzI, qzL, qzC, xzk, xzA, qzS, qzB, cvs, cv, qzG, qzH, toA, ofA, FR.pop, abin, intBin, VN.at, VH.push, qzq, VV.cells, ntV, qzQ, qzM, qzP, ↓reduceIte, Option.getD_some, List.getElem?_cons_zero, List.getElem?_cons_succ, List.length_cons, List.length_nil, List.drop_succ_cons, List.drop_zero, List.take_zero, List.append_nil, List.nil_append, Nat.reduceDiv, Nat.reduceEqDiff, reduceCtorEq, Nat.reduceLeDiff, Nat.add_zero, Nat.zero_add, and_self, and_true, beq_self_eq_true, forall_const, false_implies, Bool.true_eq_false, reduceCtorEq, cPaint, i2]
    have : paintB ⟨0, A, B, x, y⟩ = [] ++ putS A := by simp [paintB]
    rw [this]
    exact st2.done rfl
  have d0 : (k == 0) = false := by simp [k0]
  simp only [qzA, qzj, qzn, qzF, qzw, qzo, qzi, qzT, qzf, qzd, qze, qzp, qzJ, qzZ, qzN, qzz, qzK, qzc, qzk, qzE, qzb, qzg, qzh, qzR, qzy, qzm, qzl, qzs, qza, qzr, qzu, qzx, qzI, qzL, qzC, xzk, xzA, qzS, qzB, cvs, cv, qzG, qzH, toA, ofA, FR.pop, abin, intBin, VN.at, VH.push, qzq, VV.cells, ntV, qzQ, qzM, qzP, ↓reduceIte, Option.getD_some, List.getElem?_cons_zero, List.getElem?_cons_succ, List.length_cons, List.length_nil, List.drop_succ_cons, List.drop_zero, List.take_zero, List.append_nil, List.nil_append, Nat.reduceDiv, Nat.reduceEqDiff, reduceCtorEq, Nat.reduceLeDiff, Nat.add_zero, Nat.zero_add, and_self, true_and, Bool.false_eq_true, forall_const, false_implies, reduceCtorEq, cPaint, i2, d0]
  have y1 : ¬ h2.next = h.next := by omega
  refine xzI (st2.num hb B (by omega) (by rw [List.length_append, List.length_nil]; omega)) ?_
  intro rr h3 ⟨j3, v3, st3, fr3⟩
  have n3 := fr3.1
  have c3 := fr3.2 h.next (by omega) (by omega) c2.2
  have i3 := c3.1.trans i2
  simp only [qzj, qzn, qzi, qzf, qzd, qze, qzp, qzJ, qzN, qzz, qzc, qzk, qzb, qzg, qzh, qzy, qzm, qzl, qzs, qza, qzr, qzu, qzx, qzI, qzL, qzC, qzB, qzq, ↓reduceIte, Option.getD_some, List.length_cons, List.length_nil, List.drop_succ_cons, List.drop_zero, List.take_succ_cons, List.take_zero, Nat.reduceAdd, Nat.reduceEqDiff, reduceCtorEq, Nat.reduceLeDiff, Nat.zero_add, reduceCtorEq, cPaint, i3]
  refine xzI (st3.wr hb (point_wr x np.1.1 np.1.2 np.2.1 np.2.2) (by simp only [List.length_append, List.length_nil]; omega)) ?_
  intro rr h4 ⟨j4, v4, st4, fr4⟩
  have n4 := fr4.1
  have c4 := fr4.2 h.next (by omega) (by omega) c3.2
  have i4 := c4.1.trans i3
  by_cases k1 : k = 1
  · subst k1
    simp only [qzj, qzn, qzw, qzo, qzi, qzf, qzd, qze, qzp, qzJ, qzZ, qzN, qzz, qzc, qzk, qzE, qzb, qzg, qzh, qzR, qzy, qzm, qzl, qzs, qza, qzr, qzu, qzx, qzI, qzL, qzC, xzk, xzA, qzS, qzB, cvs, cv, qzG, qzH, toA, ofA, FR.pop, abin, intBin, VN.at, VH.push, qzq, VV.cells, ntV, ↓reduceIte, Option.getD_some, List.getElem?_cons_zero, List.getElem?_cons_succ, List.length_cons, List.length_nil, List.drop_succ_cons, List.drop_zero, List.take_succ_cons, List.take_zero, List.append_nil, List.nil_append, Nat.reduceAdd, Nat.reduceDiv, Nat.reduceEqDiff, reduceCtorEq, Nat.reduceLeDiff, Nat.add_zero, Nat.zero_add, and_self, and_true, beq_self_eq_true, forall_const, false_implies, Bool.true_eq_false, reduceCtorEq, cPaint, i4]
    refine xzI (st4.wr hb (point_wr y nq.1.1 nq.1.2 nq.2.1 nq.2.2) (by simp only [List.length_append, List.length_nil]; omega)) ?_
    intro rr h5 ⟨j5, v5, st5, fr5⟩
    simp only [qzf, qzz, Ends_n, qzr, qzQ, qzM, qzP]
    have : paintB ⟨1, A, B, x, y⟩ = [] ++ putS A ++ putS B ++ pointB x ++ pointB y := by simp [paintB]
    rw [this]
    exact st5.done rfl
  · have d1 : (k == 1) = false := by simp [k1]
    obtain ⟨q1, q2⟩ := zq (by omega)
    obtain ⟨yx, yy⟩ := y
    simp only at q1 q2 nq i4
    obtain ⟨Q, rfl⟩ : ∃ Q : Nat, yx = Q := ⟨yx.toNat, by omega⟩
    have l3 := putS_10 (n := Q) (by omega)
    simp only [qzj, qzn, qzw, qzo, qzi, qzf, qzd, qze, qzp, qzJ, qzZ, qzN, qzz, qzc, qzk, qzE, qzb, qzg, qzh, qzR, qzy, qzm, qzl, qzs, qza, qzr, qzu, qzx, qzI, qzL, qzC, xzk, xzA, qzS, qzB, cvs, cv, qzG, qzH, toA, ofA, FR.pop, abin, intBin, VN.at, VH.push, qzq, VV.cells, ntV, ↓reduceIte, Option.getD_some, List.getElem?_cons_zero, List.getElem?_cons_succ, List.length_cons, List.length_nil, List.drop_succ_cons, List.drop_zero, List.take_succ_cons, List.take_zero, List.append_nil, List.nil_append, Nat.reduceAdd, Nat.reduceDiv, Nat.reduceEqDiff, reduceCtorEq, Nat.reduceLeDiff, Nat.add_zero, Nat.zero_add, and_self, true_and, Bool.false_eq_true, forall_const, false_implies, reduceCtorEq, cPaint, i4, d1]
    refine xzI (st4.num hb Q (by omega) (by simp only [List.length_append, List.length_nil]; omega)) ?_
    intro rr h5 ⟨j5, v5, st5, fr5⟩
    simp only [qzf, qzz, Ends_n, qzr, qzQ, qzM, qzP]
    have : paintB ⟨k, A, B, x, ⟨Q, yy⟩⟩ = [] ++ putS A ++ putS B ++ pointB x ++ putS Q := by simp [paintB, k0, k1]
    rw [this]
    exact st5.done rfl

theorem cmd_wr (c : Cmd) (hc : CmdR c) : Wr f_encode_writer_cmd (fun b => [.ptr b 0, .agg (cCmd c)]) (cmdB c) 100000 := by
  intro Gl h b j v X hi ha hb hbj hX
  have hk := hc.k; have hp := hc.p; have hl := hc.l; have hr := hc.r
  have pk := hp.k
  have pl := paint_len hp
  obtain ⟨k, r, w, p, ps⟩ := c
  simp only at *
  obtain ⟨n, hn⟩ : ∃ n : Nat, k - 1 + 2 * r + 4 * p.kind = n := ⟨(k - 1 + 2 * r + 4 * p.kind).toNat, by omega⟩
  obtain ⟨W, rfl⟩ : ∃ W : Nat, w = W := ⟨w.toNat, by omega⟩
  have w1 : IntKind.i64.wrap (k - 1) = k - 1 := xzi (by omega) (by omega)
  have w2 : IntKind.i64.wrap (2 * r) = 2 * r := xzi (by omega) (by omega)
  have w3 : IntKind.i64.wrap (k - 1 + 2 * r) = k - 1 + 2 * r := xzi (by omega) (by omega)
  have w4 : IntKind.i64.wrap (4 * p.kind) = 4 * p.kind := xzi (by omega) (by omega)
  have w5 : IntKind.i64.wrap (k - 1 + 2 * r + 4 * p.kind) = (n : Int) := by rw [hn]; exact xzi (by omega) (by omega)
  have l1 := putS_10 (n := n) (by omega)
  have l2 := putS_10 (n := W) (by omega)
  have l3 := putS_10 (n := ps.length) (by omega)
  have tn : (k - 1 + 2 * r + 4 * p.kind).toNat = n := by omega
  have eB : cmdB ⟨k, r, W, p, ps⟩ = putS n ++ ((if k = 2 then putS W else []) ++ (paintB p ++ (putS ps.length ++ ps.flatMap pathB))) := by
    unfold cmdB; simp only [tn, Int.toNat_natCast]
  rw [eB] at hX ⊢
  obtain ⟨F, hF⟩ : ∃ F, putS n ++ ((if k = 2 then putS W else []) ++ (paintB p ++ (putS ps.length ++ ps.flatMap pathB))) = F := ⟨_, rfl⟩
  rw [hF] at hX ⊢
  refine xze E_encode_writer_cmd ?_
  unfold c_encode_writer_cmd r_encode_writer_cmd
  simp only [xzC]
  have st0 := St.start (X := X) hi ha hbj hb (cCmd ⟨k, r, W, p, ps⟩)
  obtain ⟨h1, eh⟩ : ∃ h1 : VH, VH.mk ((h.next, some (.cells (cCmd ⟨k, r, W, p, ps⟩) false)) :: h.l) (h.next + 1) = h1 := ⟨_, rfl⟩
  have n1 : h1.next = h.next + 1 := by rw [← eh]
  have i1 : qzv h1.l h.next = some (some (.cells (cCmd ⟨k, r, W, p, ps⟩) false)) := by rw [← eh]; simp only [qza, if_true]
  rw [eh] at st0
  have f1 : h.next ≠ j ∨ v = .nilS := AccE.ne ha (.inr (Nat.le_refl _))
  simp only [qzj, qzn, qzi, qzf, qzd, qze, qzp, qzJ, qzZ, qzN, qzc, qzk, qzE, qzb, qzg, qzh, qzR, qzy, qzm, qzl, qzs, qza, qzr, qzu, qzx, qzI, qzL, qzC, xzk, xzJ, xzA, qzS, qzB, cvs, cv, qzG, qzH, toA, ofA, FR.pop, abin, intBin, VN.at, VH.push, qzq, VV.cells, ntV, ↓reduceIte, Option.getD_some, List.getElem?_cons_zero, List.getElem?_cons_succ, List.length_cons, List.length_nil, List.drop_succ_cons, List.drop_zero, List.take_zero, List.append_nil, List.nil_append, Nat.reduceDiv, Nat.reduceEqDiff, reduceCtorEq, Nat.reduceLeDiff, Nat.add_zero, Nat.zero_add, and_self, reduceCtorEq, cCmd, w1, w2, w3, w4, w5]
  have r1 : VH.mk ((h.next + 1, some (VB.cells [.int .i64 (n : Int)] false)) :: (h.next, some (.cells (cCmd ⟨k, r, W, p, ps⟩) false)) :: h.l) (h.next + 1 + 1) = ⟨(h1.next, some (VB.cells [.int .i64 (n : Int)] false)) :: h1.l, h1.next + 1⟩ := by rw [← eh]
  show wpCall Go.VL.Er.E Gl f_encode_writer_num [.ptr b 0, .slice (h.next + 1) 0 1 1 (.exact 1)] (VH.mk ((h.next + 1, some (VB.cells [.int .i64 (n : Int)] false)) :: (h.next, some (.cells (cCmd ⟨k, r, W, p, ps⟩) false)) :: h.l) (h.next + 1 + 1)) _
  rw [r1, ← n1]
  refine xzI (st0.num hb n (by omega) (by rw [List.length_nil]; omega)) ?_
  intro rr h2 ⟨j2, v2, st2, fr2⟩
  have n2 := fr2.1
  have c2 := fr2.2 h.next (by omega) (by omega) f1
  have i2 := c2.1.trans i1
  by_cases k2 : k = 2
  · subst k2
    simp only [qzA, qzj, qzn, qzw, qzo, qzi, qzf, qzd, qze, qzp, qzJ, qzZ, qzN, qzz, qzc, qzk, qzE, qzb, qzg, qzh, qzR, qzy, qzm, qzl, qzs, qza, qzr, qzu, qzx, qzI, qzL, qzC, xzk, xzA, qzS, qzB, cvs, cv, qzG, qzH, toA, ofA, FR.pop, abin, intBin, VN.at, VH.push, qzq, VV.cells, ntV, ↓reduceIte, Option.getD_some, List.getElem?_cons_zero, List.getElem?_cons_succ, List.length_cons, List.length_nil, List.drop_succ_cons, List.drop_zero, List.take_succ_cons, List.take_zero, List.append_nil, List.nil_append, Nat.reduceAdd, Nat.reduceDiv, Nat.reduceEqDiff, reduceCtorEq, Nat.reduceLeDiff, Nat.add_zero, Nat.zero_add, and_self, and_true, beq_self_eq_true, forall_const, false_implies, Bool.true_eq_false, reduceCtorEq, cCmd, i2]
    refine xzI (st2.num hb W (by omega) (by simp only [List.length_append, List.length_nil]; omega)) ?_
    intro rr h3 ⟨j3, v3, st3, fr3⟩
    have n3 := fr3.1
    have c3 := fr3.2 h.next (by omega) (by omega) c2.2
    have i3 := c3.1.trans i2
    have nj := c3.2
    simp only [qzj, qzn, qzi, qzf, qzd, qze, qzp, qzJ, qzN, qzz, qzc, qzk, qzb, qzg, qzh, qzy, qzm, qzl, qzs, qza, qzr, qzu, qzx, qzI, qzL, qzC, qzB, qzq, ↓reduceIte, Option.getD_some, List.length_cons, List.length_nil, List.drop_succ_cons, List.drop_zero, List.take_succ_cons, List.take_zero, Nat.reduceAdd, Nat.reduceEqDiff, reduceCtorEq, Nat.reduceLeDiff, Nat.zero_add, reduceCtorEq, cCmd, i3]
    obtain ⟨D, hD⟩ : ∃ D, [] ++ putS n ++ putS W = D := ⟨_, rfl⟩
    rw [hD] at st3
    have lD : D.length ≤ 20 := by rw [← hD]; simp only [List.length_append, List.length_nil]; omega
    have eF : F = D ++ (paintB p ++ (putS ps.length ++ ps.flatMap pathB)) := by rw [← hF, ← hD]; simp
    have hXD := hX
    rw [eF] at hXD
    simp only [List.length_append] at hXD
    refine xzI (st3.wr hb (paint_wr p hp) (by omega)) ?_
    intro rr h4 ⟨j4, v4, st4, fr4⟩
    have n4 := fr4.1
    have c4 := fr4.2 h.next (by omega) (by omega) nj
    have i4 := c4.1.trans i3
    simp only [qzj, qzn, qzi, qzf, qzd, qze, qzp, qzJ, qzZ, qzN, qzz, qzc, qzk, qzE, qzb, qzg, qzh, qzR, qzy, qzm, qzl, qzs, qza, qzr, qzu, qzx, qzI, xzd, qzL, qzC, xzk, xzA, qzS, qzB, cvs, cv, VN.at, VH.push, qzq, VV.cells, ntV, ↓reduceIte, Option.getD_some, List.getElem?_cons_zero, List.getElem?_cons_succ, List.length_cons, List.length_nil, List.drop_succ_cons, List.drop_zero, List.take_zero, List.append_nil, List.nil_append, Nat.reduceDiv, Nat.reduceEqDiff, reduceCtorEq, Nat.reduceLeDiff, Nat.zero_add, and_self, reduceCtorEq, cCmd, i4]
    refine xzI (st4.num hb ps.length (by omega) (by simp only [List.length_append]; omega)) ?_
    intro rr h5 ⟨j5, v5, st5, fr5⟩
    have n5 := fr5.1
    have c5 := fr5.2 h.next (by omega) (by omega) c4.2
    have i5 := c5.1.trans i4
    simp only [qzj, qzi, qzf, qzd, qze, qzp, qzJ, qzN, qzz, qzc, qzk, qzb, qzg, qzh, qzy, qzm, qzl, qzs, qza, qzr, qzu, qzx, qzI, qzL, qzC, qzB, qzq, ↓reduceIte, Option.getD_some, List.getElem?_cons_zero, List.getElem?_cons_succ, List.drop_succ_cons, List.drop_zero, List.take_succ_cons, List.take_zero, Nat.reduceEqDiff, reduceCtorEq, Nat.zero_add, reduceCtorEq, cCmd, i5]
    refine xzI (st5.wr hb (eachPath_wr ps f_encode_writer_path pathB (by omega) (fun q hq => path_wr q (hr q hq))) (by simp only [List.length_append]; omega)) ?_
    intro rr h6 ⟨j6, v6, st6, fr6⟩
    simp only [qzf, qzz, Ends_n, qzr, qzQ, qzM, qzP]
    simp only [List.append_assoc] at st6
    rw [eF]
    exact st6.done rfl
  · have d0 : (k == 2) = false := by simp [k2]
    simp only [qzA, qzj, qzn, qzw, qzo, qzi, qzf, qzd, qze, qzp, qzJ, qzZ, qzN, qzz, qzc, qzk, qzE, qzb, qzg, qzh, qzR, qzy, qzm, qzl, qzs, qza, qzr, qzu, qzx, qzI, qzL, qzC, xzk, xzA, qzS, qzB, cvs, cv, qzG, qzH, toA, ofA, FR.pop, abin, intBin, VN.at, VH.push, qzq, VV.cells, ntV, ↓reduceIte, Option.getD_some, List.getElem?_cons_zero, List.getElem?_cons_succ, List.length_cons, List.length_nil, List.drop_succ_cons, List.drop_zero, List.take_succ_cons, List.take_zero, List.append_nil, List.nil_append, Nat.reduceAdd, Nat.reduceDiv, Nat.reduceEqDiff, reduceCtorEq, Nat.reduceLeDiff, Nat.add_zero, Nat.zero_add, and_self, true_and, Bool.false_eq_true, forall_const, false_implies, reduceCtorEq, cCmd, i2, d0]
    have st3 := st2; have i3 := i2; have nj := c2.2
    obtain ⟨D, hD⟩ : ∃ D, [] ++ putS n = D := ⟨_, rfl⟩
    rw [hD] at st3
    have lD : D.length ≤ 20 := by rw [← hD]; simp only [List.length_append, List.length_nil]; omega
    have eF : F = D ++ (paintB p ++ (putS ps.length ++ ps.flatMap pathB)) := by rw [← hF, ← hD]; simp [k2]
    have hXD := hX
    rw [eF] at hXD
    simp only [List.length_append] at hXD
    refine xzI (st3.wr hb (paint_wr p hp) (by omega)) ?_
    intro rr h4 ⟨j4, v4, st4, fr4⟩
    have n4 := fr4.1
    have c4 := fr4.2 h.next (by omega) (by omega) nj
    have i4 := c4.1.trans i3
    simp only [qzj, qzn, qzi, qzf, qzd, qze, qzp, qzJ, qzZ, qzN, qzz, qzc, qzk, qzE, qzb, qzg, qzh, qzR, qzy, qzm, qzl, qzs, qza, qzr, qzu, qzx, qzI, xzd, qzL, qzC, xzk, xzA, qzS, qzB, cvs, cv, VN.at, VH.push, qzq, VV.cells, ntV, ↓reduceIte, Option.getD_some, List.getElem?_cons_zero, List.getElem?_cons_succ, List.length_cons, List.length_nil, List.drop_succ_cons, List.drop_zero, List.take_zero, List.append_nil, List.nil_append, Nat.reduceDiv, Nat.reduceEqDiff, reduceCtorEq, Nat.reduceLeDiff, Nat.zero_add, and_self, reduceCtorEq, cCmd, i4]
    refine xzI (st4.num hb ps.length (by omega) (by simp only [List.length_append]; omega)) ?_
    intro rr h5 ⟨j5, v5, st5, fr5⟩
    have n5 := fr5.1
    have c5 := fr5.2 h.next (by omega) (by omega) c4.2
    have i5 := c5.1.trans i4
    simp only [qzj, qzi, qzf, qzd, qze, qzp, qzJ, qzN, qzz, qzc, qzk, qzb, qzg, qzh, qzy, qzm, qzl, qzs, qza, qzr, qzu, qzx, qzI, qzL, qzC, qzB, qzq, ↓reduceIte, Option.getD_some, List.getElem?_cons_zero, List.getElem?_cons_succ, List.drop_succ_cons, List.drop_zero, List.take_succ_cons, List.take_zero, Nat.reduceEqDiff, reduceCtorEq, Nat.zero_add, reduceCtorEq, cCmd, i5]
    refine xzI (st5.wr hb (eachPath_wr ps f_encode_writer_path pathB (by omega) (fun q hq => path_wr q (hr q hq))) (by simp only [List.length_append]; omega)) ?_
    intro rr h6 ⟨j6, v6, st6, fr6⟩
    simp only [qzf, qzz, Ends_n, qzr, qzQ, qzM, qzP]
    simp only [List.append_assoc] at st6
    rw [eF]
    exact st6.done rfl
/-- Any right icon's bytes. -/
theorem bytes_right {Gl : xzv} (hG : IcG Gl) (i : Icon) (hf : i.Fit) (hk : checkS i = none) (hc : ∀ c ∈ i.colors, c.In) : xzK Go.VL.Er.E Gl f_encode_Bytes [.agg (cIcon i)] (.tuple [.fsl (xzm cB (bytesS cmdB i)) (bytesS cmdB i).length 1, .nilI]) :=
  bytes_ok hG i hf hk hc cmdB (m := 100000) (by omega) (fun c hcm => cmd_wr c ((icon_r hk).r c hcm)) (by have := cmds_len (icon_r hk); omega)
end
end Go.VL.En

/- Unlike icons have unlike bytes: in plain numbers. -/
namespace Go.VL.En
open Go.FR Go.IR Go.VL Go.VL.Color Go.VL.Wind Go.VL.Ic Go.VL.Wire
noncomputable section
set_option linter.unusedSimpArgs false
set_option linter.unusedVariables false

theorem put_inj {a b : Nat} {s t : List Nat} (ha : a < 18446744073709551616) (hb : b < 18446744073709551616) (h : putS a ++ s = putS b ++ t) : a = b ∧ s = t := by
  have e1 := get_put a s 0 0 (by omega) (by simpa using ha) (by omega)
  have e2 := get_put b t 0 0 (by omega) (by simpa using hb) (by omega)
  rw [h, e2] at e1
  injection e1 with e3 e4
  obtain rfl : a = b := by simpa using e3.symm
  exact ⟨rfl, List.append_cancel_left h⟩
theorem zig_inj {a b : Int} (h : zigS a = zigS b) : a = b := by
  unfold zigS at h; split at h <;> split at h <;> omega
theorem point_inj {p q : Pt} {s t : List Nat} (hp : (-9223372036854775808 ≤ p.x ∧ p.x ≤ 9223372036854775807) ∧ -9223372036854775808 ≤ p.y ∧ p.y ≤ 9223372036854775807) (hq : (-9223372036854775808 ≤ q.x ∧ q.x ≤ 9223372036854775807) ∧ -9223372036854775808 ≤ q.y ∧ q.y ≤ 9223372036854775807) (h : pointB p ++ s = pointB q ++ t) : p = q ∧ s = t := by
  unfold pointB at h
  rw [List.append_assoc, List.append_assoc] at h
  obtain ⟨h1, h2⟩ := put_inj (zig_lt hp.1.1 hp.1.2) (zig_lt hq.1.1 hq.1.2) h
  obtain ⟨h3, h4⟩ := put_inj (zig_lt hp.2.1 hp.2.2) (zig_lt hq.2.1 hq.2.2) h2
  refine ⟨?_, h4⟩
  cases p; cases q
  have := zig_inj h1; have := zig_inj h3
  simp_all
theorem near_point {p : Pt} (h : NearB p) : (-9223372036854775808 ≤ p.x ∧ p.x ≤ 9223372036854775807) ∧ -9223372036854775808 ≤ p.y ∧ p.y ≤ 9223372036854775807 := by
  obtain ⟨⟨a, b⟩, c, d⟩ := h; exact ⟨⟨by omega, by omega⟩, by omega, by omega⟩
theorem near_sub {p q : Pt} (h : NearB p) (h' : NearB q) : (-9223372036854775808 ≤ (subPt p q).x ∧ (subPt p q).x ≤ 9223372036854775807) ∧ -9223372036854775808 ≤ (subPt p q).y ∧ (subPt p q).y ≤ 9223372036854775807 := by
  obtain ⟨⟨a, b⟩, c, d⟩ := h; obtain ⟨⟨a', b'⟩, c', d'⟩ := h'
  unfold subPt; exact ⟨⟨by simp only; omega, by simp only; omega⟩, by simp only; omega, by simp only; omega⟩
theorem sub_inj {p q a : Pt} (h : subPt p a = subPt q a) : p = q := by
  cases p; cases q
  simp only [subPt, Pt.mk.injEq] at h ⊢
  omega
theorem delta_inj : ∀ (l l' : List Pt) (a : Pt) (s t : List Nat), l.length = l'.length → NearB a → (∀ p ∈ l, NearB p) → (∀ p ∈ l', NearB p) → deltaB a l ++ s = deltaB a l' ++ t → l = l' ∧ s = t
  | [], [], _, _, _, _, _, _, _, h => ⟨rfl, h⟩
  | [], _ :: _, _, _, _, hl, _, _, _, _ => nomatch hl
  | _ :: _, [], _, _, _, hl, _, _, _, _ => nomatch hl
  | p :: l, q :: l', a, s, t, hl, ha, h1, h2, h => by
    rw [deltaB, deltaB, List.append_assoc, List.append_assoc] at h
    have np := h1 p (.head _)
    have nq := h2 q (.head _)
    obtain ⟨e1, e2⟩ := point_inj (near_sub np ha) (near_sub nq ha) h
    obtain rfl := sub_inj e1
    obtain ⟨rfl, e3⟩ := delta_inj l l' p s t (by simpa using hl) np (fun x hx => h1 x (.tail _ hx)) (fun x hx => h2 x (.tail _ hx)) e2
    exact ⟨rfl, e3⟩
theorem zero_eq {p q : Pt} (h : zeroP p) (h' : zeroP q) : p = q := by
  cases p; cases q
  simp only [zeroP] at h h'
  obtain ⟨rfl, rfl⟩ := h
  obtain ⟨rfl, rfl⟩ := h'
  rfl
theorem seg_eq {s s' : Seg} (h : SegR s) (h' : SegR s') (hk : s.kind = s'.kind) (hp : ptsOf s = ptsOf s') : s = s' := by
  obtain ⟨k, p, q, r⟩ := s
  obtain ⟨k', p', q', r'⟩ := s'
  simp only at hk
  subst hk
  obtain ⟨⟨k1, k2, _⟩, z⟩ := h
  obtain ⟨_, z'⟩ := h'
  simp only [ptsOf, segPts] at *
  have : k = 1 ∨ k = 2 ∨ k = 3 := by omega
  rcases this with rfl | rfl | rfl
  · simp at hp z z'
    rw [hp, zero_eq z.1 z'.1, zero_eq z.2 z'.2]
  · simp at hp z z'
    rw [hp.1, hp.2, zero_eq z z']
  · simp at hp
    rw [hp.1, hp.2.1, hp.2.2]
theorem segs_inj : ∀ (l l' : List Seg) (a : Pt) (s t : List Nat), l.map (·.kind) = l'.map (·.kind) → NearB a → (∀ p ∈ l, SegR p) → (∀ p ∈ l', SegR p) → segsB a l ++ s = segsB a l' ++ t → l = l' ∧ s = t
  | [], [], _, _, _, _, _, _, _, h => ⟨rfl, h⟩
  | [], _ :: _, _, _, _, hl, _, _, _, _ => nomatch hl
  | _ :: _, [], _, _, _, hl, _, _, _, _ => nomatch hl
  | p :: l, q :: l', a, s, t, hl, ha, h1, h2, h => by
    rw [segsB, segsB, List.append_assoc, List.append_assoc] at h
    have np := h1 p (.head _)
    have nq := h2 q (.head _)
    simp only [List.map_cons, List.cons.injEq] at hl
    obtain ⟨e1, e2⟩ := delta_inj (ptsOf p) (ptsOf q) a _ _ (by rw [pts_len np.1, pts_len nq.1, hl.1]) ha np.1.2.2 nq.1.2.2 h
    obtain rfl := seg_eq np nq hl.1 e1
    obtain ⟨rfl, e3⟩ := segs_inj l l' _ s t hl.2 (last_near _ _ ha np.1.2.2) (fun x hx => h1 x (.tail _ hx)) (fun x hx => h2 x (.tail _ hx)) e2
    exact ⟨rfl, e3⟩
theorem runs_inj : ∀ (R R' : List Run) (a : Pt) (l l' : List Seg) (s t : List Nat), R.length = R'.length → (∀ r ∈ R, r.2 < 1000000 ∧ 1 ≤ r.1 ∧ r.1 ≤ 3) → (∀ r ∈ R', r.2 < 1000000 ∧ 1 ≤ r.1 ∧ r.1 ≤ 3) → l.map (·.kind) = expR R → l'.map (·.kind) = expR R' → NearB a → (∀ p ∈ l, SegR p) → (∀ p ∈ l', SegR p) → runsB a R l ++ s = runsB a R' l' ++ t → l = l' ∧ s = t
  | [], [], _, l, l', _, _, _, _, _, k, k', _, _, _, h => by
    obtain rfl : l = [] := by simpa [expR] using k
    obtain rfl : l' = [] := by simpa [expR] using k'
    exact ⟨rfl, h⟩
  | [], _ :: _, _, _, _, _, _, hl, _, _, _, _, _, _, _, _ => nomatch hl
  | _ :: _, [], _, _, _, _, _, hl, _, _, _, _, _, _, _, _ => nomatch hl
  | (k, n) :: R, (k', n') :: R', a, l, l', s, t, hl, hr, hr', ek, ek', ha, h1, h2, h => by
    rw [runsB, runsB, List.append_assoc, List.append_assoc, List.append_assoc, List.append_assoc] at h
    obtain ⟨b1, b2, b3⟩ := hr (k, n) (.head _)
    obtain ⟨c1, c2, c3⟩ := hr' (k', n') (.head _)
    simp only at b1 b2 b3 c1 c2 c3 h
    obtain ⟨e1, e2⟩ := put_inj (by omega) (by omega) h
    obtain rfl : n = n' := by omega
    obtain rfl : k = k' := by omega
    simp only [expR, List.flatMap_cons] at ek ek'
    have tk : ∀ (m : List Seg) (X : List Int), m.map (·.kind) = List.replicate n k ++ X → (m.take n).map (·.kind) = List.replicate n k ∧ (m.drop n).map (·.kind) = X := fun m X e => by
      have x1 := congrArg (List.take n) e
      have x2 := congrArg (List.drop n) e
      rw [← List.map_take] at x1
      rw [← List.map_drop] at x2
      exact ⟨by rw [x1]; simp, by rw [x2]; simp⟩
    obtain ⟨t1, t2⟩ := tk l _ ek
    obtain ⟨t3, t4⟩ := tk l' _ ek'
    obtain ⟨e3, e4⟩ := segs_inj (l.take n) (l'.take n) a _ _ (by rw [t1, t3]) ha (fun x hx => h1 x (List.mem_of_mem_take hx)) (fun x hx => h2 x (List.mem_of_mem_take hx)) e2
    rw [← e3] at e4
    obtain ⟨e5, e6⟩ := runs_inj R R' _ (l.drop n) (l'.drop n) s t (by simpa using hl) (fun x hx => hr x (.tail _ hx)) (fun x hx => hr' x (.tail _ hx)) t2 t4 (segs_le _ a ha fun x hx => (h1 x (List.mem_of_mem_take hx)).1).2 (fun x hx => h1 x (List.mem_of_mem_drop hx)) (fun x hx => h2 x (List.mem_of_mem_drop hx)) e4
    refine ⟨?_, e6⟩
    rw [← List.take_append_drop n l, ← List.take_append_drop n l', e3, e5]
theorem path_inj {p p' : Path} {s t : List Nat} (h : PathR p) (h' : PathR p') (e : pathB p ++ s = pathB p' ++ t) : p = p' ∧ s = t := by
  unfold pathB at e
  simp only [List.append_assoc] at e
  have l1 := runs_len_le p.segs
  have l2 := runs_len_le p'.segs
  have l3 := h.l
  have l4 := h'.l
  obtain ⟨e1, e2⟩ := put_inj (by split <;> omega) (by split <;> omega) e
  have hc : p.closed = p'.closed := by
    cases a : p.closed <;> cases b : p'.closed <;> simp [a, b] at e1 <;> first | rfl | omega
  rw [hc] at e1
  obtain ⟨e3, e4⟩ := point_inj (near_point h.s) (near_point h'.s) e2
  rw [← e3] at e4
  obtain ⟨e5, e6⟩ := runs_inj _ _ p.start p.segs p'.segs s t (by omega) (path_runs h) (path_runs h') (exp_runs _).symm (exp_runs _).symm h.s h.r h'.r e4
  refine ⟨?_, e6⟩
  cases p; cases p'
  simp_all
theorem list_inj {α : Type} {g : α → List Nat} {P : α → Prop} (hg : ∀ x y s t, P x → P y → g x ++ s = g y ++ t → x = y ∧ s = t) : ∀ (l l' : List α) (s t : List Nat), l.length = l'.length → (∀ x ∈ l, P x) → (∀ x ∈ l', P x) → l.flatMap g ++ s = l'.flatMap g ++ t → l = l' ∧ s = t
  | [], [], _, _, _, _, _, h => ⟨rfl, h⟩
  | [], _ :: _, _, _, hl, _, _, _ => nomatch hl
  | _ :: _, [], _, _, hl, _, _, _ => nomatch hl
  | x :: l, y :: l', s, t, hl, h1, h2, h => by
    rw [List.flatMap_cons, List.flatMap_cons, List.append_assoc, List.append_assoc] at h
    obtain ⟨rfl, e⟩ := hg x y _ _ (h1 x (.head _)) (h2 y (.head _)) h
    obtain ⟨rfl, e2⟩ := list_inj hg l l' s t (by simpa using hl) (fun x hx => h1 x (.tail _ hx)) (fun x hx => h2 x (.tail _ hx)) e
    exact ⟨rfl, e2⟩
theorem paint_inj {p p' : Paint} {s t : List Nat} (hk : p.kind = p'.kind) (h : PaintR p) (h' : PaintR p') (e : paintB p ++ s = paintB p' ++ t) : p = p' ∧ s = t := by
  obtain ⟨k, a, b, x, y⟩ := p
  obtain ⟨k', a', b', x', y'⟩ := p'
  simp only at hk
  subst hk
  have := h.a; have := h'.a; have := h.b; have := h'.b; have := h.k
  have z0 := h.z0; have z0' := h'.z0; have z2 := h.z2; have z2' := h'.z2
  have q1 := near_point h.nq; have q2 := near_point h'.nq
  have p1 := near_point h.np; have p2 := near_point h'.np
  simp only at *
  unfold paintB at e
  simp only [List.append_assoc] at e
  obtain ⟨e1, e2⟩ := put_inj (by omega) (by omega) e
  obtain rfl : a = a' := by omega
  by_cases k0 : k = 0
  · rw [if_pos k0, if_pos k0] at e2
    obtain ⟨rfl, c1, c2⟩ := z0 k0
    obtain ⟨rfl, c3, c4⟩ := z0' k0
    rw [zero_eq c1 c3, zero_eq c2 c4]
    exact ⟨rfl, e2⟩
  · rw [if_neg k0, if_neg k0] at e2
    simp only [List.append_assoc] at e2
    obtain ⟨e3, e4⟩ := put_inj (by omega) (by omega) e2
    obtain rfl : b = b' := by omega
    obtain ⟨rfl, e5⟩ := point_inj p1 p2 e4
    by_cases k1 : k = 1
    · rw [if_pos k1, if_pos k1] at e5
      obtain ⟨rfl, e6⟩ := point_inj q1 q2 e5
      exact ⟨rfl, e6⟩
    · rw [if_neg k1, if_neg k1] at e5
      obtain ⟨w1, w2⟩ := z2 (by omega)
      obtain ⟨w3, w4⟩ := z2' (by omega)
      obtain ⟨e6, e7⟩ := put_inj (by omega) (by omega) e5
      obtain ⟨yx, yy⟩ := y
      obtain ⟨yx', yy'⟩ := y'
      simp only at *
      obtain rfl : yx = yx' := by omega
      subst w2 w4
      exact ⟨rfl, e7⟩
theorem cmd_inj {c c' : Cmd} {s t : List Nat} (h : CmdR c) (h' : CmdR c') (e : cmdB c ++ s = cmdB c' ++ t) : c = c' ∧ s = t := by
  obtain ⟨k, r, w, p, l⟩ := c
  obtain ⟨k', r', w', p', l'⟩ := c'
  have hk := h.k; have hk' := h'.k; have pk := h.p.k; have pk' := h'.p.k
  have hp := h.p; have hp' := h'.p; have hr := h.r; have hr' := h'.r; have hl := h.l; have hl' := h'.l
  clear h h'
  simp only at *
  unfold cmdB at e
  simp only [List.append_assoc] at e
  obtain ⟨e1, e2⟩ := put_inj (by omega) (by omega) e
  obtain rfl : k = k' := by omega
  obtain rfl : r = r' := by omega
  have pke : p.kind = p'.kind := by omega
  have : w = w' ∧ (paintB p ++ (putS l.length ++ (l.flatMap pathB ++ s))) = (paintB p' ++ (putS l'.length ++ (l'.flatMap pathB ++ t))) := by
    by_cases k2 : k = 2
    · rw [if_pos k2, if_pos k2] at e2
      obtain ⟨e3, e4⟩ := put_inj (by omega) (by omega) e2
      exact ⟨by omega, e4⟩
    · rw [if_neg k2, if_neg k2] at e2
      exact ⟨by omega, e2⟩
  obtain ⟨rfl, e3⟩ := this
  obtain ⟨rfl, e4⟩ := paint_inj pke hp hp' e3
  obtain ⟨e5, e6⟩ := put_inj (by omega) (by omega) e4
  obtain ⟨rfl, e7⟩ := list_inj (P := PathR) (fun _ _ _ _ => path_inj) l l' s t e5 hr hr' e6
  exact ⟨rfl, e7⟩
theorem color_inj {c c' : Cl} {s t : List Nat} (e : colorB c ++ s = colorB c' ++ t) : c = c' ∧ s = t := by
  cases c; cases c'
  simp only [colorB, List.cons_append, List.nil_append, List.cons.injEq] at e
  obtain ⟨rfl, rfl, rfl, rfl, e⟩ := e
  exact ⟨rfl, e⟩
theorem icon_inj {i i' : Icon} {s t : List Nat} (h : IconR i) (h' : IconR i') (e : bytesS cmdB i ++ s = bytesS cmdB i' ++ t) : i = i' ∧ s = t := by
  obtain ⟨w, hh, sc, cs, cm⟩ := i
  obtain ⟨w', hh', sc', cs', cm'⟩ := i'
  have := h.w; have := h.h; have := h.s; have := h.cs; have := h.cl
  have := h'.w; have := h'.h; have := h'.s; have := h'.cs; have := h'.cl
  have hr := h.r; have hr' := h'.r
  clear h h'
  simp only at *
  unfold bytesS at e
  simp only [List.append_assoc, numsB, List.flatMap_cons, List.flatMap_nil, List.nil_append, List.cons_append, List.cons.injEq, true_and] at e
  obtain ⟨e1, e2⟩ := put_inj (by omega) (by omega) e
  obtain ⟨e3, e4⟩ := put_inj (by omega) (by omega) e2
  obtain ⟨e5, e6⟩ := put_inj (by omega) (by omega) e4
  obtain ⟨e7, e8⟩ := put_inj (by omega) (by omega) e6
  obtain ⟨rfl, e9⟩ := list_inj (P := fun _ => True) (fun _ _ _ _ _ _ => color_inj) cs cs' _ _ e7 (fun _ _ => trivial) (fun _ _ => trivial) e8
  obtain ⟨e10, e11⟩ := put_inj (by omega) (by omega) e9
  obtain ⟨rfl, e12⟩ := list_inj (P := CmdR) (fun _ _ _ _ => cmd_inj) cm cm' s t e10 hr hr' e11
  obtain rfl : w = w' := by omega
  obtain rfl : hh = hh' := by omega
  obtain rfl : sc = sc' := by omega
  exact ⟨rfl, e12⟩
end
end Go.VL.En

/- The statements' own makers: numbers one by one; points, edges, rings out of them. -/
namespace Go.VL.Wind
open Go.FR Go.IR Go.VL
noncomputable section
set_option linter.unusedSimpArgs false
set_option linter.unusedVariables false
set_option maxRecDepth 100000
set_option maxHeartbeats 1000000

abbrev cSeq (l : List Int) (at_ : Nat) : List VV := [.fsl (l.map (VV.int .i64)) l.length 1, .int .i64 at_]
abbrev bSeq (l : List Int) (at_ : Nat) : VB := .cells (cSeq l at_) false

/-- A number from 0 to below a bound, of any. -/
def numbS (n below : Int) : Int := if n.tmod below < 0 then n.tmod below + below else n.tmod below
theorem numb_in (n below : Int) (h : 0 < below) : 0 ≤ numbS n below ∧ numbS n below < below := by
  unfold numbS
  have h1 := Int.lt_tmod_of_pos n h
  have h2 := Int.tmod_lt_of_pos n h
  split <;> omega

theorem numb_ok (Gl : xzv) (n below : Int) (h : 0 < below) (hb : below < 9223372036854775807) : xzK E Gl f_glyphicworld_Number [.int .i64 n, .int .i64 below] (.int .i64 (numbS n below)) := by
  refine xzx (xze E_glyphicworld_Number ?_)
  unfold c_glyphicworld_Number r_glyphicworld_Number numbS
  simp only [xzC]
  have h0 : ¬ below = 0 := by omega
  have h1 := Int.lt_tmod_of_pos n h
  have h2 := Int.tmod_lt_of_pos n h
  by_cases c : n.tmod below < 0
  · have w : IntKind.i64.wrap (n.tmod below + below) = n.tmod below + below := xzi (by omega) (by omega)
    simp only [qzA, qzj, qzn, qzF, qzw, qzo, qzi, qzf, qzd, qze, qzp, qzK, qzc, qzb, qzg, qzh, qzm, qzl, qzs, qza, qzr, qzu, qzx, cv, qzG, qzH, toA, ofA, FR.pop, abin, intBin, qzQ, qzM, qzV, qzP, ↓reduceIte, Nat.reduceEqDiff, reduceCtorEq, Nat.zero_add, and_true, decide_true, forall_const, false_implies, Bool.true_eq_false, reduceCtorEq, h0, c, w]
    exact qzt rfl
  · simp only [qzA, qzj, qzn, qzF, qzw, qzo, qzi, qzf, qzd, qze, qzp, qzK, qzc, qzb, qzg, qzh, qzm, qzl, qzs, qza, qzr, qzu, qzx, cv, qzG, qzH, toA, ofA, FR.pop, abin, intBin, qzQ, qzM, qzV, qzP, ↓reduceIte, Nat.reduceEqDiff, reduceCtorEq, Nat.zero_add, true_and, Bool.false_eq_true, decide_false, forall_const, false_implies, reduceCtorEq, h0, c]
    exact qzt rfl

def pickS (l : List Int) (at_ : Nat) : Int := if at_ < l.length then l.getD at_ 0 else 0
def nextS (l : List Int) (at_ : Nat) (below : Int) : Int := numbS (pickS l at_) below
theorem next_in (l : List Int) (at_ : Nat) (below : Int) (h : 0 < below) : 0 ≤ nextS l at_ below ∧ nextS l at_ below < below := numb_in _ _ h

theorem next_ok (Gl : xzv) (l : List Int) (at_ : Nat) (below : Int) (i : Nat) (hl : l.length < 4611686018427387904) (ha : at_ < 4611686018427387904) (h : 0 < below) (hb : below < 9223372036854775807) :
    StOk E Gl f_glyphicmake_Seq_Next [.ptr i 0, .int .i64 below] [(i, bSeq l at_)] (.int .i64 (nextS l at_ below)) [(i, bSeq l (at_ + 1))] := by
  refine st1_intro fun nx hn => xze E_glyphicmake_Seq_Next ?_
  unfold c_glyphicmake_Seq_Next r_glyphicmake_Seq_Next
  simp only [xzC]
  have w : IntKind.i64.wrap ((at_ : Int) + 1) = ((at_ + 1 : Nat) : Int) := by rw [xzi (by omega) (by omega)]; rfl
  by_cases c : at_ < l.length
  · have c1 : (at_ : Int) < (l.length : Int) := by omega
    have hp : (l.map (VV.int .i64))[at_]? = some (.int .i64 (pickS l at_)) := by
      rw [List.getElem?_map, List.getElem?_eq_getElem c]
      simp [pickS, c, List.getD]
    simp only [qzA, qzj, xzD, qzn, qzw, qzo, qzi, qzf, qzd, qze, qzp, qzJ, qzN, qzz, xzE, xzj, xzc, xzw, xzN, qzc, qzk, qzb, qzU, qzg, qzh, xzs, xzt, qzW, qzy, qzm, qzl, qzs, qza, qzr, qzu, qzx, qzI, xzp, xzd, nilChkV, qzL, qzC, qzS, xza, xzn, qzB, cv, qzG, qzH, toA, ofA, FR.pop, abin, intBin, VH.set, qzq, VV.cells, ntV, qzO, countN, xzG, xzP, xzT, xzH, xzO, yza, xzZ, xzy, xzu, ↓reduceIte, Option.getD_some, Option.isSome_some, List.getElem?_cons_zero, List.getElem?_cons_succ, List.length_cons, List.length_nil, List.drop_succ_cons, List.drop_zero, List.take_succ_cons, List.take_zero, List.append_nil, List.nil_append, List.cons_append, List.contains_nil, List.head?_cons, Nat.reduceAdd, Nat.reduceEqDiff, reduceCtorEq, Nat.reduceLeDiff, Nat.add_zero, Nat.zero_add, and_self, and_true, true_and, Bool.and_self, Bool.not_false, decide_true, forall_const, false_implies, Bool.true_eq_false, reduceCtorEq, cSeq, c1, c, hp, Nat.mul_one, w]
    refine xzb (numb_ok Gl _ below h hb) rfl rfl ?_
    simp only [qzF, qzi, qzf, qzd, qze, qzp, qzz, qzK, qzc, qzb, qzg, qzh, qzm, qzl, qzs, qza, qzr, qzu, qzx, qzQ, qzM, qzV, qzP, ↓reduceIte, and_true] <;> first | rfl | exact ⟨rfl, rfl⟩ | exact qzt rfl
  · have c1 : ¬ (at_ : Int) < (l.length : Int) := by omega
    have hp : pickS l at_ = 0 := by simp [pickS, c]
    simp only [qzA, qzj, xzD, qzn, qzw, qzo, qzi, qzf, qzd, qze, qzp, qzJ, qzN, qzz, xzE, xzj, xzc, xzw, xzN, qzc, qzk, qzb, qzU, qzg, qzh, xzs, xzt, qzW, qzy, qzm, qzl, qzs, qza, qzr, qzu, qzx, qzI, xzp, xzd, nilChkV, qzL, qzC, qzS, xza, xzn, qzB, cv, qzG, qzH, toA, ofA, FR.pop, abin, intBin, VH.set, qzq, VV.cells, ntV, qzO, countN, xzG, xzP, xzT, xzH, xzO, yza, xzZ, xzy, xzu, ↓reduceIte, Option.getD_some, Option.isSome_some, List.getElem?_cons_zero, List.getElem?_cons_succ, List.length_cons, List.length_nil, List.drop_succ_cons, List.drop_zero, List.take_succ_cons, List.take_zero, List.append_nil, List.nil_append, List.cons_append, List.contains_nil, List.head?_cons, Nat.reduceAdd, Nat.reduceEqDiff, reduceCtorEq, Nat.reduceLeDiff, Nat.add_zero, Nat.zero_add, and_self, true_and, Bool.and_self, Bool.not_false, Bool.false_eq_true, decide_false, forall_const, false_implies, reduceCtorEq, cSeq, c1, w]
    refine xzb (numb_ok Gl 0 below h hb) rfl rfl ?_
    unfold nextS
    simp only [qzF, qzi, qzf, qzd, qze, qzp, qzz, qzK, qzc, qzb, qzg, qzh, qzm, qzl, qzs, qza, qzr, qzu, qzx, qzQ, qzM, qzV, qzP, ↓reduceIte, and_self, hp] <;> first | rfl | exact ⟨rfl, rfl⟩ | exact qzt rfl

def pointS (l : List Int) (at_ : Nat) (far : Int) : Pt := ⟨nextS l at_ (2 * far + 1) - far, nextS l (at_ + 1) (2 * far + 1) - far⟩
theorem point_in (l : List Int) (at_ : Nat) (far : Int) (h : 0 ≤ far) : (-far ≤ (pointS l at_ far).x ∧ (pointS l at_ far).x ≤ far) ∧ -far ≤ (pointS l at_ far).y ∧ (pointS l at_ far).y ≤ far := by
  have h1 := next_in l at_ (2 * far + 1) (by omega)
  have h2 := next_in l (at_ + 1) (2 * far + 1) (by omega)
  simp only [pointS]; omega

theorem point_ok (Gl : xzv) (l : List Int) (at_ : Nat) (far : Int) (i : Nat) (hl : l.length < 4611686018427387904) (ha : at_ + 1 < 4611686018427387904) (h : 0 ≤ far) (hb : far < 4611686018427387000) :
    StOk E Gl f_glyphicmake_Point [.ptr i 0, .int .i64 far] [(i, bSeq l at_)] (.agg (cPt (pointS l at_ far))) [(i, bSeq l (at_ + 2))] := by
  refine st1_intro fun nx hn => xze E_glyphicmake_Point ?_
  unfold c_glyphicmake_Point r_glyphicmake_Point
  simp only [xzC]
  have w1 : IntKind.i64.wrap (2 * far) = 2 * far := xzi (by omega) (by omega)
  have w2 : IntKind.i64.wrap (2 * far + 1) = 2 * far + 1 := xzi (by omega) (by omega)
  have n1 := next_in l at_ (2 * far + 1) (by omega)
  have n2 := next_in l (at_ + 1) (2 * far + 1) (by omega)
  have w3 : IntKind.i64.wrap (nextS l at_ (2 * far + 1) - far) = nextS l at_ (2 * far + 1) - far := xzi (by omega) (by omega)
  have w4 : IntKind.i64.wrap (nextS l (at_ + 1) (2 * far + 1) - far) = nextS l (at_ + 1) (2 * far + 1) - far := xzi (by omega) (by omega)
  have ne1 : ¬ nx = i := by omega
  have ne2 : ¬ i = nx := by omega
  simp only [qzj, qzn, qzi, qzf, qzd, qze, qzp, qzZ, qzN, qzc, qzE, qzb, qzg, qzh, qzR, qzy, qzm, qzl, qzs, qza, qzr, qzu, qzx, xzk, cvs, cv, qzG, qzH, toA, ofA, FR.pop, abin, intBin, VN.at, VH.push, ↓reduceIte, Nat.reduceEqDiff, reduceCtorEq, Nat.zero_add, reduceCtorEq, cPt, w1, w2]
  refine xzF (next_ok Gl l at_ (2 * far + 1) i hl (by omega) (by omega) (by omega)) (by simp only [qza, ↓reduceIte, ne1]) rfl rfl ?_
  simp only [qzj, qzn, qzi, qzf, qzd, qze, qzp, qzN, qzz, qzc, qzb, qzg, qzh, qzy, qzm, qzl, qzs, qza, qzr, qzu, qzx, cv, qzG, qzH, toA, ofA, FR.pop, abin, intBin, ↓reduceIte, Nat.reduceEqDiff, reduceCtorEq, reduceCtorEq, w1, w2, w3]
  refine xzF (next_ok Gl l (at_ + 1) (2 * far + 1) i hl (by omega) (by omega) (by omega)) (by simp only [qza, ↓reduceIte]) rfl rfl ?_
  simp only [qzF, qzi, qzf, qzd, qze, qzp, qzN, qzz, qzK, qzc, qzb, qzU, qzg, qzh, qzW, qzm, qzl, qzs, qza, qzr, qzu, qzx, qzC, xzL, xzA, qzS, xza, xzn, qzB, cvs, cv, qzG, qzH, toA, ofA, FR.pop, abin, intBin, VH.set, qzq, VV.cells, ntV, qzQ, qzM, qzV, qzP, qzO, xzy, ↓reduceIte, Option.getD_some, List.length_cons, List.length_nil, List.drop_succ_cons, List.drop_zero, List.take_succ_cons, List.take_zero, List.append_nil, List.nil_append, List.cons_append, List.head?_cons, Nat.reduceAdd, Nat.reduceEqDiff, reduceCtorEq, Nat.reduceLeDiff, Nat.zero_add, and_self, and_true, reduceCtorEq, w4, ne1, ne2] <;> first | rfl | exact ⟨rfl, rfl⟩ | exact qzt rfl

def edgesS (l : List Int) : Nat → Nat → Int → List Edge
  | 0, _, _ => []
  | n + 1, at_, far => ⟨pointS l at_ far, pointS l (at_ + 2) far⟩ :: edgesS l n (at_ + 4) far

def chainS (l : List Int) (far : Int) : Nat → Nat → Pt → List Edge
  | 0, _, _ => []
  | n + 1, at_, p => ⟨p, pointS l at_ far⟩ :: chainS l far n (at_ + 2) (pointS l at_ far)
def lastS (l : List Int) (far : Int) : Nat → Nat → Pt → Pt
  | 0, _, p => p
  | n + 1, at_, p => lastS l far n (at_ + 2) (pointS l at_ far)
def ringS (l : List Int) (n at_ : Nat) (far : Int) : List Edge :=
  chainS l far (n - 1) (at_ + 2) (pointS l at_ far) ++ [⟨lastS l far (n - 1) (at_ + 2) (pointS l at_ far), pointS l at_ far⟩]
end
end Go.VL.Wind
