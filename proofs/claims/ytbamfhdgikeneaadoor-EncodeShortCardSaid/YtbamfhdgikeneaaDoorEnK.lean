/- Chapter 6: a paint's, a command's bytes; any right icon's. -/
import Derived.Test.YtbamfhdgikeneaaDoorEnP
import Derived.Test.YtbamfhdgikeneaaDoorEnF
namespace Go.VL.En
open Go.FR Go.IR Go.VL Go.VL.Color Go.VL.Wind Go.VL.Ic Go.VL.Wire
noncomputable section
set_option linter.unusedSimpArgs false
set_option linter.unusedVariables false
set_option maxRecDepth 100000
set_option maxHeartbeats 1000000

/-- What is left as it was. -/
def Fr (b : Nat) (h1 : VH) (j1 : Nat) (v1 : VV) (h2 : VH) (j2 : Nat) (v2 : VV) : Prop := h1.next ≤ h2.next ∧ ∀ k, k < h1.next → k ≠ b → (k ≠ j1 ∨ v1 = .nilS) → qzw h2.l k = qzw h1.l k ∧ (k ≠ j2 ∨ v2 = .nilS)
def StQ (N b j : Nat) (v : VV) (X : List Nat) (h : VH) (done : List Nat) (h1 : VH) (j1 : Nat) (v1 : VV) (h2 : VH) : Prop := ∃ j2 v2, St N b j v X h done h2 j2 v2 ∧ Fr b h1 j1 v1 h2 j2 v2
theorem St.wr {Gl : xzt} {N b j : Nat} {v : VV} {X : List Nat} {h : VH} {done : List Nat} {h1 : VH} {j1 : Nat} {v1 : VV} (st : St N b j v X h done h1 j1 v1) (hb : b < N) {f m : Nat} {args : Nat → List VV} {bs : List Nat} (w : Wr f args bs m) (hX : X.length + (done.length + bs.length) + m < 1000000000) :
    CallsV Go.VL.Er.E Gl f (args b) h1 (fun _ h2 => StQ N b j v X h (done ++ bs) h1 j1 v1 h2) := by
  have hn := st.n
  refine (w Gl h1 b j1 v1 (X ++ done) st.i st.a (by omega) st.bj (by rw [List.length_append]; omega)).mono fun _ h2 q => ?_
  obtain ⟨j2, v2, st2, kp2, bk2⟩ := st.call hb h1.next q (st.d.symm)
  exact ⟨j2, v2, st2, kp2.1, fun k k1 k2 k3 => kp2.2 k k1 k2 (by omega) k3⟩
theorem St.num {Gl : xzt} {N b j : Nat} {v : VV} {X : List Nat} {h : VH} {done : List Nat} {h1 : VH} {j1 : Nat} {v1 : VV} (st : St N b j v X h done h1 j1 v1) (hb : b < N) (n : Nat) (hn : n < 9223372036854775808) (hX : X.length + done.length + 10 < 1000000000) :
    CallsV Go.VL.Er.E Gl f_encode_writer_num [.ptr b 0, .slice h1.next 0 1 1 (.exact 1)] ⟨(h1.next, some (.cells [.int .i64 (n : Int)] false)) :: h1.l, h1.next + 1⟩ (fun _ h2 => StQ N b j v X h (done ++ putS n) h1 j1 v1 h2) := by
  have hN := st.n
  have pn := putS_10 (n := n) (by omega)
  have nb : numsB [n] = putS n := by simp [numsB]
  have fX : ∀ k, k < h1.next → qzw ((h1.next, some (VB.cells [.int .i64 (n : Int)] false)) :: h1.l) k = qzw h1.l k := fun k hk => by simp only [qza]; rw [if_neg (by omega)]
  refine (num_run [n] (by simp; omega) (by simp) b h1.next (by omega) j1 v1 (X ++ done) ⟨(h1.next, some (.cells [.int .i64 (n : Int)] false)) :: h1.l, h1.next + 1⟩ (by rw [List.length_append, nb]; omega) (by show b < h1.next + 1; omega) (by show h1.next < h1.next + 1; omega) (AccE.ne st.a (.inr (Nat.le_refl _))) (by simp only [qza, if_true]; rfl) (by rw [fX b (by omega)]; exact st.i) (Go.VL.Wire.AccE.ext st.a (by show h1.next ≤ h1.next + 1; omega) (fun _ q => fX j1 q)) st.bj).mono fun _ h2 q => ?_
  rw [nb] at q
  obtain ⟨j2, v2, st2, kp2, bk2⟩ := st.call hb h1.next (q.weak (by show h1.next ≤ h1.next + 1; omega) fX) (st.d.symm)
  exact ⟨j2, v2, st2, kp2.1, fun k k1 k2 k3 => kp2.2 k k1 k2 (by omega) k3⟩
theorem St.done {N b j : Nat} {v : VV} {X : List Nat} {h : VH} {bs : List Nat} {h1 : VH} {j1 : Nat} {v1 : VV} (st : St N b j v X h bs h1 j1 v1) (hN : h.next = N) : WrQ b j v X bs h h1 := by
  subst hN
  exact ⟨j1, v1, st.i, st.a, st.bj, st.fr, st.n, st.d⟩
theorem St.start {b j : Nat} {v : VV} {X : List Nat} {h : VH} (hi : qzw h.l b = some (some (.cells [v] false))) (ha : AccE 0 h j cB X 1 v) (hbj : b ≠ j ∨ v = .nilS) (hb : b < h.next) (cs : List VV) : St h.next b j v X h [] ⟨(h.next, some (.cells cs false)) :: h.l, h.next + 1⟩ j v := by
  have st0 : St h.next b j v X h [] h j v := ⟨hi, by rw [List.append_nil]; exact ha, hbj, fun _ _ _ _ => rfl, .inl ⟨rfl, rfl⟩, Nat.le_refl _⟩
  exact (st0.move (h2 := ⟨(h.next, some (.cells cs false)) :: h.l, h.next + 1⟩) hb h.next (Nat.le_refl _) (AccE.ne ha (.inr (Nat.le_refl _))) (by show h.next ≤ h.next + 1; omega) (fun k k1 _ => by simp only [qza]; rw [if_neg (by omega)])).1

theorem paint_wr (p : Paint) (hp : PaintR p) : Wr f_encode_writer_paint (fun b => [.ptr b 0, .agg (cPaint p)]) (paintB p) 100000 := by
  intro Gl h b j v X hi ha hb hbj hX
  have hk := hp.k; have pa := hp.a; have pb := hp.b
  have np := near_pt hp.np; have nq := near_pt hp.nq
  have lp := point_le20 hp.np; have lq := point_le20 hp.nq
  obtain ⟨k, a, b', x, y⟩ := p
  simp only at *
  obtain ⟨A, rfl⟩ : ∃ A : Nat, a = A := ⟨a.toNat, by omega⟩
  obtain ⟨B, rfl⟩ : ∃ B : Nat, b' = B := ⟨b'.toNat, by omega⟩
  have e1 : ((A : Int)).toNat = A := by omega
  have e2 : ((B : Int)).toNat = B := by omega
  have l1 := putS_10 (n := A) (by omega)
  have l2 := putS_10 (n := B) (by omega)
  have zq := hp.z2
  simp only at zq
  refine xzf E_encode_writer_paint ?_
  unfold c_encode_writer_paint r_encode_writer_paint
  simp only [xzB]
  have st0 := St.start (X := X) hi ha hbj hb (cPaint ⟨k, A, B, x, y⟩)
  obtain ⟨h1, eh⟩ : ∃ h1 : VH, VH.mk ((h.next, some (.cells (cPaint ⟨k, A, B, x, y⟩) false)) :: h.l) (h.next + 1) = h1 := ⟨_, rfl⟩
  have n1 : h1.next = h.next + 1 := by rw [← eh]
  have i1 : qzw h1.l h.next = some (some (.cells (cPaint ⟨k, A, B, x, y⟩) false)) := by rw [← eh]; simp only [qza, if_true]
  rw [eh] at st0
  have f1 : h.next ≠ j ∨ v = .nilS := AccE.ne ha (.inr (Nat.le_refl _))
  simp only [qzk, qzo, qzi, qzf, qze, qzd, qzp, qzF, qzX, qzN, qzc, qzj, qzE, qzb, qzg, qzh, qzO, qzD, qzl, qzm, qzt, qza, qzs, qzu, qzx, qzG, qzL, qzB, xzh, xzF, xzv, qzW, qzA, cvs, cv, VN.at, VH.push, qzq, VV.cells, ntV, ↓reduceIte, Option.getD_some, List.getElem?_cons_zero, List.getElem?_cons_succ, List.length_cons, List.length_nil, List.drop_succ_cons, List.drop_zero, List.take_zero, List.append_nil, List.nil_append, Nat.reduceDiv, Nat.reduceEqDiff, reduceCtorEq, Nat.reduceLeDiff, Nat.zero_add, and_self, reduceCtorEq, cPaint]
  have r1 : VH.mk ((h.next + 1, some (VB.cells [.int .i64 (A : Int)] false)) :: (h.next, some (.cells (cPaint ⟨k, A, B, x, y⟩) false)) :: h.l) (h.next + 1 + 1) = ⟨(h1.next, some (VB.cells [.int .i64 (A : Int)] false)) :: h1.l, h1.next + 1⟩ := by rw [← eh]
  show wpCall Go.VL.Er.E Gl f_encode_writer_num [.ptr b 0, .slice (h.next + 1) 0 1 1 (.exact 1)] (VH.mk ((h.next + 1, some (VB.cells [.int .i64 (A : Int)] false)) :: (h.next, some (.cells (cPaint ⟨k, A, B, x, y⟩) false)) :: h.l) (h.next + 1 + 1)) _
  rw [r1, ← n1]
  refine xzC (st0.num hb A (by omega) (by rw [List.length_nil]; omega)) ?_
  intro rr h2 ⟨j2, v2, st2, fr2⟩
  have n2 := fr2.1
  have c2 := fr2.2 h.next (by omega) (by omega) f1
  have i2 := c2.1.trans i1
  by_cases k0 : k = 0
  · subst k0
    simp only [qzz, qzk, qzo, qzH, qzv, qzn, qzi, qzR, qzf, qze, qzd, qzp, qzF, qzX, qzN, qzy, qzK, qzc, qzj, qzE, qzb, qzg, qzh, qzO, qzD, qzl, qzm, qzt, qza, qzs, qzu, qzx, qzG, qzL, qzB, xzh, xzv, qzW, qzA, cvs, cv, qzI, qzJ, toA, ofA, FR.pop, abin, intBin, VN.at, VH.push, qzq, VV.cells, ntV, qzQ, qzM, qzP, ↓reduceIte, Option.getD_some, List.getElem?_cons_zero, List.getElem?_cons_succ, List.length_cons, List.length_nil, List.drop_succ_cons, List.drop_zero, List.take_zero, List.append_nil, List.nil_append, Nat.reduceDiv, Nat.reduceEqDiff, reduceCtorEq, Nat.reduceLeDiff, Nat.add_zero, Nat.zero_add, and_self, and_true, beq_self_eq_true, forall_const, false_implies, Bool.true_eq_false, reduceCtorEq, cPaint, i2]
    have : paintB ⟨0, A, B, x, y⟩ = [] ++ putS A := by simp [paintB]
    rw [this]
    exact st2.done rfl
  have d0 : (k == 0) = false := by simp [k0]
  simp only [qzz, qzk, qzo, qzH, qzv, qzn, qzi, qzR, qzf, qze, qzd, qzp, qzF, qzX, qzN, qzy, qzK, qzc, qzj, qzE, qzb, qzg, qzh, qzO, qzD, qzl, qzm, qzt, qza, qzs, qzu, qzx, qzG, qzL, qzB, xzh, xzv, qzW, qzA, cvs, cv, qzI, qzJ, toA, ofA, FR.pop, abin, intBin, VN.at, VH.push, qzq, VV.cells, ntV, qzQ, qzM, qzP, ↓reduceIte, Option.getD_some, List.getElem?_cons_zero, List.getElem?_cons_succ, List.length_cons, List.length_nil, List.drop_succ_cons, List.drop_zero, List.take_zero, List.append_nil, List.nil_append, Nat.reduceDiv, Nat.reduceEqDiff, reduceCtorEq, Nat.reduceLeDiff, Nat.add_zero, Nat.zero_add, and_self, true_and, Bool.false_eq_true, forall_const, false_implies, reduceCtorEq, cPaint, i2, d0]
  have y1 : ¬ h2.next = h.next := by omega
  refine xzC (st2.num hb B (by omega) (by rw [List.length_append, List.length_nil]; omega)) ?_
  intro rr h3 ⟨j3, v3, st3, fr3⟩
  have n3 := fr3.1
  have c3 := fr3.2 h.next (by omega) (by omega) c2.2
  have i3 := c3.1.trans i2
  simp only [qzk, qzo, qzi, qzf, qze, qzd, qzp, qzF, qzN, qzy, qzc, qzj, qzb, qzg, qzh, qzD, qzl, qzm, qzt, qza, qzs, qzu, qzx, qzG, qzL, qzB, qzA, qzq, ↓reduceIte, Option.getD_some, List.length_cons, List.length_nil, List.drop_succ_cons, List.drop_zero, List.take_succ_cons, List.take_zero, Nat.reduceAdd, Nat.reduceEqDiff, reduceCtorEq, Nat.reduceLeDiff, Nat.zero_add, reduceCtorEq, cPaint, i3]
  refine xzC (st3.wr hb (point_wr x np.1.1 np.1.2 np.2.1 np.2.2) (by simp only [List.length_append, List.length_nil]; omega)) ?_
  intro rr h4 ⟨j4, v4, st4, fr4⟩
  have n4 := fr4.1
  have c4 := fr4.2 h.next (by omega) (by omega) c3.2
  have i4 := c4.1.trans i3
  by_cases k1 : k = 1
  · subst k1
    simp only [qzk, qzo, qzv, qzn, qzi, qzf, qze, qzd, qzp, qzF, qzX, qzN, qzy, qzc, qzj, qzE, qzb, qzg, qzh, qzO, qzD, qzl, qzm, qzt, qza, qzs, qzu, qzx, qzG, qzL, qzB, xzh, xzv, qzW, qzA, cvs, cv, qzI, qzJ, toA, ofA, FR.pop, abin, intBin, VN.at, VH.push, qzq, VV.cells, ntV, ↓reduceIte, Option.getD_some, List.getElem?_cons_zero, List.getElem?_cons_succ, List.length_cons, List.length_nil, List.drop_succ_cons, List.drop_zero, List.take_succ_cons, List.take_zero, List.append_nil, List.nil_append, Nat.reduceAdd, Nat.reduceDiv, Nat.reduceEqDiff, reduceCtorEq, Nat.reduceLeDiff, Nat.add_zero, Nat.zero_add, and_self, and_true, beq_self_eq_true, forall_const, false_implies, Bool.true_eq_false, reduceCtorEq, cPaint, i4]
    refine xzC (st4.wr hb (point_wr y nq.1.1 nq.1.2 nq.2.1 nq.2.2) (by simp only [List.length_append, List.length_nil]; omega)) ?_
    intro rr h5 ⟨j5, v5, st5, fr5⟩
    simp only [qzf, qzy, Ends_n, qzs, qzQ, qzM, qzP]
    have : paintB ⟨1, A, B, x, y⟩ = [] ++ putS A ++ putS B ++ pointB x ++ pointB y := by simp [paintB]
    rw [this]
    exact st5.done rfl
  · have d1 : (k == 1) = false := by simp [k1]
    obtain ⟨q1, q2⟩ := zq (by omega)
    obtain ⟨yx, yy⟩ := y
    simp only at q1 q2 nq i4
    obtain ⟨Q, rfl⟩ : ∃ Q : Nat, yx = Q := ⟨yx.toNat, by omega⟩
    have l3 := putS_10 (n := Q) (by omega)
    simp only [qzk, qzo, qzv, qzn, qzi, qzf, qze, qzd, qzp, qzF, qzX, qzN, qzy, qzc, qzj, qzE, qzb, qzg, qzh, qzO, qzD, qzl, qzm, qzt, qza, qzs, qzu, qzx, qzG, qzL, qzB, xzh, xzv, qzW, qzA, cvs, cv, qzI, qzJ, toA, ofA, FR.pop, abin, intBin, VN.at, VH.push, qzq, VV.cells, ntV, ↓reduceIte, Option.getD_some, List.getElem?_cons_zero, List.getElem?_cons_succ, List.length_cons, List.length_nil, List.drop_succ_cons, List.drop_zero, List.take_succ_cons, List.take_zero, List.append_nil, List.nil_append, Nat.reduceAdd, Nat.reduceDiv, Nat.reduceEqDiff, reduceCtorEq, Nat.reduceLeDiff, Nat.add_zero, Nat.zero_add, and_self, true_and, Bool.false_eq_true, forall_const, false_implies, reduceCtorEq, cPaint, i4, d1]
    refine xzC (st4.num hb Q (by omega) (by simp only [List.length_append, List.length_nil]; omega)) ?_
    intro rr h5 ⟨j5, v5, st5, fr5⟩
    simp only [qzf, qzy, Ends_n, qzs, qzQ, qzM, qzP]
    have : paintB ⟨k, A, B, x, ⟨Q, yy⟩⟩ = [] ++ putS A ++ putS B ++ pointB x ++ putS Q := by simp [paintB, k0, k1]
    rw [this]
    exact st5.done rfl

theorem cmd_wr (c : Cmd) (hc : CmdR c) : Wr f_encode_writer_cmd (fun b => [.ptr b 0, .agg (cCmd c)]) (cmdB c) 100000 := by
  intro Gl h b j v X hi ha hb hbj hX
  have hk := hc.k; have hp := hc.p; have hl := hc.l; have hr := hc.r
  have pk := hp.k
  have pl := paint_len hp
  obtain ⟨k, r, w, p, ps⟩ := c
  simp only at *
  obtain ⟨n, hn⟩ : ∃ n : Nat, k - 1 + 2 * r + 4 * p.kind = n := ⟨(k - 1 + 2 * r + 4 * p.kind).toNat, by omega⟩
  obtain ⟨W, rfl⟩ : ∃ W : Nat, w = W := ⟨w.toNat, by omega⟩
  have w1 : IntKind.i64.wrap (k - 1) = k - 1 := qzY (by omega) (by omega)
  have w2 : IntKind.i64.wrap (2 * r) = 2 * r := qzY (by omega) (by omega)
  have w3 : IntKind.i64.wrap (k - 1 + 2 * r) = k - 1 + 2 * r := qzY (by omega) (by omega)
  have w4 : IntKind.i64.wrap (4 * p.kind) = 4 * p.kind := qzY (by omega) (by omega)
  have w5 : IntKind.i64.wrap (k - 1 + 2 * r + 4 * p.kind) = (n : Int) := by rw [hn]; exact qzY (by omega) (by omega)
  have l1 := putS_10 (n := n) (by omega)
  have l2 := putS_10 (n := W) (by omega)
  have l3 := putS_10 (n := ps.length) (by omega)
  have tn : (k - 1 + 2 * r + 4 * p.kind).toNat = n := by omega
  have eB : cmdB ⟨k, r, W, p, ps⟩ = putS n ++ ((if k = 2 then putS W else []) ++ (paintB p ++ (putS ps.length ++ ps.flatMap pathB))) := by
    unfold cmdB; simp only [tn, Int.toNat_natCast]
  rw [eB] at hX ⊢
  obtain ⟨F, hF⟩ : ∃ F, putS n ++ ((if k = 2 then putS W else []) ++ (paintB p ++ (putS ps.length ++ ps.flatMap pathB))) = F := ⟨_, rfl⟩
  rw [hF] at hX ⊢
  refine xzf E_encode_writer_cmd ?_
  unfold c_encode_writer_cmd r_encode_writer_cmd
  simp only [xzB]
  have st0 := St.start (X := X) hi ha hbj hb (cCmd ⟨k, r, W, p, ps⟩)
  obtain ⟨h1, eh⟩ : ∃ h1 : VH, VH.mk ((h.next, some (.cells (cCmd ⟨k, r, W, p, ps⟩) false)) :: h.l) (h.next + 1) = h1 := ⟨_, rfl⟩
  have n1 : h1.next = h.next + 1 := by rw [← eh]
  have i1 : qzw h1.l h.next = some (some (.cells (cCmd ⟨k, r, W, p, ps⟩) false)) := by rw [← eh]; simp only [qza, if_true]
  rw [eh] at st0
  have f1 : h.next ≠ j ∨ v = .nilS := AccE.ne ha (.inr (Nat.le_refl _))
  simp only [qzk, qzo, qzi, qzf, qze, qzd, qzp, qzF, qzX, qzN, qzc, qzj, qzE, qzb, qzg, qzh, qzO, qzD, qzl, qzm, qzt, qza, qzs, qzu, qzx, qzG, qzL, qzB, xzh, xzF, xzv, qzW, qzA, cvs, cv, qzI, qzJ, toA, ofA, FR.pop, abin, intBin, VN.at, VH.push, qzq, VV.cells, ntV, ↓reduceIte, Option.getD_some, List.getElem?_cons_zero, List.getElem?_cons_succ, List.length_cons, List.length_nil, List.drop_succ_cons, List.drop_zero, List.take_zero, List.append_nil, List.nil_append, Nat.reduceDiv, Nat.reduceEqDiff, reduceCtorEq, Nat.reduceLeDiff, Nat.add_zero, Nat.zero_add, and_self, reduceCtorEq, cCmd, w1, w2, w3, w4, w5]
  have r1 : VH.mk ((h.next + 1, some (VB.cells [.int .i64 (n : Int)] false)) :: (h.next, some (.cells (cCmd ⟨k, r, W, p, ps⟩) false)) :: h.l) (h.next + 1 + 1) = ⟨(h1.next, some (VB.cells [.int .i64 (n : Int)] false)) :: h1.l, h1.next + 1⟩ := by rw [← eh]
  show wpCall Go.VL.Er.E Gl f_encode_writer_num [.ptr b 0, .slice (h.next + 1) 0 1 1 (.exact 1)] (VH.mk ((h.next + 1, some (VB.cells [.int .i64 (n : Int)] false)) :: (h.next, some (.cells (cCmd ⟨k, r, W, p, ps⟩) false)) :: h.l) (h.next + 1 + 1)) _
  rw [r1, ← n1]
  refine xzC (st0.num hb n (by omega) (by rw [List.length_nil]; omega)) ?_
  intro rr h2 ⟨j2, v2, st2, fr2⟩
  have n2 := fr2.1
  have c2 := fr2.2 h.next (by omega) (by omega) f1
  have i2 := c2.1.trans i1
  by_cases k2 : k = 2
  · subst k2
    simp only [qzz, qzk, qzo, qzv, qzn, qzi, qzf, qze, qzd, qzp, qzF, qzX, qzN, qzy, qzc, qzj, qzE, qzb, qzg, qzh, qzO, qzD, qzl, qzm, qzt, qza, qzs, qzu, qzx, qzG, qzL, qzB, xzh, xzv, qzW, qzA, cvs, cv, qzI, qzJ, toA, ofA, FR.pop, abin, intBin, VN.at, VH.push, qzq, VV.cells, ntV, ↓reduceIte, Option.getD_some, List.getElem?_cons_zero, List.getElem?_cons_succ, List.length_cons, List.length_nil, List.drop_succ_cons, List.drop_zero, List.take_succ_cons, List.take_zero, List.append_nil, List.nil_append, Nat.reduceAdd, Nat.reduceDiv, Nat.reduceEqDiff, reduceCtorEq, Nat.reduceLeDiff, Nat.add_zero, Nat.zero_add, and_self, and_true, beq_self_eq_true, forall_const, false_implies, Bool.true_eq_false, reduceCtorEq, cCmd, i2]
    refine xzC (st2.num hb W (by omega) (by simp only [List.length_append, List.length_nil]; omega)) ?_
    intro rr h3 ⟨j3, v3, st3, fr3⟩
    have n3 := fr3.1
    have c3 := fr3.2 h.next (by omega) (by omega) c2.2
    have i3 := c3.1.trans i2
    have nj := c3.2
    simp only [qzk, qzo, qzi, qzf, qze, qzd, qzp, qzF, qzN, qzy, qzc, qzj, qzb, qzg, qzh, qzD, qzl, qzm, qzt, qza, qzs, qzu, qzx, qzG, qzL, qzB, qzA, qzq, ↓reduceIte, Option.getD_some, List.length_cons, List.length_nil, List.drop_succ_cons, List.drop_zero, List.take_succ_cons, List.take_zero, Nat.reduceAdd, Nat.reduceEqDiff, reduceCtorEq, Nat.reduceLeDiff, Nat.zero_add, reduceCtorEq, cCmd, i3]
    obtain ⟨D, hD⟩ : ∃ D, [] ++ putS n ++ putS W = D := ⟨_, rfl⟩
    rw [hD] at st3
    have lD : D.length ≤ 20 := by rw [← hD]; simp only [List.length_append, List.length_nil]; omega
    have eF : F = D ++ (paintB p ++ (putS ps.length ++ ps.flatMap pathB)) := by rw [← hF, ← hD]; simp
    have hXD := hX
    rw [eF] at hXD
    simp only [List.length_append] at hXD
    refine xzC (st3.wr hb (paint_wr p hp) (by omega)) ?_
    intro rr h4 ⟨j4, v4, st4, fr4⟩
    have n4 := fr4.1
    have c4 := fr4.2 h.next (by omega) (by omega) nj
    have i4 := c4.1.trans i3
    simp only [qzk, qzo, qzi, qzf, qze, qzd, qzp, qzF, qzX, qzN, qzy, qzc, qzj, qzE, qzb, qzg, qzh, qzO, qzD, qzl, qzm, qzt, qza, qzs, qzu, qzx, qzG, xzi, qzL, qzB, xzh, xzv, qzW, qzA, cvs, cv, VN.at, VH.push, qzq, VV.cells, ntV, ↓reduceIte, Option.getD_some, List.getElem?_cons_zero, List.getElem?_cons_succ, List.length_cons, List.length_nil, List.drop_succ_cons, List.drop_zero, List.take_zero, List.append_nil, List.nil_append, Nat.reduceDiv, Nat.reduceEqDiff, reduceCtorEq, Nat.reduceLeDiff, Nat.zero_add, and_self, reduceCtorEq, cCmd, i4]
    refine xzC (st4.num hb ps.length (by omega) (by simp only [List.length_append]; omega)) ?_
    intro rr h5 ⟨j5, v5, st5, fr5⟩
    have n5 := fr5.1
    have c5 := fr5.2 h.next (by omega) (by omega) c4.2
    have i5 := c5.1.trans i4
    simp only [qzk, qzi, qzf, qze, qzd, qzp, qzF, qzN, qzy, qzc, qzj, qzb, qzg, qzh, qzD, qzl, qzm, qzt, qza, qzs, qzu, qzx, qzG, qzL, qzB, qzA, qzq, ↓reduceIte, Option.getD_some, List.getElem?_cons_zero, List.getElem?_cons_succ, List.drop_succ_cons, List.drop_zero, List.take_succ_cons, List.take_zero, Nat.reduceEqDiff, reduceCtorEq, Nat.zero_add, reduceCtorEq, cCmd, i5]
    refine xzC (st5.wr hb (eachPath_wr ps f_encode_writer_path pathB (by omega) (fun q hq => path_wr q (hr q hq))) (by simp only [List.length_append]; omega)) ?_
    intro rr h6 ⟨j6, v6, st6, fr6⟩
    simp only [qzf, qzy, Ends_n, qzs, qzQ, qzM, qzP]
    simp only [List.append_assoc] at st6
    rw [eF]
    exact st6.done rfl
  · have d0 : (k == 2) = false := by simp [k2]
    simp only [qzz, qzk, qzo, qzv, qzn, qzi, qzf, qze, qzd, qzp, qzF, qzX, qzN, qzy, qzc, qzj, qzE, qzb, qzg, qzh, qzO, qzD, qzl, qzm, qzt, qza, qzs, qzu, qzx, qzG, qzL, qzB, xzh, xzv, qzW, qzA, cvs, cv, qzI, qzJ, toA, ofA, FR.pop, abin, intBin, VN.at, VH.push, qzq, VV.cells, ntV, ↓reduceIte, Option.getD_some, List.getElem?_cons_zero, List.getElem?_cons_succ, List.length_cons, List.length_nil, List.drop_succ_cons, List.drop_zero, List.take_succ_cons, List.take_zero, List.append_nil, List.nil_append, Nat.reduceAdd, Nat.reduceDiv, Nat.reduceEqDiff, reduceCtorEq, Nat.reduceLeDiff, Nat.add_zero, Nat.zero_add, and_self, true_and, Bool.false_eq_true, forall_const, false_implies, reduceCtorEq, cCmd, i2, d0]
    have st3 := st2; have i3 := i2; have nj := c2.2
    obtain ⟨D, hD⟩ : ∃ D, [] ++ putS n = D := ⟨_, rfl⟩
    rw [hD] at st3
    have lD : D.length ≤ 20 := by rw [← hD]; simp only [List.length_append, List.length_nil]; omega
    have eF : F = D ++ (paintB p ++ (putS ps.length ++ ps.flatMap pathB)) := by rw [← hF, ← hD]; simp [k2]
    have hXD := hX
    rw [eF] at hXD
    simp only [List.length_append] at hXD
    refine xzC (st3.wr hb (paint_wr p hp) (by omega)) ?_
    intro rr h4 ⟨j4, v4, st4, fr4⟩
    have n4 := fr4.1
    have c4 := fr4.2 h.next (by omega) (by omega) nj
    have i4 := c4.1.trans i3
    simp only [qzk, qzo, qzi, qzf, qze, qzd, qzp, qzF, qzX, qzN, qzy, qzc, qzj, qzE, qzb, qzg, qzh, qzO, qzD, qzl, qzm, qzt, qza, qzs, qzu, qzx, qzG, xzi, qzL, qzB, xzh, xzv, qzW, qzA, cvs, cv, VN.at, VH.push, qzq, VV.cells, ntV, ↓reduceIte, Option.getD_some, List.getElem?_cons_zero, List.getElem?_cons_succ, List.length_cons, List.length_nil, List.drop_succ_cons, List.drop_zero, List.take_zero, List.append_nil, List.nil_append, Nat.reduceDiv, Nat.reduceEqDiff, reduceCtorEq, Nat.reduceLeDiff, Nat.zero_add, and_self, reduceCtorEq, cCmd, i4]
    refine xzC (st4.num hb ps.length (by omega) (by simp only [List.length_append]; omega)) ?_
    intro rr h5 ⟨j5, v5, st5, fr5⟩
    have n5 := fr5.1
    have c5 := fr5.2 h.next (by omega) (by omega) c4.2
    have i5 := c5.1.trans i4
    simp only [qzk, qzi, qzf, qze, qzd, qzp, qzF, qzN, qzy, qzc, qzj, qzb, qzg, qzh, qzD, qzl, qzm, qzt, qza, qzs, qzu, qzx, qzG, qzL, qzB, qzA, qzq, ↓reduceIte, Option.getD_some, List.getElem?_cons_zero, List.getElem?_cons_succ, List.drop_succ_cons, List.drop_zero, List.take_succ_cons, List.take_zero, Nat.reduceEqDiff, reduceCtorEq, Nat.zero_add, reduceCtorEq, cCmd, i5]
    refine xzC (st5.wr hb (eachPath_wr ps f_encode_writer_path pathB (by omega) (fun q hq => path_wr q (hr q hq))) (by simp only [List.length_append]; omega)) ?_
    intro rr h6 ⟨j6, v6, st6, fr6⟩
    simp only [qzf, qzy, Ends_n, qzs, qzQ, qzM, qzP]
    simp only [List.append_assoc] at st6
    rw [eF]
    exact st6.done rfl
/-- Any right icon's bytes. -/
theorem bytes_right {Gl : xzt} (hG : IcG Gl) (i : Icon) (hf : i.Fit) (hk : checkS i = none) (hc : ∀ c ∈ i.colors, c.In) : xzH Go.VL.Er.E Gl f_encode_Bytes [.agg (cIcon i)] (.tuple [.fsl (xzk cB (bytesS cmdB i)) (bytesS cmdB i).length 1, .nilI]) :=
  bytes_ok hG i hf hk hc cmdB (m := 100000) (by omega) (fun c hcm => cmd_wr c ((icon_r hk).r c hcm)) (by have := cmds_len (icon_r hk); omega)
end
end Go.VL.En
