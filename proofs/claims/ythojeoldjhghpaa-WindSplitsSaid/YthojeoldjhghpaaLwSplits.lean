/- 'glyphiclaw22.WindSplits' answers true, whatever it is given. -/
import Derived.Test.YthojeoldjhghpaaWiB
namespace Go.VL.Wind
open Go.FR Go.IR Go.VL
noncomputable section
set_option linter.unusedSimpArgs false
set_option linter.unusedVariables false
set_option maxRecDepth 100000
set_option maxHeartbeats 1000000

theorem mul_in {x y : Int} {A B : Nat} (h1 : -(A : Int) ≤ x ∧ x ≤ A) (h2 : -(B : Int) ≤ y ∧ y ≤ B) : -((A * B : Nat) : Int) ≤ x * y ∧ x * y ≤ (A * B : Nat) := by
  have e : (x * y).natAbs = x.natAbs * y.natAbs := Int.natAbs_mul x y
  have l : x.natAbs * y.natAbs ≤ A * B := Nat.mul_le_mul (by omega) (by omega)
  omega
theorem crossS_in {a b p : Pt} (ha : PIn a 10000) (hb : PIn b 10000) (hp : PIn p 10000) : crossS a b p = (b.x - a.x) * (p.y - a.y) - (b.y - a.y) * (p.x - a.x) := by
  unfold PIn at ha hb hp
  have m1 := mul_in (x := b.x - a.x) (y := p.y - a.y) (A := 20000) (B := 20000) (by omega) (by omega)
  have m2 := mul_in (x := b.y - a.y) (y := p.x - a.x) (A := 20000) (B := 20000) (by omega) (by omega)
  unfold crossS w64
  rw [yzA (n := b.x - a.x) (by omega) (by omega), yzA (n := p.y - a.y) (by omega) (by omega), yzA (n := b.y - a.y) (by omega) (by omega), yzA (n := p.x - a.x) (by omega) (by omega), yzA (n := (b.x - a.x) * (p.y - a.y)) (by omega) (by omega), yzA (n := (b.y - a.y) * (p.x - a.x)) (by omega) (by omega), yzA (by omega) (by omega)]

theorem sgn {n x : Int} (h : 0 ≤ n) : (0 ≤ x → 0 ≤ n * x) ∧ (x ≤ 0 → n * x ≤ 0) ∧ (0 < n → 0 < x → 0 < n * x) ∧ (0 < n → x < 0 → n * x < 0) ∧ (n = 0 → n * x = 0) := by
  refine ⟨fun hx => Int.mul_nonneg h hx, fun hx => Int.mul_nonpos_of_nonneg_of_nonpos h hx, fun h1 h2 => Int.mul_pos h1 h2, fun h1 h2 => Int.mul_neg_of_pos_of_neg h1 h2, fun e => by rw [e, Int.zero_mul]⟩

theorem splits_math (ax ay dx dy px py n m : Int) (hn : 0 ≤ n ∧ n < 20) (hm : 0 ≤ m ∧ m < 20) (ha : -1000 ≤ ax ∧ ax ≤ 1000) (ha2 : -1000 ≤ ay ∧ ay ≤ 1000) (hd : -50 ≤ dx ∧ dx ≤ 50) (hd2 : -50 ≤ dy ∧ dy ≤ 50) (hp : -1500 ≤ px ∧ px ≤ 1500) (hp2 : -1500 ≤ py ∧ py ≤ 1500) :
    oneS ⟨⟨ax, ay⟩, ⟨ax + (m + n) * dx, ay + (m + n) * dy⟩⟩ ⟨px, py⟩ = oneS ⟨⟨ax, ay⟩, ⟨ax + n * dx, ay + n * dy⟩⟩ ⟨px, py⟩ + oneS ⟨⟨ax + n * dx, ay + n * dy⟩, ⟨ax + (m + n) * dx, ay + (m + n) * dy⟩⟩ ⟨px, py⟩ := by
  have b1 := mul_in (x := n) (y := dx) (A := 20) (B := 50) (by omega) (by omega)
  have b2 := mul_in (x := n) (y := dy) (A := 20) (B := 50) (by omega) (by omega)
  have b3 := mul_in (x := m) (y := dx) (A := 20) (B := 50) (by omega) (by omega)
  have b4 := mul_in (x := m) (y := dy) (A := 20) (B := 50) (by omega) (by omega)
  have e1 : (m + n) * dx = m * dx + n * dx := Int.add_mul _ _ _
  have e2 : (m + n) * dy = m * dy + n * dy := Int.add_mul _ _ _
  rw [e1, e2]
  have z0 : ∀ u w : Int, u + w - u = w := fun u w => by omega
  obtain ⟨X, hX⟩ : ∃ X, X = dx * (py - ay) - dy * (px - ax) := ⟨_, rfl⟩
  have c1 : crossS ⟨ax, ay⟩ ⟨ax + (m * dx + n * dx), ay + (m * dy + n * dy)⟩ ⟨px, py⟩ = m * X + n * X := by
    rw [crossS_in (by simp only [PIn]; omega) (by simp only [PIn]; omega) (by simp only [PIn]; omega), hX]
    simp only [z0, Int.add_mul, Int.mul_sub, ← Int.mul_assoc]
    omega
  have c2 : crossS ⟨ax, ay⟩ ⟨ax + n * dx, ay + n * dy⟩ ⟨px, py⟩ = n * X := by
    rw [crossS_in (by simp only [PIn]; omega) (by simp only [PIn]; omega) (by simp only [PIn]; omega), hX]
    simp only [z0, Int.mul_sub, ← Int.mul_assoc]
  have c3 : crossS ⟨ax + n * dx, ay + n * dy⟩ ⟨ax + (m * dx + n * dx), ay + (m * dy + n * dy)⟩ ⟨px, py⟩ = m * X := by
    rw [crossS_in (by simp only [PIn]; omega) (by simp only [PIn]; omega) (by simp only [PIn]; omega), hX]
    simp only
    have z1 : ax + (m * dx + n * dx) - (ax + n * dx) = m * dx := by omega
    have z2 : ay + (m * dy + n * dy) - (ay + n * dy) = m * dy := by omega
    have z3 : m * dx * (n * dy) = m * dy * (n * dx) := by ac_rfl
    rw [z1, z2]
    have z4 : py - (ay + n * dy) = (py - ay) - n * dy := by omega
    have z5 : px - (ax + n * dx) = (px - ax) - n * dx := by omega
    rw [z4, z5, Int.mul_sub (m * dx), Int.mul_sub (m * dy), z3]
    simp only [Int.mul_sub, ← Int.mul_assoc]
    omega
  unfold oneS
  simp only
  rw [c1, c2, c3]
  have s1 := sgn (x := X) hn.1
  have s2 := sgn (x := X) hm.1
  have s3 := sgn (x := dy) hn.1
  have s4 := sgn (x := dy) hm.1
  generalize n * X = nX at *
  generalize m * X = mX at *
  generalize n * dy = ndy at *
  generalize m * dy = mdy at *
  clear c1 c2 c3 e1 e2 hX b1 b2 b3 b4
  rcases Int.lt_trichotomy X 0 with hx | hx | hx
  · have q1 : nX ≤ 0 ∧ mX ≤ 0 := by omega
    by_cases hy : 0 ≤ dy
    · have q2 : 0 ≤ ndy ∧ 0 ≤ mdy := by omega
      clear s1 s2 s3 s4
      rw [if_neg (by omega), if_neg (by omega), if_neg (by omega), if_neg (by omega), if_neg (by omega), if_neg (by omega)]; rfl
    · have q2 : ndy ≤ 0 ∧ mdy ≤ 0 := by omega
      rw [if_neg (c := ay ≤ py ∧ ay + (mdy + ndy) > py ∧ mX + nX > 0) (by omega), if_neg (c := ay ≤ py ∧ ay + ndy > py ∧ nX > 0) (by omega), if_neg (c := ay + ndy ≤ py ∧ ay + (mdy + ndy) > py ∧ mX > 0) (by omega)]
      split <;> split <;> split <;> omega
  · have q1 : nX = 0 ∧ mX = 0 := by omega
    clear s1 s2 s3 s4
    rw [if_neg (by omega), if_neg (by omega), if_neg (by omega), if_neg (by omega), if_neg (by omega), if_neg (by omega)]; rfl
  · have q1 : 0 ≤ nX ∧ 0 ≤ mX := by omega
    by_cases hy : dy ≤ 0
    · have q2 : ndy ≤ 0 ∧ mdy ≤ 0 := by omega
      clear s1 s2 s3 s4
      rw [if_neg (by omega), if_neg (by omega), if_neg (by omega), if_neg (by omega), if_neg (by omega), if_neg (by omega)]; rfl
    · have q2 : 0 ≤ ndy ∧ 0 ≤ mdy := by omega
      rw [if_neg (c := ay + (mdy + ndy) ≤ py ∧ ay > py ∧ mX + nX < 0) (by omega), if_neg (c := ay + ndy ≤ py ∧ ay > py ∧ nX < 0) (by omega), if_neg (c := ay + (mdy + ndy) ≤ py ∧ ay + ndy > py ∧ mX < 0) (by omega)]
      split <;> split <;> split <;> omega

theorem one_same (a p : Pt) : oneS ⟨a, a⟩ p = 0 := by
  unfold oneS
  simp only
  rw [if_neg (by omega), if_neg (by omega)]

theorem small_of {n b : Int} (hb : 0 < b) (h : b < 100000) : IntKind.i64.wrap (n.tmod b + b) = n.tmod b + b ∧ 0 ≤ (n.tmod b + b).tmod b ∧ (n.tmod b + b).tmod b < b := by
  have h1 := Int.lt_tmod_of_pos n hb
  have h2 := Int.tmod_lt_of_pos n hb
  exact ⟨yzA (by omega) (by omega), Int.tmod_nonneg _ (by omega), Int.tmod_lt_of_pos _ hb⟩

theorem windSplits (Gl : yzC) (a0 a1 : Int) (_ : (IntKind.i64.min ≤ a0 ∧ a0 ≤ IntKind.i64.max) ∧ IntKind.i64.min ≤ a1 ∧ a1 ≤ IntKind.i64.max) (d0 d1 : Int) (_ : (IntKind.i64.min ≤ d0 ∧ d0 ≤ IntKind.i64.max) ∧ IntKind.i64.min ≤ d1 ∧ d1 ≤ IntKind.i64.max) (n0 : Int) (_ : IntKind.i64.min ≤ n0) (_ : n0 ≤ IntKind.i64.max) (m0 : Int) (_ : IntKind.i64.min ≤ m0) (_ : m0 ≤ IntKind.i64.max) (p0 p1 : Int) (_ : (IntKind.i64.min ≤ p0 ∧ p0 ≤ IntKind.i64.max) ∧ IntKind.i64.min ≤ p1 ∧ p1 ≤ IntKind.i64.max) :
    CallsV E Gl f_glyphiclaw22_WindSplits [.agg [VV.int .i64 a0, VV.int .i64 a1], .agg [VV.int .i64 d0, VV.int .i64 d1], .int .i64 n0, .int .i64 m0, .agg [VV.int .i64 p0, VV.int .i64 p1]] h0 (fun v _ => v = .bool true) := by
  refine body_sound E_glyphiclaw22_WindSplits ?_
  unfold c_glyphiclaw22_WindSplits r_glyphiclaw22_WindSplits
  simp only [initV]
  have ta := Int.lt_tmod_of_pos a0 (show (0 : Int) < 1000 by omega)
  have ta' := Int.tmod_lt_of_pos a0 (show (0 : Int) < 1000 by omega)
  have tb := Int.lt_tmod_of_pos a1 (show (0 : Int) < 1000 by omega)
  have tb' := Int.tmod_lt_of_pos a1 (show (0 : Int) < 1000 by omega)
  have tc := Int.lt_tmod_of_pos d0 (show (0 : Int) < 50 by omega)
  have tc' := Int.tmod_lt_of_pos d0 (show (0 : Int) < 50 by omega)
  have td := Int.lt_tmod_of_pos d1 (show (0 : Int) < 50 by omega)
  have td' := Int.tmod_lt_of_pos d1 (show (0 : Int) < 50 by omega)
  have tp := Int.lt_tmod_of_pos p0 (show (0 : Int) < 1500 by omega)
  have tp' := Int.tmod_lt_of_pos p0 (show (0 : Int) < 1500 by omega)
  have tq := Int.lt_tmod_of_pos p1 (show (0 : Int) < 1500 by omega)
  have tq' := Int.tmod_lt_of_pos p1 (show (0 : Int) < 1500 by omega)
  obtain ⟨wn, tn, tn'⟩ := small_of (n := n0) (b := 20) (by omega) (by omega)
  obtain ⟨wm, tm, tm'⟩ := small_of (n := m0) (b := 20) (by omega) (by omega)
  obtain ⟨ax, hax⟩ : ∃ x, a0.tmod 1000 = x := ⟨_, rfl⟩
  obtain ⟨ay, hay⟩ : ∃ x, a1.tmod 1000 = x := ⟨_, rfl⟩
  obtain ⟨dx, hdx⟩ : ∃ x, d0.tmod 50 = x := ⟨_, rfl⟩
  obtain ⟨dy, hdy⟩ : ∃ x, d1.tmod 50 = x := ⟨_, rfl⟩
  obtain ⟨px, hpx⟩ : ∃ x, p0.tmod 1500 = x := ⟨_, rfl⟩
  obtain ⟨py, hpy⟩ : ∃ x, p1.tmod 1500 = x := ⟨_, rfl⟩
  obtain ⟨n, hn⟩ : ∃ x, (n0.tmod 20 + 20).tmod 20 = x := ⟨_, rfl⟩
  obtain ⟨m, hm⟩ : ∃ x, (m0.tmod 20 + 20).tmod 20 = x := ⟨_, rfl⟩
  rw [hax] at ta ta'; rw [hay] at tb tb'; rw [hdx] at tc tc'; rw [hdy] at td td'; rw [hpx] at tp tp'; rw [hpy] at tq tq'; rw [hn] at tn tn'; rw [hm] at tm tm'
  have hm1 := splits_math ax ay dx dy px py n m (by omega) (by omega) (by omega) (by omega) (by omega) (by omega) (by omega) (by omega)
  have b1 := mul_in (x := n) (y := dx) (A := 20) (B := 50) (by omega) (by omega)
  have b2 := mul_in (x := n) (y := dy) (A := 20) (B := 50) (by omega) (by omega)
  have b3 := mul_in (x := m + n) (y := dx) (A := 40) (B := 50) (by omega) (by omega)
  have b4 := mul_in (x := m + n) (y := dy) (A := 40) (B := 50) (by omega) (by omega)
  have w0 : IntKind.i64.wrap (m + n) = m + n := yzA (by omega) (by omega)
  have w1 : IntKind.i64.wrap (n * dx) = n * dx := yzA (by omega) (by omega)
  have w2 : IntKind.i64.wrap (n * dy) = n * dy := yzA (by omega) (by omega)
  have w3 : IntKind.i64.wrap ((m + n) * dx) = (m + n) * dx := yzA (by omega) (by omega)
  have w4 : IntKind.i64.wrap ((m + n) * dy) = (m + n) * dy := yzA (by omega) (by omega)
  have w5 : IntKind.i64.wrap (ax + n * dx) = ax + n * dx := yzA (by omega) (by omega)
  have w6 : IntKind.i64.wrap (ay + n * dy) = ay + n * dy := yzA (by omega) (by omega)
  have w7 : IntKind.i64.wrap (ax + (m + n) * dx) = ax + (m + n) * dx := yzA (by omega) (by omega)
  have w8 : IntKind.i64.wrap (ay + (m + n) * dy) = ay + (m + n) * dy := yzA (by omega) (by omega)
  generalize hb : (⟨ax + n * dx, ay + n * dy⟩ : Pt) = B at hm1
  generalize hc : (⟨ax + (m + n) * dx, ay + (m + n) * dy⟩ : Pt) = C at hm1
  have hbx : ax + n * dx = B.x := by rw [← hb]
  have hby : ay + n * dy = B.y := by rw [← hb]
  have hcx : ax + (m + n) * dx = C.x := by rw [← hc]
  have hcy : ay + (m + n) * dy = C.y := by rw [← hc]
  rw [hbx] at w5; rw [hby] at w6; rw [hcx] at w7; rw [hcy] at w8
  have o1 := oneS_in ⟨⟨ax, ay⟩, C⟩ ⟨px, py⟩
  simp only [qzP, xzi, qzC, xzh, qzy, qzD, xzA, qzT, qzn, qzc, qzl, xza, xze, qzX, xzy, xzs, xzk, qzR, qzE, qzO, qzL, qzx, qzt, qze, xzG, xzO, xzP, xzJ, xzc, qzH, qzr, qzg, qzb, xzu, qzY, xzf, xzC, xzt, xzb, xzo, qzm, qzp, qzf, qzo, qzj, qzZ, xzq, xzm, qzK, qzI, qzU, qzh, qzs, qza, qzu, qzk, qzi, xzQ, xzN, yza, qzd, yzj, xzX, yzp, xzR, xzB, qzG, qzF, xzx, qzQ, yzi, xzY, xzF, xzg, qzM, qzB, slV, xzr, yzb, yzh, xzM, yze, yzw, xzH, yzr, yzs, yzv, yzk, xzW, yzo, yzd, qzW, eqBool, eqInt, eqStr, yzl, yzf, xzv, xzL, qzJ, qzv, xzj, xzT, qzV, xzV, xzS, yzg, yzu, qzw, xzK, cvs, cv, xzZ, yzc, toA, ofA, FR.pop, abin, aun, intBin, shiftBin, strBin, bnds, natOf, max2A, min2A, foldA, VN.at, VH.push, VH.set, VH.kill, VH.fix, VB.fix, qzz, h0, VV.cells, ntV, yzx, xzE, yzt, yzq, closedB, qzA, xzz, xzw, xzp, countN, qzS, yzn, fzB, fzL, xzd, xzI, qzN, xzl, yzm, yzy, xzU, xzn, qzq, xzD, capMost, capDrop, ↓reduceIte, Option.getD_some, Option.getD_none, Option.isSome_some, Option.map_some, Option.map_none, List.getElem?_cons_zero, List.getElem?_cons_succ, List.length_cons, List.length_nil, List.drop_succ_cons, List.drop_zero, List.take_succ_cons, List.take_zero, List.append_nil, List.nil_append, List.cons_append, List.contains_cons, List.contains_nil, List.head?_cons, Nat.reduceAdd, Nat.reduceMul, Nat.reduceSub, Nat.reduceDiv, Nat.reduceLT, Nat.reduceEqDiff, reduceCtorEq, Nat.reduceLeDiff, Nat.reduceBEq, Int.reduceEq, Int.reduceLT, Int.reduceLE, Int.reduceBEq, Int.reduceGT, Nat.add_zero, Nat.zero_add, and_self, and_true, true_and, and_false, false_and, not_true_eq_false, not_false_eq_true, Bool.and_self, Bool.and_true, Bool.true_and, Bool.and_false, Bool.or_false, Bool.true_or, Bool.or_true, Bool.false_or, Bool.not_false, Bool.not_true, Bool.false_eq_true, beq_self_eq_true, bne_self_eq_false, beq_true, beq_false, decide_true, decide_false, if_true, if_false, forall_const, false_implies, true_implies, Bool.true_eq_false, reduceCtorEq, cEdge, cPt]
  refine call_plain (first_ok Gl) rfl rfl ?_
  simp only [qzP, xzi, qzC, xzh, qzy, qzD, xzA, qzT, qzn, qzc, qzl, xza, xze, qzX, xzy, xzs, xzk, qzR, qzE, qzO, qzL, qzx, qzt, qze, xzG, xzO, xzP, xzJ, xzc, qzH, qzr, qzg, qzb, xzu, qzY, xzf, xzC, xzt, xzb, xzo, qzm, qzp, qzf, qzo, qzj, qzZ, xzq, xzm, qzK, qzI, qzU, qzh, qzs, qza, qzu, qzk, qzi, xzQ, xzN, yza, qzd, yzj, xzX, yzp, xzR, xzB, qzG, qzF, xzx, qzQ, yzi, xzY, xzF, xzg, qzM, qzB, slV, xzr, yzb, yzh, xzM, yze, yzw, xzH, yzr, yzs, yzv, yzk, xzW, yzo, yzd, qzW, eqBool, eqInt, eqStr, yzl, yzf, xzv, xzL, qzJ, qzv, xzj, xzT, qzV, xzV, xzS, yzg, yzu, qzw, xzK, cvs, cv, xzZ, yzc, toA, ofA, FR.pop, abin, aun, intBin, shiftBin, strBin, bnds, natOf, max2A, min2A, foldA, VN.at, VH.push, VH.set, VH.kill, VH.fix, VB.fix, qzz, h0, VV.cells, ntV, yzx, xzE, yzt, yzq, closedB, qzA, xzz, xzw, xzp, countN, qzS, yzn, fzB, fzL, xzd, xzI, qzN, xzl, yzm, yzy, xzU, xzn, qzq, xzD, capMost, capDrop, ↓reduceIte, Option.getD_some, Option.getD_none, Option.isSome_some, Option.map_some, Option.map_none, List.getElem?_cons_zero, List.getElem?_cons_succ, List.length_cons, List.length_nil, List.drop_succ_cons, List.drop_zero, List.take_succ_cons, List.take_zero, List.append_nil, List.nil_append, List.cons_append, List.contains_cons, List.contains_nil, List.head?_cons, Nat.reduceAdd, Nat.reduceMul, Nat.reduceSub, Nat.reduceDiv, Nat.reduceLT, Nat.reduceEqDiff, reduceCtorEq, Nat.reduceLeDiff, Nat.reduceBEq, Int.reduceEq, Int.reduceLT, Int.reduceLE, Int.reduceBEq, Int.reduceGT, Nat.add_zero, Nat.zero_add, and_self, and_true, true_and, and_false, false_and, not_true_eq_false, not_false_eq_true, Bool.and_self, Bool.and_true, Bool.true_and, Bool.and_false, Bool.or_false, Bool.true_or, Bool.or_true, Bool.false_or, Bool.not_false, Bool.not_true, Bool.false_eq_true, beq_self_eq_true, bne_self_eq_false, beq_true, beq_false, decide_true, decide_false, if_true, if_false, forall_const, false_implies, true_implies, Bool.true_eq_false, reduceCtorEq, cEdge, cPt, wn, wm, hax, hay, hdx, hdy, hpx, hpy, hn, hm, w0, w1, w2, w3, w4, w5, w6, w7, w8, hbx, hby, hcx, hcy]
  refine call_plain (one_ok Gl ⟨⟨ax, ay⟩, C⟩ ⟨px, py⟩) rfl rfl ?_
  simp only [qzP, xzi, qzC, xzh, qzy, qzD, xzA, qzT, qzn, qzc, qzl, xza, xze, qzX, xzy, xzs, xzk, qzR, qzE, qzO, qzL, qzx, qzt, qze, xzG, xzO, xzP, xzJ, xzc, qzH, qzr, qzg, qzb, xzu, qzY, xzf, xzC, xzt, xzb, xzo, qzm, qzp, qzf, qzo, qzj, qzZ, xzq, xzm, qzK, qzI, qzU, qzh, qzs, qza, qzu, qzk, qzi, xzQ, xzN, yza, qzd, yzj, xzX, yzp, xzR, xzB, qzG, qzF, xzx, qzQ, yzi, xzY, xzF, xzg, qzM, qzB, slV, xzr, yzb, yzh, xzM, yze, yzw, xzH, yzr, yzs, yzv, yzk, xzW, yzo, yzd, qzW, eqBool, eqInt, eqStr, yzl, yzf, xzv, xzL, qzJ, qzv, xzj, xzT, qzV, xzV, xzS, yzg, yzu, qzw, xzK, cvs, cv, xzZ, yzc, toA, ofA, FR.pop, abin, aun, intBin, shiftBin, strBin, bnds, natOf, max2A, min2A, foldA, VN.at, VH.push, VH.set, VH.kill, VH.fix, VB.fix, qzz, h0, VV.cells, ntV, yzx, xzE, yzt, yzq, closedB, qzA, xzz, xzw, xzp, countN, qzS, yzn, fzB, fzL, xzd, xzI, qzN, xzl, yzm, yzy, xzU, xzn, qzq, xzD, capMost, capDrop, ↓reduceIte, Option.getD_some, Option.getD_none, Option.isSome_some, Option.map_some, Option.map_none, List.getElem?_cons_zero, List.getElem?_cons_succ, List.length_cons, List.length_nil, List.drop_succ_cons, List.drop_zero, List.take_succ_cons, List.take_zero, List.append_nil, List.nil_append, List.cons_append, List.contains_cons, List.contains_nil, List.head?_cons, Nat.reduceAdd, Nat.reduceMul, Nat.reduceSub, Nat.reduceDiv, Nat.reduceLT, Nat.reduceEqDiff, reduceCtorEq, Nat.reduceLeDiff, Nat.reduceBEq, Int.reduceEq, Int.reduceLT, Int.reduceLE, Int.reduceBEq, Int.reduceGT, Nat.add_zero, Nat.zero_add, and_self, and_true, true_and, and_false, false_and, not_true_eq_false, not_false_eq_true, Bool.and_self, Bool.and_true, Bool.true_and, Bool.and_false, Bool.or_false, Bool.true_or, Bool.or_true, Bool.false_or, Bool.not_false, Bool.not_true, Bool.false_eq_true, beq_self_eq_true, bne_self_eq_false, beq_true, beq_false, decide_true, decide_false, if_true, if_false, forall_const, false_implies, true_implies, Bool.true_eq_false, reduceCtorEq, cEdge, cPt]
  refine call_plain (number_ok Gl [⟨⟨ax, ay⟩, B⟩, ⟨B, C⟩] ⟨px, py⟩ (by simp)) rfl rfl ?_
  have e1 : numS [⟨⟨ax, ay⟩, B⟩, ⟨B, C⟩] ⟨px, py⟩ 0 = oneS ⟨⟨ax, ay⟩, C⟩ ⟨px, py⟩ := by
    rw [numS_sum _ _ 0 (by omega) (by omega) (by simp), hm1]; simp only [sumS]; omega
  rw [e1]
  simp only [qzP, xzi, qzC, xzh, qzy, qzD, xzA, qzT, qzn, qzc, qzl, xza, xze, qzX, xzy, xzs, xzk, qzR, qzE, qzO, qzL, qzx, qzt, qze, xzG, xzO, xzP, xzJ, xzc, qzH, qzr, qzg, qzb, xzu, qzY, xzf, xzC, xzt, xzb, xzo, qzm, qzp, qzf, qzo, qzj, qzZ, xzq, xzm, qzK, qzI, qzU, qzh, qzs, qza, qzu, qzk, qzi, xzQ, xzN, yza, qzd, yzj, xzX, yzp, xzR, xzB, qzG, qzF, xzx, qzQ, yzi, xzY, xzF, xzg, qzM, qzB, slV, xzr, yzb, yzh, xzM, yze, yzw, xzH, yzr, yzs, yzv, yzk, xzW, yzo, yzd, qzW, eqBool, eqInt, eqStr, yzl, yzf, xzv, xzL, qzJ, qzv, xzj, xzT, qzV, xzV, xzS, yzg, yzu, qzw, xzK, cvs, cv, xzZ, yzc, toA, ofA, FR.pop, abin, aun, intBin, shiftBin, strBin, bnds, natOf, max2A, min2A, foldA, VN.at, VH.push, VH.set, VH.kill, VH.fix, VB.fix, qzz, h0, VV.cells, ntV, yzx, xzE, yzt, yzq, closedB, qzA, xzz, xzw, xzp, countN, qzS, yzn, fzB, fzL, xzd, xzI, qzN, xzl, yzm, yzy, xzU, xzn, qzq, xzD, capMost, capDrop, ↓reduceIte, Option.getD_some, Option.getD_none, Option.isSome_some, Option.map_some, Option.map_none, List.getElem?_cons_zero, List.getElem?_cons_succ, List.length_cons, List.length_nil, List.drop_succ_cons, List.drop_zero, List.take_succ_cons, List.take_zero, List.append_nil, List.nil_append, List.cons_append, List.contains_cons, List.contains_nil, List.head?_cons, Nat.reduceAdd, Nat.reduceMul, Nat.reduceSub, Nat.reduceDiv, Nat.reduceLT, Nat.reduceEqDiff, reduceCtorEq, Nat.reduceLeDiff, Nat.reduceBEq, Int.reduceEq, Int.reduceLT, Int.reduceLE, Int.reduceBEq, Int.reduceGT, Nat.add_zero, Nat.zero_add, and_self, and_true, true_and, and_false, false_and, not_true_eq_false, not_false_eq_true, Bool.and_self, Bool.and_true, Bool.true_and, Bool.and_false, Bool.or_false, Bool.true_or, Bool.or_true, Bool.false_or, Bool.not_false, Bool.not_true, Bool.false_eq_true, beq_self_eq_true, bne_self_eq_false, beq_true, beq_false, decide_true, decide_false, if_true, if_false, forall_const, false_implies, true_implies, Bool.true_eq_false, reduceCtorEq, cEdge, cPt]
  refine call_plain (one_ok Gl ⟨⟨ax, ay⟩, ⟨ax, ay⟩⟩ ⟨px, py⟩) rfl rfl ?_
  rw [one_same]
  generalize oneS ⟨⟨ax, ay⟩, C⟩ ⟨px, py⟩ = o at o1
  have o2 : o * o ≤ 1 ∧ 0 ≤ o * o := by
    have : o = -1 ∨ o = 0 ∨ o = 1 := by omega
    rcases this with rfl | rfl | rfl <;> decide
  have o3 : IntKind.i64.wrap (o * o) = o * o := yzA (by omega) (by omega)
  have o4 := o2.1
  simp only [qzP, xzi, qzC, xzh, qzy, qzD, xzA, qzT, qzn, qzc, qzl, xza, xze, qzX, xzy, xzs, xzk, qzR, qzE, qzO, qzL, qzx, qzt, qze, xzG, xzO, xzP, xzJ, xzc, qzH, qzr, qzg, qzb, xzu, qzY, xzf, xzC, xzt, xzb, xzo, qzm, qzp, qzf, qzo, qzj, qzZ, xzq, xzm, qzK, qzI, qzU, qzh, qzs, qza, qzu, qzk, qzi, xzQ, xzN, yza, qzd, yzj, xzX, yzp, xzR, xzB, qzG, qzF, xzx, qzQ, yzi, xzY, xzF, xzg, qzM, qzB, slV, xzr, yzb, yzh, xzM, yze, yzw, xzH, yzr, yzs, yzv, yzk, xzW, yzo, yzd, qzW, eqBool, eqInt, eqStr, yzl, yzf, xzv, xzL, qzJ, qzv, xzj, xzT, qzV, xzV, xzS, yzg, yzu, qzw, xzK, cvs, cv, xzZ, yzc, toA, ofA, FR.pop, abin, aun, intBin, shiftBin, strBin, bnds, natOf, max2A, min2A, foldA, VN.at, VH.push, VH.set, VH.kill, VH.fix, VB.fix, qzz, h0, VV.cells, ntV, yzx, xzE, yzt, yzq, closedB, qzA, xzz, xzw, xzp, countN, qzS, yzn, fzB, fzL, xzd, xzI, qzN, xzl, yzm, yzy, xzU, xzn, qzq, xzD, capMost, capDrop, ↓reduceIte, Option.getD_some, Option.getD_none, Option.isSome_some, Option.map_some, Option.map_none, List.getElem?_cons_zero, List.getElem?_cons_succ, List.length_cons, List.length_nil, List.drop_succ_cons, List.drop_zero, List.take_succ_cons, List.take_zero, List.append_nil, List.nil_append, List.cons_append, List.contains_cons, List.contains_nil, List.head?_cons, Nat.reduceAdd, Nat.reduceMul, Nat.reduceSub, Nat.reduceDiv, Nat.reduceLT, Nat.reduceEqDiff, reduceCtorEq, Nat.reduceLeDiff, Nat.reduceBEq, Int.reduceEq, Int.reduceLT, Int.reduceLE, Int.reduceBEq, Int.reduceGT, Nat.add_zero, Nat.zero_add, and_self, and_true, true_and, and_false, false_and, not_true_eq_false, not_false_eq_true, Bool.and_self, Bool.and_true, Bool.true_and, Bool.and_false, Bool.or_false, Bool.true_or, Bool.or_true, Bool.false_or, Bool.not_false, Bool.not_true, Bool.false_eq_true, beq_self_eq_true, bne_self_eq_false, beq_true, beq_false, decide_true, decide_false, if_true, if_false, forall_const, false_implies, true_implies, Bool.true_eq_false, reduceCtorEq, cEdge, cPt, o3, o4] <;> first | rfl | exact ⟨rfl, rfl⟩ | exact yzz rfl
end
end Go.VL.Wind
