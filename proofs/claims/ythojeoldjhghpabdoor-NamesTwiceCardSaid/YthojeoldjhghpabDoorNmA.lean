/- Chapter 12: names. -/
import Derived.Test.YthojeoldjhghpabDoorErB
import Derived.Test.YthojeoldjhghpabDoorClA
namespace Go.VL.Nm
open Go.FR Go.IR Go.VL Go.VL.Er Go.VL.Color
noncomputable section
set_option linter.unusedSimpArgs false
set_option linter.unusedVariables false
set_option maxRecDepth 100000
set_option maxHeartbeats 1000000

abbrev Bs := List UInt8
/-- Names, and what they stand for. -/
abbrev As := List (Bs × VV)
def ksL (L : As) : List VV := L.map fun p => .str p.1
def vsL (L : As) : List VV := L.map fun p => p.2
def lookL : As → Bs → Option VV
  | [], _ => none
  | p :: L, n => if n = p.1 then some p.2 else lookL L n
theorem find_L (n : Bs) : ∀ L : As, findV (.str n) (ksL L) (vsL L) = some (lookL L n)
  | [] => rfl
  | p :: L => by
    have ih := find_L n L
    simp only [ksL, vsL] at ih
    simp only [ksL, vsL, List.map_cons, findV, keyEqV, lookL]
    by_cases e : n = p.1
    · have : (n == p.1) = true := by simp [e]
      rw [this, if_pos e]
    · have : (n == p.1) = false := by simp [e]
      rw [this, if_neg e]; exact ih
theorem mput_L (n : Bs) (v : VV) : ∀ L : As, lookL L n = none → mputV (.str n) v (ksL L) (vsL L) = some (ksL (L ++ [(n, v)]), vsL (L ++ [(n, v)]))
  | [], _ => rfl
  | p :: L, h => by
    rw [lookL] at h
    by_cases e : n = p.1
    · rw [if_pos e] at h; cases h
    · rw [if_neg e] at h
      have ih := mput_L n v L h
      simp only [ksL, vsL] at ih
      have : (n == p.1) = false := by simp [e]
      simp only [ksL, vsL, List.map_cons, mputV, keyEqV, this, ih, List.cons_append]
theorem look_map {h : VH} {i : Nat} {ro : Bool} {L : As} (n : Bs) (z : AV) {zv : VV} (hz : cv z = some zv) (hi : yzz h.l i = some (some (.map (ksL L) (vsL L) ro))) :
    lookupV h true true z [.map i, .str n] = some (match lookL L n with | some v => .tuple [v, .bool true] | none => .tuple [zv, .bool false]) := by
  simp only [lookupV, isKeyV, if_true, mapOf, qzA, hi, Option.getD_some, hz, find_L]
  cases lookL L n <;> rfl
theorem look_fmap {h : VH} {L : As} (n : Bs) (z : AV) {zv : VV} (hz : cv z = some zv) :
    lookupV h true true z [.fmap (ksL L) (vsL L), .str n] = some (match lookL L n with | some v => .tuple [v, .bool true] | none => .tuple [zv, .bool false]) := by
  simp only [lookupV, isKeyV, if_true, mapOf, hz, find_L]
  cases lookL L n <;> rfl
theorem upd_map {h : VH} {i : Nat} {L : As} {n : Bs} (v : VV) (hn : lookL L n = none) (hi : yzz h.l i = some (some (.map (ksL L) (vsL L) false))) :
    mapUpdV true h [.map i, .str n, v] = some (xzk, ⟨(i, some (.map (ksL (L ++ [(n, v)])) (vsL (L ++ [(n, v)])) false)) :: h.l, h.next⟩) := by
  simp only [mapUpdV, isKeyV, if_true, qzA, hi, Option.getD_some, mput_L n v L hn]
  rfl
theorem ks_closed : ∀ L : As, qzz (ksL L) = true
  | [] => rfl
  | p :: L => by
    have := ks_closed L
    simp only [ksL, List.map_cons, qzz, closedB, Bool.true_and] at this ⊢
    exact this
theorem lookL_app (n : Bs) : ∀ (L : As) (p : Bs × VV), lookL (L ++ [p]) n = match lookL L n with | some v => some v | none => if n = p.1 then some p.2 else none
  | [], p => rfl
  | q :: L, p => by
    rw [List.cons_append, lookL, lookL]
    by_cases e : n = q.1
    · rw [if_pos e, if_pos e]
    · rw [if_neg e, if_neg e]; exact lookL_app n L p

structure Con where
  name : Bs
  n : Int
  pos : Int
structure Nam where
  name : Bs
  c : Cl
  pos : Int
structure Shp where
  name : Bs
  pos : Int
  items : VV
abbrev cCon (c : Con) : List VV := [.str c.name, .int .i64 c.n, .int .i64 c.pos]
abbrev cNam (c : Nam) : List VV := [.str c.name, .int .u8 (c.c.r : Int), .int .u8 (c.c.g : Int), .int .u8 (c.c.b : Int), .int .u8 (c.c.a : Int), .int .i64 c.pos]
abbrev cShp (c : Shp) : List VV := [.str c.name, .int .i64 c.pos, c.items]

mutual
theorem idsV_closed : ∀ v : VV, closedB v = true → xzT v = []
  | .bool _, _ => rfl
  | .int _ _, _ => rfl
  | .str _, _ => rfl
  | .nilP, _ => rfl
  | .ptr _ _, h => by simp [closedB] at h
  | .gptr _ _, _ => rfl
  | .fptr _ _, _ => rfl
  | .nilS, _ => rfl
  | .slice _ _ _ _ _, h => by simp [closedB] at h
  | .fsl _ _ _, _ => rfl
  | .nilM, _ => rfl
  | .map _, h => by simp [closedB] at h
  | .fmap _ _, _ => rfl
  | .func _ a b, h => by
    simp only [closedB, Bool.and_eq_true] at h
    simp only [xzT, idsL_closed a h.1, idsL_closed b h.2]; rfl
  | .nilF, _ => rfl
  | .iface _ v, h => by simp only [closedB] at h; simp only [xzT]; exact idsV_closed v h
  | .nilI, _ => rfl
  | .agg cs, h => by simp only [closedB] at h; simp only [xzT]; exact idsL_closed cs h
  | .tuple cs, h => by simp only [closedB] at h; simp only [xzT]; exact idsL_closed cs h
theorem idsL_closed : ∀ l : List VV, qzz l = true → yzb l = []
  | [], _ => rfl
  | v :: l, h => by
    simp only [qzz, Bool.and_eq_true] at h
    simp only [yzb, idsV_closed v h.1, idsL_closed l h.2]; rfl
end

theorem first64_hit {Gl : yzG} (hG : GlHas Gl 2) (i : Nat) (L : As) (n : Bs) (x pos : Int) {w : VV} (hn : lookL L n = some w) :
    StShut Go.VL.Er.E Gl f_names_first__int64 [.map i, .str n, .int .i64 x, .int .i64 pos] [(i, .map (ksL L) (vsL L) false)] (atV 2 pos) [(i, .map (ksL L) (vsL L) false)] := by
  refine shut1_intro fun nx hx => yzB E_names_first__int64 ?_
  unfold c_names_first__int64 r_names_first__int64
  simp only [yzJ]
  have e1 : ¬ nx = i := by omega
  have g2 : yzz Gl 4 = some [erP 2] := hG.1
  have lk := look_map (h := ⟨[(i, some (.map (ksL L) (vsL L) false))], nx⟩) (i := i) (ro := false) (L := L) n (.int .i64 0) rfl (by simp only [qza, if_true])
  rw [hn] at lk
  simp only [qzC, qzY, qzM, qzX, qzs, qzJ, xzd, qzD, qzp, qzb, qzg, qzW, xzg, xza, xzh, xzr, xzb, qzN, qzH, qzG, qzB, qzq, qzr, qzo, xzE, xzG, xzJ, xzL, xzn, qzI, qzt, qzi, qzd, xzc, xzs, xzx, xzm, xzf, xzz, xzj, qzf, qzh, qzj, qze, qzm, qzZ, qzV, xzi, qzE, qzF, qzR, qzk, qzy, qzc, qzw, qzl, qzn, xzD, xzF, xzU, qza, xzV, xzW, xzX, xzS, xze, qzL, qzT, xzC, qzS, yzn, yzu, xzQ, xzo, qzU, qzO, slV, xzA, yzr, xzY, xzI, yze, yzd, xzR, yzl, yzo, yzc, yzv, yzs, yzm, yzx, xzw, eqBool, eqInt, eqStr, yzg, yzk, xzu, xzO, qzK, qzu, xzq, yzq, xzv, yzy, xzP, yzw, yzt, qzx, xzH, cvs, cv, yza, xzZ, toA, ofA, FR.pop, abin, aun, intBin, shiftBin, strBin, bnds, natOf, max2A, min2A, foldA, VN.at, VH.push, VH.set, VH.kill, VH.fix, VB.fix, qzA, h0, VV.cells, ntV, yzf, xzK, yzh, yzi, closedB, qzz, xzt, xzy, xzk, countN, qzQ, yzp, fzB, fzL, xzp, xzM, qzP, xzl, yzb, xzT, yzj, xzB, qzv, xzN, capMost, capDrop, ↓reduceIte, Option.getD_some, Option.getD_none, Option.isSome_some, Option.map_some, Option.map_none, List.getElem?_cons_zero, List.getElem?_cons_succ, List.length_cons, List.length_nil, List.drop_succ_cons, List.drop_zero, List.take_succ_cons, List.take_zero, List.append_nil, List.nil_append, List.cons_append, List.contains_cons, List.contains_nil, List.head?_cons, Nat.reduceAdd, Nat.reduceMul, Nat.reduceSub, Nat.reduceDiv, Nat.reduceLT, Nat.reduceEqDiff, reduceCtorEq, Nat.reduceLeDiff, Nat.reduceBEq, Int.reduceEq, Int.reduceLT, Int.reduceLE, Int.reduceBEq, Int.reduceGT, Nat.add_zero, Nat.zero_add, and_self, and_true, true_and, and_false, false_and, not_true_eq_false, not_false_eq_true, Bool.and_self, Bool.and_true, Bool.true_and, Bool.and_false, Bool.or_false, Bool.true_or, Bool.or_true, Bool.false_or, Bool.not_false, Bool.not_true, Bool.false_eq_true, beq_self_eq_true, bne_self_eq_false, beq_true, beq_false, decide_true, decide_false, true_or, if_true, if_false, forall_const, false_implies, true_implies, Bool.true_eq_false, reduceCtorEq, true_or, cCl, erP, cCon, cNam, cShp, t_p_api_At, t_p_errors_errorString, lk, g_ErrTwice, g2, e1]
  refine ⟨2, atV 2 pos, ?_, subV_refl _⟩
  simp [shutD, shutS, above, qzA, qza, closedB, qzz]
theorem first64_new {Gl : yzG} (i : Nat) (L : As) (n : Bs) (x pos : Int) (hn : lookL L n = none) :
    StShut Go.VL.Er.E Gl f_names_first__int64 [.map i, .str n, .int .i64 x, .int .i64 pos] [(i, .map (ksL L) (vsL L) false)] .nilI [(i, .map (ksL (L ++ [(n, .int .i64 x)])) (vsL (L ++ [(n, .int .i64 x)])) false)] := by
  refine shut1_intro fun nx hx => yzB E_names_first__int64 ?_
  unfold c_names_first__int64 r_names_first__int64
  simp only [yzJ]
  have lk := look_map (h := ⟨[(i, some (.map (ksL L) (vsL L) false))], nx⟩) (i := i) (ro := false) (L := L) n (.int .i64 0) rfl (by simp only [qza, if_true])
  rw [hn] at lk
  have up := upd_map (h := ⟨[(i, some (.map (ksL L) (vsL L) false))], nx⟩) (i := i) (n := n) (.int .i64 x) hn (by simp only [qza, if_true])
  simp only [qzC, qzY, qzM, qzX, qzs, qzJ, xzd, qzD, qzp, qzb, qzg, qzW, xzg, xza, xzh, xzr, xzb, qzN, qzH, qzG, qzB, qzq, qzr, qzo, xzE, xzG, xzJ, xzL, xzn, qzI, qzt, qzi, qzd, xzc, xzs, xzx, xzm, xzf, xzz, xzj, qzf, qzh, qzj, qze, qzm, qzZ, qzV, xzi, qzE, qzF, qzR, qzk, qzy, qzc, qzw, qzl, qzn, xzD, xzF, xzU, qza, xzV, xzW, xzX, xzS, xze, qzL, qzT, xzC, qzS, yzn, yzu, xzQ, xzo, qzU, qzO, slV, xzA, yzr, xzY, xzI, yze, yzd, xzR, yzl, yzo, yzc, yzv, yzs, yzm, yzx, xzw, eqBool, eqInt, eqStr, yzg, yzk, xzu, xzO, qzK, qzu, xzq, yzq, xzv, yzy, xzP, yzw, yzt, qzx, xzH, cvs, cv, yza, xzZ, toA, ofA, FR.pop, abin, aun, intBin, shiftBin, strBin, bnds, natOf, max2A, min2A, foldA, VN.at, VH.push, VH.set, VH.kill, VH.fix, VB.fix, qzA, h0, VV.cells, ntV, yzf, xzK, yzh, yzi, closedB, qzz, xzt, xzy, xzk, countN, qzQ, yzp, fzB, fzL, xzp, xzM, qzP, xzl, yzb, xzT, yzj, xzB, qzv, xzN, capMost, capDrop, ↓reduceIte, Option.getD_some, Option.getD_none, Option.isSome_some, Option.map_some, Option.map_none, List.getElem?_cons_zero, List.getElem?_cons_succ, List.length_cons, List.length_nil, List.drop_succ_cons, List.drop_zero, List.take_succ_cons, List.take_zero, List.append_nil, List.nil_append, List.cons_append, List.contains_cons, List.contains_nil, List.head?_cons, Nat.reduceAdd, Nat.reduceMul, Nat.reduceSub, Nat.reduceDiv, Nat.reduceLT, Nat.reduceEqDiff, reduceCtorEq, Nat.reduceLeDiff, Nat.reduceBEq, Int.reduceEq, Int.reduceLT, Int.reduceLE, Int.reduceBEq, Int.reduceGT, Nat.add_zero, Nat.zero_add, and_self, and_true, true_and, and_false, false_and, not_true_eq_false, not_false_eq_true, Bool.and_self, Bool.and_true, Bool.true_and, Bool.and_false, Bool.or_false, Bool.true_or, Bool.or_true, Bool.false_or, Bool.not_false, Bool.not_true, Bool.false_eq_true, beq_self_eq_true, bne_self_eq_false, beq_true, beq_false, decide_true, decide_false, true_or, if_true, if_false, forall_const, false_implies, true_implies, Bool.true_eq_false, reduceCtorEq, true_or, cCl, erP, cCon, cNam, cShp, t_p_api_At, t_p_errors_errorString, lk, up]
  exact ⟨0, .nilI, rfl, subV_refl _⟩
theorem firstI_hit {Gl : yzG} (hG : GlHas Gl 2) (i : Nat) (L : As) (n : Bs) (x pos : Int) {w : VV} (hn : lookL L n = some w) :
    StShut Go.VL.Er.E Gl f_names_first__int [.map i, .str n, .int .i64 x, .int .i64 pos] [(i, .map (ksL L) (vsL L) false)] (atV 2 pos) [(i, .map (ksL L) (vsL L) false)] := by
  refine shut1_intro fun nx hx => yzB E_names_first__int ?_
  unfold c_names_first__int r_names_first__int
  simp only [yzJ]
  have e1 : ¬ nx = i := by omega
  have g2 : yzz Gl 4 = some [erP 2] := hG.1
  have lk := look_map (h := ⟨[(i, some (.map (ksL L) (vsL L) false))], nx⟩) (i := i) (ro := false) (L := L) n (.int .i64 0) rfl (by simp only [qza, if_true])
  rw [hn] at lk
  simp only [qzC, qzY, qzM, qzX, qzs, qzJ, xzd, qzD, qzp, qzb, qzg, qzW, xzg, xza, xzh, xzr, xzb, qzN, qzH, qzG, qzB, qzq, qzr, qzo, xzE, xzG, xzJ, xzL, xzn, qzI, qzt, qzi, qzd, xzc, xzs, xzx, xzm, xzf, xzz, xzj, qzf, qzh, qzj, qze, qzm, qzZ, qzV, xzi, qzE, qzF, qzR, qzk, qzy, qzc, qzw, qzl, qzn, xzD, xzF, xzU, qza, xzV, xzW, xzX, xzS, xze, qzL, qzT, xzC, qzS, yzn, yzu, xzQ, xzo, qzU, qzO, slV, xzA, yzr, xzY, xzI, yze, yzd, xzR, yzl, yzo, yzc, yzv, yzs, yzm, yzx, xzw, eqBool, eqInt, eqStr, yzg, yzk, xzu, xzO, qzK, qzu, xzq, yzq, xzv, yzy, xzP, yzw, yzt, qzx, xzH, cvs, cv, yza, xzZ, toA, ofA, FR.pop, abin, aun, intBin, shiftBin, strBin, bnds, natOf, max2A, min2A, foldA, VN.at, VH.push, VH.set, VH.kill, VH.fix, VB.fix, qzA, h0, VV.cells, ntV, yzf, xzK, yzh, yzi, closedB, qzz, xzt, xzy, xzk, countN, qzQ, yzp, fzB, fzL, xzp, xzM, qzP, xzl, yzb, xzT, yzj, xzB, qzv, xzN, capMost, capDrop, ↓reduceIte, Option.getD_some, Option.getD_none, Option.isSome_some, Option.map_some, Option.map_none, List.getElem?_cons_zero, List.getElem?_cons_succ, List.length_cons, List.length_nil, List.drop_succ_cons, List.drop_zero, List.take_succ_cons, List.take_zero, List.append_nil, List.nil_append, List.cons_append, List.contains_cons, List.contains_nil, List.head?_cons, Nat.reduceAdd, Nat.reduceMul, Nat.reduceSub, Nat.reduceDiv, Nat.reduceLT, Nat.reduceEqDiff, reduceCtorEq, Nat.reduceLeDiff, Nat.reduceBEq, Int.reduceEq, Int.reduceLT, Int.reduceLE, Int.reduceBEq, Int.reduceGT, Nat.add_zero, Nat.zero_add, and_self, and_true, true_and, and_false, false_and, not_true_eq_false, not_false_eq_true, Bool.and_self, Bool.and_true, Bool.true_and, Bool.and_false, Bool.or_false, Bool.true_or, Bool.or_true, Bool.false_or, Bool.not_false, Bool.not_true, Bool.false_eq_true, beq_self_eq_true, bne_self_eq_false, beq_true, beq_false, decide_true, decide_false, true_or, if_true, if_false, forall_const, false_implies, true_implies, Bool.true_eq_false, reduceCtorEq, true_or, cCl, erP, cCon, cNam, cShp, t_p_api_At, t_p_errors_errorString, lk, g_ErrTwice, g2, e1]
  refine ⟨2, atV 2 pos, ?_, subV_refl _⟩
  simp [shutD, shutS, above, qzA, qza, closedB, qzz]
theorem firstI_new {Gl : yzG} (i : Nat) (L : As) (n : Bs) (x pos : Int) (hn : lookL L n = none) :
    StShut Go.VL.Er.E Gl f_names_first__int [.map i, .str n, .int .i64 x, .int .i64 pos] [(i, .map (ksL L) (vsL L) false)] .nilI [(i, .map (ksL (L ++ [(n, .int .i64 x)])) (vsL (L ++ [(n, .int .i64 x)])) false)] := by
  refine shut1_intro fun nx hx => yzB E_names_first__int ?_
  unfold c_names_first__int r_names_first__int
  simp only [yzJ]
  have lk := look_map (h := ⟨[(i, some (.map (ksL L) (vsL L) false))], nx⟩) (i := i) (ro := false) (L := L) n (.int .i64 0) rfl (by simp only [qza, if_true])
  rw [hn] at lk
  have up := upd_map (h := ⟨[(i, some (.map (ksL L) (vsL L) false))], nx⟩) (i := i) (n := n) (.int .i64 x) hn (by simp only [qza, if_true])
  simp only [qzC, qzY, qzM, qzX, qzs, qzJ, xzd, qzD, qzp, qzb, qzg, qzW, xzg, xza, xzh, xzr, xzb, qzN, qzH, qzG, qzB, qzq, qzr, qzo, xzE, xzG, xzJ, xzL, xzn, qzI, qzt, qzi, qzd, xzc, xzs, xzx, xzm, xzf, xzz, xzj, qzf, qzh, qzj, qze, qzm, qzZ, qzV, xzi, qzE, qzF, qzR, qzk, qzy, qzc, qzw, qzl, qzn, xzD, xzF, xzU, qza, xzV, xzW, xzX, xzS, xze, qzL, qzT, xzC, qzS, yzn, yzu, xzQ, xzo, qzU, qzO, slV, xzA, yzr, xzY, xzI, yze, yzd, xzR, yzl, yzo, yzc, yzv, yzs, yzm, yzx, xzw, eqBool, eqInt, eqStr, yzg, yzk, xzu, xzO, qzK, qzu, xzq, yzq, xzv, yzy, xzP, yzw, yzt, qzx, xzH, cvs, cv, yza, xzZ, toA, ofA, FR.pop, abin, aun, intBin, shiftBin, strBin, bnds, natOf, max2A, min2A, foldA, VN.at, VH.push, VH.set, VH.kill, VH.fix, VB.fix, qzA, h0, VV.cells, ntV, yzf, xzK, yzh, yzi, closedB, qzz, xzt, xzy, xzk, countN, qzQ, yzp, fzB, fzL, xzp, xzM, qzP, xzl, yzb, xzT, yzj, xzB, qzv, xzN, capMost, capDrop, ↓reduceIte, Option.getD_some, Option.getD_none, Option.isSome_some, Option.map_some, Option.map_none, List.getElem?_cons_zero, List.getElem?_cons_succ, List.length_cons, List.length_nil, List.drop_succ_cons, List.drop_zero, List.take_succ_cons, List.take_zero, List.append_nil, List.nil_append, List.cons_append, List.contains_cons, List.contains_nil, List.head?_cons, Nat.reduceAdd, Nat.reduceMul, Nat.reduceSub, Nat.reduceDiv, Nat.reduceLT, Nat.reduceEqDiff, reduceCtorEq, Nat.reduceLeDiff, Nat.reduceBEq, Int.reduceEq, Int.reduceLT, Int.reduceLE, Int.reduceBEq, Int.reduceGT, Nat.add_zero, Nat.zero_add, and_self, and_true, true_and, and_false, false_and, not_true_eq_false, not_false_eq_true, Bool.and_self, Bool.and_true, Bool.true_and, Bool.and_false, Bool.or_false, Bool.true_or, Bool.or_true, Bool.false_or, Bool.not_false, Bool.not_true, Bool.false_eq_true, beq_self_eq_true, bne_self_eq_false, beq_true, beq_false, decide_true, decide_false, true_or, if_true, if_false, forall_const, false_implies, true_implies, Bool.true_eq_false, reduceCtorEq, true_or, cCl, erP, cCon, cNam, cShp, t_p_api_At, t_p_errors_errorString, lk, up]
  exact ⟨0, .nilI, rfl, subV_refl _⟩
theorem isAgg_of {L : As} (hc : ∀ p ∈ L, ∃ c : Cl, p.2 = .agg (cCl c)) {n : Bs} {w : VV} (hn : lookL L n = some w) : ∃ c : Cl, w = .agg (cCl c) := by
  induction L with
  | nil => cases hn
  | cons p L ih =>
    rw [lookL] at hn
    by_cases e : n = p.1
    · rw [if_pos e] at hn
      obtain ⟨c, hc'⟩ := hc p (.head _)
      exact ⟨c, by rw [← hc']; exact (Option.some.inj hn).symm⟩
    · rw [if_neg e] at hn
      exact ih (fun q hq => hc q (.tail _ hq)) hn
theorem firstC_hit {Gl : yzG} (hG : GlHas Gl 2) (i : Nat) (L : As) (n : Bs) (x : Cl) (pos : Int) {w : Cl} (hn : lookL L n = some (.agg (cCl w))) :
    StShut Go.VL.Er.E Gl f_names_first__api_Color [.map i, .str n, .agg (cCl x), .int .i64 pos] [(i, .map (ksL L) (vsL L) false)] (atV 2 pos) [(i, .map (ksL L) (vsL L) false)] := by
  refine shut1_intro fun nx hx => yzB E_names_first__api_Color ?_
  unfold c_names_first__api_Color r_names_first__api_Color
  simp only [yzJ]
  have e1 : ¬ nx = i := by omega
  have e2 : ¬ nx + 1 = i := by omega
  have e3 : ¬ nx + 1 + 1 = i := by omega
  have g2 : yzz Gl 4 = some [erP 2] := hG.1
  have lk := look_map (h := ⟨[(nx, some (.cells (cCl x) false)), (i, some (.map (ksL L) (vsL L) false))], nx + 1⟩) (i := i) (ro := false) (L := L) n (.agg [.int .u8 0, .int .u8 0, .int .u8 0, .int .u8 0]) rfl (by simp only [qza, e1, if_true, if_false])
  rw [hn] at lk
  simp only [qzC, qzY, qzM, qzX, qzs, qzJ, xzd, qzD, qzp, qzb, qzg, qzW, xzg, xza, xzh, xzr, xzb, qzN, qzH, qzG, qzB, qzq, qzr, qzo, xzE, xzG, xzJ, xzL, xzn, qzI, qzt, qzi, qzd, xzc, xzs, xzx, xzm, xzf, xzz, xzj, qzf, qzh, qzj, qze, qzm, qzZ, qzV, xzi, qzE, qzF, qzR, qzk, qzy, qzc, qzw, qzl, qzn, xzD, xzF, xzU, qza, xzV, xzW, xzX, xzS, xze, qzL, qzT, xzC, qzS, yzn, yzu, xzQ, xzo, qzU, qzO, slV, xzA, yzr, xzY, xzI, yze, yzd, xzR, yzl, yzo, yzc, yzv, yzs, yzm, yzx, xzw, eqBool, eqInt, eqStr, yzg, yzk, xzu, xzO, qzK, qzu, xzq, yzq, xzv, yzy, xzP, yzw, yzt, qzx, xzH, cvs, cv, yza, xzZ, toA, ofA, FR.pop, abin, aun, intBin, shiftBin, strBin, bnds, natOf, max2A, min2A, foldA, VN.at, VH.push, VH.set, VH.kill, VH.fix, VB.fix, qzA, h0, VV.cells, ntV, yzf, xzK, yzh, yzi, closedB, qzz, xzt, xzy, xzk, countN, qzQ, yzp, fzB, fzL, xzp, xzM, qzP, xzl, yzb, xzT, yzj, xzB, qzv, xzN, capMost, capDrop, ↓reduceIte, Option.getD_some, Option.getD_none, Option.isSome_some, Option.map_some, Option.map_none, List.getElem?_cons_zero, List.getElem?_cons_succ, List.length_cons, List.length_nil, List.drop_succ_cons, List.drop_zero, List.take_succ_cons, List.take_zero, List.append_nil, List.nil_append, List.cons_append, List.contains_cons, List.contains_nil, List.head?_cons, Nat.reduceAdd, Nat.reduceMul, Nat.reduceSub, Nat.reduceDiv, Nat.reduceLT, Nat.reduceEqDiff, reduceCtorEq, Nat.reduceLeDiff, Nat.reduceBEq, Int.reduceEq, Int.reduceLT, Int.reduceLE, Int.reduceBEq, Int.reduceGT, Nat.add_zero, Nat.zero_add, and_self, and_true, true_and, and_false, false_and, not_true_eq_false, not_false_eq_true, Bool.and_self, Bool.and_true, Bool.true_and, Bool.and_false, Bool.or_false, Bool.true_or, Bool.or_true, Bool.false_or, Bool.not_false, Bool.not_true, Bool.false_eq_true, beq_self_eq_true, bne_self_eq_false, beq_true, beq_false, decide_true, decide_false, true_or, if_true, if_false, forall_const, false_implies, true_implies, Bool.true_eq_false, reduceCtorEq, true_or, cCl, erP, cCon, cNam, cShp, t_p_api_At, t_p_errors_errorString, lk, g_ErrTwice, g2, e1, e2, e3]
  have l2 : nx ≤ nx + 1 + 1 := by omega
  refine ⟨2, atV 2 pos, ?_, subV_refl _⟩
  simp [shutD, shutS, above, qzA, qza, closedB, qzz, l2]
theorem firstC_new {Gl : yzG} (i : Nat) (L : As) (n : Bs) (x : Cl) (pos : Int) (hn : lookL L n = none) :
    StShut Go.VL.Er.E Gl f_names_first__api_Color [.map i, .str n, .agg (cCl x), .int .i64 pos] [(i, .map (ksL L) (vsL L) false)] .nilI [(i, .map (ksL (L ++ [(n, .agg (cCl x))])) (vsL (L ++ [(n, .agg (cCl x))])) false)] := by
  refine shut1_intro fun nx hx => yzB E_names_first__api_Color ?_
  unfold c_names_first__api_Color r_names_first__api_Color
  simp only [yzJ]
  have e1 : ¬ nx = i := by omega
  have e2 : ¬ nx + 1 = i := by omega
  have e3 : ¬ nx + 1 = nx := by omega
  have lk := look_map (h := ⟨[(nx, some (.cells (cCl x) false)), (i, some (.map (ksL L) (vsL L) false))], nx + 1⟩) (i := i) (ro := false) (L := L) n (.agg [.int .u8 0, .int .u8 0, .int .u8 0, .int .u8 0]) rfl (by simp only [qza, e1, if_true, if_false])
  rw [hn] at lk
  simp only [qzC, qzY, qzM, qzX, qzs, qzJ, xzd, qzD, qzp, qzb, qzg, qzW, xzg, xza, xzh, xzr, xzb, qzN, qzH, qzG, qzB, qzq, qzr, qzo, xzE, xzG, xzJ, xzL, xzn, qzI, qzt, qzi, qzd, xzc, xzs, xzx, xzm, xzf, xzz, xzj, qzf, qzh, qzj, qze, qzm, qzZ, qzV, xzi, qzE, qzF, qzR, qzk, qzy, qzc, qzw, qzl, qzn, xzD, xzF, xzU, qza, xzV, xzW, xzX, xzS, xze, qzL, qzT, xzC, qzS, yzn, yzu, xzQ, xzo, qzU, qzO, slV, xzA, yzr, xzY, xzI, yze, yzd, xzR, yzl, yzo, yzc, yzv, yzs, yzm, yzx, xzw, eqBool, eqInt, eqStr, yzg, yzk, xzu, xzO, qzK, qzu, xzq, yzq, xzv, yzy, xzP, yzw, yzt, qzx, xzH, cvs, cv, yza, xzZ, toA, ofA, FR.pop, abin, aun, intBin, shiftBin, strBin, bnds, natOf, max2A, min2A, foldA, VN.at, VH.push, VH.set, VH.kill, VH.fix, VB.fix, qzA, h0, VV.cells, ntV, yzf, xzK, yzh, yzi, closedB, qzz, xzt, xzy, xzk, countN, qzQ, yzp, fzB, fzL, xzp, xzM, qzP, xzl, yzb, xzT, yzj, xzB, qzv, xzN, capMost, capDrop, ↓reduceIte, Option.getD_some, Option.getD_none, Option.isSome_some, Option.map_some, Option.map_none, List.getElem?_cons_zero, List.getElem?_cons_succ, List.length_cons, List.length_nil, List.drop_succ_cons, List.drop_zero, List.take_succ_cons, List.take_zero, List.append_nil, List.nil_append, List.cons_append, List.contains_cons, List.contains_nil, List.head?_cons, Nat.reduceAdd, Nat.reduceMul, Nat.reduceSub, Nat.reduceDiv, Nat.reduceLT, Nat.reduceEqDiff, reduceCtorEq, Nat.reduceLeDiff, Nat.reduceBEq, Int.reduceEq, Int.reduceLT, Int.reduceLE, Int.reduceBEq, Int.reduceGT, Nat.add_zero, Nat.zero_add, and_self, and_true, true_and, and_false, false_and, not_true_eq_false, not_false_eq_true, Bool.and_self, Bool.and_true, Bool.true_and, Bool.and_false, Bool.or_false, Bool.true_or, Bool.or_true, Bool.false_or, Bool.not_false, Bool.not_true, Bool.false_eq_true, beq_self_eq_true, bne_self_eq_false, beq_true, beq_false, decide_true, decide_false, true_or, if_true, if_false, forall_const, false_implies, true_implies, Bool.true_eq_false, reduceCtorEq, true_or, cCl, erP, cCon, cNam, cShp, t_p_api_At, t_p_errors_errorString, lk, e1, e2, e3]
  rw [upd_map (i := i) (L := L) _ hn (by simp only [qza, e1, e2, if_true, if_false])]
  simp only [qzC, qzY, qzM, qzX, qzs, qzJ, xzd, qzD, qzp, qzb, qzg, qzW, xzg, xza, xzh, xzr, xzb, qzN, qzH, qzG, qzB, qzq, qzr, qzo, xzE, xzG, xzJ, xzL, xzn, qzI, qzt, qzi, qzd, xzc, xzs, xzx, xzm, xzf, xzz, xzj, qzf, qzh, qzj, qze, qzm, qzZ, qzV, xzi, qzE, qzF, qzR, qzk, qzy, qzc, qzw, qzl, qzn, xzD, xzF, xzU, qza, xzV, xzW, xzX, xzS, xze, qzL, qzT, xzC, qzS, yzn, yzu, xzQ, xzo, qzU, qzO, slV, xzA, yzr, xzY, xzI, yze, yzd, xzR, yzl, yzo, yzc, yzv, yzs, yzm, yzx, xzw, eqBool, eqInt, eqStr, yzg, yzk, xzu, xzO, qzK, qzu, xzq, yzq, xzv, yzy, xzP, yzw, yzt, qzx, xzH, cvs, cv, yza, xzZ, toA, ofA, FR.pop, abin, aun, intBin, shiftBin, strBin, bnds, natOf, max2A, min2A, foldA, VN.at, VH.push, VH.set, VH.kill, VH.fix, VB.fix, qzA, h0, VV.cells, ntV, yzf, xzK, yzh, yzi, closedB, qzz, xzt, xzy, xzk, countN, qzQ, yzp, fzB, fzL, xzp, xzM, qzP, xzl, yzb, xzT, yzj, xzB, qzv, xzN, capMost, capDrop, ↓reduceIte, Option.getD_some, Option.getD_none, Option.isSome_some, Option.map_some, Option.map_none, List.getElem?_cons_zero, List.getElem?_cons_succ, List.length_cons, List.length_nil, List.drop_succ_cons, List.drop_zero, List.take_succ_cons, List.take_zero, List.append_nil, List.nil_append, List.cons_append, List.contains_cons, List.contains_nil, List.head?_cons, Nat.reduceAdd, Nat.reduceMul, Nat.reduceSub, Nat.reduceDiv, Nat.reduceLT, Nat.reduceEqDiff, reduceCtorEq, Nat.reduceLeDiff, Nat.reduceBEq, Int.reduceEq, Int.reduceLT, Int.reduceLE, Int.reduceBEq, Int.reduceGT, Nat.add_zero, Nat.zero_add, and_self, and_true, true_and, and_false, false_and, not_true_eq_false, not_false_eq_true, Bool.and_self, Bool.and_true, Bool.true_and, Bool.and_false, Bool.or_false, Bool.true_or, Bool.or_true, Bool.false_or, Bool.not_false, Bool.not_true, Bool.false_eq_true, beq_self_eq_true, bne_self_eq_false, beq_true, beq_false, decide_true, decide_false, true_or, if_true, if_false, forall_const, false_implies, true_implies, Bool.true_eq_false, reduceCtorEq, true_or, cCl, erP, cCon, cNam, cShp, t_p_api_At, t_p_errors_errorString, e1, e2, e3]
  exact ⟨0, .nilI, rfl, subV_refl _⟩
end
end Go.VL.Nm
