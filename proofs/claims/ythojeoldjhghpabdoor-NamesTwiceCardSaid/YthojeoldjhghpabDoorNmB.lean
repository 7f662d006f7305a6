/- Chapter 12: a written icon's names. -/
import Derived.Test.YthojeoldjhghpabDoorNmA
namespace Go.VL.Nm
open Go.FR Go.IR Go.VL Go.VL.Er Go.VL.Color
noncomputable section
set_option linter.unusedSimpArgs false
set_option linter.unusedVariables false
set_option maxRecDepth 100000
set_option maxHeartbeats 1000000

def conL (cs : List Con) : As := cs.map fun c => (c.name, .int .i64 c.n)
def namL (cs : List Nam) : As := cs.map fun c => (c.name, .agg (cCl c.c))
def shpL : Nat → List Shp → As
  | _, [] => []
  | k, s :: l => (s.name, .int .i64 (k : Int)) :: shpL (k + 1) l
theorem shpL_app : ∀ (l : List Shp) (k : Nat) (s : Shp), shpL k (l ++ [s]) = shpL k l ++ [(s.name, .int .i64 ((k + l.length : Nat) : Int))]
  | [], k, s => rfl
  | t :: l, k, s => by
    have e : k + 1 + l.length = k + (l.length + 1) := by omega
    rw [List.cons_append, shpL, shpL, shpL_app l (k + 1) s, List.cons_append, List.length_cons, e]
theorem shpL_names : ∀ (l : List Shp) (k : Nat), (shpL k l).map (·.1) = l.map (·.name)
  | [], _ => rfl
  | s :: l, k => by simp [shpL, shpL_names l (k + 1)]
/-- The first that has a name that one ahead has: its place in the text. -/
def dupS : List Bs → List (Bs × Int) → Option Int
  | _, [] => none
  | seen, p :: l => if p.1 ∈ seen then some p.2 else dupS (seen ++ [p.1]) l
theorem look_none {n : Bs} : ∀ {L : As}, n ∉ L.map (·.1) → lookL L n = none
  | [], _ => rfl
  | p :: L, h => by
    rw [List.map_cons, List.mem_cons, not_or] at h
    rw [lookL, if_neg h.1]; exact look_none h.2
theorem look_some {n : Bs} : ∀ {L : As}, n ∈ L.map (·.1) → ∃ w, lookL L n = some w
  | [], h => by simp at h
  | p :: L, h => by
    rw [lookL]
    by_cases e : n = p.1
    · exact ⟨_, by rw [if_pos e]⟩
    · rw [if_neg e]
      rw [List.map_cons, List.mem_cons] at h
      exact look_some (h.resolve_left e)
theorem cCon_len (c : Con) : (cCon c).length = 3 := rfl
theorem cNam_len (c : Nam) : (cNam c).length = 6 := rfl
theorem cShp_len (c : Shp) : (cShp c).length = 3 := rfl
theorem vs_con (cs : List Con) : qzz (vsL (conL cs)) = true := by
  simp only [vsL, conL, List.map_map]; exact closedL_map (fun _ => rfl) cs
theorem vs_nam (cs : List Nam) : qzz (vsL (namL cs)) = true := by
  simp only [vsL, namL, List.map_map]; exact closedL_map (fun _ => rfl) cs
theorem vs_shp : ∀ (cs : List Shp) (k : Nat), qzz (vsL (shpL k cs)) = true
  | [], _ => rfl
  | s :: l, k => by
    have := vs_shp l (k + 1)
    simp only [vsL, shpL, List.map_cons, qzz, closedB, Bool.true_and] at this ⊢
    exact this
theorem ids_map {L : As} (h : qzz (vsL L) = true) (ro : Bool) : (VB.map (ksL L) (vsL L) ro).ids = [] := by
  simp only [VB.ids, idsL_closed _ (ks_closed L), idsL_closed _ h]; rfl

def HI (S : List VV) (A B C : As) (h : VH) : Prop :=
  yzz h.l 0 = some (some (.cells S false)) ∧ yzz h.l 1 = some (some (.map (ksL A) (vsL A) false)) ∧ yzz h.l 2 = some (some (.map (ksL B) (vsL B) false)) ∧ yzz h.l 3 = some (some (.map (ksL C) (vsL C) false)) ∧ yzz h.l 4 = some (some (.cells [.map 1, .map 2, .map 3] false)) ∧ 5 ≤ h.next

theorem new_l2 {Gl : yzG} (hG : GlHas Gl 2) (S : List VV) (cs : List Con) (hl : cs.length < 1000000) (R : Option Int) (K : AEx → VF → VH → Prop)
    (hK0 : ∀ T h, R = none → yzz T 1 = some (.ptr 0 0) → yzz T 4 = some (.ptr 4 0) → HI S (conL cs) [] [] h → K (.exit 0) T h)
    (hK1 : ∀ T h p, R = some p → yzz T 2 = some .nilP → yzz T 3 = some (atV 2 p) → K .ret T h) :
    ∀ (d i : Nat) (T : VF) (h : VH), d + i = cs.length → dupS ((cs.take i).map (·.name)) ((cs.drop i).map fun c => (c.name, c.pos)) = R → yzz T 1 = some (.ptr 0 0) → yzz T 4 = some (.ptr 4 0) → yzz T 20 = some (.fsl (yzH cCon cs) cs.length 3) → yzz T 21 = some (.int .i64 cs.length) → yzz T 22 = some (.int .i64 i) → HI S (conL (cs.take i)) [] [] h →
      wp Go.VL.Er.E Gl (.loop c_names_New_l2) T h K := by
  intro d
  induction d with
  | zero =>
    intro i T h hd hR t1 t4 t20 t21 t22 hi
    obtain rfl : i = cs.length := by omega
    rw [List.take_length] at hi
    refine yzD c_names_New_l2.eq_1 ?_
    simp only [qzC, qzY, qzX, qzs, qzJ, qzD, qzg, qzW, xzg, qzH, qzB, qzq, qzr, xzE, qzf, qze, qzZ, qzV, xzD, xzF, xzU, qza, xzV, xzW, yza, xzZ, toA, ofA, FR.pop, abin, intBin, ↓reduceIte, Nat.reduceEqDiff, true_and, Bool.false_eq_true, decide_false, forall_const, false_implies, t_p_api_At, t_p_errors_errorString, t21, t22, Int.lt_irrefl]
    refine hK0 _ h ?_ ?_ ?_ hi
    · rw [← hR, List.drop_length]; rfl
    · simp only [qza, ↓reduceIte, Nat.reduceEqDiff, t1]
    · simp only [qza, ↓reduceIte, Nat.reduceEqDiff, t4]
  | succ d ih =>
    intro i T h hd hR t1 t4 t20 t21 t22 hi
    refine yzD c_names_New_l2.eq_1 ?_
    have hlt : i < cs.length := by omega
    have c1 : (i : Int) < cs.length := by omega
    obtain ⟨x, hx⟩ : ∃ x, cs[i]? = some x := ⟨cs[i], List.getElem?_eq_getElem hlt⟩
    have b1 := flat_le cCon_len hx
    have b2 := flat_at cCon_len hx
    have w : IntKind.i64.wrap ((i : Int) + 1) = ((i + 1 : Nat) : Int) := by rw [yzF (by omega) (by omega)]; rfl
    obtain ⟨h0', h1', h2', h3', h4', hn⟩ := hi
    have e0 : ¬ h.next = 0 := by omega
    have e1 : ¬ h.next = 1 := by omega
    have e4 : ¬ h.next = 4 := by omega
    have e4' : ¬ 4 = h.next := by omega
    rw [drop_at hx, List.map_cons, dupS] at hR
    have hnames : (conL (cs.take i)).map (·.1) = (cs.take i).map (·.name) := by simp [conL, Function.comp_def]
    simp only [qzC, qzY, qzM, qzX, qzs, qzJ, qzD, qzg, qzW, xzg, qzH, qzB, qzq, qzr, xzE, xzG, xzJ, xzL, xzn, qzt, qzi, xzc, xzs, xzm, qzf, qzh, qzj, qze, qzm, qzZ, qzV, xzi, qzE, qzF, qzk, qzl, xzD, xzF, xzU, qza, xzV, xzW, xzX, xze, qzL, qzO, xzY, xzI, yzg, qzK, qzu, xzq, xzH, cvs, cv, yza, xzZ, toA, ofA, FR.pop, abin, intBin, VN.at, VH.push, VH.set, qzA, VV.cells, ntV, xzk, countN, qzQ, xzp, xzM, qzP, xzl, yzb, xzT, yzj, qzv, ↓reduceIte, Option.getD_some, Option.isSome_some, List.getElem?_cons_zero, List.getElem?_cons_succ, List.length_cons, List.length_nil, List.drop_succ_cons, List.drop_zero, List.take_zero, List.append_nil, List.nil_append, List.contains_nil, List.head?_cons, Nat.reduceAdd, Nat.reduceEqDiff, Nat.reduceLeDiff, Nat.add_zero, Nat.zero_add, and_self, and_true, true_and, Bool.and_self, Bool.not_false, decide_true, forall_const, false_implies, Bool.true_eq_false, cCon, t_p_api_At, t_p_errors_errorString, t20, t21, t22, c1, hlt, b1, b2, t4, e4, h4']
    by_cases hm : x.name ∈ (cs.take i).map (·.name)
    · rw [if_pos hm] at hR
      obtain ⟨wv, hw⟩ := look_some (L := conL (cs.take i)) (by rw [hnames]; exact hm)
      refine call_shut1 (first64_hit hG 1 _ _ _ _ hw) (by simp only [qza, e1, if_false]; exact h1') (ids_map (vs_con _) false) ?_
      simp only [qzC, qzY, qzX, xzd, qzD, qzg, qzW, xza, xzh, xzb, qzG, qzB, qzq, qzr, xzE, xzG, qzI, qzt, qzi, xzc, xzf, qzf, qzh, qze, qzZ, qzV, qzE, qzF, xzD, xzF, xzU, qza, xzV, xzW, xzX, xzY, yze, yzd, yzc, cv, ↓reduceIte, Option.map_some, List.append_nil, Nat.reduceEqDiff, and_true, Bool.not_false, forall_const, false_implies, Bool.true_eq_false]
      refine hK1 _ _ _ hR.symm ?_ ?_
      · simp only [qza, ↓reduceIte, Nat.reduceEqDiff]
      · simp only [qza, ↓reduceIte]
    · rw [if_neg hm] at hR
      have hw := look_none (L := conL (cs.take i)) (n := x.name) (by rw [hnames]; exact hm)
      have hA : conL (cs.take i) ++ [(x.name, .int .i64 x.n)] = conL (cs.take (i + 1)) := by rw [take_at hx]; simp [conL]
      have hc := first64_new (Gl := Gl) 1 _ x.name x.n x.pos hw
      rw [hA] at hc
      refine call_shut1 hc (by simp only [qza, e1, if_false]; exact h1') (ids_map (vs_con _) false) ?_
      simp only [qzC, qzY, qzX, xzd, qzD, qzg, qzW, xza, xzh, xzb, qzN, qzG, qzB, qzq, qzr, xzE, xzG, qzI, qzt, qzi, xzc, xzf, qzf, qzh, qze, qzZ, qzV, qzE, qzF, xzD, xzF, xzU, qza, xzV, xzW, xzX, xzY, yze, yzd, yzc, cv, yza, xzZ, toA, ofA, FR.pop, abin, intBin, ↓reduceIte, Option.map_some, List.append_nil, Nat.reduceEqDiff, true_and, Bool.not_true, Bool.false_eq_true, forall_const, false_implies, t22, w]
      refine ih (i + 1) _ _ (by omega) ?_ ?_ ?_ ?_ ?_ ?_ ⟨?_, ?_, ?_, ?_, ?_, ?_⟩
      · rw [take_at hx, List.map_append]; exact hR
      · simp only [qza, ↓reduceIte, Nat.reduceEqDiff, t1]
      · simp only [qza, ↓reduceIte, Nat.reduceEqDiff, t4]
      · simp only [qza, ↓reduceIte, Nat.reduceEqDiff, t20]
      · simp only [qza, ↓reduceIte, Nat.reduceEqDiff, t21]
      · simp only [qza, ↓reduceIte]
      · simp only [qza]; repeat rw [if_neg (by omega)]
        exact h0'
      · simp only [qza, if_true]
      · simp only [qza]; repeat rw [if_neg (by omega)]
        exact h2'
      · simp only [qza]; repeat rw [if_neg (by omega)]
        exact h3'
      · simp only [qza]; repeat rw [if_neg (by omega)]
        exact h4'
      · show 5 ≤ h.next + 1; omega
theorem new_l1 {Gl : yzG} (hG : GlHas Gl 2) (S : List VV) (A : As) (cs : List Nam) (hl : cs.length < 1000000) (R : Option Int) (K : AEx → VF → VH → Prop)
    (hK0 : ∀ T h, R = none → yzz T 1 = some (.ptr 0 0) → yzz T 4 = some (.ptr 4 0) → HI S A (namL cs) [] h → K (.exit 2) T h)
    (hK1 : ∀ T h p, R = some p → yzz T 2 = some .nilP → yzz T 3 = some (atV 2 p) → K .ret T h) :
    ∀ (d i : Nat) (T : VF) (h : VH), d + i = cs.length → dupS ((cs.take i).map (·.name)) ((cs.drop i).map fun c => (c.name, c.pos)) = R → yzz T 1 = some (.ptr 0 0) → yzz T 4 = some (.ptr 4 0) → yzz T 42 = some (.fsl (yzH cNam cs) cs.length 6) → yzz T 43 = some (.int .i64 cs.length) → yzz T 44 = some (.int .i64 i) → HI S A (namL (cs.take i)) [] h →
      wp Go.VL.Er.E Gl (.loop c_names_New_l1) T h K := by
  intro d
  induction d with
  | zero =>
    intro i T h hd hR t1 t4 t42 t43 t44 hi
    obtain rfl : i = cs.length := by omega
    rw [List.take_length] at hi
    refine yzD c_names_New_l1.eq_1 ?_
    simp only [qzC, qzY, qzX, qzs, qzJ, qzD, qzg, qzW, xzg, qzH, qzB, qzq, qzr, xzE, qzf, qze, qzZ, qzV, xzD, xzF, xzU, qza, xzV, xzW, yza, xzZ, toA, ofA, FR.pop, abin, intBin, ↓reduceIte, Nat.reduceEqDiff, true_and, Bool.false_eq_true, decide_false, forall_const, false_implies, t_p_api_At, t_p_errors_errorString, t43, t44, Int.lt_irrefl]
    refine hK0 _ h ?_ ?_ ?_ hi
    · rw [← hR, List.drop_length]; rfl
    · simp only [qza, ↓reduceIte, Nat.reduceEqDiff, t1]
    · simp only [qza, ↓reduceIte, Nat.reduceEqDiff, t4]
  | succ d ih =>
    intro i T h hd hR t1 t4 t42 t43 t44 hi
    refine yzD c_names_New_l1.eq_1 ?_
    have hlt : i < cs.length := by omega
    have c1 : (i : Int) < cs.length := by omega
    obtain ⟨x, hx⟩ : ∃ x, cs[i]? = some x := ⟨cs[i], List.getElem?_eq_getElem hlt⟩
    have b1 := flat_le cNam_len hx
    have b2 := flat_at cNam_len hx
    have w : IntKind.i64.wrap ((i : Int) + 1) = ((i + 1 : Nat) : Int) := by rw [yzF (by omega) (by omega)]; rfl
    obtain ⟨h0', h1', h2', h3', h4', hn⟩ := hi
    have e0 : ¬ h.next = 0 := by omega
    have e1 : ¬ h.next = 2 := by omega
    have e4 : ¬ h.next = 4 := by omega
    have e4' : ¬ 4 = h.next := by omega
    rw [drop_at hx, List.map_cons, dupS] at hR
    have hnames : (namL (cs.take i)).map (·.1) = (cs.take i).map (·.name) := by simp [namL, Function.comp_def]
    simp only [qzC, qzY, qzM, qzX, qzs, qzJ, qzD, qzg, qzW, xzg, qzH, qzB, qzq, qzr, xzE, xzG, xzJ, xzL, xzn, qzt, qzi, xzc, xzs, xzm, qzf, qzh, qzj, qze, qzm, qzZ, qzV, xzi, qzE, qzF, qzk, qzl, xzD, xzF, xzU, qza, xzV, xzW, xzX, xze, qzL, qzO, xzY, xzI, yzg, qzK, qzu, xzq, xzH, cvs, cv, yza, xzZ, toA, ofA, FR.pop, abin, intBin, VN.at, VH.push, VH.set, qzA, VV.cells, ntV, xzk, countN, qzQ, xzp, xzM, qzP, xzl, yzb, xzT, yzj, qzv, ↓reduceIte, Option.getD_some, Option.isSome_some, List.getElem?_cons_zero, List.getElem?_cons_succ, List.length_cons, List.length_nil, List.drop_succ_cons, List.drop_zero, List.take_succ_cons, List.take_zero, List.append_nil, List.nil_append, List.contains_nil, List.head?_cons, Nat.reduceAdd, Nat.reduceEqDiff, Nat.reduceLeDiff, Nat.add_zero, Nat.zero_add, and_self, and_true, true_and, Bool.and_self, Bool.not_false, decide_true, forall_const, false_implies, Bool.true_eq_false, cNam, t_p_api_At, t_p_errors_errorString, t42, t43, t44, c1, hlt, b1, b2, t4, e4, h4']
    by_cases hm : x.name ∈ (cs.take i).map (·.name)
    · rw [if_pos hm] at hR
      obtain ⟨wv, hw⟩ := look_some (L := namL (cs.take i)) (by rw [hnames]; exact hm)
      obtain ⟨wc, rfl⟩ := isAgg_of (fun p hp => by
        obtain ⟨q, _, rfl⟩ := List.mem_map.1 hp
        exact ⟨q.c, rfl⟩) hw
      refine call_shut1 (firstC_hit hG 2 _ _ x.c _ hw) (by simp only [qza, e1, if_false]; exact h2') (ids_map (vs_nam _) false) ?_
      simp only [qzC, qzY, qzX, xzd, qzD, qzg, qzW, xza, xzh, xzb, qzG, qzB, qzq, qzr, xzE, xzG, qzI, qzt, qzi, xzc, xzf, qzf, qzh, qze, qzZ, qzV, qzE, qzF, xzD, xzF, xzU, qza, xzV, xzW, xzX, xzY, yze, yzd, yzc, cv, ↓reduceIte, Option.map_some, List.append_nil, Nat.reduceEqDiff, and_true, Bool.not_false, forall_const, false_implies, Bool.true_eq_false]
      refine hK1 _ _ _ hR.symm ?_ ?_
      · simp only [qza, ↓reduceIte, Nat.reduceEqDiff]
      · simp only [qza, ↓reduceIte]
    · rw [if_neg hm] at hR
      have hw := look_none (L := namL (cs.take i)) (n := x.name) (by rw [hnames]; exact hm)
      have hA : namL (cs.take i) ++ [(x.name, .agg (cCl x.c))] = namL (cs.take (i + 1)) := by rw [take_at hx]; simp [namL]
      have hc := firstC_new (Gl := Gl) 2 _ x.name x.c x.pos hw
      rw [hA] at hc
      refine call_shut1 hc (by simp only [qza, e1, if_false]; exact h2') (ids_map (vs_nam _) false) ?_
      simp only [qzC, qzY, qzX, xzd, qzD, qzg, qzW, xza, xzh, xzb, qzN, qzG, qzB, qzq, qzr, xzE, xzG, qzI, qzt, qzi, xzc, xzf, qzf, qzh, qze, qzZ, qzV, qzE, qzF, xzD, xzF, xzU, qza, xzV, xzW, xzX, xzY, yze, yzd, yzc, cv, yza, xzZ, toA, ofA, FR.pop, abin, intBin, ↓reduceIte, Option.map_some, List.append_nil, Nat.reduceEqDiff, true_and, Bool.not_true, Bool.false_eq_true, forall_const, false_implies, t44, w]
      refine ih (i + 1) _ _ (by omega) ?_ ?_ ?_ ?_ ?_ ?_ ⟨?_, ?_, ?_, ?_, ?_, ?_⟩
      · rw [take_at hx, List.map_append]; exact hR
      · simp only [qza, ↓reduceIte, Nat.reduceEqDiff, t1]
      · simp only [qza, ↓reduceIte, Nat.reduceEqDiff, t4]
      · simp only [qza, ↓reduceIte, Nat.reduceEqDiff, t42]
      · simp only [qza, ↓reduceIte, Nat.reduceEqDiff, t43]
      · simp only [qza, ↓reduceIte]
      · simp only [qza]; repeat rw [if_neg (by omega)]
        exact h0'
      · simp only [qza]; repeat rw [if_neg (by omega)]
        exact h1'
      · simp only [qza, if_true]
      · simp only [qza]; repeat rw [if_neg (by omega)]
        exact h3'
      · simp only [qza]; repeat rw [if_neg (by omega)]
        exact h4'
      · show 5 ≤ h.next + 1; omega
theorem new_l0 {Gl : yzG} (hG : GlHas Gl 2) (S : List VV) (A B : As) (cs : List Shp) (hl : cs.length < 1000000) (R : Option Int) (K : AEx → VF → VH → Prop)
    (hK0 : ∀ T h, R = none → yzz T 1 = some (.ptr 0 0) → yzz T 4 = some (.ptr 4 0) → HI S A B (shpL 0 cs) h → K (.exit 4) T h)
    (hK1 : ∀ T h p, R = some p → yzz T 2 = some .nilP → yzz T 3 = some (atV 2 p) → K .ret T h) :
    ∀ (d i : Nat) (T : VF) (h : VH), d + i = cs.length → dupS ((cs.take i).map (·.name)) ((cs.drop i).map fun c => (c.name, c.pos)) = R → yzz T 1 = some (.ptr 0 0) → yzz T 4 = some (.ptr 4 0) → yzz T 64 = some (.fsl (yzH cShp cs) cs.length 3) → yzz T 65 = some (.int .i64 cs.length) → yzz T 66 = some (.int .i64 i) → HI S A B (shpL 0 (cs.take i)) h →
      wp Go.VL.Er.E Gl (.loop c_names_New_l0) T h K := by
  intro d
  induction d with
  | zero =>
    intro i T h hd hR t1 t4 t64 t65 t66 hi
    obtain rfl : i = cs.length := by omega
    rw [List.take_length] at hi
    refine yzD c_names_New_l0.eq_1 ?_
    simp only [qzC, qzY, qzX, qzs, qzJ, qzD, qzg, qzW, xzg, qzH, qzB, qzq, qzr, xzE, qzf, qze, qzZ, qzV, xzD, xzF, xzU, qza, xzV, xzW, xzX, yza, xzZ, toA, ofA, FR.pop, abin, intBin, ↓reduceIte, Nat.reduceEqDiff, true_and, Bool.false_eq_true, decide_false, forall_const, false_implies, t_p_api_At, t_p_errors_errorString, t65, t66, Int.lt_irrefl]
    refine hK0 _ h ?_ ?_ ?_ hi
    · rw [← hR, List.drop_length]; rfl
    · simp only [qza, ↓reduceIte, Nat.reduceEqDiff, t1]
    · simp only [qza, ↓reduceIte, Nat.reduceEqDiff, t4]
  | succ d ih =>
    intro i T h hd hR t1 t4 t64 t65 t66 hi
    refine yzD c_names_New_l0.eq_1 ?_
    have hlt : i < cs.length := by omega
    have c1 : (i : Int) < cs.length := by omega
    obtain ⟨x, hx⟩ : ∃ x, cs[i]? = some x := ⟨cs[i], List.getElem?_eq_getElem hlt⟩
    have b1 := flat_le cShp_len hx
    have b2 := flat_at cShp_len hx
    have w : IntKind.i64.wrap ((i : Int) + 1) = ((i + 1 : Nat) : Int) := by rw [yzF (by omega) (by omega)]; rfl
    obtain ⟨h0', h1', h2', h3', h4', hn⟩ := hi
    have e0 : ¬ h.next = 0 := by omega
    have e1 : ¬ h.next = 3 := by omega
    have e4 : ¬ h.next = 4 := by omega
    have e4' : ¬ 4 = h.next := by omega
    rw [drop_at hx, List.map_cons, dupS] at hR
    have hnames : (shpL 0 (cs.take i)).map (·.1) = (cs.take i).map (·.name) := shpL_names _ _
    simp only [qzC, qzY, qzM, qzX, qzs, qzJ, qzD, qzg, qzW, xzg, qzH, qzB, qzq, qzr, xzE, xzG, xzJ, xzL, xzn, qzt, qzi, xzc, xzs, xzm, qzf, qzh, qzj, qze, qzm, qzZ, qzV, xzi, qzE, qzF, qzk, qzl, xzD, xzF, xzU, qza, xzV, xzW, xzX, xze, qzL, qzO, xzY, xzI, yzg, qzK, qzu, xzq, xzH, cvs, cv, yza, xzZ, toA, ofA, FR.pop, abin, intBin, VN.at, VH.push, VH.set, qzA, VV.cells, ntV, xzk, countN, qzQ, xzp, xzM, qzP, xzl, yzb, xzT, yzj, qzv, ↓reduceIte, Option.getD_some, Option.isSome_some, List.getElem?_cons_zero, List.getElem?_cons_succ, List.length_cons, List.length_nil, List.drop_succ_cons, List.drop_zero, List.take_zero, List.append_nil, List.nil_append, List.contains_nil, List.head?_cons, Nat.reduceAdd, Nat.reduceEqDiff, Nat.reduceLeDiff, Nat.add_zero, Nat.zero_add, and_self, and_true, true_and, Bool.and_self, Bool.not_false, decide_true, forall_const, false_implies, Bool.true_eq_false, cShp, t_p_api_At, t_p_errors_errorString, t64, t65, t66, c1, hlt, b1, b2, t4, e4, h4']
    by_cases hm : x.name ∈ (cs.take i).map (·.name)
    · rw [if_pos hm] at hR
      obtain ⟨wv, hw⟩ := look_some (L := shpL 0 (cs.take i)) (by rw [hnames]; exact hm)
      refine call_shut1 (firstI_hit hG 3 _ _ _ _ hw) (by simp only [qza, e1, if_false]; exact h3') (ids_map (vs_shp _ _) false) ?_
      simp only [qzC, qzY, qzX, xzd, qzD, qzg, qzW, xza, xzh, xzb, qzG, qzB, qzq, qzr, xzE, xzG, qzI, qzt, qzi, xzc, xzf, qzf, qzh, qze, qzZ, qzV, qzE, qzF, xzD, xzF, xzU, qza, xzV, xzW, xzX, xzY, yze, yzd, yzc, cv, ↓reduceIte, Option.map_some, List.append_nil, Nat.reduceEqDiff, and_true, Bool.not_false, forall_const, false_implies, Bool.true_eq_false]
      refine hK1 _ _ _ hR.symm ?_ ?_
      · simp only [qza, ↓reduceIte, Nat.reduceEqDiff]
      · simp only [qza, ↓reduceIte]
    · rw [if_neg hm] at hR
      have hw := look_none (L := shpL 0 (cs.take i)) (n := x.name) (by rw [hnames]; exact hm)
      have hA : shpL 0 (cs.take i) ++ [(x.name, .int .i64 (i : Int))] = shpL 0 (cs.take (i + 1)) := by
        rw [take_at hx, shpL_app, Nat.zero_add, List.length_take, Nat.min_eq_left (by omega)]
      have hc := firstI_new (Gl := Gl) 3 _ x.name (i : Int) x.pos hw
      rw [hA] at hc
      refine call_shut1 hc (by simp only [qza, e1, if_false]; exact h3') (ids_map (vs_shp _ _) false) ?_
      simp only [qzC, qzY, qzX, xzd, qzD, qzg, qzW, xza, xzh, xzb, qzN, qzG, qzB, qzq, qzr, xzE, xzG, qzI, qzt, qzi, xzc, xzf, qzf, qzh, qze, qzZ, qzV, qzE, qzF, xzD, xzF, xzU, qza, xzV, xzW, xzX, xzY, yze, yzd, yzc, cv, yza, xzZ, toA, ofA, FR.pop, abin, intBin, ↓reduceIte, Option.map_some, List.append_nil, Nat.reduceEqDiff, true_and, Bool.not_true, Bool.false_eq_true, forall_const, false_implies, t66, w]
      refine ih (i + 1) _ _ (by omega) ?_ ?_ ?_ ?_ ?_ ?_ ⟨?_, ?_, ?_, ?_, ?_, ?_⟩
      · rw [take_at hx, List.map_append]; exact hR
      · simp only [qza, ↓reduceIte, Nat.reduceEqDiff, t1]
      · simp only [qza, ↓reduceIte, Nat.reduceEqDiff, t4]
      · simp only [qza, ↓reduceIte, Nat.reduceEqDiff, t64]
      · simp only [qza, ↓reduceIte, Nat.reduceEqDiff, t65]
      · simp only [qza, ↓reduceIte]
      · simp only [qza]; repeat rw [if_neg (by omega)]
        exact h0'
      · simp only [qza]; repeat rw [if_neg (by omega)]
        exact h1'
      · simp only [qza]; repeat rw [if_neg (by omega)]
        exact h2'
      · simp only [qza, if_true]
      · simp only [qza]; repeat rw [if_neg (by omega)]
        exact h4'
      · show 5 ≤ h.next + 1; omega

/-- The place of the name that is twice. -/
def dupAll (cs : List Con) (ns : List Nam) (ss : List Shp) : Option Int :=
  match dupS [] (cs.map fun c => (c.name, c.pos)) with
  | some p => some p
  | none => match dupS [] (ns.map fun c => (c.name, c.pos)) with
    | some p => some p
    | none => dupS [] (ss.map fun c => (c.name, c.pos))
def scopeV (cs : List Con) (ns : List Nam) (ss : List Shp) : VV := .fptr [.fmap (ksL (conL cs)) (vsL (conL cs)), .fmap (ksL (namL ns)) (vsL (namL ns)), .fmap (ksL (shpL 0 ss)) (vsL (shpL 0 ss))] 0
def newV (cs : List Con) (ns : List Nam) (ss : List Shp) : VV := match dupAll cs ns ss with
  | some p => .tuple [.nilP, atV 2 p]
  | none => .tuple [scopeV cs ns ss, .nilI]
theorem scope_shut {g : Nat → Option VB} {A B C : As} (h4 : g 4 = some (.cells [.map 1, .map 2, .map 3] false)) (h1 : g 1 = some (.map (ksL A) (vsL A) false)) (h2 : g 2 = some (.map (ksL B) (vsL B) false)) (h3 : g 3 = some (.map (ksL C) (vsL C) false))
    (c1 : qzz (vsL A) = true) (c2 : qzz (vsL B) = true) (c3 : qzz (vsL C) = true) :
    shutD 3 g (.tuple [.ptr 4 0, .nilI]) = some (.tuple [.fptr [.fmap (ksL A) (vsL A), .fmap (ksL B) (vsL B), .fmap (ksL C) (vsL C)] 0, .nilI]) := by
  simp [shutD, shutS, closedB, qzz, mapO, h4, h1, h2, h3, ks_closed, c1, c2, c3]

theorem new_ok {Gl : yzG} (hG : GlHas Gl 2) (w h sc cm : VV) (cs : List Con) (ns : List Nam) (ss : List Shp) (h1 : cs.length < 1000000) (h2 : ns.length < 1000000) (h3 : ss.length < 1000000) :
    yzI Go.VL.Er.E Gl f_names_New [.agg [w, h, sc, .fsl (yzH cCon cs) cs.length 3, .fsl (yzH cNam ns) ns.length 6, .fsl (yzH cShp ss) ss.length 3, cm]] (newV cs ns ss) := by
  refine yzE (yzB E_names_New ?_)
  unfold c_names_New r_names_New
  simp only [yzJ]
  unfold newV dupAll
  simp only [qzY, qzX, qzs, qzW, qzB, qzq, qzr, xzE, xzG, xzJ, qzf, qzh, qzj, qze, qzZ, qzV, xzi, xzD, xzF, xzU, qza, xzV, xzW, xzX, xze, xzo, xzY, xzI, yzg, yzk, xzu, xzO, qzK, xzH, cvs, cv, VN.at, VH.push, qzA, h0, VV.cells, ntV, ↓reduceIte, Option.getD_some, List.getElem?_cons_zero, List.getElem?_cons_succ, List.length_cons, List.length_nil, List.drop_succ_cons, List.drop_zero, List.take_succ_cons, List.take_zero, List.append_nil, List.nil_append, List.cons_append, Nat.reduceAdd, Nat.reduceEqDiff, reduceCtorEq, Nat.reduceLeDiff, Nat.zero_add, and_self, reduceCtorEq]
  have k0 : ∀ hh, HI [w, h, sc, .fsl (yzH cCon cs) cs.length 3, .fsl (yzH cNam ns) ns.length 6, .fsl (yzH cShp ss) ss.length 3, cm] [] [] [] hh → True := fun _ _ => trivial
  refine new_l2 hG [w, h, sc, .fsl (yzH cCon cs) cs.length 3, .fsl (yzH cNam ns) ns.length 6, .fsl (yzH cShp ss) ss.length 3, cm] cs h1 (dupS [] (cs.map fun c => (c.name, c.pos))) _ ?_ ?_ cs.length 0 _ _ (by omega) rfl ?_ ?_ ?_ ?_ ?_ ⟨?_, ?_, ?_, ?_, ?_, ?_⟩
  rotate_left
  · intro T hh p hR t2 t3
    rw [hR]
    simp only [xza, xzb, xzj, yzf, xzK, yzh, yzi, t2, t3]
    exact yzA rfl
  · simp only [qza, ↓reduceIte, Nat.reduceEqDiff]
  · simp only [qza, ↓reduceIte, Nat.reduceEqDiff]
  · simp only [qza, ↓reduceIte, Nat.reduceEqDiff]
  · simp only [qza, ↓reduceIte, Nat.reduceEqDiff]
  · simp only [qza, ↓reduceIte]; rfl
  · simp only [qza, ↓reduceIte, reduceCtorEq, reduceCtorEq]
  · simp only [qza, ↓reduceIte, List.take_zero, Nat.reduceEqDiff]; rfl
  · simp only [qza, ↓reduceIte, Nat.reduceEqDiff]; rfl
  · simp only [qza, ↓reduceIte, Nat.reduceEqDiff]; rfl
  · simp only [qza, ↓reduceIte]
  · exact Nat.le_refl _
  intro T hh hR t1 t4 hi
  rw [hR]
  obtain ⟨i0, i1, i2, i3, i4, i5⟩ := hi
  simp only [qzY, qzX, qzs, qzW, xzr, qzB, qzq, qzr, xzE, xzG, qzf, qzh, qze, qzZ, qzV, xzD, xzF, xzU, qza, xzV, xzW, xzX, xze, xzo, xzY, xzI, xzH, cv, qzA, ↓reduceIte, Option.getD_some, List.getElem?_cons_zero, List.getElem?_cons_succ, Nat.zero_add, t1, i0]
  refine new_l1 hG _ (conL cs) ns h2 (dupS [] (ns.map fun c => (c.name, c.pos))) _ ?_ ?_ ns.length 0 _ _ (by omega) rfl ?_ ?_ ?_ ?_ ?_ ⟨i0, i1, i2, i3, i4, i5⟩
  rotate_left
  · intro T hh p hR t2 t3
    rw [hR]
    simp only [xza, xzb, xzj, yzf, xzK, yzh, yzi, t2, t3]
    exact yzA rfl
  · simp only [qza, ↓reduceIte, Nat.reduceEqDiff, t1]
  · simp only [qza, ↓reduceIte, Nat.reduceEqDiff, t4]
  · simp only [qza, ↓reduceIte, Nat.reduceEqDiff]
  · simp only [qza, ↓reduceIte, Nat.reduceEqDiff]
  · simp only [qza, ↓reduceIte]; rfl
  intro T hh hR t1 t4 hi
  rw [hR]
  obtain ⟨i0, i1, i2, i3, i4, i5⟩ := hi
  simp only [qzY, qzX, qzs, qzW, xzr, qzB, qzq, qzr, xzE, xzG, qzf, qzh, qze, qzZ, qzV, xzD, xzF, xzU, qza, xzV, xzW, xzX, xze, xzo, xzY, xzI, xzH, cv, qzA, ↓reduceIte, Option.getD_some, List.getElem?_cons_zero, List.getElem?_cons_succ, Nat.zero_add, t1, i0]
  refine new_l0 hG _ (conL cs) (namL ns) ss h3 (dupS [] (ss.map fun c => (c.name, c.pos))) _ ?_ ?_ ss.length 0 _ _ (by omega) rfl ?_ ?_ ?_ ?_ ?_ ⟨i0, i1, i2, i3, i4, i5⟩
  rotate_left
  · intro T hh p hR t2 t3
    rw [hR]
    simp only [xza, xzb, xzj, yzf, xzK, yzh, yzi, t2, t3]
    exact yzA rfl
  · simp only [qza, ↓reduceIte, Nat.reduceEqDiff, t1]
  · simp only [qza, ↓reduceIte, Nat.reduceEqDiff, t4]
  · simp only [qza, ↓reduceIte, Nat.reduceEqDiff]
  · simp only [qza, ↓reduceIte, Nat.reduceEqDiff]
  · simp only [qza, ↓reduceIte]; rfl
  intro T hh hR t1 t4 hi
  rw [hR]
  obtain ⟨i0, i1, i2, i3, i4, i5⟩ := hi
  simp only [qzY, qzX, xzd, qzW, xzr, qzB, qzq, qzr, xzE, xzj, qzf, qze, qzZ, qzV, xzD, xzF, xzU, qza, xzV, xzW, xzX, cv, yzf, xzK, yzh, yzi, ↓reduceIte, Nat.reduceEqDiff, t4]
  exact ⟨3, _, scope_shut (by rw [qzA, i4]; rfl) (by rw [qzA, i1]; rfl) (by rw [qzA, i2]; rfl) (by rw [qzA, i3]; rfl) (vs_con cs) (vs_nam ns) (vs_shp ss 0), subV_refl _⟩
end
end Go.VL.Nm
