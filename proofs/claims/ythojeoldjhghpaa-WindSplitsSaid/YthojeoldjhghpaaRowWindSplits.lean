/- 'glyphiclaw22.WindSplits' answers true for every input, and leaves it as it was. -/
import Derived.Test.YthojeoldjhghpaaLwSplits
import Derived.Test.YthojeoldjhghpaaGoodA
import Derived.Test.YthojeoldjhghpaaRows


import Derived.WalkKit
import Derived.ProofKit
import Derived.OpenShut
import Derived.Deep.DeepHandedRow
import Derived.Lib.LaidTab
namespace Go.Proofs.Ythojeoldjhghpaa.windSplits
set_option linter.unusedSimpArgs false
open Go.ChangeShapes Go.WideShapes Go.ChangeAt Go.RowKit Go.FR Go.VL Go.IR
set_option linter.unusedVariables false
set_option maxRecDepth 100000

def errs : List Er := []

theorem laidOut : laidOutB Try.prog = true := by kernel_rfl

theorem contract (H : Type) (enc : TypeId × Value → H) (W : World) (base : Nat) (args : Array Value) (ds gs : List (DataW H)) (before : List MemPlace)
    (hval : ∀ (j : Nat) t v, Try.f8.params[j]? = some t → args[j]? = some v → Value.okWide Try.prog W .any base t v) (hbase : base = 0)
    (hW : DataW.Whole enc Try.prog Try.f8.params.toList Rows.windSplitsSpec.vars false W args.toList ds gs before) (hL : laidMetH Try.prog Rows.windSplitsRow.laid W) :
    Calls Try.prog 8 args W fun e W' => ∃ v, e = .returned v ∧ Rows.windSplitsSpec.post enc Try.prog Try.f8 false true false false W args v W' := by
  subst hbase
  have hW' := hW
  have hlt : ∀ p ∈ before, p.block < W.heap.size := fun p hp => hW.lt p hp
  obtain ⟨p, q, hA0, hV, rfl, hfz, hnd⟩ := hW
  have hA : DataW.TrodAll enc Try.prog W 0 (fun _ => true) true Try.f8.params.toList args.toList ds p := hA0
  have hA1 := hA
  rw [Try.params8] at hA hval
  obtain ⟨v0, vs0, d0, ds0, p0, q0, hargs, rfl, rfl, h0, r0⟩ := trodAll_cons hA
  obtain ⟨v1, vs1, d1, ds1, p1, q1, rfl, rfl, rfl, h1, r1⟩ := trodAll_cons r0
  obtain ⟨v2, vs2, d2, ds2, p2, q2, rfl, rfl, rfl, h2, r2⟩ := trodAll_cons r1
  obtain ⟨v3, vs3, d3, ds3, p3, q3, rfl, rfl, rfl, h3, r3⟩ := trodAll_cons r2
  obtain ⟨v4, vs4, d4, ds4, p4, q4, rfl, rfl, rfl, h4, r4⟩ := trodAll_cons r3
  obtain ⟨rfl, rfl, rfl⟩ := trodAll_nil r4
  obtain rfl : args = #[v0, v1, v2, v3, v4] := by cases args; simp_all
  obtain ⟨rfl, rfl⟩ := trodVars_none hV
  obtain ⟨z0, k0, m0⟩ := arg_agg Try.underlying44 (flat_struct (ks := [.i64, .i64]) Try.underlying44 (by kernel_rfl) (fun j k hj => match j, hj with | 0, hj => ⟨_, rfl, rfl, by simp at hj; subst hj; exact Try.underlying2, by kernel_rfl⟩ | 1, hj => ⟨_, rfl, rfl, by simp at hj; subst hj; exact Try.underlying2, by kernel_rfl⟩ | _ + 2, hj => by simp at hj)) (hval 0 44 v0 rfl rfl) h0
  obtain ⟨b0_0, b0_1, rfl, e0⟩ := fit2 m0
  obtain ⟨z1, k1, m1⟩ := arg_agg Try.underlying44 (flat_struct (ks := [.i64, .i64]) Try.underlying44 (by kernel_rfl) (fun j k hj => match j, hj with | 0, hj => ⟨_, rfl, rfl, by simp at hj; subst hj; exact Try.underlying2, by kernel_rfl⟩ | 1, hj => ⟨_, rfl, rfl, by simp at hj; subst hj; exact Try.underlying2, by kernel_rfl⟩ | _ + 2, hj => by simp at hj)) (hval 1 44 v1 rfl rfl) h1
  obtain ⟨b1_0, b1_1, rfl, e1⟩ := fit2 m1
  obtain ⟨a2, k2, m2, n2⟩ := arg_int Try.underlying2 (hval 2 2 v2 rfl rfl) h2
  obtain ⟨a3, k3, m3, n3⟩ := arg_int Try.underlying2 (hval 3 2 v3 rfl rfl) h3
  obtain ⟨z4, k4, m4⟩ := arg_agg Try.underlying44 (flat_struct (ks := [.i64, .i64]) Try.underlying44 (by kernel_rfl) (fun j k hj => match j, hj with | 0, hj => ⟨_, rfl, rfl, by simp at hj; subst hj; exact Try.underlying2, by kernel_rfl⟩ | 1, hj => ⟨_, rfl, rfl, by simp at hj; subst hj; exact Try.underlying2, by kernel_rfl⟩ | _ + 2, hj => by simp at hj)) (hval 4 44 v4 rfl rfl) h4
  obtain ⟨b4_0, b4_1, rfl, e4⟩ := fit2 m4
  clear hA0
  simp only [List.append_nil] at hW'
  obtain ⟨ι, hR, hrw⟩ := bare_start W
  have walk := law_V good (Gl := []) (body := (Try.f8.body).getD .skip) Try.func8 (by kernel_rfl) hR hrw (fun i cs q => by cases q)
    (vs := [v0, v1, v2, v3, v4]) (xs := [.agg [VV.int .i64 b0_0, VV.int .i64 b0_1], .agg [VV.int .i64 b1_0, VV.int .i64 b1_1], .int .i64 a2, .int .i64 a3, .agg [VV.int .i64 b4_0, VV.int .i64 b4_1]]) ⟨k0, k1, k2, k3, k4, trivial⟩ (Go.VL.Wind.windSplits _ b0_0 b0_1 e0 b1_0 b1_1 e1 a2 m2 n2 a3 m3 n3 b4_0 b4_1 e4)
  refine walk.mono fun e W' ⟨he, hg⟩ => ?_
  subst he
  have hB := trodAll_below laidOut hg (fun t ht => by
    rw [Try.params8] at ht
    simp only [List.mem_cons, List.not_mem_nil, or_false] at ht
    rcases ht with rfl | rfl | rfl | rfl | rfl
    all_goals exact ⟨by kernel_rfl, of_decide_eq_true (by kernel_rfl)⟩) hA1 (fun x hx => hlt x (List.mem_append_left _ hx))
  exact ⟨_, rfl, _, _, _, [], _, [], hW', trodAll_mk1 (shut_bool Try.underlying4 _), hB, rfl, hg.frame _, fun h => by cases h⟩

/-! A world for the witness. -/

noncomputable def world0 (os : Os) : World := World.holding Try.prog os ⟨#[], #[], []⟩
noncomputable def base (os : Os) : Nat := (world0 os).heap.size
def lay (t b : Nat) : Obj → Obj
  | .cells _ e fz => .cells #[.iface t (.pointer (some ⟨b, 0, none⟩))] e fz
  | o => o
noncomputable def laidWorld (os : Os) : World :=
  { world0 os with heap := (world0 os).heap }
theorem laid_met (os : Os) : laidMet Try.prog Rows.windSplitsRow.laid ((laidWorld os).forCall (fun _ _ => 0) ⟨#[], #[(.agg #[.int .i64 0, .int .i64 0] : Value), (.agg #[.int .i64 0, .int .i64 0] : Value), (.int .i64 0 : Value), (.int .i64 0 : Value), (.agg #[.int .i64 0, .int .i64 0] : Value)], []⟩).memory :=
  laidMet_of_run' 8 (by kernel_rfl) (by kernel_rfl)
theorem reads (os : Os) {H : Type} (enc : TypeId × Value → H) : ∃ places, DataW.whole enc Try.prog ((laidWorld os).forCall (fun _ _ => 0) ⟨#[], #[(.agg #[.int .i64 0, .int .i64 0] : Value), (.agg #[.int .i64 0, .int .i64 0] : Value), (.int .i64 0 : Value), (.int .i64 0 : Value), (.agg #[.int .i64 0, .int .i64 0] : Value)], []⟩).memory Try.f8.params.toList Rows.windSplitsSpec.vars false #[(.agg #[.int .i64 0, .int .i64 0] : Value), (.agg #[.int .i64 0, .int .i64 0] : Value), (.int .i64 0 : Value), (.int .i64 0 : Value), (.agg #[.int .i64 0, .int .i64 0] : Value)].toList 8 = some ([.agg [.lit (.int .i64 0), .lit (.int .i64 0)], .agg [.lit (.int .i64 0), .lit (.int .i64 0)], .lit (.int .i64 0), .lit (.int .i64 0), .agg [.lit (.int .i64 0), .lit (.int .i64 0)]], [], places) :=
  ⟨[], by kernel_rfl⟩
theorem own : ownKnob Try.prog.godebug = none := by kernel_rfl

theorem lifted (os : Os) (started : os.Started) (H : Type) (enc : TypeId × Value → H) (F : Stop.Interp) :
    ReturnsInHanded {} Try.checked os 8 .any ((OpenSpec.ofChange Rows.windSplitsSpec).preRow enc Try.prog Try.f8 Rows.windSplitsRow.domain false Rows.windSplitsRow.laid) (((OpenSpec.ofChange Rows.windSplitsSpec).at F).post enc Try.prog Try.f8 false true false false) := by
  obtain ⟨places, hx⟩ := reads os enc
  refine returnsInHanded_of_row (C := Try.checked) (s := OpenSpec.ofChange Rows.windSplitsSpec) own started (by kernel_rfl) Try.func8
    (witness_row_at (enc := enc) (C := Try.checked) false (laidWorld os) #[(.agg #[.int .i64 0, .int .i64 0] : Value), (.agg #[.int .i64 0, .int .i64 0] : Value), (.int .i64 0 : Value), (.int .i64 0 : Value), (.agg #[.int .i64 0, .int .i64 0] : Value)] rfl (by kernel_rfl) (by kernel_rfl) (by kernel_rfl)
      (OpenSpec.preRow_of_cond 8 hx (by kernel_rfl) (fun k hk => by cases hk) (by kernel_rfl) (laid_met os))) ?_
  intro W base args ds gs before hval hW _ _ _ hL _ _
  exact contract H enc W 0 args ds gs before (fun j t v h1 h2 => okWide_zero (hval j t v h1 h2)) rfl hW hL

theorem said : Rows.WindSplitsSaid :=
  OpenClaim.holds_of_cond 8 Try.f8 rfl rfl rfl rfl rfl rfl rfl ⟨rfl, rfl, rfl, rfl, rfl⟩ rfl rfl rfl rfl rfl (by kernel_rfl) Try.func8 (by kernel_rfl)
    (of_decide_eq_true (by kernel_rfl)) (by unfold Func.isWrapper; first | (rw [if_pos (by decide +kernel)]; kernel_rfl) | (rw [if_neg (by decide +kernel)]; exact ⟨rfl, rfl⟩))
    (fun os started H enc _ F => by rw [OpenClaim.pre_eq_preRow]; exact lifted os started H enc F)
#print axioms said
end Go.Proofs.Ythojeoldjhghpaa.windSplits
namespace Go.Proofs.Ythojeoldjhghpaa
/-- The statement, under a short name. -/
theorem windSplits_holds : Rows.WindSplitsSaid := windSplits.said
end Go.Proofs.Ythojeoldjhghpaa
