/- 'glyphiclaw22.WindRings' answers true for every input, and leaves it as it was. -/
import Derived.Test.YthojeoldjhghpabLwRings
import Derived.Test.YthojeoldjhghpabGoodA
import Derived.Test.YthojeoldjhghpabRows


import Derived.WalkKit
import Derived.ProofKit
import Derived.OpenShut
import Derived.Deep.DeepHandedRow
import Derived.Lib.LaidTab
namespace Go.Proofs.Ythojeoldjhghpab.windRings
set_option linter.unusedSimpArgs false
open Go.ChangeShapes Go.WideShapes Go.ChangeAt Go.RowKit Go.FR Go.VL Go.IR
set_option linter.unusedVariables false
set_option maxRecDepth 100000

def errs : List Er := []

theorem laidOut : laidOutB Try.prog = true := by kernel_rfl

theorem contract (H : Type) (enc : TypeId × Value → H) (W : World) (base : Nat) (args : Array Value) (ds gs : List (DataW H)) (before : List MemPlace)
    (hval : ∀ (j : Nat) t v, Try.f3.params[j]? = some t → args[j]? = some v → Value.okWide Try.prog W .any base t v) (hbase : base = 0)
    (hW : DataW.Whole enc Try.prog Try.f3.params.toList Rows.windRingsSpec.vars false W args.toList ds gs before) (hL : laidMetH Try.prog Rows.windRingsRow.laid W) :
    Calls Try.prog 3 args W fun e W' => ∃ v, e = .returned v ∧ Rows.windRingsSpec.post enc Try.prog Try.f3 false true false false W args v W' := by
  subst hbase
  have hW' := hW
  have hlt : ∀ p ∈ before, p.block < W.heap.size := fun p hp => hW.lt p hp
  obtain ⟨p, q, hA0, hV, rfl, hfz, hnd⟩ := hW
  have hA : DataW.TrodAll enc Try.prog W 0 (fun _ => true) true Try.f3.params.toList args.toList ds p := hA0
  have hA1 := hA
  rw [Try.params3] at hA hval
  obtain ⟨v0, vs0, d0, ds0, p0, q0, hargs, rfl, rfl, h0, r0⟩ := trodAll_cons hA
  obtain ⟨v1, vs1, d1, ds1, p1, q1, rfl, rfl, rfl, h1, r1⟩ := trodAll_cons r0
  obtain ⟨v2, vs2, d2, ds2, p2, q2, rfl, rfl, rfl, h2, r2⟩ := trodAll_cons r1
  obtain ⟨rfl, rfl, rfl⟩ := trodAll_nil r2
  obtain rfl : args = #[v0, v1, v2] := by cases args; simp_all
  obtain ⟨rfl, rfl⟩ := trodVars_none hV
  obtain ⟨a0, k0, m0, n0⟩ := arg_ints Try.underlying22 (flat_int Try.underlying3 (by kernel_rfl)) (hval 0 22 v0 rfl rfl) h0
  obtain ⟨a1, k1, m1, n1⟩ := arg_int Try.underlying3 (hval 1 3 v1 rfl rfl) h1
  obtain ⟨a2, k2, m2, n2⟩ := arg_int Try.underlying3 (hval 2 3 v2 rfl rfl) h2
  clear hA0
  simp only [List.append_nil] at hW'
  obtain ⟨ι, hR, hrw⟩ := bare_start W
  have walk := law_V good (Gl := []) (body := (Try.f3.body).getD .skip) Try.func3 (by kernel_rfl) hR hrw (fun i cs q => by cases q)
    (vs := [v0, v1, v2]) (xs := [.fsl (a0.map (VV.int .i64)) a0.length 1, .int .i64 a1, .int .i64 a2]) ⟨k0, k1, k2, trivial⟩ (Go.VL.Wind.windRings _ a0 m0 n0 a1 m1 n1 a2 m2 n2)
  refine walk.mono fun e W' ⟨he, hg⟩ => ?_
  subst he
  have hB := trodAll_below laidOut hg (fun t ht => by
    rw [Try.params3] at ht
    simp only [List.mem_cons, List.not_mem_nil, or_false] at ht
    rcases ht with rfl | rfl | rfl
    all_goals exact ⟨by kernel_rfl, of_decide_eq_true (by kernel_rfl)⟩) hA1 (fun x hx => hlt x (List.mem_append_left _ hx))
  exact ⟨_, rfl, _, _, _, [], _, [], hW', trodAll_mk1 (shut_bool Try.underlying4 _), hB, rfl, hg.frame _, fun h => by cases h⟩

/-! A world for the witness. -/

noncomputable def world0 (os : Os) : World := World.holding Try.prog os ⟨#[], #[], []⟩
noncomputable def base (os : Os) : Nat := (world0 os).heap.size
def lay (t b : Nat) : Obj → Obj
  | .cells _ e fz => .cells #[.iface t (.pointer (some ⟨b, 0, none⟩))] e fz
  | o => o
noncomputable def laidWorld (os : Os) : World :=
  { world0 os with heap := (world0 os).heap }
theorem laid_met (os : Os) : laidMet Try.prog Rows.windRingsRow.laid ((laidWorld os).forCall (fun _ _ => 0) ⟨#[], #[(.slice none 0 0 : Value), (.int .i64 0 : Value), (.int .i64 0 : Value)], []⟩).memory :=
  laidMet_of_run' 8 (by kernel_rfl) (by kernel_rfl)
theorem reads (os : Os) {H : Type} (enc : TypeId × Value → H) : ∃ places, DataW.whole enc Try.prog ((laidWorld os).forCall (fun _ _ => 0) ⟨#[], #[(.slice none 0 0 : Value), (.int .i64 0 : Value), (.int .i64 0 : Value)], []⟩).memory Try.f3.params.toList Rows.windRingsSpec.vars false #[(.slice none 0 0 : Value), (.int .i64 0 : Value), (.int .i64 0 : Value)].toList 8 = some ([.nil, .lit (.int .i64 0), .lit (.int .i64 0)], [], places) :=
  ⟨[], by kernel_rfl⟩
theorem own : ownKnob Try.prog.godebug = none := by kernel_rfl

theorem lifted (os : Os) (started : os.Started) (H : Type) (enc : TypeId × Value → H) (F : Stop.Interp) :
    ReturnsInHanded {} Try.checked os 3 .any ((OpenSpec.ofChange Rows.windRingsSpec).preRow enc Try.prog Try.f3 Rows.windRingsRow.domain false Rows.windRingsRow.laid) (((OpenSpec.ofChange Rows.windRingsSpec).at F).post enc Try.prog Try.f3 false true false false) := by
  obtain ⟨places, hx⟩ := reads os enc
  refine returnsInHanded_of_row (C := Try.checked) (s := OpenSpec.ofChange Rows.windRingsSpec) own started (by kernel_rfl) Try.func3
    (witness_row_at (enc := enc) (C := Try.checked) false (laidWorld os) #[(.slice none 0 0 : Value), (.int .i64 0 : Value), (.int .i64 0 : Value)] rfl (by kernel_rfl) (by kernel_rfl) (by kernel_rfl)
      (OpenSpec.preRow_of_cond 8 hx (by kernel_rfl) (fun k hk => by cases hk) (by kernel_rfl) (laid_met os))) ?_
  intro W base args ds gs before hval hW _ _ _ hL _ _
  exact contract H enc W 0 args ds gs before (fun j t v h1 h2 => okWide_zero (hval j t v h1 h2)) rfl hW hL

theorem said : Rows.WindRingsSaid :=
  OpenClaim.holds_of_cond 3 Try.f3 rfl rfl rfl rfl rfl rfl rfl ⟨rfl, rfl, rfl, rfl, rfl⟩ rfl rfl rfl rfl rfl (by kernel_rfl) Try.func3 (by kernel_rfl)
    (of_decide_eq_true (by kernel_rfl)) (by unfold Func.isWrapper; first | (rw [if_pos (by decide +kernel)]; kernel_rfl) | (rw [if_neg (by decide +kernel)]; exact ⟨rfl, rfl⟩))
    (fun os started H enc _ F => by rw [OpenClaim.pre_eq_preRow]; exact lifted os started H enc F)
#print axioms said
end Go.Proofs.Ythojeoldjhghpab.windRings
namespace Go.Proofs.Ythojeoldjhghpab
/-- The statement, under a short name. -/
theorem windRings_holds : Rows.WindRingsSaid := windRings.said
end Go.Proofs.Ythojeoldjhghpab
