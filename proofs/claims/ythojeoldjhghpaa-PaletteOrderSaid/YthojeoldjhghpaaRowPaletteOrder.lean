/- 'glyphiclaw16.PaletteOrder' answers true for every input, and leaves it as it was. -/
import Derived.Test.YthojeoldjhghpaaOrB
import Derived.Test.YthojeoldjhghpaaGoodA
import Derived.Test.YthojeoldjhghpaaRows


import Derived.WalkKit
import Derived.ProofKit
import Derived.OpenShut
import Derived.Deep.DeepHandedRow
import Derived.Lib.LaidTab
namespace Go.Proofs.Ythojeoldjhghpaa.paletteOrder
set_option linter.unusedSimpArgs false
open Go.ChangeShapes Go.WideShapes Go.ChangeAt Go.RowKit Go.FR Go.VL Go.IR
set_option linter.unusedVariables false
set_option maxRecDepth 100000

def errs : List Er := []

theorem laidOut : laidOutB Try.prog = true := by kernel_rfl

theorem contract (H : Type) (enc : TypeId × Value → H) (W : World) (base : Nat) (args : Array Value) (ds gs : List (DataW H)) (before : List MemPlace)
    (hval : ∀ (j : Nat) t v, Try.f12.params[j]? = some t → args[j]? = some v → Value.okWide Try.prog W .any base t v) (hbase : base = 0)
    (hW : DataW.Whole enc Try.prog Try.f12.params.toList Rows.paletteOrderSpec.vars false W args.toList ds gs before) (hL : laidMetH Try.prog Rows.paletteOrderRow.laid W) :
    Calls Try.prog 12 args W fun e W' => ∃ v, e = .returned v ∧ Rows.paletteOrderSpec.post enc Try.prog Try.f12 false true false false W args v W' := by
  subst hbase
  have hW' := hW
  have hlt : ∀ p ∈ before, p.block < W.heap.size := fun p hp => hW.lt p hp
  obtain ⟨p, q, hA0, hV, rfl, hfz, hnd⟩ := hW
  have hA : DataW.TrodAll enc Try.prog W 0 (fun _ => true) true Try.f12.params.toList args.toList ds p := hA0
  have hA1 := hA
  rw [Try.params12] at hA hval
  obtain ⟨v0, vs0, d0, ds0, p0, q0, hargs, rfl, rfl, h0, r0⟩ := trodAll_cons hA
  obtain ⟨rfl, rfl, rfl⟩ := trodAll_nil r0
  obtain rfl : args = #[v0] := by cases args; simp_all
  obtain ⟨rfl, rfl⟩ := trodVars_none hV
  obtain ⟨a0, k0, m0, n0⟩ := arg_ints Try.underlying37 (flat_int Try.underlying3 (by kernel_rfl)) (hval 0 37 v0 rfl rfl) h0
  clear hA0
  simp only [List.append_nil] at hW'
  obtain ⟨ι, hR, hrw⟩ := bare_start W
  have walk := law_V good (Gl := []) (body := (Try.f12.body).getD .skip) Try.func12 (by kernel_rfl) hR hrw (fun i cs q => by cases q)
    (vs := [v0]) (xs := [.fsl (a0.map (VV.int .i64)) a0.length 1]) ⟨k0, trivial⟩ (Go.VL.Pal.paletteOrder _ a0 m0 n0)
  refine walk.mono fun e W' ⟨he, hg⟩ => ?_
  subst he
  have hB := trodAll_below laidOut hg (fun t ht => by
    rw [Try.params12] at ht
    simp only [List.mem_cons, List.not_mem_nil, or_false] at ht
    rcases ht with rfl
    all_goals exact ⟨by kernel_rfl, of_decide_eq_true (by kernel_rfl)⟩) hA1 (fun x hx => hlt x (List.mem_append_left _ hx))
  exact ⟨_, rfl, _, _, _, [], _, [], hW', trodAll_mk1 (shut_bool Try.underlying4 _), hB, rfl, hg.frame _, fun h => by cases h⟩

/-! A world for the witness. -/

noncomputable def world0 (os : Os) : World := World.holding Try.prog os ⟨#[], #[], []⟩
noncomputable def base (os : Os) : Nat := (world0 os).heap.size
def lay (t b : Nat) : Obj → Obj
  | .cells _ e fz => .cells #[.iface t (.pointer (some ⟨b, 0, none⟩))] e fz
  | o => o
noncomputable def laidWorld (os : Os) : World :=
  { world0 os with heap := (world0 os).heap }
theorem laid_met (os : Os) : laidMet Try.prog Rows.paletteOrderRow.laid ((laidWorld os).forCall (fun _ _ => 0) ⟨#[], #[(.slice none 0 0 : Value)], []⟩).memory :=
  laidMet_of_run' 8 (by kernel_rfl) (by kernel_rfl)
theorem reads (os : Os) {H : Type} (enc : TypeId × Value → H) : ∃ places, DataW.whole enc Try.prog ((laidWorld os).forCall (fun _ _ => 0) ⟨#[], #[(.slice none 0 0 : Value)], []⟩).memory Try.f12.params.toList Rows.paletteOrderSpec.vars false #[(.slice none 0 0 : Value)].toList 8 = some ([.nil], [], places) :=
  ⟨[], by kernel_rfl⟩
theorem own : ownKnob Try.prog.godebug = none := by kernel_rfl

theorem lifted (os : Os) (started : os.Started) (H : Type) (enc : TypeId × Value → H) (F : Stop.Interp) :
    ReturnsInHanded {} Try.checked os 12 .any ((OpenSpec.ofChange Rows.paletteOrderSpec).preRow enc Try.prog Try.f12 Rows.paletteOrderRow.domain false Rows.paletteOrderRow.laid) (((OpenSpec.ofChange Rows.paletteOrderSpec).at F).post enc Try.prog Try.f12 false true false false) := by
  obtain ⟨places, hx⟩ := reads os enc
  refine returnsInHanded_of_row (C := Try.checked) (s := OpenSpec.ofChange Rows.paletteOrderSpec) own started (by kernel_rfl) Try.func12
    (witness_row_at (enc := enc) (C := Try.checked) false (laidWorld os) #[(.slice none 0 0 : Value)] rfl (by kernel_rfl) (by kernel_rfl) (by kernel_rfl)
      (OpenSpec.preRow_of_cond 8 hx (by kernel_rfl) (fun k hk => by cases hk) (by kernel_rfl) (laid_met os))) ?_
  intro W base args ds gs before hval hW _ _ _ hL _ _
  exact contract H enc W 0 args ds gs before (fun j t v h1 h2 => okWide_zero (hval j t v h1 h2)) rfl hW hL

theorem said : Rows.PaletteOrderSaid :=
  OpenClaim.holds_of_cond 12 Try.f12 rfl rfl rfl rfl rfl rfl rfl ⟨rfl, rfl, rfl, rfl, rfl⟩ rfl rfl rfl rfl rfl (by kernel_rfl) Try.func12 (by kernel_rfl)
    (of_decide_eq_true (by kernel_rfl)) (by unfold Func.isWrapper; first | (rw [if_pos (by decide +kernel)]; kernel_rfl) | (rw [if_neg (by decide +kernel)]; exact ⟨rfl, rfl⟩))
    (fun os started H enc _ F => by rw [OpenClaim.pre_eq_preRow]; exact lifted os started H enc F)
#print axioms said
end Go.Proofs.Ythojeoldjhghpaa.paletteOrder
namespace Go.Proofs.Ythojeoldjhghpaa
/-- The statement, under a short name. -/
theorem paletteOrder_holds : Rows.PaletteOrderSaid := paletteOrder.said
end Go.Proofs.Ythojeoldjhghpaa
