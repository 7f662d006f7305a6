/- 'glyphiclaw3.ColorBack' answers true for every input, and leaves it as it was. -/
import Derived.Test.YthojeoldjhghpabDoorLwBack2
import Derived.Test.YthojeoldjhghpabDoorGoodA
import Derived.Test.YthojeoldjhghpabDoorRows
import Derived.Test.YthojeoldjhghpabDoorCards
import Derived.Test.YthojeoldjhghpabDoorTie
import Derived.WalkKit
import Derived.ProofKit
import Derived.OpenShut
import Derived.Deep.DeepHandedRow
import Derived.Lib.LaidTab
namespace Go.Proofs.YthojeoldjhghpabDoor.colorBack
set_option linter.unusedSimpArgs false
open Go.ChangeShapes Go.WideShapes Go.ChangeAt Go.RowKit Go.FR Go.VL Go.IR
set_option linter.unusedVariables false
set_option maxRecDepth 100000

def errs : List Er := [⟨"glyphic/api.ErrText", 0, [110, 111, 116, 32, 97, 115, 32, 105, 116, 32, 105, 115, 32, 119, 114, 105, 116, 116, 101, 110]⟩]
theorem errTy : ErrTy Tryd.prog "*errors.errorString" 27 134 :=
  ⟨152, 9, _, _, Tryd.underlying27, fun u hu => typeName_ptr_named (nm := "errors.errorString") (by kernel_rfl) (by kernel_rfl) (by decide +kernel) u hu, Tryd.underlying134, Tryd.underlying152, rfl, rfl, Tryd.underlying9, by kernel_rfl, by kernel_rfl⟩
theorem laidPlain (W : World) : laidMetH Tryd.prog Rows.colorBackRow.laid W = laidMet Tryd.prog (erLaid "*errors.errorString" errs) W := by kernel_rfl

theorem laidOut : laidOutB Tryd.prog = true := by kernel_rfl

theorem contract (H : Type) (enc : TypeId × Value → H) (W : World) (base : Nat) (args : Array Value) (ds gs : List (DataW H)) (before : List MemPlace)
    (hval : ∀ (j : Nat) t v, Tryd.f3.params[j]? = some t → args[j]? = some v → Value.okWide Tryd.prog W .any base t v) (hbase : base = 0)
    (hW : DataW.Whole enc Tryd.prog Tryd.f3.params.toList Rows.colorBackSpec.vars false W args.toList ds gs before) (hL : laidMetH Tryd.prog Rows.colorBackRow.laid W) :
    Calls Tryd.prog 3 args W fun e W' => ∃ v, e = .returned v ∧ Rows.colorBackSpec.post enc Tryd.prog Tryd.f3 false true false false W args v W' := by
  subst hbase
  have hW' := hW
  have hlt : ∀ p ∈ before, p.block < W.heap.size := fun p hp => hW.lt p hp
  obtain ⟨p, q, hA0, hV, rfl, hfz, hnd⟩ := hW
  have hA : DataW.TrodAll enc Tryd.prog W 0 (fun _ => true) true Tryd.f3.params.toList args.toList ds p := hA0
  have hA1 := hA
  rw [Tryd.params3] at hA hval
  obtain ⟨v0, vs0, d0, ds0, p0, q0, hargs, rfl, rfl, h0, r0⟩ := trodAll_cons hA
  obtain ⟨v1, vs1, d1, ds1, p1, q1, rfl, rfl, rfl, h1, r1⟩ := trodAll_cons r0
  obtain ⟨v2, vs2, d2, ds2, p2, q2, rfl, rfl, rfl, h2, r2⟩ := trodAll_cons r1
  obtain ⟨rfl, rfl, rfl⟩ := trodAll_nil r2
  obtain rfl : args = #[v0, v1, v2] := by cases args; simp_all
  obtain ⟨rfl, rfl⟩ := trodVars_none hV
  obtain ⟨z0, k0, m0⟩ := arg_agg Tryd.underlying23 (flat_struct (ks := [.u8, .u8, .u8, .u8]) Tryd.underlying23 (by kernel_rfl) (fun j k hj => match j, hj with | 0, hj => ⟨_, rfl, rfl, by simp at hj; subst hj; exact Tryd.underlying5, by kernel_rfl⟩ | 1, hj => ⟨_, rfl, rfl, by simp at hj; subst hj; exact Tryd.underlying5, by kernel_rfl⟩ | 2, hj => ⟨_, rfl, rfl, by simp at hj; subst hj; exact Tryd.underlying5, by kernel_rfl⟩ | 3, hj => ⟨_, rfl, rfl, by simp at hj; subst hj; exact Tryd.underlying5, by kernel_rfl⟩ | _ + 4, hj => by simp at hj)) (hval 0 23 v0 rfl rfl) h0
  obtain ⟨b0_0, b0_1, b0_2, b0_3, rfl, e0⟩ := fit4 m0
  obtain ⟨a1, k1, m1, n1⟩ := arg_int Tryd.underlying3 (hval 1 3 v1 rfl rfl) h1
  obtain ⟨a2, k2, m2, n2⟩ := arg_int Tryd.underlying5 (hval 2 5 v2 rfl rfl) h2
  clear hA0
  simp only [List.append_nil] at hW'
  rw [laidPlain] at hL
  obtain ⟨ι, hR, hrw⟩ := laid_start errTy errs hL (fun e he => by
    simp only [errs, List.mem_cons, List.not_mem_nil, or_false] at he
    rcases he with rfl
    all_goals exact ⟨by kernel_rfl, by kernel_rfl⟩)
  have walk := law_V good (Gl := globsOf 134 errs) (body := (Tryd.f3.body).getD .skip) Tryd.func3 (by kernel_rfl) hR hrw (fun i cs q => glob_ok 134 errs i cs q)
    (vs := [v0, v1, v2]) (xs := [.agg [VV.int .u8 b0_0, VV.int .u8 b0_1, VV.int .u8 b0_2, VV.int .u8 b0_3], .int .i64 a1, .int .u8 a2]) ⟨k0, k1, k2, trivial⟩ (Go.VL.Color.colorBack _ rfl b0_0 b0_1 b0_2 b0_3 e0 a1 m1 n1 a2 m2 n2)
  refine walk.mono fun e W' ⟨he, hg⟩ => ?_
  subst he
  have hB := trodAll_below laidOut hg (fun t ht => by
    rw [Tryd.params3] at ht
    simp only [List.mem_cons, List.not_mem_nil, or_false] at ht
    rcases ht with rfl | rfl | rfl
    all_goals exact ⟨by kernel_rfl, of_decide_eq_true (by kernel_rfl)⟩) hA1 (fun x hx => hlt x (List.mem_append_left _ hx))
  exact ⟨_, rfl, _, _, _, [], _, [], hW', trodAll_mk1 (shut_bool Tryd.underlying4 _), hB, rfl, hg.frame _, fun h => by cases h⟩

/-! A world for the witness. -/

noncomputable def world0 (os : Os) : World := World.holding Tryd.prog os ⟨#[], #[], []⟩
noncomputable def base (os : Os) : Nat := (world0 os).heap.size
def lay (t b : Nat) : Obj → Obj
  | .cells _ e fz => .cells #[.iface t (.pointer (some ⟨b, 0, none⟩))] e fz
  | o => o
noncomputable def laidWorld (os : Os) : World :=
  { world0 os with heap := ((world0 os).heap.modify 0 (lay 134 (base os + 0))).push (.cells #[.string ⟨#[110, 111, 116, 32, 97, 115, 32, 105, 116, 32, 105, 115, 32, 119, 114, 105, 116, 116, 101, 110]⟩] 152) }
theorem laid_met (os : Os) : laidMet Tryd.prog Rows.colorBackRow.laid ((laidWorld os).forCall (fun _ _ => 0) ⟨#[], #[(.agg #[.int .u8 0, .int .u8 0, .int .u8 0, .int .u8 0] : Value), (.int .i64 0 : Value), (.int .u8 0 : Value)], []⟩).memory :=
  laidMet_of_run' 8 (by kernel_rfl) (by kernel_rfl)
theorem reads (os : Os) {H : Type} (enc : TypeId × Value → H) : ∃ places, DataW.whole enc Tryd.prog ((laidWorld os).forCall (fun _ _ => 0) ⟨#[], #[(.agg #[.int .u8 0, .int .u8 0, .int .u8 0, .int .u8 0] : Value), (.int .i64 0 : Value), (.int .u8 0 : Value)], []⟩).memory Tryd.f3.params.toList Rows.colorBackSpec.vars false #[(.agg #[.int .u8 0, .int .u8 0, .int .u8 0, .int .u8 0] : Value), (.int .i64 0 : Value), (.int .u8 0 : Value)].toList 8 = some ([.agg [.lit (.int .u8 0), .lit (.int .u8 0), .lit (.int .u8 0), .lit (.int .u8 0)], .lit (.int .i64 0), .lit (.int .u8 0)], [], places) :=
  ⟨[], by kernel_rfl⟩
theorem own : ownKnob Tryd.prog.godebug = none := by kernel_rfl

theorem lifted (os : Os) (started : os.Started) (H : Type) (enc : TypeId × Value → H) (F : Stop.Interp) :
    ReturnsInHanded {} Tryd.checked os 3 .any ((OpenSpec.ofChange Rows.colorBackSpec).preRow enc Tryd.prog Tryd.f3 Rows.colorBackRow.domain false Rows.colorBackRow.laid) (((OpenSpec.ofChange Rows.colorBackSpec).at F).post enc Tryd.prog Tryd.f3 false true false false) := by
  obtain ⟨places, hx⟩ := reads os enc
  refine returnsInHanded_of_row (C := Tryd.checked) (s := OpenSpec.ofChange Rows.colorBackSpec) own started (by kernel_rfl) Tryd.func3
    (witness_row_at (enc := enc) (C := Tryd.checked) false (laidWorld os) #[(.agg #[.int .u8 0, .int .u8 0, .int .u8 0, .int .u8 0] : Value), (.int .i64 0 : Value), (.int .u8 0 : Value)] rfl (by kernel_rfl) (by kernel_rfl) (by kernel_rfl)
      (OpenSpec.preRow_of_cond 8 hx (by kernel_rfl) (fun k hk => by cases hk) (by kernel_rfl) (laid_met os))) ?_
  intro W base args ds gs before hval hW _ _ _ hL _ _
  exact contract H enc W 0 args ds gs before (fun j t v h1 h2 => okWide_zero (hval j t v h1 h2)) rfl hW hL

theorem said : Rows.ColorBackSaid :=
  OpenClaim.holds_of_cond 3 Tryd.f3 rfl rfl rfl rfl rfl rfl rfl ⟨rfl, rfl, rfl, rfl, rfl⟩ rfl rfl rfl rfl rfl (by kernel_rfl) Tryd.func3 (by kernel_rfl)
    (of_decide_eq_true (by kernel_rfl)) (by unfold Func.isWrapper; first | (rw [if_pos (by decide +kernel)]; kernel_rfl) | (rw [if_neg (by decide +kernel)]; exact ⟨rfl, rfl⟩))
    (fun os started H enc _ F => by rw [OpenClaim.pre_eq_preRow]; exact lifted os started H enc F)

theorem plain (f : FuncId) (fn : Func) (hf : Tryd.pinned.checked.prog.funcNamed "glyphic/glyphiclaw3.ColorBack" = some f) (hfn : Tryd.pinned.checked.prog.funcs[f]? = some fn) :
    true = Tryd.pinned.checked.prog.looks [] ∧ ∀ (j : Nat) t, fn.params[j]? = some t → Tryd.pinned.checked.prog.wantsStandIn t = false := by
  obtain rfl : f = 3 := Option.some.inj ((show Tryd.prog.funcNamed "glyphic/glyphiclaw3.ColorBack" = some 3 by kernel_rfl).symm.trans hf) |>.symm
  obtain rfl : fn = Tryd.f3 := (Option.some.inj (Tryd.func3.symm.trans hfn)).symm
  refine ⟨by kernel_rfl, fun j t ht => ?_⟩
  rw [Tryd.params3] at ht
  have ht' := Array.mem_of_getElem? ht
  simp only [List.mem_toArray, List.mem_cons, List.not_mem_nil, or_false] at ht'
  rcases ht' with rfl | rfl | rfl
  · exact (show Tryd.prog.wantsStandIn 23 = false by kernel_rfl)
  · exact (show Tryd.prog.wantsStandIn 3 = false by kernel_rfl)
  · exact (show Tryd.prog.wantsStandIn 5 = false by kernel_rfl)

theorem card : Rows.ColorBackCardSaid :=
  Claim7.holds_tied_plain_at .later [] _ _ _ _ said (fun _ h => by cases h) (by kernel_rfl) (fun _ h => by cases h) colorBack_row_tie rfl ⟨rfl, rfl⟩ (by kernel_rfl) rfl plain (by kernel_rfl)
#print axioms card
end Go.Proofs.YthojeoldjhghpabDoor.colorBack
namespace Go.Proofs.YthojeoldjhghpabDoor
/-- The statement, under a short name. -/
theorem colorBack_holds : Rows.ColorBackCardSaid := colorBack.card
end Go.Proofs.YthojeoldjhghpabDoor
