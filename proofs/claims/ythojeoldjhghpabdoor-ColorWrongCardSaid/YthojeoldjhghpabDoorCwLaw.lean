/- 'glyphiclaw3.ColorWrong' answers true for every number, and leaves it as it was; the package's error is as the program's text lays it. -/
import Derived.Test.YthojeoldjhghpabDoorCwIR
import Derived.Test.YthojeoldjhghpabDoorCards
import Derived.Test.YthojeoldjhghpabDoorTie
import Derived.WalkKit
import Derived.ProofKit
import Derived.OpenShut
import Derived.Deep.DeepHandedRow
import Derived.Lib.LaidTab
namespace Go.Proofs.YthojeoldjhghpabDoor.colorWrong
set_option linter.unusedSimpArgs false
open Go.ChangeShapes Go.WideShapes Go.ChangeAt Go.RowKit Go.FR Go.FR.CW
set_option linter.unusedVariables false
set_option maxRecDepth 100000

def errs : List Er := [⟨"glyphic/api.ErrText", 0, [110, 111, 116, 32, 97, 115, 32, 105, 116, 32, 105, 115, 32, 119, 114, 105, 116, 116, 101, 110]⟩]
def H0 : Heap := errHeap 134 errs

/-! The run. -/

def cut21 : AC × AOp × AC := (splitC 21 c4).getD (.skip, ⟨none, [], .p .bad, none⟩, .skip)
def pre (a : Int) : Option (AEx × Fr × Heap) := exec (callN (lookE envL) 99) 99 cut21.1 (initT 0 [.int .i64 a] .nil) H0

theorem run (a : Int) : ∃ H', callN (lookE envL) 100 4 [.int .i64 a] H0 = some (.bool true, H') := by
  have h1 : callN (lookE envL) 100 4 [.int .i64 a] H0 = fin r4 (exec (callN (lookE envL) 99) 99 c4 (initT 0 [.int .i64 a] .nil) H0) := callN_fin (by kernel_rfl)
  have h2 : splitC 21 c4 = some (cut21.1, cut21.2.1, cut21.2.2) := by kernel_rfl
  have h3 : pre a = some (.normal, stT (pre a), stH (pre a)) := by kernel_rfl
  have h4 : Go.FR.step (callN (lookE envL) 99) cut21.2.1 (stT (pre a)) (stH (pre a)) = some (put (stT (pre a)) (some 21) (.int .i64 (wrapK a 12)), stH (pre a)) := by kernel_rfl
  have h5 := splitC_run h2 _ _ _ _ _ _ h3 h4
  rw [h1, h5]
  have h6 := wrapK_in (a := a) (n := 12) (by decide) (by decide)
  generalize wrapK a 12 = k at h6 ⊢
  refine isT_ex (allK_at (n := 12) (f := fun k => isT (fin r4 (exec (callN (lookE envL) 99) 99 cut21.2.2 (put (stT (pre a)) (some 21) (.int .i64 k)) (stH (pre a))))) ?_ k h6.1 h6.2)
  kernel_rfl

/-! The program's text. -/

theorem good : AllGood Tryd.prog cfg envL :=
  ⟨good_body Tryd.func4 (by kernel_rfl) (by kernel_rfl) (by kernel_rfl), good_body Tryd.func11 (by kernel_rfl) (by kernel_rfl) (by kernel_rfl),
   good_body Tryd.func12 (by kernel_rfl) (by kernel_rfl) (by kernel_rfl), good_body Tryd.func13 (by kernel_rfl) (by kernel_rfl) (by kernel_rfl),
   good_body Tryd.func14 (by kernel_rfl) (by kernel_rfl) (by kernel_rfl), good_body Tryd.func38 (by kernel_rfl) (by kernel_rfl) (by kernel_rfl),
   good_body Tryd.func49 (by kernel_rfl) (by kernel_rfl) (by kernel_rfl), good_prim Tryd.func52 (by kernel_rfl) (by kernel_rfl) (by kernel_rfl) (by kernel_rfl), trivial⟩

theorem errTy : ErrTy Tryd.prog "*errors.errorString" 27 134 :=
  ⟨152, 9, _, _, Tryd.underlying27, fun u hu => typeName_ptr_named (nm := "errors.errorString") (by kernel_rfl) (by kernel_rfl) (by decide +kernel) u hu, Tryd.underlying134, Tryd.underlying152, rfl, rfl, Tryd.underlying9, by kernel_rfl, by kernel_rfl⟩

theorem laidPlain (W : World) : laidMetH Tryd.prog Rows.colorWrongRow.laid W = laidMet Tryd.prog (erLaid "*errors.errorString" errs) W := by kernel_rfl

theorem contract (H : Type) (enc : TypeId × Value → H) (W : World) (base : Nat) (args : Array Value) (ds gs : List (DataW H)) (before : List MemPlace)
    (hval : ∀ (j : Nat) t v, Tryd.f4.params[j]? = some t → args[j]? = some v → Value.okWide Tryd.prog W .any base t v)
    (hW : DataW.Whole enc Tryd.prog Tryd.f4.params.toList Rows.colorWrongSpec.vars false W args.toList ds gs before) (hL : laidMetH Tryd.prog Rows.colorWrongRow.laid W) :
    Calls Tryd.prog 4 args W fun e W' => ∃ v, e = .returned v ∧ Rows.colorWrongSpec.post enc Tryd.prog Tryd.f4 false true false false W args v W' := by
  have hW' := hW
  obtain ⟨p, q, hA0, hV, rfl, hfz, hnd⟩ := hW
  have hA : DataW.TrodAll enc Tryd.prog W 0 (fun _ => true) true Tryd.f4.params.toList args.toList ds p := hA0
  rw [Tryd.params4] at hA hval
  obtain ⟨v0, vs0, d0, ds0, p0, q0, hargs, rfl, rfl, h0, r0⟩ := trodAll_cons hA
  obtain ⟨rfl, rfl, rfl⟩ := trodAll_nil r0
  obtain rfl : args = #[v0] := by cases args; simp_all
  obtain ⟨rfl, rfl⟩ := trodVars_none hV
  obtain ⟨a0, rfl, rfl, rfl, w0⟩ := open_int Tryd.underlying3 (hval 0 3 v0 rfl rfl) h0
  clear hA0
  simp only [List.append_nil] at hW'
  rw [laidPlain] at hL
  obtain ⟨ι, hR, hrw⟩ := laid_start errTy errs hL (fun e he => by
    simp only [errs, List.mem_cons, List.not_mem_nil, or_false] at he
    subst he
    exact ⟨by kernel_rfl, by kernel_rfl⟩)
  obtain ⟨H', hrun⟩ := run a0
  have walk := law_call (us := [.int .i64 a0]) (body := (Tryd.f4.body).getD .skip) good Tryd.func4 (by kernel_rfl) hR hrw (VRels.cons (show VRel ι (.int .i64 a0) (.int .i64 a0) by simp only [VRel]) VRels.nil) hrun
  refine walk.mono fun e W' ⟨he, hg⟩ => ?_
  subst he
  exact ⟨_, rfl, _, _, _, [], _, [], hW', trodAll_mk1 (shut_bool Tryd.underlying4 _), (trodAll_cons_mk (shut_int Tryd.underlying3 w0) trodAll_mk0), rfl, hg.frame _, fun h => by cases h⟩

/-! A world for the witness. -/

noncomputable def world0 (os : Os) : World := World.holding Tryd.prog os ⟨#[], #[], []⟩
noncomputable def laidWorld (os : Os) : World :=
  { world0 os with heap := ((world0 os).heap.modify 0 fun
      | .cells _ t frozen => .cells #[.iface 134 (.pointer (some ⟨(world0 os).heap.size, 0, none⟩))] t frozen
      | o => o).push (.cells #[.string ⟨#[110, 111, 116, 32, 97, 115, 32, 105, 116, 32, 105, 115, 32, 119, 114, 105, 116, 116, 101, 110]⟩] 152) }
theorem laid_met (os : Os) : laidMet Tryd.prog Rows.colorWrongRow.laid ((laidWorld os).forCall (fun _ _ => 0) ⟨#[], #[.int .i64 0], []⟩).memory :=
  laidMet_of_run' 8 (by kernel_rfl) (by kernel_rfl)
theorem reads (os : Os) {H : Type} (enc : TypeId × Value → H) : ∃ places, DataW.whole enc Tryd.prog ((laidWorld os).forCall (fun _ _ => 0) ⟨#[], #[.int .i64 0], []⟩).memory Tryd.f4.params.toList Rows.colorWrongSpec.vars false #[Value.int .i64 0].toList 8 = some ([.lit (.int .i64 0)], [], places) :=
  ⟨[], by kernel_rfl⟩
theorem own : ownKnob Tryd.prog.godebug = none := by kernel_rfl

theorem lifted (os : Os) (started : os.Started) (H : Type) (enc : TypeId × Value → H) (F : Stop.Interp) :
    ReturnsInHanded {} Tryd.checked os 4 .any ((OpenSpec.ofChange Rows.colorWrongSpec).preRow enc Tryd.prog Tryd.f4 Rows.colorWrongRow.domain false Rows.colorWrongRow.laid) (((OpenSpec.ofChange Rows.colorWrongSpec).at F).post enc Tryd.prog Tryd.f4 false true false false) := by
  obtain ⟨places, hx⟩ := reads os enc
  refine returnsInHanded_of_row (C := Tryd.checked) (s := OpenSpec.ofChange Rows.colorWrongSpec) own started (by kernel_rfl) Tryd.func4
    (witness_row_at (enc := enc) (C := Tryd.checked) false (laidWorld os) #[.int .i64 0] rfl (by kernel_rfl) (by kernel_rfl) (by kernel_rfl)
      (OpenSpec.preRow_of_cond 8 hx (by kernel_rfl) (fun k hk => by cases hk) (by kernel_rfl) (laid_met os))) ?_
  intro W base args ds gs before hval hW _ _ _ hL _ _
  exact contract H enc W base args ds gs before hval hW hL

theorem said : Rows.ColorWrongSaid :=
  OpenClaim.holds_of_cond 4 Tryd.f4 rfl rfl rfl rfl rfl rfl rfl ⟨rfl, rfl, rfl, rfl, rfl⟩ rfl rfl rfl rfl rfl (by kernel_rfl) Tryd.func4 (by kernel_rfl)
    (of_decide_eq_true (by kernel_rfl)) (by unfold Func.isWrapper; first | (rw [if_pos (by decide +kernel)]; kernel_rfl) | (rw [if_neg (by decide +kernel)]; exact ⟨rfl, rfl⟩))
    (fun os started H enc _ F => by rw [OpenClaim.pre_eq_preRow]; exact lifted os started H enc F)

theorem plain (f : FuncId) (fn : Func) (hf : Tryd.pinned.checked.prog.funcNamed "glyphic/glyphiclaw3.ColorWrong" = some f) (hfn : Tryd.pinned.checked.prog.funcs[f]? = some fn) :
    true = Tryd.pinned.checked.prog.looks [] ∧ ∀ (j : Nat) t, fn.params[j]? = some t → Tryd.pinned.checked.prog.wantsStandIn t = false := by
  obtain rfl : f = 4 := Option.some.inj ((show Tryd.prog.funcNamed "glyphic/glyphiclaw3.ColorWrong" = some 4 by kernel_rfl).symm.trans hf) |>.symm
  obtain rfl : fn = Tryd.f4 := (Option.some.inj (Tryd.func4.symm.trans hfn)).symm
  refine ⟨by kernel_rfl, fun j t ht => ?_⟩
  rw [Tryd.params4] at ht
  obtain rfl : t = 3 := by simpa using Array.mem_of_getElem? ht
  exact (show Tryd.prog.wantsStandIn 3 = false by kernel_rfl)

theorem card : Rows.ColorWrongCardSaid :=
  Claim7.holds_tied_plain_at .later [] _ _ _ _ said (fun _ h => by cases h) (by kernel_rfl) (fun _ h => by cases h) colorWrong_row_tie rfl ⟨rfl, rfl⟩ (by kernel_rfl) rfl plain (by kernel_rfl)
#print axioms card
end Go.Proofs.YthojeoldjhghpabDoor.colorWrong
namespace Go.Proofs.YthojeoldjhghpabDoor
/-- The card, under a short name. -/
theorem colorWrong_holds : Rows.ColorWrongCardSaid := colorWrong.card
end Go.Proofs.YthojeoldjhghpabDoor
