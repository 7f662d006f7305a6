/- 'glyphic/glyphiclaw7.DecodeErrors' answers true for every number, and leaves it as it was; the package's errors are as the program's text lays them. -/
import Derived.Test.YtgebbopcagmmkaaDoorDeIR
import Derived.Test.YtgebbopcagmmkaaDoorCards
import Derived.Test.YtgebbopcagmmkaaDoorTie
import Derived.WalkKit
import Derived.ProofKit
import Derived.OpenShut
import Derived.Deep.DeepHandedRow
import Derived.Lib.LaidTab
namespace Go.Proofs.YtgebbopcagmmkaaDoor.decodeErrors
set_option linter.unusedVariables false
set_option linter.unusedSimpArgs false
open Go.ChangeShapes Go.WideShapes Go.ChangeAt Go.RowKit Go.FR Go.FR.DE
set_option maxRecDepth 100000

noncomputable def errs : List Er := [
  ⟨"glyphic/api.ErrText", 5, [110, 111, 116, 32, 97, 115, 32, 105, 116, 32, 105, 115, 32, 119, 114, 105, 116, 116, 101, 110]⟩,
  ⟨"glyphic/api.ErrName", 8, [97, 32, 110, 97, 109, 101, 32, 116, 104, 97, 116, 32, 105, 115, 32, 110, 111, 98, 111, 100, 121, 39, 115]⟩,
  ⟨"glyphic/api.ErrTwice", 9, [97, 32, 110, 97, 109, 101, 32, 116, 119, 105, 99, 101]⟩,
  ⟨"glyphic/api.ErrPath", 10, [115, 116, 101, 112, 115, 32, 116, 104, 97, 116, 32, 97, 114, 101, 32, 110, 111, 32, 112, 97, 116, 104]⟩,
  ⟨"glyphic/api.ErrRange", 6, [97, 32, 110, 117, 109, 98, 101, 114, 32, 111, 117, 116, 32, 111, 102, 32, 105, 116, 115, 32, 114, 97, 110, 103, 101]⟩,
  ⟨"glyphic/api.ErrLimit", 0, [109, 111, 114, 101, 32, 116, 104, 97, 110, 32, 109, 97, 121, 32, 98, 101]⟩,
  ⟨"glyphic/api.ErrShort", 1, [108, 101, 115, 115, 32, 116, 104, 97, 110, 32, 104, 97, 115, 32, 116, 111, 32, 98, 101]⟩,
  ⟨"glyphic/api.ErrMagic", 2, [110, 111, 116, 32, 97, 110, 32, 105, 99, 111, 110]⟩,
  ⟨"glyphic/api.ErrVarint", 11, [97, 32, 110, 117, 109, 98, 101, 114, 32, 116, 104, 97, 116, 32, 105, 115, 32, 110, 111, 116, 32, 119, 114, 105, 116, 116, 101, 110, 32, 115, 104, 111, 114, 116, 108, 121]⟩,
  ⟨"glyphic/api.ErrCanon", 3, [110, 111, 116, 32, 116, 104, 101, 32, 111, 110, 101, 32, 102, 111, 114, 109]⟩,
  ⟨"glyphic/api.ErrTrail", 4, [98, 121, 116, 101, 115, 32, 98, 101, 104, 105, 110, 100, 32, 116, 104, 101, 32, 101, 110, 100]⟩,
  ⟨"glyphic/api.ErrWidth", 12, [97, 32, 119, 105, 100, 116, 104, 32, 116, 104, 97, 116, 32, 99, 97, 110, 39, 116, 32, 98, 101]⟩,
  ⟨"glyphic/api.ErrBudget", 13, [109, 111, 114, 101, 32, 101, 100, 103, 101, 115, 32, 116, 104, 97, 110, 32, 109, 97, 121, 32, 98, 101]⟩]
noncomputable def H0 : Heap := errHeap 209 errs

/-! The run. -/

noncomputable def cutAt : AC × AOp × AC := (splitC 51 c3).getD (.skip, ⟨none, [], .p .bad, none⟩, .skip)
noncomputable def pre (a : Int) : Option (AEx × Fr × Heap) := exec (callNS (lookE envL) 199) 199 cutAt.1 (initT 0 [.int .i64 a] .nil) H0

theorem run (a : Int) : ∃ H', callN (lookE envL) 200 3 [.int .i64 a] H0 = some (.bool true, H') := by
  have h1 : callN (lookE envL) 200 3 [.int .i64 a] H0 = fin r3 (exec (callN (lookE envL) 199) 199 c3 (initT 0 [.int .i64 a] .nil) H0) := callN_fin (by kernel_rfl)
  have h2 : splitC 51 c3 = some (cutAt.1, cutAt.2.1, cutAt.2.2) := by kernel_rfl
  have h3 : exec (callN (lookE envL) 199) 199 cutAt.1 (initT 0 [.int .i64 a] .nil) H0 = some (.normal, stT (pre a), stH (pre a)) := by
    rw [← callNS_eq]
    kernel_rfl
  have h4 : Go.FR.step (callN (lookE envL) 199) cutAt.2.1 (stT (pre a)) (stH (pre a)) = some (put (stT (pre a)) (some 51) (.int .i64 (wrapK a 20)), stH (pre a)) := by kernel_rfl
  have h5 := splitC_run h2 _ _ _ _ _ _ h3 h4
  rw [h1, h5]
  have h6 := wrapK_in (a := a) (n := 20) (by decide) (by decide)
  generalize wrapK a 20 = k at h6 ⊢
  rw [← callNS_eq, ← execS_eq]
  refine isT_ex (allK_at (n := 20) (f := fun k => isT (fin r3 (execS (callNS (lookE envL) 199) 199 cutAt.2.2 (put (stT (pre a)) (some 51) (.int .i64 k)) (stH (pre a))))) ?_ k h6.1 h6.2)
  kernel_rfl

/-! The program's text. -/

theorem good : AllGood Tryd.prog cfg envL :=
  ⟨good_body Tryd.func3 (by kernel_rfl) (by kernel_rfl) (by kernel_rfl),
   good_body Tryd.func9 (by kernel_rfl) (by kernel_rfl) (by kernel_rfl),
   good_body Tryd.func10 (by kernel_rfl) (by kernel_rfl) (by kernel_rfl),
   good_body Tryd.func11 (by kernel_rfl) (by kernel_rfl) (by kernel_rfl),
   good_body Tryd.func12 (by kernel_rfl) (by kernel_rfl) (by kernel_rfl),
   good_body Tryd.func25 (by kernel_rfl) (by kernel_rfl) (by kernel_rfl),
   good_body Tryd.func26 (by kernel_rfl) (by kernel_rfl) (by kernel_rfl),
   good_body Tryd.func27 (by kernel_rfl) (by kernel_rfl) (by kernel_rfl),
   good_body Tryd.func28 (by kernel_rfl) (by kernel_rfl) (by kernel_rfl),
   good_body Tryd.func29 (by kernel_rfl) (by kernel_rfl) (by kernel_rfl),
   good_body Tryd.func30 (by kernel_rfl) (by kernel_rfl) (by kernel_rfl),
   good_body Tryd.func31 (by kernel_rfl) (by kernel_rfl) (by kernel_rfl),
   good_body Tryd.func32 (by kernel_rfl) (by kernel_rfl) (by kernel_rfl),
   good_body Tryd.func33 (by kernel_rfl) (by kernel_rfl) (by kernel_rfl),
   good_body Tryd.func45 (by kernel_rfl) (by kernel_rfl) (by kernel_rfl),
   good_body Tryd.func46 (by kernel_rfl) (by kernel_rfl) (by kernel_rfl),
   good_body Tryd.func50 (by kernel_rfl) (by kernel_rfl) (by kernel_rfl),
   good_body Tryd.func51 (by kernel_rfl) (by kernel_rfl) (by kernel_rfl),
   good_body Tryd.func52 (by kernel_rfl) (by kernel_rfl) (by kernel_rfl),
   good_body Tryd.func53 (by kernel_rfl) (by kernel_rfl) (by kernel_rfl),
   good_body Tryd.func54 (by kernel_rfl) (by kernel_rfl) (by kernel_rfl),
   good_body Tryd.func78 (by kernel_rfl) (by kernel_rfl) (by kernel_rfl),
   good_body Tryd.func82 (by kernel_rfl) (by kernel_rfl) (by kernel_rfl),
   good_body Tryd.func83 (by kernel_rfl) (by kernel_rfl) (by kernel_rfl),
   good_body Tryd.func84 (by kernel_rfl) (by kernel_rfl) (by kernel_rfl),
   good_body Tryd.func85 (by kernel_rfl) (by kernel_rfl) (by kernel_rfl),
   good_body Tryd.func86 (by kernel_rfl) (by kernel_rfl) (by kernel_rfl),
   good_body Tryd.func87 (by kernel_rfl) (by kernel_rfl) (by kernel_rfl),
   good_body Tryd.func88 (by kernel_rfl) (by kernel_rfl) (by kernel_rfl),
   good_body Tryd.func89 (by kernel_rfl) (by kernel_rfl) (by kernel_rfl),
   good_body Tryd.func115 (by kernel_rfl) (by kernel_rfl) (by kernel_rfl), trivial⟩

theorem errTy : ErrTy Tryd.prog "*errors.errorString" 31 209 :=
  ⟨211, 9, _, _, Tryd.underlying31, fun u hu => typeName_ptr_named (nm := "errors.errorString") (by kernel_rfl) (by kernel_rfl) (by decide +kernel) u hu, Tryd.underlying209, Tryd.underlying211, rfl, rfl, Tryd.underlying9, by kernel_rfl, by kernel_rfl⟩

theorem laidPlain (W : World) : laidMetH Tryd.prog Rows.decodeErrorsRow.laid W = laidMet Tryd.prog (erLaid "*errors.errorString" errs) W := by kernel_rfl

theorem contract (H : Type) (enc : TypeId × Value → H) (W : World) (base : Nat) (args : Array Value) (ds gs : List (DataW H)) (before : List MemPlace)
    (hval : ∀ (j : Nat) t v, Tryd.f3.params[j]? = some t → args[j]? = some v → Value.okWide Tryd.prog W .any base t v)
    (hW : DataW.Whole enc Tryd.prog Tryd.f3.params.toList Rows.decodeErrorsSpec.vars false W args.toList ds gs before) (hL : laidMetH Tryd.prog Rows.decodeErrorsRow.laid W) :
    Calls Tryd.prog 3 args W fun e W' => ∃ v, e = .returned v ∧ Rows.decodeErrorsSpec.post enc Tryd.prog Tryd.f3 false true false false W args v W' := by
  have hW' := hW
  obtain ⟨p, q, hA0, hV, rfl, hfz, hnd⟩ := hW
  have hA : DataW.TrodAll enc Tryd.prog W 0 (fun _ => true) true Tryd.f3.params.toList args.toList ds p := hA0
  rw [Tryd.params3] at hA hval
  obtain ⟨v0, vs0, d0, ds0, p0, q0, hargs, rfl, rfl, h0, r0⟩ := trodAll_cons hA
  obtain ⟨rfl, rfl, rfl⟩ := trodAll_nil r0
  obtain rfl : args = #[v0] := by cases args; simp_all
  obtain ⟨rfl, rfl⟩ := trodVars_none hV
  obtain ⟨a0, rfl, rfl, rfl, w0⟩ := open_int Tryd.underlying3 (hval 0 3 v0 rfl rfl) h0
  clear hA0
  simp only [List.append_nil] at hW'
  rw [laidPlain] at hL
  obtain ⟨ι, hR, hrw⟩ := laid_start errTy errs hL (fun e he => by
    simp only [errs, List.mem_cons, List.not_mem_nil, or_false] at he
    rcases he with rfl | rfl | rfl | rfl | rfl | rfl | rfl | rfl | rfl | rfl | rfl | rfl | rfl <;> exact ⟨by kernel_rfl, by kernel_rfl⟩)
  obtain ⟨H', hrun⟩ := run a0
  have walk := law_call (us := [.int .i64 a0]) (body := (Tryd.f3.body).getD .skip) good Tryd.func3 (by kernel_rfl) hR hrw (VRels.cons (show VRel ι (.int .i64 a0) (.int .i64 a0) by simp only [VRel]) VRels.nil) hrun
  refine walk.mono fun e W' ⟨he, hg⟩ => ?_
  subst he
  exact ⟨_, rfl, _, _, _, [], _, [], hW', trodAll_mk1 (shut_bool Tryd.underlying4 _), (trodAll_cons_mk (shut_int Tryd.underlying3 w0) trodAll_mk0), rfl, hg.frame _, fun h => by cases h⟩

/-! A world for the witness. -/

noncomputable def world0 (os : Os) : World := World.holding Tryd.prog os ⟨#[], #[], []⟩
noncomputable def base (os : Os) : Nat := (world0 os).heap.size
def lay (t b : Nat) : Obj → Obj
  | .cells _ e fz => .cells #[.iface t (.pointer (some ⟨b, 0, none⟩))] e fz
  | o => o
noncomputable def laidWorld (os : Os) : World :=
  { world0 os with heap := (((((((((((((((((((((((((((world0 os).heap).modify 5 (lay (209) (base os + 0))).modify 8 (lay (209) (base os + 1))).modify 9 (lay (209) (base os + 2))).modify 10 (lay (209) (base os + 3))).modify 6 (lay (209) (base os + 4))).modify 0 (lay (209) (base os + 5))).modify 1 (lay (209) (base os + 6))).modify 2 (lay (209) (base os + 7))).modify 11 (lay (209) (base os + 8))).modify 3 (lay (209) (base os + 9))).modify 4 (lay (209) (base os + 10))).modify 12 (lay (209) (base os + 11))).modify 13 (lay (209) (base os + 12))).push (.cells #[.string ⟨#[110, 111, 116, 32, 97, 115, 32, 105, 116, 32, 105, 115, 32, 119, 114, 105, 116, 116, 101, 110]⟩] 211)).push (.cells #[.string ⟨#[97, 32, 110, 97, 109, 101, 32, 116, 104, 97, 116, 32, 105, 115, 32, 110, 111, 98, 111, 100, 121, 39, 115]⟩] 211)).push (.cells #[.string ⟨#[97, 32, 110, 97, 109, 101, 32, 116, 119, 105, 99, 101]⟩] 211)).push (.cells #[.string ⟨#[115, 116, 101, 112, 115, 32, 116, 104, 97, 116, 32, 97, 114, 101, 32, 110, 111, 32, 112, 97, 116, 104]⟩] 211)).push (.cells #[.string ⟨#[97, 32, 110, 117, 109, 98, 101, 114, 32, 111, 117, 116, 32, 111, 102, 32, 105, 116, 115, 32, 114, 97, 110, 103, 101]⟩] 211)).push (.cells #[.string ⟨#[109, 111, 114, 101, 32, 116, 104, 97, 110, 32, 109, 97, 121, 32, 98, 101]⟩] 211)).push (.cells #[.string ⟨#[108, 101, 115, 115, 32, 116, 104, 97, 110, 32, 104, 97, 115, 32, 116, 111, 32, 98, 101]⟩] 211)).push (.cells #[.string ⟨#[110, 111, 116, 32, 97, 110, 32, 105, 99, 111, 110]⟩] 211)).push (.cells #[.string ⟨#[97, 32, 110, 117, 109, 98, 101, 114, 32, 116, 104, 97, 116, 32, 105, 115, 32, 110, 111, 116, 32, 119, 114, 105, 116, 116, 101, 110, 32, 115, 104, 111, 114, 116, 108, 121]⟩] 211)).push (.cells #[.string ⟨#[110, 111, 116, 32, 116, 104, 101, 32, 111, 110, 101, 32, 102, 111, 114, 109]⟩] 211)).push (.cells #[.string ⟨#[98, 121, 116, 101, 115, 32, 98, 101, 104, 105, 110, 100, 32, 116, 104, 101, 32, 101, 110, 100]⟩] 211)).push (.cells #[.string ⟨#[97, 32, 119, 105, 100, 116, 104, 32, 116, 104, 97, 116, 32, 99, 97, 110, 39, 116, 32, 98, 101]⟩] 211)).push (.cells #[.string ⟨#[109, 111, 114, 101, 32, 101, 100, 103, 101, 115, 32, 116, 104, 97, 110, 32, 109, 97, 121, 32, 98, 101]⟩] 211) }
theorem laid_met (os : Os) : laidMet Tryd.prog Rows.decodeErrorsRow.laid ((laidWorld os).forCall (fun _ _ => 0) ⟨#[], #[.int .i64 0], []⟩).memory :=
  laidMet_of_run' 8 (by kernel_rfl) (by kernel_rfl)
theorem reads (os : Os) {H : Type} (enc : TypeId × Value → H) : ∃ places, DataW.whole enc Tryd.prog ((laidWorld os).forCall (fun _ _ => 0) ⟨#[], #[.int .i64 0], []⟩).memory Tryd.f3.params.toList Rows.decodeErrorsSpec.vars false #[Value.int .i64 0].toList 8 = some ([.lit (.int .i64 0)], [], places) :=
  ⟨[], by kernel_rfl⟩
theorem own : ownKnob Tryd.prog.godebug = none := by kernel_rfl

theorem lifted (os : Os) (started : os.Started) (H : Type) (enc : TypeId × Value → H) (F : Stop.Interp) :
    ReturnsInHanded {} Tryd.checked os 3 .any ((OpenSpec.ofChange Rows.decodeErrorsSpec).preRow enc Tryd.prog Tryd.f3 Rows.decodeErrorsRow.domain false Rows.decodeErrorsRow.laid) (((OpenSpec.ofChange Rows.decodeErrorsSpec).at F).post enc Tryd.prog Tryd.f3 false true false false) := by
  obtain ⟨places, hx⟩ := reads os enc
  refine returnsInHanded_of_row (C := Tryd.checked) (s := OpenSpec.ofChange Rows.decodeErrorsSpec) own started (by kernel_rfl) Tryd.func3
    (witness_row_at (enc := enc) (C := Tryd.checked) false (laidWorld os) #[.int .i64 0] rfl (by kernel_rfl) (by kernel_rfl) (by kernel_rfl)
      (OpenSpec.preRow_of_cond 8 hx (by kernel_rfl) (fun k hk => by cases hk) (by kernel_rfl) (laid_met os))) ?_
  intro W base args ds gs before hval hW _ _ _ hL _ _
  exact contract H enc W base args ds gs before hval hW hL

theorem said : Rows.DecodeErrorsSaid :=
  OpenClaim.holds_of_cond 3 Tryd.f3 rfl rfl rfl rfl rfl rfl rfl ⟨rfl, rfl, rfl, rfl, rfl⟩ rfl rfl rfl rfl rfl (by kernel_rfl) Tryd.func3 (by kernel_rfl)
    (of_decide_eq_true (by kernel_rfl)) (by unfold Func.isWrapper; first | (rw [if_pos (by decide +kernel)]; kernel_rfl) | (rw [if_neg (by decide +kernel)]; exact ⟨rfl, rfl⟩))
    (fun os started H enc _ F => by rw [OpenClaim.pre_eq_preRow]; exact lifted os started H enc F)

theorem plain (f : FuncId) (fn : Func) (hf : Tryd.pinned.checked.prog.funcNamed "glyphic/glyphiclaw7.DecodeErrors" = some f) (hfn : Tryd.pinned.checked.prog.funcs[f]? = some fn) :
    true = Tryd.pinned.checked.prog.looks [] ∧ ∀ (j : Nat) t, fn.params[j]? = some t → Tryd.pinned.checked.prog.wantsStandIn t = false := by
  obtain rfl : f = 3 := Option.some.inj ((show Tryd.prog.funcNamed "glyphic/glyphiclaw7.DecodeErrors" = some 3 by kernel_rfl).symm.trans hf) |>.symm
  obtain rfl : fn = Tryd.f3 := (Option.some.inj (Tryd.func3.symm.trans hfn)).symm
  refine ⟨by kernel_rfl, fun j t ht => ?_⟩
  rw [Tryd.params3] at ht
  obtain rfl : t = 3 := by simpa using Array.mem_of_getElem? ht
  exact (show Tryd.prog.wantsStandIn 3 = false by kernel_rfl)

theorem card : Rows.DecodeErrorsCardSaid :=
  Claim7.holds_tied_plain_at .later [] _ _ _ _ said (fun _ h => by cases h) (by kernel_rfl) (fun _ h => by cases h) decodeErrors_row_tie rfl ⟨rfl, rfl⟩ (by kernel_rfl) rfl plain (by kernel_rfl)
#print axioms card
end Go.Proofs.YtgebbopcagmmkaaDoor.decodeErrors
namespace Go.Proofs.YtgebbopcagmmkaaDoor
/-- The card, under a short name. -/
theorem decodeErrors_holds : Rows.DecodeErrorsCardSaid := decodeErrors.card
end Go.Proofs.YtgebbopcagmmkaaDoor
