/- 'glyphiclaw12.NamesFind' answers true for every input, and leaves it as it was. -/
import Derived.Test.YthojeoldjhghpabDoorLwFind
import Derived.Test.YthojeoldjhghpabDoorGoodA
import Derived.Test.YthojeoldjhghpabDoorRows
import Derived.Test.YthojeoldjhghpabDoorCards
import Derived.Test.YthojeoldjhghpabDoorTie
import Derived.WalkKit
import Derived.ProofKit
import Derived.OpenShut
import Derived.Deep.DeepHandedRow
import Derived.Lib.LaidTab
namespace Go.Proofs.YthojeoldjhghpabDoor.namesFind
set_option linter.unusedSimpArgs false
open Go.ChangeShapes Go.WideShapes Go.ChangeAt Go.RowKit Go.FR Go.VL Go.IR
set_option linter.unusedVariables false
set_option maxRecDepth 100000

def errs : List Er := [⟨"glyphic/api.ErrText", 0, [110, 111, 116, 32, 97, 115, 32, 105, 116, 32, 105, 115, 32, 119, 114, 105, 116, 116, 101, 110]⟩, ⟨"glyphic/api.ErrName", 3, [97, 32, 110, 97, 109, 101, 32, 116, 104, 97, 116, 32, 105, 115, 32, 110, 111, 98, 111, 100, 121, 39, 115]⟩, ⟨"glyphic/api.ErrTwice", 4, [97, 32, 110, 97, 109, 101, 32, 116, 119, 105, 99, 101]⟩, ⟨"glyphic/api.ErrPath", 6, [115, 116, 101, 112, 115, 32, 116, 104, 97, 116, 32, 97, 114, 101, 32, 110, 111, 32, 112, 97, 116, 104]⟩, ⟨"glyphic/api.ErrRange", 7, [97, 32, 110, 117, 109, 98, 101, 114, 32, 111, 117, 116, 32, 111, 102, 32, 105, 116, 115, 32, 114, 97, 110, 103, 101]⟩, ⟨"glyphic/api.ErrLimit", 8, [109, 111, 114, 101, 32, 116, 104, 97, 110, 32, 109, 97, 121, 32, 98, 101]⟩, ⟨"glyphic/api.ErrShort", 1, [108, 101, 115, 115, 32, 116, 104, 97, 110, 32, 104, 97, 115, 32, 116, 111, 32, 98, 101]⟩, ⟨"glyphic/api.ErrMagic", 9, [110, 111, 116, 32, 97, 110, 32, 105, 99, 111, 110]⟩, ⟨"glyphic/api.ErrVarint", 2, [97, 32, 110, 117, 109, 98, 101, 114, 32, 116, 104, 97, 116, 32, 105, 115, 32, 110, 111, 116, 32, 119, 114, 105, 116, 116, 101, 110, 32, 115, 104, 111, 114, 116, 108, 121]⟩, ⟨"glyphic/api.ErrCanon", 10, [110, 111, 116, 32, 116, 104, 101, 32, 111, 110, 101, 32, 102, 111, 114, 109]⟩, ⟨"glyphic/api.ErrTrail", 11, [98, 121, 116, 101, 115, 32, 98, 101, 104, 105, 110, 100, 32, 116, 104, 101, 32, 101, 110, 100]⟩, ⟨"glyphic/api.ErrWidth", 12, [97, 32, 119, 105, 100, 116, 104, 32, 116, 104, 97, 116, 32, 99, 97, 110, 39, 116, 32, 98, 101]⟩, ⟨"glyphic/api.ErrBudget", 13, [109, 111, 114, 101, 32, 101, 100, 103, 101, 115, 32, 116, 104, 97, 110, 32, 109, 97, 121, 32, 98, 101]⟩]
theorem errTy : ErrTy Tryd.prog "*errors.errorString" 27 134 :=
  ⟨152, 9, _, _, Tryd.underlying27, fun u hu => typeName_ptr_named (nm := "errors.errorString") (by kernel_rfl) (by kernel_rfl) (by decide +kernel) u hu, Tryd.underlying134, Tryd.underlying152, rfl, rfl, Tryd.underlying9, by kernel_rfl, by kernel_rfl⟩
theorem laidPlain (W : World) : laidMetH Tryd.prog Rows.namesFindRow.laid W = laidMet Tryd.prog (erLaid "*errors.errorString" errs) W := by kernel_rfl

theorem laidOut : laidOutB Tryd.prog = true := by kernel_rfl

theorem contract (H : Type) (enc : TypeId × Value → H) (W : World) (base : Nat) (args : Array Value) (ds gs : List (DataW H)) (before : List MemPlace)
    (hval : ∀ (j : Nat) t v, Tryd.f9.params[j]? = some t → args[j]? = some v → Value.okWide Tryd.prog W .any base t v) (hbase : base = 0)
    (hW : DataW.Whole enc Tryd.prog Tryd.f9.params.toList Rows.namesFindSpec.vars false W args.toList ds gs before) (hL : laidMetH Tryd.prog Rows.namesFindRow.laid W) :
    Calls Tryd.prog 9 args W fun e W' => ∃ v, e = .returned v ∧ Rows.namesFindSpec.post enc Tryd.prog Tryd.f9 false true false false W args v W' := by
  subst hbase
  have hW' := hW
  have hlt : ∀ p ∈ before, p.block < W.heap.size := fun p hp => hW.lt p hp
  obtain ⟨p, q, hA0, hV, rfl, hfz, hnd⟩ := hW
  have hA : DataW.TrodAll enc Tryd.prog W 0 (fun _ => true) true Tryd.f9.params.toList args.toList ds p := hA0
  have hA1 := hA
  rw [Tryd.params9] at hA hval
  obtain ⟨v0, vs0, d0, ds0, p0, q0, hargs, rfl, rfl, h0, r0⟩ := trodAll_cons hA
  obtain ⟨v1, vs1, d1, ds1, p1, q1, rfl, rfl, rfl, h1, r1⟩ := trodAll_cons r0
  obtain ⟨v2, vs2, d2, ds2, p2, q2, rfl, rfl, rfl, h2, r2⟩ := trodAll_cons r1
  obtain ⟨v3, vs3, d3, ds3, p3, q3, rfl, rfl, rfl, h3, r3⟩ := trodAll_cons r2
  obtain ⟨v4, vs4, d4, ds4, p4, q4, rfl, rfl, rfl, h4, r4⟩ := trodAll_cons r3
  obtain ⟨rfl, rfl, rfl⟩ := trodAll_nil r4
  obtain rfl : args = #[v0, v1, v2, v3, v4] := by cases args; simp_all
  obtain ⟨rfl, rfl⟩ := trodVars_none hV
  obtain ⟨a0, k0, m0, n0⟩ := arg_int Tryd.underlying2 (hval 0 2 v0 rfl rfl) h0
  obtain ⟨a1, k1, m1, n1⟩ := arg_int Tryd.underlying2 (hval 1 2 v1 rfl rfl) h1
  obtain ⟨z2, k2, m2⟩ := arg_agg Tryd.underlying23 (flat_struct (ks := [.u8, .u8, .u8, .u8]) Tryd.underlying23 (by kernel_rfl) (fun j k hj => match j, hj with | 0, hj => ⟨_, rfl, rfl, by simp at hj; subst hj; exact Tryd.underlying5, by kernel_rfl⟩ | 1, hj => ⟨_, rfl, rfl, by simp at hj; subst hj; exact Tryd.underlying5, by kernel_rfl⟩ | 2, hj => ⟨_, rfl, rfl, by simp at hj; subst hj; exact Tryd.underlying5, by kernel_rfl⟩ | 3, hj => ⟨_, rfl, rfl, by simp at hj; subst hj; exact Tryd.underlying5, by kernel_rfl⟩ | _ + 4, hj => by simp at hj)) (hval 2 23 v2 rfl rfl) h2
  obtain ⟨b2_0, b2_1, b2_2, b2_3, rfl, e2⟩ := fit4 m2
  obtain ⟨z3, k3, m3⟩ := arg_agg Tryd.underlying23 (flat_struct (ks := [.u8, .u8, .u8, .u8]) Tryd.underlying23 (by kernel_rfl) (fun j k hj => match j, hj with | 0, hj => ⟨_, rfl, rfl, by simp at hj; subst hj; exact Tryd.underlying5, by kernel_rfl⟩ | 1, hj => ⟨_, rfl, rfl, by simp at hj; subst hj; exact Tryd.underlying5, by kernel_rfl⟩ | 2, hj => ⟨_, rfl, rfl, by simp at hj; subst hj; exact Tryd.underlying5, by kernel_rfl⟩ | 3, hj => ⟨_, rfl, rfl, by simp at hj; subst hj; exact Tryd.underlying5, by kernel_rfl⟩ | _ + 4, hj => by simp at hj)) (hval 3 23 v3 rfl rfl) h3
  obtain ⟨b3_0, b3_1, b3_2, b3_3, rfl, e3⟩ := fit4 m3
  obtain ⟨a4, k4, m4, n4⟩ := arg_int Tryd.underlying3 (hval 4 3 v4 rfl rfl) h4
  clear hA0
  simp only [List.append_nil] at hW'
  rw [laidPlain] at hL
  obtain ⟨ι, hR, hrw⟩ := laid_start errTy errs hL (fun e he => by
    simp only [errs, List.mem_cons, List.not_mem_nil, or_false] at he
    rcases he with rfl | rfl | rfl | rfl | rfl | rfl | rfl | rfl | rfl | rfl | rfl | rfl | rfl
    all_goals exact ⟨by kernel_rfl, by kernel_rfl⟩)
  have walk := law_V good (Gl := globsOf 134 errs) (body := (Tryd.f9.body).getD .skip) Tryd.func9 (by kernel_rfl) hR hrw (fun i cs q => glob_ok 134 errs i cs q)
    (vs := [v0, v1, v2, v3, v4]) (xs := [.int .i64 a0, .int .i64 a1, .agg [VV.int .u8 b2_0, VV.int .u8 b2_1, VV.int .u8 b2_2, VV.int .u8 b2_3], .agg [VV.int .u8 b3_0, VV.int .u8 b3_1, VV.int .u8 b3_2, VV.int .u8 b3_3], .int .i64 a4]) ⟨k0, k1, k2, k3, k4, trivial⟩ (Go.VL.Nm.namesFind _ (Go.VL.Er.glob_all (by decide)) a0 m0 n0 a1 m1 n1 b2_0 b2_1 b2_2 b2_3 e2 b3_0 b3_1 b3_2 b3_3 e3 a4 m4 n4)
  refine walk.mono fun e W' ⟨he, hg⟩ => ?_
  subst he
  have hB := trodAll_below laidOut hg (fun t ht => by
    rw [Tryd.params9] at ht
    simp only [List.mem_cons, List.not_mem_nil, or_false] at ht
    rcases ht with rfl | rfl | rfl | rfl | rfl
    all_goals exact ⟨by kernel_rfl, of_decide_eq_true (by kernel_rfl)⟩) hA1 (fun x hx => hlt x (List.mem_append_left _ hx))
  exact ⟨_, rfl, _, _, _, [], _, [], hW', trodAll_mk1 (shut_bool Tryd.underlying4 _), hB, rfl, hg.frame _, fun h => by cases h⟩

/-! A world for the witness. -/

noncomputable def world0 (os : Os) : World := World.holding Tryd.prog os ⟨#[], #[], []⟩
noncomputable def base (os : Os) : Nat := (world0 os).heap.size
def lay (t b : Nat) : Obj → Obj
  | .cells _ e fz => .cells #[.iface t (.pointer (some ⟨b, 0, none⟩))] e fz
  | o => o
noncomputable def laidWorld (os : Os) : World :=
  { world0 os with heap := (((((((((((((((((((((((((((world0 os).heap.modify 0 (lay 134 (base os + 0))).modify 3 (lay 134 (base os + 1))).modify 4 (lay 134 (base os + 2))).modify 6 (lay 134 (base os + 3))).modify 7 (lay 134 (base os + 4))).modify 8 (lay 134 (base os + 5))).modify 1 (lay 134 (base os + 6))).modify 9 (lay 134 (base os + 7))).modify 2 (lay 134 (base os + 8))).modify 10 (lay 134 (base os + 9))).modify 11 (lay 134 (base os + 10))).modify 12 (lay 134 (base os + 11))).modify 13 (lay 134 (base os + 12))).push (.cells #[.string ⟨#[110, 111, 116, 32, 97, 115, 32, 105, 116, 32, 105, 115, 32, 119, 114, 105, 116, 116, 101, 110]⟩] 152)).push (.cells #[.string ⟨#[97, 32, 110, 97, 109, 101, 32, 116, 104, 97, 116, 32, 105, 115, 32, 110, 111, 98, 111, 100, 121, 39, 115]⟩] 152)).push (.cells #[.string ⟨#[97, 32, 110, 97, 109, 101, 32, 116, 119, 105, 99, 101]⟩] 152)).push (.cells #[.string ⟨#[115, 116, 101, 112, 115, 32, 116, 104, 97, 116, 32, 97, 114, 101, 32, 110, 111, 32, 112, 97, 116, 104]⟩] 152)).push (.cells #[.string ⟨#[97, 32, 110, 117, 109, 98, 101, 114, 32, 111, 117, 116, 32, 111, 102, 32, 105, 116, 115, 32, 114, 97, 110, 103, 101]⟩] 152)).push (.cells #[.string ⟨#[109, 111, 114, 101, 32, 116, 104, 97, 110, 32, 109, 97, 121, 32, 98, 101]⟩] 152)).push (.cells #[.string ⟨#[108, 101, 115, 115, 32, 116, 104, 97, 110, 32, 104, 97, 115, 32, 116, 111, 32, 98, 101]⟩] 152)).push (.cells #[.string ⟨#[110, 111, 116, 32, 97, 110, 32, 105, 99, 111, 110]⟩] 152)).push (.cells #[.string ⟨#[97, 32, 110, 117, 109, 98, 101, 114, 32, 116, 104, 97, 116, 32, 105, 115, 32, 110, 111, 116, 32, 119, 114, 105, 116, 116, 101, 110, 32, 115, 104, 111, 114, 116, 108, 121]⟩] 152)).push (.cells #[.string ⟨#[110, 111, 116, 32, 116, 104, 101, 32, 111, 110, 101, 32, 102, 111, 114, 109]⟩] 152)).push (.cells #[.string ⟨#[98, 121, 116, 101, 115, 32, 98, 101, 104, 105, 110, 100, 32, 116, 104, 101, 32, 101, 110, 100]⟩] 152)).push (.cells #[.string ⟨#[97, 32, 119, 105, 100, 116, 104, 32, 116, 104, 97, 116, 32, 99, 97, 110, 39, 116, 32, 98, 101]⟩] 152)).push (.cells #[.string ⟨#[109, 111, 114, 101, 32, 101, 100, 103, 101, 115, 32, 116, 104, 97, 110, 32, 109, 97, 121, 32, 98, 101]⟩] 152)) }
theorem laid_met (os : Os) : laidMet Tryd.prog Rows.namesFindRow.laid ((laidWorld os).forCall (fun _ _ => 0) ⟨#[], #[(.int .i64 0 : Value), (.int .i64 0 : Value), (.agg #[.int .u8 0, .int .u8 0, .int .u8 0, .int .u8 0] : Value), (.agg #[.int .u8 0, .int .u8 0, .int .u8 0, .int .u8 0] : Value), (.int .i64 0 : Value)], []⟩).memory :=
  laidMet_of_run' 8 (by kernel_rfl) (by kernel_rfl)
theorem reads (os : Os) {H : Type} (enc : TypeId × Value → H) : ∃ places, DataW.whole enc Tryd.prog ((laidWorld os).forCall (fun _ _ => 0) ⟨#[], #[(.int .i64 0 : Value), (.int .i64 0 : Value), (.agg #[.int .u8 0, .int .u8 0, .int .u8 0, .int .u8 0] : Value), (.agg #[.int .u8 0, .int .u8 0, .int .u8 0, .int .u8 0] : Value), (.int .i64 0 : Value)], []⟩).memory Tryd.f9.params.toList Rows.namesFindSpec.vars false #[(.int .i64 0 : Value), (.int .i64 0 : Value), (.agg #[.int .u8 0, .int .u8 0, .int .u8 0, .int .u8 0] : Value), (.agg #[.int .u8 0, .int .u8 0, .int .u8 0, .int .u8 0] : Value), (.int .i64 0 : Value)].toList 8 = some ([.lit (.int .i64 0), .lit (.int .i64 0), .agg [.lit (.int .u8 0), .lit (.int .u8 0), .lit (.int .u8 0), .lit (.int .u8 0)], .agg [.lit (.int .u8 0), .lit (.int .u8 0), .lit (.int .u8 0), .lit (.int .u8 0)], .lit (.int .i64 0)], [], places) :=
  ⟨[], by kernel_rfl⟩
theorem own : ownKnob Tryd.prog.godebug = none := by kernel_rfl

theorem lifted (os : Os) (started : os.Started) (H : Type) (enc : TypeId × Value → H) (F : Stop.Interp) :
    ReturnsInHanded {} Tryd.checked os 9 .any ((OpenSpec.ofChange Rows.namesFindSpec).preRow enc Tryd.prog Tryd.f9 Rows.namesFindRow.domain false Rows.namesFindRow.laid) (((OpenSpec.ofChange Rows.namesFindSpec).at F).post enc Tryd.prog Tryd.f9 false true false false) := by
  obtain ⟨places, hx⟩ := reads os enc
  refine returnsInHanded_of_row (C := Tryd.checked) (s := OpenSpec.ofChange Rows.namesFindSpec) own started (by kernel_rfl) Tryd.func9
    (witness_row_at (enc := enc) (C := Tryd.checked) false (laidWorld os) #[(.int .i64 0 : Value), (.int .i64 0 : Value), (.agg #[.int .u8 0, .int .u8 0, .int .u8 0, .int .u8 0] : Value), (.agg #[.int .u8 0, .int .u8 0, .int .u8 0, .int .u8 0] : Value), (.int .i64 0 : Value)] rfl (by kernel_rfl) (by kernel_rfl) (by kernel_rfl)
      (OpenSpec.preRow_of_cond 8 hx (by kernel_rfl) (fun k hk => by cases hk) (by kernel_rfl) (laid_met os))) ?_
  intro W base args ds gs before hval hW _ _ _ hL _ _
  exact contract H enc W 0 args ds gs before (fun j t v h1 h2 => okWide_zero (hval j t v h1 h2)) rfl hW hL

theorem said : Rows.NamesFindSaid :=
  OpenClaim.holds_of_cond 9 Tryd.f9 rfl rfl rfl rfl rfl rfl rfl ⟨rfl, rfl, rfl, rfl, rfl⟩ rfl rfl rfl rfl rfl (by kernel_rfl) Tryd.func9 (by kernel_rfl)
    (of_decide_eq_true (by kernel_rfl)) (by unfold Func.isWrapper; first | (rw [if_pos (by decide +kernel)]; kernel_rfl) | (rw [if_neg (by decide +kernel)]; exact ⟨rfl, rfl⟩))
    (fun os started H enc _ F => by rw [OpenClaim.pre_eq_preRow]; exact lifted os started H enc F)

theorem plain (f : FuncId) (fn : Func) (hf : Tryd.pinned.checked.prog.funcNamed "glyphic/glyphiclaw12.NamesFind" = some f) (hfn : Tryd.pinned.checked.prog.funcs[f]? = some fn) :
    true = Tryd.pinned.checked.prog.looks [] ∧ ∀ (j : Nat) t, fn.params[j]? = some t → Tryd.pinned.checked.prog.wantsStandIn t = false := by
  obtain rfl : f = 9 := Option.some.inj ((show Tryd.prog.funcNamed "glyphic/glyphiclaw12.NamesFind" = some 9 by kernel_rfl).symm.trans hf) |>.symm
  obtain rfl : fn = Tryd.f9 := (Option.some.inj (Tryd.func9.symm.trans hfn)).symm
  refine ⟨by kernel_rfl, fun j t ht => ?_⟩
  rw [Tryd.params9] at ht
  have ht' := Array.mem_of_getElem? ht
  simp only [List.mem_toArray, List.mem_cons, List.not_mem_nil, or_false] at ht'
  rcases ht' with rfl | rfl | rfl | rfl | rfl
  · exact (show Tryd.prog.wantsStandIn 2 = false by kernel_rfl)
  · exact (show Tryd.prog.wantsStandIn 2 = false by kernel_rfl)
  · exact (show Tryd.prog.wantsStandIn 23 = false by kernel_rfl)
  · exact (show Tryd.prog.wantsStandIn 23 = false by kernel_rfl)
  · exact (show Tryd.prog.wantsStandIn 3 = false by kernel_rfl)

theorem card : Rows.NamesFindCardSaid :=
  Claim7.holds_tied_plain_at .later [] _ _ _ _ said (fun _ h => by cases h) (by kernel_rfl) (fun _ h => by cases h) namesFind_row_tie rfl ⟨rfl, rfl⟩ (by kernel_rfl) rfl plain (by kernel_rfl)
#print axioms card
end Go.Proofs.YthojeoldjhghpabDoor.namesFind
namespace Go.Proofs.YthojeoldjhghpabDoor
/-- The statement, under a short name. -/
theorem namesFind_holds : Rows.NamesFindCardSaid := namesFind.card
end Go.Proofs.YthojeoldjhghpabDoor
