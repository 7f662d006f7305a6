/- 'glyphiclaw9.NumberSays' answers true for every input, and leaves it as it was. -/
import Derived.Test.YtlgkadhogiedoaaDoorNuU
import Derived.Test.YtlgkadhogiedoaaDoorGoodA
import Derived.Test.YtlgkadhogiedoaaDoorRows
import Derived.Test.YtlgkadhogiedoaaDoorCards
import Derived.Test.YtlgkadhogiedoaaDoorTie
import Derived.WalkKit
import Derived.ProofKit
import Derived.OpenShut
import Derived.Deep.DeepHandedRow
import Derived.Lib.LaidTab
set_option linter.unusedSimpArgs false
set_option linter.unusedVariables false
namespace Go.Proofs.YtlgkadhogiedoaaDoor.numberSays
open Go.ChangeShapes Go.WideShapes Go.ChangeAt Go.RowKit Go.FR Go.VL Go.IR
set_option maxRecDepth 100000
def errs:List Er:=[⟨"glyphic/api.ErrText", 0,[110,111,116,32,97,115,32,105,116,32,105,115,32,119,114,105,116,116,101,110]⟩,⟨"glyphic/api.ErrName", 2,[97,32,110,97,109,101,32,116,104,97,116,32,105,115,32,110,111,98,111,100,121,39,115]⟩,⟨"glyphic/api.ErrTwice", 7,[97,32,110,97,109,101,32,116,119,105,99,101]⟩,⟨"glyphic/api.ErrPath", 10,[115,116,101,112,115,32,116,104,97,116,32,97,114,101,32,110,111,32,112,97,116,104]⟩,⟨"glyphic/api.ErrRange", 8,[97,32,110,117,109,98,101,114,32,111,117,116,32,111,102,32,105,116,115,32,114,97,110,103,101]⟩,⟨"glyphic/api.ErrLimit", 1,[109,111,114,101,32,116,104,97,110,32,109,97,121,32,98,101]⟩,⟨"glyphic/api.ErrShort", 3,[108,101,115,115,32,116,104,97,110,32,104,97,115,32,116,111,32,98,101]⟩,⟨"glyphic/api.ErrMagic", 4,[110,111,116,32,97,110,32,105,99,111,110]⟩,⟨"glyphic/api.ErrVarint", 11,[97,32,110,117,109,98,101,114,32,116,104,97,116,32,105,115,32,110,111,116,32,119,114,105,116,116,101,110,32,115,104,111,114,116,108,121]⟩,⟨"glyphic/api.ErrCanon", 5,[110,111,116,32,116,104,101,32,111,110,101,32,102,111,114,109]⟩,⟨"glyphic/api.ErrTrail", 6,[98,121,116,101,115,32,98,101,104,105,110,100,32,116,104,101,32,101,110,100]⟩,⟨"glyphic/api.ErrWidth", 12,[97,32,119,105,100,116,104,32,116,104,97,116,32,99,97,110,39,116,32,98,101]⟩,⟨"glyphic/api.ErrBudget", 13,[109,111,114,101,32,101,100,103,101,115,32,116,104,97,110,32,109,97,121,32,98,101]⟩]
theorem errTy:ErrTy Tryd.prog "*errors.errorString" 24 336 :=
 ⟨338,9,_,_,Tryd.underlying24,fun u hu=>typeName_ptr_named (nm := "errors.errorString") (by kernel_rfl) (by kernel_rfl) (by decide +kernel) u hu,Tryd.underlying336,Tryd.underlying338,rfl,rfl,Tryd.underlying9,by kernel_rfl,by kernel_rfl⟩
theorem laidPlain (W:World):laidMetH Tryd.prog Rows.numberSaysRow.laid W=laidMet Tryd.prog Rows.numberSaysRow.laid W:=by kernel_rfl
theorem laidParts:Rows.numberSaysRow.laid.take 6++(erLaid "*errors.errorString" errs++Rows.numberSaysRow.laid.drop 19)=Rows.numberSaysRow.laid:=by kernel_rfl
theorem laidOut:laidOutB Tryd.prog=true:=by kernel_rfl
theorem contract (H:Type) (enc:TypeId × Value→H) (W:World) (base:Nat) (args:Array Value) (ds gs:List (DataW H)) (before:List MemPlace)
  (hval:∀ (j:Nat) t v,Tryd.f3.params[j]?=some t→args[j]?=some v→Value.okWide Tryd.prog W .any base t v) (hbase:base=0)
  (hW:DataW.Whole enc Tryd.prog Tryd.f3.params.toList Rows.numberSaysSpec.vars false W args.toList ds gs before) (hL:laidMetH Tryd.prog Rows.numberSaysRow.laid W) :
  Calls Tryd.prog 3 args W fun e W'=>∃ v,e = .returned v∧Rows.numberSaysSpec.post enc Tryd.prog Tryd.f3 false true false false W args v W':=by
 subst hbase
 have hW':=hW
 have hlt:∀ p∈before,p.block < W.heap.size:=fun p hp=>hW.lt p hp
 obtain ⟨p,q,hA0,hV,rfl,hfz,hnd⟩:=hW
 have hA:DataW.TrodAll enc Tryd.prog W 0 (fun _=>true) true Tryd.f3.params.toList args.toList ds p:=hA0
 have hA1:=hA
 rw [Tryd.params3] at hA hval
 obtain ⟨v0,vs0,d0,ds0,p0,q0,hargs,rfl,rfl,h0,r0⟩:=trodAll_cons hA
 obtain ⟨v1,vs1,d1,ds1,p1,q1,rfl,rfl,rfl,h1,r1⟩:=trodAll_cons r0
 obtain ⟨rfl,rfl,rfl⟩:=trodAll_nil r1
 obtain rfl:args = #[v0,v1]:=by cases args;simp_all
 obtain ⟨rfl,rfl⟩:=trodVars_none hV
 obtain ⟨a0,k0,m0⟩:=arg_str Tryd.underlying9 (hval 0 9 v0 rfl rfl) h0
 obtain ⟨a1,k1,m1,n1⟩:=arg_int Tryd.underlying2 (hval 1 2 v1 rfl rfl) h1
 clear hA0
 simp only [List.append_nil] at hW'
 rw [laidPlain] at hL
 have hLs:laidMet Tryd.prog (Rows.numberSaysRow.laid.take 6++(erLaid "*errors.errorString" errs++Rows.numberSaysRow.laid.drop 19)) W:=by rw [laidParts];exact hL
 obtain ⟨ι,hR,hrw,hfx⟩:=laid_start_tab errTy errs hLs (fun e he=>by
  simp only [errs,List.mem_cons,List.not_mem_nil,or_false] at he
  rcases he with rfl | rfl | rfl | rfl | rfl | rfl | rfl | rfl | rfl | rfl | rfl | rfl | rfl
  all_goals exact ⟨by kernel_rfl,by kernel_rfl⟩)
 have hg0:Laid (globsOf 336 errs) (errHeap 336 errs):=fun i cs q=>glob_ok 336 errs i cs q
 have t0:Lib.TabIs Tryd.prog W "internal/strconv.uint64pow10" .u64 Go.VL.Nu.powZ:=tab_of (g:=17) (t:=316) (e:=249) (n:=20) Rows.numberSaysRow.laid 2 (by kernel_rfl) (by kernel_rfl) Tryd.underlying316 Tryd.underlying249 (by kernel_rfl) (by kernel_rfl) (by kernel_rfl) hL
 have m0z:("internal/strconv.uint64pow10", (Rows.laid_internal_strconv_uint64pow10:DataW Unit))∈Rows.numberSaysRow.laid:=List.mem_of_getElem? (i:=2) (by kernel_rfl)
 have s0z:0 < (Go.VL.Nu.powZ.map fun z=>Value.int .u64 z).toArray.size:=of_decide_eq_true (by kernel_rfl)
 have z0z:=tab_zero (g:=17) (by kernel_rfl) t0 s0z ⟨_,m0z⟩ hL
 have f0z:=hfx "internal/strconv.uint64pow10" 17 _ ⟨(Rows.laid_internal_strconv_uint64pow10:DataW Unit),.inl (List.mem_of_getElem? (i:=2) (by kernel_rfl))⟩ (by kernel_rfl) t0 s0z
 obtain ⟨ι0,hR0,hrw0,hp0⟩:=add_tab0 hR hrw (by kernel_rfl) t0 z0z f0z
 have hg1:=glob_push (k := .u64) (zs:=Go.VL.Nu.powZ) hg0
 have walk:=law_V good (Gl:=globsOf 336 errs++[(26,Go.VL.Nu.powZ.map (VV.int .u64))]) (body:=(Tryd.f3.body).getD .skip) Tryd.func3 (by kernel_rfl) hR0 hrw0 (fun i cs q=>hg1 i cs q)
  (vs:=[v0,v1]) (xs:=[.str a0,.int .i64 a1]) ⟨k0,k1,trivial⟩ (Go.VL.Nu.numberSays _ (Go.VL.Nu.gl_pow (by decide)).1 (Go.VL.Nu.gl_pow (by decide)).2 a0 m0 a1 m1 n1)
 refine walk.mono fun e W' ⟨he,hg⟩ => ?_
 subst he
 have hB:=trodAll_below laidOut hg (fun t ht=>by
  rw [Tryd.params3] at ht
  simp only [List.mem_cons,List.not_mem_nil,or_false] at ht
  rcases ht with rfl | rfl
  all_goals exact ⟨by kernel_rfl,of_decide_eq_true (by kernel_rfl)⟩) hA1 (fun x hx=>hlt x (List.mem_append_left _ hx))
 exact ⟨_,rfl,_,_,_,[],_,[],hW',trodAll_mk1 (shut_bool Tryd.underlying4 _),hB,rfl,hg.frame _,fun h=>by cases h⟩
noncomputable def world0 (os:Os):World:=World.holding Tryd.prog os ⟨#[],#[],[]⟩
noncomputable def base (os:Os):Nat:=(world0 os).heap.size
def lay (t b:Nat):Obj→Obj
 | .cells _ e fz => .cells #[.iface t (.pointer (some ⟨b,0,none⟩))] e fz
 | o=>o
def layc (cs:List Value):Obj→Obj
 | .cells _ e fz => .cells cs.toArray e fz
 | o=>o
def layp (b:Nat):Obj→Obj
 | .cells _ e fz => .cells #[.pointer (some ⟨b,0,none⟩)] e fz
 | o=>o
def unlit:DataW Unit→Value
 | .lit (.int k z) => .int k z
 | _ => .bool false
def flat1:DataW Unit→List (DataW Unit)
 | .agg l=>l
 | d=>[d]
def flat2 (d:DataW Unit):List Value:=(flat1 d).flatMap fun x=>(flat1 x).map unlit
def white1:DataW Unit→DataW Unit
 | .ptr (.agg (.slice a _::_)) => .agg a
 | d=>d
def white2:DataW Unit→Int
 | .ptr (.agg [_,_,.lit (.int _ z)])=>z
 | _=>0
noncomputable def laidWorld (os:Os):World :=
 { world0 os with heap:=((((((((((((((((((((((((((((((((((((world0 os).heap.modify 19 (layc (flat2 Rows.laid_math_bits_deBruijn32tab))).modify 20 (layc (flat2 Rows.laid_math_bits_deBruijn64tab))).modify 17 (layc (flat2 Rows.laid_internal_strconv_uint64pow10))).modify 22 (layc (flat2 Rows.laid_unicode_utf8_acceptRanges))).modify 16 (lay 336 (base os+0))).modify 15 (lay 336 (base os+1))).modify 0 (lay 336 (base os+2))).modify 2 (lay 336 (base os+3))).modify 7 (lay 336 (base os+4))).modify 10 (lay 336 (base os+5))).modify 8 (lay 336 (base os+6))).modify 1 (lay 336 (base os+7))).modify 3 (lay 336 (base os+8))).modify 4 (lay 336 (base os+9))).modify 11 (lay 336 (base os+10))).modify 5 (lay 336 (base os+11))).modify 6 (lay 336 (base os+12))).modify 12 (lay 336 (base os+13))).modify 13 (lay 336 (base os+14))).modify 21 (layc (flat2 Rows.laid_unicode_utf8_first))).push (.cells #[.string ⟨#[118,97,108,117,101,32,111,117,116,32,111,102,32,114,97,110,103,101]⟩] 338)).push (.cells #[.string ⟨#[105,110,118,97,108,105,100,32,115,121,110,116,97,120]⟩] 338)).push (.cells #[.string ⟨#[110,111,116,32,97,115,32,105,116,32,105,115,32,119,114,105,116,116,101,110]⟩] 338)).push (.cells #[.string ⟨#[97,32,110,97,109,101,32,116,104,97,116,32,105,115,32,110,111,98,111,100,121,39,115]⟩] 338)).push (.cells #[.string ⟨#[97,32,110,97,109,101,32,116,119,105,99,101]⟩] 338)).push (.cells #[.string ⟨#[115,116,101,112,115,32,116,104,97,116,32,97,114,101,32,110,111,32,112,97,116,104]⟩] 338)).push (.cells #[.string ⟨#[97,32,110,117,109,98,101,114,32,111,117,116,32,111,102,32,105,116,115,32,114,97,110,103,101]⟩] 338)).push (.cells #[.string ⟨#[109,111,114,101,32,116,104,97,110,32,109,97,121,32,98,101]⟩] 338)).push (.cells #[.string ⟨#[108,101,115,115,32,116,104,97,110,32,104,97,115,32,116,111,32,98,101]⟩] 338)).push (.cells #[.string ⟨#[110,111,116,32,97,110,32,105,99,111,110]⟩] 338)).push (.cells #[.string ⟨#[97,32,110,117,109,98,101,114,32,116,104,97,116,32,105,115,32,110,111,116,32,119,114,105,116,116,101,110,32,115,104,111,114,116,108,121]⟩] 338)).push (.cells #[.string ⟨#[110,111,116,32,116,104,101,32,111,110,101,32,102,111,114,109]⟩] 338)).push (.cells #[.string ⟨#[98,121,116,101,115,32,98,101,104,105,110,100,32,116,104,101,32,101,110,100]⟩] 338)).push (.cells #[.string ⟨#[97,32,119,105,100,116,104,32,116,104,97,116,32,99,97,110,39,116,32,98,101]⟩] 338)).push (.cells #[.string ⟨#[109,111,114,101,32,101,100,103,101,115,32,116,104,97,110,32,109,97,121,32,98,101]⟩] 338)) }
theorem laid_met (os:Os):laidMet Tryd.prog Rows.numberSaysRow.laid ((laidWorld os).forCall (fun _ _=>0) ⟨#[],#[(.string ⟨#[]⟩:Value),(.int .i64 0:Value)],[]⟩).memory :=
 laidMet_of_run' 8 (by kernel_rfl) (by kernel_rfl)
theorem reads (os:Os) {H:Type} (enc:TypeId × Value→H):∃ places,DataW.whole enc Tryd.prog ((laidWorld os).forCall (fun _ _=>0) ⟨#[],#[(.string ⟨#[]⟩:Value),(.int .i64 0:Value)],[]⟩).memory Tryd.f3.params.toList Rows.numberSaysSpec.vars false #[(.string ⟨#[]⟩:Value),(.int .i64 0:Value)].toList 8=some ([.lit (.string []),.lit (.int .i64 0)],[],places) :=
 ⟨[],by kernel_rfl⟩
theorem own:ownKnob Tryd.prog.godebug=none:=by kernel_rfl
theorem lifted (os:Os) (started:os.Started) (H:Type) (enc:TypeId × Value→H) (F:Stop.Interp) :
  ReturnsInHanded {} Tryd.checked os 3 .any ((OpenSpec.ofChange Rows.numberSaysSpec).preRow enc Tryd.prog Tryd.f3 Rows.numberSaysRow.domain false Rows.numberSaysRow.laid) (((OpenSpec.ofChange Rows.numberSaysSpec).at F).post enc Tryd.prog Tryd.f3 false true false false):=by
 obtain ⟨places,hx⟩:=reads os enc
 refine returnsInHanded_of_row (C:=Tryd.checked) (s:=OpenSpec.ofChange Rows.numberSaysSpec) own started (by kernel_rfl) Tryd.func3
  (witness_row_at (enc:=enc) (C:=Tryd.checked) false (laidWorld os) #[(.string ⟨#[]⟩:Value),(.int .i64 0:Value)] rfl (by kernel_rfl) (by kernel_rfl) (by kernel_rfl)
   (OpenSpec.preRow_of_cond 8 hx (by kernel_rfl) (fun k hk=>by cases hk) (by kernel_rfl) (laid_met os))) ?_
 intro W base args ds gs before hval hW _ _ _ hL _ _
 exact contract H enc W 0 args ds gs before (fun j t v h1 h2=>okWide_zero (hval j t v h1 h2)) rfl hW hL
theorem said:Rows.NumberSaysSaid :=
 OpenClaim.holds_of_cond 3 Tryd.f3 rfl rfl rfl rfl rfl rfl rfl ⟨rfl,rfl,rfl,rfl,rfl⟩ rfl rfl rfl rfl rfl (by kernel_rfl) Tryd.func3 (by kernel_rfl)
  (of_decide_eq_true (by kernel_rfl)) (by unfold Func.isWrapper;first | (rw [if_pos (by decide +kernel)];kernel_rfl) | (rw [if_neg (by decide +kernel)];exact ⟨rfl,rfl⟩))
  (fun os started H enc _ F=>by rw [OpenClaim.pre_eq_preRow];exact lifted os started H enc F)
theorem plain (f:FuncId) (fn:Func) (hf:Tryd.pinned.checked.prog.funcNamed "glyphic/glyphiclaw9.NumberSays" = some f) (hfn:Tryd.pinned.checked.prog.funcs[f]?=some fn) :
  true=Tryd.pinned.checked.prog.looks []∧∀ (j:Nat) t,fn.params[j]?=some t→Tryd.pinned.checked.prog.wantsStandIn t=false:=by
 obtain rfl:f=3:=Option.some.inj ((show Tryd.prog.funcNamed "glyphic/glyphiclaw9.NumberSays" = some 3 by kernel_rfl).symm.trans hf) |>.symm
 obtain rfl:fn=Tryd.f3:=(Option.some.inj (Tryd.func3.symm.trans hfn)).symm
 refine ⟨by kernel_rfl,fun j t ht => ?_⟩
 rw [Tryd.params3] at ht
 have ht':=Array.mem_of_getElem? ht
 simp only [List.mem_toArray,List.mem_cons,List.not_mem_nil,or_false] at ht'
 rcases ht' with rfl | rfl
 ·exact (show Tryd.prog.wantsStandIn 9=false by kernel_rfl)
 ·exact (show Tryd.prog.wantsStandIn 2=false by kernel_rfl)
theorem card:Rows.NumberSaysCardSaid :=
 Claim7.holds_tied_plain_at .later [] _ _ _ _ said (fun _ h=>by cases h) (by kernel_rfl) (fun _ h=>by cases h) numberSays_row_tie rfl ⟨rfl,rfl⟩ (by kernel_rfl) rfl plain (by kernel_rfl)
#print axioms card
end Go.Proofs.YtlgkadhogiedoaaDoor.numberSays
namespace Go.Proofs.YtlgkadhogiedoaaDoor
theorem numberSays_holds:Rows.NumberSaysCardSaid:=numberSays.card
end Go.Proofs.YtlgkadhogiedoaaDoor
