/- 'glyphiclaw9.NumberParts' answers true for every input, and leaves it as it was. -/
import Derived.Test.YtpobcoodmhhpaaaDoorLwNPar
import Derived.Test.YtpobcoodmhhpaaaDoorGoodA
import Derived.Test.YtpobcoodmhhpaaaDoorRows
import Derived.Test.YtpobcoodmhhpaaaDoorCards
import Derived.Test.YtpobcoodmhhpaaaDoorTie
import Derived.WalkKit
import Derived.ProofKit
import Derived.OpenShut
import Derived.Deep.DeepHandedRow
import Derived.Lib.LaidTab
set_option linter.unusedSimpArgs false
set_option linter.unusedVariables false
namespace Go.Proofs.YtpobcoodmhhpaaaDoor.numberParts
open Go.ChangeShapes Go.WideShapes Go.ChangeAt Go.RowKit Go.FR Go.VL Go.IR
set_option maxRecDepth 100000
def errs:List Er:=[⟨"glyphic/api.ErrText", 1,[110,111,116,32,97,115,32,105,116,32,105,115,32,119,114,105,116,116,101,110]⟩]
theorem errTy:ErrTy Tryd.prog "*errors.errorString" 27 181 :=
 ⟨183,9,_,_,Tryd.underlying27,fun u hu=>typeName_ptr_named (nm := "errors.errorString") (by kernel_rfl) (by kernel_rfl) (by decide +kernel) u hu,Tryd.underlying181,Tryd.underlying183,rfl,rfl,Tryd.underlying9,by kernel_rfl,by kernel_rfl⟩
def slots:List (Er × Bool):=[(⟨"glyphic/api.ErrText", 1,[110,111,116,32,97,115,32,105,116,32,105,115,32,119,114,105,116,116,101,110]⟩,true),(⟨"glyphic/api.ErrName", 3,[]⟩,false),(⟨"glyphic/api.ErrTwice", 4,[]⟩,false),(⟨"glyphic/api.ErrPath", 5,[]⟩,false),(⟨"glyphic/api.ErrRange", 6,[]⟩,false),(⟨"glyphic/api.ErrLimit", 0,[]⟩,false),(⟨"glyphic/api.ErrShort", 7,[]⟩,false),(⟨"glyphic/api.ErrMagic", 8,[]⟩,false),(⟨"glyphic/api.ErrVarint", 9,[]⟩,false),(⟨"glyphic/api.ErrCanon", 10,[]⟩,false),(⟨"glyphic/api.ErrTrail", 11,[]⟩,false),(⟨"glyphic/api.ErrWidth", 12,[]⟩,false),(⟨"glyphic/api.ErrBudget", 13,[]⟩,false)]
theorem laidPlain (W:World):laidMetH Tryd.prog Rows.numberPartsRow.laid W=laidMet Tryd.prog Rows.numberPartsRow.laid W:=by kernel_rfl
theorem laidParts:Rows.numberPartsRow.laid.take 6++(erLaid "*errors.errorString" (slErs slots)++Rows.numberPartsRow.laid.drop 7)=Rows.numberPartsRow.laid:=by kernel_rfl
theorem laidOut:laidOutB Tryd.prog=true:=by kernel_rfl
theorem contract (H:Type) (enc:TypeId × Value→H) (W:World) (base:Nat) (args:Array Value) (ds gs:List (DataW H)) (before:List MemPlace)
  (hval:∀ (j:Nat) t v,Tryd.f9.params[j]?=some t→args[j]?=some v→Value.okWide Tryd.prog W .any base t v) (hbase:base=0)
  (hW:DataW.Whole enc Tryd.prog Tryd.f9.params.toList Rows.numberPartsSpec.vars false W args.toList ds gs before) (hL:laidMetH Tryd.prog Rows.numberPartsRow.laid W) :
  Calls Tryd.prog 9 args W fun e W'=>∃ v,e = .returned v∧Rows.numberPartsSpec.post enc Tryd.prog Tryd.f9 false true false false W args v W':=by
 subst hbase
 have hW':=hW
 have hlt:∀ p∈before,p.block < W.heap.size:=fun p hp=>hW.lt p hp
 obtain ⟨p,q,hA0,hV,rfl,hfz,hnd⟩:=hW
 have hA:DataW.TrodAll enc Tryd.prog W 0 (fun _=>true) true Tryd.f9.params.toList args.toList ds p:=hA0
 have hA1:=hA
 rw [Tryd.params9] at hA hval
 obtain ⟨v0,vs0,d0,ds0,p0,q0,hargs,rfl,rfl,h0,r0⟩:=trodAll_cons hA
 obtain ⟨v1,vs1,d1,ds1,p1,q1,rfl,rfl,rfl,h1,r1⟩:=trodAll_cons r0
 obtain ⟨v2,vs2,d2,ds2,p2,q2,rfl,rfl,rfl,h2,r2⟩:=trodAll_cons r1
 obtain ⟨v3,vs3,d3,ds3,p3,q3,rfl,rfl,rfl,h3,r3⟩:=trodAll_cons r2
 obtain ⟨rfl,rfl,rfl⟩:=trodAll_nil r3
 obtain rfl:args = #[v0,v1,v2,v3]:=by cases args;simp_all
 obtain ⟨rfl,rfl⟩:=trodVars_none hV
 obtain ⟨a0,k0,m0,n0⟩:=arg_int Tryd.underlying3 (hval 0 3 v0 rfl rfl) h0
 obtain ⟨a1,k1,m1,n1⟩:=arg_int Tryd.underlying3 (hval 1 3 v1 rfl rfl) h1
 obtain ⟨a2,k2,m2,n2⟩:=arg_int Tryd.underlying3 (hval 2 3 v2 rfl rfl) h2
 obtain ⟨a3,k3⟩:=arg_bool Tryd.underlying4 (hval 3 4 v3 rfl rfl) h3
 clear hA0
 simp only [List.append_nil] at hW'
 rw [laidPlain] at hL
 have hLs:laidMet Tryd.prog (Rows.numberPartsRow.laid.take 6++(erLaid "*errors.errorString" (slErs slots)++Rows.numberPartsRow.laid.drop 7)) W:=by rw [laidParts];exact hL
 obtain ⟨ι,hR,hrw,hfx⟩:=slLaid_start errTy slots hLs (fun e he=>by
  rw [show slErs slots=errs from rfl] at he
  simp only [errs,List.mem_cons,List.not_mem_nil,or_false] at he
  rcases he with rfl
  all_goals exact ⟨by kernel_rfl,by kernel_rfl⟩)
 have hg0:Laid (slOf 181 slots) (slHeap 181 slots):=slGlob_ok 181 slots
 have t0:Lib.TabIs Tryd.prog W "internal/strconv.uint64pow10" .u64 Go.VL.Nu.powZ:=tab_of (g:=18) (t:=164) (e:=132) (n:=20) Rows.numberPartsRow.laid 2 (by kernel_rfl) (by kernel_rfl) Tryd.underlying164 Tryd.underlying132 (by kernel_rfl) (by kernel_rfl) (by kernel_rfl) hL
 have m0z:("internal/strconv.uint64pow10", (Rows.laid_internal_strconv_uint64pow10:DataW Unit))∈Rows.numberPartsRow.laid:=List.mem_of_getElem? (i:=2) (by kernel_rfl)
 have s0z:0 < (Go.VL.Nu.powZ.map fun z=>Value.int .u64 z).toArray.size:=of_decide_eq_true (by kernel_rfl)
 have z0z:=tab_zero (g:=18) (by kernel_rfl) t0 s0z ⟨_,m0z⟩ hL
 have f0z:=hfx "internal/strconv.uint64pow10" 18 _ ⟨(Rows.laid_internal_strconv_uint64pow10:DataW Unit),.inl (List.mem_of_getElem? (i:=2) (by kernel_rfl))⟩ (by kernel_rfl) t0 s0z
 obtain ⟨ι0,hR0,hrw0,hp0⟩:=add_tab0 hR hrw (by kernel_rfl) t0 z0z f0z
 have hg1:=glob_push (k := .u64) (zs:=Go.VL.Nu.powZ) hg0
 have walk:=law_V good (Gl:=slOf 181 slots++[(26,Go.VL.Nu.powZ.map (VV.int .u64))]) (body:=(Tryd.f9.body).getD .skip) Tryd.func9 (by kernel_rfl) hR0 hrw0 (fun i cs q=>hg1 i cs q)
  (vs:=[v0,v1,v2,v3]) (xs:=[.int .i64 a0,.int .i64 a1,.int .i64 a2,.bool a3]) ⟨k0,k1,k2,k3,trivial⟩ (Go.VL.Nu.numberParts _ (Go.VL.Nu.gl_powS (l:=slots) (by decide) rfl).1 (Go.VL.Nu.gl_powS (l:=slots) (by decide) rfl).2 a0 m0 n0 a1 m1 n1 a2 m2 n2 a3)
 refine walk.mono fun e W' ⟨he,hg⟩ => ?_
 subst he
 have hB:=trodAll_below laidOut hg (fun t ht=>by
  rw [Tryd.params9] at ht
  simp only [List.mem_cons,List.not_mem_nil,or_false] at ht
  rcases ht with rfl | rfl | rfl | rfl
  all_goals exact ⟨by kernel_rfl,of_decide_eq_true (by kernel_rfl)⟩) hA1 (fun x hx=>hlt x (List.mem_append_left _ hx))
 exact ⟨_,rfl,_,_,_,[],_,[],hW',trodAll_mk1 (shut_bool Tryd.underlying4 _),hB,rfl,hg.frame _,fun h=>by cases h⟩
noncomputable def world0 (os:Os):World:=World.holding Tryd.prog os ⟨#[],#[],[]⟩
noncomputable def base (os:Os):Nat:=(world0 os).heap.size
def lay (t b:Nat):Obj→Obj
 | .cells _ e fz => .cells #[.iface t (.pointer (some ⟨b,0,none⟩))] e fz
 | o=>o
def layc (cs:List Value):Obj→Obj
 | .cells _ e fz => .cells cs.toArray e fz
 | o=>o
def layp (b:Nat):Obj→Obj
 | .cells _ e fz => .cells #[.pointer (some ⟨b,0,none⟩)] e fz
 | o=>o
def unlit:DataW Unit→Value
 | .lit (.int k z) => .int k z
 | _ => .bool false
def flat1:DataW Unit→List (DataW Unit)
 | .agg l=>l
 | d=>[d]
def flat2 (d:DataW Unit):List Value:=(flat1 d).flatMap fun x=>(flat1 x).map unlit
def white1:DataW Unit→DataW Unit
 | .ptr (.agg (.slice a _::_)) => .agg a
 | d=>d
def white2:DataW Unit→Int
 | .ptr (.agg [_,_,.lit (.int _ z)])=>z
 | _=>0
noncomputable def laidWorld (os:Os):World :=
 { world0 os with heap:=((((((((((((world0 os).heap.modify 19 (layc (flat2 Rows.laid_math_bits_deBruijn32tab))).modify 20 (layc (flat2 Rows.laid_math_bits_deBruijn64tab))).modify 18 (layc (flat2 Rows.laid_internal_strconv_uint64pow10))).modify 22 (layc (flat2 Rows.laid_unicode_utf8_acceptRanges))).modify 17 (lay 181 (base os+0))).modify 16 (lay 181 (base os+1))).modify 1 (lay 181 (base os+2))).modify 21 (layc (flat2 Rows.laid_unicode_utf8_first))).push (.cells #[.string ⟨#[118,97,108,117,101,32,111,117,116,32,111,102,32,114,97,110,103,101]⟩] 183)).push (.cells #[.string ⟨#[105,110,118,97,108,105,100,32,115,121,110,116,97,120]⟩] 183)).push (.cells #[.string ⟨#[110,111,116,32,97,115,32,105,116,32,105,115,32,119,114,105,116,116,101,110]⟩] 183)) }
theorem laid_met (os:Os):laidMet Tryd.prog Rows.numberPartsRow.laid ((laidWorld os).forCall (fun _ _=>0) ⟨#[],#[(.int .i64 0:Value),(.int .i64 0:Value),(.int .i64 0:Value),(.bool false:Value)],[]⟩).memory :=
 laidMet_of_run' 8 (by kernel_rfl) (by kernel_rfl)
theorem reads (os:Os) {H:Type} (enc:TypeId × Value→H):∃ places,DataW.whole enc Tryd.prog ((laidWorld os).forCall (fun _ _=>0) ⟨#[],#[(.int .i64 0:Value),(.int .i64 0:Value),(.int .i64 0:Value),(.bool false:Value)],[]⟩).memory Tryd.f9.params.toList Rows.numberPartsSpec.vars false #[(.int .i64 0:Value),(.int .i64 0:Value),(.int .i64 0:Value),(.bool false:Value)].toList 8=some ([.lit (.int .i64 0),.lit (.int .i64 0),.lit (.int .i64 0),.lit (.bool false)],[],places) :=
 ⟨[],by kernel_rfl⟩
theorem own:ownKnob Tryd.prog.godebug=none:=by kernel_rfl
theorem lifted (os:Os) (started:os.Started) (H:Type) (enc:TypeId × Value→H) (F:Stop.Interp) :
  ReturnsInHanded {} Tryd.checked os 9 .any ((OpenSpec.ofChange Rows.numberPartsSpec).preRow enc Tryd.prog Tryd.f9 Rows.numberPartsRow.domain false Rows.numberPartsRow.laid) (((OpenSpec.ofChange Rows.numberPartsSpec).at F).post enc Tryd.prog Tryd.f9 false true false false):=by
 obtain ⟨places,hx⟩:=reads os enc
 refine returnsInHanded_of_row (C:=Tryd.checked) (s:=OpenSpec.ofChange Rows.numberPartsSpec) own started (by kernel_rfl) Tryd.func9
  (witness_row_at (enc:=enc) (C:=Tryd.checked) false (laidWorld os) #[(.int .i64 0:Value),(.int .i64 0:Value),(.int .i64 0:Value),(.bool false:Value)] rfl (by kernel_rfl) (by kernel_rfl) (by kernel_rfl)
   (OpenSpec.preRow_of_cond 8 hx (by kernel_rfl) (fun k hk=>by cases hk) (by kernel_rfl) (laid_met os))) ?_
 intro W base args ds gs before hval hW _ _ _ hL _ _
 exact contract H enc W 0 args ds gs before (fun j t v h1 h2=>okWide_zero (hval j t v h1 h2)) rfl hW hL
theorem said:Rows.NumberPartsSaid :=
 OpenClaim.holds_of_cond 9 Tryd.f9 rfl rfl rfl rfl rfl rfl rfl ⟨rfl,rfl,rfl,rfl,rfl⟩ rfl rfl rfl rfl rfl (by kernel_rfl) Tryd.func9 (by kernel_rfl)
  (of_decide_eq_true (by kernel_rfl)) (by unfold Func.isWrapper;first | (rw [if_pos (by decide +kernel)];kernel_rfl) | (rw [if_neg (by decide +kernel)];exact ⟨rfl,rfl⟩))
  (fun os started H enc _ F=>by rw [OpenClaim.pre_eq_preRow];exact lifted os started H enc F)
theorem plain (f:FuncId) (fn:Func) (hf:Tryd.pinned.checked.prog.funcNamed "glyphic/glyphiclaw9.NumberParts" = some f) (hfn:Tryd.pinned.checked.prog.funcs[f]?=some fn) :
  true=Tryd.pinned.checked.prog.looks []∧∀ (j:Nat) t,fn.params[j]?=some t→Tryd.pinned.checked.prog.wantsStandIn t=false:=by
 obtain rfl:f=9:=Option.some.inj ((show Tryd.prog.funcNamed "glyphic/glyphiclaw9.NumberParts" = some 9 by kernel_rfl).symm.trans hf) |>.symm
 obtain rfl:fn=Tryd.f9:=(Option.some.inj (Tryd.func9.symm.trans hfn)).symm
 refine ⟨by kernel_rfl,fun j t ht => ?_⟩
 rw [Tryd.params9] at ht
 have ht':=Array.mem_of_getElem? ht
 simp only [List.mem_toArray,List.mem_cons,List.not_mem_nil,or_false] at ht'
 rcases ht' with rfl | rfl | rfl | rfl
 ·exact (show Tryd.prog.wantsStandIn 3=false by kernel_rfl)
 ·exact (show Tryd.prog.wantsStandIn 3=false by kernel_rfl)
 ·exact (show Tryd.prog.wantsStandIn 3=false by kernel_rfl)
 ·exact (show Tryd.prog.wantsStandIn 4=false by kernel_rfl)
theorem card:Rows.NumberPartsCardSaid :=
 Claim7.holds_tied_plain_at .later [] _ _ _ _ said (fun _ h=>by cases h) (by kernel_rfl) (fun _ h=>by cases h) numberParts_row_tie rfl ⟨rfl,rfl⟩ (by kernel_rfl) rfl plain (by kernel_rfl)
#print axioms card
end Go.Proofs.YtpobcoodmhhpaaaDoor.numberParts
namespace Go.Proofs.YtpobcoodmhhpaaaDoor
theorem numberParts_holds:Rows.NumberPartsCardSaid:=numberParts.card
end Go.Proofs.YtpobcoodmhhpaaaDoor
