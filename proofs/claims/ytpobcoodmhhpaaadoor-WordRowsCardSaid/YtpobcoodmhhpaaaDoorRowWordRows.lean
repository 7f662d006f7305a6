/- 'glyphiclaw8.WordRows' answers true for every input, and leaves it as it was. -/
import Derived.Test.YtpobcoodmhhpaaaDoorLwWRow
import Derived.Test.YtpobcoodmhhpaaaDoorGoodA
import Derived.Test.YtpobcoodmhhpaaaDoorRows
import Derived.Test.YtpobcoodmhhpaaaDoorCards
import Derived.Test.YtpobcoodmhhpaaaDoorTie
import Derived.WalkKit
import Derived.ProofKit
import Derived.OpenShut
import Derived.Deep.DeepHandedRow
import Derived.Lib.LaidTab
import Derived.Deep.DeepWitnessRowRef
set_option linter.unusedSimpArgs false
set_option linter.unusedVariables false
namespace Go.Proofs.YtpobcoodmhhpaaaDoor.wordRows
open Go.ChangeShapes Go.WideShapes Go.ChangeAt Go.RowKit Go.FR Go.VL Go.IR
set_option maxRecDepth 100000
def errs:List Er:=[⟨"glyphic/api.ErrText", 1,[110,111,116,32,97,115,32,105,116,32,105,115,32,119,114,105,116,116,101,110]⟩,⟨"glyphic/api.ErrLimit", 0,[109,111,114,101,32,116,104,97,110,32,109,97,121,32,98,101]⟩]
theorem errTy:ErrTy Tryd.prog "*errors.errorString" 27 181 :=
 ⟨183,9,_,_,Tryd.underlying27,fun u hu=>typeName_ptr_named (nm := "errors.errorString") (by kernel_rfl) (by kernel_rfl) (by decide +kernel) u hu,Tryd.underlying181,Tryd.underlying183,rfl,rfl,Tryd.underlying9,by kernel_rfl,by kernel_rfl⟩
def slots:List (Er × Bool):=[(⟨"glyphic/api.ErrText", 1,[110,111,116,32,97,115,32,105,116,32,105,115,32,119,114,105,116,116,101,110]⟩,true),(⟨"glyphic/api.ErrName", 3,[]⟩,false),(⟨"glyphic/api.ErrTwice", 4,[]⟩,false),(⟨"glyphic/api.ErrPath", 5,[]⟩,false),(⟨"glyphic/api.ErrRange", 6,[]⟩,false),(⟨"glyphic/api.ErrLimit", 0,[109,111,114,101,32,116,104,97,110,32,109,97,121,32,98,101]⟩,true),(⟨"glyphic/api.ErrShort", 7,[]⟩,false),(⟨"glyphic/api.ErrMagic", 8,[]⟩,false),(⟨"glyphic/api.ErrVarint", 9,[]⟩,false),(⟨"glyphic/api.ErrCanon", 10,[]⟩,false),(⟨"glyphic/api.ErrTrail", 11,[]⟩,false),(⟨"glyphic/api.ErrWidth", 12,[]⟩,false),(⟨"glyphic/api.ErrBudget", 13,[]⟩,false)]
theorem laidPlain (W:World):laidMetH Tryd.prog Rows.wordRowsRow.laid W=laidMet Tryd.prog Rows.wordRowsRow.laid W:=by kernel_rfl
theorem laidParts:Rows.wordRowsRow.laid.take 0++(erLaid "*errors.errorString" (slErs slots)++Rows.wordRowsRow.laid.drop 2)=Rows.wordRowsRow.laid:=by kernel_rfl
theorem laidOut:laidOutB Tryd.prog=true:=by kernel_rfl
theorem contract (H:Type) (enc:TypeId × Value→H) (W:World) (base:Nat) (args:Array Value) (ds gs:List (DataW H)) (before:List MemPlace)
  (hval:∀ (j:Nat) t v,Tryd.f3.params[j]?=some t→args[j]?=some v→Value.okWide Tryd.prog W .any base t v) (hbase:base=0)
  (hW:DataW.Whole enc Tryd.prog Tryd.f3.params.toList Rows.wordRowsSpec.vars false W args.toList ds gs before) (hL:laidMetH Tryd.prog Rows.wordRowsRow.laid W) :
  Calls Tryd.prog 3 args W fun e W'=>∃ v,e = .returned v∧Rows.wordRowsSpec.post enc Tryd.prog Tryd.f3 false true false false W args v W':=by
 subst hbase
 have hW':=hW
 have hlt:∀ p∈before,p.block < W.heap.size:=fun p hp=>hW.lt p hp
 obtain ⟨p,q,hA0,hV,rfl,hfz,hnd⟩:=hW
 have hA:DataW.TrodAll enc Tryd.prog W 0 (fun _=>true) true Tryd.f3.params.toList args.toList ds p:=hA0
 have hA1:=hA
 rw [Tryd.params3] at hA hval
 obtain ⟨v0,vs0,d0,ds0,p0,q0,hargs,rfl,rfl,h0,r0⟩:=trodAll_cons hA
 obtain ⟨v1,vs1,d1,ds1,p1,q1,rfl,rfl,rfl,h1,r1⟩:=trodAll_cons r0
 obtain ⟨rfl,rfl,rfl⟩:=trodAll_nil r1
 obtain rfl:args = #[v0,v1]:=by cases args;simp_all
 obtain ⟨rfl,rfl⟩:=trodVars_none hV
 obtain ⟨a0,k0,m0,n0⟩:=arg_ints Tryd.underlying22 (flat_int Tryd.underlying3 (by kernel_rfl)) (hval 0 22 v0 rfl rfl) h0
 obtain ⟨a1,k1,m1,n1⟩:=arg_ints Tryd.underlying22 (flat_int Tryd.underlying3 (by kernel_rfl)) (hval 1 22 v1 rfl rfl) h1
 clear hA0
 simp only [List.append_nil] at hW'
 rw [laidPlain] at hL
 have hLs:laidMet Tryd.prog (Rows.wordRowsRow.laid.take 0++(erLaid "*errors.errorString" (slErs slots)++Rows.wordRowsRow.laid.drop 2)) W:=by rw [laidParts];exact hL
 obtain ⟨ι,hR,hrw,hfx⟩:=slLaid_start errTy slots hLs (fun e he=>by
  rw [show slErs slots=errs from rfl] at he
  simp only [errs,List.mem_cons,List.not_mem_nil,or_false] at he
  rcases he with rfl | rfl
  all_goals exact ⟨by kernel_rfl,by kernel_rfl⟩)
 have hg0:Laid (slOf 181 slots) (slHeap 181 slots):=slGlob_ok 181 slots
 have t0:Lib.TabIs Tryd.prog W "strings.asciiSpace" .u8 Go.VL.Wo.spZ:=tab_of (g:=2) (t:=123) (e:=5) (n:=256) Rows.wordRowsRow.laid 3 (by kernel_rfl) (by kernel_rfl) Tryd.underlying123 Tryd.underlying5 (by kernel_rfl) (by kernel_rfl) (by kernel_rfl) hL
 have m0z:("strings.asciiSpace", (Rows.laid_strings_asciiSpace:DataW Unit))∈Rows.wordRowsRow.laid:=List.mem_of_getElem? (i:=3) (by kernel_rfl)
 have s0z:0 < (Go.VL.Wo.spZ.map fun z=>Value.int .u8 z).toArray.size:=of_decide_eq_true (by kernel_rfl)
 have z0z:=tab_zero (g:=2) (by kernel_rfl) t0 s0z ⟨_,m0z⟩ hL
 have f0z:=hfx "strings.asciiSpace" 2 _ ⟨(Rows.laid_strings_asciiSpace:DataW Unit),.inr (List.mem_of_getElem? (i:=1) (by kernel_rfl))⟩ (by kernel_rfl) t0 s0z
 obtain ⟨ι0,hR0,hrw0,hp0⟩:=add_tab0 hR hrw (by kernel_rfl) t0 z0z f0z
 have hg1:=glob_push (k := .u8) (zs:=Go.VL.Wo.spZ) hg0
 have walk:=law_V good (Gl:=slOf 181 slots++[(26,Go.VL.Wo.spZ.map (VV.int .u8))]) (body:=(Tryd.f3.body).getD .skip) Tryd.func3 (by kernel_rfl) hR0 hrw0 (fun i cs q=>hg1 i cs q)
  (vs:=[v0,v1]) (xs:=[.fsl (a0.map (VV.int .i64)) a0.length 1,.fsl (a1.map (VV.int .i64)) a1.length 1]) ⟨k0,k1,trivial⟩ (Go.VL.Wo.wordRows _ (Go.VL.Wo.gl_spS (l:=slots) (by decide) rfl rfl).1 (Go.VL.Wo.gl_spS (l:=slots) (by decide) rfl rfl).2 a0 m0 n0 a1 m1 n1)
 refine walk.mono fun e W' ⟨he,hg⟩ => ?_
 subst he
 have hB:=trodAll_below laidOut hg (fun t ht=>by
  rw [Tryd.params3] at ht
  simp only [List.mem_cons,List.not_mem_nil,or_false] at ht
  rcases ht with rfl | rfl
  all_goals exact ⟨by kernel_rfl,of_decide_eq_true (by kernel_rfl)⟩) hA1 (fun x hx=>hlt x (List.mem_append_left _ hx))
 exact ⟨_,rfl,_,_,_,[],_,[],hW',trodAll_mk1 (shut_bool Tryd.underlying4 _),hB,rfl,hg.frame _,fun h=>by cases h⟩
noncomputable def world0 (os:Os):World:=World.holding Tryd.prog os ⟨#[],#[],[]⟩
noncomputable def base (os:Os):Nat:=(world0 os).heap.size
def lay (t b:Nat):Obj→Obj
 | .cells _ e fz => .cells #[.iface t (.pointer (some ⟨b,0,none⟩))] e fz
 | o=>o
def layc (cs:List Value):Obj→Obj
 | .cells _ e fz => .cells cs.toArray e fz
 | o=>o
def layp (b:Nat):Obj→Obj
 | .cells _ e fz => .cells #[.pointer (some ⟨b,0,none⟩)] e fz
 | o=>o
def unlit:DataW Unit→Value
 | .lit (.int k z) => .int k z
 | _ => .bool false
def flat1:DataW Unit→List (DataW Unit)
 | .agg l=>l
 | d=>[d]
def flat2 (d:DataW Unit):List Value:=(flat1 d).flatMap fun x=>(flat1 x).map unlit
def white1:DataW Unit→DataW Unit
 | .ptr (.agg (.slice a _::_)) => .agg a
 | d=>d
def white2:DataW Unit→Int
 | .ptr (.agg [_,_,.lit (.int _ z)])=>z
 | _=>0
noncomputable def laidWorld (os:Os):World :=
 { world0 os with heap:=(((((((((world0 os).heap.modify 1 (lay 181 (base os+0))).modify 0 (lay 181 (base os+1))).modify 14 (layp (base os+3))).modify 2 (layc (flat2 Rows.laid_strings_asciiSpace))).push (.cells #[.string ⟨#[110,111,116,32,97,115,32,105,116,32,105,115,32,119,114,105,116,116,101,110]⟩] 183)).push (.cells #[.string ⟨#[109,111,114,101,32,116,104,97,110,32,109,97,121,32,98,101]⟩] 183)).push (.cells (flat2 (white1 Rows.laid_unicode_White_Space)).toArray 174)).push (.cells #[.slice (some ⟨base os+2,0,none⟩) (flat1 (white1 Rows.laid_unicode_White_Space)).length (flat1 (white1 Rows.laid_unicode_White_Space)).length,.slice none 0 0,.int .i64 (white2 Rows.laid_unicode_White_Space)] 171)) }
theorem laid_met (os:Os):laidMet Tryd.prog Rows.wordRowsRow.laid ((laidWorld os).forCall (fun _ _=>0) ⟨#[],#[(.slice none 0 0:Value),(.slice none 0 0:Value)],[]⟩).memory :=
 laidMet_of_run' 8 (by kernel_rfl) (by kernel_rfl)
theorem reads (os:Os) {H:Type} (enc:TypeId × Value→H):∃ places,DataW.whole enc Tryd.prog ((laidWorld os).forCall (fun _ _=>0) ⟨#[],#[(.slice none 0 0:Value),(.slice none 0 0:Value)],[]⟩).memory Tryd.f3.params.toList Rows.wordRowsSpec.vars false #[(.slice none 0 0:Value),(.slice none 0 0:Value)].toList 8=some ([.nil,.nil],[],places) :=
 ⟨[],by kernel_rfl⟩
theorem own:ownKnob Tryd.prog.godebug=none:=by kernel_rfl
theorem lifted (os:Os) (started:os.Started) (H:Type) (enc:TypeId × Value→H) (F:Stop.Interp) :
  ReturnsInHanded {} Tryd.checked os 3 .any ((OpenSpec.ofChange Rows.wordRowsSpec).preRow enc Tryd.prog Tryd.f3 Rows.wordRowsRow.domain false Rows.wordRowsRow.laid) (((OpenSpec.ofChange Rows.wordRowsSpec).at F).post enc Tryd.prog Tryd.f3 false true false false):=by
 obtain ⟨places,hx⟩:=reads os enc
 refine returnsInHanded_of_row (C:=Tryd.checked) (s:=OpenSpec.ofChange Rows.wordRowsSpec) own started (by kernel_rfl) Tryd.func3
  (witness_row_atRef (enc:=enc) (C:=Tryd.checked) false (laidWorld os) #[(.slice none 0 0:Value),(.slice none 0 0:Value)] rfl (by kernel_rfl) (by kernel_rfl) (by kernel_rfl)
   (OpenSpec.preRow_of_cond 8 hx (by kernel_rfl) (fun k hk=>by cases hk) (by kernel_rfl) (laid_met os))) ?_
 intro W base args ds gs before hval hW _ _ _ hL _ _
 exact contract H enc W 0 args ds gs before (fun j t v h1 h2=>okWide_zero (hval j t v h1 h2)) rfl hW hL
theorem said:Rows.WordRowsSaid :=
 OpenClaim.holds_of_cond 3 Tryd.f3 rfl rfl rfl rfl rfl rfl rfl ⟨rfl,rfl,rfl,rfl,rfl⟩ rfl rfl rfl rfl rfl (by kernel_rfl) Tryd.func3 (by kernel_rfl)
  (of_decide_eq_true (by kernel_rfl)) (by unfold Func.isWrapper;first | (rw [if_pos (by decide +kernel)];kernel_rfl) | (rw [if_neg (by decide +kernel)];exact ⟨rfl,rfl⟩))
  (fun os started H enc _ F=>by rw [OpenClaim.pre_eq_preRow];exact lifted os started H enc F)
theorem plain (f:FuncId) (fn:Func) (hf:Tryd.pinned.checked.prog.funcNamed "glyphic/glyphiclaw8.WordRows" = some f) (hfn:Tryd.pinned.checked.prog.funcs[f]?=some fn) :
  true=Tryd.pinned.checked.prog.looks []∧∀ (j:Nat) t,fn.params[j]?=some t→Tryd.pinned.checked.prog.wantsStandIn t=false:=by
 obtain rfl:f=3:=Option.some.inj ((show Tryd.prog.funcNamed "glyphic/glyphiclaw8.WordRows" = some 3 by kernel_rfl).symm.trans hf) |>.symm
 obtain rfl:fn=Tryd.f3:=(Option.some.inj (Tryd.func3.symm.trans hfn)).symm
 refine ⟨by kernel_rfl,fun j t ht => ?_⟩
 rw [Tryd.params3] at ht
 have ht':=Array.mem_of_getElem? ht
 simp only [List.mem_toArray,List.mem_cons,List.not_mem_nil,or_false] at ht'
 rcases ht' with rfl | rfl
 ·exact (show Tryd.prog.wantsStandIn 22=false by kernel_rfl)
 ·exact (show Tryd.prog.wantsStandIn 22=false by kernel_rfl)
theorem card:Rows.WordRowsCardSaid :=
 Claim7.holds_tied_plain_at .later [] _ _ _ _ said (fun _ h=>by cases h) (by kernel_rfl) (fun _ h=>by cases h) wordRows_row_tie rfl ⟨rfl,rfl⟩ (by kernel_rfl) rfl plain (by kernel_rfl)
#print axioms card
end Go.Proofs.YtpobcoodmhhpaaaDoor.wordRows
namespace Go.Proofs.YtpobcoodmhhpaaaDoor
theorem wordRows_holds:Rows.WordRowsCardSaid:=wordRows.card
end Go.Proofs.YtpobcoodmhhpaaaDoor
