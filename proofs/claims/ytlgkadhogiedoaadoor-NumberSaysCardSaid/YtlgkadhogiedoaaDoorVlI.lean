/- A law's call: its arguments, laid into the first heap. -/
import Derived.Test.YtlgkadhogiedoaaDoorVlH
import Derived.Test.YtlgkadhogiedoaaDoorFrS
import Derived.ChangeSlices
import Derived.ChangeMaps5
import Derived.RowKit
import Derived.Carry
set_option linter.unusedSimpArgs false
set_option linter.unusedVariables false
namespace Go.VL
open Go.FR Go.ChangeShapes Go.WideShapes Go.RowKit
noncomputable section
def RO (H:Heap):Prop:=∀ k x,H.get k=some x→x.rw=false
def GG (H:Heap):Gz:=fun b=>if b < H.next then H.get b else none
def HLe (H H':Heap):Prop:=H.next≤H'.next∧∀ b,b < H.next→H'.get b=H.get b
theorem HLe.refl (H:Heap):HLe H H:=⟨Nat.le_refl _,fun _ _=>rfl⟩
theorem HLe.trans {a b c:Heap} (h:HLe a b) (k:HLe b c):HLe a c:=⟨Nat.le_trans h.1 k.1,fun i hi=>by rw [k.2 i (Nat.lt_of_lt_of_le hi h.1),h.2 i hi]⟩
theorem HLe.gg {H H':Heap} (h:HLe H H'):(GG H).le (GG H'):=fun b x q=>by
 unfold GG at q ⊢
 split at q<;>try (cases q;done)
 rename_i hb
 rw [if_pos (Nat.lt_of_lt_of_le hb h.1),h.2 b hb];exact q
def ArgOK (W:World) (v:Value) (vv:VV):Prop:=∀ (L:List (Nat × Nat)) (H:Heap) (ι:Pl),Rel W.heap.size L H ι W→RO H →
 ∃ H' ι' av,Rel W.heap.size L H' ι' W∧RO H'∧ι.le ι'∧HLe H H'∧VRel ι' av v∧VR (GG H') noP vv av
theorem arg_sc {W:World} {v:Value} {vv:VV} {av:AV} (h:∀ ι,VRel ι av v) (k:∀ G,VR G noP vv av):ArgOK W v vv:=fun L H ι hR hro =>
 ⟨H,ι,av,hR,hro,Pl.le_refl _,HLe.refl _,h ι,k _⟩
def ArgsOK (W:World):List Value→List VV→Prop
 | [],[]=>True
 | v::vs,x::xs=>ArgOK W v x∧ArgsOK W vs xs
 | _,_=>False
theorem args_lay {W:World}:∀ {vs:List Value} {xs:List VV},ArgsOK W vs xs→∀ (L:List (Nat × Nat)) (H:Heap) (ι:Pl),Rel W.heap.size L H ι W→RO H →
  ∃ H' ι' as,Rel W.heap.size L H' ι' W∧RO H'∧ι.le ι'∧HLe H H'∧VRels ι' as vs∧VRs (GG H') noP xs as
 | [],[],_,L,H,ι,hR,hro=>⟨H,ι,[],hR,hro,Pl.le_refl _,HLe.refl _,VRels.nil,VRs.nil⟩
 | [],x::xs,h,_,_,_,_,_=>h.elim
 | v::vs,[],h,_,_,_,_,_=>h.elim
 | v::vs,x::xs,⟨h1,h2⟩,L,H,ι,hR,hro=>by
  obtain ⟨H1,ι1,a,r1,r2,r3,r4,r5,r6⟩:=h1 L H ι hR hro
  obtain ⟨H2,ι2,as,s1,s2,s3,s4,s5,s6⟩:=args_lay h2 L H1 ι1 r1 r2
  exact ⟨H2,ι2,a::as,s1,s2,Pl.le_trans r3 s3,r4.trans s4,VRels.cons (VRel.mono s3 _ _ r5) s5,VRs.cons (VR.mono s4.gg (Pm.le_refl _) _ _ r6) s6⟩
def intsV (ks:List IntKind) (zs:List Int):List VV:=List.zipWith (fun k z=>VV.int k z) ks zs
def intsA (ks:List IntKind) (zs:List Int):List AV:=List.zipWith (fun k z=>AV.int k z) ks zs
def intsW (ks:List IntKind) (zs:List Int):List Value:=List.zipWith (fun k z=>Value.int k z) ks zs
def fitL:List IntKind→List Int→Prop
 | [],[]=>True
 | k::ks,z::zs=>(k.min≤z∧z≤k.max)∧fitL ks zs
 | _,_=>False
theorem fitL.length:∀ {ks:List IntKind} {zs:List Int},fitL ks zs→zs.length=ks.length
 | [],[],_=>rfl
 | [],_::_,h=>h.elim
 | _::_,[],h=>h.elim
 | k::ks,z::zs,h=>by simp [fitL.length h.2]
section
variable {H:Type} {enc:TypeId × Value→H} {P:Program} {W:World} {base:Nat} {spare:Nat→Bool} {held:Bool}
def FlatK (P:Program) (e:TypeId) (ks:List IntKind):Prop :=
 P.cellsOf e=ks.length∧∀ {H:Type} {enc:TypeId × Value→H} {w:World} {base:Nat} {spare:Nat→Bool} {held:Bool} {n:Nat} {cs:List Value} {x:DataW H × List MemPlace},DataW.trod enc P w base spare held n e cs=some x→∃ zs,cs=intsW ks zs∧fitL ks zs
theorem arg_int {t:TypeId} {k:IntKind} {v:Value} {d:DataW H} {ps:List MemPlace} (ht:P.underlying t=some (.int k)) (hval:Value.okWide P W .any 0 t v) (hd:DataW.Trod enc P W base spare held t v d ps) :
  ∃ n:Int,ArgOK W v (.int k n)∧k.min≤n∧n≤k.max:=by
 obtain ⟨n,rfl,_,_,hw⟩:=open_int ht hval hd
 simp only [Lit.wf,Bool.and_eq_true,decide_eq_true_eq] at hw
 exact ⟨n,arg_sc (av := .int k n) (fun ι=>by simp only [VRel]) (fun G=>rfl),hw⟩
theorem arg_str {t:TypeId} {v:Value} {d:DataW H} {ps:List MemPlace} (ht:P.underlying t=some .string) (hval:Value.okWide P W .any 0 t v) (hd:DataW.Trod enc P W base spare held t v d ps) :
  ∃ s:List UInt8,ArgOK W v (.str s)∧s.length≤9223372036854775807:=by
 obtain ⟨s,rfl,_,_,hs⟩:=Go.ChangeMaps.open_string ht hval hd
 refine ⟨s.data.toList,arg_sc (av := .str s.data.toList) (fun ι=>by simp only [VRel]) (fun G=>rfl),?_⟩
 simpa [maxLen] using hs
def flatL {α β:Type} (f:α→List β) (l:List α):List β:=(l.map f).flatten
end
section
variable {P:Program} {W:World}
theorem law_V {C:Cfg} {l:List (Nat × AFunc)} (hE:AllGood P C l) {Gl:qzh} {f:Nat} {vs:List Value} {xs:List VV} {F:Func} {body:Code} (hF:P.funcs[f]?=some F) (hb:F.body=some body)
  {ι:Pl} {H0:Heap} (hR:Rel W.heap.size C.globals H0 ι W) (hro:RO H0) (hGl:∀ i cs,qzf Gl i=some cs→∃ as,GG H0 i=some (.cells as false false)∧VRs (GG H0) noP cs as)
  (ha:ArgsOK W vs xs) (hc:CallsV (lookE l) Gl f xs h0 (fun v _=>v = .bool true)) :
  Calls P f vs.toArray W fun e W'=>e = .returned (.bool true)∧Below W.heap.size W W':=by
 obtain ⟨H,κ,as,r1,r2,r3,r4,r5,r6⟩:=args_lay ha _ H0 ι hR hro
 have w:GW Gl (GG H) H:=⟨fun b x q=>by
  unfold GG at q
  split at q<;>try (cases q;done)
  rename_i hb
  exact ⟨q,hb⟩,fun i cs q=>by
  obtain ⟨as,p1,p2⟩:=hGl i cs q
  exact ⟨as,r4.gg _ _ p1,VRs.mono r4.gg (Pm.le_refl _) _ _ p2⟩⟩
 obtain ⟨N,a,H',G',μ',v,h',c1,c2,c3,c4,rfl⟩:=hc (SR.start w) r6
 simp only [VR] at c4
 subst c4
 exact law_call hE hF hb r1 r2 r5 (c1 N (Nat.le_refl _))
theorem trodAll_below {H:Type} {enc:TypeId × Value→H} (hl:laidOutB P=true) {W':World} (hb:Below W.heap.size W W'):∀ {ts:List TypeId} {vs:List Value} {ds:List (DataW H)} {ps:List MemPlace},
  (∀ t∈ts,P.readableRec t=true∧t < P.types.size)→DataW.TrodAll enc P W 0 (fun _=>true) true ts vs ds ps→(∀ x∈ps,x.block < W.heap.size)→DataW.TrodAll enc P W' 0 (fun b=>decide (b < W.heap.size)) true ts vs ds ps
 | [],vs,ds,ps,_,h,_=>by
  obtain ⟨rfl,rfl,rfl⟩:=trodAll_nil h
  exact trodAll_mk0
 | t::ts,vs,ds,ps,ht,h,hlt=>by
  obtain ⟨v,vs',d,ds',p,q,rfl,rfl,rfl,h1,h2⟩:=trodAll_cons h
  obtain ⟨t1,t2⟩:=ht t (List.mem_cons_self ..)
  exact ⟨p,q,Below.trod hl t1 t2 h1 hb (fun x hx=>hlt x (List.mem_append_left _ hx)),trodAll_below hl hb (fun t ht'=>ht t (List.mem_cons_of_mem _ ht')) h2 (fun x hx=>hlt x (List.mem_append_right _ hx)),rfl⟩
end
theorem okWide_zero {P:Program} {W:World} {base:Nat} {t:TypeId} {v:Value} (h:Value.okWide P W .any base t v):Value.okWide P W .any 0 t v:=h
end
end Go.VL
