/- A law's call: its arguments, laid into the first heap. -/
import Derived.Test.YtpobcoodmhhpaaaDoorVlH
import Derived.Test.YtpobcoodmhhpaaaDoorFrS
import Derived.ChangeSlices
import Derived.ChangeMaps5
import Derived.RowKit
import Derived.Carry
set_option linter.unusedSimpArgs false
set_option linter.unusedVariables false
namespace Go.VL
open Go.FR Go.ChangeShapes Go.WideShapes Go.RowKit
noncomputable section
def RO (H:Heap):Prop:=∀ k x,H.get k=some x→x.rw=false
def GG (H:Heap):Gz:=fun b=>if b < H.next then H.get b else none
def HLe (H H':Heap):Prop:=H.next≤H'.next∧∀ b,b < H.next→H'.get b=H.get b
theorem HLe.refl (H:Heap):HLe H H:=⟨Nat.le_refl _,fun _ _=>rfl⟩
theorem HLe.trans {a b c:Heap} (h:HLe a b) (k:HLe b c):HLe a c:=⟨Nat.le_trans h.1 k.1,fun i hi=>by rw [k.2 i (Nat.lt_of_lt_of_le hi h.1),h.2 i hi]⟩
theorem HLe.gg {H H':Heap} (h:HLe H H'):(GG H).le (GG H'):=fun b x q=>by
 unfold GG at q ⊢
 split at q<;>try (cases q;done)
 rename_i hb
 rw [if_pos (Nat.lt_of_lt_of_le hb h.1),h.2 b hb];exact q
def ArgOK (W:World) (v:Value) (vv:VV):Prop:=∀ (L:List (Nat × Nat)) (H:Heap) (ι:Pl),Rel W.heap.size L H ι W→RO H →
 ∃ H' ι' av,Rel W.heap.size L H' ι' W∧RO H'∧ι.le ι'∧HLe H H'∧VRel ι' av v∧VR (GG H') noP vv av
def ArgsOK (W:World):List Value→List VV→Prop
 | [],[]=>True
 | v::vs,x::xs=>ArgOK W v x∧ArgsOK W vs xs
 | _,_=>False
theorem args_lay {W:World}:∀ {vs:List Value} {xs:List VV},ArgsOK W vs xs→∀ (L:List (Nat × Nat)) (H:Heap) (ι:Pl),Rel W.heap.size L H ι W→RO H →
  ∃ H' ι' as,Rel W.heap.size L H' ι' W∧RO H'∧ι.le ι'∧HLe H H'∧VRels ι' as vs∧VRs (GG H') noP xs as
 | [],[],_,L,H,ι,hR,hro=>⟨H,ι,[],hR,hro,Pl.le_refl _,HLe.refl _,VRels.nil,VRs.nil⟩
 | [],x::xs,h,_,_,_,_,_=>h.elim
 | v::vs,[],h,_,_,_,_,_=>h.elim
 | v::vs,x::xs,⟨h1,h2⟩,L,H,ι,hR,hro=>by
  obtain ⟨H1,ι1,a,r1,r2,r3,r4,r5,r6⟩:=h1 L H ι hR hro
  obtain ⟨H2,ι2,as,s1,s2,s3,s4,s5,s6⟩:=args_lay h2 L H1 ι1 r1 r2
  exact ⟨H2,ι2,a::as,s1,s2,Pl.le_trans r3 s3,r4.trans s4,VRels.cons (VRel.mono s3 _ _ r5) s5,VRs.cons (VR.mono s4.gg (Pm.le_refl _) _ _ r6) s6⟩
theorem lay_block {W:World} {L:List (Nat × Nat)} {H:Heap} {ι:Pl} (hR:Rel W.heap.size L H ι W) (hro:RO H) (cs:List AV) (j:Inj) (hs:∀ v∈cs,scA v=true)
  {c:Array Value} {t:TypeId} {fr:Nat × Nat} (hb:W.heap[j.blk]?=some (.cells c t fr)) (hv:∀ κ,VRels κ cs ((c.toList.drop j.off).take cs.length)) (hl:j.off+cs.length≤c.size) :
  Rel W.heap.size L (H.push (.cells cs false true)) (setP ι H.next j) W∧RO (H.push (.cells cs false true))∧ι.le (setP ι H.next j)∧HLe H (H.push (.cells cs false true)):=by
 have hn:ι H.next=none:=hR.f _ (Nat.le_refl _)
 have le:=setP_le (j:=j) hn
 have hro':RO (H.push (.cells cs false true)):=fun k x q=>by
  rw [H_push] at q
  split at q
  ·obtain rfl:=Option.some.inj q;rfl
  ·exact hro k x q
 have lt:j.blk < W.heap.size:=(Array.getElem?_eq_some_iff.1 hb).1
 have oldx:∀ k x,k≠H.next→(H.push (.cells cs false true)).get k=some x→H.get k=some x:=fun k x e q=>by rw [H_push,if_neg e] at q;exact q
 refine ⟨⟨⟨fun k x q => ?_,fun k l x y i jj hk _ _ hr=>(by rw [hro' k x hk] at hr;cases hr),fun k l x y i jj hk hl' hne hx hy hi hj => ?_⟩,hR.b,fun n i q => ?_,fun k hk => ?_⟩,hro',le,?_⟩
 ·by_cases e:k=H.next
  ·subst e
   rw [H_push,if_pos rfl] at q
   obtain rfl:=Option.some.inj q
   exact ⟨j,setP_same _ _ _,hs,c,t,fr,hb,hv _,hl,(fun e=>by cases e),(fun e=>by cases e),fun _=>lt⟩
  ·obtain ⟨jj,h1,h2⟩:=hR.h.at_ k x (oldx k x e q)
   exact ⟨jj,le _ _ h1,h2.mono le rfl⟩
 ·have e1:k≠H.next:=fun e=>by
   subst e
   rw [H_push,if_pos rfl] at hk
   obtain rfl:=Option.some.inj hk
   simp [ABlk.fixed] at hx
  have e2:l≠H.next:=fun e=>by
   subst e
   rw [H_push,if_pos rfl] at hl'
   obtain rfl:=Option.some.inj hl'
   simp [ABlk.fixed] at hy
  rw [setP_other _ _ _ e1] at hi
  rw [setP_other _ _ _ e2] at hj
  exact hR.h.fixed k l x y i jj (oldx _ _ e1 hk) (oldx _ _ e2 hl') hne hx hy hi hj
 ·obtain ⟨s,hs⟩:=hR.g n i q
  exact ⟨s,le _ _ hs⟩
 ·have hk':H.next+1≤k:=by simpa [Heap.push] using hk
  rw [setP_other _ _ _ (by omega)]
  exact hR.f k (by omega)
 ·exact ⟨by simp [Heap.push],fun b hb=>by rw [H_push,if_neg (by omega)]⟩
def intsV (ks:List IntKind) (zs:List Int):List VV:=List.zipWith (fun k z=>VV.int k z) ks zs
def intsA (ks:List IntKind) (zs:List Int):List AV:=List.zipWith (fun k z=>AV.int k z) ks zs
def intsW (ks:List IntKind) (zs:List Int):List Value:=List.zipWith (fun k z=>Value.int k z) ks zs
def fitL:List IntKind→List Int→Prop
 | [],[]=>True
 | k::ks,z::zs=>(k.min≤z∧z≤k.max)∧fitL ks zs
 | _,_=>False
theorem fitL.length:∀ {ks:List IntKind} {zs:List Int},fitL ks zs→zs.length=ks.length
 | [],[],_=>rfl
 | [],_::_,h=>h.elim
 | _::_,[],h=>h.elim
 | k::ks,z::zs,h=>by simp [fitL.length h.2]
theorem intsR (κ:Pl):∀ (ks:List IntKind) (zs:List Int),VRels κ (intsA ks zs) (intsW ks zs)
 | [],_=>by simp [intsA,intsW,VRels]
 | _::_,[]=>by simp [intsA,intsW,VRels]
 | k::ks,z::zs=>VRels.cons (by simp only [VRel]) (intsR κ ks zs)
theorem intsVR (G:Gz) (μ:Pm):∀ (ks:List IntKind) (zs:List Int),VRs G μ (intsV ks zs) (intsA ks zs)
 | [],_=>by simp [intsA,intsV,VRs]
 | _::_,[]=>by simp [intsA,intsV,VRs]
 | k::ks,z::zs=>VRs.cons rfl (intsVR G μ ks zs)
theorem intsA_sc:∀ (ks:List IntKind) (zs:List Int),∀ v∈intsA ks zs,scA v=true
 | [],_,v,h=>by simp [intsA] at h
 | _::_,[],v,h=>by simp [intsA] at h
 | k::ks,z::zs,v,h=>by
  simp only [intsA,List.zipWith_cons_cons,List.mem_cons] at h
  rcases h with rfl | h
  ·rfl
  ·exact intsA_sc ks zs v h
theorem intsA_len (ks:List IntKind) (zs:List Int) (h:zs.length=ks.length):(intsA ks zs).length=ks.length:=by simp [intsA,h]
theorem intsV_len (ks:List IntKind) (zs:List Int) (h:zs.length=ks.length):(intsV ks zs).length=ks.length:=by simp [intsV,h]
section
variable {H:Type} {enc:TypeId × Value→H} {P:Program} {W:World} {base:Nat} {spare:Nat→Bool} {held:Bool}
def FlatK (P:Program) (e:TypeId) (ks:List IntKind):Prop :=
 P.cellsOf e=ks.length∧∀ {H:Type} {enc:TypeId × Value→H} {w:World} {base:Nat} {spare:Nat→Bool} {held:Bool} {n:Nat} {cs:List Value} {x:DataW H × List MemPlace},DataW.trod enc P w base spare held n e cs=some x→∃ zs,cs=intsW ks zs∧fitL ks zs
theorem flat_int {e:TypeId} {k:IntKind} (he:P.underlying e=some (.int k)) (hc:P.cellsOf e=1):FlatK P e [k]:=⟨hc,fun h=>by
 obtain ⟨n,rfl,_,hw⟩:=DataW.trod_int he h
 simp only [Lit.wf,Bool.and_eq_true,decide_eq_true_eq] at hw
 exact ⟨[n],rfl,hw,trivial⟩⟩
def flatL {α β:Type} (f:α→List β) (l:List α):List β:=(l.map f).flatten
theorem arg_slice {t e:TypeId} {ks:List IntKind} {v:Value} {d:DataW H} {ps:List MemPlace} (ht:P.underlying t=some (.slice e)) (hk:FlatK P e ks) (h0:0 < ks.length) (hval:Value.okWide P W .any 0 t v) (hd:DataW.Trod enc P W base (fun _=>true) held t v d ps) :
  ∃ l:List (List Int),ArgOK W v (.fsl (flatL (intsV ks) l) l.length ks.length)∧(∀ zs∈l,fitL ks zs)∧l.length≤9223372036854775807:=by
 obtain ⟨a',len',cap',rfl⟩:=okWide_slice ht hval
 have hok:Cell.ok P W .any 0 t (.slice a' len' cap'):=by
  simp only [Value.okWide,ht,Cell.okWide] at hval
  exact hval
 obtain ⟨fuel,hf⟩:=hd
 simp only [Value.cells] at hf
 rcases DataW.trod_slice ht hf with ⟨h1,_⟩ | ⟨a,len,cap,elems,rest,n,_,h1,hx,hb,hlc,hm,hlen,hel,hsp,_⟩
 ·simp only [List.cons.injEq,Value.slice.injEq,and_true] at h1
  obtain ⟨rfl,rfl,rfl⟩:=h1
  exact ⟨[],fun L Hh ι hR hro=>⟨Hh,ι,.slice none 0 (.exact 0),hR,hro,Pl.le_refl _,HLe.refl _,⟨rfl,rfl,rfl⟩,by simp [flatL],.inl ⟨rfl,rfl⟩⟩,(fun _ h=>by cases h),by simp⟩
 ·simp only [List.cons.injEq,Value.slice.injEq,and_true] at h1
  obtain ⟨rfl,rfl,rfl⟩:=h1
  simp only [Cell.ok,ht] at hok
  obtain ⟨_,_,_,hspot,row,cells,hshape,_⟩:=hok
  have hblk:∃ c fr,W.heap[a.block]?=some (.cells c row fr):=by
   unfold World.shape? at hshape
   split at hshape<;>try (cases hshape;done)
   rename_i c el fr hh
   simp only [Option.some.injEq,Prod.mk.injEq] at hshape
   obtain ⟨rfl,rfl⟩:=hshape
   exact ⟨c,fr,hh⟩
  obtain ⟨c,fr,hc⟩:=hblk
  have hrest:=(hsp rfl).2
  have add:∀ i,a.add i=⟨a.block,a.off+i,none⟩:=fun i=>by
   obtain ⟨ab,ao,asp⟩:=a
   simp only at hspot;subst hspot
   exact add_plain _ _ _
  have hcap:∀ i,i < cap'→∃ zs,W.cells? base (a.add (i*P.cellsOf e)) (P.cellsOf e)=some (intsW ks zs)∧fitL ks zs:=fun i hi=>by
   have:∃ y,(W.cells? base (a.add (i*P.cellsOf e)) (P.cellsOf e)).bind (DataW.trod enc P W base (fun _=>true) held n e)=some y:=by
    by_cases h:i < len'
    ·obtain ⟨y,hy⟩:∃ y,elems[i]?=some y:=⟨elems[i],List.getElem?_eq_getElem (by omega)⟩
     exact ⟨y,by rw [hel i h];exact hy⟩
    ·have h2:i - len' < cap' - len':=by omega
     obtain ⟨y,hy⟩:∃ y,rest[i - len']?=some y:=⟨rest[i - len']'(by have:=(hsp rfl).1;omega),List.getElem?_eq_getElem (by have:=(hsp rfl).1;omega)⟩
     have q:=hrest (i - len') h2
     rw [show len'+(i - len')=i by omega] at q
     exact ⟨y,by rw [q];exact hy⟩
   obtain ⟨y,hy⟩:=this
   obtain ⟨cs,h1,h2⟩:=Option.bind_eq_some_iff.1 hy
   obtain ⟨zs,rfl,h3⟩:=hk.2 h2
   exact ⟨zs,h1,h3⟩
  have hcell:∀ i,i < cap'→∀ zs,W.cells? base (a.add (i*P.cellsOf e)) (P.cellsOf e)=some (intsW ks zs)→∀ q,q < ks.length→c[a.off+(i*ks.length+q)]?=(intsW ks zs)[q]?:=fun i hi zs hz q hq=>by
   obtain ⟨_,_,hat⟩:=World.cells?_some hz
   have:=hat q (by rw [hk.1];exact hq)
   rw [add,hk.1] at this
   rw [show (⟨a.block,a.off+i*ks.length,none⟩:Addr).add q=⟨a.block,a.off+i*ks.length+q,none⟩ from add_plain _ _ _] at this
   simp only [World.cell?,hc] at this
   rw [←Nat.add_assoc]
   simpa using this
  obtain ⟨Z,hZ⟩:∃ Z:Nat→List Int,∀ i,i < cap'→W.cells? base (a.add (i*P.cellsOf e)) (P.cellsOf e)=some (intsW ks (Z i))∧fitL ks (Z i):=by
   have hex:∀ i,∃ zs:List Int,i < cap'→W.cells? base (a.add (i*P.cellsOf e)) (P.cellsOf e)=some (intsW ks zs)∧fitL ks zs:=fun i=>by
    by_cases h:i < cap'
    ·obtain ⟨zs,h1⟩:=hcap i h;exact ⟨zs,fun _=>h1⟩
    ·exact ⟨[],fun h'=>(h h').elim⟩
   exact ⟨fun i=>(hex i).choose,fun i hi=>(hex i).choose_spec hi⟩
  have key:∀ m,m≤cap'→(a.off+m*ks.length≤c.size∨m=0)∧((c.toList.drop a.off).take (m*ks.length)=flatL (fun i=>intsW ks (Z i)) (List.range m)):=by
   intro m
   induction m with
   | zero=>intro _;exact ⟨.inr rfl,by simp [flatL]⟩
   | succ m ih =>
    intro hm'
    obtain ⟨i1,i2⟩:=ih (by omega)
    obtain ⟨z1,z2⟩:=hZ m (by omega)
    have hzl:=fitL.length z2
    have hwl:(intsW ks (Z m)).length=ks.length:=by simp [intsW,hzl]
    have hc':=hcell m (by omega) _ z1
    have hsz:a.off+(m+1)*ks.length≤c.size:=by
     have:=hc' (ks.length - 1) (by omega)
     rw [List.getElem?_eq_getElem (by omega)] at this
     have:=(Array.getElem?_eq_some_iff.1 this).1
     rw [Nat.add_mul,Nat.one_mul]
     omega
    refine ⟨.inl hsz,?_⟩
    rw [Nat.add_mul,Nat.one_mul,List.take_add,i2,List.range_succ]
    simp only [flatL,List.map_append,List.flatten_append,List.map_cons,List.map_nil,List.flatten_cons,List.flatten_nil,List.append_nil]
    congr 1
    rw [List.drop_drop]
    apply List.ext_getElem?
    intro q
    by_cases hq:q < ks.length
    ·rw [List.getElem?_take_of_lt hq,List.getElem?_drop]
     have:=hc' q hq
     rw [←this,Array.getElem?_toList]
     congr 1;omega
    ·rw [List.getElem?_eq_none (by simp;omega),List.getElem?_eq_none (by omega)]
  have fit:∀ zs∈(List.range len').map Z,fitL ks zs:=fun zs hz=>by
   obtain ⟨i,hi,rfl⟩:=List.mem_map.1 hz
   exact (hZ i (by have:=List.mem_range.1 hi;omega)).2
  have flen:∀ {β:Type} (f:List Int→List β) (l:List (List Int)),(∀ zs∈l,(f zs).length=ks.length)→(flatL f l).length=l.length*ks.length:=fun f l=>by
   induction l with
   | nil=>intro _;simp [flatL]
   | cons z l ih =>
    intro h
    have:=ih (fun zs hz=>h zs (List.mem_cons_of_mem _ hz))
    simp only [flatL,List.map_cons,List.flatten_cons,List.length_append,List.length_cons] at this ⊢
    rw [this,h z (List.mem_cons_self ..),Nat.add_mul,Nat.one_mul];omega
  have hA:(flatL (intsA ks) ((List.range len').map Z)).length=len'*ks.length:=by
   rw [flen _ _ (fun zs hz=>intsA_len ks zs (fit zs hz).length)];simp
  have hV:(flatL (intsV ks) ((List.range len').map Z)).length=len'*ks.length:=by
   rw [flen _ _ (fun zs hz=>intsV_len ks zs (fit zs hz).length)];simp
  have rel:∀ (κ:Pl) (l:List (List Int)),VRels κ (flatL (intsA ks) l) (flatL (intsW ks) l):=fun κ l=>by
   induction l with
   | nil=>simp [flatL,VRels]
   | cons z l ih=>exact VRels.append (intsR κ ks z) ih
  have relV:∀ (G:Gz) (l:List (List Int)),VRs G noP (flatL (intsV ks) l) (flatL (intsA ks) l):=fun G l=>by
   induction l with
   | nil=>simp [flatL,VRs]
   | cons z l ih=>exact VRs.append (intsVR G noP ks z) ih
  have sc:∀ (l:List (List Int)),∀ v∈flatL (intsA ks) l,scA v=true:=fun l=>by
   induction l with
   | nil=>intro v h;simp [flatL] at h
   | cons z l ih =>
    intro v h
    simp only [flatL,List.map_cons,List.flatten_cons,List.mem_append] at h
    rcases h with h | h
    ·exact intsA_sc ks z v h
    ·exact ih v h
  refine ⟨(List.range len').map Z,fun L Hh ι hR hro => ?_,fit,by simpa [maxLen] using Nat.le_trans hlc hm⟩
  have hk':=key len' hlc
  let j:Inj:=⟨a.block,if cap'=0 then 0 else a.off,0⟩
  have hv:∀ κ,VRels κ (flatL (intsA ks) ((List.range len').map Z)) ((c.toList.drop j.off).take (flatL (intsA ks) ((List.range len').map Z)).length):=fun κ=>by
   rw [hA]
   by_cases h:cap'=0
   ·have:len'=0:=by omega
    subst this
    simp [flatL,VRels]
   ·simp only [j,if_neg h]
    rw [hk'.2]
    have:flatL (fun i=>intsW ks (Z i)) (List.range len')=flatL (intsW ks) ((List.range len').map Z):=by simp [flatL,List.map_map,Function.comp_def]
    rw [this]
    exact rel κ _
  have hl:j.off+(flatL (intsA ks) ((List.range len').map Z)).length≤c.size:=by
   rw [hA]
   by_cases h:cap'=0
   ·have:len'=0:=by omega
    subst this
    simp [j,h]
   ·simp only [j,if_neg h]
    rcases hk'.1 with q | q
    ·exact q
    ·subst q
     have:=(key 1 (by omega)).1
     rcases this with q | q
     ·omega
     ·omega
  obtain ⟨r1,r2,r3,r4⟩:=lay_block hR hro (flatL (intsA ks) ((List.range len').map Z)) j (sc _) hc hv hl
  refine ⟨_,_,.slice (some (Hh.next,0)) len' (.exact cap'),r1,r2,r3,r4,⟨j,a,cap',setP_same _ _ _,rfl,hlc,rfl,fun hm0 => ?_⟩,?_⟩
  ·simp only [j,if_neg hm0,Nat.add_zero]
   obtain ⟨ab,ao,asp⟩:=a
   simp only at hspot;subst hspot;rfl
  ·refine ⟨by rw [hV];simp,.inr ⟨Hh.next,0,.exact cap',flatL (intsA ks) ((List.range len').map Z),false,true,_,?_,by simp,by simp [capOK];omega,rfl,?_,?_⟩⟩
   ·unfold GG
    rw [if_pos (by simp [Heap.push]),H_push,if_pos rfl]
   ·rw [hA];simp
   ·simp only [List.length_map,List.length_range,List.drop_zero]
    rw [List.take_of_length_le (by rw [hA];exact Nat.le_refl _)]
    exact relV _ _
end
section
variable {P:Program} {W:World}
theorem law_V {C:Cfg} {l:List (Nat × AFunc)} (hE:AllGood P C l) {Gl:qzg} {f:Nat} {vs:List Value} {xs:List VV} {F:Func} {body:Code} (hF:P.funcs[f]?=some F) (hb:F.body=some body)
  {ι:Pl} {H0:Heap} (hR:Rel W.heap.size C.globals H0 ι W) (hro:RO H0) (hGl:∀ i cs,qzc Gl i=some cs→∃ as,GG H0 i=some (.cells as false false)∧VRs (GG H0) noP cs as)
  (ha:ArgsOK W vs xs) (hc:CallsV (lookE l) Gl f xs h0 (fun v _=>v = .bool true)) :
  Calls P f vs.toArray W fun e W'=>e = .returned (.bool true)∧Below W.heap.size W W':=by
 obtain ⟨H,κ,as,r1,r2,r3,r4,r5,r6⟩:=args_lay ha _ H0 ι hR hro
 have w:GW Gl (GG H) H:=⟨fun b x q=>by
  unfold GG at q
  split at q<;>try (cases q;done)
  rename_i hb
  exact ⟨q,hb⟩,fun i cs q=>by
  obtain ⟨as,p1,p2⟩:=hGl i cs q
  exact ⟨as,r4.gg _ _ p1,VRs.mono r4.gg (Pm.le_refl _) _ _ p2⟩⟩
 obtain ⟨N,a,H',G',μ',v,h',c1,c2,c3,c4,rfl⟩:=hc (SR.start w) r6
 simp only [VR] at c4
 subst c4
 exact law_call hE hF hb r1 r2 r5 (c1 N (Nat.le_refl _))
theorem trodAll_below {H:Type} {enc:TypeId × Value→H} (hl:laidOutB P=true) {W':World} (hb:Below W.heap.size W W'):∀ {ts:List TypeId} {vs:List Value} {ds:List (DataW H)} {ps:List MemPlace},
  (∀ t∈ts,P.readableRec t=true∧t < P.types.size)→DataW.TrodAll enc P W 0 (fun _=>true) true ts vs ds ps→(∀ x∈ps,x.block < W.heap.size)→DataW.TrodAll enc P W' 0 (fun b=>decide (b < W.heap.size)) true ts vs ds ps
 | [],vs,ds,ps,_,h,_=>by
  obtain ⟨rfl,rfl,rfl⟩:=trodAll_nil h
  exact trodAll_mk0
 | t::ts,vs,ds,ps,ht,h,hlt=>by
  obtain ⟨v,vs',d,ds',p,q,rfl,rfl,rfl,h1,h2⟩:=trodAll_cons h
  obtain ⟨t1,t2⟩:=ht t (List.mem_cons_self ..)
  exact ⟨p,q,Below.trod hl t1 t2 h1 hb (fun x hx=>hlt x (List.mem_append_left _ hx)),trodAll_below hl hb (fun t ht'=>ht t (List.mem_cons_of_mem _ ht')) h2 (fun x hx=>hlt x (List.mem_append_right _ hx)),rfl⟩
end
theorem okWide_zero {P:Program} {W:World} {base:Nat} {t:TypeId} {v:Value} (h:Value.okWide P W .any base t v):Value.okWide P W .any 0 t v:=h
theorem arg_ints {H:Type} {enc:TypeId × Value→H} {P:Program} {W:World} {base:Nat} {held:Bool} {t e:TypeId} {k:IntKind} {v:Value} {d:DataW H} {ps:List MemPlace} (ht:P.underlying t=some (.slice e)) (hk:FlatK P e [k]) (hval:Value.okWide P W .any 0 t v) (hd:DataW.Trod enc P W base (fun _=>true) held t v d ps) :
  ∃ l:List Int,ArgOK W v (.fsl (l.map (VV.int k)) l.length 1)∧(∀ z∈l,k.min≤z∧z≤k.max)∧l.length≤9223372036854775807:=by
 obtain ⟨l,h1,h2,h3⟩:=arg_slice ht hk (by simp) hval hd
 have key:∀ l:List (List Int),(∀ zs∈l,fitL [k] zs)→∃ m:List Int,l=m.map (fun z=>[z])∧∀ z∈m,k.min≤z∧z≤k.max:=by
  intro l
  induction l with
  | nil=>intro _;exact ⟨[],rfl,fun _ h=>by cases h⟩
  | cons zs l ih =>
   intro h
   obtain ⟨m,e,hm⟩:=ih (fun z hz=>h z (List.mem_cons_of_mem _ hz))
   have hz:=h zs (List.mem_cons_self ..)
   match zs,hz with
   | [z],hz =>
    refine ⟨z::m,by rw [e];rfl,fun y hy => ?_⟩
    rcases List.mem_cons.1 hy with rfl | hy
    ·exact hz.1
    ·exact hm y hy
 obtain ⟨m,rfl,hm⟩:=key l h2
 refine ⟨m,?_,hm,by simpa using h3⟩
 have e:flatL (intsV [k]) (m.map fun z=>[z])=m.map (VV.int k):=by
  clear h1 h2 h3 hm
  induction m with
  | nil=>rfl
  | cons z m ih=>simp only [flatL,List.map_cons,List.flatten_cons] at ih ⊢;rw [ih];rfl
 rw [e] at h1
 simpa using h1
end
end Go.VL
