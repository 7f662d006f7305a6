import Derived.Test.YtbamfhdgikeneaaDoorVlH
import Derived.Test.YtbamfhdgikeneaaDoorFrS
import Derived.ChangeSlices
import Derived.ChangeMaps5
import Derived.RowKit
import Derived.Carry
set_option linter.unusedSimpArgs false
set_option linter.unusedVariables false
namespace Go.VL
open Go.FR Go.ChangeShapes Go.WideShapes Go.RowKit
noncomputable section
def RO (H:Heap):Prop:=∀ k x,H.get k=some x→x.rw=false
def GG (H:Heap):Gz:=fun b=>if b < H.next then H.get b else none
def HLe (H H':Heap):Prop:=H.next≤H'.next∧∀ b,b < H.next→H'.get b=H.get b
theorem HLe.refl (H:Heap):HLe H H:=⟨Nat.le_refl _,fun _ _=>rfl⟩
theorem HLe.trans {a b c:Heap} (h:HLe a b) (k:HLe b c):HLe a c:=⟨Nat.le_trans h.1 k.1,fun i hi=>by rw [k.2 i (Nat.lt_of_lt_of_le hi h.1),h.2 i hi]⟩
theorem HLe.gg {H H':Heap} (h:HLe H H'):(GG H).le (GG H'):=fun b x q=>by
 unfold GG at q ⊢
 split at q<;>try (cases q;done)
 rename_i hb
 rw [if_pos (Nat.lt_of_lt_of_le hb h.1),h.2 b hb];exact q
def ArgOK (W:World) (v:Value) (vv:VV):Prop:=∀ (L:List (Nat × Nat)) (H:Heap) (ι:Pl),Rel W.heap.size L H ι W→RO H →
 ∃ H' ι' av,Rel W.heap.size L H' ι' W∧RO H'∧ι.le ι'∧HLe H H'∧VRel ι' av v∧VR (GG H') noP vv av
theorem arg_sc {W:World} {v:Value} {vv:VV} {av:AV} (h:∀ ι,VRel ι av v) (k:∀ G,VR G noP vv av):ArgOK W v vv:=fun L H ι hR hro =>
 ⟨H,ι,av,hR,hro,Pl.le_refl _,HLe.refl _,h ι,k _⟩
def ArgsOK (W:World):List Value→List VV→Prop
 | [],[]=>True
 | v::vs,x::xs=>ArgOK W v x∧ArgsOK W vs xs
 | _,_=>False
theorem args_lay {W:World}:∀ {vs:List Value} {xs:List VV},ArgsOK W vs xs→∀ (L:List (Nat × Nat)) (H:Heap) (ι:Pl),Rel W.heap.size L H ι W→RO H →
  ∃ H' ι' as,Rel W.heap.size L H' ι' W∧RO H'∧ι.le ι'∧HLe H H'∧VRels ι' as vs∧VRs (GG H') noP xs as
 | [],[],_,L,H,ι,hR,hro=>⟨H,ι,[],hR,hro,Pl.le_refl _,HLe.refl _,VRels.nil,VRs.nil⟩
 | [],x::xs,h,_,_,_,_,_=>h.elim
 | v::vs,[],h,_,_,_,_,_=>h.elim
 | v::vs,x::xs,⟨h1,h2⟩,L,H,ι,hR,hro=>by
  obtain ⟨H1,ι1,a,r1,r2,r3,r4,r5,r6⟩:=h1 L H ι hR hro
  obtain ⟨H2,ι2,as,s1,s2,s3,s4,s5,s6⟩:=args_lay h2 L H1 ι1 r1 r2
  exact ⟨H2,ι2,a::as,s1,s2,Pl.le_trans r3 s3,r4.trans s4,VRels.cons (VRel.mono s3 _ _ r5) s5,VRs.cons (VR.mono s4.gg (Pm.le_refl _) _ _ r6) s6⟩
def intsV (ks:List IntKind) (zs:List Int):List VV:=List.zipWith (fun k z=>VV.int k z) ks zs
def intsA (ks:List IntKind) (zs:List Int):List AV:=List.zipWith (fun k z=>AV.int k z) ks zs
def intsW (ks:List IntKind) (zs:List Int):List Value:=List.zipWith (fun k z=>Value.int k z) ks zs
def fitL:List IntKind→List Int→Prop
 | [],[]=>True
 | k::ks,z::zs=>(k.min≤z∧z≤k.max)∧fitL ks zs
 | _,_=>False
theorem fitL.length:∀ {ks:List IntKind} {zs:List Int},fitL ks zs→zs.length=ks.length
 | [],[],_=>rfl
 | [],_::_,h=>h.elim
 | _::_,[],h=>h.elim
 | k::ks,z::zs,h=>by simp [fitL.length h.2]
section
variable {H:Type} {enc:TypeId × Value→H} {P:Program} {W:World} {base:Nat} {spare:Nat→Bool} {held:Bool}
def FlatK (P:Program) (e:TypeId) (ks:List IntKind):Prop :=
 P.cellsOf e=ks.length∧∀ {H:Type} {enc:TypeId × Value→H} {w:World} {base:Nat} {spare:Nat→Bool} {held:Bool} {n:Nat} {cs:List Value} {x:DataW H × List MemPlace},DataW.trod enc P w base spare held n e cs=some x→∃ zs,cs=intsW ks zs∧fitL ks zs
theorem arg_int {t:TypeId} {k:IntKind} {v:Value} {d:DataW H} {ps:List MemPlace} (ht:P.underlying t=some (.int k)) (hval:Value.okWide P W .any 0 t v) (hd:DataW.Trod enc P W base spare held t v d ps) :
  ∃ n:Int,ArgOK W v (.int k n)∧k.min≤n∧n≤k.max:=by
 obtain ⟨n,rfl,_,_,hw⟩:=open_int ht hval hd
 simp only [Lit.wf,Bool.and_eq_true,decide_eq_true_eq] at hw
 exact ⟨n,arg_sc (av := .int k n) (fun ι=>by simp only [VRel]) (fun G=>rfl),hw⟩
def qzg {α β:Type} (f:α→List β) (l:List α):List β:=(l.map f).flatten
end
section
variable {P:Program} {W:World}
theorem law_V {C:Cfg} {l:List (Nat × AFunc)} (hE:AllGood P C l) {Gl:qzj} {f:Nat} {vs:List Value} {xs:List VV} {F:Func} {body:Code} (hF:P.funcs[f]?=some F) (hb:F.body=some body)
  {ι:Pl} {H0:Heap} (hR:Rel W.heap.size C.globals H0 ι W) (hro:RO H0) (hGl:∀ i cs,qza Gl i=some cs→∃ as,GG H0 i=some (.cells as false false)∧VRs (GG H0) noP cs as)
  (ha:ArgsOK W vs xs) (hc:CallsV (lookE l) Gl f xs h0 (fun v _=>v = .bool true)) :
  Calls P f vs.toArray W fun e W'=>e = .returned (.bool true)∧Below W.heap.size W W':=by
 obtain ⟨H,κ,as,r1,r2,r3,r4,r5,r6⟩:=args_lay ha _ H0 ι hR hro
 have w:GW Gl (GG H) H:=⟨fun b x q=>by
  unfold GG at q
  split at q<;>try (cases q;done)
  rename_i hb
  exact ⟨q,hb⟩,fun i cs q=>by
  obtain ⟨as,p1,p2⟩:=hGl i cs q
  exact ⟨as,r4.gg _ _ p1,VRs.mono r4.gg (Pm.le_refl _) _ _ p2⟩⟩
 obtain ⟨N,a,H',G',μ',v,h',c1,c2,c3,c4,rfl⟩:=hc (SR.start w) r6
 simp only [VR] at c4
 subst c4
 exact law_call hE hF hb r1 r2 r5 (c1 N (Nat.le_refl _))
theorem trodAll_below {H:Type} {enc:TypeId × Value→H} (hl:laidOutB P=true) {W':World} (hb:Below W.heap.size W W'):∀ {ts:List TypeId} {vs:List Value} {ds:List (DataW H)} {ps:List MemPlace},
  (∀ t∈ts,P.readableRec t=true∧t < P.types.size)→DataW.TrodAll enc P W 0 (fun _=>true) true ts vs ds ps→(∀ x∈ps,x.block < W.heap.size)→DataW.TrodAll enc P W' 0 (fun b=>decide (b < W.heap.size)) true ts vs ds ps
 | [],vs,ds,ps,_,h,_=>by
  obtain ⟨rfl,rfl,rfl⟩:=trodAll_nil h
  exact trodAll_mk0
 | t::ts,vs,ds,ps,ht,h,hlt=>by
  obtain ⟨v,vs',d,ds',p,q,rfl,rfl,rfl,h1,h2⟩:=trodAll_cons h
  obtain ⟨t1,t2⟩:=ht t (List.mem_cons_self ..)
  exact ⟨p,q,Below.trod hl t1 t2 h1 hb (fun x hx=>hlt x (List.mem_append_left _ hx)),trodAll_below hl hb (fun t ht'=>ht t (List.mem_cons_of_mem _ ht')) h2 (fun x hx=>hlt x (List.mem_append_right _ hx)),rfl⟩
end
theorem okWide_zero {P:Program} {W:World} {base:Nat} {t:TypeId} {v:Value} (h:Value.okWide P W .any base t v):Value.okWide P W .any 0 t v:=h
end
end Go.VL
namespace Go.VL
open Go.FR
noncomputable section
theorem get_def (h:VH) (i:Nat):h.get i=(qza h.l i).getD none:=rfl
theorem qzb {α:Type} (a:Nat) (b:α) (l:List (Nat × α)) (n:Nat):qza ((a,b)::l) n=if a=n then some b else qza l n:=rfl
section
variable {E:Env} {Gl:qzj} {f:Nat} {args vs:List VV} {v:VV} {h:VH} {K:VV→VH→Option (List Nat × Bool)→Prop}
theorem qzf (hp:qzn E Gl f args v) (hs:shutL h vs=some args) (hv:plainB v=true) (hk:K v h (some ([],true))):wpCall E Gl f vs h K :=
 .inl ⟨args,args,v,hs,subL_refl _,hp,by rw [if_pos hv,hv];exact hk⟩
theorem call_plain_sub {a0:List VV} (hp:qzn E Gl f args v) (hs:shutL h vs=some a0) (hb:subL a0 args) (hv:plainB v=true) (hk:K v h (some ([],true))):wpCall E Gl f vs h K :=
 .inl ⟨a0,args,v,hs,hb,hp,by rw [if_pos hv,hv];exact hk⟩
theorem call_refs (hp:qzn E Gl f args v) (hs:shutL h vs=some args) (hv:plainB v=false) (hk:K v (h.fix (idsL vs)) (some ([],false))):wpCall E Gl f vs h K :=
 .inl ⟨args,args,v,hs,subL_refl _,hp,by rw [if_neg (by simp [hv]),hv];exact hk⟩
theorem call_refs_sub {a0:List VV} (hp:qzn E Gl f args v) (hs:shutL h vs=some a0) (hb:subL a0 args) (hv:plainB v=false) (hk:K v (h.fix (idsL vs)) (some ([],false))):wpCall E Gl f vs h K :=
 .inl ⟨a0,args,v,hs,hb,hp,by rw [if_neg (by simp [hv]),hv];exact hk⟩
theorem call_own {cs:List VV} {o n e:Nat} {c:ACap} (hp:PureOwn E Gl f args cs o n e c) (hs:shutL h vs=some args) (hv:plainL cs=true) (hk:K (.slice h.next o n e c) (h.push (.cells cs false)) (some ([],false))):wpCall E Gl f vs h K :=
 .inr (.inl ⟨args,args,cs,o,n,e,c,hs,subL_refl _,hp,by rw [if_pos hv];exact hk⟩)
theorem call_own_sub {a0:List VV} {cs:List VV} {o n e:Nat} {c:ACap} (hp:PureOwn E Gl f args cs o n e c) (hs:shutL h vs=some a0) (hb:subL a0 args) (hv:plainL cs=true) (hk:K (.slice h.next o n e c) (h.push (.cells cs false)) (some ([],false))):wpCall E Gl f vs h K :=
 .inr (.inl ⟨a0,args,cs,o,n,e,c,hs,hb,hp,by rw [if_pos hv];exact hk⟩)
theorem lent1 {i:Nat} {b b':VB} (hi:qza h.l i=some (some b)) (hb:b'.ids=[]):Lent h [(i,b)] [(i,b')] :=
 ⟨fun j x q=>(by
   simp only [qza] at q
   split at q<;>try (cases q;done)
   rename_i e;subst e
   obtain rfl:=Option.some.inj q
   rw [get_def,hi];rfl),fun p hp=>(by simp only [List.mem_singleton] at hp;subst hp;simp [qza]),rfl,fun p hp j hj=>(by simp only [List.mem_singleton] at hp;subst hp;rw [hb] at hj;cases hj)⟩
theorem qzp {i:Nat} {b b':VB} (hp:StOk E Gl f vs [(i,b)] v [(i,b')]) (hi:qza h.l i=some (some b)) (hv:idsV v=[]) (hb:b'.ids=[]) (hk:K v ⟨(i,some b')::h.l,h.next⟩ (some ([i],false))):wpCall E Gl f vs h K :=
 .inr (.inr (.inl ⟨[(i,b)],v,[(i,b')],lent1 hi hb,fun j hj=>(by rw [hv] at hj;cases hj),hp,hk⟩))
theorem call_shut1 {i:Nat} {b b':VB} (hp:StShut E Gl f vs [(i,b)] v [(i,b')]) (hi:qza h.l i=some (some b)) (hb:b'.ids=[]) (hk:K v ⟨(i,some b')::h.l,h.next⟩ (some ([i],false))):wpCall E Gl f vs h K :=
 .inr (.inr (.inr (.inr (.inl ⟨[(i,b)],v,[(i,b')],lent1 hi hb,hp,hk⟩))))
theorem qzh {Q:VV→VH→Prop} (hp:CallsV E Gl f vs h Q) (hk:∀ v h',Q v h'→K v h' none):wpCall E Gl f vs h K :=
 .inr (.inr (.inr (.inr (.inr (.inr (.inl fun G μ H as s k=>by
  obtain ⟨N,a,H',G',μ',v,h',c1,c2,c3,c4,c5⟩:=hp s k
  exact ⟨N,a,H',G',μ',v,h',c1,c2,c3,c4,hk _ _ c5⟩))))))
theorem call_hide {Q:VV→VH→Prop} (i:Nat) {x:VB} (hi:qza h.l i=some (some x)) (hro:x.ro=false) (hp:CallsV E Gl f vs ⟨(i,none)::h.l,h.next⟩ Q) (hk:∀ v h' l,Q v h'→l.contains i=false→K v ⟨(i,some x)::h'.l,h'.next⟩ (some (l,false))):wpCall E Gl f vs h K:=by
 have hm:((List.range h.next).filter (fun j=>decide (j≠i))).contains i=false:=by
  cases e:((List.range h.next).filter (fun j=>decide (j≠i))).contains i with
  | false=>rfl
  | true =>
   rw [List.contains_iff_mem] at e
   have:=(List.mem_filter.mp e).2
   simp at this
 refine .inr (.inr (.inr (.inr (.inr (.inr (.inr ⟨i,x,(List.range h.next).filter (fun j=>decide (j≠i)),by rw [get_def,hi];rfl,hro,fun j hj hjl => ?_,fun G μ H as s k => ?_⟩))))))
 ·rcases Decidable.em (j=i) with e | e
  ·exact e
  ·exact absurd (List.mem_filter.mpr ⟨List.mem_range.mpr hj,by simpa using e⟩) hjl
 ·obtain ⟨N,a,H',G',μ',v,h',c1,c2,c3,c4,c5⟩:=hp s k
  exact ⟨N,a,H',G',μ',v,h',c1,c2,c3,c4,hk _ _ _ c5 hm⟩
theorem call_deep {a0:List VV} (n:Nat) (hp:qzn E Gl f args v) (hs:mapO (shutD n h.get) vs=some a0) (hb:subL a0 args) (hv:plainB v=true) (hk:K v h (some ([],true))):wpCall E Gl f vs h K :=
 .inr (.inr (.inr (.inr (.inr (.inl ⟨n,a0,args,v,hs,hb,hp,.inl ⟨hv,hk⟩⟩)))))
theorem st1_intro {i:Nat} {b b':VB} (hc:∀ nx,i < nx→CallsV E Gl f vs ⟨[(i,some b)],nx⟩ (fun v' h'=>v'=v∧qza h'.l i=some (some b'))):StOk E Gl f vs [(i,b)] v [(i,b')]:=fun nx hn G μ H as s k=>by
 obtain ⟨N,a,H',G',μ',v',h',c1,c2,c3,c4,c5,c6⟩:=hc nx (hn (i,b) (by simp)) s k
 exact ⟨N,a,H',G',μ',v',h',c1,c2,c3,c4,c5,fun j x q=>by
  simp only [qza] at q
  split at q<;>try (cases q;done)
  rename_i e;subst e
  obtain rfl:=Option.some.inj q
  rw [get_def,c6];rfl⟩
theorem look1 {i:Nat} {b':VB} {h':VH} (c6:qza h'.l i=some (some b')):∀ j x,qza [(i,b')] j=some x→h'.get j=some x:=fun j x q=>by
 simp only [qza] at q
 split at q<;>try (cases q;done)
 rename_i e;subst e
 obtain rfl:=Option.some.inj q
 rw [get_def,c6];rfl
theorem shut1_intro {i:Nat} {b b':VB} (hc:∀ nx,i < nx→CallsV E Gl f vs ⟨[(i,some b)],nx⟩ (fun v' h'=>(∃ k v1,shutD k (above nx h') v'=some v1∧subV v1 v)∧qza h'.l i=some (some b'))):StShut E Gl f vs [(i,b)] v [(i,b')]:=fun nx hn G μ H as s k=>by
 obtain ⟨N,a,H',G',μ',v',h',c1,c2,c3,c4,c5,c6⟩:=hc nx (hn (i,b) (by simp)) s k
 exact ⟨N,a,H',G',μ',v',h',c1,c2,c3,c4,c5,look1 c6⟩
end
theorem CallsV.mono {E:Env} {Gl:qzj} {f:Nat} {args:List VV} {h:VH} {Q Q':VV→VH→Prop} (hc:CallsV E Gl f args h Q) (hq:∀ v h,Q v h→Q' v h):CallsV E Gl f args h Q':=fun G μ H as s k=>by
 obtain ⟨N,a,H',G',μ',v,h',c1,c2,c3,c4,c5⟩:=hc s k
 exact ⟨N,a,H',G',μ',v,h',c1,c2,c3,c4,hq _ _ c5⟩
theorem flatL_nil {α β:Type} (f:α→List β):qzg f []=[]:=rfl
theorem flatL_cons {α β:Type} (f:α→List β) (a:α) (l:List α):qzg f (a::l)=f a++qzg f l:=by simp [qzg]
theorem flatL_append {α β:Type} (f:α→List β) (l m:List α):qzg f (l++m)=qzg f l++qzg f m:=by simp [qzg]
theorem flatL_length {α β:Type} {f:α→List β} {n:Nat} (hf:∀ a,(f a).length=n):∀ l:List α,(qzg f l).length=l.length*n
 | []=>by simp [qzg]
 | a::l=>by rw [flatL_cons,List.length_append,hf,flatL_length hf l,List.length_cons,Nat.add_mul,Nat.one_mul];omega
theorem flatL_drop {α β:Type} {f:α→List β} {n:Nat} (hf:∀ a,(f a).length=n):∀ (k:Nat) (l:List α),(qzg f l).drop (k*n)=qzg f (l.drop k)
 | 0,l=>by simp
 | k+1,[]=>by simp [qzg]
 | k+1,a::l=>by
  rw [flatL_cons,List.drop_succ_cons,←flatL_drop hf k l,Nat.add_mul,Nat.one_mul,Nat.add_comm,←List.drop_drop,List.drop_left' (hf a)]
theorem flatL_take {α β:Type} {f:α→List β} {n:Nat} (hf:∀ a,(f a).length=n):∀ (k:Nat) (l:List α),(qzg f l).take (k*n)=qzg f (l.take k)
 | 0,l=>by simp [qzg]
 | k+1,[]=>by simp [qzg]
 | k+1,a::l=>by
  rw [flatL_cons,List.take_succ_cons,flatL_cons,←flatL_take hf k l,Nat.add_mul,Nat.one_mul,Nat.add_comm,List.take_add,List.take_left' (hf a),List.drop_left' (hf a)]
theorem qzr {α β:Type} {f:α→List β} {n:Nat} (hf:∀ a,(f a).length=n) {l:List α} {k:Nat} {a:α} (h:l[k]?=some a):k*n+n≤(qzg f l).length:=by
 have hk:=(List.getElem?_eq_some_iff.1 h).1
 rw [flatL_length hf,←Nat.succ_mul];exact Nat.mul_le_mul_right n hk
theorem qzs {α β:Type} {f:α→List β} {n:Nat} (hf:∀ a,(f a).length=n) {l:List α} {k:Nat} {a:α} (h:l[k]?=some a):((qzg f l).drop (k*n)).take n=f a:=by
 have hk:=(List.getElem?_eq_some_iff.1 h).1
 rw [flatL_drop hf]
 have:l.drop k=a::l.drop (k+1):=by
  rw [List.drop_eq_getElem_cons hk];congr 1;exact (List.getElem?_eq_some_iff.1 h).2
 rw [this,flatL_cons,List.take_left' (hf a)]
theorem drop_at {α:Type} {l:List α} {k:Nat} {a:α} (h:l[k]?=some a):l.drop k=a::l.drop (k+1):=by
 rw [List.drop_eq_getElem_cons (List.getElem?_eq_some_iff.1 h).1];congr 1;exact (List.getElem?_eq_some_iff.1 h).2
theorem take_at {α:Type} {l:List α} {k:Nat} {a:α} (h:l[k]?=some a):l.take (k+1)=l.take k++[a]:=by
 rw [List.take_add_one,h];rfl
theorem part_flat1 {α:Type} {f:α→List VV} {n:Nat} (hf:∀ a,(f a).length=n) {l:List α} {k:Nat} {a:α} (h:l[k]?=some a) {q:Nat} (hq:q < n):partV (qzg f l) (k*n+q) none=(f a)[q]?:=by
 have hk:=(List.getElem?_eq_some_iff.1 h).1
 simp only [partV]
 rw [←List.getElem?_drop,flatL_drop hf]
 have:l.drop k=a::l.drop (k+1):=by
  rw [List.drop_eq_getElem_cons hk];congr 1;exact (List.getElem?_eq_some_iff.1 h).2
 rw [this,flatL_cons,List.getElem?_append_left (by rw [hf];exact hq)]
theorem flat_all {α β:Type} {f:α→List β} {n:Nat} (hf:∀ a,(f a).length=n) (l:List α):l.length*n≤(qzg f l).length∧(qzg f l).take (l.length*n)=qzg f l:=by
 have:=flatL_length hf l
 exact ⟨by omega,List.take_of_length_le (by omega)⟩
theorem closedL_append:∀ (a b:List VV),closedL (a++b)=(closedL a && closedL b)
 | [],b=>by simp [closedL]
 | x::a,b=>by simp [closedL,closedL_append a b,Bool.and_assoc]
theorem closedL_flat {α:Type} {f:α→List VV} (hf:∀ a,closedL (f a)=true):∀ l:List α,closedL (qzg f l)=true
 | []=>rfl
 | a::l=>by rw [flatL_cons,closedL_append,hf,closedL_flat hf l];rfl
theorem plainL_append:∀ (a b:List VV),plainL (a++b)=(plainL a && plainL b)
 | [],b=>by simp [plainL]
 | x::a,b=>by simp [plainL,plainL_append a b,Bool.and_assoc]
theorem plainL_flat {α:Type} {f:α→List VV} (hf:∀ a,plainL (f a)=true):∀ l:List α,plainL (qzg f l)=true
 | []=>rfl
 | a::l=>by rw [flatL_cons,plainL_append,hf,plainL_flat hf l];rfl
theorem plainL_map {α:Type} {f:α→VV} (hf:∀ a,plainB (f a)=true):∀ l:List α,plainL (l.map f)=true
 | []=>rfl
 | a::l=>by simp [plainL,hf,plainL_map hf l]
theorem qzd {n:Int} (h1:-9223372036854775808≤n) (h2:n≤9223372036854775807):IntKind.i64.wrap n=n:=by
 unfold IntKind.wrap
 simp only [IntKind.bits,IntKind.signed,Bool.true_and,decide_eq_true_eq,ge_iff_le,Nat.reduceSub]
 split<;>omega
theorem natV_nat (k:IntKind) (n:Nat):qzt (.int k n)=some n:=by simp [qzt]
section
variable (E:Env) (Gl:qzj)
def wpO (l:List AOp) (T:VF) (h:VH) (K:AEx→VF→VH→Prop):Prop:=wpOps E Gl l T h fun T' h'=>K .normal T' h'
def kW (l:List AOp) (T:VF) (d:Option Nat) (K:AEx→VF→VH→Prop):VV→VH→Option (List Nat × Bool)→Prop:=fun v h' _=>wpO E Gl l (putV T d v) h' K
def wpA (k:AK) (vs:List VV) (d:Option Nat) (l:List AOp) (T:VF) (h:VH) (K:AEx→VF→VH→Prop):Prop :=
 match k with
 | .p q=>match popV q vs with
  | some v=>wpO E Gl l (putV T d v) h K
  | none=>False
 | .r q=>match ropV Gl h q vs with
  | some v=>wpO E Gl l (putV T d v) h K
  | none=>nilCmp q vs=true∧∀ b:Bool,wpO E Gl l (putV T d (.bool b)) h K
 | .n q=>match nopV q vs with
  | some (x,r)=>wpO E Gl l (putV T d (r.at h.next)) (h.push x) K
  | none=>False
 | .w q=>wpW E Gl q vs h (kW E Gl l T d K)
def wpG (g:Option Bool) (args:List Opd) (k:AK) (d:Option Nat) (l:List AOp) (T:VF) (h:VH) (K:AEx→VF→VH→Prop):Prop :=
 match g with
 | none=>False
 | some false=>wpO E Gl l (putV T d undefV) h K
 | some true=>match opdsV T args with
  | none=>False
  | some vs=>wpA E Gl k vs d l T h K
def wpX (cnt:Nat) (l:List (AOp × Nat)) (T:VF) (h:VH) (used fresh:List Nat) (log:List (Option ((List Nat × Bool) × Nat))) (K:AEx→VF→VH→Prop):Prop:=wpD E Gl cnt l T h used fresh log fun T' h'=>K .normal T' h'
def kX (cnt:Nat) (l:List (AOp × Nat)) (T:VF) (d:Option Nat) (used fresh:List Nat) (log:List (Option ((List Nat × Bool) × Nat))) (h:VH) (K:AEx→VF→VH→Prop):VV→VH→Option (List Nat × Bool)→Prop :=
 fun v h' e=>wpX E Gl cnt l (putV T d v) h' used [] (e.map (fun l=>((l.1++fresh,l.2),h.next))::log) K
def wpXA (cnt:Nat) (k:AK) (r:Nat) (vs:List VV) (d:Option Nat) (l:List (AOp × Nat)) (T:VF) (h:VH) (used fresh:List Nat) (log:List (Option ((List Nat × Bool) × Nat))) (K:AEx→VF→VH→Prop):Prop :=
 match k with
 | .p q=>match popV q vs with
  | some v=>wpX E Gl cnt l (putV T d v) h used fresh log K
  | none=>False
 | .r q=>(mayRead fresh log r (idsL vs) (fzL vs)=true∧liveB h (idsL vs)=true∧refsOKL Gl vs=true)∧match ropV Gl h q vs with
  | some v=>wpX E Gl cnt l (putV T d v) h used fresh log K
  | none=>nilCmp q vs=true∧∀ b:Bool,wpX E Gl cnt l (putV T d (.bool b)) h used fresh log K
 | .n q=>r < cnt∧used.contains r=false∧match nopV q vs with
  | some (x,res)=>wpX E Gl cnt l (putV T d (res.at h.next)) (h.push x) (r::used) fresh log K
  | none=>False
 | .w q=>wpW E Gl q vs h (kX E Gl cnt l T d used fresh log h K)
def wpXG (cnt:Nat) (g:Option Bool) (args:List Opd) (k:AK) (r:Nat) (d:Option Nat) (l:List (AOp × Nat)) (T:VF) (h:VH) (used fresh:List Nat) (log:List (Option ((List Nat × Bool) × Nat))) (K:AEx→VF→VH→Prop):Prop :=
 match g with
 | none=>False
 | some false=>wpX E Gl cnt l (putV T d undefV) h used fresh log K
 | some true=>match opdsV T args with
  | none=>False
  | some vs=>wpXA E Gl cnt k r vs d l T h used fresh log K
def kSeq (b:AC) (K:AEx→VF→VH→Prop):AEx→VF→VH→Prop:=fun x T h=>match x with
 | .normal=>wp E Gl b T h K
 | .exit i=>K (.exit i) T h
 | .ret=>K .ret T h
def kBlk (id:Nat) (K:AEx→VF→VH→Prop):AEx→VF→VH→Prop:=fun x T h=>match x with
 | .normal=>K .normal T h
 | .exit i=>if i=id then K .normal T h else K (.exit i) T h
 | .ret=>K .ret T h
def kLoop (a:AC) (K:AEx→VF→VH→Prop):AEx→VF→VH→Prop:=fun x T h=>match x with
 | .normal=>wp E Gl (.loop a) T h K
 | .exit i=>K (.exit i) T h
 | .ret=>K .ret T h
def wpIf (c:Option VV) (a b:AC) (T:VF) (h:VH) (K:AEx→VF→VH→Prop):Prop :=
 match c with
 | some (.bool t)=>(t=true→wp E Gl a T h K)∧(t=false→wp E Gl b T h K)
 | _=>False
end
def optK (o:Option VV) (k:VV→Prop):Prop:=match o with
 | some v=>k v
 | none=>False
def optR (o:Option VV) (q:ROp) (vs:List VV) (k:VV→Prop):Prop:=match o with
 | some v=>k v
 | none=>nilCmp q vs=true∧∀ b:Bool,k (.bool b)
def optN (o:Option (VB × VN)) (k:VB→VN→Prop):Prop:=match o with
 | some (x,r)=>k x r
 | none=>False
def optL (o:Option (List VV)) (k:List VV→Prop):Prop:=match o with
 | some v=>k v
 | none=>False
def optW (o:Option (VV × VH)) (e:Option (List Nat × Bool)) (k:VV→VH→Option (List Nat × Bool)→Prop):Prop:=match o with
 | some (v,h')=>k v h' e
 | none=>False
theorem optK_some {v:VV} {k:VV→Prop}:optK (some v) k=k v:=(Eq.refl _).trans rfl
theorem optR_some {v:VV} {q:ROp} {vs:List VV} {k:VV→Prop}:optR (some v) q vs k=k v:=(Eq.refl _).trans rfl
theorem optR_none {q:ROp} {vs:List VV} {k:VV→Prop} (hc:nilCmp q vs=true):optR none q vs k=∀ b:Bool,k (.bool b):=by simp [optR,hc]
theorem optN_some {x:VB} {r:VN} {k:VB→VN→Prop}:optN (some (x,r)) k=k x r:=(Eq.refl _).trans rfl
theorem optL_some {v:List VV} {k:List VV→Prop}:optL (some v) k=k v:=(Eq.refl _).trans rfl
theorem optW_some {v:VV} {h':VH} {e:Option (List Nat × Bool)} {k:VV→VH→Option (List Nat × Bool)→Prop}:optW (some (v,h')) e k=k v h' e:=(Eq.refl _).trans rfl
section
variable (E:Env) (Gl:qzj)
def kP (l:List AOp) (T:VF) (d:Option Nat) (h:VH) (K:AEx→VF→VH→Prop):VV→Prop:=fun v=>wpO E Gl l (putV T d v) h K
def kN (l:List AOp) (T:VF) (d:Option Nat) (h:VH) (K:AEx→VF→VH→Prop):VB→VN→Prop:=fun x r=>wpO E Gl l (putV T d (r.at h.next)) (h.push x) K
def kA (k:AK) (d:Option Nat) (l:List AOp) (T:VF) (h:VH) (K:AEx→VF→VH→Prop):List VV→Prop:=fun vs=>wpA E Gl k vs d l T h K
def kXP (cnt:Nat) (l:List (AOp × Nat)) (T:VF) (d:Option Nat) (h:VH) (u f:List Nat) (lg:List (Option ((List Nat × Bool) × Nat))) (K:AEx→VF→VH→Prop):VV→Prop:=fun v=>wpX E Gl cnt l (putV T d v) h u f lg K
def kXN (cnt:Nat) (r:Nat) (l:List (AOp × Nat)) (T:VF) (d:Option Nat) (h:VH) (u f:List Nat) (lg:List (Option ((List Nat × Bool) × Nat))) (K:AEx→VF→VH→Prop):VB→VN→Prop:=fun x res=>wpX E Gl cnt l (putV T d (res.at h.next)) (h.push x) (r::u) f lg K
def kXA (cnt:Nat) (k:AK) (r:Nat) (d:Option Nat) (l:List (AOp × Nat)) (T:VF) (h:VH) (u f:List Nat) (lg:List (Option ((List Nat × Bool) × Nat))) (K:AEx→VF→VH→Prop):List VV→Prop:=fun vs=>wpXA E Gl cnt k r vs d l T h u f lg K
end
section
variable {E:Env} {Gl:qzj} {T:VF} {h:VH} {K:AEx→VF→VH→Prop}
theorem wp_skip:wp E Gl .skip T h K=K .normal T h:=(Eq.refl _).trans rfl
theorem wp_ops {l:List AOp}:wp E Gl (.ops l) T h K=wpO E Gl l T h K:=(Eq.refl _).trans rfl
theorem wp_draw {l:List (AOp × Nat)}:wp E Gl (.draw l) T h K=wpX E Gl (countN l) l T h [] [] [] K:=(Eq.refl _).trans rfl
theorem wp_seq {a b:AC}:wp E Gl (.seq a b) T h K=wp E Gl a T h (kSeq E Gl b K):=(Eq.refl _).trans rfl
theorem wp_block {id:Nat} {a:AC}:wp E Gl (.block id a) T h K=wp E Gl a T h (kBlk id K):=(Eq.refl _).trans rfl
theorem wp_exit {id:Nat}:wp E Gl (.exit id) T h K=K (.exit id) T h:=(Eq.refl _).trans rfl
theorem wp_ret:wp E Gl .ret T h K=K .ret T h:=(Eq.refl _).trans rfl
theorem wp_cond {c:Opd} {a b:AC}:wp E Gl (.cond c a b) T h K=wpIf E Gl (opdV T c) a b T h K:=by
 simp only [wp,wpIf]
 cases hc:opdV T c with
 | none=>simp
 | some v=>cases v<;>simp
theorem wpIf_bool {t:Bool} {a b:AC}:wpIf E Gl (some (.bool t)) a b T h K=((t=true→wp E Gl a T h K)∧(t=false→wp E Gl b T h K)):=(Eq.refl _).trans rfl
theorem wpIf_true {a b:AC}:wpIf E Gl (some (.bool true)) a b T h K=wp E Gl a T h K:=by simp [wpIf]
theorem wpIf_false {a b:AC}:wpIf E Gl (some (.bool false)) a b T h K=wp E Gl b T h K:=by simp [wpIf]
theorem kSeq_n {b:AC}:kSeq E Gl b K .normal T h=wp E Gl b T h K:=(Eq.refl _).trans rfl
theorem kSeq_e {b:AC} {i:Nat}:kSeq E Gl b K (.exit i) T h=K (.exit i) T h:=(Eq.refl _).trans rfl
theorem kSeq_r {b:AC}:kSeq E Gl b K .ret T h=K .ret T h:=(Eq.refl _).trans rfl
theorem kBlk_n {id:Nat}:kBlk id K .normal T h=K .normal T h:=(Eq.refl _).trans rfl
theorem kBlk_e {id i:Nat}:kBlk id K (.exit i) T h=if i=id then K .normal T h else K (.exit i) T h:=(Eq.refl _).trans rfl
theorem kBlk_r {id:Nat}:kBlk id K .ret T h=K .ret T h:=(Eq.refl _).trans rfl
theorem kLoop_n {a:AC}:kLoop E Gl a K .normal T h=wp E Gl (.loop a) T h K:=(Eq.refl _).trans rfl
theorem kLoop_e {a:AC} {i:Nat}:kLoop E Gl a K (.exit i) T h=K (.exit i) T h:=(Eq.refl _).trans rfl
theorem kLoop_r {a:AC}:kLoop E Gl a K .ret T h=K .ret T h:=(Eq.refl _).trans rfl
theorem loop_step {a:AC} (hw:wp E Gl a T h (kLoop E Gl a K)):wp E Gl (.loop a) T h K:=wp_loop hw
theorem qzi {a b:AC} (e:a=b) (hw:wp E Gl b T h (kLoop E Gl a K)):wp E Gl (.loop a) T h K:=loop_step (Eq.subst (motive:=fun z=>wp E Gl z T h (kLoop E Gl a K)) e.symm hw)
theorem wpO_nil:wpO E Gl [] T h K=K .normal T h:=(Eq.refl _).trans rfl
theorem wpO_cons {d:Option Nat} {args:List Opd} {k:AK} {g:Option (Nat × Bool)} {l:List AOp}:wpO E Gl (⟨d,args,k,g⟩::l) T h K=wpG E Gl (wantV T g) args k d l T h K:=by
 unfold wpO wpOps wpOp wpG
 cases wantV T g with
 | none=>rfl
 | some b =>
  cases b with
  | false=>rfl
  | true =>
   simp only
   cases opdsV T args with
   | none=>rfl
   | some vs=>cases k<;>rfl
theorem wpG_true {args:List Opd} {k:AK} {d:Option Nat} {l:List AOp}:wpG E Gl (some true) args k d l T h K=optL (opdsV T args) (kA E Gl k d l T h K):=by
 unfold wpG optL kA;first | rfl | (cases opdsV T args<;>rfl)
theorem kA_app {k:AK} {d:Option Nat} {l:List AOp} {vs:List VV}:kA E Gl k d l T h K vs=wpA E Gl k vs d l T h K:=(Eq.refl _).trans rfl
theorem wpG_false {args:List Opd} {k:AK} {d:Option Nat} {l:List AOp}:wpG E Gl (some false) args k d l T h K=wpO E Gl l (putV T d undefV) h K:=(Eq.refl _).trans rfl
theorem wpA_p {q:POp} {vs:List VV} {d:Option Nat} {l:List AOp}:wpA E Gl (.p q) vs d l T h K=optK (popV q vs) (kP E Gl l T d h K):=by
 unfold wpA optK kP;first | rfl | (cases popV q vs<;>rfl)
theorem kP_app {d:Option Nat} {l:List AOp} {v:VV}:kP E Gl l T d h K v=wpO E Gl l (putV T d v) h K:=(Eq.refl _).trans rfl
theorem wpA_r {q:ROp} {vs:List VV} {d:Option Nat} {l:List AOp}:wpA E Gl (.r q) vs d l T h K=optR (ropV Gl h q vs) q vs (kP E Gl l T d h K):=by
 unfold wpA optR kP;first | rfl | (cases ropV Gl h q vs<;>rfl)
theorem wpA_n {q:NOp} {vs:List VV} {d:Option Nat} {l:List AOp}:wpA E Gl (.n q) vs d l T h K=optN (nopV q vs) (kN E Gl l T d h K):=by
 unfold wpA optN kN;first | rfl | (cases nopV q vs<;>rfl)
theorem kN_app {d:Option Nat} {l:List AOp} {x:VB} {r:VN}:kN E Gl l T d h K x r=wpO E Gl l (putV T d (r.at h.next)) (h.push x) K:=(Eq.refl _).trans rfl
theorem wpA_w {q:WOp} {vs:List VV} {d:Option Nat} {l:List AOp}:wpA E Gl (.w q) vs d l T h K=wpW E Gl q vs h (kW E Gl l T d K):=(Eq.refl _).trans rfl
theorem kW_app {l:List AOp} {d:Option Nat} {v:VV} {h':VH} {e:Option (List Nat × Bool)}:kW E Gl l T d K v h' e=wpO E Gl l (putV T d v) h' K:=(Eq.refl _).trans rfl
theorem wpX_nil {cnt:Nat} {u f:List Nat} {lg:List (Option ((List Nat × Bool) × Nat))}:wpX E Gl cnt [] T h u f lg K=K .normal T h:=(Eq.refl _).trans rfl
theorem wpX_cons {cnt r:Nat} {u f:List Nat} {lg:List (Option ((List Nat × Bool) × Nat))} {d:Option Nat} {args:List Opd} {k:AK} {g:Option (Nat × Bool)} {l:List (AOp × Nat)}:wpX E Gl cnt ((⟨d,args,k,g⟩,r)::l) T h u f lg K=wpXG E Gl cnt (wantV T g) args k r d l T h u f lg K:=by
 unfold wpX wpD wpXG
 cases wantV T g with
 | none=>rfl
 | some b =>
  cases b with
  | false=>rfl
  | true =>
   simp only
   cases opdsV T args with
   | none=>rfl
   | some vs=>cases k<;>rfl
theorem wpXG_true {cnt r:Nat} {u f:List Nat} {lg:List (Option ((List Nat × Bool) × Nat))} {args:List Opd} {k:AK} {d:Option Nat} {l:List (AOp × Nat)}:wpXG E Gl cnt (some true) args k r d l T h u f lg K=optL (opdsV T args) (kXA E Gl cnt k r d l T h u f lg K):=by
 unfold wpXG optL kXA;first | rfl | (cases opdsV T args<;>rfl)
theorem kXA_app {cnt r:Nat} {u f:List Nat} {lg:List (Option ((List Nat × Bool) × Nat))} {k:AK} {d:Option Nat} {l:List (AOp × Nat)} {vs:List VV}:kXA E Gl cnt k r d l T h u f lg K vs=wpXA E Gl cnt k r vs d l T h u f lg K:=(Eq.refl _).trans rfl
theorem wpXG_false {cnt r:Nat} {u f:List Nat} {lg:List (Option ((List Nat × Bool) × Nat))} {args:List Opd} {k:AK} {d:Option Nat} {l:List (AOp × Nat)}:wpXG E Gl cnt (some false) args k r d l T h u f lg K=wpX E Gl cnt l (putV T d undefV) h u f lg K:=(Eq.refl _).trans rfl
theorem wpXA_p {cnt r:Nat} {u f:List Nat} {lg:List (Option ((List Nat × Bool) × Nat))} {q:POp} {vs:List VV} {d:Option Nat} {l:List (AOp × Nat)}:wpXA E Gl cnt (.p q) r vs d l T h u f lg K=optK (popV q vs) (kXP E Gl cnt l T d h u f lg K):=by
 unfold wpXA optK kXP;first | rfl | (cases popV q vs<;>rfl)
theorem kXP_app {cnt:Nat} {u f:List Nat} {lg:List (Option ((List Nat × Bool) × Nat))} {d:Option Nat} {l:List (AOp × Nat)} {v:VV}:kXP E Gl cnt l T d h u f lg K v=wpX E Gl cnt l (putV T d v) h u f lg K:=(Eq.refl _).trans rfl
theorem wpXA_r {cnt r:Nat} {u f:List Nat} {lg:List (Option ((List Nat × Bool) × Nat))} {q:ROp} {vs:List VV} {d:Option Nat} {l:List (AOp × Nat)}:wpXA E Gl cnt (.r q) r vs d l T h u f lg K=((mayRead f lg r (idsL vs) (fzL vs)=true∧liveB h (idsL vs)=true∧refsOKL Gl vs=true)∧optR (ropV Gl h q vs) q vs (kXP E Gl cnt l T d h u f lg K)):=by
 unfold wpXA optR kXP;first | rfl | (cases ropV Gl h q vs<;>rfl)
theorem wpXA_n {cnt r:Nat} {u f:List Nat} {lg:List (Option ((List Nat × Bool) × Nat))} {q:NOp} {vs:List VV} {d:Option Nat} {l:List (AOp × Nat)}:wpXA E Gl cnt (.n q) r vs d l T h u f lg K=(r < cnt∧u.contains r=false∧optN (nopV q vs) (kXN E Gl cnt r l T d h u f lg K)):=by
 unfold wpXA optN kXN;first | rfl | (cases nopV q vs<;>rfl)
theorem kXN_app {cnt r:Nat} {u f:List Nat} {lg:List (Option ((List Nat × Bool) × Nat))} {d:Option Nat} {l:List (AOp × Nat)} {x:VB} {res:VN}:kXN E Gl cnt r l T d h u f lg K x res=wpX E Gl cnt l (putV T d (res.at h.next)) (h.push x) (r::u) f lg K:=(Eq.refl _).trans rfl
theorem wpXA_w {cnt r:Nat} {u f:List Nat} {lg:List (Option ((List Nat × Bool) × Nat))} {q:WOp} {vs:List VV} {d:Option Nat} {l:List (AOp × Nat)}:wpXA E Gl cnt (.w q) r vs d l T h u f lg K=wpW E Gl q vs h (kX E Gl cnt l T d u f lg h K):=(Eq.refl _).trans rfl
theorem kX_app {cnt:Nat} {l:List (AOp × Nat)} {u f:List Nat} {lg:List (Option ((List Nat × Bool) × Nat))} {d:Option Nat} {v:VV} {h':VH} {e:Option (List Nat × Bool)}:kX E Gl cnt l T d u f lg h K v h' e=wpX E Gl cnt l (putV T d v) h' u [] (e.map (fun l=>((l.1++f,l.2),h.next))::lg) K:=(Eq.refl _).trans rfl
theorem Ends_n {Gl:qzj} {res:List ARes} {Q:VV→VH→Prop}:Ends Gl res Q .normal T h=match finV Gl res T h with
  | some v=>Q v h
  | none=>False:=(Eq.refl _).trans rfl
theorem Ends_r {Gl:qzj} {res:List ARes} {Q:VV→VH→Prop}:Ends Gl res Q .ret T h=match finV Gl res T h with
  | some v=>Q v h
  | none=>False:=(Eq.refl _).trans rfl
end
section
variable {E:Env} {Gl:qzj} {vs:List VV} {h:VH} {K:VV→VH→Option (List Nat × Bool)→Prop}
theorem wpW_store {sz:Nat}:wpW E Gl (.store sz) vs h K=optW (storeOpV sz h vs) (some (idsO vs.head?,true)) K:=by
 unfold wpW optW;first | rfl | (cases storeOpV sz h vs<;>rfl)
theorem wpW_append {esz eb:Nat}:wpW E Gl (.append esz eb) vs h K=optW (appendV esz eb h vs) (some (idsO vs.head?,true)) K:=by
 unfold wpW optW;first | rfl | (cases appendV esz eb h vs<;>rfl)
theorem wpW_copy {esz:Nat}:wpW E Gl (.copy esz) vs h K=optW (copyV esz h vs) (some (idsO vs.head?,true)) K:=by
 unfold wpW optW;first | rfl | (cases copyV esz h vs<;>rfl)
theorem wpW_mapUpd {ks:Bool}:wpW E Gl (.mapUpd ks) vs h K=optW (mapUpdV ks h vs) (some (idsO vs.head?,true)) K:=by
 unfold wpW optW;first | rfl | (cases mapUpdV ks h vs<;>rfl)
theorem wpW_mark:wpW E Gl .mark vs h K=optW (markV h vs) (some (idsO vs.head?,true)) K:=by
 unfold wpW optW;first | rfl | (cases markV h vs<;>rfl)
theorem wpW_callF {f:Nat}:wpW E Gl (.callF f) vs h K=wpCall E Gl f vs h K:=(Eq.refl _).trans rfl
theorem wpW_callV {f:Nat} {a b args:List VV}:wpW E Gl .callV (.func f a b::args) h K=wpCall E Gl f (a++args++b) h K:=(Eq.refl _).trans rfl
end
def qzm {α:Type} (base:Nat) (h:VH) (j:Nat) (f:α→List VV) (l:List α) (esz:Nat) (v:VV):Prop :=
 (l=[]∧v = .nilS)∨(v = .slice j 0 l.length esz (.toEnd esz)∧qza h.l j=some (some (.cells (qzg f l) false))∧base≤j∧j < h.next)
def AccE {α:Type} (base:Nat) (h:VH) (j:Nat) (f:α→List VV) (l:List α) (esz:Nat) (v:VV):Prop :=
 qzm base h j f l esz v∨∃ e,(e=esz∨l=[])∧v = .slice j 0 l.length e (.exact l.length)∧qza h.l j=some (some (.cells (qzg f l) false))∧base≤j∧j < h.next
theorem qzm.nil {α:Type} {base:Nat} {h:VH} {j:Nat} {f:α→List VV} {esz:Nat}:qzm base h j f [] esz .nilS := .inl ⟨rfl,rfl⟩
theorem qzm.ext {α:Type} {base:Nat} {h h':VH} {j:Nat} {f:α→List VV} {l:List α} {esz:Nat} {v:VV} (a:qzm base h j f l esz v) (hn:h.next≤h'.next) (hl:base≤j→j < h.next→qza h'.l j=qza h.l j):qzm base h' j f l esz v:=by
 rcases a with a | ⟨a2,a3,a4,a5⟩
 ·exact .inl a
 ·exact .inr ⟨a2,by rw [hl a4 a5];exact a3,a4,by omega⟩
theorem qzm.low {α:Type} {base base':Nat} {h:VH} {j:Nat} {f:α→List VV} {l:List α} {esz:Nat} {v:VV} (a:qzm base h j f l esz v) (hb:base'≤base):qzm base' h j f l esz v:=by
 rcases a with a | ⟨a2,a3,a4,a5⟩
 ·exact .inl a
 ·exact .inr ⟨a2,a3,by omega,a5⟩
theorem qzm.ne {α:Type} {base:Nat} {h:VH} {j:Nat} {f:α→List VV} {l:List α} {esz:Nat} {v:VV} (a:qzm base h j f l esz v) {k:Nat} (hk:k < base∨h.next≤k):k≠j∨v = .nilS:=by
 rcases a with ⟨_,a1⟩ | ⟨_,_,a4,a5⟩
 ·exact .inr a1
 ·exact .inl (by omega)
theorem qzm.some {α:Type} {base:Nat} {h:VH} {j:Nat} {f:α→List VV} {l:List α} {esz:Nat} {v:VV} (a:qzm base h j f l esz v) (hl:l≠[]):v = .slice j 0 l.length esz (.toEnd esz)∧qza h.l j=some (some (.cells (qzg f l) false))∧base≤j∧j < h.next:=by
 rcases a with ⟨a,_⟩ | a
 ·exact (hl a).elim
 ·exact a
theorem wpW_accE {E:Env} {Gl:qzj} {h:VH} {K:VV→VH→Option (List Nat × Bool)→Prop} {α:Type} {base j esz eb:Nat} {f:α→List VV} {l ls:List α} {v x:VV} (hacc:AccE base h j f l esz v) (hsrc:srcV h esz x=some (ls.length,qzg f ls)) (hls:ls≠[])
  (hf:∀ a,(f a).length=esz) (h0:0 < esz) (hb:base≤h.next) (hlen:(l.length+ls.length)*eb≤17592186044416) (hlen2:l.length+ls.length < 17592186044416)
  (hk:∀ h',h'.next=h.next+1→(∀ k,k≠h.next→k≠j∨v = .nilS→qza h'.l k=qza h.l k)→qzm base h' h.next f (l++ls) esz (.slice h.next 0 (l.length+ls.length) esz (.toEnd esz))→K (.slice h.next 0 (l.length+ls.length) esz (.toEnd esz)) h' (some (idsO (some v),true))) :
  wpW E Gl (.append esz eb) [v,x] h K:=by
 rw [wpW_append]
 have fin:∀ h':VH,qza h'.l h.next=some (some (.cells (qzg f (l++ls)) false))→h'.next=h.next+1→qzm base h' h.next f (l++ls) esz (.slice h.next 0 (l.length+ls.length) esz (.toEnd esz)):=fun h' e1 e2 =>
  .inr ⟨by simp,e1,hb,by omega⟩
 obtain ⟨m,hm⟩:∃ m,ls.length=m+1:=⟨ls.length - 1,by have:=List.length_pos_iff.2 hls;omega⟩
 rw [hm] at hsrc hlen hlen2 hk fin
 have hfl:=flatL_length hf l
 have hc2:l.length*esz≤(qzg f l).length:=by omega
 rcases hacc with (⟨rfl,rfl⟩ | ⟨rfl,a3,a4,a5⟩) | ⟨e,a0,rfl,a3,a4,a5⟩
 ·have hc:(0+(m+1))*eb≤17592186044416∧0+(m+1) < 17592186044416∧0 < esz:=⟨hlen,hlen2,h0⟩
  simp only [appendV,hsrc,lenOfV,if_pos hc,appToV,optW]
  simp only [List.length_nil,Nat.zero_add] at hk fin
  refine hk (h.push (.cells (qzg f ls) false)) rfl (fun k e _ => ?_) (fin (h.push (.cells (qzg f ls) false)) ?_ rfl)
  ·simp only [VH.push,qzb,if_neg (Ne.symm e)]
  ·simp [VH.push,qza]
 ·have hc:(l.length+(m+1))*eb≤17592186044416∧l.length+(m+1) < 17592186044416∧0 < esz:=⟨hlen,hlen2,h0⟩
  have hg:h.get j=some (.cells (qzg f l) false):=by rw [get_def,a3];rfl
  simp only [appendV,hsrc,lenOfV,if_pos hc,appToV,true_or,if_true,hg,true_and,Nat.zero_add,if_pos hc2,optW]
  refine hk ((h.kill j).push (.cells (((qzg f l).drop 0).take (l.length*esz)++qzg f ls) false)) rfl (fun k e q => ?_) (fin ((h.kill j).push (.cells (((qzg f l).drop 0).take (l.length*esz)++qzg f ls) false)) ?_ rfl)
  ·rcases q with q | q
   ·simp only [VH.push,VH.kill,qzb,if_neg (Ne.symm e),if_neg (Ne.symm q)]
   ·cases q
  ·simp only [VH.push,VH.kill,qzb,if_true,List.drop_zero]
   rw [List.take_of_length_le (by omega),flatL_append]
 ·have hc:(l.length+(m+1))*eb≤17592186044416∧l.length+(m+1) < 17592186044416∧0 < esz:=⟨hlen,hlen2,h0⟩
  have hg:h.get j=some (.cells (qzg f l) false):=by rw [get_def,a3];rfl
  have ha0:e=esz∨l.length=0:=a0.imp_right (fun q=>by rw [q];rfl)
  have hroom:¬l.length+(m+1)≤l.length:=by omega
  simp only [appendV,hsrc,lenOfV,if_pos hc,appToV,if_pos ha0,if_neg hroom,winV,hg,Nat.zero_add,if_pos hc2,optW]
  refine hk (h.push (.cells (((qzg f l).drop 0).take (l.length*esz)++qzg f ls) false)) rfl (fun k e _ => ?_) (fin (h.push (.cells (((qzg f l).drop 0).take (l.length*esz)++qzg f ls) false)) ?_ rfl)
  ·simp only [VH.push,qzb,if_neg (Ne.symm e)]
  ·simp only [VH.push,qzb,if_true,List.drop_zero]
   rw [List.take_of_length_le (by omega),flatL_append]
theorem wpW_accs {E:Env} {Gl:qzj} {h:VH} {K:VV→VH→Option (List Nat × Bool)→Prop} {α:Type} {base j esz eb:Nat} {f:α→List VV} {l ls:List α} {v x:VV} (hacc:qzm base h j f l esz v) (hsrc:srcV h esz x=some (ls.length,qzg f ls)) (hls:ls≠[])
  (hf:∀ a,(f a).length=esz) (h0:0 < esz) (hb:base≤h.next) (hlen:(l.length+ls.length)*eb≤17592186044416) (hlen2:l.length+ls.length < 17592186044416)
  (hk:∀ h',h'.next=h.next+1→(∀ k,k≠h.next→k≠j∨v = .nilS→qza h'.l k=qza h.l k)→qzm base h' h.next f (l++ls) esz (.slice h.next 0 (l.length+ls.length) esz (.toEnd esz))→K (.slice h.next 0 (l.length+ls.length) esz (.toEnd esz)) h' (some (idsO (some v),true))) :
  wpW E Gl (.append esz eb) [v,x] h K:=wpW_accE (.inl hacc) hsrc hls hf h0 hb hlen hlen2 hk
theorem wpW_acc {E:Env} {Gl:qzj} {h:VH} {K:VV→VH→Option (List Nat × Bool)→Prop} {α:Type} {base j esz eb:Nat} {f:α→List VV} {l:List α} {a:α} {v x:VV} (hacc:qzm base h j f l esz v) (hsrc:srcV h esz x=some (1,f a))
  (hf:∀ a,(f a).length=esz) (h0:0 < esz) (hb:base≤h.next) (hlen:(l.length+1)*eb≤17592186044416) (hlen2:l.length+1 < 17592186044416)
  (hk:∀ h',h'.next=h.next+1→(∀ k,k≠h.next→k≠j∨v = .nilS→qza h'.l k=qza h.l k)→qzm base h' h.next f (l++[a]) esz (.slice h.next 0 (l.length+1) esz (.toEnd esz))→K (.slice h.next 0 (l.length+1) esz (.toEnd esz)) h' (some (idsO (some v),true))) :
  wpW E Gl (.append esz eb) [v,x] h K :=
 wpW_accs (ls:=[a]) hacc (by rw [hsrc];simp [qzg]) (by simp) hf h0 hb hlen hlen2 hk
def StAcc (E:Env) (Gl:qzj) (fn:Nat) (vs:List VV) {α:Type} (f:α→List VV) (l:List α) (esz i:Nat) (b b':VB):Prop :=
 (l=[]→StOk E Gl fn vs [(i,b)] .nilS [(i,b')])∧(l≠[]→StOwn E Gl fn vs [(i,b)] (qzg f l) 0 l.length esz (.toEnd esz) [(i,b')])
theorem qzc {g:Nat→Option VB} {v:VV} (hc:closedB v=true):∃ k v1,shutD k g v=some v1∧subV v1 v:=⟨0,v,by simp only [shutD,hc,if_true],subV_refl v⟩
end
end Go.VL
