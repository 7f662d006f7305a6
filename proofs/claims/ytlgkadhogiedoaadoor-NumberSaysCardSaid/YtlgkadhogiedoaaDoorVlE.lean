/- What makes blocks, what writes them. -/
import Derived.Test.YtlgkadhogiedoaaDoorVlD
set_option linter.unusedSimpArgs false
set_option linter.unusedVariables false
namespace Go.VL
open Go.FR
noncomputable section
section
variable {Gl:qzh} {G:Gz} {μ:Pm} {h:VH} {H:Heap}
theorem bytes_mapR (s:List UInt8):VRs G μ (s.map byteV) (byteCells s):=by
 induction s with
 | nil=>rfl
 | cons c s ih=>exact VRs.cons rfl ih
theorem nop_rel {q:NOp} {vs:List VV} {as:List AV} {x:VB} {r:VN} (hv:nopV q vs=some (x,r)) (kk:VRs G μ vs as) :
  ∃ y res,nop q as=some (y,res)∧BlkR G μ x y∧x.ro=false∧∀ (K:Gz) (ν:Pm) i b,ν i=some b→VR K ν (r.at i) (res.at b):=by
 cases q<;>simp only [nopV] at hv
 case alloc zero =>
  split at hv<;>try (cases hv;done)
  rename_i z hz
  simp only [VRs] at kk;subst kk
  simp only [Option.some.injEq,Prod.mk.injEq] at hv
  obtain ⟨rfl,rfl⟩:=hv
  exact ⟨_,_,rfl,⟨zero,true,false,rfl,cvs_rel _ _ hz,fun _=>rfl,fun e=>by cases e⟩,rfl,fun K ν i b e=>⟨b,e,rfl⟩⟩
 case box =>
  unfold boxV at hv
  split at hv<;>try (cases hv;done)
  obtain ⟨a,rfl,k⟩:=VRs.one kk
  split at hv<;>try (cases hv;done)
  rename_i hn
  simp only [Option.some.injEq,Prod.mk.injEq] at hv
  obtain ⟨rfl,rfl⟩:=hv
  obtain ⟨k1,k2⟩:=VR.cells k hn
  exact ⟨_,_,by simp only [nop,if_pos k2];rfl,⟨a.cells,true,false,rfl,k1,fun _=>rfl,fun e=>by cases e⟩,rfl,fun K ν i b e=>⟨b,e,rfl⟩⟩
 case bslice len zero places =>
  split at hv<;>try (cases hv;done)
  rename_i z hz
  split at hv<;>try (cases hv;done)
  rename_i cs hcs
  simp only [Option.some.injEq,Prod.mk.injEq] at hv
  obtain ⟨rfl,rfl⟩:=hv
  obtain ⟨r',hr,hR⟩:=fill_rel (cvs_rel (G:=G) (μ:=μ) zero z hz) kk hcs
  exact ⟨_,_,by simp only [nop,hr];rfl,⟨r',true,false,rfl,hR,fun _=>rfl,fun e=>by cases e⟩,rfl,fun K ν i b e=>⟨b,e,rfl⟩⟩
 case mkSlice esz ebytes zero =>
  unfold mkSliceV at hv
  split at hv<;>try (cases hv;done)
  obtain ⟨a,b,rfl,h1,h2⟩:=VRs.two kk
  split at hv<;>try (cases hv;done)
  rename_i l c z hl hc hz
  split at hv<;>try (cases hv;done)
  rename_i hcond
  simp only [Option.some.injEq,Prod.mk.injEq] at hv
  obtain ⟨rfl,rfl⟩:=hv
  exact ⟨_,_,by simp only [nop,nat_rel hl h1,nat_rel hc h2,if_pos hcond];rfl,⟨_,true,false,rfl,VRs.rep (cvs_rel _ _ hz) _,fun _=>rfl,fun e=>by cases e⟩,rfl,fun K ν i b e=>⟨b,e,rfl⟩⟩
 case mkMap =>
  simp only [Option.some.injEq,Prod.mk.injEq] at hv
  obtain ⟨rfl,rfl⟩:=hv
  exact ⟨_,_,rfl,⟨[],[],[],rfl,rfl,rfl,rfl,rfl,fun e=>by cases e⟩,rfl,fun K ν i b e=>⟨b,e,rfl⟩⟩
 case s2b =>
  unfold s2bV at hv
  split at hv<;>try (cases hv;done)
  rename_i s
  obtain ⟨a,rfl,k⟩:=VRs.one kk
  simp only [VR] at k;subst k
  split at hv<;>try (cases hv;done)
  rename_i hcond
  simp only [Option.some.injEq,Prod.mk.injEq] at hv
  obtain ⟨rfl,rfl⟩:=hv
  refine ⟨_,_,by simp only [nop,if_pos hcond];rfl,⟨_,true,true,rfl,bytes_mapR s,fun _=>rfl,fun e=>by cases e⟩,rfl,fun K ν i b e=>⟨b,e,rfl⟩⟩
theorem alloc_rel (s:SR Gl G μ h H) {n b:Nat} {x:VB} {y:ABlk} {H':Heap} (hx:BlkR G μ x y) (hr:x.ro=false) (hH:∀ j,H'.get j=if j=b then some y else H.get j) (hn:H.next≤H'.next) (hb:b < H'.next)
  (hg:G b=none) (hm:∀ i,μ i≠some b) (hnb:n≤b):SR Gl G (setM μ h.next b) (h.push x) H'∧Pr n G μ h H G (setM μ h.next b) (h.push x) H':=by
 have le:=setM_le (b:=b) s.fresh
 have old:∀ i c,i≠h.next→setM μ h.next b i=some c→μ i=some c:=fun i c e q=>by unfold setM at q;rw [if_neg e] at q;exact q
 have new:setM μ h.next b h.next=some b:=by unfold setM;rw [if_pos rfl]
 have oldb:∀ c,(H'.get c=H.get c)∨c=b:=fun c=>by
  by_cases e:c=b
  ·exact .inr e
  ·left;rw [hH,if_neg e]
 refine ⟨⟨⟨fun c z q => ?_,s.w.glob⟩,fun i z q => ?_,fun i j z w c q1 q2 q3 m1 m2 => ?_,fun i c q => ?_⟩,⟨Gz.le_refl _,le,by simp [VH.push],hn,fun c hc _ => ?_,fun _ _ q => .inl q,fun c ho => ?_,fun i c q => ?_⟩⟩
 ·have:=s.w.at_ c z q
  have hne:c≠b:=fun e=>by rw [e,hg] at q;cases q
  rw [hH,if_neg hne]
  exact ⟨this.1,by omega⟩
 ·rw [get_push] at q
  by_cases e:i=h.next
  ·rw [if_pos e] at q
   obtain rfl:=Option.some.inj q
   subst e
   exact ⟨b,y,new,by rw [hH,if_pos rfl],hx.mono (Gz.le_refl _) le,fun r=>(by rw [hr] at r;cases r),fun _=>hg⟩
  ·rw [if_neg e] at q
   obtain ⟨c,z',h1,h2,h3,h4,h5⟩:=s.blk i z q
   have hne:c≠b:=fun e=>hm i (by rw [h1,e])
   exact ⟨c,z',le _ _ h1,by rw [hH,if_neg hne];exact h2,h3.mono (Gz.le_refl _) le,h4,h5⟩
 ·rw [get_push] at q1 q2
  by_cases e1:i=h.next<;>by_cases e2:j=h.next
  ·rw [e1,e2]
  ·subst e1
   rw [new] at m1;obtain rfl:=Option.some.inj m1
   exact (hm j (old _ _ e2 m2)).elim
  ·subst e2
   rw [new] at m2;obtain rfl:=Option.some.inj m2
   exact (hm i (old _ _ e1 m1)).elim
  ·rw [if_neg e1] at q1
   rw [if_neg e2] at q2
   exact s.inj i j z w c q1 q2 q3 (old _ _ e1 m1) (old _ _ e2 m2)
 ·by_cases e:i=h.next
  ·subst e
   rw [new] at q;obtain rfl:=Option.some.inj q
   exact ⟨by simp [VH.push],hb⟩
  ·have:=s.dom i c (old _ _ e q)
   exact ⟨by simp [VH.push];omega,by omega⟩
 ·rw [hH,if_neg (by omega)]
 ·obtain ⟨i,z,q1,q2,q3⟩:=ho
  rw [get_push] at q1
  by_cases e:i=h.next
  ·subst e
   rw [new] at q3;obtain rfl:=Option.some.inj q3
   exact .inr hnb
  ·rw [if_neg e] at q1
   exact .inl ⟨i,z,q1,q2,old _ _ e q3⟩
 ·by_cases e:i=h.next
  ·subst e
   rw [new] at q;obtain rfl:=Option.some.inj q
   exact .inr hnb
  ·exact .inl (old _ _ e q)
theorem push_rel (s:SR Gl G μ h H) {x:VB} {y:ABlk} (hx:BlkR G μ x y) (hr:x.ro=false) :
  SR Gl G (setM μ h.next H.next) (h.push x) (H.push y)∧Pr H.next G μ h H G (setM μ h.next H.next) (h.push x) (H.push y) :=
 alloc_rel s hx hr (H_push H y) (by simp [Heap.push]) (by simp [Heap.push])
  (by cases e:G H.next with
   | none=>rfl
   | some z=>exact absurd (s.w.at_ _ _ e).2 (Nat.lt_irrefl _))
  (fun i e=>absurd (s.dom _ _ e).2 (Nat.lt_irrefl _)) (Nat.le_refl _)
theorem turn_rel (s:SR Gl G μ h H) {n i b:Nat} {x x':VB} {y':ABlk} {H':Heap} (hi:h.get i=some x) (hro:x.ro=false) (hb:μ i=some b) (hx:BlkR G μ x' y') (hr:x'.ro=false) (hH:∀ j,H'.get j=if j=b then some y' else H.get j) (hn:H'.next=H.next) :
  SR Gl G μ (h.set i x') H'∧Pr n G μ h H G μ (h.set i x') H':=by
 obtain ⟨b',y,h1,h2,h3,h4,h5⟩:=s.blk i x hi
 rw [hb] at h1;obtain rfl:=Option.some.inj h1
 have hg:=h5 hro
 refine ⟨⟨⟨fun c z q => ?_,s.w.glob⟩,fun j z q => ?_,fun j k z w c q1 q2 q3 m1 m2 => ?_,fun j c q => ?_⟩,⟨Gz.le_refl _,Pm.le_refl _,Nat.le_refl _,by omega,fun c hc ho => ?_,fun _ _ q => .inl q,fun c ho => ?_,fun _ _ q => .inl q⟩⟩
 ·have:=s.w.at_ c z q
  have hne:c≠b:=fun e=>by rw [e,hg] at q;cases q
  rw [hH,if_neg hne,hn]
  exact this
 ·rw [get_set] at q
  by_cases e:j=i
  ·rw [if_pos e] at q
   obtain rfl:=Option.some.inj q
   subst e
   exact ⟨b,y',hb,by rw [hH,if_pos rfl],hx,fun r=>(by rw [hr] at r;cases r),fun _=>hg⟩
  ·rw [if_neg e] at q
   obtain ⟨c,z',g1,g2,g3,g4,g5⟩:=s.blk j z q
   have hne:c≠b:=fun e'=>e (s.inj i j x z b hi q hro hb (by rw [g1,e'])).symm
   exact ⟨c,z',g1,by rw [hH,if_neg hne];exact g2,g3,g4,g5⟩
 ·have low:∀ j z,(h.set i x').get j=some z→∃ z',h.get j=some z'∧(z.ro=false→z'.ro=false):=fun j z q=>by
   rw [get_set] at q
   by_cases e:j=i
   ·exact ⟨x,by rw [e];exact hi,fun _=>hro⟩
   ·rw [if_neg e] at q;exact ⟨z,q,id⟩
  obtain ⟨z',p1,p2⟩:=low _ _ q1
  obtain ⟨w',p3,_⟩:=low _ _ q2
  exact s.inj j k z' w' c p1 p3 (p2 q3) m1 m2
 ·have:=s.dom j c q
  exact ⟨this.1,by omega⟩
 ·rw [hH,if_neg (fun e=>ho (by rw [e];exact ⟨i,x,hi,hro,hb⟩))]
 ·obtain ⟨j,z,q1,q2,q3⟩:=ho
  rw [get_set] at q1
  by_cases e:j=i
  ·subst e;exact .inl ⟨j,x,hi,hro,q3⟩
  ·rw [if_neg e] at q1;exact .inl ⟨j,z,q1,q2,q3⟩
theorem kill_rel (s:SR Gl G μ h H) {n i b:Nat} {x:VB} (hi:h.get i=some x) (hro:x.ro=false) (hb:μ i=some b) :
  SR Gl G μ (h.kill i) (H.kill b)∧Pr n G μ h H G μ (h.kill i) (H.kill b):=by
 obtain ⟨b',y,h1,h2,h3,h4,h5⟩:=s.blk i x hi
 rw [hb] at h1;obtain rfl:=Option.some.inj h1
 have hg:=h5 hro
 have low:∀ j z,(h.kill i).get j=some z→j≠i∧h.get j=some z:=fun j z q=>by
  rw [get_kill] at q
  by_cases e:j=i
  ·rw [if_pos e] at q;cases q
  ·rw [if_neg e] at q;exact ⟨e,q⟩
 refine ⟨⟨⟨fun c z q => ?_,s.w.glob⟩,fun j z q => ?_,fun j k z w c q1 q2 q3 m1 m2 => ?_,fun j c q => ?_⟩,⟨Gz.le_refl _,Pm.le_refl _,Nat.le_refl _,Nat.le_refl _,fun c hc ho => ?_,fun _ _ q => .inl q,fun c ho => ?_,fun _ _ q => .inl q⟩⟩
 ·have:=s.w.at_ c z q
  have hne:c≠b:=fun e=>by rw [e,hg] at q;cases q
  rw [H_kill,if_neg hne]
  exact this
 ·obtain ⟨e,q'⟩:=low _ _ q
  obtain ⟨c,z',g1,g2,g3,g4,g5⟩:=s.blk j z q'
  have hne:c≠b:=fun e'=>e (s.inj i j x z b hi q' hro hb (by rw [g1,e'])).symm
  exact ⟨c,z',g1,by rw [H_kill,if_neg hne];exact g2,g3,g4,g5⟩
 ·exact s.inj j k z w c (low _ _ q1).2 (low _ _ q2).2 q3 m1 m2
 ·exact s.dom j c q
 ·rw [H_kill,if_neg (fun e=>ho (by rw [e];exact ⟨i,x,hi,hro,hb⟩))]
 ·obtain ⟨j,z,q1,q2,q3⟩:=ho
  exact .inl ⟨j,z,(low _ _ q1).2,q2,q3⟩
def setG (G:Gz) (b:Nat) (y:ABlk):Gz:=fun c=>if c=b then some y else G c
def VB.shutB:VB→Bool
 | .cells cs _=>closedL cs
 | .map ks vs _=>closedL ks && closedL vs
theorem BlkR.fix {x:VB} {y:ABlk} (hx:BlkR G μ x y) (hc:VB.shutB x=true):BlkR G μ x.fix y:=by
 cases x with
 | cells cs ro =>
  obtain ⟨as,rw,st,e,h1,h2,h3⟩:=hx
  exact ⟨as,rw,st,e,h1,(fun e=>by cases e),fun _=>VRs.closed _ _ _ hc h1⟩
 | map ks vs ro =>
  obtain ⟨es,as,bs,e,e1,e2,h1,h2,h3⟩:=hx
  simp only [VB.shutB,Bool.and_eq_true] at hc
  exact ⟨es,as,bs,e,e1,e2,h1,h2,fun _=>⟨VRs.closed _ _ _ hc.1 h1,VRs.closed _ _ _ hc.2 h2⟩⟩
theorem fix1_rel (s:SR Gl G μ h H) {i:Nat} {x:VB} (hi:h.get i=some x) (hc:VB.shutB x=true) :
  ∃ G' y b,μ i=some b∧G' b=some y∧H.get b=some y∧BlkR G μ x y∧SR Gl G' μ (h.set i x.fix) H∧∀ n,Pr n G μ h H G' μ (h.set i x.fix) H:=by
 obtain ⟨b,y,h1,h2,h3,h4,h5⟩:=s.blk i x hi
 have ge:∃ G',G.le G'∧G' b=some y∧(∀ c z,G' c=some z→G c=some z∨(c=b∧z=y∧x.ro=false))∧(∀ c,c≠b→G' c=G c):=by
  cases hro:x.ro with
  | true=>exact ⟨G,Gz.le_refl _,h4 hro,fun c z q => .inl q,fun _ _=>rfl⟩
  | false =>
   refine ⟨setG G b y,fun c z q => ?_,by simp [setG],fun c z q => ?_,fun c e=>by simp [setG,e]⟩
   ·unfold setG
    by_cases e:c=b
    ·subst e;rw [h5 hro] at q;cases q
    ·rw [if_neg e];exact q
   ·unfold setG at q
    by_cases e:c=b
    ·rw [if_pos e] at q;exact .inr ⟨e,(Option.some.inj q).symm,rfl⟩
    ·rw [if_neg e] at q;exact .inl q
 obtain ⟨G',g1,g2,g3,g4⟩:=ge
 have fro:x.fix.ro=true:=by cases x<;>rfl
 refine ⟨G',y,b,h1,g2,h2,h3,⟨⟨fun c z q => ?_,fun j cs q => ?_⟩,fun j z q => ?_,fun j k z w c q1 q2 q3 m1 m2 => ?_,s.dom⟩,fun n=>⟨g1,Pm.le_refl _,Nat.le_refl _,Nat.le_refl _,fun _ _ _=>rfl,fun c z q => ?_,fun c ho => ?_,fun _ _ q => .inl q⟩⟩
 ·rcases g3 c z q with q | ⟨e1,e2,_⟩
  ·exact s.w.at_ c z q
  ·rw [e1,e2];exact ⟨h2,(s.dom _ _ h1).2⟩
 ·obtain ⟨as,p1,p2⟩:=s.w.glob j cs q
  exact ⟨as,g1 _ _ p1,VRs.mono g1 (Pm.le_refl _) _ _ p2⟩
 ·rw [get_set] at q
  by_cases e:j=i
  ·rw [if_pos e] at q
   obtain rfl:=Option.some.inj q
   subst e
   exact ⟨b,y,h1,h2,(h3.fix hc).mono g1 (Pm.le_refl _),fun _=>g2,fun r=>by rw [fro] at r;cases r⟩
  ·rw [if_neg e] at q
   obtain ⟨c,z',k1,k2,k3,k4,k5⟩:=s.blk j z q
   refine ⟨c,z',k1,k2,k3.mono g1 (Pm.le_refl _),fun r=>g1 _ _ (k4 r),fun r => ?_⟩
   have hne:c≠b:=fun e'=>e (s.inj j i z x b q hi r (by rw [k1,e']) h1)
   rw [g4 c hne];exact k5 r
 ·rw [get_set] at q1 q2
  have e1:j≠i:=fun e=>by
   rw [if_pos e] at q1
   obtain rfl:=Option.some.inj q1
   rw [fro] at q3;cases q3
  rw [if_neg e1] at q1
  by_cases e2:k=i
  ·subst e2;exact s.inj j k z x c q1 hi q3 m1 m2
  ·rw [if_neg e2] at q2
   exact s.inj j k z w c q1 q2 q3 m1 m2
 ·rcases g3 c z q with q | ⟨e1,e2,e3⟩
  ·exact .inl q
  ·exact .inr (.inr ⟨i,x,hi,e3,by rw [e1];exact h1⟩)
 ·obtain ⟨j,z,q1,q2,q3⟩:=ho
  rw [get_set] at q1
  by_cases e:j=i
  ·rw [if_pos e] at q1
   obtain rfl:=Option.some.inj q1
   rw [fro] at q2;cases q2
  ·rw [if_neg e] at q1;exact .inl ⟨j,z,q1,q2,q3⟩
def Leaves (G:Gz) (μ:Pm) (h:VH) (H:Heap) (G':Gz) (μ':Pm) (h':VH) (H':Heap):Option (List Nat × Bool)→Prop
 | none=>True
 | some l=>(l.2=true→G'=G)∧∀ j x c,h'.get j=some x→μ' j=some c→j < h.next→j ∉ l.1→(∃ y,h.get j=some y)∧μ j=some c∧H'.get c=H.get c
theorem leaves_set (s:SR Gl G μ h H) {i b:Nat} {x x':VB} {H':Heap} (hi:h.get i=some x) (hro:x.ro=false) (hb:μ i=some b) (hH:∀ c,c≠b→H'.get c=H.get c) {l:List Nat} (hl:i∈l) :
  Leaves G μ h H G μ (h.set i x') H' (some (l,true)):=by
 refine ⟨fun _=>rfl,fun j z c q1 q2 _ q3 => ?_⟩
 have hne:j≠i:=fun e=>q3 (by rw [e];exact hl)
 rw [get_set,if_neg hne] at q1
 exact ⟨⟨z,q1⟩,q2,hH c fun e=>hne (s.inj i j x z b hi q1 hro hb (by rw [q2,e])).symm⟩
theorem leaves_push (s:SR Gl G μ h H) {x:VB} {y:ABlk} {l:List Nat} :
  Leaves G μ h H G (setM μ h.next H.next) (h.push x) (H.push y) (some (l,true)):=by
 refine ⟨fun _=>rfl,fun j z c q1 q2 q4 q3 => ?_⟩
 have hne:j≠h.next:=Nat.ne_of_lt q4
 rw [get_push,if_neg hne] at q1
 unfold setM at q2
 rw [if_neg hne] at q2
 exact ⟨⟨z,q1⟩,q2,by rw [H_push,if_neg (Nat.ne_of_lt (s.dom _ _ q2).2)]⟩
theorem leaves_kill (s:SR Gl G μ h H) {i b:Nat} {x x':VB} {y:ABlk} (hi:h.get i=some x) (hro:x.ro=false) (hb:μ i=some b) {l:List Nat} (hl:i∈l) :
  Leaves G μ h H G (setM μ h.next H.next) ((h.kill i).push x') ((H.kill b).push y) (some (l,true)):=by
 refine ⟨fun _=>rfl,fun j z c q1 q2 q4 q3 => ?_⟩
 have hne:j≠h.next:=Nat.ne_of_lt q4
 have hne':j≠i:=fun e=>q3 (by rw [e];exact hl)
 rw [get_push,if_neg (show j≠(h.kill i).next from hne),get_kill,if_neg hne'] at q1
 unfold setM at q2
 rw [if_neg hne] at q2
 have hc:=(s.dom _ _ q2).2
 refine ⟨⟨z,q1⟩,q2,?_⟩
 rw [H_push,if_neg (show c≠(H.kill b).next from Nat.ne_of_lt hc),H_kill,if_neg]
 exact fun e=>hne' (s.inj i j x z b hi q1 hro hb (by rw [q2,e])).symm
theorem leaves_refl {l:List Nat}:Leaves G μ h H G μ h H (some (l,true)):=⟨fun _=>rfl,fun j x c q1 q2 _ _=>⟨⟨x,q1⟩,q2,rfl⟩⟩
def idsO (v:Option VV):List Nat:=match v with
 | some (.slice i _ _ _ _)=>[i]
 | some (.ptr i _)=>[i]
 | some (.map i)=>[i]
 | _=>[]
theorem storeV_rel (s:SR Gl G μ h H) {n i o b:Nat} {v:List VV} {as:List AV} {h':VH} (hv:storeV h i o v=some h') (hb:μ i=some b) (k:VRs G μ v as) :
  ∃ H',storeAt H (b,o) as=some H'∧SR Gl G μ h' H'∧Pr n G μ h H G μ h' H'∧∀ l,i∈l→Leaves G μ h H G μ h' H' (some (l,true)):=by
 unfold storeV at hv
 split at hv<;>try (cases hv;done)
 rename_i cs hg
 split at hv<;>try (cases hv;done)
 rename_i hle
 obtain rfl:=Option.some.inj hv
 obtain ⟨b',y,h1,h2,⟨full,rw,st,rfl,h3,h4,h5⟩,_⟩:=s.blk _ _ hg
 rw [hb] at h1;obtain rfl:=Option.some.inj h1
 obtain rfl:=h4 rfl
 refine ⟨H.set b (.cells (splice full o as) true st),?_,?_⟩
 ·simp only [storeAt,h2]
  rw [if_pos (by rw [VRs.length h3,VRs.length k];exact hle)]
 ·obtain ⟨t1,t2⟩:=turn_rel (n:=n) (H':=H.set b (.cells (splice full o as) true st)) s hg rfl hb (x' := .cells (spliceV cs o v) false) ⟨_,true,st,rfl,splice_rel h3 k o,fun _=>rfl,fun e=>by cases e⟩ rfl (H_set H b _) rfl
  exact ⟨t1,t2,fun l hl=>leaves_set s hg rfl hb (fun c e=>by rw [H_set,if_neg e]) hl⟩
theorem src_rel (s:SR Gl G μ h H) {esz m:Nat} {x:VV} {a:AV} {cs:List VV} (hv:srcV h esz x=some (m,cs)) (k:VR G μ x a):∃ as,srcCells H esz a=some (m,as)∧VRs G μ cs as∧cs.length=m*esz:=by
 unfold srcV at hv
 split at hv<;>try (cases hv;done)
 ·simp only [VR] at k;subst k
  simp only [Option.some.injEq,Prod.mk.injEq] at hv
  obtain ⟨rfl,rfl⟩:=hv
  exact ⟨[],rfl,rfl,by simp⟩
 ·obtain ⟨b,hb,rfl⟩:=k
  split at hv<;>try (cases hv;done)
  split at hv<;>try (cases hv;done)
  rename_i w hw
  simp only [Option.some.injEq,Prod.mk.injEq] at hv
  obtain ⟨rfl,rfl⟩:=hv
  obtain ⟨as,h1,h2,h3⟩:=win_rel s hw hb
  exact ⟨as,by simp only [srcCells,h1],h2,h3⟩
 ·rename_i cs' n e
  obtain ⟨h0,k1⟩:=k
  split at hv<;>try (cases hv;done)
  rename_i he
  simp only [Option.some.injEq,Prod.mk.injEq] at hv
  obtain ⟨rfl,rfl⟩:=hv
  rcases he with he | he
  rotate_left
  ·subst he
   obtain rfl:cs'=[]:=List.eq_nil_of_length_eq_zero (by simpa using h0)
   rcases k1 with ⟨h1,rfl⟩ | ⟨b,o,c,full,rw,st,as,h1,rfl,h3,h4,h5,h6⟩
   ·exact ⟨[],rfl,rfl,by simp⟩
   ·refine ⟨[],?_,rfl,by simp⟩
    simp only [srcCells,cellsAt,(s.w.at_ _ _ h1).1]
    rw [if_pos (by omega)]
    simp
  subst he
  rcases k1 with ⟨h1,rfl⟩ | ⟨b,o,c,full,rw,st,as,h1,rfl,h3,h4,h5,h6⟩
  ·subst h1
   obtain rfl:cs'=[]:=List.eq_nil_of_length_eq_zero (by simpa using h0)
   exact ⟨[],rfl,rfl,by simp⟩
  ·subst h4
   refine ⟨_,?_,VRs.mono (Gz.le_refl _) (noP_le _) _ _ h6,h0⟩
   simp only [srcCells,cellsAt,(s.w.at_ _ _ h1).1]
   rw [if_pos h5]
 ·rename_i t
  simp only [VR] at k;subst k
  split at hv<;>try (cases hv;done)
  rename_i he
  simp only [Option.some.injEq,Prod.mk.injEq] at hv
  obtain ⟨rfl,rfl⟩:=hv
  exact ⟨_,by simp only [srcCells,if_pos he],bytes_mapR _,by simp [he]⟩
theorem lenOf_rel {s:VV} {a:AV} {n:Nat} (hv:lenOfV s=some n) (k:VR G μ s a):∃ base cap,a = .slice base n cap:=by
 unfold lenOfV at hv
 split at hv<;>try (cases hv;done)
 ·simp only [VR] at k;obtain rfl:=Option.some.inj hv;exact ⟨_,_,k⟩
 ·obtain ⟨b,_,e⟩:=k;obtain rfl:=Option.some.inj hv;exact ⟨_,_,e⟩
 ·obtain rfl:=Option.some.inj hv
  obtain ⟨_,⟨e,q⟩ | ⟨b,o,c,_,_,_,_,_,e,_⟩⟩:=k
  ·subst e;exact ⟨_,_,q⟩
  ·exact ⟨_,_,e⟩
theorem appTo_rel (s:SR Gl G μ h H) {esz n m:Nat} {sv v:VV} {base:Option (Nat × Nat)} {cap:ACap} {new:List VV} {as:List AV} {h':VH} (hv:appToV esz sv m new h=some (v,h')) (hl:lenOfV sv=some n) (k:VR G μ sv (.slice base n cap)) (kn:VRs G μ new as) :
  ∃ a H' μ',appendTo esz base cap n (n+m) as H=some (a,H')∧SR Gl G μ' h' H'∧Pr H.next G μ h H G μ' h' H'∧VR G μ' v a∧Leaves G μ h H G μ' h' H' (some (idsO (some sv),true)):=by
 unfold appToV at hv
 split at hv<;>try (cases hv;done)
 ·simp only [VR,AV.slice.injEq] at k
  obtain ⟨rfl,rfl,rfl⟩:=k
  simp only [Option.some.injEq,Prod.mk.injEq] at hv
  obtain ⟨rfl,rfl⟩:=hv
  obtain ⟨p1,p2⟩:=push_rel s (x := .cells new false) (y := .cells as true false) ⟨_,_,_,rfl,kn,fun _=>rfl,fun e=>by cases e⟩ rfl
  refine ⟨.slice (some (H.next,0)) (0+m) (.toEnd esz),_,_,by simp only [appendTo],p1,p2,⟨H.next,by unfold setM;rw [if_pos rfl],by simp⟩,leaves_push s⟩
 ·rename_i i o n' e c
  obtain ⟨b,hb,ek⟩:=k
  simp only [AV.slice.injEq] at ek
  obtain ⟨rfl,rfl,rfl⟩:=ek
  split at hv<;>try (cases hv;done)
  split at hv
  ·rename_i c
   split at hv
   ·rename_i hle
    split at hv<;>try (cases hv;done)
    rename_i h1 hst
    simp only [Option.some.injEq,Prod.mk.injEq] at hv
    obtain ⟨rfl,rfl⟩:=hv
    obtain ⟨H',q1,q2,q3,q4⟩:=storeV_rel (n:=H.next) s hst hb kn
    exact ⟨.slice (some (b,o)) (n+m) (.exact c),H',μ,by simp only [appendTo,if_pos hle,q1],q2,q3,⟨b,hb,rfl⟩,q4 _ (by simp [idsO])⟩
   ·rename_i hle
    split at hv<;>try (cases hv;done)
    rename_i old hw
    simp only [Option.some.injEq,Prod.mk.injEq] at hv
    obtain ⟨rfl,rfl⟩:=hv
    obtain ⟨os,q1,q2,_⟩:=win_rel s hw hb
    obtain ⟨p1,p2⟩:=push_rel s (x := .cells (old++new) false) (y := .cells (os++as) true false) ⟨_,_,_,rfl,VRs.append q2 kn,fun _=>rfl,fun e=>by cases e⟩ rfl
    exact ⟨.slice (some (H.next,0)) (n+m) (.toEnd esz),_,_,by simp only [appendTo,if_neg hle,q1],p1,p2,⟨H.next,by unfold setM;rw [if_pos rfl],rfl⟩,leaves_push s⟩
  ·rename_i e'
   split at hv<;>try (cases hv;done)
   rename_i cs hg
   split at hv<;>try (cases hv;done)
   rename_i hcond
   simp only [Option.some.injEq,Prod.mk.injEq] at hv
   obtain ⟨rfl,rfl⟩:=hv
   obtain ⟨b',y,h1,h2,⟨full,rw,st,rfl,h3,h4,h5⟩,_⟩:=s.blk _ _ hg
   rw [hb] at h1;obtain rfl:=Option.some.inj h1
   obtain rfl:=h4 rfl
   obtain ⟨s1,r1⟩:=kill_rel (n:=H.next) s hg rfl hb
   obtain ⟨p1,p2⟩:=push_rel s1 (x := .cells ((cs.drop o).take (n*esz)++new) false) (y := .cells ((full.drop o).take (n*esz)++as) true st) ⟨_,_,_,rfl,VRs.append (VRs.take _ (VRs.drop _ h3)) kn,fun _=>rfl,fun e=>by cases e⟩ rfl
   refine ⟨.slice (some (H.next,0)) (n+m) (.toEnd esz),_,_,?_,p1,r1.trans p2 (Nat.le_refl _),⟨H.next,by show setM μ h.next H.next h.next=_;unfold setM;rw [if_pos rfl],rfl⟩,leaves_kill s hg rfl hb (by simp [idsO])⟩
   simp only [appendTo,h2]
   rw [if_pos ⟨hcond.1,by rw [VRs.length h3];exact hcond.2⟩]
theorem append_rel (s:SR Gl G μ h H) {esz ebytes:Nat} {vs:List VV} {as:List AV} {v:VV} {h':VH} (hv:appendV esz ebytes h vs=some (v,h')) (kk:VRs G μ vs as) (call:CallT) :
  ∃ a H' μ',wop call (.append esz ebytes) as H=some (a,H')∧SR Gl G μ' h' H'∧Pr H.next G μ h H G μ' h' H'∧VR G μ' v a∧Leaves G μ h H G μ' h' H' (some (idsO vs.head?,true)):=by
 unfold appendV at hv
 split at hv<;>try (cases hv;done)
 obtain ⟨a,b,rfl,k1,k2⟩:=VRs.two kk
 split at hv<;>try (cases hv;done)
 ·rename_i cs n hs hl
  simp only [Option.some.injEq,Prod.mk.injEq] at hv
  obtain ⟨rfl,rfl⟩:=hv
  obtain ⟨base,cap,rfl⟩:=lenOf_rel hl k1
  obtain ⟨as,q1,_,_⟩:=src_rel s hs k2
  exact ⟨_,H,μ,by simp only [wop,appendA,q1],s,Pr.refl _ _ _ _ _,k1,leaves_refl⟩
 ·rename_i m new n hs hl
  split at hv<;>try (cases hv;done)
  rename_i hcond
  obtain ⟨base,cap,rfl⟩:=lenOf_rel hl k1
  obtain ⟨as,q1,q2,_⟩:=src_rel s hs k2
  obtain ⟨a,H',μ',r1,r2,r3,r4,r5⟩:=appTo_rel s hv hl k1 q2
  exact ⟨a,H',μ',by simp only [wop,appendA,q1,if_pos hcond,r1],r2,r3,r4,r5⟩
theorem store_rel (s:SR Gl G μ h H) {sz:Nat} {vs:List VV} {as:List AV} {v:VV} {h':VH} (hv:storeOpV sz h vs=some (v,h')) (kk:VRs G μ vs as) (call:CallT) :
  ∃ a H' μ',wop call (.store sz) as H=some (a,H')∧SR Gl G μ' h' H'∧Pr H.next G μ h H G μ' h' H'∧VR G μ' v a∧Leaves G μ h H G μ' h' H' (some (idsO vs.head?,true)):=by
 unfold storeOpV at hv
 split at hv<;>try (cases hv;done)
 obtain ⟨a,b,rfl,⟨bl,hb,rfl⟩,k2⟩:=VRs.two kk
 split at hv<;>try (cases hv;done)
 rename_i hcond
 split at hv<;>try (cases hv;done)
 rename_i h1 hst
 simp only [Option.some.injEq,Prod.mk.injEq] at hv
 obtain ⟨rfl,rfl⟩:=hv
 obtain ⟨q1,q2⟩:=VR.cells k2 hcond.2
 obtain ⟨H',r1,r2,r3,r4⟩:=storeV_rel (n:=H.next) s hst hb q1
 refine ⟨undefA,H',μ,?_,r2,r3,⟨[],rfl,rfl⟩,r4 _ (by simp [idsO])⟩
 simp only [wop]
 rw [if_pos ⟨by rw [VRs.length q1];exact hcond.1,q2⟩,r1]
theorem copy_rel (s:SR Gl G μ h H) {esz:Nat} {vs:List VV} {as:List AV} {v:VV} {h':VH} (hv:copyV esz h vs=some (v,h')) (kk:VRs G μ vs as) (call:CallT) :
  ∃ a H' μ',wop call (.copy esz) as H=some (a,H')∧SR Gl G μ' h' H'∧Pr H.next G μ h H G μ' h' H'∧VR G μ' v a∧Leaves G μ h H G μ' h' H' (some (idsO vs.head?,true)):=by
 unfold copyV at hv
 split at hv<;>try (cases hv;done)
 obtain ⟨a,b,rfl,⟨bl,hb,rfl⟩,k2⟩:=VRs.two kk
 split at hv<;>try (cases hv;done)
 rename_i m cs hs
 split at hv<;>try (cases hv;done)
 rename_i h1 hst
 simp only [Option.some.injEq,Prod.mk.injEq] at hv
 obtain ⟨rfl,rfl⟩:=hv
 obtain ⟨as,q1,q2,_⟩:=src_rel s hs k2
 obtain ⟨H',r1,r2,r3,r4⟩:=storeV_rel (n:=H.next) s hst hb (VRs.take _ q2)
 exact ⟨_,H',μ,by simp only [wop,q1,r1],r2,r3,rfl,r4 _ (by simp [idsO])⟩
theorem mput_rel {key val:VV} {ka va:AV} (hk:VR G μ key ka) (hv':VR G μ val va):∀ {ks vs ks' vs':List VV} {es:List (AV × AV)},mputV key val ks vs=some (ks',vs')→MapR G μ ks vs es →
  ∃ es',mapPut ka va es=some es'∧MapR G μ ks' vs' es'
 | [],[],ks',vs',es,hv,⟨h1,h2⟩=>by
  simp only [mputV,Option.some.injEq,Prod.mk.injEq] at hv
  obtain ⟨rfl,rfl⟩:=hv
  simp only [VRs] at h1
  obtain rfl:=List.map_eq_nil_iff.1 h1
  exact ⟨_,rfl,VRs.cons hk VRs.nil,VRs.cons hv' VRs.nil⟩
 | k::ks,v::vs,ks',vs',[],hv,⟨h1,h2⟩=>by obtain ⟨_,_,e,_⟩:=h1;cases e
 | k::ks,v::vs,ks',vs',(ek,ev)::es,hv,⟨h1,h2⟩=>by
  obtain ⟨_,_,e,p1,p2⟩:=h1
  obtain ⟨_,_,e',q1,q2⟩:=h2
  simp only [List.map_cons,List.cons.injEq] at e e'
  obtain ⟨rfl,rfl⟩:=e
  obtain ⟨rfl,rfl⟩:=e'
  simp only [mputV] at hv
  split at hv<;>try (cases hv;done)
  ·rename_i hq
   simp only [Option.some.injEq,Prod.mk.injEq] at hv
   obtain ⟨rfl,rfl⟩:=hv
   exact ⟨(ka,va)::es,by simp only [mapPut,keyEq_rel hq hk p1],VRs.cons hk p2,VRs.cons hv' q2⟩
  ·rename_i hq
   split at hv<;>try (cases hv;done)
   rename_i a b hab
   simp only [Option.some.injEq,Prod.mk.injEq] at hv
   obtain ⟨rfl,rfl⟩:=hv
   obtain ⟨es',g1,g2,g3⟩:=mput_rel hk hv' hab ⟨p2,q2⟩
   exact ⟨(ek,ev)::es',by simp only [mapPut,keyEq_rel hq hk p1,g1],VRs.cons p1 g2,VRs.cons q1 g3⟩
 | [],v::vs,_,_,es,hv,_=>by simp [mputV] at hv
 | k::ks,[],_,_,es,hv,_=>by simp [mputV] at hv
theorem mapUpd_rel (s:SR Gl G μ h H) {ks:Bool} {vs:List VV} {as:List AV} {v:VV} {h':VH} (hv:mapUpdV ks h vs=some (v,h')) (kk:VRs G μ vs as) (call:CallT) :
  ∃ a H' μ',wop call (.mapUpd ks) as H=some (a,H')∧SR Gl G μ' h' H'∧Pr H.next G μ h H G μ' h' H'∧VR G μ' v a∧Leaves G μ h H G μ' h' H' (some (idsO vs.head?,true)):=by
 unfold mapUpdV at hv
 split at hv<;>try (cases hv;done)
 obtain ⟨a,b,c,rfl,⟨bl,hb,rfl⟩,k2,k3⟩:=VRs.three kk
 split at hv<;>try (cases hv;done)
 rename_i hkey
 split at hv<;>try (cases hv;done)
 rename_i l r hg
 split at hv<;>try (cases hv;done)
 rename_i l' r' hp
 simp only [Option.some.injEq,Prod.mk.injEq] at hv
 obtain ⟨rfl,rfl⟩:=hv
 obtain ⟨b',y,h1,h2,⟨es,as,bs,rfl,rfl,rfl,h3,h4,h5⟩,_⟩:=s.blk _ _ hg
 rw [hb] at h1;obtain rfl:=Option.some.inj h1
 obtain ⟨es',g1,g2⟩:=mput_rel k2 k3 hp ⟨h3,h4⟩
 obtain ⟨t1,t2⟩:=turn_rel (n:=H.next) (H':=H.set bl (.map es')) s hg rfl hb (x' := .map l' r' false) ⟨es',_,_,rfl,rfl,rfl,g2.1,g2.2,fun e=>by cases e⟩ rfl (H_set H bl _) rfl
 exact ⟨undefA,_,μ,by simp only [wop,if_pos (isKey_rel hkey k2),h2,g1],t1,t2,⟨[],rfl,rfl⟩,leaves_set s hg rfl hb (fun c e=>by rw [H_set,if_neg e]) (by simp [idsO])⟩
theorem mark_rel (s:SR Gl G μ h H) {vs:List VV} {as:List AV} {v:VV} {h':VH} (hv:markV h vs=some (v,h')) (kk:VRs G μ vs as) (call:CallT) :
  ∃ a H' μ',wop call .mark as H=some (a,H')∧SR Gl G μ' h' H'∧Pr H.next G μ h H G μ' h' H'∧VR G μ' v a∧Leaves G μ h H G μ' h' H' (some (idsO vs.head?,true)):=by
 unfold markV at hv
 split at hv<;>try (cases hv;done)
 obtain ⟨a,rfl,bl,hb,rfl⟩:=VRs.one kk
 split at hv<;>try (cases hv;done)
 rename_i cs hg
 simp only [Option.some.injEq,Prod.mk.injEq] at hv
 obtain ⟨rfl,rfl⟩:=hv
 obtain ⟨b',y,h1,h2,⟨full,rw,st,rfl,h3,h4,h5⟩,g1,g2⟩:=s.blk _ _ hg
 rw [hb] at h1;obtain rfl:=Option.some.inj h1
 obtain rfl:=h4 rfl
 refine ⟨_,H.set bl (.cells full true true),μ,by simp only [wop,h2];rfl,?_⟩
 obtain ⟨t1,t2⟩:=turn_rel (n:=H.next) (H':=H.set bl (.cells full true true)) s hg rfl hb (x' := .cells cs false) ⟨full,true,true,rfl,h3,fun _=>rfl,fun e=>by cases e⟩ rfl (H_set H bl _) rfl
 have same:∀ j,(h.set _ (.cells cs false)).get j=h.get j:=fun j=>by
  rw [get_set]
  split
  ·rename_i e;rw [e,hg]
  ·rfl
 refine ⟨⟨t1.w,fun i x q=>t1.blk i x (by rw [same];exact q),fun i j x y b q1 q2=>t1.inj i j x y b (by rw [same];exact q1) (by rw [same];exact q2),t1.dom⟩,⟨t2.g,t2.m,Nat.le_refl _,t2.next,t2.keep,t2.gnew,fun b ho=>t2.own b ?_,t2.mnew⟩,⟨bl,hb,rfl⟩,⟨fun _=>rfl,fun j z c q1 q2 q4 q3=>(leaves_set (x' := .cells cs false) s hg rfl hb (fun c e=>by rw [H_set,if_neg e]) (l:=[_]) (List.mem_singleton.2 rfl)).2 j z c (by rw [same];exact q1) q2 q4 q3⟩⟩
 obtain ⟨i,x,q1,q2,q3⟩:=ho
 exact ⟨i,x,by rw [same];exact q1,q2,q3⟩
end
end
end Go.VL
