/- The heap of a call's own, and the fast run's: how they stand; what reads them. -/
import Derived.Test.YtlgkadhogiedoaaDoorVlC
set_option linter.unusedSimpArgs false
set_option linter.unusedVariables false
namespace Go.VL
open Go.FR
noncomputable section
def BlkR (G:Gz) (μ:Pm):VB→ABlk→Prop
 | .cells cs ro,y=>∃ as rw st,y = .cells as rw st∧VRs G μ cs as∧(ro=false→rw=true)∧(ro=true→VRs G noP cs as)
 | .map ks vs ro,y=>∃ es as bs,y = .map es∧as=es.map (·.1)∧bs=es.map (·.2)∧VRs G μ ks as∧VRs G μ vs bs∧(ro=true→VRs G noP ks as∧VRs G noP vs bs)
theorem BlkR.mono {G K:Gz} {μ ν:Pm} (hg:G.le K) (hm:μ.le ν):∀ {x:VB} {y:ABlk},BlkR G μ x y→BlkR K ν x y
 | .cells cs ro,_,⟨as,rw,st,e,h,k,q⟩=>⟨as,rw,st,e,VRs.mono hg hm _ _ h,k,fun r=>VRs.mono hg (Pm.le_refl _) _ _ (q r)⟩
 | .map ks vs ro,_,⟨es,as,bs,e,e1,e2,h,k,q⟩=>⟨es,as,bs,e,e1,e2,VRs.mono hg hm _ _ h,VRs.mono hg hm _ _ k,fun r=>⟨VRs.mono hg (Pm.le_refl _) _ _ (q r).1,VRs.mono hg (Pm.le_refl _) _ _ (q r).2⟩⟩
structure GW (Gl:qzh) (G:Gz) (H:Heap):Prop where
 at_:∀ b x,G b=some x→H.get b=some x∧b < H.next
 glob:∀ i cs,qzf Gl i=some cs→∃ as,G i=some (.cells as false false)∧VRs G noP cs as
structure SR (Gl:qzh) (G:Gz) (μ:Pm) (h:VH) (H:Heap):Prop where
 w:GW Gl G H
 blk:∀ i x,h.get i=some x→∃ b y,μ i=some b∧H.get b=some y∧BlkR G μ x y∧(x.ro=true→G b=some y)∧(x.ro=false→G b=none)
 inj:∀ i j x y b,h.get i=some x→h.get j=some y→x.ro=false→μ i=some b→μ j=some b→i=j
 dom:∀ i b,μ i=some b→i < h.next∧b < H.next
def Own (h:VH) (μ:Pm) (b:Nat):Prop:=∃ i x,h.get i=some x∧x.ro=false∧μ i=some b
structure Pr (n:Nat) (G:Gz) (μ:Pm) (h:VH) (H:Heap) (G':Gz) (μ':Pm) (h':VH) (H':Heap):Prop where
 g:G.le G'
 m:μ.le μ'
 hn:h.next≤h'.next
 next:H.next≤H'.next
 keep:∀ b,b < n→¬Own h μ b→H'.get b=H.get b
 gnew:∀ b x,G' b=some x→G b=some x∨n≤b∨Own h μ b
 own:∀ b,Own h' μ' b→Own h μ b∨n≤b
 mnew:∀ i b,μ' i=some b→μ i=some b∨n≤b
theorem Pr.refl (n:Nat) (G:Gz) (μ:Pm) (h:VH) (H:Heap):Pr n G μ h H G μ h H :=
 ⟨Gz.le_refl _,Pm.le_refl _,Nat.le_refl _,Nat.le_refl _,fun _ _ _=>rfl,fun _ _ q => .inl q,fun _ q => .inl q,fun _ _ q => .inl q⟩
theorem Pr.trans {n k:Nat} {G G' G'':Gz} {μ μ' μ'':Pm} {h h' h'':VH} {H H' H'':Heap} (p:Pr n G μ h H G' μ' h' H') (q:Pr k G' μ' h' H' G'' μ'' h'' H'') (hnk:n≤k):Pr n G μ h H G'' μ'' h'' H'':=by
 refine ⟨Gz.le_trans p.g q.g,Pm.le_trans p.m q.m,Nat.le_trans p.hn q.hn,Nat.le_trans p.next q.next,fun b hb ho => ?_,fun b x hx => ?_,fun b ho => ?_,fun i b hi => ?_⟩
 ·rw [q.keep b (by omega) (fun r=>(p.own b r).elim ho (fun r=>by omega)),p.keep b hb ho]
 ·rcases q.gnew b x hx with r | r | r
  ·exact p.gnew b x r
  ·exact .inr (.inl (by omega))
  ·rcases p.own b r with r | r
   ·exact .inr (.inr r)
   ·exact .inr (.inl r)
 ·rcases q.own b ho with r | r
  ·exact p.own b r
  ·exact .inr (by omega)
 ·rcases q.mnew i b hi with r | r
  ·exact p.mnew i b r
  ·exact .inr (by omega)
theorem Pr.le {n k:Nat} {G G':Gz} {μ μ':Pm} {h h':VH} {H H':Heap} (p:Pr k G μ h H G' μ' h' H') (hnk:n≤k):Pr n G μ h H G' μ' h' H' :=
 ⟨p.g,p.m,p.hn,p.next,fun b hb ho=>p.keep b (by omega) ho,fun b x hx=>(p.gnew b x hx).imp_right (fun r=>r.imp_left (fun r=>by omega)),fun b ho=>(p.own b ho).imp_right (fun r=>by omega),fun i b hi=>(p.mnew i b hi).imp_right (fun r=>by omega)⟩
theorem get_set (h:VH) (i:Nat) (x:VB) (j:Nat):(h.set i x).get j=if j=i then some x else h.get j:=by
 unfold VH.get VH.set
 simp only [qzf]
 by_cases e:i=j
 ·subst e;simp
 ·rw [if_neg e,if_neg (fun q=>e q.symm)]
theorem get_kill (h:VH) (i:Nat) (j:Nat):(h.kill i).get j=if j=i then none else h.get j:=by
 unfold VH.get VH.kill
 simp only [qzf]
 by_cases e:i=j
 ·subst e;simp
 ·rw [if_neg e,if_neg (fun q=>e q.symm)]
theorem get_push (h:VH) (x:VB) (j:Nat):(h.push x).get j=if j=h.next then some x else h.get j:=by
 unfold VH.get VH.push
 simp only [qzf]
 by_cases e:h.next=j
 ·subst e;simp
 ·rw [if_neg e,if_neg (fun q=>e q.symm)]
theorem H_push (H:Heap) (x:ABlk) (j:Nat):(H.push x).get j=if j=H.next then some x else H.get j:=by
 show Tr.get _ _=_;rw [Heap.push,Tr.get_set];rfl
theorem H_set (H:Heap) (i:Nat) (x:ABlk) (j:Nat):(H.set i x).get j=if j=i then some x else H.get j:=by
 show Tr.get _ _=_;rw [Heap.set,Tr.get_set];rfl
theorem H_kill (H:Heap) (i:Nat) (j:Nat):(H.kill i).get j=if j=i then none else H.get j:=by
 show Tr.get _ _=_;rw [Heap.kill,Tr.get_del];rfl
def setM (μ:Pm) (i b:Nat):Pm:=fun k=>if k=i then some b else μ k
theorem setM_le {μ:Pm} {i b:Nat} (h:μ i=none):μ.le (setM μ i b):=fun k c q=>by
 unfold setM;by_cases e:k=i
 ·subst e;rw [h] at q;cases q
 ·rw [if_neg e];exact q
theorem SR.fresh {Gl:qzh} {G:Gz} {μ:Pm} {h:VH} {H:Heap} (s:SR Gl G μ h H):μ h.next=none:=by
 cases e:μ h.next with
 | none=>rfl
 | some b=>exact absurd (s.dom _ _ e).1 (Nat.lt_irrefl _)
section
variable {Gl:qzh} {G:Gz} {μ:Pm} {h:VH} {H:Heap}
theorem load_rel (s:SR Gl G μ h H) {sz:Option Nat} {vs:List VV} {as:List AV} {v:VV} (hv:loadV Gl h sz vs=some v) (kk:VRs G μ vs as):∃ a,rop (.load sz) as H=some a∧VR G μ v a:=by
 unfold loadV at hv
 split at hv<;>try (cases hv;done)
 ·obtain ⟨a,rfl,b,hb,rfl⟩:=VRs.one kk
  split at hv<;>try (cases hv;done)
  rename_i cs ro hc
  obtain ⟨b',y,h1,h2,⟨as,rw,st,rfl,h3,_⟩,_⟩:=s.blk _ _ hc
  rw [hb] at h1;obtain rfl:=Option.some.inj h1
  simp only [rop,h2]
  exact part_rel h3 hv
 ·obtain ⟨a,rfl,k⟩:=VRs.one kk
  simp only [VR] at k;subst k
  split at hv<;>try (cases hv;done)
  rename_i cs hc
  obtain ⟨as,h1,h2⟩:=s.w.glob _ _ hc
  simp only [rop,(s.w.at_ _ _ h1).1]
  obtain ⟨a,ha,hr⟩:=part_rel h2 hv
  exact ⟨a,ha,VR.mono (Gz.le_refl _) (noP_le _) _ _ hr⟩
 ·obtain ⟨a,rfl,b,p,full,rw,st,as,h1,rfl,h3,h4,h5⟩:=VRs.one kk
  simp only [rop,(s.w.at_ _ _ h1).1]
  subst h3
  obtain ⟨a,ha,hr⟩:=part_win h5 h4 hv
  exact ⟨a,ha,VR.mono (Gz.le_refl _) (noP_le _) _ _ hr⟩
theorem eqScal_rel {f:AV→AV→Option Bool} {x y:VV} {a b:AV} {r:Bool} (hv:eqScal f x y=some r) (hx:VR G μ x a) (hy:VR G μ y b):f a b=some r:=by
 unfold eqScal at hv
 split at hv<;>try (cases hv;done)
 rename_i c d hc hd
 rw [toA_rel hc hx,toA_rel hd hy];exact hv
theorem pEq_g (s:SR Gl G μ h H) {i o j p:Nat} {r:Bool} (hv:eqGV Gl i o j p=some r):pEq H (i,o) (j,p)=some r:=by
 unfold eqGV at hv
 unfold pEq
 by_cases e:i=j
 ·simp only [e,if_true] at hv ⊢;exact hv
 ·rw [if_neg e] at hv
  rw [if_neg e]
  split at hv<;>try (cases hv;done)
  rename_i q
  obtain ⟨q1,q2,hi,hj⟩:=q
  simp only [inGl,Option.isSome_iff_exists] at hi hj
  obtain ⟨c,hc⟩:=hi
  obtain ⟨d,hd⟩:=hj
  obtain ⟨as,h1,_⟩:=s.w.glob _ _ hc
  obtain ⟨bs,h2,_⟩:=s.w.glob _ _ hd
  simp only [(s.w.at_ _ _ h1).1,(s.w.at_ _ _ h2).1,q1,q2]
  simpa using hv
theorem eqPV_rel (s:SR Gl G μ h H) {x y:VV} {a b:AV} {r:Bool} (hv:eqPV Gl x y=some r) (hx:VR G μ x a) (hy:VR G μ y b):eqPtr H a b=some r:=by
 unfold eqPV at hv
 split at hv<;>try (cases hv;done)
 ·simp only [VR] at hx hy;subst hx;subst hy;simpa [eqPtr] using hv
 ·simp only [VR] at hx;obtain ⟨_,_,rfl⟩:=hy;subst hx;simpa [eqPtr] using hv
 ·simp only [VR] at hx hy;subst hx;subst hy;simpa [eqPtr] using hv
 ·simp only [VR] at hx;obtain ⟨_,_,_,_,_,_,_,rfl,_⟩:=hy;subst hx;simpa [eqPtr] using hv
 ·simp only [VR] at hy;obtain ⟨_,_,rfl⟩:=hx;subst hy;simpa [eqPtr] using hv
 ·simp only [VR] at hx hy;subst hx;subst hy;simpa [eqPtr] using hv
 ·simp only [VR] at hy;obtain ⟨_,_,_,_,_,_,_,rfl,_⟩:=hx;subst hy;simpa [eqPtr] using hv
 ·obtain ⟨b1,h1,rfl⟩:=hx
  obtain ⟨b2,h2,rfl⟩:=hy
  split at hv<;>try (cases hv;done)
  rename_i e
  subst e
  rw [h1] at h2;obtain rfl:=Option.some.inj h2
  simpa [eqPtr,pEq] using hv
 ·simp only [VR] at hx hy;subst hx;subst hy
  simp only [eqPtr];exact pEq_g s hv
theorem eqSV_rel {x y:VV} {a b:AV} {r:Bool} (hv:eqSV x y=some r) (hx:VR G μ x a) (hy:VR G μ y b):eqSl a b=some r:=by
 unfold eqSV at hv
 split at hv<;>try (cases hv;done)
 ·simp only [VR] at hx hy;subst hx;subst hy;simpa [eqSl] using hv
 ·simp only [VR] at hx;obtain ⟨_,_,rfl⟩:=hy;subst hx;simpa [eqSl] using hv
 ·simp only [VR] at hy;obtain ⟨_,_,rfl⟩:=hx;subst hy;simpa [eqSl] using hv
 ·simp only [VR] at hx
  obtain ⟨_,⟨q,_⟩ | ⟨_,_,_,_,_,_,_,_,rfl,_⟩⟩:=hy
  ·omega
  ·subst hx;simpa [eqSl] using hv
 ·simp only [VR] at hy
  obtain ⟨_,⟨q,_⟩ | ⟨_,_,_,_,_,_,_,_,rfl,_⟩⟩:=hx
  ·omega
  ·subst hy;simpa [eqSl] using hv
theorem eqMV_rel {x y:VV} {a b:AV} {r:Bool} (hv:eqMV x y=some r) (hx:VR G μ x a) (hy:VR G μ y b):eqMap a b=some r:=by
 unfold eqMV at hv
 split at hv<;>try (cases hv;done)
 ·simp only [VR] at hx hy;subst hx;subst hy;simpa [eqMap] using hv
 ·simp only [VR] at hx;obtain ⟨_,_,rfl⟩:=hy;subst hx;simpa [eqMap] using hv
 ·simp only [VR] at hy;obtain ⟨_,_,rfl⟩:=hx;subst hy;simpa [eqMap] using hv
 ·simp only [VR] at hx;obtain ⟨_,_,_,_,_,rfl,_⟩:=hy;subst hx;simpa [eqMap] using hv
 ·simp only [VR] at hy;obtain ⟨_,_,_,_,_,rfl,_⟩:=hx;subst hy;simpa [eqMap] using hv
theorem eqFV_rel {x y:VV} {a b:AV} {r:Bool} (hv:eqFV x y=some r) (hx:VR G μ x a) (hy:VR G μ y b):eqFn a b=some r:=by
 unfold eqFV at hv
 split at hv<;>try (cases hv;done)
 ·simp only [VR] at hx hy;subst hx;subst hy;simpa [eqFn] using hv
 ·simp only [VR] at hx;obtain ⟨_,_,rfl,_⟩:=hy;subst hx;simpa [eqFn] using hv
 ·simp only [VR] at hy;obtain ⟨_,_,rfl,_⟩:=hx;subst hy;simpa [eqFn] using hv
theorem eqIV_rel (s:SR Gl G μ h H) {dyn:List Nat} {lit:Bool} {x y:VV} {a b:AV} {r:Bool} (hv:eqIV Gl dyn lit x y=some r) (hx:VR G μ x a) (hy:VR G μ y b):eqIf H dyn lit a b=some r:=by
 unfold eqIV at hv
 split at hv<;>try (cases hv;done)
 ·simp only [VR] at hx hy;subst hx;subst hy;simpa [eqIf] using hv
 ·simp only [VR] at hx;obtain ⟨_,rfl,_⟩:=hy;subst hx;simpa [eqIf] using hv
 ·simp only [VR] at hy;obtain ⟨_,rfl,_⟩:=hx;subst hy;simpa [eqIf] using hv
 ·obtain ⟨c,rfl,hc⟩:=hx
  obtain ⟨d,rfl,hd⟩:=hy
  simp only [eqIf]
  split at hv
  ·rename_i e
   rw [if_pos e]
   split at hv<;>try (cases hv;done)
   rename_i e2
   rw [if_pos e2]
   split at hv<;>try (cases hv;done)
   simp only [VR] at hc hd;subst hc;subst hd
   exact pEq_g s hv
  ·rename_i e
   rw [if_neg e];exact hv
mutual
theorem aeq_rel (s:SR Gl G μ h H):∀ (e:EqT) (x y:VV) (a b:AV) (r:Bool),aeqV Gl e x y=some r→VR G μ x a→VR G μ y b→aeq H e a b=some r
 | .bool,x,y,a,b,r,hv,hx,hy=>by simp only [aeqV] at hv;simp only [aeq];exact eqScal_rel hv hx hy
 | .int,x,y,a,b,r,hv,hx,hy=>by simp only [aeqV] at hv;simp only [aeq];exact eqScal_rel hv hx hy
 | .str,x,y,a,b,r,hv,hx,hy=>by simp only [aeqV] at hv;simp only [aeq];exact eqScal_rel hv hx hy
 | .ptr,x,y,a,b,r,hv,hx,hy=>by simp only [aeqV] at hv;simp only [aeq];exact eqPV_rel s hv hx hy
 | .nilS,x,y,a,b,r,hv,hx,hy=>by simp only [aeqV] at hv;simp only [aeq];exact eqSV_rel hv hx hy
 | .nilM,x,y,a,b,r,hv,hx,hy=>by simp only [aeqV] at hv;simp only [aeq];exact eqMV_rel hv hx hy
 | .nilF,x,y,a,b,r,hv,hx,hy=>by simp only [aeqV] at hv;simp only [aeq];exact eqFV_rel hv hx hy
 | .iface dyn lit,x,y,a,b,r,hv,hx,hy=>by simp only [aeqV] at hv;simp only [aeq];exact eqIV_rel s hv hx hy
 | .agg ps,x,y,a,b,r,hv,hx,hy=>by
  simp only [aeqV] at hv
  split at hv<;>try (cases hv;done)
  obtain ⟨c,rfl,hc⟩:=hx
  obtain ⟨d,rfl,hd⟩:=hy
  simp only [aeq]
  exact aeqs_rel s ps _ _ _ _ r hv hc hd
theorem aeqs_rel (s:SR Gl G μ h H):∀ (ps:List (Nat × Option Nat × EqT)) (x y:List VV) (a b:List AV) (r:Bool),aeqVs Gl ps x y=some r→VRs G μ x a→VRs G μ y b→aeqAll H ps a b=some r
 | [],x,y,a,b,r,hv,hx,hy=>by simpa [aeqVs,aeqAll] using hv
 | (off,sz,e)::ps,x,y,a,b,r,hv,hx,hy=>by
  simp only [aeqVs] at hv
  split at hv<;>try (cases hv;done)
  rename_i u v hu hw
  obtain ⟨c,h1,h2⟩:=part_rel hx hu
  obtain ⟨d,h3,h4⟩:=part_rel hy hw
  simp only [aeqAll,h1,h3]
  split at hv<;>try (cases hv;done)
  ·rename_i hq
   simp only [aeq_rel s e _ _ _ _ _ hq h2 h4]
   exact aeqs_rel s ps x y a b r hv hx hy
  ·rename_i hq
   simp only [aeq_rel s e _ _ _ _ _ hq h2 h4]
   exact hv
end
theorem eqRV_rel (s:SR Gl G μ h H) {neg:Bool} {e:EqT} {vs:List VV} {as:List AV} {v:VV} (hv:eqRV Gl neg e vs=some v) (kk:VRs G μ vs as):∃ a,rop (.eq neg e) as H=some a∧VR G μ v a:=by
 unfold eqRV at hv
 split at hv<;>try (cases hv;done)
 obtain ⟨a,b,rfl,h1,h2⟩:=VRs.two kk
 split at hv<;>try (cases hv;done)
 rename_i r hr
 obtain rfl:=Option.some.inj hv
 exact ⟨_,by simp only [rop,aeq_rel s e _ _ _ _ _ hr h1 h2],rfl⟩
theorem isKey_rel {ks:Bool} {x:VV} {a:AV} (hv:isKeyV ks x=true) (hx:VR G μ x a):isKey ks a=true:=by
 unfold isKeyV at hv
 split at hv<;>try (cases hv;done)
 all_goals (simp only [VR] at hx;subst hx;exact hv)
theorem keyEq_rel {x y:VV} {a b:AV} {r:Bool} (hv:keyEqV x y=some r) (hx:VR G μ x a) (hy:VR G μ y b):keyEq a b=some r:=by
 unfold keyEqV at hv
 split at hv<;>try (cases hv;done)
 all_goals (simp only [VR] at hx hy;subst hx;subst hy;simpa [keyEq] using hv)
def MapR (G:Gz) (μ:Pm) (ks vs:List VV) (es:List (AV × AV)):Prop:=VRs G μ ks (es.map (·.1))∧VRs G μ vs (es.map (·.2))
theorem find_rel {key:VV} {ka:AV} (hk:VR G μ key ka):∀ {ks vs:List VV} {es:List (AV × AV)} {r:Option VV},findV key ks vs=some r→MapR G μ ks vs es →
  (r=none∧mapFind ka es=some none)∨∃ v a,r=some v∧mapFind ka es=some (some a)∧VR G μ v a
 | [],[],es,r,hv,⟨h1,h2⟩=>by
  simp only [findV,Option.some.injEq] at hv;subst hv
  simp only [VRs] at h1
  obtain rfl:=List.map_eq_nil_iff.1 h1
  exact .inl ⟨rfl,rfl⟩
 | k::ks,v::vs,[],r,hv,⟨h1,h2⟩=>by obtain ⟨_,_,e,_⟩:=h1;cases e
 | k::ks,v::vs,(ek,ev)::es,r,hv,⟨h1,h2⟩=>by
  obtain ⟨_,_,e,p1,p2⟩:=h1
  obtain ⟨_,_,e',q1,q2⟩:=h2
  simp only [List.map_cons,List.cons.injEq] at e e'
  obtain ⟨rfl,rfl⟩:=e
  obtain ⟨rfl,rfl⟩:=e'
  simp only [findV] at hv
  split at hv<;>try (cases hv;done)
  ·rename_i hq
   obtain rfl:=Option.some.inj hv
   exact .inr ⟨v,ev,rfl,by simp only [mapFind,keyEq_rel hq hk p1],q1⟩
  ·rename_i hq
   simp only [mapFind,keyEq_rel hq hk p1]
   exact find_rel hk hv ⟨p2,q2⟩
 | [],v::vs,es,r,hv,_=>by simp [findV] at hv
 | k::ks,[],es,r,hv,_=>by simp [findV] at hv
theorem mapOf_rel (s:SR Gl G μ h H) {m:VV} {a:AV} {l r:List VV} (hm:mapOf h m=some (l,r)) (hx:VR G μ m a) :
  (a = .map none∧l=[]∧r=[])∨∃ b es,a = .map (some b)∧H.get b=some (.map es)∧MapR G μ l r es:=by
 unfold mapOf at hm
 split at hm<;>try (cases hm;done)
 ·simp only [VR] at hx
  simp only [Option.some.injEq,Prod.mk.injEq] at hm
  exact .inl ⟨hx,hm.1.symm,hm.2.symm⟩
 ·split at hm<;>try (cases hm;done)
  rename_i hg
  simp only [Option.some.injEq,Prod.mk.injEq] at hm
  obtain ⟨rfl,rfl⟩:=hm
  obtain ⟨b,hb,rfl⟩:=hx
  obtain ⟨b',y,h1,h2,⟨es,as,bs,rfl,rfl,rfl,h3,h4,_⟩,_⟩:=s.blk _ _ hg
  rw [hb] at h1;obtain rfl:=Option.some.inj h1
  exact .inr ⟨b,es,rfl,h2,h3,h4⟩
 ·simp only [Option.some.injEq,Prod.mk.injEq] at hm
  obtain ⟨rfl,rfl⟩:=hm
  obtain ⟨b,es,as,bs,h1,rfl,rfl,rfl,h3,h4⟩:=hx
  exact .inr ⟨b,es,rfl,(s.w.at_ _ _ h1).1,VRs.mono (Gz.le_refl _) (noP_le _) _ _ h3,VRs.mono (Gz.le_refl _) (noP_le _) _ _ h4⟩
theorem lookup_rel (s:SR Gl G μ h H) {ks ok:Bool} {zero:AV} {vs:List VV} {as:List AV} {v:VV} (hv:lookupV h ks ok zero vs=some v) (kk:VRs G μ vs as):∃ a,rop (.lookup ks ok zero) as H=some a∧VR G μ v a:=by
 unfold lookupV at hv
 split at hv<;>try (cases hv;done)
 obtain ⟨a,b,rfl,h1,h2⟩:=VRs.two kk
 split at hv<;>try (cases hv;done)
 rename_i hkey
 split at hv<;>try (cases hv;done)
 rename_i l r z hm hz
 have hzr:VR G μ z zero:=cv_rel _ _ hz
 have hk:=isKey_rel hkey h2
 have zr:VR G μ (if ok=true then VV.tuple [z,.bool false] else z) (if ok=true then AV.tuple [zero,.bool false] else zero):=by
  cases ok
  ·exact hzr
  ·exact ⟨_,rfl,VRs.cons hzr (VRs.cons rfl VRs.nil)⟩
 rcases mapOf_rel s hm h1 with ⟨rfl,rfl,rfl⟩ | ⟨bl,es,rfl,hb,hM⟩
 ·simp only [findV] at hv
  obtain rfl:=Option.some.inj hv
  exact ⟨_,by simp only [rop,if_pos hk],zr⟩
 ·split at hv<;>try (cases hv;done)
  ·rename_i w hf
   obtain rfl:=Option.some.inj hv
   rcases find_rel h2 hf hM with ⟨e,_⟩ | ⟨u,a',e,hq,hr⟩
   ·cases e
   ·obtain rfl:=Option.some.inj e
    refine ⟨if ok=true then .tuple [a',.bool true] else a',by simp only [rop,if_pos hk,hb,hq],?_⟩
    cases ok
    ·exact hr
    ·exact ⟨_,rfl,VRs.cons hr (VRs.cons rfl VRs.nil)⟩
  ·rename_i hf
   obtain rfl:=Option.some.inj hv
   rcases find_rel h2 hf hM with ⟨_,hq⟩ | ⟨u,a',e,_⟩
   ·exact ⟨if ok=true then .tuple [zero,.bool false] else zero,by simp only [rop,if_pos hk,hb,hq],zr⟩
   ·cases e
theorem lenMap_rel (s:SR Gl G μ h H) {vs:List VV} {as:List AV} {v:VV} (hv:lenMapV h vs=some v) (kk:VRs G μ vs as):∃ a,rop .lenMap as H=some a∧VR G μ v a:=by
 unfold lenMapV at hv
 split at hv<;>try (cases hv;done)
 obtain ⟨a,rfl,h1⟩:=VRs.one kk
 split at hv<;>try (cases hv;done)
 rename_i l r hm
 obtain rfl:=Option.some.inj hv
 rcases mapOf_rel s hm h1 with ⟨rfl,rfl,rfl⟩ | ⟨bl,es,rfl,hb,hM⟩
 ·exact ⟨_,rfl,rfl⟩
 ·have:=VRs.length hM.1
  simp only [List.length_map] at this
  exact ⟨.int .i64 es.length,by simp only [rop,hb],by rw [this];rfl⟩
theorem win_rel (s:SR Gl G μ h H) {i o n b:Nat} {cs:List VV} (hw:winV h i o n=some cs) (hb:μ i=some b):∃ as,cellsAt H (b,o) n=some as∧VRs G μ cs as∧cs.length=n:=by
 unfold winV at hw
 split at hw<;>try (cases hw;done)
 rename_i full ro hg
 split at hw<;>try (cases hw;done)
 rename_i hle
 obtain rfl:=Option.some.inj hw
 obtain ⟨b',y,h1,h2,⟨as,rw,st,rfl,h3,_⟩,_⟩:=s.blk _ _ hg
 rw [hb] at h1;obtain rfl:=Option.some.inj h1
 refine ⟨(as.drop o).take n,?_,VRs.take _ (VRs.drop _ h3),by simp;omega⟩
 simp only [cellsAt,h2]
 rw [if_pos (by rw [VRs.length h3];exact hle)]
theorem bytes_rel:∀ {cs:List VV} {as:List AV} {l:List UInt8},bytesV cs=some l→VRs G μ cs as→bytesOf as=some l
 | [],as,l,hv,h=>by simp only [VRs] at h;subst h;simpa [bytesV,bytesOf] using hv
 | c::cs,as,l,hv,⟨y,ys,e,h1,h2⟩=>by
  subst e
  unfold bytesV at hv
  split at hv<;>simp_all
  rename_i n r e1
  obtain ⟨rfl,rfl⟩:=e1
  simp only [VR] at h1;subst h1
  split at hv<;>try (cases hv;done)
  rename_i l' hl
  simp only [bytesOf,bytes_rel hl h2]
  exact hv
theorem b2s_rel (s:SR Gl G μ h H) {vs:List VV} {as:List AV} {v:VV} (hv:b2sV h vs=some v) (kk:VRs G μ vs as):∃ a,rop .b2s as H=some a∧VR G μ v a:=by
 unfold b2sV at hv
 split at hv<;>try (cases hv;done)
 ·obtain ⟨a,rfl,h1⟩:=VRs.one kk
  simp only [VR] at h1;subst h1
  obtain rfl:=Option.some.inj hv
  exact ⟨_,rfl,rfl⟩
 ·obtain ⟨a,rfl,b,hb,rfl⟩:=VRs.one kk
  split at hv<;>try (cases hv;done)
  rename_i cs hw
  split at hv<;>try (cases hv;done)
  rename_i l hl
  obtain rfl:=Option.some.inj hv
  obtain ⟨as,h1,h2,_⟩:=win_rel s hw hb
  exact ⟨.str l,by simp only [rop,h1,bytes_rel hl h2],rfl⟩
 ·rename_i cs n e
  obtain ⟨a,rfl,h0,k1⟩:=VRs.one kk
  split at hv<;>try (cases hv;done)
  rename_i he
  subst he
  split at hv<;>try (cases hv;done)
  rename_i l hl
  obtain rfl:=Option.some.inj hv
  rcases k1 with ⟨h1,rfl⟩ | ⟨b,o,c,full,rw,st,as,h1,rfl,h3,h4,h5,h6⟩
  ·subst h1
   have:cs=[]:=List.eq_nil_of_length_eq_zero (by simpa using h0)
   subst this
   simp only [bytesV,Option.some.injEq] at hl;subst hl
   exact ⟨_,rfl,rfl⟩
  ·subst h4
   rw [Nat.mul_one] at h5 h6
   refine ⟨.str l,?_,rfl⟩
   simp only [rop,cellsAt,(s.w.at_ _ _ h1).1]
   rw [if_pos h5]
   simp only [bytes_rel hl h6]
theorem rop_rel (s:SR Gl G μ h H) {q:ROp} {vs:List VV} {as:List AV} {v:VV} (hv:ropV Gl h q vs=some v) (kk:VRs G μ vs as):∃ a,rop q as H=some a∧VR G μ v a:=by
 cases q<;>simp only [ropV] at hv
 ·exact load_rel s hv kk
 ·exact eqRV_rel s hv kk
 ·exact lookup_rel s hv kk
 ·exact lenMap_rel s hv kk
 ·exact b2s_rel s hv kk
end
end
end Go.VL
