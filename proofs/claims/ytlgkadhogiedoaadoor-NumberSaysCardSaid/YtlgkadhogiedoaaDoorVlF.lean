/- Contracts, calls, closing. -/
import Derived.Test.YtlgkadhogiedoaaDoorVlE
set_option linter.unusedSimpArgs false
set_option linter.unusedVariables false
namespace Go.VL
open Go.FR
noncomputable section
abbrev Env:=Nat→Option AFunc
def CallsV (E:Env) (Gl:qzh) (f:Nat) (args:List VV) (h:VH) (Q:VV→VH→Prop):Prop :=
 ∀ ⦃G:Gz⦄ ⦃μ:Pm⦄ ⦃H:Heap⦄ ⦃as:List AV⦄,SR Gl G μ h H→VRs G μ args as →
  ∃ N a H' G' μ' v h',(∀ M,N≤M→callN E M f as H=some (a,H'))∧SR Gl G' μ' h' H'∧Pr H.next G μ h H G' μ' h' H'∧VR G' μ' v a∧Q v h'
def qzg (E:Env) (Gl:qzh) (f:Nat) (args:List VV) (v:VV):Prop :=
 ∀ ⦃G:Gz⦄ ⦃H:Heap⦄ ⦃as:List AV⦄,GW Gl G H→VRs G noP args as →
  ∃ N a H' G',(∀ M,N≤M→callN E M f as H=some (a,H'))∧GW Gl G' H'∧G.le G'∧VR G' noP v a∧H.next≤H'.next∧(∀ b,b < H.next→H'.get b=H.get b)∧(∀ b x,G' b=some x→G b=some x∨H.next≤b)
def PureOwn (E:Env) (Gl:qzh) (f:Nat) (args:List VV) (cs:List VV) (o n e:Nat) (c:ACap):Prop :=
 ∀ ⦃G:Gz⦄ ⦃H:Heap⦄ ⦃as:List AV⦄,GW Gl G H→VRs G noP args as →
  ∃ N b st bs H' G',(∀ M,N≤M→callN E M f as H=some (.slice (some (b,o)) n c,H'))∧GW Gl G' H'∧G.le G'∧H'.get b=some (.cells bs true st)∧VRs G' noP cs bs∧G' b=none∧H.next≤b∧b < H'.next ∧
   H.next≤H'.next∧(∀ b,b < H.next→H'.get b=H.get b)∧(∀ b x,G' b=some x→G b=some x∨H.next≤b)
theorem mono_le {G:Gz} {μ:Pm} {x:VV} {a:AV} (h:VR G noP x a):VR G μ x a:=VR.mono (Gz.le_refl _) (noP_le _) _ _ h
theorem fix_rel {Gl:qzh} {μ:Pm} {H:Heap}:∀ (l:List Nat) {G:Gz} {h:VH},SR Gl G μ h H→(∀ i∈l,∃ x,h.get i=some x∧VB.shutB x=true) →
  ∃ G1,SR Gl G1 μ (h.fix l) H∧(∀ n,Pr n G μ h H G1 μ (h.fix l) H)∧∀ i∈l,∃ x y b,h.get i=some x∧μ i=some b∧G1 b=some y∧BlkR G μ x y
 | [],G,h,s,_=>⟨G,s,fun n=>Pr.refl _ _ _ _ _,fun i hi=>by cases hi⟩
 | i::l,G,h,s,hl=>by
  obtain ⟨x,hx,hc⟩:=hl i (List.mem_cons_self ..)
  obtain ⟨G1,y,b,h1,h2,h3,h4,s1,p1⟩:=fix1_rel s hx hc
  have hl1:∀ j∈l,∃ z,(h.set i x.fix).get j=some z∧VB.shutB z=true:=fun j hj=>by
   rw [get_set]
   by_cases e:j=i
   ·rw [if_pos e]
    refine ⟨_,rfl,?_⟩
    cases x<;>exact hc
   ·rw [if_neg e];exact hl j (List.mem_cons_of_mem _ hj)
  obtain ⟨G2,s2,p2,q2⟩:=fix_rel l s1 hl1
  have hf:h.fix (i::l)=(h.set i x.fix).fix l:=by simp only [VH.fix,hx]
  rw [hf]
  refine ⟨G2,s2,fun n=>(p1 n).trans (p2 n) (Nat.le_refl _),fun j hj => ?_⟩
  by_cases e:j=i
  ·subst e
   exact ⟨x,y,b,hx,h1,(p2 0).g _ _ h2,h4⟩
  ·have hj':j∈l:=by
    rcases List.mem_cons.1 hj with q | q
    ·exact (e q).elim
    ·exact q
   obtain ⟨z,w,c,k1,k2,k3,k4⟩:=q2 j hj'
   rw [get_set,if_neg e] at k1
   obtain ⟨c',w',m1,m2,m3,_⟩:=s.blk j z k1
   rw [k2] at m1;obtain rfl:=Option.some.inj m1
   have:=(s2.w.at_ _ _ k3).1
   rw [m2] at this;obtain rfl:=Option.some.inj this
   exact ⟨z,w',c,k1,k2,k3,m3⟩
mutual
theorem shut_ids {h:VH}:∀ (v:VV) {w:VV},shut h v=some w→∀ i∈idsV v,∃ x,h.get i=some x∧VB.shutB x=true
 | .ptr i o,w,hv,j,hj=>by
  simp only [idsV,List.mem_singleton] at hj;subst hj
  simp only [shut] at hv
  split at hv<;>try (cases hv;done)
  rename_i cs ro hg
  split at hv<;>try (cases hv;done)
  rename_i hc
  exact ⟨_,hg,hc⟩
 | .slice i o n e c,w,hv,j,hj=>by
  simp only [idsV,List.mem_singleton] at hj;subst hj
  simp only [shut] at hv
  split at hv<;>try (cases hv;done)
  rename_i cs ro hg
  split at hv<;>try (cases hv;done)
  rename_i hc
  exact ⟨_,hg,hc.1⟩
 | .map i,w,hv,j,hj=>by
  simp only [idsV,List.mem_singleton] at hj;subst hj
  simp only [shut] at hv
  split at hv<;>try (cases hv;done)
  rename_i ks vs ro hg
  split at hv<;>try (cases hv;done)
  rename_i hc
  exact ⟨_,hg,by simp only [VB.shutB,hc.1,hc.2];rfl⟩
 | .func f a b,w,hv,j,hj=>by
  simp only [shut] at hv
  split at hv<;>try (cases hv;done)
  rename_i x y hx hy
  simp only [idsV,List.mem_append] at hj
  rcases hj with hj | hj
  ·exact shuts_ids a hx j hj
  ·exact shuts_ids b hy j hj
 | .iface t v,w,hv,j,hj=>by
  simp only [shut] at hv
  split at hv<;>try (cases hv;done)
  rename_i x hx
  exact shut_ids v hx j hj
 | .agg cs,w,hv,j,hj=>by
  simp only [shut] at hv
  split at hv<;>try (cases hv;done)
  rename_i x hx
  exact shuts_ids cs hx j hj
 | .tuple cs,w,hv,j,hj=>by
  simp only [shut] at hv
  split at hv<;>try (cases hv;done)
  rename_i x hx
  exact shuts_ids cs hx j hj
 | .bool _,_,_,j,hj=>by simp [idsV] at hj
 | .int _ _,_,_,j,hj=>by simp [idsV] at hj
 | .str _,_,_,j,hj=>by simp [idsV] at hj
 | .nilP,_,_,j,hj=>by simp [idsV] at hj
 | .gptr _ _,_,_,j,hj=>by simp [idsV] at hj
 | .fptr _ _,_,_,j,hj=>by simp [idsV] at hj
 | .nilS,_,_,j,hj=>by simp [idsV] at hj
 | .fsl _ _ _,_,_,j,hj=>by simp [idsV] at hj
 | .nilM,_,_,j,hj=>by simp [idsV] at hj
 | .fmap _ _,_,_,j,hj=>by simp [idsV] at hj
 | .nilF,_,_,j,hj=>by simp [idsV] at hj
 | .nilI,_,_,j,hj=>by simp [idsV] at hj
theorem shuts_ids {h:VH}:∀ (v:List VV) {w:List VV},shutL h v=some w→∀ i∈idsL v,∃ x,h.get i=some x∧VB.shutB x=true
 | [],_,_,j,hj=>by simp [idsL] at hj
 | v::l,w,hv,j,hj=>by
  simp only [shutL] at hv
  split at hv<;>try (cases hv;done)
  rename_i x hx
  split at hv<;>try (cases hv;done)
  rename_i y hy
  simp only [idsL,List.mem_append] at hj
  rcases hj with hj | hj
  ·exact shut_ids v hx j hj
  ·exact shuts_ids l hy j hj
end
section
variable {G K:Gz} {μ:Pm} {h:VH} {H:Heap}
def Fixed (G K:Gz) (μ:Pm) (h:VH) (l:List Nat):Prop:=∀ i∈l,∃ x y b,h.get i=some x∧μ i=some b∧K b=some y∧BlkR G μ x y
mutual
theorem shut_rel (le:G.le K):∀ (v:VV) {w:VV} {a:AV},shut h v=some w→Fixed G K μ h (idsV v)→VR G μ v a→VR K noP w a
 | .ptr i o,w,a,hv,hf,k=>by
  obtain ⟨x,y,b,f1,f2,f3,f4⟩:=hf i (by simp [idsV])
  obtain ⟨b',hb,rfl⟩:=k
  rw [f2] at hb;obtain rfl:=Option.some.inj hb
  simp only [shut] at hv
  split at hv<;>try (cases hv;done)
  rename_i cs ro hg
  rw [f1] at hg;obtain rfl:=Option.some.inj hg
  split at hv<;>try (cases hv;done)
  rename_i hc
  obtain rfl:=Option.some.inj hv
  obtain ⟨as,rw,st,rfl,h3,_⟩:=f4
  have hl:=VRs.length h3
  refine ⟨b,0,as,rw,st,as,f3,by simp,?_,by omega,VRs.mono le (Pm.le_refl _) _ _ (VRs.closed noP _ _ hc h3)⟩
  rw [←hl];simp
 | .slice i o n e c,w,a,hv,hf,k=>by
  obtain ⟨x,y,b,f1,f2,f3,f4⟩:=hf i (by simp [idsV])
  obtain ⟨b',hb,rfl⟩:=k
  rw [f2] at hb;obtain rfl:=Option.some.inj hb
  simp only [shut] at hv
  split at hv<;>try (cases hv;done)
  rename_i cs ro hg
  rw [f1] at hg;obtain rfl:=Option.some.inj hg
  split at hv<;>try (cases hv;done)
  rename_i hc
  obtain rfl:=Option.some.inj hv
  obtain ⟨as,rw,st,rfl,h3,_⟩:=f4
  have hl:=VRs.length h3
  refine ⟨by simp;omega,.inr ⟨b,o,c,as,rw,st,_,f3,rfl,hc.2.2,rfl,by omega,VRs.take _ (VRs.drop _ (VRs.mono le (Pm.le_refl _) _ _ (VRs.closed noP _ _ hc.1 h3)))⟩⟩
 | .map i,w,a,hv,hf,k=>by
  obtain ⟨x,y,b,f1,f2,f3,f4⟩:=hf i (by simp [idsV])
  obtain ⟨b',hb,rfl⟩:=k
  rw [f2] at hb;obtain rfl:=Option.some.inj hb
  simp only [shut] at hv
  split at hv<;>try (cases hv;done)
  rename_i ks vs ro hg
  rw [f1] at hg;obtain rfl:=Option.some.inj hg
  split at hv<;>try (cases hv;done)
  rename_i hc
  obtain rfl:=Option.some.inj hv
  obtain ⟨es,as,bs,rfl,rfl,rfl,h3,h4,_⟩:=f4
  exact ⟨b,es,_,_,f3,rfl,rfl,rfl,VRs.mono le (Pm.le_refl _) _ _ (VRs.closed noP _ _ hc.1 h3),VRs.mono le (Pm.le_refl _) _ _ (VRs.closed noP _ _ hc.2 h4)⟩
 | .func f x y,w,a,hv,hf,⟨p,q,e,k1,k2⟩=>by
  simp only [shut] at hv
  split at hv<;>try (cases hv;done)
  rename_i u v hu hw
  obtain rfl:=Option.some.inj hv
  exact ⟨p,q,e,shuts_rel le x hu (fun i hi=>hf i (by simp [idsV,hi])) k1,shuts_rel le y hw (fun i hi=>hf i (by simp [idsV,hi])) k2⟩
 | .iface t v,w,a,hv,hf,⟨y,e,k⟩=>by
  simp only [shut] at hv
  split at hv<;>try (cases hv;done)
  rename_i x hx
  obtain rfl:=Option.some.inj hv
  exact ⟨y,e,shut_rel le v hx hf k⟩
 | .agg cs,w,a,hv,hf,⟨y,e,k⟩=>by
  simp only [shut] at hv
  split at hv<;>try (cases hv;done)
  rename_i x hx
  obtain rfl:=Option.some.inj hv
  exact ⟨y,e,shuts_rel le cs hx hf k⟩
 | .tuple cs,w,a,hv,hf,⟨y,e,k⟩=>by
  simp only [shut] at hv
  split at hv<;>try (cases hv;done)
  rename_i x hx
  obtain rfl:=Option.some.inj hv
  exact ⟨y,e,shuts_rel le cs hx hf k⟩
 | .bool b,w,a,hv,hf,k=>by simp only [shut,Option.some.injEq] at hv;subst hv;exact k
 | .int _ n,w,a,hv,hf,k=>by simp only [shut,Option.some.injEq] at hv;subst hv;exact k
 | .str s,w,a,hv,hf,k=>by simp only [shut,Option.some.injEq] at hv;subst hv;exact k
 | .nilP,w,a,hv,hf,k=>by simp only [shut,Option.some.injEq] at hv;subst hv;exact k
 | .gptr _ _,w,a,hv,hf,k=>by simp only [shut,Option.some.injEq] at hv;subst hv;exact k
 | .fptr cs o,w,a,hv,hf,k=>by simp only [shut,Option.some.injEq] at hv;subst hv;exact VR.closed _ _ _ rfl (VR.mono le (Pm.le_refl μ) _ _ k)
 | .nilS,w,a,hv,hf,k=>by simp only [shut,Option.some.injEq] at hv;subst hv;exact k
 | .fsl _ _ _,w,a,hv,hf,k=>by simp only [shut,Option.some.injEq] at hv;subst hv;exact VR.closed _ _ _ rfl (VR.mono le (Pm.le_refl μ) _ _ k)
 | .nilM,w,a,hv,hf,k=>by simp only [shut,Option.some.injEq] at hv;subst hv;exact k
 | .fmap _ _,w,a,hv,hf,k=>by simp only [shut,Option.some.injEq] at hv;subst hv;exact VR.closed _ _ _ rfl (VR.mono le (Pm.le_refl μ) _ _ k)
 | .nilF,w,a,hv,hf,k=>by simp only [shut,Option.some.injEq] at hv;subst hv;exact k
 | .nilI,w,a,hv,hf,k=>by simp only [shut,Option.some.injEq] at hv;subst hv;exact k
theorem shuts_rel (le:G.le K):∀ (v:List VV) {w:List VV} {a:List AV},shutL h v=some w→Fixed G K μ h (idsL v)→VRs G μ v a→VRs K noP w a
 | [],w,a,hv,hf,k=>by simp only [shutL,Option.some.injEq] at hv;subst hv;exact k
 | v::l,w,a,hv,hf,⟨y,ys,e,k1,k2⟩=>by
  simp only [shutL] at hv
  split at hv<;>try (cases hv;done)
  rename_i x hx
  split at hv<;>try (cases hv;done)
  rename_i z hz
  obtain rfl:=Option.some.inj hv
  subst e
  exact VRs.cons (shut_rel le v hx (fun i hi=>hf i (by simp [idsL,hi])) k1) (shuts_rel le l hz (fun i hi=>hf i (by simp [idsL,hi])) k2)
end
mutual
theorem sub_rel:∀ (x:VV) {μ:Pm} {y:VV} {a:AV},subV x y→VR G μ x a→VR G μ y a
 | .nilS,μ,y,a,hs,k=>by
  rcases hs with rfl | ⟨e,rfl⟩
  ·exact k
  ·exact ⟨by simp,.inl ⟨rfl,k⟩⟩
 | .agg cs,μ,y,a,⟨b,e,hs⟩,⟨l,e',k⟩=>by subst e;exact ⟨l,e',subs_rel cs hs k⟩
 | .tuple cs,μ,y,a,⟨b,e,hs⟩,⟨l,e',k⟩=>by subst e;exact ⟨l,e',subs_rel cs hs k⟩
 | .iface t x,μ,y,a,⟨z,e,hs⟩,⟨l,e',k⟩=>by subst e;exact ⟨l,e',sub_rel x hs k⟩
 | .fptr cs o,μ,y,a,⟨ds,e,hs⟩,⟨b,p,full,rw,st,as,h1,h2,h3,h4,h5⟩=>by
  subst e
  have hl:=subs_len cs hs
  exact ⟨b,p,full,rw,st,as,h1,h2,by rw [hl];exact h3,by rw [hl];exact h4,subs_rel cs hs h5⟩
 | .fsl cs n e,μ,y,a,⟨ds,e',hs⟩,⟨h0,k⟩=>by
  subst e'
  have hl:=subs_len cs hs
  refine ⟨by rw [hl];exact h0,?_⟩
  rcases k with k | ⟨b,o,c,full,rw,st,as,h1,h2,h3,h4,h5,h6⟩
  ·exact .inl k
  ·exact .inr ⟨b,o,c,full,rw,st,as,h1,h2,h3,h4,h5,subs_rel cs hs h6⟩
 | .bool b,μ,y,a,hs,k=>by simp only [subV] at hs;subst hs;exact k
 | .int _ n,μ,y,a,hs,k=>by simp only [subV] at hs;subst hs;exact k
 | .str s,μ,y,a,hs,k=>by simp only [subV] at hs;subst hs;exact k
 | .nilP,μ,y,a,hs,k=>by simp only [subV] at hs;subst hs;exact k
 | .ptr i o,μ,y,a,hs,k=>by simp only [subV] at hs;subst hs;exact k
 | .gptr i o,μ,y,a,hs,k=>by simp only [subV] at hs;subst hs;exact k
 | .slice i o n e c,μ,y,a,hs,k=>by simp only [subV] at hs;subst hs;exact k
 | .nilM,μ,y,a,hs,k=>by simp only [subV] at hs;subst hs;exact k
 | .map i,μ,y,a,hs,k=>by simp only [subV] at hs;subst hs;exact k
 | .fmap _ _,μ,y,a,hs,k=>by simp only [subV] at hs;subst hs;exact k
 | .func _ _ _,μ,y,a,hs,k=>by simp only [subV] at hs;subst hs;exact k
 | .nilF,μ,y,a,hs,k=>by simp only [subV] at hs;subst hs;exact k
 | .nilI,μ,y,a,hs,k=>by simp only [subV] at hs;subst hs;exact k
theorem subs_rel:∀ (x:List VV) {μ:Pm} {y:List VV} {a:List AV},subL x y→VRs G μ x a→VRs G μ y a
 | [],μ,y,a,hs,k=>by simp only [subL] at hs;subst hs;exact k
 | x::xs,μ,y,a,⟨z,zs,e,h1,h2⟩,⟨b,bs,e',k1,k2⟩=>by subst e;subst e';exact VRs.cons (sub_rel x h1 k1) (subs_rel xs h2 k2)
theorem subs_len:∀ (x:List VV) {y:List VV},subL x y→y.length=x.length
 | [],y,hs=>by simp only [subL] at hs;subst hs;rfl
 | x::xs,y,⟨z,zs,e,h1,h2⟩=>by subst e;simp [subs_len xs h2]
end
mutual
theorem subV_refl:∀ x:VV,subV x x
 | .nilS => .inl rfl
 | .agg cs=>⟨cs,rfl,subL_refl cs⟩
 | .tuple cs=>⟨cs,rfl,subL_refl cs⟩
 | .iface t x=>⟨x,rfl,subV_refl x⟩
 | .fptr cs o=>⟨cs,rfl,subL_refl cs⟩
 | .fsl cs n e=>⟨cs,rfl,subL_refl cs⟩
 | .bool b=>rfl
 | .int _ n=>rfl
 | .str s=>rfl
 | .nilP=>rfl
 | .ptr i o=>rfl
 | .gptr i o=>rfl
 | .slice i o n e c=>rfl
 | .nilM=>rfl
 | .map i=>rfl
 | .fmap _ _=>rfl
 | .func _ _ _=>rfl
 | .nilF=>rfl
 | .nilI=>rfl
theorem subL_refl:∀ x:List VV,subL x x
 | []=>rfl
 | x::xs=>⟨x,xs,rfl,subV_refl x,subL_refl xs⟩
end
end
theorem mapO_rel {G K:Gz} {μ:Pm} {f:VV→Option VV} (hf:∀ v w a,f v=some w→VR G μ v a→VR K noP w a):∀ {cs ds:List VV} {as:List AV},mapO f cs=some ds→VRs G μ cs as→VRs K noP ds as
 | [],ds,as,h,k=>by simp only [mapO,Option.some.injEq] at h;subst h;exact k
 | c::cs,ds,as,h,⟨y,ys,e,k1,k2⟩=>by
  simp only [mapO] at h
  split at h<;>try (cases h;done)
  rename_i x hx
  split at h<;>try (cases h;done)
  rename_i z hz
  obtain rfl:=Option.some.inj h
  subst e
  exact VRs.cons (hf _ _ _ hx k1) (mapO_rel hf hz k2)
theorem shutD_rel {Gl:qzh} {G K:Gz} {μ:Pm} {h:VH} {H:Heap} (s:SR Gl G μ h H) (le:G.le K) {g:Nat→Option VB} (hg:∀ i x,g i=some x→h.get i=some x) (hk:∀ i x b,g i=some x→μ i=some b→K b=H.get b) :
  ∀ (k:Nat) (v w:VV) (a:AV),shutD k g v=some w→VR G μ v a→VR K noP w a
 | 0,v,w,a,hv,r=>by
  simp only [shutD] at hv
  split at hv<;>try (cases hv;done)
  rename_i hc
  obtain rfl:=Option.some.inj hv
  exact VR.mono le (Pm.le_refl _) _ _ (VR.closed noP _ _ hc r)
 | k+1,v,w,a,hv,r=>by
  have ih:=shutD_rel s le hg hk k
  have ihS:∀ cs ds as,shutS (shutD k g) cs=some ds→VRs G μ cs as→VRs K noP ds as:=fun cs ds as hc q=>by
   unfold shutS at hc
   split at hc
   ·rename_i hcl
    obtain rfl:=Option.some.inj hc
    exact VRs.mono le (Pm.le_refl _) _ _ (VRs.closed noP _ _ hcl q)
   ·exact mapO_rel ih hc q
  simp only [shutD] at hv
  split at hv
  ·rename_i hc
   obtain rfl:=Option.some.inj hv
   exact VR.mono le (Pm.le_refl _) _ _ (VR.closed noP _ _ hc r)
  ·split at hv<;>try (cases hv;done)
   ·obtain ⟨b,hb,rfl⟩:=r
    split at hv<;>try (cases hv;done)
    rename_i cs ro hgi
    split at hv<;>try (cases hv;done)
    rename_i ds hd
    obtain rfl:=Option.some.inj hv
    obtain ⟨b',y,h1,h2,⟨as,rw,st,rfl,h3,_⟩,_⟩:=s.blk _ _ (hg _ _ hgi)
    rw [hb] at h1;obtain rfl:=Option.some.inj h1
    have q:=ihS _ _ _ hd h3
    have hl:=VRs.length q
    refine ⟨b,0,as,rw,st,as,by rw [hk _ _ _ hgi hb,h2],by simp,?_,by omega,q⟩
    rw [←hl];simp
   ·obtain ⟨b,hb,rfl⟩:=r
    split at hv<;>try (cases hv;done)
    rename_i cs ro hgi
    split at hv<;>try (cases hv;done)
    rename_i hc
    split at hv<;>try (cases hv;done)
    rename_i ds hd
    obtain rfl:=Option.some.inj hv
    obtain ⟨b',y,h1,h2,⟨as,rw,st,rfl,h3,_⟩,_⟩:=s.blk _ _ (hg _ _ hgi)
    rw [hb] at h1;obtain rfl:=Option.some.inj h1
    have q:=ihS _ _ _ hd (VRs.take _ (VRs.drop _ h3))
    have hl:=VRs.length q
    have hl':=VRs.length h3
    exact ⟨by rw [←hl];simp;omega,.inr ⟨b,_,_,as,rw,st,_,by rw [hk _ _ _ hgi hb,h2],rfl,hc.2,rfl,by omega,q⟩⟩
   ·obtain ⟨b,hb,rfl⟩:=r
    split at hv<;>try (cases hv;done)
    rename_i ks vs ro hgi
    split at hv<;>try (cases hv;done)
    rename_i x y hx hy
    obtain rfl:=Option.some.inj hv
    obtain ⟨b',z,h1,h2,⟨es,as,bs,rfl,rfl,rfl,h3,h4,_⟩,_⟩:=s.blk _ _ (hg _ _ hgi)
    rw [hb] at h1;obtain rfl:=Option.some.inj h1
    exact ⟨b,es,_,_,by rw [hk _ _ _ hgi hb,h2],rfl,rfl,rfl,ihS _ _ _ hx h3,ihS _ _ _ hy h4⟩
   ·obtain ⟨y,rfl,q⟩:=r
    split at hv<;>try (cases hv;done)
    rename_i z hz
    obtain rfl:=Option.some.inj hv
    exact ⟨y,rfl,ih _ _ _ hz q⟩
   ·obtain ⟨l,rfl,q⟩:=r
    split at hv<;>try (cases hv;done)
    rename_i z hz
    obtain rfl:=Option.some.inj hv
    exact ⟨l,rfl,mapO_rel ih hz q⟩
   ·obtain ⟨l,rfl,q⟩:=r
    split at hv<;>try (cases hv;done)
    rename_i z hz
    obtain rfl:=Option.some.inj hv
    exact ⟨l,rfl,mapO_rel ih hz q⟩
def mkL (L:List (Nat × VB)):List (Nat × Option VB):=L.map fun p=>(p.1,some p.2)
def VB.ids:VB→List Nat
 | .cells cs _=>idsL cs
 | .map ks vs _=>idsL ks++idsL vs
def StOk (E:Env) (Gl:qzh) (f:Nat) (args:List VV) (L:List (Nat × VB)) (v:VV) (L':List (Nat × VB)):Prop :=
 ∀ nx,(∀ p∈L,p.1 < nx)→CallsV E Gl f args ⟨mkL L,nx⟩ (fun v' h'=>v'=v∧∀ i x,qzf L' i=some x→h'.get i=some x)
def StOwn (E:Env) (Gl:qzh) (f:Nat) (args:List VV) (L:List (Nat × VB)) (cs:List VV) (o n e:Nat) (c:ACap) (L':List (Nat × VB)):Prop :=
 ∀ nx,(∀ p∈L,p.1 < nx)→CallsV E Gl f args ⟨mkL L,nx⟩ (fun v' h'=>(∃ i ds,v' = .slice i o n e c∧nx≤i∧h'.get i=some (.cells ds false)∧closedL ds=true∧subL ds cs)∧∀ i x,qzf L' i=some x→h'.get i=some x)
def above (nx:Nat) (h:VH) (i:Nat):Option VB:=if nx≤i then h.get i else none
def StShut (E:Env) (Gl:qzh) (f:Nat) (args:List VV) (L:List (Nat × VB)) (v:VV) (L':List (Nat × VB)):Prop :=
 ∀ nx,(∀ p∈L,p.1 < nx)→CallsV E Gl f args ⟨mkL L,nx⟩ (fun v' h'=>(∃ k v1,shutD k (above nx h') v'=some v1∧subV v1 v)∧∀ i x,qzf L' i=some x→h'.get i=some x)
def Cl1 (nx:Nat) (J:List Nat) (h:VH) (d c:VV):Prop:=(∃ k d1,shutD k (above nx h) d=some d1∧subV d1 c)∨(d=c∧∀ i∈idsV d,i∈J)
def ClL (nx:Nat) (J:List Nat) (h:VH):List VV→List VV→Prop
 | [],cs=>cs=[]
 | d::ds,cs=>∃ c cs',cs=c::cs'∧Cl1 nx J h d c∧ClL nx J h ds cs'
def StClo (E:Env) (Gl:qzh) (f:Nat) (args:List VV) (L:List (Nat × VB)) (v:VV) (L':List (Nat × VB)):Prop :=
 ∀ nx,(∀ p∈L,p.1 < nx)→(∀ p∈L,∀ i∈p.2.ids,i < nx)→CallsV E Gl f args ⟨mkL L,nx⟩ (fun v' h'=>(∃ k v1,shutD k (above nx h') v'=some v1∧subV v1 v)∧∀ i x,qzf L' i=some x→∃ cs ds,x = .cells cs false∧h'.get i=some (.cells ds false)∧ClL nx (L.flatMap (·.2.ids)) h' ds cs)
structure Lent (h:VH) (L L':List (Nat × VB)):Prop where
 has:∀ i x,qzf L i=some x→h.get i=some x
 once:∀ p∈L,qzf L p.1=some p.2
 keys:L'.map (·.1)=L.map (·.1)
 ids:∀ p∈L',∀ i∈p.2.ids,i∈L.map (·.1)
def VH.clo (h:VH):VH:=⟨h.l.map fun p=>(p.1,match p.2 with
 | some b=>if VB.shutB b=true then some b.fix else none
 | none=>none),h.next⟩
theorem get_clo (h:VH) (i:Nat):h.clo.get i=match h.get i with
  | some b=>if VB.shutB b=true then some b.fix else none
  | none=>none:=by
 unfold VH.get VH.clo
 simp only
 induction h.l with
 | nil=>rfl
 | cons p l ih =>
  obtain ⟨k,b⟩:=p
  simp only [List.map_cons,qzf]
  by_cases e:k=i
  ·rw [if_pos e,if_pos e];cases b<;>rfl
  ·rw [if_neg e,if_neg e];exact ih
def wpCall (E:Env) (Gl:qzh) (f:Nat) (vs:List VV) (h:VH) (K:VV→VH→Option (List Nat × Bool)→Prop):Prop :=
 (∃ a0 args v,shutL h vs=some a0∧subL a0 args∧qzg E Gl f args v∧K v (if plainB v=true then h else h.fix (idsL vs)) (some ([],plainB v))) ∨
 (∃ a0 args cs o n e c,shutL h vs=some a0∧subL a0 args∧PureOwn E Gl f args cs o n e c∧K (.slice h.next o n e c) ((if plainL cs=true then h else h.fix (idsL vs)).push (.cells cs false)) (some ([],false))) ∨
 (∃ L v L',Lent h L L'∧(∀ i∈idsV v,i∈L.map (·.1))∧StOk E Gl f vs L v L'∧K v ⟨mkL L'++h.l,h.next⟩ (some (L.map (·.1),false))) ∨
 (∃ L cs o n e c L',Lent h L L'∧StOwn E Gl f vs L cs o n e c L'∧K (.slice h.next o n e c) ⟨(h.next,some (.cells cs false))::(mkL L'++h.l),h.next+1⟩ (some (L.map (·.1),false))) ∨
 (∃ L v L',Lent h L L'∧StShut E Gl f vs L v L'∧K v ⟨mkL L'++h.l,h.next⟩ (some (L.map (·.1),false))) ∨
 (∃ n a0 args v,mapO (shutD n h.get) vs=some a0∧subL a0 args∧qzg E Gl f args v∧((plainB v=true∧K v h (some ([],true)))∨K v h.clo none)) ∨
 CallsV E Gl f vs h (fun v h'=>K v h' none) ∨
 (∃ i x l,h.get i=some x∧x.ro=false∧(∀ j,j < h.next→j ∉ l→j=i)∧CallsV E Gl f vs ⟨(i,none)::h.l,h.next⟩ (fun v h'=>K v ⟨(i,some x)::h'.l,h'.next⟩ (some (l,false)))) ∨
 (∃ L v L',(∀ i x,qzf L i=some x→h.get i=some x)∧(∀ p∈L,qzf L p.1=some p.2)∧L'.map (·.1)=L.map (·.1)∧StClo E Gl f vs L v L'∧K v ⟨mkL L'++h.l,h.next⟩ (some (L.map (·.1),false)))
theorem VH.fix_next:∀ (l:List Nat) (h:VH),(h.fix l).next=h.next
 | [],h=>rfl
 | i::l,h=>by
  simp only [VH.fix]
  split
  ·rw [VH.fix_next l];rfl
  ·exact VH.fix_next l h
theorem after_pure {Gl:qzh} {G1 G2:Gz} {μ:Pm} {h1:VH} {H H':Heap} (s1:SR Gl G1 μ h1 H) (w2:GW Gl G2 H') (le:G1.le G2) (hn:H.next≤H'.next) (hk:∀ b,b < H.next→H'.get b=H.get b) (hg:∀ b x,G2 b=some x→G1 b=some x∨H.next≤b) :
  SR Gl G2 μ h1 H'∧Pr H.next G1 μ h1 H G2 μ h1 H':=by
 refine ⟨⟨w2,fun i x q => ?_,s1.inj,fun i b q=>⟨(s1.dom i b q).1,Nat.lt_of_lt_of_le (s1.dom i b q).2 hn⟩⟩,⟨le,Pm.le_refl _,Nat.le_refl _,hn,fun b hb _=>hk b hb,fun b x q=>(hg b x q).imp_right .inl,fun _ q => .inl q,fun _ _ q => .inl q⟩⟩
 obtain ⟨b,y,p1,p2,p3,p4,p5⟩:=s1.blk i x q
 have hb:=(s1.dom _ _ p1).2
 refine ⟨b,y,p1,by rw [hk b hb];exact p2,p3.mono le (Pm.le_refl _),fun r=>le _ _ (p4 r),fun r => ?_⟩
 cases e:G2 b with
 | none=>rfl
 | some z =>
  rcases hg b z e with q' | q'
  ·rw [p5 r] at q';cases q'
  ·omega
theorem after_plain {Gl:qzh} {G:Gz} {μ:Pm} {h:VH} {H H':Heap} (s:SR Gl G μ h H) (hn:H.next≤H'.next) (hk:∀ b,b < H.next→H'.get b=H.get b) :
  SR Gl G μ h H'∧Pr H.next G μ h H G μ h H' :=
 after_pure s ⟨fun b x q=>by
  have:=s.w.at_ b x q
  exact ⟨by rw [hk b this.2];exact this.1,by omega⟩,s.w.glob⟩ (Gz.le_refl _) hn hk (fun b x q => .inl q)
mutual
theorem VR.names {G:Gz} {μ ν:Pm}:∀ (x:VV) (v:AV),(∀ i∈idsV x,∀ b,μ i=some b→ν i=some b)→VR G μ x v→VR G ν x v
 | .bool _,_,_,q=>q
 | .int _ _,_,_,q=>q
 | .str _,_,_,q=>q
 | .nilP,_,_,q=>q
 | .ptr i _,_,h,⟨b,h1,e⟩=>⟨b,h i (by simp [idsV]) b h1,e⟩
 | .gptr _ _,_,_,q=>q
 | .fptr cs o,_,_,q=>q
 | .nilS,_,_,q=>q
 | .slice i _ _ _ _,_,h,⟨b,h1,e⟩=>⟨b,h i (by simp [idsV]) b h1,e⟩
 | .fsl cs _ _,_,_,q=>q
 | .nilM,_,_,q=>q
 | .map i,_,h,⟨b,h1,e⟩=>⟨b,h i (by simp [idsV]) b h1,e⟩
 | .fmap _ _,_,_,q=>q
 | .func _ a b,_,h,⟨x,y,e,p,q⟩=>⟨x,y,e,VRs.names a _ (fun i hi=>h i (by simp [idsV,hi])) p,VRs.names b _ (fun i hi=>h i (by simp [idsV,hi])) q⟩
 | .nilF,_,_,q=>q
 | .iface _ x,_,h,⟨y,e,p⟩=>⟨y,e,VR.names x _ h p⟩
 | .nilI,_,_,q=>q
 | .agg cs,_,h,⟨l,e,p⟩=>⟨l,e,VRs.names cs _ h p⟩
 | .tuple cs,_,h,⟨l,e,p⟩=>⟨l,e,VRs.names cs _ h p⟩
theorem VRs.names {G:Gz} {μ ν:Pm}:∀ (x:List VV) (v:List AV),(∀ i∈idsL x,∀ b,μ i=some b→ν i=some b)→VRs G μ x v→VRs G ν x v
 | [],_,_,q=>q
 | x::xs,_,h,⟨y,ys,e,p,q⟩=>⟨y,ys,e,VR.names x _ (fun i hi=>h i (by simp [idsL,hi])) p,VRs.names xs _ (fun i hi=>h i (by simp [idsL,hi])) q⟩
end
theorem BlkR.names {G:Gz} {μ ν:Pm}:∀ {x:VB} {y:ABlk},(∀ i∈x.ids,∀ b,μ i=some b→ν i=some b)→BlkR G μ x y→BlkR G ν x y
 | .cells cs ro,_,h,⟨as,rw,st,e,p,k,q⟩=>⟨as,rw,st,e,VRs.names cs _ h p,k,q⟩
 | .map ks vs ro,_,h,⟨es,as,bs,e,e1,e2,p,k,q⟩=>⟨es,as,bs,e,e1,e2,VRs.names ks _ (fun i hi=>h i (by simp [VB.ids,hi])) p,VRs.names vs _ (fun i hi=>h i (by simp [VB.ids,hi])) k,q⟩
mutual
theorem VR.named {G:Gz} {μ:Pm}:∀ (x:VV) (v:AV),VR G μ x v→∀ i∈idsV x,∃ b,μ i=some b
 | .bool _,_,_,i,h=>by simp [idsV] at h
 | .int _ _,_,_,i,h=>by simp [idsV] at h
 | .str _,_,_,i,h=>by simp [idsV] at h
 | .nilP,_,_,i,h=>by simp [idsV] at h
 | .ptr j _,_,⟨b,h1,e⟩,i,h=>by simp only [idsV,List.mem_singleton] at h;subst h;exact ⟨b,h1⟩
 | .gptr _ _,_,_,i,h=>by simp [idsV] at h
 | .fptr cs o,_,_,i,h=>by simp [idsV] at h
 | .nilS,_,_,i,h=>by simp [idsV] at h
 | .slice j _ _ _ _,_,⟨b,h1,e⟩,i,h=>by simp only [idsV,List.mem_singleton] at h;subst h;exact ⟨b,h1⟩
 | .fsl cs _ _,_,_,i,h=>by simp [idsV] at h
 | .nilM,_,_,i,h=>by simp [idsV] at h
 | .map j,_,⟨b,h1,e⟩,i,h=>by simp only [idsV,List.mem_singleton] at h;subst h;exact ⟨b,h1⟩
 | .fmap _ _,_,_,i,h=>by simp [idsV] at h
 | .func _ a b,_,⟨x,y,e,p,q⟩,i,h=>by
  simp only [idsV,List.mem_append] at h
  rcases h with h | h
  ·exact VRs.named a _ p i h
  ·exact VRs.named b _ q i h
 | .nilF,_,_,i,h=>by simp [idsV] at h
 | .iface _ x,_,⟨y,e,p⟩,i,h=>VR.named x _ p i (by simpa [idsV] using h)
 | .nilI,_,_,i,h=>by simp [idsV] at h
 | .agg cs,_,⟨l,e,p⟩,i,h=>VRs.named cs _ p i (by simpa [idsV] using h)
 | .tuple cs,_,⟨l,e,p⟩,i,h=>VRs.named cs _ p i (by simpa [idsV] using h)
theorem VRs.named {G:Gz} {μ:Pm}:∀ (x:List VV) (v:List AV),VRs G μ x v→∀ i∈idsL x,∃ b,μ i=some b
 | [],_,_,i,h=>by simp [idsL] at h
 | x::xs,_,⟨y,ys,e,p,q⟩,i,h=>by
  simp only [idsL,List.mem_append] at h
  rcases h with h | h
  ·exact VR.named x _ p i h
  ·exact VRs.named xs _ q i h
end
theorem BlkR.named {G:Gz} {μ:Pm}:∀ {x:VB} {y:ABlk},BlkR G μ x y→∀ i∈x.ids,∃ b,μ i=some b
 | .cells cs ro,_,⟨as,rw,st,e,p,k,q⟩,i,h=>VRs.named cs _ p i h
 | .map ks vs ro,_,⟨es,as,bs,e,e1,e2,p,k,q⟩,i,h=>by
  simp only [VB.ids,List.mem_append] at h
  rcases h with h | h
  ·exact VRs.named ks _ p i h
  ·exact VRs.named vs _ k i h
theorem look_mkL:∀ (L:List (Nat × VB)) (i:Nat),(qzf (mkL L) i).getD none=qzf L i
 | [],i=>rfl
 | p::L,i=>by
  simp only [mkL,List.map_cons,qzf]
  by_cases e:p.1=i
  ·rw [if_pos e,if_pos e];rfl
  ·rw [if_neg e,if_neg e];exact look_mkL L i
theorem look_mem {α:Type}:∀ {L:List (Nat × α)} {i:Nat} {x:α},qzf L i=some x→i∈L.map (·.1)
 | [],i,x,h=>by simp [qzf] at h
 | p::L,i,x,h=>by
  simp only [qzf] at h
  by_cases e:p.1=i
  ·simp [e]
  ·rw [if_neg e] at h;simp only [List.map_cons,List.mem_cons];exact .inr (look_mem h)
theorem look_ex {α:Type}:∀ {L:List (Nat × α)} {i:Nat},i∈L.map (·.1)→∃ x,qzf L i=some x
 | [],i,h=>by simp at h
 | p::L,i,h=>by
  simp only [qzf]
  by_cases e:p.1=i
  ·exact ⟨p.2,by rw [if_pos e]⟩
  ·simp only [List.map_cons,List.mem_cons] at h
   rcases h with h | h
   ·exact (e h.symm).elim
   ·rw [if_neg e];exact look_ex h
theorem look_in {α:Type}:∀ {L:List (Nat × α)} {i:Nat} {x:α},qzf L i=some x→(i,x)∈L
 | [],i,x,h=>by simp [qzf] at h
 | p::L,i,x,h=>by
  simp only [qzf] at h
  by_cases e:p.1=i
  ·rw [if_pos e] at h
   obtain rfl:=Option.some.inj h
   rw [←e];exact List.mem_cons_self ..
  ·rw [if_neg e] at h;exact List.mem_cons_of_mem _ (look_in h)
theorem get_over (L:List (Nat × VB)) (h:VH) (i:Nat):(VH.mk (mkL L++h.l) h.next).get i=match qzf L i with | some x=>some x | none=>h.get i:=by
 induction L with
 | nil=>rfl
 | cons p L ih =>
  have ih':(qzf (mkL L++h.l) i).getD none=match qzf L i with | some x=>some x | none=>h.get i:=ih
  show (qzf ((p.1,some p.2)::(mkL L++h.l)) i).getD none=_
  simp only [qzf]
  by_cases e:p.1=i
  ·rw [if_pos e,if_pos e];rfl
  ·rw [if_neg e,if_neg e];exact ih'
theorem after_stateG {Gl:qzh} {G G':Gz} {μ μ':Pm} {h h':VH} {H H':Heap} {L L':List (Nat × VB)} {v:VV} {a:AV} (s:SR Gl G μ h H) (hL:∀ i x,qzf L i=some x→h.get i=some x)
  (hk:L'.map (·.1)=L.map (·.1)) (hv:∀ i∈idsV v,i∈L.map (·.1)) (hblk:∀ i x,qzf L' i=some x→∃ b y,μ i=some b∧H'.get b=some y∧BlkR G' μ x y∧(x.ro=true→G' b=some y)∧(x.ro=false→G' b=none))
  (c2:SR Gl G' μ' h' H') (c3:Pr H.next G μ ⟨mkL L,h.next⟩ H G' μ' h' H') (c4:VR G' μ' v a) (c5:∀ i x,qzf L' i=some x→h'.get i=some x) :
  SR Gl G' μ ⟨mkL L'++h.l,h.next⟩ H'∧Pr H.next G μ h H G' μ ⟨mkL L'++h.l,h.next⟩ H'∧VR G' μ v a∧Leaves G μ h H G' μ ⟨mkL L'++h.l,h.next⟩ H' (some (L.map (·.1),false)):=by
 have gl:∀ i,(VH.mk (mkL L) h.next).get i=qzf L i:=fun i=>look_mkL L i
 have keyL:∀ i∈L.map (·.1),∃ x b,h.get i=some x∧μ i=some b:=fun i hi=>by
  obtain ⟨x,hx⟩:=look_ex hi
  obtain ⟨b,y,h1,_⟩:=s.blk i x (hL i x hx)
  exact ⟨x,b,hL i x hx,h1⟩
 have back:∀ i∈L.map (·.1),∀ b,μ' i=some b→μ i=some b:=fun i hi b hb=>by
  obtain ⟨x,c,_,h2⟩:=keyL i hi
  have:=c3.m _ _ h2
  rw [hb] at this;obtain rfl:=Option.some.inj this
  exact h2
 have ownL:∀ b,Own ⟨mkL L,h.next⟩ μ b→Own h μ b:=fun b ⟨i,x,h1,h2,h3⟩=>⟨i,x,hL i x (by rw [←gl];exact h1),h2,h3⟩
 have new:∀ i,(VH.mk (mkL L'++h.l) h.next).get i=match qzf L' i with | some x=>some x | none=>h.get i:=get_over L' h
 have notk:∀ i,qzf L' i=none→i ∉ L.map (·.1):=fun i hi hm=>by
  rw [←hk] at hm
  obtain ⟨x,hx⟩:=look_ex hm
  rw [hi] at hx;cases hx
 have isk:∀ i x,qzf L' i=some x→i∈L.map (·.1):=fun i x hx=>by rw [←hk];exact look_mem hx
 have rest:∀ i x b,qzf L' i=none→h.get i=some x→μ i=some b→¬Own ⟨mkL L,h.next⟩ μ b:=fun i x b hn hx hb ⟨k,z,h1,h2,h3⟩=>by
  rw [gl] at h1
  have:=s.inj k i z x b (hL k z h1) hx h2 h3 hb
  exact notk i hn (by rw [←this];exact look_mem h1)
 have same:∀ i x b,qzf L' i=none→h.get i=some x→μ i=some b→H'.get b=H.get b:=fun i x b hn hx hb=>c3.keep b (s.dom _ _ hb).2 (rest i x b hn hx hb)
 refine ⟨⟨c2.w,fun i x q => ?_,fun i j x y b q1 q2 q3 m1 m2 => ?_,fun i b q=>⟨(s.dom i b q).1,Nat.lt_of_lt_of_le (s.dom i b q).2 c3.next⟩⟩,⟨c3.g,Pm.le_refl _,Nat.le_refl _,c3.next,fun b hb ho=>c3.keep b hb (fun q=>ho (ownL b q)),fun b x q=>(c3.gnew b x q).imp_right (fun r=>r.imp_right (ownL b)),fun b ho => ?_,fun _ _ q => .inl q⟩,VR.names _ _ (fun i hi b hb=>back i (hv i hi) b hb) c4,(fun e=>by cases e),fun j x c q1 q2 _ q3 => ?_⟩
 ·rw [new] at q
  cases e:qzf L' i with
  | some z =>
   rw [e] at q
   obtain rfl:=Option.some.inj q
   exact hblk i z e
  | none =>
   rw [e] at q
   obtain ⟨b,y,p1,p2,p3,p4,p5⟩:=s.blk i x q
   refine ⟨b,y,p1,by rw [same i x b e q p1];exact p2,p3.mono c3.g (Pm.le_refl _),fun r=>c3.g _ _ (p4 r),fun r => ?_⟩
   cases e':G' b with
   | none=>rfl
   | some z =>
    rcases c3.gnew b z e' with r' | r' | r'
    ·rw [p5 r] at r';cases r'
    ·have:=(s.dom _ _ p1).2;omega
    ·exact (rest i x b e q p1 r').elim
 ·rw [new] at q1 q2
  cases ei:qzf L' i with
  | some z =>
   rw [ei] at q1
   obtain rfl:=Option.some.inj q1
   cases ej:qzf L' j with
   | some w =>
    rw [ej] at q2
    obtain rfl:=Option.some.inj q2
    exact c2.inj i j z w b (c5 i z ei) (c5 j w ej) q3 (c3.m _ _ m1) (c3.m _ _ m2)
   | none =>
    rw [ej] at q2
    obtain ⟨x0,hx0⟩:=look_ex (isk i z ei)
    have hh:=hL i x0 hx0
    obtain ⟨b',y0,p1,p2,p3,p4,p5⟩:=s.blk i x0 hh
    rw [m1] at p1;obtain rfl:=Option.some.inj p1
    cases hr:x0.ro with
    | false=>exact s.inj i j x0 y b hh q2 hr m1 m2
    | true =>
     obtain ⟨b'',y1,r1,r2,r3,r4,r5⟩:=c2.blk i z (c5 i z ei)
     have:=c3.m _ _ m1
     rw [r1] at this;obtain rfl:=Option.some.inj this
     have:=c3.g _ _ (p4 hr)
     rw [r5 q3] at this;cases this
  | none =>
   rw [ei] at q1
   cases ej:qzf L' j with
   | some w =>
    obtain ⟨x0,hx0⟩:=look_ex (isk j w ej)
    exact s.inj i j x x0 b q1 (hL j x0 hx0) q3 m1 m2
   | none =>
    rw [ej] at q2
    exact s.inj i j x y b q1 q2 q3 m1 m2
 ·obtain ⟨i,x,q1,q2,q3⟩:=ho
  rw [new] at q1
  cases e:qzf L' i with
  | some z =>
   rw [e] at q1
   obtain rfl:=Option.some.inj q1
   exact (c3.own b ⟨i,z,c5 i z e,q2,c3.m _ _ q3⟩).imp_left (ownL b)
  | none =>
   rw [e] at q1
   exact .inl ⟨i,x,q1,q2,q3⟩
 ·rw [new] at q1
  have e:qzf L' j=none:=by
   cases e:qzf L' j with
   | none=>rfl
   | some z=>exact (q3 (isk j z e)).elim
  rw [e] at q1
  exact ⟨⟨x,q1⟩,q2,same j x c e q1 q2⟩
theorem after_state {Gl:qzh} {G G':Gz} {μ μ':Pm} {h h':VH} {H H':Heap} {L L':List (Nat × VB)} {v:VV} {a:AV} (s:SR Gl G μ h H) (hL:∀ i x,qzf L i=some x→h.get i=some x)
  (hk:L'.map (·.1)=L.map (·.1)) (hv:∀ i∈idsV v,i∈L.map (·.1)) (hL':∀ p∈L',∀ i∈p.2.ids,i∈L.map (·.1))
  (c2:SR Gl G' μ' h' H') (c3:Pr H.next G μ ⟨mkL L,h.next⟩ H G' μ' h' H') (c4:VR G' μ' v a) (c5:∀ i x,qzf L' i=some x→h'.get i=some x) :
  SR Gl G' μ ⟨mkL L'++h.l,h.next⟩ H'∧Pr H.next G μ h H G' μ ⟨mkL L'++h.l,h.next⟩ H'∧VR G' μ v a∧Leaves G μ h H G' μ ⟨mkL L'++h.l,h.next⟩ H' (some (L.map (·.1),false)):=by
 refine after_stateG s hL hk hv (fun i x e => ?_) c2 c3 c4 c5
 have isk:∀ i x,qzf L' i=some x→i∈L.map (·.1):=fun i x hx=>by rw [←hk];exact look_mem hx
 have back:∀ i∈L.map (·.1),∀ b,μ' i=some b→μ i=some b:=fun i hi b hb=>by
  obtain ⟨x,hx⟩:=look_ex hi
  obtain ⟨c,y,h1,_⟩:=s.blk i x (hL i x hx)
  have:=c3.m _ _ h1
  rw [hb] at this;obtain rfl:=Option.some.inj this
  exact h1
 obtain ⟨b,y,p1,p2,p3,p4,p5⟩:=c2.blk i x (c5 i x e)
 exact ⟨b,y,back i (isk i x e) b p1,p2,p3.names (fun k hk' c hc=>back k (hL' (i,x) (look_in e) k hk') c hc),p4,p5⟩
theorem SR.part {Gl:qzh} {G:Gz} {μ:Pm} {h:VH} {H:Heap} (s:SR Gl G μ h H) {L:List (Nat × VB)} (hL:∀ i x,qzf L i=some x→h.get i=some x):SR Gl G μ ⟨mkL L,h.next⟩ H :=
 ⟨s.w,fun i x q=>s.blk i x (hL i x (by rw [←look_mkL];exact q)),fun i j x y b q1 q2=>s.inj i j x y b (hL i x (by rw [←look_mkL];exact q1)) (hL j y (by rw [←look_mkL];exact q2)),s.dom⟩
theorem fix_get:∀ (l:List Nat) (h:VH) (j:Nat) (x:VB),(h.fix l).get j=some x→∃ y,h.get j=some y
 | [],h,j,x,q=>⟨x,q⟩
 | i::l,h,j,x,q=>by
  simp only [VH.fix] at q
  split at q
  ·rename_i z hz
   obtain ⟨y,hy⟩:=fix_get l _ j x q
   rw [get_set] at hy
   by_cases e:j=i
   ·exact ⟨z,by rw [e];exact hz⟩
   ·rw [if_neg e] at hy;exact ⟨y,hy⟩
  ·exact fix_get l h j x q
theorem SR.more {Gl:qzh} {G K:Gz} {μ:Pm} {h:VH} {H:Heap} (s:SR Gl G μ h H) (le:G.le K) (hK:∀ b x,K b=some x→H.get b=some x∧b < H.next) (hn:∀ i x b,h.get i=some x→x.ro=false→μ i=some b→K b=none):SR Gl K μ h H :=
 ⟨⟨hK,fun i cs q=>by
  obtain ⟨as,p1,p2⟩:=s.w.glob i cs q
  exact ⟨as,le _ _ p1,VRs.mono le (Pm.le_refl _) _ _ p2⟩⟩,fun i x q=>by
  obtain ⟨b,y,p1,p2,p3,p4,p5⟩:=s.blk i x q
  exact ⟨b,y,p1,p2,p3.mono le (Pm.le_refl _),fun r=>le _ _ (p4 r),fun r=>hn i x b q r p1⟩,s.inj,s.dom⟩
theorem after_hide {Gl:qzh} {G G':Gz} {μ μ':Pm} {h h':VH} {H H':Heap} {i:Nat} {x:VB} {l:List Nat} (s:SR Gl G μ h H) (hi:h.get i=some x) (hro:x.ro=false) (hl:∀ j,j < h.next→j ∉ l→j=i)
  (c2:SR Gl G' μ' h' H') (c3:Pr H.next G μ ⟨(i,none)::h.l,h.next⟩ H G' μ' h' H') :
  SR Gl G' μ' ⟨(i,some x)::h'.l,h'.next⟩ H'∧Pr H.next G μ h H G' μ' ⟨(i,some x)::h'.l,h'.next⟩ H'∧Leaves G μ h H G' μ' ⟨(i,some x)::h'.l,h'.next⟩ H' (some (l,false)):=by
 have g0:∀ j,(VH.mk ((i,none)::h.l) h.next).get j=if j=i then none else h.get j:=fun j=>by
  unfold VH.get
  simp only [qzf]
  by_cases e:i=j
  ·rw [if_pos e,if_pos e.symm];rfl
  ·rw [if_neg e,if_neg (fun q=>e q.symm)]
 have g2:∀ j,(VH.mk ((i,some x)::h'.l) h'.next).get j=if j=i then some x else h'.get j:=fun j=>by
  unfold VH.get
  simp only [qzf]
  by_cases e:i=j
  ·rw [if_pos e,if_pos e.symm];rfl
  ·rw [if_neg e,if_neg (fun q=>e q.symm)]
 have ownH:∀ b,Own ⟨(i,none)::h.l,h.next⟩ μ b→Own h μ b:=fun b ⟨k,z,h1,h2,h3⟩=>by
  rw [g0] at h1
  by_cases e:k=i
  ·rw [if_pos e] at h1;cases h1
  ·rw [if_neg e] at h1;exact ⟨k,z,h1,h2,h3⟩
 obtain ⟨b,y,hb,hy,bk,_,p5⟩:=s.blk i x hi
 have hbd:=(s.dom _ _ hb).2
 have notOwn:¬Own ⟨(i,none)::h.l,h.next⟩ μ b:=fun ⟨k,z,h1,h2,h3⟩=>by
  rw [g0] at h1
  by_cases e:k=i
  ·rw [if_pos e] at h1;cases h1
  ·rw [if_neg e] at h1
   exact e (s.inj k i z x b h1 hi h2 h3 hb)
 have same:H'.get b=H.get b:=c3.keep b hbd notOwn
 have gn:G' b=none:=by
  cases e:G' b with
  | none=>rfl
  | some z =>
   rcases c3.gnew b z e with q | q | q
   ·rw [p5 hro] at q;cases q
   ·omega
   ·exact absurd q notOwn
 have hb':=c3.m _ _ hb
 have no:∀ k z,h'.get k=some z→μ' k=some b→False:=fun k z q1 q2=>by
  obtain ⟨b2,y2,m1,m2,m3,m4,m5⟩:=c2.blk k z q1
  rw [q2] at m1;obtain rfl:=Option.some.inj m1
  cases e:z.ro with
  | true=>rw [gn] at m4;exact nomatch m4 e
  | false =>
   rcases c3.own b ⟨k,z,q1,e,q2⟩ with q | q
   ·exact notOwn q
   ·omega
 refine ⟨⟨c2.w,fun j z q => ?_,fun j k z w b2 q1 q2 q3 m1 m2 => ?_,c2.dom⟩,⟨c3.g,c3.m,c3.hn,c3.next,fun b2 h1 h2=>c3.keep b2 h1 (fun q=>h2 (ownH b2 q)),fun b2 z q=>(c3.gnew b2 z q).imp_right (fun r=>r.imp_right (ownH b2)),fun b2 ho => ?_,c3.mnew⟩,(fun e=>by cases e),fun j z c e1 e2 hj hjl => ?_⟩
 ·rw [g2] at q
  by_cases e:j=i
  ·rw [if_pos e] at q;obtain rfl:=Option.some.inj q
   subst e
   exact ⟨b,y,hb',by rw [same];exact hy,bk.mono c3.g c3.m,(fun r=>by rw [hro] at r;cases r),fun _=>gn⟩
  ·rw [if_neg e] at q;exact c2.blk j z q
 ·rw [g2] at q1 q2
  by_cases e:j=i
  ·subst e
   have:b2=b:=by rw [hb'] at m1;exact (Option.some.inj m1).symm
   subst this
   by_cases e2:k=j
   ·exact e2.symm
   ·rw [if_neg e2] at q2;exact (no k w q2 m2).elim
  ·rw [if_neg e] at q1
   by_cases e2:k=i
   ·subst e2
    have:b2=b:=by rw [hb'] at m2;exact (Option.some.inj m2).symm
    subst this
    exact (no j z q1 m1).elim
   ·rw [if_neg e2] at q2;exact c2.inj j k z w b2 q1 q2 q3 m1 m2
 ·obtain ⟨k,z,h1,h2,h3⟩:=ho
  rw [g2] at h1
  by_cases e:k=i
  ·subst e
   have:b2=b:=by rw [hb'] at h3;exact (Option.some.inj h3).symm
   subst this
   exact .inl ⟨k,x,hi,hro,hb⟩
  ·rw [if_neg e] at h1
   exact (c3.own b2 ⟨k,z,h1,h2,h3⟩).imp_left (ownH b2)
 ·obtain rfl:=hl j hj hjl
  have:c=b:=by rw [hb'] at e2;exact (Option.some.inj e2).symm
  subst this
  exact ⟨⟨x,hi⟩,hb,same⟩
theorem SR.hide {Gl:qzh} {G:Gz} {μ:Pm} {h:VH} {H:Heap} (s:SR Gl G μ h H) (i:Nat):SR Gl G μ ⟨(i,none)::h.l,h.next⟩ H:=by
 have g0:∀ j x,(VH.mk ((i,none)::h.l) h.next).get j=some x→h.get j=some x:=fun j x q=>by
  unfold VH.get at q ⊢
  simp only [qzf] at q
  by_cases e:i=j
  ·rw [if_pos e] at q;cases q
  ·rw [if_neg e] at q;exact q
 exact ⟨s.w,fun j x q=>s.blk j x (g0 j x q),fun j k x y b q1 q2=>s.inj j k x y b (g0 j x q1) (g0 k y q2),s.dom⟩
theorem wpCall_sound {E:Env} {Gl:qzh} {G:Gz} {μ:Pm} {h:VH} {H:Heap} {f:Nat} {vs:List VV} {as:List AV} {K:VV→VH→Option (List Nat × Bool)→Prop} (hw:wpCall E Gl f vs h K) (s:SR Gl G μ h H) (k:VRs G μ vs as) :
  ∃ N a H' G' μ' v h' e,(∀ M,N≤M→callN E M f as H=some (a,H'))∧SR Gl G' μ' h' H'∧Pr H.next G μ h H G' μ' h' H'∧VR G' μ' v a∧K v h' e∧Leaves G μ h H G' μ' h' H' e:=by
 rcases hw with ⟨a0,args,v,h1,h2,h3,h4⟩ | ⟨a0,args,cs,o,n,e,c,h1,h2,h3,h4⟩ | ⟨L,v,L',⟨k1,k2,k3,k5⟩,k4,k6,k7⟩ | ⟨L,cs,o,n,e,c,L',⟨k1,k2,k3,k5⟩,k6,k7⟩ | ⟨L,v,L',⟨k1,k2,k3,k5⟩,k6,k7⟩ | ⟨n,a0,args,v,h1,h2,h3,h4⟩ | hc | ⟨i,x,l,hi,hro,hl,hc⟩ | ⟨L,v,L',k1,k2,k3,k6,k7⟩
 ·obtain ⟨G1,s1,p1,q1⟩:=fix_rel (idsL vs) s (shuts_ids vs h1)
  have r1:=subs_rel _ h2 (shuts_rel (p1 0).g vs h1 q1 k)
  obtain ⟨N,a,H',G2,c1,c2,c3,c4,c5,c6,c7⟩:=h3 s1.w r1
  by_cases hp:plainB v=true
  ·rw [if_pos hp] at h4
   obtain ⟨t1,t2⟩:=after_plain s c5 c6
   exact ⟨N,a,H',G,μ,v,h,_,c1,t1,t2,VR.plain _ _ _ hp c4,h4,fun _=>rfl,fun j x c e1 e2 _ _=>⟨⟨x,e1⟩,e2,c6 c (s.dom _ _ e2).2⟩⟩
  ·rw [if_neg hp] at h4
   obtain ⟨t1,t2⟩:=after_pure s1 c2 c3 c5 c6 c7
   exact ⟨N,a,H',G2,μ,v,_,_,c1,t1,(p1 _).trans t2 (Nat.le_refl _),mono_le c4,h4,fun e=>(hp e).elim,fun j x c e1 e2 _ _=>⟨fix_get _ _ _ _ e1,e2,c6 c (s.dom _ _ e2).2⟩⟩
 ·obtain ⟨G1,s1,p1,q1⟩:=fix_rel (idsL vs) s (shuts_ids vs h1)
  have r1:=subs_rel _ h2 (shuts_rel (p1 0).g vs h1 q1 k)
  obtain ⟨N,b,st,bs,H',G2,c1,c2,c3,c4,c5,c6,c7,c8,c9,c10,c11⟩:=h3 s1.w r1
  by_cases hp:plainL cs=true
  ·rw [if_pos hp] at h4
   obtain ⟨t1,t2⟩:=after_plain s c9 c10
   have gb:G b=none:=by
    cases e:G b with
    | none=>rfl
    | some z=>have:=(s.w.at_ _ _ e).2;omega
   obtain ⟨u1,u2⟩:=alloc_rel (n:=H.next) (b:=b) (x := .cells cs false) (y := .cells bs true st) (H':=H') t1 ⟨bs,true,st,rfl,VRs.plain _ _ _ hp c5,fun _=>rfl,fun e=>by cases e⟩ rfl
    (fun j=>by split;(rename_i e;rw [e,c4]);rfl) (Nat.le_refl _) c8 gb (fun i e=>by have:=(s.dom _ _ e).2;omega) c7
   refine ⟨N,_,H',_,_,.slice h.next o n e c,_,_,c1,u1,t2.trans u2 (Nat.le_refl _),⟨b,by unfold setM;rw [if_pos rfl],rfl⟩,h4,(fun e=>by cases e),fun j x c e1 e2 hj _ => ?_⟩
   have hne:j≠h.next:=Nat.ne_of_lt hj
   rw [get_push,if_neg hne] at e1
   unfold setM at e2;rw [if_neg hne] at e2
   exact ⟨⟨x,e1⟩,e2,c10 c (s.dom _ _ e2).2⟩
  ·rw [if_neg hp] at h4
   obtain ⟨t1,t2⟩:=after_pure s1 c2 c3 c9 c10 c11
   obtain ⟨u1,u2⟩:=alloc_rel (n:=H.next) (b:=b) (x := .cells cs false) (y := .cells bs true st) (H':=H') t1 ⟨bs,true,st,rfl,VRs.mono (Gz.le_refl _) (noP_le _) _ _ c5,fun _=>rfl,fun e=>by cases e⟩ rfl
    (fun j=>by split;(rename_i e;rw [e,c4]);rfl) (Nat.le_refl _) c8 c6 (fun i e=>by have:=(s.dom _ _ e).2;omega) c7
   refine ⟨N,_,H',_,_,.slice h.next o n e c,_,_,c1,u1,((p1 _).trans t2 (Nat.le_refl _)).trans u2 (Nat.le_refl _),⟨b,?_,rfl⟩,h4,(fun e=>by cases e),fun j x c e1 e2 hj _ => ?_⟩
   ·rw [VH.fix_next];unfold setM;rw [if_pos rfl]
   ·have hne:j≠h.next:=Nat.ne_of_lt hj
    rw [get_push,VH.fix_next,if_neg hne] at e1
    unfold setM at e2;rw [VH.fix_next,if_neg hne] at e2
    exact ⟨fix_get _ _ _ _ e1,e2,c10 c (s.dom _ _ e2).2⟩
 ·obtain ⟨N,a,H',G',μ',v',h',c1,c2,c3,c4,rfl,c5⟩:=k6 h.next (fun p hp=>by
   obtain ⟨b,y,q1,_⟩:=s.blk p.1 p.2 (k1 _ _ (k2 p hp))
   exact (s.dom _ _ q1).1) (s.part k1) k
  obtain ⟨t1,t2,t3,t4⟩:=after_state s k1 k3 k4 k5 c2 c3 c4 c5
  exact ⟨N,a,H',G',μ,_,_,_,c1,t1,t2,t3,k7,t4⟩
 ·obtain ⟨N,a,H',G',μ',v',h',c1,c2,c3,c4,⟨i,ds,rfl,hi,d1,d2,d3⟩,c5⟩:=k6 h.next (fun p hp=>by
   obtain ⟨b,y,q1,_⟩:=s.blk p.1 p.2 (k1 _ _ (k2 p hp))
   exact (s.dom _ _ q1).1) (s.part k1) k
  obtain ⟨b,hb,rfl⟩:=c4
  obtain ⟨b',y,e1,e2,⟨bs,rw,st,rfl,e3,e4,e5⟩,e6,e7⟩:=c2.blk _ _ d1
  rw [hb] at e1;obtain rfl:=Option.some.inj e1
  obtain rfl:=e4 rfl
  have hnb:H.next≤b:=by
   rcases c3.mnew i b hb with r | r
   ·have:=(s.dom _ _ r).1;omega
   ·exact r
  obtain ⟨t1,t2,_,t4⟩:=after_state (v := .nilP) (a := .ptr none) s k1 k3 (fun i hi=>by simp [idsV] at hi) k5 c2 c3 rfl c5
  obtain ⟨u1,u2⟩:=alloc_rel (n:=H.next) (b:=b) (x := .cells cs false) (y := .cells bs true st) (H':=H') t1 ⟨bs,true,st,rfl,VRs.mono (Gz.le_refl _) (noP_le _) _ _ (subs_rel _ d3 (VRs.closed noP _ _ d2 e3)),fun _=>rfl,fun e=>by cases e⟩ rfl
   (fun j=>by split;(rename_i e;rw [e,e2]);rfl) (Nat.le_refl _) (c2.dom _ _ hb).2 (e7 rfl) (fun j e=>by have:=(s.dom _ _ e).2;omega) hnb
  refine ⟨N,_,H',_,_,.slice h.next o n e c,_,_,c1,u1,t2.trans u2 (Nat.le_refl _),⟨b,by unfold setM;rw [if_pos rfl],rfl⟩,k7,(fun e=>by cases e),fun j x c e1 e2 hj hjl => ?_⟩
  have hne:j≠h.next:=Nat.ne_of_lt hj
  have e1':((VH.mk (mkL L'++h.l) h.next).push (.cells cs false)).get j=some x:=e1
  rw [get_push,if_neg hne] at e1'
  unfold setM at e2;rw [if_neg hne] at e2
  exact t4.2 j x c e1' e2 hj hjl
 ·obtain ⟨N,a,H',G',μ',v',h',c1,c2,c3,c4,⟨n,v1,d1,d2⟩,c5⟩:=k6 h.next (fun p hp=>by
   obtain ⟨b,y,q1,_⟩:=s.blk p.1 p.2 (k1 _ _ (k2 p hp))
   exact (s.dom _ _ q1).1) (s.part k1) k
  obtain ⟨t1,t2,_,t4⟩:=after_state (v := .nilP) (a := .ptr none) s k1 k3 (fun i hi=>by simp [idsV] at hi) k5 c2 c3 rfl c5
  have own:∀ i b,h.next≤i→μ' i=some b→H.next≤b:=fun i b hi q=>by
   rcases c3.mnew i b q with r | r
   ·have:=(s.dom _ _ r).1;omega
   ·exact r
  open Classical in
  let G3:Gz:=fun b=>if ∃ i x,h.next≤i∧h'.get i=some x∧μ' i=some b then H'.get b else G' b
  have g3:∀ b x,G3 b=some x→(H'.get b=some x∧b < H'.next)∧(G' b=some x∨H.next≤b):=fun b x q=>by
   change (if _ then _ else _)=_ at q
   split at q
   ·rename_i hb
    obtain ⟨i,y,e0,e1,e2⟩:=hb
    exact ⟨⟨q,(c2.dom i b e2).2⟩,.inr (own i b e0 e2)⟩
   ·exact ⟨c2.w.at_ b x q,.inl q⟩
  have le:G'.le G3:=fun b x q=>by
   show (if _ then _ else _)=_
   split
   ·exact (c2.w.at_ b x q).1
   ·exact q
  have s3:=t1.more le (fun b x q=>(g3 b x q).1) (fun i x b q1 q2 q3=>by
   obtain ⟨b',y,p1,p2,p3,p4,p5⟩:=t1.blk i x q1
   rw [q3] at p1;obtain rfl:=Option.some.inj p1
   cases e:G3 b with
   | none=>rfl
   | some z =>
    rcases (g3 b z e).2 with r | r
    ·rw [p5 q2] at r;cases r
    ·have:=(s.dom _ _ q3).2;omega)
  have hr:VR G3 noP v a:=sub_rel _ d2 (shutD_rel c2 le (g:=above h.next h') (fun i x e=>by unfold above at e;split at e;exact e;cases e) (fun i x b e1 e2=>by
   unfold above at e1
   split at e1<;>try (cases e1;done)
   rename_i hle
   show (if _ then _ else _)=_
   rw [if_pos ⟨i,x,hle,e1,e2⟩]) n v' v1 a d1 c4)
  refine ⟨N,a,H',G3,μ,v,_,_,c1,s3,⟨Gz.le_trans t2.g le,Pm.le_refl _,Nat.le_refl _,t2.next,t2.keep,fun b x q => ?_,t2.own,t2.mnew⟩,mono_le hr,k7,(fun e=>by cases e),t4.2⟩
  rcases (g3 b x q).2 with r | r
  ·exact t2.gnew b x r
  ·exact .inr (.inl r)
 ·open Classical in
  let G1:Gz:=fun b=>if ∃ i x,h.get i=some x∧μ i=some b then H.get b else G b
  have g1:∀ b x,G1 b=some x→(H.get b=some x∧b < H.next)∧(G b=some x∨Own h μ b):=fun b x q=>by
   change (if _ then _ else _)=_ at q
   split at q
   ·rename_i hb
    obtain ⟨i,y,e1,e2⟩:=hb
    refine ⟨⟨q,(s.dom i b e2).2⟩,?_⟩
    obtain ⟨b',z,p1,p2,p3,p4,p5⟩:=s.blk i y e1
    rw [e2] at p1;obtain rfl:=Option.some.inj p1
    cases hr:y.ro with
    | true=>rw [p2] at q;rw [p4 hr,q];exact .inl rfl
    | false=>exact .inr ⟨i,y,e1,hr,e2⟩
   ·exact ⟨s.w.at_ b x q,.inl q⟩
  have le:G.le G1:=fun b x q=>by
   show (if _ then _ else _)=_
   split
   ·exact (s.w.at_ b x q).1
   ·exact q
  have w1:GW Gl G1 H:=⟨fun b x q=>(g1 b x q).1,fun i cs q=>by
   obtain ⟨as,p1,p2⟩:=s.w.glob i cs q
   exact ⟨as,le _ _ p1,VRs.mono le (Pm.le_refl _) _ _ p2⟩⟩
  have fz:∀ i x b,h.get i=some x→μ i=some b→G1 b=H.get b:=fun i x b e1 e2=>by
   show (if _ then _ else _)=_
   rw [if_pos ⟨i,x,e1,e2⟩]
  have r1:VRs G1 noP args as:=subs_rel _ h2 (mapO_rel (shutD_rel s le (g:=h.get) (fun _ _ e=>e) fz n) h1 k)
  obtain ⟨N,a,H',G2,c1,c2,c3,c4,c5,c6,c7⟩:=h3 w1 r1
  rcases h4 with ⟨hp,h4⟩ | h4
  ·obtain ⟨t1,t2⟩:=after_plain s c5 c6
   exact ⟨N,a,H',G,μ,v,h,_,c1,t1,t2,VR.plain _ _ _ hp c4,h4,fun _=>rfl,fun j x c e1 e2 _ _=>⟨⟨x,e1⟩,e2,c6 c (s.dom _ _ e2).2⟩⟩
  ·have hclo:∀ i x,h.clo.get i=some x→x.ro=true∧∃ y,h.get i=some y∧VB.shutB y=true∧x=y.fix:=fun i x q=>by
    rw [get_clo] at q
    split at q<;>try (cases q;done)
    rename_i y hy
    split at q<;>try (cases q;done)
    rename_i hc
    obtain rfl:=Option.some.inj q
    exact ⟨by cases y<;>rfl,y,hy,hc,rfl⟩
   refine ⟨N,a,H',G2,μ,v,h.clo,none,c1,⟨c2,fun i x q => ?_,fun i j x y b q1 q2 q3 _ _ => ?_,fun i b q=>⟨(s.dom i b q).1,Nat.lt_of_lt_of_le (s.dom i b q).2 c5⟩⟩,⟨Gz.le_trans le c3,Pm.le_refl _,Nat.le_refl _,c5,fun b hb _=>c6 b hb,fun b x q => ?_,fun b ho => ?_,fun _ _ q => .inl q⟩,mono_le c4,h4,trivial⟩
   ·obtain ⟨hro,y,hy,hc,rfl⟩:=hclo i x q
    obtain ⟨b,z,p1,p2,p3,p4,p5⟩:=s.blk i y hy
    have hb:=(s.dom _ _ p1).2
    exact ⟨b,z,p1,by rw [c6 b hb];exact p2,(p3.fix hc).mono (Gz.le_trans le c3) (Pm.le_refl _),fun _=>c3 _ _ (by rw [fz i y b hy p1];exact p2),fun r=>by rw [hro] at r;cases r⟩
   ·rw [(hclo i x q1).1] at q3;cases q3
   ·rcases c7 b x q with r | r
    ·rcases (g1 b x r).2 with r | r
     ·exact .inl r
     ·exact .inr (.inr r)
    ·exact .inr (.inl r)
   ·obtain ⟨i,x,e1,e2,_⟩:=ho
    rw [(hclo i x e1).1] at e2;cases e2
 ·obtain ⟨N,a,H',G',μ',v,h',c1,c2,c3,c4,c5⟩:=hc s k
  exact ⟨N,a,H',G',μ',v,h',none,c1,c2,c3,c4,c5,trivial⟩
 ·obtain ⟨N,a,H',G',μ',v,h',c1,c2,c3,c4,c5⟩:=hc (s.hide i) k
  obtain ⟨t1,t2,t3⟩:=after_hide s hi hro hl c2 c3
  exact ⟨N,a,H',G',μ',v,_,_,c1,t1,t2,c4,c5,t3⟩
 ·have inJ:∀ i∈L.flatMap (·.2.ids),∃ b,μ i=some b:=fun i hi=>by
   obtain ⟨p,hp,hip⟩:=List.mem_flatMap.mp hi
   obtain ⟨b,y,q1,q2,q3,_⟩:=s.blk p.1 p.2 (k1 _ _ (k2 p hp))
   exact q3.named i hip
  obtain ⟨N,a,H',G',μ',v',h',c1,c2,c3,c4,⟨n,v1,d1,d2⟩,c5⟩:=k6 h.next (fun p hp=>by
   obtain ⟨b,y,q1,_⟩:=s.blk p.1 p.2 (k1 _ _ (k2 p hp))
   exact (s.dom _ _ q1).1) (fun p hp i hi=>by
   obtain ⟨b,q⟩:=inJ i (List.mem_flatMap.mpr ⟨p,hp,hi⟩)
   exact (s.dom _ _ q).1) (s.part k1) k
  have own:∀ i b,h.next≤i→μ' i=some b→H.next≤b:=fun i b hi q=>by
   rcases c3.mnew i b q with r | r
   ·have:=(s.dom _ _ r).1;omega
   ·exact r
  open Classical in
  let G3:Gz:=fun b=>if ∃ i x,h.next≤i∧h'.get i=some x∧μ' i=some b then H'.get b else G' b
  have g3:∀ b x,G3 b=some x→(H'.get b=some x∧b < H'.next)∧(G' b=some x∨H.next≤b):=fun b x q=>by
   change (if _ then _ else _)=_ at q
   split at q
   ·rename_i hb
    obtain ⟨i,y,e0,e1,e2⟩:=hb
    exact ⟨⟨q,(c2.dom i b e2).2⟩,.inr (own i b e0 e2)⟩
   ·exact ⟨c2.w.at_ b x q,.inl q⟩
  have le:G'.le G3:=fun b x q=>by
   show (if _ then _ else _)=_
   split
   ·exact (c2.w.at_ b x q).1
   ·exact q
  have w3:GW Gl G3 H':=⟨fun b x q=>(g3 b x q).1,fun i cs q=>by
   obtain ⟨as,p1,p2⟩:=c2.w.glob i cs q
   exact ⟨as,le _ _ p1,VRs.mono le (Pm.le_refl _) _ _ p2⟩⟩
  have shr:∀ (k:Nat) (v w:VV) (a:AV),shutD k (above h.next h') v=some w→VR G' μ' v a→VR G3 noP w a:=shutD_rel c2 le (g:=above h.next h') (fun i x e=>by unfold above at e;split at e;exact e;cases e) (fun i x b e1 e2=>by
   unfold above at e1
   split at e1<;>try (cases e1;done)
   rename_i hle
   show (if _ then _ else _)=_
   rw [if_pos ⟨i,x,hle,e1,e2⟩])
  have cell:∀ (d c:VV) (a:AV),Cl1 h.next (L.flatMap (·.2.ids)) h' d c→VR G' μ' d a→VR G3 μ c a:=fun d c a q r=>by
   rcases q with ⟨k,d1,q1,q2⟩ | ⟨rfl,q2⟩
   ·exact mono_le (sub_rel _ q2 (shr k d d1 a q1 r))
   ·refine VR.mono le (Pm.le_refl _) _ _ (VR.names _ _ (fun i hi b hb => ?_) r)
    obtain ⟨b',hb'⟩:=inJ i (q2 i hi)
    have:=c3.m _ _ hb'
    rw [hb] at this;obtain rfl:=Option.some.inj this
    exact hb'
  have cells:∀ (ds cs:List VV) (as:List AV),ClL h.next (L.flatMap (·.2.ids)) h' ds cs→VRs G' μ' ds as→VRs G3 μ cs as:=by
   intro ds
   induction ds with
   | nil=>intro cs as q r;simp only [ClL] at q;subst q;exact r
   | cons d ds ih =>
    rintro cs as ⟨c,cs',rfl,q1,q2⟩ ⟨y,ys,rfl,r1,r2⟩
    exact VRs.cons (cell d c y q1 r1) (ih cs' ys q2 r2)
  have isk:∀ i x,qzf L' i=some x→i∈L.map (·.1):=fun i x hx=>by rw [←k3];exact look_mem hx
  have keyL:∀ i∈L.map (·.1),∃ x b,h.get i=some x∧μ i=some b:=fun i hi=>by
   obtain ⟨x,hx⟩:=look_ex hi
   obtain ⟨b,y,h1,_⟩:=s.blk i x (k1 i x hx)
   exact ⟨x,b,k1 i x hx,h1⟩
  have gl2:∀ i,(VH.mk (mkL L') h'.next).get i=qzf L' i:=fun i=>look_mkL L' i
  have hblk:∀ i x,qzf L' i=some x→∃ b y,μ i=some b∧H'.get b=some y∧BlkR G3 μ x y∧(x.ro=true→G3 b=some y)∧(x.ro=false→G3 b=none):=fun i x e=>by
   obtain ⟨cs,ds,rfl,q1,q2⟩:=c5 i x e
   obtain ⟨b,y,p1,p2,⟨as,rw,st,rfl,p3,p4,p6⟩,_,p5⟩:=c2.blk i _ q1
   obtain ⟨x0,b0,hx0,hb0⟩:=keyL i (isk i _ e)
   have:=c3.m _ _ hb0
   rw [p1] at this;obtain rfl:=Option.some.inj this
   refine ⟨b,_,hb0,p2,⟨as,rw,st,rfl,cells _ _ _ q2 p3,p4,(fun r=>nomatch r)⟩,(fun r=>nomatch r),fun _ => ?_⟩
   cases e3:G3 b with
   | none=>rfl
   | some z =>
    rcases (g3 b z e3).2 with r | r
    ·rw [p5 rfl] at r;cases r
    ·have:=(s.dom _ _ hb0).2;omega
  have s2:SR Gl G3 μ' ⟨mkL L',h'.next⟩ H':=⟨w3,fun i x q=>by
   rw [gl2] at q
   obtain ⟨b,y,p1,p2,p3,p4,p5⟩:=hblk i x q
   exact ⟨b,y,c3.m _ _ p1,p2,p3.mono (Gz.le_refl _) c3.m,p4,p5⟩,fun i j x y b q1 q2 q3 m1 m2=>by
   rw [gl2] at q1 q2
   obtain ⟨cs,ds,rfl,r1,_⟩:=c5 i x q1
   obtain ⟨cs2,ds2,rfl,r2,_⟩:=c5 j y q2
   exact c2.inj i j _ _ b r1 r2 rfl m1 m2,c2.dom⟩
  have p2:Pr H.next G μ ⟨mkL L,h.next⟩ H G3 μ' ⟨mkL L',h'.next⟩ H':=⟨Gz.le_trans c3.g le,c3.m,c3.hn,c3.next,c3.keep,fun b x q=>by
   rcases (g3 b x q).2 with r | r
   ·exact c3.gnew b x r
   ·exact .inr (.inl r),fun b ⟨i,x,q1,q2,q3⟩=>by
   rw [gl2] at q1
   obtain ⟨cs,ds,rfl,r1,_⟩:=c5 i x q1
   exact c3.own b ⟨i,_,r1,rfl,q3⟩,c3.mnew⟩
  obtain ⟨t1,t2,_,t4⟩:=after_stateG (v := .nilP) (a := .ptr none) s k1 k3 (fun i hi=>by simp [idsV] at hi) hblk s2 p2 rfl (fun i x q=>by rw [gl2];exact q)
  exact ⟨N,a,H',G3,μ,v,_,_,c1,t1,t2,mono_le (sub_rel _ d2 (shr n v' v1 a d1 c4)),k7,t4⟩
end
end Go.VL
