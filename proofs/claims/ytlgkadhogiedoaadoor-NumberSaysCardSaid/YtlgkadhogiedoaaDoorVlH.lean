/- Orders left open; texts; functions. -/
import Derived.Test.YtlgkadhogiedoaaDoorVlG
set_option linter.unusedSimpArgs false
set_option linter.unusedVariables false
namespace Go.VL
open Go.FR
noncomputable section
mutual
theorem beqA_refl:∀ a:AV,beqA a a=true
 | .bool a=>by simp [beqA]
 | .int k a=>by simp [beqA]
 | .str a=>by simp [beqA]
 | .ptr a=>by simp [beqA]
 | .slice a n c=>by simp [beqA]
 | .map a=>by simp [beqA]
 | .func f a b=>by simp [beqA,beqAs_refl a,beqAs_refl b]
 | .nilFunc=>rfl
 | .iface t a=>by simp [beqA,beqA_refl a]
 | .nilIface=>rfl
 | .agg a=>by simp [beqA,beqAs_refl a]
 | .tuple a=>by simp [beqA,beqAs_refl a]
theorem beqAs_refl:∀ a:List AV,beqAs a a=true
 | []=>rfl
 | a::l=>by simp [beqAs,beqA_refl a,beqAs_refl l]
end
theorem ropAt_all {q:ROp} {as:List AV} {a:AV}:∀ {l:List Heap},l≠[]→(∀ S∈l,rop q as S=some a)→ropAt q as l=some a
 | [],h,_=>(h rfl).elim
 | [S],_,h=>h S (by simp)
 | S::S2::l,_,h=>by
  have h1:=h S (by simp)
  have h2:=ropAt_all (l:=S2::l) (by simp) (fun T hT=>h T (by simp at hT ⊢;exact .inr hT))
  simp only [ropAt,h1,h2,beqA_refl,if_true]
mutual
theorem refs_rel {Gl:qzh} {G:Gz} {μ:Pm} {H:Heap} (w:GW Gl G H):∀ (v:VV) {a:AV},refsOK Gl v=true→VR G μ v a→∀ b∈refsA a,(∃ i∈idsV v,μ i=some b)∨∃ x,G b=some x
 | .bool _,a,_,k,b,hb=>by simp only [VR] at k;subst k;simp [refsA] at hb
 | .int _ _,a,_,k,b,hb=>by simp only [VR] at k;subst k;simp [refsA] at hb
 | .str _,a,_,k,b,hb=>by simp only [VR] at k;subst k;simp [refsA] at hb
 | .nilP,a,_,k,b,hb=>by simp only [VR] at k;subst k;simp [refsA] at hb
 | .ptr i o,a,_,⟨c,h,e⟩,b,hb=>by subst e;simp only [refsA,List.mem_singleton] at hb;subst hb;exact .inl ⟨i,by simp [idsV],h⟩
 | .gptr i o,a,r,k,b,hb=>by
  simp only [VR] at k;subst k
  simp only [refsA,List.mem_singleton] at hb;subst hb
  simp only [refsOK,inGl,Option.isSome_iff_exists] at r
  obtain ⟨cs,hc⟩:=r
  obtain ⟨as,h1,_⟩:=w.glob _ _ hc
  exact .inr ⟨_,h1⟩
 | .fptr cs o,a,_,⟨c,p,full,rw,st,as,h1,e,_⟩,b,hb=>by subst e;simp only [refsA,List.mem_singleton] at hb;subst hb;exact .inr ⟨_,h1⟩
 | .nilS,a,_,k,b,hb=>by simp only [VR] at k;subst k;simp [refsA] at hb
 | .slice i o n e c,a,_,⟨d,h,e'⟩,b,hb=>by subst e';simp only [refsA,List.mem_singleton] at hb;subst hb;exact .inl ⟨i,by simp [idsV],h⟩
 | .fsl cs n e,a,_,⟨_,.inl ⟨_,k⟩⟩,b,hb=>by subst k;simp [refsA] at hb
 | .fsl cs n e,a,_,⟨_,.inr ⟨c,o,cc,full,rw,st,as,h1,k,_⟩⟩,b,hb=>by subst k;simp only [refsA,List.mem_singleton] at hb;subst hb;exact .inr ⟨_,h1⟩
 | .nilM,a,_,k,b,hb=>by simp only [VR] at k;subst k;simp [refsA] at hb
 | .map i,a,_,⟨d,h,e'⟩,b,hb=>by subst e';simp only [refsA,List.mem_singleton] at hb;subst hb;exact .inl ⟨i,by simp [idsV],h⟩
 | .fmap _ _,a,_,⟨c,es,as,bs,h1,e,_⟩,b,hb=>by subst e;simp only [refsA,List.mem_singleton] at hb;subst hb;exact .inr ⟨_,h1⟩
 | .func f x y,a,r,⟨p,q,e,k1,k2⟩,b,hb=>by
  subst e
  simp only [refsOK,Bool.and_eq_true] at r
  simp only [refsA,List.mem_append] at hb
  rcases hb with hb | hb
  ·exact (refss_rel w x r.1 k1 b hb).imp_left (fun ⟨i,h1,h2⟩=>⟨i,by simp [idsV,h1],h2⟩)
  ·exact (refss_rel w y r.2 k2 b hb).imp_left (fun ⟨i,h1,h2⟩=>⟨i,by simp [idsV,h1],h2⟩)
 | .nilF,a,_,k,b,hb=>by simp only [VR] at k;subst k;simp [refsA] at hb
 | .iface t v,a,r,⟨y,e,k⟩,b,hb=>by subst e;exact refs_rel w v r k b (by simpa [refsA] using hb)
 | .nilI,a,_,k,b,hb=>by simp only [VR] at k;subst k;simp [refsA] at hb
 | .agg cs,a,r,⟨y,e,k⟩,b,hb=>by subst e;exact refss_rel w cs r k b (by simpa [refsA] using hb)
 | .tuple cs,a,r,⟨y,e,k⟩,b,hb=>by subst e;exact refss_rel w cs r k b (by simpa [refsA] using hb)
theorem refss_rel {Gl:qzh} {G:Gz} {μ:Pm} {H:Heap} (w:GW Gl G H):∀ (v:List VV) {a:List AV},refsOKL Gl v=true→VRs G μ v a→∀ b∈refsAs a,(∃ i∈idsL v,μ i=some b)∨∃ x,G b=some x
 | [],a,_,k,b,hb=>by simp only [VRs] at k;subst k;simp [refsAs] at hb
 | v::l,a,r,⟨y,ys,e,k1,k2⟩,b,hb=>by
  subst e
  simp only [refsOKL,Bool.and_eq_true] at r
  simp only [refsAs,List.mem_append] at hb
  rcases hb with hb | hb
  ·exact (refs_rel w v r.1 k1 b hb).imp_left (fun ⟨i,h1,h2⟩=>⟨i,by simp [idsL,h1],h2⟩)
  ·exact (refss_rel w l r.2 k2 b hb).imp_left (fun ⟨i,h1,h2⟩=>⟨i,by simp [idsL,h1],h2⟩)
end
def Agree1 (Gl:qzh) (G:Gz) (μ:Pm) (h:VH) (H:Heap) (ex:Nat→Prop) (same:Bool) (S:Heap):Prop :=
 (∀ i cs,qzf Gl i=some cs→S.get i=H.get i)∧(same=true→∀ b x,G b=some x→S.get b=H.get b)∧(∀ j x c,h.get j=some x→μ j=some c→¬ex j→S.get c=H.get c)
def AgreeL (Gl:qzh) (G:Gz) (μ:Pm) (h:VH) (H:Heap):(Nat→Prop)→Bool→List (Option ((List Nat × Bool) × VH))→List Heap→Prop
 | ex,sm,_,[]=>True
 | ex,sm,[],S::_=>Agree1 Gl G μ h H ex sm S
 | ex,sm,none::_,S::_=>Agree1 Gl G μ h H ex sm S
 | ex,sm,some (l,m)::log,S::snaps=>Agree1 Gl G μ h H ex sm S∧AgreeL Gl G μ h H (fun j=>j∈l.1∨m.next≤j∨ex j) (sm && l.2) log snaps
theorem AgreeL.step {Gl:qzh} {G G':Gz} {μ μ':Pm} {h h':VH} {H H':Heap} {T:Nat→Prop} {ts:Bool} (hgl:∀ i cs,qzf Gl i=some cs→H'.get i=H.get i) (hg:ts=true→(∀ b x,G' b=some x→G b=some x∧H'.get b=H.get b))
  (ht:∀ j x c,h'.get j=some x→μ' j=some c→¬T j→(∃ y,h.get j=some y)∧μ j=some c∧H'.get c=H.get c) :
  ∀ {snaps:List Heap} {log:List (Option ((List Nat × Bool) × VH))} {ex ex':Nat→Prop} {sm sm':Bool},(∀ i,T i∨ex i→ex' i)→(sm'=true→sm=true∧ts=true)→AgreeL Gl G μ h H ex sm log snaps→AgreeL Gl G' μ' h' H' ex' sm' log snaps:=by
 have one:∀ {ex ex':Nat→Prop} {sm sm':Bool} {S:Heap},(∀ i,T i∨ex i→ex' i)→(sm'=true→sm=true∧ts=true)→Agree1 Gl G μ h H ex sm S→Agree1 Gl G' μ' h' H' ex' sm' S:=fun hx hs ⟨o,p,q⟩ =>
  ⟨fun i cs hi=>by rw [hgl i cs hi];exact o i cs hi,fun e b x hb=>by
   obtain ⟨s1,s2⟩:=hs e
   obtain ⟨g1,g2⟩:=hg s2 b x hb
   rw [g2];exact p s1 b x g1,fun j x c e1 e2 e3=>by
   obtain ⟨⟨y,k1⟩,k2,k3⟩:=ht j x c e1 e2 (fun r=>e3 (hx _ (.inl r)))
   rw [k3];exact q j y c k1 k2 (fun r=>e3 (hx _ (.inr r)))⟩
 intro snaps
 induction snaps with
 | nil=>intro log ex ex' sm sm' hx hs _;simp [AgreeL]
 | cons S snaps ih =>
  intro log ex ex' sm sm' hx hs ha
  match log,ha with
  | [],ha=>exact one hx hs ha
  | none::_,ha=>exact one hx hs ha
  | some (l,m)::log,⟨h1,h2⟩ =>
   refine ⟨one hx hs h1,ih (fun i hi => ?_) (fun e => ?_) h2⟩
   ·rcases hi with hi | hi | hi | hi
    ·exact .inr (.inr (hx _ (.inl hi)))
    ·exact .inl hi
    ·exact .inr (.inl hi)
    ·exact .inr (.inr (hx _ (.inr hi)))
   ·simp only [Bool.and_eq_true] at e ⊢
    obtain ⟨e1,e2⟩:=hs e.1
    exact ⟨⟨e1,e.2⟩,e2⟩
theorem AgreeL.alloc {Gl:qzh} {G:Gz} {μ μ':Pm} {h h':VH} {H:Heap} {b:Nat} {y:ABlk} (hg:G b=none) (hgl:∀ i cs,qzf Gl i=some cs→i≠b)
  (ht:∀ j x c,h'.get j=some x→μ' j=some c→c=b∨∃ z,h.get j=some z∧μ j=some c) :
  ∀ {snaps:List Heap} {log:List (Option ((List Nat × Bool) × VH))} {ex:Nat→Prop} {sm:Bool},AgreeL Gl G μ h H ex sm log snaps→AgreeL Gl G μ' h' (H.set b y) ex sm log (snaps.map fun S=>S.set b y):=by
 have one:∀ {ex:Nat→Prop} {sm:Bool} {S:Heap},Agree1 Gl G μ h H ex sm S→Agree1 Gl G μ' h' (H.set b y) ex sm (S.set b y):=fun ⟨o,p,q⟩ =>
  ⟨fun i cs hi=>by rw [H_set,H_set,if_neg (hgl i cs hi),if_neg (hgl i cs hi)];exact o i cs hi,fun e c x hc=>by
   have:c≠b:=fun e'=>by rw [e',hg] at hc;cases hc
   rw [H_set,H_set,if_neg this,if_neg this];exact p e c x hc,fun j x c e1 e2 e3=>by
   rw [H_set,H_set]
   by_cases e:c=b
   ·rw [if_pos e,if_pos e]
   ·rw [if_neg e,if_neg e]
    rcases ht j x c e1 e2 with r | ⟨z,r1,r2⟩
    ·exact (e r).elim
    ·exact q j z c r1 r2 e3⟩
 intro snaps
 induction snaps with
 | nil=>intro log ex sm _;simp [AgreeL]
 | cons S snaps ih =>
  intro log ex sm ha
  match log,ha with
  | [],ha=>exact one ha
  | none::_,ha=>exact one ha
  | some (l,m)::log,⟨h1,h2⟩=>exact ⟨one h1,ih h2⟩
theorem apart_mem:∀ {l m:List Nat},apartB l m=true→∀ i∈l,i ∉ m
 | [],m,_,i,hi=>by cases hi
 | x::l,m,h,i,hi=>by
  simp only [apartB,Bool.and_eq_true,Bool.not_eq_true',List.contains_eq_mem,decide_eq_false_iff_not] at h
  rcases List.mem_cons.1 hi with e | e
  ·rw [e];exact h.1
  ·exact apart_mem h.2 i e
theorem low_mem {m:Nat}:∀ {l:List Nat},lowB m l=true→∀ i∈l,i < m
 | [],_,i,hi=>by cases hi
 | x::l,h,i,hi=>by
  simp only [lowB,Bool.and_eq_true,decide_eq_true_eq] at h
  rcases List.mem_cons.1 hi with e | e
  ·rw [e];exact h.1
  ·exact low_mem h.2 i e
theorem may_apart {ids:List Nat} {fz:Bool}:∀ {log:List (Option ((List Nat × Bool) × VH))} {fresh:List Nat} {r:Nat},mayRead fresh log r ids fz=true→∀ i∈ids,i ∉ fresh
 | log,fresh,0,h=>apart_mem (by simpa [mayRead] using h)
 | [],fresh,r+1,h=>apart_mem (by simpa [mayRead] using h)
 | none::_,fresh,r+1,h=>by simp [mayRead] at h
 | some (l,m)::log,fresh,r+1,h=>by
  simp only [mayRead,Bool.and_eq_true] at h
  intro i hi hm
  exact may_apart h.2 i hi (List.mem_append_right _ hm)
theorem may_read {Gl:qzh} {G:Gz} {μ:Pm} {h:VH} {H:Heap} {fz:Bool}:∀ {snaps:List Heap} {log:List (Option ((List Nat × Bool) × VH))} {fresh ids:List Nat} {ex:Nat→Prop} {sm:Bool} {r:Nat},AgreeL Gl G μ h H ex sm log snaps→mayRead fresh log r ids fz=true→(∀ i,ex i→i∈fresh∨i ∉ ids)→(sm=false→fz=false)→snaps.length=log.length+1 →
  ∀ S∈snaps.take (r+1),∃ ex' sm',Agree1 Gl G μ h H ex' sm' S∧(∀ i∈ids,¬ex' i)∧(sm'=false→fz=false)
 | [],log,fresh,ids,ex,sm,r,_,_,_,_,hl,_,_=>by simp at hl
 | S::snaps,log,fresh,ids,ex,sm,0,ha,hm,hx,hs,hl,S',hS=>by
  simp only [List.take_succ_cons,List.take_zero,List.mem_singleton] at hS
  subst hS
  have h1:Agree1 Gl G μ h H ex sm S':=by
   match log,ha with
   | [],ha=>exact ha
   | none::_,ha=>exact ha
   | some (l,m)::log,⟨h1,_⟩=>exact h1
  exact ⟨ex,sm,h1,fun i hi e=>(hx i e).elim (may_apart hm i hi) (fun q=>q hi),hs⟩
 | S::snaps,log,fresh,ids,ex,sm,r+1,ha,hm,hx,hs,hl,S',hS=>by
  rw [List.take_succ_cons,List.mem_cons] at hS
  have h1:Agree1 Gl G μ h H ex sm S:=by
   match log,ha with
   | [],ha=>exact ha
   | none::_,ha=>exact ha
   | some (l,m)::log,⟨h1,_⟩=>exact h1
  rcases hS with e | e
  ·subst e
   exact ⟨ex,sm,h1,fun i hi e=>(hx i e).elim (may_apart hm i hi) (fun q=>q hi),hs⟩
  ·match log,ha,hm,hl with
   | [],ha,hm,hl =>
    have:snaps=[]:=by simpa using hl
    subst this
    simp at e
   | none::_,ha,hm,hl=>simp [mayRead] at hm
   | some (l,m)::log,⟨_,h2⟩,hm,hl =>
    simp only [mayRead,Bool.and_eq_true,Bool.or_eq_true,Bool.not_eq_true'] at hm
    refine may_read h2 hm.2 (fun i hi => ?_) (fun q => ?_) (by simpa using hl) S' e
    ·rcases hi with hi | hi | hi
     ·exact .inl (List.mem_append_left _ hi)
     ·exact .inr fun q=>by have:=low_mem hm.1.1 i q;omega
     ·exact (hx i hi).imp_left (List.mem_append_right _)
    ·simp only [Bool.and_eq_false_iff] at q
     rcases q with q | q
     ·exact hs q
     ·rcases hm.1.2 with w | w
      ·rw [q] at w;cases w
      ·exact w
mutual
theorem refs_nofz {Gl:qzh} {G:Gz} {μ:Pm}:∀ (v:VV) {a:AV},fzB v=false→refsOK Gl v=true→VR G μ v a→∀ b∈refsA a,(∃ i∈idsV v,μ i=some b)∨∃ cs,qzf Gl b=some cs
 | .bool _,a,_,_,k,b,hb=>by simp only [VR] at k;subst k;simp [refsA] at hb
 | .int _ _,a,_,_,k,b,hb=>by simp only [VR] at k;subst k;simp [refsA] at hb
 | .str _,a,_,_,k,b,hb=>by simp only [VR] at k;subst k;simp [refsA] at hb
 | .nilP,a,_,_,k,b,hb=>by simp only [VR] at k;subst k;simp [refsA] at hb
 | .ptr i o,a,_,_,⟨c,h,e⟩,b,hb=>by subst e;simp only [refsA,List.mem_singleton] at hb;subst hb;exact .inl ⟨i,by simp [idsV],h⟩
 | .gptr i o,a,_,r,k,b,hb=>by
  simp only [VR] at k;subst k
  simp only [refsA,List.mem_singleton] at hb;subst hb
  simp only [refsOK,inGl,Option.isSome_iff_exists] at r
  exact .inr r
 | .fptr cs o,a,z,_,_,b,hb=>by simp [fzB] at z
 | .nilS,a,_,_,k,b,hb=>by simp only [VR] at k;subst k;simp [refsA] at hb
 | .slice i o n e c,a,_,_,⟨d,h,e'⟩,b,hb=>by subst e';simp only [refsA,List.mem_singleton] at hb;subst hb;exact .inl ⟨i,by simp [idsV],h⟩
 | .fsl cs n e,a,z,_,_,b,hb=>by simp [fzB] at z
 | .nilM,a,_,_,k,b,hb=>by simp only [VR] at k;subst k;simp [refsA] at hb
 | .map i,a,_,_,⟨d,h,e'⟩,b,hb=>by subst e';simp only [refsA,List.mem_singleton] at hb;subst hb;exact .inl ⟨i,by simp [idsV],h⟩
 | .fmap _ _,a,z,_,_,b,hb=>by simp [fzB] at z
 | .func f x y,a,z,r,⟨p,q,e,k1,k2⟩,b,hb=>by
  subst e
  simp only [refsOK,Bool.and_eq_true] at r
  simp only [fzB,Bool.or_eq_false_iff] at z
  simp only [refsA,List.mem_append] at hb
  rcases hb with hb | hb
  ·exact (refss_nofz x z.1 r.1 k1 b hb).imp_left (fun ⟨i,h1,h2⟩=>⟨i,by simp [idsV,h1],h2⟩)
  ·exact (refss_nofz y z.2 r.2 k2 b hb).imp_left (fun ⟨i,h1,h2⟩=>⟨i,by simp [idsV,h1],h2⟩)
 | .nilF,a,_,_,k,b,hb=>by simp only [VR] at k;subst k;simp [refsA] at hb
 | .iface t v,a,z,r,⟨y,e,k⟩,b,hb=>by subst e;exact refs_nofz v z r k b (by simpa [refsA] using hb)
 | .nilI,a,_,_,k,b,hb=>by simp only [VR] at k;subst k;simp [refsA] at hb
 | .agg cs,a,z,r,⟨y,e,k⟩,b,hb=>by subst e;exact refss_nofz cs z r k b (by simpa [refsA] using hb)
 | .tuple cs,a,z,r,⟨y,e,k⟩,b,hb=>by subst e;exact refss_nofz cs z r k b (by simpa [refsA] using hb)
theorem refss_nofz {Gl:qzh} {G:Gz} {μ:Pm}:∀ (v:List VV) {a:List AV},fzL v=false→refsOKL Gl v=true→VRs G μ v a→∀ b∈refsAs a,(∃ i∈idsL v,μ i=some b)∨∃ cs,qzf Gl b=some cs
 | [],a,_,_,k,b,hb=>by simp only [VRs] at k;subst k;simp [refsAs] at hb
 | v::l,a,z,r,⟨y,ys,e,k1,k2⟩,b,hb=>by
  subst e
  simp only [refsOKL,Bool.and_eq_true] at r
  simp only [fzL,Bool.or_eq_false_iff] at z
  simp only [refsAs,List.mem_append] at hb
  rcases hb with hb | hb
  ·exact (refs_nofz v z.1 r.1 k1 b hb).imp_left (fun ⟨i,h1,h2⟩=>⟨i,by simp [idsL,h1],h2⟩)
  ·exact (refss_nofz l z.2 r.2 k2 b hb).imp_left (fun ⟨i,h1,h2⟩=>⟨i,by simp [idsL,h1],h2⟩)
end
theorem live_mem {h:VH}:∀ {l:List Nat},liveB h l=true→∀ i∈l,∃ x,h.get i=some x
 | [],_,i,hi=>by cases hi
 | x::l,hl,i,hi=>by
  simp only [liveB,Bool.and_eq_true,Option.isSome_iff_exists] at hl
  rcases List.mem_cons.1 hi with e | e
  ·rw [e];exact hl.1
  ·exact live_mem hl.2 i e
theorem VR.det {G G':Gz} {μ ν:Pm} (hm:μ.le ν):∀ (v:VV) {a a':AV},fzB v=false→VR G μ v a→VR G' ν v a'→a=a':=by
 have named:∀ {i b b':Nat},μ i=some b→ν i=some b'→b=b':=fun {i b b'} h1 h2=>by
  have:=hm _ _ h1
  rw [h2] at this;exact (Option.some.inj this).symm
 intro v
 refine VV.rec (motive_1:=fun v=>∀ {a a':AV},fzB v=false→VR G μ v a→VR G' ν v a'→a=a') (motive_2:=fun vs=>∀ {as as':List AV},fzL vs=false→VRs G μ vs as→VRs G' ν vs as'→as=as') ?_ ?_ ?_ ?_ ?_ ?_ ?_ ?_ ?_ ?_ ?_ ?_ ?_ ?_ ?_ ?_ ?_ ?_ ?_ ?_ ?_ v
 ·intro b a a' _ h1 h2;simp only [VR] at h1 h2;rw [h1,h2]
 ·intro k n a a' _ h1 h2;simp only [VR] at h1 h2;rw [h1,h2]
 ·intro s a a' _ h1 h2;simp only [VR] at h1 h2;rw [h1,h2]
 ·intro a a' _ h1 h2;simp only [VR] at h1 h2;rw [h1,h2]
 ·rintro i o a a' _ ⟨b,h1,rfl⟩ ⟨b',h2,rfl⟩;rw [named h1 h2]
 ·intro i o a a' _ h1 h2;simp only [VR] at h1 h2;rw [h1,h2]
 ·intro cs o _ a a' h;simp [fzB] at h
 ·intro a a' _ h1 h2;simp only [VR] at h1 h2;rw [h1,h2]
 ·rintro i o n e c a a' _ ⟨b,h1,rfl⟩ ⟨b',h2,rfl⟩;rw [named h1 h2]
 ·intro cs n e _ a a' h;simp [fzB] at h
 ·intro a a' _ h1 h2;simp only [VR] at h1 h2;rw [h1,h2]
 ·rintro i a a' _ ⟨b,h1,rfl⟩ ⟨b',h2,rfl⟩;rw [named h1 h2]
 ·intro ks vs _ _ a a' h;simp [fzB] at h
 ·rintro f x y ih1 ih2 a a' h ⟨p,q,rfl,k1,k2⟩ ⟨p',q',rfl,k3,k4⟩
  simp only [fzB,Bool.or_eq_false_iff] at h
  rw [ih1 h.1 k1 k3,ih2 h.2 k2 k4]
 ·intro a a' _ h1 h2;simp only [VR] at h1 h2;rw [h1,h2]
 ·rintro t x ih a a' h ⟨p,rfl,k1⟩ ⟨p',rfl,k2⟩
  simp only [fzB] at h
  rw [ih h k1 k2]
 ·intro a a' _ h1 h2;simp only [VR] at h1 h2;rw [h1,h2]
 ·rintro cs ih a a' h ⟨p,rfl,k1⟩ ⟨p',rfl,k2⟩
  simp only [fzB] at h
  rw [ih h k1 k2]
 ·rintro cs ih a a' h ⟨p,rfl,k1⟩ ⟨p',rfl,k2⟩
  simp only [fzB] at h
  rw [ih h k1 k2]
 ·intro as as' _ h1 h2;simp only [VRs] at h1 h2;rw [h1,h2]
 ·rintro x xs ih1 ih2 as as' h ⟨p,q,rfl,k1,k2⟩ ⟨p',q',rfl,k3,k4⟩
  simp only [fzL,Bool.or_eq_false_iff] at h
  rw [ih1 h.1 k1 k3,ih2 h.2 k2 k4]
def OldR (μ:Pm) (m:VH) (S:Heap):Prop:=∃ G ν,Pm.le ν μ∧∀ i x,m.get i=some x→∃ b y,ν i=some b∧S.get b=some y∧BlkR G ν x y
def OldL (μ:Pm):List (Option ((List Nat × Bool) × VH))→List Heap→Prop
 | some (_,m)::log,S::snaps=>OldR μ m S∧OldL μ log snaps
 | none::log,S::snaps=>OldL μ log snaps
 | _,_=>True
theorem OldL.mono {μ ν:Pm} (hm:μ.le ν):∀ {log:List (Option ((List Nat × Bool) × VH))} {snaps:List Heap},OldL μ log snaps→OldL ν log snaps
 | [],_,_=>trivial
 | none::_,[],_=>trivial
 | some _::_,[],_=>trivial
 | none::log,S::snaps,h=>OldL.mono (log:=log) (snaps:=snaps) hm h
 | some (_,m)::log,S::snaps,⟨⟨G,u,h1,h2⟩,h3⟩=>⟨⟨G,u,Pm.le_trans h1 hm,h2⟩,OldL.mono (log:=log) (snaps:=snaps) hm h3⟩
theorem OldL.alloc {μ:Pm} {b:Nat} {y:ABlk} (hb:∀ i,μ i≠some b):∀ {log:List (Option ((List Nat × Bool) × VH))} {snaps:List Heap},OldL μ log snaps→OldL μ log (snaps.map fun S=>S.set b y)
 | [],_,_=>trivial
 | none::_,[],_=>trivial
 | some _::_,[],_=>trivial
 | none::log,S::snaps,h=>OldL.alloc (log:=log) (snaps:=snaps) hb h
 | some (_,m)::log,S::snaps,⟨⟨G,u,h1,h2⟩,h3⟩=>⟨⟨G,u,h1,fun i x hx=>by
   obtain ⟨c,z,p1,p2,p3⟩:=h2 i x hx
   exact ⟨c,z,p1,by rw [H_set,if_neg (fun e=>hb i (by rw [←e];exact h1 _ _ p1))];exact p2,p3⟩⟩,OldL.alloc (log:=log) (snaps:=snaps) hb h3⟩
theorem VRs.nth {G:Gz} {μ:Pm}:∀ {cs:List VV} {as:List AV} {o:Nat} {v:VV},VRs G μ cs as→cs[o]?=some v→∃ a,as[o]?=some a∧VR G μ v a
 | [],_,o,v,_,h=>by simp at h
 | c::cs,_,0,v,⟨y,ys,rfl,k1,k2⟩,h=>by
  simp only [List.getElem?_cons_zero,Option.some.injEq] at h;subst h
  exact ⟨y,rfl,k1⟩
 | c::cs,_,o+1,v,⟨y,ys,rfl,k1,k2⟩,h=>by
  simp only [List.getElem?_cons_succ] at h
  obtain ⟨a,h1,h2⟩:=VRs.nth k2 h
  exact ⟨a,by simpa using h1,h2⟩
theorem old_read {μ:Pm} {G:Gz} {i o:Nat} {v:VV} {b:Nat} {a:AV} (hi:μ i=some b) (hz:fzB v=false) (hv:VR G μ v a):∀ {log:List (Option ((List Nat × Bool) × VH))} {snaps:List Heap} {r:Nat},oldC i o v log r→OldL μ log snaps→snaps.length=log.length→∀ S∈snaps.take r,rop (.load none) [.ptr (some (b,o))] S=some a
 | _,_,0,_,_,_,S,hS=>by simp at hS
 | [],snaps,r+1,_,_,hl,S,hS=>by
  have:snaps=[]:=by simpa using hl
  subst this;simp at hS
 | none::_,_,r+1,h,_,_,_,_=>by simp [oldC] at h
 | some (l,m)::log,[],r+1,_,_,hl,S,hS=>by simp at hS
 | some (l,m)::log,S0::snaps,r+1,⟨h1,h2⟩,⟨⟨G',u,q1,q2⟩,q3⟩,hl,S,hS=>by
  rw [List.take_succ_cons,List.mem_cons] at hS
  rcases hS with e | e
  ·subst e
   split at h1
   ·rename_i cs ro hg
    obtain ⟨c,y,p1,p2,⟨as,rw,st,rfl,p3,_⟩⟩:=q2 i _ hg
    have hc:c=b:=by
     have:=q1 _ _ p1
     rw [hi] at this;exact (Option.some.inj this).symm
    subst hc
    obtain ⟨a',r1,r2⟩:=p3.nth h1
    have:=VR.det q1 v hz r2 hv
    subst this
    simp only [rop,p2,r1]
    first | rfl | simp [partA,r1]
   ·exact h1.elim
  ·exact old_read hi hz hv h2 q3 (by simpa using hl) S e
structure DInv (Gl:qzh) (base cnt:Nat) (G:Gz) (μ:Pm) (h:VH) (H:Heap) (used fresh:List Nat) (log:List (Option ((List Nat × Bool) × VH))) (snaps:List Heap):Prop where
 len:snaps.length=log.length+1
 agree:AgreeL Gl G μ h H (· ∈ fresh) true log snaps
 free:∀ r,r < cnt→used.contains r=false→G (base+r)=none∧∀ i,μ i≠some (base+r)
 top:base+cnt≤H.next
 old:OldL μ log snaps.tail
 head:snaps.head?=some H
theorem wpD_sound {E:Env} {Gl:qzh} {base cnt:Nat}:∀ {l:List (AOp × Nat)} {G:Gz} {μ:Pm} {h:VH} {H:Heap} {T:VF} {TF:Fr} {used fresh:List Nat} {log:List (Option ((List Nat × Bool) × VH))} {snaps:List Heap} {K:VF→VH→Prop},
  wpD E Gl cnt l T h used fresh log K→SR Gl G μ h H→FrR G μ T TF→DInv Gl base cnt G μ h H used fresh log snaps →
  ∃ N T' h' G' μ' TF' H',(∀ M,N≤M→runD (callN E M) base l TF H snaps=some (TF',H'))∧SR Gl G' μ' h' H'∧FrR G' μ' T' TF'∧Pr base G μ h H G' μ' h' H'∧K T' h'
 | [],G,μ,h,H,T,TF,used,fresh,log,snaps,K,hw,s,f,d=>⟨0,T,h,G,μ,TF,H,fun M _=>rfl,s,f,Pr.refl _ _ _ _ _,hw⟩
 | (o,r)::l,G,μ,h,H,T,TF,used,fresh,log,snaps,K,hw,s,f,d=>by
  unfold wpD at hw
  split at hw
  ·exact hw.elim
  ·rename_i hg
   obtain ⟨N,T',h',G',μ',TF',H',c1,c⟩:=wpD_sound hw s (f.put o.dst undef_rel) d
   exact ⟨N,T',h',G',μ',TF',H',fun M hM=>by simp only [runD,stepD,want_rel f hg];exact c1 M hM,c⟩
  ·rename_i hg
   have hg':=want_rel f hg
   split at hw
   ·exact hw.elim
   ·rename_i vs hvs
    obtain ⟨as,ha,k⟩:=opds_rel f hvs
    split at hw
    ·rename_i q hk
     split at hw<;>try (cases hw;done)
     rename_i v hv
     obtain ⟨a,h1,h2⟩:=pop_rel hv k
     obtain ⟨N,T',h',G',μ',TF',H',c1,c⟩:=wpD_sound hw s (f.put o.dst h2) d
     exact ⟨N,T',h',G',μ',TF',H',fun M hM=>by simp only [runD,stepD,hg',ha,hk,h1];exact c1 M hM,c⟩
    ·rename_i q hk
     obtain ⟨hok,hw⟩:=hw
     rcases hok with ⟨m1,m2,m3⟩ | hold
     ·obtain ⟨v,a,h1,h2,h3⟩:=wpR_sound hw s k
      have hat:ropAt q as (snaps.take (r+1))=some a:=by
       refine ropAt_all (fun e => ?_) (fun S hS => ?_)
       ·have:=d.len
        cases snaps with
        | nil=>simp at this
        | cons S snaps=>simp at e
       ·obtain ⟨ex',sm',⟨g0,g1,g2⟩,g3,g4⟩:=may_read d.agree m1 (fun i hi => .inl hi) (fun e=>by cases e) d.len S hS
        rw [rop_agree (H:=H) (fun b hb => ?_)]
        ·exact h1
        ·cases hsm:sm' with
         | true =>
          rcases refss_rel s.w vs m3 k b hb with ⟨i,q1,q2⟩ | ⟨x,q1⟩
          ·obtain ⟨x,hx⟩:=live_mem m2 i q1
           exact g2 i x b hx q2 (g3 i q1)
          ·exact g1 hsm b x q1
         | false =>
          rcases refss_nofz (Gl:=Gl) vs (g4 hsm) m3 k b hb with ⟨i,q1,q2⟩ | ⟨x,q1⟩
          ·obtain ⟨x,hx⟩:=live_mem m2 i q1
           exact g2 i x b hx q2 (g3 i q1)
          ·exact g0 b x q1
      obtain ⟨N,T',h',G',μ',TF',H',c1,c⟩:=wpD_sound h3 s (f.put o.dst h2) d
      exact ⟨N,T',h',G',μ',TF',H',fun M hM=>by simp only [runD,stepD,hg',ha,hk,hat];exact c1 M hM,c⟩
     ·unfold okOld at hold
      split at hold
      ·rename_i i off
       split at hold
       ·rename_i v hv
        obtain ⟨z1,z2⟩:=hold
        have h3:wpD E Gl cnt l (putV T o.dst v) h used fresh log K:=by
         unfold wpR at hw
         rw [hv] at hw
         exact hw
        obtain ⟨a,h1,h2⟩:=rop_rel s hv k
        obtain ⟨y,rfl,b,hb,rfl⟩:=VRs.one k
        have hat:ropAt (.load none) [.ptr (some (b,off))] (snaps.take (r+1))=some a:=by
         have hl:=d.len
         have hh:=d.head
         have ho:=d.old
         cases snaps with
         | nil=>simp at hl
         | cons S0 rest =>
          refine ropAt_all (by simp) (fun S hS => ?_)
          rw [List.take_succ_cons,List.mem_cons] at hS
          rcases hS with e | e
          ·subst e
           simp only [List.head?_cons,Option.some.injEq] at hh
           subst hh
           exact h1
          ·exact old_read hb z1 h2 z2 ho (by simpa using hl) S e
        obtain ⟨N,T',h',G',μ',TF',H',c1,c⟩:=wpD_sound h3 s (f.put o.dst h2) d
        exact ⟨N,T',h',G',μ',TF',H',fun M hM=>by simp only [runD,stepD,hg',ha,hk,hat];exact c1 M hM,c⟩
       ·exact hold.elim
      ·exact hold.elim
    ·rename_i q hk
     obtain ⟨m1,m2,hw⟩:=hw
     split at hw<;>try (cases hw;done)
     rename_i x res hv
     obtain ⟨y,re,h1,h2,h3,h4⟩:=nop_rel hv k
     obtain ⟨f1,f2⟩:=d.free r m1 m2
     have top:=d.top
     obtain ⟨p1,p2⟩:=alloc_rel (n:=base) (b:=base+r) (H':=H.set (base+r) y) s h2 h3 (H_set H _ _) (Nat.le_refl _) (show base+r < H.next by omega) f1 f2 (by omega)
     have oldm:∀ j c,j≠h.next→setM μ h.next (base+r) j=some c→μ j=some c:=fun j c e q=>by unfold setM at q;rw [if_neg e] at q;exact q
     have d':DInv Gl base cnt G (setM μ h.next (base+r)) (h.push x) (H.set (base+r) y) (r::used) fresh log (snaps.map fun S=>S.set (base+r) y):=by
      refine ⟨by rw [List.length_map];exact d.len,AgreeL.alloc f1 (fun i cs hi e => ?_) (fun j z c e1 e2 => ?_) d.agree,fun r' hr' hu => ?_,d.top,?_,by rw [List.head?_map,d.head];rfl⟩
      ·obtain ⟨as,g1,_⟩:=s.w.glob i cs hi
       rw [e,f1] at g1;cases g1
      ·by_cases e:j=h.next
       ·left
        subst e
        unfold setM at e2
        rw [if_pos rfl] at e2
        exact (Option.some.inj e2).symm
       ·rw [get_push,if_neg e] at e1
        exact .inr ⟨z,e1,oldm j c e e2⟩
      ·simp only [List.contains_cons,Bool.or_eq_false_iff,beq_eq_false_iff_ne] at hu
       obtain ⟨g1,g2⟩:=d.free r' hr' hu.2
       refine ⟨g1,fun i e => ?_⟩
       by_cases e':i=h.next
       ·subst e'
        unfold setM at e
        rw [if_pos rfl] at e
        have:=Option.some.inj e
        have:=hu.1
        omega
       ·exact g2 i (oldm i _ e' e)
      ·rw [←List.map_tail]
       exact (OldL.alloc f2 d.old).mono p2.m
     obtain ⟨N,T',h',G',μ',TF',H',c1,c2,c3,c4,c5⟩:=wpD_sound hw p1 ((f.mono p2.g p2.m).put o.dst (h4 G _ h.next (base+r) (by unfold setM;rw [if_pos rfl]))) d'
     exact ⟨N,T',h',G',μ',TF',H',fun M hM=>by simp only [runD,stepD,hg',ha,hk,h1];exact c1 M hM,c2,c3,p2.trans c4 (Nat.le_refl _),c5⟩
    ·rename_i q hk
     obtain ⟨N,a,H1,G1,μ1,v,h1,e,c1,c2,c3,c4,c5,c6⟩:=wpW_sound hw s k
     have top:=d.top
     have d':DInv Gl base cnt G1 μ1 h1 H1 used [] (e.map (fun l=>((l.1++fresh,l.2),h))::log) (H1::snaps):=by
      refine ⟨by simp [d.len],?_,fun r' hr' hu => ?_,Nat.le_trans d.top c3.next,?_,rfl⟩
      ·have gsame:∀ i cs,qzf Gl i=some cs→H1.get i=H.get i:=fun i cs hi=>by
        obtain ⟨as,g1,_⟩:=s.w.glob i cs hi
        rw [(c2.w.at_ _ _ (c3.g _ _ g1)).1,(s.w.at_ _ _ g1).1]
       cases e with
       | none=>exact ⟨fun i cs _=>rfl,fun _ b x _=>rfl,fun j x c _ _ _=>rfl⟩
       | some t =>
        obtain ⟨g1,g2⟩:=c6
        refine ⟨⟨fun i cs _=>rfl,fun _ b x _=>rfl,fun j x c _ _ _=>rfl⟩,AgreeL.step (T:=fun j=>j∈t.1∨h.next≤j) (ts:=t.2) gsame (fun e b x hb => ?_) (fun j x c e1 e2 e3 => ?_) (fun i hi => ?_) (fun e => ?_) d.agree⟩
        ·have:=g1 e;subst this
         exact ⟨hb,by rw [(c2.w.at_ b x hb).1,(s.w.at_ b x hb).1]⟩
        ·have e3':=not_or.1 e3
         exact g2 j x c e1 e2 (by omega) e3'.1
        ·simp only [List.mem_append]
         rcases hi with (hi | hi) | hi
         ·exact .inl (.inl hi)
         ·exact .inr (.inl hi)
         ·exact .inl (.inr hi)
        ·simpa using e
      ·obtain ⟨g1,g2⟩:=d.free r' hr' hu
       refine ⟨?_,fun i q => ?_⟩
       ·cases eq:G1 (base+r') with
        | none=>rfl
        | some z =>
         rcases c3.gnew _ _ eq with q | q | ⟨i,x,_,_,q⟩
         ·rw [g1] at q;cases q
         ·omega
         ·exact (g2 i q).elim
       ·rcases c3.mnew _ _ q with q | q
        ·exact g2 i q
        ·omega
      ·have hl:=d.len
       have hh:=d.head
       have ho:=d.old
       cases snaps with
       | nil=>simp at hl
       | cons S0 rest =>
        simp only [List.head?_cons,Option.some.injEq] at hh
        subst hh
        have ho':=ho.mono c3.m
        cases e with
        | none=>exact ho'
        | some t=>exact ⟨⟨G,μ,c3.m,fun i x hx=>by
          obtain ⟨b,y,p1,p2,p3,_⟩:=s.blk i x hx
          exact ⟨b,y,p1,p2,p3⟩⟩,ho'⟩
     obtain ⟨N2,T',h',G',μ',TF',H',e1,e2,e3,e4,e5⟩:=wpD_sound c5 c2 ((f.mono c3.g c3.m).put o.dst c4) d'
     exact ⟨max N N2,T',h',G',μ',TF',H',fun M hM=>by simp only [runD,stepD,hg',ha,hk,c1 M (by omega)];exact e1 M (by omega),e2,e3,(c3.le (by omega)).trans e4 (Nat.le_refl _),e5⟩
theorem SR.reserve {Gl:qzh} {G:Gz} {μ:Pm} {h:VH} {H:Heap} (s:SR Gl G μ h H) (n:Nat):SR Gl G μ h (H.reserve n) :=
 ⟨⟨fun b x q=>⟨(s.w.at_ b x q).1,by have:=(s.w.at_ b x q).2;simp only [Heap.reserve];omega⟩,s.w.glob⟩,s.blk,s.inj,fun i b q=>⟨(s.dom i b q).1,by have:=(s.dom i b q).2;simp only [Heap.reserve];omega⟩⟩
theorem wp_sound {E:Env} {Gl:qzh}:∀ (c:AC) {G:Gz} {μ:Pm} {h:VH} {H:Heap} {T:VF} {TF:Fr} {K:AEx→VF→VH→Prop},wp E Gl c T h K→SR Gl G μ h H→FrR G μ T TF →
  ∃ N x T' h' G' μ' TF' H',(∀ M,N≤M→∀ R,N≤R→exec (callN E M) R c TF H=some (x,TF',H'))∧SR Gl G' μ' h' H'∧FrR G' μ' T' TF'∧Pr H.next G μ h H G' μ' h' H'∧K x T' h'
 | .skip,G,μ,h,H,T,TF,K,hw,s,f=>⟨0,.normal,T,h,G,μ,TF,H,fun M _ R _=>rfl,s,f,Pr.refl _ _ _ _ _,hw⟩
 | .ops l,G,μ,h,H,T,TF,K,hw,s,f=>by
  obtain ⟨N,T',h',G',μ',TF',H',c1,c⟩:=wpOps_sound hw s f
  exact ⟨N,.normal,T',h',G',μ',TF',H',fun M hM R _=>by simp only [exec,c1 M hM],c⟩
 | .draw l,G,μ,h,H,T,TF,K,hw,s,f=>by
  have s1:=s.reserve (countN l)
  obtain ⟨N,T',h',G',μ',TF',H',c1,c2,c3,c4,c5⟩:=wpD_sound (base:=H.next) (snaps:=[H.reserve (countN l)]) hw s1 f ⟨rfl,⟨fun i cs _=>rfl,fun _ b x _=>rfl,fun j x c _ _ _=>rfl⟩,fun r _ _=>⟨(by
   cases e:G (H.next+r) with
   | none=>rfl
   | some z=>have:=(s.w.at_ _ _ e).2;omega),fun i e=>by have:=(s.dom _ _ e).2;omega⟩,Nat.le_refl _,trivial,rfl⟩
  refine ⟨N,.normal,T',h',G',μ',TF',H',fun M hM R _=>by simp only [exec,c1 M hM],c2,c3,⟨c4.g,c4.m,c4.hn,Nat.le_trans (by simp [Heap.reserve]) c4.next,fun b hb ho=>c4.keep b hb ho,c4.gnew,c4.own,c4.mnew⟩,c5⟩
 | .seq a b,G,μ,h,H,T,TF,K,hw,s,f=>by
  simp only [wp] at hw
  obtain ⟨N,x,T1,h1,G1,μ1,TF1,H1,c1,c2,c3,c4,c5⟩:=wp_sound a hw s f
  cases x with
  | normal =>
   obtain ⟨N2,x2,T2,h2,G2,μ2,TF2,H2,d1,d2,d3,d4,d5⟩:=wp_sound b c5 c2 c3
   exact ⟨max N N2,x2,T2,h2,G2,μ2,TF2,H2,fun M hM R hR=>by simp only [exec,c1 M (by omega) R (by omega)];exact d1 M (by omega) R (by omega),d2,d3,c4.trans d4 c4.next,d5⟩
  | exit i=>exact ⟨N,.exit i,T1,h1,G1,μ1,TF1,H1,fun M hM R hR=>by simp only [exec,c1 M hM R hR],c2,c3,c4,c5⟩
  | ret=>exact ⟨N,.ret,T1,h1,G1,μ1,TF1,H1,fun M hM R hR=>by simp only [exec,c1 M hM R hR],c2,c3,c4,c5⟩
 | .cond c a b,G,μ,h,H,T,TF,K,⟨t,h1,h2,h3⟩,s,f=>by
  obtain ⟨v,q1,q2⟩:=opd_rel f h1
  simp only [VR] at q2;subst q2
  cases t with
  | true =>
   obtain ⟨N,x,T',h',G',μ',TF',H',c1,c⟩:=wp_sound a (h2 rfl) s f
   exact ⟨N,x,T',h',G',μ',TF',H',fun M hM R hR=>by simp only [exec,q1];exact c1 M hM R hR,c⟩
  | false =>
   obtain ⟨N,x,T',h',G',μ',TF',H',c1,c⟩:=wp_sound b (h3 rfl) s f
   exact ⟨N,x,T',h',G',μ',TF',H',fun M hM R hR=>by simp only [exec,q1];exact c1 M hM R hR,c⟩
 | .block id a,G,μ,h,H,T,TF,K,hw,s,f=>by
  simp only [wp] at hw
  obtain ⟨N,x,T1,h1,G1,μ1,TF1,H1,c1,c2,c3,c4,c5⟩:=wp_sound a hw s f
  cases x with
  | normal=>exact ⟨N,.normal,T1,h1,G1,μ1,TF1,H1,fun M hM R hR=>by simp only [exec,c1 M hM R hR],c2,c3,c4,c5⟩
  | ret=>exact ⟨N,.ret,T1,h1,G1,μ1,TF1,H1,fun M hM R hR=>by simp only [exec,c1 M hM R hR],c2,c3,c4,c5⟩
  | exit i =>
   simp only at c5
   by_cases e:i=id
   ·rw [if_pos e] at c5
    exact ⟨N,.normal,T1,h1,G1,μ1,TF1,H1,fun M hM R hR=>by simp only [exec,c1 M hM R hR];rw [e,Nat.beq_refl],c2,c3,c4,c5⟩
   ·rw [if_neg e] at c5
    exact ⟨N,.exit i,T1,h1,G1,μ1,TF1,H1,fun M hM R hR=>by
     simp only [exec,c1 M hM R hR]
     have:Nat.beq i id=false:=by
      cases hb:Nat.beq i id with
      | false=>rfl
      | true=>exact (e (Nat.eq_of_beq_eq_true hb)).elim
     rw [this],c2,c3,c4,c5⟩
 | .loop a,G,μ,h,H,T,TF,K,hw,s,f=>by
  simp only [wp] at hw
  have:=hw (fun T h=>∀ {G:Gz} {μ:Pm} {H:Heap} {TF:Fr},SR Gl G μ h H→FrR G μ T TF →
   ∃ N x T' h' G' μ' TF' H',(∀ M,N≤M→∀ R,N≤R→∀ R',N≤R'→iter (exec (callN E M) R a) R' TF H=some (x,TF',H'))∧SR Gl G' μ' h' H'∧FrR G' μ' T' TF'∧Pr H.next G μ h H G' μ' h' H'∧K x T' h')
   (fun T h hw G μ H TF s f=>by
    obtain ⟨N,x,T1,h1,G1,μ1,TF1,H1,c1,c2,c3,c4,c5⟩:=wp_sound a hw s f
    cases x with
    | normal =>
     obtain ⟨N2,x2,T2,h2,G2,μ2,TF2,H2,d1,d2,d3,d4,d5⟩:=c5 c2 c3
     refine ⟨max N N2+1,x2,T2,h2,G2,μ2,TF2,H2,fun M hM R hR R' hR' => ?_,d2,d3,c4.trans d4 c4.next,d5⟩
     obtain ⟨R'',rfl⟩:∃ m,R'=m+1:=⟨R' - 1,by omega⟩
     simp only [iter,c1 M (by omega) R (by omega)]
     exact d1 M (by omega) R (by omega) R'' (by omega)
    | exit i =>
     refine ⟨N+1,.exit i,T1,h1,G1,μ1,TF1,H1,fun M hM R hR R' hR' => ?_,c2,c3,c4,c5⟩
     obtain ⟨R'',rfl⟩:∃ m,R'=m+1:=⟨R' - 1,by omega⟩
     simp only [iter,c1 M (by omega) R (by omega)]
    | ret =>
     refine ⟨N+1,.ret,T1,h1,G1,μ1,TF1,H1,fun M hM R hR R' hR' => ?_,c2,c3,c4,c5⟩
     obtain ⟨R'',rfl⟩:∃ m,R'=m+1:=⟨R' - 1,by omega⟩
     simp only [iter,c1 M (by omega) R (by omega)]) s f
  obtain ⟨N,x,T',h',G',μ',TF',H',c1,c⟩:=this
  exact ⟨N,x,T',h',G',μ',TF',H',fun M hM R hR=>by simp only [exec];exact c1 M hM R hR R hR,c⟩
 | .exit id,G,μ,h,H,T,TF,K,hw,s,f=>⟨0,.exit id,T,h,G,μ,TF,H,fun M _ R _=>rfl,s,f,Pr.refl _ _ _ _ _,hw⟩
 | .ret,G,μ,h,H,T,TF,K,hw,s,f=>⟨0,.ret,T,h,G,μ,TF,H,fun M _ R _=>rfl,s,f,Pr.refl _ _ _ _ _,hw⟩
def qzi:Nat→List VV→VF
 | _,[]=>[]
 | i,v::l=>(i,v)::qzi (i+1) l
theorem init_relV {G:Gz} {μ:Pm}:∀ {vs:List VV} {as:List AV} (i:Nat),VRs G μ vs as→FrR G μ (qzi i vs) (initT i as .nil)
 | vs,as,i,k=>fun n v hv=>by
  have key:∀ (vs:List VV) (i:Nat),qzf (qzi i vs) n=some v→i≤n∧vs[n - i]?=some v:=by
   intro vs
   induction vs with
   | nil=>intro i h;simp [qzi,qzf] at h
   | cons x vs ih =>
    intro i h
    simp only [qzi,qzf] at h
    by_cases e:i=n
    ·rw [if_pos e] at h
     subst e
     exact ⟨Nat.le_refl _,by simpa using h⟩
    ·rw [if_neg e] at h
     obtain ⟨h1,h2⟩:=ih (i+1) h
     refine ⟨by omega,?_⟩
     obtain ⟨m,hm⟩:∃ m,n - i=m+1:=⟨n - (i+1),by omega⟩
     rw [hm]
     have:n - (i+1)=m:=by omega
     rw [this] at h2
     simpa using h2
  obtain ⟨h1,h2⟩:=key vs i hv
  obtain ⟨a,h3,h4⟩:=VRs.get k _ _ h2
  refine ⟨a,?_,h4⟩
  rw [initT_get,if_pos ⟨h1,by have:=(List.getElem?_eq_some_iff.1 h3).1;omega⟩]
  exact h3
def resV (Gl:qzh) (T:VF) (h:VH):ARes→Option VV
 | .tmp t=>qzf T t
 | .cell t sz=>match qzf T t with
  | some v=>loadV Gl h sz [v]
  | none=>none
def ressV (Gl:qzh) (T:VF) (h:VH):List ARes→Option (List VV)
 | []=>some []
 | r::l=>match resV Gl T h r with
  | none=>none
  | some v=>match ressV Gl T h l with
   | none=>none
   | some vs=>some (v::vs)
def tupV:List VV→VV
 | [v]=>v
 | vs => .tuple vs
def finV (Gl:qzh) (res:List ARes) (T:VF) (h:VH):Option VV:=match ressV Gl T h res with
 | some vs=>some (tupV vs)
 | none=>none
theorem ress_rel {Gl:qzh} {G:Gz} {μ:Pm} {h:VH} {H:Heap} {T:VF} {TF:Fr} (s:SR Gl G μ h H) (f:FrR G μ T TF):∀ {res:List ARes} {vs:List VV},ressV Gl T h res=some vs→∃ as,ressA TF H res=some as∧VRs G μ vs as
 | [],vs,hv=>by simp only [ressV,Option.some.injEq] at hv;subst hv;exact ⟨[],rfl,rfl⟩
 | r::l,vs,hv=>by
  simp only [ressV] at hv
  split at hv<;>try (cases hv;done)
  rename_i v hr
  split at hv<;>try (cases hv;done)
  rename_i ws hw
  obtain rfl:=Option.some.inj hv
  obtain ⟨as,h1,h2⟩:=ress_rel s f hw
  have:∃ a,resA TF H r=some a∧VR G μ v a:=by
   cases r with
   | tmp t=>exact f t v hr
   | cell t sz =>
    simp only [resV] at hr
    split at hr<;>try (cases hr;done)
    rename_i p hp
    obtain ⟨a,q1,q2⟩:=f t p hp
    obtain ⟨b,q3,q4⟩:=load_rel s hr (VRs.cons q2 VRs.nil)
    exact ⟨b,by simp only [resA,q1];exact q3,q4⟩
  obtain ⟨a,q1,q2⟩:=this
  exact ⟨a::as,by simp only [ressA,q1,h1],VRs.cons q2 h2⟩
theorem tup_rel {G:Gz} {μ:Pm}:∀ {vs:List VV} {as:List AV},VRs G μ vs as→VR G μ (tupV vs) (tupA as)
 | [],_,k=>by simp only [VRs] at k;subst k;exact ⟨[],rfl,rfl⟩
 | [v],_,k=>by obtain ⟨a,rfl,k'⟩:=VRs.one k;exact k'
 | v::w::vs,_,⟨a,l,e,k1,b,l',e',k2,k3⟩=>by subst e';subst e;exact ⟨_,rfl,VRs.cons k1 (VRs.cons k2 k3)⟩
def Ends (Gl:qzh) (res:List ARes) (Q:VV→VH→Prop) (x:AEx) (T:VF) (h:VH):Prop :=
 match x with
 | .exit _=>False
 | _=>match finV Gl res T h with
  | some v=>Q v h
  | none=>False
theorem qzc {E:Env} {Gl:qzh} {f:Nat} {body:AC} {res:List ARes} (hE:E f=some (.code body res)) {args:List VV} {h:VH} {Q:VV→VH→Prop} (hw:wp E Gl body (qzi 0 args) h (Ends Gl res Q)) :
  CallsV E Gl f args h Q:=fun G μ H as s k=>by
 obtain ⟨N,x,T',h',G',μ',TF',H',c1,c2,c3,c4,c5⟩:=wp_sound body hw s (init_relV 0 k)
 unfold Ends at c5
 have hq:x≠AEx.exit 0∧∃ v,finV Gl res T' h'=some v∧Q v h':=by
  split at c5
  ·exact c5.elim
  ·rename_i hx
   refine ⟨fun e=>hx _ e,?_⟩
   split at c5
   ·rename_i v hv;exact ⟨v,hv,c5⟩
   ·exact c5.elim
 have hx:x = .normal∨x = .ret:=by
  cases x with
  | normal=>exact .inl rfl
  | ret=>exact .inr rfl
  | exit i=>exact c5.elim
 obtain ⟨_,v,hv,hQ⟩:=hq
 unfold finV at hv
 split at hv<;>try (cases hv;done)
 rename_i vs hvs
 obtain rfl:=Option.some.inj hv
 obtain ⟨bs,r1,r2⟩:=ress_rel c2 c3 hvs
 refine ⟨N+1,tupA bs,H',G',μ',_,h',fun M hM => ?_,c2,c4,tup_rel r2,hQ⟩
 obtain ⟨M',rfl⟩:∃ m,M=m+1:=⟨M - 1,by omega⟩
 have:=c1 M' (by omega) M' (by omega)
 rcases hx with rfl | rfl<;>simp only [callN,hE,this,r1]
def h0:VH:=⟨[],0⟩
theorem h0_get (i:Nat):h0.get i=none:=rfl
theorem SR.start {Gl:qzh} {G:Gz} {H:Heap} (w:GW Gl G H):SR Gl G noP h0 H :=
 ⟨w,fun i x q=>(by rw [h0_get] at q;cases q),fun i j x y b q=>(by rw [h0_get] at q;cases q),fun i b q=>(by cases q)⟩
theorem qzd {E:Env} {Gl:qzh} {f:Nat} {args:List VV} {v:VV} (hc:CallsV E Gl f args h0 (fun v0 h'=>∃ k v1,shutD k h'.get v0=some v1∧subV v1 v)):qzg E Gl f args v:=fun G H as w k=>by
 obtain ⟨N,a,H',G',μ',v0,h',c1,c2,c3,c4,n,v1,c5,c6⟩:=hc (SR.start w) k
 have own:∀ i b,μ' i=some b→H.next≤b:=fun i b q=>by
  rcases c3.mnew i b q with r | r
  ·cases r
  ·exact r
 open Classical in
 let G3:Gz:=fun b=>if ∃ i x,h'.get i=some x∧μ' i=some b then H'.get b else G' b
 have g3:∀ b x,G3 b=some x→(H'.get b=some x∧b < H'.next)∧(G' b=some x∨H.next≤b):=fun b x q=>by
  show _∧_
  change (if _ then _ else _)=_ at q
  split at q
  ·rename_i hb
   obtain ⟨i,y,e1,e2⟩:=hb
   exact ⟨⟨q,(c2.dom i b e2).2⟩,.inr (own i b e2)⟩
  ·exact ⟨c2.w.at_ b x q,.inl q⟩
 have le:G'.le G3:=fun b x q=>by
  show (if _ then _ else _)=_
  split
  ·exact (c2.w.at_ b x q).1
  ·exact q
 refine ⟨N,a,H',G3,c1,⟨fun b x q=>(g3 b x q).1,fun i cs q => ?_⟩,Gz.le_trans c3.g le,sub_rel _ c6 (shutD_rel c2 le (fun _ _ e=>e) (fun i x b e1 e2 => ?_) n v0 v1 a c5 c4),c3.next,fun b hb=>c3.keep b hb (fun ⟨i,x,e,_⟩=>by rw [h0_get] at e;cases e),fun b x q => ?_⟩
 ·obtain ⟨as,p1,p2⟩:=c2.w.glob i cs q
  exact ⟨as,le _ _ p1,VRs.mono le (Pm.le_refl _) _ _ p2⟩
 ·show (if _ then _ else _)=_
  rw [if_pos ⟨i,x,e1,e2⟩]
 ·rcases (g3 b x q).2 with r | r
  ·rcases c3.gnew b x r with r | r | ⟨i,y,e,_⟩
   ·exact .inl r
   ·exact .inr r
   ·rw [h0_get] at e;cases e
  ·exact .inr r
theorem own_sound {E:Env} {Gl:qzh} {f:Nat} {args:List VV} {cs:List VV} {o n e:Nat} {c:ACap} (hc:CallsV E Gl f args h0 (fun v0 h'=>∃ i ds,v0 = .slice i o n e c∧h'.get i=some (.cells ds false)∧closedL ds=true∧subL ds cs)):PureOwn E Gl f args cs o n e c:=fun G H as w k=>by
 obtain ⟨N,a,H',G',μ',v0,h',c1,c2,c3,c4,i,ds,rfl,c5,c6,c7⟩:=hc (SR.start w) k
 obtain ⟨b,hb,rfl⟩:=c4
 obtain ⟨b',y,h1,h2,⟨bs,rw,st,rfl,h3,h4,h5⟩,h6,h7⟩:=c2.blk _ _ c5
 rw [hb] at h1;obtain rfl:=Option.some.inj h1
 obtain rfl:=h4 rfl
 have own:H.next≤b:=by
  rcases c3.mnew i b hb with r | r
  ·cases r
  ·exact r
 refine ⟨N,b,st,bs,H',G',c1,c2.w,c3.g,h2,subs_rel _ c7 (VRs.closed _ _ _ c6 h3),h7 rfl,own,(c2.dom _ _ hb).2,c3.next,fun b hb=>c3.keep b hb (fun ⟨i,x,e,_⟩=>by rw [h0_get] at e;cases e),fun b x q => ?_⟩
 rcases c3.gnew b x q with r | r | ⟨i,y,e,_⟩
 ·exact .inl r
 ·exact .inr r
 ·rw [h0_get] at e;cases e
end
end Go.VL
