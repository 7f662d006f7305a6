/- The fast run: where the order is left open, what else may lie there. -/
import Derived.Test.YtlgkadhogiedoaaDoorFrL
set_option linter.unusedSimpArgs false
set_option linter.unusedVariables false
namespace Go.FR
noncomputable section
open Go
mutual
theorem beqA_eq:∀ {a b:AV},beqA a b=true→a=b
 | .bool a,b,h=>by cases b<;>simp [beqA] at h;subst h;rfl
 | .int _ _,b,h=>by cases b<;>simp [beqA] at h;obtain ⟨rfl,rfl⟩:=h;rfl
 | .str a,b,h=>by cases b<;>simp [beqA] at h;subst h;rfl
 | .ptr a,b,h=>by cases b<;>simp [beqA] at h;subst h;rfl
 | .slice a n c,b,h=>by cases b<;>simp [beqA] at h;obtain ⟨⟨rfl,rfl⟩,rfl⟩:=h;rfl
 | .map a,b,h=>by cases b<;>simp [beqA] at h;subst h;rfl
 | .func f a c,b,h=>by
  cases b<;>simp [beqA] at h
  obtain ⟨⟨rfl,h1⟩,h2⟩:=h
  rw [beqAs_eq h1,beqAs_eq h2]
 | .nilFunc,b,h=>by cases b<;>simp [beqA] at h;rfl
 | .iface t a,b,h=>by
  cases b<;>simp [beqA] at h
  obtain ⟨rfl,h1⟩:=h
  rw [beqA_eq h1]
 | .nilIface,b,h=>by cases b<;>simp [beqA] at h;rfl
 | .agg a,b,h=>by cases b<;>simp [beqA] at h;rw [beqAs_eq h]
 | .tuple a,b,h=>by cases b<;>simp [beqA] at h;rw [beqAs_eq h]
theorem beqAs_eq:∀ {a b:List AV},beqAs a b=true→a=b
 | [],b,h=>by cases b<;>simp [beqAs] at h;rfl
 | x::l,b,h=>by
  cases b<;>simp [beqAs] at h
  obtain ⟨h1,h2⟩:=h
  rw [beqA_eq h1,beqAs_eq h2]
end
theorem ropAt_all {q:ROp} {vs:List AV}:∀ {l:List Heap} {v:AV},ropAt q vs l=some v→∀ H∈l,rop q vs H=some v
 | [],v,h,H,hm=>by cases hm
 | [H0],v,h,H,hm=>by simp at hm;subst hm;exact h
 | H0::H1::l,v,h,H,hm=>by
  simp only [ropAt] at h
  split at h<;>try (cases h;done)
  rename_i x y hx hy
  split at h<;>simp at h
  rename_i hb
  subst h
  have:=beqA_eq hb
  subst this
  cases hm with
  | head=>exact hx
  | tail _ hm=>exact ropAt_all (l:=H1::l) hy H hm
mutual
def refsA:AV→List Nat
 | .ptr (some a)=>[a.1]
 | .slice (some a) _ _=>[a.1]
 | .map (some r)=>[r]
 | .func _ a b=>refsAs a++refsAs b
 | .iface _ v=>refsA v
 | .agg cs=>refsAs cs
 | .tuple cs=>refsAs cs
 | _=>[]
def refsAs:List AV→List Nat
 | []=>[]
 | v::l=>refsA v++refsAs l
end
theorem refs_get:∀ {l:List AV} {i:Nat} {v:AV},l[i]?=some v→∀ b∈refsA v,b∈refsAs l
 | [],i,v,h,b,hb=>by simp at h
 | x::l,0,v,h,b,hb=>by simp at h;subst h;simp [refsAs,hb]
 | x::l,i+1,v,h,b,hb=>by simp at h;simp [refsAs,refs_get h b hb]
theorem refs_drop:∀ (n:Nat) {l:List AV},∀ b∈refsAs (l.drop n),b∈refsAs l
 | 0,l,b,hb=>hb
 | n+1,[],b,hb=>by simpa using hb
 | n+1,x::l,b,hb=>by simp only [List.drop_succ_cons] at hb;simp [refsAs,refs_drop n b hb]
theorem refs_take:∀ (n:Nat) {l:List AV},∀ b∈refsAs (l.take n),b∈refsAs l
 | 0,l,b,hb=>by simp [refsAs] at hb
 | n+1,[],b,hb=>by simpa using hb
 | n+1,x::l,b,hb=>by
  simp only [List.take_succ_cons,refsAs,List.mem_append] at hb ⊢
  exact hb.imp id (refs_take n b)
theorem refs_part {l:List AV} {off:Nat} {sz:Option Nat} {v:AV} (h:partA l off sz=some v):∀ b∈refsA v,b∈refsAs l:=fun b hb=>by
 cases sz with
 | none=>exact refs_get h b hb
 | some n =>
  simp only [partA] at h
  split at h<;>try (cases h;done)
  obtain rfl:=Option.some.inj h
  simp only [refsA] at hb
  exact refs_drop _ b (refs_take _ b hb)
theorem pEq_agree {S H:Heap} {a a':Nat × Nat} (h1:S.get a.1=H.get a.1) (h2:S.get a'.1=H.get a'.1):pEq S a a'=pEq H a a':=by
 unfold pEq;rw [h1,h2]
theorem eqPtr_agree {S H:Heap} {x y:AV} (hx:∀ b∈refsA x,S.get b=H.get b) (hy:∀ b∈refsA y,S.get b=H.get b):eqPtr S x y=eqPtr H x y:=by
 unfold eqPtr
 split
 ·rename_i a b
  cases a<;>cases b<;>simp only
  exact pEq_agree (hx _ (by simp [refsA])) (hy _ (by simp [refsA]))
 ·rfl
theorem eqIf_agree {S H:Heap} {dyn:List Nat} {lit:Bool} {x y:AV} (hx:∀ b∈refsA x,S.get b=H.get b) (hy:∀ b∈refsA y,S.get b=H.get b):eqIf S dyn lit x y=eqIf H dyn lit x y:=by
 unfold eqIf
 split<;>try rfl
 rename_i t u v w
 split<;>try rfl
 split<;>try rfl
 split<;>try rfl
 rename_i a b
 exact pEq_agree (hx _ (by simp [refsA])) (hy _ (by simp [refsA]))
mutual
theorem aeq_agree {S H:Heap}:∀ (e:EqT) (x y:AV),(∀ b∈refsA x,S.get b=H.get b)→(∀ b∈refsA y,S.get b=H.get b)→aeq S e x y=aeq H e x y
 | .bool,x,y,_,_=>by simp only [aeq]
 | .int,x,y,_,_=>by simp only [aeq]
 | .str,x,y,_,_=>by simp only [aeq]
 | .ptr,x,y,hx,hy=>by simp only [aeq];exact eqPtr_agree hx hy
 | .nilS,x,y,_,_=>by simp only [aeq]
 | .nilM,x,y,_,_=>by simp only [aeq]
 | .nilF,x,y,_,_=>by simp only [aeq]
 | .iface dyn lit,x,y,hx,hy=>by simp only [aeq];exact eqIf_agree hx hy
 | .agg ps,x,y,hx,hy=>by
  simp only [aeq]
  split
  ·rename_i xs ys
   exact aeqs_agree ps xs ys (fun b hb=>hx b (by simpa [refsA] using hb)) (fun b hb=>hy b (by simpa [refsA] using hb))
  ·rfl
theorem aeqs_agree {S H:Heap}:∀ (ps:List (Nat × Option Nat × EqT)) (xs ys:List AV),(∀ b∈refsAs xs,S.get b=H.get b)→(∀ b∈refsAs ys,S.get b=H.get b)→aeqAll S ps xs ys=aeqAll H ps xs ys
 | [],xs,ys,_,_=>by simp only [aeqAll]
 | (off,sz,e)::ps,xs,ys,hx,hy=>by
  simp only [aeqAll]
  cases hu:partA xs off sz with
  | none=>rfl
  | some u =>
   cases hw:partA ys off sz with
   | none=>rfl
   | some w =>
    simp only
    rw [aeq_agree e u w (fun b hb=>hx b (refs_part hu b hb)) (fun b hb=>hy b (refs_part hw b hb)),aeqs_agree ps xs ys hx hy]
end
theorem cellsAt_agree {S H:Heap} {a:Nat × Nat} {n:Nat} (h:S.get a.1=H.get a.1):cellsAt S a n=cellsAt H a n:=by
 unfold cellsAt;rw [h]
theorem rop_agree {S H:Heap} {q:ROp} {as:List AV} (h:∀ b∈refsAs as,S.get b=H.get b):rop q as S=rop q as H:=by
 unfold rop
 split<;>try rfl
 ·rename_i hh sz b o
  rw [h b (by simp [refsAs,refsA])]
 ·rename_i hh neg e x y
  rw [aeq_agree e x y (fun b hb=>h b (by simp [refsAs,hb])) (fun b hb=>h b (by simp [refsAs,hb]))]
 ·rename_i hh ks ok zero m key
  cases m with
  | none=>rfl
  | some m=>simp only;rw [h m (by simp [refsAs,refsA])]
 ·rename_i hh m
  rw [h m (by simp [refsAs,refsA])]
 ·rename_i hh a n c
  rw [cellsAt_agree (h a.1 (by simp [refsAs,refsA]))]
mutual
theorem refs_dom {ι:Pl}:∀ (x:AV) {v:Value},VRel ι x v→∀ b∈refsA x,ι b≠none
 | .bool _,_,_,b,hb=>by simp [refsA] at hb
 | .int _ _,_,_,b,hb=>by simp [refsA] at hb
 | .str _,_,_,b,hb=>by simp [refsA] at hb
 | .ptr none,_,_,b,hb=>by simp [refsA] at hb
 | .ptr (some a),_,⟨j,hj,_⟩,b,hb=>by simp only [refsA,List.mem_singleton] at hb;subst hb;rw [hj];simp
 | .slice none _ _,_,_,b,hb=>by simp [refsA] at hb
 | .slice (some a) _ _,_,⟨j,p,m,hj,_⟩,b,hb=>by simp only [refsA,List.mem_singleton] at hb;subst hb;rw [hj];simp
 | .map none,_,_,b,hb=>by simp [refsA] at hb
 | .map (some r),_,⟨j,hj,_⟩,b,hb=>by simp only [refsA,List.mem_singleton] at hb;subst hb;rw [hj];simp
 | .func _ x y,_,⟨_,_,_,p,q⟩,b,hb=>by
  simp only [refsA,List.mem_append] at hb
  rcases hb with hb | hb
  ·exact refss_dom x p b hb
  ·exact refss_dom y q b hb
 | .nilFunc,_,_,b,hb=>by simp [refsA] at hb
 | .iface _ x,_,⟨_,_,q⟩,b,hb=>refs_dom x q b (by simpa [refsA] using hb)
 | .nilIface,_,_,b,hb=>by simp [refsA] at hb
 | .agg cs,_,⟨_,_,q,_⟩,b,hb=>refss_dom cs q b (by simpa [refsA] using hb)
 | .tuple cs,_,⟨_,_,q⟩,b,hb=>refss_dom cs q b (by simpa [refsA] using hb)
theorem refss_dom {ι:Pl}:∀ (x:List AV) {v:List Value},VRels ι x v→∀ b∈refsAs x,ι b≠none
 | [],_,_,b,hb=>by simp [refsAs] at hb
 | x::l,_,⟨_,_,_,p,q⟩,b,hb=>by
  simp only [refsAs,List.mem_append] at hb
  rcases hb with hb | hb
  ·exact refs_dom x p b hb
  ·exact refss_dom l q b hb
end
section
variable {P:Program} {C:Cfg} {ι κ:Pl} {w w':World} {B:Nat} {H H':Heap} {G:List (Nat × Nat)}
theorem frame_W {HL Hk HL':Heap} (hL:Rel B G HL ι w) (hsub:∀ id x,Hk.get id=some x→HL.get id=some x) (hnx:HL.next=Hk.next) (h':Rel B G H' κ w') (hk:Keep Hk ι w H' κ w')
  (hex:∀ id x,HL'.get id=some x→H'.get id=some x∨(HL.get id=some x∧Hk.get id=none∧x.rw=true)) (hn':HL'.next=H'.next):Rel B G HL' κ w'∧Keep HL ι w HL' κ w':=by
 have kle:=hk.le
 have kown:=hk.own
 have ksame:=hk.same
 have kdom:=hk.dom
 have notown:∀ id x j,HL.get id=some x→Hk.get id=none→x.rw=true→ι id=some j→¬Own Hk.get ι j.blk:=by
  intro id x j hx hn hr hj ⟨k,y,i,hy,hyr,hi,e⟩
  refine hL.h.apart id k x y j i hx (hsub _ _ hy) (fun q => ?_) hr hj hi e.symm
  subst q;rw [hn] at hy;cases hy
 have hown:∀ c,Own Hk.get ι c→Own HL.get ι c:=fun c ⟨k,y,i,hy,hyr,hi,e⟩=>⟨k,y,i,hsub _ _ hy,hyr,hi,e⟩
 refine ⟨⟨⟨fun k x hx => ?_,fun k l x y i j hx hy hne hr hi hj => ?_,fun k l x y i j hx hy hne hr hs hi hj => ?_⟩,h'.b,h'.g,fun k hk'=>h'.f k (by rw [←hn'];exact hk')⟩,hk.os,hk.tape,hk.output,hk.size,hk.le,fun c hc ho=>ksame c hc fun q=>ho (hown c q),fun c ho => ?_,by rw [hnx,hn'];exact hk.next,fun i hi=>hk.low i (by rw [←hnx];exact hi),fun i hi hn => ?_⟩
 ·rcases hex k x hx with q | ⟨q,q2,q3⟩
  ·exact h'.h.at_ k x q
  ·obtain ⟨j,hj,hb⟩:=hL.h.at_ k x q
   exact ⟨j,kle _ _ hj,hb.mono kle (ksame _ hb.lt (notown k x j q q2 q3 hj))⟩
 ·
  have cross:∀ k l x y i j,H'.get k=some x→HL.get l=some y→Hk.get l=none→y.rw=true→κ k=some i→κ l=some j→i.blk≠j.blk:=by
   intro k l x y i j hx hy hn hyr hi hj e
   obtain ⟨j0,hj0,hb0⟩:=hL.h.at_ l y hy
   have e1:j0=j:=by have:=kle _ _ hj0;rw [hj] at this;exact (Option.some.inj this).symm
   subst e1
   obtain ⟨i0,hi0,hb1⟩:=h'.h.at_ k x hx
   have e2:i0=i:=by rw [hi] at hi0;exact (Option.some.inj hi0).symm
   subst e2
   cases hxr:x.rw with
   | true =>
    rcases kown i0.blk ⟨k,x,i0,hx,hxr,hi,rfl⟩ with q | q
    ·exact notown l y j0 hy hn hyr hj0 (e ▸ q)
    ·have:=hb0.lt;omega
   | false =>
    have h1:=hb0.le hyr
    cases x with
    | cells cs rw str =>
     obtain ⟨_,c,t,fr,_,_,_,_,_,hlt⟩:=hb1
     have:=hlt (by simpa [ABlk.rw] using hxr)
     omega
    | map es=>simp [ABlk.rw] at hxr
  rcases hex k x hx with q | ⟨q,q2,q3⟩<;>rcases hex l y hy with r | ⟨r,r2,r3⟩
  ·exact h'.h.apart k l x y i j q r hne hr hi hj
  ·exact cross k l x y i j q r r2 r3 hi hj
  ·exact fun e=>cross l k y x j i r q q2 q3 hj hi e.symm
  ·obtain ⟨i0,hi0,_⟩:=hL.h.at_ k x q
   obtain ⟨j0,hj0,_⟩:=hL.h.at_ l y r
   have e1:i0=i:=by have:=kle _ _ hi0;rw [hi] at this;exact (Option.some.inj this).symm
   have e2:j0=j:=by have:=kle _ _ hj0;rw [hj] at this;exact (Option.some.inj this).symm
   subst e1;subst e2
   exact hL.h.apart k l x y i0 j0 q r hne hr hi0 hj0
 ·have nf:∀ x:ABlk,x.rw=true→x.fixed=true→False:=fun x h1 h2=>by
   cases x with
   | cells cs rw str=>cases rw<;>simp_all [ABlk.rw,ABlk.fixed]
   | map es=>simp [ABlk.fixed] at h2
  rcases hex k x hx with q | ⟨q,q2,q3⟩
  ·rcases hex l y hy with r | ⟨r,r2,r3⟩
   ·exact h'.h.fixed k l x y i j q r hne hr hs hi hj
   ·exact (nf y r3 hs).elim
  ·exact (nf x q3 hr).elim
 ·obtain ⟨k,x,i,hx,hxr,hi,e⟩:=ho
  rcases hex k x hx with q | ⟨q,q2,q3⟩
  ·rcases kown c ⟨k,x,i,q,hxr,hi,e⟩ with r | r
   ·exact .inl (hown c r)
   ·exact .inr r
  ·obtain ⟨i0,hi0,_⟩:=hL.h.at_ k x q
   have e1:i0=i:=by have:=kle _ _ hi0;rw [hi] at this;exact (Option.some.inj this).symm
   subst e1
   exact .inl ⟨k,x,i0,q,hxr,hi0,e⟩
 ·cases hx:HL'.get i with
  | none=>rfl
  | some x =>
   exfalso
   rcases hex i x hx with q | ⟨q,q2,q3⟩
   ·cases hy:Hk.get i with
    | none=>rw [kdom i (by rw [←hnx];exact hi) hy] at q;cases q
    | some y=>rw [hsub _ _ hy] at hn;cases hn
   ·rw [hn] at q;cases q
theorem frame_N {HL HL':Heap} {blk:ABlk} {id n:Nat} {H0:Heap} {ι0:Pl} {w0:World} (hL:Rel B G HL ι w) (hid:ι id=none) (hlt:id < HL.next) (hm:Made B ι κ id w w' blk)
  (hg:∀ k,HL'.get k=if k=id then some blk else HL.get k) (hn':HL'.next=HL.next) (hK:KeepB n H0 ι0 w0 HL ι w) (hn:n≤id):Rel B G HL' κ w'∧KeepB n H0 ι0 w0 HL' κ w'∧∃ j,κ=setP ι id j:=by
 obtain ⟨j,rfl,hj,hb⟩:=hm.is
 have le:ι.le (setP ι id j):=setP_le hid
 have h1:Rel B G HL' (setP ι id j) w':=by
  refine ⟨hL.h.change le id j (setP_same _ _ _) (fun c hc hlt=>hm.same c hlt) (fun l y hl hy => ?_) (fun y hy => ?_),by rw [hm.size];have:=hL.b;omega,fun n i h => ?_,fun l hl => ?_⟩
  ·rw [hg,if_neg hl] at hy
   refine ⟨hy,fun i hi e => ?_⟩
   obtain ⟨i',hi',hb'⟩:=hL.h.at_ _ _ hy
   rw [hi] at hi';obtain rfl:=Option.some.inj hi'
   have:=hb'.lt
   omega
  ·rw [hg,if_pos rfl] at hy
   simp only [Option.some.injEq] at hy;subst hy
   exact ⟨hb,hm.rw⟩
  ·obtain ⟨s,hs⟩:=hL.g n i h
   exact ⟨s,le _ _ hs⟩
  ·rw [hn'] at hl
   rw [setP_other _ _ _ (by omega)]
   exact hL.f l hl
 refine ⟨h1,?_,j,rfl⟩
 refine ⟨hm.os.trans hK.os,hm.tape.trans hK.tape,hm.output.trans hK.output,by rw [hm.size];have:=hK.size;omega,Pl.le_trans hK.le le,fun c hc ho => ?_,fun c ho => ?_,by rw [hn'];exact hK.next,fun i hi => ?_,fun i hi q => ?_⟩
 ·rw [hm.same c (Nat.lt_of_lt_of_le hc hK.size),hK.same c hc ho]
 ·obtain ⟨l,y,i,hy,hyr,hi,e⟩:=ho
  rw [hg] at hy
  by_cases hl:l=id
  ·subst hl
   rw [setP_same] at hi
   obtain rfl:=Option.some.inj hi
   have:=hK.size
   right;omega
  ·rw [if_neg hl] at hy
   rw [setP_other _ _ _ hl] at hi
   exact hK.own c ⟨l,y,i,hy,hyr,hi,e⟩
 ·rw [setP_other _ _ _ (by omega)];exact hK.low i hi
 ·rw [hg,if_neg (by omega)];exact hK.dom i hi q
end
end
end Go.FR
