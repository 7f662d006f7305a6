/- The fast run: a region whose order is left open. -/
import Derived.Test.YtlgkadhogiedoaaDoorFrO
set_option linter.unusedSimpArgs false
set_option linter.unusedVariables false
namespace Go.FR
noncomputable section
open Go
def openN (n:Nat) (listed:Array Bool):List Nat:=(List.range n).filter fun j => !listed.getD j true
theorem openN_set {n i:Nat} {listed:Array Bool} (h:listed.getD i true=false) (hi:i < n):(openN n (listed.setIfInBounds i true)).length < (openN n listed).length:=by
 have hlt:i < listed.size:=by
  rcases Nat.lt_or_ge i listed.size with h' | h'
  ·exact h'
  ·simp [Array.getElem?_eq_none h'] at h
 have e:openN n (listed.setIfInBounds i true)=(openN n listed).filter fun j => !(decide (j=i)):=by
  unfold openN
  rw [List.filter_filter]
  refine List.filter_congr fun j hj => ?_
  by_cases hji:j=i
  ·subst hji
   simp [hlt]
  ·rw [getD_set_ne true (Ne.symm hji)];simp [hji]
 rw [e]
 refine List.length_filter_lt_length_iff_exists.2 ⟨i,?_,by simp⟩
 unfold openN
 simp only [List.mem_filter,List.mem_range]
 exact ⟨hi,by simp [h]⟩
namespace Canon
variable {P:Program} {C:Cfg} {call:CallT} {nt:Nat} {ops:Array Oper} {base cN:Nat} (c:Canon P C call nt ops base cN)
theorem any {B:Nat} {H0:Heap} {ι0:Pl} {w0:World} (hC:CallOK P B C.globals call) {Q:Exit→Act→World→Prop}
  (hQ:∀ D q ι a w,c.DInv B H0 ι0 w0 D q ι a w→(∀ p,p < c.m→D p=true)→Q .normal a w) :
  ∀ (fuel:Nat) (listed:Array Bool) (q:Nat) (ι:Pl) (a:Act) (w:World),listed.size=ops.size→(openN ops.size listed).length≤fuel →
   (∀ p k,p < c.m→k < c.m→listed.getD (c.ix k) false=true→c.req k p=true→listed.getD (c.ix p) false=true) →
   c.DInv B H0 ι0 w0 (fun p=>listed.getD (c.ix p) false) q ι a w→wpAny P .any ops Q fuel listed a w:=by
 have hix:∀ p,p < c.m→c.ix p < ops.size:=fun p hp=>by
  obtain ⟨o,ho,_⟩:=c.oper p hp
  exact (Array.getElem?_eq_some_iff.1 ho).1
 have noneReady:∀ (listed:Array Bool),listed.size=ops.size→Region.ready .any ops listed=[]→∀ i,i < ops.size→listed.getD i false=true:=by
  intro listed hs hr i
  induction i using Nat.strongRecOn with
  | _ i ih =>
   intro hi
   cases hl:listed.getD i false with
   | true=>rfl
   | false =>
    exfalso
    have:i∈Region.ready .any ops listed:=by
     rw [mem_ready]
     refine ⟨?_,ops[i],Array.getElem?_eq_getElem hi,fun e he hb=>ih e.on ?_ ?_⟩
     ·simp only [Array.getD_eq_getD_getElem?,Array.getElem?_eq_getElem (show i < listed.size by omega),Option.getD_some] at hl ⊢
      exact hl
     ·exact c.back i ops[i] (Array.getElem?_eq_getElem hi) e he hb
     ·have:=c.back i ops[i] (Array.getElem?_eq_getElem hi) e he hb;omega
    rw [hr] at this;cases this
 intro fuel
 induction fuel with
 | zero =>
  intro listed q ι a w hs hf hcl h
  have hno:Region.ready .any ops listed=[]:=by
   refine List.eq_nil_iff_forall_not_mem.2 fun i hi => ?_
   obtain ⟨h0,o,ho,_⟩:=mem_ready.1 hi
   have hlt:i < ops.size:=(Array.getElem?_eq_some_iff.1 ho).1
   have:i∈openN ops.size listed:=by
    unfold openN;simp only [List.mem_filter,List.mem_range];exact ⟨hlt,by simp [h0]⟩
   have h2:openN ops.size listed=[]:=List.eq_nil_of_length_eq_zero (by omega)
   rw [h2] at this;cases this
  exact ⟨hno,hQ _ _ _ _ _ h fun p hp=>noneReady listed hs hno _ (hix p hp)⟩
 | succ fuel ih =>
  intro listed q ι a w hs hf hcl h
  refine ⟨fun hno=>hQ _ _ _ _ _ h fun p hp=>noneReady listed hs hno _ (hix p hp),fun i hi => ?_⟩
  obtain ⟨h0,o,ho,hall⟩:=mem_ready.1 hi
  have hlt:i < ops.size:=(Array.getElem?_eq_some_iff.1 ho).1
  obtain ⟨k,hk,rfl⟩:=c.onto i hlt
  have h0':listed.getD (c.ix k) false=false:=by
   simp only [Array.getD_eq_getD_getElem?,Array.getElem?_eq_getElem (show c.ix k < listed.size by omega),Option.getD_some] at h0 ⊢
   exact h0
  have hreq:∀ p,p < c.m→c.req k p=true→listed.getD (c.ix p) false=true:=fun p hp hr=>by
   obtain ⟨o',e,ho',he,hb,hor⟩:=c.reqE k p hk hp hr
   rw [ho] at ho'
   obtain rfl:=Option.some.inj ho'
   have hl:=hall e he hb
   rcases hor with h1 | ⟨p',hp',h1,h2⟩
   ·rw [←h1];exact hl
   ·exact hcl p p' hp hp' (by rw [h1];exact hl) h2
  have hset:∀ p,p < c.m→(listed.setIfInBounds (c.ix k) true).getD (c.ix p) false=(listed.getD (c.ix p) false || decide (p=k)):=fun p hp=>by
   by_cases e:p=k
   ·subst e
    simp [hs,hlt]
   ·have:c.ix k≠c.ix p:=fun q=>e (c.inj p k hp hk q.symm)
    rw [getD_set_ne false this];simp [e]
  refine c.one hC hk h0' hreq (fun p hp hDp hr=>hcl k p hk hp hDp hr) hset h fun a' w' κ q' h' => ?_
  refine ih _ q' κ a' w' (by simp [hs]) ?_ ?_ h'
  ·have:=openN_set h0 hlt
   omega
  ·intro p j hp hj h1 h2
   rw [hset j hj] at h1
   rw [hset p hp]
   by_cases e:j=k
   ·subst e
    rw [hreq p hp h2];rfl
   ·simp only [e,decide_false,Bool.or_false] at h1
    rw [hcl p j hp hj h1 h2];rfl
end Canon
theorem draw_of_canon {P:Program} {C:Cfg} {call:CallT} {nt:Nat} {ops:Array Oper} {cN:Nat} {B:Nat} {H:Heap} {ι:Pl} {w:World} {a:Act} {T T':Fr} {H':Heap} {id:Nat} (hC:CallOK P B C.globals call)
  (hm:P.follows .mixedOrders=true) (c:Canon P C call nt ops H.next cN) (h0:c.st 0=(T,H.reserve cN,[H.reserve cN])) (h1:(c.st c.m).1=T') (h2:(c.st c.m).2.1=H')
  (hF:FRel nt ι T a) (hR:Rel B C.globals H ι w) {Q:Exit→Act→World→Prop} (hQ:∀ a' w' κ,FRel nt κ T' a'→Rel B C.globals H' κ w'→Keep H ι w H' κ w'→Q .normal a' w'):(Code.region id ops true).wp P Q a w:=by
 refine wp_region_any hm ?_
 refine c.any (B:=B) (H0:=H) (ι0:=ι) (w0:=w) hC ?_ ops.size _ 0 ι a _ (by simp) ?_ ?_ ?_
 ·intro D q κ a' w' h hD
  have hq:∀ p,q≤p→p < c.m→c.wAt p=false:=fun p h3 h4=>by
   cases hw:c.wAt p with
   | false=>rfl
   | true=>have:=h.behind p h3 h4 hw;rw [hD p h4] at this;cases this
  have e:c.hD D q c.m=H':=by rw [c.hD_eq h.q_le (Nat.le_refl _) hq (fun p _ hp _=>hD p hp),h2]
  refine hQ a' w' κ ⟨fun n v hv=>h.frame n v ?_,h.size,h.defers⟩ (e ▸ h.rel) (e ▸ h.keep)
  rw [c.tD_all hD n c.m (Nat.le_refl _),h1];exact hv
 ·exact Nat.le_trans (List.length_filter_le _ _) (by simp)
 ·intro p k hp hk h3
  simp only [Array.getD_eq_getD_getElem?,Array.getElem?_replicate] at h3
  split at h3<;>simp at h3
 ·have hf:∀ p,(Array.replicate ops.size false).getD (c.ix p) false=false:=fun p=>by
   simp only [Array.getD_eq_getD_getElem?,Array.getElem?_replicate]
   split<;>rfl
  have hex:∃ D0:Nat→Bool,D0=(fun p=>(Array.replicate ops.size false).getD (c.ix p) false):=⟨_,rfl⟩
  obtain ⟨D0,hD0⟩:=hex
  rw [←hD0]
  replace hf:∀ p,D0 p=false:=fun p=>by rw [hD0];exact hf p
  clear hD0
  have e:c.hD D0 0 c.m=H.reserve cN:=by
   have:∀ n,c.hD D0 0 n=(c.st 0).2.1:=by
    intro n
    induction n with
    | zero=>rfl
    | succ n ih =>
     simp only [Canon.hD,hf,Bool.and_false,Bool.false_and,Bool.false_eq_true,if_false]
     exact ih
   rw [this,h0]
  have et:∀ n t,c.tD D0 n t=T.get t:=by
   intro n t
   induction n with
   | zero=>simp [Canon.tD,h0]
   | succ n ih =>
    simp only [Canon.tD,hf,Bool.false_eq_true,false_and,if_false]
    exact ih
  have hR':Rel B C.globals (H.reserve cN) ι { w with drawn:=w.drawn+1 }:=⟨hR.h.drew rfl,hR.b,hR.g,fun k hk=>hR.f k (Nat.le_trans (Nat.le_add_right _ _) hk)⟩
  refine ⟨by omega,fun p hp=>by omega,fun p _ _ _=>hf p,.inr rfl,by rw [h0];rfl,fun p _ hp hN => ?_,fun n v hv=>hF.at_ n v (by rw [←et c.m n];exact hv),hF.size,hF.defers,by rw [e];exact hR',?_,fun p hp hN _ => ?_,by rw [h0];exact Nat.le_refl _⟩
  ·rw [h0]
   show H.get _=none
   cases hg:H.get (c.nm p) with
   | none=>rfl
   | some x =>
    obtain ⟨j,hj,_⟩:=hR.h.at_ _ x hg
    rw [hR.f (c.nm p) (by unfold Canon.nm;omega)] at hj;cases hj
  ·rw [e]
   exact ⟨rfl,rfl,rfl,Nat.le_refl _,Pl.le_refl _,fun _ _ _=>rfl,fun _ h => .inl h,by show H.next≤H.next+cN;omega,fun _ _=>rfl,fun _ _ h=>h⟩
  ·exact hR.f _ (by unfold Canon.nm;omega)
end
end Go.FR
