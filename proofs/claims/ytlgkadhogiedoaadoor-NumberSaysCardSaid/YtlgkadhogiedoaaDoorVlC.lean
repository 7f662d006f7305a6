/- Operations that only reckon. -/
import Derived.Test.YtlgkadhogiedoaaDoorVlB
set_option linter.unusedSimpArgs false
set_option linter.unusedVariables false
namespace Go.VL
open Go.FR
noncomputable section
section
variable {G:Gz} {μ:Pm}
theorem VRs.one {v:VV} {as:List AV} (h:VRs G μ [v] as):∃ a,as=[a]∧VR G μ v a:=by
 obtain ⟨y,ys,e,p,q⟩:=h
 simp only [VRs] at q;subst q
 exact ⟨y,e,p⟩
theorem VRs.two {v w:VV} {as:List AV} (h:VRs G μ [v,w] as):∃ a b,as=[a,b]∧VR G μ v a∧VR G μ w b:=by
 obtain ⟨y,ys,e,p,q⟩:=h
 obtain ⟨b,rfl,q'⟩:=VRs.one q
 exact ⟨y,b,e,p,q'⟩
theorem VRs.three {v w u:VV} {as:List AV} (h:VRs G μ [v,w,u] as):∃ a b c,as=[a,b,c]∧VR G μ v a∧VR G μ w b∧VR G μ u c:=by
 obtain ⟨y,ys,e,p,q⟩:=h
 obtain ⟨b,c,rfl,q'⟩:=VRs.two q
 exact ⟨y,b,c,e,p,q'⟩
theorem scal_rel {q:POp} {vs:List VV} {as:List AV} {v:VV} (h:scal q vs=some v) (k:VRs G μ vs as):∃ a,FR.pop q as=some a∧VR G μ v a:=by
 unfold scal at h
 split at h<;>try (cases h;done)
 rename_i bs hb
 split at h<;>try (cases h;done)
 rename_i a ha
 rw [toAs_rel hb k]
 exact ⟨a,ha,ofA_rel h⟩
theorem win_slice {cs:List VV} {full:List AV} {o n:Nat} (h:VRs G noP cs ((full.drop o).take n)) (a b:Nat) (hb:a+b≤n):VRs G noP ((cs.drop a).take b) ((full.drop (o+a)).take b):=by
 have:=VRs.take b (VRs.drop a h)
 rw [List.drop_take,List.take_take,List.drop_drop,Nat.min_eq_left (by omega)] at this
 exact this
theorem slV_rel {esz:Nat} {lo hi:Bool} {vs:List VV} {as:List AV} {v:VV} (h:slV esz lo hi vs=some v) (k:VRs G μ vs as):∃ a,FR.pop (.slSl esz lo hi) as=some a∧VR G μ v a:=by
 unfold slV at h
 split at h
 ·rename_i i o n e c r
  obtain ⟨y,ys,rfl,k1,k2⟩:=k
  obtain ⟨b,hb,rfl⟩:=k1
  split at h<;>try (cases h;done)
  split at h<;>try (cases h;done)
  rename_i most hm
  split at h<;>try (cases h;done)
  rename_i l u hbn
  obtain rfl:=Option.some.inj h
  refine ⟨_,?_,b,hb,rfl⟩
  simp only [pop,hm,bnd_rel hbn k2 (Nat.le_refl _)]
 ·rename_i cs n e r
  obtain ⟨y,ys,rfl,k1,k2⟩:=k
  split at h<;>try (cases h;done)
  rename_i he
  subst he
  split at h<;>try (cases h;done)
  rename_i l u hbn
  obtain rfl:=Option.some.inj h
  have hle:=bndV_le hbn (Nat.le_refl _)
  obtain ⟨h0,⟨h1,rfl⟩ | ⟨b,o,c,full,rw,st,as',h1,rfl,h3,h4,h5,h6⟩⟩:=k1
  ·subst h1
   refine ⟨.slice none 0 (.exact 0),?_,?_,.inl ⟨by omega,rfl⟩⟩
   ·simp only [pop,capMost,bnd_rel hbn k2 (Nat.le_refl _)]
    have:u - l=0:=by omega
    simp only [this,capDrop,Nat.zero_sub]
   ·have:u - l=0:=by omega
    simp [this]
  ·have hm:∃ m,capMost e n c=some m∧n≤m:=by
    cases c with
    | exact m=>exact ⟨m,rfl,h3⟩
    | toEnd e'=>simp only [capOK] at h3;subst h3;exact ⟨n,by simp [capMost],Nat.le_refl _⟩
   obtain ⟨m,hm1,hm2⟩:=hm
   have hmul:l*e+(u - l)*e=u*e:=by rw [←Nat.add_mul];congr 1;omega
   have hmul2:u*e≤n*e:=Nat.mul_le_mul_right _ hle.2
   refine ⟨.slice (some (b,o+l*e)) (u - l) (capDrop l c),?_,?_,.inr ⟨b,o+l*e,capDrop l c,full,rw,st,_,h1,rfl,?_,rfl,by omega,?_⟩⟩
   ·simp only [pop,hm1,bnd_rel hbn k2 hm2]
   ·simp only [List.length_take,List.length_drop]
    rw [Nat.min_eq_left];omega
   ·cases c with
    | exact m=>simp only [capDrop,capOK] at h3 ⊢;omega
    | toEnd e'=>exact h3
   ·subst h4
    exact win_slice h6 _ _ (by omega)
 ·rename_i r
  obtain ⟨y,ys,rfl,k1,k2⟩:=k
  simp only [VR] at k1;subst k1
  split at h<;>try (cases h;done)
  rename_i l u hbn
  obtain rfl:=Option.some.inj h
  have hle:=bndV_le hbn (Nat.le_refl _)
  refine ⟨.slice none 0 (.exact 0),?_,rfl⟩
  simp only [pop,capMost,bnd_rel hbn k2 (Nat.le_refl _)]
  have:u - l=0:=by omega
  simp only [this,capDrop,Nat.zero_sub]
 ·cases h
theorem slArrV_rel {len esz:Nat} {lo hi:Bool} {vs:List VV} {as:List AV} {v:VV} (h:slArrV len esz lo hi vs=some v) (k:VRs G μ vs as):∃ a,FR.pop (.slArr len esz lo hi) as=some a∧VR G μ v a:=by
 unfold slArrV at h
 split at h
 ·rename_i i o r
  obtain ⟨y,ys,rfl,k1,k2⟩:=k
  obtain ⟨b,hb,rfl⟩:=k1
  split at h<;>try (cases h;done)
  rename_i l u hbn
  obtain rfl:=Option.some.inj h
  refine ⟨_,?_,b,hb,rfl⟩
  simp only [pop,bnd_rel hbn k2 (Nat.le_refl _)]
 ·rename_i cs o r
  obtain ⟨y,ys,rfl,k1,k2⟩:=k
  obtain ⟨b,p,full,rw,st,as,h1,rfl,h3,h4,h5⟩:=k1
  split at h<;>try (cases h;done)
  rename_i l u hbn
  split at h<;>try (cases h;done)
  rename_i hle'
  obtain rfl:=Option.some.inj h
  have hle:=bndV_le hbn (Nat.le_refl _)
  have hmul:l*esz+(u - l)*esz=u*esz:=by rw [←Nat.add_mul];congr 1;omega
  refine ⟨.slice (some (b,p+o+l*esz)) (u - l) (.exact (len - l)),?_,?_,.inr ⟨b,p+o+l*esz,.exact (len - l),full,rw,st,_,h1,rfl,?_,rfl,by omega,?_⟩⟩
  ·simp only [pop,bnd_rel hbn k2 (Nat.le_refl _)]
  ·simp only [List.length_take,List.length_drop]
   rw [Nat.min_eq_left];omega
  ·simp only [capOK];omega
  ·subst h3
   have:=win_slice h5 (o+l*esz) ((u - l)*esz) (by omega)
   rw [←Nat.add_assoc] at this
   exact this
 ·cases h
theorem pop_rel {q:POp} {vs:List VV} {as:List AV} {v:VV} (h:popV q vs=some v) (kk:VRs G μ vs as):∃ a,FR.pop q as=some a∧VR G μ v a:=by
 cases q<;>simp only [popV] at h
 case bad=>cases h
 case mov =>
  unfold movV at h
  split at h<;>try (cases h;done)
  obtain rfl:=Option.some.inj h
  obtain ⟨a,rfl,k⟩:=VRs.one kk
  exact ⟨a,rfl,k⟩
 case pick =>
  unfold pickV at h
  split at h<;>try (cases h;done)
  rename_i c a b
  obtain rfl:=Option.some.inj h
  obtain ⟨x,y,z,rfl,k1,k2,k3⟩:=VRs.three kk
  simp only [VR] at k1;subst k1
  exact ⟨_,rfl,by cases c<;>simpa⟩
 case bin=>exact scal_rel h kk
 case un=>exact scal_rel h kk
 case conv=>exact scal_rel h kk
 case s2s=>exact scal_rel h kk
 case idxStr=>exact scal_rel h kk
 case slStr=>exact scal_rel h kk
 case lenStr=>exact scal_rel h kk
 case max=>exact scal_rel h kk
 case min=>exact scal_rel h kk
 case field off sz =>
  unfold fieldV at h
  split at h<;>try (cases h;done)
  obtain ⟨a,rfl,l,rfl,k⟩:=VRs.one kk
  exact part_rel k h
 case idxArr len esz sz =>
  unfold idxArrV at h
  split at h<;>try (cases h;done)
  obtain ⟨a,b,rfl,⟨l,rfl,k1⟩,k2⟩:=VRs.two kk
  split at h<;>try (cases h;done)
  rename_i n hn
  split at h<;>try (cases h;done)
  rename_i hlt
  simp only [pop,nat_rel hn k2,if_pos hlt]
  exact part_rel k1 h
 case ext i =>
  unfold extV at h
  split at h<;>try (cases h;done)
  obtain ⟨a,rfl,l,rfl,k⟩:=VRs.one kk
  exact VRs.get k i v h
 case mkI t =>
  unfold mkIV at h
  split at h<;>try (cases h;done)
  obtain ⟨a,rfl,k⟩:=VRs.one kk
  obtain rfl:=Option.some.inj h
  exact ⟨_,rfl,a,rfl,k⟩
 case mkF f n =>
  obtain rfl:=Option.some.inj h
  exact ⟨_,rfl,_,_,rfl,VRs.take _ kk,VRs.drop _ kk⟩
 case fAddr off =>
  unfold fAddrV at h
  split at h<;>try (cases h;done)
  ·obtain ⟨a,rfl,b,hb,rfl⟩:=VRs.one kk
   obtain rfl:=Option.some.inj h
   exact ⟨_,rfl,b,hb,rfl⟩
  ·obtain ⟨a,rfl,k⟩:=VRs.one kk
   simp only [VR] at k;subst k
   obtain rfl:=Option.some.inj h
   exact ⟨_,rfl,rfl⟩
  ·obtain ⟨a,rfl,b,p,full,rw,st,as,h1,rfl,h3⟩:=VRs.one kk
   obtain rfl:=Option.some.inj h
   exact ⟨_,rfl,b,p,full,rw,st,as,h1,by simp [Nat.add_assoc],h3⟩
 case iAddrS esz =>
  unfold iAddrSV at h
  split at h<;>try (cases h;done)
  ·obtain ⟨a,x,rfl,⟨b,hb,rfl⟩,k2⟩:=VRs.two kk
   split at h<;>try (cases h;done)
   rename_i n hn
   split at h<;>try (cases h;done)
   rename_i hlt
   obtain rfl:=Option.some.inj h
   exact ⟨_,by simp only [pop,nat_rel hn k2,if_pos hlt],b,hb,rfl⟩
  ·rename_i cs n e x
   obtain ⟨a,x,rfl,⟨h0,k1⟩,k2⟩:=VRs.two kk
   split at h<;>try (cases h;done)
   rename_i m hm
   split at h<;>try (cases h;done)
   rename_i hlt
   obtain rfl:=Option.some.inj h
   rcases k1 with ⟨h1,_⟩ | ⟨b,o,c,full,rw,st,as,h1,rfl,h3,h4,h5,h6⟩
   ·omega
   ·exact ⟨_,by simp only [pop,nat_rel hm k2,if_pos hlt],b,o,full,rw,st,as,h1,rfl,by rw [h0];exact h4,by omega,h6⟩
 case iAddrA len esz =>
  unfold iAddrAV at h
  split at h<;>try (cases h;done)
  ·obtain ⟨a,x,rfl,⟨b,hb,rfl⟩,k2⟩:=VRs.two kk
   split at h<;>try (cases h;done)
   rename_i n hn
   split at h<;>try (cases h;done)
   rename_i hlt
   obtain rfl:=Option.some.inj h
   exact ⟨_,by simp only [pop,nat_rel hn k2,if_pos hlt],b,hb,rfl⟩
  ·obtain ⟨a,x,rfl,⟨b,p,full,rw,st,as,h1,rfl,h3⟩,k2⟩:=VRs.two kk
   split at h<;>try (cases h;done)
   rename_i n hn
   split at h<;>try (cases h;done)
   rename_i hlt
   obtain rfl:=Option.some.inj h
   exact ⟨_,by simp only [pop,nat_rel hn k2,if_pos hlt];rfl,b,p,full,rw,st,as,h1,by rw [Nat.add_assoc],h3⟩
  ·obtain ⟨a,x,rfl,k1,k2⟩:=VRs.two kk
   simp only [VR] at k1;subst k1
   split at h<;>try (cases h;done)
   rename_i n hn
   split at h<;>try (cases h;done)
   rename_i hlt
   obtain rfl:=Option.some.inj h
   exact ⟨_,by simp only [pop,nat_rel hn k2,if_pos hlt],rfl⟩
 case slSl=>exact slV_rel h kk
 case slArr=>exact slArrV_rel h kk
 case build zero places =>
  unfold buildV at h
  split at h<;>try (cases h;done)
  rename_i z hz
  split at h<;>try (cases h;done)
  rename_i cs hcs
  obtain rfl:=Option.some.inj h
  obtain ⟨r,hr,hR⟩:=fill_rel (cvs_rel (G:=G) (μ:=μ) zero z hz) kk hcs
  exact ⟨.agg r,by simp only [pop,hr],r,rfl,hR⟩
 case nilChk =>
  unfold nilChkV at h
  split at h<;>try (cases h;done)
  ·obtain ⟨a,rfl,b,hb,rfl⟩:=VRs.one kk
   obtain rfl:=Option.some.inj h
   exact ⟨_,rfl,b,hb,rfl⟩
  ·obtain ⟨a,rfl,k⟩:=VRs.one kk
   simp only [VR] at k;subst k
   obtain rfl:=Option.some.inj h
   exact ⟨_,rfl,rfl⟩
  ·obtain ⟨a,rfl,b,p,full,rw,st,as,h1,rfl,h3⟩:=VRs.one kk
   obtain rfl:=Option.some.inj h
   exact ⟨_,rfl,b,p,full,rw,st,as,h1,rfl,h3⟩
  ·obtain ⟨a,rfl,x,y,rfl,h3⟩:=VRs.one kk
   obtain rfl:=Option.some.inj h
   exact ⟨_,rfl,x,y,rfl,h3⟩
 case tAss t ok zero =>
  unfold tAssV at h
  split at h<;>try (cases h;done)
  ·rename_i u x
   obtain ⟨a,rfl,y,rfl,k⟩:=VRs.one kk
   split at h
   ·rename_i e
    obtain rfl:=Option.some.inj h
    refine ⟨if ok=true then AV.tuple [y,AV.bool true] else y,by simp only [pop,if_pos e],?_⟩
    cases ok
    ·exact k
    ·exact ⟨_,rfl,VRs.cons k (VRs.cons rfl VRs.nil)⟩
   ·rename_i e
    split at h<;>try (cases h;done)
    rename_i z hz
    obtain rfl:=Option.some.inj h
    exact ⟨_,by simp only [pop,if_neg e];rfl,_,rfl,VRs.cons (cv_rel _ _ hz) (VRs.cons rfl VRs.nil)⟩
  ·obtain ⟨a,rfl,k⟩:=VRs.one kk
   simp only [VR] at k;subst k
   split at h<;>try (cases h;done)
   rename_i z hz
   obtain rfl:=Option.some.inj h
   exact ⟨_,rfl,_,rfl,VRs.cons (cv_rel _ _ hz) (VRs.cons rfl VRs.nil)⟩
 case lenSl =>
  unfold lenSlV at h
  split at h<;>try (cases h;done)
  ·obtain ⟨a,rfl,b,hb,rfl⟩:=VRs.one kk
   obtain rfl:=Option.some.inj h
   exact ⟨_,rfl,rfl⟩
  ·obtain ⟨a,rfl,h0,k⟩:=VRs.one kk
   obtain rfl:=Option.some.inj h
   rcases k with ⟨h1,rfl⟩ | ⟨b,o,c,full,rw,st,as,h1,rfl,h3⟩
   ·subst h1;exact ⟨_,rfl,rfl⟩
   ·exact ⟨_,rfl,rfl⟩
  ·obtain ⟨a,rfl,k⟩:=VRs.one kk
   simp only [VR] at k;subst k
   obtain rfl:=Option.some.inj h
   exact ⟨_,rfl,rfl⟩
 case lenArr n =>
  unfold lenArrV at h
  split at h<;>try (cases h;done)
  obtain ⟨a,rfl,k⟩:=VRs.one kk
  obtain rfl:=Option.some.inj h
  exact ⟨_,rfl,rfl⟩
end
end
end Go.VL
