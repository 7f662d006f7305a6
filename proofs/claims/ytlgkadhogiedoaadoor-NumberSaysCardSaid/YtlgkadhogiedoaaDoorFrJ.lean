/- The fast run: append, copy, stores, map entries. -/
import Derived.Test.YtlgkadhogiedoaaDoorFrI
set_option linter.unusedSimpArgs false
set_option linter.unusedVariables false
namespace Go.FR
noncomputable section
open Go
section
variable {P:Program} {C:Cfg} {ι κ:Pl} {w w':World} {B:Nat} {H:Heap} {G:List (Nat × Nat)}
theorem Made.undrew {id:Nat} {blk:ABlk} (h:Made B ι κ id w.drew w' blk):Made B ι κ id w w' blk :=
 ⟨h.os,h.tape,h.output,h.size,h.same,h.is,h.rw⟩
theorem rel_made {blk:ABlk} (hR:Rel B G H ι w) (hm:Made B ι κ H.next w w' blk):Rel B G (H.push blk) κ w'∧Keep H ι w (H.push blk) κ w':=by
 obtain ⟨j,rfl,hj,hb⟩:=hm.is
 have hnone:=hR.f H.next (Nat.le_refl _)
 have le:ι.le (setP ι H.next j):=setP_le hnone
 refine ⟨⟨hR.h.change le H.next j (setP_same _ _ _) (fun c hc hlt=>hm.same c hlt) (fun l y hl hy => ?_) (fun y hy => ?_),by rw [hm.size];have:=hR.b;omega,fun n i h => ?_,fun l hl => ?_⟩,hm.os,hm.tape,hm.output,by rw [hm.size];omega,le,fun c hc _=>hm.same c hc,fun c ho => ?_,by rw [Heap.next_push];omega,fun i hi=>setP_other _ _ _ (by omega),fun i hi h=>by rw [Heap.get_push,if_neg (by omega)];exact h⟩
 ·rw [Heap.get_push,if_neg hl] at hy
  refine ⟨hy,fun i hi e => ?_⟩
  obtain ⟨i',hi',hb'⟩:=hR.h.at_ _ _ hy
  rw [hi] at hi';obtain rfl:=Option.some.inj hi'
  have:=hb'.lt
  omega
 ·rw [Heap.get_push,if_pos rfl] at hy
  simp only [Option.some.injEq] at hy;subst hy
  exact ⟨hb,hm.rw⟩
 ·obtain ⟨s,hs⟩:=hR.g n i h
  exact ⟨s,le _ _ hs⟩
 ·rw [Heap.next_push] at hl
  rw [setP_other _ _ _ (by omega)]
  exact hR.f l (by omega)
 ·obtain ⟨l,y,i,hy,hyr,hi,e⟩:=ho
  rw [Heap.get_push] at hy
  by_cases hl:l=H.next
  ·subst hl
   rw [setP_same] at hi
   obtain rfl:=Option.some.inj hi
   right;omega
  ·rw [if_neg hl] at hy
   rw [setP_other _ _ _ hl] at hi
   exact .inl ⟨l,y,i,hy,hyr,hi,e⟩
theorem src_run {esz:Nat} {x:AV} {u:Value} {n:Nat} {new:List AV} (hR:HRel B H.get ι w) (hx:VRel ι x u) (h:srcCells H esz x=some (n,new)) :
  (Builtin.lenOf u).run P w = .ok n w∧new.length=n*esz∧(∀ c∈new,scA c=true) ∧
  ∃ L:List Value,VRels ι new L∧∀ w':World,w'.heap=w.heap→∀ k,k≤n→(Builtin.firstCells esz k u).run P w' = .ok (L.take (k*esz)).toArray w':=by
 cases x<;>simp only [srcCells] at h<;>try (cases h;done)
 case str s =>
  split at h<;>try (cases h;done)
  rename_i he
  subst he
  simp only [Option.some.injEq,Prod.mk.injEq] at h
  obtain ⟨rfl,rfl⟩:=h
  simp only [VRel] at hx;subst hx
  refine ⟨by simp [Builtin.lenOf,ba_size],by simp [byteCells],?_,s.map fun b=>Value.int .u8 b.toNat,byte_rels s,fun w' _ k hk => ?_⟩
  ·intro c hc
   simp only [byteCells,List.mem_map] at hc
   obtain ⟨b,_,rfl⟩:=hc
   rfl
  ·simp only [Builtin.firstCells,ba_extract,Sem.run_pure]
   simp
 case slice p m cap =>
  cases p with
  | none =>
   simp only [srcCells,Option.some.injEq,Prod.mk.injEq] at h
   obtain ⟨rfl,rfl⟩:=h
   obtain ⟨rfl,rfl,rfl⟩:=hx
   refine ⟨by simp [Builtin.lenOf],by simp,(fun c hc=>by cases hc),[],rfl,fun w' _ k hk=>by simp [Builtin.firstCells]⟩
  | some p =>
   simp only [srcCells] at h
   split at h<;>try (cases h;done)
   rename_i cs hcs
   simp only [Option.some.injEq,Prod.mk.injEq] at h
   obtain ⟨rfl,rfl⟩:=h
   obtain ⟨j,q,c,hj,rfl,hle,hcr,hq⟩:=hx
   unfold cellsAt at hcs
   split at hcs<;>try (cases hcs;done)
   rename_i cs0 rw str hg
   split at hcs<;>try (cases hcs;done)
   rename_i hlen
   simp only [Option.some.injEq] at hcs;subst hcs
   obtain ⟨j',hj',hb⟩:=hR.at_ _ _ hg
   rw [hj] at hj';obtain rfl:=Option.some.inj hj'
   obtain ⟨L,hL,hr,hc⟩:=cells_at hb hlen
   refine ⟨by simp [Builtin.lenOf],by simp;omega,fun c hc=>hb.1 c (List.mem_of_mem_drop (List.mem_of_mem_take hc)),L,hr,fun w' hw' k hk => ?_⟩
   simp only [Builtin.firstCells]
   have hkl:(L.take (k*esz)).length=k*esz:=by
    rw [List.length_take,hL];exact Nat.min_eq_left (Nat.mul_le_mul_right _ hk)
   by_cases hm:c=0
   ·have:m=0:=by omega
    subst this
    have:k=0:=by omega
    subst this
    simp [loadCells,loadCellsFrom]
   ·rw [hq hm]
    have:=run_loadCells_list (P:=P) (w:=w') ⟨j.blk,j.off+p.2,none⟩ (L.take (k*esz)) (fun i v hv=>by
     have hcell:=hc i v (by rw [List.getElem?_take] at hv;split at hv;· exact hv
                            ·cases hv)
     rw [←hcell];simp [World.cell?,hw'])
    rwa [hkl] at this
theorem Made.str {id:Nat} {cs:List AV} {str:Bool} (h:Made B ι κ id w w' (.cells cs true false)) (_:True):Made B ι κ id w w' (.cells cs true str):=by
 obtain ⟨j,hk,hj,hs,c,t,fr,h1,h2,h3,h4,h5,h6⟩:=h.is
 obtain ⟨h7,h8,h9⟩:=h4 rfl
 exact ⟨h.os,h.tape,h.output,h.size,h.same,⟨j,hk,hj,hs,c,t,fr,h1,h2,h3,fun _=>⟨h7,h8,fun _ => .inl (h5 rfl)⟩,fun _=>h5 rfl,fun h=>by cases h⟩,rfl⟩
theorem kill_rel {k:Nat} (hR:Rel B G H ι w):Rel B G (H.kill k) ι w∧Keep H ι w (H.kill k) ι w:=by
 have hl:∀ l y,(H.kill k).get l=some y→H.get l=some y:=fun l y h=>by
  rw [Heap.get_kill] at h;split at h
  ·cases h
  ·exact h
 refine ⟨⟨hR.h.less hl,hR.b,hR.g,hR.f⟩,rfl,rfl,rfl,Nat.le_refl _,Pl.le_refl _,fun _ _ _=>rfl,fun c ho => ?_,Nat.le_refl _,fun _ _=>rfl,fun i _ h=>by rw [Heap.get_kill];split;rfl;exact h⟩
 obtain ⟨l,y,i,hy,hyr,hi,e⟩:=ho
 exact .inl ⟨l,y,i,hl l y hy,hyr,hi,e⟩
theorem splice_tail {L0 L:List Value} {b k:Nat} (h:b+k≤L0.length):((spliceV L0 (b+k) L).drop b).take (k+L.length)=(L0.drop b).take k++L:=by
 obtain ⟨A,M,rfl,rfl⟩:∃ A M,L0=A++M∧A.length=b:=⟨L0.take b,L0.drop b,by rw [List.take_append_drop],by simp;omega⟩
 simp only [List.length_append] at h
 simp only [spliceV]
 rw [List.take_length_add_append,List.drop_left]
 simp only [List.append_assoc,List.drop_left]
 rw [List.take_append,List.length_take,show k+L.length - min k M.length=L.length by omega]
 simp [List.take_take]
theorem grown_made {e:TypeId} {esz:Nat} {olds news:List AV} {LO LN:List Value} {z:Array Value} {c need:Nat} (hB:B≤w.heap.size) {id:Nat} (hid:ι id=none) (ho:VRels ι olds LO) (hn:VRels ι news LN) (hos:∀ x∈olds,scA x=true) (hns:∀ x∈news,scA x=true)
  (hz:z.size=esz) (hlo:(olds++news).length=need*esz) (hc:need≤c) :
  ∃ j:Inj,j.blk=w.heap.size∧j.off=0∧j.size=c*esz∧Made B ι (setP ι id j) id w (w.drew.alloc (.cells (LO.toArray++LN.toArray++Builtin.zeroCells z (c - need)) e)) (.cells (olds++news) true false):=by
 have hl:(LO++LN).length=(olds++news).length:=(VRels.append ho hn).length
 have hzs:(Builtin.zeroCells z (c - need)).size=(c - need)*esz:=by simp [Builtin.zeroCells,hz]
 have hsize:(LO.toArray++LN.toArray++Builtin.zeroCells z (c - need)).size=c*esz:=by
  rw [Array.size_append,hzs]
  have:(LO.toArray++LN.toArray).size=need*esz:=by simp at hl hlo ⊢;omega
  rw [this,←Nat.add_mul]
  congr 1;omega
 have ht:(LO.toArray++LN.toArray++Builtin.zeroCells z (c - need)).toList.take (olds++news).length=LO++LN:=by
  rw [←hl,Array.toList_append,Array.toList_append,List.toList_toArray,List.toList_toArray,List.take_left]
 obtain ⟨j,hj1,hj2,hj3,hm⟩:=made_cells (w:=w.drew) (t:=e) (str:=false) (cs:=olds++news) (L:=LO.toArray++LN.toArray++Builtin.zeroCells z (c - need)) hB hid (by rw [ht];exact VRels.append ho hn) (by rw [hsize,hlo];exact Nat.mul_le_mul_right _ hc) (fun x hx=>by
  simp only [List.mem_append] at hx;exact hx.elim (hos x) (hns x))
 exact ⟨j,hj1,hj2,by rw [hj3,hsize],hm.undrew⟩
set_option maxHeartbeats 1600000 in
theorem append_nil_s {esz bs n len:Nat} {t u e ty:TypeId} {d:TypeDesc} {x v:AV} {su xu:Value} {z:AV} {new:List AV} {L:List Value} {H':Heap} (ht:P.underlying t=some (.slice e)) (hu:P.underlying u=some d) (hd:isSeqD d=true) (hsz:sizeC P e=some esz) (hbs:bytesC P e=some bs) (hz:zeroC P e=some z) (hzl:z.cells.length=esz)
  (hR:Rel B G H ι w) (hx:VRel ι x xu) (hlen:(Builtin.lenOf xu).run P w = .ok (n+1) w) (hnl:new.length=(n+1)*esz) (hnsc:∀ c∈new,scA c=true) (hLr:VRels ι new L)
  (hfc:∀ w':World,w'.heap=w.heap→∀ k,k≤n+1→(Builtin.firstCells esz k xu).run P w' = .ok (L.take (k*esz)).toArray w') (hr1:(len+(n+1))*bs≤17592186044416) (hr2:len+(n+1) < 17592186044416) (hr3:0 < esz) {c:Nat} (hs:VRel ι (.slice none len (.exact c)) su) (hp:appendTo esz none (.exact c) len (len+(n+1)) new H=some (v,H')) :
  ∃ vu w' κ,(Builtin.append_ #[t,u] ty #[su,xu]).run P w = .ok vu w'∧VRel κ v vu∧Rel B G H' κ w'∧Keep H ι w H' κ w':=by
 have hLl:=hLr.length
 have hLfull:L.take ((n+1)*esz)=L:=List.take_of_length_le (by rw [hLl,hnl];exact Nat.le_refl _)
 obtain ⟨inf,zv,hinf,hzero,hzu,hzn⟩:=zeroC_info (ι:=ι) hz
 obtain ⟨hzr,hzsc⟩:=hzu.cells hzn
 have hzvs:=size_of_vrels hzr
 have hisz:=sizeC_info hinf hsz
 have hibs:=bytesC_info hinf hbs
 have hid:=hR.f H.next (Nat.le_refl _)
 unfold appendTo at hp
 simp only at hp
 simp only [Option.some.injEq,Prod.mk.injEq] at hp
 obtain ⟨rfl,rfl⟩:=hp
 obtain ⟨rfl,_,rfl⟩:=hs
 have hf:=hfc w.drew rfl (n+1) (Nat.le_refl _)
 rw [hLfull] at hf
 obtain ⟨c,hc,hrun⟩:=append_grow (P:=P) (w:=w) (ty:=ty) (n:=esz) (bs:=bs) (b:=none) (len:=0) (cap:=0) (olds := #[]) ht hu hd hinf hzero hlen (by rw [hisz];exact hf) (by omega) (by rw [hisz];exact run_firstCells_none _ _ _ _ _) (by omega) (by rw [hibs];exact hr1)
 obtain ⟨j,hj1,hj2,hj3,hm⟩:=grown_made (w:=w) (e:=e) (esz:=esz) (LO:=[]) (olds:=[]) (need:=0+(n+1)) (c:=c) hR.b hid VRels.nil hLr (fun x hx=>by cases hx) hnsc (by rw [hzvs];exact hzl) (by simpa using hnl) hc
 obtain ⟨h1,h2⟩:=rel_made hR hm
 refine ⟨_,_,_,hrun,⟨j,_,c,setP_same _ _ _,rfl,hc,?_,fun _=>by simp [hj1,hj2]⟩,by simpa using h1,by simpa using h2⟩
 simp only [capR,hj3,Nat.sub_zero];rw [Nat.mul_div_cancel _ hr3]
set_option maxHeartbeats 1600000 in
theorem append_exact_s {esz bs n len:Nat} {t u e ty:TypeId} {d:TypeDesc} {x v:AV} {su xu:Value} {z:AV} {new:List AV} {L:List Value} {H':Heap} (ht:P.underlying t=some (.slice e)) (hu:P.underlying u=some d) (hd:isSeqD d=true) (hsz:sizeC P e=some esz) (hbs:bytesC P e=some bs) (hz:zeroC P e=some z) (hzl:z.cells.length=esz)
  (hR:Rel B G H ι w) (hx:VRel ι x xu) (hlen:(Builtin.lenOf xu).run P w = .ok (n+1) w) (hnl:new.length=(n+1)*esz) (hnsc:∀ c∈new,scA c=true) (hLr:VRels ι new L)
  (hfc:∀ w':World,w'.heap=w.heap→∀ k,k≤n+1→(Builtin.firstCells esz k xu).run P w' = .ok (L.take (k*esz)).toArray w') (hr1:(len+(n+1))*bs≤17592186044416) (hr2:len+(n+1) < 17592186044416) (hr3:0 < esz) {a:Nat × Nat} {c:Nat} (hs:VRel ι (.slice (some a) len (.exact c)) su) (hp:appendTo esz (some a) (.exact c) len (len+(n+1)) new H=some (v,H')) :
  ∃ vu w' κ,(Builtin.append_ #[t,u] ty #[su,xu]).run P w = .ok vu w'∧VRel κ v vu∧Rel B G H' κ w'∧Keep H ι w H' κ w':=by
 have hLl:=hLr.length
 have hLfull:L.take ((n+1)*esz)=L:=List.take_of_length_le (by rw [hLl,hnl];exact Nat.le_refl _)
 obtain ⟨inf,zv,hinf,hzero,hzu,hzn⟩:=zeroC_info (ι:=ι) hz
 obtain ⟨hzr,hzsc⟩:=hzu.cells hzn
 have hzvs:=size_of_vrels hzr
 have hisz:=sizeC_info hinf hsz
 have hibs:=bytesC_info hinf hbs
 have hid:=hR.f H.next (Nat.le_refl _)
 unfold appendTo at hp
 simp only at hp
 obtain ⟨j,p,m,hj,rfl,hle,hcr,hq⟩:=hs
 simp only [capR] at hcr
 subst hcr
 split at hp
 ·
  rename_i hfit
  split at hp<;>try (cases hp;done)
  rename_i H'' hst
  simp only [Option.some.injEq,Prod.mk.injEq] at hp
  obtain ⟨rfl,rfl⟩:=hp
  have hf:=hfc w rfl (n+1) (Nat.le_refl _)
  rw [hLfull] at hf
  obtain ⟨w',hw1,hw2,hw3⟩:=storeAt_run (P:=P) hR (a:=(a.1,a.2+len*esz)) hj hLr hnsc hst
  have hpq:=hq (by omega)
  have hrun:=append_fit (P:=P) (ty:=ty) (bs:=bs) (w':=w') (b:=some p) (len:=len) (cap:=m) ht hu hd hsz hlen hf hfit (fun a' ha=>by
   simp only [Option.some.injEq] at ha;subst ha
   rw [hpq,add_zero_addr];exact hw1) (fun h=>by cases h)
  exact ⟨_,w',ι,hrun,⟨j,p,m,hj,rfl,hfit,rfl,hq⟩,hw2,hw3⟩
 ·
  rename_i hfit
  split at hp<;>try (cases hp;done)
  rename_i old hold
  simp only [Option.some.injEq,Prod.mk.injEq] at hp
  obtain ⟨rfl,rfl⟩:=hp
  obtain ⟨hol,hosc,LO,hLO,hLOl,hof⟩:old.length=len*esz∧(∀ x∈old,scA x=true)∧∃ LO:List Value,VRels ι old LO∧LO.length=len*esz∧∀ w':World,w'.heap=w.heap→(Builtin.firstCells esz len (.slice (some p) len m)).run P w' = .ok LO.toArray w':=by
   have hs2:srcCells H esz (.slice (some a) len (.exact m))=some (len,old):=by simp [srcCells,hold]
   obtain ⟨_,h2,h3,LO,h4,h5⟩:=src_run (P:=P) hR.h (x := .slice (some a) len (.exact m)) (u := .slice (some p) len m) ⟨j,p,m,hj,rfl,hle,rfl,hq⟩ hs2
   have h6:=h4.length
   refine ⟨h2,h3,LO,h4,by omega,fun w' hw' => ?_⟩
   have:=h5 w' hw' len (Nat.le_refl _)
   rwa [List.take_of_length_le (by omega)] at this
  have hf:=hfc w.drew rfl (n+1) (Nat.le_refl _)
  rw [hLfull] at hf
  obtain ⟨c',hc',hrun⟩:=append_grow (P:=P) (w:=w) (ty:=ty) (n:=esz) (bs:=bs) (b:=some p) (len:=len) (cap:=m) (olds:=LO.toArray) ht hu hd hinf hzero hlen (by rw [hisz];exact hf) (by omega) (by rw [hisz];exact hof _ rfl) (by omega) (by rw [hibs];exact hr1)
  obtain ⟨j',hj1,hj2,hj3,hm⟩:=grown_made (w:=w) (e:=e) (esz:=esz) (LO:=LO) (olds:=old) (need:=len+(n+1)) (c:=c') hR.b hid hLO hLr hosc hnsc (by rw [hzvs];exact hzl) (by rw [List.length_append,hol,hnl];simp only [Nat.add_mul]) hc'
  obtain ⟨h1,h2⟩:=rel_made hR hm
  refine ⟨_,_,_,hrun,⟨j',_,c',setP_same _ _ _,rfl,hc',?_,fun _=>by simp [hj1,hj2]⟩,h1,h2⟩
  simp only [capR,hj3,Nat.sub_zero];rw [Nat.mul_div_cancel _ hr3]
set_option maxHeartbeats 1600000 in
theorem append_open_s {esz bs n len:Nat} {t u e ty:TypeId} {d:TypeDesc} {x v:AV} {su xu:Value} {z:AV} {new:List AV} {L:List Value} {H':Heap} (ht:P.underlying t=some (.slice e)) (hu:P.underlying u=some d) (hd:isSeqD d=true) (hsz:sizeC P e=some esz) (hbs:bytesC P e=some bs) (hz:zeroC P e=some z) (hzl:z.cells.length=esz)
  (hR:Rel B G H ι w) (hx:VRel ι x xu) (hlen:(Builtin.lenOf xu).run P w = .ok (n+1) w) (hnl:new.length=(n+1)*esz) (hnsc:∀ c∈new,scA c=true) (hLr:VRels ι new L)
  (hfc:∀ w':World,w'.heap=w.heap→∀ k,k≤n+1→(Builtin.firstCells esz k xu).run P w' = .ok (L.take (k*esz)).toArray w') (hr1:(len+(n+1))*bs≤17592186044416) (hr2:len+(n+1) < 17592186044416) (hr3:0 < esz) {a:Nat × Nat} {e':Nat} (hs:VRel ι (.slice (some a) len (.toEnd e')) su) (hp:appendTo esz (some a) (.toEnd e') len (len+(n+1)) new H=some (v,H')) :
  ∃ vu w' κ,(Builtin.append_ #[t,u] ty #[su,xu]).run P w = .ok vu w'∧VRel κ v vu∧Rel B G H' κ w'∧Keep H ι w H' κ w':=by
 have hLl:=hLr.length
 have hLfull:L.take ((n+1)*esz)=L:=List.take_of_length_le (by rw [hLl,hnl];exact Nat.le_refl _)
 obtain ⟨inf,zv,hinf,hzero,hzu,hzn⟩:=zeroC_info (ι:=ι) hz
 obtain ⟨hzr,hzsc⟩:=hzu.cells hzn
 have hzvs:=size_of_vrels hzr
 have hisz:=sizeC_info hinf hsz
 have hibs:=bytesC_info hinf hbs
 have hid:=hR.f H.next (Nat.le_refl _)
 unfold appendTo at hp
 simp only at hp
 obtain ⟨j,p,m,hj,rfl,hle,hcr,hq⟩:=hs
 simp only [capR] at hcr
 split at hp<;>try (cases hp;done)
 rename_i cs str hg
 split at hp<;>try (cases hp;done)
 rename_i hc0
 obtain ⟨rfl,hbd⟩:=hc0
 simp only [Option.some.injEq,Prod.mk.injEq] at hp
 obtain ⟨rfl,rfl⟩:=hp
 obtain ⟨j',hj',hb⟩:=hR.h.at_ _ _ hg
 rw [hj] at hj';obtain rfl:=Option.some.inj hj'
 obtain ⟨hk1,hk2⟩:=kill_rel (k:=a.1) hR
 have hold:cellsAt H a (len*e')=some ((cs.drop a.2).take (len*e')):=by simp [cellsAt,hg,hbd]
 have hs2:srcCells H e' (.slice (some a) len (.toEnd e'))=some (len,(cs.drop a.2).take (len*e')):=by simp [srcCells,hold]
 obtain ⟨_,hol,hosc,LO,hLO,h5⟩:=src_run (P:=P) hR.h (x := .slice (some a) len (.toEnd e')) (u := .slice (some p) len m) ⟨j,p,m,hj,rfl,hle,by simpa [capR] using hcr,hq⟩ hs2
 have hLOl:=hLO.length
 have hof:∀ w':World,w'.heap=w.heap→(Builtin.firstCells e' len (.slice (some p) len m)).run P w' = .ok LO.toArray w':=fun w' hw'=>by
  have:=h5 w' hw' len (Nat.le_refl _)
  rwa [List.take_of_length_le (by omega)] at this
 by_cases hfit:len+(n+1)≤m
 ·
  have hpq:=hq (by omega)
  have hf:=hfc w rfl (n+1) (Nat.le_refl _)
  rw [hLfull] at hf
  obtain ⟨hsc,c,t0,fr,hbl,hvr,hlenc,hrw,hstr,hro⟩:=hb
  obtain ⟨hBj,hcsz,hfr⟩:=hrw rfl
  have hfz:∀ k,k < c.size→¬(fr.1≤k∧k < fr.2):=by
   intro k hk ⟨h1,h2⟩
   cases str with
   | false=>rw [hstr rfl] at h2;simp at h2
   | true=>rcases hfr rfl with h | h
           ·rw [h] at h2;simp at h2
           ·omega
  have h1c:∀ u∈L,u.oneCell'=true:=by
   intro u hu
   obtain ⟨k,hk⟩:=List.mem_iff_getElem?.1 hu
   obtain ⟨hlt,_⟩:=List.getElem?_eq_some_iff.1 hk
   have hlt':k < new.length:=by omega
   obtain ⟨u',h2,h3⟩:=hLr.get k new[k] (List.getElem?_eq_getElem hlt')
   rw [hk] at h2;obtain rfl:=Option.some.inj h2
   exact h3.one (hnsc _ (List.getElem_mem _))
  have hroom:(len+(n+1))*e'≤j.size - a.2:=by
   have h1:(len+(n+1))*e'≤m*e':=Nat.mul_le_mul_right _ hfit
   have h2:m*e'≤j.size - a.2:=by rw [hcr];exact Nat.div_mul_le_self _ _
   omega
  have hroom2:len*e'+(n+1)*e'≤j.size - a.2:=by rw [←Nat.add_mul];exact hroom
  have hpos:0 < (n+1)*e':=Nat.mul_pos (by omega) hr3
  obtain ⟨w',c',hst,hc',hput⟩:=storeCells_run (P:=P) (off:=j.off+a.2+len*e') L 0 w c hbl (by omega) h1c hfz
  have hrun:=append_fit (P:=P) (ty:=ty) (bs:=bs) (w':=w') (b:=some p) (len:=len) (cap:=m) ht hu hd hsz hlen hf hfit (fun a' ha=>by
   simp only [Option.some.injEq] at ha;subst ha
   rw [hpq,add_zero_addr,←Nat.add_assoc];exact hst) (fun h=>by cases h)
  have hc's:c'.size=c.size:=by
   have:c'.toList.length=c.toList.length:=by rw [hc'];simp [spliceV];omega
   simpa using this
  have le:ι.le (setP ι H.next ⟨j.blk,j.off+a.2,j.size - a.2⟩):=setP_le hid
  have hnewlen:((cs.drop a.2).take (len*e')++new).length=len*e'+L.length:=by rw [List.length_append,hol,hLl]
  have hrel:VRels ι ((cs.drop a.2).take (len*e')++new) ((c'.toList.drop (j.off+a.2)).take ((cs.drop a.2).take (len*e')++new).length):=by
   rw [hnewlen,hc',Nat.add_zero,splice_tail (by simp;omega)]
   refine VRels.append ?_ hLr
   have h2:=(hvr.drop a.2).take (len*e')
   have e2:(((c.toList.drop j.off).take cs.length).drop a.2).take (len*e')=(c.toList.drop (j.off+a.2)).take (len*e'):=by
    rw [List.drop_take,List.drop_drop,List.take_take]
    congr 1;omega
   rwa [e2] at h2
  have hBR:BRel B (setP ι H.next ⟨j.blk,j.off+a.2,j.size - a.2⟩) w' ⟨j.blk,j.off+a.2,j.size - a.2⟩ (.cells ((cs.drop a.2).take (len*e')++new) true str):=by
   refine ⟨fun x hx => ?_,c',t0,fr,hput.is,VRels.mono le _ _ hrel,?_,fun _=>⟨hBj,?_,fun h => ?_⟩,hstr,(fun h=>by cases h)⟩
   ·simp only [List.mem_append] at hx;exact hx.elim (hosc x) (hnsc x)
   ·rw [hnewlen,hc's];show j.off+a.2+_≤_;omega
   ·show c'.size=j.off+a.2+(j.size - a.2);rw [hc's];omega
   ·rw [hc's];exact hfr h
  refine ⟨_,w',setP ι H.next ⟨j.blk,j.off+a.2,j.size - a.2⟩,hrun,⟨⟨j.blk,j.off+a.2,j.size - a.2⟩,p,m,setP_same _ _ _,rfl,hfit,by simpa [capR] using hcr,fun _=>by rw [hpq];simp⟩,?_,?_⟩
  ·refine ⟨hR.h.change le H.next _ (setP_same _ _ _) (fun k hk _=>hput.same k hk) (fun l y hl hy => ?_) (fun y hy => ?_),by rw [hput.size];exact hR.b,fun k i h => ?_,fun l hl => ?_⟩
   ·have hnx:((H.kill a.1).push (.cells ((cs.drop a.2).take (len*e')++new) true str)).get l=if l=H.next then _ else (H.kill a.1).get l:=Heap.get_push _ _ _
    rw [hnx,if_neg hl,Heap.get_kill] at hy
    split at hy
    ·cases hy
    ·rename_i hla
     exact ⟨hy,fun i hi e0=>hR.h.apart _ _ _ _ _ _ hg hy (Ne.symm hla) rfl hj hi e0.symm⟩
   ·have hnx:((H.kill a.1).push (.cells ((cs.drop a.2).take (len*e')++new) true str)).get H.next=if H.next=H.next then _ else (H.kill a.1).get H.next:=Heap.get_push _ _ _
    rw [hnx,if_pos rfl] at hy
    simp only [Option.some.injEq] at hy;subst hy
    exact ⟨hBR,rfl⟩
   ·obtain ⟨s0,hs0⟩:=hR.g k i h
    exact ⟨s0,le _ _ hs0⟩
   ·have hl':H.next+1≤l:=hl
    rw [setP_other _ _ _ (by omega)]
    exact hR.f l (by omega)
  ·refine ⟨hput.os,hput.tape,hput.output,by rw [hput.size];exact Nat.le_refl _,le,fun k hk ho => ?_,fun k ho => ?_,by show H.next≤H.next+1;omega,fun i hi=>setP_other _ _ _ (by omega),fun i hi h=>by
    have hnx:((H.kill a.1).push (.cells ((cs.drop a.2).take (len*e')++new) true str)).get i=if i=H.next then _ else (H.kill a.1).get i:=Heap.get_push _ _ _
    rw [hnx,if_neg (by omega),Heap.get_kill];split;rfl;exact h⟩
   ·exact hput.same k fun e0=>ho ⟨a.1,_,j,hg,rfl,hj,e0.symm⟩
   ·left
    obtain ⟨l,y,i,hy,hyr,hi,e0⟩:=ho
    have hnx:((H.kill a.1).push (.cells ((cs.drop a.2).take (len*e')++new) true str)).get l=if l=H.next then _ else (H.kill a.1).get l:=Heap.get_push _ _ _
    rw [hnx] at hy
    by_cases hl:l=H.next
    ·subst hl
     rw [setP_same] at hi
     obtain rfl:=Option.some.inj hi
     exact ⟨a.1,_,j,hg,rfl,hj,e0⟩
    ·rw [if_neg hl,Heap.get_kill] at hy
     rw [setP_other _ _ _ hl] at hi
     split at hy
     ·cases hy
     ·exact ⟨l,y,i,hy,hyr,hi,e0⟩
 ·
  have hf:=hfc w.drew rfl (n+1) (Nat.le_refl _)
  rw [hLfull] at hf
  obtain ⟨c',hc',hrun⟩:=append_grow (P:=P) (w:=w) (ty:=ty) (n:=e') (bs:=bs) (b:=some p) (len:=len) (cap:=m) (olds:=LO.toArray) ht hu hd hinf hzero hlen (by rw [hisz];exact hf) (by omega) (by rw [hisz];exact hof _ rfl) (by omega) (by rw [hibs];exact hr1)
  obtain ⟨j',hj1,hj2,hj3,hm⟩:=grown_made (w:=w) (e:=e) (esz:=e') (LO:=LO) (olds:=(cs.drop a.2).take (len*e')) (need:=len+(n+1)) (c:=c') hR.b hid hLO hLr hosc hnsc (by rw [hzvs];exact hzl) (by rw [List.length_append,hol,hnl];simp only [Nat.add_mul]) hc'
  obtain ⟨hq1,hq2⟩:=rel_made hk1 (blk := .cells ((cs.drop a.2).take (len*e')++new) true str) (hm.str trivial)
  refine ⟨_,_,_,hrun,⟨j',_,c',setP_same _ _ _,rfl,hc',?_,fun _=>by simp [hj1,hj2]⟩,hq1,hk2.trans hq2⟩
  simp only [capR,hj3,Nat.sub_zero];rw [Nat.mul_div_cancel _ hr3]
theorem append_sound {esz bs:Nat} {t u e ty:TypeId} {d:TypeDesc} {s x v:AV} {su xu:Value} {z:AV} {H':Heap} (ht:P.underlying t=some (.slice e)) (hu:P.underlying u=some d) (hd:isSeqD d=true) (hsz:sizeC P e=some esz) (hbs:bytesC P e=some bs) (hz:zeroC P e=some z) (hzl:z.cells.length=esz)
  (hR:Rel B G H ι w) (hs:VRel ι s su) (hx:VRel ι x xu) (hp:appendA esz bs s x H=some (v,H')) :
  ∃ vu w' κ,(Builtin.append_ #[t,u] ty #[su,xu]).run P w = .ok vu w'∧VRel κ v vu∧Rel B G H' κ w'∧Keep H ι w H' κ w':=by
 unfold appendA at hp
 split at hp<;>try (cases hp;done)
 rename_i base len cap
 split at hp<;>try (cases hp;done)
 ·rename_i new hsrc
  obtain ⟨hlen,hnl,hnsc,L,hLr,hfc⟩:=src_run (P:=P) hR.h hx hsrc
  have hLl:=hLr.length
  simp only [Option.some.injEq,Prod.mk.injEq] at hp
  obtain ⟨rfl,rfl⟩:=hp
  have hL0:L=[]:=List.eq_nil_of_length_eq_zero (by omega)
  subst hL0
  have hf0:=hfc w rfl 0 (Nat.le_refl _)
  refine ⟨su,w,ι,?_,hs,hR,Keep.refl _ _ _⟩
  cases base with
  | none =>
   obtain ⟨rfl,rfl,rfl⟩:=hs
   exact append_fit (bs:=bs) ht hu hd hsz hlen hf0 (by omega) (fun a ha=>by cases ha) (fun _=>rfl)
  | some a =>
   obtain ⟨j,p,m,hj,rfl,hle,hcr,hq⟩:=hs
   have:=append_fit (P:=P) (ty:=ty) (bs:=bs) (w':=w) (b:=some p) (len:=len) (cap:=m) ht hu hd hsz hlen hf0 (by omega) (fun a ha=>by simp [storeCells]) (fun h=>by cases h)
   simpa using this
 ·rename_i n new hsrc
  obtain ⟨hlen,hnl,hnsc,L,hLr,hfc⟩:=src_run (P:=P) hR.h hx hsrc
  split at hp<;>try (cases hp;done)
  rename_i hroom
  obtain ⟨hr1,hr2,hr3⟩:=hroom
  cases base with
  | none =>
   cases cap with
   | exact c=>exact append_nil_s ht hu hd hsz hbs hz hzl hR hx hlen hnl hnsc hLr hfc hr1 hr2 hr3 hs hp
   | toEnd c=>simp [appendTo] at hp
  | some a =>
   cases cap with
   | exact c=>exact append_exact_s ht hu hd hsz hbs hz hzl hR hx hlen hnl hnsc hLr hfc hr1 hr2 hr3 hs hp
   | toEnd c=>exact append_open_s ht hu hd hsz hbs hz hzl hR hx hlen hnl hnsc hLr hfc hr1 hr2 hr3 hs hp
end
end
end Go.FR
