/- The fast run: what writes is as the model's. -/
import Derived.Test.YtlgkadhogiedoaaDoorFrH
set_option linter.unusedSimpArgs false
set_option linter.unusedVariables false
namespace Go.FR
noncomputable section
open Go
section
variable {P:Program} {C:Cfg} {ι:Pl} {w:World} {B:Nat} {H:Heap} {G:List (Nat × Nat)}
structure Put (blk:Nat) (o:Obj) (w w':World):Prop where
 os:w'.os=w.os
 tape:w'.tape=w.tape
 output:w'.output=w.output
 size:w'.heap.size=w.heap.size
 same:∀ c,c≠blk→w'.heap[c]?=w.heap[c]?
 is:w'.heap[blk]?=some o
def spliceV (cs:List Value) (off:Nat) (v:List Value):List Value:=cs.take off++(v++cs.drop (off+v.length))
theorem storeCells_run {blk off:Nat} {t:TypeId} {fr:Nat × Nat}:∀ (L:List Value) (i:Nat) (w:World) (c:Array Value),w.heap[blk]?=some (.cells c t fr)→off+i+L.length≤c.size→(∀ v∈L,v.oneCell'=true) →
  (∀ k,k < c.size→¬(fr.1≤k∧k < fr.2))→∃ w' c',(storeCells ⟨blk,off,none⟩ L i).run P w = .ok () w'∧c'.toList=spliceV c.toList (off+i) L∧Put blk (.cells c' t fr) w w'
 | [],i,w,c,hb,hl,h1,hf=>⟨w,c,by simp [storeCells],by simp [spliceV],rfl,rfl,rfl,rfl,fun _ _=>rfl,hb⟩
 | v::L,i,w,c,hb,hl,h1,hf=>by
  simp only [List.length_cons] at hl
  have hcell:w.cell? ⟨blk,off+i,none⟩=some c[off+i]:=by
   rw [cell_of_block hb];exact Array.getElem?_eq_getElem (by omega)
  have hfz:w.frozen? ⟨blk,off+i,none⟩=false:=by
   simp only [World.frozen?,hb]
   have:=hf (off+i) (by omega)
   simp only [Bool.and_eq_false_iff,decide_eq_false_iff_not]
   by_cases h:fr.1≤off+i
   ·right;intro h2;exact this ⟨h,h2⟩
   ·left;exact h
  have hadd:(⟨blk,off,none⟩:Addr).add i=⟨blk,off+i,none⟩:=by
   unfold Addr.add;split
   ·rename_i h;simp [h]
   ·rfl
  have hb':(w.setCell ⟨blk,off+i,none⟩ v).heap[blk]?=some (.cells (c.setIfInBounds (off+i) v) t fr):=by
   simp [World.setCell,Array.getElem?_modify,hb]
  obtain ⟨w',c',hr,hc,hp⟩:=storeCells_run (off:=off) L (i+1) (w.setCell ⟨blk,off+i,none⟩ v) (c.setIfInBounds (off+i) v) hb' (by simp;omega) (fun v hv=>h1 v (List.mem_cons_of_mem _ hv)) (by simpa using hf)
  refine ⟨w',c',?_,?_,?_⟩
  ·simp only [storeCells,Sem.run_bind,hadd,run_store P w _ v .plain (h1 v (List.mem_cons_self ..)),hcell,hfz]
   simp [hr]
  ·rw [hc]
   simp only [spliceV,Array.toList_setIfInBounds]
   have e:c.toList.set (off+i) v=c.toList.take (off+i)++v::c.toList.drop (off+i+1):=by
    rw [List.set_eq_take_append_cons_drop,if_pos (by simp;omega)]
   have hlen:(c.toList.take (off+i)).length=off+i:=by simp;omega
   have e1:(c.toList.set (off+i) v).take (off+(i+1))=c.toList.take (off+i)++[v]:=by
    rw [e,List.take_append,hlen]
    simp [show off+(i+1) - (off+i)=1 by omega,List.take_take]
   have e2:(c.toList.set (off+i) v).drop (off+(i+1)+L.length)=c.toList.drop (off+i+(L.length+1)):=by
    rw [e,List.drop_append,hlen]
    rw [show off+(i+1)+L.length - (off+i)=L.length+1 by omega,List.drop_eq_nil_of_le (by rw [hlen];omega)]
    simp [List.drop_drop]
    congr 1
    omega
   rw [e1,e2];simp
  ·refine ⟨hp.os,hp.tape,hp.output,by rw [hp.size];simp [World.setCell],fun k hk => ?_,hp.is⟩
   rw [hp.same k hk]
   simp only [World.setCell,Array.getElem?_modify]
   rw [if_neg (by omega)]
theorem upd_block {k:Nat} {x x':ABlk} {j:Inj} {o:Obj} {w':World} (hR:Rel B G H ι w) (hg:H.get k=some x) (hrw:x.rw=true) (hj:ι k=some j) (hp:Put j.blk o w w') (hb:BRel B ι w' j x') (hrw':x'.rw=true) :
  Rel B G (H.set k x') ι w'∧Keep H ι w (H.set k x') ι w':=by
 refine ⟨⟨hR.h.change (Pl.le_refl _) k j hj (fun c hc _=>hp.same c hc) (fun l y hl hy => ?_) (fun y hy => ?_),by rw [hp.size];exact hR.b,hR.g,fun l hl=>hR.f l hl⟩,hp.os,hp.tape,hp.output,by rw [hp.size];exact Nat.le_refl _,Pl.le_refl _,fun c hc ho => ?_,fun c ho => ?_,Nat.le_refl _,fun _ _=>rfl,fun i _ h=>by rw [Heap.get_set];split;(· rename_i e;subst e;rw [hg] at h;cases h);exact h⟩
 ·rw [Heap.get_set,if_neg hl] at hy
  exact ⟨hy,fun i hi e=>hR.h.apart k l x y j i hg hy (Ne.symm hl) hrw hj hi e.symm⟩
 ·rw [Heap.get_set,if_pos rfl] at hy
  simp only [Option.some.injEq] at hy;subst hy
  exact ⟨hb,hrw'⟩
 ·exact hp.same c fun e=>ho ⟨k,x,j,hg,hrw,hj,e.symm⟩
 ·left
  obtain ⟨l,y,i,hy,hyr,hi,e⟩:=ho
  rw [Heap.get_set] at hy
  by_cases hl:l=k
  ·subst hl
   exact ⟨l,x,j,hg,hrw,hj,by rw [hj] at hi;obtain rfl:=Option.some.inj hi;exact e⟩
  ·rw [if_neg hl] at hy
   exact ⟨l,y,i,hy,hyr,hi,e⟩
theorem splice_rels {cs:List AV} {c:List Value} {o:Nat} {v:List AV} {L:List Value} (h:VRels ι cs c) (h':VRels ι v L):VRels ι (splice cs o v) (spliceV c o L):=by
 unfold splice spliceV
 rw [h'.length]
 exact VRels.append (h.take o) (VRels.append h' (h.drop _))
theorem splice_sc {cs v:List AV} {o:Nat} (h:∀ c∈cs,scA c=true) (h':∀ c∈v,scA c=true):∀ c∈splice cs o v,scA c=true:=by
 intro c hc
 simp only [splice,List.mem_append] at hc
 rcases hc with hc | hc | hc
 ·exact h c (List.mem_of_mem_take hc)
 ·exact h' c hc
 ·exact h c (List.mem_of_mem_drop hc)
theorem splice_length {cs v:List AV} {o:Nat} (h:o+v.length≤cs.length):(splice cs o v).length=cs.length:=by
 simp [splice];omega
theorem splice_window {L0 L:List Value} {b n o:Nat} (h:o+L.length≤n) (h0:b+n≤L0.length):((spliceV L0 (b+o) L).drop b).take n=spliceV ((L0.drop b).take n) o L:=by
 obtain ⟨A,M,R,rfl,rfl,rfl⟩:∃ A M R,L0=A++(M++R)∧A.length=b∧M.length=n :=
  ⟨L0.take b,(L0.drop b).take n,(L0.drop b).drop n,by rw [List.take_append_drop,List.take_append_drop],by simp;omega,by simp;omega⟩
 have e1:spliceV (A++(M++R)) (A.length+o) L=A++(spliceV M o L++R):=by
  simp only [spliceV]
  rw [List.take_length_add_append,show A.length+o+L.length=A.length+(o+L.length) by omega,List.drop_length_add_append,List.take_append_of_le_length (by omega),List.drop_append_of_le_length (by omega)]
  simp
 have e2:(spliceV M o L).length=M.length:=by simp [spliceV];omega
 rw [e1,List.drop_left,←e2,List.take_left,e2,List.drop_left,List.take_left]
theorem storeAt_run {a:Nat × Nat} {v:List AV} {L:List Value} {j:Inj} {H':Heap} (hR:Rel B G H ι w) (hj:ι a.1=some j) (hv:VRels ι v L) (hs:∀ c∈v,scA c=true) (hp:storeAt H a v=some H') :
  ∃ w',(storeCells ⟨j.blk,j.off+a.2,none⟩ L).run P w = .ok () w'∧Rel B G H' ι w'∧Keep H ι w H' ι w':=by
 unfold storeAt at hp
 split at hp
 ·rename_i cs str hg
  split at hp
  ·rename_i hle
   simp only [Option.some.injEq] at hp;subst hp
   obtain ⟨j',hj',hb⟩:=hR.h.at_ _ _ hg
   rw [hj] at hj';obtain rfl:=Option.some.inj hj'
   obtain ⟨hsc,c,t,fr,hbl,hvr,hlen,hrw,hstr,hro⟩:=hb
   obtain ⟨hB,hsz,hfr⟩:=hrw rfl
   have hLl:=hv.length
   have hfz:∀ k,k < c.size→¬(fr.1≤k∧k < fr.2):=by
    intro k hk ⟨h1,h2⟩
    cases str with
    | false=>rw [hstr rfl] at h2;simp at h2
    | true=>rcases hfr rfl with h | h
            ·rw [h] at h2;simp at h2
            ·omega
   have h1:∀ u∈L,u.oneCell'=true:=by
    intro u hu
    obtain ⟨k,hk⟩:=List.mem_iff_getElem?.1 hu
    obtain ⟨hlt,_⟩:=List.getElem?_eq_some_iff.1 hk
    have hlt':k < v.length:=by omega
    obtain ⟨u',h2,h3⟩:=hv.get k v[k] (List.getElem?_eq_getElem hlt')
    rw [hk] at h2;obtain rfl:=Option.some.inj h2
    exact h3.one (hs _ (List.getElem_mem _))
   obtain ⟨w',c',hr,hc,hput⟩:=storeCells_run (P:=P) (off:=j.off+a.2) L 0 w c hbl (by omega) h1 hfz
   have hc's:c'.size=c.size:=by
    have:c'.toList.length=c.toList.length:=by rw [hc];simp [spliceV];omega
    simpa using this
   have hrel:VRels ι (splice cs a.2 v) ((c'.toList.drop j.off).take (splice cs a.2 v).length):=by
    have h2:=splice_rels (o:=a.2) hvr hv
    have e:(c'.toList.drop j.off).take (splice cs a.2 v).length=spliceV ((c.toList.drop j.off).take cs.length) a.2 L:=by
     rw [splice_length hle,hc]
     simp only [Nat.add_zero]
     exact splice_window (by omega) (by simp;omega)
    rw [e];exact h2
   obtain ⟨h3,h4⟩:=upd_block hR hg rfl hj hput (x' := .cells (splice cs a.2 v) true str) ⟨splice_sc hsc hs,c',t,fr,hput.is,hrel,by rw [splice_length hle,hc's];exact hlen,fun _=>⟨hB,by rw [hc's];exact hsz,fun h=>by rw [hc's];exact hfr h⟩,hstr,fun h=>by cases h⟩ rfl
   exact ⟨w',hr,h3,h4⟩
  ·cases hp
 ·cases hp
theorem append_fit {t u ty e:TypeId} {d:TypeDesc} {n bs:Nat} (ht:P.underlying t=some (.slice e)) (hu:P.underlying u=some d) (hd:isSeqD d=true) (hs:sizeC P e=some n)
  {x:Value} {m:Nat} {news:Array Value} (hl:(Builtin.lenOf x).run P w = .ok m w) (hf:(Builtin.firstCells n m x).run P w = .ok news w) {b:Option Addr} {len cap:Nat} (hle:len+m≤cap) {w':World}
  (hst:∀ a,b=some a→(storeCells (a.add (len*n)) news.toList).run P w = .ok () w') (hn:b=none→w'=w) :
  (Builtin.append_ #[t,u] ty #[.slice b len cap,x]).run P w = .ok (.slice b (len+m) cap) w':=by
 have hd':(∃ q,d = .slice q)∨d = .string:=by cases d<;>simp [isSeqD] at hd ⊢
 simp only [Builtin.append_]
 cases b with
 | none =>
  obtain rfl:=hn rfl
  rcases hd' with ⟨q,rfl⟩ | rfl<;>simp [run_und ht,run_und hu,run_size hs,hl,hf,hle]
 | some a =>
  have:=hst a rfl
  rcases hd' with ⟨q,rfl⟩ | rfl<;>simp [run_und ht,run_und hu,run_size hs,hl,hf,hle,this]
theorem append_grow {t u ty e:TypeId} {d:TypeDesc} {n bs:Nat} {i:TypeInfo} {z:Value} (ht:P.underlying t=some (.slice e)) (hu:P.underlying u=some d) (hd:isSeqD d=true) (hi:P.info? e=some i) (hz:i.zero=some z)
  {x:Value} {m:Nat} {olds news:Array Value} (hl:(Builtin.lenOf x).run P w = .ok m w) (hf:(Builtin.firstCells i.size m x).run P w.drew = .ok news w.drew) {b:Option Addr} {len cap:Nat} (hgt:cap < len+m)
  (ho:(Builtin.firstCells i.size len (.slice b len cap)).run P w.drew = .ok olds w.drew)
  (h63:len+m < 17592186044416) (hb:(len+m)*i.bytes≤17592186044416) :
  ∃ c,len+m≤c∧(Builtin.append_ #[t,u] ty #[.slice b len cap,x]).run P w = .ok (.slice (some ⟨w.heap.size,0,none⟩) (len+m) c) (w.drew.alloc (.cells (olds++news++Builtin.zeroCells z.cells (c - (len+m))) e)):=by
 refine ⟨grownCap w (len+m) cap e,by simp [grownCap,Question.cut],?_⟩
 have hfit:Builtin.nextslicecap (len+m) cap*i.bytes≤281474976710656:=growslice_fits (by omega) (by omega)
 have h1:¬(len+m≤cap):=by omega
 have h2:¬(9223372036854775807 < ((len+m:Nat):Int)):=by omega
 have h2':¬(9223372036854775807 < ((len:Int)+(m:Int))):=by omega
 have h3:¬(281474976710656 < Builtin.nextslicecap (len+m) cap*i.bytes):=by omega
 have hd':(∃ q,d = .slice q)∨d = .string:=by cases d<;>simp [isSeqD] at hd ⊢
 simp only [Builtin.append_]
 rcases hd' with ⟨q,rfl⟩ | rfl<;>simp [run_und ht,run_und hu,sizeOf,typeInfo,zeroValue,hi,hz,hl,h1,h2,h2',h3,Question.forced,ho,hf,newRow,grownCap]
end
end
end Go.FR
