/- The fast run: what reads the heap is as the model's. -/
import Derived.Test.YtlgkadhogiedoaaDoorFrE
import Derived.Laws.StructEq
set_option linter.unusedSimpArgs false
set_option linter.unusedVariables false
namespace Go.FR
noncomputable section
open Go
section
variable {P:Program} {C:Cfg} {ι:Pl} {w:World} {B:Nat} {H:Heap}
theorem cell_of_block {b o:Nat} {c:Array Value} {t:TypeId} {fr:Nat × Nat} (h:w.heap[b]?=some (.cells c t fr)):w.cell? ⟨b,o,none⟩=c[o]?:=by
 simp [World.cell?,h]
theorem cells_at {j:Inj} {cs:List AV} {rw str:Bool} (h:BRel B ι w j (.cells cs rw str)) {o n:Nat} (hle:o+n≤cs.length) :
  ∃ L:List Value,L.length=n∧VRels ι ((cs.drop o).take n) L∧∀ (k:Nat) v,L[k]?=some v→w.cell? ((⟨j.blk,j.off+o,none⟩:Addr).add k)=some v:=by
 obtain ⟨hs,c,t,fr,hb,hv,hl,_⟩:=h
 refine ⟨((((c.toList.drop j.off).take cs.length).drop o).take n),?_,(hv.drop o).take n,fun k v hk => ?_⟩
 ·simp only [List.length_take,List.length_drop,Array.length_toList];try omega
 ·rw [add_zero_addr,cell_of_block hb]
  simp only [List.getElem?_take,List.getElem?_drop] at hk
  split at hk
  ·split at hk
   ·rw [←hk];simp [Nat.add_assoc]
   ·cases hk
  ·cases hk
theorem cell_one {j:Inj} {cs:List AV} {rw str:Bool} (h:BRel B ι w j (.cells cs rw str)) {o:Nat} {x:AV} (hx:cs[o]?=some x) :
  ∃ v,w.cell? ⟨j.blk,j.off+o,none⟩=some v∧VRel ι x v:=by
 obtain ⟨hs,c,t,fr,hb,hv,hl,_⟩:=h
 obtain ⟨v,h1,h2⟩:=hv.get o x hx
 refine ⟨v,?_,h2⟩
 rw [cell_of_block hb]
 simp only [List.getElem?_take,List.getElem?_drop] at h1
 split at h1
 ·rw [←h1];simp
 ·cases h1
theorem load_run {t:TypeId} {sz:Option Nat} {j:Inj} {cs:List AV} {rw str:Bool} {o:Nat} {v:AV} (ha:aggC P t=some sz) (h:BRel B ι w j (.cells cs rw str)) (hp:partA cs o sz=some v) :
  ∃ u,(loadVar t ⟨j.blk,j.off+o,none⟩).run P w = .ok u w∧VRel ι v u:=by
 unfold aggC at ha
 cases hd:P.underlying t with
 | none=>simp [hd] at ha
 | some d =>
  cases hz:sizeC P t with
  | none=>simp [hd,hz] at ha
  | some n =>
   simp only [hd,hz,Option.some.injEq] at ha
   cases hb:isAggD d with
   | true =>
    simp only [hb,if_true] at ha
    subst ha
    simp only [partA] at hp
    split at hp
    ·rename_i hle
     simp only [Option.some.injEq] at hp;subst hp
     obtain ⟨L,hL,hr,hc⟩:=cells_at h hle
     have hrun:=run_loadCells_list (P:=P) (w:=w) ⟨j.blk,j.off+o,none⟩ L hc
     rw [hL] at hrun
     refine ⟨.agg L.toArray,?_,L.toArray,rfl,by simpa using hr,fun c hcm=>h.1 c (List.mem_of_mem_drop (List.mem_of_mem_take hcm))⟩
     simp [loadVar,run_agg hd,hb,run_size hz,hrun]
    ·cases hp
   | false =>
    simp only [hb,Bool.false_eq_true,if_false] at ha
    subst ha
    simp only [partA] at hp
    obtain ⟨u,hu,hr⟩:=cell_one h hp
    exact ⟨u,by simp [loadVar,run_agg hd,hb,hu],hr⟩
theorem pEq_run (hR:HRel B H.get ι w) {a b:Nat × Nat} {i j:Inj} (hi:ι a.1=some i) (hj:ι b.1=some j) {r:Bool} (h:pEq H a b=some r) :
  (sameAddr ⟨i.blk,i.off+a.2,none⟩ ⟨j.blk,j.off+b.2,none⟩).run P w = .ok r w:=by
 unfold pEq at h
 split at h
 ·rename_i e
  simp only [Option.some.injEq] at h;subst h
  rw [e,hj] at hi;obtain rfl:=Option.some.inj hi
  simp [sameAddr]
  by_cases e2:a.2=b.2
  ·simp [e2]
  ·simp [e2]
 ·rename_i hne
  split at h
  ·rename_i cs rw cs' rw' hg hg'
   split at h
   ·rename_i hc
    simp only [Option.some.injEq] at h;subst h
    obtain ⟨i',hi',hb⟩:=hR.at_ _ _ hg
    obtain ⟨j',hj',hb'⟩:=hR.at_ _ _ hg'
    rw [hi] at hi';obtain rfl:=Option.some.inj hi'
    rw [hj] at hj';obtain rfl:=Option.some.inj hj'
    have hne2:(⟨i.blk,i.off+a.2,none⟩:Addr)≠⟨j.blk,j.off+b.2,none⟩:=by
     intro e
     simp only [Addr.mk.injEq,and_true] at e
     simp only [Bool.or_eq_true,Bool.and_eq_true,beq_iff_eq] at hc
     rcases hc with (hc | hc) | hc
     ·exact hR.apart _ _ _ _ _ _ hg hg' hne (by simpa [ABlk.rw] using hc) hi hj e.1
     ·exact hR.apart _ _ _ _ _ _ hg' hg (Ne.symm hne) (by simpa [ABlk.rw] using hc) hj hi e.1.symm
     ·cases rw with
      | true=>exact hR.apart _ _ _ _ _ _ hg hg' hne (by simp [ABlk.rw]) hi hj e.1
      | false=>cases rw' with
       | true=>exact hR.apart _ _ _ _ _ _ hg' hg (Ne.symm hne) (by simp [ABlk.rw]) hj hi e.1.symm
       | false=>exact hR.fixed _ _ _ _ _ _ hg hg' hne rfl rfl hi hj ⟨e.1,by omega⟩
    obtain ⟨_,c,t,fr,h1,_,_,_,h2,_⟩:=hb
    obtain ⟨_,c',t',fr',h1',_,_,_,h2',_⟩:=hb'
    rw [h2 rfl] at h1;rw [h2' rfl] at h1'
    exact run_sameAddr_other w hne2 h1 h1'
   ·cases h
  ·cases h
def allB (f:Nat→Option Bool):List Nat→Option Bool
 | []=>some true
 | i::l=>match f i with
  | some true=>allB f l
  | some false=>some false
  | none=>none
theorem eq_array_run (d:Nat) (t e:TypeId) (n:Nat) (hd:P.underlying t=some (.array n e)) (xs ys:Array Value) (s:Nat) (hs:sizeC P e=some s)
  (f:Nat→Option Bool) (hf:∀ i b,f i=some b→∃ x y,(∀ w,(part e xs (i*s)).run P w = .ok x w)∧(∀ w,(part e ys (i*s)).run P w = .ok y w)∧(Op.equalIn d e x y).run P w = .ok b w)
  (r:Bool) (hr:allB f (List.range n)=some r):(Op.equalIn (d+1) t (.agg xs) (.agg ys)).run P w = .ok r w:=by
 simp only [Op.equalIn,Sem.run_bind,run_und hd,Result.andThen_ok,run_size hs]
 rw [Std.Legacy.Range.forIn_eq_forIn_range']
 simp only [Std.Legacy.Range.size,Nat.sub_zero,Nat.add_one_sub_one,Nat.div_one]
 rw [show List.range n=List.range' 0 n from List.range_eq_range'] at hr
 generalize List.range' 0 n=l at hr ⊢
 induction l with
 | nil=>simp [allB] at hr;simp [hr]
 | cons i l ih =>
  simp only [allB] at hr
  simp only [List.forIn_cons,Sem.run_bind]
  split at hr
  ·rename_i hi
   obtain ⟨x,y,h1,h2,h3⟩:=hf i _ hi
   simp only [h1,h2,h3,Result.andThen_ok,Bool.not_true,Bool.false_eq_true,if_false,Sem.run_pure]
   exact ih hr
  ·rename_i hi
   obtain ⟨x,y,h1,h2,h3⟩:=hf i _ hi
   simp only [Option.some.injEq] at hr;subst hr
   simp only [h1,h2,h3,Result.andThen_ok,Bool.not_false,if_true,Sem.run_pure]
  ·cases hr
theorem aeq_agg_array {H:Heap} {ps:List (Nat × Option Nat × EqT)} {sz:Option Nat} {e:EqT} {s:Nat} {xs ys:List AV}:∀ (l:List Nat) {r:Bool},aeqAll H (l.map fun i=>(i*s,sz,e)) xs ys=some r →
  allB (fun i=>match partA xs (i*s) sz,partA ys (i*s) sz with | some x,some y=>aeq H e x y | _,_=>none) l=some r
 | [],r,h=>by simpa [aeqAll,allB] using h
 | i::l,r,h=>by
  simp only [List.map_cons,aeqAll] at h
  simp only [allB]
  split at h
  ·rename_i x y hx hy
   simp only [hx,hy]
   split at h
   ·rename_i he;simp only [he];exact aeq_agg_array (ps:=ps) l h
   ·rename_i he;simp only [he];exact h
   ·cases h
  ·cases h
theorem iface_ptr_run (hR:HRel B H.get ι w) {dyn:List Nat} (hdyn:dyn.all (dynOk P)=true) {t:Nat} (ht:dyn.contains t=true) {a b:Nat × Nat} {i j:Inj} (hi:ι a.1=some i) (hj:ι b.1=some j) {r:Bool} (h:pEq H a b=some r) (D:Nat) {ti:TypeId} {ms:Array (String × TypeId)} (hti:P.underlying ti=some (.interface ms)) :
  (Op.equalIn (D+2) ti (.iface t (.pointer (some ⟨i.blk,i.off+a.2,none⟩))) (.iface t (.pointer (some ⟨j.blk,j.off+b.2,none⟩)))).run P w = .ok r w:=by
 have hd:=(List.all_eq_true.1 hdyn) t (by simpa using ht)
 unfold dynOk at hd
 split at hd
 ·rename_i e hp
  simp only [Bool.and_eq_true] at hd
  obtain ⟨h1,h2⟩:=hd
  split at h1
  ·rename_i n hn
   split at h2
   ·rename_i inf hinf
    have hz:n≠0:=by
     intro e0;subst e0;simp at h1
    simp only [Op.equalIn,Sem.run_bind,run_und hti,Result.andThen_ok]
    simp [typeInfo,hinf,h2,run_und hp,run_size hn,hz,pEq_run hR hi hj h]
   ·cases h2
  ·cases h1
 ·cases hd
set_option maxHeartbeats 3200000 in
theorem aeq_run (hR:HRel B H.get ι w):∀ (d:Nat) (lit:Bool) (t:TypeId) (e:EqT),eqC P C lit d t=some e→∀ (D:Nat) (x y:AV) (u v:Value) (r:Bool),VRel ι x u→VRel ι y v→aeq H e x y=some r →
  (Op.equalIn (D+2+d) t u v).run P w = .ok r w:=by
 intro d
 induction d with
 | zero=>intro lit t e h;simp [eqC] at h
 | succ d ih =>
  intro lit t e he D x y u v r hx hy h
  simp only [eqC] at he
  rw [show D+2+(d+1)=(D+2+d)+1 by omega]
  split at he
  ·rename_i hd
   simp only [Option.some.injEq] at he;subst he
   simp only [aeq] at h
   cases x<;>cases y<;>simp only [eqBool] at h<;>try (cases h;done)
   simp only [VRel] at hx hy;subst hx;subst hy
   simp only [Option.some.injEq] at h;subst h
   simp [Op.equalIn,run_und hd]
  ·rename_i k hd
   simp only [Option.some.injEq] at he;subst he
   simp only [aeq] at h
   cases x<;>cases y<;>simp only [eqInt] at h<;>try (cases h;done)
   simp only [VRel] at hx hy;subst hx;subst hy
   split at h
   ·rename_i hk;subst hk
    simp only [Option.some.injEq] at h;subst h
    simp [Op.equalIn,run_und hd]
   ·cases h
  ·rename_i hd
   simp only [Option.some.injEq] at he;subst he
   simp only [aeq] at h
   cases x<;>cases y<;>simp only [eqStr] at h<;>try (cases h;done)
   simp only [VRel] at hx hy;subst hx;subst hy
   simp only [Option.some.injEq] at h;subst h
   simp [Op.equalIn,run_und hd,beq_toListBytes,ba_toList]
  ·rename_i e hd
   split at he
   ·rename_i n hn
    simp only [Option.some.injEq] at he;subst he
    simp only [aeq] at h
    cases x<;>cases y<;>simp only [eqPtr] at h<;>try (cases h;done)
    rename_i p q
    cases p with
    | none =>
     simp only [VRel] at hx;subst hx
     simp only [Option.some.injEq] at h;subst h
     cases q with
     | none=>simp only [VRel] at hy;subst hy;simp [Op.equalIn,run_und hd]
     | some q=>obtain ⟨j,hj,rfl⟩:=hy;simp [Op.equalIn,run_und hd]
    | some p =>
     obtain ⟨i,hi,rfl⟩:=hx
     cases q with
     | none =>
      simp only [VRel] at hy;subst hy
      simp only [Option.some.injEq] at h;subst h
      simp [Op.equalIn,run_und hd]
     | some q =>
      obtain ⟨j,hj,rfl⟩:=hy
      simp only at h
      simp [Op.equalIn,run_und hd,run_size hn,pEq_run hR hi hj h]
   ·cases he
  ·rename_i e hd
   simp only [Option.some.injEq] at he;subst he
   simp only [aeq] at h
   cases x<;>cases y<;>simp only [eqSl] at h<;>try (cases h;done)
   rename_i p n c q m c'
   cases p with
   | none =>
    obtain ⟨rfl,rfl,rfl⟩:=hx
    simp only [Option.some.injEq] at h;subst h
    cases q with
    | none=>obtain ⟨rfl,rfl,rfl⟩:=hy;simp [Op.equalIn,run_und hd]
    | some q=>obtain ⟨j,z,k,hj,rfl,_⟩:=hy;simp [Op.equalIn,run_und hd]
   | some p =>
    obtain ⟨i,z,k,hi,rfl,_⟩:=hx
    cases q with
    | none =>
     obtain ⟨rfl,rfl,rfl⟩:=hy
     simp only [Option.some.injEq] at h;subst h
     simp [Op.equalIn,run_und hd]
    | some q=>simp at h
  ·rename_i kt et hd
   simp only [Option.some.injEq] at he;subst he
   simp only [aeq] at h
   cases x<;>cases y<;>simp only [eqMap] at h<;>try (cases h;done)
   rename_i p q
   cases p with
   | none =>
    simp only [VRel] at hx;subst hx
    simp only [Option.some.injEq] at h;subst h
    cases q with
    | none=>simp only [VRel] at hy;subst hy;simp [Op.equalIn,run_und hd]
    | some q=>obtain ⟨j,hj,rfl⟩:=hy;simp [Op.equalIn,run_und hd]
   | some p =>
    obtain ⟨i,hi,rfl⟩:=hx
    cases q with
    | none =>
     simp only [VRel] at hy;subst hy
     simp only [Option.some.injEq] at h;subst h
     simp [Op.equalIn,run_und hd]
    | some q=>simp at h
  ·rename_i a b c hd
   simp only [Option.some.injEq] at he;subst he
   simp only [aeq] at h
   cases x<;>cases y<;>simp only [eqFn] at h<;>try (cases h;done)
   ·obtain ⟨_,_,rfl,_⟩:=hx;simp only [VRel] at hy;subst hy
    simp only [Option.some.injEq] at h;subst h
    simp [Op.equalIn,run_und hd]
   ·obtain ⟨_,_,rfl,_⟩:=hy;simp only [VRel] at hx;subst hx
    simp only [Option.some.injEq] at h;subst h
    simp [Op.equalIn,run_und hd]
   ·simp only [VRel] at hx hy;subst hx;subst hy
    simp only [Option.some.injEq] at h;subst h
    simp [Op.equalIn,run_und hd]
  ·rename_i ms hd
   split at he
   ·rename_i hdyn
    simp only [Option.some.injEq] at he;subst he
    simp only [aeq] at h
    cases x<;>cases y<;>simp only [eqIf] at h<;>try (cases h;done)
    ·obtain ⟨a,rfl,ha⟩:=hx
     obtain ⟨b,rfl,hb⟩:=hy
     rename_i t1 x t2 y
     split at h
     ·rename_i htt
      subst htt
      split at h
      ·rename_i hc
       split at h
       ·rename_i p q
        obtain ⟨i,hi,rfl⟩:=ha
        obtain ⟨j,hj,rfl⟩:=hb
        have:=iface_ptr_run hR hdyn hc hi hj h (D+1+d) hd
        rwa [show D+1+d+2=D+2+d+1 by omega] at this
       ·cases h
      ·cases h
     ·rename_i htt
      simp only [Option.some.injEq] at h;subst h
      simp [Op.equalIn,run_und hd,htt]
    ·obtain ⟨a,rfl,ha⟩:=hx
     simp only [VRel] at hy;subst hy
     simp only [Option.some.injEq] at h;subst h
     simp [Op.equalIn,run_und hd]
    ·obtain ⟨a,rfl,ha⟩:=hy
     simp only [VRel] at hx;subst hx
     simp only [Option.some.injEq] at h;subst h
     simp [Op.equalIn,run_und hd]
    ·simp only [VRel] at hx hy;subst hx;subst hy
     split at h
     ·simp only [Option.some.injEq] at h;subst h
      simp [Op.equalIn,run_und hd]
     ·cases h
   ·cases he
  ·rename_i fs hd
   split at he
   ·cases he
   ·rename_i hst
    split at he
    ·rename_i ps hps
     simp only [Option.some.injEq] at he;subst he
     simp only [aeq] at h
     split at h
     ·rename_i xs ys
      obtain ⟨c,rfl,hc,hcs⟩:=hx
      obtain ⟨c',rfl,hc',hcs'⟩:=hy
      have hst':P.stoodInHeld t=false:=by
       cases hq:P.stoodInHeld t<;>simp [hq] at hst ⊢
      have hfs:P.fieldsOf t=fs:=by simp [Program.fieldsOf,hd]
      rw [run_equalIn_struct w (D+2+d) t c c' (by rw [hfs];exact hd) hst',hfs]
      generalize fs.toList=l at hps
      induction l generalizing ps with
      | nil =>
       simp [mapO] at hps;subst hps
       simp [aeqAll] at h;subst h
       simp [Op.eqFields]
      | cons f l ihl =>
       simp only [mapO] at hps
       split at hps
       ·cases hps
       ·rename_i q hq
        split at hps
        ·cases hps
        ·rename_i qs hqs
         simp only [Option.some.injEq] at hps;subst hps
         split at hq
         ·cases hq
         ·rename_i hname
          split at hq
          ·rename_i sz e hsz hee
           simp only [Option.some.injEq] at hq;subst hq
           simp only [aeqAll] at h
           split at h
           ·rename_i x1 y1 hx1 hy1
            obtain ⟨u1,hu1,hru⟩:=part_run hsz hc hcs hx1
            obtain ⟨v1,hv1,hrv⟩:=part_run hsz hc' hcs' hy1
            have hn:f.name ≠ "_" := hname
            split at h
            ·rename_i hr1
             have:=ih false f.type e hee D x1 y1 u1 v1 _ hru hrv hr1
             simp only [Op.eqFields,hn,ne_eq,not_false_eq_true,if_true,Sem.run_bind,hu1,hv1,Result.andThen_ok,this,Bool.not_true,Bool.false_eq_true,if_false]
             exact ihl qs h hqs
            ·rename_i hr1
             have:=ih false f.type e hee D x1 y1 u1 v1 _ hru hrv hr1
             simp only [Option.some.injEq] at h;subst h
             simp only [Op.eqFields,hn,ne_eq,not_false_eq_true,if_true,Sem.run_bind,hu1,hv1,Result.andThen_ok,this,Bool.not_false,Sem.run_pure]
            ·cases h
           ·cases h
          ·cases hq
     ·cases h
    ·cases he
  ·rename_i n e hd
   split at he
   ·cases he
   ·split at he
    ·rename_i s sz q hs hsz hq
     simp only [Option.some.injEq] at he;subst he
     simp only [aeq] at h
     split at h
     ·rename_i xs ys
      obtain ⟨c,rfl,hc,hcs⟩:=hx
      obtain ⟨c',rfl,hc',hcs'⟩:=hy
      refine eq_array_run _ t e n hd c c' s hs _ (fun i b hb => ?_) r (aeq_agg_array (ps:=[]) _ h)
      split at hb
      ·rename_i x1 y1 hx1 hy1
       obtain ⟨u1,hu1,hru⟩:=part_run hsz hc hcs hx1
       obtain ⟨v1,hv1,hrv⟩:=part_run hsz hc' hcs' hy1
       exact ⟨u1,v1,hu1,hv1,ih false e q hq D x1 y1 u1 v1 _ hru hrv hb⟩
      ·cases hb
     ·cases h
    ·cases he
  ·cases he
end
end
end Go.FR
