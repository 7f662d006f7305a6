import Derived.Test.YtpobcoodmhhpaaaDoorVlK
import Derived.Test.YtpobcoodmhhpaaaDoorFrV
import Derived.Test.YtpobcoodmhhpaaaDoorWoF
set_option linter.unusedSimpArgs false
set_option linter.unusedVariables false
namespace Go.VL
open Go.FR Go Go.RowKit
noncomputable section
theorem laidVars_split {P:Program} {w:World}:∀ (l1 l2:List (String × DataW Unit)) (ps:List MemPlace),DataW.LaidVars P w (l1++l2) ps→∃ p1 p2,ps=p1++p2∧DataW.LaidVars P w l1 p1∧DataW.LaidVars P w l2 p2
 | [],l2,ps,h=>⟨[],ps,rfl,rfl,h⟩
 | (n,d)::l1,l2,ps,h=>by
  obtain ⟨g,t,cs,fuel,p,q,h1,h2,h3,h4,h5,rfl⟩:=h
  obtain ⟨p1,p2,rfl,h6,h7⟩:=laidVars_split l1 l2 q h5
  exact ⟨MemPlace.row ⟨g,0,none⟩ cs.size++p++p1,p2,by simp [List.append_assoc],⟨g,t,cs,fuel,p,p1,h1,h2,h3,h4,h6,rfl⟩,h7⟩
theorem row_head {g n:Nat} (h:0 < n):MemPlace.cell g 0∈MemPlace.row ⟨g,0,none⟩ n:=by
 unfold MemPlace.row
 exact List.mem_map.2 ⟨0,List.mem_range.2 h,by simp⟩
theorem laidVars_at {P:Program} {w:World} {name:String} {g:Nat} {cs:Array Value} (hg:P.globalNamed name=some g) (hv:w.var? P name=some cs) (hc:0 < cs.size) :
  ∀ (l:List (String × DataW Unit)) (ps:List MemPlace),DataW.LaidVars P w l ps→(∃ d,(name,d)∈l)→MemPlace.cell g 0∈ps
 | [],ps,h,⟨d,hd⟩=>by cases hd
 | (n,d)::l,ps,h,⟨d',hd⟩=>by
  obtain ⟨g',t,cs',fuel,p,q,h1,h2,h3,h4,h5,rfl⟩:=h
  rcases List.mem_cons.1 hd with e | e
  ·obtain ⟨rfl,rfl⟩:=Prod.mk.inj e
   obtain rfl:=Option.some.inj (hg.symm.trans h1)
   obtain rfl:=Option.some.inj (hv.symm.trans h3)
   exact List.mem_append_left _ (List.mem_append_left _ (row_head hc))
  ·exact List.mem_append_right _ (laidVars_at hg hv hc l q h5 ⟨d',e⟩)
theorem tab_of {P:Program} {W:World} {name:String} {k:IntKind} {zs:List Int} {g:Nat} {t e:TypeId} {n:Nat} (L:List (String × DataW Unit)) (i:Nat)
  (hg:P.globalNamed name=some g) (hty:(P.globals[g]?).map (·.type)=some t) (ht:P.underlying t=some (.array n e)) (he:P.underlying e=some (.int k)) (hce:P.cellsOf e=1) (hct:P.cellsOf t=n)
  (hd:L.drop i=(name,Lib.tabData k zs)::L.drop (i+1)) (h:laidMet P L W):Lib.TabIs P W name k zs:=by
 have h':laidMet P (L.take i++L.drop i) W:=by rw [List.take_append_drop];exact h
 have:=laidMet_drop _ h'
 rw [hd] at this
 exact Lib.tabIs_of_head hg hty ht he hce hct this
theorem tab_zero {P:Program} {W:World} {name:String} {g:Nat} {cs:Array Value} {L:List (String × DataW Unit)} (hg:P.globalNamed name=some g) (hv:W.var? P name=some cs) (hc:0 < cs.size) (hd:∃ d,(name,d)∈L) (h:laidMet P L W):∃ c t,W.heap[g]?=some (.cells c t (0,0)):=by
 obtain ⟨ps,h1,h2,h3⟩:=h
 exact (h3 g 0 (laidVars_at hg hv hc L ps h1 hd)).1
abbrev Laid (Gl:qzg) (H:Heap):Prop:=∀ i cs,qzc Gl i=some cs→∃ as,GG H i=some (.cells as false false)∧VRs (GG H) noP cs as
theorem add_tab0 {P:Program} {W:World} {G:List (Nat × Nat)} {H:Heap} {ι:Pl} {name:String} {g:Nat} {k:IntKind} {zs:List Int} (hR:Rel W.heap.size G H ι W) (hrw:∀ k x,H.get k=some x→x.rw=false)
  (hg:P.globalNamed name=some g) (ht:Lib.TabIs P W name k zs) (hz:∃ c t,W.heap[g]?=some (.cells c t (0,0))) (hf:∀ k x j,H.get k=some x→ι k=some j→¬(j.blk=g∧j.off=0)) :
  ∃ κ,Rel W.heap.size (G++[(g,H.next)]) (H.push (.cells (tabCells k zs) false false)) κ W∧(∀ i x,(H.push (.cells (tabCells k zs) false false)).get i=some x→x.rw=false) ∧
   ∀ i x j,(H.push (.cells (tabCells k zs) false false)).get i=some x→κ i=some j→(j.blk=g∧j.off=0)∨(H.get i=some x∧ι i=some j):=by
 obtain ⟨t,fr,hb⟩:∃ t fr,W.heap[g]?=some (.cells (zs.map fun z=>Value.int k z).toArray t fr):=by
  unfold Lib.TabIs World.var? at ht
  rw [hg] at ht
  simp only [Option.bind_some] at ht
  split at ht<;>simp at ht
  rename_i cs t fr hh
  exact ⟨t,fr,by rw [hh,ht]⟩
 obtain rfl:fr=(0,0):=by
  obtain ⟨c,t',hz⟩:=hz
  rw [hb] at hz
  simp only [Option.some.injEq,Obj.cells.injEq] at hz
  exact hz.2.2
 have hlt:g < W.heap.size:=(Array.getElem?_eq_some_iff.1 hb).1
 have hnone:=hR.f H.next (Nat.le_refl _)
 have le:ι.le (setP ι H.next ⟨g,0,0⟩):=setP_le hnone
 have hl:(tabCells k zs).length=zs.length:=by simp [tabCells]
 have hget:∀ i,(H.push (.cells (tabCells k zs) false false)).get i=if i=H.next then some (.cells (tabCells k zs) false false) else H.get i:=fun i=>Heap.get_push _ _ _
 have old:∀ i x,H.get i=some x→i≠H.next:=fun i x hx e=>by
  obtain ⟨j,hj,_⟩:=hR.h.at_ i x hx
  rw [e,hnone] at hj;cases hj
 have rw1:∀ i x,(H.push (.cells (tabCells k zs) false false)).get i=some x→x.rw=false:=fun i x hx=>by
  rw [hget] at hx
  split at hx
  ·obtain rfl:=Option.some.inj hx;rfl
  ·exact hrw i x hx
 have pl:∀ i x j,(H.push (.cells (tabCells k zs) false false)).get i=some x→setP ι H.next ⟨g,0,0⟩ i=some j→(i=H.next∧j=⟨g,0,0⟩)∨(i≠H.next∧H.get i=some x∧ι i=some j):=fun i x j hx hj=>by
  rw [hget] at hx
  by_cases e:i=H.next
  ·subst e
   rw [setP_same] at hj
   exact .inl ⟨rfl,(Option.some.inj hj).symm⟩
  ·rw [if_neg e] at hx
   rw [setP_other _ _ _ e] at hj
   exact .inr ⟨e,hx,hj⟩
 refine ⟨setP ι H.next ⟨g,0,0⟩,⟨⟨fun i x hx => ?_,fun i m x y a b hx _ _ hr=>(by rw [rw1 i x hx] at hr;cases hr),fun i m x y a b hx hy hne hfx hfy ha hb' => ?_⟩,hR.b,fun n i h => ?_,fun i hi => ?_⟩,rw1,fun i x j hx hj => ?_⟩
 ·rw [hget] at hx
  split at hx
  ·rename_i e
   obtain rfl:=Option.some.inj hx
   subst e
   refine ⟨_,setP_same _ _ _,fun v hv => ?_,_,t,(0,0),hb,?_,by simp [tabCells],by simp,by simp,fun _=>hlt⟩
   ·obtain ⟨z,_,rfl⟩:=List.mem_map.1 hv;rfl
   ·simp only [List.drop_zero]
    rw [List.take_of_length_le (by simp [tabCells])]
    exact tab_rels k zs
  ·obtain ⟨j,hj,hB⟩:=hR.h.at_ i x hx
   exact ⟨j,le _ _ hj,hB.mono le rfl⟩
 ·rcases pl i x a hx ha with ⟨p1,rfl⟩ | ⟨p1,p2,p3⟩<;>rcases pl m y b hy hb' with ⟨q1,rfl⟩ | ⟨q1,q2,q3⟩
  ·exact fun _=>hne (p1.trans q1.symm)
  ·exact fun ⟨e1,e2⟩=>hf m y b q2 q3 ⟨e1.symm,e2.symm⟩
  ·exact fun ⟨e1,e2⟩=>hf i x a p2 p3 ⟨e1,e2⟩
  ·exact hR.h.fixed i m x y a b p2 q2 hne hfx hfy p3 q3
 ·rcases lookN_append _ _ _ _ h with q | q
  ·obtain ⟨s,hs⟩:=hR.g n i q
   exact ⟨s,le _ _ hs⟩
  ·simp only [lookN] at q
   split at q<;>simp at q
   rename_i e
   subst q;subst e
   exact ⟨0,setP_same _ _ _⟩
 ·rw [Heap.next_push] at hi
  rw [setP_other _ _ _ (by omega)]
  exact hR.f i (by omega)
 ·rcases pl i x j hx hj with ⟨_,rfl⟩ | ⟨_,p2,p3⟩
  ·exact .inl ⟨rfl,rfl⟩
  ·exact .inr ⟨p2,p3⟩
theorem look_snoc {α:Type}:∀ (l:List (Nat × α)) (n:Nat) (x:α) (i:Nat),qzc (l++[(n,x)]) i=match qzc l i with
  | some y=>some y
  | none=>if n=i then some x else none
 | [],n,x,i=>by simp [qzc]
 | (a,b)::l,n,x,i=>by
  simp only [List.cons_append,qzc]
  by_cases e:a=i
  ·simp [e]
  ·simp only [if_neg e];exact look_snoc l n x i
theorem look_keep {α:Type} {l:List (Nat × α)} {n:Nat} {x y:α} {i:Nat} (h:qzc l i=some y):qzc (l++[(n,x)]) i=some y:=by
 rw [look_snoc,h]
theorem look_new {α:Type} {l:List (Nat × α)} {n:Nat} {x:α} (h:qzc l n=none):qzc (l++[(n,x)]) n=some x:=by
 rw [look_snoc,h];simp
theorem tab_vrs (G:Gz) (k:IntKind):∀ zs:List Int,VRs G noP (zs.map (VV.int k)) (tabCells k zs)
 | []=>VRs.nil
 | z::zs=>VRs.cons rfl (tab_vrs G k zs)
theorem glob_push {Gl:qzg} {H:Heap} {k:IntKind} {zs:List Int} (h:Laid Gl H):Laid (Gl++[(H.next,zs.map (VV.int k))]) (H.push (.cells (tabCells k zs) false false)):=by
 have le:(GG H).le (GG (H.push (.cells (tabCells k zs) false false))):=HLe.gg ⟨by rw [Heap.next_push];omega,fun b hb=>by rw [Heap.get_push,if_neg (by omega)]⟩
 intro i cs hi
 rw [look_snoc] at hi
 split at hi
 ·rename_i y e
  obtain rfl:=Option.some.inj hi
  obtain ⟨as,h1,h2⟩:=h i y e
  exact ⟨as,le _ _ h1,VRs.mono le (Pm.le_refl _) _ _ h2⟩
 ·split at hi<;>simp at hi
  rename_i e
  subst e;subst hi
  refine ⟨tabCells k zs,?_,tab_vrs _ k zs⟩
  unfold GG
  rw [if_pos (by rw [Heap.next_push];omega),Heap.get_push,if_pos rfl]
end
end Go.VL
namespace Go.VL.Wo
open Go.FR Go.IR Go.VL Go.VL.Er
noncomputable section
theorem sp_eq:spZ.map (VV.int .u8)=spTab:=by
 unfold spZ spTab
 rw [List.map_map];rfl
end
end Go.VL.Wo
