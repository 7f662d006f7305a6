import Derived.Test.YtlgkadhogiedoaaDoorVlK
import Derived.Test.YtlgkadhogiedoaaDoorFrV
import Derived.Test.YtlgkadhogiedoaaDoorNuF
set_option linter.unusedSimpArgs false
set_option linter.unusedVariables false
namespace Go.VL
open Go.FR Go Go.RowKit
noncomputable section
theorem laidVars_split {P:Program} {w:World}:∀ (l1 l2:List (String × DataW Unit)) (ps:List MemPlace),DataW.LaidVars P w (l1++l2) ps→∃ p1 p2,ps=p1++p2∧DataW.LaidVars P w l1 p1∧DataW.LaidVars P w l2 p2
 | [],l2,ps,h=>⟨[],ps,rfl,rfl,h⟩
 | (n,d)::l1,l2,ps,h=>by
  obtain ⟨g,t,cs,fuel,p,q,h1,h2,h3,h4,h5,rfl⟩:=h
  obtain ⟨p1,p2,rfl,h6,h7⟩:=laidVars_split l1 l2 q h5
  exact ⟨MemPlace.row ⟨g,0,none⟩ cs.size++p++p1,p2,by simp [List.append_assoc],⟨g,t,cs,fuel,p,p1,h1,h2,h3,h4,h6,rfl⟩,h7⟩
theorem row_head {g n:Nat} (h:0 < n):MemPlace.cell g 0∈MemPlace.row ⟨g,0,none⟩ n:=by
 unfold MemPlace.row
 exact List.mem_map.2 ⟨0,List.mem_range.2 h,by simp⟩
theorem laidVars_at {P:Program} {w:World} {name:String} {g:Nat} {cs:Array Value} (hg:P.globalNamed name=some g) (hv:w.var? P name=some cs) (hc:0 < cs.size) :
  ∀ (l:List (String × DataW Unit)) (ps:List MemPlace),DataW.LaidVars P w l ps→(∃ d,(name,d)∈l)→MemPlace.cell g 0∈ps
 | [],ps,h,⟨d,hd⟩=>by cases hd
 | (n,d)::l,ps,h,⟨d',hd⟩=>by
  obtain ⟨g',t,cs',fuel,p,q,h1,h2,h3,h4,h5,rfl⟩:=h
  rcases List.mem_cons.1 hd with e | e
  ·obtain ⟨rfl,rfl⟩:=Prod.mk.inj e
   obtain rfl:=Option.some.inj (hg.symm.trans h1)
   obtain rfl:=Option.some.inj (hv.symm.trans h3)
   exact List.mem_append_left _ (List.mem_append_left _ (row_head hc))
  ·exact List.mem_append_right _ (laidVars_at hg hv hc l q h5 ⟨d',e⟩)
theorem laid_start_tab {P:Program} {W:World} {nm:String} {ti tp:TypeId} (ht:ErrTy P nm ti tp) (l:List Er) {L1 L2:List (String × DataW Unit)} (hl:laidMet P (L1++(erLaid nm l++L2)) W) (hg:∀ e∈l,P.globalNamed e.name=some e.g∧(P.globals[e.g]?).map (·.type)=some ti) :
  ∃ ι,Rel W.heap.size (errG 0 l) (errHeap tp l) ι W∧(∀ k x,(errHeap tp l).get k=some x→x.rw=false) ∧
   ∀ name g cs,(∃ d,(name,d)∈L1∨(name,d)∈L2)→P.globalNamed name=some g→W.var? P name=some cs→0 < cs.size→∀ k x j,(errHeap tp l).get k=some x→ι k=some j→¬(j.blk=g∧j.off=0):=by
 obtain ⟨ps,h1,h2,h3⟩:=hl
 obtain ⟨p1,p2,rfl,v1,v2⟩:=laidVars_split _ _ _ h1
 obtain ⟨pe,p3,rfl,ve,v3⟩:=laidVars_split _ _ _ v2
 obtain ⟨n1,n2,n3⟩:=List.nodup_append.1 h2
 obtain ⟨n4,n5,n6⟩:=List.nodup_append.1 n2
 have e0:∀ k,(Tr.nil:Tr ABlk).get k=none:=fun k=>by cases k<;>rfl
 obtain ⟨κ,_,g2,g3,g4,g5,g6⟩:=laid_rel ht l 0 .nil (fun _=>none) [] pe ve (by simpa using n4) (fun b off hm=>h3 b off (List.mem_append_right _ (List.mem_append_left _ hm))) hg
  ⟨fun k x h=>(by rw [e0] at h;cases h),fun k m x y i j h=>(by rw [e0] at h;cases h),fun k m x y i j h=>(by rw [e0] at h;cases h)⟩ (fun _ _=>rfl) (fun k x j h=>(by rw [e0] at h;cases h)) (fun k x h=>(by rw [e0] at h;cases h))
 refine ⟨κ,⟨g2,Nat.le_refl _,g5,fun k hk=>g3 k (by simpa [errHeap] using hk)⟩,g4,fun name g cs ⟨d,hd⟩ hgn hv hc k x j hx hj ⟨e1,e2⟩ => ?_⟩
 have m1:MemPlace.cell g 0∈pe:=by
  have:=g6 k x j hx hj
  rw [List.nil_append,e1,e2] at this
  exact this
 rcases hd with hd | hd
 ·exact n3 _ (laidVars_at hgn hv hc _ _ v1 ⟨d,hd⟩) _ (List.mem_append_left _ m1) rfl
 ·exact n6 _ m1 _ (laidVars_at hgn hv hc _ _ v3 ⟨d,hd⟩) rfl
theorem tab_of {P:Program} {W:World} {name:String} {k:IntKind} {zs:List Int} {g:Nat} {t e:TypeId} {n:Nat} (L:List (String × DataW Unit)) (i:Nat)
  (hg:P.globalNamed name=some g) (hty:(P.globals[g]?).map (·.type)=some t) (ht:P.underlying t=some (.array n e)) (he:P.underlying e=some (.int k)) (hce:P.cellsOf e=1) (hct:P.cellsOf t=n)
  (hd:L.drop i=(name,Lib.tabData k zs)::L.drop (i+1)) (h:laidMet P L W):Lib.TabIs P W name k zs:=by
 have h':laidMet P (L.take i++L.drop i) W:=by rw [List.take_append_drop];exact h
 have:=laidMet_drop _ h'
 rw [hd] at this
 exact Lib.tabIs_of_head hg hty ht he hce hct this
theorem tab_zero {P:Program} {W:World} {name:String} {g:Nat} {cs:Array Value} {L:List (String × DataW Unit)} (hg:P.globalNamed name=some g) (hv:W.var? P name=some cs) (hc:0 < cs.size) (hd:∃ d,(name,d)∈L) (h:laidMet P L W):∃ c t,W.heap[g]?=some (.cells c t (0,0)):=by
 obtain ⟨ps,h1,h2,h3⟩:=h
 exact (h3 g 0 (laidVars_at hg hv hc L ps h1 hd)).1
abbrev Laid (Gl:qzh) (H:Heap):Prop:=∀ i cs,qzf Gl i=some cs→∃ as,GG H i=some (.cells as false false)∧VRs (GG H) noP cs as
theorem add_tab0 {P:Program} {W:World} {G:List (Nat × Nat)} {H:Heap} {ι:Pl} {name:String} {g:Nat} {k:IntKind} {zs:List Int} (hR:Rel W.heap.size G H ι W) (hrw:∀ k x,H.get k=some x→x.rw=false)
  (hg:P.globalNamed name=some g) (ht:Lib.TabIs P W name k zs) (hz:∃ c t,W.heap[g]?=some (.cells c t (0,0))) (hf:∀ k x j,H.get k=some x→ι k=some j→¬(j.blk=g∧j.off=0)) :
  ∃ κ,Rel W.heap.size (G++[(g,H.next)]) (H.push (.cells (tabCells k zs) false false)) κ W∧(∀ i x,(H.push (.cells (tabCells k zs) false false)).get i=some x→x.rw=false) ∧
   ∀ i x j,(H.push (.cells (tabCells k zs) false false)).get i=some x→κ i=some j→(j.blk=g∧j.off=0)∨(H.get i=some x∧ι i=some j):=by
 obtain ⟨t,fr,hb⟩:∃ t fr,W.heap[g]?=some (.cells (zs.map fun z=>Value.int k z).toArray t fr):=by
  unfold Lib.TabIs World.var? at ht
  rw [hg] at ht
  simp only [Option.bind_some] at ht
  split at ht<;>simp at ht
  rename_i cs t fr hh
  exact ⟨t,fr,by rw [hh,ht]⟩
 obtain rfl:fr=(0,0):=by
  obtain ⟨c,t',hz⟩:=hz
  rw [hb] at hz
  simp only [Option.some.injEq,Obj.cells.injEq] at hz
  exact hz.2.2
 have hlt:g < W.heap.size:=(Array.getElem?_eq_some_iff.1 hb).1
 have hnone:=hR.f H.next (Nat.le_refl _)
 have le:ι.le (setP ι H.next ⟨g,0,0⟩):=setP_le hnone
 have hl:(tabCells k zs).length=zs.length:=by simp [tabCells]
 have hget:∀ i,(H.push (.cells (tabCells k zs) false false)).get i=if i=H.next then some (.cells (tabCells k zs) false false) else H.get i:=fun i=>Heap.get_push _ _ _
 have old:∀ i x,H.get i=some x→i≠H.next:=fun i x hx e=>by
  obtain ⟨j,hj,_⟩:=hR.h.at_ i x hx
  rw [e,hnone] at hj;cases hj
 have rw1:∀ i x,(H.push (.cells (tabCells k zs) false false)).get i=some x→x.rw=false:=fun i x hx=>by
  rw [hget] at hx
  split at hx
  ·obtain rfl:=Option.some.inj hx;rfl
  ·exact hrw i x hx
 have pl:∀ i x j,(H.push (.cells (tabCells k zs) false false)).get i=some x→setP ι H.next ⟨g,0,0⟩ i=some j→(i=H.next∧j=⟨g,0,0⟩)∨(i≠H.next∧H.get i=some x∧ι i=some j):=fun i x j hx hj=>by
  rw [hget] at hx
  by_cases e:i=H.next
  ·subst e
   rw [setP_same] at hj
   exact .inl ⟨rfl,(Option.some.inj hj).symm⟩
  ·rw [if_neg e] at hx
   rw [setP_other _ _ _ e] at hj
   exact .inr ⟨e,hx,hj⟩
 refine ⟨setP ι H.next ⟨g,0,0⟩,⟨⟨fun i x hx => ?_,fun i m x y a b hx _ _ hr=>(by rw [rw1 i x hx] at hr;cases hr),fun i m x y a b hx hy hne hfx hfy ha hb' => ?_⟩,hR.b,fun n i h => ?_,fun i hi => ?_⟩,rw1,fun i x j hx hj => ?_⟩
 ·rw [hget] at hx
  split at hx
  ·rename_i e
   obtain rfl:=Option.some.inj hx
   subst e
   refine ⟨_,setP_same _ _ _,fun v hv => ?_,_,t,(0,0),hb,?_,by simp [tabCells],by simp,by simp,fun _=>hlt⟩
   ·obtain ⟨z,_,rfl⟩:=List.mem_map.1 hv;rfl
   ·simp only [List.drop_zero]
    rw [List.take_of_length_le (by simp [tabCells])]
    exact tab_rels k zs
  ·obtain ⟨j,hj,hB⟩:=hR.h.at_ i x hx
   exact ⟨j,le _ _ hj,hB.mono le rfl⟩
 ·rcases pl i x a hx ha with ⟨p1,rfl⟩ | ⟨p1,p2,p3⟩<;>rcases pl m y b hy hb' with ⟨q1,rfl⟩ | ⟨q1,q2,q3⟩
  ·exact fun _=>hne (p1.trans q1.symm)
  ·exact fun ⟨e1,e2⟩=>hf m y b q2 q3 ⟨e1.symm,e2.symm⟩
  ·exact fun ⟨e1,e2⟩=>hf i x a p2 p3 ⟨e1,e2⟩
  ·exact hR.h.fixed i m x y a b p2 q2 hne hfx hfy p3 q3
 ·rcases lookN_append _ _ _ _ h with q | q
  ·obtain ⟨s,hs⟩:=hR.g n i q
   exact ⟨s,le _ _ hs⟩
  ·simp only [lookN] at q
   split at q<;>simp at q
   rename_i e
   subst q;subst e
   exact ⟨0,setP_same _ _ _⟩
 ·rw [Heap.next_push] at hi
  rw [setP_other _ _ _ (by omega)]
  exact hR.f i (by omega)
 ·rcases pl i x j hx hj with ⟨_,rfl⟩ | ⟨_,p2,p3⟩
  ·exact .inl ⟨rfl,rfl⟩
  ·exact .inr ⟨p2,p3⟩
theorem look_snoc {α:Type}:∀ (l:List (Nat × α)) (n:Nat) (x:α) (i:Nat),qzf (l++[(n,x)]) i=match qzf l i with
  | some y=>some y
  | none=>if n=i then some x else none
 | [],n,x,i=>by simp [qzf]
 | (a,b)::l,n,x,i=>by
  simp only [List.cons_append,qzf]
  by_cases e:a=i
  ·simp [e]
  ·simp only [if_neg e];exact look_snoc l n x i
theorem look_keep {α:Type} {l:List (Nat × α)} {n:Nat} {x y:α} {i:Nat} (h:qzf l i=some y):qzf (l++[(n,x)]) i=some y:=by
 rw [look_snoc,h]
theorem look_new {α:Type} {l:List (Nat × α)} {n:Nat} {x:α} (h:qzf l n=none):qzf (l++[(n,x)]) n=some x:=by
 rw [look_snoc,h];simp
theorem tab_vrs (G:Gz) (k:IntKind):∀ zs:List Int,VRs G noP (zs.map (VV.int k)) (tabCells k zs)
 | []=>VRs.nil
 | z::zs=>VRs.cons rfl (tab_vrs G k zs)
theorem glob_push {Gl:qzh} {H:Heap} {k:IntKind} {zs:List Int} (h:Laid Gl H):Laid (Gl++[(H.next,zs.map (VV.int k))]) (H.push (.cells (tabCells k zs) false false)):=by
 have le:(GG H).le (GG (H.push (.cells (tabCells k zs) false false))):=HLe.gg ⟨by rw [Heap.next_push];omega,fun b hb=>by rw [Heap.get_push,if_neg (by omega)]⟩
 intro i cs hi
 rw [look_snoc] at hi
 split at hi
 ·rename_i y e
  obtain rfl:=Option.some.inj hi
  obtain ⟨as,h1,h2⟩:=h i y e
  exact ⟨as,le _ _ h1,VRs.mono le (Pm.le_refl _) _ _ h2⟩
 ·split at hi<;>simp at hi
  rename_i e
  subst e;subst hi
  refine ⟨tabCells k zs,?_,tab_vrs _ k zs⟩
  unfold GG
  rw [if_pos (by rw [Heap.next_push];omega),Heap.get_push,if_pos rfl]
end
end Go.VL
namespace Go.VL.Wo
open Go.FR Go.IR Go.VL Go.VL.Er
noncomputable section
theorem globs_none (tp:Nat):∀ (l:List Er) (n i:Nat),n+2*l.length≤i→qzf (globsFrom tp n l) i=none
 | [],n,i,_=>rfl
 | e::l,n,i,h=>by
  simp only [List.length_cons] at h
  simp only [globsFrom,qzf]
  rw [if_neg (by omega),if_neg (by omega)]
  exact globs_none tp l (n+2) i (by omega)
theorem all_keep {Gl:qzh} {n:Nat} {x:List VV} (h:GlAll Gl):GlAll (Gl++[(n,x)]):=fun k hk=>by
 obtain ⟨h1,h2⟩:=h k hk
 refine ⟨look_keep h1,?_⟩
 cases q:qzf Gl (2*k+1) with
 | none=>rw [q] at h2;cases h2
 | some y=>rw [look_keep q];rfl
end
end Go.VL.Wo
namespace Go.VL.Nu
open Go.FR Go.IR Go.VL Go.VL.Er Go.VL.Wo
noncomputable section
theorem pow_eq:powZ.map (VV.int .u64)=powTab:=by
 unfold powZ powTab
 rw [List.map_map];rfl
theorem gl_pow {l:List Er} (h:l.length=13):GlAll (globsOf t_p_errors_errorString l++[(26,powZ.map (VV.int .u64))])∧GlPow (globsOf t_p_errors_errorString l++[(26,powZ.map (VV.int .u64))]):=by
 refine ⟨all_keep (glob_all (by omega)),?_⟩
 unfold GlPow
 rw [pow_eq]
 exact look_new (n:=26) (globs_none _ l 0 26 (by omega))
end
end Go.VL.Nu
namespace Go.VL.Nu
open Go.FR Go.IR Go.VL Go.VL.Er Go.VL.Wo
noncomputable section
set_option maxRecDepth 100000
set_option maxHeartbeats 1000000
def pl:Nat→Nat→Nat→List UInt8
 | 0,_,_=>[]
 | f+1,n,l=>if 0 < n∨0 < l then pl f (n / 10) (l - 1)++[dg (n % 10)] else []
theorem valF_append:∀ (a b:List UInt8) (n:Nat),valF n (a++b)=valF (valF n a) b
 | [],b,n=>rfl
 | x::a,b,n=>by rw [List.cons_append,valF_cons,valF_cons];exact valF_append a b _
theorem valF_dg {n d:Nat} (h:d < 10):valF n [dg d]=10*n+d:=by
 rw [valF_cons,valF_nil,dv_def,dg_nat h];omega
theorem valF_zeros:∀ (k n:Nat),valF n (List.replicate k 48)=n*10 ^ k
 | 0,n=>by rw [List.replicate_zero,valF_nil];simp
 | k+1,n=>by
  have:dv 48=0:=by rw [dv_def];rfl
  rw [List.replicate_succ,valF_cons,this,valF_zeros k,Nat.pow_succ,Nat.add_zero,Nat.mul_comm 10 n,Nat.mul_assoc,Nat.mul_comm 10]
theorem dg_digit {n:Nat} (h:n < 10):digitS (dg n)=true:=by
 have:=dg_nat h
 simp [digitS,this];omega
attribute [local go_sem] erP t_p_api_At
def placesS (n l:Nat):List UInt8:=pl 10 n l
end
end Go.VL.Nu
namespace Go.VL.Nu
open Go.FR Go.IR Go.VL Go.VL.Er Go.VL.Wo
noncomputable section
set_option maxRecDepth 100000
set_option maxHeartbeats 1000000
theorem idx_none:∀ (s:List UInt8) (c:UInt8) (k:Nat),(∀ b∈s,b≠c)→∀ t,idxByte c (s++t) k=idxByte c t (k+s.length)
 | [],c,k,_,t=>by simp
 | b::s,c,k,h,t=>by
  rw [List.cons_append,idxByte,if_neg (h b (.head _)),idx_none s c (k+1) (fun x hx=>h x (.tail _ hx)) t,List.length_cons]
  congr 1;omega
theorem cut_at {A B:List UInt8} {c:UInt8} (h:∀ b∈A,b≠c):cutS (A++(c::B)) c=(A,B,true):=by
 have e:idxByte c (A++(c::B)) 0=some A.length:=by rw [idx_none A c 0 h,idxByte,if_pos rfl,Nat.zero_add]
 unfold cutS
 rw [e]
 simp
theorem cut_not {A:List UInt8} {c:UInt8} (h:∀ b∈A,b≠c):cutS A c=(A,[],false):=by
 have e:idxByte c A 0=none:=by
  have:=idx_none A c 0 h []
  rw [List.append_nil] at this
  rw [this];rfl
 unfold cutS
 rw [e]
theorem digit_ne {b:UInt8} (h:digitS b=true):b≠46∧b≠45∧b≠32:=by
 have:=digit_le h
 refine ⟨fun e => ?_,fun e => ?_,fun e => ?_⟩<;>subst e<;>simp at this
theorem all_ok {s:List UInt8} (h:∀ b∈s,digitS b=true) (h1:1≤s.length) (h6:s.length≤6):allS s=true:=by
 simp only [allS,Bool.and_eq_true,List.all_eq_true,decide_eq_true_eq]
 exact ⟨⟨h,h1⟩,h6⟩
theorem pref_digit {s:List UInt8} (h:∀ b∈s,digitS b=true) (h1:1≤s.length) (t:List UInt8):prefS (s++t) [45]=false:=by
 cases s with
 | nil=>simp at h1
 | cons b s =>
  have:=(digit_ne (h b (.head _))).2.1
  simp [prefS,this]
theorem pref_min (s:List UInt8):prefS (45::s) [45]=true:=by simp [prefS]
theorem pow6 {k:Nat} (h:k≤6):10 ^ k≤1000000:=by
 have:=Nat.pow_le_pow_right (n:=10) (by omega) h
 rwa [show 10 ^ 6=1000000 by decide] at this
theorem whole_frac {B:List UInt8} (h:∀ b∈B,digitS b=true) (h6:B.length≤6):wholeV ((B++zeros6).take 6)=valS B*10 ^ (6 - B.length):=by
 have e:(B++zeros6).take 6=B++List.replicate (6 - B.length) 48:=by
  rw [List.take_append,List.take_of_length_le h6,show zeros6=List.replicate 6 48 from rfl,List.take_replicate]
  congr 2;omega
 have d:∀ b∈B++List.replicate (6 - B.length) 48,digitS b=true:=fun b hb=>by
  rcases List.mem_append.mp hb with hb | hb
  ·exact h b hb
  ·rw [List.eq_of_mem_replicate hb];decide
 have l:(B++List.replicate (6 - B.length) 48).length=6:=by simp;omega
 rw [e]
 unfold wholeV
 rw [if_pos (all_ok d (by omega) (by omega))]
 show valF 0 _=_
 rw [valF_append,valF_zeros]
theorem whole_dig {A:List UInt8} (h:∀ b∈A,digitS b=true) (h1:1≤A.length) (h6:A.length≤6):wholeV A=valS A:=by
 unfold wholeV;rw [if_pos (all_ok h h1 h6)]
theorem par_parts {A B:List UInt8} (hA:∀ b∈A,digitS b=true) (a1:1≤A.length) (a6:A.length≤6) (hB:∀ b∈B,digitS b=true) (b1:1≤B.length) (b6:B.length≤6) (neg:Bool) :
  parOK ((if neg then [45] else [])++(A++(46::B)))=true∧parN ((if neg then [45] else [])++(A++(46::B)))=(if neg then -((valS A*1000000+valS B*10 ^ (6 - B.length):Nat):Int) else ((valS A*1000000+valS B*10 ^ (6 - B.length):Nat):Int)):=by
 have rs:restS ((if neg then [45] else [])++(A++(46::B)))=A++(46::B):=by
  unfold restS
  cases neg
  ·simp only [Bool.false_eq_true,if_false,List.nil_append]
   rw [pref_digit hA a1];rfl
  ·simp only [if_true,List.cons_append,List.nil_append]
   rw [pref_min];rfl
 have ct:=cut_at (A:=A) (B:=B) (c:=46) (fun b hb=>(digit_ne (hA b hb)).1)
 have ok:parOK ((if neg then [45] else [])++(A++(46::B)))=true:=by
  unfold parOK unitS pointS partS
  rw [rs,ct]
  simp only
  rw [all_ok hA a1 a6,all_ok hB b1 b6];rfl
 refine ⟨ok,?_⟩
 unfold parN
 rw [if_pos ok]
 have pa:parA ((if neg then [45] else [])++(A++(46::B)))=valS A*1000000+valS B*10 ^ (6 - B.length):=by
  unfold parA unitS partS
  rw [rs,ct]
  simp only
  rw [whole_dig hA a1 a6,whole_frac hB b6]
 rw [pa]
 cases neg
 ·simp only [Bool.false_eq_true,if_false,List.nil_append]
  rw [pref_digit hA a1,if_neg Bool.false_ne_true]
 ·simp only [if_true,List.cons_append,List.nil_append]
  rw [pref_min,if_pos rfl]
theorem valF_lin:∀ (s:List UInt8) (n:Nat),valF n s=n*10 ^ s.length+valS s
 | [],n=>by show n=n*1+0;omega
 | b::s,n=>by
  have e:valS (b::s)=valF (10*0+dv b) s:=rfl
  rw [valF_cons,valF_lin s,e,valF_lin s (10*0+dv b),List.length_cons,Nat.pow_succ]
  generalize 10 ^ s.length=P
  rw [Nat.add_mul,Nat.mul_zero,Nat.zero_add,Nat.mul_comm 10 n,Nat.mul_assoc,Nat.mul_comm 10 P]
  omega
theorem dec_digits:∀ (f u:Nat),∀ b∈decF f u,digitS b=true
 | 0,u,b,h=>by simp [decF] at h
 | f+1,u,b,h=>by
  rw [decF_s] at h
  split at h
  ·rw [List.mem_singleton.mp h];exact dg_digit (by assumption)
  ·rcases List.mem_append.mp h with h | h
   ·exact dec_digits f _ b h
   ·rw [List.mem_singleton.mp h];exact dg_digit (Nat.mod_lt _ (by omega))
theorem dec_val:∀ (f u:Nat),u < 10 ^ f→valS (decF f u)=u
 | 0,u,h=>by
  have:u=0:=by simp at h;omega
  subst this;rfl
 | f+1,u,h=>by
  rw [decF_s]
  split
  ·rename_i q
   show valF 0 [dg u]=u
   rw [valF_dg q];omega
  ·have h':u / 10 < 10 ^ f:=by rw [Nat.pow_succ] at h;omega
   have ih:=dec_val f (u / 10) h'
   show valF 0 _=u
   rw [valF_append,show valF 0 (decF f (u / 10))=u / 10 from ih,valF_dg (Nat.mod_lt _ (by omega))];omega
theorem dec_valS {u:Nat} (h:u < 1000000000000):valS (decS u)=u:=dec_val 20 u (Nat.lt_of_lt_of_le h (by decide))
theorem trim_split (c:UInt8) (D:List UInt8):∃ k,D=trimS c D++List.replicate k c:=by
 have h:=List.takeWhile_append_dropWhile (p:=(· == c)) (l:=D.reverse)
 refine ⟨(D.reverse.takeWhile (· == c)).length,?_⟩
 have e:D.reverse.takeWhile (· == c)=List.replicate (D.reverse.takeWhile (· == c)).length c:=by
  rw [List.eq_replicate_iff]
  refine ⟨rfl,fun b hb => ?_⟩
  have:=List.all_takeWhile (p:=(· == c)) (l:=D.reverse)
  rw [List.all_eq_true] at this
  simpa using this b hb
 have h2:=congrArg List.reverse h
 rw [List.reverse_append,List.reverse_reverse] at h2
 unfold trimS
 rw [←h2]
 congr 1
 ·rw [h2]
 ·rw [h2,e,List.reverse_replicate]
  simp
structure Shape (m:Nat) (U B:List UInt8):Prop where
 u:∀ b∈U,digitS b=true
 u1:1≤U.length
 u6:U.length≤6
 uv:valS U=m / 1000000
 b:∀ b∈B,digitS b=true
 b6:B.length≤6
 bv:valS B*10 ^ (6 - B.length)=m % 1000000
 last:B.getLast?≠some 48
 zero:B=[] ↔ m % 1000000=0
 show_:showU m=U++(if B=[] then [] else 46::B)
theorem par_whole {A:List UInt8} (hA:∀ b∈A,digitS b=true) (a1:1≤A.length) (a6:A.length≤6) (neg:Bool) :
  parOK ((if neg then [45] else [])++A)=true∧parN ((if neg then [45] else [])++A)=(if neg then -((valS A*1000000:Nat):Int) else ((valS A*1000000:Nat):Int)):=by
 have rs:restS ((if neg then [45] else [])++A)=A:=by
  unfold restS
  cases neg
  ·simp only [Bool.false_eq_true,if_false,List.nil_append]
   have:=pref_digit hA a1 []
   rw [List.append_nil] at this
   rw [this];rfl
  ·simp only [if_true,List.cons_append,List.nil_append]
   rw [pref_min];rfl
 have ct:=cut_not (A:=A) (c:=46) (fun b hb=>(digit_ne (hA b hb)).1)
 have ok:parOK ((if neg then [45] else [])++A)=true:=by
  unfold parOK unitS pointS
  rw [rs,ct]
  simp only
  rw [all_ok hA a1 a6];rfl
 refine ⟨ok,?_⟩
 unfold parN
 rw [if_pos ok]
 have pa:parA ((if neg then [45] else [])++A)=valS A*1000000:=by
  unfold parA unitS partS
  rw [rs,ct]
  simp only
  have w0:wholeV (List.take 6 ([]++zeros6))=0:=by decide +kernel
  rw [whole_dig hA a1 a6,w0,Nat.add_zero]
 rw [pa]
 cases neg
 ·simp only [Bool.false_eq_true,if_false,List.nil_append]
  have:=pref_digit hA a1 []
  rw [List.append_nil] at this
  rw [this,if_neg Bool.false_ne_true]
 ·simp only [if_true,List.cons_append,List.nil_append]
  rw [pref_min,if_pos rfl]
end
end Go.VL.Nu
