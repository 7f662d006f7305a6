import Derived.Test.YtpobcoodmhhpaaaDoorVlN
set_option linter.unusedSimpArgs false
set_option linter.unusedVariables false
namespace Go.VL
open Go.FR
noncomputable section
def slErs:List (Er × Bool)→List Er
 | []=>[]
 | (e,true)::l=>e::slErs l
 | (_,false)::l=>slErs l
def slTr (tp:Nat):Nat→List (Er × Bool)→Tr ABlk→Tr ABlk
 | _,[],T=>T
 | n,(e,true)::l,T=>slTr tp (n+2) l ((T.set n (.cells [.iface tp (.ptr (some (n+1,0)))] false false)).set (n+1) (.cells [.str e.text] false false))
 | n,(_,false)::l,T=>slTr tp (n+2) l T
def slG:Nat→List (Er × Bool)→List (Nat × Nat)
 | _,[]=>[]
 | n,(e,_)::l=>(e.g,n)::slG (n+2) l
def slHeap (tp:Nat) (l:List (Er × Bool)):Heap:={ tr:=slTr tp 0 l .nil,next:=2*l.length }
def slFrom (tp:Nat):Nat→List (Er × Bool)→qzg
 | _,[]=>[]
 | n,(e,true)::l=>(n,[.iface tp (.gptr (n+1) 0)])::(n+1,[.str e.text])::slFrom tp (n+2) l
 | n,(_,false)::l=>slFrom tp (n+2) l
abbrev slOf (tp:Nat) (l:List (Er × Bool)):qzg:=slFrom tp 0 l
theorem slTr_low (tp:Nat):∀ (l:List (Er × Bool)) (n:Nat) (T:Tr ABlk) (k:Nat),k < n→(slTr tp n l T).get k=T.get k
 | [],_,_,_,_=>rfl
 | (e,true)::l,n,T,k,hk=>by
  simp only [slTr]
  rw [slTr_low tp l (n+2) _ k (by omega),Tr.get_set,if_neg (by omega),Tr.get_set,if_neg (by omega)]
 | (e,false)::l,n,T,k,hk=>by
  simp only [slTr]
  rw [slTr_low tp l (n+2) _ k (by omega)]
theorem slGlob_tr (tp:Nat):∀ (l:List (Er × Bool)) (n:Nat) (T:Tr ABlk) (i:Nat) (cs:List VV),qzc (slFrom tp n l) i=some cs →
  n≤i∧i < n+2*l.length∧∃ as,(slTr tp n l T).get i=some (.cells as false false)∧∀ G,VRs G noP cs as
 | [],n,T,i,cs,h=>by simp [slFrom,qzc] at h
 | (e,false)::l,n,T,i,cs,h=>by
  simp only [slFrom] at h
  obtain ⟨h1,h2,h3⟩:=slGlob_tr tp l (n+2) T i cs h
  simp only [List.length_cons]
  exact ⟨by omega,by omega,h3⟩
 | (e,true)::l,n,T,i,cs,h=>by
  simp only [slFrom,qzc] at h
  simp only [slTr,List.length_cons]
  by_cases e1:n=i
  ·rw [if_pos e1] at h
   obtain rfl:=Option.some.inj h
   refine ⟨by omega,by omega,[.iface tp (.ptr (some (n+1,0)))],?_,fun G=>VRs.cons ⟨_,rfl,rfl⟩ VRs.nil⟩
   rw [slTr_low tp l (n+2) _ i (by omega),Tr.get_set,if_neg (by omega),Tr.get_set,if_pos e1.symm]
  ·rw [if_neg e1] at h
   by_cases e2:n+1=i
   ·rw [if_pos e2] at h
    obtain rfl:=Option.some.inj h
    refine ⟨by omega,by omega,[.str e.text],?_,fun G=>VRs.cons rfl VRs.nil⟩
    rw [slTr_low tp l (n+2) _ i (by omega),Tr.get_set,if_pos e2.symm]
   ·rw [if_neg e2] at h
    obtain ⟨h1,h2,h3⟩:=slGlob_tr tp l (n+2) ((T.set n (.cells [.iface tp (.ptr (some (n+1,0)))] false false)).set (n+1) (.cells [.str e.text] false false)) i cs h
    exact ⟨by omega,by omega,h3⟩
theorem slGlob_ok (tp:Nat) (l:List (Er × Bool)):Laid (slOf tp l) (slHeap tp l):=fun i cs h=>by
 obtain ⟨h1,h2,as,h3,h4⟩:=slGlob_tr tp l 0 .nil i cs h
 refine ⟨as,?_,h4 _⟩
 unfold GG
 rw [if_pos (by simp only [slHeap];omega)]
 exact h3
theorem hrel_le {B:Nat} {g:Nat→Option ABlk} {ι κ:Pl} {w:World} (h:HRel B g ι w) (le:ι.le κ):HRel B g κ w:=by
 have back:∀ k x j,g k=some x→κ k=some j→ι k=some j:=fun k x j hx hj=>by
  obtain ⟨i,hi,_⟩:=h.at_ k x hx
  rw [le _ _ hi] at hj
  rw [hi,hj]
 refine ⟨fun k x hx => ?_,fun k l x y i j hx hy hn hr hi hj=>h.apart k l x y i j hx hy hn hr (back _ _ _ hx hi) (back _ _ _ hy hj),fun k l x y i j hx hy hn hr hs hi hj=>h.fixed k l x y i j hx hy hn hr hs (back _ _ _ hx hi) (back _ _ _ hy hj)⟩
 obtain ⟨j,hj,hb⟩:=h.at_ k x hx
 exact ⟨j,le _ _ hj,hb.mono le rfl⟩
section
variable {P:Program} {W:World} {nm:String} {ti tp:TypeId}
theorem slLaid_rel (ht:ErrTy P nm ti tp):∀ (l:List (Er × Bool)) (n:Nat) (T:Tr ABlk) (ι:Pl) (used ps:List MemPlace),
  DataW.LaidVars P W (erLaid nm (slErs l)) ps→(used++ps).Nodup →
  (∀ b off,MemPlace.cell b off∈ps→(∃ c t,W.heap[b]?=some (.cells c t (0,0)))∧∀ u v,W.cell? ⟨b,off,none⟩=some (.iface u v)→Value.okWide P W .any 0 u v) →
  (∀ e∈slErs l,P.globalNamed e.name=some e.g∧(P.globals[e.g]?).map (·.type)=some ti) →
  HRel W.heap.size T.get ι W→(∀ k,n≤k→ι k=none)→(∀ k x j,T.get k=some x→ι k=some j→MemPlace.cell j.blk j.off∈used)→(∀ k x,T.get k=some x→x.rw=false) →
  ∃ κ,ι.le κ∧HRel W.heap.size (slTr tp n l T).get κ W∧(∀ k,n+2*l.length≤k→κ k=none)∧(∀ k x,(slTr tp n l T).get k=some x→x.rw=false) ∧
   (∀ m i,lookN (slG n l) m=some i→∃ s,κ i=some ⟨m,0,s⟩)∧∀ k x j,(slTr tp n l T).get k=some x→κ k=some j→MemPlace.cell j.blk j.off∈used++ps
 | [],n,T,ι,used,ps,hl,hnd,hrows,hg,hR,hf,hu,hrw=>by
  refine ⟨ι,Pl.le_refl _,hR,fun k hk=>hf k (by simpa using hk),hrw,fun m i h=>by simp [slG,lookN] at h,fun k x j h1 h2=>List.mem_append_left _ (hu k x j h1 h2)⟩
 | (e,false)::l,n,T,ι,used,ps,hl,hnd,hrows,hg,hR,hf,hu,hrw=>by
  have le:ι.le (setP ι n ⟨e.g,0,0⟩):=setP_le (hf n (Nat.le_refl _))
  have hR1:=hrel_le hR le
  have back:∀ k x j,T.get k=some x→setP ι n ⟨e.g,0,0⟩ k=some j→ι k=some j:=fun k x j hx hj=>by
   obtain ⟨i,hi,_⟩:=hR.at_ k x hx
   rw [le _ _ hi] at hj
   rw [hi,hj]
  obtain ⟨κ,g1,g2,g3,g4,g5,g6⟩:=slLaid_rel ht l (n+2) T (setP ι n ⟨e.g,0,0⟩) used ps hl hnd hrows hg hR1
   (fun k hk=>by rw [setP_other _ _ _ (by omega)];exact hf k (by omega)) (fun k x j hx hj=>hu k x j hx (back k x j hx hj)) hrw
  refine ⟨κ,Pl.le_trans le g1,g2,fun k hk=>g3 k (by simp only [List.length_cons] at hk;omega),g4,fun m i h => ?_,g6⟩
  simp only [slG,lookN] at h
  split at h
  ·rename_i em
   obtain rfl:=Option.some.inj h
   exact ⟨0,by rw [←em];exact g1 _ _ (setP_same _ _ _)⟩
  ·exact g5 m i h
 | (e,true)::l,n,T,ι,used,ps,hl,hnd,hrows,hg,hR,hf,hu,hrw=>by
  obtain ⟨p,q,rfl,v1,v2⟩:=laidVars_split (erLaid nm [e]) (erLaid nm (slErs l)) ps hl
  have hnd1:((used++p)++q).Nodup:=by rw [List.append_assoc];exact hnd
  obtain ⟨κ,g1,g2,g3,g4,g5,g6⟩:=laid_rel ht [e] n T ι used p v1 (List.nodup_append.1 hnd1).1 (fun b off hm=>hrows b off (List.mem_append_left _ hm))
   (fun e' he'=>hg e' (by rw [List.mem_singleton.mp he'];exact .head _)) hR hf hu hrw
  obtain ⟨κ2,f1,f2,f3,f4,f5,f6⟩:=slLaid_rel ht l (n+2) _ κ (used++p) q v2 hnd1 (fun b off hm=>hrows b off (List.mem_append_right _ hm))
   (fun e' he'=>hg e' (List.mem_cons_of_mem _ he')) g2 (fun k hk=>g3 k (by simpa using hk)) g6 g4
  refine ⟨κ2,Pl.le_trans g1 f1,f2,fun k hk=>f3 k (by simp only [List.length_cons] at hk;omega),f4,fun m i h => ?_,fun k x j h1 h2 => ?_⟩
  ·simp only [slG,lookN] at h
   split at h
   ·rename_i em
    obtain rfl:=Option.some.inj h
    obtain ⟨s,hs⟩:=g5 e.g n (by simp [errG,lookN])
    exact ⟨s,by rw [←em];exact f1 _ _ hs⟩
   ·exact f5 m i h
  ·have:=f6 k x j h1 h2
   rw [List.append_assoc] at this
   exact this
theorem slLaid_start (ht:ErrTy P nm ti tp) (l:List (Er × Bool)) {L1 L2:List (String × DataW Unit)} (hl:laidMet P (L1++(erLaid nm (slErs l)++L2)) W) (hg:∀ e∈slErs l,P.globalNamed e.name=some e.g∧(P.globals[e.g]?).map (·.type)=some ti) :
  ∃ ι,Rel W.heap.size (slG 0 l) (slHeap tp l) ι W∧(∀ k x,(slHeap tp l).get k=some x→x.rw=false) ∧
   ∀ name g cs,(∃ d,(name,d)∈L1∨(name,d)∈L2)→P.globalNamed name=some g→W.var? P name=some cs→0 < cs.size→∀ k x j,(slHeap tp l).get k=some x→ι k=some j→¬(j.blk=g∧j.off=0):=by
 obtain ⟨ps,h1,h2,h3⟩:=hl
 obtain ⟨p1,p2,rfl,v1,v2⟩:=laidVars_split _ _ _ h1
 obtain ⟨pe,p3,rfl,ve,v3⟩:=laidVars_split _ _ _ v2
 obtain ⟨n1,n2,n3⟩:=List.nodup_append.1 h2
 obtain ⟨n4,n5,n6⟩:=List.nodup_append.1 n2
 have e0:∀ k,(Tr.nil:Tr ABlk).get k=none:=fun k=>by cases k<;>rfl
 obtain ⟨κ,_,g2,g3,g4,g5,g6⟩:=slLaid_rel ht l 0 .nil (fun _=>none) [] pe ve (by simpa using n4) (fun b off hm=>h3 b off (List.mem_append_right _ (List.mem_append_left _ hm))) hg
  ⟨fun k x h=>(by rw [e0] at h;cases h),fun k m x y i j h=>(by rw [e0] at h;cases h),fun k m x y i j h=>(by rw [e0] at h;cases h)⟩ (fun _ _=>rfl) (fun k x j h=>(by rw [e0] at h;cases h)) (fun k x h=>(by rw [e0] at h;cases h))
 refine ⟨κ,⟨g2,Nat.le_refl _,g5,fun k hk=>g3 k (by simpa [slHeap] using hk)⟩,g4,fun name g cs ⟨d,hd⟩ hgn hv hc k x j hx hj ⟨e1,e2⟩ => ?_⟩
 have m1:MemPlace.cell g 0∈pe:=by
  have:=g6 k x j hx hj
  rw [List.nil_append,e1,e2] at this
  exact this
 rcases hd with hd | hd
 ·exact n3 _ (laidVars_at hgn hv hc _ _ v1 ⟨d,hd⟩) _ (List.mem_append_left _ m1) rfl
 ·exact n6 _ m1 _ (laidVars_at hgn hv hc _ _ v3 ⟨d,hd⟩) rfl
end
end
end Go.VL
namespace Go.VL.Wo
open Go.FR Go.IR Go.VL Go.VL.Er
noncomputable section
theorem sl_none (tp:Nat):∀ (l:List (Er × Bool)) (n i:Nat),n+2*l.length≤i→qzc (slFrom tp n l) i=none
 | [],n,i,_=>rfl
 | (e,true)::l,n,i,h=>by
  simp only [List.length_cons] at h
  simp only [slFrom,qzc]
  rw [if_neg (by omega),if_neg (by omega)]
  exact sl_none tp l (n+2) i (by omega)
 | (e,false)::l,n,i,h=>by
  simp only [List.length_cons] at h
  simp only [slFrom]
  exact sl_none tp l (n+2) i (by omega)
theorem gl_spS {l:List (Er × Bool)} (h:l.length=13) (h0:qzc (slOf t_p_errors_errorString l) 0=some [erP 0]) (h5:qzc (slOf t_p_errors_errorString l) 10=some [erP 5]) :
  GlWo (slOf t_p_errors_errorString l++[(26,spZ.map (VV.int .u8))])∧GlSp (slOf t_p_errors_errorString l++[(26,spZ.map (VV.int .u8))]):=by
 refine ⟨⟨look_keep h0,look_keep h5⟩,?_⟩
 unfold GlSp
 rw [sp_eq]
 exact look_new (n:=26) (sl_none _ l 0 26 (by omega))
end
end Go.VL.Wo
