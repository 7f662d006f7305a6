/- The fast run: how a row's world is the run's first; what a row asks of an answer. -/
import Derived.Test.YtlgkadhogiedoaaDoorFrR
import Derived.LaidLaws
set_option linter.unusedSimpArgs false
set_option linter.unusedVariables false
namespace Go.FR
noncomputable section
open Go Go.RowKit
structure Er where
 name:String
 g:Nat
 text:List UInt8
def errTr (tp:Nat):Nat→List Er→Tr ABlk→Tr ABlk
 | _,[],T=>T
 | n,e::l,T=>errTr tp (n+2) l ((T.set n (.cells [.iface tp (.ptr (some (n+1,0)))] false false)).set (n+1) (.cells [.str e.text] false false))
def errG:Nat→List Er→List (Nat × Nat)
 | _,[]=>[]
 | n,e::l=>(e.g,n)::errG (n+2) l
def errHeap (tp:Nat) (l:List Er):Heap:={ tr:=errTr tp 0 l .nil,next:=2*l.length }
def erLaid (nm:String) (l:List Er):List (String × DataW Unit):=l.map fun e=>(e.name,.iface nm (.ptr (.agg [.lit (.string e.text)])))
structure ErrTy (P:Program) (nm:String) (ti tp:TypeId):Prop where
 ex:∃ te ts ms f,P.underlying ti=some (.interface ms)∧(∀ u,P.typeName? 3 u=some nm→u=tp)∧P.underlying tp=some (.pointer te)∧P.underlying te=some (.struct #[f])∧f.type=ts∧f.offset=0 ∧
  P.underlying ts=some .string∧P.cellsOf te=1∧P.cellsOf ts=1
section
variable {P:Program} {W:World} {nm:String} {ti tp:TypeId}
theorem laid_rel (ht:ErrTy P nm ti tp):∀ (l:List Er) (n:Nat) (T:Tr ABlk) (ι:Pl) (used ps:List MemPlace),
  DataW.LaidVars P W (erLaid nm l) ps→(used++ps).Nodup →
  (∀ b off,MemPlace.cell b off∈ps→(∃ c t,W.heap[b]?=some (.cells c t (0,0)))∧∀ u v,W.cell? ⟨b,off,none⟩=some (.iface u v)→Value.okWide P W .any 0 u v) →
  (∀ e∈l,P.globalNamed e.name=some e.g∧(P.globals[e.g]?).map (·.type)=some ti) →
  HRel W.heap.size T.get ι W→(∀ k,n≤k→ι k=none)→(∀ k x j,T.get k=some x→ι k=some j→MemPlace.cell j.blk j.off∈used)→(∀ k x,T.get k=some x→x.rw=false) →
  ∃ κ,ι.le κ∧HRel W.heap.size (errTr tp n l T).get κ W∧(∀ k,n+2*l.length≤k→κ k=none)∧(∀ k x,(errTr tp n l T).get k=some x→x.rw=false) ∧
   (∀ m i,lookN (errG n l) m=some i→∃ s,κ i=some ⟨m,0,s⟩)∧∀ k x j,(errTr tp n l T).get k=some x→κ k=some j→MemPlace.cell j.blk j.off∈used++ps
 | [],n,T,ι,used,ps,hl,hnd,hrows,hg,hR,hf,hu,hrw=>by
  refine ⟨ι,Pl.le_refl _,hR,fun k hk=>hf k (by simpa using hk),hrw,fun m i h=>by simp [errG,lookN] at h,fun k x j h1 h2=>List.mem_append_left _ (hu k x j h1 h2)⟩
 | e::l,n,T,ι,used,ps,hl,hnd,hrows,hg,hR,hf,hu,hrw=>by
  obtain ⟨g0,t0,cs0,f0,p,q,hg0,ht0,hv0,hd0,hq,rfl⟩:=hl
  obtain ⟨te,ts,ms,f,hi,hrow,hp,he,hft,hfo,hs,hc,hcs⟩:=ht.ex
  obtain ⟨hg1,ht1⟩:=hg e (by simp)
  obtain rfl:=Option.some.inj (hg1.symm.trans hg0)
  obtain rfl:=Option.some.inj (ht1.symm.trans ht0)
  obtain ⟨l0⟩:=cs0
  have hcell0:∀ i,W.cell? ⟨e.g,i,none⟩=l0[i]?:=fun i=>by
   unfold World.var? at hv0
   rw [hg1] at hv0
   simp only [Option.bind_some] at hv0
   split at hv0<;>simp at hv0
   rename_i cs _ _ hh
   unfold World.cell?
   simp [hh,hv0]
  have ok0:∀ u v,l0=[.iface u v]→Value.okWide P W .any 0 u v:=fun u v e'=>by
   subst e'
   exact (hrows e.g 0 (by simp [MemPlace.row])).2 u v (by rw [hcell0];rfl)
  obtain ⟨a,s,rfl,hca,hsa,hz,rfl⟩:=errorString_of_trod hi hrow hp he hft hfo hs hc hcs hd0 ok0
  have hgp:MemPlace.row ⟨e.g,0,none⟩ (List.toArray [Value.iface tp (.pointer (some a))]).size=[MemPlace.cell e.g 0]:=by simp [MemPlace.row]
  have hap:MemPlace.row a 1=[MemPlace.cell a.block a.off]:=by simp [MemPlace.row]
  rw [hgp,hap] at hnd hrows
  obtain ⟨⟨c1,t1,hb1⟩,_⟩:=hrows e.g 0 (by simp)
  obtain ⟨⟨c2,t2,hb2⟩,_⟩:=hrows a.block a.off (by simp)
  have hc1:c1 = #[Value.iface tp (.pointer (some a))]:=by
   unfold World.var? at hv0
   rw [hg1] at hv0
   simpa [hb1] using hv0
  have hspot:a.spot=none∧c2[a.off]?=some (.string s):=by
   unfold World.cell? at hca
   rw [hb2] at hca
   simp only at hca
   split at hca
   ·cases hca
   ·rename_i hsp
    exact ⟨by simpa using hsp,hca⟩
  obtain ⟨hsp,hc2⟩:=hspot
  have hlt1:e.g < W.heap.size:=(Array.getElem?_eq_some_iff.1 hb1).1
  have hlt2:a.block < W.heap.size:=(Array.getElem?_eq_some_iff.1 hb2).1
  obtain ⟨hlt3,hc3⟩:=Array.getElem?_eq_some_iff.1 hc2
  let ι1:Pl:=setP (setP ι n ⟨e.g,0,0⟩) (n+1) ⟨a.block,a.off,0⟩
  have in_:ι1 n=some ⟨e.g,0,0⟩:=by show setP _ _ _ _=_;rw [setP_other _ _ _ (by omega),setP_same]
  have in1:ι1 (n+1)=some ⟨a.block,a.off,0⟩:=setP_same _ _ _
  have ino:∀ k,k≠n→k≠n+1→ι1 k=ι k:=fun k h1 h2=>by show setP _ _ _ _=_;rw [setP_other _ _ _ h2,setP_other _ _ _ h1]
  have le1:ι.le ι1:=fun k j hj=>by
   have h1:k≠n:=fun q=>by rw [q,hf n (Nat.le_refl _)] at hj;cases hj
   have h2:k≠n+1:=fun q=>by rw [q,hf (n+1) (by omega)] at hj;cases hj
   rw [ino k h1 h2];exact hj
  let T1:=(T.set n (ABlk.cells [.iface tp (.ptr (some (n+1,0)))] false false)).set (n+1) (.cells [.str e.text] false false)
  have hT1:∀ k,T1.get k=if k=n+1 then some (.cells [.str e.text] false false) else if k=n then some (.cells [.iface tp (.ptr (some (n+1,0)))] false false) else T.get k:=fun k=>by
   show Tr.get _ _=_;rw [Tr.get_set,Tr.get_set]
  have old:∀ k x,T.get k=some x→k≠n∧k≠n+1:=fun k x hx=>by
   obtain ⟨j,hj,_⟩:=hR.at_ k x hx
   exact ⟨fun q=>(by rw [q,hf n (Nat.le_refl _)] at hj;cases hj),fun q=>(by rw [q,hf (n+1) (by omega)] at hj;cases hj)⟩
  have places:∀ k x j,T1.get k=some x→ι1 k=some j→(k=n+1∧j=⟨a.block,a.off,0⟩)∨(k=n∧j=⟨e.g,0,0⟩)∨(T.get k=some x∧ι k=some j):=fun k x j hx hj=>by
   rw [hT1] at hx
   by_cases h1:k=n+1
   ·subst h1;rw [in1] at hj;exact .inl ⟨rfl,(Option.some.inj hj).symm⟩
   ·rw [if_neg h1] at hx
    by_cases h2:k=n
    ·subst h2;rw [in_] at hj;exact .inr (.inl ⟨rfl,(Option.some.inj hj).symm⟩)
    ·rw [if_neg h2] at hx
     rw [ino k h2 h1] at hj
     exact .inr (.inr ⟨hx,hj⟩)
  have rw1:∀ k x,T1.get k=some x→x.rw=false:=fun k x hx=>by
   rw [hT1] at hx
   split at hx
   ·obtain rfl:=Option.some.inj hx;rfl
   ·split at hx
    ·obtain rfl:=Option.some.inj hx;rfl
    ·exact hrw k x hx
  have hus:∀ k x j,T1.get k=some x→ι1 k=some j→MemPlace.cell j.blk j.off∈used++([MemPlace.cell e.g 0]++[MemPlace.cell a.block a.off]):=fun k x j hx hj=>by
   rcases places k x j hx hj with ⟨_,rfl⟩ | ⟨_,rfl⟩ | ⟨h1,h2⟩
   ·simp
   ·simp
   ·exact List.mem_append_left _ (hu k x j h1 h2)
  have hnd':((used++([MemPlace.cell e.g 0]++[MemPlace.cell a.block a.off]))++q).Nodup:=by simpa [List.append_assoc] using hnd
  have hnd2:=(List.nodup_append.1 hnd').1
  obtain ⟨_,hn3,hn4⟩:=List.nodup_append.1 hnd2
  have hne:MemPlace.cell e.g 0≠MemPlace.cell a.block a.off:=by
   have:=(List.nodup_append.1 hn3).2.2
   exact this _ (by simp) _ (by simp)
  have hR1:HRel W.heap.size T1.get ι1 W:=by
   refine ⟨fun k x hx => ?_,fun k m x y i j hx _ _ hr=>(by rw [rw1 k x hx] at hr;cases hr),fun k m x y i j hx hy hkm hfx hfy hi' hj' => ?_⟩
   ·have hx':=hx
    rw [hT1] at hx'
    by_cases h1:k=n+1
    ·subst h1
     rw [if_pos rfl] at hx'
     obtain rfl:=Option.some.inj hx'
     refine ⟨_,in1,by simp [scA],c2,t2,(0,0),hb2,?_,by simp;omega,by simp,by simp,fun _=>hlt2⟩
     have:(c2.toList.drop a.off).take 1=[.string s]:=by
      have hl2:a.off < c2.toList.length:=by simpa using hlt3
      rw [List.drop_eq_getElem_cons hl2]
      simp [hc3]
     simp only [List.length_cons,List.length_nil,Nat.zero_add]
     rw [this]
     refine ⟨_,[],rfl,?_,rfl⟩
     simp only [VRel]
     obtain ⟨⟨d⟩⟩:=s
     simp only at hsa
     rw [hsa]
    ·rw [if_neg h1] at hx'
     by_cases h2:k=n
     ·subst h2
      rw [if_pos rfl] at hx'
      obtain rfl:=Option.some.inj hx'
      refine ⟨_,in_,by simp [scA],c1,t1,(0,0),hb1,?_,by rw [hc1];simp,by simp,by simp,fun _=>hlt1⟩
      rw [hc1]
      refine ⟨_,[],rfl,⟨_,rfl,_,in1,?_⟩,rfl⟩
      obtain ⟨ab,ao,asp⟩:=a
      simp only at hsp
      subst hsp;rfl
     ·rw [if_neg h2] at hx'
      obtain ⟨j,hj,hb⟩:=hR.at_ k x hx'
      exact ⟨j,le1 _ _ hj,hb.mono le1 rfl⟩
   ·rintro ⟨e1,e2⟩
    have hcell:MemPlace.cell i.blk i.off=MemPlace.cell j.blk j.off:=by rw [e1,e2]
    rcases places k x i hx hi' with ⟨k1,rfl⟩ | ⟨k1,rfl⟩ | ⟨k1,k2⟩<;>rcases places m y j hy hj' with ⟨m1,rfl⟩ | ⟨m1,rfl⟩ | ⟨m1,m2⟩
    ·exact hkm (k1.trans m1.symm)
    ·exact hne hcell.symm
    ·exact hn4 _ (hu _ _ _ m1 m2) _ (by simp) hcell.symm
    ·exact hne hcell
    ·exact hkm (k1.trans m1.symm)
    ·exact hn4 _ (hu _ _ _ m1 m2) _ (by simp) hcell.symm
    ·exact hn4 _ (hu _ _ _ k1 k2) _ (by simp) hcell
    ·exact hn4 _ (hu _ _ _ k1 k2) _ (by simp) hcell
    ·exact hR.fixed k m x y i j k1 m1 hkm hfx hfy k2 m2 ⟨e1,e2⟩
  obtain ⟨κ,g1,g2,g3,g4,g5,g6⟩:=laid_rel ht l (n+2) T1 ι1 _ q hq hnd' (fun b off hm=>hrows b off (List.mem_append_right _ hm)) (fun e' he'=>hg e' (List.mem_cons_of_mem _ he')) hR1
   (fun k hk=>by rw [ino k (by omega) (by omega)];exact hf k (by omega)) hus rw1
  refine ⟨κ,Pl.le_trans le1 g1,g2,fun k hk=>g3 k (by simp at hk;omega),g4,fun m i h => ?_,fun k x j h1 h2 => ?_⟩
  ·simp only [errG,lookN] at h
   split at h
   ·rename_i em
    obtain rfl:=Option.some.inj h
    exact ⟨0,by rw [←em];exact g1 _ _ in_⟩
   ·exact g5 m i h
  ·have:=g6 k x j h1 h2
   rw [hgp,hap]
   simpa [List.append_assoc] using this
theorem below_of_keep {H H':Heap} {ι κ:Pl} {W':World} (h:Keep H ι W H' κ W') (hrw:∀ k x,H.get k=some x→x.rw=false):Below W.heap.size W W' :=
 ⟨h.os,h.tape,h.output,h.size,fun k hk=>h.same k hk fun ⟨i,x,j,hx,hr,_⟩=>by rw [hrw i x hx] at hr;cases hr⟩
def lookE:List (Nat × AFunc)→Nat→Option AFunc
 | [],_=>none
 | (a,b)::l,n=>match Nat.beq a n with
  | true=>some b
  | false=>lookE l n
structure GoodF (P:Program) (C:Cfg) (f:Nat) (fn:AFunc):Prop where
 ok:∃ F,P.funcs[f]?=some F∧funcC P C F=some fn∧(F.name == "runtime.NumGoroutine")=false ∧
  (F.body.isNone=true→Extern.findNext F=none∧Extern.find F=some Extern.BytealgIndexByte.indexByte)
def AllGood (P:Program) (C:Cfg):List (Nat × AFunc)→Prop
 | []=>True
 | p::l=>GoodF P C p.1 p.2∧AllGood P C l
theorem env_of_good {C:Cfg}:∀ {l:List (Nat × AFunc)},AllGood P C l→EnvOK P C (lookE l)
 | [],_=>⟨fun f fn h=>by simp [lookE] at h⟩
 | (a,b)::l,h=>⟨fun f fn hf=>by
  simp only [lookE] at hf
  split at hf
  ·rename_i e
   obtain rfl:=Nat.eq_of_beq_eq_true e
   obtain rfl:=Option.some.inj hf
   exact h.1.ok
  ·exact (env_of_good h.2).ok f fn hf⟩
theorem good_body {C:Cfg} {f:Nat} {fn:AFunc} {F:Func} (hF:P.funcs[f]?=some F) (h:funcC P C F=some fn) (hn:(F.name == "runtime.NumGoroutine")=false) (hb:F.body.isNone=false):GoodF P C f fn :=
 ⟨F,hF,h,hn,fun q=>by rw [hb] at q;cases q⟩
theorem good_prim {C:Cfg} {f:Nat} {fn:AFunc} {F:Func} (hF:P.funcs[f]?=some F) (h:funcC P C F=some fn) (hn:(F.name == "runtime.NumGoroutine")=false) (h1:Extern.findNext F=none) (h2:Extern.find F=some Extern.BytealgIndexByte.indexByte):GoodF P C f fn :=
 ⟨F,hF,h,hn,fun _=>⟨h1,h2⟩⟩
theorem law_call {C:Cfg} {l:List (Nat × AFunc)} (hE:AllGood P C l) {n f:Nat} {args:List AV} {us:List Value} {ι:Pl} {H H':Heap} {F:Func} {body:Code} (hF:P.funcs[f]?=some F) (hb:F.body=some body)
  (hR:Rel W.heap.size C.globals H ι W) (hrw:∀ k x,H.get k=some x→x.rw=false) (hv:VRels ι args us) (h:callN (lookE l) n f args H=some (.bool true,H')) :
  Calls P f us.toArray W fun e W'=>e = .returned (.bool true)∧Below W.heap.size W W':=by
 refine Calls.mono (calls_of_fast (env_of_good hE) hF hb hR hv h) fun e W' ⟨u,he,κ,h1,h2,h3⟩ => ?_
 simp only [VRel] at h1
 subst h1
 exact ⟨he,below_of_keep h3 hrw⟩
end
end
end Go.FR
