/- The fast run: the run's order is one that stands. -/
import Derived.Test.YtlgkadhogiedoaaDoorFrP
set_option linter.unusedSimpArgs false
set_option linter.unusedVariables false
namespace Go.FR
noncomputable section
open Go
theorem aheadRow_spec {acc:List Nat} {j:Nat}:∀ (l:List Edge) (m:Nat),(aheadRow acc l m).testBit j=true→m.testBit j=true∨∃ e∈l,bindsE e=true∧(e.on=j∨(acc.getD e.on 0).testBit j=true)
 | [],m,h => .inl h
 | e::l,m,h=>by
  simp only [aheadRow] at h
  split at h
  ·rename_i hb
   rcases aheadRow_spec l _ h with h1 | ⟨e',he',h2⟩
   ·rw [Nat.testBit_or,Nat.testBit_or,Bool.or_eq_true,Bool.or_eq_true] at h1
    rcases h1 with (h1 | h1) | h1
    ·exact .inl h1
    ·rw [Nat.testBit_two_pow] at h1
     exact .inr ⟨e,by simp,hb,.inl (by simpa using h1)⟩
    ·exact .inr ⟨e,by simp,hb,.inr h1⟩
   ·exact .inr ⟨e',List.mem_cons_of_mem _ he',h2⟩
  ·rcases aheadRow_spec l _ h with h1 | ⟨e',he',h2⟩
   ·exact .inl h1
   ·exact .inr ⟨e',List.mem_cons_of_mem _ he',h2⟩
theorem aheadTab_keep:∀ (l:List Oper) (acc:List Nat) (i:Nat),i < acc.length→(aheadTab l acc).getD i 0=acc.getD i 0
 | [],acc,i,h=>rfl
 | o::l,acc,i,h=>by
  simp only [aheadTab]
  rw [aheadTab_keep l _ i (by simp;omega)]
  simp only [List.getD_eq_getElem?_getD]
  rw [List.getElem?_append_left h]
theorem aheadTab_spec:∀ (l:List Oper) (acc:List Nat) (t:Nat) (o:Oper),l[t]?=some o→∃ acc':List Nat,(aheadTab l acc).getD (acc.length+t) 0=aheadRow acc' o.after.toList 0∧∀ i,acc'.getD i 0=0∨acc'.getD i 0=(aheadTab l acc).getD i 0
 | [],acc,t,o,h=>by simp at h
 | x::l,acc,0,o,h=>by
  simp at h;subst h
  refine ⟨acc,?_,fun i => ?_⟩
  ·simp only [aheadTab,Nat.add_zero]
   rw [aheadTab_keep l _ acc.length (by simp)]
   simp [List.getD_eq_getElem?_getD]
  ·rcases Nat.lt_or_ge i acc.length with h | h
   ·right;rw [aheadTab_keep (x::l) acc i h]
   ·left;simp [List.getD_eq_getElem?_getD,List.getElem?_eq_none h]
 | x::l,acc,t+1,o,h=>by
  simp at h
  obtain ⟨acc',h1,h2⟩:=aheadTab_spec l (acc++[aheadRow acc x.after.toList 0]) t o h
  refine ⟨acc',?_,fun i=>by simp only [aheadTab];exact h2 i⟩
  simp only [aheadTab]
  rw [←h1]
  simp only [List.length_append,List.length_cons,List.length_nil]
  congr 1
  omega
theorem edgesBack_spec:∀ (l:List Oper) (i:Nat),edgesBack i l=true→∀ t o,l[t]?=some o→∀ e∈o.after,Region.binds .any e=true→e.on < i+t
 | [],i,h,t,o,ho,_,_,_=>by simp at ho
 | x::l,i,h,0,o,ho,e,he,hb=>by
  simp at ho;subst ho
  simp only [edgesBack,Bool.and_eq_true,List.all_eq_true] at h
  have h1:=h.1 e (by simpa using he)
  simp only [bindsE,hb,Bool.not_true,Bool.false_or] at h1
  simpa using h1
 | x::l,i,h,t+1,o,ho,e,he,hb=>by
  simp at ho
  simp only [edgesBack,Bool.and_eq_true] at h
  have:=edgesBack_spec l (i+1) h.2 t o ho e he hb
  omega
theorem allPairs_spec {f:Nat→Nat→Bool}:∀ (l:List Nat),allPairs f l=true→∀ (p k i j:Nat),p < k→l[p]?=some i→l[k]?=some j→f i j=true
 | [],h,p,k,i,j,hpk,hi,hj=>by simp at hi
 | x::l,h,p,k,i,j,hpk,hi,hj=>by
  simp only [allPairs,Bool.and_eq_true,List.all_eq_true] at h
  match k,hpk,hj with
  | k+1,hpk,hj =>
   simp at hj
   match p,hpk,hi with
   | 0,hpk,hi =>
    simp at hi;subst hi
    exact h.1 j (List.mem_of_getElem? hj)
   | p+1,hpk,hi =>
    simp at hi
    exact allPairs_spec l h.2 p k i j (by omega) hi hj
theorem nodupB_spec:∀ (l:List Nat),nodupB l=true→∀ (p k i:Nat),l[p]?=some i→l[k]?=some i→p=k
 | [],h,p,k,i,hp,hk=>by simp at hp
 | x::l,h,p,k,i,hp,hk=>by
  simp only [nodupB,Bool.and_eq_true,Bool.not_eq_true'] at h
  have hx:x ∉ l:=fun hm=>by have:=h.1;simp [hm] at this
  match p,k,hp,hk with
  | 0,0,_,_=>rfl
  | 0,k+1,hp,hk =>
   simp at hp hk;subst hp
   exact (hx (List.mem_of_getElem? hk)).elim
  | p+1,0,hp,hk =>
   simp at hp hk;subst hk
   exact (hx (List.mem_of_getElem? hp)).elim
  | p+1,k+1,hp,hk =>
   simp at hp hk
   rw [nodupB_spec l h.2 p k i hp hk]
def isWj (ks:List AOp) (j:Nat):Bool:=match ks[j]? with
 | some o=>isW o.k
 | none=>false
def isNj (ks:List AOp) (j:Nat):Bool:=match ks[j]? with
 | some o=>isN o.k
 | none=>false
theorem rankC_spec {tab:List Nat} {ks:List AOp}:∀ (l ws:List Nat) (nn:Nat) (L:List (AOp × Nat)),rankC tab ks l ws nn=some L →
  L.length=l.length∧countN L=l.countP (isNj ks)∧∀ p i,l[p]?=some i→∃ o rk,ks[i]?=some o∧L[p]?=some (o,rk)∧(isN o.k=true→rk=nn+(l.take p).countP (isNj ks)) ∧
   (isR o.k=true→rk=ws.countP (fun j => !(tab.getD i 0).testBit j)+(l.take p).countP (fun j=>isWj ks j && !((tab.getD i 0).testBit j)))
 | [],ws,nn,L,h=>by
  simp only [rankC,Option.some.injEq] at h;subst h
  exact ⟨rfl,rfl,fun p i hp=>by simp at hp⟩
 | i::l,ws,nn,L,h=>by
  simp only [rankC] at h
  split at h
  ·cases h
  ·rename_i o ho
   cases hk:o.k with
   | w q =>
    simp only [hk] at h
    split at h<;>try (cases h;done)
    rename_i r hr
    simp only [Option.some.injEq] at h;subst h
    obtain ⟨h1,h2,h3⟩:=rankC_spec l (i::ws) nn r hr
    have hN:isNj ks i=false:=by simp [isNj,ho,hk,isN]
    have hW:isWj ks i=true:=by simp [isWj,ho,hk,isW]
    refine ⟨by simp [h1],by simp [countN,hk,h2,hN],fun p j hp => ?_⟩
    match p,hp with
    | 0,hp =>
     simp at hp;subst hp
     exact ⟨o,0,ho,rfl,by simp [hk,isN],by simp [hk,isR]⟩
    | p+1,hp =>
     simp at hp
     obtain ⟨o',rk,g1,g2,g3,g4⟩:=h3 p j hp
     refine ⟨o',rk,g1,by simpa using g2,fun q=>by rw [g3 q];simp [hN],fun q => ?_⟩
     rw [g4 q]
     simp only [List.take_succ_cons,List.countP_cons,hW,Bool.true_and]
     omega
   | n q =>
    simp only [hk] at h
    split at h<;>try (cases h;done)
    rename_i r hr
    simp only [Option.some.injEq] at h;subst h
    obtain ⟨h1,h2,h3⟩:=rankC_spec l ws (nn+1) r hr
    have hN:isNj ks i=true:=by simp [isNj,ho,hk,isN]
    have hW:isWj ks i=false:=by simp [isWj,ho,hk,isW]
    refine ⟨by simp [h1],by simp [countN,hk,h2,hN],fun p j hp => ?_⟩
    match p,hp with
    | 0,hp =>
     simp at hp;subst hp
     exact ⟨o,nn,ho,rfl,by simp,by simp [hk,isR]⟩
    | p+1,hp =>
     simp at hp
     obtain ⟨o',rk,g1,g2,g3,g4⟩:=h3 p j hp
     refine ⟨o',rk,g1,by simpa using g2,fun q => ?_,fun q => ?_⟩
     ·rw [g3 q];simp only [List.take_succ_cons,List.countP_cons,hN,if_true];omega
     ·rw [g4 q];simp [hW]
   | r q =>
    simp only [hk] at h
    split at h<;>try (cases h;done)
    rename_i r hr
    simp only [Option.some.injEq] at h;subst h
    obtain ⟨h1,h2,h3⟩:=rankC_spec l ws nn r hr
    have hN:isNj ks i=false:=by simp [isNj,ho,hk,isN]
    have hW:isWj ks i=false:=by simp [isWj,ho,hk,isW]
    refine ⟨by simp [h1],by simp [countN,hk,h2,hN],fun p j hp => ?_⟩
    match p,hp with
    | 0,hp =>
     simp at hp;subst hp
     exact ⟨o,_,ho,rfl,by simp [hk,isN],fun _=>by simp [List.countP_eq_length_filter]⟩
    | p+1,hp =>
     simp at hp
     obtain ⟨o',rk,g1,g2,g3,g4⟩:=h3 p j hp
     exact ⟨o',rk,g1,by simpa using g2,fun q=>by rw [g3 q];simp [hN],fun q=>by rw [g4 q];simp [hW]⟩
   | p q =>
    simp only [hk] at h
    split at h<;>try (cases h;done)
    rename_i r hr
    simp only [Option.some.injEq] at h;subst h
    obtain ⟨h1,h2,h3⟩:=rankC_spec l ws nn r hr
    have hN:isNj ks i=false:=by simp [isNj,ho,hk,isN]
    have hW:isWj ks i=false:=by simp [isWj,ho,hk,isW]
    refine ⟨by simp [h1],by simp [countN,hk,h2,hN],fun p j hp => ?_⟩
    match p,hp with
    | 0,hp =>
     simp at hp;subst hp
     exact ⟨o,_,ho,rfl,by simp [hk,isN],by simp [hk,isR]⟩
    | p+1,hp =>
     simp at hp
     obtain ⟨o',rk,g1,g2,g3,g4⟩:=h3 p j hp
     exact ⟨o',rk,g1,by simpa using g2,fun q=>by rw [g3 q];simp [hN],fun q=>by rw [g4 q];simp [hW]⟩
theorem runD_steps {call:CallT} {base:Nat}:∀ (L:List (AOp × Nat)) (T:Fr) (H:Heap) (S:List Heap) (T':Fr) (H':Heap),runD call base L T H S=some (T',H') →
  ∃ st:Nat→Fr × Heap × List Heap,st 0=(T,H,S)∧(∀ p x,L[p]?=some x→stepD call base x (st p).1 (st p).2.1 (st p).2.2=some (st (p+1)))∧(st L.length).1=T'∧(st L.length).2.1=H'
 | [],T,H,S,T',H',h=>by
  simp only [runD,Option.some.injEq,Prod.mk.injEq] at h
  obtain ⟨rfl,rfl⟩:=h
  exact ⟨fun _=>(T,H,S),rfl,fun p x hp=>by simp at hp,rfl,rfl⟩
 | x::l,T,H,S,T',H',h=>by
  simp only [runD] at h
  split at h<;>try (cases h;done)
  rename_i T1 H1 S1 h1
  obtain ⟨st,g0,g1,g2,g3⟩:=runD_steps l T1 H1 S1 T' H' h
  refine ⟨fun p=>match p with | 0=>(T,H,S) | p+1=>st p,rfl,fun p y hp => ?_,g2,g3⟩
  match p,hp with
  | 0,hp=>simp at hp;subst hp;rw [h1];simp only [g0]
  | p+1,hp=>simp at hp;exact g1 p y hp
theorem cnt_countP {f:Nat→Bool} {g:Nat→Bool} {l:List Nat}:∀ (k:Nat),k≤l.length→(∀ p i,p < k→l[p]?=some i→f p=g i)→cnt f k=(l.take k).countP g
 | 0,_,_=>by simp [cnt]
 | k+1,h,hf=>by
  have ih:=cnt_countP (f:=f) (g:=g) (l:=l) k (by omega) (fun p i hp=>hf p i (by omega))
  have hlt:k < l.length:=by omega
  rw [List.take_add_one,List.getElem?_eq_getElem hlt]
  simp only [cnt,ih,Option.toList_some,List.countP_append,List.countP_cons,List.countP_nil]
  rw [hf k l[k] (by omega) (List.getElem?_eq_getElem hlt)]
  simp
theorem pairOk_spec {tab:List Nat} {ks:List AOp} {i j:Nat} {a b:AOp} (ha:ks[i]?=some a) (hb:ks[j]?=some b) (h:pairOk tab ks i j=true):(tab.getD j 0).testBit i=true∨Indep a b:=by
 simp only [pairOk,ha,hb,Bool.and_eq_true,Bool.or_eq_true] at h
 rcases h.2 with h | ⟨⟨⟨⟨h1,h2⟩,h3⟩,h4⟩,h5⟩
 ·exact .inl h
 ·right
  refine ⟨fun d hd hm => ?_,fun d hd hm => ?_,fun d hd he => ?_,fun hw => ?_,fun hn => ?_,fun hr => ?_⟩
  ·simp [hits,hd,hm] at h1
  ·simp [hits,hd,hm] at h2
  ·simp [hd,he] at h3
  ·simp only [hw,Bool.true_and,Bool.not_eq_true'] at h4;exact h4
  ·simp only [hn,Bool.true_or,Bool.true_and,Bool.not_eq_true'] at h5;exact h5
  ·simp only [hr,Bool.or_true,Bool.true_and,Bool.not_eq_true'] at h5;exact h5
theorem draw_sound {P:Program} {C:Cfg} {call:CallT} {nt:Nat} {ops:Array Oper} {B:Nat} {H:Heap} {ι:Pl} {w:World} {a:Act} {T T':Fr} {H':Heap} {id:Nat} {L:List (AOp × Nat)} (hC:CallOK P B C.globals call)
  (hd:drawC P C nt ops=some L) (hr:runD call H.next L T (H.reserve (countN L)) [H.reserve (countN L)]=some (T',H'))
  (hF:FRel nt ι T a) (hR:Rel B C.globals H ι w) {Q:Exit→Act→World→Prop} (hQ:∀ a' w' κ,FRel nt κ T' a'→Rel B C.globals H' κ w'→Keep H ι w H' κ w'→Q .normal a' w'):(Code.region id ops true).wp P Q a w:=by
 simp only [drawC] at hd
 split at hd<;>try (cases hd;done)
 rename_i hcond
 simp only [Bool.and_eq_true] at hcond
 obtain ⟨⟨⟨⟨⟨hm,hback⟩,honto⟩,hnod⟩,hlt⟩,hpairs⟩:=hcond
 generalize hks:ops.toList.map (opC P C nt ops)=ks at hd honto hnod hlt hpairs
 generalize htab:aheadTab ops.toList []=tab at hd honto hnod hlt hpairs
 generalize hidx:orderC tab ks ops.size (List.range ops.size) 0=idx at hd honto hnod hlt hpairs
 obtain ⟨hlen,hcN,hspec⟩:=rankC_spec idx [] 0 L hd
 obtain ⟨st,s0,s1,s2,s3⟩:=runD_steps L _ _ _ _ _ hr
 have hget:∀ p,p < idx.length→idx[p]?=some (idx.getD p 0):=fun p hp=>by
  simp [List.getD_eq_getElem?_getD,List.getElem?_eq_getElem hp]
 have hixlt:∀ p,p < idx.length→idx.getD p 0 < ops.size:=fun p hp=>by
  have:=List.all_eq_true.1 hlt _ (List.mem_of_getElem? (hget p hp))
  simpa using this
 have hkget:∀ i,i < ops.size→ks[i]?=some (opC P C nt ops (ops.getD i default)):=fun i hi=>by
  rw [←hks]
  simp [List.getElem?_map,Array.getElem?_eq_getElem hi,Array.getD_eq_getD_getElem?]
 have hback':∀ i o,ops[i]?=some o→∀ e∈o.after,Region.binds .any e=true→e.on < i:=fun i o ho e he hb=>by
  have:=edgesBack_spec ops.toList 0 hback i o (by simpa using ho) e he hb
  omega
 have honto':∀ i,i < ops.size→∃ p,p < idx.length∧idx.getD p 0=i:=fun i hi=>by
  have h1:=List.all_eq_true.1 honto i (List.mem_range.2 hi)
  have h2:i∈idx:=by simpa using h1
  obtain ⟨p,hp,e⟩:=List.getElem_of_mem h2
  exact ⟨p,hp,by simp [List.getD_eq_getElem?_getD,List.getElem?_eq_getElem hp,e]⟩
 let oa:Nat→AOp:=fun p=>opC P C nt ops (ops.getD (idx.getD p 0) default)
 let rk:Nat→Nat:=fun p=>(L.getD p (badOp,0)).2
 have hL:∀ p,p < idx.length→L[p]?=some (oa p,rk p)∧(isN (oa p).k=true→rk p=(idx.take p).countP (isNj ks)) ∧
   (isR (oa p).k=true→rk p=(idx.take p).countP (fun j=>isWj ks j && !((tab.getD (idx.getD p 0) 0).testBit j))):=fun p hp=>by
  obtain ⟨o,r,g1,g2,g3,g4⟩:=hspec p _ (hget p hp)
  rw [hkget _ (hixlt p hp)] at g1
  obtain rfl:=Option.some.inj g1
  have e:rk p=r:=by simp [rk,List.getD_eq_getElem?_getD,g2]
  rw [e]
  exact ⟨g2,fun h=>by rw [g3 h];simp,fun h=>by rw [g4 h];simp⟩
 have hNj:∀ p,p < idx.length→isNj ks (idx.getD p 0)=isN (oa p).k:=fun p hp=>by simp only [isNj,hkget _ (hixlt p hp)];rfl
 have hWj:∀ p,p < idx.length→isWj ks (idx.getD p 0)=isW (oa p).k:=fun p hp=>by simp only [isWj,hkget _ (hixlt p hp)];rfl
 have hstep:∀ p,p < idx.length→isN (oa p).k=true→(idx.take p).countP (isNj ks)+1=(idx.take (p+1)).countP (isNj ks):=fun p hp hN=>by
  rw [List.take_add_one,hget p hp]
  simp only [Option.toList_some,List.countP_append,List.countP_cons,List.countP_nil,hNj p hp,hN,if_true]
 let c:Canon P C call nt ops H.next (countN L) :=
  { m:=idx.length,ix:=fun p=>idx.getD p 0,oa,rk,st,req:=fun k p=>(tab.getD (idx.getD k 0) 0).testBit (idx.getD p 0)
    oper:=fun p hp=>⟨ops.getD (idx.getD p 0) default,by
     have:=hixlt p hp
     simp only [Array.getD_eq_getD_getElem?,Array.getElem?_eq_getElem this,Option.getD_some],rfl⟩
    run:=fun p hp=>s1 p _ (hL p hp).1
    inj:=fun p k hp hk e=>nodupB_spec idx hnod p k (idx.getD p 0) (hget p hp) (by rw [hget k hk,e])
    onto:=honto'
    pair:=fun p k hpk hk=>pairOk_spec (hkget _ (hixlt p (by omega))) (hkget _ (hixlt k hk)) (allPairs_spec idx hpairs p k _ _ hpk (hget p (by omega)) (hget k hk))
    rkN:=fun p k hpk hk h1 h2=>by
     rw [(hL p (by omega)).2.1 h1,(hL k hk).2.1 h2]
     have:=hstep p (by omega) h1
     have h3:(idx.take (p+1)).countP (isNj ks)≤(idx.take k).countP (isNj ks):=List.Sublist.countP_le (List.IsPrefix.sublist (List.take_prefix_take_left (by omega)))
     omega
    rkN_lt:=fun p hp h1=>by
     rw [(hL p hp).2.1 h1,hcN]
     have:=hstep p hp h1
     have h3:(idx.take (p+1)).countP (isNj ks)≤idx.countP (isNj ks):=List.Sublist.countP_le (List.take_sublist _ _)
     omega
    rkR:=fun k hk h1=>by
     rw [(hL k hk).2.2 h1]
     refine Nat.le_of_eq (cnt_countP k (by omega) fun p i hp hi => ?_)
     have:i=idx.getD p 0:=by rw [hget p (by omega)] at hi;exact (Option.some.inj hi).symm
     subst this
     rw [hWj p (by omega)]
    reqE:=fun k p hk hp hreq=>by
     have hk':=hixlt k hk
     obtain ⟨acc',h1,h2⟩:=aheadTab_spec ops.toList [] (idx.getD k 0) ops[idx.getD k 0] (by simp [hk'])
     rw [htab] at h1 h2
     simp only [List.length_nil,Nat.zero_add] at h1
     rw [h1] at hreq
     rcases aheadRow_spec _ _ hreq with h3 | ⟨e,he,hb,h3⟩
     ·simp at h3
     ·refine ⟨_,e,Array.getElem?_eq_getElem hk',by simpa using he,hb,?_⟩
      rcases h3 with h3 | h3
      ·exact .inl h3
      ·right
       have hon:=hback' _ _ (Array.getElem?_eq_getElem hk') e (by simpa using he) hb
       obtain ⟨p',hp',e'⟩:=honto' e.on (by omega)
       refine ⟨p',hp',e',?_⟩
       rcases h2 e.on with h4 | h4
       ·rw [h4] at h3;simp at h3
       ·rw [h4] at h3;rw [e'];exact h3
    back:=hback' }
 exact draw_of_canon hC hm c s0 (by show (st idx.length).1=T';rw [←hlen];exact s2) (by show (st idx.length).2.1=H';rw [←hlen];exact s3) hF hR hQ
end
end Go.FR
