/- The fast run: any order of a region's operations comes to the same. -/
import Derived.Test.YtlgkadhogiedoaaDoorFrM
set_option linter.unusedSimpArgs false
set_option linter.unusedVariables false
namespace Go.FR
noncomputable section
open Go
def cnt (f:Nat→Bool):Nat→Nat
 | 0=>0
 | p+1=>cnt f p+(if f p then 1 else 0)
def Indep (a b:AOp):Prop :=
 (∀ d,a.dst=some d→d ∉ readsA b)∧(∀ d,b.dst=some d→d ∉ readsA a)∧(∀ d,a.dst=some d→b.dst≠some d) ∧
 (isW a.k=true→isW b.k=false)∧(isN a.k=true→isW b.k=false)∧(isR a.k=true→isW b.k=false)
structure Canon (P:Program) (C:Cfg) (call:CallT) (nt:Nat) (ops:Array Oper) (base cN:Nat) where
 m:Nat
 ix:Nat→Nat
 oa:Nat→AOp
 rk:Nat→Nat
 st:Nat→Fr × Heap × List Heap
 req:Nat→Nat→Bool
 oper:∀ p,p < m→∃ o,ops[ix p]?=some o∧oa p=opC P C nt ops o
 run:∀ p,p < m→stepD call base (oa p,rk p) (st p).1 (st p).2.1 (st p).2.2=some (st (p+1))
 inj:∀ p k,p < m→k < m→ix p=ix k→p=k
 onto:∀ i,i < ops.size→∃ p,p < m∧ix p=i
 pair:∀ p k,p < k→k < m→req k p=true∨Indep (oa p) (oa k)
 rkN:∀ p k,p < k→k < m→isN (oa p).k=true→isN (oa k).k=true→rk p < rk k
 rkN_lt:∀ p,p < m→isN (oa p).k=true→rk p < cN
 rkR:∀ k,k < m→isR (oa k).k=true→cnt (fun p=>isW (oa p).k && !(req k p)) k≤rk k
 reqE:∀ k p,k < m→p < m→req k p=true→∃ o e,ops[ix k]?=some o∧e∈o.after∧Region.binds .any e=true∧(e.on=ix p∨∃ p',p' < m∧ix p'=e.on∧req p' p=true)
 back:∀ i o,ops[i]?=some o→∀ e∈o.after,Region.binds .any e=true→e.on < i
theorem stepD_cases {call:CallT} {base:Nat} {o:AOp} {rk:Nat} {T T':Fr} {H H':Heap} {S S':List Heap} (h:stepD call base (o,rk) T H S=some (T',H',S')) :
  ∃ v,T'=put T o.dst v∧((wanted T o.guard=some false∧v=undefA∧H'=H∧S'=S) ∨
   (wanted T o.guard=some true∧∃ vs,opds T o.args=some vs ∧
    ((∃ q,o.k = .p q∧pop q vs=some v∧H'=H∧S'=S) ∨
     (∃ q,o.k = .r q∧ropAt q vs (S.take (rk+1))=some v∧H'=H∧S'=S) ∨
     (∃ q b res,o.k = .n q∧nop q vs=some (b,res)∧v=res.at (base+rk)∧H'=H.set (base+rk) b∧S'=S.map fun h=>h.set (base+rk) b) ∨
     (∃ q,o.k = .w q∧wop call q vs H=some (v,H')∧S'=H'::S)))):=by
 simp only [stepD] at h
 split at h
 ·cases h
 ·rename_i hw
  simp only [Option.some.injEq,Prod.mk.injEq] at h
  obtain ⟨rfl,rfl,rfl⟩:=h
  exact ⟨_,rfl,.inl ⟨hw,rfl,rfl,rfl⟩⟩
 ·rename_i hw
  split at h<;>try (cases h;done)
  rename_i vs hvs
  cases hk:o.k with
  | p q =>
   simp only [hk] at h
   split at h<;>try (cases h;done)
   rename_i v hp
   simp only [Option.some.injEq,Prod.mk.injEq] at h
   obtain ⟨rfl,rfl,rfl⟩:=h
   exact ⟨_,rfl,.inr ⟨hw,vs,hvs,.inl ⟨q,rfl,hp,rfl,rfl⟩⟩⟩
  | r q =>
   simp only [hk] at h
   split at h<;>try (cases h;done)
   rename_i v hp
   simp only [Option.some.injEq,Prod.mk.injEq] at h
   obtain ⟨rfl,rfl,rfl⟩:=h
   exact ⟨_,rfl,.inr ⟨hw,vs,hvs,.inr (.inl ⟨q,rfl,hp,rfl,rfl⟩)⟩⟩
  | n q =>
   simp only [hk] at h
   split at h<;>try (cases h;done)
   rename_i b res hp
   simp only [Option.some.injEq,Prod.mk.injEq] at h
   obtain ⟨rfl,rfl,rfl⟩:=h
   exact ⟨_,rfl,.inr ⟨hw,vs,hvs,.inr (.inr (.inl ⟨q,b,res,rfl,hp,rfl,rfl,rfl⟩))⟩⟩
  | w q =>
   simp only [hk] at h
   split at h<;>try (cases h;done)
   rename_i v H'' hp
   simp only [Option.some.injEq,Prod.mk.injEq] at h
   obtain ⟨rfl,rfl,rfl⟩:=h
   exact ⟨_,rfl,.inr ⟨hw,vs,hvs,.inr (.inr (.inr ⟨q,rfl,hp,rfl⟩))⟩⟩
theorem nop_rw {q:NOp} {vs:List AV} {b:ABlk} {res:NRes} (h:nop q vs=some (b,res)):b.rw=true:=by
 cases q<;>simp only [nop] at h
 all_goals
  repeat' split at h
  all_goals first
   | (cases h;done)
   | (simp only [Option.some.injEq,Prod.mk.injEq] at h;obtain ⟨rfl,_⟩:=h;rfl)
namespace Canon
variable {P:Program} {C:Cfg} {call:CallT} {nt:Nat} {ops:Array Oper} {base cN:Nat} (c:Canon P C call nt ops base cN)
def wt (p:Nat):Bool:=match wanted (c.st p).1 (c.oa p).guard with
 | some true=>true
 | _=>false
def nAt (p:Nat):Bool:=c.wt p && isN (c.oa p).k
def wAt (p:Nat):Bool:=c.wt p && isW (c.oa p).k
def nm (p:Nat):Nat:=base+c.rk p
def tD (D:Nat→Bool):Nat→Nat→Option AV
 | 0,t=>(c.st 0).1.get t
 | p+1,t=>if D p=true∧(c.oa p).dst=some t then (c.st (p+1)).1.get t else tD D p t
def hD (D:Nat→Bool) (q:Nat):Nat→Heap
 | 0=>(c.st q).2.1
 | p+1=>if (Nat.ble q p && D p && c.nAt p)=true then
   match (c.st (p+1)).2.1.get (c.nm p) with
   | some b=>(hD D q p).set (c.nm p) b
   | none=>hD D q p
  else hD D q p
theorem st_cases {p:Nat} (hp:p < c.m):∃ v,(c.st (p+1)).1=put (c.st p).1 (c.oa p).dst v∧((wanted (c.st p).1 (c.oa p).guard=some false∧v=undefA∧(c.st (p+1)).2.1=(c.st p).2.1∧(c.st (p+1)).2.2=(c.st p).2.2) ∨
   (wanted (c.st p).1 (c.oa p).guard=some true∧∃ vs,opds (c.st p).1 (c.oa p).args=some vs ∧
    ((∃ q,(c.oa p).k = .p q∧pop q vs=some v∧(c.st (p+1)).2.1=(c.st p).2.1∧(c.st (p+1)).2.2=(c.st p).2.2) ∨
     (∃ q,(c.oa p).k = .r q∧ropAt q vs ((c.st p).2.2.take (c.rk p+1))=some v∧(c.st (p+1)).2.1=(c.st p).2.1∧(c.st (p+1)).2.2=(c.st p).2.2) ∨
     (∃ q b res,(c.oa p).k = .n q∧nop q vs=some (b,res)∧v=res.at (base+c.rk p)∧(c.st (p+1)).2.1=(c.st p).2.1.set (base+c.rk p) b∧(c.st (p+1)).2.2=(c.st p).2.2.map fun h=>h.set (base+c.rk p) b) ∨
     (∃ q,(c.oa p).k = .w q∧wop call q vs (c.st p).2.1=some (v,(c.st (p+1)).2.1)∧(c.st (p+1)).2.2=(c.st (p+1)).2.1::(c.st p).2.2)))) :=
 stepD_cases (c.run p hp)
theorem st_get {p t:Nat} (hp:p < c.m) (hd:(c.oa p).dst≠some t):(c.st (p+1)).1.get t=(c.st p).1.get t:=by
 obtain ⟨v,h,_⟩:=c.st_cases hp
 rw [h,put_get,if_neg hd]
theorem st_still {p:Nat} (hp:p < c.m) (hn:c.nAt p=false) (hw:c.wAt p=false):(c.st (p+1)).2.1=(c.st p).2.1∧(c.st (p+1)).2.2=(c.st p).2.2:=by
 obtain ⟨v,h,h2⟩:=c.st_cases hp
 rcases h2 with ⟨_,_,h3⟩ | ⟨hwt,vs,hvs,h3⟩
 ·exact h3
 ·have hwt':c.wt p=true:=by simp [wt,hwt]
  rcases h3 with ⟨q,_,_,h4⟩ | ⟨q,_,_,h4⟩ | ⟨q,b,res,hk,_⟩ | ⟨q,hk,_⟩
  ·exact h4
  ·exact h4
  ·simp [nAt,hwt',hk,isN] at hn
  ·simp [wAt,hwt',hk,isW] at hw
theorem st_new {p:Nat} (hp:p < c.m) (hn:c.nAt p=true):∃ b,(c.st (p+1)).2.1=(c.st p).2.1.set (c.nm p) b∧((c.st (p+1)).2.2=(c.st p).2.2.map fun h=>h.set (c.nm p) b)∧b.rw=true:=by
 obtain ⟨v,h,h2⟩:=c.st_cases hp
 simp only [nAt,Bool.and_eq_true] at hn
 rcases h2 with ⟨h3,_⟩ | ⟨hwt,vs,hvs,h3⟩
 ·simp [wt,h3] at hn
 ·rcases h3 with ⟨q,hk,_⟩ | ⟨q,hk,_⟩ | ⟨q,b,res,hk,h4,h5,h6,h7⟩ | ⟨q,hk,_⟩
  ·simp [hk,isN] at hn
  ·simp [hk,isN] at hn
  ·exact ⟨b,h6,h7,nop_rw h4⟩
  ·simp [hk,isN] at hn
theorem st_w {p:Nat} (hp:p < c.m) (hw:c.wAt p=true):(c.st (p+1)).2.2=(c.st (p+1)).2.1::(c.st p).2.2:=by
 obtain ⟨v,h,h2⟩:=c.st_cases hp
 simp only [wAt,Bool.and_eq_true] at hw
 rcases h2 with ⟨h3,_⟩ | ⟨hwt,vs,hvs,h3⟩
 ·simp [wt,h3] at hw
 ·rcases h3 with ⟨q,hk,_⟩ | ⟨q,hk,_⟩ | ⟨q,b,res,hk,_⟩ | ⟨q,hk,_,h4⟩
  ·simp [hk,isW] at hw
  ·simp [hk,isW] at hw
  ·simp [hk,isW] at hw
  ·exact h4
theorem nw {p:Nat} (h:c.nAt p=true):c.wAt p=false:=by
 simp only [nAt,Bool.and_eq_true] at h
 obtain ⟨_,h⟩:=h
 have:isW (c.oa p).k=false:=by
  generalize (c.oa p).k=k at h
  cases k<;>first | rfl | (simp [isN] at h;done)
 simp [wAt,this]
theorem hD_low {D:Nat→Bool} {q:Nat}:∀ {n:Nat},n≤q→c.hD D q n=(c.st q).2.1
 | 0,_=>rfl
 | n+1,h=>by
  have:Nat.ble q n=false:=Bool.eq_false_iff.2 (by simp;omega)
  simp only [hD,this,Bool.false_and,Bool.false_eq_true,if_false]
  exact hD_low (by omega)
theorem hD_next {D:Nat→Bool} {q:Nat}:∀ (n:Nat),(c.hD D q n).next=(c.st q).2.1.next
 | 0=>rfl
 | n+1=>by
  simp only [hD]
  split
  ·split
   ·exact hD_next n
   ·exact hD_next n
  ·exact hD_next n
theorem hD_eq {D:Nat→Bool} {q:Nat}:∀ {k:Nat},q≤k→k≤c.m→(∀ p,q≤p→p < k→c.wAt p=false)→(∀ p,q≤p→p < k→c.nAt p=true→D p=true)→c.hD D q k=(c.st k).2.1
 | 0,h,_,_,_=>by have:q=0:=by omega
                 subst this;rfl
 | k+1,h,hm,hw,hn=>by
  by_cases e:q=k+1
  ·subst e;exact c.hD_low (Nat.le_refl _)
  ·have ih:=hD_eq (D:=D) (q:=q) (k:=k) (by omega) (by omega) (fun p h1 h2=>hw p h1 (by omega)) (fun p h1 h2=>hn p h1 (by omega))
   have hq:Nat.ble q k=true:=by simp;omega
   cases hnk:c.nAt k with
   | false =>
    simp only [hD,hnk,Bool.and_false,Bool.false_eq_true,if_false]
    rw [ih]
    exact (c.st_still (by omega) hnk (hw k (by omega) (by omega))).1.symm
   | true =>
    have hD':=hn k (by omega) (by omega) hnk
    obtain ⟨b,h1,h2,h3⟩:=c.st_new (p:=k) (by omega) hnk
    simp only [hD,hnk,hq,hD',Bool.and_self,if_true]
    have:(c.st (k+1)).2.1.get (c.nm k)=some b:=by rw [h1,Heap.get_set,if_pos rfl]
    rw [this,ih,h1]
theorem hD_get {D:Nat→Bool} {q k:Nat} {id:Nat}:∀ {n:Nat},k≤n→n≤c.m→(c.hD D q n).get id=(c.hD D q k).get id∨∃ p b,k≤p∧p < n∧q≤p∧D p=true∧c.nAt p=true∧id=c.nm p∧(c.st (p+1)).2.1.get (c.nm p)=some b∧b.rw=true∧(c.hD D q n).get id=some b
 | 0,h,hm=>by have:k=0:=by omega
              subst this;exact .inl rfl
 | n+1,h,hm=>by
  by_cases e:k=n+1
  ·subst e;exact .inl rfl
  ·have ih:=hD_get (D:=D) (q:=q) (k:=k) (id:=id) (n:=n) (by omega) (by omega)
   have same:c.hD D q (n+1)=c.hD D q n→(c.hD D q (n+1)).get id=(c.hD D q k).get id∨∃ p b,k≤p∧p < n+1∧q≤p∧D p=true∧c.nAt p=true∧id=c.nm p∧(c.st (p+1)).2.1.get (c.nm p)=some b∧b.rw=true∧(c.hD D q (n+1)).get id=some b:=fun e=>by
    rw [e]
    rcases ih with h | ⟨p,b,h1,h2,h3⟩
    ·exact .inl h
    ·exact .inr ⟨p,b,h1,by omega,h3⟩
   by_cases hc:(Nat.ble q n && D n && c.nAt n)=true
   ·have hc':=hc
    simp only [Bool.and_eq_true] at hc'
    obtain ⟨⟨h1,h2⟩,h3⟩:=hc'
    obtain ⟨b,h4,h5,h6⟩:=c.st_new (p:=n) (by omega) h3
    have h7:(c.st (n+1)).2.1.get (c.nm n)=some b:=by rw [h4,Heap.get_set,if_pos rfl]
    have h8:c.hD D q (n+1)=(c.hD D q n).set (c.nm n) b:=by
     simp only [hD,hc,if_true,h7]
    by_cases hid:id=c.nm n
    ·refine .inr ⟨n,b,by omega,by omega,by simpa using h1,h2,h3,hid,h7,h6,?_⟩
     rw [h8,Heap.get_set,if_pos hid]
    ·have h9:(c.hD D q (n+1)).get id=(c.hD D q n).get id:=by rw [h8,Heap.get_set,if_neg hid]
     rw [h9]
     rcases ih with h | ⟨p,b,h1,h2,h3⟩
     ·exact .inl h
     ·exact .inr ⟨p,b,h1,by omega,h3⟩
   ·exact same (by simp only [hD];rw [if_neg hc])
theorem nm_ne {p k:Nat} (hp:p < c.m) (hk:k < c.m) (h1:c.nAt p=true) (h2:isN (c.oa k).k=true) (hne:p≠k):c.nm p≠c.nm k:=by
 have h1':isN (c.oa p).k=true:=by simp only [nAt,Bool.and_eq_true] at h1;exact h1.2
 unfold nm
 rcases Nat.lt_or_gt_of_ne hne with h | h
 ·have:=c.rkN p k h hk h1' h2;omega
 ·have:=c.rkN k p h hp h2 h1';omega
theorem tD_reads {D:Nat→Bool} {k t:Nat} (hk:k < c.m) (hkD:D k=false) (hreq:∀ p,p < c.m→c.req k p=true→D p=true) (hcl:∀ p,p < c.m→D p=true→c.req p k=true→D k=true)
  (ht:t∈readsA (c.oa k)):∀ (n:Nat),n≤c.m→c.tD D n t=(c.st (min n k)).1.get t
 | 0,_=>by simp [tD]
 | n+1,hn=>by
  have ih:=tD_reads hk hkD hreq hcl ht n (by omega)
  rcases Nat.lt_trichotomy n k with h | h | h
  ·have e1:min n k=n:=by omega
   have e2:min (n+1) k=n+1:=by omega
   rw [e1] at ih
   rw [e2]
   simp only [tD]
   split
   ·rfl
   ·rename_i hc
    rw [ih]
    refine (c.st_get (by omega) fun hd => ?_).symm
    cases hDn:D n with
    | true=>exact hc ⟨hDn,hd⟩
    | false =>
     rcases c.pair n k h hk with q | q
     ·rw [hreq n (by omega) q] at hDn;cases hDn
     ·exact q.1 t hd ht
  ·subst h
   have e1:min (n+1) n=n:=by omega
   have e2:min n n=n:=by omega
   rw [e1];rw [e2] at ih
   simp only [tD,hkD,Bool.false_eq_true,false_and,if_false]
   exact ih
  ·have e1:min n k=k:=by omega
   have e2:min (n+1) k=k:=by omega
   rw [e1] at ih;rw [e2]
   simp only [tD]
   rw [if_neg]
   ·exact ih
   ·rintro ⟨h1,h2⟩
    rcases c.pair k n h (by omega) with q | q
    ·rw [hcl n (by omega) h1 q] at hkD;cases hkD
    ·exact q.2.1 t h2 ht
theorem tD_next {D D':Nat→Bool} {k t:Nat} (hk:k < c.m) (hkD:D k=false) (hcl:∀ p,p < c.m→D p=true→c.req p k=true→D k=true)
  (hD':∀ p,p < c.m→D' p=(D p || decide (p=k))):∀ (n:Nat),n≤c.m→c.tD D' n t=if k < n∧(c.oa k).dst=some t then (c.st (k+1)).1.get t else c.tD D n t
 | 0,_=>by simp [tD]
 | n+1,hn=>by
  have ih:=tD_next (t:=t) hk hkD hcl hD' n (by omega)
  have hDn:=hD' n (by omega)
  rcases Nat.lt_trichotomy n k with h | h | h
  ·have:D' n=D n:=by rw [hDn];simp;omega
   simp only [tD,this]
   rw [if_neg (by omega)] at ih
   rw [if_neg (c:=k < n+1∧_) (by omega),ih]
  ·subst h
   have:D' n=true:=by rw [hDn];simp
   simp only [tD,this,hkD,true_and,Bool.false_eq_true,false_and,if_false]
   rw [if_neg (by omega)] at ih
   rw [ih]
   simp
  ·have:D' n=D n:=by rw [hDn];simp;omega
   simp only [tD,this]
   by_cases hc:D n=true∧(c.oa n).dst=some t
   ·rw [if_pos hc,if_pos hc,if_neg]
    rintro ⟨_,h2⟩
    rcases c.pair k n h (by omega) with q | q
    ·rw [hcl n (by omega) hc.1 q] at hkD;cases hkD
    ·exact q.2.2.1 t h2 hc.2
   ·rw [if_neg hc,if_neg hc,ih]
    have:(k < n∧(c.oa k).dst=some t) ↔ (k < n+1∧(c.oa k).dst=some t):=by constructor<;>rintro ⟨_,h2⟩<;>exact ⟨by omega,h2⟩
    simp only [this]
theorem tD_all {D:Nat→Bool} (h:∀ p,p < c.m→D p=true) (t:Nat):∀ (n:Nat),n≤c.m→c.tD D n t=(c.st n).1.get t
 | 0,_=>rfl
 | n+1,hn=>by
  simp only [tD,h n (by omega),true_and]
  split
  ·rfl
  ·rename_i hd
   rw [tD_all h t n (by omega),c.st_get (by omega) hd]
structure DInv (B:Nat) (H0:Heap) (ι0:Pl) (w0:World) (D:Nat→Bool) (q:Nat) (ι:Pl) (a:Act) (w:World):Prop where
 q_le:q≤c.m
 before:∀ p,p < q→(isN (c.oa p).k=true∨isR (c.oa p).k=true∨isW (c.oa p).k=true)→D p=true
 behind:∀ p,q≤p→p < c.m→c.wAt p=true→D p=false
 top:c.wAt (q - 1)=true∨q=0
 head:(c.st q).2.2.head?=some (c.st q).2.1
 fresh:∀ p,q≤p→p < c.m→isN (c.oa p).k=true→(c.st q).2.1.get (c.nm p)=none
 frame:∀ n v,c.tD D c.m n=some v→∃ u,a.tmps[n]?=some u∧VRel ι v u
 size:nt≤a.tmps.size
 defers:a.defers=[]
 rel:Rel B C.globals (c.hD D q c.m) ι w
 keep:KeepB base H0 ι0 w0 (c.hD D q c.m) ι w
 free:∀ p,p < c.m→isN (c.oa p).k=true→D p=false→ι (c.nm p)=none
 room:base+cN≤(c.st q).2.1.next
def aug (q:Nat):Nat→Heap→Heap
 | 0,S=>S
 | p+1,S=>if (Nat.ble q p && c.nAt p)=true then
   match (c.st (p+1)).2.1.get (c.nm p) with
   | some b=>(aug q p S).set (c.nm p) b
   | none=>aug q p S
  else aug q p S
theorem aug_low {q:Nat}:∀ {n:Nat} (S:Heap),n≤q→c.aug q n S=S
 | 0,S,_=>rfl
 | n+1,S,h=>by
  have:Nat.ble q n=false:=Bool.eq_false_iff.2 (by simp;omega)
  simp only [aug,this,Bool.false_and,Bool.false_eq_true,if_false]
  exact aug_low S (by omega)
theorem aug_hD {q:Nat}:∀ (n:Nat),c.aug q n (c.st q).2.1=c.hD (fun _=>true) q n
 | 0=>rfl
 | n+1=>by simp only [aug,hD,aug_hD n,Bool.and_true]
theorem snaps_at {D:Nat→Bool} {q k:Nat} (hk:k < c.m) (hq:∀ p,q≤p→p < c.m→c.wAt p=true→D p=false) (hreq:∀ p,p < c.m→c.req k p=true→D p=true):∀ (n:Nat),q≤n→n≤k →
  ∃ l,(c.st n).2.2=l++(c.st q).2.2.map (c.aug q n)∧l.length≤cnt (fun p=>isW (c.oa p).k && !(c.req k p)) n
 | 0,h,_=>by
  have:q=0:=by omega
  subst this;exact ⟨[],by simp [aug],by simp⟩
 | n+1,h,hn=>by
  by_cases e:q=n+1
  ·subst e;exact ⟨[],by rw [show c.aug (n+1) (n+1)=id from funext fun S=>c.aug_low S (Nat.le_refl _)];simp,by simp⟩
  ·obtain ⟨l,h1,h2⟩:=snaps_at hk hq hreq n (by omega) (by omega)
   have hqn:Nat.ble q n=true:=by simp;omega
   cases hw:c.wAt n with
   | true =>
    have hD:=hq n (by omega) (by omega) hw
    have hr:c.req k n=false:=by
     cases hr:c.req k n with
     | false=>rfl
     | true=>rw [hreq n (by omega) hr] at hD;cases hD
    have hiw:isW (c.oa n).k=true:=by simp only [wAt,Bool.and_eq_true] at hw;exact hw.2
    have hnn:c.nAt n=false:=by
     cases hx:c.nAt n with
     | false=>rfl
     | true=>rw [c.nw hx] at hw;cases hw
    have ha:c.aug q (n+1)=c.aug q n:=by funext S;simp only [aug,hnn,Bool.and_false,Bool.false_eq_true,if_false]
    refine ⟨(c.st (n+1)).2.1::l,by rw [c.st_w (by omega) hw,h1,ha];rfl,?_⟩
    simp only [cnt,hiw,hr,List.length_cons,Bool.not_false,Bool.and_self,if_true]
    omega
   | false =>
    cases hnn:c.nAt n with
    | false =>
     have ha:c.aug q (n+1)=c.aug q n:=by funext S;simp only [aug,hnn,Bool.and_false,Bool.false_eq_true,if_false]
     exact ⟨l,by rw [(c.st_still (by omega) hnn hw).2,h1,ha],by simp only [cnt];omega⟩
    | true =>
     obtain ⟨b,h3,h4,_⟩:=c.st_new (by omega) hnn
     have hg:(c.st (n+1)).2.1.get (c.nm n)=some b:=by rw [h3,Heap.get_set,if_pos rfl]
     have ha:c.aug q (n+1)=fun S=>(c.aug q n S).set (c.nm n) b:=by funext S;simp only [aug,hqn,hnn,Bool.and_self,if_true,hg]
     exact ⟨l.map fun h=>h.set (c.nm n) b,by rw [h4,h1,ha,List.map_append,List.map_map];rfl,by rw [List.length_map];simp only [cnt];omega⟩
end Canon
end
end Go.FR
