/- The fast run: one operation in any order. -/
import Derived.Test.YtlgkadhogiedoaaDoorFrN
set_option linter.unusedSimpArgs false
set_option linter.unusedVariables false
namespace Go.FR
noncomputable section
open Go
theorem reads_arg {o:AOp} {n:Nat} (h:Opd.t n∈o.args):n∈readsA o:=by
 unfold readsA
 exact List.mem_append_left _ (List.mem_filterMap.2 ⟨_,h,rfl⟩)
theorem reads_guard {o:AOp} {j:Nat} {b:Bool} (h:o.guard=some (j,b)):j∈readsA o:=by
 unfold readsA
 rw [h];simp
namespace Canon
variable {P:Program} {C:Cfg} {call:CallT} {nt:Nat} {ops:Array Oper} {base cN:Nat} (c:Canon P C call nt ops base cN)
theorem hD_congr {D D':Nat→Bool} {q:Nat}:∀ (n:Nat),(∀ p,p < n→c.nAt p=true→D p=D' p)→c.hD D q n=c.hD D' q n
 | 0,_=>rfl
 | n+1,h=>by
  have ih:=hD_congr (q:=q) n (fun p hp=>h p (by omega))
  simp only [hD,ih]
  cases hn:c.nAt n with
  | false=>simp
  | true=>rw [h n (by omega) hn]
theorem hD_at {D:Nat→Bool} {q p:Nat} {b:ABlk} (hq:q≤p) (hD:D p=true) (hn:c.nAt p=true) (hb:(c.st (p+1)).2.1.get (c.nm p)=some b):∀ (n:Nat),p < n→n≤c.m→(c.hD D q n).get (c.nm p)=some b
 | 0,h,_=>by omega
 | n+1,h,hm=>by
  by_cases e:p=n
  ·subst e
   have h1:Nat.ble q p=true:=by simpa using hq
   simp only [Canon.hD,h1,hD,hn,Bool.and_self,if_true,hb]
   rw [Heap.get_set,if_pos rfl]
  ·have ih:=hD_at hq hD hn hb n (by omega) (by omega)
   simp only [Canon.hD]
   split
   ·rename_i hc
    simp only [Bool.and_eq_true] at hc
    have hnn:isN (c.oa n).k=true:=by have:=hc.2;simp only [nAt,Bool.and_eq_true] at this;exact this.2
    split
    ·rw [Heap.get_set,if_neg (c.nm_ne (by omega) (by omega) hn hnn (by omega))];exact ih
    ·exact ih
   ·exact ih
theorem hD_put {D D':Nat→Bool} {q k:Nat} {b:ABlk} (hk:k < c.m) (hq:q≤k) (hkD:D k=false) (hn:c.nAt k=true) (hb:(c.st (k+1)).2.1.get (c.nm k)=some b) (hD':∀ p,p < c.m→D' p=(D p || decide (p=k))) (j:Nat) :
  ∀ (n:Nat),n≤c.m→(c.hD D' q n).get j=if k < n∧j=c.nm k then some b else (c.hD D q n).get j
 | 0,_=>by simp [Canon.hD]
 | n+1,hm=>by
  have ih:=hD_put hk hq hkD hn hb hD' j n (by omega)
  have hDn:=hD' n (by omega)
  rcases Nat.lt_trichotomy n k with h | h | h
  ·have e:D' n=D n:=by rw [hDn];simp;omega
   rw [if_neg (by omega)] at ih
   rw [if_neg (c:=k < n+1∧_) (by omega)]
   simp only [Canon.hD,e]
   split
   ·split
    ·rw [Heap.get_set,Heap.get_set,ih]
    ·exact ih
   ·exact ih
  ·subst h
   have e:D' n=true:=by rw [hDn];simp
   have h1:Nat.ble q n=true:=by simpa using hq
   rw [if_neg (by omega)] at ih
   simp only [Canon.hD,h1,e,hkD,hn,Bool.and_self,if_true,hb,Bool.false_eq_true,Bool.and_false,Bool.false_and,if_false]
   rw [Heap.get_set,ih]
   by_cases e2:j=c.nm n
   ·rw [if_pos e2,if_pos ⟨by omega,e2⟩]
   ·rw [if_neg e2,if_neg (fun h=>e2 h.2)]
  ·have e:D' n=D n:=by rw [hDn];simp;omega
   have e3:(k < n+1∧j=c.nm k) ↔ (k < n∧j=c.nm k):=by constructor<;>rintro ⟨_,h2⟩<;>exact ⟨by omega,h2⟩
   simp only [e3]
   simp only [Canon.hD,e]
   split
   ·rename_i hc
    simp only [Bool.and_eq_true] at hc
    have hnn:isN (c.oa n).k=true:=by have:=hc.2;simp only [nAt,Bool.and_eq_true] at this;exact this.2
    split
    ·rw [Heap.get_set,Heap.get_set,ih]
     by_cases e4:j=c.nm n
     ·rw [if_pos e4,if_pos e4,if_neg]
      rintro ⟨_,h2⟩
      exact c.nm_ne hk (by omega) hn hnn (by omega) (by rw [←h2,e4])
     ·rw [if_neg e4,if_neg e4]
    ·exact ih
   ·exact ih
section
variable {B:Nat} {H0:Heap} {ι0:Pl} {w0:World} {D D':Nat→Bool} {q k:Nat} {ι κ:Pl} {a:Act} {w w':World}
theorem fresh_at (h:c.DInv B H0 ι0 w0 D q ι a w) {n p:Nat} (hn:n≤p) (hq:q≤p) (hp:p < c.m) (hN:isN (c.oa p).k=true):(c.hD D q n).get (c.nm p)=none:=by
 by_cases e:n≤q
 ·rw [c.hD_low e];exact h.fresh p hq hp hN
 ·rcases c.hD_get (D:=D) (q:=q) (k:=q) (id:=c.nm p) (n:=n) (by omega) (by omega) with r | ⟨p',b,h1,h2,h3,h4,h5,h6,_⟩
  ·rw [r,c.hD_low (Nat.le_refl _)];exact h.fresh p hq hp hN
  ·exact (c.nm_ne (by omega) hp h5 hN (by omega) h6.symm).elim
theorem sub_at (h:c.DInv B H0 ι0 w0 D q ι a w) {n id:Nat} {x:ABlk} (hn:n≤c.m) (hx:(c.hD D q n).get id=some x):(c.hD D q c.m).get id=some x:=by
 rcases c.hD_get (D:=D) (q:=q) (k:=n) (id:=id) (n:=c.m) hn (Nat.le_refl _) with r | ⟨p',b,h1,h2,h3,h4,h5,h6,_⟩
 ·rw [r];exact hx
 ·have hN:isN (c.oa p').k=true:=by simp only [nAt,Bool.and_eq_true] at h5;exact h5.2
  rw [h6,c.fresh_at h h1 h3 h2 hN] at hx;cases hx
theorem frame_next (h:c.DInv B H0 ι0 w0 D q ι a w) (hk:k < c.m) (hkD:D k=false) (hcl:∀ p,p < c.m→D p=true→c.req p k=true→D k=true)
  (hD':∀ p,p < c.m→D' p=(D p || decide (p=k))) {v:AV} {u:Value} (hst:(c.st (k+1)).1=put (c.st k).1 (c.oa k).dst v) (hd:∀ n,(c.oa k).dst=some n→n < nt) (hv:VRel κ v u) (le:ι.le κ) :
  (∀ n x,c.tD D' c.m n=some x→∃ y,(a.put (c.oa k).dst u).tmps[n]?=some y∧VRel κ x y)∧nt≤(a.put (c.oa k).dst u).tmps.size∧(a.put (c.oa k).dst u).defers=[]:=by
 have hs:=h.size
 refine ⟨fun n x hx => ?_,?_,?_⟩
 ·rw [c.tD_next hk hkD hcl hD' c.m (Nat.le_refl _)] at hx
  split at hx
  ·rename_i hc
   rw [hst,put_get,if_pos hc.2] at hx
   simp only [Option.some.injEq] at hx;subst hx
   refine ⟨u,?_,hv⟩
   have:=hd n hc.2
   rw [hc.2]
   simp [Act.put,Array.getElem?_setIfInBounds_self]
   omega
  ·rename_i hc
   obtain ⟨y,h1,h2⟩:=h.frame n x hx
   refine ⟨y,?_,h2.mono le _ _⟩
   cases hdd:(c.oa k).dst with
   | none=>exact h1
   | some d =>
    have:d≠n:=fun q=>hc ⟨hk,by rw [hdd,q]⟩
    simp [Act.put,Array.getElem?_setIfInBounds_ne this,h1]
 ·cases (c.oa k).dst<;>simp [Act.put,h.size]
 ·cases (c.oa k).dst<;>simp [Act.put,h.defers]
theorem inv_still (h:c.DInv B H0 ι0 w0 D q ι a w) (hk:k < c.m) (hkD:D k=false) (hcl:∀ p,p < c.m→D p=true→c.req p k=true→D k=true)
  (hD':∀ p,p < c.m→D' p=(D p || decide (p=k))) {v:AV} {u:Value} (hst:(c.st (k+1)).1=put (c.st k).1 (c.oa k).dst v) (hd:∀ n,(c.oa k).dst=some n→n < nt) (hv:VRel ι v u) (hn:c.nAt k=false) (hw:c.wAt k=false) :
  c.DInv B H0 ι0 w0 D' q ι (a.put (c.oa k).dst u) w:=by
 obtain ⟨f1,f2,f3⟩:=c.frame_next h hk hkD hcl hD' hst hd hv (Pl.le_refl _)
 have e:c.hD D q c.m=c.hD D' q c.m:=c.hD_congr c.m fun p hp hnp=>by
  rw [hD' p hp]
  have:p≠k:=fun e=>by rw [e,hn] at hnp;cases hnp
  simp [this]
 refine ⟨h.q_le,fun p hp hk' => ?_,fun p hp1 hp2 hwp => ?_,h.top,h.head,h.fresh,f1,f2,f3,e ▸ h.rel,e ▸ h.keep,fun p hp hN hDp => ?_,h.room⟩
 ·have:=h.q_le
  rw [hD' p (by omega),h.before p hp hk'];rfl
 ·have:p≠k:=fun e=>by rw [e,hw] at hwp;cases hwp
  rw [hD' p hp2,h.behind p hp1 hp2 hwp];simp [this]
 ·rw [hD' p hp] at hDp
  simp only [Bool.or_eq_false_iff] at hDp
  exact h.free p hp hN hDp.1
theorem one (hC:CallOK P B C.globals call) (hk:k < c.m) (hkD:D k=false) (hreq:∀ p,p < c.m→c.req k p=true→D p=true) (hcl:∀ p,p < c.m→D p=true→c.req p k=true→D k=true)
  (hD':∀ p,p < c.m→D' p=(D p || decide (p=k))) (h:c.DInv B H0 ι0 w0 D q ι a w) {K:Act→World→Prop} {Q:Exit→Act→World→Prop}
  (hK:∀ a' w' κ q',c.DInv B H0 ι0 w0 D' q' κ a' w'→K a' w'):wpOp P ops Q (c.ix k) K a w:=by
 obtain ⟨o,ho,hoa⟩:=c.oper k hk
 have hnb:opC P C nt ops o≠badOp:=fun hb=>by
  have:=c.run k hk
  rw [hoa,hb] at this
  simp [stepD,badOp,wanted,opds,pop] at this
 obtain ⟨kd,xs,args,g,hkd,ha,hg,hd,he⟩:=opC_ok hnb
 rw [←hoa] at he
 have e1:(c.oa k).dst=o.dst:=by rw [he]
 have e2:(c.oa k).args=args:=by rw [he]
 have e3:(c.oa k).guard=g:=by rw [he]
 have e4:(c.oa k).k=kd:=by rw [he]
 have hd':∀ n,(c.oa k).dst=some n→n < nt:=fun n hn=>hd n (e1 ▸ hn)
 have hread:∀ t v,t∈readsA (c.oa k)→(c.st k).1.get t=some v→∃ u,a.tmps[t]?=some u∧VRel ι v u:=fun t v ht hv=>by
  have:=c.tD_reads hk hkD hreq hcl ht c.m (Nat.le_refl _)
  have e:min c.m k=k:=by omega
  rw [e] at this
  exact h.frame t v (by rw [this];exact hv)
 have hwr:∀ b,wanted (c.st k).1 (c.oa k).guard=some b→Region.wanted o (yielded ops a.tmps)=b:=fun b hb=>by
  rw [e3] at hb
  exact wanted_run (fun j want v hj hv=>hread j v (reads_guard (b:=want) (by rw [e3];exact hj)) hv) hg hb
 obtain ⟨v,hst,hcase⟩:=c.st_cases hk
 rw [←e1] at hd
 rcases hcase with ⟨hw,rfl,_⟩ | ⟨hw,vs,hvs,hcase⟩
 ·have hwt:c.wt k=false:=by simp [wt,hw]
  refine wpOp_not ho (hwr _ hw) (hK _ _ ι q ?_)
  rw [←e1]
  exact c.inv_still h hk hkD hcl hD' hst hd' undef_rel (by simp [nAt,hwt]) (by simp [wAt,hwt])
 ·have hwt:c.wt k=true:=by simp [wt,hw]
  refine wpOp_wanted ho (hwr _ hw) ?_
  rw [e2] at hvs
  have hv:VRels ι vs (xs.map a.eval):=opds_run h.rel.g (fun n v hn hx=>hread n v (reads_arg (by rw [e2];exact hn)) hx) ha hvs
  rcases hcase with ⟨f,hf,hp,_⟩ | ⟨f,hf,hp,_⟩ | ⟨f,b,res,hf,hp,rfl,hH,_⟩ | ⟨f,hf,hp,hS⟩
  ·rw [e4] at hf;subst hf
   have hnn:c.nAt k=false:=by simp [nAt,e4,isN]
   have hww:c.wAt k=false:=by simp [wAt,e4,isW]
   obtain ⟨u,h1,h2⟩:=pop_sound hkd hv hp
   exact OpV.of_ends (R:=fun u w'=>VRel ι v u∧w'=w) (.inl (h1 w)) ⟨h2,rfl⟩ K Q fun u w' ⟨h9,e⟩=>by
    subst e;rw [←e1];exact hK _ _ ι q (c.inv_still h hk hkD hcl hD' hst hd' h9 hnn hww)
  ·rw [e4] at hf;subst hf
   have hnn:c.nAt k=false:=by simp [nAt,e4,isN]
   have hww:c.wAt k=false:=by simp [wAt,e4,isW]
   have hqk:q≤k:=by
    rcases Nat.lt_or_ge k q with h1 | h1
    ·rw [h.before k h1 (.inr (.inl (by simp [e4,isR])))] at hkD;cases hkD
    ·exact h1
   obtain ⟨l,hl1,hl2⟩:=c.snaps_at hk h.behind hreq k hqk (Nat.le_refl _)
   have hlr:l.length≤c.rk k:=Nat.le_trans hl2 (c.rkR k hk (by simp [e4,isR]))
   have hmem:c.aug q k (c.st q).2.1∈(c.st k).2.2.take (c.rk k+1):=by
    rw [hl1]
    have hh:=h.head
    cases hs:(c.st q).2.2 with
    | nil=>rw [hs] at hh;cases hh
    | cons x r =>
     rw [hs] at hh
     simp only [List.head?_cons,Option.some.injEq] at hh
     subst hh
     refine List.mem_of_getElem? (i:=l.length) ?_
     rw [List.getElem?_take,if_pos (by omega),List.getElem?_append_right (Nat.le_refl _)]
     simp
   have hp0:=ropAt_all hp _ hmem
   rw [c.aug_hD] at hp0
   have hag:∀ b∈refsAs vs,∀ n,n≤c.m→(c.hD (fun _=>true) q n).get b=(c.hD D q n).get b:=fun b hb=>by
    have hdom:=refss_dom vs hv b hb
    intro n
    induction n with
    | zero=>intro _;rfl
    | succ n ih =>
     intro hn
     have ih:=ih (by omega)
     cases hc:(Nat.ble q n && c.nAt n) with
     | false =>
      have e1:(Nat.ble q n && true && c.nAt n)=false:=by rw [Bool.and_true];exact hc
      have e2:(Nat.ble q n && D n && c.nAt n)=false:=by cases h1:Nat.ble q n<;>cases h2:c.nAt n<;>simp_all
      simp only [Canon.hD,e1,e2,Bool.false_eq_true,if_false];exact ih
     | true =>
      simp only [Bool.and_eq_true] at hc
      obtain ⟨h1,h2⟩:=hc
      obtain ⟨bb,h3,h4,_⟩:=c.st_new (p:=n) (by omega) h2
      have hg:(c.st (n+1)).2.1.get (c.nm n)=some bb:=by rw [h3,Heap.get_set,if_pos rfl]
      cases hDn:D n with
      | true =>
       simp only [Canon.hD,h1,h2,hDn,Bool.and_self,if_true,hg]
       rw [Heap.get_set,Heap.get_set,ih]
      | false =>
       have hN:isN (c.oa n).k=true:=by simp only [nAt,Bool.and_eq_true] at h2;exact h2.2
       have hne:b≠c.nm n:=fun e=>hdom (by rw [e];exact h.free n (by omega) hN hDn)
       simp only [Canon.hD,h1,h2,hDn,Bool.and_self,Bool.and_false,Bool.false_and,Bool.false_eq_true,if_true,if_false,hg]
       rw [Heap.get_set,if_neg hne,ih]
   have hp':rop f vs (c.hD D q k)=some v:=by rw [←rop_agree (fun b hb=>hag b hb k (by omega))];exact hp0
   have hless:HRel B (c.hD D q k).get ι w:=h.rel.h.less fun id x hx=>c.sub_at h (n:=k) (by omega) hx
   obtain ⟨u,h1,h2⟩:=rop_sound hless hkd hv hp'
   exact OpV.of_ends (R:=fun u w'=>VRel ι v u∧w'=w) (.inl h1) ⟨h2,rfl⟩ K Q fun u w' ⟨h9,e⟩=>by
    subst e;rw [←e1];exact hK _ _ ι q (c.inv_still h hk hkD hcl hD' hst hd' h9 hnn hww)
  ·rw [e4] at hf;subst hf
   have hN:isN (c.oa k).k=true:=by simp [e4,isN]
   have hnn:c.nAt k=true:=by simp [nAt,hwt,hN]
   have hqk:q≤k:=by
    rcases Nat.lt_or_ge k q with h1 | h1
    ·rw [h.before k h1 (.inl hN)] at hkD;cases hkD
    ·exact h1
   have hid:=h.free k hk hN hkD
   have hroom:=h.room
   have hrk:=c.rkN_lt k hk hN
   obtain ⟨u,w1,κ,h1,h2,h3⟩:=nop_sound h.rel.b hid hkd hv hp
   have hb:(c.st (k+1)).2.1.get (c.nm k)=some b:=by rw [hH];show (Heap.set _ _ _).get _=_;rw [Heap.get_set];exact if_pos rfl
   obtain ⟨g1,g2,j,rfl⟩:=frame_N (HL':=c.hD D' q c.m) h.rel hid (by rw [c.hD_next];unfold nm;omega) h2
    (fun j=>by rw [c.hD_put hk hqk hkD hnn hb hD' j c.m (Nat.le_refl _)];simp [hk]) (by rw [c.hD_next,c.hD_next]) h.keep (by unfold nm;omega)
   exact OpV.of_ends (R:=fun u w'=>VRel (setP ι (c.nm k) j) (res.at (base+c.rk k)) u∧w'=w1) (.inl h1) ⟨h3,rfl⟩ K Q fun u w' ⟨h9,e⟩=>by
    subst e;rw [←e1]
    obtain ⟨f1,f2,f3⟩:=c.frame_next h hk hkD hcl hD' hst hd' h9 (setP_le hid)
    refine hK _ _ _ q ⟨h.q_le,fun p hp hk' => ?_,fun p hp1 hp2 hwp => ?_,h.top,h.head,h.fresh,f1,f2,f3,g1,g2,fun p hp hNp hDp => ?_,h.room⟩
    ·have:=h.q_le
     rw [hD' p (by omega),h.before p hp hk'];rfl
    ·have:p≠k:=fun e=>by rw [e,c.nw hnn] at hwp;cases hwp
     rw [hD' p hp2,h.behind p hp1 hp2 hwp];simp [this]
    ·rw [hD' p hp] at hDp
     simp only [Bool.or_eq_false_iff,decide_eq_false_iff_not] at hDp
     rw [setP_other _ _ _ fun e=>c.nm_ne hk hp hnn hNp (fun e=>hDp.2 e.symm) e.symm]
     exact h.free p hp hNp hDp.1
  ·rw [e4] at hf;subst hf
   have hW:isW (c.oa k).k=true:=by simp [e4,isW]
   have hww:c.wAt k=true:=by simp [wAt,hwt,hW]
   have hqk:q≤k:=by
    rcases Nat.lt_or_ge k q with h1 | h1
    ·rw [h.before k h1 (.inr (.inr hW))] at hkD;cases hkD
    ·exact h1
   have hpre:∀ p,p < k→(isN (c.oa p).k=true∨isR (c.oa p).k=true∨isW (c.oa p).k=true)→D p=true:=fun p hp hkk=>by
    rcases c.pair p k hp hk with r | r
    ·exact hreq p (by omega) r
    ·exfalso
     rcases hkk with r2 | r2 | r2
     ·rw [r.2.2.2.2.1 r2] at hW;cases hW
     ·rw [r.2.2.2.2.2 r2] at hW;cases hW
     ·rw [r.2.2.2.1 r2] at hW;cases hW
   have hHk:c.hD D q k=(c.st k).2.1:=c.hD_eq hqk (by omega) (fun p h1 h2=>by
     cases hwp:c.wAt p with
     | false=>rfl
     | true =>
      have hb:=h.behind p h1 (by omega) hwp
      simp only [wAt,Bool.and_eq_true] at hwp
      rw [hpre p h2 (.inr (.inr hwp.2))] at hb;cases hb) (fun p h1 h2 h3=>by
     simp only [nAt,Bool.and_eq_true] at h3
     exact hpre p h2 (.inl h3.2))
   have hnext:(c.hD D q c.m).next=(c.st k).2.1.next:=by rw [c.hD_next,←hHk,c.hD_next]
   have hsub:∀ id x,(c.st k).2.1.get id=some x→(c.hD D q c.m).get id=some x:=fun id x hx=>c.sub_at h (n:=k) (by omega) (by rw [hHk];exact hx)
   have hRk:Rel B C.globals (c.st k).2.1 ι w:=⟨h.rel.h.less hsub,h.rel.b,h.rel.g,fun j hj=>h.rel.f j (by rw [hnext];exact hj)⟩
   have key:OpV P o a w (After B C.globals (c.st k).2.1 ι w v (c.st (k+1)).2.1):=by
    by_cases hq:isCallW f=true
    ·exact callW_run hC hRk hq hkd hv hp
    ·obtain ⟨u,w1,κ,h1,h2,h3,h4⟩:=wop_sound hRk (by simpa using hq) hkd hv hp
     exact OpV.of_ends h1 ⟨κ,h2,h3,h4⟩
   have hroom:=h.room
   have hfr:∀ p,k < p→p < c.m→isN (c.oa p).k=true→(c.st k).2.1.get (c.nm p)=none:=fun p h1 h2 h3=>by
    rw [←hHk];exact c.fresh_at h (by omega) (by omega) h2 h3
   have hlow:∀ p,p < c.m→isN (c.oa p).k=true→c.nm p < (c.st k).2.1.next:=fun p h1 h2=>by
    have:=c.rkN_lt p h1 h2
    rw [←hnext,c.hD_next];unfold nm;omega
   exact key K Q fun u w' ⟨κ,h9,h3,h4⟩=>by
    rw [←e1]
    obtain ⟨f1,f2,f3⟩:=c.frame_next h hk hkD hcl hD' hst hd' h9 h4.le
    obtain ⟨g1,g2⟩:=frame_W (HL':=c.hD D' (k+1) c.m) h.rel hsub hnext h3 h4 (fun id x hx=>by
     rcases c.hD_get (D:=D') (q:=k+1) (k:=k+1) (id:=id) (n:=c.m) (by omega) (Nat.le_refl _) with r | ⟨p,b,r1,r2,r3,r4,r5,r6,r7,r8,r9⟩
     ·rw [r,c.hD_low (Nat.le_refl _)] at hx;exact .inl hx
     ·right
      rw [r9] at hx
      obtain rfl:=Option.some.inj hx
      have hDp:D p=true:=by
       rw [hD' p r2] at r4
       have:p≠k:=by omega
       simpa [this] using r4
      have hNp:isN (c.oa p).k=true:=by simp only [nAt,Bool.and_eq_true] at r5;exact r5.2
      rw [r6]
      exact ⟨c.hD_at (by omega) hDp r5 r7 c.m r2 (Nat.le_refl _),hfr p (by omega) r2 hNp,r8⟩) (by rw [c.hD_next])
    refine hK _ _ κ (k+1) ⟨by omega,fun p hp hkk => ?_,fun p hp1 hp2 hwp => ?_,.inl (by simpa using hww),by rw [hS];rfl,fun p h1 h2 h3=>h4.dom _ (hlow p h2 h3) (hfr p (by omega) h2 h3),f1,f2,f3,g1,
     h.keep.trans g2 (by rw [c.hD_next];omega),fun p hp hNp hDp => ?_,?_⟩
    ·by_cases e:p=k
     ·subst e;rw [hD' p hk];simp
     ·rw [hD' p (by omega),hpre p (by omega) hkk];rfl
    ·have:p≠k:=by omega
     rw [hD' p hp2,h.behind p (by omega) hp2 hwp];simp [this]
    ·rw [hD' p hp] at hDp
     simp only [Bool.or_eq_false_iff,decide_eq_false_iff_not] at hDp
     rw [h4.low _ (hlow p hp hNp)]
     exact h.free p hp hNp hDp.1
    ·have:=h4.next
     rw [c.hD_next] at hnext
     omega
end
end Canon
end
end Go.FR
