/- What a text of the small code comes to, as a transformer of what is to hold behind it. -/
import Derived.Test.YtlgkadhogiedoaaDoorVlF
set_option linter.unusedSimpArgs false
set_option linter.unusedVariables false
namespace Go.VL
open Go.FR
noncomputable section
def wantV (T:VF):Option (Nat × Bool)→Option Bool
 | none=>some true
 | some (j,want)=>match qzf T j with
  | some (.bool b)=>some (b == want)
  | some (.int _ _)=>some false
  | some (.tuple _)=>some false
  | _=>none
def nilCmp:ROp→List VV→Bool
 | .eq _ .nilS,[.fsl _ 0 _,.nilS]=>true
 | .eq _ .nilS,[.nilS,.fsl _ 0 _]=>true
 | _,_=>false
def wpR (Gl:qzh) (q:ROp) (vs:List VV) (h:VH) (K:VV→Prop):Prop :=
 match ropV Gl h q vs with
 | some v=>K v
 | none=>nilCmp q vs=true∧∀ b:Bool,K (.bool b)
def wpW (E:Env) (Gl:qzh) (q:WOp) (vs:List VV) (h:VH) (K:VV→VH→Option (List Nat × Bool)→Prop):Prop :=
 match q with
 | .store sz=>match storeOpV sz h vs with
  | some (v,h')=>K v h' (some (idsO vs.head?,true))
  | none=>False
 | .append esz eb=>match appendV esz eb h vs with
  | some (v,h')=>K v h' (some (idsO vs.head?,true))
  | none=>False
 | .copy esz=>match copyV esz h vs with
  | some (v,h')=>K v h' (some (idsO vs.head?,true))
  | none=>False
 | .mapUpd ks=>match mapUpdV ks h vs with
  | some (v,h')=>K v h' (some (idsO vs.head?,true))
  | none=>False
 | .mark=>match markV h vs with
  | some (v,h')=>K v h' (some (idsO vs.head?,true))
  | none=>False
 | .callF f=>wpCall E Gl f vs h K
 | .callV=>match vs with
  | .func f a b::args=>wpCall E Gl f (a++args++b) h K
  | _=>False
def wpOp (E:Env) (Gl:qzh) (o:AOp) (T:VF) (h:VH) (K:VF→VH→Prop):Prop :=
 match wantV T o.guard with
 | none=>False
 | some false=>K (putV T o.dst undefV) h
 | some true=>match opdsV T o.args with
  | none=>False
  | some vs=>match o.k with
   | .p q=>match popV q vs with
    | some v=>K (putV T o.dst v) h
    | none=>False
   | .r q=>wpR Gl q vs h fun v=>K (putV T o.dst v) h
   | .n q=>match nopV q vs with
    | some (x,r)=>K (putV T o.dst (r.at h.next)) (h.push x)
    | none=>False
   | .w q=>wpW E Gl q vs h fun v h' _=>K (putV T o.dst v) h'
def wpOps (E:Env) (Gl:qzh):List AOp→VF→VH→(VF→VH→Prop)→Prop
 | [],T,h,K=>K T h
 | o::l,T,h,K=>wpOp E Gl o T h fun T' h'=>wpOps E Gl l T' h' K
mutual
def refsOK (Gl:qzh):VV→Bool
 | .gptr i _=>inGl Gl i
 | .func _ a b=>refsOKL Gl a && refsOKL Gl b
 | .iface _ v=>refsOK Gl v
 | .agg cs=>refsOKL Gl cs
 | .tuple cs=>refsOKL Gl cs
 | _=>true
def refsOKL (Gl:qzh):List VV→Bool
 | []=>true
 | v::l=>refsOK Gl v && refsOKL Gl l
end
def apartB:List Nat→List Nat→Bool
 | [],_=>true
 | i::l,m=>(!m.contains i) && apartB l m
mutual
def fzB:VV→Bool
 | .fptr _ _=>true
 | .fsl _ _ _=>true
 | .fmap _ _=>true
 | .func _ a b=>fzL a || fzL b
 | .iface _ v=>fzB v
 | .agg cs=>fzL cs
 | .tuple vs=>fzL vs
 | _=>false
def fzL:List VV→Bool
 | []=>false
 | v::l=>fzB v || fzL l
end
def lowB (m:Nat):List Nat→Bool
 | []=>true
 | i::l=>decide (i < m) && lowB m l
def mayRead (fresh:List Nat):List (Option ((List Nat × Bool) × VH))→Nat→List Nat→Bool→Bool
 | log,0,ids,fz=>apartB ids fresh
 | [],_+1,ids,fz=>apartB ids fresh
 | none::_,_+1,_,_=>false
 | some (l,m)::log,r+1,ids,fz=>lowB m.next ids && (l.2 || !fz) && mayRead (l.1++fresh) log r ids fz
def liveB (h:VH):List Nat→Bool
 | []=>true
 | i::l=>(h.get i).isSome && liveB h l
def oldC (i o:Nat) (v:VV):List (Option ((List Nat × Bool) × VH))→Nat→Prop
 | _,0=>True
 | [],_+1=>True
 | none::_,_+1=>False
 | some (_,m)::log,r+1=>(match m.get i with
  | some (.cells cs _)=>cs[o]?=some v
  | _=>False)∧oldC i o v log r
def okOld (Gl:qzh) (h:VH) (log:List (Option ((List Nat × Bool) × VH))) (r:Nat):ROp→List VV→Prop
 | .load none,[.ptr i o]=>match ropV Gl h (.load none) [.ptr i o] with
  | some v=>fzB v=false∧oldC i o v log r
  | none=>False
 | _,_=>False
def rdOK (Gl:qzh) (h:VH) (fresh:List Nat) (log:List (Option ((List Nat × Bool) × VH))) (r:Nat) (q:ROp) (vs:List VV):Prop :=
 (mayRead fresh log r (idsL vs) (fzL vs)=true∧liveB h (idsL vs)=true∧refsOKL Gl vs=true)∨okOld Gl h log r q vs
theorem rdOK_may {Gl:qzh} {h:VH} {fresh:List Nat} {log:List (Option ((List Nat × Bool) × VH))} {r:Nat} {q:ROp} {vs:List VV} (h1:mayRead fresh log r (idsL vs) (fzL vs)=true) (h2:liveB h (idsL vs)=true) (h3:refsOKL Gl vs=true):rdOK Gl h fresh log r q vs=True:=eq_true (.inl ⟨h1,h2,h3⟩)
def oldB (Gl:qzh) (h:VH) (i o:Nat) (log:List (Option ((List Nat × Bool) × VH))) (r:Nat):Prop:=match loadV Gl h none [.ptr i o] with
 | some v=>fzB v=false∧oldC i o v log r
 | none=>False
theorem rdOK_old {Gl:qzh} {h:VH} {fresh:List Nat} {log:List (Option ((List Nat × Bool) × VH))} {r i o:Nat}:rdOK Gl h fresh log r (.load none) [.ptr i o]=((mayRead fresh log r (idsL [.ptr i o]) (fzL [.ptr i o])=true∧liveB h (idsL [.ptr i o])=true∧refsOKL Gl [.ptr i o]=true)∨oldB Gl h i o log r):=(Eq.refl _).trans rfl
def wpD (E:Env) (Gl:qzh) (cnt:Nat):List (AOp × Nat)→VF→VH→List Nat→List Nat→List (Option ((List Nat × Bool) × VH))→(VF→VH→Prop)→Prop
 | [],T,h,_,_,_,K=>K T h
 | (o,r)::l,T,h,used,fresh,log,K=>match wantV T o.guard with
  | none=>False
  | some false=>wpD E Gl cnt l (putV T o.dst undefV) h used fresh log K
  | some true=>match opdsV T o.args with
   | none=>False
   | some vs=>match o.k with
    | .p q=>match popV q vs with
     | some v=>wpD E Gl cnt l (putV T o.dst v) h used fresh log K
     | none=>False
    | .r q=>rdOK Gl h fresh log r q vs∧wpR Gl q vs h fun v=>wpD E Gl cnt l (putV T o.dst v) h used fresh log K
    | .n q=>r < cnt∧used.contains r=false∧match nopV q vs with
     | some (x,res)=>wpD E Gl cnt l (putV T o.dst (res.at h.next)) (h.push x) (r::used) fresh log K
     | none=>False
    | .w q=>wpW E Gl q vs h fun v h' e=>wpD E Gl cnt l (putV T o.dst v) h' used [] (e.map (fun l=>((l.1++fresh,l.2),h))::log) K
def wp (E:Env) (Gl:qzh):AC→VF→VH→(AEx→VF→VH→Prop)→Prop
 | .skip,T,h,K=>K .normal T h
 | .ops l,T,h,K=>wpOps E Gl l T h fun T' h'=>K .normal T' h'
 | .draw l,T,h,K=>wpD E Gl (countN l) l T h [] [] [] fun T' h'=>K .normal T' h'
 | .seq a b,T,h,K=>wp E Gl a T h fun x T' h'=>match x with
  | .normal=>wp E Gl b T' h' K
  | .exit i=>K (.exit i) T' h'
  | .ret=>K .ret T' h'
 | .cond c a b,T,h,K=>∃ t,opdV T c=some (.bool t)∧(t=true→wp E Gl a T h K)∧(t=false→wp E Gl b T h K)
 | .block id a,T,h,K=>wp E Gl a T h fun x T' h'=>match x with
  | .normal=>K .normal T' h'
  | .exit i=>if i=id then K .normal T' h' else K (.exit i) T' h'
  | .ret=>K .ret T' h'
 | .loop a,T,h,K=>∀ P:VF→VH→Prop,(∀ T h,wp E Gl a T h (fun x T' h'=>match x with
  | .normal=>P T' h'
  | .exit i=>K (.exit i) T' h'
  | .ret=>K .ret T' h')→P T h)→P T h
 | .exit id,T,h,K=>K (.exit id) T h
 | .ret,T,h,K=>K .ret T h
theorem wpCall_mono {E:Env} {Gl:qzh} {f:Nat} {vs:List VV} {h:VH} {K K':VV→VH→Option (List Nat × Bool)→Prop} (hk:∀ v h e,K v h e→K' v h e) (hw:wpCall E Gl f vs h K):wpCall E Gl f vs h K':=by
 rcases hw with ⟨a0,args,v,h1,h2,h3,h4⟩ | ⟨a0,args,cs,o,n,e,c,h1,h2,h3,h4⟩ | ⟨L,v,L',k1,k4,k6,k7⟩ | ⟨L,cs,o,n,e,c,L',k1,k6,k7⟩ | ⟨L,v,L',k1,k6,k7⟩ | ⟨n,a0,args,v,h1,h2,h3,h4⟩ | hc | ⟨i,x,l,e1,e2,e3,hc⟩ | ⟨L,v,L',k1,k2,k3,k6,k7⟩
 ·exact .inl ⟨a0,args,v,h1,h2,h3,hk _ _ _ h4⟩
 ·exact .inr (.inl ⟨a0,args,cs,o,n,e,c,h1,h2,h3,hk _ _ _ h4⟩)
 ·exact .inr (.inr (.inl ⟨L,v,L',k1,k4,k6,hk _ _ _ k7⟩))
 ·exact .inr (.inr (.inr (.inl ⟨L,cs,o,n,e,c,L',k1,k6,hk _ _ _ k7⟩)))
 ·exact .inr (.inr (.inr (.inr (.inl ⟨L,v,L',k1,k6,hk _ _ _ k7⟩))))
 ·exact .inr (.inr (.inr (.inr (.inr (.inl ⟨n,a0,args,v,h1,h2,h3,h4.imp (fun q=>⟨q.1,hk _ _ _ q.2⟩) (hk _ _ _)⟩)))))
 ·refine .inr (.inr (.inr (.inr (.inr (.inr (.inl fun G μ H as s k => ?_))))))
  obtain ⟨N,a,H',G',μ',v,h',c1,c2,c3,c4,c5⟩:=hc s k
  exact ⟨N,a,H',G',μ',v,h',c1,c2,c3,c4,hk _ _ _ c5⟩
 ·refine .inr (.inr (.inr (.inr (.inr (.inr (.inr (.inl ⟨i,x,l,e1,e2,e3,fun G μ H as s k => ?_⟩)))))))
  obtain ⟨N,a,H',G',μ',v,h',c1,c2,c3,c4,c5⟩:=hc s k
  exact ⟨N,a,H',G',μ',v,h',c1,c2,c3,c4,hk _ _ _ c5⟩
 ·exact .inr (.inr (.inr (.inr (.inr (.inr (.inr (.inr ⟨L,v,L',k1,k2,k3,k6,hk _ _ _ k7⟩)))))))
theorem wpR_mono {Gl:qzh} {q:ROp} {vs:List VV} {h:VH} {K K':VV→Prop} (hk:∀ v,K v→K' v) (hw:wpR Gl q vs h K):wpR Gl q vs h K':=by
 unfold wpR at hw ⊢
 split at hw
 ·exact hk _ hw
 ·exact ⟨hw.1,fun b=>hk _ (hw.2 b)⟩
theorem wpW_mono {E:Env} {Gl:qzh} {q:WOp} {vs:List VV} {h:VH} {K K':VV→VH→Option (List Nat × Bool)→Prop} (hk:∀ v h e,K v h e→K' v h e) (hw:wpW E Gl q vs h K):wpW E Gl q vs h K':=by
 cases q<;>simp only [wpW] at hw ⊢
 case callF=>exact wpCall_mono hk hw
 case callV =>
  split at hw
  ·exact wpCall_mono hk hw
  ·exact hw
 all_goals
  split at hw
  ·exact hk _ _ _ hw
  ·exact hw
theorem wpOp_mono {E:Env} {Gl:qzh} {o:AOp} {T:VF} {h:VH} {K K':VF→VH→Prop} (hk:∀ T h,K T h→K' T h) (hw:wpOp E Gl o T h K):wpOp E Gl o T h K':=by
 unfold wpOp at hw ⊢
 split at hw
 ·exact hw
 ·exact hk _ _ hw
 ·split at hw
  ·exact hw
  ·split at hw
   ·split at hw
    ·exact hk _ _ hw
    ·exact hw
   ·exact wpR_mono (fun v=>hk _ _) hw
   ·split at hw
    ·exact hk _ _ hw
    ·exact hw
   ·exact wpW_mono (fun v h e=>hk _ _) hw
theorem wpOps_mono {E:Env} {Gl:qzh}:∀ {l:List AOp} {T:VF} {h:VH} {K K':VF→VH→Prop},(∀ T h,K T h→K' T h)→wpOps E Gl l T h K→wpOps E Gl l T h K'
 | [],T,h,K,K',hk,hw=>hk _ _ hw
 | o::l,T,h,K,K',hk,hw=>wpOp_mono (fun T h q=>wpOps_mono hk q) hw
theorem wpD_mono {E:Env} {Gl:qzh} {cnt:Nat}:∀ {l:List (AOp × Nat)} {T:VF} {h:VH} {u fr:List Nat} {lg:List (Option ((List Nat × Bool) × VH))} {K K':VF→VH→Prop},(∀ T h,K T h→K' T h)→wpD E Gl cnt l T h u fr lg K→wpD E Gl cnt l T h u fr lg K'
 | [],T,h,u,fr,lg,K,K',hk,hw=>hk _ _ hw
 | (o,r)::l,T,h,u,fr,lg,K,K',hk,hw=>by
  unfold wpD at hw ⊢
  split at hw
  ·exact hw
  ·exact wpD_mono hk hw
  ·split at hw
   ·exact hw
   ·split at hw
    ·split at hw
     ·exact wpD_mono hk hw
     ·exact hw
    ·exact ⟨hw.1,wpR_mono (fun v q=>wpD_mono hk q) hw.2⟩
    ·refine ⟨hw.1,hw.2.1,?_⟩
     have hw:=hw.2.2
     split at hw
     ·exact wpD_mono hk hw
     ·exact hw
    ·exact wpW_mono (fun v h e q=>wpD_mono hk q) hw
theorem wp_mono {E:Env} {Gl:qzh}:∀ {c:AC} {T:VF} {h:VH} {K K':AEx→VF→VH→Prop},(∀ x T h,K x T h→K' x T h)→wp E Gl c T h K→wp E Gl c T h K'
 | .skip,T,h,K,K',hk,hw=>hk _ _ _ hw
 | .ops l,T,h,K,K',hk,hw=>wpOps_mono (fun T h=>hk _ _ _) hw
 | .draw l,T,h,K,K',hk,hw=>wpD_mono (fun T h=>hk _ _ _) hw
 | .seq a b,T,h,K,K',hk,hw=>by
  simp only [wp] at hw ⊢
  refine wp_mono (fun x T h q => ?_) hw
  cases x
  ·exact wp_mono hk q
  ·exact hk _ _ _ q
  ·exact hk _ _ _ q
 | .cond c a b,T,h,K,K',hk,⟨t,h1,h2,h3⟩=>⟨t,h1,fun e=>wp_mono hk (h2 e),fun e=>wp_mono hk (h3 e)⟩
 | .block id a,T,h,K,K',hk,hw=>by
  simp only [wp] at hw ⊢
  refine wp_mono (fun x T h q => ?_) hw
  cases x
  ·exact hk _ _ _ q
  ·simp only at q ⊢
   split
   ·rename_i e;rw [if_pos e] at q;exact hk _ _ _ q
   ·rename_i e;rw [if_neg e] at q;exact hk _ _ _ q
  ·exact hk _ _ _ q
 | .loop a,T,h,K,K',hk,hw=>by
  simp only [wp] at hw ⊢
  intro P hP
  refine hw P fun T h q=>hP T h (wp_mono (fun x T h r => ?_) q)
  cases x
  ·exact r
  ·exact hk _ _ _ r
  ·exact hk _ _ _ r
 | .exit id,T,h,K,K',hk,hw=>hk _ _ _ hw
 | .ret,T,h,K,K',hk,hw=>hk _ _ _ hw
theorem wp_loop {E:Env} {Gl:qzh} {a:AC} {T:VF} {h:VH} {K:AEx→VF→VH→Prop} (hw:wp E Gl a T h (fun x T' h'=>match x with
  | .normal=>wp E Gl (.loop a) T' h' K
  | .exit i=>K (.exit i) T' h'
  | .ret=>K .ret T' h')):wp E Gl (.loop a) T h K:=by
 simp only [wp]
 intro P hP
 refine hP T h (wp_mono (fun x T h r => ?_) hw)
 cases x
 ·simp only [wp] at r;exact r P hP
 ·exact r
 ·exact r
def FrR (G:Gz) (μ:Pm) (T:VF) (TF:Fr):Prop:=∀ k v,qzf T k=some v→∃ a,TF.get k=some a∧VR G μ v a
theorem FrR.mono {G K:Gz} {μ ν:Pm} {T:VF} {TF:Fr} (h:FrR G μ T TF) (hg:G.le K) (hm:μ.le ν):FrR K ν T TF:=fun k v q=>by
 obtain ⟨a,h1,h2⟩:=h k v q
 exact ⟨a,h1,VR.mono hg hm _ _ h2⟩
theorem FrR.put {G:Gz} {μ:Pm} {T:VF} {TF:Fr} (h:FrR G μ T TF) (d:Option Nat) {v:VV} {a:AV} (hv:VR G μ v a):FrR G μ (putV T d v) (FR.put TF d a):=by
 cases d with
 | none=>exact h
 | some n =>
  intro k w q
  simp only [putV,qzf] at q
  simp only [FR.put,Tr.get_set]
  by_cases e:n=k
  ·rw [if_pos e] at q
   obtain rfl:=Option.some.inj q
   exact ⟨a,by rw [if_pos e.symm],hv⟩
  ·rw [if_neg e] at q
   rw [if_neg (fun r=>e r.symm)]
   exact h k w q
theorem opd_rel {G:Gz} {μ:Pm} {T:VF} {TF:Fr} (h:FrR G μ T TF) {o:Opd} {v:VV} (hv:opdV T o=some v):∃ a,opd TF o=some a∧VR G μ v a:=by
 cases o with
 | t n=>exact h n v hv
 | c a=>exact ⟨a,rfl,cv_rel a v hv⟩
theorem opds_rel {G:Gz} {μ:Pm} {T:VF} {TF:Fr} (h:FrR G μ T TF):∀ {os:List Opd} {vs:List VV},opdsV T os=some vs→∃ as,opds TF os=some as∧VRs G μ vs as
 | [],vs,hv=>by simp only [opdsV,Option.some.injEq] at hv;subst hv;exact ⟨[],rfl,rfl⟩
 | o::os,vs,hv=>by
  simp only [opdsV] at hv
  split at hv<;>try (cases hv;done)
  rename_i v hv1
  split at hv<;>try (cases hv;done)
  rename_i ws hw
  obtain rfl:=Option.some.inj hv
  obtain ⟨a,h1,h2⟩:=opd_rel h hv1
  obtain ⟨as,h3,h4⟩:=opds_rel h hw
  exact ⟨a::as,by simp only [opds,h1,h3],VRs.cons h2 h4⟩
theorem want_rel {G:Gz} {μ:Pm} {T:VF} {TF:Fr} (h:FrR G μ T TF) {g:Option (Nat × Bool)} {b:Bool} (hv:wantV T g=some b):wanted TF g=some b:=by
 cases g with
 | none=>exact hv
 | some p =>
  obtain ⟨j,w⟩:=p
  simp only [wantV] at hv
  split at hv<;>try (cases hv;done)
  ·rename_i c hc
   obtain ⟨a,h1,h2⟩:=h j _ hc
   simp only [VR] at h2;subst h2
   simp only [wanted,h1];exact hv
  ·rename_i c d hc
   obtain ⟨a,h1,h2⟩:=h j _ hc
   simp only [VR] at h2;subst h2
   simp only [wanted,h1];exact hv
  ·rename_i c hc
   obtain ⟨a,h1,l,rfl,_⟩:=h j _ hc
   simp only [wanted,h1];exact hv
theorem undef_rel {G:Gz} {μ:Pm}:VR G μ undefV undefA:=⟨[],rfl,rfl⟩
theorem nilCmp_rel {G:Gz} {μ:Pm} {q:ROp} {vs:List VV} {as:List AV} (hv:nilCmp q vs=true) (k:VRs G μ vs as) (H:Heap):∃ b:Bool,rop q as H=some (.bool b):=by
 unfold nilCmp at hv
 split at hv<;>try (cases hv;done)
 ·obtain ⟨x,y,rfl,k1,k2⟩:=VRs.two k
  simp only [VR] at k2;subst k2
  obtain ⟨_,⟨_,rfl⟩ | ⟨b,o,c,full,rw,st,as,h1,rfl,h3⟩⟩:=k1
  ·exact ⟨_,by simp only [rop,aeq,eqSl];rfl⟩
  ·exact ⟨_,by simp only [rop,aeq,eqSl];rfl⟩
 ·obtain ⟨x,y,rfl,k1,k2⟩:=VRs.two k
  simp only [VR] at k1;subst k1
  obtain ⟨_,⟨_,rfl⟩ | ⟨b,o,c,full,rw,st,as,h1,rfl,h3⟩⟩:=k2
  ·exact ⟨_,by simp only [rop,aeq,eqSl];rfl⟩
  ·exact ⟨_,by simp only [rop,aeq,eqSl];rfl⟩
theorem wpR_sound {Gl:qzh} {G:Gz} {μ:Pm} {h:VH} {H:Heap} {q:ROp} {vs:List VV} {as:List AV} {K:VV→Prop} (hw:wpR Gl q vs h K) (s:SR Gl G μ h H) (k:VRs G μ vs as):∃ v a,rop q as H=some a∧VR G μ v a∧K v:=by
 unfold wpR at hw
 split at hw
 ·rename_i v hv
  obtain ⟨a,h1,h2⟩:=rop_rel s hv k
  exact ⟨v,a,h1,h2,hw⟩
 ·obtain ⟨b,hb⟩:=nilCmp_rel hw.1 k H
  exact ⟨.bool b,_,hb,rfl,hw.2 b⟩
theorem wpW_sound {E:Env} {Gl:qzh} {G:Gz} {μ:Pm} {h:VH} {H:Heap} {q:WOp} {vs:List VV} {as:List AV} {K:VV→VH→Option (List Nat × Bool)→Prop} (hw:wpW E Gl q vs h K) (s:SR Gl G μ h H) (k:VRs G μ vs as) :
  ∃ N a H' G' μ' v h' e,(∀ M,N≤M→wop (callN E M) q as H=some (a,H'))∧SR Gl G' μ' h' H'∧Pr H.next G μ h H G' μ' h' H'∧VR G' μ' v a∧K v h' e∧Leaves G μ h H G' μ' h' H' e:=by
 have callL:∀ {f:Nat} {us:List VV} {bs:List AV},wpCall E Gl f us h K→VRs G μ us bs→∃ N a H' G' μ' v h' e,(∀ M,N≤M→callN E M f bs H=some (a,H'))∧SR Gl G' μ' h' H'∧Pr H.next G μ h H G' μ' h' H'∧VR G' μ' v a∧K v h' e∧Leaves G μ h H G' μ' h' H' e :=
  fun hw k=>wpCall_sound hw s k
 cases q<;>simp only [wpW] at hw
 case store sz =>
  split at hw<;>try (cases hw;done)
  rename_i v h' hv
  obtain ⟨a,H',μ',q1,q2,q3,q4,q5⟩:=store_rel s hv k (callN E 0)
  exact ⟨0,a,H',G,μ',v,h',_,fun M _=>(by
   have:wop (callN E M) (.store sz) as H=wop (callN E 0) (.store sz) as H:=by unfold wop;split<;>first | rfl | contradiction
   rw [this];exact q1),q2,q3,q4,hw,q5⟩
 case append esz eb =>
  split at hw<;>try (cases hw;done)
  rename_i v h' hv
  obtain ⟨a,H',μ',q1,q2,q3,q4,q5⟩:=append_rel s hv k (callN E 0)
  exact ⟨0,a,H',G,μ',v,h',_,fun M _=>(by
   have:wop (callN E M) (.append esz eb) as H=wop (callN E 0) (.append esz eb) as H:=by unfold wop;split<;>first | rfl | contradiction
   rw [this];exact q1),q2,q3,q4,hw,q5⟩
 case copy esz =>
  split at hw<;>try (cases hw;done)
  rename_i v h' hv
  obtain ⟨a,H',μ',q1,q2,q3,q4,q5⟩:=copy_rel s hv k (callN E 0)
  exact ⟨0,a,H',G,μ',v,h',_,fun M _=>(by
   have:wop (callN E M) (.copy esz) as H=wop (callN E 0) (.copy esz) as H:=by unfold wop;split<;>first | rfl | contradiction
   rw [this];exact q1),q2,q3,q4,hw,q5⟩
 case mapUpd ks =>
  split at hw<;>try (cases hw;done)
  rename_i v h' hv
  obtain ⟨a,H',μ',q1,q2,q3,q4,q5⟩:=mapUpd_rel s hv k (callN E 0)
  exact ⟨0,a,H',G,μ',v,h',_,fun M _=>(by
   have:wop (callN E M) (.mapUpd ks) as H=wop (callN E 0) (.mapUpd ks) as H:=by unfold wop;split<;>first | rfl | contradiction
   rw [this];exact q1),q2,q3,q4,hw,q5⟩
 case mark =>
  split at hw<;>try (cases hw;done)
  rename_i v h' hv
  obtain ⟨a,H',μ',q1,q2,q3,q4,q5⟩:=mark_rel s hv k (callN E 0)
  exact ⟨0,a,H',G,μ',v,h',_,fun M _=>(by
   have:wop (callN E M) .mark as H=wop (callN E 0) .mark as H:=by unfold wop;split<;>first | rfl | contradiction
   rw [this];exact q1),q2,q3,q4,hw,q5⟩
 case callF f =>
  obtain ⟨N,a,H',G',μ',v,h',e,c1,c⟩:=callL hw k
  exact ⟨N,a,H',G',μ',v,h',e,fun M hM=>by simp only [wop];exact c1 M hM,c⟩
 case callV =>
  split at hw<;>try (cases hw;done)
  rename_i f x y args
  obtain ⟨z,zs,rfl,⟨p,q,rfl,k1,k2⟩,k3⟩:=k
  obtain ⟨N,a,H',G',μ',v,h',e,c1,c⟩:=callL hw (VRs.append (VRs.append k1 k3) k2)
  exact ⟨N,a,H',G',μ',v,h',e,fun M hM=>by simp only [wop];exact c1 M hM,c⟩
theorem step_p {call:CallT} {o:AOp} {TF:Fr} {H:Heap} {as:List AV} {q:POp} {a:AV} (hg:wanted TF o.guard=some true) (ha:opds TF o.args=some as) (hk:o.k = .p q) (hv:FR.pop q as=some a):FR.step call o TF H=some (FR.put TF o.dst a,H):=by
 simp only [FR.step,hg,ha,hk,hv]
theorem step_r {call:CallT} {o:AOp} {TF:Fr} {H:Heap} {as:List AV} {q:ROp} {a:AV} (hg:wanted TF o.guard=some true) (ha:opds TF o.args=some as) (hk:o.k = .r q) (hv:rop q as H=some a):FR.step call o TF H=some (FR.put TF o.dst a,H):=by
 simp only [FR.step,hg,ha,hk,hv]
theorem step_n {call:CallT} {o:AOp} {TF:Fr} {H:Heap} {as:List AV} {q:NOp} {y:ABlk} {r:NRes} (hg:wanted TF o.guard=some true) (ha:opds TF o.args=some as) (hk:o.k = .n q) (hv:nop q as=some (y,r)):FR.step call o TF H=some (FR.put TF o.dst (r.at H.next),H.push y):=by
 simp only [FR.step,hg,ha,hk,hv]
theorem step_w {call:CallT} {o:AOp} {TF:Fr} {H H':Heap} {as:List AV} {q:WOp} {a:AV} (hg:wanted TF o.guard=some true) (ha:opds TF o.args=some as) (hk:o.k = .w q) (hv:wop call q as H=some (a,H')):FR.step call o TF H=some (FR.put TF o.dst a,H'):=by
 simp only [FR.step,hg,ha,hk,hv]
theorem step_no {call:CallT} {o:AOp} {TF:Fr} {H:Heap} (hg:wanted TF o.guard=some false):FR.step call o TF H=some (FR.put TF o.dst undefA,H):=by
 simp only [FR.step,hg]
theorem wpOp_sound {E:Env} {Gl:qzh} {G:Gz} {μ:Pm} {h:VH} {H:Heap} {o:AOp} {T:VF} {TF:Fr} {K:VF→VH→Prop} (hw:wpOp E Gl o T h K) (s:SR Gl G μ h H) (f:FrR G μ T TF) :
  ∃ N T' h' G' μ' TF' H',(∀ M,N≤M→FR.step (callN E M) o TF H=some (TF',H'))∧SR Gl G' μ' h' H'∧FrR G' μ' T' TF'∧Pr H.next G μ h H G' μ' h' H'∧K T' h':=by
 unfold wpOp at hw
 split at hw
 ·exact hw.elim
 ·rename_i hg
  exact ⟨0,_,h,G,μ,_,H,fun M _=>step_no (want_rel f hg),s,f.put _ undef_rel,Pr.refl _ _ _ _ _,hw⟩
 ·rename_i hg
  have hg':=want_rel f hg
  split at hw
  ·exact hw.elim
  ·rename_i vs hvs
   obtain ⟨as,ha,k⟩:=opds_rel f hvs
   split at hw
   ·rename_i q hk
    split at hw<;>try (cases hw;done)
    rename_i v hv
    obtain ⟨a,h1,h2⟩:=pop_rel hv k
    exact ⟨0,_,h,G,μ,_,H,fun M _=>step_p hg' ha hk h1,s,f.put _ h2,Pr.refl _ _ _ _ _,hw⟩
   ·rename_i q hk
    obtain ⟨v,a,h1,h2,h3⟩:=wpR_sound hw s k
    exact ⟨0,_,h,G,μ,_,H,fun M _=>step_r hg' ha hk h1,s,f.put _ h2,Pr.refl _ _ _ _ _,h3⟩
   ·rename_i q hk
    split at hw<;>try (cases hw;done)
    rename_i x r hv
    obtain ⟨y,res,h1,h2,h3,h4⟩:=nop_rel hv k
    obtain ⟨p1,p2⟩:=push_rel s h2 h3
    exact ⟨0,_,_,_,_,_,_,fun M _=>step_n hg' ha hk h1,p1,(f.mono p2.g p2.m).put _ (h4 _ _ _ _ (by unfold setM;rw [if_pos rfl])),p2,hw⟩
   ·rename_i q hk
    obtain ⟨N,a,H',G',μ',v,h',e,c1,c2,c3,c4,c5,c6⟩:=wpW_sound hw s k
    exact ⟨N,_,h',G',μ',_,H',fun M hM=>step_w hg' ha hk (c1 M hM),c2,(f.mono c3.g c3.m).put _ c4,c3,c5⟩
theorem wpOps_sound {E:Env} {Gl:qzh}:∀ {l:List AOp} {G:Gz} {μ:Pm} {h:VH} {H:Heap} {T:VF} {TF:Fr} {K:VF→VH→Prop} (hw:wpOps E Gl l T h K) (s:SR Gl G μ h H) (f:FrR G μ T TF),
  ∃ N T' h' G' μ' TF' H',(∀ M,N≤M→runOps (callN E M) l TF H=some (TF',H'))∧SR Gl G' μ' h' H'∧FrR G' μ' T' TF'∧Pr H.next G μ h H G' μ' h' H'∧K T' h'
 | [],G,μ,h,H,T,TF,K,hw,s,f=>⟨0,T,h,G,μ,TF,H,fun M _=>rfl,s,f,Pr.refl _ _ _ _ _,hw⟩
 | o::l,G,μ,h,H,T,TF,K,hw,s,f=>by
  obtain ⟨N,T1,h1,G1,μ1,TF1,H1,c1,c2,c3,c4,c5⟩:=wpOp_sound hw s f
  obtain ⟨N2,T2,h2,G2,μ2,TF2,H2,d1,d2,d3,d4,d5⟩:=wpOps_sound c5 c2 c3
  exact ⟨max N N2,T2,h2,G2,μ2,TF2,H2,fun M hM=>by simp only [runOps,c1 M (by omega),d1 M (by omega)],d2,d3,c4.trans d4 c4.next,d5⟩
end
end Go.VL
