/- The fast run: the frame, one operation of any kind. -/
import Derived.Test.YtlgkadhogiedoaaDoorFrK
import Derived.Orders
set_option linter.unusedSimpArgs false
set_option linter.unusedVariables false
namespace Go.FR
noncomputable section
open Go
section
variable {P:Program} {C:Cfg} {ι κ:Pl} {w w':World} {B:Nat} {H H':Heap} {G:List (Nat × Nat)}
structure FRel (nt:Nat) (ι:Pl) (T:Fr) (a:Act):Prop where
 at_:∀ n v,T.get n=some v→∃ u,a.tmps[n]?=some u∧VRel ι v u
 size:nt≤a.tmps.size
 defers:a.defers=[]
theorem FRel.mono {nt:Nat} {T:Fr} {a:Act} (h:FRel nt ι T a) (hi:ι.le κ):FRel nt κ T a :=
 ⟨fun n v q=>let ⟨u,h1,h2⟩:=h.at_ n v q;⟨u,h1,h2.mono hi _ _⟩,h.size,h.defers⟩
theorem put_get (T:Fr) (d:Option Nat) (v:AV) (n:Nat):(put T d v).get n=if d=some n then some v else T.get n:=by
 cases d with
 | none=>simp [put]
 | some d =>
  simp only [put,Tr.get_set,Option.some.injEq]
  by_cases h:n=d
  ·subst h;simp
  ·rw [if_neg h,if_neg (fun e=>h e.symm)]
theorem FRel.put {nt:Nat} {T:Fr} {a:Act} {d:Option Nat} {v:AV} {u:Value} (h:FRel nt ι T a) (hd:∀ n,d=some n→n < nt) (hv:VRel ι v u):FRel nt ι (put T d v) (a.put d u):=by
 refine ⟨fun n x hx => ?_,?_,?_⟩
 ·rw [put_get] at hx
  split at hx
  ·rename_i e
   subst e
   simp only [Option.some.injEq] at hx;subst hx
   refine ⟨u,?_,hv⟩
   have:=hd n rfl
   have:=h.size
   simp [Act.put,Array.getElem?_setIfInBounds_self]
   omega
  ·rename_i e
   obtain ⟨y,h1,h2⟩:=h.at_ n x hx
   refine ⟨y,?_,h2⟩
   cases d with
   | none=>exact h1
   | some d =>
    have:d≠n:=fun q=>e (by rw [q])
    simp [Act.put,Array.getElem?_setIfInBounds_ne this,h1]
 ·cases d<;>simp [Act.put,h.size]
 ·cases d<;>simp [Act.put,h.defers]
theorem ev_tmp {n:Nat} {a:Act} {u:Value} (h:a.tmps[n]?=some u):a.eval (.tmp n)=u:=by
 simp [Act.eval,h]
theorem opd_run {T:Fr} {a:Act} {x:Operand} {o:Opd} {v:AV} (hT:∀ n v,o = .t n→T.get n=some v→∃ u,a.tmps[n]?=some u∧VRel ι v u)
  (hg:∀ n i,lookN C.globals n=some i→∃ s,ι i=some ⟨n,0,s⟩) (hc:opdC C x=some o) (ho:opd T o=some v):VRel ι v (a.eval x):=by
 cases x with
 | tmp t =>
  simp only [opdC,Option.some.injEq] at hc;subst hc
  obtain ⟨u,h1,h2⟩:=hT t v rfl ho
  rw [ev_tmp h1];exact h2
 | const c =>
  simp only [opdC] at hc
  split at hc<;>simp at hc
  rename_i v' h
  subst hc
  simp only [opd,Option.some.injEq] at ho;subst ho
  exact ofV_sound _ _ _ h
 | global g =>
  simp only [opdC] at hc
  split at hc<;>simp at hc
  rename_i i h
  subst hc
  simp only [opd,Option.some.injEq] at ho;subst ho
  obtain ⟨s,hs⟩:=hg g i h
  exact ⟨_,hs,rfl⟩
 | func f =>
  simp only [opdC,Option.some.injEq] at hc;subst hc
  simp only [opd,Option.some.injEq] at ho;subst ho
  exact ⟨#[],#[],rfl,rfl,rfl⟩
theorem opds_run {T:Fr} {a:Act} (hg:∀ n i,lookN C.globals n=some i→∃ s,ι i=some ⟨n,0,s⟩):∀ {xs:List Operand} {os:List Opd} {vs:List AV}
  (hT:∀ n v,Opd.t n∈os→T.get n=some v→∃ u,a.tmps[n]?=some u∧VRel ι v u),mapO (opdC C) xs=some os→opds T os=some vs→VRels ι vs (xs.map a.eval)
 | [],os,vs,hT,h,k=>by
  simp only [mapO,Option.some.injEq] at h;subst h
  simp only [opds,Option.some.injEq] at k;subst k
  exact VRels.nil
 | x::xs,os,vs,hT,h,k=>by
  simp only [mapO] at h
  split at h<;>try (cases h;done)
  rename_i o ho
  split at h<;>try (cases h;done)
  rename_i os' hos
  simp only [Option.some.injEq] at h;subst h
  simp only [opds] at k
  split at k<;>try (cases k;done)
  rename_i v hv
  split at k<;>try (cases k;done)
  rename_i vs' hvs
  simp only [Option.some.injEq] at k;subst k
  exact VRels.cons (opd_run (fun n v e=>hT n v (by rw [e];simp)) hg ho hv) (opds_run hg (fun n v e=>hT n v (List.mem_cons_of_mem _ e)) hos hvs)
def badOp:AOp:={ dst:=none,args:=[],k := .p .bad,guard:=none }
theorem opC_ok {nt:Nat} {ops:Array Oper} {o:Oper} (h:opC P C nt ops o≠badOp) :
  ∃ k xs args g,kindC P C o.op=some (k,xs)∧mapO (opdC C) xs=some args∧guardC ops o.guard=some g∧(∀ n,o.dst=some n→n < nt)∧opC P C nt ops o={ dst:=o.dst,args,k,guard:=g }:=by
 have key:∀ b:Bool,(∀ n,o.dst=some n→Nat.blt n nt=b)→(o.dst=none→b=true)→b=true∨opC P C nt ops o=badOp:=fun b h1 h2=>by
  cases b with
  | true=>exact .inl rfl
  | false =>
   right
   cases hd:o.dst with
   | none=>simp at h2;exact (h2 hd).elim
   | some d=>simp [opC,badOp,hd,h1 d hd]
 have hdk:∀ n,o.dst=some n→Nat.blt n nt=true:=fun n hn=>by
  rcases key (Nat.blt n nt) (fun m hm=>by rw [hn] at hm;obtain rfl:=Option.some.inj hm;rfl) (fun e=>by rw [hn] at e;cases e) with q | q
  ·exact q
  ·exact (h q).elim
 have hd2:∀ n,o.dst=some n→n < nt:=fun n hn=>by simpa using hdk n hn
 cases hg:guardC ops o.guard with
 | none=>exact (h (by cases hd:o.dst<;>simp [opC,badOp,hd,hg])).elim
 | some g =>
  cases hk:kindC P C o.op with
  | none=>exact (h (by cases hd:o.dst with
   | none=>simp only [opC,badOp,hd,hg,hk]
   | some d=>simp only [opC,badOp,hd,hg,hk,hdk d hd])).elim
  | some kx =>
   obtain ⟨k,xs⟩:=kx
   cases ha:mapO (opdC C) xs with
   | none=>exact (h (by cases hd:o.dst with
    | none=>simp only [opC,badOp,hd,hg,hk,ha]
    | some d=>simp only [opC,badOp,hd,hg,hk,ha,hdk d hd])).elim
   | some args =>
    refine ⟨k,xs,args,g,rfl,ha,rfl,hd2,?_⟩
    cases hd:o.dst with
    | none=>simp only [opC,hd,hg,hk,ha]
    | some d=>simp only [opC,hd,hg,hk,ha,hdk d hd]
def CallR (P:Program) (f:Nat) (us:Array Value) (w:World) (R:Value→World→Prop):Prop :=
 ((callFunc f us).run P w = .ok (.enter f us) w∧Calls P f us w fun e w'=>∃ u,e = .returned u∧R u w') ∨
 ∃ u w',(callFunc f us).run P w = .ok (.value u) w'∧R u w'
def After (B:Nat) (G:List (Nat × Nat)) (H:Heap) (ι:Pl) (w:World) (v:AV) (H':Heap) (u:Value) (w':World):Prop :=
 ∃ κ,VRel κ v u∧Rel B G H' κ w'∧Keep H ι w H' κ w'
def CallOK (P:Program) (B:Nat) (G:List (Nat × Nat)) (call:CallT):Prop :=
 ∀ f args H v H' ι w us,Rel B G H ι w→VRels ι args us→call f args H=some (v,H')→CallR P f us.toArray w (After B G H ι w v H')
def OpV (P:Program) (o:Oper) (a:Act) (w:World) (R:Value→World→Prop):Prop :=
 ∀ (K:Act→World→Prop) (Q:Exit→Act→World→Prop),(∀ u w',R u w'→K (a.put o.dst u) w')→o.wp P a w K Q
theorem OpV.of_ends {o:Oper} {a:Act} {R:Value→World→Prop} {u:Value} (h:Ends P (execOp a.eval o) w u w') (hR:R u w'):OpV P o a w R:=by
 intro K Q hK
 unfold Oper.wp
 rcases h with h | ⟨h,rfl⟩
 ·rw [h];exact hK _ _ hR
 ·rw [h];exact hK _ _ hR
theorem OpV.of_call {o:Oper} {a:Act} {R:Value→World→Prop} {f:Nat} {us:Array Value} (he:execOp a.eval o=callFunc f us) (h:CallR P f us w R):OpV P o a w R:=by
 intro K Q hK
 unfold Oper.wp
 rw [he]
 rcases h with ⟨h,hc⟩ | ⟨u,w',h,hR⟩
 ·rw [h]
  refine Calls.mono hc fun e w'' q => ?_
  obtain ⟨u,rfl,hu⟩:=q
  exact hK _ _ hu
 ·rw [h];exact hK _ _ hR
theorem callW_run {call:CallT} (hC:CallOK P B G call) {o:Oper} {a:Act} {q:WOp} {xs:List Operand} {vs:List AV} {v:AV} (hR:Rel B G H ι w) (hq:isCallW q=true)
  (hk:kindC P C o.op=some (.w q,xs)) (hv:VRels ι vs (xs.map a.eval)) (hp:wop call q vs H=some (v,H')):OpV P o a w (After B G H ι w v H'):=by
 obtain ⟨dst,op,type,pos,after,guard⟩:=o
 have hcall:∃ c,op = .call c:=by
  cases op with
  | call c=>exact ⟨c,rfl⟩
  | _ =>
   exfalso
   first
    | simp only [kindC] at hk
    | unfold kindC at hk
   repeat' split at hk
   all_goals first
    | (cases hk;done)
    | (simp only [Option.some.injEq,Prod.mk.injEq,AK.w.injEq,reduceCtorEq,false_and] at hk;done)
    | (simp only [Option.some.injEq,Prod.mk.injEq,AK.w.injEq] at hk
       obtain ⟨rfl,rfl⟩:=hk
       simp [isCallW] at hq
       done)
    | (simp_all only [reduceCtorEq];done)
 obtain ⟨c,rfl⟩:=hcall
 obtain ⟨callee,args,argTypes⟩:=c
 simp only [kindC,callC] at hk
 cases callee with
 | invoke r m=>simp at hk
 | builtin b =>
  exfalso
  simp only at hk
  repeat' split at hk
  all_goals first
   | (cases hk;done)
   | (simp only [Option.some.injEq,Prod.mk.injEq,AK.w.injEq,reduceCtorEq,false_and] at hk;done)
   | (simp only [Option.some.injEq,Prod.mk.injEq,AK.w.injEq] at hk
      obtain ⟨rfl,rfl⟩:=hk
      simp [isCallW] at hq
      done)
 | value x =>
  have viaV:∀ y:Operand,q = .callV→xs=y::args.toList→(execOp a.eval { dst,op := .call ⟨.value y,args,argTypes⟩,type,pos,after,guard }:Sem Next)=(do let d ←Deferred.ofValue (a.eval y) (args.map a.eval);invoke d.target d.args) →
    OpV P { dst,op := .call ⟨.value y,args,argTypes⟩,type,pos,after,guard } a w (After B G H ι w v H'):=by
   intro y e1 e2 he
   subst e1;subst e2
   match vs,hv,hp with
   | [],hv,hp=>simp [wop] at hp
   | fv::vs,hv,hp =>
    obtain ⟨y0,ys,e,h1,h2⟩:=hv
    simp only [List.map_cons,List.cons.injEq] at e
    obtain ⟨rfl,rfl⟩:=e
    cases fv<;>simp only [wop] at hp<;>try (cases hp;done)
    rename_i f first captured
    obtain ⟨x',y',e3,h3,h4⟩:=h1
    refine OpV.of_call (f:=f) (us:=x'++args.map a.eval++y') ?_ ?_
    ·rw [he,e3];simp [Deferred.ofValue,invoke]
    ·have:=hC f _ H v H' ι w _ hR ((h3.append h2).append h4) hp
     have e9:(x'.toList++args.toList.map a.eval++y'.toList).toArray=x'++args.map a.eval++y':=Array.ext' (by simp)
     rw [e9] at this
     exact this
  cases x with
  | func f =>
   simp only [Option.some.injEq,Prod.mk.injEq,AK.w.injEq] at hk
   obtain ⟨rfl,rfl⟩:=hk
   simp only [wop] at hp
   refine OpV.of_call (f:=f) (us:=args.map a.eval) ?_ ?_
   ·simp [execOp,resolve,Act.eval,Deferred.ofValue,invoke]
   ·have:=hC f _ H v H' ι w _ hR hv hp
    have e9:(args.toList.map a.eval).toArray=args.map a.eval:=Array.ext' (by simp)
    rw [e9] at this
    exact this
  | tmp t =>
   simp only [Option.some.injEq,Prod.mk.injEq,AK.w.injEq] at hk
   exact viaV _ hk.1.symm hk.2.symm (by simp [execOp,resolve])
  | const t =>
   simp only [Option.some.injEq,Prod.mk.injEq,AK.w.injEq] at hk
   exact viaV _ hk.1.symm hk.2.symm (by simp [execOp,resolve])
  | global t =>
   simp only [Option.some.injEq,Prod.mk.injEq,AK.w.injEq] at hk
   exact viaV _ hk.1.symm hk.2.symm (by simp [execOp,resolve])
theorem wanted_run {T:Fr} {a:Act} {ops:Array Oper} {o:Oper} {g:Option (Nat × Bool)} {b:Bool}
  (hT:∀ j want v,g=some (j,want)→T.get j=some v→∃ u,a.tmps[j]?=some u∧VRel ι v u) (hg:guardC ops o.guard=some g) (hw:wanted T g=some b) :
  Region.wanted o (yielded ops a.tmps)=b:=by
 unfold Region.wanted
 cases ho:o.guard with
 | none =>
  rw [ho] at hg
  simp only [guardC,Option.some.injEq] at hg;subst hg
  simp only [wanted,Option.some.injEq] at hw;subst hw
  rfl
 | some gw =>
  obtain ⟨j,want⟩:=gw
  rw [ho] at hg
  simp only [guardC] at hg
  split at hg<;>try (cases hg;done)
  rename_i x hx
  split at hg<;>try (cases hg;done)
  rename_i d hd
  simp only [Option.some.injEq] at hg;subst hg
  simp only [wanted] at hw
  split at hw
  ·cases hw
  ·rename_i y hy
   simp only [Option.some.injEq] at hw;subst hw
   obtain ⟨u,h1,h2⟩:=hT d want _ rfl hy
   simp only [VRel] at h2;subst h2
   have:yielded ops a.tmps j=some y:=by simp [yielded,hx,hd,h1]
   simp [this]
  ·rename_i v hv hy
   simp only [Option.some.injEq] at hw;subst hw
   obtain ⟨u,h1,h2⟩:=hT d want _ rfl hy
   have hnb:∀ b,u ≠ .bool b:=by
    intro b e
    subst e
    cases v with
    | bool b'=>exact hv _ rfl
    | int _ _=>simp [VRel] at h2
    | str _=>simp [VRel] at h2
    | ptr q=>cases q<;>simp [VRel] at h2
    | slice q _ _=>cases q<;>simp [VRel] at h2
    | map q=>cases q<;>simp [VRel] at h2
    | func _ _ _=>simp [VRel] at h2
    | nilFunc=>simp [VRel] at h2
    | iface _ _=>simp [VRel] at h2
    | nilIface=>simp [VRel] at h2
    | agg _=>simp [VRel] at h2
    | tuple _=>simp [VRel] at h2
   have:yielded ops a.tmps j=none:=by
    simp only [yielded,hx,Option.bind_some,hd,h1]
    split
    ·rename_i b' e
     simp only [Option.some.injEq] at e
     exact (hnb _ e).elim
    ·rfl
   simp [this]
theorem wpOp_wanted {ops:Array Oper} {i:Nat} {o:Oper} {a:Act} {K:Act→World→Prop} {Q:Exit→Act→World→Prop} (hi:ops[i]?=some o) (hw:Region.wanted o (yielded ops a.tmps)=true) (h:o.wp P a w K Q):wpOp P ops Q i K a w:=by
 unfold wpOp;simp only [hi,hw,if_true];exact .inl h
theorem wpOp_not {ops:Array Oper} {i:Nat} {o:Oper} {a:Act} {K:Act→World→Prop} {Q:Exit→Act→World→Prop} (hi:ops[i]?=some o) (hw:Region.wanted o (yielded ops a.tmps)=false) (h:K (a.put o.dst undef) w):wpOp P ops Q i K a w:=by
 unfold wpOp;simp only [hi,hw];exact h
theorem step_sound {call:CallT} (hC:CallOK P B C.globals call) {nt:Nat} {ops:Array Oper} {i:Nat} {o:Oper} {a:Act} {T T':Fr} (hi:ops[i]?=some o) (hF:FRel nt ι T a) (hR:Rel B C.globals H ι w)
  (hs:step call (opC P C nt ops o) T H=some (T',H')) {K:Act→World→Prop} {Q:Exit→Act→World→Prop}
  (hK:∀ a' w' κ,FRel nt κ T' a'→Rel B C.globals H' κ w'→Keep H ι w H' κ w'→K a' w'):wpOp P ops Q i K a w:=by
 by_cases hb:opC P C nt ops o=badOp
 ·rw [hb] at hs;simp [step,badOp,wanted,opds,pop] at hs
 obtain ⟨k,xs,args,g,hk,ha,hg,hd,he⟩:=opC_ok hb
 rw [he] at hs
 simp only [step] at hs
 split at hs
 ·cases hs
 ·rename_i hw
  simp only [Option.some.injEq,Prod.mk.injEq] at hs
  obtain ⟨rfl,rfl⟩:=hs
  exact wpOp_not hi (wanted_run (fun j _ v _ h=>hF.at_ j v h) hg hw) (hK _ _ ι (hF.put hd undef_rel) hR (Keep.refl _ _ _))
 ·rename_i hw
  refine wpOp_wanted hi (wanted_run (fun j _ v _ h=>hF.at_ j v h) hg hw) ?_
  split at hs<;>try (cases hs;done)
  rename_i vs hvs
  have hv:VRels ι vs (xs.map a.eval):=opds_run hR.g (fun n v _ h=>hF.at_ n v h) ha hvs
  cases k with
  | p q =>
   simp only at hs
   split at hs<;>try (cases hs;done)
   rename_i v hp
   simp only [Option.some.injEq,Prod.mk.injEq] at hs
   obtain ⟨rfl,rfl⟩:=hs
   obtain ⟨u,h1,h2⟩:=pop_sound hk hv hp
   exact OpV.of_ends (R:=fun u w'=>VRel ι v u∧w'=w) (.inl (h1 w)) ⟨h2,rfl⟩ K Q fun u w' ⟨h2,e⟩=>by
    subst e;exact hK _ _ ι (hF.put hd h2) hR (Keep.refl _ _ _)
  | r q =>
   simp only at hs
   split at hs<;>try (cases hs;done)
   rename_i v hp
   simp only [Option.some.injEq,Prod.mk.injEq] at hs
   obtain ⟨rfl,rfl⟩:=hs
   obtain ⟨u,h1,h2⟩:=rop_sound hR.h hk hv hp
   exact OpV.of_ends (R:=fun u w'=>VRel ι v u∧w'=w) (.inl h1) ⟨h2,rfl⟩ K Q fun u w' ⟨h2,e⟩=>by
    subst e;exact hK _ _ ι (hF.put hd h2) hR (Keep.refl _ _ _)
  | n q =>
   simp only at hs
   split at hs<;>try (cases hs;done)
   rename_i x res hp
   simp only [Option.some.injEq,Prod.mk.injEq] at hs
   obtain ⟨rfl,rfl⟩:=hs
   obtain ⟨u,w1,κ,h1,h2,h3⟩:=nop_sound hR.b (hR.f H.next (Nat.le_refl _)) hk hv hp
   obtain ⟨h4,h5⟩:=rel_made hR h2
   exact OpV.of_ends (R:=fun u w'=>VRel κ (res.at H.next) u∧w'=w1) (.inl h1) ⟨h3,rfl⟩ K Q fun u w' ⟨h9,e⟩=>by
    subst e;exact hK _ _ κ ((hF.mono h5.le).put hd h9) h4 h5
  | w q =>
   simp only at hs
   split at hs<;>try (cases hs;done)
   rename_i v H'' hp
   simp only [Option.some.injEq,Prod.mk.injEq] at hs
   obtain ⟨rfl,rfl⟩:=hs
   by_cases hq:isCallW q=true
   ·exact callW_run hC hR hq hk hv hp K Q fun u w' ⟨κ,h1,h2,h3⟩=>hK _ _ κ ((hF.mono h3.le).put hd h1) h2 h3
   ·obtain ⟨u,w1,κ,h1,h2,h3,h4⟩:=wop_sound hR (by simpa using hq) hk hv hp
    exact OpV.of_ends (R:=After B C.globals H ι w v H'') h1 ⟨κ,h2,h3,h4⟩ K Q fun u w' ⟨κ,h1,h2,h3⟩=>hK _ _ κ ((hF.mono h3.le).put hd h1) h2 h3
theorem runOps_sound {call:CallT} (hC:CallOK P B C.globals call) {nt:Nat} {ops:Array Oper} {Q:Exit→Act→World→Prop}:∀ (n i:Nat) (hn:i+n=ops.size) {ι:Pl} {w:World} {H H':Heap} {a:Act} {T T':Fr},FRel nt ι T a→Rel B C.globals H ι w →
  runOps call ((ops.toList.drop i).map (opC P C nt ops)) T H=some (T',H') →
  (∀ a' w' κ,FRel nt κ T' a'→Rel B C.globals H' κ w'→Keep H ι w H' κ w'→Q .normal a' w')→wpOps P ops Q (List.range' i n) a w:=by
 intro n
 induction n with
 | zero =>
  intro i hn ι w H H' a T T' hF hR hs hQ
  have:ops.toList.drop i=[]:=by apply List.drop_eq_nil_of_le;simp;omega
  rw [this] at hs
  simp only [List.map_nil,runOps,Option.some.injEq,Prod.mk.injEq] at hs
  obtain ⟨rfl,rfl⟩:=hs
  exact hQ _ _ _ hF hR (Keep.refl _ _ _)
 | succ n ih =>
  intro i hn ι w H H' a T T' hF hR hs hQ
  have hlt:i < ops.size:=by omega
  have hd:ops.toList.drop i=ops[i]::ops.toList.drop (i+1):=by
   rw [List.drop_eq_getElem_cons (by simpa using hlt)];simp
  rw [hd] at hs
  simp only [List.map_cons,runOps] at hs
  split at hs<;>try (cases hs;done)
  rename_i T1 H1 h1
  rw [List.range'_succ,wpOps_cons]
  refine step_sound hC (Array.getElem?_eq_getElem hlt) hF hR h1 fun a' w' κ q1 q2 q3 => ?_
  exact ih (i+1) (by omega) q1 q2 hs fun a2 w2 μ r1 r2 r3=>hQ a2 w2 μ r1 r2 (q3.trans r3)
end
end
end Go.FR
