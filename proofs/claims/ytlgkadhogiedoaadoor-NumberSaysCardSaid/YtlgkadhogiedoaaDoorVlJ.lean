/- Small laws for a run by rewriting: tables, calls, rounds. -/
import Derived.Test.YtlgkadhogiedoaaDoorVlI
set_option linter.unusedSimpArgs false
set_option linter.unusedVariables false
namespace Go.VL
open Go.FR
noncomputable section
theorem get_def (h:VH) (i:Nat):h.get i=(qzf h.l i).getD none:=rfl
theorem look_cons {α:Type} (a:Nat) (b:α) (l:List (Nat × α)) (n:Nat):qzf ((a,b)::l) n=if a=n then some b else qzf l n:=rfl
section
variable {E:Env} {Gl:qzh} {f:Nat} {args vs:List VV} {v:VV} {h:VH} {K:VV→VH→Option (List Nat × Bool)→Prop}
theorem qzb (hp:qzg E Gl f args v) (hs:shutL h vs=some args) (hv:plainB v=true) (hk:K v h (some ([],true))):wpCall E Gl f vs h K :=
 .inl ⟨args,args,v,hs,subL_refl _,hp,by rw [if_pos hv,hv];exact hk⟩
theorem call_own {cs:List VV} {o n e:Nat} {c:ACap} (hp:PureOwn E Gl f args cs o n e c) (hs:shutL h vs=some args) (hv:plainL cs=true) (hk:K (.slice h.next o n e c) (h.push (.cells cs false)) (some ([],false))):wpCall E Gl f vs h K :=
 .inr (.inl ⟨args,args,cs,o,n,e,c,hs,subL_refl _,hp,by rw [if_pos hv];exact hk⟩)
theorem lent1 {i:Nat} {b b':VB} (hi:qzf h.l i=some (some b)) (hb:b'.ids=[]):Lent h [(i,b)] [(i,b')] :=
 ⟨fun j x q=>(by
   simp only [qzf] at q
   split at q<;>try (cases q;done)
   rename_i e;subst e
   obtain rfl:=Option.some.inj q
   rw [get_def,hi];rfl),fun p hp=>(by simp only [List.mem_singleton] at hp;subst hp;simp [qzf]),rfl,fun p hp j hj=>(by simp only [List.mem_singleton] at hp;subst hp;rw [hb] at hj;cases hj)⟩
theorem call_st1 {i:Nat} {b b':VB} (hp:StOk E Gl f vs [(i,b)] v [(i,b')]) (hi:qzf h.l i=some (some b)) (hv:idsV v=[]) (hb:b'.ids=[]) (hk:K v ⟨(i,some b')::h.l,h.next⟩ (some ([i],false))):wpCall E Gl f vs h K :=
 .inr (.inr (.inl ⟨[(i,b)],v,[(i,b')],lent1 hi hb,fun j hj=>(by rw [hv] at hj;cases hj),hp,hk⟩))
theorem st1_intro {i:Nat} {b b':VB} (hc:∀ nx,i < nx→CallsV E Gl f vs ⟨[(i,some b)],nx⟩ (fun v' h'=>v'=v∧qzf h'.l i=some (some b'))):StOk E Gl f vs [(i,b)] v [(i,b')]:=fun nx hn G μ H as s k=>by
 obtain ⟨N,a,H',G',μ',v',h',c1,c2,c3,c4,c5,c6⟩:=hc nx (hn (i,b) (by simp)) s k
 exact ⟨N,a,H',G',μ',v',h',c1,c2,c3,c4,c5,fun j x q=>by
  simp only [qzf] at q
  split at q<;>try (cases q;done)
  rename_i e;subst e
  obtain rfl:=Option.some.inj q
  rw [get_def,c6];rfl⟩
end
theorem CallsV.mono {E:Env} {Gl:qzh} {f:Nat} {args:List VV} {h:VH} {Q Q':VV→VH→Prop} (hc:CallsV E Gl f args h Q) (hq:∀ v h,Q v h→Q' v h):CallsV E Gl f args h Q':=fun G μ H as s k=>by
 obtain ⟨N,a,H',G',μ',v,h',c1,c2,c3,c4,c5⟩:=hc s k
 exact ⟨N,a,H',G',μ',v,h',c1,c2,c3,c4,hq _ _ c5⟩
theorem flatL_cons {α β:Type} (f:α→List β) (a:α) (l:List α):flatL f (a::l)=f a++flatL f l:=by simp [flatL]
theorem flatL_length {α β:Type} {f:α→List β} {n:Nat} (hf:∀ a,(f a).length=n):∀ l:List α,(flatL f l).length=l.length*n
 | []=>by simp [flatL]
 | a::l=>by rw [flatL_cons,List.length_append,hf,flatL_length hf l,List.length_cons,Nat.add_mul,Nat.one_mul];omega
theorem drop_at {α:Type} {l:List α} {k:Nat} {a:α} (h:l[k]?=some a):l.drop k=a::l.drop (k+1):=by
 rw [List.drop_eq_getElem_cons (List.getElem?_eq_some_iff.1 h).1];congr 1;exact (List.getElem?_eq_some_iff.1 h).2
theorem plainL_map {α:Type} {f:α→VV} (hf:∀ a,plainB (f a)=true):∀ l:List α,plainL (l.map f)=true
 | []=>rfl
 | a::l=>by simp [plainL,hf,plainL_map hf l]
theorem qze {n:Int} (h1:-9223372036854775808≤n) (h2:n≤9223372036854775807):IntKind.i64.wrap n=n:=by
 unfold IntKind.wrap
 simp only [IntKind.bits,IntKind.signed,Bool.true_and,decide_eq_true_eq,ge_iff_le,Nat.reduceSub]
 split<;>omega
theorem natV_nat (k:IntKind) (n:Nat):qzk (.int k n)=some n:=by simp [qzk]
section
variable (E:Env) (Gl:qzh)
def wpO (l:List AOp) (T:VF) (h:VH) (K:AEx→VF→VH→Prop):Prop:=wpOps E Gl l T h fun T' h'=>K .normal T' h'
def kW (l:List AOp) (T:VF) (d:Option Nat) (K:AEx→VF→VH→Prop):VV→VH→Option (List Nat × Bool)→Prop:=fun v h' _=>wpO E Gl l (putV T d v) h' K
def wpA (k:AK) (vs:List VV) (d:Option Nat) (l:List AOp) (T:VF) (h:VH) (K:AEx→VF→VH→Prop):Prop :=
 match k with
 | .p q=>match popV q vs with
  | some v=>wpO E Gl l (putV T d v) h K
  | none=>False
 | .r q=>match ropV Gl h q vs with
  | some v=>wpO E Gl l (putV T d v) h K
  | none=>nilCmp q vs=true∧∀ b:Bool,wpO E Gl l (putV T d (.bool b)) h K
 | .n q=>match nopV q vs with
  | some (x,r)=>wpO E Gl l (putV T d (r.at h.next)) (h.push x) K
  | none=>False
 | .w q=>wpW E Gl q vs h (kW E Gl l T d K)
def wpG (g:Option Bool) (args:List Opd) (k:AK) (d:Option Nat) (l:List AOp) (T:VF) (h:VH) (K:AEx→VF→VH→Prop):Prop :=
 match g with
 | none=>False
 | some false=>wpO E Gl l (putV T d undefV) h K
 | some true=>match opdsV T args with
  | none=>False
  | some vs=>wpA E Gl k vs d l T h K
def wpX (cnt:Nat) (l:List (AOp × Nat)) (T:VF) (h:VH) (used fresh:List Nat) (log:List (Option ((List Nat × Bool) × VH))) (K:AEx→VF→VH→Prop):Prop:=wpD E Gl cnt l T h used fresh log fun T' h'=>K .normal T' h'
def kX (cnt:Nat) (l:List (AOp × Nat)) (T:VF) (d:Option Nat) (used fresh:List Nat) (log:List (Option ((List Nat × Bool) × VH))) (h:VH) (K:AEx→VF→VH→Prop):VV→VH→Option (List Nat × Bool)→Prop :=
 fun v h' e=>wpX E Gl cnt l (putV T d v) h' used [] (e.map (fun l=>((l.1++fresh,l.2),h))::log) K
def wpXA (cnt:Nat) (k:AK) (r:Nat) (vs:List VV) (d:Option Nat) (l:List (AOp × Nat)) (T:VF) (h:VH) (used fresh:List Nat) (log:List (Option ((List Nat × Bool) × VH))) (K:AEx→VF→VH→Prop):Prop :=
 match k with
 | .p q=>match popV q vs with
  | some v=>wpX E Gl cnt l (putV T d v) h used fresh log K
  | none=>False
 | .r q=>rdOK Gl h fresh log r q vs∧match ropV Gl h q vs with
  | some v=>wpX E Gl cnt l (putV T d v) h used fresh log K
  | none=>nilCmp q vs=true∧∀ b:Bool,wpX E Gl cnt l (putV T d (.bool b)) h used fresh log K
 | .n q=>r < cnt∧used.contains r=false∧match nopV q vs with
  | some (x,res)=>wpX E Gl cnt l (putV T d (res.at h.next)) (h.push x) (r::used) fresh log K
  | none=>False
 | .w q=>wpW E Gl q vs h (kX E Gl cnt l T d used fresh log h K)
def wpXG (cnt:Nat) (g:Option Bool) (args:List Opd) (k:AK) (r:Nat) (d:Option Nat) (l:List (AOp × Nat)) (T:VF) (h:VH) (used fresh:List Nat) (log:List (Option ((List Nat × Bool) × VH))) (K:AEx→VF→VH→Prop):Prop :=
 match g with
 | none=>False
 | some false=>wpX E Gl cnt l (putV T d undefV) h used fresh log K
 | some true=>match opdsV T args with
  | none=>False
  | some vs=>wpXA E Gl cnt k r vs d l T h used fresh log K
def kSeq (b:AC) (K:AEx→VF→VH→Prop):AEx→VF→VH→Prop:=fun x T h=>match x with
 | .normal=>wp E Gl b T h K
 | .exit i=>K (.exit i) T h
 | .ret=>K .ret T h
def kBlk (id:Nat) (K:AEx→VF→VH→Prop):AEx→VF→VH→Prop:=fun x T h=>match x with
 | .normal=>K .normal T h
 | .exit i=>if i=id then K .normal T h else K (.exit i) T h
 | .ret=>K .ret T h
def kLoop (a:AC) (K:AEx→VF→VH→Prop):AEx→VF→VH→Prop:=fun x T h=>match x with
 | .normal=>wp E Gl (.loop a) T h K
 | .exit i=>K (.exit i) T h
 | .ret=>K .ret T h
def wpIf (c:Option VV) (a b:AC) (T:VF) (h:VH) (K:AEx→VF→VH→Prop):Prop :=
 match c with
 | some (.bool t)=>(t=true→wp E Gl a T h K)∧(t=false→wp E Gl b T h K)
 | _=>False
end
def optK (o:Option VV) (k:VV→Prop):Prop:=match o with
 | some v=>k v
 | none=>False
def optR (o:Option VV) (q:ROp) (vs:List VV) (k:VV→Prop):Prop:=match o with
 | some v=>k v
 | none=>nilCmp q vs=true∧∀ b:Bool,k (.bool b)
def optN (o:Option (VB × VN)) (k:VB→VN→Prop):Prop:=match o with
 | some (x,r)=>k x r
 | none=>False
def optL (o:Option (List VV)) (k:List VV→Prop):Prop:=match o with
 | some v=>k v
 | none=>False
def optW (o:Option (VV × VH)) (e:Option (List Nat × Bool)) (k:VV→VH→Option (List Nat × Bool)→Prop):Prop:=match o with
 | some (v,h')=>k v h' e
 | none=>False
theorem optK_some {v:VV} {k:VV→Prop}:optK (some v) k=k v:=(Eq.refl _).trans rfl
theorem optR_some {v:VV} {q:ROp} {vs:List VV} {k:VV→Prop}:optR (some v) q vs k=k v:=(Eq.refl _).trans rfl
theorem optN_some {x:VB} {r:VN} {k:VB→VN→Prop}:optN (some (x,r)) k=k x r:=(Eq.refl _).trans rfl
theorem optL_some {v:List VV} {k:List VV→Prop}:optL (some v) k=k v:=(Eq.refl _).trans rfl
theorem optW_some {v:VV} {h':VH} {e:Option (List Nat × Bool)} {k:VV→VH→Option (List Nat × Bool)→Prop}:optW (some (v,h')) e k=k v h' e:=(Eq.refl _).trans rfl
section
variable (E:Env) (Gl:qzh)
def kP (l:List AOp) (T:VF) (d:Option Nat) (h:VH) (K:AEx→VF→VH→Prop):VV→Prop:=fun v=>wpO E Gl l (putV T d v) h K
def kN (l:List AOp) (T:VF) (d:Option Nat) (h:VH) (K:AEx→VF→VH→Prop):VB→VN→Prop:=fun x r=>wpO E Gl l (putV T d (r.at h.next)) (h.push x) K
def kA (k:AK) (d:Option Nat) (l:List AOp) (T:VF) (h:VH) (K:AEx→VF→VH→Prop):List VV→Prop:=fun vs=>wpA E Gl k vs d l T h K
def kXP (cnt:Nat) (l:List (AOp × Nat)) (T:VF) (d:Option Nat) (h:VH) (u f:List Nat) (lg:List (Option ((List Nat × Bool) × VH))) (K:AEx→VF→VH→Prop):VV→Prop:=fun v=>wpX E Gl cnt l (putV T d v) h u f lg K
def kXN (cnt:Nat) (r:Nat) (l:List (AOp × Nat)) (T:VF) (d:Option Nat) (h:VH) (u f:List Nat) (lg:List (Option ((List Nat × Bool) × VH))) (K:AEx→VF→VH→Prop):VB→VN→Prop:=fun x res=>wpX E Gl cnt l (putV T d (res.at h.next)) (h.push x) (r::u) f lg K
def kXA (cnt:Nat) (k:AK) (r:Nat) (d:Option Nat) (l:List (AOp × Nat)) (T:VF) (h:VH) (u f:List Nat) (lg:List (Option ((List Nat × Bool) × VH))) (K:AEx→VF→VH→Prop):List VV→Prop:=fun vs=>wpXA E Gl cnt k r vs d l T h u f lg K
end
section
variable {E:Env} {Gl:qzh} {T:VF} {h:VH} {K:AEx→VF→VH→Prop}
theorem wp_skip:wp E Gl .skip T h K=K .normal T h:=(Eq.refl _).trans rfl
theorem wp_ops {l:List AOp}:wp E Gl (.ops l) T h K=wpO E Gl l T h K:=(Eq.refl _).trans rfl
theorem wp_draw {l:List (AOp × Nat)}:wp E Gl (.draw l) T h K=wpX E Gl (countN l) l T h [] [] [] K:=(Eq.refl _).trans rfl
theorem wp_seq {a b:AC}:wp E Gl (.seq a b) T h K=wp E Gl a T h (kSeq E Gl b K):=(Eq.refl _).trans rfl
theorem wp_block {id:Nat} {a:AC}:wp E Gl (.block id a) T h K=wp E Gl a T h (kBlk id K):=(Eq.refl _).trans rfl
theorem wp_exit {id:Nat}:wp E Gl (.exit id) T h K=K (.exit id) T h:=(Eq.refl _).trans rfl
theorem wp_ret:wp E Gl .ret T h K=K .ret T h:=(Eq.refl _).trans rfl
theorem wp_cond {c:Opd} {a b:AC}:wp E Gl (.cond c a b) T h K=wpIf E Gl (opdV T c) a b T h K:=by
 simp only [wp,wpIf]
 cases hc:opdV T c with
 | none=>simp
 | some v=>cases v<;>simp
theorem wpIf_bool {t:Bool} {a b:AC}:wpIf E Gl (some (.bool t)) a b T h K=((t=true→wp E Gl a T h K)∧(t=false→wp E Gl b T h K)):=(Eq.refl _).trans rfl
theorem wpIf_true {a b:AC}:wpIf E Gl (some (.bool true)) a b T h K=wp E Gl a T h K:=by simp [wpIf]
theorem wpIf_false {a b:AC}:wpIf E Gl (some (.bool false)) a b T h K=wp E Gl b T h K:=by simp [wpIf]
theorem kSeq_n {b:AC}:kSeq E Gl b K .normal T h=wp E Gl b T h K:=(Eq.refl _).trans rfl
theorem kSeq_e {b:AC} {i:Nat}:kSeq E Gl b K (.exit i) T h=K (.exit i) T h:=(Eq.refl _).trans rfl
theorem kSeq_r {b:AC}:kSeq E Gl b K .ret T h=K .ret T h:=(Eq.refl _).trans rfl
theorem kBlk_n {id:Nat}:kBlk id K .normal T h=K .normal T h:=(Eq.refl _).trans rfl
theorem kBlk_e {id i:Nat}:kBlk id K (.exit i) T h=if i=id then K .normal T h else K (.exit i) T h:=(Eq.refl _).trans rfl
theorem kBlk_r {id:Nat}:kBlk id K .ret T h=K .ret T h:=(Eq.refl _).trans rfl
theorem kLoop_n {a:AC}:kLoop E Gl a K .normal T h=wp E Gl (.loop a) T h K:=(Eq.refl _).trans rfl
theorem kLoop_e {a:AC} {i:Nat}:kLoop E Gl a K (.exit i) T h=K (.exit i) T h:=(Eq.refl _).trans rfl
theorem kLoop_r {a:AC}:kLoop E Gl a K .ret T h=K .ret T h:=(Eq.refl _).trans rfl
theorem loop_step {a:AC} (hw:wp E Gl a T h (kLoop E Gl a K)):wp E Gl (.loop a) T h K:=wp_loop hw
theorem qzj {a b:AC} (e:a=b) (hw:wp E Gl b T h (kLoop E Gl a K)):wp E Gl (.loop a) T h K:=loop_step (Eq.subst (motive:=fun z=>wp E Gl z T h (kLoop E Gl a K)) e.symm hw)
theorem wpO_nil:wpO E Gl [] T h K=K .normal T h:=(Eq.refl _).trans rfl
theorem wpO_cons {d:Option Nat} {args:List Opd} {k:AK} {g:Option (Nat × Bool)} {l:List AOp}:wpO E Gl (⟨d,args,k,g⟩::l) T h K=wpG E Gl (wantV T g) args k d l T h K:=by
 unfold wpO wpOps wpOp wpG
 cases wantV T g with
 | none=>rfl
 | some b =>
  cases b with
  | false=>rfl
  | true =>
   simp only
   cases opdsV T args with
   | none=>rfl
   | some vs=>cases k<;>rfl
theorem wpG_true {args:List Opd} {k:AK} {d:Option Nat} {l:List AOp}:wpG E Gl (some true) args k d l T h K=optL (opdsV T args) (kA E Gl k d l T h K):=by
 unfold wpG optL kA;first | rfl | (cases opdsV T args<;>rfl)
theorem kA_app {k:AK} {d:Option Nat} {l:List AOp} {vs:List VV}:kA E Gl k d l T h K vs=wpA E Gl k vs d l T h K:=(Eq.refl _).trans rfl
theorem wpG_false {args:List Opd} {k:AK} {d:Option Nat} {l:List AOp}:wpG E Gl (some false) args k d l T h K=wpO E Gl l (putV T d undefV) h K:=(Eq.refl _).trans rfl
theorem wpA_p {q:POp} {vs:List VV} {d:Option Nat} {l:List AOp}:wpA E Gl (.p q) vs d l T h K=optK (popV q vs) (kP E Gl l T d h K):=by
 unfold wpA optK kP;first | rfl | (cases popV q vs<;>rfl)
theorem kP_app {d:Option Nat} {l:List AOp} {v:VV}:kP E Gl l T d h K v=wpO E Gl l (putV T d v) h K:=(Eq.refl _).trans rfl
theorem wpA_r {q:ROp} {vs:List VV} {d:Option Nat} {l:List AOp}:wpA E Gl (.r q) vs d l T h K=optR (ropV Gl h q vs) q vs (kP E Gl l T d h K):=by
 unfold wpA optR kP;first | rfl | (cases ropV Gl h q vs<;>rfl)
theorem wpA_n {q:NOp} {vs:List VV} {d:Option Nat} {l:List AOp}:wpA E Gl (.n q) vs d l T h K=optN (nopV q vs) (kN E Gl l T d h K):=by
 unfold wpA optN kN;first | rfl | (cases nopV q vs<;>rfl)
theorem kN_app {d:Option Nat} {l:List AOp} {x:VB} {r:VN}:kN E Gl l T d h K x r=wpO E Gl l (putV T d (r.at h.next)) (h.push x) K:=(Eq.refl _).trans rfl
theorem wpA_w {q:WOp} {vs:List VV} {d:Option Nat} {l:List AOp}:wpA E Gl (.w q) vs d l T h K=wpW E Gl q vs h (kW E Gl l T d K):=(Eq.refl _).trans rfl
theorem kW_app {l:List AOp} {d:Option Nat} {v:VV} {h':VH} {e:Option (List Nat × Bool)}:kW E Gl l T d K v h' e=wpO E Gl l (putV T d v) h' K:=(Eq.refl _).trans rfl
theorem wpX_nil {cnt:Nat} {u f:List Nat} {lg:List (Option ((List Nat × Bool) × VH))}:wpX E Gl cnt [] T h u f lg K=K .normal T h:=(Eq.refl _).trans rfl
theorem wpX_cons {cnt r:Nat} {u f:List Nat} {lg:List (Option ((List Nat × Bool) × VH))} {d:Option Nat} {args:List Opd} {k:AK} {g:Option (Nat × Bool)} {l:List (AOp × Nat)}:wpX E Gl cnt ((⟨d,args,k,g⟩,r)::l) T h u f lg K=wpXG E Gl cnt (wantV T g) args k r d l T h u f lg K:=by
 unfold wpX wpD wpXG
 cases wantV T g with
 | none=>rfl
 | some b =>
  cases b with
  | false=>rfl
  | true =>
   simp only
   cases opdsV T args with
   | none=>rfl
   | some vs=>cases k<;>rfl
theorem wpXG_true {cnt r:Nat} {u f:List Nat} {lg:List (Option ((List Nat × Bool) × VH))} {args:List Opd} {k:AK} {d:Option Nat} {l:List (AOp × Nat)}:wpXG E Gl cnt (some true) args k r d l T h u f lg K=optL (opdsV T args) (kXA E Gl cnt k r d l T h u f lg K):=by
 unfold wpXG optL kXA;first | rfl | (cases opdsV T args<;>rfl)
theorem kXA_app {cnt r:Nat} {u f:List Nat} {lg:List (Option ((List Nat × Bool) × VH))} {k:AK} {d:Option Nat} {l:List (AOp × Nat)} {vs:List VV}:kXA E Gl cnt k r d l T h u f lg K vs=wpXA E Gl cnt k r vs d l T h u f lg K:=(Eq.refl _).trans rfl
theorem wpXG_false {cnt r:Nat} {u f:List Nat} {lg:List (Option ((List Nat × Bool) × VH))} {args:List Opd} {k:AK} {d:Option Nat} {l:List (AOp × Nat)}:wpXG E Gl cnt (some false) args k r d l T h u f lg K=wpX E Gl cnt l (putV T d undefV) h u f lg K:=(Eq.refl _).trans rfl
theorem wpXA_p {cnt r:Nat} {u f:List Nat} {lg:List (Option ((List Nat × Bool) × VH))} {q:POp} {vs:List VV} {d:Option Nat} {l:List (AOp × Nat)}:wpXA E Gl cnt (.p q) r vs d l T h u f lg K=optK (popV q vs) (kXP E Gl cnt l T d h u f lg K):=by
 unfold wpXA optK kXP;first | rfl | (cases popV q vs<;>rfl)
theorem kXP_app {cnt:Nat} {u f:List Nat} {lg:List (Option ((List Nat × Bool) × VH))} {d:Option Nat} {l:List (AOp × Nat)} {v:VV}:kXP E Gl cnt l T d h u f lg K v=wpX E Gl cnt l (putV T d v) h u f lg K:=(Eq.refl _).trans rfl
theorem wpXA_r {cnt r:Nat} {u f:List Nat} {lg:List (Option ((List Nat × Bool) × VH))} {q:ROp} {vs:List VV} {d:Option Nat} {l:List (AOp × Nat)}:wpXA E Gl cnt (.r q) r vs d l T h u f lg K=(rdOK Gl h f lg r q vs∧optR (ropV Gl h q vs) q vs (kXP E Gl cnt l T d h u f lg K)):=by
 unfold wpXA optR kXP;first | rfl | (cases ropV Gl h q vs<;>rfl)
theorem wpXA_n {cnt r:Nat} {u f:List Nat} {lg:List (Option ((List Nat × Bool) × VH))} {q:NOp} {vs:List VV} {d:Option Nat} {l:List (AOp × Nat)}:wpXA E Gl cnt (.n q) r vs d l T h u f lg K=(r < cnt∧u.contains r=false∧optN (nopV q vs) (kXN E Gl cnt r l T d h u f lg K)):=by
 unfold wpXA optN kXN;first | rfl | (cases nopV q vs<;>rfl)
theorem kXN_app {cnt r:Nat} {u f:List Nat} {lg:List (Option ((List Nat × Bool) × VH))} {d:Option Nat} {l:List (AOp × Nat)} {x:VB} {res:VN}:kXN E Gl cnt r l T d h u f lg K x res=wpX E Gl cnt l (putV T d (res.at h.next)) (h.push x) (r::u) f lg K:=(Eq.refl _).trans rfl
theorem wpXA_w {cnt r:Nat} {u f:List Nat} {lg:List (Option ((List Nat × Bool) × VH))} {q:WOp} {vs:List VV} {d:Option Nat} {l:List (AOp × Nat)}:wpXA E Gl cnt (.w q) r vs d l T h u f lg K=wpW E Gl q vs h (kX E Gl cnt l T d u f lg h K):=(Eq.refl _).trans rfl
theorem kX_app {cnt:Nat} {l:List (AOp × Nat)} {u f:List Nat} {lg:List (Option ((List Nat × Bool) × VH))} {d:Option Nat} {v:VV} {h':VH} {e:Option (List Nat × Bool)}:kX E Gl cnt l T d u f lg h K v h' e=wpX E Gl cnt l (putV T d v) h' u [] (e.map (fun l=>((l.1++f,l.2),h))::lg) K:=(Eq.refl _).trans rfl
theorem Ends_n {Gl:qzh} {res:List ARes} {Q:VV→VH→Prop}:Ends Gl res Q .normal T h=match finV Gl res T h with
  | some v=>Q v h
  | none=>False:=(Eq.refl _).trans rfl
theorem Ends_r {Gl:qzh} {res:List ARes} {Q:VV→VH→Prop}:Ends Gl res Q .ret T h=match finV Gl res T h with
  | some v=>Q v h
  | none=>False:=(Eq.refl _).trans rfl
end
section
variable {E:Env} {Gl:qzh} {vs:List VV} {h:VH} {K:VV→VH→Option (List Nat × Bool)→Prop}
theorem wpW_store {sz:Nat}:wpW E Gl (.store sz) vs h K=optW (storeOpV sz h vs) (some (idsO vs.head?,true)) K:=by
 unfold wpW optW;first | rfl | (cases storeOpV sz h vs<;>rfl)
theorem wpW_copy {esz:Nat}:wpW E Gl (.copy esz) vs h K=optW (copyV esz h vs) (some (idsO vs.head?,true)) K:=by
 unfold wpW optW;first | rfl | (cases copyV esz h vs<;>rfl)
theorem wpW_mapUpd {ks:Bool}:wpW E Gl (.mapUpd ks) vs h K=optW (mapUpdV ks h vs) (some (idsO vs.head?,true)) K:=by
 unfold wpW optW;first | rfl | (cases mapUpdV ks h vs<;>rfl)
theorem wpW_mark:wpW E Gl .mark vs h K=optW (markV h vs) (some (idsO vs.head?,true)) K:=by
 unfold wpW optW;first | rfl | (cases markV h vs<;>rfl)
theorem wpW_callF {f:Nat}:wpW E Gl (.callF f) vs h K=wpCall E Gl f vs h K:=(Eq.refl _).trans rfl
theorem wpW_callV {f:Nat} {a b args:List VV}:wpW E Gl .callV (.func f a b::args) h K=wpCall E Gl f (a++args++b) h K:=(Eq.refl _).trans rfl
end
def AccAt {α:Type} (base:Nat) (h:VH) (j:Nat) (f:α→List VV) (l:List α) (esz:Nat) (v:VV):Prop :=
 (l=[]∧v = .nilS)∨(v = .slice j 0 l.length esz (.toEnd esz)∧qzf h.l j=some (some (.cells (flatL f l) false))∧base≤j∧j < h.next)
def AccE {α:Type} (base:Nat) (h:VH) (j:Nat) (f:α→List VV) (l:List α) (esz:Nat) (v:VV):Prop :=
 AccAt base h j f l esz v∨∃ e,(e=esz∨l=[])∧v = .slice j 0 l.length e (.exact l.length)∧qzf h.l j=some (some (.cells (flatL f l) false))∧base≤j∧j < h.next
theorem AccAt.nil {α:Type} {base:Nat} {h:VH} {j:Nat} {f:α→List VV} {esz:Nat}:AccAt base h j f [] esz .nilS := .inl ⟨rfl,rfl⟩
theorem AccAt.ext {α:Type} {base:Nat} {h h':VH} {j:Nat} {f:α→List VV} {l:List α} {esz:Nat} {v:VV} (a:AccAt base h j f l esz v) (hn:h.next≤h'.next) (hl:base≤j→j < h.next→qzf h'.l j=qzf h.l j):AccAt base h' j f l esz v:=by
 rcases a with a | ⟨a2,a3,a4,a5⟩
 ·exact .inl a
 ·exact .inr ⟨a2,by rw [hl a4 a5];exact a3,a4,by omega⟩
theorem AccAt.low {α:Type} {base base':Nat} {h:VH} {j:Nat} {f:α→List VV} {l:List α} {esz:Nat} {v:VV} (a:AccAt base h j f l esz v) (hb:base'≤base):AccAt base' h j f l esz v:=by
 rcases a with a | ⟨a2,a3,a4,a5⟩
 ·exact .inl a
 ·exact .inr ⟨a2,a3,by omega,a5⟩
theorem AccAt.some {α:Type} {base:Nat} {h:VH} {j:Nat} {f:α→List VV} {l:List α} {esz:Nat} {v:VV} (a:AccAt base h j f l esz v) (hl:l≠[]):v = .slice j 0 l.length esz (.toEnd esz)∧qzf h.l j=some (some (.cells (flatL f l) false))∧base≤j∧j < h.next:=by
 rcases a with ⟨a,_⟩ | a
 ·exact (hl a).elim
 ·exact a
def StAcc (E:Env) (Gl:qzh) (fn:Nat) (vs:List VV) {α:Type} (f:α→List VV) (l:List α) (esz i:Nat) (b b':VB):Prop :=
 (l=[]→StOk E Gl fn vs [(i,b)] .nilS [(i,b')])∧(l≠[]→StOwn E Gl fn vs [(i,b)] (flatL f l) 0 l.length esz (.toEnd esz) [(i,b')])
theorem qza {g:Nat→Option VB} {v:VV} (hc:closedB v=true):∃ k v1,shutD k g v=some v1∧subV v1 v:=⟨0,v,by simp only [shutD,hc,if_true],subV_refl v⟩
theorem ClL.nil {nx:Nat} {J:List Nat} {h:VH}:ClL nx J h [] []:=rfl
theorem ClL.same {nx:Nat} {J:List Nat} {h:VH} {d:VV} {ds cs:List VV} (hd:∀ i∈idsV d,i∈J) (hs:ClL nx J h ds cs):ClL nx J h (d::ds) (d::cs):=⟨d,cs,rfl,.inr ⟨rfl,hd⟩,hs⟩
theorem ClL.clo {nx:Nat} {J:List Nat} {h:VH} {d c:VV} {ds cs:List VV} (hd:∃ k d1,shutD k (above nx h) d=some d1∧subV d1 c) (hs:ClL nx J h ds cs):ClL nx J h (d::ds) (c::cs):=⟨c,cs,rfl,.inl hd,hs⟩
theorem ClL.closed {nx:Nat} {J:List Nat} {h:VH} {d:VV} {ds cs:List VV} (hd:closedB d=true) (hs:ClL nx J h ds cs):ClL nx J h (d::ds) (d::cs):=⟨d,cs,rfl,.inl (qza hd),hs⟩
theorem ClL.refl {nx:Nat} {J:List Nat} {h:VH}:∀ {cs:List VV},(∀ i∈idsL cs,i∈J)→ClL nx J h cs cs
 | [],_=>rfl
 | d::cs,hj => .same (fun i hi=>hj i (by simp [idsL,hi])) (ClL.refl fun i hi=>hj i (by simp [idsL,hi]))
end
end Go.VL
