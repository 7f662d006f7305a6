/- The fast run: code, loops, functions. -/
import Derived.Test.YtlgkadhogiedoaaDoorFrQ
import Derived.LoopN
import Derived.Laws.StandIn
set_option linter.unusedSimpArgs false
set_option linter.unusedVariables false
namespace Go.FR
noncomputable section
open Go
def exOf:AEx→Exit
 | .normal => .normal
 | .exit id => .exit id
 | .ret => .ret
section
variable {P:Program} {C:Cfg} {B:Nat} {call:CallT} {nt N:Nat}
def ExecS (P:Program) (C:Cfg) (B:Nat) (nt:Nat) (code:Code) (f:Fr→Heap→Option (AEx × Fr × Heap)):Prop :=
 ∀ ⦃ι:Pl⦄ ⦃w:World⦄ ⦃H H':Heap⦄ ⦃a:Act⦄ ⦃T T':Fr⦄ ⦃x:AEx⦄,FRel nt ι T a→Rel B C.globals H ι w→f T H=some (x,T',H') →
  ∀ Q:Exit→Act→World→Prop,(∀ a' w' κ,FRel nt κ T' a'→Rel B C.globals H' κ w'→Keep H ι w H' κ w'→Q (exOf x) a' w')→code.wp P Q a w
theorem bad_runs {T T':Fr} {H H':Heap} {x:AEx} (h:exec call N (.ops [{ dst:=none,args:=[],k := .p .bad,guard:=none }]) T H=some (x,T',H')):False:=by
 simp [exec,runOps,step,wanted,opds,pop] at h
theorem iter_sound {code:Code} {f:Fr→Heap→Option (AEx × Fr × Heap)} (hf:ExecS P C B nt code f) {Q:Exit→Act→World→Prop}:∀ (n:Nat) {ι:Pl} {w:World} {H H':Heap} {a:Act} {T T':Fr} {x:AEx},FRel nt ι T a→Rel B C.globals H ι w→iter f n T H=some (x,T',H') →
  (∀ a' w' κ,FRel nt κ T' a'→Rel B C.globals H' κ w'→Keep H ι w H' κ w'→Q (exOf x) a' w')→Code.rounds P code Q n a w:=by
 intro n
 induction n with
 | zero=>intro ι w H H' a T T' x hF hR h hQ;simp [iter] at h
 | succ n ih =>
  intro ι w H H' a T T' x hF hR h hQ
  simp only [iter] at h
  cases hr:f T H with
  | none=>rw [hr] at h;cases h
  | some r =>
   obtain ⟨y,T1,H1⟩:=r
   rw [hr] at h
   rw [rounds_succ]
   cases y with
   | normal =>
    simp only at h
    refine hf hF hR hr _ fun a' w' κ q1 q2 q3 => ?_
    exact ih q1 q2 h fun a2 w2 μ r1 r2 r3=>hQ a2 w2 μ r1 r2 (q3.trans r3)
   | exit id =>
    simp only [Option.some.injEq,Prod.mk.injEq] at h
    obtain ⟨rfl,rfl,rfl⟩:=h
    exact hf hF hR hr _ fun a' w' κ q1 q2 q3=>hQ a' w' κ q1 q2 q3
   | ret =>
    simp only [Option.some.injEq,Prod.mk.injEq] at h
    obtain ⟨rfl,rfl,rfl⟩:=h
    exact hf hF hR hr _ fun a' w' κ q1 q2 q3=>hQ a' w' κ q1 q2 q3
theorem exec_sound (hC:CallOK P B C.globals call):∀ (code:Code) (ac:AC),codeC P C nt code=some ac→ExecS P C B nt code (exec call N ac)
 | .skip,ac,hc=>by
  simp only [codeC,Option.some.injEq] at hc;subst hc
  intro ι w H H' a T T' x hF hR h Q hQ
  simp only [exec,Option.some.injEq,Prod.mk.injEq] at h
  obtain ⟨rfl,rfl,rfl⟩:=h
  exact wp_skip (hQ _ _ _ hF hR (Keep.refl _ _ _))
 | .region id ops false,ac,hc=>by
  simp only [codeC,Option.some.injEq] at hc;subst hc
  intro ι w H H' a T T' x hF hR h Q hQ
  simp only [exec] at h
  split at h<;>try (cases h;done)
  rename_i T1 H1 h1
  simp only [Option.some.injEq,Prod.mk.injEq] at h
  obtain ⟨rfl,rfl,rfl⟩:=h
  refine wp_region ?_
  rw [List.range_eq_range']
  exact runOps_sound hC ops.size 0 (by omega) hF hR (by simpa using h1) fun a' w' κ q1 q2 q3=>hQ a' w' κ q1 q2 q3
 | .region id ops true,ac,hc=>by
  simp only [codeC] at hc
  intro ι w H H' a T T' x hF hR h Q hQ
  split at hc
  ·rename_i L hL
   simp only [Option.some.injEq] at hc;subst hc
   simp only [exec] at h
   split at h<;>try (cases h;done)
   rename_i T1 H1 h1
   simp only [Option.some.injEq,Prod.mk.injEq] at h
   obtain ⟨rfl,rfl,rfl⟩:=h
   exact draw_sound hC hL h1 hF hR fun a' w' κ q1 q2 q3=>hQ a' w' κ q1 q2 q3
  ·simp only [Option.some.injEq] at hc;subst hc
   exact (bad_runs h).elim
 | .seq c1 c2,ac,hc=>by
  simp only [codeC] at hc
  split at hc<;>try (cases hc;done)
  rename_i a1 a2 h1 h2
  simp only [Option.some.injEq] at hc;subst hc
  intro ι w H H' a T T' x hF hR h Q hQ
  simp only [exec] at h
  have s1:=exec_sound hC c1 a1 h1
  have s2:=exec_sound hC c2 a2 h2
  refine wp_seq ?_
  cases hr:exec call N a1 T H with
  | none=>rw [hr] at h;cases h
  | some r =>
   obtain ⟨y,T1,H1⟩:=r
   rw [hr] at h
   cases y with
   | normal =>
    simp only at h
    refine s1 hF hR hr _ fun a' w' κ q1 q2 q3 => ?_
    exact s2 q1 q2 h Q fun a2 w2 μ r1 r2 r3=>hQ a2 w2 μ r1 r2 (q3.trans r3)
   | exit id =>
    simp only [Option.some.injEq,Prod.mk.injEq] at h
    obtain ⟨rfl,rfl,rfl⟩:=h
    exact s1 hF hR hr _ fun a' w' κ q1 q2 q3=>hQ a' w' κ q1 q2 q3
   | ret =>
    simp only [Option.some.injEq,Prod.mk.injEq] at h
    obtain ⟨rfl,rfl,rfl⟩:=h
    exact s1 hF hR hr _ fun a' w' κ q1 q2 q3=>hQ a' w' κ q1 q2 q3
 | .cond o c1 c2,ac,hc=>by
  simp only [codeC] at hc
  split at hc<;>try (cases hc;done)
  rename_i o' a1 a2 ho h1 h2
  simp only [Option.some.injEq] at hc;subst hc
  intro ι w H H' a T T' x hF hR h Q hQ
  have s1:=exec_sound hC c1 a1 h1
  have s2:=exec_sound hC c2 a2 h2
  simp only [exec] at h
  split at h<;>try (cases h;done)
  ·rename_i hb
   have hv:=opd_run (a:=a) (fun n v e hv=>hF.at_ n v hv) hR.g ho hb
   simp only [VRel] at hv
   exact wp_cond_true hv (s1 hF hR h Q hQ)
  ·rename_i hb
   have hv:=opd_run (a:=a) (fun n v e hv=>hF.at_ n v hv) hR.g ho hb
   simp only [VRel] at hv
   exact wp_cond_false hv (s2 hF hR h Q hQ)
 | .block id c1,ac,hc=>by
  simp only [codeC] at hc
  split at hc<;>try (cases hc;done)
  rename_i a1 h1
  simp only [Option.some.injEq] at hc;subst hc
  intro ι w H H' a T T' x hF hR h Q hQ
  have s1:=exec_sound hC c1 a1 h1
  simp only [exec] at h
  refine wp_block ?_
  cases hr:exec call N a1 T H with
  | none=>rw [hr] at h;cases h
  | some r =>
   obtain ⟨y,T1,H1⟩:=r
   rw [hr] at h
   cases y with
   | normal =>
    simp only [Option.some.injEq,Prod.mk.injEq] at h
    obtain ⟨rfl,rfl,rfl⟩:=h
    exact s1 hF hR hr _ fun a' w' κ q1 q2 q3=>hQ a' w' κ q1 q2 q3
   | exit i =>
    simp only at h
    split at h
    ·rename_i hb
     simp only [Option.some.injEq,Prod.mk.injEq] at h
     obtain ⟨rfl,rfl,rfl⟩:=h
     have e:i=id:=Nat.eq_of_beq_eq_true hb
     refine s1 hF hR hr _ fun a' w' κ q1 q2 q3 => ?_
     simp only [exOf,Exit.inBlock,if_pos e]
     exact hQ a' w' κ q1 q2 q3
    ·rename_i hb
     simp only [Option.some.injEq,Prod.mk.injEq] at h
     obtain ⟨rfl,rfl,rfl⟩:=h
     have e:i≠id:=fun e=>by rw [e] at hb;simp at hb
     refine s1 hF hR hr _ fun a' w' κ q1 q2 q3 => ?_
     simp only [exOf,Exit.inBlock,if_neg e]
     exact hQ a' w' κ q1 q2 q3
   | ret =>
    simp only [Option.some.injEq,Prod.mk.injEq] at h
    obtain ⟨rfl,rfl,rfl⟩:=h
    exact s1 hF hR hr _ fun a' w' κ q1 q2 q3=>hQ a' w' κ q1 q2 q3
 | .loop c1,ac,hc=>by
  simp only [codeC] at hc
  split at hc<;>try (cases hc;done)
  rename_i a1 h1
  simp only [Option.some.injEq] at hc;subst hc
  intro ι w H H' a T T' x hF hR h Q hQ
  have s1:=exec_sound hC c1 a1 h1
  simp only [exec] at h
  exact wp_loop_rounds N (iter_sound s1 N hF hR h hQ)
 | .exit id,ac,hc=>by
  simp only [codeC,Option.some.injEq] at hc;subst hc
  intro ι w H H' a T T' x hF hR h Q hQ
  simp only [exec,Option.some.injEq,Prod.mk.injEq] at h
  obtain ⟨rfl,rfl,rfl⟩:=h
  exact wp_exit (hQ _ _ _ hF hR (Keep.refl _ _ _))
 | .ret,ac,hc=>by
  simp only [codeC,Option.some.injEq] at hc;subst hc
  intro ι w H H' a T T' x hF hR h Q hQ
  simp only [exec,Option.some.injEq,Prod.mk.injEq] at h
  obtain ⟨rfl,rfl,rfl⟩:=h
  exact wp_ret (hQ _ _ _ hF hR (Keep.refl _ _ _))
 | .rangeFunc _ _ _ _,ac,hc=>by
  simp only [codeC,Option.some.injEq] at hc;subst hc
  intro ι w H H' a T T' x hF hR h Q hQ
  exact (bad_runs h).elim
 | .scope _,ac,hc=>by
  simp only [codeC,Option.some.injEq] at hc;subst hc
  intro ι w H H' a T T' x hF hR h Q hQ
  exact (bad_runs h).elim
 | .label _,ac,hc=>by
  simp only [codeC,Option.some.injEq] at hc;subst hc
  intro ι w H H' a T T' x hF hR h Q hQ
  exact (bad_runs h).elim
 | .goto _,ac,hc=>by
  simp only [codeC,Option.some.injEq] at hc;subst hc
  intro ι w H H' a T T' x hF hR h Q hQ
  exact (bad_runs h).elim
 | .refuse _,ac,hc=>by
  simp only [codeC,Option.some.injEq] at hc;subst hc
  intro ι w H H' a T T' x hF hR h Q hQ
  exact (bad_runs h).elim
def resV (tmps:Array Value):ResultVar→Sem Value
 | .tmp t=>pure (tmps.getD t undef)
 | .cell a t=>do loadVar t (←asAddr (tmps.getD a undef))
theorem results_eq (F:Func) (tmps:Array Value):results F tmps=(do let vs ←F.results.mapM (resV tmps);pure (if h:vs.size=1 then vs[0] else .tuple vs)):=rfl
theorem res_run {ι:Pl} {w:World} {H:Heap} {a:Act} {T:Fr} (hF:FRel nt ι T a) (hR:Rel B C.globals H ι w) {r:ResultVar} {ar:ARes} {v:AV} (hc:resC P r=some ar) (h:resA T H ar=some v) :
  ∃ u,(resV a.tmps r).run P w = .ok u w∧VRel ι v u:=by
 cases r with
 | tmp t =>
  simp only [resC,Option.some.injEq] at hc;subst hc
  simp only [resA] at h
  obtain ⟨u,h1,h2⟩:=hF.at_ t v h
  exact ⟨u,by simp [resV,h1],h2⟩
 | cell c t =>
  simp only [resC] at hc
  split at hc<;>simp at hc
  rename_i sz hsz
  subst hc
  simp only [resA] at h
  split at h<;>try (cases h;done)
  rename_i x hx
  cases x<;>simp only [rop] at h<;>try (cases h;done)
  rename_i p
  cases p with
  | none=>simp [rop] at h
  | some p =>
   simp only [rop] at h
   split at h
   ·rename_i cs rw str hg
    obtain ⟨u0,h1,h2⟩:=hF.at_ c _ hx
    obtain ⟨j,hj,e⟩:=h2
    obtain ⟨j',hj',hb⟩:=hR.h.at_ _ _ hg
    rw [hj] at hj';obtain rfl:=Option.some.inj hj'
    obtain ⟨u,hu,hr⟩:=load_run (P:=P) hsz hb h
    exact ⟨u,by simp [resV,h1,e,asAddr,hu],hr⟩
   ·cases h
theorem ress_run {ι:Pl} {w:World} {H:Heap} {a:Act} {T:Fr} (hF:FRel nt ι T a) (hR:Rel B C.globals H ι w):∀ (rs:List ResultVar) (ars:List ARes) (vs:List AV),mapO (resC P) rs=some ars→ressA T H ars=some vs →
  ∃ us,(rs.mapM (resV a.tmps)).run P w = .ok us w∧VRels ι vs us
 | [],ars,vs,hc,h=>by
  simp only [mapO,Option.some.injEq] at hc;subst hc
  simp only [ressA,Option.some.injEq] at h;subst h
  exact ⟨[],by simp,VRels.nil⟩
 | r::rs,ars,vs,hc,h=>by
  simp only [mapO] at hc
  split at hc<;>try (cases hc;done)
  rename_i ar har
  split at hc<;>try (cases hc;done)
  rename_i ars' hars
  simp only [Option.some.injEq] at hc;subst hc
  simp only [ressA] at h
  split at h<;>try (cases h;done)
  rename_i v vs' hv hvs
  simp only [Option.some.injEq] at h;subst h
  obtain ⟨u,h1,h2⟩:=res_run hF hR har hv
  obtain ⟨us,h3,h4⟩:=ress_run hF hR rs ars' vs' hars hvs
  refine ⟨u::us,?_,VRels.cons h2 h4⟩
  rw [List.mapM_cons]
  simp only [Sem.run_bind,h1,Result.andThen_ok,h3,Sem.run_pure]
theorem results_run {ι:Pl} {w:World} {H:Heap} {a:Act} {T:Fr} {F:Func} (hF:FRel nt ι T a) (hR:Rel B C.globals H ι w) {ars:List ARes} {vs:List AV} (hc:mapO (resC P) F.results.toList=some ars) (h:ressA T H ars=some vs) :
  ∃ u,(results F a.tmps).run P w = .ok u w∧VRel ι (tupA vs) u:=by
 obtain ⟨us,h1,h2⟩:=ress_run hF hR _ _ _ hc h
 have h3:(F.results.mapM (resV a.tmps)).run P w = .ok us.toArray w:=by
  rw [Array.mapM_eq_mapM_toList]
  simp [h1]
 refine ⟨if h:us.toArray.size=1 then us.toArray[0] else .tuple us.toArray,by simp only [results_eq,Sem.run_bind,h3,Result.andThen_ok,Sem.run_pure],?_⟩
 have hl:=h2.length
 match vs,us,h2,hl with
 | [v],[u],⟨y,ys,e,h4,h5⟩,_=>simp at e;obtain ⟨rfl,_⟩:=e;simpa [tupA] using h4
 | [],[],_,_=>exact ⟨#[],rfl,VRels.nil⟩
 | v1::v2::vs,u1::u2::us,h4,_=>exact ⟨(u1::u2::us).toArray,rfl,by simpa using h4⟩
structure EnvOK (P:Program) (C:Cfg) (E:Nat→Option AFunc):Prop where
 ok:∀ f fn,E f=some fn→∃ F,P.funcs[f]?=some F∧funcC P C F=some fn∧(F.name == "runtime.NumGoroutine")=false ∧
  (F.body.isNone=true→Extern.findNext F=none∧Extern.find F=some Extern.BytealgIndexByte.indexByte)
theorem initT_get:∀ (l:List AV) (i:Nat) (T:Fr) (n:Nat),(initT i l T).get n=if i≤n∧n < i+l.length then l[n - i]? else T.get n
 | [],i,T,n=>by simp only [initT,List.length_nil];rw [if_neg (by omega)]
 | v::l,i,T,n=>by
  simp only [initT]
  rw [initT_get l (i+1) (T.set i v) n,Tr.get_set]
  by_cases h:n=i
  ·subst h
   rw [if_neg (by omega),if_pos rfl,if_pos (by simp)]
   simp
  ·by_cases h2:i+1≤n∧n < i+1+l.length
   ·rw [if_pos h2,if_pos (by simp;omega)]
    have:n - i=(n - (i+1))+1:=by omega
    rw [this,List.getElem?_cons_succ]
   ·rw [if_neg h2,if_neg h,if_neg (by simp;omega)]
theorem init_rel {ι:Pl} {args:List AV} {us:List Value} {n:Nat} (h:VRels ι args us):FRel n ι (initT 0 args .nil) { tmps:=us.toArray++Array.replicate (n - us.toArray.size) undef,defers:=[] }:=by
 have hl:=h.length
 refine ⟨fun k v hv => ?_,by simp;omega,rfl⟩
 rw [initT_get] at hv
 split at hv
 ·rename_i hc
  obtain ⟨u,h1,h2⟩:=h.get (k - 0) v hv
  refine ⟨u,?_,h2⟩
  have:k < us.length:=by omega
  simp only [Nat.sub_zero] at h1
  rw [Array.getElem?_append_left (by simpa using this)]
  simpa using h1
 ·have:(Tr.nil:Fr).get k=none:=by cases k<;>rfl
  rw [this] at hv;cases hv
theorem idx_range {p:Nat→Bool} {c:UInt8}:∀ (l:List UInt8) (k:Nat),(∀ i b,l[i]?=some b→p (k+i)=(b == c))→(List.range' k l.length).find? p=idxByte c l k
 | [],k,h=>by simp [idxByte]
 | b::l,k,h=>by
  have h0:=h 0 b rfl
  simp only [Nat.add_zero] at h0
  simp only [List.length_cons,List.range'_succ,List.find?_cons,h0,idxByte]
  by_cases e:b=c
  ·subst e;simp
  ·have:(b == c)=false:=by simpa using e
   rw [this,if_neg e]
   exact idx_range l (k+1) fun i x hx=>by
    have:=h (i+1) x (by simpa using hx)
    rw [←this];congr 1;omega
theorem firstIdx_eq (s:List UInt8) (c:UInt8):firstIdx ⟨s.toArray⟩ c=(match idxByte c s 0 with | some i=>(i:Int) | none=>-1):=by
 have h:(List.range (⟨s.toArray⟩:ByteArray).size).find? (fun i=>(⟨s.toArray⟩:ByteArray)[i]! == c)=idxByte c s 0:=by
  rw [List.range_eq_range',ba_size]
  refine idx_range s 0 fun i b hb => ?_
  obtain ⟨hlt,e⟩:=List.getElem?_eq_some_iff.1 hb
  have:(⟨s.toArray⟩:ByteArray)[0+i]! = b:=by
   rw [Nat.zero_add,getElem!_pos (⟨s.toArray⟩:ByteArray) i (by rw [ba_size];exact hlt)]
   exact e
  rw [this]
 unfold firstIdx
 rw [h]
 cases idxByte c s 0<;>rfl
theorem callN_ok {E:Nat→Option AFunc} (hE:EnvOK P C E):∀ n,CallOK P B C.globals (callN E n)
 | 0=>fun f args H v H' ι w us hR hv h=>by simp [callN] at h
 | n+1=>fun f args H v H' ι w us hR hv h=>by
  have ih:=callN_ok hE n
  simp only [callN] at h
  cases hf:E f with
  | none=>rw [hf] at h;cases h
  | some fn =>
   obtain ⟨F,hF,hfn,hname,hprim⟩:=hE.ok f fn hf
   rw [hf] at h
   cases fn with
   | prim p =>
    simp only at h
    have hb:F.body=none:=by
     unfold funcC at hfn
     cases hb:F.body with
     | none=>rfl
     | some c =>
      rw [hb] at hfn
      simp only at hfn
      split at hfn<;>simp at hfn
    obtain ⟨h1,h2⟩:=hprim (by simp [hb])
    right
    unfold primA at h
    split at h<;>try (cases h;done)
    rename_i s c
    simp only [Option.some.injEq,Prod.mk.injEq] at h
    obtain ⟨rfl,rfl⟩:=h
    obtain ⟨x,y,rfl,hx,hy⟩:=VR2 hv
    simp only [VRel] at hx hy
    subst hx;subst hy
    refine ⟨.int .i64 (firstIdx ⟨s.toArray⟩ c.toNat.toUInt8),w,?_,ι,?_,hR,Keep.refl _ _ _⟩
    ·rw [run_callFunc_indexByte hF hname (by simp [hb]) h1 h2,run_indexByte_string];rfl
    ·rw [firstIdx_eq];rfl
   | code body res =>
    have hfn':=hfn
    unfold funcC at hfn'
    cases hb:F.body with
    | none =>
     rw [hb] at hfn'
     simp only at hfn'
     split at hfn'<;>simp at hfn'
    | some c =>
     rw [hb] at hfn'
     simp only at hfn'
     split at hfn'<;>try (cases hfn';done)
     rename_i a r ha hr
     simp only [Option.some.injEq,AFunc.code.injEq] at hfn'
     obtain ⟨rfl,rfl⟩:=hfn'
     have hne:F.name ≠ "runtime.NumGoroutine" := by simpa using hname
     left
     refine ⟨by simp [callFunc,hF,hne,hb],?_⟩
     refine calls_of_wp hF hb ?_
     have hs:=exec_sound (N:=n) (B:=B) ih c a ha
     simp only at h
     split at h<;>try (cases h;done)
     ·rename_i T1 H1 he
      split at h<;>try (cases h;done)
      rename_i vs hvs
      simp only [Option.some.injEq,Prod.mk.injEq] at h
      obtain ⟨rfl,rfl⟩:=h
      refine hs (init_rel hv) hR he _ fun a' w' κ q1 q2 q3 => ?_
      obtain ⟨u,g1,g2⟩:=results_run q1 q2 hr hvs
      exact ⟨q1.defers,u,g1,u,rfl,κ,g2,q2,q3⟩
     ·rename_i T1 H1 he
      split at h<;>try (cases h;done)
      rename_i vs hvs
      simp only [Option.some.injEq,Prod.mk.injEq] at h
      obtain ⟨rfl,rfl⟩:=h
      refine hs (init_rel hv) hR he _ fun a' w' κ q1 q2 q3 => ?_
      obtain ⟨u,g1,g2⟩:=results_run q1 q2 hr hvs
      exact ⟨q1.defers,u,g1,u,rfl,κ,g2,q2,q3⟩
theorem calls_of_fast {E:Nat→Option AFunc} (hE:EnvOK P C E) {n f:Nat} {args:List AV} {us:List Value} {ι:Pl} {w:World} {H H':Heap} {v:AV} {F:Func} {body:Code} (hF:P.funcs[f]?=some F) (hb:F.body=some body)
  (hR:Rel B C.globals H ι w) (hv:VRels ι args us) (h:callN E n f args H=some (v,H')):Calls P f us.toArray w fun e w'=>∃ u,e = .returned u∧After B C.globals H ι w v H' u w':=by
 rcases callN_ok hE n f args H v H' ι w us hR hv h with ⟨_,q⟩ | ⟨u,w',h1,_⟩
 ·exact q
 ·exfalso
  cases n with
  | zero=>simp [callN] at h
  | succ n =>
   simp only [callN] at h
   cases hf:E f with
   | none=>rw [hf] at h;cases h
   | some fn =>
    obtain ⟨F',hF',_,hname,_⟩:=hE.ok f fn hf
    rw [hF] at hF'
    obtain rfl:=Option.some.inj hF'
    have hne:F.name ≠ "runtime.NumGoroutine" := by simpa using hname
    simp [callFunc,hF,hne,hb] at h1
end
end
end Go.FR
