import Derived.Test.YtlgkadhogiedoaaDoorVlK
import Derived.Test.YtlgkadhogiedoaaDoorNuQ
set_option linter.unusedSimpArgs false
set_option linter.unusedVariables false
namespace Go.VL.Nu
open Go.FR Go.IR Go.VL Go.VL.Er Go.VL.Wo
noncomputable section
set_option maxRecDepth 100000
set_option maxHeartbeats 1000000
def n8B (s:List UInt8) (at_ k:Nat):Nat :=
 if spanS digitS (s.drop k) < 1∨spanS digitS (s.drop k) > 6 then at_ else k+spanS digitS (s.drop k)
def n8A (s:List UInt8) (at_ k:Nat):Nat :=
 if spanS digitS (s.drop k) < 1∨spanS digitS (s.drop k) > 6 then at_
 else if (s[k+spanS digitS (s.drop k)]?.map UInt8.toNat)=some 46 then n8B s at_ (k+spanS digitS (s.drop k)+1) else k+spanS digitS (s.drop k)
def n8S (s:List UInt8) (at_:Nat):Nat:=n8A s at_ (if (s[at_]?.map UInt8.toNat)=some 45 then at_+1 else at_)
attribute [local go_sem] erP t_p_api_At
theorem n8_loop1 (Gl:qzh) (s:List UInt8) (hl:s.length < 4611686018427387904) (u m:Nat) (v1:VV) (K:AEx→VF→VH→Prop)
  (hK:∀ T h,qzf T 0=some (.str s)→qzf T 1=some v1→qzf T 5=some (.int .i64 ((m+u:Nat):Int))→qzf T 6=some (.int .i64 (u:Int))→K (.exit 0) T h) :
  ∀ (r:List UInt8) (k n:Nat) (T:VF) (h:VH),s.drop k=r→k≤s.length→n+spanS digitS r=u→k=m+n→qzf T 0=some (.str s)→qzf T 1=some v1→qzf T 5=some (.int .i64 (k:Int))→qzf T 6=some (.int .i64 (n:Int)) →
   wp Go.VL.Er.E Gl (.loop c_glyphicref8_numeral_l1) T h K:=by
 intro r
 induction r with
 | nil =>
  intro k n T h hr hk hu hm t0 t1 t5 t6
  have:s.length≤k:=by simpa using List.drop_eq_nil_iff.mp hr
  obtain rfl:k=s.length:=by omega
  have eu:n=u:=hu
  subst eu
  refine qzj c_glyphicref8_numeral_l1.eq_1 ?_
  simp only [simprocAttr,-Int.reduceNatCast',go_sem,t0,t5,t6,Int.lt_irrefl]
  refine hK _ h ?_ ?_ ?_ ?_
  ·simp only [simprocAttr,-Int.reduceNatCast',go_sem,t0]
  ·simp only [simprocAttr,-Int.reduceNatCast',go_sem,t1]
  ·simp only [simprocAttr,-Int.reduceNatCast',go_sem,t5]
   rw [hm]
  ·simp only [simprocAttr,-Int.reduceNatCast',go_sem,t6]
 | cons b r ih =>
  intro k n T h hr hk hu hm t0 t1 t5 t6
  have hx:s[k]?=some b:=by
   have:=congrArg (fun l=>l[0]?) hr
   simpa using this
  have hlt:k < s.length:=(List.getElem?_eq_some_iff.1 hx).1
  have c1:(k:Int) < s.length:=by omega
  have hr':s.drop (k+1)=r:=by
   rw [drop_at hx] at hr;exact (List.cons.inj hr).2
  have w1:IntKind.i64.wrap ((k:Int)+1)=((k+1:Nat):Int):=by rw [qze (by omega) (by omega)];rfl
  have w2:IntKind.i64.wrap ((n:Int)+1)=((n+1:Nat):Int):=by rw [qze (by omega) (by omega)];rfl
  unfold spanS at hu
  refine qzj c_glyphicref8_numeral_l1.eq_1 ?_
  simp only [simprocAttr,-Int.reduceNatCast',go_sem,t0,t5,t6,c1,natOf_n,hx]
  refine qzb (digit8_ok Gl b) rfl rfl ?_
  cases q:digitS b
  ·rw [q,if_neg Bool.false_ne_true] at hu
   have eu:n=u:=hu
   subst eu
   simp only [simprocAttr,-Int.reduceNatCast',go_sem]
   refine hK _ h ?_ ?_ ?_ ?_
   ·simp only [simprocAttr,-Int.reduceNatCast',go_sem,t0]
   ·simp only [simprocAttr,-Int.reduceNatCast',go_sem,t1]
   ·simp only [simprocAttr,-Int.reduceNatCast',go_sem,t5]
    rw [hm]
   ·simp only [simprocAttr,-Int.reduceNatCast',go_sem,t6]
  ·rw [q,if_pos rfl] at hu
   simp only [simprocAttr,-Int.reduceNatCast',go_sem,t0,t5,t6,w1,w2]
   refine ih (k+1) (n+1) _ h hr' (by omega) (by omega) (by omega) ?_ ?_ ?_ ?_
   ·simp only [simprocAttr,-Int.reduceNatCast',go_sem,t0]
   ·simp only [simprocAttr,-Int.reduceNatCast',go_sem,t1]
   ·simp only [simprocAttr,-Int.reduceNatCast',go_sem]
   ·simp only [simprocAttr,-Int.reduceNatCast',go_sem]
theorem n8_loop0 (Gl:qzh) (s:List UInt8) (hl:s.length < 4611686018427387904) (u m:Nat) (v1:VV) (K:AEx→VF→VH→Prop)
  (hK:∀ T h,qzf T 0=some (.str s)→qzf T 1=some v1→qzf T 5=some (.int .i64 ((m+u:Nat):Int))→qzf T 6=some (.int .i64 (u:Int))→K (.exit 2) T h) :
  ∀ (r:List UInt8) (k n:Nat) (T:VF) (h:VH),s.drop k=r→k≤s.length→n+spanS digitS r=u→k=m+n→qzf T 0=some (.str s)→qzf T 1=some v1→qzf T 5=some (.int .i64 (k:Int))→qzf T 6=some (.int .i64 (n:Int)) →
   wp Go.VL.Er.E Gl (.loop c_glyphicref8_numeral_l0) T h K:=by
 intro r
 induction r with
 | nil =>
  intro k n T h hr hk hu hm t0 t1 t5 t6
  have:s.length≤k:=by simpa using List.drop_eq_nil_iff.mp hr
  obtain rfl:k=s.length:=by omega
  have eu:n=u:=hu
  subst eu
  refine qzj c_glyphicref8_numeral_l0.eq_1 ?_
  simp only [simprocAttr,-Int.reduceNatCast',go_sem,t0,t5,t6,Int.lt_irrefl]
  refine hK _ h ?_ ?_ ?_ ?_
  ·simp only [simprocAttr,-Int.reduceNatCast',go_sem,t0]
  ·simp only [simprocAttr,-Int.reduceNatCast',go_sem,t1]
  ·simp only [simprocAttr,-Int.reduceNatCast',go_sem,t5]
   rw [hm]
  ·simp only [simprocAttr,-Int.reduceNatCast',go_sem,t6]
 | cons b r ih =>
  intro k n T h hr hk hu hm t0 t1 t5 t6
  have hx:s[k]?=some b:=by
   have:=congrArg (fun l=>l[0]?) hr
   simpa using this
  have hlt:k < s.length:=(List.getElem?_eq_some_iff.1 hx).1
  have c1:(k:Int) < s.length:=by omega
  have hr':s.drop (k+1)=r:=by
   rw [drop_at hx] at hr;exact (List.cons.inj hr).2
  have w1:IntKind.i64.wrap ((k:Int)+1)=((k+1:Nat):Int):=by rw [qze (by omega) (by omega)];rfl
  have w2:IntKind.i64.wrap ((n:Int)+1)=((n+1:Nat):Int):=by rw [qze (by omega) (by omega)];rfl
  unfold spanS at hu
  refine qzj c_glyphicref8_numeral_l0.eq_1 ?_
  simp only [simprocAttr,-Int.reduceNatCast',go_sem,t0,t5,t6,c1,natOf_n,hx]
  refine qzb (digit8_ok Gl b) rfl rfl ?_
  cases q:digitS b
  ·rw [q,if_neg Bool.false_ne_true] at hu
   have eu:n=u:=hu
   subst eu
   simp only [simprocAttr,-Int.reduceNatCast',go_sem]
   refine hK _ h ?_ ?_ ?_ ?_
   ·simp only [simprocAttr,-Int.reduceNatCast',go_sem,t0]
   ·simp only [simprocAttr,-Int.reduceNatCast',go_sem,t1]
   ·simp only [simprocAttr,-Int.reduceNatCast',go_sem,t5]
    rw [hm]
   ·simp only [simprocAttr,-Int.reduceNatCast',go_sem,t6]
  ·rw [q,if_pos rfl] at hu
   simp only [simprocAttr,-Int.reduceNatCast',go_sem,t0,t5,t6,w1,w2]
   refine ih (k+1) (n+1) _ h hr' (by omega) (by omega) (by omega) ?_ ?_ ?_ ?_
   ·simp only [simprocAttr,-Int.reduceNatCast',go_sem,t0]
   ·simp only [simprocAttr,-Int.reduceNatCast',go_sem,t1]
   ·simp only [simprocAttr,-Int.reduceNatCast',go_sem]
   ·simp only [simprocAttr,-Int.reduceNatCast',go_sem]
theorem numeral8_ok (Gl:qzh) (s:List UInt8) (at_:Nat) (ha:at_ < s.length) (hl:s.length < 2305843009213693952):qzg Go.VL.Er.E Gl f_glyphicref8_numeral [.str s,.int .i64 (at_:Int)] (.int .i64 ((n8S s at_:Nat):Int)):=by
 refine qzd (qzc E_glyphicref8_numeral ?_)
 unfold c_glyphicref8_numeral r_glyphicref8_numeral
 simp only [qzi]
 obtain ⟨b,hb⟩:∃ b,s[at_]?=some b:=⟨s[at_],List.getElem?_eq_getElem ha⟩
 have e45:(((b.toNat:Nat):Int) == 45)=(b.toNat == 45):=beq_nat b.toNat 45
 have w1:IntKind.i64.wrap ((at_:Int)+1)=((at_+1:Nat):Int):=by rw [qze (by omega) (by omega)];rfl
 unfold n8S
 rw [hb,Option.map_some]
 have main:∀ k,k≤s.length→∀ (P:List UInt8),s.drop k=P→∀ u,spanS digitS P=u→∀ A,n8A s at_ k=A→k+u≤s.length:=fun k hk P hP u hu A _=>by
  have:=spanS_le digitS P
  rw [hu,←hP,List.length_drop] at this
  omega
 by_cases q:b.toNat=45
 case' pos =>
  have q':(b.toNat == 45)=true:=by simp [q]
  rw [if_pos (by rw [q])]
  obtain ⟨k,hk⟩:∃ k,at_+1=k:=⟨_,rfl⟩
  have lk:k≤s.length:=by omega
  rw [hk] at w1 ⊢
 case' neg =>
  have q':(b.toNat == 45)=false:=by simp [q]
  rw [if_neg (by simpa using q)]
  obtain ⟨k,hk⟩:∃ k,at_=k:=⟨_,rfl⟩
  have lk:k≤s.length:=by omega
  have hk2:((at_:Nat):Int)=(k:Int):=by rw [hk]
  have he:n8A s at_ at_=n8A s at_ k:=by rw [←hk]
  rw [he]
 all_goals
  obtain ⟨u,hu⟩:∃ u,spanS digitS (s.drop k)=u:=⟨_,rfl⟩
  have lu:=main k lk _ rfl u hu _ rfl
  simp only [simprocAttr,-Int.reduceNatCast',go_sem,hb,e45,q',natOf_n,w1]
  refine n8_loop1 Gl s (by omega) u k (.int .i64 (at_:Int)) _ ?_ (s.drop k) k 0 _ _ rfl lk (by rw [Nat.zero_add];exact hu) rfl rfl rfl (by first | rfl | exact congrArg (fun x:Int=>some (VV.int .i64 x)) hk2) rfl
  intro T h t0 t1 t5 t6
  unfold n8A
  rw [hu]
  by_cases u1:u < 1
  ·have c1:(u:Int) < 1:=by omega
   rw [if_pos (.inl u1)]
   simp only [simprocAttr,-Int.reduceNatCast',go_sem,t1,t6,c1]
   exact qza rfl
  ·have c1:¬(u:Int) < 1:=by omega
   by_cases u6:u > 6
   ·have c6:(u:Int) > 6:=by omega
    rw [if_pos (.inr u6)]
    simp only [simprocAttr,-Int.reduceNatCast',go_sem,t1,t6,c1,c6]
    exact qza rfl
   ·have c6:¬(u:Int) > 6:=by omega
    rw [if_neg (by omega)]
    obtain ⟨n,hn⟩:∃ n,k+u=n:=⟨_,rfl⟩
    rw [hn] at t5 lu ⊢
    by_cases ln':n < s.length
    ·obtain ⟨c,hc⟩:∃ c,s[n]?=some c:=⟨s[n],List.getElem?_eq_getElem ln'⟩
     have cl:((n:Int) == (s.length:Int))=false:=beq_false_of_ne (by omega)
     have e46:(((c.toNat:Nat):Int) != 46)=(c.toNat != 46):=by show (!_)=(!_);rw [show (46:Int)=((46:Nat):Int) from rfl,beq_nat]
     rw [hc,Option.map_some]
     by_cases p:c.toNat=46
     ·have p':(c.toNat != 46)=false:=by simp [p]
      rw [if_pos (by rw [p])]
      have lp:n+1≤s.length:=by omega
      have wn:IntKind.i64.wrap ((n:Int)+1)=((n+1:Nat):Int):=by rw [qze (by omega) (by omega)];rfl
      obtain ⟨v,hv⟩:∃ v,spanS digitS (s.drop (n+1))=v:=⟨_,rfl⟩
      simp only [simprocAttr,-Int.reduceNatCast',go_sem,t0,t1,t5,t6,c1,c6,cl,natOf_n,hc,e46,p',wn]
      refine n8_loop0 Gl s (by omega) v (n+1) (.int .i64 (at_:Int)) _ ?_ (s.drop (n+1)) (n+1) 0 _ _ rfl lp (by rw [Nat.zero_add];exact hv) rfl ?_ ?_ ?_ ?_
      ·intro T h t0 t1 t5 t6
       unfold n8B
       rw [hv]
       by_cases v1:v < 1
       ·have d1:(v:Int) < 1:=by omega
        rw [if_pos (.inl v1)]
        simp only [simprocAttr,-Int.reduceNatCast',go_sem,t1,t6,d1]
        exact qza rfl
       ·have d1:¬(v:Int) < 1:=by omega
        by_cases v6:v > 6
        ·have d6:(v:Int) > 6:=by omega
         rw [if_pos (.inr v6)]
         simp only [simprocAttr,-Int.reduceNatCast',go_sem,t1,t6,d1,d6]
         exact qza rfl
        ·have d6:¬(v:Int) > 6:=by omega
         rw [if_neg (by omega)]
         simp only [simprocAttr,-Int.reduceNatCast',go_sem,t5,t6,d1,d6]
         exact qza rfl
      ·simp only [simprocAttr,-Int.reduceNatCast',go_sem,t0]
      ·simp only [simprocAttr,-Int.reduceNatCast',go_sem,t1]
      ·simp only [simprocAttr,-Int.reduceNatCast',go_sem]
      ·simp only [simprocAttr,-Int.reduceNatCast',go_sem];rfl
     ·have p':(c.toNat != 46)=true:=by simp [p]
      rw [if_neg (by simpa using p)]
      simp only [simprocAttr,-Int.reduceNatCast',go_sem,t0,t5,t6,c1,c6,cl,natOf_n,hc,e46,p']
      exact qza rfl
    ·obtain rfl:n=s.length:=by omega
     have cl:((s.length:Int) == (s.length:Int))=true:=by simp
     have hc:s[s.length]?=none:=List.getElem?_eq_none (Nat.le_refl _)
     rw [hc,Option.map_none,if_neg (by simp)]
     simp only [simprocAttr,-Int.reduceNatCast',go_sem,t0,t5,t6,c1,c6,cl]
     exact qza rfl
end
end Go.VL.Nu
namespace Go.VL.Nu
open Go.FR Go.IR Go.VL Go.VL.Er Go.VL.Wo
noncomputable section
set_option maxRecDepth 100000
set_option maxHeartbeats 1000000
theorem first_split:∀ r:List UInt8,(∀ b∈r,b≠46)∨∃ A B,r=A++46::B∧∀ b∈A,b≠46
 | [] => .inl (fun b h=>by cases h)
 | b::r=>by
  by_cases q:b=46
  ·exact .inr ⟨[],r,by rw [q];rfl,fun b h=>by cases h⟩
  ·rcases first_split r with h | ⟨A,B,e,h⟩
   ·exact .inl (fun x hx=>by rcases List.mem_cons.mp hx with e | e;· rw [e];exact q
                             exact h x e)
   ·exact .inr ⟨b::A,B,by rw [e];rfl,fun x hx=>by rcases List.mem_cons.mp hx with e | e;· rw [e];exact q
                                                  exact h x e⟩
theorem span_full:∀ r:List UInt8,spanS digitS r=r.length→∀ b∈r,digitS b=true
 | [],_,b,h=>by cases h
 | c::r,e,b,h=>by
  unfold spanS at e
  cases q:digitS c
  ·rw [q,if_neg Bool.false_ne_true] at e;cases e
  ·rw [q,if_pos rfl,List.length_cons] at e
   rcases List.mem_cons.mp h with h | h
   ·rw [h];exact q
   ·exact span_full r (by omega) b h
theorem span_all:∀ (A t:List UInt8),(∀ b∈A,digitS b=true)→spanS digitS (A++t)=A.length+spanS digitS t
 | [],t,_=>by rw [List.nil_append,List.length_nil,Nat.zero_add]
 | a::A,t,h=>by
  rw [List.cons_append,spanS,if_pos (h a (.head _)),span_all A t (fun b hb=>h b (.tail _ hb)),List.length_cons];omega
theorem span_pt (B:List UInt8):spanS digitS (46::B)=0:=by
 rw [spanS,if_neg (by decide)]
theorem span_cut:∀ (A B:List UInt8),spanS digitS (A++46::B)≤A.length∧(spanS digitS (A++46::B)=A.length→∀ b∈A,digitS b=true)
 | [],B=>by
  rw [List.nil_append,span_pt]
  exact ⟨Nat.le_refl _,fun _ b h=>by cases h⟩
 | a::A,B=>by
  obtain ⟨h1,h2⟩:=span_cut A B
  rw [List.cons_append,spanS]
  cases q:digitS a
  ·rw [if_neg Bool.false_ne_true]
   exact ⟨Nat.zero_le _,fun e=>by cases e⟩
  ·rw [if_pos rfl,List.length_cons]
   refine ⟨by omega,fun e b hb => ?_⟩
   rcases List.mem_cons.mp hb with h | h
   ·rw [h];exact q
   ·exact h2 (by omega) b h
theorem rest_split (s:List UInt8):∃ neg:Bool,s=(if neg then [45] else [])++restS s∧(if (s[0]?.map UInt8.toNat)=some 45 then 0+1 else 0)=((if neg then [45] else []:List UInt8)).length∧s.drop ((if neg then [45] else []:List UInt8)).length=restS s:=by
 cases s with
 | nil=>exact ⟨false,rfl,rfl,rfl⟩
 | cons b r =>
  by_cases q:b=45
  ·refine ⟨true,?_,?_,?_⟩
   ·unfold restS
    rw [q,pref_min,if_pos rfl,if_pos rfl];rfl
   ·rw [q];rfl
   ·unfold restS
    rw [q,pref_min,if_pos rfl];rfl
  ·have hq:¬b.toNat=45:=fun e=>q (UInt8.toNat_inj.mp (by rw [e];rfl))
   have hp:prefS (b::r) [45]=false:=by
    unfold prefS
    simp [Ne.symm q,q]
   refine ⟨false,?_,?_,?_⟩
   ·unfold restS
    rw [hp,if_neg Bool.false_ne_true,if_neg Bool.false_ne_true];rfl
   ·rw [List.getElem?_cons_zero,Option.map_some,if_neg (by simpa using hq)];rfl
   ·unfold restS
    rw [hp,if_neg Bool.false_ne_true];rfl
theorem par_shape {s:List UInt8} (h:parOK s=true):(∃ neg:Bool,∃ A,(∀ b∈A,digitS b=true)∧1≤A.length∧A.length≤6∧s=(if neg then [45] else [])++A) ∨
  ∃ neg:Bool,∃ A B,(∀ b∈A,digitS b=true)∧1≤A.length∧A.length≤6∧(∀ b∈B,digitS b=true)∧1≤B.length∧B.length≤6∧s=(if neg then [45] else [])++(A++46::B):=by
 obtain ⟨neg,e,_,_⟩:=rest_split s
 unfold parOK unitS pointS partS at h
 rcases first_split (restS s) with hn | ⟨A,B,hr,hn⟩
 ·rw [cut_not hn] at h
  simp only [Bool.not_false,Bool.true_or,Bool.and_true] at h
  obtain ⟨a1,a2,a3⟩:=allS_digits h
  exact .inl ⟨neg,_,a1,a2,a3,e⟩
 ·rw [hr,cut_at hn] at h
  simp only [Bool.not_true,Bool.false_or,Bool.and_eq_true] at h
  obtain ⟨a1,a2,a3⟩:=allS_digits h.1
  obtain ⟨b1,b2,b3⟩:=allS_digits h.2
  rw [hr] at e
  exact .inr ⟨neg,A,B,a1,a2,a3,b1,b2,b3,e⟩
theorem sg_at (neg:Bool) {A:List UInt8} (hA:∀ b∈A,digitS b=true) (a1:1≤A.length) (t:List UInt8) :
  (if ((((if neg then [45] else [])++(A++t))[0]?).map UInt8.toNat)=some 45 then 0+1 else 0)=((if neg then [45] else []:List UInt8)).length:=by
 cases neg
 ·cases A with
  | nil=>simp at a1
  | cons a A =>
   have d:=digit_le (hA a (.head _))
   rw [if_neg Bool.false_ne_true,List.nil_append,List.cons_append,List.getElem?_cons_zero,Option.map_some,if_neg (by simp;omega)];rfl
 ·rfl
theorem num_ok {s:List UInt8} (h:parOK s=true):n8S s 0=s.length:=by
 rcases par_shape h with ⟨neg,A,a1,a2,a3,rfl⟩ | ⟨neg,A,B,a1,a2,a3,b1,b2,b3,rfl⟩
 ·unfold n8S
  have:=sg_at neg a1 a2 []
  rw [List.append_nil] at this
  rw [this]
  unfold n8A
  rw [List.drop_left]
  have sp:=span_all A [] a1
  rw [List.append_nil] at sp
  rw [sp]
  have z:spanS digitS []=0:=rfl
  rw [z,Nat.add_zero,if_neg (by omega),←List.length_append,List.getElem?_eq_none (Nat.le_refl _),Option.map_none,if_neg (by simp)]
 ·unfold n8S
  rw [sg_at neg a1 a2 (46::B)]
  unfold n8A
  rw [List.drop_left,span_all A (46::B) a1,span_pt,Nat.add_zero,if_neg (by omega)]
  have hx:((if neg then [45] else [])++(A++46::B):List UInt8)[((if neg then [45] else []:List UInt8)).length+A.length]?=some 46:=by
   rw [←List.append_assoc,←List.length_append,List.getElem?_append_right (Nat.le_refl _),Nat.sub_self];rfl
  rw [hx,Option.map_some,if_pos (show some (UInt8.toNat 46)=some 46 from rfl)]
  unfold n8B
  have hd:((if neg then [45] else [])++(A++46::B):List UInt8).drop (((if neg then [45] else []:List UInt8)).length+A.length+1)=B:=by
   rw [←List.append_assoc,←List.length_append,List.drop_append,List.drop_of_length_le (by omega),show ((if neg then [45] else [])++A:List UInt8).length+1 - ((if neg then [45] else [])++A:List UInt8).length=1 by omega];rfl
  have sp:=span_all B [] b1
  rw [List.append_nil] at sp
  have z:spanS digitS []=0:=rfl
  rw [hd,sp,z,Nat.add_zero,if_neg (by omega)]
  simp only [List.length_append,List.length_cons];omega
theorem num_bad {s:List UInt8} (h0:1≤s.length) (h:n8S s 0=s.length):parOK s=true:=by
 obtain ⟨neg,e,e2,e3⟩:=rest_split s
 unfold n8S at h
 rw [e2] at h
 obtain ⟨k,hk⟩:∃ k,((if neg then [45] else []:List UInt8)).length=k:=⟨_,rfl⟩
 rw [hk] at h e3
 have ls:s.length=k+(restS s).length:=by
  have:=congrArg List.length e
  rw [List.length_append,hk] at this;exact this
 unfold n8A at h
 rw [e3] at h
 unfold parOK unitS pointS partS
 have at_:∀ i,s[k+i]?=(restS s)[i]?:=fun i=>by rw [←e3,List.getElem?_drop]
 rw [at_] at h
 obtain ⟨u,hu⟩:∃ u,spanS digitS (restS s)=u:=⟨_,rfl⟩
 rw [hu] at h
 have ul:=spanS_le digitS (restS s)
 rw [hu] at ul
 by_cases c:u < 1∨u > 6
 ·rw [if_pos c] at h;omega
 ·rw [if_neg c] at h
  rcases first_split (restS s) with hn | ⟨A,B,hr,hn⟩
  ·rw [cut_not hn]
   have hx:¬((restS s)[u]?.map UInt8.toNat)=some 46:=fun q=>by
    cases g:(restS s)[u]? with
    | none=>rw [g] at q;cases q
    | some b =>
     rw [g,Option.map_some] at q
     exact hn b (List.mem_of_getElem? g) (UInt8.toNat_inj.mp (by rw [Option.some.inj q];rfl))
   rw [if_neg hx] at h
   have fl:spanS digitS (restS s)=(restS s).length:=by omega
   have:=all_ok (span_full _ fl) (by omega) (by omega)
   simp only [this,Bool.not_false,Bool.true_or,Bool.and_true]
  ·rw [hr,cut_at hn]
   have lr:(restS s).length=A.length+1+B.length:=by rw [hr,List.length_append,List.length_cons];omega
   obtain ⟨g1,g2⟩:=span_cut A B
   rw [←hr,hu] at g1 g2
   by_cases eq:u=A.length
   ·have dA:=g2 eq
    have hx:((restS s)[u]?.map UInt8.toNat)=some 46:=by
     rw [hr,eq,List.getElem?_append_right (Nat.le_refl _),Nat.sub_self];rfl
    rw [if_pos hx] at h
    unfold n8B at h
    have hd:s.drop (k+u+1)=B:=by
     rw [show k+u+1=k+(u+1) by omega,←List.drop_drop,e3,hr,eq,List.drop_append,List.drop_of_length_le (by omega),show A.length+1 - A.length=1 by omega];rfl
    rw [hd] at h
    have vl:=spanS_le digitS B
    by_cases c2:spanS digitS B < 1∨spanS digitS B > 6
    ·rw [if_pos c2] at h;omega
    ·rw [if_neg c2] at h
     have fl:spanS digitS B=B.length:=by omega
     have k1:=all_ok dA (by omega) (by omega)
     have k2:=all_ok (span_full _ fl) (by omega) (by omega)
     simp only [k1,k2,Bool.not_true,Bool.false_or,Bool.and_true]
   ·have hx:¬((restS s)[u]?.map UInt8.toNat)=some 46:=fun q=>by
     rw [hr,List.getElem?_append_left (by omega)] at q
     cases g:A[u]? with
     | none=>rw [g] at q;cases q
     | some b =>
      rw [g,Option.map_some] at q
      exact hn b (List.mem_of_getElem? g) (UInt8.toNat_inj.mp (by rw [Option.some.inj q];rfl))
    rw [if_neg hx] at h
    omega
end
end Go.VL.Nu
