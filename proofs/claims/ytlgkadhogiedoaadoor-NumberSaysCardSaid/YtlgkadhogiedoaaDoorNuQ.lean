/- Chapter 9: the document's own digits, whole numbers, numbers' texts. -/
import Derived.Test.YtlgkadhogiedoaaDoorVlK
import Derived.Test.YtlgkadhogiedoaaDoorVlN
set_option linter.unusedSimpArgs false
set_option linter.unusedVariables false
namespace Go.VL.Nu
open Go.FR Go.IR Go.VL Go.VL.Er Go.VL.Wo
noncomputable section
set_option maxRecDepth 100000
set_option maxHeartbeats 1000000
attribute [local go_sem] erP t_p_api_At
theorem digit8_ok (Gl:qzh) (b:UInt8):qzg Go.VL.Er.E Gl f_glyphicref8_digit [u8V b] (.bool (digitS b)):=by
 refine qzd (qzc E_glyphicref8_digit ?_)
 unfold c_glyphicref8_digit r_glyphicref8_digit digitS
 simp only [qzi]
 by_cases h1:48≤b.toNat
 ·have c1:((b.toNat:Nat):Int) ≥ 48:=by omega
  have e2:decide (((b.toNat:Nat):Int)≤57)=decide (b.toNat≤57):=by congr 1;exact propext ⟨fun h=>by omega,fun h=>by omega⟩
  simp only [simprocAttr,-Int.reduceNatCast',go_sem,c1,h1,e2]
  exact qza rfl
 ·have c1:¬((b.toNat:Nat):Int) ≥ 48:=by omega
  simp only [simprocAttr,-Int.reduceNatCast',go_sem,c1,h1]
  exact qza rfl
theorem all_step (b:UInt8) (r:List UInt8):(b::r).all digitS=(digitS b && r.all digitS):=rfl
theorem whole8_loop (Gl:qzh) (s:List UInt8) (hl:s.length≤6) (N:Nat) (K:AEx→VF→VH→Prop)
  (hK0:s.all digitS=true→∀ T h,qzf T 4=some (.int .i64 (N:Int))→K (.exit 0) T h) (hK1:s.all digitS=false→∀ T h,qzf T 2=some (.int .i64 0)→qzf T 3=some (.bool false)→K .ret T h) :
  ∀ (r:List UInt8) (k n:Nat) (T:VF) (h:VH),s.drop k=r→k≤s.length→n < 10 ^ k→valF n r=N→r.all digitS=s.all digitS→qzf T 0=some (.str s)→qzf T 4=some (.int .i64 (n:Int))→qzf T 5=some (.int .i64 (k:Int)) →
   wp Go.VL.Er.E Gl (.loop c_glyphicref8_Whole_l0) T h K:=by
 intro r
 induction r with
 | nil =>
  intro k n T h hr hk hn hN ha t0 t4 t5
  have:s.length≤k:=by simpa using List.drop_eq_nil_iff.mp hr
  obtain rfl:k=s.length:=by omega
  refine qzj c_glyphicref8_Whole_l0.eq_1 ?_
  simp only [simprocAttr,-Int.reduceNatCast',go_sem,t0,t4,t5,Int.lt_irrefl]
  refine hK0 ha.symm _ h ?_
  simp only [simprocAttr,-Int.reduceNatCast',go_sem,t4]
  rw [←hN];rfl
 | cons b r ih =>
  intro k n T h hr hk hn hN ha t0 t4 t5
  have hx:s[k]?=some b:=by
   have:=congrArg (fun l=>l[0]?) hr
   simpa using this
  have hlt:k < s.length:=(List.getElem?_eq_some_iff.1 hx).1
  have c1:(k:Int) < s.length:=by omega
  have hr':s.drop (k+1)=r:=by
   rw [drop_at hx] at hr;exact (List.cons.inj hr).2
  have w1:IntKind.i64.wrap ((k:Int)+1)=((k+1:Nat):Int):=by rw [qze (by omega) (by omega)];rfl
  have n18:n < 100000000000000000:=Nat.lt_of_lt_of_le hn (pow17 (by omega))
  rw [all_step] at ha
  refine qzj c_glyphicref8_Whole_l0.eq_1 ?_
  simp only [simprocAttr,-Int.reduceNatCast',go_sem,t0,t4,t5,c1,natOf_n,hx]
  refine qzb (digit8_ok Gl b) rfl rfl ?_
  cases q:digitS b
  ·rw [q,Bool.false_and] at ha
   simp only [simprocAttr,-Int.reduceNatCast',go_sem]
   refine hK1 ha.symm _ h ?_ ?_
   ·simp only [simprocAttr,-Int.reduceNatCast',go_sem]
   ·simp only [simprocAttr,-Int.reduceNatCast',go_sem]
  ·rw [q,Bool.true_and] at ha
   have db:=digit_le q
   have dd:=dv_def b
   obtain ⟨d,hd'⟩:∃ d,dv b=d:=⟨_,rfl⟩
   have hn':10*n+d < 10 ^ (k+1):=step10 hn (by omega)
   clear hn
   have wd:IntKind.u8.wrap (((b.toNat:Nat):Int) - 48)=(d:Int):=by
    show (((b.toNat:Nat):Int) - 48) % 256=_
    omega
   have wi:IntKind.i64.wrap (d:Int)=d:=qze (by omega) (by omega)
   have w10:IntKind.i64.wrap (10*(n:Int))=((10*n:Nat):Int):=by rw [qze (by omega) (by omega)];omega
   have w11:IntKind.i64.wrap (((10*n:Nat):Int)+(d:Int))=((10*n+d:Nat):Int):=by rw [qze (by omega) (by omega)];omega
   have hN:valF (10*n+d) r=N:=by rw [←hd'];exact hN
   simp only [simprocAttr,-Int.reduceNatCast',go_sem,t0,t4,t5,natOf_n,hx,wd,wi,w10,w11,w1]
   refine ih (k+1) (10*n+d) _ h hr' (by omega) hn' hN ha ?_ ?_ ?_
   ·simp only [simprocAttr,-Int.reduceNatCast',go_sem,t0]
   ·simp only [simprocAttr,-Int.reduceNatCast',go_sem]
   ·simp only [simprocAttr,-Int.reduceNatCast',go_sem]
theorem whole8_ok (Gl:qzh) (s:List UInt8) (hl:s.length < 4611686018427387904):qzg Go.VL.Er.E Gl f_glyphicref8_Whole [.str s] (.tuple [.int .i64 ((wholeV s:Nat):Int),.bool (allS s)]):=by
 refine qzd (qzc E_glyphicref8_Whole ?_)
 unfold c_glyphicref8_Whole r_glyphicref8_Whole
 simp only [qzi]
 by_cases h1:s.length < 1
 ·have c1:(s.length:Int) < 1:=by omega
  have a0:allS s=false:=by unfold allS;rw [decide_eq_false (show ¬1≤s.length by omega),Bool.and_false,Bool.false_and]
  unfold wholeV
  rw [a0,if_neg Bool.false_ne_true]
  simp only [simprocAttr,-Int.reduceNatCast',go_sem,c1]
  exact qza rfl
 ·have c1:¬(s.length:Int) < 1:=by omega
  by_cases h6:s.length > 6
  ·have c6:(s.length:Int) > 6:=by omega
   have a0:allS s=false:=by unfold allS;rw [decide_eq_false (show ¬s.length≤6 by omega),Bool.and_false]
   unfold wholeV
   rw [a0,if_neg Bool.false_ne_true]
   simp only [simprocAttr,-Int.reduceNatCast',go_sem,c1,c6]
   exact qza rfl
  ·have c6:¬(s.length:Int) > 6:=by omega
   have ae:allS s=s.all digitS:=by unfold allS;rw [decide_eq_true (show s.length≤6 by omega),decide_eq_true (show 1≤s.length by omega),Bool.and_true,Bool.and_true]
   simp only [simprocAttr,-Int.reduceNatCast',go_sem,c1,c6]
   refine whole8_loop Gl s (by omega) (valS s) _ ?_ ?_ s 0 0 _ _ rfl (Nat.zero_le _) (by decide) rfl rfl rfl rfl rfl
   ·intro ha T h t4
    unfold wholeV
    rw [ae,ha,if_pos rfl]
    simp only [simprocAttr,-Int.reduceNatCast',go_sem,t4]
    exact qza rfl
   ·intro ha T h t2 t3
    unfold wholeV
    rw [ae,ha,if_neg Bool.false_ne_true]
    simp only [simprocAttr,-Int.reduceNatCast',go_sem,t2,t3]
    exact qza rfl
theorem show8_loop (Gl:qzh) (R:List UInt8) (hR0:R≠[]) (v3:VV) (K:AEx→VF→VH→Prop) (hK:∀ T h,qzf T 3=some v3→qzf T 5=some (.str R)→K (.exit 0) T h) :
  ∀ (r:List UInt8) (T:VF) (h:VH),r.length < 4611686018427387904→(r.dropWhile (· == 48)).reverse=R→qzf T 3=some v3→qzf T 5=some (.str r.reverse) →
   wp Go.VL.Er.E Gl (.loop c_glyphicref8_ShowNumber_l0) T h K:=by
 intro r
 induction r with
 | nil=>intro T h hl hR;exact absurd hR.symm hR0
 | cons b r ih =>
  intro T h hl hR t3 t5
  simp only [List.length_cons] at hl
  refine qzj c_glyphicref8_ShowNumber_l0.eq_1 ?_
  obtain ⟨s,hs⟩:∃ s,(b::r).reverse=s:=⟨_,rfl⟩
  have ls:s.length=r.length+1:=by rw [←hs];simp
  rw [hs] at t5
  have w:IntKind.i64.wrap (((s.length:Nat):Int) - 1)=((r.length:Nat):Int):=by rw [qze (by omega) (by omega)];omega
  have hx:s[r.length]?=some b:=by rw [←hs,List.reverse_cons,List.getElem?_append_right (by simp)];simp
  have st:s.take r.length=r.reverse:=by rw [←hs,List.reverse_cons,List.take_left' (by simp)]
  have l1:r.length≤s.length:=by omega
  have e:(((b.toNat:Nat):Int) == 48)=(b == 48):=by
   rw [show (48:Int)=(((48:UInt8).toNat:Nat):Int) from rfl,beq_nat,Bool.eq_iff_iff,beq_iff_eq,beq_iff_eq,UInt8.toNat_inj]
  rw [List.dropWhile_cons] at hR
  cases q:(b == 48)
  ·rw [q,if_neg (by simp)] at hR
   simp only [simprocAttr,-Int.reduceNatCast',go_sem,t3,t5,w,natOf_n,hx,e,q]
   refine hK _ h ?_ ?_
   ·simp only [simprocAttr,-Int.reduceNatCast',go_sem,t3]
   ·simp only [simprocAttr,-Int.reduceNatCast',go_sem,t5]
    rw [←hR,←hs]
  ·rw [q,if_pos rfl] at hR
   simp only [simprocAttr,-Int.reduceNatCast',go_sem,t3,t5,w,natOf_n,hx,e,q,l1,st,Nat.sub_zero]
   refine ih _ h (by omega) hR ?_ ?_
   ·simp only [simprocAttr,-Int.reduceNatCast',go_sem,t3]
   ·simp only [simprocAttr,-Int.reduceNatCast',go_sem]
theorem trim_ne {m:Nat} (z:¬m % 1000000=0):trimS 48 ((decS (1000000+m % 1000000)).drop 1)≠[]:=by
 obtain ⟨v,hv⟩:∃ v,1000000+m % 1000000=v:=⟨_,rfl⟩
 have d7:=dec7 (u:=v) (by omega) (by omega)
 have dd:=dec_digits 20 v
 have dv':valS (decS v)=v:=dec_valS (by omega)
 obtain ⟨b,D,hD⟩:∃ b D,decS v=b::D:=⟨_,_,d7⟩
 have lD:D.length=6:=by
  have:=congrArg List.length d7
  rw [hD] at this
  simp at this;omega
 have dD:∀ x∈D,digitS x=true:=fun x hx=>dd x (by show x∈decS v;rw [hD];exact .tail _ hx)
 have tr:(decS v).drop 1=D:=by rw [hD];rfl
 rw [hv,tr]
 intro e
 obtain ⟨k,hk⟩:=trim_split 48 D
 rw [e,List.nil_append] at hk
 have vD:valS D=0:=by
  rw [hk]
  show valF 0 _=0
  rw [valF_zeros,Nat.zero_mul]
 have e2:valS (b::D)=(10*0+dv b)*10 ^ D.length+valS D:=by
  show valF 0 (b::D)=_
  rw [valF_cons,valF_lin]
 rw [hD,e2,lD,vD] at dv'
 simp only [Nat.reducePow] at dv'
 omega
theorem show8_ok {Gl:qzh} (hp:GlPow Gl) (n:Int) (h1:-10000000000000 < n) (h2:n < 10000000000000):qzg Go.VL.Er.E Gl f_glyphicref8_ShowNumber [.int .i64 n] (.str (showN n)):=by
 refine qzd (qzc E_glyphicref8_ShowNumber ?_)
 unfold c_glyphicref8_ShowNumber r_glyphicref8_ShowNumber
 simp only [qzi]
 obtain ⟨m,hm⟩:∃ m:Nat,n.natAbs=m:=⟨_,rfl⟩
 have ml:m < 10000000000000:=by omega
 have k1:=fmt_ok hp (m / 1000000) (by omega)
 have k2:=fmt_ok hp (1000000+m % 1000000) (by omega)
 have wq:IntKind.i64.wrap (((m:Nat):Int).tdiv 1000000)=((m / 1000000:Nat):Int):=by
  rw [show ((m:Nat):Int).tdiv 1000000=((m / 1000000:Nat):Int) from rfl,qze (by omega) (by omega)]
 have wr:((m:Nat):Int).tmod 1000000=((m % 1000000:Nat):Int):=rfl
 have wa:IntKind.i64.wrap (((m % 1000000:Nat):Int)+1000000)=((1000000+m % 1000000:Nat):Int):=by rw [qze (by omega) (by omega)];omega
 have d1:=decS_len (m / 1000000)
 have d2:=decS_len (1000000+m % 1000000)
 have tn:=fun z=>trim_ne (m:=m) z
 obtain ⟨D,hD⟩:∃ D,decS (m / 1000000)=D:=⟨_,rfl⟩
 obtain ⟨F,hF⟩:∃ F,decS (1000000+m % 1000000)=F:=⟨_,rfl⟩
 have f1:1≤F.length:=by
  rw [←hF];unfold decS;rw [decF_s,if_neg (by omega)];simp
 have t3:=trimS_len 48 (F.drop 1)
 rw [List.length_drop] at t3
 have e0:(((m % 1000000:Nat):Int) == 0)=decide (m % 1000000=0):=by
  rw [Bool.eq_iff_iff,beq_iff_eq,decide_eq_true_eq];omega
 have z1:natOf (.int .i64 1)=some 1:=rfl
 have tF:(F.drop 1).take (F.length - 1)=F.drop 1:=List.take_of_length_le (by rw [List.length_drop];omega)
 have zm:¬(1000000:Int)=0:=by omega
 rw [hD] at k1 d1;rw [hF] at k2 d2 tn
 unfold showN showU
 rw [hm,hD,hF]
 obtain ⟨R,hR⟩:∃ R,trimS 48 (F.drop 1)=R:=⟨_,rfl⟩
 rw [hR] at tn t3 ⊢
 have l0:([]:List UInt8).length+D.length≤9223372036854775807:=by simp;omega
 have l0':D.length≤9223372036854775807:=by omega
 have l1:1+D.length≤9223372036854775807:=by omega
 have l2:([45]++D).length+1≤9223372036854775807:=by simp;omega
 have l2':(45::D).length+1≤9223372036854775807:=by simp;omega
 have l3:D.length+1≤9223372036854775807:=by omega
 have l4:(D++[46]).length+R.length≤9223372036854775807:=by simp only [List.length_append,List.length_cons,List.length_nil];omega
 have l5':(45::(D++[46])).length+R.length≤9223372036854775807:=by simp only [List.length_append,List.length_cons,List.length_nil];omega
 have l6:D.length+1+1≤9223372036854775807:=by omega
 have l7:D.length+1+1+R.length≤9223372036854775807:=by omega
 have l9:(D++[46]).length+1+R.length≤9223372036854775807:=by simp only [List.length_append,List.length_cons,List.length_nil];omega
 have l8:D.length+1+R.length≤9223372036854775807:=by omega
 by_cases neg:n < 0
 case' pos =>
  have wn:IntKind.i64.wrap (0 - n)=((m:Nat):Int):=by rw [qze (by omega) (by omega)];omega
  rw [if_pos neg]
 case' neg =>
  obtain rfl:n=((m:Nat):Int):=by omega
  have wn:=True.intro
  rw [if_neg neg]
 all_goals
  by_cases z:m % 1000000=0
  ·rw [if_pos z]
   have e0':(((m % 1000000:Nat):Int) == 0)=true:=by rw [e0,decide_eq_true z]
   simp only [simprocAttr,-Int.reduceNatCast',go_sem,neg,wn,wq,wr,e0',zm]
   refine qzb k1 rfl rfl ?_
   simp only [simprocAttr,-Int.reduceNatCast',go_sem,strBin,l0,l0',l1,e0',wr,zm]
   exact qza (by first | rfl | simp)
  ·rw [if_neg z]
   have e0':(((m % 1000000:Nat):Int) == 0)=false:=by rw [e0,decide_eq_false z]
   simp only [simprocAttr,-Int.reduceNatCast',go_sem,neg,wn,wq,wr,e0',zm]
   refine qzb k1 rfl rfl ?_
   simp only [simprocAttr,-Int.reduceNatCast',go_sem,strBin,l0,l0',l1,e0',wr,wa,l2,l2',l3,l6,zm]
   refine qzb k2 rfl rfl ?_
   simp only [simprocAttr,-Int.reduceNatCast',go_sem,z1,f1,tF]
   refine show8_loop Gl R (tn z) _ _ ?_ (F.drop 1).reverse _ _ (by rw [List.length_reverse,List.length_drop];omega) (by rw [←hR];rfl) rfl (by rw [List.reverse_reverse];rfl)
   intro T h t3 t5
   simp only [simprocAttr,-Int.reduceNatCast',go_sem,t3,t5,strBin,l2,l2',l3,l4,l5',l6,l7,l8,l9]
   simp only [List.append_assoc,List.cons_append,List.nil_append]
   exact qza rfl
end
end Go.VL.Nu
