/- 'glyphiclaw9.NumberParts' answers true, whatever it is given. -/
import Derived.Test.YtpobcoodmhhpaaaDoorVlK
import Derived.Test.YtpobcoodmhhpaaaDoorWoF
import Derived.Test.YtpobcoodmhhpaaaDoorVlO
set_option linter.unusedSimpArgs false
set_option linter.unusedVariables false
namespace Go.VL.Nu
open Go.FR Go.IR Go.VL Go.VL.Er Go.VL.Wo
noncomputable section
set_option maxRecDepth 100000
set_option maxHeartbeats 1000000
attribute [local go_sem] erP atV cFault t_p_api_At t_p_errors_errorString
theorem pow_loop (Gl:qzh) (d:Nat) (hd:d≤6) (K:AEx→VF→VH→Prop) (v0 v1 v3 v9:VV)
  (hK:∀ T h,qzf T 0=some v0→qzf T 1=some v1→qzf T 2=some (.int .i64 (d:Int))→qzf T 3=some v3→qzf T 9=some v9→qzf T 10=some (.int .i64 ((10 ^ d:Nat):Int))→K (.exit 0) T h) :
  ∀ (r i:Nat) (T:VF) (h:VH),r+i=d→qzf T 0=some v0→qzf T 1=some v1→qzf T 2=some (.int .i64 (d:Int))→qzf T 3=some v3→qzf T 9=some v9→qzf T 10=some (.int .i64 ((10 ^ i:Nat):Int))→qzf T 11=some (.int .i64 (i:Int)) →
   wp Go.VL.Er.E Gl (.loop c_glyphiclaw9_NumberParts_l0) T h K:=by
 intro r
 induction r with
 | zero =>
  intro i T h hi t0 t1 t2 t3 t9 t10 t11
  obtain rfl:i=d:=by omega
  refine loop_u c_glyphiclaw9_NumberParts_l0.eq_1 ?_
  simp only [simprocAttr,-Int.reduceNatCast',go_sem,t2,t11,Int.lt_irrefl]
  refine hK _ h ?_ ?_ ?_ ?_ ?_ ?_
  ·simp only [simprocAttr,-Int.reduceNatCast',go_sem,t0]
  ·simp only [simprocAttr,-Int.reduceNatCast',go_sem,t1]
  ·simp only [simprocAttr,-Int.reduceNatCast',go_sem,t2]
  ·simp only [simprocAttr,-Int.reduceNatCast',go_sem,t3]
  ·simp only [simprocAttr,-Int.reduceNatCast',go_sem,t9]
  ·simp only [simprocAttr,-Int.reduceNatCast',go_sem,t10]
 | succ r ih =>
  intro i T h hi t0 t1 t2 t3 t9 t10 t11
  refine loop_u c_glyphiclaw9_NumberParts_l0.eq_1 ?_
  have c1:(i:Int) < (d:Int):=by omega
  have p6:10 ^ i≤1000000:=pow6 (by omega)
  have w:IntKind.i64.wrap (10*((10 ^ i:Nat):Int))=((10 ^ (i+1):Nat):Int):=by
   rw [Nat.pow_succ]
   generalize 10 ^ i=P at *
   rw [qzd (by omega) (by omega)];omega
  have w1:IntKind.i64.wrap ((i:Int)+1)=((i+1:Nat):Int):=by rw [qzd (by omega) (by omega)];rfl
  simp only [simprocAttr,-Int.reduceNatCast',go_sem,t2,t10,t11,c1,w,w1]
  refine ih (i+1) _ h (by omega) ?_ ?_ ?_ ?_ ?_ ?_ ?_
  ·simp only [simprocAttr,-Int.reduceNatCast',go_sem,t0]
  ·simp only [simprocAttr,-Int.reduceNatCast',go_sem,t1]
  ·simp only [simprocAttr,-Int.reduceNatCast',go_sem,t2]
  ·simp only [simprocAttr,-Int.reduceNatCast',go_sem,t3]
  ·simp only [simprocAttr,-Int.reduceNatCast',go_sem,t9]
  ·simp only [simprocAttr,-Int.reduceNatCast',go_sem]
  ·simp only [simprocAttr,-Int.reduceNatCast',go_sem]
theorem numberParts (Gl:qzh) (g0:qzf Gl 0=some [erP 0]) (hp:GlPow Gl) (x:Int) (_:IntKind.i64.min≤x) (_:x≤IntKind.i64.max) (y:Int) (_:IntKind.i64.min≤y) (_:y≤IntKind.i64.max) (z:Int) (_:IntKind.i64.min≤z) (_:z≤IntKind.i64.max) (neg:Bool) :
  CallsV Go.VL.Er.E Gl f_glyphiclaw9_NumberParts [.int .i64 x,.int .i64 y,.int .i64 z,.bool neg] h0 (fun v _=>v = .bool true):=by
 refine qzc E_glyphiclaw9_NumberParts ?_
 unfold c_glyphiclaw9_NumberParts r_glyphiclaw9_NumberParts
 simp only [qzi]
 have n1:=Wind.numb_in x 1000000 (by omega)
 have n3:=Wind.numb_in z 6 (by omega)
 obtain ⟨u,hu⟩:∃ u:Nat,Wind.numbS x 1000000=u:=⟨(Wind.numbS x 1000000).toNat,by omega⟩
 obtain ⟨d,hd⟩:∃ d:Nat,Wind.numbS z 6=d:=⟨(Wind.numbS z 6).toNat,by omega⟩
 have q1:=Wind.numb_ok Gl x 1000000 (by omega) (by omega)
 have q3:=Wind.numb_ok Gl z 6 (by omega) (by omega)
 rw [hu] at q1 n1;rw [hd] at q3 n3
 have p6:10 ^ (d+1)≤1000000:=pow6 (by omega)
 have p1:1≤10 ^ (d+1):=Nat.pow_pos (by omega)
 obtain ⟨P,hP⟩:∃ P,10 ^ (d+1)=P:=⟨_,rfl⟩
 rw [hP] at p6 p1
 have n2:=Wind.numb_in y (P:Int) (by omega)
 obtain ⟨f,hf⟩:∃ f:Nat,Wind.numbS y (P:Int)=f:=⟨(Wind.numbS y (P:Int)).toNat,by omega⟩
 have q2:=Wind.numb_ok Gl y (P:Int) (by omega) (by omega)
 rw [hf] at q2 n2
 have wd:IntKind.i64.wrap ((d:Int)+1)=((d+1:Nat):Int):=by rw [qzd (by omega) (by omega)];rfl
 have pa:=places_ok Gl u 1 (by omega) (by omega)
 have pb:=places_ok Gl f (d+1) (by omega) (by omega)
 have pc:=places_ok Gl u 6 (by omega) (by omega)
 have la:=pl_len 10 u 1 (by omega)
 have lb:=pl_len 10 f (d+1) (by omega)
 have lc:=pl_len 10 u 6 (by omega)
 have va:valS (placesS u 1)=u:=pl_val 10 u 1 (by omega)
 have vb:valS (placesS f (d+1))=f:=pl_val 10 f (d+1) (by omega)
 have vc:valS (placesS u 6)=u:=pl_val 10 u 6 (by omega)
 have da:∀ b∈placesS u 1,digitS b=true:=pl_digits 10 u 1
 have db:∀ b∈placesS f (d+1),digitS b=true:=pl_digits 10 f (d+1)
 have dc:∀ b∈placesS u 6,digitS b=true:=pl_digits 10 u 6
 have la6:(placesS u 1).length≤6:=placesS_6 (by omega)
 have lb':(placesS f (d+1)).length=d+1:=lb.2.2 (by rw [hP];omega)
 have lc':(placesS u 6).length=6:=lc.2.2 (by omega)
 obtain ⟨A,hA⟩:∃ A,placesS u 1=A:=⟨_,rfl⟩
 obtain ⟨B,hB⟩:∃ B,placesS f (d+1)=B:=⟨_,rfl⟩
 obtain ⟨C,hC⟩:∃ C,placesS u 6=C:=⟨_,rfl⟩
 have la1:1≤A.length:=by rw [←hA];exact la.2.1
 rw [hA] at pa va da la6
 rw [hB] at pb vb db lb'
 rw [hC] at pc vc dc lc'
 obtain ⟨ok,pn⟩:=par_parts da la1 la6 db (by omega) (by omega) neg
 have kp:=parse_ok g0 ((if neg then [45] else [])++(A++(46::B))) (by cases neg<;>simp<;>omega)
 have pe:parE ((if neg then [45] else [])++(A++(46::B))) = .none:=by unfold parE;rw [if_pos ok]
 rw [pe,pn,va,vb,lb'] at kp
 have kw:=whole_ok Gl C (by omega)
 rw [whole_dig dc (by omega) (by omega),vc,all_ok dc (by omega) (by omega)] at kw
 have tp:=ten (d+1) (by omega)
 rw [hP] at tp
 have zP:¬((P:Nat):Int)=0:=by omega
 have wq:IntKind.i64.wrap (((1000000:Int)).tdiv (P:Int))=((10 ^ (6 - (d+1)):Nat):Int):=by
  have dl:=Nat.div_le_self 1000000 P
  rw [←tp,show ((1000000:Int)).tdiv (P:Int)=((1000000 / P:Nat):Int) from (Int.ofNat_tdiv 1000000 P).symm]
  generalize 1000000 / P=D at *
  exact qzd (by omega) (by omega)
 have pq:f*10 ^ (6 - (d+1)) < 1000000:=by
  rw [←tp]
  have h1:f*(1000000 / P) < P*(1000000 / P):=Nat.mul_lt_mul_of_pos_right (by omega) (Nat.div_pos p6 p1)
  have h2:P*(1000000 / P)≤1000000:=Nat.mul_div_le 1000000 P
  omega
 obtain ⟨Q,hQ⟩:∃ Q,10 ^ (6 - (d+1))=Q:=⟨_,rfl⟩
 rw [hQ] at wq pq kp
 have wu:IntKind.i64.wrap ((u:Int)*1000000)=((u*1000000:Nat):Int):=by rw [qzd (by omega) (by omega)];omega
 have wf:IntKind.i64.wrap ((f:Int)*(Q:Int))=((f*Q:Nat):Int):=by
  rw [show (f:Int)*(Q:Int)=((f*Q:Nat):Int) by simp,qzd (by omega) (by omega)]
 have ws:IntKind.i64.wrap (((u*1000000:Nat):Int)+((f*Q:Nat):Int))=((u*1000000+f*Q:Nat):Int):=by rw [qzd (by omega) (by omega)];omega
 have wm:IntKind.i64.wrap (0 - ((u*1000000+f*Q:Nat):Int))=-((u*1000000+f*Q:Nat):Int):=by rw [qzd (by omega) (by omega)];omega
 have l1:A.length+1≤9223372036854775807:=by omega
 have l2:(A++[46]).length+B.length≤9223372036854775807:=by simp only [List.length_append,List.length_singleton];omega
 have l3:1+(A++46::B).length≤9223372036854775807:=by simp only [List.length_append,List.length_cons];omega
 have es:A++[46]++B=A++46::B:=by simp
 have eu:((u:Int) == (u:Int))=true:=by simp
 simp only [simprocAttr,-Int.reduceNatCast',go_sem]
 refine qzb (first9_ok hp) rfl rfl ?_
 simp only [simprocAttr,-Int.reduceNatCast',go_sem]
 refine qzb q1 rfl rfl ?_
 simp only [simprocAttr,-Int.reduceNatCast',go_sem]
 refine qzb q3 rfl rfl ?_
 simp only [simprocAttr,-Int.reduceNatCast',go_sem,wd]
 refine pow_loop Gl (d+1) (by omega) _ (.int .i64 (u:Int)) (.int .i64 y) (.bool neg) (.bool true) ?_ (d+1) 0 _ _ (by omega) rfl rfl rfl rfl rfl rfl rfl
 intro T h t0 t1 t2 t3 t9 t10
 rw [hP] at t10
 simp only [simprocAttr,-Int.reduceNatCast',go_sem,t0,t1,t2,t3,t9,t10]
 refine qzb q2 rfl rfl ?_
 simp only [simprocAttr,-Int.reduceNatCast',go_sem,t0,t1,t2,t3,t9,t10]
 refine qzb pa rfl rfl ?_
 simp only [simprocAttr,-Int.reduceNatCast',go_sem,t0,t1,t2,t3,t9,t10,strBin,l1]
 refine qzb pb rfl rfl ?_
 cases neg
 ·simp only [Bool.false_eq_true,if_false,List.nil_append] at kp
  have ep:(((u*1000000+f*Q:Nat):Int) == ((u*1000000+f*Q:Nat):Int))=true:=by simp
  simp only [simprocAttr,-Int.reduceNatCast',go_sem,t0,t1,t2,t3,t9,t10,strBin,l2,zP,wu,wq,wf,ws,es]
  refine qzb kp rfl rfl ?_
  simp only [simprocAttr,-Int.reduceNatCast',go_sem,t0,t1,t2,t3,t9,t10]
  refine qzb pc rfl rfl ?_
  simp only [simprocAttr,-Int.reduceNatCast',go_sem]
  refine qzb kw rfl rfl ?_
  simp only [ErrV.v]
  simp only [simprocAttr,-Int.reduceNatCast',go_sem,t0,t1,t2,t3,t9,t10,ep,eu]<;>first | rfl | exact ⟨rfl,rfl⟩ | exact qza rfl
 ·simp only [if_true,List.cons_append,List.nil_append] at kp
  have ep:((-((u*1000000+f*Q:Nat):Int)) == (-((u*1000000+f*Q:Nat):Int)))=true:=by simp
  simp only [simprocAttr,-Int.reduceNatCast',go_sem,t0,t1,t2,t3,t9,t10,strBin,l2,l3,zP,wu,wq,wf,ws,wm,es]
  refine qzb kp rfl rfl ?_
  simp only [simprocAttr,-Int.reduceNatCast',go_sem,t0,t1,t2,t3,t9,t10]
  refine qzb pc rfl rfl ?_
  simp only [simprocAttr,-Int.reduceNatCast',go_sem]
  refine qzb kw rfl rfl ?_
  simp only [ErrV.v]
  simp only [simprocAttr,-Int.reduceNatCast',go_sem,t0,t1,t2,t3,t9,t10,ep,eu]<;>first | rfl | exact ⟨rfl,rfl⟩ | exact qza rfl
end
end Go.VL.Nu
