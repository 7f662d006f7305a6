/- 'glyphiclaw9.NumberBack' answers true, whatever it is given. -/
import Derived.Test.YtpobcoodmhhpaaaDoorVlK
import Derived.Test.YtpobcoodmhhpaaaDoorNuJ
import Derived.Test.YtpobcoodmhhpaaaDoorVlN
set_option linter.unusedSimpArgs false
set_option linter.unusedVariables false
namespace Go.VL.Nu
open Go.FR Go.IR Go.VL Go.VL.Er Go.VL.Wo
noncomputable section
set_option maxRecDepth 100000
set_option maxHeartbeats 2000000
def ptF:List UInt8→Nat→Int→Int
 | [],_,p=>p
 | b::s,k,p=>ptF s (k+1) (if b.toNat=46 then (k:Int) else p)
attribute [local go_sem] erP atV cFault t_p_api_At t_p_errors_errorString
theorem pt_loop (Gl:qzg) (s:List UInt8) (hl:s.length < 1000000) (P:Int) (K:AEx→VF→VH→Prop) (v0 v1 v5:VV)
  (hK:∀ T h,qzf T 0=some v0→qzf T 1=some v1→qzf T 5=some v5→qzf T 6=some (.str s)→qzf T 9=some (.int .i64 P)→K (.exit 0) T h) :
  ∀ (r:List UInt8) (k:Nat) (p:Int) (T:VF) (h:VH),s.drop k=r→k≤s.length→ptF r k p=P→qzf T 0=some v0→qzf T 1=some v1→qzf T 5=some v5→qzf T 6=some (.str s)→qzf T 9=some (.int .i64 p)→qzf T 10=some (.int .i64 (k:Int)) →
   wp Go.VL.Er.E Gl (.loop c_glyphiclaw9_NumberBack_l1) T h K:=by
 intro r
 induction r with
 | nil =>
  intro k p T h hr hk hP t0 t1 t5 t6 t9 t10
  have:s.length≤k:=by simpa using List.drop_eq_nil_iff.mp hr
  obtain rfl:k=s.length:=by omega
  refine loop_u c_glyphiclaw9_NumberBack_l1.eq_1 ?_
  simp only [simprocAttr,-Int.reduceNatCast',go_sem,t6,t10,Int.lt_irrefl]
  refine hK _ h ?_ ?_ ?_ ?_ ?_
  ·simp only [simprocAttr,-Int.reduceNatCast',go_sem,t0]
  ·simp only [simprocAttr,-Int.reduceNatCast',go_sem,t1]
  ·simp only [simprocAttr,-Int.reduceNatCast',go_sem,t5]
  ·simp only [simprocAttr,-Int.reduceNatCast',go_sem,t6]
  ·simp only [simprocAttr,-Int.reduceNatCast',go_sem,t9]
   rw [←hP];rfl
 | cons b r ih =>
  intro k p T h hr hk hP t0 t1 t5 t6 t9 t10
  have hx:s[k]?=some b:=by
   have:=congrArg (fun l=>l[0]?) hr
   simpa using this
  have hlt:k < s.length:=(List.getElem?_eq_some_iff.1 hx).1
  have c1:(k:Int) < s.length:=by omega
  have hr':s.drop (k+1)=r:=by
   rw [drop_at hx] at hr;exact (List.cons.inj hr).2
  have w1:IntKind.i64.wrap ((k:Int)+1)=((k+1:Nat):Int):=by rw [qzd (by omega) (by omega)];rfl
  refine loop_u c_glyphiclaw9_NumberBack_l1.eq_1 ?_
  have e:(((b.toNat:Nat):Int) == 46)=decide (b.toNat=46):=by rw [Bool.eq_iff_iff,beq_iff_eq,decide_eq_true_eq];omega
  unfold ptF at hP
  by_cases q:b.toNat=46
  ·rw [if_pos q] at hP
   have e':(((b.toNat:Nat):Int) == 46)=true:=by rw [e,decide_eq_true q]
   simp only [simprocAttr,-Int.reduceNatCast',go_sem,t6,t9,t10,c1,hx,natOf_n,e',w1]
   refine ih (k+1) (k:Int) _ h hr' (by omega) hP ?_ ?_ ?_ ?_ ?_ ?_
   ·simp only [simprocAttr,-Int.reduceNatCast',go_sem,t0]
   ·simp only [simprocAttr,-Int.reduceNatCast',go_sem,t1]
   ·simp only [simprocAttr,-Int.reduceNatCast',go_sem,t5]
   ·simp only [simprocAttr,-Int.reduceNatCast',go_sem,t6]
   ·simp only [simprocAttr,-Int.reduceNatCast',go_sem]
   ·simp only [simprocAttr,-Int.reduceNatCast',go_sem]
  ·rw [if_neg q] at hP
   have e':(((b.toNat:Nat):Int) == 46)=false:=by rw [e,decide_eq_false q]
   simp only [simprocAttr,-Int.reduceNatCast',go_sem,t6,t9,t10,c1,hx,natOf_n,e',w1]
   refine ih (k+1) p _ h hr' (by omega) hP ?_ ?_ ?_ ?_ ?_ ?_
   ·simp only [simprocAttr,-Int.reduceNatCast',go_sem,t0]
   ·simp only [simprocAttr,-Int.reduceNatCast',go_sem,t1]
   ·simp only [simprocAttr,-Int.reduceNatCast',go_sem,t5]
   ·simp only [simprocAttr,-Int.reduceNatCast',go_sem,t6]
   ·simp only [simprocAttr,-Int.reduceNatCast',go_sem,t9]
   ·simp only [simprocAttr,-Int.reduceNatCast',go_sem]
theorem ptF_none:∀ (A B:List UInt8) (k:Nat) (p:Int),(∀ b∈A,b≠46)→ptF (A++B) k p=ptF B (k+A.length) p
 | [],B,k,p,_=>rfl
 | b::A,B,k,p,h=>by
  have hb:¬b.toNat=46:=fun e=>h b (.head _) (UInt8.toNat_inj.mp (by rw [e];rfl))
  rw [List.cons_append,ptF,if_neg hb,ptF_none A B (k+1) p (fun x hx=>h x (.tail _ hx)),List.length_cons]
  congr 1;omega
theorem z_loop (Gl:qzg) (Z:Nat) (zs:Int) (hz:(IntKind.i64.wrap (zs.tmod 7+7)).tmod 7=(Z:Int)) (hZ:Z < 7) (A:List UInt8) (pt:Nat) (hA:pt < A.length) (hl:A.length < 1000) (b0:Nat) (hb0:A.length=pt+1+b0) (N:Nat) (hN:N=min Z (6 - b0)) (K:AEx→VF→VH→Prop) (v0 v5 v6:VV)
  (hK:∀ T h,qzf T 0=some v0→qzf T 5=some v5→qzf T 6=some v6→qzf T 11=some (.str (A++List.replicate N 48))→K (.exit 2) T h) :
  ∀ (d i:Nat) (T:VF) (h:VH),d+i=N→qzf T 0=some v0→qzf T 1=some (.int .i64 zs)→qzf T 5=some v5→qzf T 6=some v6→qzf T 9=some (.int .i64 (pt:Int))→qzf T 11=some (.str (A++List.replicate i 48))→qzf T 12=some (.int .i64 (i:Int)) →
   wp Go.VL.Er.E Gl (.loop c_glyphiclaw9_NumberBack_l0) T h K:=by
 have z7:¬(7:Int)=0:=by omega
 intro d
 induction d with
 | zero =>
  intro i T h hd t0 t1 t5 t6 t9 t11 t12
  obtain rfl:i=N:=by omega
  refine loop_u c_glyphiclaw9_NumberBack_l0.eq_1 ?_
  have ll:(A++List.replicate i 48).length=pt+1+b0+i:=by simp [hb0]
  have w1:IntKind.i64.wrap (((A++List.replicate i 48).length:Int) - (pt:Int))=((1+b0+i:Nat):Int):=by rw [ll,qzd (by omega) (by omega)];omega
  have w2:IntKind.i64.wrap (((1+b0+i:Nat):Int) - 1)=((b0+i:Nat):Int):=by rw [qzd (by omega) (by omega)];omega
  by_cases c:i < Z
  ·have c1:(i:Int) < (Z:Int):=by omega
   have c2:¬((b0+i:Nat):Int) < 6:=by omega
   simp only [simprocAttr,-Int.reduceNatCast',go_sem,t1,t9,t11,t12,z7,hz,c1,w1,w2,c2]
   refine hK _ h ?_ ?_ ?_ ?_
   ·simp only [simprocAttr,-Int.reduceNatCast',go_sem,t0]
   ·simp only [simprocAttr,-Int.reduceNatCast',go_sem,t5]
   ·simp only [simprocAttr,-Int.reduceNatCast',go_sem,t6]
   ·simp only [simprocAttr,-Int.reduceNatCast',go_sem,t11]
  ·have c1:¬(i:Int) < (Z:Int):=by omega
   simp only [simprocAttr,-Int.reduceNatCast',go_sem,t1,t9,t11,t12,z7,hz,c1]
   refine hK _ h ?_ ?_ ?_ ?_
   ·simp only [simprocAttr,-Int.reduceNatCast',go_sem,t0]
   ·simp only [simprocAttr,-Int.reduceNatCast',go_sem,t5]
   ·simp only [simprocAttr,-Int.reduceNatCast',go_sem,t6]
   ·simp only [simprocAttr,-Int.reduceNatCast',go_sem,t11]
 | succ d ih =>
  intro i T h hd t0 t1 t5 t6 t9 t11 t12
  refine loop_u c_glyphiclaw9_NumberBack_l0.eq_1 ?_
  have ll:(A++List.replicate i 48).length=pt+1+b0+i:=by simp [hb0]
  have w1:IntKind.i64.wrap (((A++List.replicate i 48).length:Int) - (pt:Int))=((1+b0+i:Nat):Int):=by rw [ll,qzd (by omega) (by omega)];omega
  have w2:IntKind.i64.wrap (((1+b0+i:Nat):Int) - 1)=((b0+i:Nat):Int):=by rw [qzd (by omega) (by omega)];omega
  have c1:(i:Int) < (Z:Int):=by omega
  have c2:((b0+i:Nat):Int) < 6:=by omega
  have l1:(A++List.replicate i 48).length+1≤9223372036854775807:=by omega
  have w3:IntKind.i64.wrap ((i:Int)+1)=((i+1:Nat):Int):=by rw [qzd (by omega) (by omega)];rfl
  simp only [simprocAttr,-Int.reduceNatCast',go_sem,t1,t9,t11,t12,z7,hz,c1,w1,w2,c2,strBin,l1,w3]
  refine ih (i+1) _ h (by omega) ?_ ?_ ?_ ?_ ?_ ?_ ?_
  ·simp only [simprocAttr,-Int.reduceNatCast',go_sem,t0]
  ·simp only [simprocAttr,-Int.reduceNatCast',go_sem,t1]
  ·simp only [simprocAttr,-Int.reduceNatCast',go_sem,t5]
  ·simp only [simprocAttr,-Int.reduceNatCast',go_sem,t6]
  ·simp only [simprocAttr,-Int.reduceNatCast',go_sem,t9]
  ·simp only [simprocAttr,-Int.reduceNatCast',go_sem]
   rw [List.replicate_succ',List.append_assoc]
  ·simp only [simprocAttr,-Int.reduceNatCast',go_sem]
theorem show_eq (n:Int) {U B:List UInt8} (h:Shape n.natAbs U B):showN n=(if decide (n < 0) then [45] else [])++(U++(if B=[] then [] else 46::B)):=by
 unfold showN
 rw [h.show_]
 by_cases q:n < 0<;>simp [q]
theorem val_neg (n:Int) {v:Nat} (h:v=n.natAbs):(if decide (n < 0) then -((v:Nat):Int) else ((v:Nat):Int))=n:=by
 by_cases q:n < 0
 ·rw [decide_eq_true q,if_pos rfl];omega
 ·rw [decide_eq_false q,if_neg Bool.false_ne_true];omega
theorem allS_sg (neg:Bool) {U:List UInt8} (hU:∀ b∈U,digitS b=true) (u1:1≤U.length) (u6:U.length≤6):allS ((if neg then [45] else [])++U) = !neg:=by
 cases neg
 ·exact all_ok hU u1 u6
 ·have:digitS 45=false:=by decide
  simp [allS,this]
theorem allS_pt (A B:List UInt8):allS (A++46::B)=false:=by
 have:digitS 46=false:=by decide
 simp [allS,this]
theorem sg_ne (neg:Bool) {U:List UInt8} (hU:∀ b∈U,digitS b=true):∀ b∈((if neg then [45] else [])++U:List UInt8),b≠46:=fun b hb=>by
 rcases List.mem_append.mp hb with h | h
 ·cases neg
  ·simp at h
  ·simp at h;rw [h];decide
 ·exact (digit_ne (hU b h)).1
theorem sg_len (neg:Bool):((if neg then [45] else []):List UInt8).length≤1:=by cases neg<;>simp
theorem tail_last (A:List UInt8) (c:UInt8):(A++[c])[A.length]?=some c:=by simp
theorem tmod6 {n:Int} {m:Nat} (hm:n.natAbs=m) {neg:Bool} (nn:neg=true ↔ n < 0):n.tmod 1000000=if neg then -((m % 1000000:Nat):Int) else ((m % 1000000:Nat):Int):=by
 have r:((m:Nat):Int).tmod 1000000=((m % 1000000:Nat):Int):=rfl
 cases neg with
 | true =>
  have q:=nn.mp rfl
  obtain rfl:n=-(m:Int):=by omega
  rw [if_pos rfl,Int.neg_tmod,r]
 | false =>
  have q:¬n < 0:=fun q=>by have:=nn.mpr q;cases this
  obtain rfl:n=(m:Int):=by omega
  rw [if_neg Bool.false_ne_true,r]
theorem mul_back {m:Nat} (h:m % 1000000=0):m / 1000000*1000000=m:=by omega
theorem mul_back2 (m:Nat) {r:Nat} (h:r=m % 1000000):m / 1000000*1000000+r=m:=by omega
theorem tdiv6 (m:Nat) (h:m < 1000000000000):IntKind.i64.wrap (((m:Nat):Int).tdiv 1000000)=((m / 1000000:Nat):Int):=by
 rw [show ((m:Nat):Int).tdiv 1000000=((m / 1000000:Nat):Int) from rfl,qzd (by omega) (by omega)]
theorem numberBack (Gl:qzg) (g0:qzf Gl 0=some [erP 0]) (hp:GlPow Gl) (x:Int) (_:IntKind.i64.min≤x) (_:x≤IntKind.i64.max) (zs:Int) (_:IntKind.i64.min≤zs) (_:zs≤IntKind.i64.max) :
  CallsV Go.VL.Er.E Gl f_glyphiclaw9_NumberBack [.int .i64 x,.int .i64 zs] h0 (fun v _=>v = .bool true):=by
 refine qzc E_glyphiclaw9_NumberBack ?_
 unfold c_glyphiclaw9_NumberBack r_glyphiclaw9_NumberBack
 simp only [qzi]
 have zt:¬(1000000000000:Int)=0:=by omega
 have zm:¬(1000000:Int)=0:=by omega
 have b1:=Int.lt_tmod_of_pos x (show (0:Int) < 1000000000000 by omega)
 have b2:=Int.tmod_lt_of_pos x (show (0:Int) < 1000000000000 by omega)
 obtain ⟨Z,hZ,ez⟩:=modn zs 7 (by omega) (by omega)
 have ez:(IntKind.i64.wrap (zs.tmod 7+7)).tmod 7=(Z:Int):=ez
 simp only [↓reduceIte,Nat.reduceAdd,Nat.reduceMul,Nat.reduceSub,Nat.reduceDiv,Nat.reduceLT,Nat.reduceEqDiff,reduceCtorEq,Nat.reduceLeDiff,Nat.reduceBEq,Int.reduceEq,Int.reduceLT,Int.reduceLE,Int.reduceBEq,Int.reduceGT,go_sem]
 refine qzb (first9_ok hp) rfl rfl ?_
 simp only [↓reduceIte,Nat.reduceAdd,Nat.reduceMul,Nat.reduceSub,Nat.reduceDiv,Nat.reduceLT,Nat.reduceEqDiff,reduceCtorEq,Nat.reduceLeDiff,Nat.reduceBEq,Int.reduceEq,Int.reduceLT,Int.reduceLE,Int.reduceBEq,Int.reduceGT,go_sem,zt]
 generalize x.tmod 1000000000000=n at *
 obtain ⟨m,hm⟩:∃ m:Nat,n.natAbs=m:=⟨_,rfl⟩
 have mb:m < 1000000000000:=by omega
 obtain ⟨U,B,sh⟩:=shape_of n.natAbs (by omega)
 have se:=show_eq n sh
 have ks:=show_ok hp n (by omega) (by omega)
 obtain ⟨neg,hneg⟩:∃ neg:Bool,decide (n < 0)=neg:=⟨_,rfl⟩
 have nn:neg=true ↔ n < 0:=by rw [←hneg];simp
 rw [hm] at sh
 obtain ⟨hu,u1,u6,uv,hb,b6,bv,last,zero,_⟩:=sh
 have sl:=sg_len neg
 have e6:=tmod6 hm nn
 have en:((n:Int) != n)=false:=by simp
 have en':((n:Int) == n)=true:=by simp
 have vn:(if decide (n < 0) then -((m:Nat):Int) else ((m:Nat):Int))=n:=val_neg n hm.symm
 rw [hneg] at se vn
 rw [se] at ks
 have gneg:neg=true→¬n ≥ 0:=fun q=>by have:=nn.mp q;omega
 have gpos:neg=false→n ≥ 0∧n=(m:Int):=fun q=>by
  have:¬n < 0:=fun c=>by rw [nn.mpr c] at q;cases q
  omega
 have ne46:=sg_ne neg hu
 obtain ⟨sg,hsg⟩:∃ sg:List UInt8,(if neg then [45] else [])=sg:=⟨_,rfl⟩
 refine qzb ks rfl rfl ?_
 by_cases hB:B=[]
 ·
  have r0:=zero.mp hB
  subst hB
  simp only [if_true,List.append_nil] at ks se ⊢
  have pw:=par_whole hu u1 u6 neg
  have c6:((n.tmod 1000000) != 0)=false:=by rw [e6,r0];cases neg<;>rfl
  have c6':((n.tmod 1000000) == 0)=true:=by rw [e6,r0];cases neg<;>rfl
  rw [uv,mul_back r0,vn] at pw
  have aS:=allS_sg neg hu u1 u6
  have wS:neg=false→wholeV ((if neg then [45] else [])++U)=m / 1000000:=fun q=>by
   rw [q,if_neg Bool.false_ne_true,List.nil_append,whole_dig hu u1 u6,uv]
  obtain ⟨N,hN⟩:∃ N,min Z (6 - 0)=N:=⟨_,rfl⟩
  have pz:∀ k,1≤k→k≤6→parOK (sg++(U++46::List.replicate k 48))=true∧parN (sg++(U++46::List.replicate k 48))=n:=fun k k1 k6=>by
   have:=par_parts hu u1 u6 (B:=List.replicate k 48) (fun b hb=>by rw [List.eq_of_mem_replicate hb];decide) (by simp;omega) (by simp;omega) neg
   have v0:valS (List.replicate k 48)=0:=by
    show valF 0 _=0
    rw [valF_zeros,Nat.zero_mul]
   rw [v0,Nat.zero_mul,Nat.add_zero,uv,mul_back r0,vn,hsg] at this
   exact this
  have kw:=whole_ok Gl (sg++U) (by rw [List.length_append,←hsg];omega)
  rw [hsg] at pw ne46 aS ks sl wS ⊢
  obtain ⟨S,hS⟩:∃ S,sg++U=S:=⟨_,rfl⟩
  have lS:S.length≤7∧1≤S.length:=by rw [←hS,List.length_append];omega
  rw [hS] at pw ne46 aS kw wS ⊢
  have kp:=parse_ok g0 S (by omega)
  rw [pw.2,show parE S = .none by unfold parE;rw [if_pos pw.1]] at kp
  rw [aS] at kw
  have sl0:(((S.length:Nat):Int) == 0)=false:=beq_false_of_ne (by omega)
  have pt:ptF S 0 (-1)=-1:=by
   have:=ptF_none S [] 0 (-1) ne46
   rw [List.append_nil] at this
   rw [this];rfl
  simp only [↓reduceIte,Nat.reduceAdd,Nat.reduceMul,Nat.reduceSub,Nat.reduceDiv,Nat.reduceLT,Nat.reduceEqDiff,reduceCtorEq,Nat.reduceLeDiff,Nat.reduceBEq,Int.reduceEq,Int.reduceLT,Int.reduceLE,Int.reduceBEq,Int.reduceGT,go_sem]
  refine qzb kp rfl rfl ?_
  simp only [ErrV.v]
  simp only [↓reduceIte,Nat.reduceAdd,Nat.reduceMul,Nat.reduceSub,Nat.reduceDiv,Nat.reduceLT,Nat.reduceEqDiff,reduceCtorEq,Nat.reduceLeDiff,Nat.reduceBEq,Int.reduceEq,Int.reduceLT,Int.reduceLE,Int.reduceBEq,Int.reduceGT,go_sem,en,sl0]
  refine pt_loop Gl S (by omega) (-1) _ (.int .i64 n) (.int .i64 zs) (.bool true) ?_ S 0 (-1) _ _ rfl (Nat.zero_le _) pt rfl rfl rfl rfl rfl rfl
  intro T h t0 t1 t5 t6 t9
  have g1:¬(-1:Int) ≥ 0:=by omega
  have g2:(-1:Int) < 0:=by omega
  have g3:((-1:Int) == 0)=false:=rfl
  have l1:S.length+1≤9223372036854775807:=by omega
  simp only [↓reduceIte,Nat.reduceAdd,Nat.reduceMul,Nat.reduceSub,Nat.reduceDiv,Nat.reduceLT,Nat.reduceEqDiff,reduceCtorEq,Nat.reduceLeDiff,Nat.reduceBEq,Int.reduceEq,Int.reduceLT,Int.reduceLE,Int.reduceBEq,Int.reduceGT,go_sem,t0,t1,t5,t6,t9,g1,g2,g3,zm,c6,strBin,l1]
  refine z_loop Gl Z zs ez hZ (S++[46]) S.length (by simp) (by simp;omega) 0 (by simp) N hN.symm _ (.int .i64 n) (.bool true) (.str S) ?_ N 0 _ h (by omega) ?_ ?_ ?_ ?_ ?_ ?_ ?_
  ·intro T h t0 t5 t6 t11
   have lt:(S++[46]++List.replicate N 48).length=S.length+1+N:=by simp;omega
   have w1:IntKind.i64.wrap (((S++[46]++List.replicate N 48).length:Int) - 1)=((S.length+N:Nat):Int):=by rw [lt,qzd (by omega) (by omega)];omega
   by_cases n0:N=0
   case' pos =>
    have hx:(S++[46]++List.replicate N 48)[S.length+N]?=some 46:=by rw [n0,List.replicate_zero,List.append_nil,Nat.add_zero];exact tail_last S 46
    have l2:(S++[46]++List.replicate N 48).length+1≤9223372036854775807:=by omega
    have es:S++[46]++List.replicate N 48++[48]=sg++(U++46::List.replicate 1 48):=by rw [n0,←hS];simp
    have z46:((((46:UInt8).toNat:Nat):Int) == 46)=true:=rfl
    obtain ⟨p1,p2⟩:=pz 1 (by omega) (by omega)
    have kq:=parse_ok g0 (sg++(U++46::List.replicate 1 48)) (by rw [←es];simp;omega)
    rw [p2,show parE (sg++(U++46::List.replicate 1 48)) = .none by unfold parE;rw [if_pos p1]] at kq
    simp only [↓reduceIte,Nat.reduceAdd,Nat.reduceMul,Nat.reduceSub,Nat.reduceDiv,Nat.reduceLT,Nat.reduceEqDiff,reduceCtorEq,Nat.reduceLeDiff,Nat.reduceBEq,Int.reduceEq,Int.reduceLT,Int.reduceLE,Int.reduceBEq,Int.reduceGT,go_sem,t0,t5,t6,t11,w1,natOf_n,hx,z46,strBin,l2,es]
   case' neg =>
    have hx:(S++[46]++List.replicate N 48)[S.length+N]?=some 48:=by
     rw [List.getElem?_append_right (by simp;omega),List.length_append,List.length_singleton]
     rw [List.getElem?_replicate,if_pos (by omega)]
    have es:S++[46]++List.replicate N 48=sg++(U++46::List.replicate N 48):=by rw [←hS];simp
    have z48:((((48:UInt8).toNat:Nat):Int) == 46)=false:=rfl
    obtain ⟨p1,p2⟩:=pz N (by omega) (by omega)
    have kq:=parse_ok g0 (sg++(U++46::List.replicate N 48)) (by rw [←es];simp;omega)
    rw [p2,show parE (sg++(U++46::List.replicate N 48)) = .none by unfold parE;rw [if_pos p1]] at kq
    simp only [↓reduceIte,Nat.reduceAdd,Nat.reduceMul,Nat.reduceSub,Nat.reduceDiv,Nat.reduceLT,Nat.reduceEqDiff,reduceCtorEq,Nat.reduceLeDiff,Nat.reduceBEq,Int.reduceEq,Int.reduceLT,Int.reduceLE,Int.reduceBEq,Int.reduceGT,go_sem,t0,t5,t6,t11,w1,natOf_n,hx,z48]
    simp only [↓reduceIte,Nat.reduceAdd,Nat.reduceMul,Nat.reduceSub,Nat.reduceDiv,Nat.reduceLT,Nat.reduceEqDiff,reduceCtorEq,Nat.reduceLeDiff,Nat.reduceBEq,Int.reduceEq,Int.reduceLT,Int.reduceLE,Int.reduceBEq,Int.reduceGT,go_sem,t0,t5,t6,t11,es]
   all_goals
    refine qzb kq rfl rfl ?_
    simp only [↓reduceIte,Nat.reduceAdd,Nat.reduceMul,Nat.reduceSub,Nat.reduceDiv,Nat.reduceLT,Nat.reduceEqDiff,reduceCtorEq,Nat.reduceLeDiff,Nat.reduceBEq,Int.reduceEq,Int.reduceLT,Int.reduceLE,Int.reduceBEq,Int.reduceGT,go_sem,t0,t5,t6]
    refine qzb kw rfl rfl ?_
    simp only [ErrV.v]
    cases neg with
    | true =>
     have gn:=gneg rfl
     simp only [↓reduceIte,Nat.reduceAdd,Nat.reduceMul,Nat.reduceSub,Nat.reduceDiv,Nat.reduceLT,Nat.reduceEqDiff,reduceCtorEq,Nat.reduceLeDiff,Nat.reduceBEq,Int.reduceEq,Int.reduceLT,Int.reduceLE,Int.reduceBEq,Int.reduceGT,go_sem,t0,t5,t6,gn,en']<;>first | rfl | exact ⟨rfl,rfl⟩ | exact qza rfl
    | false =>
     obtain ⟨gp,gm⟩:=gpos rfl
     have we:((((wholeV S:Nat):Int)) == IntKind.i64.wrap (n.tdiv 1000000))=true:=by rw [wS rfl,gm,tdiv6 m mb];simp
     simp only [↓reduceIte,Nat.reduceAdd,Nat.reduceMul,Nat.reduceSub,Nat.reduceDiv,Nat.reduceLT,Nat.reduceEqDiff,reduceCtorEq,Nat.reduceLeDiff,Nat.reduceBEq,Int.reduceEq,Int.reduceLT,Int.reduceLE,Int.reduceBEq,Int.reduceGT,go_sem,t0,t5,t6,gp,en',zm,c6',we]<;>first | rfl | exact ⟨rfl,rfl⟩ | exact qza rfl
  ·simp only [↓reduceIte,Nat.reduceAdd,Nat.reduceMul,Nat.reduceSub,Nat.reduceDiv,Nat.reduceLT,Nat.reduceEqDiff,reduceCtorEq,Nat.reduceLeDiff,Nat.reduceBEq,Int.reduceEq,Int.reduceLT,Int.reduceLE,Int.reduceBEq,Int.reduceGT,go_sem,t0]
  ·simp only [↓reduceIte,Nat.reduceAdd,Nat.reduceMul,Nat.reduceSub,Nat.reduceDiv,Nat.reduceLT,Nat.reduceEqDiff,reduceCtorEq,Nat.reduceLeDiff,Nat.reduceBEq,Int.reduceEq,Int.reduceLT,Int.reduceLE,Int.reduceBEq,Int.reduceGT,go_sem,t1]
  ·simp only [↓reduceIte,Nat.reduceAdd,Nat.reduceMul,Nat.reduceSub,Nat.reduceDiv,Nat.reduceLT,Nat.reduceEqDiff,reduceCtorEq,Nat.reduceLeDiff,Nat.reduceBEq,Int.reduceEq,Int.reduceLT,Int.reduceLE,Int.reduceBEq,Int.reduceGT,go_sem,t5]
  ·simp only [↓reduceIte,Nat.reduceAdd,Nat.reduceMul,Nat.reduceSub,Nat.reduceDiv,Nat.reduceLT,Nat.reduceEqDiff,reduceCtorEq,Nat.reduceLeDiff,Nat.reduceBEq,Int.reduceEq,Int.reduceLT,Int.reduceLE,Int.reduceBEq,Int.reduceGT,go_sem,t6]
  ·simp only [↓reduceIte,Nat.reduceAdd,Nat.reduceMul,Nat.reduceSub,Nat.reduceDiv,Nat.reduceLT,Nat.reduceEqDiff,reduceCtorEq,Nat.reduceLeDiff,Nat.reduceBEq,Int.reduceEq,Int.reduceLT,Int.reduceLE,Int.reduceBEq,Int.reduceGT,go_sem]
  ·simp only [↓reduceIte,Nat.reduceAdd,Nat.reduceMul,Nat.reduceSub,Nat.reduceDiv,Nat.reduceLT,Nat.reduceEqDiff,reduceCtorEq,Nat.reduceLeDiff,Nat.reduceBEq,Int.reduceEq,Int.reduceLT,Int.reduceLE,Int.reduceBEq,Int.reduceGT,go_sem]
   rw [List.replicate_zero,List.append_nil]
  ·simp only [↓reduceIte,Nat.reduceAdd,Nat.reduceMul,Nat.reduceSub,Nat.reduceDiv,Nat.reduceLT,Nat.reduceEqDiff,reduceCtorEq,Nat.reduceLeDiff,Nat.reduceBEq,Int.reduceEq,Int.reduceLT,Int.reduceLE,Int.reduceBEq,Int.reduceGT,go_sem];rfl
 ·
  have nz:¬m % 1000000=0:=fun q=>hB (zero.mpr q)
  have b1l:1≤B.length:=by
   cases B with
   | nil=>exact absurd rfl hB
   | cons x l=>simp
  simp only [hB,if_false] at ks se ⊢
  have vb:=mul_back2 m bv
  have c6:((n.tmod 1000000) != 0)=true:=by rw [e6,bne_iff_ne];cases neg<;>simp<;>omega
  have c6':((n.tmod 1000000) == 0)=false:=by rw [e6];refine beq_false_of_ne ?_;cases neg<;>simp<;>omega
  have pw:=par_parts hu u1 u6 hb b1l b6 neg
  rw [uv,vb,vn] at pw
  obtain ⟨N,hN⟩:∃ N,min Z (6 - B.length)=N:=⟨_,rfl⟩
  have hz:=par_parts hu u1 u6 (B:=B++List.replicate N 48) (fun b h=>by
   rcases List.mem_append.mp h with h | h
   ·exact hb b h
   ·rw [List.eq_of_mem_replicate h];decide) (by simp;omega) (by simp;omega) neg
  have v1:valS (B++List.replicate N 48)*10 ^ (6 - (B++List.replicate N 48).length)=valS B*10 ^ (6 - B.length):=by
   have:valS (B++List.replicate N 48)=valS B*10 ^ N:=by
    show valF 0 _=_
    rw [valF_append,valF_zeros]
   rw [this,List.length_append,List.length_replicate,Nat.mul_assoc,←Nat.pow_add]
   congr 2;omega
  rw [v1,uv,vb,vn] at hz
  rw [hsg] at pw ne46 hz ks ⊢
  have aS:=allS_pt (sg++U) B
  have e0:sg++(U++46::B)=(sg++U)++46::B:=(List.append_assoc _ _ _).symm
  have ez2:(sg++(U++46::B))++List.replicate N 48=sg++(U++46::(B++List.replicate N 48)):=by simp
  obtain ⟨P,hP⟩:∃ P,(sg++U).length=P:=⟨_,rfl⟩
  have lP:P≤7∧1≤P:=by rw [←hP,List.length_append,←hsg];omega
  have pt:ptF ((sg++U)++46::B) 0 (-1)=(P:Int):=by
   rw [ptF_none (sg++U) (46::B) 0 (-1) ne46,ptF,if_pos (show UInt8.toNat 46=46 from rfl)]
   have:=ptF_none B [] (0+(sg++U).length+1) ((0+(sg++U).length:Nat):Int) (fun b h=>(digit_ne (hb b h)).1)
   rw [List.append_nil] at this
   rw [this,←hP,Nat.zero_add];rfl
  have lS:((sg++U)++46::B).length=P+1+B.length:=by rw [List.length_append,hP,List.length_cons];omega
  obtain ⟨B',c,hBc⟩:∃ B' c,B=B'++[c]:=⟨B.dropLast,B.getLast hB,(List.dropLast_concat_getLast hB).symm⟩
  have c48:c≠48:=fun q=>last (by rw [hBc,q];simp)
  have c46:c≠46:=(digit_ne (hb c (by rw [hBc];simp))).1
  have hc:((sg++U)++46::B)[P+B.length]?=some c:=by
   rw [hBc,List.getElem?_append_right (by rw [hP];omega),hP,List.length_append,List.length_singleton,show P+(B'.length+1) - P=B'.length+1 from by omega,List.getElem?_cons_succ]
   simp
  rw [e0] at pw ez2 ks ⊢
  obtain ⟨S,hS⟩:∃ S,(sg++U)++46::B=S:=⟨_,rfl⟩
  rw [hS] at pw ez2 ks pt lS hc aS ⊢
  have kw:=whole_ok Gl S (by omega)
  rw [aS] at kw
  have kp:=parse_ok g0 S (by omega)
  rw [pw.2,show parE S = .none by unfold parE;rw [if_pos pw.1]] at kp
  have kq:=parse_ok g0 (S++List.replicate N 48) (by simp;omega)
  rw [ez2,hz.2,show parE (sg++(U++46::(B++List.replicate N 48))) = .none by unfold parE;rw [if_pos hz.1]] at kq
  have sl0:(((S.length:Nat):Int) == 0)=false:=beq_false_of_ne (by omega)
  simp only [↓reduceIte,Nat.reduceAdd,Nat.reduceMul,Nat.reduceSub,Nat.reduceDiv,Nat.reduceLT,Nat.reduceEqDiff,reduceCtorEq,Nat.reduceLeDiff,Nat.reduceBEq,Int.reduceEq,Int.reduceLT,Int.reduceLE,Int.reduceBEq,Int.reduceGT,go_sem]
  refine qzb kp rfl rfl ?_
  simp only [ErrV.v]
  simp only [↓reduceIte,Nat.reduceAdd,Nat.reduceMul,Nat.reduceSub,Nat.reduceDiv,Nat.reduceLT,Nat.reduceEqDiff,reduceCtorEq,Nat.reduceLeDiff,Nat.reduceBEq,Int.reduceEq,Int.reduceLT,Int.reduceLE,Int.reduceBEq,Int.reduceGT,go_sem,en,sl0]
  refine pt_loop Gl S (by omega) (P:Int) _ (.int .i64 n) (.int .i64 zs) (.bool true) ?_ S 0 (-1) _ _ rfl (Nat.zero_le _) pt rfl rfl rfl rfl rfl rfl
  intro T h t0 t1 t5 t6 t9
  have g1:(P:Int) ≥ 0:=by omega
  have g2:¬(P:Int) < 0:=by omega
  have g3:((P:Int) == 0)=false:=beq_false_of_ne (by omega)
  have w0:IntKind.i64.wrap ((S.length:Int) - 1)=((P+B.length:Nat):Int):=by rw [lS,qzd (by omega) (by omega)];omega
  have c48':(((c.toNat:Nat):Int) == 48)=false:=beq_false_of_ne (fun q=>c48 (UInt8.toNat_inj.mp (by show c.toNat=48;omega)))
  simp only [↓reduceIte,Nat.reduceAdd,Nat.reduceMul,Nat.reduceSub,Nat.reduceDiv,Nat.reduceLT,Nat.reduceEqDiff,reduceCtorEq,Nat.reduceLeDiff,Nat.reduceBEq,Int.reduceEq,Int.reduceLT,Int.reduceLE,Int.reduceBEq,Int.reduceGT,go_sem,t0,t1,t5,t6,t9,g1,g2,g3,zm,c6,w0,natOf_n,hc,c48']
  refine z_loop Gl Z zs ez hZ S P (by omega) (by omega) B.length lS N hN.symm _ (.int .i64 n) (.bool true) (.str S) ?_ N 0 _ h (by omega) ?_ ?_ ?_ ?_ ?_ ?_ ?_
  ·intro T h t0 t5 t6 t11
   have lt:(S++List.replicate N 48).length=P+1+B.length+N:=by simp;omega
   have w1:IntKind.i64.wrap (((S++List.replicate N 48).length:Int) - 1)=((P+B.length+N:Nat):Int):=by rw [lt,qzd (by omega) (by omega)];omega
   obtain ⟨d,hd,hx⟩:∃ d:UInt8,d≠46∧(S++List.replicate N 48)[P+B.length+N]?=some d:=by
    by_cases n0:N=0
    ·exact ⟨c,c46,by rw [n0,List.replicate_zero,List.append_nil,Nat.add_zero];exact hc⟩
    ·refine ⟨48,by decide,?_⟩
     rw [List.getElem?_append_right (by omega),List.getElem?_replicate,if_pos (by omega)]
   have d46:(((d.toNat:Nat):Int) == 46)=false:=beq_false_of_ne (fun q=>hd (UInt8.toNat_inj.mp (by show d.toNat=46;omega)))
   simp only [↓reduceIte,Nat.reduceAdd,Nat.reduceMul,Nat.reduceSub,Nat.reduceDiv,Nat.reduceLT,Nat.reduceEqDiff,reduceCtorEq,Nat.reduceLeDiff,Nat.reduceBEq,Int.reduceEq,Int.reduceLT,Int.reduceLE,Int.reduceBEq,Int.reduceGT,go_sem,t0,t5,t6,t11,w1,natOf_n,hx,d46]
   simp only [↓reduceIte,Nat.reduceAdd,Nat.reduceMul,Nat.reduceSub,Nat.reduceDiv,Nat.reduceLT,Nat.reduceEqDiff,reduceCtorEq,Nat.reduceLeDiff,Nat.reduceBEq,Int.reduceEq,Int.reduceLT,Int.reduceLE,Int.reduceBEq,Int.reduceGT,go_sem,t0,t5,t6,t11,ez2]
   refine qzb kq rfl rfl ?_
   simp only [↓reduceIte,Nat.reduceAdd,Nat.reduceMul,Nat.reduceSub,Nat.reduceDiv,Nat.reduceLT,Nat.reduceEqDiff,reduceCtorEq,Nat.reduceLeDiff,Nat.reduceBEq,Int.reduceEq,Int.reduceLT,Int.reduceLE,Int.reduceBEq,Int.reduceGT,go_sem,t0,t5,t6]
   refine qzb kw rfl rfl ?_
   simp only [ErrV.v]
   cases neg with
   | true =>
    have gn:=gneg rfl
    simp only [↓reduceIte,Nat.reduceAdd,Nat.reduceMul,Nat.reduceSub,Nat.reduceDiv,Nat.reduceLT,Nat.reduceEqDiff,reduceCtorEq,Nat.reduceLeDiff,Nat.reduceBEq,Int.reduceEq,Int.reduceLT,Int.reduceLE,Int.reduceBEq,Int.reduceGT,go_sem,t0,t5,t6,gn,en']<;>first | rfl | exact ⟨rfl,rfl⟩ | exact qza rfl
   | false =>
    obtain ⟨gp,gm⟩:=gpos rfl
    simp only [↓reduceIte,Nat.reduceAdd,Nat.reduceMul,Nat.reduceSub,Nat.reduceDiv,Nat.reduceLT,Nat.reduceEqDiff,reduceCtorEq,Nat.reduceLeDiff,Nat.reduceBEq,Int.reduceEq,Int.reduceLT,Int.reduceLE,Int.reduceBEq,Int.reduceGT,go_sem,t0,t5,t6,gp,en',zm,c6']<;>first | rfl | exact ⟨rfl,rfl⟩ | exact qza rfl
  ·simp only [↓reduceIte,Nat.reduceAdd,Nat.reduceMul,Nat.reduceSub,Nat.reduceDiv,Nat.reduceLT,Nat.reduceEqDiff,reduceCtorEq,Nat.reduceLeDiff,Nat.reduceBEq,Int.reduceEq,Int.reduceLT,Int.reduceLE,Int.reduceBEq,Int.reduceGT,go_sem,t0]
  ·simp only [↓reduceIte,Nat.reduceAdd,Nat.reduceMul,Nat.reduceSub,Nat.reduceDiv,Nat.reduceLT,Nat.reduceEqDiff,reduceCtorEq,Nat.reduceLeDiff,Nat.reduceBEq,Int.reduceEq,Int.reduceLT,Int.reduceLE,Int.reduceBEq,Int.reduceGT,go_sem,t1]
  ·simp only [↓reduceIte,Nat.reduceAdd,Nat.reduceMul,Nat.reduceSub,Nat.reduceDiv,Nat.reduceLT,Nat.reduceEqDiff,reduceCtorEq,Nat.reduceLeDiff,Nat.reduceBEq,Int.reduceEq,Int.reduceLT,Int.reduceLE,Int.reduceBEq,Int.reduceGT,go_sem,t5]
  ·simp only [↓reduceIte,Nat.reduceAdd,Nat.reduceMul,Nat.reduceSub,Nat.reduceDiv,Nat.reduceLT,Nat.reduceEqDiff,reduceCtorEq,Nat.reduceLeDiff,Nat.reduceBEq,Int.reduceEq,Int.reduceLT,Int.reduceLE,Int.reduceBEq,Int.reduceGT,go_sem,t6]
  ·simp only [↓reduceIte,Nat.reduceAdd,Nat.reduceMul,Nat.reduceSub,Nat.reduceDiv,Nat.reduceLT,Nat.reduceEqDiff,reduceCtorEq,Nat.reduceLeDiff,Nat.reduceBEq,Int.reduceEq,Int.reduceLT,Int.reduceLE,Int.reduceBEq,Int.reduceGT,go_sem,t9]
  ·simp only [↓reduceIte,Nat.reduceAdd,Nat.reduceMul,Nat.reduceSub,Nat.reduceDiv,Nat.reduceLT,Nat.reduceEqDiff,reduceCtorEq,Nat.reduceLeDiff,Nat.reduceBEq,Int.reduceEq,Int.reduceLT,Int.reduceLE,Int.reduceBEq,Int.reduceGT,go_sem]
   rw [List.replicate_zero,List.append_nil]
  ·simp only [↓reduceIte,Nat.reduceAdd,Nat.reduceMul,Nat.reduceSub,Nat.reduceDiv,Nat.reduceLT,Nat.reduceEqDiff,reduceCtorEq,Nat.reduceLeDiff,Nat.reduceBEq,Int.reduceEq,Int.reduceLT,Int.reduceLE,Int.reduceBEq,Int.reduceGT,go_sem];rfl
end
end Go.VL.Nu
