/- Chapter 9: what a number's text is, what it says. -/
import Derived.Test.YtpobcoodmhhpaaaDoorNuG
set_option linter.unusedSimpArgs false
set_option linter.unusedVariables false
namespace Go.VL.Nu
open Go.FR Go.IR Go.VL Go.VL.Er Go.VL.Wo
noncomputable section
set_option maxRecDepth 100000
set_option maxHeartbeats 1000000
theorem idx_none:∀ (s:List UInt8) (c:UInt8) (k:Nat),(∀ b∈s,b≠c)→∀ t,idxByte c (s++t) k=idxByte c t (k+s.length)
 | [],c,k,_,t=>by simp
 | b::s,c,k,h,t=>by
  rw [List.cons_append,idxByte,if_neg (h b (.head _)),idx_none s c (k+1) (fun x hx=>h x (.tail _ hx)) t,List.length_cons]
  congr 1;omega
theorem cut_at {A B:List UInt8} {c:UInt8} (h:∀ b∈A,b≠c):cutS (A++(c::B)) c=(A,B,true):=by
 have e:idxByte c (A++(c::B)) 0=some A.length:=by rw [idx_none A c 0 h,idxByte,if_pos rfl,Nat.zero_add]
 unfold cutS
 rw [e]
 simp
theorem cut_not {A:List UInt8} {c:UInt8} (h:∀ b∈A,b≠c):cutS A c=(A,[],false):=by
 have e:idxByte c A 0=none:=by
  have:=idx_none A c 0 h []
  rw [List.append_nil] at this
  rw [this];rfl
 unfold cutS
 rw [e]
theorem digit_ne {b:UInt8} (h:digitS b=true):b≠46∧b≠45∧b≠32:=by
 have:=digit_le h
 refine ⟨fun e => ?_,fun e => ?_,fun e => ?_⟩<;>subst e<;>simp at this
theorem all_ok {s:List UInt8} (h:∀ b∈s,digitS b=true) (h1:1≤s.length) (h6:s.length≤6):allS s=true:=by
 simp only [allS,Bool.and_eq_true,List.all_eq_true,decide_eq_true_eq]
 exact ⟨⟨h,h1⟩,h6⟩
theorem pref_digit {s:List UInt8} (h:∀ b∈s,digitS b=true) (h1:1≤s.length) (t:List UInt8):prefS (s++t) [45]=false:=by
 cases s with
 | nil=>simp at h1
 | cons b s =>
  have:=(digit_ne (h b (.head _))).2.1
  simp [prefS,this]
theorem pref_min (s:List UInt8):prefS (45::s) [45]=true:=by simp [prefS]
theorem whole_frac {B:List UInt8} (h:∀ b∈B,digitS b=true) (h6:B.length≤6):wholeV ((B++zeros6).take 6)=valS B*10 ^ (6 - B.length):=by
 have e:(B++zeros6).take 6=B++List.replicate (6 - B.length) 48:=by
  rw [List.take_append,List.take_of_length_le h6,show zeros6=List.replicate 6 48 from rfl,List.take_replicate]
  congr 2;omega
 have d:∀ b∈B++List.replicate (6 - B.length) 48,digitS b=true:=fun b hb=>by
  rcases List.mem_append.mp hb with hb | hb
  ·exact h b hb
  ·rw [List.eq_of_mem_replicate hb];decide
 have l:(B++List.replicate (6 - B.length) 48).length=6:=by simp;omega
 rw [e]
 unfold wholeV
 rw [if_pos (all_ok d (by omega) (by omega))]
 show valF 0 _=_
 rw [valF_append,valF_zeros]
theorem whole_dig {A:List UInt8} (h:∀ b∈A,digitS b=true) (h1:1≤A.length) (h6:A.length≤6):wholeV A=valS A:=by
 unfold wholeV;rw [if_pos (all_ok h h1 h6)]
theorem par_parts {A B:List UInt8} (hA:∀ b∈A,digitS b=true) (a1:1≤A.length) (a6:A.length≤6) (hB:∀ b∈B,digitS b=true) (b1:1≤B.length) (b6:B.length≤6) (neg:Bool) :
  parOK ((if neg then [45] else [])++(A++(46::B)))=true∧parN ((if neg then [45] else [])++(A++(46::B)))=(if neg then -((valS A*1000000+valS B*10 ^ (6 - B.length):Nat):Int) else ((valS A*1000000+valS B*10 ^ (6 - B.length):Nat):Int)):=by
 have rs:restS ((if neg then [45] else [])++(A++(46::B)))=A++(46::B):=by
  unfold restS
  cases neg
  ·simp only [Bool.false_eq_true,if_false,List.nil_append]
   rw [pref_digit hA a1];rfl
  ·simp only [if_true,List.cons_append,List.nil_append]
   rw [pref_min];rfl
 have ct:=cut_at (A:=A) (B:=B) (c:=46) (fun b hb=>(digit_ne (hA b hb)).1)
 have ok:parOK ((if neg then [45] else [])++(A++(46::B)))=true:=by
  unfold parOK unitS pointS partS
  rw [rs,ct]
  simp only
  rw [all_ok hA a1 a6,all_ok hB b1 b6];rfl
 refine ⟨ok,?_⟩
 unfold parN
 rw [if_pos ok]
 have pa:parA ((if neg then [45] else [])++(A++(46::B)))=valS A*1000000+valS B*10 ^ (6 - B.length):=by
  unfold parA unitS partS
  rw [rs,ct]
  simp only
  rw [whole_dig hA a1 a6,whole_frac hB b6]
 rw [pa]
 cases neg
 ·simp only [Bool.false_eq_true,if_false,List.nil_append]
  rw [pref_digit hA a1,if_neg Bool.false_ne_true]
 ·simp only [if_true,List.cons_append,List.nil_append]
  rw [pref_min,if_pos rfl]
theorem valF_lin:∀ (s:List UInt8) (n:Nat),valF n s=n*10 ^ s.length+valS s
 | [],n=>by show n=n*1+0;omega
 | b::s,n=>by
  have e:valS (b::s)=valF (10*0+dv b) s:=rfl
  rw [valF_cons,valF_lin s,e,valF_lin s (10*0+dv b),List.length_cons,Nat.pow_succ]
  generalize 10 ^ s.length=P
  rw [Nat.add_mul,Nat.mul_zero,Nat.zero_add,Nat.mul_comm 10 n,Nat.mul_assoc,Nat.mul_comm 10 P]
  omega
theorem dec_digits:∀ (f u:Nat),∀ b∈decF f u,digitS b=true
 | 0,u,b,h=>by simp [decF] at h
 | f+1,u,b,h=>by
  rw [decF_s] at h
  split at h
  ·rw [List.mem_singleton.mp h];exact dg_digit (by assumption)
  ·rcases List.mem_append.mp h with h | h
   ·exact dec_digits f _ b h
   ·rw [List.mem_singleton.mp h];exact dg_digit (Nat.mod_lt _ (by omega))
theorem dec_val:∀ (f u:Nat),u < 10 ^ f→valS (decF f u)=u
 | 0,u,h=>by
  have:u=0:=by simp at h;omega
  subst this;rfl
 | f+1,u,h=>by
  rw [decF_s]
  split
  ·rename_i q
   show valF 0 [dg u]=u
   rw [valF_dg q];omega
  ·have h':u / 10 < 10 ^ f:=by rw [Nat.pow_succ] at h;omega
   have ih:=dec_val f (u / 10) h'
   show valF 0 _=u
   rw [valF_append,show valF 0 (decF f (u / 10))=u / 10 from ih,valF_dg (Nat.mod_lt _ (by omega))];omega
theorem dec_valS {u:Nat} (h:u < 1000000000000):valS (decS u)=u:=dec_val 20 u (Nat.lt_of_lt_of_le h (by decide))
theorem dec_most:∀ (f u k:Nat),u < 10 ^ (k+1)→(decF f u).length≤k+1
 | 0,u,k,_=>by simp [decF]
 | f+1,u,k,h=>by
  rw [decF_s]
  split
  ·simp
  ·rename_i q
   cases k with
   | zero=>simp at h;omega
   | succ k =>
    have h':u / 10 < 10 ^ (k+1):=by rw [Nat.pow_succ] at h;omega
    have:=dec_most f (u / 10) k h'
    rw [List.length_append,List.length_singleton];omega
theorem dec_pos (u:Nat):1≤(decS u).length:=by
 unfold decS;rw [decF_s];split
 ·simp
 ·rw [List.length_append,List.length_singleton];omega
theorem trim_split (c:UInt8) (D:List UInt8):∃ k,D=trimS c D++List.replicate k c:=by
 have h:=List.takeWhile_append_dropWhile (p:=(· == c)) (l:=D.reverse)
 refine ⟨(D.reverse.takeWhile (· == c)).length,?_⟩
 have e:D.reverse.takeWhile (· == c)=List.replicate (D.reverse.takeWhile (· == c)).length c:=by
  rw [List.eq_replicate_iff]
  refine ⟨rfl,fun b hb => ?_⟩
  have:=List.all_takeWhile (p:=(· == c)) (l:=D.reverse)
  rw [List.all_eq_true] at this
  simpa using this b hb
 have h2:=congrArg List.reverse h
 rw [List.reverse_append,List.reverse_reverse] at h2
 unfold trimS
 rw [←h2]
 congr 1
 ·rw [h2]
 ·rw [h2,e,List.reverse_replicate]
  simp
theorem trim_last (c:UInt8) (D:List UInt8):(trimS c D).getLast?≠some c:=by
 unfold trimS
 rw [List.getLast?_reverse]
 intro h
 have:∀ l:List UInt8,(l.dropWhile (· == c)).head?≠some c:=fun l=>by
  induction l with
  | nil=>simp
  | cons b l ih =>
   rw [List.dropWhile_cons]
   split
   ·exact ih
   ·rename_i q;intro e;simp at e;rw [e] at q;simp at q
 exact this _ h
structure Shape (m:Nat) (U B:List UInt8):Prop where
 u:∀ b∈U,digitS b=true
 u1:1≤U.length
 u6:U.length≤6
 uv:valS U=m / 1000000
 b:∀ b∈B,digitS b=true
 b6:B.length≤6
 bv:valS B*10 ^ (6 - B.length)=m % 1000000
 last:B.getLast?≠some 48
 zero:B=[] ↔ m % 1000000=0
 show_:showU m=U++(if B=[] then [] else 46::B)
theorem shape_of (m:Nat) (hm:m < 1000000000000):∃ U B,Shape m U B:=by
 have ud:=dec_digits 20 (m / 1000000)
 have uv:valS (decS (m / 1000000))=m / 1000000:=dec_valS (by omega)
 have u6:(decS (m / 1000000)).length≤6:=dec_most 20 (m / 1000000) 5 (by omega)
 have u1:=dec_pos (m / 1000000)
 by_cases z:m % 1000000=0
 ·exact ⟨decS (m / 1000000),[],ud,u1,u6,uv,by simp,by simp,by rw [z];exact Nat.zero_mul _,by simp,by simp [z],by unfold showU;simp [z]⟩
 ·obtain ⟨v,hv⟩:∃ v,1000000+m % 1000000=v:=⟨_,rfl⟩
  have d7:=dec7 (u:=v) (by omega) (by omega)
  have dd:=dec_digits 20 v
  have dv':valS (decS v)=v:=dec_valS (by omega)
  obtain ⟨b,D,hD⟩:∃ b D,decS v=b::D:=⟨_,_,d7⟩
  have lD:D.length=6:=by
   have:=congrArg List.length d7
   rw [hD] at this
   simp at this;omega
  have dD:∀ x∈D,digitS x=true:=fun x hx=>dd x (by show x∈decS v;rw [hD];exact .tail _ hx)
  have vD:valS D=m % 1000000:=by
   have lt:=valS_lt dD
   rw [lD] at lt
   have e:valS (b::D)=(10*0+dv b)*10 ^ D.length+valS D:=by
    show valF 0 (b::D)=_
    rw [valF_cons,valF_lin]
   rw [hD,e,lD] at dv'
   simp only [Nat.reducePow] at lt dv'
   omega
  have tr:(decS v).drop 1=D:=by rw [hD];rfl
  obtain ⟨k,hk⟩:=trim_split 48 D
  obtain ⟨B,hB⟩:∃ B,trimS 48 D=B:=⟨_,rfl⟩
  have tl:=trim_last 48 D
  rw [hB] at hk tl
  have lB:B.length+k=6:=by
   have:=congrArg List.length hk
   rw [List.length_append,List.length_replicate] at this;omega
  have vB:valS B*10 ^ (6 - B.length)=m % 1000000:=by
   rw [←vD,hk]
   show _=valF 0 _
   rw [valF_append,valF_zeros,show 6 - B.length=k by omega]
  refine ⟨decS (m / 1000000),B,ud,u1,u6,uv,fun x hx=>dD x (by rw [hk];exact List.mem_append_left _ hx),by omega,vB,tl,⟨fun e => ?_,fun e=>absurd e z⟩,?_⟩
  ·rw [e] at vB
   have:valS []=0:=rfl
   rw [this,Nat.zero_mul] at vB;omega
  ·have ne:B≠[]:=fun e=>by
    rw [e] at vB
    have:valS []=0:=rfl
    rw [this,Nat.zero_mul] at vB;omega
   unfold showU
   rw [if_neg z,hv,tr,hB,if_neg ne];rfl
theorem par_whole {A:List UInt8} (hA:∀ b∈A,digitS b=true) (a1:1≤A.length) (a6:A.length≤6) (neg:Bool) :
  parOK ((if neg then [45] else [])++A)=true∧parN ((if neg then [45] else [])++A)=(if neg then -((valS A*1000000:Nat):Int) else ((valS A*1000000:Nat):Int)):=by
 have rs:restS ((if neg then [45] else [])++A)=A:=by
  unfold restS
  cases neg
  ·simp only [Bool.false_eq_true,if_false,List.nil_append]
   have:=pref_digit hA a1 []
   rw [List.append_nil] at this
   rw [this];rfl
  ·simp only [if_true,List.cons_append,List.nil_append]
   rw [pref_min];rfl
 have ct:=cut_not (A:=A) (c:=46) (fun b hb=>(digit_ne (hA b hb)).1)
 have ok:parOK ((if neg then [45] else [])++A)=true:=by
  unfold parOK unitS pointS
  rw [rs,ct]
  simp only
  rw [all_ok hA a1 a6];rfl
 refine ⟨ok,?_⟩
 unfold parN
 rw [if_pos ok]
 have pa:parA ((if neg then [45] else [])++A)=valS A*1000000:=by
  unfold parA unitS partS
  rw [rs,ct]
  simp only
  have w0:wholeV (List.take 6 ([]++zeros6))=0:=by decide +kernel
  rw [whole_dig hA a1 a6,w0,Nat.add_zero]
 rw [pa]
 cases neg
 ·simp only [Bool.false_eq_true,if_false,List.nil_append]
  have:=pref_digit hA a1 []
  rw [List.append_nil] at this
  rw [this,if_neg Bool.false_ne_true]
 ·simp only [if_true,List.cons_append,List.nil_append]
  rw [pref_min,if_pos rfl]
end
end Go.VL.Nu
