import Derived.Test.YtlgkadhogiedoaaDoorVlK
import Derived.Test.YtlgkadhogiedoaaDoorNuR
import Derived.Test.YtlgkadhogiedoaaDoorVlN
set_option linter.unusedSimpArgs false
set_option linter.unusedVariables false
namespace Go.VL.Nu
open Go.FR Go.IR Go.VL Go.VL.Er Go.VL.Wo
noncomputable section
set_option maxRecDepth 100000
set_option maxHeartbeats 1000000
def pv:Nat→Int→List UInt8→Nat × Int
 | n,b,[]=>(n,b)
 | n,b,c::r=>if c.toNat=46 then pv n 0 r else if digitS c=true then pv (10*n+dv c) (if b ≥ 0 then b+1 else b) r else pv n b r
theorem pv_un:∀ (A t:List UInt8) (n:Nat),(∀ b∈A,digitS b=true)→pv n (-1) (A++t)=pv (valF n A) (-1) t
 | [],t,n,_=>rfl
 | a::A,t,n,h=>by
  have d:=h a (.head _)
  have le:=digit_le d
  rw [List.cons_append,pv,if_neg (by omega),if_pos d,if_neg (by omega),pv_un A t _ (fun b hb=>h b (.tail _ hb)),valF_cons]
theorem pv_fr:∀ (B:List UInt8) (n k:Nat),(∀ b∈B,digitS b=true)→pv n (k:Int) B=(valF n B,((k+B.length:Nat):Int))
 | [],n,k,_=>rfl
 | a::A,n,k,h=>by
  have d:=h a (.head _)
  have le:=digit_le d
  rw [pv,if_neg (by omega),if_pos d,if_pos (by omega),show (k:Int)+1=((k+1:Nat):Int) from rfl,pv_fr A _ (k+1) (fun b hb=>h b (.tail _ hb)),valF_cons,List.length_cons,show k+1+A.length=k+(A.length+1) by omega]
theorem pv_sg (neg:Bool) (n:Nat) (b:Int) (t:List UInt8):pv n b ((if neg then [45] else [])++t)=pv n b t:=by
 cases neg
 ·rfl
 ·show pv n b (45::t)=_
  rw [pv,if_neg (by decide),if_neg (by decide)]
attribute [local go_sem] erP t_p_api_At
theorem pn_loop1 (Gl:qzh) (s:List UInt8) (hl:s.length≤14) (N:Nat) (B:Int) (K:AEx→VF→VH→Prop)
  (hK:∀ T h,qzf T 0=some (.str s)→qzf T 4=some (.int .i64 (N:Int))→qzf T 5=some (.int .i64 B)→K (.exit 0) T h) :
  ∀ (r:List UInt8) (k n:Nat) (b:Int) (T:VF) (h:VH),s.drop k=r→k≤s.length→n < 10 ^ k→-1≤b→b≤k→pv n b r=(N,B)→qzf T 0=some (.str s)→qzf T 4=some (.int .i64 (n:Int))→qzf T 5=some (.int .i64 b)→qzf T 6=some (.int .i64 (k:Int)) →
   wp Go.VL.Er.E Gl (.loop c_glyphicref8_ParseNumber_l1) T h K:=by
 intro r
 induction r with
 | nil =>
  intro k n b T h hr hk hn b0 b1 hN t0 t4 t5 t6
  have:s.length≤k:=by simpa using List.drop_eq_nil_iff.mp hr
  obtain rfl:k=s.length:=by omega
  have e1:n=N:=congrArg Prod.fst hN
  have e2:b=B:=congrArg Prod.snd hN
  subst e1;subst e2
  refine qzj c_glyphicref8_ParseNumber_l1.eq_1 ?_
  simp only [simprocAttr,-Int.reduceNatCast',go_sem,t0,t6,Int.lt_irrefl]
  refine hK _ h ?_ ?_ ?_
  ·simp only [simprocAttr,-Int.reduceNatCast',go_sem,t0]
  ·simp only [simprocAttr,-Int.reduceNatCast',go_sem,t4]
  ·simp only [simprocAttr,-Int.reduceNatCast',go_sem,t5]
 | cons c r ih =>
  intro k n b T h hr hk hn b0 b1 hN t0 t4 t5 t6
  have hx:s[k]?=some c:=by
   have:=congrArg (fun l=>l[0]?) hr
   simpa using this
  have hlt:k < s.length:=(List.getElem?_eq_some_iff.1 hx).1
  have c1:(k:Int) < s.length:=by omega
  have hr':s.drop (k+1)=r:=by
   rw [drop_at hx] at hr;exact (List.cons.inj hr).2
  have w1:IntKind.i64.wrap ((k:Int)+1)=((k+1:Nat):Int):=by rw [qze (by omega) (by omega)];rfl
  have n18:n < 100000000000000000:=Nat.lt_of_lt_of_le hn (pow17 (by omega))
  have e46:(((c.toNat:Nat):Int) == 46)=(c.toNat == 46):=beq_nat c.toNat 46
  rw [pv] at hN
  refine qzj c_glyphicref8_ParseNumber_l1.eq_1 ?_
  by_cases q:c.toNat=46
  ·rw [if_pos q] at hN
   have q':(c.toNat == 46)=true:=by simp [q]
   have hn':n < 10 ^ (k+1):=Nat.lt_of_lt_of_le hn (Nat.pow_le_pow_right (by omega) (by omega))
   simp only [simprocAttr,-Int.reduceNatCast',go_sem,t0,t4,t5,t6,c1,natOf_n,hx,e46,q',w1]
   refine ih (k+1) n 0 _ h hr' (by omega) hn' (by omega) (by omega) hN ?_ ?_ ?_ ?_
   ·simp only [simprocAttr,-Int.reduceNatCast',go_sem,t0]
   ·simp only [simprocAttr,-Int.reduceNatCast',go_sem,t4]
   ·simp only [simprocAttr,-Int.reduceNatCast',go_sem]
   ·simp only [simprocAttr,-Int.reduceNatCast',go_sem]
  ·rw [if_neg q] at hN
   have q':(c.toNat == 46)=false:=by simp [q]
   simp only [simprocAttr,-Int.reduceNatCast',go_sem,t0,t4,t5,t6,c1,natOf_n,hx,e46,q',w1]
   refine qzb (digit8_ok Gl c) rfl rfl ?_
   cases d:digitS c
   ·rw [d,if_neg Bool.false_ne_true] at hN
    have hn':n < 10 ^ (k+1):=Nat.lt_of_lt_of_le hn (Nat.pow_le_pow_right (by omega) (by omega))
    simp only [simprocAttr,-Int.reduceNatCast',go_sem,t0,t4,t5,t6,w1]
    refine ih (k+1) n b _ h hr' (by omega) hn' (by omega) (by omega) hN ?_ ?_ ?_ ?_
    ·simp only [simprocAttr,-Int.reduceNatCast',go_sem,t0]
    ·simp only [simprocAttr,-Int.reduceNatCast',go_sem,t4]
    ·simp only [simprocAttr,-Int.reduceNatCast',go_sem,t5]
    ·simp only [simprocAttr,-Int.reduceNatCast',go_sem]
   ·rw [d,if_pos rfl] at hN
    have db:=digit_le d
    have dd:=dv_def c
    obtain ⟨z,hz⟩:∃ z,dv c=z:=⟨_,rfl⟩
    have hn':10*n+z < 10 ^ (k+1):=step10 hn (by omega)
    clear hn
    have wd:IntKind.u8.wrap (((c.toNat:Nat):Int) - 48)=(z:Int):=by
     show (((c.toNat:Nat):Int) - 48) % 256=_
     omega
    have wi:IntKind.i64.wrap (z:Int)=z:=qze (by omega) (by omega)
    have w10:IntKind.i64.wrap (10*(n:Int))=((10*n:Nat):Int):=by rw [qze (by omega) (by omega)];omega
    have w11:IntKind.i64.wrap (((10*n:Nat):Int)+(z:Int))=((10*n+z:Nat):Int):=by rw [qze (by omega) (by omega)];omega
    rw [hz] at hN
    by_cases g:b ≥ 0
    ·rw [if_pos g] at hN
     have wb:IntKind.i64.wrap (b+1)=b+1:=qze (by omega) (by omega)
     simp only [simprocAttr,-Int.reduceNatCast',go_sem,t0,t4,t5,t6,natOf_n,hx,wd,wi,w10,w11,w1,g,wb]
     refine ih (k+1) (10*n+z) (b+1) _ h hr' (by omega) hn' (by omega) (by omega) hN ?_ ?_ ?_ ?_
     ·simp only [simprocAttr,-Int.reduceNatCast',go_sem,t0]
     ·simp only [simprocAttr,-Int.reduceNatCast',go_sem]
     ·simp only [simprocAttr,-Int.reduceNatCast',go_sem]
     ·simp only [simprocAttr,-Int.reduceNatCast',go_sem]
    ·rw [if_neg g] at hN
     simp only [simprocAttr,-Int.reduceNatCast',go_sem,t0,t4,t5,t6,natOf_n,hx,wd,wi,w10,w11,w1,g]
     refine ih (k+1) (10*n+z) b _ h hr' (by omega) hn' (by omega) (by omega) hN ?_ ?_ ?_ ?_
     ·simp only [simprocAttr,-Int.reduceNatCast',go_sem,t0]
     ·simp only [simprocAttr,-Int.reduceNatCast',go_sem]
     ·simp only [simprocAttr,-Int.reduceNatCast',go_sem,t5]
     ·simp only [simprocAttr,-Int.reduceNatCast',go_sem]
theorem pn_loop0 (Gl:qzh) (s:List UInt8) (M:Nat) (hM:M < 1000000000000) (K:AEx→VF→VH→Prop)
  (hK:∀ T h,qzf T 0=some (.str s)→qzf T 4=some (.int .i64 (M:Int))→K (.exit 3) T h) :
  ∀ (d k n:Nat) (T:VF) (h:VH),d+k=6→n*10 ^ d=M→qzf T 0=some (.str s)→qzf T 4=some (.int .i64 (n:Int))→qzf T 7=some (.int .i64 (k:Int)) →
   wp Go.VL.Er.E Gl (.loop c_glyphicref8_ParseNumber_l0) T h K:=by
 intro d
 induction d with
 | zero =>
  intro k n T h hd hm t0 t4 t7
  have e:n=M:=by rw [←hm,Nat.pow_zero,Nat.mul_one]
  subst e
  have c1:¬(k:Int) < 6:=by omega
  refine qzj c_glyphicref8_ParseNumber_l0.eq_1 ?_
  simp only [simprocAttr,-Int.reduceNatCast',go_sem,t7,c1]
  refine hK _ h ?_ ?_
  ·simp only [simprocAttr,-Int.reduceNatCast',go_sem,t0]
  ·simp only [simprocAttr,-Int.reduceNatCast',go_sem,t4]
 | succ d ih =>
  intro k n T h hd hm t0 t4 t7
  have c1:(k:Int) < 6:=by omega
  have w1:IntKind.i64.wrap ((k:Int)+1)=((k+1:Nat):Int):=by rw [qze (by omega) (by omega)];rfl
  have hm':10*n*10 ^ d=M:=by rw [←hm,Nat.pow_succ,Nat.mul_comm 10 n,Nat.mul_assoc,Nat.mul_comm 10]
  have hn:10*n≤M:=by
   rw [←hm']
   exact Nat.le_mul_of_pos_right _ (Nat.pow_pos (by omega))
  have w10:IntKind.i64.wrap (10*(n:Int))=((10*n:Nat):Int):=by rw [qze (by omega) (by omega)];omega
  refine qzj c_glyphicref8_ParseNumber_l0.eq_1 ?_
  simp only [simprocAttr,-Int.reduceNatCast',go_sem,t4,t7,c1,w10,w1]
  refine ih (k+1) (10*n) _ h (by omega) hm' ?_ ?_ ?_
  ·simp only [simprocAttr,-Int.reduceNatCast',go_sem,t0]
  ·simp only [simprocAttr,-Int.reduceNatCast',go_sem]
  ·simp only [simprocAttr,-Int.reduceNatCast',go_sem]
theorem pv_all {s:List UInt8} (h:parOK s=true):∃ N k:Nat,∃ b:Int,∃ neg:Bool,∃ c,s[0]?=some c∧(c.toNat == 45)=neg∧(neg=true∨digitS c=true)∧s.length≤14∧pv 0 (-1) s=(N,b)∧(b=-1∧k=0∨b=(k:Int))∧k≤6∧N*10 ^ (6 - k) < 1000000000000∧parN s=(if neg then -((N*10 ^ (6 - k):Nat):Int) else ((N*10 ^ (6 - k):Nat):Int)):=by
 have first:∀ (neg:Bool) (A t:List UInt8),(∀ b∈A,digitS b=true)→1≤A.length→∃ c,((if neg then [45] else [])++(A++t))[0]?=some c∧(c.toNat == 45)=neg∧(neg=true∨digitS c=true):=fun neg A t hA a1=>by
  cases neg
  ·cases A with
   | nil=>simp at a1
   | cons a A =>
    have d:=hA a (.head _)
    have le:=digit_le d
    exact ⟨a,rfl,by rw [beq_eq_false_iff_ne];omega,.inr d⟩
  ·exact ⟨45,rfl,rfl,.inl rfl⟩
 have sgl:∀ neg:Bool,((if neg then [45] else []):List UInt8).length≤1:=fun neg=>by cases neg<;>simp
 rcases par_shape h with ⟨neg,A,a1,a2,a3,rfl⟩ | ⟨neg,A,B,a1,a2,a3,b1,b2,b3,rfl⟩
 ·obtain ⟨c,h1,h2,h3⟩:=first neg A [] a1 a2
  rw [List.append_nil] at h1
  have lt:=valS_lt a1
  have p6:=pow6 a3
  refine ⟨valS A,0,-1,neg,c,h1,h2,h3,?_,?_,.inl ⟨rfl,rfl⟩,by omega,?_,?_⟩
  ·have:=sgl neg
   rw [List.length_append];omega
  ·rw [pv_sg]
   have:=pv_un A [] 0 a1
   rw [List.append_nil] at this
   rw [this];rfl
  ·show valS A*1000000 < _
   omega
  ·exact (par_whole a1 a2 a3 neg).2
 ·obtain ⟨c,h1,h2,h3⟩:=first neg A (46::B) a1 a2
  have lt:=valS_lt a1
  have p6:=pow6 a3
  have ltb:=valS_lt b1
  have e:(valS A*10 ^ B.length+valS B)*10 ^ (6 - B.length)=valS A*1000000+valS B*10 ^ (6 - B.length):=by
   rw [Nat.add_mul,Nat.mul_assoc,←Nat.pow_add,show B.length+(6 - B.length)=6 by omega]
  have lb:valS B*10 ^ (6 - B.length) < 1000000:=by
   have:=Nat.mul_lt_mul_of_pos_right ltb (Nat.pow_pos (n:=6 - B.length) (show 0 < 10 by omega))
   rw [←Nat.pow_add,show B.length+(6 - B.length)=6 by omega] at this
   exact this
  refine ⟨valS A*10 ^ B.length+valS B,B.length,(B.length:Int),neg,c,h1,h2,h3,?_,?_,.inr rfl,b3,?_,?_⟩
  ·have:=sgl neg
   rw [List.length_append,List.length_append,List.length_cons];omega
  ·rw [pv_sg,pv_un A _ 0 a1,pv,if_pos (show UInt8.toNat 46=46 from rfl)]
   have:=pv_fr B (valF 0 A) 0 b1
   rw [Nat.zero_add,valF_lin B] at this
   exact this
  ·rw [e];omega
  ·rw [e];exact (par_parts a1 a2 a3 b1 b2 b3 neg).2
theorem parse8_ok (Gl:qzh) (s:List UInt8) (hl:s.length < 2305843009213693952):qzg Go.VL.Er.E Gl f_glyphicref8_ParseNumber [.str s] (.tuple [.int .i64 (parN s),.bool (parOK s)]):=by
 refine qzd (qzc E_glyphicref8_ParseNumber ?_)
 unfold c_glyphicref8_ParseNumber r_glyphicref8_ParseNumber
 simp only [qzi]
 have z0:natOf (.int .i64 0)=some 0:=rfl
 by_cases h0:s.length=0
 ·obtain rfl:s=[]:=List.length_eq_zero_iff.mp h0
  have c0:(((([]:List UInt8).length:Nat):Int) == 0)=true:=rfl
  have p1:parOK []=false:=by decide
  have p2:parN []=0:=by unfold parN;rw [p1,if_neg Bool.false_ne_true]
  rw [p1,p2]
  simp only [simprocAttr,-Int.reduceNatCast',go_sem,c0]
  try simp only [Int.ofNat_zero]
  simp only [simprocAttr,-Int.reduceNatCast',go_sem]<;>first | rfl | exact ⟨rfl,rfl⟩ | exact qza rfl
 ·have c0:(((s.length:Nat):Int) == 0)=false:=beq_false_of_ne (by omega)
  obtain ⟨c,hc⟩:∃ c,s[0]?=some c:=⟨s[0],List.getElem?_eq_getElem (by omega)⟩
  have e45:(((c.toNat:Nat):Int) != 45) = !(c.toNat == 45):=by show (!_)=(!_);rw [show (45:Int)=((45:Nat):Int) from rfl,beq_nat]
  have e45':(((c.toNat:Nat):Int) == 45)=(c.toNat == 45):=beq_nat c.toNat 45
  have kn:=numeral8_ok Gl s 0 (by omega) hl
  have ge:parOK s=true→n8S s 0=s.length:=num_ok
  have bad:parOK s=false→parN s=0:=fun q=>by unfold parN;rw [q,if_neg Bool.false_ne_true]
  by_cases ok:parOK s=true
  ·obtain ⟨N,k,b,neg,c',g0,g1,g2,g3,g4,g5,g6,g7,g8⟩:=pv_all ok
   obtain rfl:c=c':=Option.some.inj (hc.symm.trans g0)
   rw [ge ok] at kn
   have es:(((s.length:Nat):Int) != ((s.length:Nat):Int))=false:=by simp
   rw [ok,g8]
   obtain ⟨M,hM⟩:∃ M,N*10 ^ (6 - k)=M:=⟨_,rfl⟩
   rw [hM] at g7 ⊢
   have wM:IntKind.i64.wrap (0 - (M:Int))=-(M:Int):=by rw [qze (by omega) (by omega)];omega
   simp only [simprocAttr,-Int.reduceNatCast',go_sem,c0,hc,z0]
   refine qzb (digit8_ok Gl c) rfl rfl ?_
   cases d:digitS c
   case' false =>
    have n1:neg=true:=by
     rcases g2 with g | g
     ·exact g
     ·rw [d] at g;cases g
    subst n1
    simp only [simprocAttr,-Int.reduceNatCast',go_sem,hc,z0,e45,g1]
   case' true =>
    simp only [simprocAttr,-Int.reduceNatCast',go_sem,hc,z0]
   all_goals
    refine qzb kn rfl rfl ?_
    simp only [simprocAttr,-Int.reduceNatCast',go_sem,es]
    refine pn_loop1 Gl s g3 N b _ ?_ s 0 0 (-1) _ _ rfl (Nat.zero_le _) (by decide) (by omega) (by omega) g4 rfl rfl rfl rfl
    intro T h t0 t4 t5
    have gk:¬(0:Int) > (k:Int):=by omega
    rcases g5 with ⟨rfl,rfl⟩ | rfl
    all_goals
     simp only [simprocAttr,-Int.reduceNatCast',go_sem,t0,t4,t5,gk]
     refine pn_loop0 Gl s M g7 _ ?_ _ _ N _ h (Nat.sub_add_cancel (by omega)) hM ?_ ?_ ?_
     case' refine_2=>simp only [simprocAttr,-Int.reduceNatCast',go_sem,t0]
     case' refine_3=>simp only [simprocAttr,-Int.reduceNatCast',go_sem,t4]
     case' refine_4=>simp only [simprocAttr,-Int.reduceNatCast',go_sem];try rfl
     case' refine_1 =>
      intro T h t0 t4
      simp only [simprocAttr,-Int.reduceNatCast',go_sem,t0,t4,hc,z0,e45',g1,wM]
      first | exact qza rfl | exact ⟨fun q=>by subst q;exact qza rfl,fun q=>by subst q;exact qza rfl⟩
  ·have ok:parOK s=false:=by simpa using ok
   have nb:n8S s 0≠s.length:=fun q=>by rw [num_bad (by omega) q] at ok;cases ok
   have es:(((n8S s 0:Nat):Int) != ((s.length:Nat):Int))=true:=by rw [bne_iff_ne];omega
   rw [ok,bad ok]
   simp only [simprocAttr,-Int.reduceNatCast',go_sem,c0,hc,z0]
   refine qzb (digit8_ok Gl c) rfl rfl ?_
   cases d:digitS c
   ·cases q:(c.toNat == 45)
    ·simp only [simprocAttr,-Int.reduceNatCast',go_sem,hc,z0,e45,q]
     exact qza rfl
    ·simp only [simprocAttr,-Int.reduceNatCast',go_sem,hc,z0,e45,q]
     refine qzb kn rfl rfl ?_
     simp only [simprocAttr,-Int.reduceNatCast',go_sem,es]
     exact qza rfl
   ·simp only [simprocAttr,-Int.reduceNatCast',go_sem,hc,z0]
    refine qzb kn rfl rfl ?_
    simp only [simprocAttr,-Int.reduceNatCast',go_sem,es]
    exact qza rfl
end
end Go.VL.Nu
namespace Go.VL.Nu
open Go.FR Go.IR Go.VL Go.VL.Er Go.VL.Wo
noncomputable section
set_option maxRecDepth 100000
set_option maxHeartbeats 1000000
theorem numberSays (Gl:qzh) (hG:GlAll Gl) (hp:GlPow Gl) (s:List UInt8) (_:s.length≤9223372036854775807) (x:Int) (_:IntKind.i64.min≤x) (_:x≤IntKind.i64.max) :
  CallsV Go.VL.Er.E Gl f_glyphiclaw9_NumberSays [.str s,.int .i64 x] h0 (fun v _=>v = .bool true):=by
 refine qzc E_glyphiclaw9_NumberSays ?_
 unfold c_glyphiclaw9_NumberSays r_glyphiclaw9_NumberSays
 simp only [qzi]
 have g0:qzf Gl 0=some [erP 0]:=(hG 0 (by omega)).1
 have zt:¬(1000000000000:Int)=0:=by omega
 have b1:=Int.lt_tmod_of_pos x (show (0:Int) < 1000000000000 by omega)
 have b2:=Int.tmod_lt_of_pos x (show (0:Int) < 1000000000000 by omega)
 by_cases c30:(s.length:Int) > 30
 ·simp only [simprocAttr,-Int.reduceNatCast',go_sem]
  refine qzb (first9_ok hp) rfl rfl ?_
  simp only [simprocAttr,-Int.reduceNatCast',go_sem,c30]<;>first | rfl | exact ⟨rfl,rfl⟩ | exact qza rfl
 ·have k1:=parse_ok g0 s (by omega)
  have k2:=parse8_ok Gl s (by omega)
  have k3:=whole_ok Gl s (by omega)
  have k4:=whole8_ok Gl s (by omega)
  simp only [simprocAttr,-Int.reduceNatCast',go_sem]
  refine qzb (first9_ok hp) rfl rfl ?_
  simp only [simprocAttr,-Int.reduceNatCast',go_sem,c30,zt]
  generalize x.tmod 1000000000000=n at *
  have k5:=show_ok hp n (by omega) (by omega)
  have k6:=show8_ok hp n (by omega) (by omega)
  have q1:(parN s == parN s)=true:=by simp
  have q2:(showN n == showN n)=true:=by simp
  have q3:(((wholeV s:Nat):Int) == ((wholeV s:Nat):Int))=true:=by simp
  have q4:(allS s == allS s)=true:=by simp
  cases ok:parOK s
  case' false =>
   have si:=see_is hG (.bare 0) (show (0:Nat) < 13 by omega) 101
   rw [decide_eq_true (show (ErrV.bare 0).f=bareF 101 from rfl)] at si
   rw [show parE s = .bare 0 by unfold parE;rw [ok];rfl] at k1
  case' true =>
   have si:=see_is hG .none trivial 0
   rw [decide_eq_true (show (ErrV.none).f=bareF 0 from rfl)] at si
   rw [show parE s = .none by unfold parE;rw [ok];rfl] at k1
  all_goals
   rw [ok] at k2
   refine qzb k1 rfl rfl ?_
   simp only [ErrV.v]
   simp only [simprocAttr,-Int.reduceNatCast',go_sem]
   refine qzb k2 rfl rfl ?_
   simp only [simprocAttr,-Int.reduceNatCast',go_sem]
   refine qzb k3 rfl rfl ?_
   simp only [simprocAttr,-Int.reduceNatCast',go_sem]
   refine qzb k4 rfl rfl ?_
   simp only [simprocAttr,-Int.reduceNatCast',go_sem,q1]
   refine qzb si rfl rfl ?_
   simp only [simprocAttr,-Int.reduceNatCast',go_sem]
   refine qzb k5 rfl rfl ?_
   simp only [simprocAttr,-Int.reduceNatCast',go_sem]
   refine qzb k6 rfl rfl ?_
   simp only [simprocAttr,-Int.reduceNatCast',go_sem,q2,q3,q4]<;>first | rfl | exact ⟨rfl,rfl⟩ | exact qza rfl
end
end Go.VL.Nu
