/- Chapter 7: a reader's runs. -/
import Derived.Test.YtbamfhdgikeneaaDoorVlK
import Derived.Test.YtbamfhdgikeneaaDoorDcC
set_option linter.unusedSimpArgs false
set_option linter.unusedVariables false
namespace Go.VL.Dc
open Go.FR Go.IR Go.VL Go.VL.Er Go.VL.Color Go.VL.Wind Go.VL.Ic Go.VL.Wire
noncomputable section
set_option maxRecDepth 100000
set_option maxHeartbeats 1000000
theorem and_mod (n k:Nat) (hn:n < 18446744073709551616) (hk:k < 64) (m:Int) (hm:m=((2 ^ k - 1:Nat):Int)):IntKind.u64.wrap ((BitVec.ofInt IntKind.u64.bits (n:Int) &&& BitVec.ofInt IntKind.u64.bits m).toNat:Int)=((n % 2 ^ k:Nat):Int):=by
 subst hm
 show IntKind.u64.wrap (BitVec.ofInt 64 (n:Int) &&& BitVec.ofInt 64 ((2 ^ k - 1:Nat):Int)).toNat=_
 have h2:2 ^ k≤2 ^ 63:=Nat.pow_le_pow_right (by omega) (by omega)
 have h63:(2:Nat) ^ 63=9223372036854775808:=by decide
 have h64:((2 ^ 64:Nat):Int)=18446744073709551616:=by decide
 rw [BitVec.toNat_and,BitVec.toNat_ofInt,BitVec.toNat_ofInt,Go.VL.Wire.wrap_u64]
 have a1:((n:Int) % ((2 ^ 64:Nat):Int)).toNat=n:=by omega
 have a2:(((2 ^ k - 1:Nat):Int) % ((2 ^ 64:Nat):Int)).toNat=2 ^ k - 1:=by omega
 rw [a1,a2,Nat.and_two_pow_sub_one_eq_mod]
 have:n % 2 ^ k≤n:=Nat.mod_le _ _
 omega
theorem shr2 (w:Nat):Int.fdiv (w:Int) (2 ^ min (2:Int).toNat IntKind.u64.bits)=((w / 4:Nat):Int):=by
 show Int.fdiv (w:Int) 4=_
 rw [Int.fdiv_eq_ediv_of_nonneg _ (by omega)];rfl
theorem shr1 (w:Nat):Int.fdiv (w:Int) (2 ^ min (1:Int).toNat IntKind.u64.bits)=((w / 2:Nat):Int):=by
 show Int.fdiv (w:Int) 2=_
 rw [Int.fdiv_eq_ediv_of_nonneg _ (by omega)];rfl
def runR (bs:List Nat) (R:Rd) (S:List Seg):Rd :=
 if isN (numS bs R).2.err=false then (numS bs R).2
 else if (numS bs R).1 % 4=0∨(numS bs R).1 / 4=0 then failS (numS bs R).2 R.pos 4
 else if S.getLast?.map (·.kind)=some (((numS bs R).1 % 4:Nat):Int) then failS (numS bs R).2 R.pos 9
 else if 400 - S.length < (numS bs R).1 / 4∨4000 < R.pts+(((numS bs R).1 / 4:Nat):Int)*(((numS bs R).1 % 4:Nat):Int) then failS (numS bs R).2 R.pos 5
 else (numS bs R).2
def runS (bs:List Nat) (R:Rd) (S:List Seg) (a:Pt):List Seg × Pt × Rd :=
 if isN (runR bs R S).err=false then (S,a,runR bs R S)
 else segLp bs ((numS bs R).1 % 4) ((numS bs R).1 / 4) ⟨(runR bs R S).pos,(runR bs R S).err,(runR bs R S).most,(runR bs R S).used,R.pts+(((numS bs R).1 / 4:Nat):Int)*(((numS bs R).1 % 4:Nat):Int)⟩ a S
theorem run_most (bs:List Nat) (R:Rd) (S:List Seg):(runR bs R S).most=R.most∧(runR bs R S).used=R.used∧(runR bs R S).pts=R.pts:=by
 have h:=num_most bs R
 have g:=fun k=>fail_most (numS bs R).2 R.pos k
 unfold runR
 repeat' split
 all_goals first
  | exact h
  | exact ⟨(g _).1.trans h.1,(g _).2.1.trans h.2.1,(g _).2.2.1.trans h.2.2⟩
def Kf (i ip:Nat) (h:VH) (js:Nat) (vs:VV) (h':VH) (js':Nat) (vs':VV):Prop:=h.next≤h'.next∧∀ k,k < h.next→k≠i→k≠ip→(k≠js∨vs = .nilS)→qza h'.l k=qza h.l k∧(k≠js'∨vs' = .nilS)
def RunQ (bs:List Nat) (i ip base:Nat) (I:IcV) (x y cl:VV) (F:List Seg × Pt × Rd) (h:VH) (js:Nat) (vs:VV) (v:VV) (h':VH):Prop:=∃ js' vs',v = .agg (cPt F.2.1)∧RAt bs i F.2.2 I h'∧qza h'.l ip=some (some (.cells [x,y,vs',cl] false))∧qzm base h' js' cSeg F.1 7 vs'∧base≤h'.next∧Kf i ip h js vs h' js' vs'
theorem runq_ret {bs:List Nat} {i ip base:Nat} {I:IcV} {x y cl:VV} {S:List Seg} {a:Pt} {RR:Rd} {h h3:VH} {js:Nat} {vs:VV} (hp:ip < h.next) (hi:i < base) (hn:base≤h.next) (st3:RAt bs i RR I h3) (jp3:qza h3.l ip=some (some (.cells [x,y,vs,cl] false))) (jr3:qza h3.l (h.next+1)=some (some (.cells [.int .i64 0,.int .i64 0] false))) (fr:∀ k,k < h.next→k≠i→qza h3.l k=qza h.l k) (hs:qzm base h js cSeg S 7 vs) (n3:h.next+1 < h3.next) :
  RunQ bs i ip base I x y cl (S,a,RR) h js vs (.agg (cPt a)) ⟨(h.next+1,some (.cells (cPt a) false))::h3.l,h3.next⟩:=by
 refine ⟨js,vs,rfl,st3.put (by omega) jr3 (fun _ _ e=>by simp at e),by simp only [qzb];rw [if_neg (by omega)];exact jp3,hs.ext (by show h.next≤h3.next;omega) (fun b1 b2=>by simp only [qzb];rw [if_neg (by omega)];exact fr js b2 (by omega)),by show base≤h3.next;omega,by show h.next≤h3.next;omega,fun k k1 k2 k3 k4=>⟨?_,k4⟩⟩
 simp only [qzb]
 rw [if_neg (by omega)]
 exact fr k k1 k2
theorem runq_end {bs:List Nat} {i ip base:Nat} {I:IcV} {x y cl:VV} {F:List Seg × Pt × Rd} {h h5:VH} {js js5:Nat} {vs vs5:VV} (hip:ip≠i) (hpn:ip < h.next) (hi:i < base) (hp:ip < base) (st:PSt bs i ip h.next base I x y cl F.1 F.2.1 F.2.2 h5 js5 vs5) (jr5:qza h5.l (h.next+1)=some (some (.cells [.int .i64 0,.int .i64 0] false))) (n5:h.next+1 < h5.next)
  (fr:∀ k,k < h.next→k≠i→k≠ip→(k≠js∨vs = .nilS)→qza h5.l k=qza h.l k∧(k≠js5∨vs5 = .nilS)) (hb:i < h.next:=by omega) :
  RunQ bs i ip base I x y cl F h js vs (.agg (cPt F.2.1)) ⟨(h.next+1,some (.cells (cPt F.2.1) false))::h5.l,h5.next⟩:=by
 refine ⟨js5,vs5,rfl,st.r.put (by omega) jr5 (fun _ _ e=>by simp at e),by simp only [qzb];rw [if_neg (by omega)];exact st.p,?_,st.n,by show h.next≤h5.next;omega,fun k k1 k2 k3 k4 => ?_⟩
 ·rcases st.s with e | ⟨e1,e2,e3,e4⟩
  ·exact .inl e
  ·refine .inr ⟨e1,?_,e3,e4⟩
   simp only [qzb]
   by_cases q:h.next+1=js5
   ·rw [←q,jr5] at e2
    simp only [Option.some.injEq,VB.cells.injEq,and_true] at e2
    have:=congrArg List.length e2
    rw [flatL_length cSeg_len] at this
    simp at this
    omega
   ·rw [if_neg q];exact e2
 ·obtain ⟨b1,b2⟩:=fr k k1 k2 k3 k4
  refine ⟨?_,b2⟩
  simp only [qzb]
  rw [if_neg (by omega)];exact b1
attribute [local go_sem] cB cPt cCl cPaint cSeg
theorem run_run {Gl:qzj} (hG:GlAll Gl) {bs:List Nat} (hl:bs.length < 100000) (hb:∀ x∈bs,x < 256) (i ip base:Nat) (hi:i < base) (hp:ip < base) (hip:ip≠i) (I:IcV) (x y cl:VV) (S:List Seg) (hS:S.length≤400) (a:Pt) (R:Rd) (h:VH) (js:Nat) (vs:VV)
  (hr:RAt bs i R I h) (hpp:qza h.l ip=some (some (.cells [x,y,vs,cl] false))) (hs:qzm base h js cSeg S 7 vs) (hn:base≤h.next) (m0:0≤R.most) (m1:R.most≤2097152) (nr:Nr a) (p0:0≤R.pts) (p1:R.pts≤1000000) (hx:ntV x=true) :
  CallsV Go.VL.Er.E Gl f_decode_reader_run [.ptr i 0,.ptr ip 0,.agg (cPt a)] h (RunQ bs i ip base I x y cl (runS bs R S a) h js vs):=by
 refine qze E_decode_reader_run ?_
 unfold c_decode_reader_run r_decode_reader_run
 simp only [qzl]
 obtain ⟨hA,eA⟩:∃ hA:VH,VH.mk ((h.next+1,some (VB.cells [.int .i64 0,.int .i64 0] false))::(h.next,some (VB.cells (cPt a) false))::h.l) (h.next+1+1)=hA:=⟨_,rfl⟩
 have nA:hA.next=h.next+1+1:=by rw [←eA]
 have fA:∀ k,k < h.next→qza hA.l k=qza h.l k:=fun k k1=>by rw [←eA];simp only [qzb];rw [if_neg (by omega),if_neg (by omega)]
 have a0:qza hA.l h.next=some (some (.cells (cPt a) false)):=by rw [←eA];simp only [qzb];rw [if_neg (by omega),if_pos trivial]
 have a1:qza hA.l (h.next+1)=some (some (.cells [.int .i64 0,.int .i64 0] false)):=by rw [←eA];simp only [qzb,if_true]
 have sA:=hr.move (h':=hA) (by omega) fA
 simp only [simprocAttr,-Int.reduceNatCast',go_sem]
 show wpCall Go.VL.Er.E Gl f_decode_reader_num [.ptr i 0] (VH.mk ((h.next+1,some (VB.cells [.int .i64 0,.int .i64 0] false))::(h.next,some (VB.cells (cPt a) false))::h.l) (h.next+1+1)) _
 rw [eA]
 refine qzh (num_run hG hl hb sA) ?_
 intro v h2 ⟨ev,st2,fm2⟩
 subst ev
 have nn:=numS_n hb R
 have nm:=num_most bs R
 have g4:qza Gl 8=some [erP 4]:=(hG 4 (by omega)).1
 have g5:qza Gl 10=some [erP 5]:=(hG 5 (by omega)).1
 have g9:qza Gl 18=some [erP 9]:=(hG 9 (by omega)).1
 have rm:=run_most bs R S
 obtain ⟨F,hF⟩:∃ F,runS bs R S a=F:=⟨_,rfl⟩
 rw [hF]
 unfold runS at hF
 obtain ⟨RR,hRR⟩:∃ RR,runR bs R S=RR:=⟨_,rfl⟩
 rw [hRR] at hF rm
 unfold runR at hRR
 generalize numS bs R=q at *
 obtain ⟨w,R2⟩:=q
 simp only at st2 nn nm hF hRR ⊢
 obtain ⟨kd,hkd⟩:∃ kd,w % 4=kd:=⟨_,rfl⟩
 obtain ⟨mn,hmn⟩:∃ mn,w / 4=mn:=⟨_,rfl⟩
 have k3:kd≤3:=by omega
 have w1:IntKind.u64.wrap ((BitVec.ofInt IntKind.u64.bits (w:Int) &&& BitVec.ofInt IntKind.u64.bits 3).toNat:Int)=(kd:Int):=by rw [and_mod w 2 nn (by omega) 3 rfl,←hkd]
 have w2:IntKind.i64.wrap (kd:Int)=kd:=qzd (by omega) (by omega)
 have n2:=fm2.1
 have jp2:=(fm2.2 ip (by omega) hip).trans ((fA ip (by omega)).trans hpp)
 have ja2:=(fm2.2 h.next (by omega) (by omega)).trans a0
 have jr2:=(fm2.2 (h.next+1) (by omega) (by omega)).trans a1
 have ac2:qzm base h2 js cSeg S 7 vs:=hs.ext (by omega) (fun b1 b2=>by rw [fm2.2 js (by omega) (by omega)];exact fA js b2)
 have st2':=st2
 obtain ⟨hn3,ev3,hi3,he3⟩:=st2
 unfold rC at hi3
 have e0:=he3.er0 Gl
 have e1:=he3.er1 Gl
 have z1:¬((2:Int) < 0):=by omega
 have w3:Int.fdiv (w:Int) (2 ^ min (2:Int).toNat IntKind.u64.bits)=(mn:Int):=by rw [shr2,hmn]
 simp only [simprocAttr,-Int.reduceNatCast',go_sem] at w1 w3
 have hlen:lenSlV [vs]=some (.int .i64 S.length):=by
  rcases ac2 with ⟨rfl,rfl⟩ | ⟨rfl,_⟩<;>rfl
 cases ce:isN R2.err
 ·rw [ce] at e0 e1
  rw [if_pos ce] at hRR
  rw [←hRR,ce] at hF
  rw [if_pos rfl] at hF
  simp only [simprocAttr,-Int.reduceNatCast',go_sem,shiftBin,z1,w1,w2,w3,jp2,↓hlen,hi3,↓e0,↓e1,ja2,jr2]
  rw [←hF]
  exact runq_ret (by omega) hi hn st2' jp2 jr2 (fun k k1 k2=>by rw [fm2.2 k (by omega) k2];exact fA k k1) hs (by omega)
 rw [ce] at e0 e1
 rw [if_neg (by rw [ce];simp),hkd,hmn] at hRR
 by_cases c1:kd=0
 ·have d1:((kd:Int) == 0)=true:=by simp [c1]
  rw [if_pos (.inl c1)] at hRR
  simp only [simprocAttr,-Int.reduceNatCast',go_sem,shiftBin,z1,w1,w2,w3,jp2,↓hlen,hi3,↓e0,↓e1,d1,g_ErrRange,g4]
  refine qzh (fails_run st2' R.pos 4) ?_
  intro v h3 ⟨st3,fm3⟩
  have fe:=fail_err R2 R.pos 4
  have n3:=fm3.1
  have ja3:=(fm3.2 h.next (by omega) (by omega)).trans ja2
  have jr3:=(fm3.2 (h.next+1) (by omega) (by omega)).trans jr2
  have jp3:=(fm3.2 ip (by omega) hip).trans jp2
  have st3':=st3
  obtain ⟨hn4,ev4,hi4,he4⟩:=st3
  have f0:=he4.er0 Gl
  have f1:=he4.er1 Gl
  rw [fe] at f0 f1
  unfold rC at hi4
  rw [←hRR,fe] at hF
  rw [if_pos rfl] at hF
  simp only [simprocAttr,-Int.reduceNatCast',go_sem,hi4,↓f0,↓f1,ja3,jr3]
  rw [←hF]
  exact runq_ret (by omega) hi hn st3' jp3 jr3 (fun k k1 k2=>by rw [fm3.2 k (by omega) k2,fm2.2 k (by omega) k2];exact fA k k1) hs (by omega)
 have d1:((kd:Int) == 0)=false:=by simp [c1]
 by_cases c2:mn=0
 ·have d2:((mn:Int) == 0)=true:=by simp [c2]
  rw [if_pos (.inr c2)] at hRR
  simp only [simprocAttr,-Int.reduceNatCast',go_sem,shiftBin,z1,w1,w2,w3,jp2,↓hlen,hi3,↓e0,↓e1,d1,d2,g_ErrRange,g4]
  refine qzh (fails_run st2' R.pos 4) ?_
  intro v h3 ⟨st3,fm3⟩
  have fe:=fail_err R2 R.pos 4
  have n3:=fm3.1
  have ja3:=(fm3.2 h.next (by omega) (by omega)).trans ja2
  have jr3:=(fm3.2 (h.next+1) (by omega) (by omega)).trans jr2
  have jp3:=(fm3.2 ip (by omega) hip).trans jp2
  have st3':=st3
  obtain ⟨hn4,ev4,hi4,he4⟩:=st3
  have f0:=he4.er0 Gl
  have f1:=he4.er1 Gl
  rw [fe] at f0 f1
  unfold rC at hi4
  rw [←hRR,fe] at hF
  rw [if_pos rfl] at hF
  simp only [simprocAttr,-Int.reduceNatCast',go_sem,hi4,↓f0,↓f1,ja3,jr3]
  rw [←hF]
  exact runq_ret (by omega) hi hn st3' jp3 jr3 (fun k k1 k2=>by rw [fm3.2 k (by omega) k2,fm2.2 k (by omega) k2];exact fA k k1) hs (by omega)
 have d2:((mn:Int) == 0)=false:=by simp [c2]
 rw [if_neg (by omega)] at hRR
 have w4:IntKind.i64.wrap (400 - (S.length:Int))=((400 - S.length:Nat):Int):=by rw [qzd (by omega) (by omega)];omega
 have w5:IntKind.u64.wrap ((400 - S.length:Nat):Int)=((400 - S.length:Nat):Int):=by rw [Go.VL.Wire.wrap_u64];omega
 rcases List.eq_nil_or_concat S with eS | ⟨S0,s,eS⟩
 ·have lS:S.length=0:=by rw [eS];rfl
  have d3:¬((S.length:Int) > 0):=by omega
  have lk:S.getLast?.map (·.kind)=none:=by rw [eS];rfl
  rw [lk,if_neg (by simp)] at hRR
  by_cases c4:400 - S.length < mn
  ·have d4:(mn:Int) > ((400 - S.length:Nat):Int):=by omega
   rw [if_pos (.inl c4)] at hRR
   simp only [simprocAttr,-Int.reduceNatCast',go_sem,shiftBin,z1,w1,w2,w3,jp2,↓hlen,hi3,↓e0,↓e1,d3,d1,d2,w4,w5,d4,g_ErrLimit,g5]
   refine qzh (fails_run st2' R.pos 5) ?_
   intro v h3 ⟨st3,fm3⟩
   have fe:=fail_err R2 R.pos 5
   have n3:=fm3.1
   have ja3:=(fm3.2 h.next (by omega) (by omega)).trans ja2
   have jr3:=(fm3.2 (h.next+1) (by omega) (by omega)).trans jr2
   have jp3:=(fm3.2 ip (by omega) hip).trans jp2
   have st3':=st3
   obtain ⟨hn4,ev4,hi4,he4⟩:=st3
   have f0:=he4.er0 Gl
   have f1:=he4.er1 Gl
   rw [fe] at f0 f1
   unfold rC at hi4
   rw [←hRR,fe] at hF
   rw [if_pos rfl] at hF
   simp only [simprocAttr,-Int.reduceNatCast',go_sem,hi4,↓f0,↓f1,ja3,jr3]
   rw [←hF]
   exact runq_ret (by omega) hi hn st3' jp3 jr3 (fun k k1 k2=>by rw [fm3.2 k (by omega) k2,fm2.2 k (by omega) k2];exact fA k k1) hs (by omega)
  have d4:¬(mn:Int) > ((400 - S.length:Nat):Int):=by omega
  have w6:IntKind.i64.wrap (mn:Int)=mn:=qzd (by omega) (by omega)
  have mk:(mn:Int)*kd≤400*3:=Int.mul_le_mul (by omega) (by omega) (by omega) (by omega)
  have mk0:0≤(mn:Int)*kd:=Int.mul_nonneg (by omega) (by omega)
  have w7:IntKind.i64.wrap ((mn:Int)*kd)=(mn:Int)*kd:=qzd (by omega) (by omega)
  have w8:IntKind.i64.wrap (R2.pts+(mn:Int)*kd)=R2.pts+(mn:Int)*kd:=by rw [nm.2.2];exact qzd (by omega) (by omega)
  by_cases c5:R2.pts+(mn:Int)*kd > 4000
  ·rw [if_pos (.inr (by rw [nm.2.2] at c5;exact c5))] at hRR
   simp only [simprocAttr,-Int.reduceNatCast',go_sem,shiftBin,z1,w1,w2,w3,jp2,↓hlen,hi3,↓e0,↓e1,d3,d1,d2,w4,w5,d4,w6,w7,w8,c5,g_ErrLimit,g5]
   refine qzh (fails_run st2' R.pos 5) ?_
   intro v h3 ⟨st3,fm3⟩
   have fe:=fail_err R2 R.pos 5
   have n3:=fm3.1
   have ja3:=(fm3.2 h.next (by omega) (by omega)).trans ja2
   have jr3:=(fm3.2 (h.next+1) (by omega) (by omega)).trans jr2
   have jp3:=(fm3.2 ip (by omega) hip).trans jp2
   have st3':=st3
   obtain ⟨hn4,ev4,hi4,he4⟩:=st3
   have f0:=he4.er0 Gl
   have f1:=he4.er1 Gl
   rw [fe] at f0 f1
   unfold rC at hi4
   rw [←hRR,fe] at hF
   rw [if_pos rfl] at hF
   simp only [simprocAttr,-Int.reduceNatCast',go_sem,hi4,↓f0,↓f1,ja3,jr3]
   rw [←hF]
   exact runq_ret (by omega) hi hn st3' jp3 jr3 (fun k k1 k2=>by rw [fm3.2 k (by omega) k2,fm2.2 k (by omega) k2];exact fA k k1) hs (by omega)
  rw [if_neg (by rw [nm.2.2] at c5;omega)] at hRR
  subst hRR
  rw [if_neg (by rw [ce];simp),hkd,hmn] at hF
  obtain ⟨R3,eR3⟩:∃ R3,Rd.mk R2.pos R2.err R2.most R2.used (R.pts+(mn:Int)*kd)=R3:=⟨_,rfl⟩
  rw [eR3] at hF
  have yi:¬i=h.next:=by omega
  have yi1:¬i=h.next+1:=by omega
  simp only [simprocAttr,-Int.reduceNatCast',go_sem,shiftBin,z1,w1,w2,w3,jp2,↓hlen,hi3,↓e0,↓e1,d3,d1,d2,w4,w5,d4,w6,w7,w8,c5]
  obtain ⟨hB,eB⟩:∃ hB:VH,VH.mk ((i,some (VB.cells (rC bs R3 ev3 I) false))::h2.l) h2.next=hB:=⟨_,rfl⟩
  have nB:hB.next=h2.next:=by rw [←eB]
  have fB:∀ k,k≠i→qza hB.l k=qza h2.l k:=fun k k1=>by rw [←eB];simp only [qzb];rw [if_neg (Ne.symm k1)]
  have sB:RAt bs i R3 I hB:=by
   refine ⟨by omega,ev3,by rw [←eB];simp only [qzb,if_true],?_⟩
   rw [←eR3]
   exact he3.keep ⟨by omega,fun k _ k2=>fB k k2⟩
  have eB':VH.mk ((i,some (VB.cells [.fsl (qzg cB bs) bs.length 1,.int .i64 R2.pos,ev3,.int .i64 R2.most,.int .i64 R2.used,.int .i64 (R2.pts+(mn:Int)*kd),I.w,I.h,I.s,I.vc,I.vm] false))::h2.l) h2.next=hB:=by
   rw [←eB,←eR3,nm.2.2];rfl
  rw [eB']
  have acB:qzm base hB js cSeg S 7 vs:=ac2.ext (by omega) (fun b1 b2=>fB js (by omega))
  have frB:∀ k,k < h.next→k≠i→qza hB.l k=qza h.l k:=fun k k1 k2=>by rw [fB k k2,fm2.2 k (by omega) k2];exact fA k k1
  refine segs_loop hG hl hb i ip h.next (h.next+1) base hi hp (by omega) hip (by omega) (by omega) (by omega) (by omega) kd k3 mn I x y cl hx F hB js vs (by omega) (hs.ne (.inr (Nat.le_succ _))) z0 (by rw [fB (h.next+1) (by omega)];exact jr2) _ _ ?_ ?_ ?_ ?_ ?_ ?_ ?_ (by omega) mn 0 _ _ js vs S a R3 (by omega) (by omega) hF.symm ⟨sB,by rw [fB ip hip];exact jp2,acB,by rw [fB h.next (by omega)];exact ja2,by omega,by omega,hs.ne (.inr (Nat.le_refl _))⟩ Kr.refl (by rw [←eR3];show 0≤R2.most;rw [nm.1];exact m0) (by rw [←eR3];show R2.most≤_;rw [nm.1];exact m1) nr (fun _ _ _ _=>rfl) ?_ ?_
  rotate_left
  rotate_left
  ·simp only [simprocAttr,-Int.reduceNatCast',go_sem]
  ·simp only [simprocAttr,-Int.reduceNatCast',go_sem]
  ·simp only [simprocAttr,-Int.reduceNatCast',go_sem]
  ·simp only [simprocAttr,-Int.reduceNatCast',go_sem]
  ·simp only [simprocAttr,-Int.reduceNatCast',go_sem]
  ·simp only [simprocAttr,-Int.reduceNatCast',go_sem]
  ·simp only [simprocAttr,-Int.reduceNatCast',go_sem];rfl
  ·intro T h5 js5 vs5 hT st5 kr5
   have v5:=hT 5 (by omega) (by omega) (by omega)
   have v6:=hT 6 (by omega) (by omega) (by omega)
   simp only [qzb,Nat.reduceEqDiff,if_true,if_false] at v5 v6
   have n5:=kr5.1
   have jr5:=((kr5.2 (h.next+1) (by omega) (by omega) (by omega) (by omega) (hs.ne (.inr (Nat.le_succ _)))).1.trans (fB (h.next+1) (by omega))).trans jr2
   have ja5:=st5.a
   simp only [simprocAttr,-Int.reduceNatCast',go_sem,v5,v6,ja5,jr5]
   exact runq_end hip (by omega) hi hp st5 jr5 (by omega) (fun k k1 k2 k3 k4=>by
    obtain ⟨b1,b2⟩:=kr5.2 k (by omega) k2 k3 (by omega) k4
    exact ⟨b1.trans (frB k k1 k2),b2⟩)
  ·intro T h5 js5 vs5 hT st5 kr5
   have v6:=hT 6 (by omega) (by omega) (by omega)
   simp only [qzb,Nat.reduceEqDiff,if_true,if_false] at v6
   have n5:=kr5.1
   have jr5:=((kr5.2 (h.next+1) (by omega) (by omega) (by omega) (by omega) (hs.ne (.inr (Nat.le_succ _)))).1.trans (fB (h.next+1) (by omega))).trans jr2
   simp only [simprocAttr,-Int.reduceNatCast',go_sem,v6]
   exact runq_end hip (by omega) hi hp st5 jr5 (by omega) (fun k k1 k2 k3 k4=>by
    obtain ⟨b1,b2⟩:=kr5.2 k (by omega) k2 k3 (by omega) k4
    exact ⟨b1.trans (frB k k1 k2),b2⟩)
 rw [List.concat_eq_append] at eS
 have lS:S.length=S0.length+1:=by rw [eS];simp
 have d3:(S.length:Int) > 0:=by omega
 have w9:IntKind.i64.wrap ((S.length:Int) - 1)=(S0.length:Int):=by rw [qzd (by omega) (by omega)];omega
 have z9:=natV_nat .i64 S0.length
 have l9:S0.length < S.length:=by omega
 obtain ⟨rfl,a2,a3,a4⟩:=ac2.some (fun e=>by rw [e] at lS;simp at lS)
 have gS:S[S0.length]?=some s:=by rw [eS];simp
 have pk:=part_flat1 cSeg_len gS (q:=0) (by omega)
 simp only [partV,Nat.add_zero] at pk
 have lk:S.getLast?.map (·.kind)=some s.kind:=by rw [eS];simp
 rw [lk] at hRR
 by_cases c3:s.kind=(kd:Int)
 ·have d5:(s.kind == (kd:Int))=true:=by simp [c3]
  rw [if_pos (by rw [c3])] at hRR
  simp only [simprocAttr,-Int.reduceNatCast',go_sem,shiftBin,z1,w1,w2,w3,jp2,↓hlen,hi3,↓e0,↓e1,d1,d2,d3,w9,z9,l9,a2,pk,d5,g_ErrCanon,g9]
  refine qzh (fails_run st2' R.pos 9) ?_
  intro v h3 ⟨st3,fm3⟩
  have fe:=fail_err R2 R.pos 9
  have n3:=fm3.1
  have ja3:=(fm3.2 h.next (by omega) (by omega)).trans ja2
  have jr3:=(fm3.2 (h.next+1) (by omega) (by omega)).trans jr2
  have jp3:=(fm3.2 ip (by omega) hip).trans jp2
  have st3':=st3
  obtain ⟨hn4,ev4,hi4,he4⟩:=st3
  have f0:=he4.er0 Gl
  have f1:=he4.er1 Gl
  rw [fe] at f0 f1
  unfold rC at hi4
  rw [←hRR,fe] at hF
  rw [if_pos rfl] at hF
  simp only [simprocAttr,-Int.reduceNatCast',go_sem,hi4,↓f0,↓f1,ja3,jr3]
  rw [←hF]
  exact runq_ret (by omega) hi hn st3' jp3 jr3 (fun k k1 k2=>by rw [fm3.2 k (by omega) k2,fm2.2 k (by omega) k2];exact fA k k1) hs (by omega)
 have d5:(s.kind == (kd:Int))=false:=by simp [c3]
 rw [if_neg (by simp;exact c3)] at hRR
 by_cases c4:400 - S.length < mn
 ·have d4:(mn:Int) > ((400 - S.length:Nat):Int):=by omega
  rw [if_pos (.inl c4)] at hRR
  simp only [simprocAttr,-Int.reduceNatCast',go_sem,shiftBin,z1,w1,w2,w3,jp2,↓hlen,hi3,↓e0,↓e1,d3,w9,z9,l9,a2,pk,d5,d1,d2,w4,w5,d4,g_ErrLimit,g5]
  refine qzh (fails_run st2' R.pos 5) ?_
  intro v h3 ⟨st3,fm3⟩
  have fe:=fail_err R2 R.pos 5
  have n3:=fm3.1
  have ja3:=(fm3.2 h.next (by omega) (by omega)).trans ja2
  have jr3:=(fm3.2 (h.next+1) (by omega) (by omega)).trans jr2
  have jp3:=(fm3.2 ip (by omega) hip).trans jp2
  have st3':=st3
  obtain ⟨hn4,ev4,hi4,he4⟩:=st3
  have f0:=he4.er0 Gl
  have f1:=he4.er1 Gl
  rw [fe] at f0 f1
  unfold rC at hi4
  rw [←hRR,fe] at hF
  rw [if_pos rfl] at hF
  simp only [simprocAttr,-Int.reduceNatCast',go_sem,hi4,↓f0,↓f1,ja3,jr3]
  rw [←hF]
  exact runq_ret (by omega) hi hn st3' jp3 jr3 (fun k k1 k2=>by rw [fm3.2 k (by omega) k2,fm2.2 k (by omega) k2];exact fA k k1) hs (by omega)
 have d4:¬(mn:Int) > ((400 - S.length:Nat):Int):=by omega
 have w6:IntKind.i64.wrap (mn:Int)=mn:=qzd (by omega) (by omega)
 have mk:(mn:Int)*kd≤400*3:=Int.mul_le_mul (by omega) (by omega) (by omega) (by omega)
 have mk0:0≤(mn:Int)*kd:=Int.mul_nonneg (by omega) (by omega)
 have w7:IntKind.i64.wrap ((mn:Int)*kd)=(mn:Int)*kd:=qzd (by omega) (by omega)
 have w8:IntKind.i64.wrap (R2.pts+(mn:Int)*kd)=R2.pts+(mn:Int)*kd:=by rw [nm.2.2];exact qzd (by omega) (by omega)
 by_cases c5:R2.pts+(mn:Int)*kd > 4000
 ·rw [if_pos (.inr (by rw [nm.2.2] at c5;exact c5))] at hRR
  simp only [simprocAttr,-Int.reduceNatCast',go_sem,shiftBin,z1,w1,w2,w3,jp2,↓hlen,hi3,↓e0,↓e1,d3,w9,z9,l9,a2,pk,d5,d1,d2,w4,w5,d4,w6,w7,w8,c5,g_ErrLimit,g5]
  refine qzh (fails_run st2' R.pos 5) ?_
  intro v h3 ⟨st3,fm3⟩
  have fe:=fail_err R2 R.pos 5
  have n3:=fm3.1
  have ja3:=(fm3.2 h.next (by omega) (by omega)).trans ja2
  have jr3:=(fm3.2 (h.next+1) (by omega) (by omega)).trans jr2
  have jp3:=(fm3.2 ip (by omega) hip).trans jp2
  have st3':=st3
  obtain ⟨hn4,ev4,hi4,he4⟩:=st3
  have f0:=he4.er0 Gl
  have f1:=he4.er1 Gl
  rw [fe] at f0 f1
  unfold rC at hi4
  rw [←hRR,fe] at hF
  rw [if_pos rfl] at hF
  simp only [simprocAttr,-Int.reduceNatCast',go_sem,hi4,↓f0,↓f1,ja3,jr3]
  rw [←hF]
  exact runq_ret (by omega) hi hn st3' jp3 jr3 (fun k k1 k2=>by rw [fm3.2 k (by omega) k2,fm2.2 k (by omega) k2];exact fA k k1) hs (by omega)
 rw [if_neg (by rw [nm.2.2] at c5;omega)] at hRR
 subst hRR
 rw [if_neg (by rw [ce];simp),hkd,hmn] at hF
 obtain ⟨R3,eR3⟩:∃ R3,Rd.mk R2.pos R2.err R2.most R2.used (R.pts+(mn:Int)*kd)=R3:=⟨_,rfl⟩
 rw [eR3] at hF
 have yi:¬i=h.next:=by omega
 have yi1:¬i=h.next+1:=by omega
 simp only [simprocAttr,-Int.reduceNatCast',go_sem,shiftBin,z1,w1,w2,w3,jp2,↓hlen,hi3,↓e0,↓e1,d3,w9,z9,l9,a2,pk,d5,d1,d2,w4,w5,d4,w6,w7,w8,c5]
 obtain ⟨hB,eB⟩:∃ hB:VH,VH.mk ((i,some (VB.cells (rC bs R3 ev3 I) false))::h2.l) h2.next=hB:=⟨_,rfl⟩
 have nB:hB.next=h2.next:=by rw [←eB]
 have fB:∀ k,k≠i→qza hB.l k=qza h2.l k:=fun k k1=>by rw [←eB];simp only [qzb];rw [if_neg (Ne.symm k1)]
 have sB:RAt bs i R3 I hB:=by
  refine ⟨by omega,ev3,by rw [←eB];simp only [qzb,if_true],?_⟩
  rw [←eR3]
  exact he3.keep ⟨by omega,fun k _ k2=>fB k k2⟩
 have eB':VH.mk ((i,some (VB.cells [.fsl (qzg cB bs) bs.length 1,.int .i64 R2.pos,ev3,.int .i64 R2.most,.int .i64 R2.used,.int .i64 (R2.pts+(mn:Int)*kd),I.w,I.h,I.s,I.vc,I.vm] false))::h2.l) h2.next=hB:=by
  rw [←eB,←eR3,nm.2.2];rfl
 rw [eB']
 have acB:qzm base hB js cSeg S 7 (.slice js 0 S.length 7 (.toEnd 7)):=ac2.ext (by omega) (fun b1 b2=>fB js (by omega))
 have frB:∀ k,k < h.next→k≠i→qza hB.l k=qza h.l k:=fun k k1 k2=>by rw [fB k k2,fm2.2 k (by omega) k2];exact fA k k1
 refine segs_loop hG hl hb i ip h.next (h.next+1) base hi hp (by omega) hip (by omega) (by omega) (by omega) (by omega) kd k3 mn I x y cl hx F hB js (.slice js 0 S.length 7 (.toEnd 7)) (by omega) (hs.ne (.inr (Nat.le_succ _))) z0 (by rw [fB (h.next+1) (by omega)];exact jr2) _ _ ?_ ?_ ?_ ?_ ?_ ?_ ?_ (by omega) mn 0 _ _ js (.slice js 0 S.length 7 (.toEnd 7)) S a R3 (by omega) (by omega) hF.symm ⟨sB,by rw [fB ip hip];exact jp2,acB,by rw [fB h.next (by omega)];exact ja2,by omega,by omega,hs.ne (.inr (Nat.le_refl _))⟩ Kr.refl (by rw [←eR3];show 0≤R2.most;rw [nm.1];exact m0) (by rw [←eR3];show R2.most≤_;rw [nm.1];exact m1) nr (fun _ _ _ _=>rfl) ?_ ?_
 rotate_left
 rotate_left
 ·simp only [simprocAttr,-Int.reduceNatCast',go_sem]
 ·simp only [simprocAttr,-Int.reduceNatCast',go_sem]
 ·simp only [simprocAttr,-Int.reduceNatCast',go_sem]
 ·simp only [simprocAttr,-Int.reduceNatCast',go_sem]
 ·simp only [simprocAttr,-Int.reduceNatCast',go_sem]
 ·simp only [simprocAttr,-Int.reduceNatCast',go_sem]
 ·simp only [simprocAttr,-Int.reduceNatCast',go_sem];rfl
 ·intro T h5 js5 vs5 hT st5 kr5
  have v5:=hT 5 (by omega) (by omega) (by omega)
  have v6:=hT 6 (by omega) (by omega) (by omega)
  simp only [qzb,Nat.reduceEqDiff,if_true,if_false] at v5 v6
  have n5:=kr5.1
  have jr5:=((kr5.2 (h.next+1) (by omega) (by omega) (by omega) (by omega) (hs.ne (.inr (Nat.le_succ _)))).1.trans (fB (h.next+1) (by omega))).trans jr2
  have ja5:=st5.a
  simp only [simprocAttr,-Int.reduceNatCast',go_sem,v5,v6,ja5,jr5]
  exact runq_end hip (by omega) hi hp st5 jr5 (by omega) (fun k k1 k2 k3 k4=>by
   obtain ⟨b1,b2⟩:=kr5.2 k (by omega) k2 k3 (by omega) k4
   exact ⟨b1.trans (frB k k1 k2),b2⟩)
 ·intro T h5 js5 vs5 hT st5 kr5
  have v6:=hT 6 (by omega) (by omega) (by omega)
  simp only [qzb,Nat.reduceEqDiff,if_true,if_false] at v6
  have n5:=kr5.1
  have jr5:=((kr5.2 (h.next+1) (by omega) (by omega) (by omega) (by omega) (hs.ne (.inr (Nat.le_succ _)))).1.trans (fB (h.next+1) (by omega))).trans jr2
  simp only [simprocAttr,-Int.reduceNatCast',go_sem,v6]
  exact runq_end hip (by omega) hi hp st5 jr5 (by omega) (fun k k1 k2 k3 k4=>by
   obtain ⟨b1,b2⟩:=kr5.2 k (by omega) k2 k3 (by omega) k4
   exact ⟨b1.trans (frB k k1 k2),b2⟩)
end
end Go.VL.Dc
