import Derived.Test.YtbamfhdgikeneaaDoorVlK
import Derived.Test.YtbamfhdgikeneaaDoorDcF
import Derived.Test.YtbamfhdgikeneaaDoorGeA
import Derived.Test.YtbamfhdgikeneaaDoorPaA
set_option linter.unusedSimpArgs false
set_option linter.unusedVariables false
namespace Go.VL.Dc
open Go.FR Go.IR Go.VL Go.VL.Er Go.VL.Color Go.VL.Wind Go.VL.Ic Go.VL.Wire
noncomputable section
set_option maxRecDepth 100000
set_option maxHeartbeats 1000000
theorem segLp_inv (bs:List Nat) (kind:Nat):∀ (n:Nat) (R:Rd) (a:Pt) (S:List Seg),0≤R.most→R.most≤2097152→Nr a →
  (segLp bs kind n R a S).1.length≤S.length+n∧Nr (segLp bs kind n R a S).2.1∧(segLp bs kind n R a S).2.2.most=R.most∧(segLp bs kind n R a S).2.2.used=R.used∧(segLp bs kind n R a S).2.2.pts=R.pts
 | 0,R,a,S,_,_,h=>⟨Nat.le_refl _,h,rfl,rfl,rfl⟩
 | n+1,R,a,S,h0,h1,h=>by
  have m:=pts_most bs kind R a
  have nr:=pts_near bs kind R a h0 h1 h
  rw [segLp]
  split
  ·exact ⟨by simp only;omega,nr,m.1,m.2.1,m.2.2.1⟩
  ·have g:=segLp_inv bs kind n (ptsLp bs kind R a).2 (En.lastPt a (ptsLp bs kind R a).1) (S++[segMk kind (ptsLp bs kind R a).1]) (by rw [m.1];exact h0) (by rw [m.1];exact h1) nr
   rw [List.length_append,List.length_cons,List.length_nil] at g
   exact ⟨by omega,g.2.1,g.2.2.1.trans m.1,g.2.2.2.1.trans m.2.1,g.2.2.2.2.trans m.2.2.1⟩
theorem run_inv (bs:List Nat) (R:Rd) (S:List Seg) (a:Pt) (h0:0≤R.most) (h1:R.most≤2097152) (h:Nr a) (hS:S.length≤400) (p0:0≤R.pts) :
  (runS bs R S a).1.length≤400∧Nr (runS bs R S a).2.1∧(runS bs R S a).2.2.most=R.most∧(runS bs R S a).2.2.used=R.used∧0≤(runS bs R S a).2.2.pts∧(runS bs R S a).2.2.pts≤max R.pts 4000:=by
 have rm:=run_most bs R S
 unfold runS
 split
 ·exact ⟨hS,h,rm.1,rm.2.1,by show 0≤(runR bs R S).pts;rw [rm.2.2];exact p0,by show (runR bs R S).pts≤_;rw [rm.2.2];omega⟩
 ·rename_i ok
  have g:=segLp_inv bs ((numS bs R).1 % 4) ((numS bs R).1 / 4) ⟨(runR bs R S).pos,(runR bs R S).err,(runR bs R S).most,(runR bs R S).used,R.pts+(((numS bs R).1 / 4:Nat):Int)*(((numS bs R).1 % 4:Nat):Int)⟩ a S (by show 0≤(runR bs R S).most;rw [rm.1];exact h0) (by show (runR bs R S).most≤_;rw [rm.1];exact h1) h
  have lim:¬(400 - S.length < (numS bs R).1 / 4∨4000 < R.pts+(((numS bs R).1 / 4:Nat):Int)*(((numS bs R).1 % 4:Nat):Int)):=by
   intro q
   apply ok
   unfold runR
   split
   ·rename_i e;exact e
   ·split
    ·exact fail_err _ _ _
    ·split
     ·exact fail_err _ _ _
     ·first | exact fail_err _ _ _ | (rw [if_pos q];exact fail_err _ _ _)
  have mk0:0≤(((numS bs R).1 / 4:Nat):Int)*(((numS bs R).1 % 4:Nat):Int):=Int.mul_nonneg (by omega) (by omega)
  have e1:=g.2.2.1.trans (show (Rd.mk (runR bs R S).pos (runR bs R S).err (runR bs R S).most (runR bs R S).used (R.pts+(((numS bs R).1 / 4:Nat):Int)*(((numS bs R).1 % 4:Nat):Int))).most=R.most from rm.1)
  refine ⟨by have:=g.1;omega,g.2.1,e1,g.2.2.2.1.trans rm.2.1,?_,?_⟩
  ·rw [g.2.2.2.2];simp only;omega
  ·rw [g.2.2.2.2];simp only;omega
def runsLp (bs:List Nat):Nat→Rd→Pt→List Seg→List Seg × Pt × Rd
 | 0,R,a,S=>(S,a,R)
 | n+1,R,a,S=>if isN R.err=false then (S,a,R) else runsLp bs n (runS bs R S a).2.2 (runS bs R S a).2.1 (runS bs R S a).1
theorem runsLp_inv (bs:List Nat):∀ (n:Nat) (R:Rd) (a:Pt) (S:List Seg),0≤R.most→R.most≤2097152→Nr a→S.length≤400→0≤R.pts →
  (runsLp bs n R a S).1.length≤400∧(runsLp bs n R a S).2.2.most=R.most∧(runsLp bs n R a S).2.2.used=R.used∧0≤(runsLp bs n R a S).2.2.pts∧(runsLp bs n R a S).2.2.pts≤max R.pts 4000
 | 0,R,a,S,_,_,_,hS,p=>⟨hS,rfl,rfl,p,by show R.pts≤_;omega⟩
 | n+1,R,a,S,h0,h1,h,hS,p=>by
  rw [runsLp]
  split
  ·exact ⟨hS,rfl,rfl,p,by show R.pts≤_;omega⟩
  ·have r:=run_inv bs R S a h0 h1 h hS p
   have g:=runsLp_inv bs n (runS bs R S a).2.2 (runS bs R S a).2.1 (runS bs R S a).1 (by rw [r.2.2.1];exact h0) (by rw [r.2.2.1];exact h1) r.2.1 r.1 r.2.2.2.2.1
   exact ⟨g.1,g.2.1.trans r.2.2.1,g.2.2.1.trans r.2.2.2.1,g.2.2.2.1,by have:=r.2.2.2.2.2;have:=g.2.2.2.2;omega⟩
attribute [local go_sem] cB cPt cCl cPaint cSeg
structure QSt (bs:List Nat) (i ip ia base:Nat) (I:IcV) (x y cl:VV) (S:List Seg) (a:Pt) (R:Rd) (h:VH) (js:Nat) (vs:VV):Prop where
 r:RAt bs i R I h
 p:qza h.l ip=some (some (.cells [x,y,vs,cl] false))
 s:qzm base h js cSeg S 7 vs
 a:qza h.l ia=some (some (.cells (cPt a) false))
 n:base≤h.next
 q:ia < h.next
 e:ia≠js∨vs = .nilS
theorem path_loop {Gl:qzj} (hG:GlAll Gl) {bs:List Nat} (hl:bs.length < 100000) (hb:∀ x∈bs,x < 256) (i ip ia base:Nat) (hi:i < base) (hp:ip < base) (hia:ia≠i) (hip:ip≠i) (hap:ia≠ip) (I:IcV) (x y cl:VV) (hx:ntV x=true) (v:Nat) (hv:v < 18446744073709551616) (F:List Seg × Pt × Rd) (HS:VH) (JS:Nat) (VS:VV) (T0:VF) (K:AEx→VF→VH→Prop)
  (hK:∀ T h js vs,(∀ k,k < 56→k≠9→qza T k=qza T0 k)→QSt bs i ip ia base I x y cl F.1 F.2.1 F.2.2 h js vs→Kr i ip ia HS JS VS h js vs→K (.exit 1) T h)
  (u0:qza T0 0=some (.ptr i 0)) (u5:qza T0 5=some (.ptr ip 0)) (u8:qza T0 8=some (.ptr ia 0)) (u6:qza T0 6=some (.int .u64 v)) :
  ∀ (d k:Nat) (T:VF) (h:VH) (js:Nat) (vs:VV) (S:List Seg) (a:Pt) (R:Rd),d+k=v / 2→S.length≤400→F=runsLp bs d R a S→QSt bs i ip ia base I x y cl S a R h js vs→Kr i ip ia HS JS VS h js vs→0≤R.most→R.most≤2097152→Nr a→0≤R.pts→R.pts≤1000000 →
   (∀ k,k < 56→k≠9→qza T k=qza T0 k)→qza T 9=some (.int .u64 k) →
  wp Go.VL.Er.E Gl (.loop c_decode_reader_path_l0) T h K:=by
 intro d
 induction d with
 | zero =>
  intro k T h js vs S a R hd hS hF st kr m0 m1 nr p0 p1 hT t9
  obtain rfl:k=v / 2:=by omega
  have t0:=(hT 0 (by omega) (by omega)).trans u0
  have t6:=(hT 6 (by omega) (by omega)).trans u6
  have z1:¬((1:Int) < 0):=by omega
  have w1:=shr1 v
  simp only [simprocAttr,-Int.reduceNatCast',go_sem] at w1
  have c:¬(((v / 2:Nat):Int) < ((v / 2:Nat):Int)):=by omega
  refine qzi c_decode_reader_path_l0.eq_1 ?_
  simp only [simprocAttr,-Int.reduceNatCast',go_sem,shiftBin,z1,w1,t0,t6,t9,c]
  subst hF
  refine hK _ _ js vs (fun k q1 q2 => ?_) st kr
  simp only [qzb]
  (repeat rw [if_neg (by omega)])
  exact hT k q1 q2
 | succ d ih =>
  intro k T h js vs S a R hd hS hF st kr m0 m1 nr p0 p1 hT t9
  have t0:=(hT 0 (by omega) (by omega)).trans u0
  have t5:=(hT 5 (by omega) (by omega)).trans u5
  have t6:=(hT 6 (by omega) (by omega)).trans u6
  have t8:=(hT 8 (by omega) (by omega)).trans u8
  have z1:¬((1:Int) < 0):=by omega
  have w1:=shr1 v
  simp only [simprocAttr,-Int.reduceNatCast',go_sem] at w1
  have c:((k:Nat):Int) < ((v / 2:Nat):Int):=by omega
  have hw:IntKind.u64.wrap ((k:Int)+1)=((k+1:Nat):Int):=by rw [Go.VL.Wire.wrap_u64];omega
  have s0:=st.r
  obtain ⟨hn3,ev3,hi3,he3⟩:=s0
  unfold rC at hi3
  have e0:=he3.er0 Gl
  have e1:=he3.er1 Gl
  refine qzi c_decode_reader_path_l0.eq_1 ?_
  rw [runsLp] at hF
  cases ce:isN R.err
  ·rw [ce] at e0 e1
   rw [if_pos ce] at hF
   simp only [simprocAttr,-Int.reduceNatCast',go_sem,shiftBin,z1,w1,t0,t6,t9,c,hi3,↓e0,↓e1]
   subst hF
   refine hK _ _ js vs (fun k q1 q2 => ?_) st kr
   simp only [qzb]
   (repeat rw [if_neg (by omega)])
   exact hT k q1 q2
  ·rw [ce] at e0 e1
   rw [if_neg (by rw [ce];simp)] at hF
   have ja:=st.a
   simp only [simprocAttr,-Int.reduceNatCast',go_sem,shiftBin,z1,w1,t0,t5,t6,t8,t9,c,hi3,↓e0,↓e1,ja]
   refine qzh (run_run hG hl hb i ip base hi hp hip I x y cl S hS a R h js vs st.r st.p st.s st.n m0 m1 nr p0 p1 hx) ?_
   intro r h2 ⟨js2,vs2,er,s2,jp2,ac2,n2,kf2⟩
   subst er
   have ri:=run_inv bs R S a m0 m1 nr hS p0
   generalize runS bs R S a=Q at *
   obtain ⟨S2,a2,R2⟩:=Q
   simp only at s2 ac2 hF ri ⊢
   have q:=st.q
   obtain ⟨ja2,ej2⟩:=kf2.2 ia q hia hap st.e
   have ja2:=ja2.trans ja
   simp only [simprocAttr,-Int.reduceNatCast',go_sem,t8,t9,ja2,hw]
   refine ih (k+1) _ _ js2 vs2 S2 a2 R2 (by omega) ri.1 hF ⟨s2.put hia ja2 (fun _ _ e=>by simp at e),by simp only [qzb];rw [if_neg hap];exact jp2,?_,by simp only [qzb,if_true],n2,by show ia < h2.next;have:=kf2.1;omega,ej2⟩
    (kr.trans ⟨kf2.1,fun k k1 k2 k3 k4 k5 => ?_⟩) (by rw [ri.2.2.1];exact m0) (by rw [ri.2.2.1];exact m1) ri.2.1 ri.2.2.2.2.1 (by have:=ri.2.2.2.2.2;omega) (fun k q1 q2 => ?_) ?_
   ·rcases ac2 with e | ⟨b1,b2,b3,b4⟩
    ·exact .inl e
    ·refine .inr ⟨b1,?_,b3,b4⟩
     simp only [qzb]
     rcases ej2 with q | q
     ·rw [if_neg q];exact b2
     ·rw [q] at b1;exact nomatch b1
   ·obtain ⟨b1,b2⟩:=kf2.2 k k1 k2 k3 k5
    refine ⟨?_,b2⟩
    simp only [qzb]
    rw [if_neg (Ne.symm k4)];exact b1
   ·simp only [qzb]
    (repeat rw [if_neg (by omega)])
    exact hT k q1 q2
   ·simp only [simprocAttr,-Int.reduceNatCast',go_sem]
def pathR1 (bs:List Nat) (R:Rd) (fill:Bool):Rd :=
 if isN (numS bs R).2.err=false then (numS bs R).2
 else if (numS bs R).1 / 2=0 then failS (numS bs R).2 R.pos 4
 else if fill=true∧(numS bs R).1 % 2=1 then failS (numS bs R).2 R.pos 9
 else (numS bs R).2
theorem pathR1_most (bs:List Nat) (R:Rd) (f:Bool):(pathR1 bs R f).most=R.most∧(pathR1 bs R f).used=R.used∧(pathR1 bs R f).pts=R.pts:=by
 have h:=num_most bs R
 have g:=fun k=>fail_most (numS bs R).2 R.pos k
 unfold pathR1
 repeat' split
 all_goals first
  | exact h
  | exact ⟨(g _).1.trans h.1,(g _).2.1.trans h.2.1,(g _).2.2.1.trans h.2.2⟩
def incS (R:Rd):Rd:=⟨R.pos,R.err,R.most,R.used,R.pts+1⟩
def pathF (bs:List Nat) (R:Rd) (fill:Bool):List Seg × Pt × Rd:=runsLp bs ((numS bs R).1 / 2) (incS (pointS bs (pathR1 bs R fill) z0).2) (pointS bs (pathR1 bs R fill) z0).1 []
def pathS' (bs:List Nat) (R:Rd) (fill:Bool):Path:=⟨(pointS bs (pathR1 bs R fill) z0).1,(pathF bs R fill).1,decide ((numS bs R).1 % 2=1)⟩
theorem RAt.inc {bs:List Nat} {i:Nat} {R:Rd} {I:IcV} {h:VH} {ev:VV} (hn:i < h.next) (he:ErrOK i h R.err ev):RAt bs i (incS R) I ⟨(i,some (.cells (rC bs (incS R) ev I) false))::h.l,h.next⟩ :=
 ⟨hn,ev,by simp only [qzb,if_true],he.keep ⟨Nat.le_refl _,fun k _ k2=>by simp only [qzb];rw [if_neg (Ne.symm k2)]⟩⟩
theorem path_inv (bs:List Nat) (R:Rd) (f:Bool) (h0:0≤R.most) (h1:R.most≤2097152) (p0:0≤R.pts) :
  (pathF bs R f).2.2.most=R.most∧(pathF bs R f).2.2.used=R.used∧0≤(pathF bs R f).2.2.pts∧(pathF bs R f).2.2.pts≤max (R.pts+1) 4000:=by
 have m1:=pathR1_most bs R f
 have m2:=point_most bs (pathR1 bs R f) z0
 have nr:=point_in bs (pathR1 bs R f) z0 (by rw [m1.1];exact h0) (by rw [m1.1];exact h1)
 have e1:(incS (pointS bs (pathR1 bs R f) z0).2).most=R.most:=m2.1.trans m1.1
 have e2:(incS (pointS bs (pathR1 bs R f) z0).2).used=R.used:=m2.2.1.trans m1.2.1
 have e3:(incS (pointS bs (pathR1 bs R f) z0).2).pts=R.pts+1:=by show (pointS bs (pathR1 bs R f) z0).2.pts+1=_;rw [m2.2.2,m1.2.2]
 have g:=runsLp_inv bs ((numS bs R).1 / 2) (incS (pointS bs (pathR1 bs R f) z0).2) (pointS bs (pathR1 bs R f) z0).1 [] (by rw [e1];exact h0) (by rw [e1];exact h1) nr (by simp) (by rw [e3];omega)
 rw [e1,e2,e3] at g
 exact g.2
theorem path_run {Gl:qzj} (hG:GlAll Gl) {bs:List Nat} (hl:bs.length < 100000) (hb:∀ x∈bs,x < 256) {i:Nat} {R:Rd} {I:IcV} {h:VH} (st:RAt bs i R I h) (fill:Bool) (m0:0≤R.most) (m1:R.most≤2097152) (p0:0≤R.pts) (p1:R.pts≤900000) :
  CallsV Go.VL.Er.E Gl f_decode_reader_path [.ptr i 0,.bool fill] h (fun v h'=>∃ js vs,v = .agg [.int .i64 (pathS' bs R fill).start.x,.int .i64 (pathS' bs R fill).start.y,vs,.bool (pathS' bs R fill).closed]∧qzm h.next h' js cSeg (pathS' bs R fill).segs 7 vs∧RAt bs i (pathF bs R fill).2.2 I h'∧Fm i h h'):=by
 have hi:=st.1
 refine qze E_decode_reader_path ?_
 unfold c_decode_reader_path r_decode_reader_path
 simp only [qzl]
 obtain ⟨hA,eA⟩:∃ hA:VH,VH.mk ((h.next+1,some (VB.cells [.int .i64 0,.int .i64 0,.nilS,.bool false] false))::(h.next,some (VB.cells [.int .i64 0,.int .i64 0,.nilS,.bool false] false))::h.l) (h.next+1+1)=hA:=⟨_,rfl⟩
 have nA:hA.next=h.next+1+1:=by rw [←eA]
 have fA:∀ k,k < h.next→qza hA.l k=qza h.l k:=fun k k1=>by rw [←eA];simp only [qzb];rw [if_neg (by omega),if_neg (by omega)]
 have a0:qza hA.l h.next=some (some (.cells [.int .i64 0,.int .i64 0,.nilS,.bool false] false)):=by rw [←eA];simp only [qzb];rw [if_neg (by omega),if_pos trivial]
 have a1:qza hA.l (h.next+1)=some (some (.cells [.int .i64 0,.int .i64 0,.nilS,.bool false] false)):=by rw [←eA];simp only [qzb,if_true]
 have sA:=st.move (h':=hA) (by omega) fA
 simp only [simprocAttr,-Int.reduceNatCast',go_sem]
 show wpCall Go.VL.Er.E Gl f_decode_reader_num [.ptr i 0] (VH.mk ((h.next+1,some (VB.cells [.int .i64 0,.int .i64 0,.nilS,.bool false] false))::(h.next,some (VB.cells [.int .i64 0,.int .i64 0,.nilS,.bool false] false))::h.l) (h.next+1+1)) _
 rw [eA]
 refine qzh (num_run hG hl hb sA) ?_
 intro v h2 ⟨ev,st2,fm2⟩
 subst ev
 have nn:=numS_n hb R
 have nm:=num_most bs R
 have g4:qza Gl 8=some [erP 4]:=(hG 4 (by omega)).1
 have g9:qza Gl 18=some [erP 9]:=(hG 9 (by omega)).1
 have pm1:=pathR1_most bs R fill
 have pin:=path_inv bs R fill m0 m1 p0
 obtain ⟨RR,hRR⟩:∃ RR,pathR1 bs R fill=RR:=⟨_,rfl⟩
 unfold pathS'
 unfold pathF at pin ⊢
 rw [hRR] at pm1 pin ⊢
 unfold pathR1 at hRR
 generalize numS bs R=q at *
 obtain ⟨w,R2⟩:=q
 simp only at st2 nn nm hRR pin ⊢
 have n2:=fm2.1
 have jp2:=(fm2.2 (h.next+1) (by omega) (by omega)).trans a1
 have jr2:=(fm2.2 h.next (by omega) (by omega)).trans a0
 have fr2:∀ k,k < h.next→k≠i→qza h2.l k=qza h.l k:=fun k k1 k2=>by rw [fm2.2 k (by omega) k2];exact fA k k1
 obtain ⟨cl,hcl⟩:∃ cl,(((w % 2:Nat):Int) == 1)=cl:=⟨_,rfl⟩
 have cle:decide (w % 2=1)=cl:=by
  rw [←hcl]
  by_cases c:w % 2=1
  ·rw [c];rfl
  ·have:w % 2=0:=by omega
   rw [this];rfl
 rw [cle]
 have w1:IntKind.u64.wrap ((BitVec.ofInt IntKind.u64.bits (w:Int) &&& BitVec.ofInt IntKind.u64.bits 1).toNat:Int)=((w % 2:Nat):Int):=and_mod w 1 nn (by omega) 1 rfl
 have w2:=shr1 w
 simp only [simprocAttr,-Int.reduceNatCast',go_sem] at w1 w2
 have z1:¬((1:Int) < 0):=by omega
 have sB:=st2.put (b:=h.next+1) (x:=some (VB.cells [.int .i64 0,.int .i64 0,.nilS,.bool cl] false)) (by omega) jp2 (fun _ _ e=>by simp at e)
 obtain ⟨hB,eB⟩:∃ hB:VH,VH.mk ((h.next+1,some (VB.cells [.int .i64 0,.int .i64 0,.nilS,.bool cl] false))::h2.l) h2.next=hB:=⟨_,rfl⟩
 rw [eB] at sB
 have nB:hB.next=h2.next:=by rw [←eB]
 have jpB:qza hB.l (h.next+1)=some (some (.cells [.int .i64 0,.int .i64 0,.nilS,.bool cl] false)):=by rw [←eB];simp only [qzb,if_true]
 have jrB:qza hB.l h.next=some (some (.cells [.int .i64 0,.int .i64 0,.nilS,.bool false] false)):=by rw [←eB];simp only [qzb];rw [if_neg (by omega)];exact jr2
 have frB:∀ k,k < h.next→k≠i→qza hB.l k=qza h.l k:=fun k k1 k2=>by rw [←eB];simp only [qzb];rw [if_neg (by omega)];exact fr2 k k1 k2
 have st2':=st2
 obtain ⟨hn3,ev3,hi3,he3⟩:=st2'
 unfold rC at hi3
 have e0:=he3.er0 Gl
 have e1:=he3.er1 Gl
 have y1:¬h.next+1=i:=by omega
 have y2:¬h.next=i:=by omega
 have y3:¬i=h.next+1:=by omega
 have y4:¬h.next+1=h.next:=by omega
 obtain ⟨clv,hclv⟩:∃ c:VV,c = .bool cl:=⟨_,rfl⟩
 cases ce:isN R2.err
 case' false =>
  rw [ce] at e0 e1
  rw [if_pos ce] at hRR
  simp only [simprocAttr,-Int.reduceNatCast',go_sem,jp2,w1,hcl,hi3,↓e0,↓e1,y1]
  rw [eB]
  have sX:=sB
  rw [hRR] at sX
  have jpX:=jpB
  have jrX:=jrB
  have frX:=frB
  have nX:h.next+1 < hB.next:=by omega
 case' true =>
  rw [ce] at e0 e1
  rw [if_neg (by rw [ce];simp)] at hRR
  by_cases c1:w / 2=0
  case' pos =>
   rw [if_pos c1] at hRR
   have d1:(((w / 2:Nat):Int) == 0)=true:=by rw [c1];rfl
   simp only [simprocAttr,-Int.reduceNatCast',go_sem,jp2,w1,hcl,hi3,↓e0,↓e1,y1,shiftBin,z1,w2,d1,g_ErrRange,g4]
   rw [eB]
   refine qzh (fails_run sB R.pos 4) ?_
   intro v h3 ⟨sX,fm3⟩
   rw [hRR] at sX
   have n3:=fm3.1
   have jpX:=(fm3.2 (h.next+1) (by omega) (by omega)).trans jpB
   have jrX:=(fm3.2 h.next (by omega) (by omega)).trans jrB
   have frX:∀ k,k < h.next→k≠i→qza h3.l k=qza h.l k:=fun k k1 k2=>by rw [fm3.2 k (by omega) k2];exact frB k k1 k2
   have nX:h.next+1 < h3.next:=by omega
   simp only [simprocAttr,-Int.reduceNatCast',go_sem]
  case' neg =>
   rw [if_neg c1] at hRR
   have d1:(((w / 2:Nat):Int) == 0)=false:=by simp;omega
   by_cases c2:fill=true∧w % 2=1
   case' pos =>
    rw [if_pos c2] at hRR
    obtain ⟨rfl,c3⟩:=c2
    have clt:cl=true:=by rw [←cle];simp [c3]
    subst clt
    simp only [simprocAttr,-Int.reduceNatCast',go_sem,jp2,w1,hcl,hi3,↓e0,↓e1,y1,shiftBin,z1,w2,d1,g_ErrCanon,g9]
    rw [eB]
    refine qzh (fails_run sB R.pos 9) ?_
    intro v h3 ⟨sX,fm3⟩
    rw [hRR] at sX
    have n3:=fm3.1
    have jpX:=(fm3.2 (h.next+1) (by omega) (by omega)).trans jpB
    have jrX:=(fm3.2 h.next (by omega) (by omega)).trans jrB
    have frX:∀ k,k < h.next→k≠i→qza h3.l k=qza h.l k:=fun k k1 k2=>by rw [fm3.2 k (by omega) k2];exact frB k k1 k2
    have nX:h.next+1 < h3.next:=by omega
    simp only [simprocAttr,-Int.reduceNatCast',go_sem]
   case' neg =>
    rw [if_neg c2] at hRR
    have ff:fill=false∨cl=false:=by
     cases fill
     ·exact .inl rfl
     ·right;rw [←cle];simp at c2;simp;omega
    have sX:=sB
    rw [hRR] at sX
    have jpX:=jpB
    have jrX:=jrB
    have frX:=frB
    have nX:h.next+1 < hB.next:=by omega
    rcases Bool.eq_false_or_eq_true fill with c3 | c3
    case' inl =>
     have c4:cl=false:=ff.resolve_left (by rw [c3];simp)
     subst c4
     simp only [simprocAttr,-Int.reduceNatCast',go_sem,jp2,w1,hcl,hi3,↓e0,↓e1,y1,shiftBin,z1,w2,d1,c3]
     rw [eB]
    case' inr =>
     simp only [simprocAttr,-Int.reduceNatCast',go_sem,jp2,w1,hcl,hi3,↓e0,↓e1,y1,shiftBin,z1,w2,d1,c3]
     rw [eB]
 all_goals
  refine qzh (point_run hG hl hb sX z0 (by rw [pm1.1];exact m0) (by rw [pm1.1];exact m1) z0_nr) ?_
  intro r h4 ⟨er,s4,fm4⟩
  subst er
  have jp4:=(fm4.2 (h.next+1) (by omega) (by omega)).trans jpX
  have jr4:=(fm4.2 h.next (by omega) (by omega)).trans jrX
  have n4:=fm4.1
  have fr4:∀ k,k < h.next→k≠i→qza h4.l k=qza h.l k:=fun k k1 k2=>by rw [fm4.2 k (by omega) k2];exact frX k k1 k2
  have pmo:=point_most bs RR z0
  have pnr:=point_in bs RR z0 (by rw [pm1.1];exact m0) (by rw [pm1.1];exact m1)
  obtain ⟨P4,hP4⟩:∃ P,pointS bs RR z0=P:=⟨_,rfl⟩
  obtain ⟨p,R4⟩:=P4
  rw [hP4] at s4 pmo pnr pin ⊢
  simp only at s4 pmo pnr pin ⊢
  have s4':=s4
  obtain ⟨hn4,ev4,hi4,he4⟩:=s4
  unfold rC at hi4
  have w5:IntKind.i64.wrap (R4.pts+1)=R4.pts+1:=by rw [pmo.2.2,pm1.2.2];exact qzd (by omega) (by omega)
  have y5:¬i=h4.next:=by omega
  have y6:¬h.next+1=h4.next:=by omega
  have y7:¬h4.next=h.next+1:=by omega
  simp only [simprocAttr,-Int.reduceNatCast',go_sem,jp4,hi4,y1,y3,w5,y5,y6,y7]
  refine path_loop hG hl hb i (h.next+1) h4.next (h.next+1+1) (by omega) (by omega) (by omega) (by omega) (by omega) I (.int .i64 p.x) (.int .i64 p.y) clv rfl w nn (runsLp bs (w / 2) (incS R4) p []) _ 0 .nilS _ _ ?_ ?_ ?_ ?_ ?_ (w / 2) 0 _ _ 0 .nilS [] p (incS R4) (by omega) (by simp) rfl ⟨?_,?_,qzm.nil,?_,?_,?_,.inr rfl⟩ Kr.refl (by show 0≤R4.most;rw [pmo.1,pm1.1];exact m0) (by show R4.most≤_;rw [pmo.1,pm1.1];exact m1) pnr (by show 0≤R4.pts+1;rw [pmo.2.2,pm1.2.2];omega) (by show R4.pts+1≤_;rw [pmo.2.2,pm1.2.2];omega) (fun _ _ _=>rfl) ?_
  rotate_left
  ·simp only [simprocAttr,-Int.reduceNatCast',go_sem]
  ·simp only [simprocAttr,-Int.reduceNatCast',go_sem]
  ·simp only [simprocAttr,-Int.reduceNatCast',go_sem]
  ·simp only [simprocAttr,-Int.reduceNatCast',go_sem]
  ·exact (RAt.inc (h:=⟨(h.next+1,_)::h4.l,h4.next⟩) hn4 (he4.put jp4 (fun _ _ e=>by simp at e))).move (by show h4.next≤h4.next+1;omega) (fun k k1=>by simp only [qzb];rw [if_neg (by simp only at k1;omega),if_neg (by simp only at k1;omega)];rfl)
  ·rw [hclv];simp only [qzb];rw [if_neg y7,if_neg y7,if_neg y3,if_pos trivial]
  ·simp only [qzb,if_true]
  ·show h.next+1+1≤h4.next+1;omega
  ·show h4.next < h4.next+1;omega
  ·simp only [simprocAttr,-Int.reduceNatCast',go_sem];rfl
  intro T h5 js5 vs5 hT st5 kr5
  have v4:=hT 4 (by omega) (by omega)
  have v5:=hT 5 (by omega) (by omega)
  simp only [qzb,Nat.reduceEqDiff,if_true,if_false] at v4 v5
  have n5:=kr5.1
  simp only at n5
  have jr5:qza h5.l h.next=some (some (.cells [.int .i64 0,.int .i64 0,.nilS,.bool false] false)):=by
   rw [(kr5.2 h.next (by show h.next < h4.next+1;omega) (by omega) (by omega) (by omega) (.inr rfl)).1]
   simp only [qzb];rw [if_neg (by omega),if_neg (by omega),if_neg (by omega),if_neg (by omega)];exact jr4
  have jp5:=st5.p
  rw [hclv] at jp5
  simp only [simprocAttr,-Int.reduceNatCast',go_sem,v4,v5,jp5,jr5]
  refine ⟨js5,vs5,rfl,?_,st5.r.put (by omega) jr5 (fun _ _ e=>by simp at e),by show h.next≤h5.next;omega,fun k k1 k2 => ?_⟩
  ·exact (st5.s.ext (h':=⟨_::h5.l,h5.next⟩) (Nat.le_refl _) (fun b1 b2=>by simp only [qzb];rw [if_neg (by omega)])).low (by omega)
  ·simp only [qzb]
   rw [if_neg (by omega),(kr5.2 k (by show k < h4.next+1;omega) k2 (by omega) (by omega) (.inr rfl)).1]
   simp only [qzb]
   rw [if_neg (by omega),if_neg (by omega),if_neg (Ne.symm k2),if_neg (by omega)]
   exact fr4 k k1 k2
end
end Go.VL.Dc
namespace Go.VL.Wind
open Go.FR Go.IR Go.VL
noncomputable section
set_option maxRecDepth 100000
set_option maxHeartbeats 1000000
abbrev cSeq (l:List Int) (at_:Nat):List VV:=[.fsl (l.map (VV.int .i64)) l.length 1,.int .i64 at_]
abbrev bSeq (l:List Int) (at_:Nat):VB := .cells (cSeq l at_) false
def numbS (n below:Int):Int:=if n.tmod below < 0 then n.tmod below+below else n.tmod below
theorem numb_in (n below:Int) (h:0 < below):0≤numbS n below∧numbS n below < below:=by
 unfold numbS
 have h1:=Int.lt_tmod_of_pos n h
 have h2:=Int.tmod_lt_of_pos n h
 split<;>omega
attribute [local go_sem] cEdge cPt cSeq
theorem numb_ok (Gl:qzj) (n below:Int) (h:0 < below) (hb:below < 9223372036854775807):qzn E Gl f_glyphicworld_Number [.int .i64 n,.int .i64 below] (.int .i64 (numbS n below)):=by
 refine qzk (qze E_glyphicworld_Number ?_)
 unfold c_glyphicworld_Number r_glyphicworld_Number numbS
 simp only [qzl]
 have h0:¬below=0:=by omega
 have h1:=Int.lt_tmod_of_pos n h
 have h2:=Int.tmod_lt_of_pos n h
 by_cases c:n.tmod below < 0
 ·have w:IntKind.i64.wrap (n.tmod below+below)=n.tmod below+below:=qzd (by omega) (by omega)
  simp only [simprocAttr,-Int.reduceNatCast',go_sem,h0,c,w]
  exact qzc rfl
 ·simp only [simprocAttr,-Int.reduceNatCast',go_sem,h0,c]
  exact qzc rfl
def pickS (l:List Int) (at_:Nat):Int:=if at_ < l.length then l.getD at_ 0 else 0
def nextS (l:List Int) (at_:Nat) (below:Int):Int:=numbS (pickS l at_) below
theorem next_in (l:List Int) (at_:Nat) (below:Int) (h:0 < below):0≤nextS l at_ below∧nextS l at_ below < below:=numb_in _ _ h
theorem next_ok (Gl:qzj) (l:List Int) (at_:Nat) (below:Int) (i:Nat) (hl:l.length < 4611686018427387904) (ha:at_ < 4611686018427387904) (h:0 < below) (hb:below < 9223372036854775807) :
  StOk E Gl f_glyphicmake_Seq_Next [.ptr i 0,.int .i64 below] [(i,bSeq l at_)] (.int .i64 (nextS l at_ below)) [(i,bSeq l (at_+1))]:=by
 refine st1_intro fun nx hn=>qze E_glyphicmake_Seq_Next ?_
 unfold c_glyphicmake_Seq_Next r_glyphicmake_Seq_Next
 simp only [qzl]
 have w:IntKind.i64.wrap ((at_:Int)+1)=((at_+1:Nat):Int):=by rw [qzd (by omega) (by omega)];rfl
 by_cases c:at_ < l.length
 ·have c1:(at_:Int) < (l.length:Int):=by omega
  have hp:(l.map (VV.int .i64))[at_]?=some (.int .i64 (pickS l at_)):=by
   rw [List.getElem?_map,List.getElem?_eq_getElem c]
   simp [pickS,c,List.getD]
  simp only [simprocAttr,-Int.reduceNatCast',go_sem,c1,c,hp,Nat.mul_one,w]
  refine qzf (numb_ok Gl _ below h hb) rfl rfl ?_
  simp only [simprocAttr,-Int.reduceNatCast',go_sem,c1]<;>first | rfl | exact ⟨rfl,rfl⟩ | exact qzc rfl
 ·have c1:¬(at_:Int) < (l.length:Int):=by omega
  have hp:pickS l at_=0:=by simp [pickS,c]
  simp only [simprocAttr,-Int.reduceNatCast',go_sem,c1,w]
  refine qzf (numb_ok Gl 0 below h hb) rfl rfl ?_
  unfold nextS
  simp only [simprocAttr,-Int.reduceNatCast',go_sem,c1,hp]<;>first | rfl | exact ⟨rfl,rfl⟩ | exact qzc rfl
def pointS (l:List Int) (at_:Nat) (far:Int):Pt:=⟨nextS l at_ (2*far+1) - far,nextS l (at_+1) (2*far+1) - far⟩
theorem point_in (l:List Int) (at_:Nat) (far:Int) (h:0≤far):(-far≤(pointS l at_ far).x∧(pointS l at_ far).x≤far)∧-far≤(pointS l at_ far).y∧(pointS l at_ far).y≤far:=by
 have h1:=next_in l at_ (2*far+1) (by omega)
 have h2:=next_in l (at_+1) (2*far+1) (by omega)
 simp only [pointS];omega
theorem point_ok (Gl:qzj) (l:List Int) (at_:Nat) (far:Int) (i:Nat) (hl:l.length < 4611686018427387904) (ha:at_+1 < 4611686018427387904) (h:0≤far) (hb:far < 4611686018427387000) :
  StOk E Gl f_glyphicmake_Point [.ptr i 0,.int .i64 far] [(i,bSeq l at_)] (.agg (cPt (pointS l at_ far))) [(i,bSeq l (at_+2))]:=by
 refine st1_intro fun nx hn=>qze E_glyphicmake_Point ?_
 unfold c_glyphicmake_Point r_glyphicmake_Point
 simp only [qzl]
 have w1:IntKind.i64.wrap (2*far)=2*far:=qzd (by omega) (by omega)
 have w2:IntKind.i64.wrap (2*far+1)=2*far+1:=qzd (by omega) (by omega)
 have n1:=next_in l at_ (2*far+1) (by omega)
 have n2:=next_in l (at_+1) (2*far+1) (by omega)
 have w3:IntKind.i64.wrap (nextS l at_ (2*far+1) - far)=nextS l at_ (2*far+1) - far:=qzd (by omega) (by omega)
 have w4:IntKind.i64.wrap (nextS l (at_+1) (2*far+1) - far)=nextS l (at_+1) (2*far+1) - far:=qzd (by omega) (by omega)
 have ne1:¬nx=i:=by omega
 have ne2:¬i=nx:=by omega
 simp only [simprocAttr,-Int.reduceNatCast',go_sem,w1,w2]
 refine qzp (next_ok Gl l at_ (2*far+1) i hl (by omega) (by omega) (by omega)) (by simp only [simprocAttr,-Int.reduceNatCast',go_sem,ne1,ne2]) rfl rfl ?_
 simp only [simprocAttr,-Int.reduceNatCast',go_sem,w1,w2,w3]
 refine qzp (next_ok Gl l (at_+1) (2*far+1) i hl (by omega) (by omega) (by omega)) (by simp only [simprocAttr,-Int.reduceNatCast',go_sem,ne1,ne2]) rfl rfl ?_
 simp only [simprocAttr,-Int.reduceNatCast',go_sem,w4,ne1,ne2]<;>first | rfl | exact ⟨rfl,rfl⟩ | exact qzc rfl
def edgesS (l:List Int):Nat→Nat→Int→List Edge
 | 0,_,_=>[]
 | n+1,at_,far=>⟨pointS l at_ far,pointS l (at_+2) far⟩::edgesS l n (at_+4) far
def chainS (l:List Int) (far:Int):Nat→Nat→Pt→List Edge
 | 0,_,_=>[]
 | n+1,at_,p=>⟨p,pointS l at_ far⟩::chainS l far n (at_+2) (pointS l at_ far)
def lastS (l:List Int) (far:Int):Nat→Nat→Pt→Pt
 | 0,_,p=>p
 | n+1,at_,p=>lastS l far n (at_+2) (pointS l at_ far)
def ringS (l:List Int) (n at_:Nat) (far:Int):List Edge :=
 chainS l far (n - 1) (at_+2) (pointS l at_ far)++[⟨lastS l far (n - 1) (at_+2) (pointS l at_ far),pointS l at_ far⟩]
end
end Go.VL.Wind
namespace Go.VL.Wind
open Go.FR Go.IR Go.VL
noncomputable section
set_option maxRecDepth 100000
set_option maxHeartbeats 1000000
theorem wpW_app0 {E:Env} {Gl:qzj} {h:VH} {K:VV→VH→Option (List Nat × Bool)→Prop} {esz eb n:Nat} {v x:VV} {cs:List VV} (hs:srcV h esz x=some (0,cs)) (hn:lenOfV v=some n) (hk:K v h (some (idsO (some v),true))):wpW E Gl (.append esz eb) [v,x] h K:=by
 rw [wpW_append]
 simp only [appendV,hs,hn,optW]
 exact hk
theorem acc_shut {α:Type} {base:Nat} {h:VH} {j:Nat} {f:α→List VV} {l:List α} {esz:Nat} {v:VV} (a:qzm base h j f l esz v) (hf:∀ a,(f a).length=esz) (hc:∀ a,closedL (f a)=true):∃ a0,shut h v=some a0∧subV a0 (.fsl (qzg f l) l.length esz):=by
 rcases a with ⟨rfl,rfl⟩ | ⟨rfl,a3,a4,a5⟩
 ·exact ⟨.nilS,rfl,.inr ⟨esz,rfl⟩⟩
 ·have hcl:=closedL_flat hc l
  obtain ⟨h1,h2⟩:=flat_all hf l
  refine ⟨.fsl (qzg f l) l.length esz,?_,subV_refl _⟩
  simp only [shut,get_def,a3,Option.getD_some,hcl,Nat.zero_add,h1,capOK,List.drop_zero,h2,and_self,if_true]
attribute [local go_sem] cEdge cPt
def copyCap (l:List Edge):ACap:=if l=[] then .exact 0 else .toEnd 4
def sumS (p:Pt):List Edge→Int
 | []=>0
 | e::l=>oneS e p+sumS p l
abbrev plusS (a b:Pt):Pt:=⟨w64 (a.x+b.x),w64 (a.y+b.y)⟩
def PIn (p:Pt) (b:Int):Prop:=(-b≤p.x∧p.x≤b)∧-b≤p.y∧p.y≤b
def EIn (e:Edge) (b:Int):Prop:=PIn e.a b∧PIn e.b b
def moveS (e:Edge) (v:Pt):Edge:=⟨plusS e.a v,plusS e.b v⟩
theorem PIn.mono {p:Pt} {b c:Int} (h:PIn p b) (hb:b≤c):PIn p c:=by unfold PIn at *;omega
end
end Go.VL.Wind
namespace Go.VL.Dc
open Go.FR Go.IR Go.VL Go.VL.Er Go.VL.Color Go.VL.Wind Go.VL.Ic Go.VL.Wire
noncomputable section
set_option maxRecDepth 100000
set_option maxHeartbeats 1000000
def clAt (bs:List Nat) (p:Nat):Cl:=⟨bs.getD p 0,bs.getD (p+1) 0,bs.getD (p+2) 0,bs.getD (p+3) 0⟩
def colLp (bs:List Nat):Nat→Rd→List Cl→Rd × List Cl
 | 0,R,L=>(R,L)
 | n+1,R,L=>if isN R.err=false then (R,L)
  else if (bs.length:Int) - R.pos < 4 then (failS R R.pos 6,L)
  else if clAt bs R.pos.toNat∈L then (failS R R.pos 9,L)
  else colLp bs n ⟨R.pos+4,R.err,R.most,R.used,R.pts⟩ (L++[clAt bs R.pos.toNat])
abbrev withC (I:IcV) (vc:VV):IcV:=⟨I.w,I.h,I.s,vc,I.vm⟩
def Kc (i:Nat) (hA:VH) (jA:Nat) (vA:VV) (hB:VH) (jB:Nat) (vB:VV):Prop:=hA.next≤hB.next∧∀ k,k < hA.next→k≠i→(k≠jA∨vA = .nilS)→qza hB.l k=qza hA.l k∧(k≠jB∨vB = .nilS)
theorem Kc.refl {i:Nat} {h:VH} {j:Nat} {v:VV}:Kc i h j v h j v:=⟨Nat.le_refl _,fun k _ _ h=>⟨rfl,h⟩⟩
theorem Kc.trans {i:Nat} {h1 h2 h3:VH} {j1 j2 j3:Nat} {v1 v2 v3:VV} (p:Kc i h1 j1 v1 h2 j2 v2) (q:Kc i h2 j2 v2 h3 j3 v3):Kc i h1 j1 v1 h3 j3 v3 :=
 ⟨Nat.le_trans p.1 q.1,fun k k1 k2 k3=>by
  obtain ⟨a1,a2⟩:=p.2 k k1 k2 k3
  obtain ⟨c1,c2⟩:=q.2 k (Nat.lt_of_lt_of_le k1 p.1) k2 a2
  exact ⟨c1.trans a1,c2⟩⟩
theorem Fm.kc {i:Nat} {h h':VH} (f:Fm i h h') (j:Nat) (v:VV):Kc i h j v h' j v:=⟨f.1,fun k k1 k2 k3=>⟨f.2 k k1 k2,k3⟩⟩
theorem acc_keep {α:Type} {base i:Nat} {h h':VH} {j:Nat} {f:α→List VV} {l:List α} {esz:Nat} {v:VV} (a:qzm base h j f l esz v) (hi:i < base) (fm:Fm i h h'):qzm base h' j f l esz v:=a.ext fm.1 (fun b1 b2=>fm.2 j b2 (by omega))
theorem acc_nerr4 {base:Nat} {h:VH} {j:Nat} {S:List Cl} {v:VV} (a:qzm base h j cCl S 4 v) {k:Nat} (hk:ErrBlk h k):k≠j∨v = .nilS:=by
 rcases a with ⟨_,e⟩ | ⟨_,a2,_,_⟩
 ·exact .inr e
 ·left
  rintro rfl
  obtain ⟨pos,q,e⟩:=hk
  rw [e] at a2
  simp only [Option.some.injEq,VB.cells.injEq,and_true] at a2
  have:=congrArg List.length a2
  rw [flatL_length Ic.cCl_len] at this
  simp at this
  omega
theorem ErrOK.frame {i:Nat} {h h':VH} {e:ErrV} {ev:VV} (s:ErrOK i h e ev) (hn:h.next≤h'.next) (hf:∀ k,k < h.next→k≠i→ErrBlk h k→qza h'.l k=qza h.l k):ErrOK i h' e ev:=by
 rcases s with c | ⟨k,pos,j,a1,a2,a3,a4,a5⟩
 ·exact .inl c
 ·exact .inr ⟨k,pos,j,a1,a2,by rw [hf j a4 a5 ⟨pos,k,a3⟩];exact a3,by omega,a5⟩
def ColQ (bs:List Nat) (i base:Nat) (I:IcV) (F:Rd × List Cl) (HS:VH) (JS:Nat) (VS:VV) (h:VH):Prop:=∃ jc vc,RAt bs i F.1 (withC I vc) h∧qzm base h jc cCl F.2 4 vc∧base≤h.next∧Kc i HS JS VS h jc vc
attribute [local go_sem] cB cPt cCl cPaint cSeg
theorem cols_loop {Gl:qzj} (hG:GlAll Gl) {bs:List Nat} (hl:bs.length < 100000) (i base:Nat) (hi:i < base) (I:IcV) (F:Rd × List Cl) (HS:VH) (JS:Nat) (VS:VV) (K:AEx→VF→VH→Prop) (many:Nat) (hm:many≤256)
  (hK:∀ T h,ColQ bs i base I F HS JS VS h→K (.exit 0) T h) (hR:∀ T h,ColQ bs i base I F HS JS VS h→K .ret T h) :
  ∀ (d k:Nat) (T:VF) (h:VH) (jc:Nat) (vc:VV) (R:Rd) (L:List Cl),d+k=many→L.length+d≤256→F=colLp bs d R L→RAt bs i R (withC I vc) h→qzm base h jc cCl L 4 vc→base≤h.next→Kc i HS JS VS h jc vc→0≤R.pos→R.pos≤200000 →
   qza T 0=some (.ptr i 0)→qza T 5=some (.int .i64 many)→qza T 6=some (.int .i64 k) →
  wp Go.VL.Er.E Gl (.loop c_decode_reader_colors_l0) T h K:=by
 intro d
 induction d with
 | zero =>
  intro k T h jc vc R L hd hL hF st ac nb kc p0 p1 t0 t5 t6
  obtain rfl:k=many:=by omega
  refine qzi c_decode_reader_colors_l0.eq_1 ?_
  simp only [simprocAttr,-Int.reduceNatCast',go_sem,t5,t6,Int.lt_irrefl]
  subst hF
  exact hK _ _ ⟨jc,vc,st,ac,nb,kc⟩
 | succ d ih =>
  intro k T h jc vc R L hd hL hF st ac nb kc p0 p1 t0 t5 t6
  have c:(k:Int) < many:=by omega
  have hw:IntKind.i64.wrap ((k:Int)+1)=((k+1:Nat):Int):=by rw [qzd (by omega) (by omega)];rfl
  have g6:qza Gl 12=some [erP 6]:=(hG 6 (by omega)).1
  have g9:qza Gl 18=some [erP 9]:=(hG 9 (by omega)).1
  have st':=st
  obtain ⟨hn3,ev3,hi3,he3⟩:=st'
  unfold rC at hi3
  have e0:=he3.er0 Gl
  have e1:=he3.er1 Gl
  refine qzi c_decode_reader_colors_l0.eq_1 ?_
  rw [colLp] at hF
  cases ce:isN R.err
  ·rw [ce] at e0 e1
   rw [if_pos ce] at hF
   subst hF
   simp only [simprocAttr,-Int.reduceNatCast',go_sem,t0,t5,t6,c,hi3,↓e0,↓e1]
   exact hR _ _ ⟨jc,vc,st,ac,nb,kc⟩
  rw [ce] at e0 e1
  rw [if_neg (by rw [ce];simp)] at hF
  have w1:IntKind.i64.wrap ((bs.length:Int) - R.pos)=(bs.length:Int) - R.pos:=qzd (by omega) (by omega)
  by_cases c1:(bs.length:Int) - R.pos < 4
  ·rw [if_pos c1] at hF
   simp only [simprocAttr,-Int.reduceNatCast',go_sem,t0,t5,t6,c,hi3,↓e0,↓e1,w1,c1,g_ErrShort,g6]
   refine qzh (fails_run st R.pos 6) ?_
   intro v h2 ⟨s2,fm2⟩
   subst hF
   simp only [simprocAttr,-Int.reduceNatCast',go_sem]
   exact hR _ _ ⟨jc,vc,s2,acc_keep ac hi fm2,by have:=fm2.1;omega,kc.trans (fm2.kc jc vc)⟩
  rw [if_neg c1] at hF
  obtain ⟨p,hp⟩:∃ p:Nat,R.pos=p:=⟨R.pos.toNat,by omega⟩
  rw [hp,Int.toNat_natCast] at hF
  have hp4:p+4≤bs.length:=by omega
  obtain ⟨x0,x1,x2,x3,rest,hx⟩:∃ x0 x1 x2 x3 rest,bs.drop p=x0::x1::x2::x3::rest:=by
   have:(bs.drop p).length=bs.length - p:=List.length_drop
   rcases h:bs.drop p with _ | ⟨x0,_ | ⟨x1,_ | ⟨x2,_ | ⟨x3,rest⟩⟩⟩⟩
   all_goals first
    | exact ⟨_,_,_,_,_,rfl⟩
    | (rw [h] at this;simp at this;omega)
  have hcl:clAt bs p=⟨x0,x1,x2,x3⟩:=by
   have g:∀ q,bs[p+q]?=(x0::x1::x2::x3::rest)[q]?:=fun q=>by rw [←hx,List.getElem?_drop]
   have g0:=g 0;have g1:=g 1;have g2:=g 2;have g3:=g 3
   simp at g0 g1 g2 g3
   unfold clAt
   simp only [List.getD_eq_getElem?_getD,g0,g1,g2,g3,Option.getD_some]
  rw [hcl] at hF
  have zp:=natV_nat .i64 p
  have lp:p≤bs.length:=by omega
  have fd:=flatL_drop cB_len p bs
  rw [hx] at fd
  have lx:bs.length - p=(x0::x1::x2::x3::rest).length:=by rw [←hx,List.length_drop]
  have ft:List.take ((bs.length - p)*1) (qzg cB (x0::x1::x2::x3::rest))=qzg cB (x0::x1::x2::x3::rest):=by
   rw [lx];exact (flat_all cB_len _).2
  have y0:=flat1_at (l:=x0::x1::x2::x3::rest) (k:=0) (x:=x0) rfl
  have y1:=flat1_at (l:=x0::x1::x2::x3::rest) (k:=1) (x:=x1) rfl
  have y2:=flat1_at (l:=x0::x1::x2::x3::rest) (k:=2) (x:=x2) rfl
  have y3:=flat1_at (l:=x0::x1::x2::x3::rest) (k:=3) (x:=x3) rfl
  have m0:qzt (VV.int .i64 0)=some 0:=rfl
  have m1:qzt (VV.int .i64 1)=some 1:=rfl
  have m2:qzt (VV.int .i64 2)=some 2:=rfl
  have m3:qzt (VV.int .i64 3)=some 3:=rfl
  have l0:0 < bs.length - p:=by omega
  have l1:1 < bs.length - p:=by omega
  have l2:2 < bs.length - p:=by omega
  have l3:3 < bs.length - p:=by omega
  obtain ⟨Y,hY⟩:∃ Y,qzg cB (x0::x1::x2::x3::rest)=Y:=⟨_,rfl⟩
  rw [hY] at fd ft y0 y1 y2 y3
  have z1:¬h.next=i:=by omega
  have z2:¬i=h.next:=by omega
  rw [hp] at w1 c1 hi3
  simp only [simprocAttr,-Int.reduceNatCast',go_sem,t0,t5,t6,c,hi3,↓e0,↓e1,w1,c1,zp,lp,fd,ft,m0,m1,m2,m3,l0,l1,l2,l3,y0,y1,y2,y3,z1,z2]
  obtain ⟨hA,eA⟩:∃ hA:VH,VH.mk ((h.next,some (VB.cells [.int .u8 (x0:Int),.int .u8 (x1:Int),.int .u8 (x2:Int),.int .u8 (x3:Int)] false))::(h.next,some (VB.cells [.int .u8 0,.int .u8 0,.int .u8 0,.int .u8 0] false))::h.l) (h.next+1)=hA:=⟨_,rfl⟩
  have nA:hA.next=h.next+1:=by rw [←eA]
  have fA:∀ k,k < h.next→qza hA.l k=qza h.l k:=fun k k1=>by rw [←eA];simp only [qzb];rw [if_neg (by omega),if_neg (by omega)]
  have cA:qza hA.l h.next=some (some (.cells (cCl ⟨x0,x1,x2,x3⟩) false)):=by rw [←eA];simp only [qzb,if_true]
  have sA:=st.move (h':=hA) (by omega) fA
  have acA:qzm base hA jc cCl L 4 vc:=ac.ext (by omega) (fun _ q=>fA jc q)
  have iA:=(fA i hn3).trans hi3
  have heA:ErrOK i hA R.err ev3:=he3.frame (by omega) (fun k k1 _ _=>fA k k1)
  obtain ⟨a0,sh,sb⟩:=Pal.acc_shut acA Ic.cCl_len (fun _=>rfl)
  rw [eA]
  refine call_plain_sub (a0:=[a0,.agg (cCl ⟨x0,x1,x2,x3⟩)]) (contains_ok Gl ⟨x0,x1,x2,x3⟩ L (by omega)) (by simp only [shutL,sh];rfl) ⟨_,_,rfl,sb,subL_refl _⟩ rfl ?_
  by_cases hm:(⟨x0,x1,x2,x3⟩:Cl)∈L
  ·rw [decide_eq_true hm]
   rw [if_pos hm] at hF
   simp only [simprocAttr,-Int.reduceNatCast',go_sem,t0,iA,g_ErrCanon,g9]
   rw [←hp] at hF ⊢
   refine qzh (fails_run sA R.pos 9) ?_
   intro v h2 ⟨s2,fm2⟩
   subst hF
   simp only [simprocAttr,-Int.reduceNatCast',go_sem]
   exact hR _ _ ⟨jc,vc,s2,acc_keep acA hi fm2,by have:=fm2.1;omega,kc.trans (Kc.trans (h2:=hA) (j2:=jc) (v2:=vc) ⟨by omega,fun k k1 _ k3=>⟨fA k k1,k3⟩⟩ (fm2.kc jc vc))⟩
  ·rw [decide_eq_false hm]
   rw [if_neg hm] at hF
   have z3:¬hA.next=i:=by omega
   have z4:¬hA.next=h.next:=by omega
   simp only [simprocAttr,-Int.reduceNatCast',go_sem,t0,iA,cA,z3,z4]
   have acc':qzm base ⟨(hA.next,some (VB.cells (cCl ⟨x0,x1,x2,x3⟩) false))::hA.l,hA.next+1⟩ jc cCl L 4 vc:=acA.ext (by show hA.next≤hA.next+1;omega) (fun x y=>by simp only [qzb];rw [if_neg (by omega)])
   refine wpW_acc (base:=base) (j:=jc) (f:=cCl) (l:=L) (a:=⟨x0,x1,x2,x3⟩) acc' (by first | (simp only [simprocAttr,-Int.reduceNatCast',go_sem];done) | (simp only [simprocAttr,-Int.reduceNatCast',go_sem];rfl)) Ic.cCl_len (by omega) (by show base≤hA.next+1;omega) (by omega) (by omega) ?_
   intro h' g1 g2 g3
   simp only at g1 g2 g3
   have fr':∀ k,k < h.next→(k≠jc∨vc = .nilS)→qza h'.l k=qza h.l k:=fun k k1 k2=>by
    rw [g2 k (by omega) k2];simp only [qzb];rw [if_neg (by omega)];exact fA k k1
   have i':=(fr' i hn3 (ac.ne (.inl hi))).trans hi3
   have w4:IntKind.i64.wrap ((p:Int)+4)=(p:Int)+4:=qzd (by omega) (by omega)
   simp only [simprocAttr,-Int.reduceNatCast',go_sem,t0,t6,i',w4,hw]
   refine ih (k+1) _ _ (hA.next+1) (.slice (hA.next+1) 0 (L.length+1) 4 (.toEnd 4)) _ (L++[⟨x0,x1,x2,x3⟩]) (by omega) (by rw [List.length_append,List.length_cons,List.length_nil];omega) hF ?_ ?_ ?_ ?_ (by show 0≤(p:Int)+4;omega) (by show (p:Int)+4≤200000;omega) ?_ ?_ ?_
   ·refine ⟨by show i < h'.next;omega,ev3,by simp only [qzb,if_true];rfl,?_⟩
    refine he3.frame (by show h.next≤h'.next;omega) (fun k k1 k2 k3 => ?_)
    simp only [qzb]
    rw [if_neg (Ne.symm k2),if_neg (Ne.symm k2)]
    exact fr' k k1 (acc_nerr4 ac k3)
   ·exact g3.ext (Nat.le_refl _) (fun x y=>by simp only [qzb];rw [if_neg (by omega),if_neg (by omega)])
   ·show base≤h'.next;omega
   ·refine kc.trans ⟨by show h.next≤h'.next;omega,fun k k1 k2 k3=>⟨?_,.inl (by omega)⟩⟩
    simp only [qzb]
    rw [if_neg (Ne.symm k2),if_neg (Ne.symm k2)]
    exact fr' k k1 k3
   ·simp only [simprocAttr,-Int.reduceNatCast',go_sem,t0]
   ·simp only [simprocAttr,-Int.reduceNatCast',go_sem,t5]
   ·simp only [simprocAttr,-Int.reduceNatCast',go_sem]
def manyN (bs:List Nat) (R:Rd) (lo most:Int):Nat:=(manyS bs R lo most).toNat
theorem many_in (bs:List Nat) (R:Rd) (lo most:Int) (h:0≤most):0≤manyS bs R lo most∧manyS bs R lo most≤most:=by
 unfold manyS
 split
 ·rename_i e
  refine ⟨by omega,?_⟩
  rcases Int.lt_or_le most (numS bs R).1 with q | q
  ·exfalso
   unfold manyR at e
   split at e
   ·rw [fail_err] at e;exact nomatch e
   ·first
     | (rw [fail_err] at e;exact nomatch e)
     | (rw [if_pos q,fail_err] at e;exact nomatch e)
  ·exact q
 ·omega
theorem many_most (bs:List Nat) (R:Rd) (lo most:Int):(manyR bs R lo most).most=R.most∧(manyR bs R lo most).used=R.used∧(manyR bs R lo most).pts=R.pts:=by
 have h:=num_most bs R
 have g:=fun k=>fail_most (numS bs R).2 R.pos k
 unfold manyR
 repeat' split
 all_goals first
  | exact h
  | exact ⟨(g _).1.trans h.1,(g _).2.1.trans h.2.1,(g _).2.2.1.trans h.2.2⟩
def colsS (bs:List Nat) (R:Rd):Rd × List Cl:=colLp bs (manyN bs R 0 256) (manyR bs R 0 256) []
theorem getS_k (bs:List Nat) (a:Int) (h0:0≤a) (h1:a≤100004) (hl:bs.length < 100000) (hb:∀ x∈bs,x < 256):isN (getS bs a).e=true→0≤(getS bs a).k∧(getS bs a).k≤100000:=by
 unfold getS
 split
 ·intro e;exact nomatch e
 ·split
  ·intro e;exact nomatch e
  ·intro e;exact nomatch e
  ·rename_i c _ n k e
   intro _
   obtain ⟨m,_,_,e3,e4,_⟩:=got_put _ 0 0 _ _ (by omega) (by omega) (fun x hx=>hb x (List.mem_of_mem_drop hx)) e
   rw [List.length_drop] at e4
   simp only;omega
theorem num_pos (bs:List Nat) (R:Rd) (h0:0≤R.pos) (h1:R.pos≤100004) (hl:bs.length < 100000) (hb:∀ x∈bs,x < 256):0≤(numS bs R).2.pos∧(numS bs R).2.pos≤100004:=by
 unfold numS
 split
 ·simp only
  split
  ·rename_i e
   have:=getS_k bs R.pos h0 h1 hl hb e
   omega
  ·exact ⟨h0,h1⟩
 ·exact ⟨h0,h1⟩
theorem many_pos (bs:List Nat) (R:Rd) (lo most:Int) (h0:0≤R.pos) (h1:R.pos≤100004) (hl:bs.length < 100000) (hb:∀ x∈bs,x < 256):0≤(manyR bs R lo most).pos∧(manyR bs R lo most).pos≤100004:=by
 have h:=num_pos bs R h0 h1 hl hb
 have g:=fun k=>fail_most (numS bs R).2 R.pos k
 unfold manyR
 repeat' split
 all_goals first
  | exact h
  | (rw [(g _).2.2.2];exact h)
theorem ranged_pos (bs:List Nat) (R:Rd) (lo hi:Int) (h0:0≤R.pos) (h1:R.pos≤100004) (hl:bs.length < 100000) (hb:∀ x∈bs,x < 256):0≤(rangedS bs R lo hi).2.pos∧(rangedS bs R lo hi).2.pos≤100004:=by
 have h:=num_pos bs R h0 h1 hl hb
 have g:=fun k=>fail_most (numS bs R).2 R.pos k
 unfold rangedS
 split
 ·rw [(g _).2.2.2];exact h
 ·exact h
theorem ranged_most (bs:List Nat) (R:Rd) (lo hi:Int):(rangedS bs R lo hi).2.most=R.most∧(rangedS bs R lo hi).2.used=R.used∧(rangedS bs R lo hi).2.pts=R.pts:=by
 have h:=num_most bs R
 have g:=fun k=>fail_most (numS bs R).2 R.pos k
 unfold rangedS
 split
 ·exact ⟨(g _).1.trans h.1,(g _).2.1.trans h.2.1,(g _).2.2.1.trans h.2.2⟩
 ·exact h
theorem colors_run {Gl:qzj} (hG:GlAll Gl) {bs:List Nat} (hl:bs.length < 100000) (hb:∀ x∈bs,x < 256) (i:Nat) (R:Rd) (I:IcV) (h:VH) (st:RAt bs i R (withC I .nilS) h) (p0:0≤R.pos) (p1:R.pos≤100004) :
  CallsV Go.VL.Er.E Gl f_decode_reader_colors [.ptr i 0] h (fun _ h'=>∃ jc vc,RAt bs i (colsS bs R).1 (withC I vc) h'∧qzm h.next h' jc cCl (colsS bs R).2 4 vc∧Fm i h h'):=by
 have hi:=st.1
 refine qze E_decode_reader_colors ?_
 unfold c_decode_reader_colors r_decode_reader_colors
 simp only [qzl]
 simp only [simprocAttr,-Int.reduceNatCast',go_sem]
 refine qzh (many_run hG hl hb st 0 256 (by omega) (by omega) (by omega) (by omega)) ?_
 intro v h2 ⟨e,s2,fm2⟩
 subst e
 have mi:=many_in bs R 0 256 (by omega)
 obtain ⟨N,hN⟩:∃ N:Nat,manyS bs R 0 256=N:=⟨(manyS bs R 0 256).toNat,by omega⟩
 have hN':manyN bs R 0 256=N:=by unfold manyN;rw [hN];rfl
 rw [hN] at mi ⊢
 have mp:=many_pos bs R 0 256 p0 p1 hl hb
 have n2:=fm2.1
 simp only [simprocAttr,-Int.reduceNatCast',go_sem]
 unfold colsS
 rw [hN']
 have fin:∀ h',ColQ bs i h.next I (colLp bs N (manyR bs R 0 256) []) h 0 .nilS h'→∃ jc vc,RAt bs i (colLp bs N (manyR bs R 0 256) []).1 (withC I vc) h'∧qzm h.next h' jc cCl (colLp bs N (manyR bs R 0 256) []).2 4 vc∧Fm i h h':=fun h' ⟨jc,vc,a1,a2,a3,a4⟩=>⟨jc,vc,a1,a2,a4.1,fun k k1 k2=>(a4.2 k k1 k2 (.inr rfl)).1⟩
 refine cols_loop hG hl i h.next hi I (colLp bs N (manyR bs R 0 256) []) h 0 .nilS _ N (by omega) ?_ ?_ N 0 _ h2 0 .nilS _ [] (by omega) (by simp;omega) rfl s2 qzm.nil n2 (fm2.kc 0 .nilS) mp.1 (by omega) ?_ ?_ ?_
 ·intro T h' q
  simp only [simprocAttr,-Int.reduceNatCast',go_sem]
  exact fin h' q
 ·intro T h' q
  simp only [simprocAttr,-Int.reduceNatCast',go_sem]
  exact fin h' q
 ·simp only [simprocAttr,-Int.reduceNatCast',go_sem]
 ·simp only [simprocAttr,-Int.reduceNatCast',go_sem]
 ·simp only [simprocAttr,-Int.reduceNatCast',go_sem];rfl
end
end Go.VL.Dc
