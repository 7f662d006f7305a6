import Derived.Test.YtbamfhdgikeneaaDoorVlJ
import Derived.Test.YtbamfhdgikeneaaDoorEnP
import Derived.Test.YtbamfhdgikeneaaDoorEnD
import Derived.Test.YtbamfhdgikeneaaDoorShA
import Derived.Test.YtbamfhdgikeneaaDoorDpD
import Derived.Test.YtbamfhdgikeneaaDoorPaB
import Derived.Test.YtbamfhdgikeneaaDoorMkF
set_option linter.unusedSimpArgs false
set_option linter.unusedVariables false
namespace Go.VL.En
open Go.FR Go.IR Go.VL Go.VL.Color Go.VL.Wind Go.VL.Ic Go.VL.Wire
noncomputable section
set_option maxRecDepth 100000
set_option maxHeartbeats 1000000
theorem near_pt {p:Pt} (h:NearB p):(-9223372036854775808≤p.x∧p.x≤9223372036854775807)∧-9223372036854775808≤p.y∧p.y≤9223372036854775807:=by
 obtain ⟨⟨a,b⟩,c,d⟩:=h;exact ⟨⟨by omega,by omega⟩,by omega,by omega⟩
attribute [local go_sem] cSeg cR cB cPt cCl cPath cCmd cPaint cIcon iC t_p_api_At t_p_errors_errorString
theorem path_wr (p:Path) (hp:PathR p):Wr f_encode_writer_path (fun b=>[.ptr b 0,.agg (cPath p)]) (pathB p) 100000:=by
 intro Gl h b j v X hi ha hb hbj hX
 obtain ⟨p0,sg,cl⟩:=p
 have hR:=path_runs hp
 have rl:=runs_len_le sg
 have sl:=hp.l
 have hst:=hp.s
 have l20:=point_le20 hst
 have hn0:=near_pt hst
 have hsg:=hp.r
 simp only at hR sl hst l20 hn0 hsg
 have own:=runs_own Gl sg (by omega) hp.n
 obtain ⟨R,eR⟩:∃ R,runsS sg=R:=⟨_,rfl⟩
 have cRl:countR R=sg.length:=by rw [←eR,←exp_len,exp_runs,List.length_map]
 rw [eR] at own hR rl
 have rle:=runs_le R p0 sg (fun r hr=>⟨(hR r hr).1,(hR r hr).2.2⟩) hst (fun s hs=>(hsg s hs).1)
 obtain ⟨n,hn,hcl⟩:∃ n:Nat,n < 1000∧(cl=true∧n=2*R.length+1∨cl=false∧n=2*R.length):=by
  cases e:cl
  ·exact ⟨_,by omega,.inr ⟨rfl,rfl⟩⟩
  ·exact ⟨_,by omega,.inl ⟨rfl,rfl⟩⟩
 have eB:pathB ⟨p0,sg,cl⟩=putS n++(pointB p0++runsB p0 R sg):=by
  unfold pathB;rw [eR]
  rcases hcl with ⟨e,rfl⟩ | ⟨e,rfl⟩<;>simp [e]
 have w1:IntKind.i64.wrap (2*(R.length:Int))=2*(R.length:Int):=qze (by omega) (by omega)
 have wc:cl=true→IntKind.i64.wrap (2*(R.length:Int)+1)=(n:Int):=fun e=>by rw [qze (by omega) (by omega)];rcases hcl with q | q<;>simp [e] at q;omega
 have wo:cl=false→IntKind.i64.wrap (2*(R.length:Int)+0)=(n:Int):=fun e=>by rw [qze (by omega) (by omega)];rcases hcl with q | q<;>simp [e] at q;omega
 have pn:=putS_10 (n:=n) (by omega)
 have nb:numsB [n]=putS n:=by simp [numsB]
 have nbl:(numsB [n]).length≤10:=by rw [nb];exact pn
 rw [eB] at hX ⊢
 rw [List.length_append,List.length_append] at hX
 have st0:St h.next b j v X h [] h j v:=⟨hi,by rw [List.append_nil];exact ha,hbj,fun _ _ _ _=>rfl,.inl ⟨rfl,rfl⟩,Nat.le_refl _⟩
 obtain ⟨hA,eA⟩:∃ hA:VH,VH.mk ((h.next+1+1,some (VB.cells [.int .i64 (n:Int)] false))::(h.next+1,some (.cells (qzf cR R) false))::(h.next,some (.cells (cPath ⟨p0,sg,cl⟩) false))::h.l) (h.next+1+1+1)=hA:=⟨_,rfl⟩
 have nA:hA.next=h.next+1+1+1:=by rw [←eA]
 have fA:∀ k,k < h.next→qza hA.l k=qza h.l k:=fun k k1=>by rw [←eA];simp only [qzb];rw [if_neg (by omega),if_neg (by omega),if_neg (by omega)]
 have a0:qza hA.l h.next=some (some (.cells (cPath ⟨p0,sg,cl⟩) false)):=by rw [←eA];simp only [qzb];rw [if_neg (by omega),if_neg (by omega),if_pos trivial]
 have a1:qza hA.l (h.next+1)=some (some (.cells (qzf cR R) false)):=by rw [←eA];simp only [qzb];rw [if_neg (by omega),if_pos trivial]
 have a2:qza hA.l (h.next+1+1)=some (some (.cells [.int .i64 (n:Int)] false)):=by rw [←eA];simp only [qzb,if_true]
 obtain ⟨st1,_⟩:=st0.move (h2:=hA) hb h.next (Nat.le_refl _) (AccE.ne ha (.inr (Nat.le_refl _))) (by omega) (fun k k1 _=>fA k k1)
 have y1:¬h.next+1=h.next:=by omega
 have y2:¬h.next+1+1=h.next:=by omega
 have y3:¬h.next+1+1=h.next+1:=by omega
 refine qzd E_encode_writer_path ?_
 unfold c_encode_writer_path r_encode_writer_path
 simp only [qzl]
 rcases hcl with ⟨rfl,_⟩ | ⟨rfl,_⟩
 have wn:=wc rfl
 simp only [simprocAttr,-Int.reduceNatCast',go_sem]
 refine call_own own rfl (plainL_flat (fun _=>rfl) _) ?_
 simp only [simprocAttr,-Int.reduceNatCast',go_sem,w1,wn,y1,y2,y3]
 show wpCall Go.VL.Er.E Gl f_encode_writer_num [.ptr b 0,.slice (h.next+1+1) 0 1 1 (.exact 1)] (VH.mk ((h.next+1+1,some (VB.cells [.int .i64 (n:Int)] false))::(h.next+1,some (.cells (qzf cR R) false))::(h.next,some (.cells (cPath ⟨p0,sg,true⟩) false))::h.l) (h.next+1+1+1)) _
 rw [eA]
 rotate_left
 have wn:=wo rfl
 simp only [simprocAttr,-Int.reduceNatCast',go_sem]
 refine call_own own rfl (plainL_flat (fun _=>rfl) _) ?_
 simp only [simprocAttr,-Int.reduceNatCast',go_sem,w1,wn,y1,y2,y3]
 show wpCall Go.VL.Er.E Gl f_encode_writer_num [.ptr b 0,.slice (h.next+1+1) 0 1 1 (.exact 1)] (VH.mk ((h.next+1+1,some (VB.cells [.int .i64 (n:Int)] false))::(h.next+1,some (.cells (qzf cR R) false))::(h.next,some (.cells (cPath ⟨p0,sg,false⟩) false))::h.l) (h.next+1+1+1)) _
 rw [eA]
 rotate_left
 all_goals
  refine qzh (num_run [n] (by simp;omega) (by simp) b (h.next+1+1) (by omega) j v (X++[]) hA (by rw [List.append_nil];omega) (by omega) (by omega) (AccE.ne ha (.inr (by omega))) a2 st1.i st1.a st1.bj) ?_
  intro rr h2 q
  obtain ⟨j2,v2,st2,kp2,bk2⟩:=st1.call hb h.next q (st1.d.symm)
  have n2:=kp2.1
  have b2:=bk2 (by omega) (by omega) (AccE.ne ha (.inr (by omega)))
  have c1:=kp2.2 (h.next+1) (by omega) (by omega) (by omega) (AccE.ne ha (.inr (by omega)))
  have ic2:=b2.1.trans a0
  have ir2:=c1.1.trans a1
  simp only [simprocAttr,-Int.reduceNatCast',go_sem,ic2]
  refine qzh (point_wr p0 hn0.1.1 hn0.1.2 hn0.2.1 hn0.2.2 Gl h2 b j2 v2 (X++([]++numsB [n])) st2.i st2.a (by omega) st2.bj (by rw [List.length_append,List.nil_append];omega)) ?_
  intro rr h3 q3
  obtain ⟨j3,v3,st3,kp3,bk3⟩:=st2.call hb h.next q3 (st2.d.symm)
  have n3:=kp3.1
  have b3:=bk3 (by omega) (by omega) b2.2
  have c3:=kp3.2 (h.next+1) (by omega) (by omega) (by omega) c1.2
  have ic3:=b3.1.trans ic2
  have ir3:=c3.1.trans ir2
  have z1:(h.next == h3.next)=false:=by simp;omega
  have z2:¬h3.next=h.next:=by omega
  have z3:decide (h.next < h3.next+1)=true:=by simp;omega
  simp only [simprocAttr,-Int.reduceNatCast',go_sem,ic3,z1,z2,z3]
  obtain ⟨st4,kp4⟩:=st3.move (h2:=⟨(h3.next,some (VB.cells (cPt p0) false))::(h3.next,some (VB.cells [.int .i64 0,.int .i64 0] false))::h3.l,h3.next+1⟩) hb h3.next (by omega) (AccE.ne st3.a (.inr (Nat.le_refl _))) (by show h3.next≤h3.next+1;omega) (fun k k1 k3=>by simp only [qzb];rw [if_neg (by omega),if_neg (by omega)])
  have lD:([]++numsB [n]++pointB p0).length≤30:=by rw [List.length_append,List.nil_append];omega
  refine runs_loop2 h.next b j v X h hb h3.next (by omega) (h.next+1) (by omega) (by omega) R hR (by omega) ([]++numsB [n]++pointB p0) _ ⟨(h3.next,some (VB.cells (cPt p0) false))::(h3.next,some (VB.cells [.int .i64 0,.int .i64 0] false))::h3.l,h3.next+1⟩ j3 v3 (by simp only [qzb];rw [if_neg (by omega),if_neg (by omega)];exact ir3) (by show h.next+1 < h3.next+1;omega) c3.2 _ (runsB p0 R sg) ?_ ?_ ?_ ?_ ?_ (by omega) R.length 0 sg p0 [] _ _ j3 v3 (by omega) (by simp) (by simpa using cRl) (by omega) (fun s hs=>(hsg s hs).1) hst (fun _ _ _ _ _ _=>rfl) ?_ ?_ (by rw [List.append_nil];exact st4) Kp.refl (by simp only [qzb,if_true]) (by show h3.next < h3.next+1;omega) (AccE.ne st3.a (.inr (Nat.le_refl _))) (by rw [List.append_nil];omega)
  ·intro T h5 j5 v5 st5
   simp only [simprocAttr,-Int.reduceNatCast',go_sem]
   refine ⟨j5,v5,st5.i,?_,st5.bj,st5.fr,st5.n,st5.d⟩
   have:=st5.a
   rw [nb,List.nil_append,List.append_assoc] at this
   exact this
  all_goals first | (simp only [simprocAttr,-Int.reduceNatCast',go_sem];done) | (simp only [simprocAttr,-Int.reduceNatCast',go_sem];rfl)
end
end Go.VL.En
namespace Go.VL.En
open Go.FR Go.IR Go.VL Go.VL.Color Go.VL.Wind Go.VL.Ic Go.VL.Wire
noncomputable section
set_option maxRecDepth 100000
set_option maxHeartbeats 1000000
def Fr (b:Nat) (h1:VH) (j1:Nat) (v1:VV) (h2:VH) (j2:Nat) (v2:VV):Prop:=h1.next≤h2.next∧∀ k,k < h1.next→k≠b→(k≠j1∨v1 = .nilS)→qza h2.l k=qza h1.l k∧(k≠j2∨v2 = .nilS)
def StQ (N b j:Nat) (v:VV) (X:List Nat) (h:VH) (done:List Nat) (h1:VH) (j1:Nat) (v1:VV) (h2:VH):Prop:=∃ j2 v2,St N b j v X h done h2 j2 v2∧Fr b h1 j1 v1 h2 j2 v2
theorem St.wr {Gl:qzj} {N b j:Nat} {v:VV} {X:List Nat} {h:VH} {done:List Nat} {h1:VH} {j1:Nat} {v1:VV} (st:St N b j v X h done h1 j1 v1) (hb:b < N) {f m:Nat} {args:Nat→List VV} {bs:List Nat} (w:Wr f args bs m) (hX:X.length+(done.length+bs.length)+m < 1000000000) :
  qzv Go.VL.Er.E Gl f (args b) h1 (fun _ h2=>StQ N b j v X h (done++bs) h1 j1 v1 h2):=by
 have hn:=st.n
 refine (w Gl h1 b j1 v1 (X++done) st.i st.a (by omega) st.bj (by rw [List.length_append];omega)).mono fun _ h2 q => ?_
 obtain ⟨j2,v2,st2,kp2,bk2⟩:=st.call hb h1.next q (st.d.symm)
 exact ⟨j2,v2,st2,kp2.1,fun k k1 k2 k3=>kp2.2 k k1 k2 (by omega) k3⟩
theorem St.num {Gl:qzj} {N b j:Nat} {v:VV} {X:List Nat} {h:VH} {done:List Nat} {h1:VH} {j1:Nat} {v1:VV} (st:St N b j v X h done h1 j1 v1) (hb:b < N) (n:Nat) (hn:n < 9223372036854775808) (hX:X.length+done.length+10 < 1000000000) :
  qzv Go.VL.Er.E Gl f_encode_writer_num [.ptr b 0,.slice h1.next 0 1 1 (.exact 1)] ⟨(h1.next,some (.cells [.int .i64 (n:Int)] false))::h1.l,h1.next+1⟩ (fun _ h2=>StQ N b j v X h (done++putS n) h1 j1 v1 h2):=by
 have hN:=st.n
 have pn:=putS_10 (n:=n) (by omega)
 have nb:numsB [n]=putS n:=by simp [numsB]
 have fX:∀ k,k < h1.next→qza ((h1.next,some (VB.cells [.int .i64 (n:Int)] false))::h1.l) k=qza h1.l k:=fun k hk=>by simp only [qzb];rw [if_neg (by omega)]
 refine (num_run [n] (by simp;omega) (by simp) b h1.next (by omega) j1 v1 (X++done) ⟨(h1.next,some (.cells [.int .i64 (n:Int)] false))::h1.l,h1.next+1⟩ (by rw [List.length_append,nb];omega) (by show b < h1.next+1;omega) (by show h1.next < h1.next+1;omega) (AccE.ne st.a (.inr (Nat.le_refl _))) (by simp only [qzb,if_true];rfl) (by rw [fX b (by omega)];exact st.i) (Go.VL.Wire.AccE.ext st.a (by show h1.next≤h1.next+1;omega) (fun _ q=>fX j1 q)) st.bj).mono fun _ h2 q => ?_
 rw [nb] at q
 obtain ⟨j2,v2,st2,kp2,bk2⟩:=st.call hb h1.next (q.weak (by show h1.next≤h1.next+1;omega) fX) (st.d.symm)
 exact ⟨j2,v2,st2,kp2.1,fun k k1 k2 k3=>kp2.2 k k1 k2 (by omega) k3⟩
theorem St.done {N b j:Nat} {v:VV} {X:List Nat} {h:VH} {bs:List Nat} {h1:VH} {j1:Nat} {v1:VV} (st:St N b j v X h bs h1 j1 v1) (hN:h.next=N):WrQ b j v X bs h h1:=by
 subst hN
 exact ⟨j1,v1,st.i,st.a,st.bj,st.fr,st.n,st.d⟩
theorem St.start {b j:Nat} {v:VV} {X:List Nat} {h:VH} (hi:qza h.l b=some (some (.cells [v] false))) (ha:AccE 0 h j cB X 1 v) (hbj:b≠j∨v = .nilS) (hb:b < h.next) (cs:List VV):St h.next b j v X h [] ⟨(h.next,some (.cells cs false))::h.l,h.next+1⟩ j v:=by
 have st0:St h.next b j v X h [] h j v:=⟨hi,by rw [List.append_nil];exact ha,hbj,fun _ _ _ _=>rfl,.inl ⟨rfl,rfl⟩,Nat.le_refl _⟩
 exact (st0.move (h2:=⟨(h.next,some (.cells cs false))::h.l,h.next+1⟩) hb h.next (Nat.le_refl _) (AccE.ne ha (.inr (Nat.le_refl _))) (by show h.next≤h.next+1;omega) (fun k k1 _=>by simp only [qzb];rw [if_neg (by omega)])).1
attribute [local go_sem] cSeg cR cB cPt cCl cPath cCmd cPaint cIcon iC t_p_api_At t_p_errors_errorString
theorem paint_wr (p:Paint) (hp:PaintR p):Wr f_encode_writer_paint (fun b=>[.ptr b 0,.agg (cPaint p)]) (paintB p) 100000:=by
 intro Gl h b j v X hi ha hb hbj hX
 have hk:=hp.k;have pa:=hp.a;have pb:=hp.b
 have np:=near_pt hp.np;have nq:=near_pt hp.nq
 have lp:=point_le20 hp.np;have lq:=point_le20 hp.nq
 obtain ⟨k,a,b',x,y⟩:=p
 simp only at *
 obtain ⟨A,rfl⟩:∃ A:Nat,a=A:=⟨a.toNat,by omega⟩
 obtain ⟨B,rfl⟩:∃ B:Nat,b'=B:=⟨b'.toNat,by omega⟩
 have e1:((A:Int)).toNat=A:=by omega
 have e2:((B:Int)).toNat=B:=by omega
 have l1:=putS_10 (n:=A) (by omega)
 have l2:=putS_10 (n:=B) (by omega)
 have zq:=hp.z2
 simp only at zq
 refine qzd E_encode_writer_paint ?_
 unfold c_encode_writer_paint r_encode_writer_paint
 simp only [qzl]
 have st0:=St.start (X:=X) hi ha hbj hb (cPaint ⟨k,A,B,x,y⟩)
 obtain ⟨h1,eh⟩:∃ h1:VH,VH.mk ((h.next,some (.cells (cPaint ⟨k,A,B,x,y⟩) false))::h.l) (h.next+1)=h1:=⟨_,rfl⟩
 have n1:h1.next=h.next+1:=by rw [←eh]
 have i1:qza h1.l h.next=some (some (.cells (cPaint ⟨k,A,B,x,y⟩) false)):=by rw [←eh];simp only [qzb,if_true]
 rw [eh] at st0
 have f1:h.next≠j∨v = .nilS:=AccE.ne ha (.inr (Nat.le_refl _))
 simp only [simprocAttr,-Int.reduceNatCast',go_sem]
 have r1:VH.mk ((h.next+1,some (VB.cells [.int .i64 (A:Int)] false))::(h.next,some (.cells (cPaint ⟨k,A,B,x,y⟩) false))::h.l) (h.next+1+1)=⟨(h1.next,some (VB.cells [.int .i64 (A:Int)] false))::h1.l,h1.next+1⟩:=by rw [←eh]
 show wpCall Go.VL.Er.E Gl f_encode_writer_num [.ptr b 0,.slice (h.next+1) 0 1 1 (.exact 1)] (VH.mk ((h.next+1,some (VB.cells [.int .i64 (A:Int)] false))::(h.next,some (.cells (cPaint ⟨k,A,B,x,y⟩) false))::h.l) (h.next+1+1)) _
 rw [r1,←n1]
 refine qzh (st0.num hb A (by omega) (by rw [List.length_nil];omega)) ?_
 intro rr h2 ⟨j2,v2,st2,fr2⟩
 have n2:=fr2.1
 have c2:=fr2.2 h.next (by omega) (by omega) f1
 have i2:=c2.1.trans i1
 by_cases k0:k=0
 ·subst k0
  simp only [simprocAttr,-Int.reduceNatCast',go_sem,i2]
  have:paintB ⟨0,A,B,x,y⟩=[]++putS A:=by simp [paintB]
  rw [this]
  exact st2.done rfl
 have d0:(k == 0)=false:=by simp [k0]
 simp only [simprocAttr,-Int.reduceNatCast',go_sem,i2,d0]
 have y1:¬h2.next=h.next:=by omega
 refine qzh (st2.num hb B (by omega) (by rw [List.length_append,List.length_nil];omega)) ?_
 intro rr h3 ⟨j3,v3,st3,fr3⟩
 have n3:=fr3.1
 have c3:=fr3.2 h.next (by omega) (by omega) c2.2
 have i3:=c3.1.trans i2
 simp only [simprocAttr,-Int.reduceNatCast',go_sem,i3]
 refine qzh (st3.wr hb (point_wr x np.1.1 np.1.2 np.2.1 np.2.2) (by simp only [List.length_append,List.length_nil];omega)) ?_
 intro rr h4 ⟨j4,v4,st4,fr4⟩
 have n4:=fr4.1
 have c4:=fr4.2 h.next (by omega) (by omega) c3.2
 have i4:=c4.1.trans i3
 by_cases k1:k=1
 ·subst k1
  simp only [simprocAttr,-Int.reduceNatCast',go_sem,i4]
  refine qzh (st4.wr hb (point_wr y nq.1.1 nq.1.2 nq.2.1 nq.2.2) (by simp only [List.length_append,List.length_nil];omega)) ?_
  intro rr h5 ⟨j5,v5,st5,fr5⟩
  simp only [simprocAttr,-Int.reduceNatCast',go_sem]
  have:paintB ⟨1,A,B,x,y⟩=[]++putS A++putS B++pointB x++pointB y:=by simp [paintB]
  rw [this]
  exact st5.done rfl
 ·have d1:(k == 1)=false:=by simp [k1]
  obtain ⟨q1,q2⟩:=zq (by omega)
  obtain ⟨yx,yy⟩:=y
  simp only at q1 q2 nq i4
  obtain ⟨Q,rfl⟩:∃ Q:Nat,yx=Q:=⟨yx.toNat,by omega⟩
  have l3:=putS_10 (n:=Q) (by omega)
  simp only [simprocAttr,-Int.reduceNatCast',go_sem,i4,d1]
  refine qzh (st4.num hb Q (by omega) (by simp only [List.length_append,List.length_nil];omega)) ?_
  intro rr h5 ⟨j5,v5,st5,fr5⟩
  simp only [simprocAttr,-Int.reduceNatCast',go_sem]
  have:paintB ⟨k,A,B,x,⟨Q,yy⟩⟩=[]++putS A++putS B++pointB x++putS Q:=by simp [paintB,k0,k1]
  rw [this]
  exact st5.done rfl
theorem cmd_wr (c:Cmd) (hc:CmdR c):Wr f_encode_writer_cmd (fun b=>[.ptr b 0,.agg (cCmd c)]) (cmdB c) 100000:=by
 intro Gl h b j v X hi ha hb hbj hX
 have hk:=hc.k;have hp:=hc.p;have hl:=hc.l;have hr:=hc.r
 have pk:=hp.k
 have pl:=paint_len hp
 obtain ⟨k,r,w,p,ps⟩:=c
 simp only at *
 obtain ⟨n,hn⟩:∃ n:Nat,k - 1+2*r+4*p.kind=n:=⟨(k - 1+2*r+4*p.kind).toNat,by omega⟩
 obtain ⟨W,rfl⟩:∃ W:Nat,w=W:=⟨w.toNat,by omega⟩
 have w1:IntKind.i64.wrap (k - 1)=k - 1:=qze (by omega) (by omega)
 have w2:IntKind.i64.wrap (2*r)=2*r:=qze (by omega) (by omega)
 have w3:IntKind.i64.wrap (k - 1+2*r)=k - 1+2*r:=qze (by omega) (by omega)
 have w4:IntKind.i64.wrap (4*p.kind)=4*p.kind:=qze (by omega) (by omega)
 have w5:IntKind.i64.wrap (k - 1+2*r+4*p.kind)=(n:Int):=by rw [hn];exact qze (by omega) (by omega)
 have l1:=putS_10 (n:=n) (by omega)
 have l2:=putS_10 (n:=W) (by omega)
 have l3:=putS_10 (n:=ps.length) (by omega)
 have tn:(k - 1+2*r+4*p.kind).toNat=n:=by omega
 have eB:cmdB ⟨k,r,W,p,ps⟩=putS n++((if k=2 then putS W else [])++(paintB p++(putS ps.length++ps.flatMap pathB))):=by
  unfold cmdB;simp only [tn,Int.toNat_natCast]
 rw [eB] at hX ⊢
 obtain ⟨F,hF⟩:∃ F,putS n++((if k=2 then putS W else [])++(paintB p++(putS ps.length++ps.flatMap pathB)))=F:=⟨_,rfl⟩
 rw [hF] at hX ⊢
 refine qzd E_encode_writer_cmd ?_
 unfold c_encode_writer_cmd r_encode_writer_cmd
 simp only [qzl]
 have st0:=St.start (X:=X) hi ha hbj hb (cCmd ⟨k,r,W,p,ps⟩)
 obtain ⟨h1,eh⟩:∃ h1:VH,VH.mk ((h.next,some (.cells (cCmd ⟨k,r,W,p,ps⟩) false))::h.l) (h.next+1)=h1:=⟨_,rfl⟩
 have n1:h1.next=h.next+1:=by rw [←eh]
 have i1:qza h1.l h.next=some (some (.cells (cCmd ⟨k,r,W,p,ps⟩) false)):=by rw [←eh];simp only [qzb,if_true]
 rw [eh] at st0
 have f1:h.next≠j∨v = .nilS:=AccE.ne ha (.inr (Nat.le_refl _))
 simp only [simprocAttr,-Int.reduceNatCast',go_sem,w1,w2,w3,w4,w5]
 have r1:VH.mk ((h.next+1,some (VB.cells [.int .i64 (n:Int)] false))::(h.next,some (.cells (cCmd ⟨k,r,W,p,ps⟩) false))::h.l) (h.next+1+1)=⟨(h1.next,some (VB.cells [.int .i64 (n:Int)] false))::h1.l,h1.next+1⟩:=by rw [←eh]
 show wpCall Go.VL.Er.E Gl f_encode_writer_num [.ptr b 0,.slice (h.next+1) 0 1 1 (.exact 1)] (VH.mk ((h.next+1,some (VB.cells [.int .i64 (n:Int)] false))::(h.next,some (.cells (cCmd ⟨k,r,W,p,ps⟩) false))::h.l) (h.next+1+1)) _
 rw [r1,←n1]
 refine qzh (st0.num hb n (by omega) (by rw [List.length_nil];omega)) ?_
 intro rr h2 ⟨j2,v2,st2,fr2⟩
 have n2:=fr2.1
 have c2:=fr2.2 h.next (by omega) (by omega) f1
 have i2:=c2.1.trans i1
 by_cases k2:k=2
 ·subst k2
  simp only [simprocAttr,-Int.reduceNatCast',go_sem,i2]
  refine qzh (st2.num hb W (by omega) (by simp only [List.length_append,List.length_nil];omega)) ?_
  intro rr h3 ⟨j3,v3,st3,fr3⟩
  have n3:=fr3.1
  have c3:=fr3.2 h.next (by omega) (by omega) c2.2
  have i3:=c3.1.trans i2
  have nj:=c3.2
  simp only [simprocAttr,-Int.reduceNatCast',go_sem,i3]
  obtain ⟨D,hD⟩:∃ D,[]++putS n++putS W=D:=⟨_,rfl⟩
  rw [hD] at st3
  have lD:D.length≤20:=by rw [←hD];simp only [List.length_append,List.length_nil];omega
  have eF:F=D++(paintB p++(putS ps.length++ps.flatMap pathB)):=by rw [←hF,←hD];simp
  have hXD:=hX
  rw [eF] at hXD
  simp only [List.length_append] at hXD
  refine qzh (st3.wr hb (paint_wr p hp) (by omega)) ?_
  intro rr h4 ⟨j4,v4,st4,fr4⟩
  have n4:=fr4.1
  have c4:=fr4.2 h.next (by omega) (by omega) nj
  have i4:=c4.1.trans i3
  simp only [simprocAttr,-Int.reduceNatCast',go_sem,i4]
  refine qzh (st4.num hb ps.length (by omega) (by simp only [List.length_append];omega)) ?_
  intro rr h5 ⟨j5,v5,st5,fr5⟩
  have n5:=fr5.1
  have c5:=fr5.2 h.next (by omega) (by omega) c4.2
  have i5:=c5.1.trans i4
  simp only [simprocAttr,-Int.reduceNatCast',go_sem,i5]
  refine qzh (st5.wr hb (eachPath_wr ps f_encode_writer_path pathB (by omega) (fun q hq=>path_wr q (hr q hq))) (by simp only [List.length_append];omega)) ?_
  intro rr h6 ⟨j6,v6,st6,fr6⟩
  simp only [simprocAttr,-Int.reduceNatCast',go_sem]
  simp only [List.append_assoc] at st6
  rw [eF]
  exact st6.done rfl
 ·have d0:(k == 2)=false:=by simp [k2]
  simp only [simprocAttr,-Int.reduceNatCast',go_sem,i2,d0]
  have st3:=st2;have i3:=i2;have nj:=c2.2
  obtain ⟨D,hD⟩:∃ D,[]++putS n=D:=⟨_,rfl⟩
  rw [hD] at st3
  have lD:D.length≤20:=by rw [←hD];simp only [List.length_append,List.length_nil];omega
  have eF:F=D++(paintB p++(putS ps.length++ps.flatMap pathB)):=by rw [←hF,←hD];simp [k2]
  have hXD:=hX
  rw [eF] at hXD
  simp only [List.length_append] at hXD
  refine qzh (st3.wr hb (paint_wr p hp) (by omega)) ?_
  intro rr h4 ⟨j4,v4,st4,fr4⟩
  have n4:=fr4.1
  have c4:=fr4.2 h.next (by omega) (by omega) nj
  have i4:=c4.1.trans i3
  simp only [simprocAttr,-Int.reduceNatCast',go_sem,i4]
  refine qzh (st4.num hb ps.length (by omega) (by simp only [List.length_append];omega)) ?_
  intro rr h5 ⟨j5,v5,st5,fr5⟩
  have n5:=fr5.1
  have c5:=fr5.2 h.next (by omega) (by omega) c4.2
  have i5:=c5.1.trans i4
  simp only [simprocAttr,-Int.reduceNatCast',go_sem,i5]
  refine qzh (st5.wr hb (eachPath_wr ps f_encode_writer_path pathB (by omega) (fun q hq=>path_wr q (hr q hq))) (by simp only [List.length_append];omega)) ?_
  intro rr h6 ⟨j6,v6,st6,fr6⟩
  simp only [simprocAttr,-Int.reduceNatCast',go_sem]
  simp only [List.append_assoc] at st6
  rw [eF]
  exact st6.done rfl
theorem bytes_right {Gl:qzj} (hG:IcG Gl) (i:Icon) (hf:i.Fit) (hk:checkS i=none) (hc:∀ c∈i.colors,c.In):qzo Go.VL.Er.E Gl f_encode_Bytes [.agg (cIcon i)] (.tuple [.fsl (qzf cB (bytesS cmdB i)) (bytesS cmdB i).length 1,.nilI]) :=
 bytes_ok hG i hf hk hc cmdB (m:=100000) (by omega) (fun c hcm=>cmd_wr c ((icon_r hk).r c hcm)) (by have:=cmds_len (icon_r hk);omega)
end
end Go.VL.En
namespace Go.VL.En
open Go.FR Go.IR Go.VL Go.VL.Color Go.VL.Wind Go.VL.Ic Go.VL.Wire
noncomputable section
set_option maxRecDepth 100000
set_option maxHeartbeats 1000000
attribute [local go_sem] cSeg cR cB cPt cCl cPath cCmd cPaint cIcon t_p_api_At t_p_errors_errorString
def kindOf (z:Int):Int:=(z.tmod 3+3).tmod 3+1
def kseg (z:Int):Seg:=⟨kindOf z,⟨0,0⟩,⟨0,0⟩,⟨0,0⟩⟩
end
end Go.VL.En
namespace Go.VL.Dc
open Go.FR Go.IR Go.VL Go.VL.Er Go.VL.Color Go.VL.Wind Go.VL.Ic Go.VL.Wire
noncomputable section
set_option maxRecDepth 100000
set_option maxHeartbeats 1000000
theorem icg_of {Gl:qzj} (hG:GlAll Gl):IcG Gl:=⟨(hG 4 (by omega)).1,(hG 5 (by omega)).1,(hG 9 (by omega)).1⟩
theorem end_head (bs:List Nat) (h:isN (headR bs).err=false):(endR bs).err=(headR bs).err:=(end_go bs).keep h
theorem decS_err (bs:List Nat) (h:isN (endR bs).err=false):decS bs=(⟨0,0,0,[],[]⟩,(endR bs).err):=by unfold decS;rw [if_neg (by rw [h];simp)]
theorem decS_nil:decS []=(⟨0,0,0,[],[]⟩,.placed 6 0):=by
 have h:(headR []).err = .placed 6 0:=rfl
 have e:=end_head [] (by rw [h];rfl)
 rw [decS_err [] (by rw [e,h];rfl),e,h]
attribute [local go_sem] cSeg cB cPt cCl cPath cCmd cPaint cIcon cFault t_p_api_At t_p_errors_errorString
theorem first7_ok {Gl:qzj} (hG:GlAll Gl):qzo Go.VL.Er.E Gl f_glyphiclaw7_first [] (.bool true):=by
 refine qzk (qzd E_glyphiclaw7_first ?_)
 unfold c_glyphiclaw7_first r_glyphiclaw7_first
 simp only [qzl]
 have dk:=decode_ok hG (bs:=[]) (by simp) (fun x hx=>by cases hx)
 rw [decS_nil] at dk
 have ss:=see_same hG (.placed 6 0) (show (6:Nat) < 13 by omega) (placedF 107 0)
 rw [decide_eq_true (show (ErrV.placed 6 0).f=placedF 107 0 from rfl)] at ss
 simp only [simprocAttr,-Int.reduceNatCast',go_sem]
 refine call_refs_sub (a0:=[.nilS]) dk rfl ⟨_,_,rfl,.inr ⟨1,rfl⟩,rfl⟩ rfl ?_
 simp only [simprocAttr,-Int.reduceNatCast',go_sem]
 refine qzg (placed_ok Gl 107 0) rfl rfl ?_
 simp only [simprocAttr,-Int.reduceNatCast',go_sem]
 refine qzg ss rfl rfl ?_
 simp only [simprocAttr,-Int.reduceNatCast',go_sem]
 exact qzc rfl
theorem icon_small (l:List Int) (a:Nat):(En.bytesS En.cmdB (Mk.iconS l a)).length≤20000:=by
 obtain ⟨b1,b2,b3,b4⟩:=Mk.icon_in l a
 obtain ⟨i1,i2,i3,i4,i5,i6,i7⟩:=Mk.run_right l (Mk.farS' l a) b4.1 (greatS (Mk.iconS l a)) (by rw [Mk.great_icon];omega) (Mk.cmdsN l a) (a+4) [] List.nodup_nil
 have hx:Mk.runS l (Mk.farS' l a) (Mk.cmdsN l a) (a+4) []=Mk.iconRun l a:=rfl
 rw [hx] at i1 i7
 have ck:=Mk.cmdsN_in l a
 have hcm:(Mk.iconS l a).cmds=(Mk.iconRun l a).1:=rfl
 have hpts:pointsS (Mk.iconS l a)≤39*(4:Nat):=Ic.sum_mem_le (f:=fun c:Cmd=>sumS' Ic.pathPts c.paths) i7 (by omega) 4 (by omega)
 obtain ⟨f1,f2⟩:=Mk.icon_few l a
 have hr:=En.icon_r (Mk.icon_right l a).1
 have h5:=En.fm_sum (g:=En.cmdB) (f:=fun c=>sumS' En.ptsP c.paths) 100 (l:=(Mk.iconS l a).cmds) fun c hc=>En.cmd_len (hr.r c hc)
 have h6:sumS' (fun c:Cmd=>sumS' En.ptsP c.paths) (Mk.iconS l a).cmds=pointsS (Mk.iconS l a):=rfl
 have h2:=En.numsB_le [(Mk.iconS l a).w.toNat,(Mk.iconS l a).h.toNat,(Mk.iconS l a).scale.toNat,(Mk.iconS l a).colors.length] (by have:=hr.w;have:=hr.h;have:=hr.s;have:=hr.cs;simp;omega)
 have h3:=En.numsB_le [(Mk.iconS l a).cmds.length] (by simp;omega)
 have h4:=En.colorsB_len (Mk.iconS l a).colors
 unfold En.bytesS
 simp only [List.length_append,List.length_cons,List.length_nil] at h2 h3 ⊢
 omega
theorem putS_256:∀ n:Nat,∀ x∈putS n,x < 256:=by
 intro n
 induction n using Nat.strongRecOn with
 | _ n ih =>
  intro x hx
  rw [putS] at hx
  split at hx
  ·simp at hx;omega
  ·rcases List.mem_cons.mp hx with rfl | hx
   ·omega
   ·exact ih _ (by omega) x hx
theorem bytesS_256 (i:Icon) (hc:∀ c∈i.colors,c.In):∀ x∈En.bytesS En.cmdB i,x < 256:=by
 have num:∀ ns:List Nat,∀ x∈En.numsB ns,x < 256:=fun ns x hx=>by
  unfold En.numsB at hx
  obtain ⟨n,_,hn⟩:=List.mem_flatMap.mp hx
  exact putS_256 n x hn
 have pt:∀ p:Pt,∀ x∈En.pointB p,x < 256:=fun p x hx=>by
  unfold En.pointB at hx
  rcases List.mem_append.mp hx with h | h<;>exact putS_256 _ x h
 have dl:∀ (l:List Pt) (a:Pt),∀ x∈En.deltaB a l,x < 256:=by
  intro l
  induction l with
  | nil=>intro a x hx;simp [En.deltaB] at hx
  | cons p l ih =>
   intro a x hx
   rw [En.deltaB] at hx
   rcases List.mem_append.mp hx with h | h
   ·exact pt _ x h
   ·exact ih _ x h
 have sg:∀ (l:List Seg) (a:Pt),∀ x∈En.segsB a l,x < 256:=by
  intro l
  induction l with
  | nil=>intro a x hx;simp [En.segsB] at hx
  | cons p l ih =>
   intro a x hx
   rw [En.segsB] at hx
   rcases List.mem_append.mp hx with h | h
   ·exact dl _ _ x h
   ·exact ih _ x h
 have rn:∀ (R:List En.Run) (a:Pt) (l:List Seg),∀ x∈En.runsB a R l,x < 256:=by
  intro R
  induction R with
  | nil=>intro a l x hx;simp [En.runsB] at hx
  | cons r R ih =>
   intro a l x hx
   rw [En.runsB] at hx
   rcases List.mem_append.mp hx with h | h
   ·exact putS_256 _ x h
   ·rcases List.mem_append.mp h with h | h
    ·exact sg _ _ x h
    ·exact ih _ _ x h
 have pa:∀ p:Path,∀ x∈En.pathB p,x < 256:=fun p x hx=>by
  unfold En.pathB at hx
  rcases List.mem_append.mp hx with h | h
  ·exact putS_256 _ x h
  ·rcases List.mem_append.mp h with h | h
   ·exact pt _ x h
   ·exact rn _ _ _ x h
 have pn:∀ p:Paint,∀ x∈En.paintB p,x < 256:=fun p x hx=>by
  unfold En.paintB at hx
  rcases List.mem_append.mp hx with h | h
  ·exact putS_256 _ x h
  ·split at h
   ·cases h
   ·rcases List.mem_append.mp h with h | h
    ·exact putS_256 _ x h
    ·rcases List.mem_append.mp h with h | h
     ·exact pt _ x h
     ·split at h
      ·exact pt _ x h
      ·exact putS_256 _ x h
 have cm:∀ c:Cmd,∀ x∈En.cmdB c,x < 256:=fun c x hx=>by
  unfold En.cmdB at hx
  rcases List.mem_append.mp hx with h | h
  ·exact putS_256 _ x h
  ·rcases List.mem_append.mp h with h | h
   ·split at h
    ·exact putS_256 _ x h
    ·cases h
   ·rcases List.mem_append.mp h with h | h
    ·exact pn _ x h
    ·rcases List.mem_append.mp h with h | h
     ·exact putS_256 _ x h
     ·obtain ⟨p,_,hp⟩:=List.mem_flatMap.mp h
      exact pa p x hp
 intro x hx
 unfold En.bytesS at hx
 rcases List.mem_append.mp hx with h | h
 ·simp at h;omega
 rcases List.mem_append.mp h with h | h
 ·exact num _ x h
 rcases List.mem_append.mp h with h | h
 ·unfold En.colorsB at h
  obtain ⟨c,hcm,hx'⟩:=List.mem_flatMap.mp h
  have:=hc c hcm
  unfold Cl.In at this
  simp only [En.colorB,List.mem_cons,List.not_mem_nil,or_false] at hx'
  omega
 rcases List.mem_append.mp h with h | h
 ·exact num _ x h
 ·obtain ⟨c,_,hc⟩:=List.mem_flatMap.mp h
  exact cm c x hc
end
end Go.VL.Dc
namespace Go.VL.Dc
open Go.FR Go.IR Go.VL Go.VL.Er Go.VL.Color Go.VL.Wind Go.VL.Ic Go.VL.Wire
noncomputable section
set_option maxRecDepth 100000
set_option maxHeartbeats 1000000
theorem plainB_flat:∀ l:List Nat,plainL (qzf cB l)=true
 | []=>rfl
 | x::l=>by rw [flatL_cons];exact plainB_flat l
attribute [local go_sem] cSeg cB cPt cCl cPath cCmd cPaint cIcon cFault t_p_api_At t_p_errors_errorString
theorem decodeBack (Gl:qzj) (hG:GlAll Gl) (l:List Int) (_:∀ z∈l,IntKind.i64.min≤z∧z≤IntKind.i64.max) (_:l.length≤9223372036854775807) (cut:Int) (_:IntKind.i64.min≤cut) (_:cut≤IntKind.i64.max) (mo:Int) (b1:IntKind.u8.min≤mo) (b2:mo≤IntKind.u8.max) :
  qzv Go.VL.Er.E Gl f_glyphiclaw7_DecodeBack [.fsl (l.map (VV.int .i64)) l.length 1,.int .i64 cut,.int .u8 mo] h0 (fun v _=>v = .bool true):=by
 have m0:(0:Int)≤mo:=b1
 have m1:mo≤255:=b2
 obtain ⟨m,rfl⟩:∃ m:Nat,mo=m:=⟨mo.toNat,by omega⟩
 refine qzd E_glyphiclaw7_DecodeBack ?_
 unfold c_glyphiclaw7_DecodeBack r_glyphiclaw7_DecodeBack
 simp only [qzl]
 simp only [simprocAttr,-Int.reduceNatCast',go_sem]
 refine qzg (first7_ok hG) rfl rfl ?_
 by_cases h1:(l.length:Int) > 300
 ·simp only [simprocAttr,-Int.reduceNatCast',go_sem,h1]<;>first | rfl | exact ⟨rfl,rfl⟩ | exact qzc rfl
 have hl:l.length < 4611686018427387904:=by omega
 simp only [simprocAttr,-Int.reduceNatCast',go_sem,h1]
 refine call_shut1 (Mk.icon_ok Gl l 0 0 hl (by omega)) (by simp only [simprocAttr,-Int.reduceNatCast',go_sem];rfl) rfl ?_
 obtain ⟨r1,f1⟩:=Mk.icon_right l 0
 have ic:=Mk.icon_cols l 0
 have k1:=En.bytes_right (icg_of hG) _ f1 r1 ic
 have sm:=icon_small l 0
 have x256:=bytesS_256 _ ic
 have ck:=check_ok r1
 have ba:=(back_all ck (by omega)).1
 have bm:=back_more ck m (by omega)
 have bl:=fun k hk=>back_less (k:=k) ck (by omega) hk
 have x4:4≤(En.bytesS En.cmdB (Mk.iconS l 0)).length:=by unfold En.bytesS;rw [List.length_append];simp
 generalize Mk.iconS l 0=A at *
 generalize En.bytesS En.cmdB A=X at *
 simp only [simprocAttr,-Int.reduceNatCast',go_sem]
 refine call_refs k1 rfl rfl ?_
 have c1:((X.length:Int) == 0)=false:=beq_false_of_ne (by omega)
 simp only [simprocAttr,-Int.reduceNatCast',go_sem,c1]
 have d1:=decode_ok hG (bs:=X) (by omega) x256
 rw [ba] at d1
 refine call_refs d1 rfl rfl ?_
 simp only [simprocAttr,-Int.reduceNatCast',go_sem]
 refine call_own (Cp.bytes_some Gl X (by omega) (by intro e;rw [e] at x4;simp at x4)) rfl (plainB_flat X) ?_
 simp only [simprocAttr,-Int.reduceNatCast',go_sem]
 refine wpW_acc (base:=0) (j:=3) (f:=cB) (l:=X) (a:=m) (.inr ⟨rfl,by first | (simp only [simprocAttr,-Int.reduceNatCast',go_sem];done) | (simp only [simprocAttr,-Int.reduceNatCast',go_sem];rfl),Nat.zero_le _,by show 3 < 5;omega⟩) (by first | (simp only [simprocAttr,-Int.reduceNatCast',go_sem];done) | (simp only [simprocAttr,-Int.reduceNatCast',go_sem];rfl)) cB_len (by omega) (Nat.zero_le _) (by omega) (by omega) ?_
 intro h' g1 g2 g3
 simp only at g1 g2 g3
 obtain ⟨a0,sh,sb⟩:=Pal.acc_shut g3 cB_len (fun _=>rfl)
 simp only [simprocAttr,-Int.reduceNatCast',go_sem]
 have xm:∀ x∈X++[m],x < 256:=fun x hx=>by
  rcases List.mem_append.mp hx with h | h
  ·exact x256 x h
  ·rw [List.mem_singleton.mp h];omega
 have d2:=decode_ok hG (bs:=X++[m]) (by simp;omega) xm
 rw [bm] at d2
 refine call_refs_sub (a0:=[a0]) d2 (by simp only [shutL,sh]) ⟨_,_,rfl,sb,subL_refl _⟩ rfl ?_
 simp only [simprocAttr,-Int.reduceNatCast',go_sem]
 have e5:qza h'.l 5=some (some (.cells (qzf cB (X++[m])) false)):=by
  rcases g3 with ⟨_,e⟩ | ⟨_,e2,_,_⟩
  ·exact nomatch e
  ·exact e2
 have e1:=g2 1 (by omega) (.inl (by omega))
 have e2:=g2 2 (by omega) (.inl (by omega))
 simp only [VH.push,qzb,Nat.reduceEqDiff,if_false,if_true] at e1 e2
 have ss:qzo Go.VL.Er.E Gl f_glyphicsee_Same [(ErrV.placed 10 X.length).v,.agg (cFault (placedF 111 X.length))] (.bool true):=by
  have:=see_same hG (.placed 10 X.length) (show (10:Nat) < 13 by omega) (placedF 111 X.length)
  rw [decide_eq_true (show (ErrV.placed 10 X.length).f=placedF 111 X.length from rfl)] at this
  exact this
 have nu:=numb_in cut X.length (by omega)
 obtain ⟨k,hk⟩:∃ k:Nat,numbS cut X.length=k:=⟨(numbS cut X.length).toNat,by omega⟩
 rw [hk] at nu
 have d3:=decode_ok hG (bs:=X.take k) (by rw [List.length_take];omega) (fun x hx=>x256 x (List.mem_of_mem_take hx))
 have lk:(X.take k).length=k:=by rw [List.length_take];omega
 rw [lk] at d3
 obtain ⟨p,hp⟩:=bl k (by omega)
 rw [hp] at d3
 have fk:qzo Go.VL.Er.E Gl f_glyphicsee_Fault [(ErrV.placed 6 p).v] (.agg (cFault (placedF 107 p))):=fault_ok hG (.placed 6 p) (show (6:Nat) < 13 by omega)
 generalize (decS (X++[m])).1=B at *
 generalize (decS (X.take k)).1=C at *
 simp only [simprocAttr,-Int.reduceNatCast',go_sem,e5,g1]
 refine qzg (numb_ok Gl cut X.length (by omega) (by omega)) rfl rfl ?_
 rw [hk]
 have zk:=natV_nat .i64 k
 have lk2:k≤X.length:=by omega
 have ft:=flatL_take cB_len k X
 rw [Nat.mul_one] at ft
 simp only [simprocAttr,-Int.reduceNatCast',go_sem,zk,lk2,ft,Nat.mul_one,Nat.sub_zero,Nat.zero_mul]
 refine call_refs d3 rfl rfl ?_
 have so:=Sm.icon_ok Gl A A f1
 rw [decide_eq_true rfl] at so
 simp only [simprocAttr,-Int.reduceNatCast',go_sem,e5,e1,e2,g1,ErrV.v]
 refine qzg so rfl rfl ?_
 simp only [simprocAttr,-Int.reduceNatCast',go_sem]
 refine qzg (placed_ok Gl 111 X.length) rfl rfl ?_
 simp only [simprocAttr,-Int.reduceNatCast',go_sem]
 refine qzg ss rfl rfl ?_
 simp only [simprocAttr,-Int.reduceNatCast',go_sem]
 refine qzg fk rfl rfl ?_
 have z7:((107:Int) == 107)=true:=rfl
 simp only [simprocAttr,-Int.reduceNatCast',go_sem,z7]<;>first | rfl | exact ⟨rfl,rfl⟩ | exact qzc rfl
end
end Go.VL.Dc
