import Derived.Test.YtbamfhdgikeneaaDoorIcE
import Derived.Test.YtbamfhdgikeneaaDoorVlK
import Derived.Test.YtbamfhdgikeneaaDoorDcG
set_option linter.unusedSimpArgs false
set_option linter.unusedVariables false
namespace Go.VL.Ic
open Go.FR Go.IR Go.VL Go.VL.Er Go.VL.Color Go.VL.Wind
noncomputable section
set_option maxRecDepth 100000
set_option maxHeartbeats 1000000
variable {g:Nat→Option VB}
theorem shut_icon {W H S:Int} {vc vk:VV} {cols:List Cl} {cmds:List Cmd} (h1:qzq g vc (.fsl (qzg cCl cols) cols.length 4)) (h2:qzq g vk (.fsl (qzg cCmd cmds) cmds.length 11)) :
  qzo g [.agg [.int .i64 W,.int .i64 H,.int .i64 S,vc,vk]] [.agg (cIcon ⟨W,H,S,cols,cmds⟩)] :=
 qzo.cons (qzq.agg (qzo.cons (qzq.closed rfl) (qzo.cons (qzq.closed rfl) (qzo.cons (qzq.closed rfl) (qzo.cons h1 (qzo.cons h2 qzo.nil)))))) qzo.nil
theorem shut_nil {e:Nat}:qzq g .nilS (.fsl [] 0 e):=qzq.closed_sub rfl (.inr ⟨e,rfl⟩)
theorem shut_cmd {c:Cmd} {vp:VV} (h:qzq g vp (.fsl (qzg cPath c.paths) c.paths.length 4)) :
  qzo g [.int .i64 c.kind,.int .i64 c.rule,.int .i64 c.width,.int .i64 c.paint.kind,.int .i64 c.paint.a,.int .i64 c.paint.b,.int .i64 c.paint.p.x,.int .i64 c.paint.p.y,.int .i64 c.paint.q.x,.int .i64 c.paint.q.y,vp] (cCmd c) :=
 qzo.append (a:=[_,_,_,_,_,_,_,_,_,_]) (c:=[_]) (qzo.closed rfl) (qzo.cons h qzo.nil)
theorem shut_segs {j n:Nat} {ro:Bool} {c:ACap} (l:List Seg) (hj:g j=some (.cells (qzg cSeg l) ro)) (hn:l.length=n) (hc:capOK 7 n c) :
  qzq g (.slice j 0 n 7 c) (.fsl (qzg cSeg l) n 7):=qzq.whole hj (by rw [flatL_length cSeg_len,hn]) hc (qzo.closed (closedL_flat (fun _=>rfl) l))
end
end Go.VL.Ic
namespace Go.VL.Dc
open Go.FR Go.IR Go.VL Go.VL.Er Go.VL.Color Go.VL.Wind Go.VL.Ic Go.VL.Wire
noncomputable section
set_option maxRecDepth 100000
set_option maxHeartbeats 1000000
theorem acc_nerrG {α:Type} {base:Nat} {h:VH} {j:Nat} {f:α→List VV} {l:List α} {esz:Nat} {v:VV} (a:qzm base h j f l esz v) (hf:∀ a,(f a).length=esz) (he:3≤esz) {k:Nat} (hk:ErrBlk h k):k≠j∨v = .nilS:=by
 rcases a with ⟨_,e⟩ | ⟨_,a2,_,_⟩
 ·exact .inr e
 ·left
  rintro rfl
  obtain ⟨pos,q,e⟩:=hk
  rw [e] at a2
  simp only [Option.some.injEq,VB.cells.injEq,and_true] at a2
  have:=congrArg List.length a2
  rw [flatL_length hf] at this
  simp only [List.length_cons,List.length_nil] at this
  rcases hl:l.length with _ | n
  ·rw [hl] at this;omega
  ·rw [hl,Nat.add_mul] at this;omega
def Dp (h:VH) (lo hi:Nat) (v w:VV):Prop:=∀ g:Nat→Option VB,(∀ k,lo≤k→k < hi→g k=h.get k)→qzq g v w
theorem Dp.keep {h h':VH} {lo hi:Nat} {v w:VV} (d:Dp h lo hi v w) (hf:∀ k,lo≤k→k < hi→qza h'.l k=qza h.l k):Dp h' lo hi v w :=
 fun g hg=>d g fun k k1 k2=>by rw [hg k k1 k2,get_def,get_def,hf k k1 k2]
def DAcc {α:Type} (base:Nat) (h:VH) (j:Nat) (f:α × VV→List VV) (w:α→VV) (l:List (α × VV)) (esz:Nat) (v:VV):Prop :=
 qzm base h j f l esz v∧∀ x∈l,∃ lo hi,base≤lo∧lo≤hi∧hi≤h.next∧(v = .nilS∨j < lo∨hi≤j)∧Dp h lo hi x.2 (w x.1)
theorem DAcc.nil {α:Type} {base:Nat} {h:VH} {j:Nat} {f:α × VV→List VV} {w:α→VV} {esz:Nat}:DAcc base h j f w [] esz .nilS:=⟨qzm.nil,fun x hx=>by cases hx⟩
theorem DAcc.keep {α:Type} {base:Nat} {h h':VH} {j:Nat} {f:α × VV→List VV} {w:α→VV} {l:List (α × VV)} {esz:Nat} {v:VV} (a:DAcc base h j f w l esz v) (hn:h.next≤h'.next) (hf:∀ k,base≤k→k < h.next→qza h'.l k=qza h.l k):DAcc base h' j f w l esz v :=
 ⟨a.1.ext hn fun b1 b2=>hf j b1 b2,fun x hx=>by
  obtain ⟨lo,hi,c1,c2,c3,c4,c5⟩:=a.2 x hx
  exact ⟨lo,hi,c1,c2,by omega,c4,c5.keep fun k k1 k2=>hf k (by omega) (by omega)⟩⟩
theorem DAcc.snoc {α:Type} {base:Nat} {h h':VH} {j:Nat} {f:α × VV→List VV} {w:α→VV} {l:List (α × VV)} {esz:Nat} {v:VV} (a:DAcc base h j f w l esz v) {x:α × VV} {lo hi:Nat} (b:base≤lo) (b2:lo≤hi) (b3:hi≤h.next) (b4:v = .nilS∨j < lo∨hi≤j) (d:Dp h lo hi x.2 (w x.1))
  {j':Nat} {v':VV} (hj:h.next≤j') (hn:h.next≤h'.next) (hf:∀ k,k < h.next→(k≠j∨v = .nilS)→qza h'.l k=qza h.l k) (g:qzm base h' j' f (l++[x]) esz v'):DAcc base h' j' f w (l++[x]) esz v':=by
 refine ⟨g,fun y hy => ?_⟩
 have go:∀ lo hi,hi≤h.next→(v = .nilS∨j < lo∨hi≤j)→∀ k,lo≤k→k < hi→qza h'.l k=qza h.l k:=fun lo hi e1 e2 k k1 k2=>hf k (by omega) (by
  rcases e2 with e | e | e
  ·exact .inr e
  ·exact .inl (by omega)
  ·exact .inl (by omega))
 rcases List.mem_append.mp hy with hy | hy
 ·obtain ⟨lo,hi,c1,c2,c3,c4,c5⟩:=a.2 y hy
  exact ⟨lo,hi,c1,c2,by omega,.inr (.inr (by omega)),c5.keep (go lo hi c3 c4)⟩
 ·rw [List.mem_singleton.mp hy]
  exact ⟨lo,hi,b,b2,by omega,.inr (.inr (by omega)),d.keep (go lo hi b3 b4)⟩
theorem DAcc.dp {α:Type} {base:Nat} {h:VH} {j:Nat} {f:α × VV→List VV} {w:α→VV} {l:List (α × VV)} {esz:Nat} {v:VV} (a:DAcc base h j f w l esz v) (hf:∀ x,(f x).length=esz) (f':α→List VV) (hs:∀ (g:Nat→Option VB) (x:α × VV),x∈l→qzq g x.2 (w x.1)→qzo g (f x) (f' x.1)):Dp h base h.next v (.fsl (qzg f' (l.map (·.1))) (l.map (·.1)).length esz):=by
 intro g hg
 have e:qzg f' (l.map (·.1))=qzg (fun x:α × VV=>f' x.1) l:=by unfold qzg;rw [List.map_map];rfl
 rw [e,List.length_map]
 rcases a.1 with ⟨rfl,rfl⟩ | ⟨rfl,a2,a3,a4⟩
 ·exact qzq.closed_sub rfl (.inr ⟨esz,rfl⟩)
 ·refine qzq.whole (cs:=qzg f l) (ro:=false) (by rw [hg j a3 a4,get_def,a2];rfl) (flatL_length hf l) (by simp [capOK]) ?_
  refine qzo.flat fun x hx=>hs g x hx ?_
  obtain ⟨lo,hi,c1,c2,c3,c4,c5⟩:=a.2 x hx
  exact c5 g fun k k1 k2=>hg k (by omega) (by omega)
theorem RAt.putG {bs:List Nat} {i:Nat} {R:Rd} {I:IcV} {h:VH} (s:RAt bs i R I h) {b:Nat} {x:Option VB} (hb:b≠i) (hne:¬ErrBlk h b):RAt bs i R I ⟨(b,x)::h.l,h.next⟩:=by
 obtain ⟨a,ev,c,e⟩:=s
 refine ⟨a,ev,by simp only [qzb];rw [if_neg hb];exact c,?_⟩
 rcases e with e | ⟨k,pos,j,a1,a2,a3,a4,a5⟩
 ·exact .inl e
 ·refine .inr ⟨k,pos,j,a1,a2,?_,a4,a5⟩
  simp only [qzb]
  rw [if_neg (fun q=>hne (by subst q;exact ⟨pos,k,a3⟩))];exact a3
def pC (x:Path × VV):List VV:=[.int .i64 x.1.start.x,.int .i64 x.1.start.y,x.2,.bool x.1.closed]
def pW (p:Path):VV := .fsl (qzg cSeg p.segs) p.segs.length 7
theorem pC_len (x:Path × VV):(pC x).length=4:=rfl
def mC (x:Cmd × VV):List VV:=[.int .i64 x.1.kind,.int .i64 x.1.rule,.int .i64 x.1.width,.int .i64 x.1.paint.kind,.int .i64 x.1.paint.a,.int .i64 x.1.paint.b,.int .i64 x.1.paint.p.x,.int .i64 x.1.paint.p.y,.int .i64 x.1.paint.q.x,.int .i64 x.1.paint.q.y,x.2]
def mW (c:Cmd):VV := .fsl (qzg cPath c.paths) c.paths.length 4
theorem mC_len (x:Cmd × VV):(mC x).length=11:=rfl
theorem seg_dp {base:Nat} {h:VH} {j:Nat} {S:List Seg} {v:VV} (a:qzm base h j cSeg S 7 v):Dp h base h.next v (.fsl (qzg cSeg S) S.length 7):=by
 intro g hg
 rcases a with ⟨rfl,rfl⟩ | ⟨rfl,a2,a3,a4⟩
 ·exact qzq.closed_sub rfl (.inr ⟨7,rfl⟩)
 ·exact shut_segs S (by rw [hg j a3 a4,get_def,a2];rfl) rfl (by simp [capOK])
def pathsLp (bs:List Nat) (fill:Bool):Nat→Rd→List Path→List Path × Rd × Bool
 | 0,R,P=>(P,R,true)
 | n+1,R,P=>if isN R.err=false then (P,R,false) else pathsLp bs fill n (pathF bs R fill).2.2 (P++[pathS' bs R fill])
theorem pathsLp_inv (bs:List Nat) (fill:Bool):∀ (n:Nat) (R:Rd) (P:List Path),0≤R.most→R.most≤2097152→0≤R.pts →
  (pathsLp bs fill n R P).2.1.most=R.most∧(pathsLp bs fill n R P).2.1.used=R.used∧0≤(pathsLp bs fill n R P).2.1.pts∧(pathsLp bs fill n R P).2.1.pts≤max (R.pts+n) (4000+n)
 | 0,R,P,_,_,p=>⟨rfl,rfl,p,by show R.pts≤_;omega⟩
 | n+1,R,P,h0,h1,p=>by
  rw [pathsLp]
  split
  ·exact ⟨rfl,rfl,p,by show R.pts≤_;omega⟩
  ·have r:=path_inv bs R fill h0 h1 p
   have g:=pathsLp_inv bs fill n (pathF bs R fill).2.2 (P++[pathS' bs R fill]) (by rw [r.1];exact h0) (by rw [r.1];exact h1) r.2.2.1
   exact ⟨g.1.trans r.1,g.2.1.trans r.2.1,g.2.2.1,by have:=g.2.2.2;have:=r.2.2.2;omega⟩
attribute [local go_sem] cB cPt cCl cPaint
structure KSt (bs:List Nat) (i ic base:Nat) (I:IcV) (c:Cmd) (P:List (Path × VV)) (R:Rd) (h:VH) (jp:Nat) (vp:VV):Prop where
 r:RAt bs i R I h
 c:qza h.l ic=some (some (.cells (mC (c,vp)) false))
 p:DAcc base h jp pC pW P 4 vp
 n:base≤h.next
theorem cmd_loop {Gl:qzj} (hG:GlAll Gl) {bs:List Nat} (hl:bs.length < 100000) (hb:∀ x∈bs,x < 256) (i ic base:Nat) (hi:i < base) (hc:ic < base) (hic:ic≠i) (I:IcV) (c:Cmd) (F:List Path × Rd × Bool) (HS:VH) (many:Nat) (hm:many≤200) (K:AEx→VF→VH→Prop) (fill:Bool) (hfill:(c.kind == 1)=fill)
  (hK:∀ T h jp vp P,qza T 0=some (.ptr i 0)→qza T 4=some (.ptr ic 0)→F.2.2=true→P.map (·.1)=F.1→KSt bs i ic base I c P F.2.1 h jp vp→(∀ k,k < base→k≠i→k≠ic→qza h.l k=qza HS.l k)→K (.exit 0) T h)
  (hR:∀ T h jp vp P,F.2.2=false→P.map (·.1)=F.1→KSt bs i ic base I c P F.2.1 h jp vp→(∀ k,k < base→k≠i→k≠ic→qza h.l k=qza HS.l k)→K .ret T h) :
  ∀ (d k:Nat) (T:VF) (h:VH) (jp:Nat) (vp:VV) (P:List (Path × VV)) (R:Rd),d+k=many→P.length+d≤200→F=pathsLp bs fill d R (P.map (·.1))→KSt bs i ic base I c P R h jp vp→(∀ k,k < base→k≠i→k≠ic→qza h.l k=qza HS.l k)→0≤R.most→R.most≤2097152→0≤R.pts→R.pts+d≤900000 →
   qza T 0=some (.ptr i 0)→qza T 4=some (.ptr ic 0)→qza T 47=some (.int .i64 many)→qza T 48=some (.int .i64 k) →
  wp Go.VL.Er.E Gl (.loop c_decode_reader_cmd_l0) T h K:=by
 intro d
 induction d with
 | zero =>
  intro k T h jp vp P R hd hP hF st fr m0 m1 p0 p1 t0 t4 t47 t48
  obtain rfl:k=many:=by omega
  refine qzi c_decode_reader_cmd_l0.eq_1 ?_
  simp only [simprocAttr,-Int.reduceNatCast',go_sem,t47,t48,Int.lt_irrefl]
  subst hF
  refine hK _ _ jp vp P ?_ ?_ rfl rfl st fr
  ·simp only [simprocAttr,-Int.reduceNatCast',go_sem,t0]
  ·simp only [simprocAttr,-Int.reduceNatCast',go_sem,t4]
 | succ d ih =>
  intro k T h jp vp P R hd hP hF st fr m0 m1 p0 p1 t0 t4 t47 t48
  have c1:(k:Int) < many:=by omega
  have hw:IntKind.i64.wrap ((k:Int)+1)=((k+1:Nat):Int):=by rw [qzd (by omega) (by omega)];rfl
  have s0:=st.r
  obtain ⟨hn3,ev3,hi3,he3⟩:=s0
  unfold rC at hi3
  have e0:=he3.er0 Gl
  have e1:=he3.er1 Gl
  refine qzi c_decode_reader_cmd_l0.eq_1 ?_
  rw [pathsLp] at hF
  cases ce:isN R.err
  ·rw [ce] at e0 e1
   rw [if_pos ce] at hF
   subst hF
   simp only [simprocAttr,-Int.reduceNatCast',go_sem,t0,t47,t48,c1,hi3,↓e0,↓e1]
   exact hR _ _ jp vp P rfl rfl st fr
  rw [ce] at e0 e1
  rw [if_neg (by rw [ce];simp)] at hF
  have ck:=st.c
  unfold mC at ck
  have n0:=st.n
  simp only [simprocAttr,-Int.reduceNatCast',go_sem,t0,t4,t47,t48,c1,hi3,↓e0,↓e1,ck,hfill]
  have sH:RAt bs i R I ⟨(ic,none)::h.l,h.next⟩:=st.r.put hic st.c (fun _ _ e=>by unfold mC at e;simp at e)
  refine call_hide ic st.c rfl (path_run hG hl hb sH fill m0 m1 p0 (by omega)) ?_
  intro v h2 ids ⟨js,vs,er,ac2,s2,fm2⟩ hids
  subst er
  have n2:=fm2.1
  simp only at n2
  have hid:qza h2.l ic=some none:=by rw [fm2.2 ic (by show ic < h.next;omega) hic];simp only [qzb,if_true]
  have pin:=path_inv bs R fill m0 m1 p0
  obtain ⟨p,hp⟩:∃ p,pathS' bs R fill=p:=⟨_,rfl⟩
  rw [hp] at ac2 hF ⊢
  obtain ⟨R2,hR2⟩:∃ R2,(pathF bs R fill).2.2=R2:=⟨_,rfl⟩
  rw [hR2] at s2 hF pin
  have f2:∀ k,k < h.next→k≠i→k≠ic→qza h2.l k=qza h.l k:=fun k k1 k2 k3=>by
   rw [fm2.2 k (by show k < h.next;omega) k2];simp only [qzb];rw [if_neg (Ne.symm k3)]
  have s3:RAt bs i R2 I ⟨(ic,some (VB.cells (mC (c,vp)) false))::h2.l,h2.next⟩:=s2.putG hic (fun ⟨pos,q,e⟩=>by rw [hid] at e;simp at e)
  have d3:DAcc base ⟨(ic,some (VB.cells (mC (c,vp)) false))::h2.l,h2.next⟩ jp pC pW P 4 vp:=st.p.keep (by show h.next≤h2.next;omega) (fun k k1 k2=>by simp only [qzb];rw [if_neg (by omega)];exact f2 k k2 (by omega) (by omega))
  obtain ⟨h3,eh3⟩:∃ h3:VH,VH.mk ((ic,some (VB.cells (mC (c,vp)) false))::h2.l) h2.next=h3:=⟨_,rfl⟩
  rw [eh3] at s3 d3 ⊢
  have n3:h3.next=h2.next:=by rw [←eh3]
  have f3:∀ k,k≠ic→qza h3.l k=qza h2.l k:=fun k k1=>by rw [←eh3];simp only [qzb];rw [if_neg (Ne.symm k1)]
  have ck3:qza h3.l ic=some (some (.cells (mC (c,vp)) false)):=by rw [←eh3];simp only [qzb,if_true]
  have ac3:qzm h.next h3 js cSeg p.segs 7 vs:=ac2.ext (by omega) (fun b1 b2=>f3 js (by simp only at b1;omega))
  have ck3':=ck3
  unfold mC at ck3'
  have y1:¬h3.next=ic:=by omega
  have y2:decide (ic < h.next)=true:=by simp;omega
  simp only [simprocAttr,-Int.reduceNatCast',go_sem,t4,ck3',y1,y2,hids]
  have acc':qzm base ⟨(h3.next,some (VB.cells (pC (p,vs)) false))::h3.l,h3.next+1⟩ jp pC P 4 vp:=d3.1.ext (by show h3.next≤h3.next+1;omega) (fun x y=>by simp only [qzb];rw [if_neg (by omega)])
  refine wpW_acc (base:=base) (j:=jp) (f:=pC) (l:=P) (a:=(p,vs)) acc' (by unfold pC;first | (simp only [simprocAttr,-Int.reduceNatCast',go_sem];done) | (simp only [simprocAttr,-Int.reduceNatCast',go_sem];rfl)) pC_len (by omega) (by show base≤h3.next+1;omega) (by omega) (by omega) ?_
  intro h' g1 g2 g3
  simp only at g1 g2 g3
  have fr':∀ k,k < h3.next→(k≠jp∨vp = .nilS)→qza h'.l k=qza h3.l k:=fun k k1 k2=>by
   rw [g2 k (by omega) k2];simp only [qzb];rw [if_neg (by omega)]
  have ck4:=(fr' ic (by omega) (d3.1.ne (.inl hc))).trans ck3
  have ck4':=ck4
  unfold mC at ck4'
  simp only [simprocAttr,-Int.reduceNatCast',go_sem,t4,t48,ck4',hw]
  have s4:RAt bs i R2 I h':=s3.frame (by omega) (fun k k1 k2=>fr' k k1 (by
   rcases k2 with rfl | k2
   ·exact d3.1.ne (.inl hi)
   ·exact acc_nerrG d3.1 pC_len (by omega) k2))
  have d4:DAcc base h' (h3.next+1) pC pW (P++[(p,vs)]) 4 (.slice (h3.next+1) 0 (P.length+1) 4 (.toEnd 4)) :=
   d3.snoc (x:=(p,vs)) (lo:=h.next) (hi:=h3.next) n0 (by omega) (Nat.le_refl _) (by
    rcases st.p.1 with ⟨_,e⟩ | ⟨_,_,_,e⟩
    ·exact .inl e
    ·exact .inr (.inl e)) (seg_dp ac3) (by omega) (by omega) fr' g3
  refine ih (k+1) _ _ (h3.next+1) (.slice (h3.next+1) 0 (P.length+1) 4 (.toEnd 4)) (P++[(p,vs)]) R2 (by omega) (by rw [List.length_append,List.length_cons,List.length_nil];omega) (by rw [List.map_append];exact hF)
   ⟨s4.put hic ck4 (fun _ _ e=>by unfold mC at e;simp at e),by simp only [qzb,if_true];rfl,d4.keep (Nat.le_refl _) (fun k k1 _=>by simp only [qzb];rw [if_neg (by omega)]),by show base≤h'.next;omega⟩
   (fun k k1 k2 k3 => ?_) (by rw [pin.1];exact m0) (by rw [pin.1];exact m1) pin.2.2.1 (by have:=pin.2.2.2;omega) ?_ ?_ ?_ ?_
  ·simp only [qzb]
   rw [if_neg (Ne.symm k3),fr' k (by omega) (d3.1.ne (.inl k1)),f3 k k3,f2 k (by omega) k2 k3]
   exact fr k k1 k2 k3
  ·simp only [simprocAttr,-Int.reduceNatCast',go_sem,t0]
  ·simp only [simprocAttr,-Int.reduceNatCast',go_sem,t4]
  ·simp only [simprocAttr,-Int.reduceNatCast',go_sem,t47]
  ·simp only [simprocAttr,-Int.reduceNatCast',go_sem]
end
end Go.VL.Dc
namespace Go.VL.Dc
open Go.FR Go.IR Go.VL Go.VL.Er Go.VL.Color Go.VL.Wind Go.VL.Ic Go.VL.Wire
noncomputable section
set_option maxRecDepth 100000
set_option maxHeartbeats 2000000
def cmdR1 (bs:List Nat) (R:Rd):Rd:=if 12≤(numS bs R).1∨(numS bs R).1 % 4=3 then failS (numS bs R).2 R.pos 4 else (numS bs R).2
theorem cmdR1_most (bs:List Nat) (R:Rd):(cmdR1 bs R).most=R.most∧(cmdR1 bs R).used=R.used∧(cmdR1 bs R).pts=R.pts:=by
 have h:=num_most bs R
 have g:=fun k=>fail_most (numS bs R).2 R.pos k
 unfold cmdR1
 split
 ·exact ⟨(g _).1.trans h.1,(g _).2.1.trans h.2.1,(g _).2.2.1.trans h.2.2⟩
 ·exact h
def cmdW (bs:List Nat) (R:Rd):Int × Rd:=if (numS bs R).1 % 2=1 then rangedS bs (cmdR1 bs R) 1 (cmdR1 bs R).most else (0,cmdR1 bs R)
theorem cmdW_most (bs:List Nat) (R:Rd):(cmdW bs R).2.most=R.most∧(cmdW bs R).2.used=R.used∧(cmdW bs R).2.pts=R.pts:=by
 have h:=cmdR1_most bs R
 unfold cmdW
 split
 ·have g:=ranged_most bs (cmdR1 bs R) 1 (cmdR1 bs R).most
  exact ⟨g.1.trans h.1,g.2.1.trans h.2.1,g.2.2.trans h.2.2⟩
 ·exact h
def cmdP (bs:List Nat) (R:Rd) (nc:Nat):Paint × Rd:=paintS bs (cmdW bs R).2 (((numS bs R).1 / 4:Nat):Int) nc
theorem paint_inv (bs:List Nat) (R:Rd) (k:Int) (nc:Nat) (u0:0≤R.used) (u1:R.used≤nc):(paintS bs R k nc).2.most=R.most∧(paintS bs R k nc).2.pts=R.pts∧0≤(paintS bs R k nc).2.used∧(paintS bs R k nc).2.used≤nc:=by
 have c1:=color_most bs R nc
 have d1:=color_used bs R nc u0 u1
 have c2:=color_most bs (colorS bs R nc).2 nc
 have d2:=color_used bs (colorS bs R nc).2 nc d1.1 d1.2
 have p1:=point_most bs (colorS bs (colorS bs R nc).2 nc).2 z0
 unfold paintS
 split
 ·exact ⟨c1.1,c1.2,d1.1,d1.2⟩
 ·split
  ·have r:=ranged_most bs (pointS bs (colorS bs (colorS bs R nc).2 nc).2 z0).2 1 (pointS bs (colorS bs (colorS bs R nc).2 nc).2 z0).2.most
   exact ⟨by rw [r.1,p1.1,c2.1,c1.1],by rw [r.2.2,p1.2.2,c2.2,c1.2],by rw [r.2.1,p1.2.1];exact d2.1,by rw [r.2.1,p1.2.1];exact d2.2⟩
  ·have x:=part_most bs (pointS bs (colorS bs (colorS bs R nc).2 nc).2 z0).2 0
   have y:=part_most bs (partS bs (pointS bs (colorS bs (colorS bs R nc).2 nc).2 z0).2 0).2 0
   have f:=fail_most (partS bs (partS bs (pointS bs (colorS bs (colorS bs R nc).2 nc).2 z0).2 0).2 0).2 (partS bs (pointS bs (colorS bs (colorS bs R nc).2 nc).2 z0).2 0).2.pos 4
   have e:∀ Q:Rd,Q.most=R.most∧Q.pts=R.pts∧0≤Q.used∧Q.used≤nc→∀ Q':Rd,Q'.most=Q.most→Q'.used=Q.used→Q'.pts=Q.pts→Q'.most=R.most∧Q'.pts=R.pts∧0≤Q'.used∧Q'.used≤nc:=fun Q h Q' a b c=>⟨a.trans h.1,c.trans h.2.1,by rw [b];exact h.2.2.1,by rw [b];exact h.2.2.2⟩
   have base:(partS bs (partS bs (pointS bs (colorS bs (colorS bs R nc).2 nc).2 z0).2 0).2 0).2.most=R.most∧(partS bs (partS bs (pointS bs (colorS bs (colorS bs R nc).2 nc).2 z0).2 0).2 0).2.pts=R.pts∧0≤(partS bs (partS bs (pointS bs (colorS bs (colorS bs R nc).2 nc).2 z0).2 0).2 0).2.used∧(partS bs (partS bs (pointS bs (colorS bs (colorS bs R nc).2 nc).2 z0).2 0).2 0).2.used≤nc :=
    ⟨by rw [y.1,x.1,p1.1,c2.1,c1.1],by rw [y.2.2,x.2.2,p1.2.2,c2.2,c1.2],by rw [y.2.1,x.2.1,p1.2.1];exact d2.1,by rw [y.2.1,x.2.1,p1.2.1];exact d2.2⟩
   simp only
   split
   ·exact e _ base _ f.1 f.2.1 f.2.2.1
   ·exact base
def cmdN (bs:List Nat) (R:Rd) (nc:Nat):Nat:=manyN bs (cmdP bs R nc).2 1 200
def cmdL (bs:List Nat) (R:Rd) (nc:Nat):List Path × Rd × Bool:=pathsLp bs (decide ((numS bs R).1 % 2=0)) (cmdN bs R nc) (manyR bs (cmdP bs R nc).2 1 200) []
def cmdS' (bs:List Nat) (R:Rd) (nc:Nat):Cmd:=⟨1+(((numS bs R).1 % 2:Nat):Int),(((numS bs R).1 / 2 % 2:Nat):Int),(cmdW bs R).1,(cmdP bs R nc).1,(cmdL bs R nc).1⟩
theorem cmd_inv (bs:List Nat) (R:Rd) (nc:Nat) (m0:0≤R.most) (m1:R.most≤2097152) (u0:0≤R.used) (u1:R.used≤nc) (p0:0≤R.pts) :
  (cmdL bs R nc).2.1.most=R.most∧0≤(cmdL bs R nc).2.1.used∧(cmdL bs R nc).2.1.used≤nc∧0≤(cmdL bs R nc).2.1.pts∧(cmdL bs R nc).2.1.pts≤max (R.pts+200) 4200:=by
 have w:=cmdW_most bs R
 have p:=paint_inv bs (cmdW bs R).2 (((numS bs R).1 / 4:Nat):Int) nc (by rw [w.2.1];exact u0) (by rw [w.2.1];exact u1)
 have m:=many_most bs (cmdP bs R nc).2 1 200
 have mi:=many_in bs (cmdP bs R nc).2 1 200 (by omega)
 have e1:(manyR bs (cmdP bs R nc).2 1 200).most=R.most:=m.1.trans (p.1.trans w.1)
 have e2:(manyR bs (cmdP bs R nc).2 1 200).pts=R.pts:=m.2.2.trans (p.2.1.trans w.2.2)
 have e3:(manyR bs (cmdP bs R nc).2 1 200).used=(cmdP bs R nc).2.used:=m.2.1
 have hN:cmdN bs R nc≤200:=by unfold cmdN manyN;omega
 have g:=pathsLp_inv bs (decide ((numS bs R).1 % 2=0)) (cmdN bs R nc) (manyR bs (cmdP bs R nc).2 1 200) [] (by rw [e1];exact m0) (by rw [e1];exact m1) (by rw [e2];exact p0)
 rw [e1,e2,e3] at g
 exact ⟨g.1,by show 0≤(pathsLp bs _ _ _ []).2.1.used;rw [g.2.1];exact p.2.2.1,by show (pathsLp bs _ _ _ []).2.1.used≤_;rw [g.2.1];exact p.2.2.2,g.2.2.1,by have:=g.2.2.2;show (pathsLp bs _ _ _ []).2.1.pts≤_;omega⟩
theorem path_shut (g:Nat→Option VB) (x:Path × VV) (hs:qzq g x.2 (pW x.1)):qzo g (pC x) (cPath x.1) :=
 qzo.cons (qzq.closed rfl) (qzo.cons (qzq.closed rfl) (qzo.cons hs (qzo.cons (qzq.closed rfl) qzo.nil)))
abbrev withM (I:IcV) (vm:VV):IcV:=⟨I.w,I.h,I.s,I.vc,vm⟩
def CmdQ (bs:List Nat) (i base:Nat) (I:IcV) (R':Rd) (Ms:List Cmd) (h:VH) (jm:Nat) (h':VH):Prop:=∃ jm' vm' M',RAt bs i R' (withM I vm') h'∧DAcc base h' jm' mC mW M' 11 vm'∧M'.map (·.1)=Ms∧Kc i h jm I.vm h' jm' vm'
attribute [local go_sem] cB cPt cCl cPaint
theorem cmd_run {Gl:qzj} (hG:GlAll Gl) {bs:List Nat} (hl:bs.length < 100000) (hb:∀ x∈bs,x < 256) {i:Nat} {R:Rd} {I:IcV} {h:VH} (st:RAt bs i R I h) (nc:Nat) (hc:lenSlV [I.vc]=some (.int .i64 nc)) (hn:nc≤256) (m0:0≤R.most) (m1:R.most≤2097152) (u0:0≤R.used) (u1:R.used≤nc) (p0:0≤R.pts) (p1:R.pts≤400000)
  (base:Nat) (hbi:i < base) (hbn:base≤h.next) (jm:Nat) (M:List (Cmd × VV)) (dm:DAcc base h jm mC mW M 11 I.vm) (hM:M.length≤300) :
  CallsV Go.VL.Er.E Gl f_decode_reader_cmd [.ptr i 0] h (fun _ h'=>CmdQ bs i base I (cmdL bs R nc).2.1 (M.map (·.1)++(if (cmdL bs R nc).2.2=true then [cmdS' bs R nc] else [])) h jm h'):=by
 have hi:=st.1
 refine qze E_decode_reader_cmd ?_
 unfold c_decode_reader_cmd r_decode_reader_cmd
 simp only [qzl]
 simp only [simprocAttr,-Int.reduceNatCast',go_sem]
 refine qzh (num_run hG hl hb st) ?_
 intro v h2 ⟨ev,st2,fm2⟩
 subst ev
 have nn:=numS_n hb R
 have nm:=num_most bs R
 have g4:qza Gl 8=some [erP 4]:=(hG 4 (by omega)).1
 have wm:=cmdW_most bs R
 have pin:=paint_inv bs (cmdW bs R).2 (((numS bs R).1 / 4:Nat):Int) nc (by rw [wm.2.1];exact u0) (by rw [wm.2.1];exact u1)
 have rm:=cmdR1_most bs R
 obtain ⟨w,hw⟩:∃ w,(numS bs R).1=w:=⟨_,rfl⟩
 obtain ⟨RR,hRR⟩:∃ RR,cmdR1 bs R=RR:=⟨_,rfl⟩
 obtain ⟨CW,hCW⟩:∃ CW,cmdW bs R=CW:=⟨_,rfl⟩
 unfold cmdS' cmdL cmdN cmdP
 rw [hw,hCW] at pin
 rw [hw,hCW]
 rw [hCW] at wm
 rw [hRR] at rm
 unfold cmdW at hCW
 rw [hRR,hw] at hCW
 unfold cmdR1 at hRR
 rw [hw] at hRR nn
 generalize (numS bs R).2=R2 at *
 have w1:IntKind.u64.wrap ((BitVec.ofInt IntKind.u64.bits (w:Int) &&& BitVec.ofInt IntKind.u64.bits 3).toNat:Int)=((w % 4:Nat):Int):=and_mod w 2 nn (by omega) 3 rfl
 have w2:IntKind.u64.wrap ((BitVec.ofInt IntKind.u64.bits (w:Int) &&& BitVec.ofInt IntKind.u64.bits 1).toNat:Int)=((w % 2:Nat):Int):=and_mod w 1 nn (by omega) 1 rfl
 have w3:IntKind.u64.wrap ((BitVec.ofInt IntKind.u64.bits ((w / 2:Nat):Int) &&& BitVec.ofInt IntKind.u64.bits 1).toNat:Int)=((w / 2 % 2:Nat):Int):=and_mod (w / 2) 1 (by omega) (by omega) 1 rfl
 have w4:=shr1 w
 have w5:=shr2 w
 simp only [simprocAttr,-Int.reduceNatCast',go_sem] at w1 w2 w3 w4 w5
 have z1:¬((1:Int) < 0):=by omega
 have z2:¬((2:Int) < 0):=by omega
 have w6:IntKind.i64.wrap ((w % 2:Nat):Int)=((w % 2:Nat):Int):=qzd (by omega) (by omega)
 have w7:IntKind.i64.wrap (1+((w % 2:Nat):Int))=1+((w % 2:Nat):Int):=qzd (by omega) (by omega)
 have w8:IntKind.i64.wrap ((w / 2 % 2:Nat):Int)=((w / 2 % 2:Nat):Int):=qzd (by omega) (by omega)
 have w9:IntKind.i64.wrap ((w / 4:Nat):Int)=((w / 4:Nat):Int):=qzd (by omega) (by omega)
 obtain ⟨kd,hkd⟩:∃ kd,1+((w % 2:Nat):Int)=kd:=⟨_,rfl⟩
 obtain ⟨ru,hru⟩:∃ ru,((w / 2 % 2:Nat):Int)=ru:=⟨_,rfl⟩
 by_cases c1:12≤w
 case' pos =>
  rw [if_pos (.inl c1)] at hRR
  have d1:(w:Int) ≥ 12:=by omega
  simp only [simprocAttr,-Int.reduceNatCast',go_sem,d1,g_ErrRange,g4]
  refine qzh (fails_run st2 R.pos 4) ?_
  intro v hX ⟨sX,fm3⟩
  rw [hRR] at sX
  have fX:=fm2.trans fm3
 case' neg =>
  have d1:¬(w:Int) ≥ 12:=by omega
  by_cases c2:w % 4=3
  case' pos =>
   rw [if_pos (.inr c2)] at hRR
   have d2:(((w % 4:Nat):Int) == 3)=true:=by rw [c2];rfl
   simp only [simprocAttr,-Int.reduceNatCast',go_sem,d1,w1,d2,g_ErrRange,g4]
   refine qzh (fails_run st2 R.pos 4) ?_
   intro v hX ⟨sX,fm3⟩
   rw [hRR] at sX
   have fX:=fm2.trans fm3
  case' neg =>
   rw [if_neg (by omega)] at hRR
   have d2:(((w % 4:Nat):Int) == 3)=false:=by simp;omega
   simp only [simprocAttr,-Int.reduceNatCast',go_sem,d1,w1,d2]
   have sX:=st2
   rw [hRR] at sX
   have fX:=fm2
   obtain ⟨hX,ehX⟩:∃ x:VH,h2=x:=⟨_,rfl⟩
   rw [ehX] at sX fX ⊢
 all_goals
  have nX:=fX.1
  have hiX:=sX.1
  have sX':=sX
  obtain ⟨hn3,ev3,hi3,he3⟩:=sX'
  unfold rC at hi3
  have wk:IntKind.i64.wrap kd=kd:=by rw [←hkd];exact w7
  have wr:IntKind.i64.wrap ru=ru:=by rw [←hru];exact w8
  have y1:¬hX.next=i:=by omega
  have y2:¬i=hX.next:=by omega
  obtain ⟨hB,eB⟩:∃ hB:VH,VH.mk ((hX.next,some (VB.cells [.int .i64 kd,.int .i64 ru,.int .i64 0,.int .i64 0,.int .i64 0,.int .i64 0,.int .i64 0,.int .i64 0,.int .i64 0,.int .i64 0,.nilS] false))::(hX.next,some (VB.cells [.int .i64 0,.int .i64 0,.int .i64 0,.int .i64 0,.int .i64 0,.int .i64 0,.int .i64 0,.int .i64 0,.int .i64 0,.int .i64 0,.nilS] false))::hX.l) (hX.next+1)=hB:=⟨_,rfl⟩
  have nB:hB.next=hX.next+1:=by rw [←eB]
  have fB:∀ k,k < hX.next→qza hB.l k=qza hX.l k:=fun k k1=>by rw [←eB];simp only [qzb];rw [if_neg (by omega),if_neg (by omega)]
  have kB:qza hB.l hX.next=some (some (.cells (mC (⟨kd,ru,0,⟨0,0,0,z0,z0⟩,[]⟩,.nilS)) false)):=by rw [←eB];simp only [qzb,if_true];rfl
  have sB:=sX.move (h':=hB) (by omega) fB
  by_cases c3:w % 2=1
  case' pos =>
   rw [if_pos c3] at hCW
   have dk:(kd == 2)=true:=by rw [←hkd,c3];rfl
   simp only [simprocAttr,-Int.reduceNatCast',go_sem,w1,w2,w3,w4,w5,w6,w7,w8,hkd,hru,shiftBin,z1,z2,wk,wr,y1,y2,hi3,dk]
   rw [eB]
   refine qzh (ranged_run hG hl hb sB 1 RR.most (by rw [rm.1];exact m0) (by rw [rm.1];omega)) ?_
   intro v h4 ⟨er,s4,fm4⟩
   subst er
   rw [hCW] at s4 ⊢
   have n4:=fm4.1
   have k4:=(fm4.2 hX.next (by omega) y1).trans kB
   have k4':=k4
   unfold mC z0 at k4'
   simp only [simprocAttr,-Int.reduceNatCast',go_sem,k4']
   have sC:=s4.put (b:=hX.next) (x:=some (VB.cells (mC (⟨kd,ru,CW.1,⟨0,0,0,z0,z0⟩,[]⟩,.nilS)) false)) y1 k4 (fun _ _ e=>by unfold mC at e;simp at e)
   obtain ⟨hC,eC⟩:∃ hC:VH,VH.mk ((hX.next,some (VB.cells [.int .i64 kd,.int .i64 ru,.int .i64 CW.1,.int .i64 0,.int .i64 0,.int .i64 0,.int .i64 0,.int .i64 0,.int .i64 0,.int .i64 0,.nilS] false))::h4.l) h4.next=hC:=⟨_,rfl⟩
   have sC':RAt bs i CW.2 I hC:=by rw [←eC];exact sC
   have nC:hX.next+1≤hC.next:=by rw [←eC];show hX.next+1≤h4.next;omega
   have kC:qza hC.l hX.next=some (some (.cells (mC (⟨kd,ru,CW.1,⟨0,0,0,z0,z0⟩,[]⟩,.nilS)) false)):=by rw [←eC];simp only [qzb,if_true];rfl
   have fC:∀ k,k < hX.next→k≠i→qza hC.l k=qza hX.l k:=fun k k1 k2=>by rw [←eC];simp only [qzb];rw [if_neg (by omega),fm4.2 k (by omega) k2];exact fB k k1
   rw [eC]
  case' neg =>
   rw [if_neg c3] at hCW
   have dk:(kd == 2)=false:=by rw [←hkd,show w % 2=0 by omega];rfl
   simp only [simprocAttr,-Int.reduceNatCast',go_sem,w1,w2,w3,w4,w5,w6,w7,w8,hkd,hru,shiftBin,z1,z2,wk,wr,y1,y2,hi3,dk]
   rw [eB]
   obtain ⟨hC,eC⟩:∃ x:VH,hB=x:=⟨_,rfl⟩
   have sC':RAt bs i CW.2 I hC:=by rw [←eC,←hCW];exact sB
   have nC:hX.next+1≤hC.next:=by rw [←eC];omega
   have kC:qza hC.l hX.next=some (some (.cells (mC (⟨kd,ru,CW.1,⟨0,0,0,z0,z0⟩,[]⟩,.nilS)) false)):=by rw [←eC,←hCW];exact kB
   have fC:∀ k,k < hX.next→k≠i→qza hC.l k=qza hX.l k:=fun k k1 k2=>by rw [←eC];exact fB k k1
   rw [eC]
  all_goals
   simp only [simprocAttr,-Int.reduceNatCast',go_sem,w5,w9,shiftBin,z2]
   refine qzh (paint_run hG hl hb sC' _ nc hc hn (by rw [wm.1];exact m0) (by rw [wm.1];exact m1) (by rw [wm.2.1];exact u0) (by rw [wm.2.1];exact u1)) ?_
   intro v h5 ⟨er,s5,fm5⟩
   subst er
   obtain ⟨PP,hPP⟩:∃ PP,paintS bs CW.2 ((w / 4:Nat):Int) nc=PP:=⟨_,rfl⟩
   rw [hPP] at s5 pin ⊢
   obtain ⟨p,R5⟩:=PP
   simp only at s5 pin ⊢
   have n5:=fm5.1
   have k5:=(fm5.2 hX.next (by omega) y1).trans kC
   have k5':=k5
   unfold mC z0 at k5'
   simp only [simprocAttr,-Int.reduceNatCast',go_sem,k5']
   have sD:=s5.put (b:=hX.next) (x:=some (VB.cells (mC (⟨kd,ru,CW.1,p,[]⟩,.nilS)) false)) y1 k5 (fun _ _ e=>by unfold mC at e;simp at e)
   refine qzh (many_run hG hl hb sD 1 200 (by omega) (by omega) (by omega) (by omega)) ?_
   intro v h6 ⟨er,s6,fm6⟩
   subst er
   have mi:=many_in bs R5 1 200 (by omega)
   have mm:=many_most bs R5 1 200
   obtain ⟨N,hN⟩:∃ N:Nat,manyS bs R5 1 200=N:=⟨(manyS bs R5 1 200).toNat,by omega⟩
   have hN':manyN bs R5 1 200=N:=by unfold manyN;rw [hN];rfl
   rw [hN] at mi ⊢
   rw [hN']
   have n6:=fm6.1
   simp only at n6
   have k6:qza h6.l hX.next=some (some (.cells (mC (⟨kd,ru,CW.1,p,[]⟩,.nilS)) false)):=(fm6.2 hX.next (by show hX.next < h5.next;omega) y1).trans (by simp only [qzb,if_true])
   have f6:∀ k,k < hX.next→k≠i→qza h6.l k=qza hX.l k:=fun k k1 k2=>by
    rw [fm6.2 k (by show k < h5.next;omega) k2];simp only [qzb];rw [if_neg (by omega),fm5.2 k (by omega) k2];exact fC k k1 k2
   have fh:∀ k,k < h.next→k≠i→qza h6.l k=qza h.l k:=fun k k1 k2=>by rw [f6 k (by omega) k2];exact fX.2 k k1 k2
   simp only [simprocAttr,-Int.reduceNatCast',go_sem]
   have hfill:((⟨kd,ru,CW.1,p,[]⟩:Cmd).kind == 1)=decide (w % 2=0):=by
    show (kd == 1)=_
    rw [←hkd]
    rcases (show w % 2=0∨w % 2=1 by omega) with q | q<;>rw [q]<;>rfl
   have dm6:DAcc base h6 jm mC mW M 11 I.vm:=dm.keep (by omega) (fun k k1 k2=>fh k k2 (by omega))
   obtain ⟨F,hF⟩:∃ F,pathsLp bs (decide (w % 2=0)) N (manyR bs R5 1 200) []=F:=⟨_,rfl⟩
   rw [hF]
   refine cmd_loop hG hl hb i hX.next (hX.next+1) (by omega) (by omega) y1 I ⟨kd,ru,CW.1,p,[]⟩ F h6 N (by omega) _ (decide (w % 2=0)) hfill ?_ ?_ N 0 _ h6 0 .nilS [] (manyR bs R5 1 200) (by omega) (by simp;omega) hF.symm ⟨s6,k6,DAcc.nil,by omega⟩ (fun _ _ _ _=>rfl) (by rw [mm.1,pin.1,wm.1];exact m0) (by rw [mm.1,pin.1,wm.1];exact m1) (by rw [mm.2.2,pin.2.1,wm.2.2];exact p0) (by rw [mm.2.2,pin.2.1,wm.2.2];omega) ?_ ?_ ?_ ?_
   ·intro T h7 jp vp P t0 t4 hok hP st7 f7
    have s7:=st7.r
    obtain ⟨hn7,ev7,hi7,he7⟩:=s7
    unfold rC at hi7
    have k7:=st7.c
    unfold mC at k7
    have n7:=st7.n
    have fh7:∀ k,k < h.next→k≠i→qza h7.l k=qza h.l k:=fun k k1 k2=>by rw [f7 k (by omega) k2 (by omega)];exact fh k k1 k2
    have dm7:DAcc base h7 jm mC mW M 11 I.vm:=dm.keep (by omega) (fun k k1 k2=>fh7 k k2 (by omega))
    have a7:qzm base ⟨(h7.next,some (VB.cells (mC (⟨kd,ru,CW.1,p,F.1⟩,vp)) false))::h7.l,h7.next+1⟩ jm mC M 11 I.vm:=dm7.1.ext (by show h7.next≤h7.next+1;omega) (fun x y=>by simp only [qzb];rw [if_neg (by omega)])
    have y3:¬h7.next=i:=by omega
    have y4:¬h7.next=hX.next:=by omega
    simp only [simprocAttr,-Int.reduceNatCast',go_sem,t0,t4,hi7,k7,y3,y4]
    refine wpW_acc (base:=base) (j:=jm) (f:=mC) (l:=M) (a:=(⟨kd,ru,CW.1,p,F.1⟩,vp)) a7 (by unfold mC;first | (simp only [simprocAttr,-Int.reduceNatCast',go_sem];done) | (simp only [simprocAttr,-Int.reduceNatCast',go_sem];rfl)) mC_len (by omega) (by show base≤h7.next+1;omega) (by omega) (by omega) ?_
    intro h' g1 g2 g3
    simp only at g1 g2 g3
    have fr':∀ k,k < h7.next→(k≠jm∨I.vm = .nilS)→qza h'.l k=qza h7.l k:=fun k k1 k2=>by
     rw [g2 k (by omega) k2];simp only [qzb];rw [if_neg (by omega)]
    have i':=(fr' i hn7 (dm7.1.ne (.inl hbi))).trans hi7
    have dpp:Dp h7 (hX.next+1) h7.next vp (mW ⟨kd,ru,CW.1,p,F.1⟩):=by
     have:=st7.p.dp pC_len cPath (fun g x _ hs=>path_shut g x hs)
     rw [hP] at this
     exact this
    have d8:=dm7.snoc (x:=(⟨kd,ru,CW.1,p,F.1⟩,vp)) (lo:=hX.next+1) (hi:=h7.next) (by omega) n7 (Nat.le_refl _) (by
     rcases dm.1 with ⟨_,e⟩ | ⟨_,_,_,e⟩
     ·exact .inl e
     ·exact .inr (.inl (by omega))) dpp (j':=h7.next+1) (h':=h') (by omega) (by omega) fr' g3
    simp only [simprocAttr,-Int.reduceNatCast',go_sem,t0,t4,i']
    refine ⟨h7.next+1,.slice (h7.next+1) 0 (M.length+1) 11 (.toEnd 11),M++[(⟨kd,ru,CW.1,p,F.1⟩,vp)],?_,?_,by rw [List.map_append,if_pos hok];rfl,by show h.next≤h'.next;omega,fun k k1 k2 k3=>⟨?_,.inl (by omega)⟩⟩
    ·refine ⟨by show i < h'.next;omega,ev7,by simp only [qzb,if_true];rfl,?_⟩
     refine he7.frame (by show h7.next≤h'.next;omega) (fun k k1 k2 k3 => ?_)
     simp only [qzb]
     rw [if_neg (Ne.symm k2)]
     exact fr' k k1 (acc_nerrG dm7.1 mC_len (by omega) k3)
    ·refine DAcc.keep (h:=h') d8 (Nat.le_refl _) (fun k k1 _ => ?_)
     simp only [qzb]
     rw [if_neg (by omega)]
    ·simp only [qzb]
     rw [if_neg (Ne.symm k2),fr' k (by omega) k3]
     exact fh7 k k1 k2
   ·intro T h7 jp vp P hok hP st7 f7
    have fh7:∀ k,k < h.next→k≠i→qza h7.l k=qza h.l k:=fun k k1 k2=>by rw [f7 k (by omega) k2 (by omega)];exact fh k k1 k2
    have n7:=st7.n
    simp only [simprocAttr,-Int.reduceNatCast',go_sem]
    refine ⟨jm,I.vm,M,st7.r,dm.keep (by omega) (fun k k1 k2=>fh7 k k2 (by omega)),by rw [if_neg (by rw [hok];simp),List.append_nil],by omega,fun k k1 k2 k3=>⟨fh7 k k1 k2,k3⟩⟩
   ·simp only [simprocAttr,-Int.reduceNatCast',go_sem]
   ·simp only [simprocAttr,-Int.reduceNatCast',go_sem]
   ·simp only [simprocAttr,-Int.reduceNatCast',go_sem]
   ·simp only [simprocAttr,-Int.reduceNatCast',go_sem];rfl
end
end Go.VL.Dc
