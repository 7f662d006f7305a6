import Derived.Test.YtbamfhdgikeneaaDoorVlK
import Derived.Test.YtbamfhdgikeneaaDoorPaA
import Derived.Test.YtbamfhdgikeneaaDoorWrA
import Derived.Test.YtbamfhdgikeneaaDoorGeA
set_option linter.unusedSimpArgs false
set_option linter.unusedVariables false
namespace Go.VL.Ic
open Go.FR Go.IR Go.VL Go.VL.Er Go.VL.Color Go.VL.Wind Go.VL.Pal
noncomputable section
set_option maxRecDepth 100000
set_option maxHeartbeats 1000000
def Icon.Fit (i:Icon):Prop:=i.colors.length < 1000000∧i.cmds.length < 1000000∧∀ c∈i.cmds,c.paths.length < 1000000∧∀ p∈c.paths,p.segs.length < 1000000
theorem firstS_none {α:Type} {f:α→Option Nat}:∀ {l:List α},firstS f l=none ↔ ∀ x∈l,f x=none
 | []=>by simp [firstS]
 | x::l=>by
  rw [firstS]
  cases e:f x with
  | some n=>simp [e]
  | none=>simp only [firstS_none (l:=l),List.mem_cons,forall_eq_or_imp,e,true_and]
theorem segS_none {s:Seg} {m:Int} (h:segS s m=none):1≤s.kind∧s.kind≤3:=by
 unfold segS at h
 cases e:inS s.kind 1 3
 ·rw [e] at h;simp at h
 ·unfold inS at e;simp at e;omega
theorem pathS_none {p:Path} {b:Bool} {m:Int} (h:pathS p b m=none):p.segs.length≤400∧p.segs≠[]∧farS p.start m=false∧(b && p.closed)=false∧∀ s∈p.segs,segS s m=none:=by
 unfold pathS at h
 by_cases h1:(b && p.closed)=true
 ·rw [if_pos h1] at h;exact nomatch h
 rw [if_neg h1] at h
 by_cases h2:p.segs.length=0
 ·rw [if_pos h2] at h;exact nomatch h
 rw [if_neg h2] at h
 by_cases h3:400 < p.segs.length
 ·rw [if_pos h3] at h;exact nomatch h
 rw [if_neg h3] at h
 by_cases h4:farS p.start m=true
 ·rw [if_pos h4] at h;exact nomatch h
 rw [if_neg h4] at h
 exact ⟨by omega,fun e=>h2 (by rw [e];rfl),by simpa using h4,by simpa using h1,firstS_none.mp h⟩
theorem cmdS_none {c:Cmd} {n m:Int} (h:cmdS c n m=none):headS c m=none∧paintS c.paint n m=none∧c.paths≠[]∧c.paths.length≤200∧∀ p∈c.paths,pathS p (decide (c.kind=1)) m=none:=by
 unfold cmdS at h
 cases h1:headS c m with
 | some e=>rw [h1] at h;exact nomatch h
 | none =>
 rw [h1] at h
 cases h2:paintS c.paint n m with
 | some e=>rw [h2] at h;exact nomatch h
 | none =>
 rw [h2] at h
 simp only at h
 by_cases h3:c.paths.length=0
 ·rw [if_pos h3] at h;exact nomatch h
 rw [if_neg h3] at h
 by_cases h4:200 < c.paths.length
 ·rw [if_pos h4] at h;exact nomatch h
 rw [if_neg h4] at h
 exact ⟨rfl,rfl,fun e=>h3 (by rw [e];rfl),by omega,firstS_none.mp h⟩
theorem sum_mem_le {α:Type} {f:α→Int} {c:Int} {l:List α} (h:∀ x∈l,f x≤c) (c0:0≤c) (n:Nat) (hn:l.length≤n):sumS' f l≤c*n :=
 Int.le_trans (sum_le h) (Int.mul_le_mul_of_nonneg_left (by omega) c0)
theorem pathPts_le {p:Path} {b:Bool} {m:Int} (h:pathS p b m=none):pathPts p≤1201∧∀ s∈p.segs,0≤s.kind:=by
 obtain ⟨h1,h2,h3,h4,h5⟩:=pathS_none h
 have:=sum_mem_le (f:=fun s:Seg=>s.kind) (c:=3) (l:=p.segs) (fun s hs=>(segS_none (h5 s hs)).2) (by omega) 400 h1
 refine ⟨by unfold pathPts;omega,fun s hs=>by have:=(segS_none (h5 s hs)).1;omega⟩
theorem points_le {i:Icon} {n m:Int} (h:∀ c∈i.cmds,cmdS c n m=none) (hc:i.cmds.length≤200):pointsS i≤2 ^ 62:=by
 have hh:∀ c∈i.cmds,sumS' pathPts c.paths≤1201*(200:Nat):=fun c hc=>by
  obtain ⟨h1,h2,h3,h4,h5⟩:=cmdS_none (h c hc)
  exact sum_mem_le (fun p hp=>(pathPts_le (h5 p hp)).1) (by omega) 200 h4
 have:=sum_mem_le (f:=fun c:Cmd=>sumS' pathPts c.paths) hh (by omega) 200 hc
 have e:pointsS i=sumS' (fun c:Cmd=>sumS' pathPts c.paths) i.cmds:=rfl
 rw [e];omega
attribute [local go_sem] cCl erP errK cSeg cPath cPaint cCmd cIcon t_p_api_At t_p_errors_errorString
theorem check_loop {Gl:qzj} (hG:IcG Gl) (i0:Icon) (hf:i0.Fit) (b:Nat) (K:AEx→VF→VH→Prop)
  (hE:∀ T h e,firstS (fun c=>cmdS c i0.colors.length (greatS i0)) i0.cmds=some e→qza T 2=some (errK e)→K .ret T h)
  (hK:∀ T h,firstS (fun c=>cmdS c i0.colors.length (greatS i0)) i0.cmds=none→qza T 1=some (.ptr b 0)→qza h.l b=some (some (.cells (cIcon i0) false))→K (.exit 1) T h) :
  ∀ (d i:Nat) (T:VF) (h:VH),d+i=i0.cmds.length→firstS (fun c=>cmdS c i0.colors.length (greatS i0)) i0.cmds=firstS (fun c=>cmdS c i0.colors.length (greatS i0)) (i0.cmds.drop i)→qza T 1=some (.ptr b 0)→qza T 24=some (.fsl (qzg cCmd i0.cmds) i0.cmds.length 11)→qza T 25=some (.int .i64 i0.cmds.length)→qza T 26=some (.int .i64 i)→qza h.l b=some (some (.cells (cIcon i0) false))→b < h.next →
  wp Go.VL.Er.E Gl (.loop c_icon_Check_l0) T h K:=by
 intro d
 induction d with
 | zero =>
  intro i T h hd hs t1 t24 t25 t26 hb hx
  obtain rfl:i=i0.cmds.length:=by omega
  rw [List.drop_length] at hs
  refine qzi c_icon_Check_l0.eq_1 ?_
  have c:¬((i0.cmds.length:Int) < i0.cmds.length):=by omega
  simp only [simprocAttr,-Int.reduceNatCast',go_sem,t25,t26,c]
  refine hK _ _ hs ?_ hb
  simp only [simprocAttr,-Int.reduceNatCast',go_sem,t1]
 | succ d ih =>
  intro i T h hd hs t1 t24 t25 t26 hb hx
  refine qzi c_icon_Check_l0.eq_1 ?_
  obtain ⟨f1,f2,f3⟩:=hf
  have hlt:i < i0.cmds.length:=by omega
  have c:(i:Int) < i0.cmds.length:=by omega
  obtain ⟨e,he⟩:∃ e,i0.cmds[i]?=some e:=⟨i0.cmds[i],List.getElem?_eq_getElem hlt⟩
  obtain ⟨f4,f5⟩:=f3 e (List.mem_of_getElem? he)
  have p1:=qzr cCmd_len he
  have p2:=qzs cCmd_len he
  have hw:IntKind.i64.wrap ((i:Int)+1)=((i+1:Nat):Int):=by rw [qzd (by omega) (by omega)];rfl
  have e0:¬h.next=b:=by omega
  have x1:h.next < h.next+1:=by omega
  have x2:b < h.next+1:=by omega
  have gb:=great_bnd i0
  rw [firstS_drop he] at hs
  simp only [simprocAttr,-Int.reduceNatCast',go_sem,t1,t24,t25,t26,c,hlt,p1,p2,hb,e0]
  refine qzf (greatest_ok Gl i0) rfl rfl ?_
  simp only [simprocAttr,-Int.reduceNatCast',go_sem,t1,hb,e0,x1,x2]
  refine qzf (cmd_ok hG e i0.colors.length (greatS i0) f4 f5 (by omega) (by omega) (by omega) (by omega)) rfl (by cases cmdS e i0.colors.length (greatS i0)<;>rfl) ?_
  cases q:cmdS e i0.colors.length (greatS i0) with
  | some n =>
   rw [q] at hs
   simp only [errV]
   simp only [simprocAttr,-Int.reduceNatCast',go_sem]
   exact hE _ _ n hs (by simp only [simprocAttr,-Int.reduceNatCast',go_sem])
  | none =>
   rw [q] at hs
   simp only [errV]
   simp only [simprocAttr,-Int.reduceNatCast',go_sem,t26,hw]
   refine ih (i+1) _ _ (by omega) hs ?_ ?_ ?_ ?_ ?_ ?_
   ·simp only [simprocAttr,-Int.reduceNatCast',go_sem,t1]
   ·simp only [simprocAttr,-Int.reduceNatCast',go_sem,t24]
   ·simp only [simprocAttr,-Int.reduceNatCast',go_sem,t25]
   ·simp only [simprocAttr,-Int.reduceNatCast',go_sem]
   ·simp only [simprocAttr,-Int.reduceNatCast',go_sem,e0,hb]
   ·simp only [simprocAttr,-Int.reduceNatCast',go_sem];omega
theorem check_ok {Gl:qzj} (hG:IcG Gl) (i:Icon) (hf:i.Fit):qzn Go.VL.Er.E Gl f_icon_Check [.agg (cIcon i)] (errV (checkS i)):=by
 refine qzk (qze E_icon_Check ?_)
 have g4:qza Gl g_ErrRange=some [errK 4]:=hG.r
 have g5:qza Gl g_ErrLimit=some [errK 5]:=hG.l
 have g9:qza Gl g_ErrCanon=some [errK 9]:=hG.c
 unfold c_icon_Check r_icon_Check
 simp only [qzl]
 simp only [simprocAttr,-Int.reduceNatCast',go_sem]
 refine qzf (sized_ok Gl i) rfl rfl ?_
 cases r1:sizedS i
 ·rw [show checkS i=some 4 by simp [checkS,r1]]
  simp only [simprocAttr,-Int.reduceNatCast',go_sem,g4]
  exact qzc rfl
 by_cases r2:256 < i.colors.length
 ·have r2':(i.colors.length:Int) > 256:=by omega
  rw [show checkS i=some 5 by simp [checkS,r1,r2]]
  simp only [simprocAttr,-Int.reduceNatCast',go_sem,r2',g5]
  exact qzc rfl
 have r2':¬(i.colors.length:Int) > 256:=by omega
 by_cases r3:200 < i.cmds.length
 ·have r3':(i.cmds.length:Int) > 200:=by omega
  rw [show checkS i=some 5 by simp [checkS,r1,r3]]
  simp only [simprocAttr,-Int.reduceNatCast',go_sem,r2',r3',g5]
  exact qzc rfl
 have r3':¬(i.cmds.length:Int) > 200:=by omega
 have hc:checkS i=match firstS (fun c=>cmdS c i.colors.length (greatS i)) i.cmds with
  | some e=>some e
  | none=>if pointsS i > 4000 then some 5 else if usedS i=false then some 9 else none:=by
  unfold checkS;rw [if_neg (by simp [r1]),if_neg (by omega)];rfl
 simp only [simprocAttr,-Int.reduceNatCast',go_sem,r2',r3']
 refine check_loop hG i hf 0 _ ?_ ?_ i.cmds.length 0 _ _ (by omega) rfl ?_ ?_ ?_ ?_ ?_ ?_
 ·intro T h e he t2
  rw [hc,he]
  simp only [simprocAttr,-Int.reduceNatCast',go_sem,t2]
  exact qzc rfl
 ·intro T h he t1 hb
  rw [he] at hc
  simp only at hc
  have hn:=firstS_none.mp he
  have hp:=points_ok Gl i hf.2.1 (fun c hm=>⟨(hf.2.2 c hm).1,fun p hpp=>⟨(hf.2.2 c hm).2 p hpp,(pathPts_le ((cmdS_none (hn c hm)).2.2.2.2 p hpp)).2⟩⟩) (points_le hn (by omega))
  simp only [simprocAttr,-Int.reduceNatCast',go_sem,t1,hb]
  refine qzf hp rfl rfl ?_
  by_cases r4:pointsS i > 4000
  ·rw [if_pos r4] at hc
   rw [hc]
   simp only [simprocAttr,-Int.reduceNatCast',go_sem,r4,g5]
   exact qzc rfl
  rw [if_neg r4] at hc
  simp only [simprocAttr,-Int.reduceNatCast',go_sem,r4,t1,hb]
  refine qzf (used_ok Gl i hf.1 hf.2.1) rfl rfl ?_
  cases r5:usedS i
  ·rw [r5,if_pos rfl] at hc
   rw [hc]
   simp only [simprocAttr,-Int.reduceNatCast',go_sem,g9]
   exact qzc rfl
  ·rw [r5,if_neg (by simp)] at hc
   rw [hc]
   simp only [simprocAttr,-Int.reduceNatCast',go_sem]
   exact qzc rfl
 all_goals first | (simp only [simprocAttr,-Int.reduceNatCast',go_sem];done) | (simp only [simprocAttr,-Int.reduceNatCast',go_sem];rfl) | (simp only [simprocAttr,-Int.reduceNatCast',go_sem];exact Nat.zero_lt_succ _)
end
end Go.VL.Ic
namespace Go.VL.En
open Go.FR Go.IR Go.VL Go.VL.Color Go.VL.Wind Go.VL.Ic
noncomputable section
set_option maxRecDepth 100000
set_option maxHeartbeats 1000000
abbrev Run:=Int × Nat
abbrev cR (r:Run):List VV:=[.int .i64 r.1,.int .i64 (r.2:Int)]
def pushR (A:List Run) (k:Int):List Run:=match A.reverse with
 | []=>[(k,1)]
 | (k',n)::B=>if k'=k then B.reverse++[(k',n+1)] else A++[(k,1)]
def runsS (l:List Seg):List Run:=l.foldl (fun A s=>pushR A s.kind) []
def countR (A:List Run):Nat:=(A.map (·.2)).sum
attribute [local go_sem] cSeg cR t_p_api_At
end
end Go.VL.En
namespace Go.VL.En
open Go.FR Go.IR Go.VL Go.VL.Color Go.VL.Wind Go.VL.Ic Go.VL.Wire
noncomputable section
set_option maxRecDepth 100000
set_option maxHeartbeats 1000000
def WrQ (b j:Nat) (v:VV) (X bs:List Nat) (h:VH) (h':VH):Prop:=∃ j' v',qza h'.l b=some (some (.cells [v'] false))∧AccE 0 h' j' cB (X++bs) 1 v'∧(b≠j'∨v' = .nilS)∧(∀ k,k < h.next→k≠b→(k≠j∨v = .nilS)→qza h'.l k=qza h.l k)∧h.next≤h'.next∧(j'=j∧v'=v∨h.next≤j')
def Wr (f:Nat) (args:Nat→List VV) (bs:List Nat) (m:Nat:=0):Prop:=∀ (Gl:qzj) (h:VH) (b j:Nat) (v:VV) (X:List Nat),qza h.l b=some (some (.cells [v] false))→AccE 0 h j cB X 1 v→b < h.next→(b≠j∨v = .nilS)→X.length+bs.length+m < 1000000000 →
 CallsV Go.VL.Er.E Gl f (args b) h (fun _ h'=>WrQ b j v X bs h h')
theorem WrQ.trans {b j j1:Nat} {v v1:VV} {X bs cs:List Nat} {h h1 h2:VH} (hb:b < h.next) (f1:∀ k,k < h.next→k≠b→(k≠j∨v = .nilS)→qza h1.l k=qza h.l k) (n1:h.next≤h1.next) (d1:j1=j∧v1=v∨h.next≤j1) (p2:WrQ b j1 v1 (X++bs) cs h1 h2):WrQ b j v X (bs++cs) h h2:=by
 obtain ⟨j2,v2,a1,a2,a3,a4,a5,a6⟩:=p2
 refine ⟨j2,v2,a1,by rw [←List.append_assoc];exact a2,a3,fun k k1 k2 k3 => ?_,by omega,?_⟩
 ·rw [a4 k (by omega) k2 ?_,f1 k k1 k2 k3]
  rcases d1 with ⟨rfl,rfl⟩ | d1
  ·exact k3
  ·exact .inl (by omega)
 ·rcases a6 with ⟨rfl,rfl⟩ | a6
  ·exact d1
  ·exact .inr (by omega)
theorem AccE.ne {α:Type} {base:Nat} {h:VH} {j:Nat} {f:α→List VV} {l:List α} {esz:Nat} {v:VV} (a:AccE base h j f l esz v) {k:Nat} (hk:k < base∨h.next≤k):k≠j∨v = .nilS:=by
 rcases a with a | ⟨e,_,_,_,a4,a5⟩
 ·exact a.ne hk
 ·exact .inl (by omega)
theorem wrq_app {b j:Nat} {v x:VV} {X bs:List Nat} {h h0 h3:VH} (hb:b < h.next) (hbj:b≠j∨v = .nilS) (hn:h.next≤h0.next) (hf:∀ k,k < h.next→qza h0.l k=qza h.l k) (g1:h3.next=h0.next+1) (g2:∀ k,k≠h0.next→k≠j∨v = .nilS→qza h3.l k=qza h0.l k) (g3:qzm 0 h3 h0.next cB (X++bs) 1 x) :
  WrQ b j v X bs h ⟨(b,some (.cells [x] false))::h3.l,h3.next⟩:=by
 refine ⟨h0.next,x,by simp only [qzb,if_true],.inl (g3.ext (Nat.le_refl _) (fun _ q=>by simp only [qzb];rw [if_neg (by omega)])),.inl (by omega),fun k k1 k2 k3 => ?_,by show h.next≤h3.next;omega,.inr hn⟩
 simp only [qzb]
 rw [if_neg (Ne.symm k2),g2 k (by omega) k3,hf k k1]
def colorB (c:Cl):List Nat:=[c.r,c.g,c.b,c.a]
attribute [local go_sem] cSeg cR cB cPt cCl t_p_api_At
theorem color_wr (c:Cl) (hc:c.In):Wr f_encode_writer_color (fun b=>[.ptr b 0,.agg (cCl c)]) (colorB c):=by
 intro Gl h b j v X hi ha hb hbj hX
 refine qze E_encode_writer_color ?_
 unfold c_encode_writer_color r_encode_writer_color
 simp only [qzl]
 have e1:¬h.next=b:=by omega
 simp only [simprocAttr,-Int.reduceNatCast',go_sem,e1,hi]
 have acc2:AccE 0 ⟨(h.next+1,some (VB.cells (qzg cB (colorB c)) false))::(h.next,some (.cells (cCl c) false))::h.l,h.next+1+1⟩ j cB X 1 v:=Go.VL.Wire.AccE.ext ha (by show h.next≤h.next+1+1;omega) (fun _ q=>by simp only [qzb];rw [if_neg (by omega),if_neg (by omega)])
 refine wpW_accE (ls:=colorB c) acc2 (by simp only [colorB];simp only [simprocAttr,-Int.reduceNatCast',go_sem]<;>first | rfl | exact ⟨rfl,rfl⟩ | exact qzc rfl) (by simp [colorB]) cB_len (by omega) (Nat.zero_le _) (by simp [colorB] at hX ⊢;omega) (by simp [colorB] at hX ⊢;omega) ?_
 intro h3 g1 g2 g3
 simp only at g1 g2 g3
 have bi:qza h3.l b=some (some (.cells [v] false)):=by
  rw [g2 b (by omega) hbj];simp only [qzb];rw [if_neg (by omega),if_neg (by omega)];exact hi
 simp only [simprocAttr,-Int.reduceNatCast',go_sem,bi]
 exact wrq_app (h0:=⟨_,h.next+1+1⟩) hb hbj (by show h.next≤h.next+1+1;omega) (fun k hk=>by simp only [qzb];rw [if_neg (by omega),if_neg (by omega)]) g1 g2 g3
def pointB (p:Pt):List Nat:=putS (zigS p.x)++putS (zigS p.y)
theorem point_wr (p:Pt) (h1:-9223372036854775808≤p.x) (h2:p.x≤9223372036854775807) (h3:-9223372036854775808≤p.y) (h4:p.y≤9223372036854775807):Wr f_encode_writer_point (fun b=>[.ptr b 0,.agg (cPt p)]) (pointB p):=by
 intro Gl h b j v X hi ha hb hbj hX
 refine qze E_encode_writer_point ?_
 unfold c_encode_writer_point r_encode_writer_point
 simp only [qzl]
 have e1:¬h.next=b:=by omega
 have z1:=zig_lt h1 h2
 have z2:=zig_lt h3 h4
 have x1:b < h.next+1:=by omega
 have x2:b < h.next+1+1:=by omega
 have x3:b < h.next+1+1+1:=by omega
 have y1:h.next < h.next+1:=by omega
 have y2:¬h.next+1=h.next:=by omega
 have y3:¬h.next+1=b:=by omega
 have y4:¬h.next+1+1=b:=by omega
 have y5:¬h.next+1+1=h.next:=by omega
 have k1:=putS_10 z1
 have k2:=putS_10 z2
 simp only [simprocAttr,-Int.reduceNatCast',go_sem,e1,hi,x1,x2,x3]
 refine qzf (zig_ok Gl p.x h1 h2) rfl rfl ?_
 simp only [simprocAttr,-Int.reduceNatCast',go_sem,e1,hi,x1,x2,x3]
 refine call_own (putNil Gl (zigS p.x) z1) rfl (plainL_flat (fun _=>rfl) _) ?_
 simp only [simprocAttr,-Int.reduceNatCast',go_sem,e1,hi,x1,x2,x3,y1,y2,y3,y4,y5]
 refine qzf (zig_ok Gl p.y h3 h4) rfl rfl ?_
 simp only [simprocAttr,-Int.reduceNatCast',go_sem,e1,hi,x1,x2,x3,y1,y2,y3,y4,y5]
 have hsh:=own1_shut (h:=VH.mk ((h.next+1,some (.cells (qzg cB (putS (zigS p.x))) false))::(h.next,some (.cells (cPt p) false))::h.l) (h.next+1+1)) (X:=putS (zigS p.x)) (j:=h.next+1) (n:=(putS (zigS p.x)).length) (by simp only [qzb,if_true]) rfl
 refine call_own_sub (a0:=[.fsl (qzg cB (putS (zigS p.x))) (putS (zigS p.x)).length 1,.int .u64 (zigS p.y:Int)]) (putC Gl (putS (zigS p.x)) (by omega) 1 (.inl rfl) (zigS p.y) z2) (by simp only [shutL];rw [hsh];rfl) (subL_refl _) (plainL_flat (fun _=>rfl) _) ?_
 simp only [simprocAttr,-Int.reduceNatCast',go_sem,e1,hi,x1,x2,x3,y1,y2,y3,y4,y5]
 have len:(putS (zigS p.x)++putS (zigS p.y)).length=(pointB p).length:=rfl
 obtain ⟨hX',eX⟩:∃ hX':VH,VH.mk ((h.next+1+1,some (VB.cells (qzg cB (putS (zigS p.x)++putS (zigS p.y))) false))::(h.next+1,some (VB.cells (qzg cB (putS (zigS p.x))) false))::(h.next,some (VB.cells (cPt p) false))::h.l) (h.next+1+1+1)=hX':=⟨_,rfl⟩
 have fX:∀ k,k < h.next→qza hX'.l k=qza h.l k:=fun k hk=>by rw [←eX];simp only [qzb];rw [if_neg (by omega),if_neg (by omega),if_neg (by omega)]
 have nX:hX'.next=h.next+1+1+1:=by rw [←eX]
 have aX:qza hX'.l (h.next+1+1)=some (some (.cells (qzg cB (pointB p)) false)):=by rw [←eX];simp only [qzb,if_true];rfl
 have acc2:AccE 0 hX' j cB X 1 v:=Go.VL.Wire.AccE.ext ha (by omega) (fun _ q=>fX j q)
 rw [eX]
 obtain ⟨w1,w2⟩:=flat_all cB_len (pointB p)
 have wz:(qzg cB (pointB p)).length=(pointB p).length:=flat1_len _
 have pl:0 < (pointB p).length:=by unfold pointB;rw [List.length_append];have:=putS_pos (zigS p.x);omega
 have pb:(pointB p).length≤20:=by unfold pointB;rw [List.length_append];omega
 refine wpW_accE (ls:=pointB p) acc2 (by rw [len];simp only [srcV,winV,get_def,aX,Option.getD_some,Nat.zero_add,w1,w2,List.drop_zero,true_or,if_true]) (by intro e;rw [e] at pl;simp at pl) cB_len (by omega) (Nat.zero_le _) (by omega) (by omega) ?_
 intro h3 g1 g2 g3
 have bi:qza h3.l b=some (some (.cells [v] false)):=by
  rw [g2 b (by omega) hbj];rw [fX b hb];exact hi
 simp only [simprocAttr,-Int.reduceNatCast',go_sem,bi]
 exact wrq_app (h0:=hX') hb hbj (by omega) fX g1 g2 g3
end
end Go.VL.En
namespace Go.VL.En
open Go.FR Go.IR Go.VL Go.VL.Color Go.VL.Wind Go.VL.Ic Go.VL.Wire
noncomputable section
set_option maxRecDepth 100000
set_option maxHeartbeats 1000000
abbrev iC (n:Nat):VV := .int .i64 (n:Int)
def numsB (ns:List Nat):List Nat:=ns.flatMap putS
theorem numsB_cons (n:Nat) (ns:List Nat):numsB (n::ns)=putS n++numsB ns:=by simp [numsB]
theorem numsB_le:∀ (ns:List Nat),(∀ n∈ns,n < 18446744073709551616)→(numsB ns).length≤10*ns.length
 | [],_=>by simp [numsB]
 | n::ns,h=>by
  have h1:=putS_10 (h n (.head _))
  have h2:=numsB_le ns fun m hm=>h m (.tail _ hm)
  rw [numsB_cons,List.length_append,List.length_cons];omega
theorem wrq_snoc {b j j1:Nat} {v v1:VV} {X as bs:List Nat} {h h1 h2:VH} (hb:b < h.next) (f1:∀ k,k < h.next→k≠b→(k≠j∨v = .nilS)→qza h1.l k=qza h.l k) (n1:h.next≤h1.next) (d1:j1=j∧v1=v∨h.next≤j1) (p2:WrQ b j1 v1 (X++as) bs h1 h2):WrQ b j v X (as++bs) h h2:=WrQ.trans hb f1 n1 d1 p2
attribute [local go_sem] cSeg cR cB cPt cCl t_p_api_At
theorem num_loop {Gl:qzj} (ns:List Nat) (hn:∀ n∈ns,n < 9223372036854775808) (hl:ns.length < 100000) (b jn:Nat) (hjb:jn≠b) (j:Nat) (v:VV) (X:List Nat) (h:VH) (hX:X.length+(numsB ns).length < 1000000000) (hb:b < h.next) (hjn:jn < h.next) (hjv:jn≠j∨v = .nilS) (hi:qza h.l jn=some (some (.cells (ns.map iC) false))) (K:AEx→VF→VH→Prop)
  (hK:∀ T h',WrQ b j v X (numsB ns) h h'→K (.exit 0) T h') :
  ∀ (d i:Nat) (T:VF) (h1:VH),d+i=ns.length→WrQ b j v X (numsB (ns.take i)) h h1→qza T 0=some (.ptr b 0)→qza T 6=some (.slice jn 0 ns.length 1 (.exact ns.length))→qza T 7=some (.int .i64 ns.length)→qza T 8=some (.int .i64 i) →
  wp Go.VL.Er.E Gl (.loop c_encode_writer_num_l0) T h1 K:=by
 intro d
 induction d with
 | zero =>
  intro i T h1 hd q t0 t6 t7 t8
  obtain rfl:i=ns.length:=by omega
  rw [List.take_length] at q
  refine qzi c_encode_writer_num_l0.eq_1 ?_
  have c:¬((ns.length:Int) < ns.length):=by omega
  simp only [simprocAttr,-Int.reduceNatCast',go_sem,t7,t8,c]
  exact hK _ _ q
 | succ d ih =>
  intro i T h1 hd q t0 t6 t7 t8
  refine qzi c_encode_writer_num_l0.eq_1 ?_
  have hlt:i < ns.length:=by omega
  have c:(i:Int) < ns.length:=by omega
  obtain ⟨e,he⟩:∃ e,ns[i]?=some e:=⟨ns[i],List.getElem?_eq_getElem hlt⟩
  have hne:=hn e (List.mem_of_getElem? he)
  have he':(ns.map iC)[i]?=some (.int .i64 (e:Int)):=by rw [List.getElem?_map,he];rfl
  have hw:IntKind.i64.wrap ((i:Int)+1)=((i+1:Nat):Int):=by rw [qzd (by omega) (by omega)];rfl
  have hu:IntKind.u64.wrap (e:Int)=(e:Int):=by rw [wrap_u64];omega
  obtain ⟨j1,v1,a1,a2,a3,a4,a5,a6⟩:=q
  have tk:ns.take (i+1)=ns.take i++[e]:=take_at he
  have nb:numsB (ns.take (i+1))=numsB (ns.take i)++putS e:=by rw [tk];simp [numsB]
  have nl:(numsB (ns.take i)).length+(putS e).length≤(numsB ns).length:=by
   rw [←List.length_append,←nb]
   have e2:numsB ns=numsB (ns.take (i+1))++numsB (ns.drop (i+1)):=by
    unfold numsB;rw [←List.flatMap_append,List.take_append_drop]
   rw [e2,List.length_append (as:=numsB (ns.take (i+1)))];omega
  have hi1:qza h1.l jn=some (some (.cells (ns.map iC) false)):=by rw [a4 jn hjn hjb hjv];exact hi
  have x1:b < h1.next:=by omega
  have x2:b < h1.next+1:=by omega
  have y1:¬h1.next=b:=by omega
  have zi:=natV_nat .i64 i
  simp only [simprocAttr,-Int.reduceNatCast',go_sem,t0,t6,t7,t8,c,hlt,he',hi1,hu,Nat.mul_one]
  refine call_own (putNil Gl e (by omega)) rfl (plainL_flat (fun _=>rfl) _) ?_
  simp only [simprocAttr,-Int.reduceNatCast',go_sem,t0,t6,t7,t8,c,hlt,he',hi1,hu,x1,x2,y1,a1]
  obtain ⟨w1,w2⟩:=flat_all cB_len (putS e)
  have pl:=putS_pos e
  have p10:=putS_10 (n:=e) (by omega)
  have fX:∀ k,k < h1.next→qza ((h1.next,some (VB.cells (qzg cB (putS e)) false))::h1.l) k=qza h1.l k:=fun k hk=>by simp only [qzb];rw [if_neg (by omega)]
  have acc2:AccE 0 ⟨(h1.next,some (VB.cells (qzg cB (putS e)) false))::h1.l,h1.next+1⟩ j1 cB (X++numsB (ns.take i)) 1 v1:=Go.VL.Wire.AccE.ext a2 (by show h1.next≤h1.next+1;omega) (fun _ q=>fX j1 q)
  refine wpW_accE (ls:=putS e) acc2 (by simp only [srcV,winV,get_def,qzb,Option.getD_some,Nat.zero_add,w1,w2,List.drop_zero,true_or,if_true]) (by intro e;rw [e] at pl;simp at pl) cB_len (by omega) (Nat.zero_le _) (by rw [List.length_append];omega) (by rw [List.length_append];omega) ?_
  intro h3 g1 g2 g3
  simp only at g1 g2
  have bi:qza h3.l b=some (some (.cells [v1] false)):=by
   rw [g2 b (by omega) a3,fX b x1];exact a1
  simp only [simprocAttr,-Int.reduceNatCast',go_sem,bi,t0,t8,hw]
  have q2:=wrq_app (h:=h1) (h0:=⟨(h1.next,some (VB.cells (qzg cB (putS e)) false))::h1.l,h1.next+1⟩) x1 a3 (by show h1.next≤h1.next+1;omega) fX g1 g2 g3
  refine ih (i+1) _ _ (by omega) (by rw [nb];exact wrq_snoc hb a4 a5 a6 q2) ?_ ?_ ?_ ?_
  ·simp only [simprocAttr,-Int.reduceNatCast',go_sem,t0]
  ·simp only [simprocAttr,-Int.reduceNatCast',go_sem,t6]
  ·simp only [simprocAttr,-Int.reduceNatCast',go_sem,t7]
  ·simp only [simprocAttr,-Int.reduceNatCast',go_sem]
theorem WrQ.refl {b j:Nat} {v:VV} {X:List Nat} {h:VH} (hi:qza h.l b=some (some (.cells [v] false))) (ha:AccE 0 h j cB X 1 v) (hbj:b≠j∨v = .nilS):WrQ b j v X [] h h :=
 ⟨j,v,hi,by rw [List.append_nil];exact ha,hbj,fun _ _ _ _=>rfl,Nat.le_refl _,.inl ⟨rfl,rfl⟩⟩
theorem num_run {Gl:qzj} (ns:List Nat) (hn:∀ n∈ns,n < 9223372036854775808) (hl:ns.length < 100000) (b jn:Nat) (hjb:jn≠b) (j:Nat) (v:VV) (X:List Nat) (h:VH) (hX:X.length+(numsB ns).length < 1000000000) (hb:b < h.next) (hjn:jn < h.next) (hjv:jn≠j∨v = .nilS) (hi:qza h.l jn=some (some (.cells (ns.map iC) false)))
  (hw:qza h.l b=some (some (.cells [v] false))) (ha:AccE 0 h j cB X 1 v) (hbj:b≠j∨v = .nilS) :
  CallsV Go.VL.Er.E Gl f_encode_writer_num [.ptr b 0,.slice jn 0 ns.length 1 (.exact ns.length)] h (fun _ h'=>WrQ b j v X (numsB ns) h h'):=by
 refine qze E_encode_writer_num ?_
 unfold c_encode_writer_num r_encode_writer_num
 simp only [qzl]
 simp only [simprocAttr,-Int.reduceNatCast',go_sem]
 refine num_loop ns hn hl b jn hjb j v X h hX hb hjn hjv hi _ ?_ ns.length 0 _ _ (by omega) (WrQ.refl hw ha hbj) ?_ ?_ ?_ ?_
 ·intro T h' q
  simp only [simprocAttr,-Int.reduceNatCast',go_sem]
  exact q
 all_goals first | (simp only [simprocAttr,-Int.reduceNatCast',go_sem];done) | (simp only [simprocAttr,-Int.reduceNatCast',go_sem];rfl)
end
end Go.VL.En
