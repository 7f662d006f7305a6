import Derived.Test.YtbamfhdgikeneaaDoorVlK
import Derived.Test.YtbamfhdgikeneaaDoorMkE
import Derived.Test.YtbamfhdgikeneaaDoorIcE
import Derived.Test.YtbamfhdgikeneaaDoorDcK
import Derived.Test.YtbamfhdgikeneaaDoorEnD
import Derived.Test.YtbamfhdgikeneaaDoorShA
import Derived.Test.YtbamfhdgikeneaaDoorCpA
set_option linter.unusedSimpArgs false
set_option linter.unusedVariables false
namespace Go.VL.Mk
open Go.FR Go.IR Go.VL Go.VL.Color Go.VL.Wind Go.VL.Ic
noncomputable section
set_option maxRecDepth 100000
set_option maxHeartbeats 1000000
def runS (l:List Int) (far:Int):Nat→Nat→List Cl→List Cmd × List Cl × Nat
 | 0,a,cs=>([],cs,a)
 | n+1,a,cs=>if a < l.length then (cmdOf l far a cs::(runS l far n (cmdEnd l a) (colsOf l a cs)).1,(runS l far n (cmdEnd l a) (colsOf l a cs)).2) else ([],cs,a)
attribute [local go_sem] cCl cSeq bSeq cPt cSeg cPath cIcon
theorem cmds_loop (Gl:qzj) (l:List Int) (far:Int) (i r0 b0 base:Nat) (hl:l.length < 4611686018427387904) (hf:0 < far) (hb:far < 1000000) (hi0:i≠b0) (hi1:i < base) (hb0:b0 < base) (hr0:r0 < base) (hri:r0≠i) (hrb:r0≠b0) (W H S:VV) (zr:Option (Option VB)) (R:List Cmd × List Cl × Nat) (K:AEx→VF→VH→Prop)
  (hK:∀ T h v vc j j2 L,L.map Prod.fst=R.1→qza T 2=some (.ptr r0 0)→qza T 3=some (.ptr b0 0)→qza h.l i=some (some (bSeq l R.2.2))→qza h.l b0=some (some (.cells [W,H,S,v,vc] false))→qzm base h j cCl R.2.1 4 v→qzm base h j2 fO L 11 vc→Lies base h j j2 v vc L→base≤h.next→qza h.l r0=zr→K (.exit 0) T h) :
  ∀ (n a:Nat) (cs:List Cl) (L:List (Cmd × Nat)) (T:VF) (h:VH) (v vc:VV) (j j2:Nat),R=(L.map Prod.fst++(runS l far n a cs).1,(runS l far n a cs).2)→a+150*n+200 < 1000000→cs.length+2*n < 90000→L.length+n < 90000→n < 1000 →
   qza T 0=some (.ptr i 0)→qza T 2=some (.ptr r0 0)→qza T 3=some (.ptr b0 0)→qza T 4=some (.int .i64 far)→qza T 5=some (.int .i64 ((n:Int) - 1)) →
   qza h.l i=some (some (bSeq l a))→qza h.l b0=some (some (.cells [W,H,S,v,vc] false))→qzm base h j cCl cs 4 v→qzm base h j2 fO L 11 vc→Lies base h j j2 v vc L→(j≠j2∨v = .nilS∨vc = .nilS)→base≤h.next→qza h.l r0=zr →
  wp Go.VL.Er.E Gl (.loop c_glyphicmake_Icon_l1) T h K:=by
 intro n
 induction n with
 | zero =>
  intro a cs L T h v vc j j2 hR k1 k2 k3 k4 t0 t2 t3 t4 t5 s1 s2 q1 q2 q3 qj hn hz
  refine qzi c_glyphicmake_Icon_l1.eq_1 ?_
  have c1:¬((0:Nat):Int) - 1 ≥ 0:=by omega
  simp only [simprocAttr,-Int.reduceNatCast',go_sem,t0,t2,t3,t4,t5,c1]
  simp only [runS,List.append_nil] at hR
  refine hK _ h v vc j j2 L (by rw [hR]) ?_ ?_ (by rw [hR];exact s1) s2 (by rw [hR];exact q1) q2 q3 hn hz
  ·simp only [simprocAttr,-Int.reduceNatCast',go_sem,t2]
  ·simp only [simprocAttr,-Int.reduceNatCast',go_sem,t3]
 | succ n ih =>
  intro a cs L T h v vc j j2 hR k1 k2 k3 k4 t0 t2 t3 t4 t5 s1 s2 q1 q2 q3 qj hn hz
  have e:((n+1:Nat):Int) - 1=(n:Int):=by omega
  rw [e] at t5
  by_cases c:a < l.length
  ·have hc:=cmdEnd_le l a
   have hcl:=colsOf_len l a cs
   rw [runS,if_pos c] at hR
   refine cmd_step Gl l far i r0 b0 base hl hf hb hi0 hi1 hb0 hr0 hri hrb W H S .nilS a cs L n T h v vc j j2 K (by omega) (by omega) (by omega) c t0 t2 t3 t4 t5 (by omega) s1 s2 q1 q2 q3 qj hn ?_
   intro T' h' v' vc' j' j2' jp u0 u2 u3 u4 u5 p1 p2 p3 p4 p5 p6 p7 p8
   refine ih (cmdEnd l a) (colsOf l a cs) (L++[(cmdOf l far a cs,jp)]) T' h' v' vc' j' j2' ?_ (by omega) (by omega) (by simp;omega) (by omega) u0 u2 u3 u4 u5 p1 p2 p3 p4 p5 p6 p7 (p8.trans hz)
   rw [hR,List.map_append,List.append_assoc];rfl
  ·refine qzi c_glyphicmake_Icon_l1.eq_1 ?_
   have c1:(n:Int) ≥ 0:=by omega
   have dal:decide (a < l.length)=false:=decide_eq_false c
   rw [runS,if_neg c] at hR
   simp only [List.append_nil] at hR
   simp only [simprocAttr,-Int.reduceNatCast',go_sem,t0,t2,t3,t4,t5,c1]
   refine qzp (more_ok Gl l a i) s1 rfl rfl ?_
   simp only [simprocAttr,-Int.reduceNatCast',go_sem,t0,t2,t3,t4,t5,c1,dal]
   have f:∀ k,qza ((i,some (bSeq l a))::h.l) k=qza h.l k:=fun k=>by
    simp only [qzb]
    by_cases e:i=k
    ·rw [if_pos e,←e];exact s1.symm
    ·rw [if_neg e]
   refine hK _ _ v vc j j2 L (by rw [hR]) ?_ ?_ (by rw [hR];exact (f i).trans s1) ((f b0).trans s2) (by rw [hR];exact q1.ext (Nat.le_refl _) (fun _ _=>f j)) (q2.ext (Nat.le_refl _) (fun _ _=>f j2)) (fun p hp=>by rw [f];exact q3 p hp) hn ((f r0).trans hz)
   ·simp only [simprocAttr,-Int.reduceNatCast',go_sem,t2]
   ·simp only [simprocAttr,-Int.reduceNatCast',go_sem,t3]
def wS (l:List Int) (a:Nat):Int:=1+nextS l a 24
def hS (l:List Int) (a:Nat):Int:=1+nextS l (a+1) 24
def scS (l:List Int) (a:Nat):Int:=nextS l (a+2) 7
def farS' (l:List Int) (a:Nat):Int:=max (wS l a) (hS l a)*2 ^ (scS l a).toNat
def cmdsN (l:List Int) (a:Nat):Nat:=(nextS l (a+3) 4).toNat+1
def iconRun (l:List Int) (a:Nat):List Cmd × List Cl × Nat:=runS l (farS' l a) (cmdsN l a) (a+4) []
def iconS (l:List Int) (a:Nat):Icon:=⟨wS l a,hS l a,scS l a,(iconRun l a).2.1,(iconRun l a).1⟩
def iconEnd (l:List Int) (a:Nat):Nat:=(iconRun l a).2.2
end
end Go.VL.Mk
namespace Go.VL.Mk
open Go.FR Go.IR Go.VL Go.VL.Color Go.VL.Wind Go.VL.Ic Go.VL.Pal
noncomputable section
def NearP (p:Pt) (m:Int):Prop:=(-m≤p.x∧p.x≤m)∧-m≤p.y∧p.y≤m
end
end Go.VL.Mk
namespace Go.VL.Mk
open Go.FR Go.IR Go.VL Go.VL.Color Go.VL.Wind Go.VL.Ic Go.VL.Pal
noncomputable section
end
end Go.VL.Mk
namespace Go.VL.Sm
open Go.FR Go.IR Go.VL Go.VL.Color Go.VL.Wind Go.VL.Ic
noncomputable section
set_option maxRecDepth 100000
set_option maxHeartbeats 1000000
theorem pt_ok (Gl:qzj) (p q:Pt):qzn Go.VL.Pal.E Gl f_glyphicref_SamePoint [.agg (cPt p),.agg (cPt q)] (.bool (decide (p=q))):=by
 have h:=Mk.samePt_ok Gl p q
 have e:decide (p.x=q.x∧p.y=q.y)=decide (p=q):=by
  cases p;cases q;simp
 rw [←e];exact h
attribute [local go_sem] cSeg cPath cPaint cCmd cIcon cPt cCl
theorem seg_ok (Gl:qzj) (s t:Seg):qzn Go.VL.Pal.E Gl f_glyphicref_SameSeg [.agg (cSeg s),.agg (cSeg t)] (.bool (decide (s=t))):=by
 refine qzk (qze E_glyphicref_SameSeg ?_)
 unfold c_glyphicref_SameSeg r_glyphicref_SameSeg
 simp only [qzl]
 have n0:qzt (VV.int .i64 0)=some 0:=rfl
 have n1:qzt (VV.int .i64 1)=some 1:=rfl
 have n2:qzt (VV.int .i64 2)=some 2:=rfl
 obtain ⟨k,p,q,r⟩:=s
 obtain ⟨k',p',q',r'⟩:=t
 by_cases e0:k=k'
 case neg =>
  have d0:(k == k')=false:=by simp [e0]
  have d:decide (Seg.mk k p q r=Seg.mk k' p' q' r')=false:=by simp [e0]
  rw [d]
  simp only [simprocAttr,-Int.reduceNatCast',go_sem,d0,n0,n1,n2]<;>first | rfl | exact ⟨rfl,rfl⟩ | exact qzc rfl
 subst e0
 simp only [simprocAttr,-Int.reduceNatCast',go_sem,n0,n1,n2]
 refine qzf (pt_ok Gl p p') rfl rfl ?_
 by_cases e1:p=p'
 case neg =>
  have d0:decide (p=p')=false:=by simp [e1]
  have d:decide (Seg.mk k p q r=Seg.mk k p' q' r')=false:=by simp [e1]
  rw [d,d0]
  simp only [simprocAttr,-Int.reduceNatCast',go_sem,n0,n1,n2]<;>first | rfl | exact ⟨rfl,rfl⟩ | exact qzc rfl
 subst e1
 have d1:decide (p=p)=true:=by simp
 rw [d1]
 simp only [simprocAttr,-Int.reduceNatCast',go_sem,n0,n1,n2]
 refine qzf (pt_ok Gl q q') rfl rfl ?_
 by_cases e2:q=q'
 case neg =>
  have d0:decide (q=q')=false:=by simp [e2]
  have d:decide (Seg.mk k p q r=Seg.mk k p q' r')=false:=by simp [e2]
  rw [d,d0]
  simp only [simprocAttr,-Int.reduceNatCast',go_sem,n0,n1,n2]<;>first | rfl | exact ⟨rfl,rfl⟩ | exact qzc rfl
 subst e2
 have d2:decide (q=q)=true:=by simp
 rw [d2]
 simp only [simprocAttr,-Int.reduceNatCast',go_sem,n0,n1,n2]
 refine qzf (pt_ok Gl r r') rfl rfl ?_
 have d:decide (Seg.mk k p q r=Seg.mk k p q r')=decide (r=r'):=by simp
 rw [d]
 simp only [simprocAttr,-Int.reduceNatCast',go_sem,n0,n1,n2]<;>first | rfl | exact ⟨rfl,rfl⟩ | exact qzc rfl
def SizP (p:Path):Prop:=p.segs.length < 1000000
def SizC (c:Cmd):Prop:=c.paths.length < 1000000∧∀ p∈c.paths,SizP p
theorem segs_loop (Gl:qzj) (a b:List Seg) (hl:a.length < 1000000) (hab:a.length=b.length) (K:AEx→VF→VH→Prop)
  (hK0:∀ T h,a=b→K (.exit 0) T h) (hK1:∀ T h,a≠b→qza T 4=some (.bool false)→K .ret T h) :
  ∀ (d i:Nat) (T:VF) (h:VH),d+i=a.length→a.take i=b.take i→qza T 0=some (.fsl (qzg cSeg a) a.length 7)→qza T 1=some (.fsl (qzg cSeg b) b.length 7)→qza T 5=some (.int .i64 i) →
   wp Go.VL.Pal.E Gl (.loop c_glyphicref_SameSegs_l0) T h K:=by
 intro d
 induction d with
 | zero =>
  intro i T h hd hr t0 t1 t5
  obtain rfl:i=a.length:=by omega
  refine qzi c_glyphicref_SameSegs_l0.eq_1 ?_
  simp only [simprocAttr,-Int.reduceNatCast',go_sem,t0,t1,t5,Int.lt_irrefl]
  refine hK0 _ _ ?_
  rw [List.take_length,hab,List.take_length] at hr
  exact hr
 | succ d ih =>
  intro i T h hd hr t0 t1 t5
  refine qzi c_glyphicref_SameSegs_l0.eq_1 ?_
  have hlt:i < a.length:=by omega
  have hlt':i < b.length:=by omega
  have c1:(i:Int) < a.length:=by omega
  obtain ⟨x,hx⟩:∃ x,a[i]?=some x:=⟨a[i],List.getElem?_eq_getElem hlt⟩
  obtain ⟨y,hy⟩:∃ y,b[i]?=some y:=⟨b[i],List.getElem?_eq_getElem hlt'⟩
  have p1:=qzr cSeg_len hx
  have p2:=qzs cSeg_len hx
  have p3:=qzr cSeg_len hy
  have p4:=qzs cSeg_len hy
  have w:IntKind.i64.wrap ((i:Int)+1)=((i+1:Nat):Int):=by rw [qzd (by omega) (by omega)];rfl
  simp only [simprocAttr,-Int.reduceNatCast',go_sem,t0,t1,t5,c1,hlt,hlt',p1,p2,p3,p4]
  refine qzf (seg_ok Gl x y) rfl rfl ?_
  by_cases e:x=y
  ·subst e
   have de:decide (x=x)=true:=by simp
   simp only [simprocAttr,-Int.reduceNatCast',go_sem,t0,t1,t5,de,w]
   refine ih (i+1) _ _ (by omega) (by rw [take_at hx,take_at hy,hr]) ?_ ?_ ?_
   ·simp only [simprocAttr,-Int.reduceNatCast',go_sem,t0]
   ·simp only [simprocAttr,-Int.reduceNatCast',go_sem,t1]
   ·simp only [simprocAttr,-Int.reduceNatCast',go_sem]
  ·have de:decide (x=y)=false:=by simp [e]
   simp only [simprocAttr,-Int.reduceNatCast',go_sem,t0,t1,t5,de]
   refine hK1 _ _ (fun q=>e ?_) ?_
   ·rw [q,hy] at hx;exact (Option.some.inj hx).symm
   ·simp only [simprocAttr,-Int.reduceNatCast',go_sem]
theorem segs_ok (Gl:qzj) (a b:List Seg) (hl:a.length < 1000000):qzn Go.VL.Pal.E Gl f_glyphicref_SameSegs [.fsl (qzg cSeg a) a.length 7,.fsl (qzg cSeg b) b.length 7] (.bool (decide (a=b))):=by
 refine qzk (qze E_glyphicref_SameSegs ?_)
 unfold c_glyphicref_SameSegs r_glyphicref_SameSegs
 simp only [qzl]
 by_cases hab:a.length=b.length
 ·have c:((a.length:Int) == (b.length:Int))=true:=by simp [hab]
  have c':((a.length:Int) != (b.length:Int))=false:=by simp [hab]
  simp only [simprocAttr,-Int.reduceNatCast',go_sem,c,c']
  refine segs_loop Gl a b hl hab _ ?_ ?_ a.length 0 _ _ (by omega) rfl ?_ ?_ ?_
  ·intro T h e
   have de:decide (a=b)=true:=by simp [e]
   simp only [simprocAttr,-Int.reduceNatCast',go_sem,de]<;>first | rfl | exact ⟨rfl,rfl⟩ | exact qzc rfl
  ·intro T h e t4
   have de:decide (a=b)=false:=by simp [e]
   simp only [simprocAttr,-Int.reduceNatCast',go_sem,t4,de]
   exact qzc rfl
  ·simp only [simprocAttr,-Int.reduceNatCast',go_sem]
  ·simp only [simprocAttr,-Int.reduceNatCast',go_sem]
  ·simp only [simprocAttr,-Int.reduceNatCast',go_sem];rfl
 ·have c:((a.length:Int) == (b.length:Int))=false:=by simp;omega
  have c':((a.length:Int) != (b.length:Int))=true:=by simp;omega
  have de:decide (a=b)=false:=by simp;intro e;exact hab (by rw [e])
  simp only [simprocAttr,-Int.reduceNatCast',go_sem,c,c',de]<;>first | rfl | exact ⟨rfl,rfl⟩ | exact qzc rfl
theorem path_ok (Gl:qzj) (s t:Path) (hs:SizP s):qzn Go.VL.Pal.E Gl f_glyphicref_SamePath [.agg (cPath s),.agg (cPath t)] (.bool (decide (s=t))):=by
 refine qzk (qze E_glyphicref_SamePath ?_)
 unfold c_glyphicref_SamePath r_glyphicref_SamePath
 simp only [qzl]
 obtain ⟨p,l,c⟩:=s
 obtain ⟨p',l',c'⟩:=t
 simp only [simprocAttr,-Int.reduceNatCast',go_sem]
 refine qzf (pt_ok Gl p p') rfl rfl ?_
 by_cases e1:p=p'
 case neg =>
  have d0:decide (p=p')=false:=by simp [e1]
  have d:decide (Path.mk p l c=Path.mk p' l' c')=false:=by simp [e1]
  rw [d,d0]
  simp only [simprocAttr,-Int.reduceNatCast',go_sem]<;>first | rfl | exact ⟨rfl,rfl⟩ | exact qzc rfl
 subst e1
 have d1:decide (p=p)=true:=by simp
 rw [d1]
 by_cases e2:c=c'
 case neg =>
  have d0:(c == c')=false:=by simp [e2]
  have d:decide (Path.mk p l c=Path.mk p l' c')=false:=by simp [e2]
  rw [d]
  simp only [simprocAttr,-Int.reduceNatCast',go_sem,d0]<;>first | rfl | exact ⟨rfl,rfl⟩ | exact qzc rfl
 subst e2
 simp only [simprocAttr,-Int.reduceNatCast',go_sem]
 refine qzf (segs_ok Gl l l' hs) rfl rfl ?_
 have d:decide (Path.mk p l c=Path.mk p l' c)=decide (l=l'):=by simp
 rw [d]
 simp only [simprocAttr,-Int.reduceNatCast',go_sem]<;>first | rfl | exact ⟨rfl,rfl⟩ | exact qzc rfl
theorem paths_loop (Gl:qzj) (a b:List Path) (hl:a.length < 1000000) (hz:∀ x∈a,SizP x) (hab:a.length=b.length) (K:AEx→VF→VH→Prop)
  (hK0:∀ T h,a=b→K (.exit 0) T h) (hK1:∀ T h,a≠b→qza T 4=some (.bool false)→K .ret T h) :
  ∀ (d i:Nat) (T:VF) (h:VH),d+i=a.length→a.take i=b.take i→qza T 0=some (.fsl (qzg cPath a) a.length 4)→qza T 1=some (.fsl (qzg cPath b) b.length 4)→qza T 5=some (.int .i64 i) →
   wp Go.VL.Pal.E Gl (.loop c_glyphicref_SamePaths_l0) T h K:=by
 intro d
 induction d with
 | zero =>
  intro i T h hd hr t0 t1 t5
  obtain rfl:i=a.length:=by omega
  refine qzi c_glyphicref_SamePaths_l0.eq_1 ?_
  simp only [simprocAttr,-Int.reduceNatCast',go_sem,t0,t1,t5,Int.lt_irrefl]
  refine hK0 _ _ ?_
  rw [List.take_length,hab,List.take_length] at hr
  exact hr
 | succ d ih =>
  intro i T h hd hr t0 t1 t5
  refine qzi c_glyphicref_SamePaths_l0.eq_1 ?_
  have hlt:i < a.length:=by omega
  have hlt':i < b.length:=by omega
  have c1:(i:Int) < a.length:=by omega
  obtain ⟨x,hx⟩:∃ x,a[i]?=some x:=⟨a[i],List.getElem?_eq_getElem hlt⟩
  obtain ⟨y,hy⟩:∃ y,b[i]?=some y:=⟨b[i],List.getElem?_eq_getElem hlt'⟩
  have p1:=qzr cPath_len hx
  have p2:=qzs cPath_len hx
  have p3:=qzr cPath_len hy
  have p4:=qzs cPath_len hy
  have w:IntKind.i64.wrap ((i:Int)+1)=((i+1:Nat):Int):=by rw [qzd (by omega) (by omega)];rfl
  simp only [simprocAttr,-Int.reduceNatCast',go_sem,t0,t1,t5,c1,hlt,hlt',p1,p2,p3,p4]
  refine qzf (path_ok Gl x y (hz x (List.mem_of_getElem? hx))) rfl rfl ?_
  by_cases e:x=y
  ·subst e
   have de:decide (x=x)=true:=by simp
   simp only [simprocAttr,-Int.reduceNatCast',go_sem,t0,t1,t5,de,w]
   refine ih (i+1) _ _ (by omega) (by rw [take_at hx,take_at hy,hr]) ?_ ?_ ?_
   ·simp only [simprocAttr,-Int.reduceNatCast',go_sem,t0]
   ·simp only [simprocAttr,-Int.reduceNatCast',go_sem,t1]
   ·simp only [simprocAttr,-Int.reduceNatCast',go_sem]
  ·have de:decide (x=y)=false:=by simp [e]
   simp only [simprocAttr,-Int.reduceNatCast',go_sem,t0,t1,t5,de]
   refine hK1 _ _ (fun q=>e ?_) ?_
   ·rw [q,hy] at hx;exact (Option.some.inj hx).symm
   ·simp only [simprocAttr,-Int.reduceNatCast',go_sem]
theorem paths_ok (Gl:qzj) (a b:List Path) (hl:a.length < 1000000) (hz:∀ x∈a,SizP x):qzn Go.VL.Pal.E Gl f_glyphicref_SamePaths [.fsl (qzg cPath a) a.length 4,.fsl (qzg cPath b) b.length 4] (.bool (decide (a=b))):=by
 refine qzk (qze E_glyphicref_SamePaths ?_)
 unfold c_glyphicref_SamePaths r_glyphicref_SamePaths
 simp only [qzl]
 by_cases hab:a.length=b.length
 ·have c:((a.length:Int) == (b.length:Int))=true:=by simp [hab]
  have c':((a.length:Int) != (b.length:Int))=false:=by simp [hab]
  simp only [simprocAttr,-Int.reduceNatCast',go_sem,c,c']
  refine paths_loop Gl a b hl hz hab _ ?_ ?_ a.length 0 _ _ (by omega) rfl ?_ ?_ ?_
  ·intro T h e
   have de:decide (a=b)=true:=by simp [e]
   simp only [simprocAttr,-Int.reduceNatCast',go_sem,de]<;>first | rfl | exact ⟨rfl,rfl⟩ | exact qzc rfl
  ·intro T h e t4
   have de:decide (a=b)=false:=by simp [e]
   simp only [simprocAttr,-Int.reduceNatCast',go_sem,t4,de]
   exact qzc rfl
  ·simp only [simprocAttr,-Int.reduceNatCast',go_sem]
  ·simp only [simprocAttr,-Int.reduceNatCast',go_sem]
  ·simp only [simprocAttr,-Int.reduceNatCast',go_sem];rfl
 ·have c:((a.length:Int) == (b.length:Int))=false:=by simp;omega
  have c':((a.length:Int) != (b.length:Int))=true:=by simp;omega
  have de:decide (a=b)=false:=by simp;intro e;exact hab (by rw [e])
  simp only [simprocAttr,-Int.reduceNatCast',go_sem,c,c',de]<;>first | rfl | exact ⟨rfl,rfl⟩ | exact qzc rfl
theorem paint_ok (Gl:qzj) (s t:Paint):qzn Go.VL.Pal.E Gl f_glyphicref_SamePaint [.agg (cPaint s),.agg (cPaint t)] (.bool (decide (s=t))):=by
 refine qzk (qze E_glyphicref_SamePaint ?_)
 unfold c_glyphicref_SamePaint r_glyphicref_SamePaint
 simp only [qzl]
 obtain ⟨k,a,b,p,q⟩:=s
 obtain ⟨k',a',b',p',q'⟩:=t
 by_cases e0:k=k'
 case neg =>
  have d0:(k == k')=false:=by simp [e0]
  have d:decide (Paint.mk k a b p q=Paint.mk k' a' b' p' q')=false:=by simp [e0]
  rw [d]
  simp only [simprocAttr,-Int.reduceNatCast',go_sem,d0]<;>first | rfl | exact ⟨rfl,rfl⟩ | exact qzc rfl
 subst e0
 by_cases e1:a=a'
 case neg =>
  have d0:(a == a')=false:=by simp [e1]
  have d:decide (Paint.mk k a b p q=Paint.mk k a' b' p' q')=false:=by simp [e1]
  rw [d]
  simp only [simprocAttr,-Int.reduceNatCast',go_sem,d0]<;>first | rfl | exact ⟨rfl,rfl⟩ | exact qzc rfl
 subst e1
 by_cases e2:b=b'
 case neg =>
  have d0:(b == b')=false:=by simp [e2]
  have d:decide (Paint.mk k a b p q=Paint.mk k a b' p' q')=false:=by simp [e2]
  rw [d]
  simp only [simprocAttr,-Int.reduceNatCast',go_sem,d0]<;>first | rfl | exact ⟨rfl,rfl⟩ | exact qzc rfl
 subst e2
 simp only [simprocAttr,-Int.reduceNatCast',go_sem]
 refine qzf (pt_ok Gl p p') rfl rfl ?_
 by_cases e1:p=p'
 case neg =>
  have d0:decide (p=p')=false:=by simp [e1]
  have d:decide (Paint.mk k a b p q=Paint.mk k a b p' q')=false:=by simp [e1]
  rw [d,d0]
  simp only [simprocAttr,-Int.reduceNatCast',go_sem]<;>first | rfl | exact ⟨rfl,rfl⟩ | exact qzc rfl
 subst e1
 have d1:decide (p=p)=true:=by simp
 rw [d1]
 simp only [simprocAttr,-Int.reduceNatCast',go_sem]
 refine qzf (pt_ok Gl q q') rfl rfl ?_
 have d:decide (Paint.mk k a b p q=Paint.mk k a b p q')=decide (q=q'):=by simp
 rw [d]
 simp only [simprocAttr,-Int.reduceNatCast',go_sem]<;>first | rfl | exact ⟨rfl,rfl⟩ | exact qzc rfl
theorem cmd_ok (Gl:qzj) (s t:Cmd) (hs:SizC s):qzn Go.VL.Pal.E Gl f_glyphicref_SameCmd [.agg (cCmd s),.agg (cCmd t)] (.bool (decide (s=t))):=by
 refine qzk (qze E_glyphicref_SameCmd ?_)
 unfold c_glyphicref_SameCmd r_glyphicref_SameCmd
 simp only [qzl]
 obtain ⟨k,a,b,p,l⟩:=s
 obtain ⟨k',a',b',p',l'⟩:=t
 by_cases e0:k=k'
 case neg =>
  have d0:(k == k')=false:=by simp [e0]
  have d:decide (Cmd.mk k a b p l=Cmd.mk k' a' b' p' l')=false:=by simp [e0]
  rw [d]
  simp only [simprocAttr,-Int.reduceNatCast',go_sem,d0]<;>first | rfl | exact ⟨rfl,rfl⟩ | exact qzc rfl
 subst e0
 by_cases e1:a=a'
 case neg =>
  have d0:(a == a')=false:=by simp [e1]
  have d:decide (Cmd.mk k a b p l=Cmd.mk k a' b' p' l')=false:=by simp [e1]
  rw [d]
  simp only [simprocAttr,-Int.reduceNatCast',go_sem,d0]<;>first | rfl | exact ⟨rfl,rfl⟩ | exact qzc rfl
 subst e1
 by_cases e2:b=b'
 case neg =>
  have d0:(b == b')=false:=by simp [e2]
  have d:decide (Cmd.mk k a b p l=Cmd.mk k a b' p' l')=false:=by simp [e2]
  rw [d]
  simp only [simprocAttr,-Int.reduceNatCast',go_sem,d0]<;>first | rfl | exact ⟨rfl,rfl⟩ | exact qzc rfl
 subst e2
 simp only [simprocAttr,-Int.reduceNatCast',go_sem]
 refine qzf (paint_ok Gl p p') rfl rfl ?_
 by_cases e1:p=p'
 case neg =>
  have d0:decide (p=p')=false:=by simp [e1]
  have d:decide (Cmd.mk k a b p l=Cmd.mk k a b p' l')=false:=by simp [e1]
  rw [d,d0]
  simp only [simprocAttr,-Int.reduceNatCast',go_sem]<;>first | rfl | exact ⟨rfl,rfl⟩ | exact qzc rfl
 subst e1
 have d1:decide (p=p)=true:=by simp
 rw [d1]
 simp only [simprocAttr,-Int.reduceNatCast',go_sem]
 refine qzf (paths_ok Gl l l' hs.1 hs.2) rfl rfl ?_
 have d:decide (Cmd.mk k a b p l=Cmd.mk k a b p l')=decide (l=l'):=by simp
 rw [d]
 simp only [simprocAttr,-Int.reduceNatCast',go_sem]<;>first | rfl | exact ⟨rfl,rfl⟩ | exact qzc rfl
theorem cmds_loop (Gl:qzj) (a b:List Cmd) (hl:a.length < 1000000) (hz:∀ x∈a,SizC x) (hab:a.length=b.length) (K:AEx→VF→VH→Prop)
  (hK0:∀ T h,a=b→K (.exit 0) T h) (hK1:∀ T h,a≠b→qza T 4=some (.bool false)→K .ret T h) :
  ∀ (d i:Nat) (T:VF) (h:VH),d+i=a.length→a.take i=b.take i→qza T 0=some (.fsl (qzg cCmd a) a.length 11)→qza T 1=some (.fsl (qzg cCmd b) b.length 11)→qza T 5=some (.int .i64 i) →
   wp Go.VL.Pal.E Gl (.loop c_glyphicref_SameCmds_l0) T h K:=by
 intro d
 induction d with
 | zero =>
  intro i T h hd hr t0 t1 t5
  obtain rfl:i=a.length:=by omega
  refine qzi c_glyphicref_SameCmds_l0.eq_1 ?_
  simp only [simprocAttr,-Int.reduceNatCast',go_sem,t0,t1,t5,Int.lt_irrefl]
  refine hK0 _ _ ?_
  rw [List.take_length,hab,List.take_length] at hr
  exact hr
 | succ d ih =>
  intro i T h hd hr t0 t1 t5
  refine qzi c_glyphicref_SameCmds_l0.eq_1 ?_
  have hlt:i < a.length:=by omega
  have hlt':i < b.length:=by omega
  have c1:(i:Int) < a.length:=by omega
  obtain ⟨x,hx⟩:∃ x,a[i]?=some x:=⟨a[i],List.getElem?_eq_getElem hlt⟩
  obtain ⟨y,hy⟩:∃ y,b[i]?=some y:=⟨b[i],List.getElem?_eq_getElem hlt'⟩
  have p1:=qzr cCmd_len hx
  have p2:=qzs cCmd_len hx
  have p3:=qzr cCmd_len hy
  have p4:=qzs cCmd_len hy
  have w:IntKind.i64.wrap ((i:Int)+1)=((i+1:Nat):Int):=by rw [qzd (by omega) (by omega)];rfl
  simp only [simprocAttr,-Int.reduceNatCast',go_sem,t0,t1,t5,c1,hlt,hlt',p1,p2,p3,p4]
  refine qzf (cmd_ok Gl x y (hz x (List.mem_of_getElem? hx))) rfl rfl ?_
  by_cases e:x=y
  ·subst e
   have de:decide (x=x)=true:=by simp
   simp only [simprocAttr,-Int.reduceNatCast',go_sem,t0,t1,t5,de,w]
   refine ih (i+1) _ _ (by omega) (by rw [take_at hx,take_at hy,hr]) ?_ ?_ ?_
   ·simp only [simprocAttr,-Int.reduceNatCast',go_sem,t0]
   ·simp only [simprocAttr,-Int.reduceNatCast',go_sem,t1]
   ·simp only [simprocAttr,-Int.reduceNatCast',go_sem]
  ·have de:decide (x=y)=false:=by simp [e]
   simp only [simprocAttr,-Int.reduceNatCast',go_sem,t0,t1,t5,de]
   refine hK1 _ _ (fun q=>e ?_) ?_
   ·rw [q,hy] at hx;exact (Option.some.inj hx).symm
   ·simp only [simprocAttr,-Int.reduceNatCast',go_sem]
end
end Go.VL.Sm
namespace Go.VL.En
open Go.FR Go.IR Go.VL Go.VL.Color Go.VL.Wind Go.VL.Ic Go.VL.Wire
noncomputable section
set_option maxRecDepth 100000
set_option maxHeartbeats 1000000
attribute [local go_sem] cSeg cR cB cPt cCl cPath cCmd cPaint cIcon iC t_p_api_At t_p_errors_errorString
end
end Go.VL.En
namespace Go.VL.En
open Go.FR Go.IR Go.VL Go.VL.Color Go.VL.Wind Go.VL.Ic Go.VL.Wire
noncomputable section
set_option maxRecDepth 100000
set_option maxHeartbeats 1000000
def Fr (b:Nat) (h1:VH) (j1:Nat) (v1:VV) (h2:VH) (j2:Nat) (v2:VV):Prop:=h1.next≤h2.next∧∀ k,k < h1.next→k≠b→(k≠j1∨v1 = .nilS)→qza h2.l k=qza h1.l k∧(k≠j2∨v2 = .nilS)
def StQ (N b j:Nat) (v:VV) (X:List Nat) (h:VH) (done:List Nat) (h1:VH) (j1:Nat) (v1:VV) (h2:VH):Prop:=∃ j2 v2,St N b j v X h done h2 j2 v2∧Fr b h1 j1 v1 h2 j2 v2
theorem St.wr {Gl:qzj} {N b j:Nat} {v:VV} {X:List Nat} {h:VH} {done:List Nat} {h1:VH} {j1:Nat} {v1:VV} (st:St N b j v X h done h1 j1 v1) (hb:b < N) {f m:Nat} {args:Nat→List VV} {bs:List Nat} (w:Wr f args bs m) (hX:X.length+(done.length+bs.length)+m < 1000000000) :
  CallsV Go.VL.Er.E Gl f (args b) h1 (fun _ h2=>StQ N b j v X h (done++bs) h1 j1 v1 h2):=by
 have hn:=st.n
 refine (w Gl h1 b j1 v1 (X++done) st.i st.a (by omega) st.bj (by rw [List.length_append];omega)).mono fun _ h2 q => ?_
 obtain ⟨j2,v2,st2,kp2,bk2⟩:=st.call hb h1.next q (st.d.symm)
 exact ⟨j2,v2,st2,kp2.1,fun k k1 k2 k3=>kp2.2 k k1 k2 (by omega) k3⟩
theorem St.num {Gl:qzj} {N b j:Nat} {v:VV} {X:List Nat} {h:VH} {done:List Nat} {h1:VH} {j1:Nat} {v1:VV} (st:St N b j v X h done h1 j1 v1) (hb:b < N) (n:Nat) (hn:n < 9223372036854775808) (hX:X.length+done.length+10 < 1000000000) :
  CallsV Go.VL.Er.E Gl f_encode_writer_num [.ptr b 0,.slice h1.next 0 1 1 (.exact 1)] ⟨(h1.next,some (.cells [.int .i64 (n:Int)] false))::h1.l,h1.next+1⟩ (fun _ h2=>StQ N b j v X h (done++putS n) h1 j1 v1 h2):=by
 have hN:=st.n
 have pn:=putS_10 (n:=n) (by omega)
 have nb:numsB [n]=putS n:=by simp [numsB]
 have fX:∀ k,k < h1.next→qza ((h1.next,some (VB.cells [.int .i64 (n:Int)] false))::h1.l) k=qza h1.l k:=fun k hk=>by simp only [qzb];rw [if_neg (by omega)]
 refine (num_run [n] (by simp;omega) (by simp) b h1.next (by omega) j1 v1 (X++done) ⟨(h1.next,some (.cells [.int .i64 (n:Int)] false))::h1.l,h1.next+1⟩ (by rw [List.length_append,nb];omega) (by show b < h1.next+1;omega) (by show h1.next < h1.next+1;omega) (AccE.ne st.a (.inr (Nat.le_refl _))) (by simp only [qzb,if_true];rfl) (by rw [fX b (by omega)];exact st.i) (Go.VL.Wire.AccE.ext st.a (by show h1.next≤h1.next+1;omega) (fun _ q=>fX j1 q)) st.bj).mono fun _ h2 q => ?_
 rw [nb] at q
 obtain ⟨j2,v2,st2,kp2,bk2⟩:=st.call hb h1.next (q.weak (by show h1.next≤h1.next+1;omega) fX) (st.d.symm)
 exact ⟨j2,v2,st2,kp2.1,fun k k1 k2 k3=>kp2.2 k k1 k2 (by omega) k3⟩
theorem St.done {N b j:Nat} {v:VV} {X:List Nat} {h:VH} {bs:List Nat} {h1:VH} {j1:Nat} {v1:VV} (st:St N b j v X h bs h1 j1 v1) (hN:h.next=N):WrQ b j v X bs h h1:=by
 subst hN
 exact ⟨j1,v1,st.i,st.a,st.bj,st.fr,st.n,st.d⟩
theorem St.start {b j:Nat} {v:VV} {X:List Nat} {h:VH} (hi:qza h.l b=some (some (.cells [v] false))) (ha:AccE 0 h j cB X 1 v) (hbj:b≠j∨v = .nilS) (hb:b < h.next) (cs:List VV):St h.next b j v X h [] ⟨(h.next,some (.cells cs false))::h.l,h.next+1⟩ j v:=by
 have st0:St h.next b j v X h [] h j v:=⟨hi,by rw [List.append_nil];exact ha,hbj,fun _ _ _ _=>rfl,.inl ⟨rfl,rfl⟩,Nat.le_refl _⟩
 exact (st0.move (h2:=⟨(h.next,some (.cells cs false))::h.l,h.next+1⟩) hb h.next (Nat.le_refl _) (AccE.ne ha (.inr (Nat.le_refl _))) (by show h.next≤h.next+1;omega) (fun k k1 _=>by simp only [qzb];rw [if_neg (by omega)])).1
attribute [local go_sem] cSeg cR cB cPt cCl cPath cCmd cPaint cIcon iC t_p_api_At t_p_errors_errorString
end
end Go.VL.En
namespace Go.VL.En
open Go.FR Go.IR Go.VL Go.VL.Color Go.VL.Wind Go.VL.Ic Go.VL.Wire
noncomputable section
set_option maxRecDepth 100000
set_option maxHeartbeats 1000000
attribute [local go_sem] cSeg cR cB cPt cCl cPath cCmd cPaint cIcon t_p_api_At t_p_errors_errorString
def kindOf (z:Int):Int:=(z.tmod 3+3).tmod 3+1
def kseg (z:Int):Seg:=⟨kindOf z,⟨0,0⟩,⟨0,0⟩,⟨0,0⟩⟩
end
end Go.VL.En
namespace Go.VL.Dc
open Go.FR Go.IR Go.VL Go.VL.Er Go.VL.Color Go.VL.Wind Go.VL.Ic Go.VL.Wire
noncomputable section
set_option maxRecDepth 100000
set_option maxHeartbeats 1000000
theorem end_head (bs:List Nat) (h:isN (headR bs).err=false):(endR bs).err=(headR bs).err:=(end_go bs).keep h
theorem decS_err (bs:List Nat) (h:isN (endR bs).err=false):decS bs=(⟨0,0,0,[],[]⟩,(endR bs).err):=by unfold decS;rw [if_neg (by rw [h];simp)]
theorem decS_nil:decS []=(⟨0,0,0,[],[]⟩,.placed 6 0):=by
 have h:(headR []).err = .placed 6 0:=rfl
 have e:=end_head [] (by rw [h];rfl)
 rw [decS_err [] (by rw [e,h];rfl),e,h]
attribute [local go_sem] cSeg cB cPt cCl cPath cCmd cPaint cIcon cFault t_p_api_At t_p_errors_errorString
theorem first7_ok {Gl:qzj} (hG:GlAll Gl):qzn Go.VL.Er.E Gl f_glyphiclaw7_first [] (.bool true):=by
 refine qzk (qze E_glyphiclaw7_first ?_)
 unfold c_glyphiclaw7_first r_glyphiclaw7_first
 simp only [qzl]
 have dk:=decode_ok hG (bs:=[]) (by simp) (fun x hx=>by cases hx)
 rw [decS_nil] at dk
 have ss:=see_same hG (.placed 6 0) (show (6:Nat) < 13 by omega) (placedF 107 0)
 rw [decide_eq_true (show (ErrV.placed 6 0).f=placedF 107 0 from rfl)] at ss
 simp only [simprocAttr,-Int.reduceNatCast',go_sem]
 refine call_refs_sub (a0:=[.nilS]) dk rfl ⟨_,_,rfl,.inr ⟨1,rfl⟩,rfl⟩ rfl ?_
 simp only [simprocAttr,-Int.reduceNatCast',go_sem]
 refine qzf (placed_ok Gl 107 0) rfl rfl ?_
 simp only [simprocAttr,-Int.reduceNatCast',go_sem]
 refine qzf ss rfl rfl ?_
 simp only [simprocAttr,-Int.reduceNatCast',go_sem]
 exact qzc rfl
theorem putS_256:∀ n:Nat,∀ x∈putS n,x < 256:=by
 intro n
 induction n using Nat.strongRecOn with
 | _ n ih =>
  intro x hx
  rw [putS] at hx
  split at hx
  ·simp at hx;omega
  ·rcases List.mem_cons.mp hx with rfl | hx
   ·omega
   ·exact ih _ (by omega) x hx
end
end Go.VL.Dc
namespace Go.VL.Dc
open Go.FR Go.IR Go.VL Go.VL.Er Go.VL.Color Go.VL.Wind Go.VL.Ic Go.VL.Wire
noncomputable section
def limHead:List Nat:=[71,76,89,49,1,1,0,1,9,9,9,9,1,0,0,1,2,0,0]
def limErr (n k:Nat):ErrV:=if n=0 then .placed 4 19 else if 400 < n∨4000 < 1+k*n then .placed 5 19 else .placed 6 (19+(putS (4*n+k)).length:Nat)
theorem up_end {bs:List Nat} {R:Rd} (h:Up bs R []):(numS bs R).2.err = .placed 6 bs.length:=by
 obtain ⟨e,p,hp,hl,hd⟩:=h
 have lp:p=bs.length:=by have:=congrArg List.length hd;rw [List.length_drop] at this;simp at this;omega
 unfold numS
 rw [e,if_pos (show isN ErrV.none=true from rfl)]
 unfold getS
 rw [if_neg (by omega),hp,Int.toNat_natCast,hd,getL,lp]
theorem pts_end {bs:List Nat} {R:Rd} (h:Up bs R []) (n:Nat) (a:Pt):(ptsLp bs (n+1) R a).2.err = .placed 6 bs.length:=by
 have e:=up_end h
 have e1:(partS bs R a.x).2.err = .placed 6 bs.length:=by
  unfold partS;split
  ·unfold failS;rw [if_neg (by rw [e];simp [isN])];exact e
  ·exact e
 have e2:(pointS bs R a).2.err = .placed 6 bs.length:=by
  have:=(part_go bs (partS bs R a.x).2 a.y).keep (by rw [e1];rfl)
  exact this.trans e1
 exact ((pts_go bs n (pointS bs R a).2 (pointS bs R a).1).keep (by rw [e2];rfl)).trans e2
theorem run_lim {bs:List Nat} {R:Rd} {n k:Nat} {a:Pt} (h:Up bs R (putS (4*n+k))) (hp:R.pos=19) (hb:bs.length=19+(putS (4*n+k)).length) (hk:1≤k∧k≤3) (hn:n < 1000) (h1:R.pts=1):(runS bs R [] a).2.2.err=limErr n k:=by
 have h':Up bs R (putS (4*n+k)++[]):=by rw [List.append_nil];exact h
 obtain ⟨e1,f1⟩:=num_up h' (by omega)
 have k4:(4*n+k) % 4=k:=by omega
 have n4:(4*n+k) / 4=n:=by omega
 have fe:∀ q,(failS (numS bs R).2 R.pos q).err = .placed q 19:=fun q=>by unfold failS;rw [if_pos f1.isN,hp]
 have ek:(k:Int)*(n:Int)=((k*n:Nat):Int):=by simp
 have ek':(n:Int)*(k:Int)=((k*n:Nat):Int):=by rw [Int.mul_comm];exact ek
 unfold limErr
 by_cases c0:n=0
 ·have eR:runR bs R []=failS (numS bs R).2 R.pos 4:=by unfold runR;rw [e1,k4,n4,if_neg (by rw [f1.isN];simp),if_pos (.inr c0)]
  unfold runS
  rw [eR,if_pos (by rw [fe];rfl),if_pos c0]
  exact fe 4
 rw [if_neg c0]
 by_cases c1:400 < n∨4000 < 1+k*n
 ·have eR:runR bs R []=failS (numS bs R).2 R.pos 5:=by
   unfold runR
   rw [e1,k4,n4,if_neg (by rw [f1.isN];simp),if_neg (by omega),if_neg (by simp),if_pos (by rw [ek',h1];simp only [List.length_nil];omega)]
  unfold runS
  rw [eR,if_pos (by rw [fe];rfl),if_pos c1]
  exact fe 5
 rw [if_neg c1]
 have eR:runR bs R []=(numS bs R).2:=by
  unfold runR
  rw [e1,k4,n4,if_neg (by rw [f1.isN];simp),if_neg (by omega),if_neg (by simp),if_neg (by rw [ek',h1];simp only [List.length_nil];omega)]
 unfold runS
 rw [eR,if_neg (by rw [f1.isN];simp),e1,k4,n4]
 obtain ⟨m,rfl⟩:∃ m,n=m+1:=⟨n - 1,by omega⟩
 obtain ⟨q,rfl⟩:∃ q,k=q+1:=⟨k - 1,by omega⟩
 have pe:=pts_end (R:=⟨(numS bs R).2.pos,(numS bs R).2.err,(numS bs R).2.most,(numS bs R).2.used,R.pts+((m+1:Nat):Int)*((q+1:Nat):Int)⟩) (f1.set rfl rfl) q a
 rw [segLp,if_pos (by rw [pe];rfl)]
 show (ptsLp bs (q+1) _ a).2.err=_
 rw [pe,hb]
theorem lim_err (n k:Nat) (hk:1≤k∧k≤3) (hn:n < 1000):(decS (limHead++putS (4*n+k))).2=limErr n k∧isN (limErr n k)=false:=by
 have hne:isN (limErr n k)=false:=by unfold limErr;split<;>first | rfl | (split<;>rfl)
 refine ⟨?_,hne⟩
 have p0:putS 0=[0]:=putS_lt (by omega)
 have p1:putS 1=[1]:=putS_lt (by omega)
 have p2:putS 2=[2]:=putS_lt (by omega)
 obtain ⟨bs,hbs⟩:∃ bs,limHead++putS (4*n+k)=bs:=⟨_,rfl⟩
 rw [hbs]
 have p10:=putS_10 (n:=4*n+k) (by omega)
 have hb:bs.length=19+(putS (4*n+k)).length:=by rw [←hbs,List.length_append];rfl
 have hh:headR bs=rd0:=by unfold headR;rw [if_neg (by omega),if_neg (by omega),if_pos (by rw [←hbs];rfl)]
 have u0:Up bs (at4 (headR bs)) (putS 1++(putS 1++(putS 0++(putS 1++(En.colorsB [⟨9,9,9,9⟩]++(putS 1++(putS 0++(putS 0++(putS 1++(putS 2++(En.pointB z0++putS (4*n+k)))))))))))):=by
  rw [hh]
  refine ⟨rfl,4,rfl,by omega,?_⟩
  have z:En.pointB z0=putS 0++putS 0:=rfl
  rw [←hbs,z,p0,p1,p2];rfl
 obtain ⟨e1,f1⟩:=ranged_up u0 1 4096 (by omega) (by omega) (by omega)
 have m1:=ranged_most bs (at4 (headR bs)) 1 4096
 obtain ⟨e2,f2⟩:=ranged_up f1 1 4096 (by omega) (by omega) (by omega)
 have m2:=ranged_most bs (wS bs).2 1 4096
 obtain ⟨e3,f3⟩:=ranged_up f2 0 6 (by omega) (by omega) (by omega)
 have m3:=ranged_most bs (hS bs).2 0 6
 have w1:(wS bs).1=1:=e1
 have w2:(hS bs).1=1:=e2
 have w3:(sS bs).1=0:=e3
 have su:(sS bs).2.used=0:=by show (rangedS bs (hS bs).2 0 6).2.used=0;rw [m3.2.1];show (rangedS bs (wS bs).2 1 4096).2.used=0;rw [m2.2.1];exact m1.2.1.trans (head_zero bs).1
 have sp:(sS bs).2.pts=0:=by show (rangedS bs (hS bs).2 0 6).2.pts=0;rw [m3.2.2];show (rangedS bs (wS bs).2 1 4096).2.pts=0;rw [m2.2.2];exact m1.2.2.trans (head_zero bs).2
 have hg:greatS (icS bs)=4:=by unfold icS;rw [w1,w2,w3];decide
 have u3:Up bs (mostR bs) _:=Up.set (R:=(sS bs).2) f3 rfl rfl
 obtain ⟨e4,f4⟩:=many_up u3 0 256 (by omega) (by omega) (by omega)
 obtain ⟨e5,f5⟩:=cols_up [⟨9,9,9,9⟩] (L:=[]) f4 rfl
 have m4:=many_most bs (mostR bs) 0 256
 have m5:=cols_keep bs 1 (manyR bs (mostR bs) 0 256) []
 have hC:colsF bs=colLp bs 1 (manyR bs (mostR bs) 0 256) []:=by unfold colsF colsS;rw [e4]
 simp only [List.length_cons,List.length_nil,Nat.zero_add,List.nil_append] at e5 f5
 rw [←hC] at e5 f5 m5
 obtain ⟨e6,f6⟩:=many_up f5 0 200 (by omega) (by omega) (by omega)
 have m6:=many_most bs (colsF bs).1 0 200
 have mo:(manyR bs (colsF bs).1 0 200).most=4:=by rw [m6.1,m5.1,m4.1];exact hg
 have us:(manyR bs (colsF bs).1 0 200).used=0:=by rw [m6.2.1,m5.2.1,m4.2.1];exact su
 have ps:(manyR bs (colsF bs).1 0 200).pts=0:=by rw [m6.2.2,m5.2.2,m4.2.2];exact sp
 obtain ⟨R,hR⟩:∃ R,manyR bs (colsF bs).1 0 200=R:=⟨_,rfl⟩
 rw [hR] at f6 mo us ps
 have hM:cmdsF bs=cmdsLp bs 1 1 R []:=by unfold cmdsF;rw [e6,e5,hR];rfl
 obtain ⟨e7,f7⟩:=num_up f6 (by omega)
 have m7:=num_most bs R
 have eR1:cmdR1 bs R=(numS bs R).2:=by unfold cmdR1;rw [e7,if_neg (by omega)]
 have eW:cmdW bs R=(0,(numS bs R).2):=by unfold cmdW;rw [e7,eR1,if_neg (by omega)]
 obtain ⟨e8,f8,g8⟩:=color_up (nc:=1) f7 (by omega) (by omega) (by rw [m7.2.1,us];omega)
 have m8:=color_most bs (numS bs R).2 1
 have eP:(cmdP bs R 1).2=(colorS bs (numS bs R).2 1).2:=by unfold cmdP;rw [e7,eW];rfl
 obtain ⟨e9,f9⟩:=many_up f8 1 200 (by omega) (by omega) (by omega)
 have m9:=many_most bs (colorS bs (numS bs R).2 1).2 1 200
 obtain ⟨Q,hQ⟩:∃ Q,manyR bs (colorS bs (numS bs R).2 1).2 1 200=Q:=⟨_,rfl⟩
 rw [hQ] at f9 m9
 have qm:Q.most=4:=by rw [m9.1,m8.1,m7.1,mo]
 have qp:Q.pts=0:=by rw [m9.2.2,m8.2,m7.2.2,ps]
 have eL:cmdL bs R 1=pathsLp bs true 1 Q []:=by
  unfold cmdL cmdN
  rw [e7,eP,e9,hQ];rfl
 obtain ⟨e10,f10⟩:=num_up f9 (by omega)
 have m10:=num_most bs Q
 have eP1:pathR1 bs Q true=(numS bs Q).2:=by
  unfold pathR1
  rw [if_neg (by rw [f10.isN];simp),e10,if_neg (by omega),if_neg (by omega)]
 obtain ⟨e11,f11⟩:=point0_up (p:=z0) f10 (by rw [m10.1,qm];omega) (by rw [m10.1,qm];omega) (by rw [m10.1,qm];unfold NearR z0;simp)
 have m11:=point_most bs (numS bs Q).2 z0
 have hpos:(incS (pointS bs (numS bs Q).2 z0).2).pos=19:=by
  obtain ⟨_,p,hp,hl,hd⟩:=f11
  have:=congrArg List.length hd
  rw [List.length_drop] at this
  show (pointS bs (numS bs Q).2 z0).2.pos=19
  rw [hp];omega
 have fin:=run_lim (R:=incS (pointS bs (numS bs Q).2 z0).2) (a:=z0) (f11.set rfl rfl) hpos hb hk hn (by show (pointS bs (numS bs Q).2 z0).2.pts+1=1;rw [m11.2.2,m10.2.2,qp];rfl)
 have eF:(pathF bs Q true).2.2.err=limErr n k:=by
  unfold pathF
  rw [eP1,e10,e11]
  show (runsLp bs 1 _ _ _).2.2.err=_
  rw [runsLp,if_neg (by rw [show (incS (pointS bs (numS bs Q).2 z0).2).err=_ from f11.1];simp [isN]),runsLp]
  exact fin
 have eL2:(cmdL bs R 1).2.1.err=limErr n k:=by
  rw [eL,pathsLp,if_neg (by rw [f9.1];simp [isN]),pathsLp]
  exact eF
 have eC:(cmdsF bs).1.err=limErr n k:=by
  rw [hM,cmdsLp,if_neg (by rw [f6.1];simp [isN]),cmdsLp]
  exact eL2
 have eE:(endR bs).err=limErr n k:=((last_go bs.length (colsF bs).2.length (cmdsF bs).1).keep (by rw [eC];exact hne)).trans eC
 unfold decS
 rw [if_neg (by rw [eE,hne];simp)]
 exact eE
end
end Go.VL.Dc
namespace Go.VL.Pu
open Go.FR Go.IR Go.VL Go.VL.Color Go.VL.Wind Go.VL.Ic Go.VL.Wire
noncomputable section
set_option maxRecDepth 100000
set_option maxHeartbeats 1000000
attribute [local go_sem] cB
theorem put1_loop (Gl:qzj) (base:Nat) (K:AEx→VF→VH→Prop) (n0:Nat) (acc0:List Nat)
  (hK:∀ (T:VF) (h:VH) (j:Nat) (v:VV) (m:Nat) (acc:List Nat),acc++[m]=acc0++putS n0→m < 128→qza T 5=some v→qza T 1=some (.int .u64 (m:Int))→AccE base h j cB acc 1 v→base≤h.next→K (.exit 0) T h) :
  ∀ (d n:Nat) (acc:List Nat) (T:VF) (h:VH) (j:Nat) (v:VV),n < 2 ^ d→acc.length+d < 1000000→acc++putS n=acc0++putS n0→qza T 5=some v→qza T 1=some (.int .u64 (n:Int))→AccE base h j cB acc 1 v→base≤h.next →
   wp Go.VL.Pal.E Gl (.loop c_glyphicref1_Put_l0) T h K:=by
 intro d
 induction d with
 | zero =>
  intro n acc T h j v hn hl ha t0 t1 hacc hb
  refine qzi c_glyphicref1_Put_l0.eq_1 ?_
  obtain rfl:n=0:=by omega
  have c:¬(((0:Nat):Int) ≥ 128):=by omega
  simp only [simprocAttr,-Int.reduceNatCast',go_sem,t0,t1,c]
  refine hK _ _ j v 0 acc (by rw [←ha,putS_lt (by omega)]) (by omega) ?_ ?_ hacc hb
  ·simp only [simprocAttr,-Int.reduceNatCast',go_sem,t0]
  ·simp only [simprocAttr,-Int.reduceNatCast',go_sem,t1]
 | succ d ih =>
  intro n acc T h j v hn hl ha t0 t1 hacc hb
  refine qzi c_glyphicref1_Put_l0.eq_1 ?_
  by_cases c:n < 128
  ·have c':¬((n:Int) ≥ 128):=by omega
   simp only [simprocAttr,-Int.reduceNatCast',go_sem,t0,t1,c']
   refine hK _ _ j v n acc (by rw [←ha,putS_lt c]) c ?_ ?_ hacc hb
   ·simp only [simprocAttr,-Int.reduceNatCast',go_sem,t0]
   ·simp only [simprocAttr,-Int.reduceNatCast',go_sem,t1]
  ·have c':((n:Int) ≥ 128):=by omega
   have w1:=wrap_u8 n
   have w2:=or128 (n % 256) (Nat.mod_lt _ (by omega))
   rw [show n % 256 % 128=n % 128 by omega] at w2
   have w3:Int.fdiv (n:Int) (2 ^ min (7:Int).toNat IntKind.u64.bits)=((n / 128:Nat):Int):=by
    show Int.fdiv (n:Int) 128=_
    rw [Int.fdiv_eq_ediv_of_nonneg _ (by omega)];omega
   have z7:¬((7:Int) < 0):=by omega
   simp only [simprocAttr,-Int.reduceNatCast',go_sem] at w2 w3
   simp only [simprocAttr,-Int.reduceNatCast',go_sem,t0,t1,c',w1,w2,w3,shiftBin,z7]
   have acc2:=AccE.ext (h':=h.push (.cells [VV.int IntKind.u8 ((n % 128+128:Nat):Int)] false)) hacc (Nat.le_succ _) (fun g1 g2=>by simp only [VH.push,qzb];rw [if_neg (by omega)])
   refine wpW_accE (ls:=[n % 128+128]) acc2 (by simp only [simprocAttr,-Int.reduceNatCast',go_sem]<;>first | rfl | exact ⟨rfl,rfl⟩ | exact qzc rfl) (by simp) cB_len (by omega) (by show base≤h.next+1;omega) (by simp;omega) (by simp;omega) ?_
   intro h' g1 g2 g3
   simp only [VH.push] at g1
   simp only [simprocAttr,-Int.reduceNatCast',go_sem,t1,w3,z7,shiftBin]
   refine ih (n / 128) (acc++[n % 128+128]) _ h' _ _ (by rw [Nat.pow_succ] at hn;omega) (by simp;omega) (by rw [←ha,putS_ge c];simp) ?_ ?_ (.inl g3) (by omega)
   ·simp only [simprocAttr,-Int.reduceNatCast',go_sem]
   ·simp only [simprocAttr,-Int.reduceNatCast',go_sem]
theorem put1_ok (Gl:qzj) (b:List Nat) (hb:b.length < 500000) (n:Nat) (hn:n < 18446744073709551616):PureOwn Go.VL.Pal.E Gl f_glyphicref1_Put [.fsl (qzg cB b) b.length 1,.int .u64 (n:Int)] (qzg cB (b++putS n)) 0 (b++putS n).length 1 (.toEnd 1):=by
 refine own_sound (qze E_glyphicref1_Put ?_)
 unfold c_glyphicref1_Put r_glyphicref1_Put
 simp only [qzl]
 simp only [simprocAttr,-Int.reduceNatCast',go_sem]
 refine call_own (Cp.bytes_ok Gl b (by omega)) rfl (plainL_flat (fun _=>rfl) _) ?_
 have acc0:AccE 0 (h0.push (.cells (qzg cB b) false)) 0 cB b 1 (.slice 0 0 b.length 1 (Cp.copyCap b 1)):=by
  unfold Cp.copyCap
  by_cases e:b=[]
  ·subst e
   rw [if_pos rfl]
   exact .inr ⟨1,.inl rfl,rfl,rfl,Nat.le_refl _,Nat.lt_succ_self _⟩
  ·rw [if_neg e]
   exact .inl (.inr ⟨rfl,rfl,Nat.le_refl _,Nat.lt_succ_self _⟩)
 simp only [simprocAttr,-Int.reduceNatCast',go_sem]
 refine put1_loop Gl 0 _ n b ?_ 64 n b _ _ 0 _ (by omega) (by omega) rfl ?_ ?_ acc0 (Nat.zero_le _)
 rotate_left
 ·simp only [simprocAttr,-Int.reduceNatCast',go_sem]
 ·simp only [simprocAttr,-Int.reduceNatCast',go_sem]
 intro T h j v m ac ham hm t0 t1 hacc hb'
 have w1:IntKind.u8.wrap (m:Int)=(m:Int):=by rw [wrap_u8,Nat.mod_eq_of_lt (by omega)]
 simp only [simprocAttr,-Int.reduceNatCast',go_sem,t0,t1,w1]
 have acc2:=AccE.ext (h':=h.push (.cells [VV.int IntKind.u8 (m:Int)] false)) hacc (Nat.le_succ _) (fun g1 g2=>by simp only [VH.push,qzb];rw [if_neg (by omega)])
 have hlen:ac.length < 600000:=by
  have:=congrArg List.length ham
  have:=putS_10 hn
  simp at *;omega
 refine wpW_accE (ls:=[m]) acc2 (by simp only [simprocAttr,-Int.reduceNatCast',go_sem]<;>first | rfl | exact ⟨rfl,rfl⟩ | exact qzc rfl) (by simp) cB_len (by omega) (Nat.zero_le _) (by simp;omega) (by simp;omega) ?_
 intro h' g1 g2 g3
 obtain ⟨e1,e2,_,_⟩:=g3.some (by simp)
 rw [ham] at e2
 have hl2:ac.length+[m].length=(b++putS n).length:=by rw [←ham,List.length_append]
 simp only [simprocAttr,-Int.reduceNatCast',go_sem]
 exact ⟨h.next+1,_,by rw [←ham,List.length_append];rfl,by rw [e2];rfl,closedL_flat (fun _=>rfl) _,subL_refl _⟩
end
end Go.VL.Pu
namespace Go.VL.Dc
open Go.FR Go.IR Go.VL Go.VL.Er Go.VL.Color Go.VL.Wind Go.VL.Ic Go.VL.Wire
noncomputable section
set_option maxRecDepth 100000
set_option maxHeartbeats 1000000
attribute [local go_sem] cB cPt cCl cIcon cFault t_p_api_At t_p_errors_errorString
theorem decodeLimits (Gl:qzj) (hG:GlAll Gl) (x:Int) (x1:IntKind.i64.min≤x) (x2:x≤IntKind.i64.max) (y:Int) (y1:IntKind.i64.min≤y) (y2:y≤IntKind.i64.max) :
  CallsV Go.VL.Er.E Gl f_glyphiclaw7_DecodeLimits [.int .i64 x,.int .i64 y] h0 (fun v _=>v = .bool true):=by
 refine qze E_glyphiclaw7_DecodeLimits ?_
 unfold c_glyphiclaw7_DecodeLimits r_glyphiclaw7_DecodeLimits
 simp only [qzl]
 obtain ⟨k,hk⟩:∃ k:Nat,(y.tmod 3+3).tmod 3+1=k:=⟨((y.tmod 3+3).tmod 3+1).toNat,by have:=Int.tmod_nonneg 3 (show 0≤y.tmod 3+3 by have:=Int.lt_tmod_of_pos y (show (0:Int) < 3 by omega);omega);omega⟩
 obtain ⟨n,hn⟩:∃ n:Nat,(x.tmod 1000+1000).tmod 1000=n:=⟨((x.tmod 1000+1000).tmod 1000).toNat,by have:=Int.tmod_nonneg 1000 (show 0≤x.tmod 1000+1000 by have:=Int.lt_tmod_of_pos x (show (0:Int) < 1000 by omega);omega);omega⟩
 have u1:-3 < y.tmod 3∧y.tmod 3 < 3:=⟨Int.lt_tmod_of_pos y (by omega),Int.tmod_lt_of_pos y (by omega)⟩
 have u2:-1000 < x.tmod 1000∧x.tmod 1000 < 1000:=⟨Int.lt_tmod_of_pos x (by omega),Int.tmod_lt_of_pos x (by omega)⟩
 have u3:0≤(y.tmod 3+3).tmod 3∧(y.tmod 3+3).tmod 3 < 3:=⟨Int.tmod_nonneg 3 (by omega),Int.tmod_lt_of_pos _ (by omega)⟩
 have u4:0≤(x.tmod 1000+1000).tmod 1000∧(x.tmod 1000+1000).tmod 1000 < 1000:=⟨Int.tmod_nonneg 1000 (by omega),Int.tmod_lt_of_pos _ (by omega)⟩
 have w1:IntKind.i64.wrap (y.tmod 3)=y.tmod 3:=qzd (by omega) (by omega)
 have w2:IntKind.i64.wrap (y.tmod 3+3)=y.tmod 3+3:=qzd (by omega) (by omega)
 have w3:IntKind.i64.wrap ((y.tmod 3+3).tmod 3)=(y.tmod 3+3).tmod 3:=qzd (by omega) (by omega)
 have w4:IntKind.i64.wrap ((y.tmod 3+3).tmod 3+1)=k:=by rw [hk];exact qzd (by omega) (by omega)
 have w5:IntKind.i64.wrap (x.tmod 1000)=x.tmod 1000:=qzd (by omega) (by omega)
 have w6:IntKind.i64.wrap (x.tmod 1000+1000)=x.tmod 1000+1000:=qzd (by omega) (by omega)
 have w7:IntKind.i64.wrap ((x.tmod 1000+1000).tmod 1000)=n:=by rw [hn];exact qzd (by omega) (by omega)
 have w8:IntKind.i64.wrap (4*(n:Int))=4*(n:Int):=qzd (by omega) (by omega)
 have w9:IntKind.i64.wrap (4*(n:Int)+(k:Int))=((4*n+k:Nat):Int):=by rw [qzd (by omega) (by omega)];omega
 have w10:IntKind.u64.wrap ((4*n+k:Nat):Int)=((4*n+k:Nat):Int):=by rw [wrap_u64];omega
 obtain ⟨le,ln⟩:=lim_err n k (by omega) (by omega)
 have xm:∀ z∈limHead++putS (4*n+k),z < 256:=fun z hz=>by
  rcases List.mem_append.mp hz with h | h
  ·have:∀ z∈limHead,z < 256:=by decide
   exact this z h
  ·exact putS_256 _ z h
 have p10:=putS_10 (n:=4*n+k) (by omega)
 have pl:(limHead++putS (4*n+k)).length=19+(putS (4*n+k)).length:=by rw [List.length_append];rfl
 have d1:=decode_ok hG (bs:=limHead++putS (4*n+k)) (by omega) xm
 rw [le] at d1
 have pu:=Pu.put1_ok Gl limHead (show 19 < 500000 by omega) (4*n+k) (by omega)
 simp only [simprocAttr,-Int.reduceNatCast',go_sem]
 refine qzf (first7_ok hG) rfl rfl ?_
 have m0:y.tmod 3=y.tmod 3:=rfl
 simp only [simprocAttr,-Int.reduceNatCast',go_sem,w1,w2,w3,w4,w5,w6,hn,w8,w9,w10]
 refine call_own pu (by first | rfl | (simp only [shutL,shut,get_def,qzb];rfl)) (plainL_flat (fun _=>rfl) _) ?_
 rw [pl]
 simp only [simprocAttr,-Int.reduceNatCast',go_sem]
 have fe:qzn Go.VL.Er.E Gl f_glyphicsee_Fault [(limErr n k).v] (.agg (cFault (limErr n k).f)):=fault_ok hG _ (by unfold limErr;split;(show 4 < 13;omega);split;(show 5 < 13;omega);(show 6 < 13;omega))
 rw [pl] at d1
 obtain ⟨hA,eA⟩:∃ hA:VH,VH.mk [(1,some (VB.cells (qzg cB (limHead++putS (4*n+k))) false)),(0,some (VB.cells [VV.int IntKind.u8 71,VV.int IntKind.u8 76,VV.int IntKind.u8 89,VV.int IntKind.u8 49,
               VV.int IntKind.u8 1,VV.int IntKind.u8 1,VV.int IntKind.u8 0,VV.int IntKind.u8 1,
               VV.int IntKind.u8 9,VV.int IntKind.u8 9,VV.int IntKind.u8 9,VV.int IntKind.u8 9,
               VV.int IntKind.u8 1,VV.int IntKind.u8 0,VV.int IntKind.u8 0,VV.int IntKind.u8 1,
               VV.int IntKind.u8 2,VV.int IntKind.u8 0,VV.int IntKind.u8 0] false))] 2=hA:=⟨_,rfl⟩
 rw [eA]
 have acc:qzm 0 hA 1 cB (limHead++putS (4*n+k)) 1 (.slice 1 0 (19+(putS (4*n+k)).length) 1 (.toEnd 1)):=by
  rw [←eA];exact .inr ⟨by rw [pl],rfl,Nat.zero_le _,by show 1 < 2;omega⟩
 have e1:qza hA.l 1=some (some (.cells (qzg cB (limHead++putS (4*n+k))) false)):=by rw [←eA];rfl
 have n1:hA.next=2:=by rw [←eA]
 obtain ⟨a0,sh,sb⟩:=Pal.acc_shut acc cB_len (fun _=>rfl)
 rw [pl] at sb
 refine call_refs_sub (a0:=[a0]) d1 (by simp only [shutL,sh]) ⟨_,_,rfl,sb,subL_refl _⟩ rfl ?_
 generalize (decS (limHead++putS (4*n+k))).1=B at *
 unfold limErr at fe ⊢
 have em:(k:Int)*(n:Int)=((k*n:Nat):Int):=by simp
 have kn:k*n≤3000:=by have:=Nat.mul_le_mul (show k≤3 by omega) (show n≤1000 by omega);omega
 have w11:IntKind.i64.wrap ((k:Int)*(n:Int))=((k*n:Nat):Int):=by rw [em,qzd (by omega) (by omega)]
 have w12:IntKind.i64.wrap (1+((k*n:Nat):Int))=1+((k*n:Nat):Int):=qzd (by omega) (by omega)
 have z5:((105:Int) == 105)=true:=rfl
 have z6:((106:Int) == 106)=true:=rfl
 have z7:((107:Int) == 107)=true:=rfl
 have z19:((19:Nat):Int)=19:=rfl
 have zz:((19:Int) == 19)=true:=rfl
 by_cases c0:n=0
 ·rw [if_pos c0] at fe ⊢
  subst c0
  have q0:(((0:Nat):Int) == 0)=true:=rfl
  have q1:¬((0:Nat):Int) > 400:=by omega
  have q2:¬1+((k*0:Nat):Int) > 4000:=by omega
  simp only [simprocAttr,-Int.reduceNatCast',go_sem,e1,n1]
  refine qzf fe rfl rfl ?_
  simp only [ErrV.f,placedF]
  simp only [simprocAttr,-Int.reduceNatCast',go_sem,e1,n1,w11,w12,q0,q1,q2,z5,z19,zz]<;>first | rfl | exact ⟨rfl,rfl⟩ | exact qzc rfl
 rw [if_neg c0] at fe ⊢
 have q0:((n:Int) == 0)=false:=beq_false_of_ne (by omega)
 by_cases c1:400 < n∨4000 < 1+k*n
 ·rw [if_pos c1] at fe ⊢
  have q2:((n:Int) > 400)∨(1+((k*n:Nat):Int) > 4000):=by omega
  simp only [simprocAttr,-Int.reduceNatCast',go_sem,e1,n1]
  refine qzf fe rfl rfl ?_
  simp only [ErrV.f,placedF]
  by_cases q3:(n:Int) > 400
  ·simp only [simprocAttr,-Int.reduceNatCast',go_sem,e1,n1,w11,w12,q0,q3,z6,z19,zz]<;>first | rfl | exact ⟨rfl,rfl⟩ | exact qzc rfl
  ·have q4:=q2.resolve_left q3
   simp only [simprocAttr,-Int.reduceNatCast',go_sem,e1,n1,w11,w12,q0,q3,q4,z6,z19,zz]<;>first | rfl | exact ⟨rfl,rfl⟩ | exact qzc rfl
 ·rw [if_neg c1] at fe ⊢
  have q3:¬((n:Int) > 400):=by omega
  have q4:¬(1+((k*n:Nat):Int) > 4000):=by omega
  have ef:∀ p,(ErrV.placed 6 p).f=⟨107,true,p⟩:=fun _=>rfl
  rw [ef] at fe
  simp only [simprocAttr,-Int.reduceNatCast',go_sem,e1,n1]
  refine qzf fe rfl rfl ?_
  simp only [simprocAttr,-Int.reduceNatCast',go_sem,e1,n1,w11,w12,q0,q3,q4,z7]<;>first | rfl | exact ⟨rfl,rfl⟩ | exact qzc rfl
end
end Go.VL.Dc
