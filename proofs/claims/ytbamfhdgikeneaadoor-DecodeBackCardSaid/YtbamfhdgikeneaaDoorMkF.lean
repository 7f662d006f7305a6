import Derived.Test.YtbamfhdgikeneaaDoorVlJ
import Derived.Test.YtbamfhdgikeneaaDoorMkB
import Derived.Test.YtbamfhdgikeneaaDoorIcE
import Derived.Test.YtbamfhdgikeneaaDoorPaB
set_option linter.unusedSimpArgs false
set_option linter.unusedVariables false
namespace Go.VL.Mk
open Go.FR Go.IR Go.VL Go.VL.Color Go.VL.Wind Go.VL.Ic
noncomputable section
set_option maxRecDepth 100000
set_option maxHeartbeats 1000000
def runS (l:List Int) (far:Int):Nat→Nat→List Cl→List Cmd × List Cl × Nat
 | 0,a,cs=>([],cs,a)
 | n+1,a,cs=>if a < l.length then (cmdOf l far a cs::(runS l far n (cmdEnd l a) (colsOf l a cs)).1,(runS l far n (cmdEnd l a) (colsOf l a cs)).2) else ([],cs,a)
attribute [local go_sem] cCl cSeq bSeq cPt cSeg cPath cIcon
theorem cmds_loop (Gl:qzj) (l:List Int) (far:Int) (i r0 b0 base:Nat) (hl:l.length < 4611686018427387904) (hf:0 < far) (hb:far < 1000000) (hi0:i≠b0) (hi1:i < base) (hb0:b0 < base) (hr0:r0 < base) (hri:r0≠i) (hrb:r0≠b0) (W H S:VV) (zr:Option (Option VB)) (R:List Cmd × List Cl × Nat) (K:AEx→VF→VH→Prop)
  (hK:∀ T h v vc j j2 L,L.map Prod.fst=R.1→qza T 2=some (.ptr r0 0)→qza T 3=some (.ptr b0 0)→qza h.l i=some (some (bSeq l R.2.2))→qza h.l b0=some (some (.cells [W,H,S,v,vc] false))→qzm base h j cCl R.2.1 4 v→qzm base h j2 fO L 11 vc→Lies base h j j2 v vc L→base≤h.next→qza h.l r0=zr→K (.exit 0) T h) :
  ∀ (n a:Nat) (cs:List Cl) (L:List (Cmd × Nat)) (T:VF) (h:VH) (v vc:VV) (j j2:Nat),R=(L.map Prod.fst++(runS l far n a cs).1,(runS l far n a cs).2)→a+150*n+200 < 1000000→cs.length+2*n < 90000→L.length+n < 90000→n < 1000 →
   qza T 0=some (.ptr i 0)→qza T 2=some (.ptr r0 0)→qza T 3=some (.ptr b0 0)→qza T 4=some (.int .i64 far)→qza T 5=some (.int .i64 ((n:Int) - 1)) →
   qza h.l i=some (some (bSeq l a))→qza h.l b0=some (some (.cells [W,H,S,v,vc] false))→qzm base h j cCl cs 4 v→qzm base h j2 fO L 11 vc→Lies base h j j2 v vc L→(j≠j2∨v = .nilS∨vc = .nilS)→base≤h.next→qza h.l r0=zr →
  wp Go.VL.Er.E Gl (.loop c_glyphicmake_Icon_l1) T h K:=by
 intro n
 induction n with
 | zero =>
  intro a cs L T h v vc j j2 hR k1 k2 k3 k4 t0 t2 t3 t4 t5 s1 s2 q1 q2 q3 qj hn hz
  refine qzi c_glyphicmake_Icon_l1.eq_1 ?_
  have c1:¬((0:Nat):Int) - 1 ≥ 0:=by omega
  simp only [simprocAttr,-Int.reduceNatCast',go_sem,t0,t2,t3,t4,t5,c1]
  simp only [runS,List.append_nil] at hR
  refine hK _ h v vc j j2 L (by rw [hR]) ?_ ?_ (by rw [hR];exact s1) s2 (by rw [hR];exact q1) q2 q3 hn hz
  ·simp only [simprocAttr,-Int.reduceNatCast',go_sem,t2]
  ·simp only [simprocAttr,-Int.reduceNatCast',go_sem,t3]
 | succ n ih =>
  intro a cs L T h v vc j j2 hR k1 k2 k3 k4 t0 t2 t3 t4 t5 s1 s2 q1 q2 q3 qj hn hz
  have e:((n+1:Nat):Int) - 1=(n:Int):=by omega
  rw [e] at t5
  by_cases c:a < l.length
  ·have hc:=cmdEnd_le l a
   have hcl:=colsOf_len l a cs
   rw [runS,if_pos c] at hR
   refine cmd_step Gl l far i r0 b0 base hl hf hb hi0 hi1 hb0 hr0 hri hrb W H S .nilS a cs L n T h v vc j j2 K (by omega) (by omega) (by omega) c t0 t2 t3 t4 t5 (by omega) s1 s2 q1 q2 q3 qj hn ?_
   intro T' h' v' vc' j' j2' jp u0 u2 u3 u4 u5 p1 p2 p3 p4 p5 p6 p7 p8
   refine ih (cmdEnd l a) (colsOf l a cs) (L++[(cmdOf l far a cs,jp)]) T' h' v' vc' j' j2' ?_ (by omega) (by omega) (by simp;omega) (by omega) u0 u2 u3 u4 u5 p1 p2 p3 p4 p5 p6 p7 (p8.trans hz)
   rw [hR,List.map_append,List.append_assoc];rfl
  ·refine qzi c_glyphicmake_Icon_l1.eq_1 ?_
   have c1:(n:Int) ≥ 0:=by omega
   have dal:decide (a < l.length)=false:=decide_eq_false c
   rw [runS,if_neg c] at hR
   simp only [List.append_nil] at hR
   simp only [simprocAttr,-Int.reduceNatCast',go_sem,t0,t2,t3,t4,t5,c1]
   refine qzp (more_ok Gl l a i) s1 rfl rfl ?_
   simp only [simprocAttr,-Int.reduceNatCast',go_sem,t0,t2,t3,t4,t5,c1,dal]
   have f:∀ k,qza ((i,some (bSeq l a))::h.l) k=qza h.l k:=fun k=>by
    simp only [qzb]
    by_cases e:i=k
    ·rw [if_pos e,←e];exact s1.symm
    ·rw [if_neg e]
   refine hK _ _ v vc j j2 L (by rw [hR]) ?_ ?_ (by rw [hR];exact (f i).trans s1) ((f b0).trans s2) (by rw [hR];exact q1.ext (Nat.le_refl _) (fun _ _=>f j)) (q2.ext (Nat.le_refl _) (fun _ _=>f j2)) (fun p hp=>by rw [f];exact q3 p hp) hn ((f r0).trans hz)
   ·simp only [simprocAttr,-Int.reduceNatCast',go_sem,t2]
   ·simp only [simprocAttr,-Int.reduceNatCast',go_sem,t3]
def wS (l:List Int) (a:Nat):Int:=1+nextS l a 24
def hS (l:List Int) (a:Nat):Int:=1+nextS l (a+1) 24
def scS (l:List Int) (a:Nat):Int:=nextS l (a+2) 7
def farS' (l:List Int) (a:Nat):Int:=max (wS l a) (hS l a)*2 ^ (scS l a).toNat
def cmdsN (l:List Int) (a:Nat):Nat:=(nextS l (a+3) 4).toNat+1
def iconRun (l:List Int) (a:Nat):List Cmd × List Cl × Nat:=runS l (farS' l a) (cmdsN l a) (a+4) []
def iconS (l:List Int) (a:Nat):Icon:=⟨wS l a,hS l a,scS l a,(iconRun l a).2.1,(iconRun l a).1⟩
def iconEnd (l:List Int) (a:Nat):Nat:=(iconRun l a).2.2
theorem icon_in (l:List Int) (a:Nat):(1≤wS l a∧wS l a≤24)∧(1≤hS l a∧hS l a≤24)∧(0≤scS l a∧scS l a≤6)∧(1≤farS' l a∧farS' l a≤24*64):=by
 have h1:=next_in l a 24 (by omega)
 have h2:=next_in l (a+1) 24 (by omega)
 have h3:=next_in l (a+2) 7 (by omega)
 have w:1≤wS l a∧wS l a≤24:=by unfold wS;omega
 have h:1≤hS l a∧hS l a≤24:=by unfold hS;omega
 have s:0≤scS l a∧scS l a≤6:=by unfold scS;omega
 refine ⟨w,h,s,?_⟩
 unfold farS'
 have:∀ s:Fin 7,(1:Int)≤2 ^ s.val∧(2:Int) ^ s.val≤64:=by decide
 have q:=this ⟨(scS l a).toNat,by omega⟩
 simp only at q
 generalize (2:Int) ^ (scS l a).toNat=z at q
 have e:1≤max (wS l a) (hS l a)∧max (wS l a) (hS l a)≤24:=by omega
 generalize max (wS l a) (hS l a)=m at e
 have p:=Int.mul_le_mul e.1 q.1 (by omega) (by omega)
 exact ⟨by omega,Int.mul_le_mul e.2 q.2 (by omega) (by omega)⟩
theorem icon_ok (Gl:qzj) (l:List Int) (a:Nat) (i:Nat) (hl:l.length < 4611686018427387904) (ha:a < 1000) :
  StShut Go.VL.Er.E Gl f_glyphicmake_Icon [.ptr i 0] [(i,bSeq l a)] (.agg (cIcon (iconS l a))) [(i,bSeq l (iconEnd l a))]:=by
 refine shut1_intro fun nx hn=>qzd E_glyphicmake_Icon ?_
 unfold c_glyphicmake_Icon r_glyphicmake_Icon
 simp only [qzl]
 have h1:=next_in l a 24 (by omega)
 have h2:=next_in l (a+1) 24 (by omega)
 have h3:=next_in l (a+2) 7 (by omega)
 have h4:=next_in l (a+3) 4 (by omega)
 obtain ⟨b1,b2,b3,b4⟩:=icon_in l a
 have e1:¬nx=i:=by omega
 have e2:¬i=nx:=by omega
 have e3:¬nx+1=nx:=by omega
 have e4:¬nx=nx+1:=by omega
 have e5:¬nx+1=i:=by omega
 have e6:¬i=nx+1:=by omega
 have w1:IntKind.i64.wrap (1+nextS l a 24)=wS l a:=qze (by omega) (by omega)
 have w2:IntKind.i64.wrap (1+nextS l (a+1) 24)=hS l a:=qze (by omega) (by omega)
 have w3:IntKind.u64.wrap (scS l a)=scS l a:=by
  have:∀ s:Fin 7,IntKind.u64.wrap ((s.val:Nat):Int)=((s.val:Nat):Int):=by decide
  have q:=this ⟨(scS l a).toNat,by omega⟩
  simp only at q
  rwa [Int.toNat_of_nonneg b3.1] at q
 have mm:(if hS l a > wS l a then hS l a else wS l a)=max (wS l a) (hS l a):=by split<;>omega
 have m64:min (scS l a).toNat IntKind.i64.bits=(scS l a).toNat:=by show min _ 64=_;omega
 simp only [simprocAttr,-Int.reduceNatCast',go_sem] at m64
 have nn:¬scS l a < 0:=by omega
 have w4:IntKind.i64.wrap (max (wS l a) (hS l a)*2 ^ (scS l a).toNat)=farS' l a:=qze (by unfold farS' at b4;omega) (by unfold farS' at b4;omega)
 simp only [simprocAttr,-Int.reduceNatCast',go_sem]
 refine qzp (next_ok Gl l a 24 i hl (by omega) (by omega) (by omega)) (by simp only [simprocAttr,-Int.reduceNatCast',go_sem,e1]) rfl rfl ?_
 simp only [simprocAttr,-Int.reduceNatCast',go_sem,w1]
 refine qzp (next_ok Gl l (a+1) 24 i hl (by omega) (by omega) (by omega)) (by simp only [simprocAttr,-Int.reduceNatCast',go_sem,e1]) rfl rfl ?_
 simp only [simprocAttr,-Int.reduceNatCast',go_sem,w2]
 refine qzp (next_ok Gl l (a+2) 7 i hl (by omega) (by omega) (by omega)) (by simp only [simprocAttr,-Int.reduceNatCast',go_sem,e1]) rfl rfl ?_
 simp only [simprocAttr,-Int.reduceNatCast',go_sem,e1,e2,e3,e4,e5,e6,show nextS l (a+2) 7=scS l a from rfl,w3,mm,m64,nn,w4]
 refine qzp (next_ok Gl l (a+3) 4 i hl (by omega) (by omega) (by omega)) (by simp only [simprocAttr,-Int.reduceNatCast',go_sem,e1,e2,e3,e4,e5,e6]) rfl rfl ?_
 have hk:nextS l (a+3) 4=(cmdsN l a:Int) - 1:=by unfold cmdsN;omega
 rw [hk]
 simp only [simprocAttr,-Int.reduceNatCast',go_sem,e1,e2,e3,e4,e5,e6]
 refine cmds_loop Gl l (farS' l a) i nx (nx+1) (nx+2) hl (by omega) (by omega) (by omega) (by omega) (by omega) (by omega) (by omega) (by omega) (.int .i64 (wS l a)) (.int .i64 (hS l a)) (.int .i64 (scS l a)) (some (some (.cells [.int .i64 0,.int .i64 0,.int .i64 0,.nilS,.nilS] false))) (iconRun l a) _ ?_ (cmdsN l a) (a+4) [] [] _ _ .nilS .nilS 0 0 (by unfold iconRun;simp) (by unfold cmdsN;omega) (by simp;unfold cmdsN;omega) (by simp;unfold cmdsN;omega) (by unfold cmdsN;omega) ?_ ?_ ?_ ?_ ?_ ?_ ?_ qzm.nil qzm.nil (fun p hp=>by cases hp) (.inr (.inl rfl)) ?_ ?_
 ·intro T h v vc j j2 L hL t2 t3 s1 s2 q1 q2 q3 hnn hz
  simp only [simprocAttr,-Int.reduceNatCast',go_sem,t2,t3,s2,hz,e1,e2,e3,e4,e5,e6]
  refine ⟨?_,?_⟩
  ·have ab:∀ jj,nx+2≤jj→∀ x,h.get jj=some x→above nx (VH.mk ((nx,some (VB.cells [.int .i64 (wS l a),.int .i64 (hS l a),.int .i64 (scS l a),v,vc] false))::h.l) h.next) jj=some x:=fun jj hj x hx=>by
    rw [qzt] at hx
    unfold above
    rw [if_pos (by omega),qzt]
    simp only [qzb]
    rw [if_neg (by omega)]
    exact hx
   refine qzq.agg (qzn.cons (qzq.closed rfl) (qzn.cons (qzq.closed rfl) (qzn.cons (qzq.closed rfl) (qzn.cons (qzq.acc (f':=cCl) (l:=(iconRun l a).2.1) q1 (fun hb x hx=>ab j hb x hx) Pal.cCl_len (fun _ _=>qzn.closed rfl)) (qzn.cons ?_ qzn.nil)))))
   have hx:=qzq.acc (g:=above nx (VH.mk ((nx,some (VB.cells [.int .i64 (wS l a),.int .i64 (hS l a),.int .i64 (scS l a),v,vc] false))::h.l) h.next)) (f':=fun p=>cCmd p.1) (l:=L) q2 (fun hb x hx=>ab j2 hb x hx) fO_len (fun p hp => ?_)
   ·have e:qzf (fun p:Cmd × Nat=>cCmd p.1) L=qzf cCmd (iconRun l a).1:=by rw [←hL];unfold qzf;rw [List.map_map];rfl
    have e':L.length=(iconRun l a).1.length:=by rw [←hL,List.length_map]
    rw [e,e'] at hx
    exact hx
   ·obtain ⟨z1,z2,z3,z4,z5⟩:=q3 p hp
    refine qzn.append (a:=[_,_,_,_,_,_,_,_,_,_]) (c:=[_]) (qzn.closed rfl) (qzn.cons (qzq.whole (ab p.2 z2 _ (by rw [qzt,z1];rfl)) (by rw [flatL_length cPath_len]) rfl (qzn.closed (closedL_flat (fun _=>rfl) _))) qzn.nil)
  ·exact s1
 all_goals first | (simp only [simprocAttr,-Int.reduceNatCast',go_sem,e1,e2,e3,e4,e5,e6];done) | (simp only [simprocAttr,-Int.reduceNatCast',go_sem,e1,e2,e3,e4,e5,e6];rfl) | exact Nat.le_refl _
end
end Go.VL.Mk
namespace Go.VL.Mk
open Go.FR Go.IR Go.VL Go.VL.Color Go.VL.Wind Go.VL.Ic Go.VL.Pal
noncomputable section
theorem idx_lt (c:Cl):∀ (l:List Cl) (k:Nat),idxS l c k < ((k+l.length:Nat):Int)
 | [],k=>by simp [idxS];omega
 | x::l,k=>by
  rw [idxS]
  split
  ·simp;omega
  ·have:=idx_lt c l (k+1)
   simp only [List.length_cons];omega
theorem add_in (cs:List Cl) (c:Cl):0≤addP cs c∧addP cs c < (addI cs c).length:=by
 have h:=idx_lt c cs 0
 unfold addP addI
 split
 ·omega
 ·simp;omega
theorem add_use (cs:List Cl) (c:Cl) (l:List Int):nextUse cs.length (addP cs c::l)=nextUse (addI cs c).length l:=by
 have h:=idx_lt c cs 0
 unfold addP addI
 rw [nextUse]
 split
 ·rw [if_neg (by omega),if_neg (by omega)]
 ·rw [if_neg (by omega),if_pos rfl];simp
theorem add_nodup (cs:List Cl) (c:Cl) (h:cs.Nodup):(addI cs c).Nodup:=by
 unfold addI
 split
 ·exact h
 ·rename_i hn
  have hc:c ∉ cs:=fun hm=>hn ((idx_mem c cs 0).mpr hm)
  rw [List.nodup_append]
  exact ⟨h,by simp,fun a ha b hb e=>by rw [List.mem_singleton] at hb;rw [e,hb] at ha;exact hc ha⟩
theorem once_nodup:∀ (l s:List Cl),(s++l).Nodup→onceS s l=true
 | [],s,_=>rfl
 | c::l,s,h=>by
  rw [onceS]
  have hc:c ∉ s:=fun hm=>by
   rw [List.nodup_append] at h
   exact h.2.2 c hm c (.head _) rfl
  rw [if_neg hc]
  exact once_nodup l (s++[c]) (by rw [List.append_assoc];exact h)
def NearP (p:Pt) (m:Int):Prop:=(-m≤p.x∧p.x≤m)∧-m≤p.y∧p.y≤m
theorem far_no {p:Pt} {m:Int} (h:NearP p m):farS p m=false:=by
 obtain ⟨⟨h1,h2⟩,h3,h4⟩:=h
 unfold farS inS
 rw [if_pos h1,if_pos h3];simp [h2,h4]
theorem in_yes {n lo hi:Int} (h1:lo≤n) (h2:n≤hi):inS n lo hi=true:=by
 unfold inS;rw [if_pos h1];simp [h2]
theorem near_le {p:Pt} {m k:Int} (h:NearP p m) (hk:m≤k):NearP p k:=by
 unfold NearP at h ⊢;omega
theorem near_z {m:Int} (h:0≤m):NearP zP m:=by unfold NearP zP;simp only;omega
theorem near_point (l:List Int) (a:Nat) (far:Int) (h:0≤far):NearP (pointS l a far) far:=by
 have:=point_in l a far h
 unfold NearP;omega
theorem near_inside (l:List Int) (a:Nat) (far:Int) (h:0≤far):NearP (insideS l a far) far:=by
 unfold insideS
 split
 ·exact near_point l _ far h
 ·have h1:=next_in l (a+1) (far+1) (by omega)
  have h2:=next_in l (a+2) (far+1) (by omega)
  unfold NearP;simp only;omega
theorem seg_right (l:List Int) (a:Nat) (far m:Int) (h:0≤far) (hm:far≤m):segS (segOf l a far) m=none:=by
 obtain ⟨k1,k2,k3⟩:=segN_in l a
 have i1:=far_no (near_le (near_inside l (a+1) far h) hm)
 have i2:=far_no (near_le (near_inside l (a+1+3) far h) hm)
 have i3:=far_no (near_le (near_inside l (a+1+6) far h) hm)
 have hz:zeroP zP:=⟨rfl,rfl⟩
 unfold segOf segP
 have hc:segN l a=1∨segN l a=2∨segN l a=3:=by omega
 have r1:inS 1 1 3=true:=by decide
 have r2:inS 2 1 3=true:=by decide
 have r3:inS 3 1 3=true:=by decide
 rcases hc with e | e | e
 all_goals
  rw [e]
  simp [segS,segPts,r1,r2,r3,i1,i2,i3,hz]
theorem segs_right (l:List Int) (far m:Int) (h:0≤far) (hm:far≤m):∀ n a,∀ s∈segsS l far n a,segS s m=none
 | 0,a,s,hs=>by cases hs
 | n+1,a,s,hs=>by
  rw [segsS] at hs
  rcases List.mem_cons.mp hs with rfl | hs
  ·exact seg_right l a far m h hm
  ·exact segs_right l far m h hm n _ s hs
theorem path_right (l:List Int) (a:Nat) (far m:Int) (b f:Bool) (h:0≤far) (hm:far≤m) (hb:(f && b)=false):pathS (pathOf l a far b) f m=none:=by
 have hl:=segsS_len l far (pathN l a) (a+4)
 obtain ⟨k1,k2,k3⟩:=pathN_in l a
 unfold pathS pathOf
 simp only
 rw [if_neg (by simp [hb]),if_neg (by omega),if_neg (by omega),if_neg (by rw [far_no (near_le (near_inside l a far h) hm)];simp)]
 exact firstS_none.mpr (segs_right l far m h hm _ _)
theorem paths_right (l:List Int) (far m:Int) (kind:Nat) (h:0≤far) (hm:far≤m):∀ n a,∀ p∈pathsS l far kind n a,pathS p (decide ((kind:Int)=1)) m=none
 | 0,a,s,hs=>by cases hs
 | n+1,a,s,hs=>by
  rw [pathsS] at hs
  rcases List.mem_cons.mp hs with rfl | hs
  ·refine path_right l _ far m _ _ h hm ?_
   unfold shutB'
   by_cases e:kind=2
   ·simp [e]
   ·simp [e]
  ·exact paths_right l far m kind h hm n _ s hs
theorem path_pts (l:List Int) (a:Nat) (far:Int) (b:Bool):pathPts (pathOf l a far b)≤13:=by
 have hl:=segsS_len l far (pathN l a) (a+4)
 obtain ⟨k1,k2,k3⟩:=pathN_in l a
 have hk:∀ n a,∀ s∈segsS l far n a,s.kind≤3:=fun n=>by
  induction n with
  | zero=>intro a s hs;cases hs
  | succ n ih =>
   intro a s hs
   rw [segsS] at hs
   rcases List.mem_cons.mp hs with rfl | hs
   ·have:=segN_in l a
    show (segN l a:Int)≤3;omega
   ·exact ih _ s hs
 have:=sum_mem_le (f:=fun s:Seg=>s.kind) (hk (pathN l a) (a+4)) (by omega) 4 (by omega)
 unfold pathPts pathOf;simp only;omega
theorem paths_pts (l:List Int) (far:Int) (kind:Nat):∀ n a,∀ p∈pathsS l far kind n a,pathPts p≤13
 | 0,a,s,hs=>by cases hs
 | n+1,a,s,hs=>by
  rw [pathsS] at hs
  rcases List.mem_cons.mp hs with rfl | hs
  ·exact path_pts l _ far _
  ·exact paths_pts l far kind n _ s hs
theorem cmd_uses (l:List Int) (far:Int) (a:Nat) (cs:List Cl):nextUse cs.length (usesOf (cmdOf l far a cs))=some ((colsOf l a cs).length:Int):=by
 unfold usesOf cmdOf colsOf bS
 simp only
 by_cases h:pkS l a=0
 ·rw [if_pos h,if_pos h,add_use];rfl
 ·rw [if_neg h,if_neg h,if_neg h,add_use]
  show nextUse ((cols1 l a cs).length:Int) _=_
  rw [add_use];rfl
theorem cols_nodup (l:List Int) (a:Nat) (cs:List Cl) (h:cs.Nodup):(colsOf l a cs).Nodup:=by
 unfold colsOf cols1
 split
 ·exact add_nodup _ _ h
 ·exact add_nodup _ _ (add_nodup _ _ h)
theorem head_right (l:List Int) (far:Int) (a:Nat) (cs:List Cl) (m:Int) (h:1≤far) (hm:far≤m):headS (cmdOf l far a cs) m=none:=by
 have n1:=next_in l (a+1) 2 (by omega)
 have n2:=next_in l (a+1) (max (far.tdiv 2) 1) (by omega)
 have td:0≤far.tdiv 2∧far.tdiv 2≤far:=⟨Int.tdiv_nonneg (by omega) (by omega),Int.tdiv_le_self _ (by omega)⟩
 rcases kind_in l a with ⟨e,_⟩ | ⟨e,_⟩
 ·have r:ruleS l a=nextS l (a+1) 2:=by unfold ruleS;rw [if_pos e]
  have w:widthS l far a=0:=by unfold widthS;rw [if_pos e]
  unfold headS cmdOf
  simp only
  rw [r,w,if_pos ⟨by rw [e];rfl,in_yes (by omega) (by omega),rfl⟩]
 ·have r:ruleS l a=0:=by unfold ruleS;rw [if_neg (by omega)]
  have w:widthS l far a=1+nextS l (a+1) (max (far.tdiv 2) 1):=by unfold widthS;rw [if_neg (by omega)]
  unfold headS cmdOf
  simp only
  rw [r,w,if_neg (by rw [e];simp),if_pos ⟨by rw [e];rfl,rfl,in_yes (by omega) (by omega)⟩]
theorem near_q (l:List Int) (far:Int) (a:Nat) (h:1≤far):NearP (qS l far a) (far+1):=by
 unfold qS
 split
 ·exact near_z (by omega)
 split
 ·have:=near_point l (a+7) far (by omega)
  unfold moveS
  unfold NearP at this
  split
  ·unfold NearP;simp only;omega
  ·unfold NearP;omega
 ·have:=next_in l (a+7) far (by omega)
  unfold NearP;simp only;omega
theorem paint_right (l:List Int) (far:Int) (a:Nat) (cs:List Cl) (n m:Int) (h:1≤far) (hm:far+1≤m) (hn:((colsOf l a cs).length:Int)≤n):paintS (cmdOf l far a cs).paint n m=none:=by
 have n3:=next_in l (a+2) 3 (by omega)
 have a1:=add_in cs (colorS l (a+3))
 have a2:=add_in (cols1 l a cs) (colorS l (a+4))
 have a3:=addI_len (cols1 l a cs) (colorS l (a+4))
 have q:=far_no (near_le (near_q l far a h) hm)
 have nq:=near_q l far a h
 have hz:zeroP zP:=⟨rfl,rfl⟩
 unfold paintS cmdOf
 simp only
 have k1:inS (pkS l a) 0 2=true:=in_yes (by unfold pkS;omega) (by unfold pkS;omega)
 by_cases p0:pkS l a=0
 ·have hc:colsOf l a cs=addI cs (colorS l (a+3)):=by unfold colsOf;rw [if_pos p0];rfl
  rw [hc] at hn
  have k2:inS (addP cs (colorS l (a+3))) 0 (n - 1)=true:=in_yes a1.1 (by omega)
  have e1:bS l a cs=0:=by unfold bS;rw [if_pos p0]
  have e2:pS l far a=zP:=by unfold pS;rw [if_pos p0]
  have e3:qS l far a=zP:=by unfold qS;rw [if_pos p0]
  rw [k1,k2,e1,e2,e3,if_neg (by simp [p0]),if_pos p0,if_neg (by simp [hz])]
 ·have hc:colsOf l a cs=addI (cols1 l a cs) (colorS l (a+4)):=by unfold colsOf;rw [if_neg p0]
  rw [hc] at hn
  have hc1:cols1 l a cs=addI cs (colorS l (a+3)):=rfl
  rw [←hc1] at a1
  have k2:inS (addP cs (colorS l (a+3))) 0 (n - 1)=true:=in_yes a1.1 (by omega)
  have e1:bS l a cs=addP (cols1 l a cs) (colorS l (a+4)):=by unfold bS;rw [if_neg p0]
  have e2:pS l far a=pointS l (a+5) far:=by unfold pS;rw [if_neg p0]
  have k3:inS (bS l a cs) 0 (n - 1)=true:=in_yes (by omega) (by omega)
  have kp:farS (pS l far a) m=false:=by rw [e2];exact far_no (near_le (near_point l _ far (by omega)) (by omega))
  rw [k1,k2,k3,if_neg (by simp),if_neg p0,kp,if_neg (by simp)]
  by_cases p1:pkS l a=1
  ·rw [if_pos p1,q,if_neg ?_]
   have e3:qS l far a=moveS (pointS l (a+5) far) (pointS l (a+7) far):=by unfold qS;rw [if_neg p0,if_pos p1]
   intro o
   rcases o with o | o
   ·cases o
   ·rw [e2,e3] at o
    unfold moveS sameP at o
    split at o
    ·rename_i g;simp only at o;omega
    ·rename_i g;exact g o
  ·have e3:qS l far a=⟨1+nextS l (a+7) far,0⟩:=by unfold qS;rw [if_neg p0,if_neg p1]
   have nf:=next_in l (a+7) far (by omega)
   rw [if_neg p1,e3,if_neg (by rw [in_yes (by show 1≤1+_;omega) (by show 1+_≤m;omega)];simp),if_neg (by simp)]
theorem cmd_right (l:List Int) (far:Int) (a:Nat) (cs:List Cl) (n m:Int) (h:1≤far) (hm:far+1≤m) (hn:((colsOf l a cs).length:Int)≤n):cmdS (cmdOf l far a cs) n m=none:=by
 have hp:=cmd_paths l far a cs
 obtain ⟨k1,k2,_⟩:=pathsN_in l a
 unfold cmdS
 rw [head_right l far a cs m h (by omega),paint_right l far a cs n m h hm hn]
 simp only
 rw [if_neg (by omega),if_neg (by omega)]
 exact firstS_none.mpr (paths_right l far m (kindN l a) (by omega) (by omega) _ _)
theorem cmd_pts (l:List Int) (far:Int) (a:Nat) (cs:List Cl):sumS' pathPts (cmdOf l far a cs).paths≤39:=by
 have hp:=cmd_paths l far a cs
 obtain ⟨k1,k2,_⟩:=pathsN_in l a
 have:=sum_mem_le (f:=pathPts) (c:=13) (l:=(cmdOf l far a cs).paths) (paths_pts l far (kindN l a) _ _) (by omega) 3 (by omega)
 omega
theorem run_right (l:List Int) (far:Int) (h:1≤far) (m:Int) (hm:far+1≤m):∀ (n a:Nat) (cs:List Cl),cs.Nodup →
  (runS l far n a cs).1.length≤n∧cs.length≤(runS l far n a cs).2.1.length∧(runS l far n a cs).2.1.length≤cs.length+2*n∧(runS l far n a cs).2.1.Nodup ∧
  useAll cs.length (runS l far n a cs).1=some ((runS l far n a cs).2.1.length:Int) ∧
  (∀ N:Int,((runS l far n a cs).2.1.length:Int)≤N→∀ c∈(runS l far n a cs).1,cmdS c N m=none) ∧
  (∀ c∈(runS l far n a cs).1,sumS' pathPts c.paths≤39)
 | 0,a,cs,hd=>⟨Nat.le_refl _,Nat.le_refl _,by simp [runS],hd,rfl,(fun _ _ c hc=>by cases hc),(fun c hc=>by cases hc)⟩
 | n+1,a,cs,hd=>by
  rw [runS]
  split
  ·obtain ⟨i1,i2,i3,i4,i5,i6,i7⟩:=run_right l far h m hm n (cmdEnd l a) (colsOf l a cs) (cols_nodup l a cs hd)
   have hcl:=colsOf_len l a cs
   refine ⟨by simp;omega,by show cs.length≤_;simp only;omega,by simp only;omega,i4,?_,fun N hN c hc => ?_,fun c hc => ?_⟩
   ·simp only [useAll,cmd_uses];exact i5
   ·rcases List.mem_cons.mp hc with rfl | hc
    ·simp only at hN;exact cmd_right l far a cs N m h hm (by omega)
    ·exact i6 N hN c hc
   ·rcases List.mem_cons.mp hc with rfl | hc
    ·exact cmd_pts l far a cs
    ·exact i7 c hc
  ·exact ⟨Nat.zero_le _,Nat.le_refl _,by simp,hd,rfl,fun _ _ c hc=>(by cases hc),fun c hc=>(by cases hc)⟩
theorem sized_icon (l:List Int) (a:Nat):sizedS (iconS l a)=true:=by
 obtain ⟨b1,b2,b3,b4⟩:=icon_in l a
 unfold sizedS iconS
 simp only
 rw [in_yes b1.1 (by omega),in_yes b2.1 (by omega),in_yes b3.1 (by omega)];rfl
theorem great_icon (l:List Int) (a:Nat):greatS (iconS l a)=4*farS' l a:=by
 unfold greatS
 rw [if_pos (sized_icon l a)]
 show 4*max (wS l a) (hS l a)*2 ^ (scS l a).toNat=4*(max (wS l a) (hS l a)*2 ^ (scS l a).toNat)
 rw [Int.mul_assoc]
theorem cmdsN_in (l:List Int) (a:Nat):1≤cmdsN l a∧cmdsN l a≤4:=by
 have:=next_in l (a+3) 4 (by omega)
 unfold cmdsN;omega
theorem icon_right (l:List Int) (a:Nat):checkS (iconS l a)=none∧(iconS l a).Fit:=by
 obtain ⟨b1,b2,b3,b4⟩:=icon_in l a
 have k:=cmdsN_in l a
 obtain ⟨i1,i2,i3,i4,i5,i6,i7⟩:=run_right l (farS' l a) b4.1 (greatS (iconS l a)) (by rw [great_icon];omega) (cmdsN l a) (a+4) [] List.nodup_nil
 have hx:runS l (farS' l a) (cmdsN l a) (a+4) []=iconRun l a:=rfl
 rw [hx] at i1 i2 i3 i4 i5 i6 i7
 simp only [List.length_nil,Nat.zero_add] at i3
 have hcm:(iconS l a).cmds=(iconRun l a).1:=rfl
 have hco:(iconS l a).colors=(iconRun l a).2.1:=rfl
 have hcmd:∀ c∈(iconS l a).cmds,cmdS c (iconS l a).colors.length (greatS (iconS l a))=none:=fun c hc=>i6 _ (Int.le_refl _) c hc
 have hpts:pointsS (iconS l a)≤39*(4:Nat):=sum_mem_le (f:=fun c:Cmd=>sumS' pathPts c.paths) i7 (by omega) 4 (by omega)
 refine ⟨?_,by rw [hco];omega,by rw [hcm];omega,fun c hc => ?_⟩
 ·unfold checkS
  rw [if_neg (by rw [sized_icon];simp),if_neg (by rw [hco,hcm];omega),firstS_none.mpr hcmd]
  simp only
  rw [if_neg (by omega),if_neg ?_]
  unfold usedS
  rw [hcm,hco]
  have:useAll 0 (iconRun l a).1=some ((iconRun l a).2.1.length:Int):=i5
  rw [this]
  simp only
  rw [once_nodup _ [] (by rw [List.nil_append];exact i4)]
  simp
 ·obtain ⟨c1,c2,c3,c4,c5⟩:=cmdS_none (hcmd c hc)
  exact ⟨by omega,fun p hp=>by have:=(pathS_none (c5 p hp)).1;omega⟩
end
end Go.VL.Mk
namespace Go.VL.Mk
open Go.FR Go.IR Go.VL Go.VL.Color Go.VL.Wind Go.VL.Ic Go.VL.Pal
noncomputable section
theorem color_in (l:List Int) (a:Nat):(colorS l a).In:=by
 unfold colorS
 have:∀ k,(palS.getD k ⟨0,0,0,0⟩).In:=fun k=>by
  rcases Nat.lt_or_ge k 7 with h | h
  ·have:∀ k:Fin 7,(palS.getD k.val ⟨0,0,0,0⟩).In:=by unfold Cl.In;decide
   exact this ⟨k,h⟩
  ·rw [List.getD_eq_getElem?_getD,List.getElem?_eq_none (by simpa [palS] using h)];unfold Cl.In;simp
 exact this _
theorem addI_in {cs:List Cl} {c:Cl} (h:∀ x∈cs,x.In) (hc:c.In):∀ x∈addI cs c,x.In:=by
 unfold addI
 split
 ·exact h
 ·intro x hx
  rcases List.mem_append.mp hx with hx | hx
  ·exact h x hx
  ·rw [List.mem_singleton.mp hx];exact hc
theorem cols_in {l:List Int} {a:Nat} {cs:List Cl} (h:∀ x∈cs,x.In):∀ x∈colsOf l a cs,x.In:=by
 have h1:∀ x∈cols1 l a cs,x.In:=addI_in h (color_in _ _)
 unfold colsOf
 split
 ·exact h1
 ·exact addI_in h1 (color_in _ _)
theorem run_cols (l:List Int) (far:Int):∀ (n a:Nat) (cs:List Cl),(∀ x∈cs,x.In)→∀ x∈(runS l far n a cs).2.1,x.In
 | 0,a,cs,h=>h
 | n+1,a,cs,h=>by
  rw [runS]
  split
  ·exact run_cols l far n _ _ (cols_in h)
  ·exact h
theorem icon_cols (l:List Int) (a:Nat):∀ c∈(iconS l a).colors,c.In:=run_cols l (farS' l a) (cmdsN l a) (a+4) [] (fun x hx=>by cases hx)
theorem icon_few (l:List Int) (a:Nat):(iconS l a).cmds.length≤4∧(iconS l a).colors.length≤8:=by
 obtain ⟨b1,b2,b3,b4⟩:=icon_in l a
 obtain ⟨i1,i2,i3,i4,i5,i6,i7⟩:=run_right l (farS' l a) b4.1 (greatS (iconS l a)) (by rw [great_icon];omega) (cmdsN l a) (a+4) [] List.nodup_nil
 have:=cmdsN_in l a
 exact ⟨by show (iconRun l a).1.length≤4;unfold iconRun;omega,by show (iconRun l a).2.1.length≤8;unfold iconRun;simp only [List.length_nil] at i3;omega⟩
end
end Go.VL.Mk
namespace Go.VL.Sm
open Go.FR Go.IR Go.VL Go.VL.Color Go.VL.Wind Go.VL.Ic
noncomputable section
set_option maxRecDepth 100000
set_option maxHeartbeats 1000000
theorem pt_ok (Gl:qzj) (p q:Pt):qzo Go.VL.Pal.E Gl f_glyphicref_SamePoint [.agg (cPt p),.agg (cPt q)] (.bool (decide (p=q))):=by
 have h:=Mk.samePt_ok Gl p q
 have e:decide (p.x=q.x∧p.y=q.y)=decide (p=q):=by
  cases p;cases q;simp
 rw [←e];exact h
attribute [local go_sem] cSeg cPath cPaint cCmd cIcon cPt cCl
theorem seg_ok (Gl:qzj) (s t:Seg):qzo Go.VL.Pal.E Gl f_glyphicref_SameSeg [.agg (cSeg s),.agg (cSeg t)] (.bool (decide (s=t))):=by
 refine qzk (qzd E_glyphicref_SameSeg ?_)
 unfold c_glyphicref_SameSeg r_glyphicref_SameSeg
 simp only [qzl]
 have n0:qzw (VV.int .i64 0)=some 0:=rfl
 have n1:qzw (VV.int .i64 1)=some 1:=rfl
 have n2:qzw (VV.int .i64 2)=some 2:=rfl
 obtain ⟨k,p,q,r⟩:=s
 obtain ⟨k',p',q',r'⟩:=t
 by_cases e0:k=k'
 case neg =>
  have d0:(k == k')=false:=by simp [e0]
  have d:decide (Seg.mk k p q r=Seg.mk k' p' q' r')=false:=by simp [e0]
  rw [d]
  simp only [simprocAttr,-Int.reduceNatCast',go_sem,d0,n0,n1,n2]<;>first | rfl | exact ⟨rfl,rfl⟩ | exact qzc rfl
 subst e0
 simp only [simprocAttr,-Int.reduceNatCast',go_sem,n0,n1,n2]
 refine qzg (pt_ok Gl p p') rfl rfl ?_
 by_cases e1:p=p'
 case neg =>
  have d0:decide (p=p')=false:=by simp [e1]
  have d:decide (Seg.mk k p q r=Seg.mk k p' q' r')=false:=by simp [e1]
  rw [d,d0]
  simp only [simprocAttr,-Int.reduceNatCast',go_sem,n0,n1,n2]<;>first | rfl | exact ⟨rfl,rfl⟩ | exact qzc rfl
 subst e1
 have d1:decide (p=p)=true:=by simp
 rw [d1]
 simp only [simprocAttr,-Int.reduceNatCast',go_sem,n0,n1,n2]
 refine qzg (pt_ok Gl q q') rfl rfl ?_
 by_cases e2:q=q'
 case neg =>
  have d0:decide (q=q')=false:=by simp [e2]
  have d:decide (Seg.mk k p q r=Seg.mk k p q' r')=false:=by simp [e2]
  rw [d,d0]
  simp only [simprocAttr,-Int.reduceNatCast',go_sem,n0,n1,n2]<;>first | rfl | exact ⟨rfl,rfl⟩ | exact qzc rfl
 subst e2
 have d2:decide (q=q)=true:=by simp
 rw [d2]
 simp only [simprocAttr,-Int.reduceNatCast',go_sem,n0,n1,n2]
 refine qzg (pt_ok Gl r r') rfl rfl ?_
 have d:decide (Seg.mk k p q r=Seg.mk k p q r')=decide (r=r'):=by simp
 rw [d]
 simp only [simprocAttr,-Int.reduceNatCast',go_sem,n0,n1,n2]<;>first | rfl | exact ⟨rfl,rfl⟩ | exact qzc rfl
def SizP (p:Path):Prop:=p.segs.length < 1000000
def SizC (c:Cmd):Prop:=c.paths.length < 1000000∧∀ p∈c.paths,SizP p
theorem segs_loop (Gl:qzj) (a b:List Seg) (hl:a.length < 1000000) (hab:a.length=b.length) (K:AEx→VF→VH→Prop)
  (hK0:∀ T h,a=b→K (.exit 0) T h) (hK1:∀ T h,a≠b→qza T 4=some (.bool false)→K .ret T h) :
  ∀ (d i:Nat) (T:VF) (h:VH),d+i=a.length→a.take i=b.take i→qza T 0=some (.fsl (qzf cSeg a) a.length 7)→qza T 1=some (.fsl (qzf cSeg b) b.length 7)→qza T 5=some (.int .i64 i) →
   wp Go.VL.Pal.E Gl (.loop c_glyphicref_SameSegs_l0) T h K:=by
 intro d
 induction d with
 | zero =>
  intro i T h hd hr t0 t1 t5
  obtain rfl:i=a.length:=by omega
  refine qzi c_glyphicref_SameSegs_l0.eq_1 ?_
  simp only [simprocAttr,-Int.reduceNatCast',go_sem,t0,t1,t5,Int.lt_irrefl]
  refine hK0 _ _ ?_
  rw [List.take_length,hab,List.take_length] at hr
  exact hr
 | succ d ih =>
  intro i T h hd hr t0 t1 t5
  refine qzi c_glyphicref_SameSegs_l0.eq_1 ?_
  have hlt:i < a.length:=by omega
  have hlt':i < b.length:=by omega
  have c1:(i:Int) < a.length:=by omega
  obtain ⟨x,hx⟩:∃ x,a[i]?=some x:=⟨a[i],List.getElem?_eq_getElem hlt⟩
  obtain ⟨y,hy⟩:∃ y,b[i]?=some y:=⟨b[i],List.getElem?_eq_getElem hlt'⟩
  have p1:=qzr cSeg_len hx
  have p2:=qzs cSeg_len hx
  have p3:=qzr cSeg_len hy
  have p4:=qzs cSeg_len hy
  have w:IntKind.i64.wrap ((i:Int)+1)=((i+1:Nat):Int):=by rw [qze (by omega) (by omega)];rfl
  simp only [simprocAttr,-Int.reduceNatCast',go_sem,t0,t1,t5,c1,hlt,hlt',p1,p2,p3,p4]
  refine qzg (seg_ok Gl x y) rfl rfl ?_
  by_cases e:x=y
  ·subst e
   have de:decide (x=x)=true:=by simp
   simp only [simprocAttr,-Int.reduceNatCast',go_sem,t0,t1,t5,de,w]
   refine ih (i+1) _ _ (by omega) (by rw [qzu hx,qzu hy,hr]) ?_ ?_ ?_
   ·simp only [simprocAttr,-Int.reduceNatCast',go_sem,t0]
   ·simp only [simprocAttr,-Int.reduceNatCast',go_sem,t1]
   ·simp only [simprocAttr,-Int.reduceNatCast',go_sem]
  ·have de:decide (x=y)=false:=by simp [e]
   simp only [simprocAttr,-Int.reduceNatCast',go_sem,t0,t1,t5,de]
   refine hK1 _ _ (fun q=>e ?_) ?_
   ·rw [q,hy] at hx;exact (Option.some.inj hx).symm
   ·simp only [simprocAttr,-Int.reduceNatCast',go_sem]
theorem segs_ok (Gl:qzj) (a b:List Seg) (hl:a.length < 1000000):qzo Go.VL.Pal.E Gl f_glyphicref_SameSegs [.fsl (qzf cSeg a) a.length 7,.fsl (qzf cSeg b) b.length 7] (.bool (decide (a=b))):=by
 refine qzk (qzd E_glyphicref_SameSegs ?_)
 unfold c_glyphicref_SameSegs r_glyphicref_SameSegs
 simp only [qzl]
 by_cases hab:a.length=b.length
 ·have c:((a.length:Int) == (b.length:Int))=true:=by simp [hab]
  have c':((a.length:Int) != (b.length:Int))=false:=by simp [hab]
  simp only [simprocAttr,-Int.reduceNatCast',go_sem,c,c']
  refine segs_loop Gl a b hl hab _ ?_ ?_ a.length 0 _ _ (by omega) rfl ?_ ?_ ?_
  ·intro T h e
   have de:decide (a=b)=true:=by simp [e]
   simp only [simprocAttr,-Int.reduceNatCast',go_sem,de]<;>first | rfl | exact ⟨rfl,rfl⟩ | exact qzc rfl
  ·intro T h e t4
   have de:decide (a=b)=false:=by simp [e]
   simp only [simprocAttr,-Int.reduceNatCast',go_sem,t4,de]
   exact qzc rfl
  ·simp only [simprocAttr,-Int.reduceNatCast',go_sem]
  ·simp only [simprocAttr,-Int.reduceNatCast',go_sem]
  ·simp only [simprocAttr,-Int.reduceNatCast',go_sem];rfl
 ·have c:((a.length:Int) == (b.length:Int))=false:=by simp;omega
  have c':((a.length:Int) != (b.length:Int))=true:=by simp;omega
  have de:decide (a=b)=false:=by simp;intro e;exact hab (by rw [e])
  simp only [simprocAttr,-Int.reduceNatCast',go_sem,c,c',de]<;>first | rfl | exact ⟨rfl,rfl⟩ | exact qzc rfl
theorem path_ok (Gl:qzj) (s t:Path) (hs:SizP s):qzo Go.VL.Pal.E Gl f_glyphicref_SamePath [.agg (cPath s),.agg (cPath t)] (.bool (decide (s=t))):=by
 refine qzk (qzd E_glyphicref_SamePath ?_)
 unfold c_glyphicref_SamePath r_glyphicref_SamePath
 simp only [qzl]
 obtain ⟨p,l,c⟩:=s
 obtain ⟨p',l',c'⟩:=t
 simp only [simprocAttr,-Int.reduceNatCast',go_sem]
 refine qzg (pt_ok Gl p p') rfl rfl ?_
 by_cases e1:p=p'
 case neg =>
  have d0:decide (p=p')=false:=by simp [e1]
  have d:decide (Path.mk p l c=Path.mk p' l' c')=false:=by simp [e1]
  rw [d,d0]
  simp only [simprocAttr,-Int.reduceNatCast',go_sem]<;>first | rfl | exact ⟨rfl,rfl⟩ | exact qzc rfl
 subst e1
 have d1:decide (p=p)=true:=by simp
 rw [d1]
 by_cases e2:c=c'
 case neg =>
  have d0:(c == c')=false:=by simp [e2]
  have d:decide (Path.mk p l c=Path.mk p l' c')=false:=by simp [e2]
  rw [d]
  simp only [simprocAttr,-Int.reduceNatCast',go_sem,d0]<;>first | rfl | exact ⟨rfl,rfl⟩ | exact qzc rfl
 subst e2
 simp only [simprocAttr,-Int.reduceNatCast',go_sem]
 refine qzg (segs_ok Gl l l' hs) rfl rfl ?_
 have d:decide (Path.mk p l c=Path.mk p l' c)=decide (l=l'):=by simp
 rw [d]
 simp only [simprocAttr,-Int.reduceNatCast',go_sem]<;>first | rfl | exact ⟨rfl,rfl⟩ | exact qzc rfl
theorem paths_loop (Gl:qzj) (a b:List Path) (hl:a.length < 1000000) (hz:∀ x∈a,SizP x) (hab:a.length=b.length) (K:AEx→VF→VH→Prop)
  (hK0:∀ T h,a=b→K (.exit 0) T h) (hK1:∀ T h,a≠b→qza T 4=some (.bool false)→K .ret T h) :
  ∀ (d i:Nat) (T:VF) (h:VH),d+i=a.length→a.take i=b.take i→qza T 0=some (.fsl (qzf cPath a) a.length 4)→qza T 1=some (.fsl (qzf cPath b) b.length 4)→qza T 5=some (.int .i64 i) →
   wp Go.VL.Pal.E Gl (.loop c_glyphicref_SamePaths_l0) T h K:=by
 intro d
 induction d with
 | zero =>
  intro i T h hd hr t0 t1 t5
  obtain rfl:i=a.length:=by omega
  refine qzi c_glyphicref_SamePaths_l0.eq_1 ?_
  simp only [simprocAttr,-Int.reduceNatCast',go_sem,t0,t1,t5,Int.lt_irrefl]
  refine hK0 _ _ ?_
  rw [List.take_length,hab,List.take_length] at hr
  exact hr
 | succ d ih =>
  intro i T h hd hr t0 t1 t5
  refine qzi c_glyphicref_SamePaths_l0.eq_1 ?_
  have hlt:i < a.length:=by omega
  have hlt':i < b.length:=by omega
  have c1:(i:Int) < a.length:=by omega
  obtain ⟨x,hx⟩:∃ x,a[i]?=some x:=⟨a[i],List.getElem?_eq_getElem hlt⟩
  obtain ⟨y,hy⟩:∃ y,b[i]?=some y:=⟨b[i],List.getElem?_eq_getElem hlt'⟩
  have p1:=qzr cPath_len hx
  have p2:=qzs cPath_len hx
  have p3:=qzr cPath_len hy
  have p4:=qzs cPath_len hy
  have w:IntKind.i64.wrap ((i:Int)+1)=((i+1:Nat):Int):=by rw [qze (by omega) (by omega)];rfl
  simp only [simprocAttr,-Int.reduceNatCast',go_sem,t0,t1,t5,c1,hlt,hlt',p1,p2,p3,p4]
  refine qzg (path_ok Gl x y (hz x (List.mem_of_getElem? hx))) rfl rfl ?_
  by_cases e:x=y
  ·subst e
   have de:decide (x=x)=true:=by simp
   simp only [simprocAttr,-Int.reduceNatCast',go_sem,t0,t1,t5,de,w]
   refine ih (i+1) _ _ (by omega) (by rw [qzu hx,qzu hy,hr]) ?_ ?_ ?_
   ·simp only [simprocAttr,-Int.reduceNatCast',go_sem,t0]
   ·simp only [simprocAttr,-Int.reduceNatCast',go_sem,t1]
   ·simp only [simprocAttr,-Int.reduceNatCast',go_sem]
  ·have de:decide (x=y)=false:=by simp [e]
   simp only [simprocAttr,-Int.reduceNatCast',go_sem,t0,t1,t5,de]
   refine hK1 _ _ (fun q=>e ?_) ?_
   ·rw [q,hy] at hx;exact (Option.some.inj hx).symm
   ·simp only [simprocAttr,-Int.reduceNatCast',go_sem]
theorem paths_ok (Gl:qzj) (a b:List Path) (hl:a.length < 1000000) (hz:∀ x∈a,SizP x):qzo Go.VL.Pal.E Gl f_glyphicref_SamePaths [.fsl (qzf cPath a) a.length 4,.fsl (qzf cPath b) b.length 4] (.bool (decide (a=b))):=by
 refine qzk (qzd E_glyphicref_SamePaths ?_)
 unfold c_glyphicref_SamePaths r_glyphicref_SamePaths
 simp only [qzl]
 by_cases hab:a.length=b.length
 ·have c:((a.length:Int) == (b.length:Int))=true:=by simp [hab]
  have c':((a.length:Int) != (b.length:Int))=false:=by simp [hab]
  simp only [simprocAttr,-Int.reduceNatCast',go_sem,c,c']
  refine paths_loop Gl a b hl hz hab _ ?_ ?_ a.length 0 _ _ (by omega) rfl ?_ ?_ ?_
  ·intro T h e
   have de:decide (a=b)=true:=by simp [e]
   simp only [simprocAttr,-Int.reduceNatCast',go_sem,de]<;>first | rfl | exact ⟨rfl,rfl⟩ | exact qzc rfl
  ·intro T h e t4
   have de:decide (a=b)=false:=by simp [e]
   simp only [simprocAttr,-Int.reduceNatCast',go_sem,t4,de]
   exact qzc rfl
  ·simp only [simprocAttr,-Int.reduceNatCast',go_sem]
  ·simp only [simprocAttr,-Int.reduceNatCast',go_sem]
  ·simp only [simprocAttr,-Int.reduceNatCast',go_sem];rfl
 ·have c:((a.length:Int) == (b.length:Int))=false:=by simp;omega
  have c':((a.length:Int) != (b.length:Int))=true:=by simp;omega
  have de:decide (a=b)=false:=by simp;intro e;exact hab (by rw [e])
  simp only [simprocAttr,-Int.reduceNatCast',go_sem,c,c',de]<;>first | rfl | exact ⟨rfl,rfl⟩ | exact qzc rfl
theorem paint_ok (Gl:qzj) (s t:Paint):qzo Go.VL.Pal.E Gl f_glyphicref_SamePaint [.agg (cPaint s),.agg (cPaint t)] (.bool (decide (s=t))):=by
 refine qzk (qzd E_glyphicref_SamePaint ?_)
 unfold c_glyphicref_SamePaint r_glyphicref_SamePaint
 simp only [qzl]
 obtain ⟨k,a,b,p,q⟩:=s
 obtain ⟨k',a',b',p',q'⟩:=t
 by_cases e0:k=k'
 case neg =>
  have d0:(k == k')=false:=by simp [e0]
  have d:decide (Paint.mk k a b p q=Paint.mk k' a' b' p' q')=false:=by simp [e0]
  rw [d]
  simp only [simprocAttr,-Int.reduceNatCast',go_sem,d0]<;>first | rfl | exact ⟨rfl,rfl⟩ | exact qzc rfl
 subst e0
 by_cases e1:a=a'
 case neg =>
  have d0:(a == a')=false:=by simp [e1]
  have d:decide (Paint.mk k a b p q=Paint.mk k a' b' p' q')=false:=by simp [e1]
  rw [d]
  simp only [simprocAttr,-Int.reduceNatCast',go_sem,d0]<;>first | rfl | exact ⟨rfl,rfl⟩ | exact qzc rfl
 subst e1
 by_cases e2:b=b'
 case neg =>
  have d0:(b == b')=false:=by simp [e2]
  have d:decide (Paint.mk k a b p q=Paint.mk k a b' p' q')=false:=by simp [e2]
  rw [d]
  simp only [simprocAttr,-Int.reduceNatCast',go_sem,d0]<;>first | rfl | exact ⟨rfl,rfl⟩ | exact qzc rfl
 subst e2
 simp only [simprocAttr,-Int.reduceNatCast',go_sem]
 refine qzg (pt_ok Gl p p') rfl rfl ?_
 by_cases e1:p=p'
 case neg =>
  have d0:decide (p=p')=false:=by simp [e1]
  have d:decide (Paint.mk k a b p q=Paint.mk k a b p' q')=false:=by simp [e1]
  rw [d,d0]
  simp only [simprocAttr,-Int.reduceNatCast',go_sem]<;>first | rfl | exact ⟨rfl,rfl⟩ | exact qzc rfl
 subst e1
 have d1:decide (p=p)=true:=by simp
 rw [d1]
 simp only [simprocAttr,-Int.reduceNatCast',go_sem]
 refine qzg (pt_ok Gl q q') rfl rfl ?_
 have d:decide (Paint.mk k a b p q=Paint.mk k a b p q')=decide (q=q'):=by simp
 rw [d]
 simp only [simprocAttr,-Int.reduceNatCast',go_sem]<;>first | rfl | exact ⟨rfl,rfl⟩ | exact qzc rfl
theorem cmd_ok (Gl:qzj) (s t:Cmd) (hs:SizC s):qzo Go.VL.Pal.E Gl f_glyphicref_SameCmd [.agg (cCmd s),.agg (cCmd t)] (.bool (decide (s=t))):=by
 refine qzk (qzd E_glyphicref_SameCmd ?_)
 unfold c_glyphicref_SameCmd r_glyphicref_SameCmd
 simp only [qzl]
 obtain ⟨k,a,b,p,l⟩:=s
 obtain ⟨k',a',b',p',l'⟩:=t
 by_cases e0:k=k'
 case neg =>
  have d0:(k == k')=false:=by simp [e0]
  have d:decide (Cmd.mk k a b p l=Cmd.mk k' a' b' p' l')=false:=by simp [e0]
  rw [d]
  simp only [simprocAttr,-Int.reduceNatCast',go_sem,d0]<;>first | rfl | exact ⟨rfl,rfl⟩ | exact qzc rfl
 subst e0
 by_cases e1:a=a'
 case neg =>
  have d0:(a == a')=false:=by simp [e1]
  have d:decide (Cmd.mk k a b p l=Cmd.mk k a' b' p' l')=false:=by simp [e1]
  rw [d]
  simp only [simprocAttr,-Int.reduceNatCast',go_sem,d0]<;>first | rfl | exact ⟨rfl,rfl⟩ | exact qzc rfl
 subst e1
 by_cases e2:b=b'
 case neg =>
  have d0:(b == b')=false:=by simp [e2]
  have d:decide (Cmd.mk k a b p l=Cmd.mk k a b' p' l')=false:=by simp [e2]
  rw [d]
  simp only [simprocAttr,-Int.reduceNatCast',go_sem,d0]<;>first | rfl | exact ⟨rfl,rfl⟩ | exact qzc rfl
 subst e2
 simp only [simprocAttr,-Int.reduceNatCast',go_sem]
 refine qzg (paint_ok Gl p p') rfl rfl ?_
 by_cases e1:p=p'
 case neg =>
  have d0:decide (p=p')=false:=by simp [e1]
  have d:decide (Cmd.mk k a b p l=Cmd.mk k a b p' l')=false:=by simp [e1]
  rw [d,d0]
  simp only [simprocAttr,-Int.reduceNatCast',go_sem]<;>first | rfl | exact ⟨rfl,rfl⟩ | exact qzc rfl
 subst e1
 have d1:decide (p=p)=true:=by simp
 rw [d1]
 simp only [simprocAttr,-Int.reduceNatCast',go_sem]
 refine qzg (paths_ok Gl l l' hs.1 hs.2) rfl rfl ?_
 have d:decide (Cmd.mk k a b p l=Cmd.mk k a b p l')=decide (l=l'):=by simp
 rw [d]
 simp only [simprocAttr,-Int.reduceNatCast',go_sem]<;>first | rfl | exact ⟨rfl,rfl⟩ | exact qzc rfl
theorem cmds_loop (Gl:qzj) (a b:List Cmd) (hl:a.length < 1000000) (hz:∀ x∈a,SizC x) (hab:a.length=b.length) (K:AEx→VF→VH→Prop)
  (hK0:∀ T h,a=b→K (.exit 0) T h) (hK1:∀ T h,a≠b→qza T 4=some (.bool false)→K .ret T h) :
  ∀ (d i:Nat) (T:VF) (h:VH),d+i=a.length→a.take i=b.take i→qza T 0=some (.fsl (qzf cCmd a) a.length 11)→qza T 1=some (.fsl (qzf cCmd b) b.length 11)→qza T 5=some (.int .i64 i) →
   wp Go.VL.Pal.E Gl (.loop c_glyphicref_SameCmds_l0) T h K:=by
 intro d
 induction d with
 | zero =>
  intro i T h hd hr t0 t1 t5
  obtain rfl:i=a.length:=by omega
  refine qzi c_glyphicref_SameCmds_l0.eq_1 ?_
  simp only [simprocAttr,-Int.reduceNatCast',go_sem,t0,t1,t5,Int.lt_irrefl]
  refine hK0 _ _ ?_
  rw [List.take_length,hab,List.take_length] at hr
  exact hr
 | succ d ih =>
  intro i T h hd hr t0 t1 t5
  refine qzi c_glyphicref_SameCmds_l0.eq_1 ?_
  have hlt:i < a.length:=by omega
  have hlt':i < b.length:=by omega
  have c1:(i:Int) < a.length:=by omega
  obtain ⟨x,hx⟩:∃ x,a[i]?=some x:=⟨a[i],List.getElem?_eq_getElem hlt⟩
  obtain ⟨y,hy⟩:∃ y,b[i]?=some y:=⟨b[i],List.getElem?_eq_getElem hlt'⟩
  have p1:=qzr cCmd_len hx
  have p2:=qzs cCmd_len hx
  have p3:=qzr cCmd_len hy
  have p4:=qzs cCmd_len hy
  have w:IntKind.i64.wrap ((i:Int)+1)=((i+1:Nat):Int):=by rw [qze (by omega) (by omega)];rfl
  simp only [simprocAttr,-Int.reduceNatCast',go_sem,t0,t1,t5,c1,hlt,hlt',p1,p2,p3,p4]
  refine qzg (cmd_ok Gl x y (hz x (List.mem_of_getElem? hx))) rfl rfl ?_
  by_cases e:x=y
  ·subst e
   have de:decide (x=x)=true:=by simp
   simp only [simprocAttr,-Int.reduceNatCast',go_sem,t0,t1,t5,de,w]
   refine ih (i+1) _ _ (by omega) (by rw [qzu hx,qzu hy,hr]) ?_ ?_ ?_
   ·simp only [simprocAttr,-Int.reduceNatCast',go_sem,t0]
   ·simp only [simprocAttr,-Int.reduceNatCast',go_sem,t1]
   ·simp only [simprocAttr,-Int.reduceNatCast',go_sem]
  ·have de:decide (x=y)=false:=by simp [e]
   simp only [simprocAttr,-Int.reduceNatCast',go_sem,t0,t1,t5,de]
   refine hK1 _ _ (fun q=>e ?_) ?_
   ·rw [q,hy] at hx;exact (Option.some.inj hx).symm
   ·simp only [simprocAttr,-Int.reduceNatCast',go_sem]
theorem cmds_ok (Gl:qzj) (a b:List Cmd) (hl:a.length < 1000000) (hz:∀ x∈a,SizC x):qzo Go.VL.Pal.E Gl f_glyphicref_SameCmds [.fsl (qzf cCmd a) a.length 11,.fsl (qzf cCmd b) b.length 11] (.bool (decide (a=b))):=by
 refine qzk (qzd E_glyphicref_SameCmds ?_)
 unfold c_glyphicref_SameCmds r_glyphicref_SameCmds
 simp only [qzl]
 by_cases hab:a.length=b.length
 ·have c:((a.length:Int) == (b.length:Int))=true:=by simp [hab]
  have c':((a.length:Int) != (b.length:Int))=false:=by simp [hab]
  simp only [simprocAttr,-Int.reduceNatCast',go_sem,c,c']
  refine cmds_loop Gl a b hl hz hab _ ?_ ?_ a.length 0 _ _ (by omega) rfl ?_ ?_ ?_
  ·intro T h e
   have de:decide (a=b)=true:=by simp [e]
   simp only [simprocAttr,-Int.reduceNatCast',go_sem,de]<;>first | rfl | exact ⟨rfl,rfl⟩ | exact qzc rfl
  ·intro T h e t4
   have de:decide (a=b)=false:=by simp [e]
   simp only [simprocAttr,-Int.reduceNatCast',go_sem,t4,de]
   exact qzc rfl
  ·simp only [simprocAttr,-Int.reduceNatCast',go_sem]
  ·simp only [simprocAttr,-Int.reduceNatCast',go_sem]
  ·simp only [simprocAttr,-Int.reduceNatCast',go_sem];rfl
 ·have c:((a.length:Int) == (b.length:Int))=false:=by simp;omega
  have c':((a.length:Int) != (b.length:Int))=true:=by simp;omega
  have de:decide (a=b)=false:=by simp;intro e;exact hab (by rw [e])
  simp only [simprocAttr,-Int.reduceNatCast',go_sem,c,c',de]<;>first | rfl | exact ⟨rfl,rfl⟩ | exact qzc rfl
theorem icon_ok (Gl:qzj) (s t:Icon) (hs:s.Fit):qzo Go.VL.Pal.E Gl f_glyphicref_SameIcon [.agg (cIcon s),.agg (cIcon t)] (.bool (decide (s=t))):=by
 refine qzk (qzd E_glyphicref_SameIcon ?_)
 unfold c_glyphicref_SameIcon r_glyphicref_SameIcon
 simp only [qzl]
 obtain ⟨k,a,b,p,l⟩:=s
 obtain ⟨k',a',b',p',l'⟩:=t
 by_cases e0:k=k'
 case neg =>
  have d0:(k == k')=false:=by simp [e0]
  have d:decide (Icon.mk k a b p l=Icon.mk k' a' b' p' l')=false:=by simp [e0]
  rw [d]
  simp only [simprocAttr,-Int.reduceNatCast',go_sem,d0]<;>first | rfl | exact ⟨rfl,rfl⟩ | exact qzc rfl
 subst e0
 by_cases e1:a=a'
 case neg =>
  have d0:(a == a')=false:=by simp [e1]
  have d:decide (Icon.mk k a b p l=Icon.mk k a' b' p' l')=false:=by simp [e1]
  rw [d]
  simp only [simprocAttr,-Int.reduceNatCast',go_sem,d0]<;>first | rfl | exact ⟨rfl,rfl⟩ | exact qzc rfl
 subst e1
 by_cases e2:b=b'
 case neg =>
  have d0:(b == b')=false:=by simp [e2]
  have d:decide (Icon.mk k a b p l=Icon.mk k a b' p' l')=false:=by simp [e2]
  rw [d]
  simp only [simprocAttr,-Int.reduceNatCast',go_sem,d0]<;>first | rfl | exact ⟨rfl,rfl⟩ | exact qzc rfl
 subst e2
 simp only [simprocAttr,-Int.reduceNatCast',go_sem]
 refine qzg (Go.VL.Pal.sames_ok Gl p p' hs.1) rfl rfl ?_
 by_cases e1:p=p'
 case neg =>
  have d0:decide (p=p')=false:=by simp [e1]
  have d:decide (Icon.mk k a b p l=Icon.mk k a b p' l')=false:=by simp [e1]
  rw [d,d0]
  simp only [simprocAttr,-Int.reduceNatCast',go_sem]<;>first | rfl | exact ⟨rfl,rfl⟩ | exact qzc rfl
 subst e1
 have d1:decide (p=p)=true:=by simp
 rw [d1]
 simp only [simprocAttr,-Int.reduceNatCast',go_sem]
 refine qzg (cmds_ok Gl l l' hs.2.1 (fun c hc=>hs.2.2 c hc)) rfl rfl ?_
 have d:decide (Icon.mk k a b p l=Icon.mk k a b p l')=decide (l=l'):=by simp
 rw [d]
 simp only [simprocAttr,-Int.reduceNatCast',go_sem]<;>first | rfl | exact ⟨rfl,rfl⟩ | exact qzc rfl
end
end Go.VL.Sm
