import Derived.Test.YtbamfhdgikeneaaDoorVlK
import Derived.Test.YtbamfhdgikeneaaDoorDcA
set_option linter.unusedSimpArgs false
set_option linter.unusedVariables false
namespace Go.VL.Dc
open Go.FR Go.IR Go.VL Go.VL.Er Go.VL.Color Go.VL.Wind Go.VL.Ic Go.VL.Wire
noncomputable section
set_option maxRecDepth 100000
set_option maxHeartbeats 1000000
theorem Fm.put {i:Nat} {h h':VH} (f:Fm i h h') {b n:Nat} {x:Option VB} (hb:h.next≤b) (hn:h'.next≤n):Fm i h ⟨(b,x)::h'.l,n⟩ :=
 ⟨Nat.le_trans f.1 hn,fun k k1 k2=>by simp only [qzb];rw [if_neg (by omega)];exact f.2 k k1 k2⟩
theorem RAt.add {bs:List Nat} {i:Nat} {R:Rd} {I:IcV} {h:VH} (s:RAt bs i R I h) {b n:Nat} {x:Option VB} (hb:h.next≤b) (hn:h.next≤n):RAt bs i R I ⟨(b,x)::h.l,n⟩ :=
 s.move hn fun k k1=>by simp only [qzb];rw [if_neg (by omega)]
def z0:Pt:=⟨0,0⟩
theorem z0_nr:Nr z0:=by unfold Nr z0;simp
def paintS (bs:List Nat) (R:Rd) (kind:Int) (nc:Nat):Paint × Rd :=
 if kind=0 then (⟨kind,(colorS bs R nc).1,0,z0,z0⟩,(colorS bs R nc).2)
 else if kind=2 then
  (⟨kind,(colorS bs R nc).1,(colorS bs (colorS bs R nc).2 nc).1,(pointS bs (colorS bs (colorS bs R nc).2 nc).2 z0).1,⟨(rangedS bs (pointS bs (colorS bs (colorS bs R nc).2 nc).2 z0).2 1 (pointS bs (colorS bs (colorS bs R nc).2 nc).2 z0).2.most).1,0⟩⟩,
   (rangedS bs (pointS bs (colorS bs (colorS bs R nc).2 nc).2 z0).2 1 (pointS bs (colorS bs (colorS bs R nc).2 nc).2 z0).2.most).2)
 else
  (⟨kind,(colorS bs R nc).1,(colorS bs (colorS bs R nc).2 nc).1,(pointS bs (colorS bs (colorS bs R nc).2 nc).2 z0).1,⟨(partS bs (pointS bs (colorS bs (colorS bs R nc).2 nc).2 z0).2 0).1,(partS bs (partS bs (pointS bs (colorS bs (colorS bs R nc).2 nc).2 z0).2 0).2 0).1⟩⟩,
   if (pointS bs (colorS bs (colorS bs R nc).2 nc).2 z0).1=⟨(partS bs (pointS bs (colorS bs (colorS bs R nc).2 nc).2 z0).2 0).1,(partS bs (partS bs (pointS bs (colorS bs (colorS bs R nc).2 nc).2 z0).2 0).2 0).1⟩
   then failS (partS bs (partS bs (pointS bs (colorS bs (colorS bs R nc).2 nc).2 z0).2 0).2 0).2 (partS bs (pointS bs (colorS bs (colorS bs R nc).2 nc).2 z0).2 0).2.pos 4
   else (partS bs (partS bs (pointS bs (colorS bs (colorS bs R nc).2 nc).2 z0).2 0).2 0).2)
attribute [local go_sem] cB cPt cCl cPaint
theorem paint_run {Gl:qzj} (hG:GlAll Gl) {bs:List Nat} (hl:bs.length < 100000) (hb:∀ x∈bs,x < 256) {i:Nat} {R:Rd} {I:IcV} {h:VH} (st:RAt bs i R I h) (kind:Int) (nc:Nat) (hc:lenSlV [I.vc]=some (.int .i64 nc)) (hn:nc≤256) (h0:0≤R.most) (h1:R.most≤2097152) (u0:0≤R.used) (u1:R.used≤nc) :
  CallsV Go.VL.Er.E Gl f_decode_reader_paint [.ptr i 0,.int .i64 kind] h (fun v h'=>v = .agg (cPaint (paintS bs R kind nc).1)∧RAt bs i (paintS bs R kind nc).2 I h'∧Fm i h h'):=by
 have hi:=st.1
 have hcu:=color_used bs R nc u0 u1
 have hcm:=color_most bs R nc
 have hcu2:=color_used bs (colorS bs R nc).2 nc hcu.1 hcu.2
 have hcm2:=color_most bs (colorS bs R nc).2 nc
 obtain ⟨P,hP⟩:∃ P,paintS bs R kind nc=P:=⟨_,rfl⟩
 have hP':=hP
 unfold paintS at hP
 rw [hP']
 refine qze E_decode_reader_paint ?_
 unfold c_decode_reader_paint r_decode_reader_paint
 simp only [qzl]
 have s1:RAt bs i R I ⟨(h.next,some (VB.cells [.int .i64 0,.int .i64 0,.int .i64 0,.int .i64 0,.int .i64 0,.int .i64 0,.int .i64 0] false))::h.l,h.next+1⟩:=st.add (Nat.le_refl _) (Nat.le_succ _)
 simp only [simprocAttr,-Int.reduceNatCast',go_sem]
 refine qzh (color_run hG hl hb s1 nc hc hn u0 (by omega)) ?_
 intro v h2 ⟨e,s2,fm2⟩
 subst e
 have n2:=fm2.1
 simp only at n2
 have b2:qza h2.l h.next=some (some (.cells [.int .i64 0,.int .i64 0,.int .i64 0,.int .i64 0,.int .i64 0,.int .i64 0,.int .i64 0] false)):=by rw [fm2.2 h.next (by show h.next < h.next+1;omega) (by omega)];simp only [qzb,if_true]
 have fm2':Fm i h h2:=⟨by omega,fun k k1 k2=>by rw [fm2.2 k (by show k < h.next+1;omega) k2];simp only [qzb];rw [if_neg (by omega)]⟩
 obtain ⟨A,hA⟩:∃ A,colorS bs R nc=A:=⟨_,rfl⟩
 obtain ⟨a,R2⟩:=A
 rw [hA] at s2 hcu hcm hcu2 hcm2 hP
 rw [hA]
 simp only at s2 hcu hcm hcu2 hcm2 hP ⊢
 have y1:¬h2.next=h.next:=by omega
 have y2:¬h.next=h2.next:=by omega
 by_cases k0:kind=0
 ·have c0:(kind == 0)=true:=by simp [k0]
  rw [if_pos k0] at hP
  simp only [simprocAttr,-Int.reduceNatCast',go_sem,c0,b2,y1,y2]
  rw [←hP]
  have s3:=(s2.add (b:=h2.next) (n:=h2.next+1) (x:=some (VB.cells [.int .i64 0,.int .i64 0,.int .i64 0,.int .i64 0,.int .i64 0,.int .i64 0,.int .i64 0] false)) (Nat.le_refl _) (Nat.le_succ _))
  have s4:=s3.put (b:=h2.next) (x:=some (VB.cells [.int .i64 kind,.int .i64 a,.int .i64 0,.int .i64 0,.int .i64 0,.int .i64 0,.int .i64 0] false)) (by omega) (by simp only [qzb,if_true];rfl) (fun _ _ e=>by simp at e)
  have s5:=s4.put (b:=h.next) (x:=some (VB.cells [.int .i64 kind,.int .i64 a,.int .i64 0,.int .i64 0,.int .i64 0,.int .i64 0,.int .i64 0] false)) (by omega) (by simp only [qzb];rw [if_neg y1,if_neg y1];exact b2) (fun _ _ e=>by simp at e)
  refine ⟨rfl,s5,?_⟩
  exact ((fm2'.put (b:=h2.next) (n:=h2.next+1) (by omega) (Nat.le_succ _)).put (b:=h2.next) (n:=h2.next+1) (by omega) (Nat.le_refl _)).put (by omega) (Nat.le_refl _)
 have c0:(kind == 0)=false:=by simp [k0]
 rw [if_neg k0] at hP
 have s3:=((s2.add (b:=h2.next) (n:=h2.next+1) (x:=some (VB.cells [.int .i64 0,.int .i64 0,.int .i64 0,.int .i64 0,.int .i64 0,.int .i64 0,.int .i64 0] false)) (Nat.le_refl _) (Nat.le_succ _))).put (b:=h2.next) (x:=some (VB.cells [.int .i64 kind,.int .i64 a,.int .i64 0,.int .i64 0,.int .i64 0,.int .i64 0,.int .i64 0] false)) (by omega) (by simp only [qzb,if_true];rfl) (fun _ _ e=>by simp at e)
 have f3:=(fm2'.put (b:=h2.next) (n:=h2.next+1) (x:=some (VB.cells [.int .i64 0,.int .i64 0,.int .i64 0,.int .i64 0,.int .i64 0,.int .i64 0,.int .i64 0] false)) (by omega) (Nat.le_succ _)).put (b:=h2.next) (n:=h2.next+1) (x:=some (VB.cells [.int .i64 kind,.int .i64 a,.int .i64 0,.int .i64 0,.int .i64 0,.int .i64 0,.int .i64 0] false)) (by omega) (Nat.le_refl _)
 simp only [simprocAttr,-Int.reduceNatCast',go_sem,c0,b2,y1,y2]
 refine qzh (color_run hG hl hb s3 nc hc hn hcu.1 (by omega)) ?_
 intro v h4 ⟨e,s4,fm4⟩
 subst e
 have n4:=fm4.1
 simp only at n4
 have b4:qza h4.l h2.next=some (some (.cells [.int .i64 kind,.int .i64 a,.int .i64 0,.int .i64 0,.int .i64 0,.int .i64 0,.int .i64 0] false)):=by rw [fm4.2 h2.next (by show h2.next < h2.next+1;omega) (by omega)];simp only [qzb,if_true]
 have b4':qza h4.l h.next=some (some (.cells [.int .i64 0,.int .i64 0,.int .i64 0,.int .i64 0,.int .i64 0,.int .i64 0,.int .i64 0] false)):=by rw [fm4.2 h.next (by show h.next < h2.next+1;omega) (by omega)];simp only [qzb];rw [if_neg y1,if_neg y1];exact b2
 have f4:=f3.trans fm4
 obtain ⟨B,hB⟩:∃ B,colorS bs R2 nc=B:=⟨_,rfl⟩
 obtain ⟨b,R3⟩:=B
 rw [hB] at s4 hcu2 hcm2 hP
 rw [hB]
 simp only at s4 hcu2 hcm2 hP ⊢
 simp only [simprocAttr,-Int.reduceNatCast',go_sem,b4]
 have s5:=s4.put (b:=h2.next) (x:=some (VB.cells [.int .i64 kind,.int .i64 a,.int .i64 b,.int .i64 0,.int .i64 0,.int .i64 0,.int .i64 0] false)) (by omega) b4 (fun _ _ e=>by simp at e)
 have f5:=f4.put (b:=h2.next) (n:=h4.next) (x:=some (VB.cells [.int .i64 kind,.int .i64 a,.int .i64 b,.int .i64 0,.int .i64 0,.int .i64 0,.int .i64 0] false)) (by omega) (Nat.le_refl _)
 have m3:R3.most=R.most:=hcm2.1.trans hcm.1
 refine qzh (point_run hG hl hb s5 z0 (by omega) (by omega) z0_nr) ?_
 intro v h6 ⟨e,s6,fm6⟩
 subst e
 have n6:=fm6.1
 simp only at n6
 have b6:qza h6.l h2.next=some (some (.cells [.int .i64 kind,.int .i64 a,.int .i64 b,.int .i64 0,.int .i64 0,.int .i64 0,.int .i64 0] false)):=by rw [fm6.2 h2.next (by show h2.next < h4.next;omega) (by omega)];simp only [qzb,if_true]
 have b6':qza h6.l h.next=some (some (.cells [.int .i64 0,.int .i64 0,.int .i64 0,.int .i64 0,.int .i64 0,.int .i64 0,.int .i64 0] false)):=by rw [fm6.2 h.next (by show h.next < h4.next;omega) (by omega)];simp only [qzb];rw [if_neg y1];exact b4'
 have f6:=f5.trans fm6
 have pm:=point_most bs R3 z0
 obtain ⟨C,hC⟩:∃ C,pointS bs R3 z0=C:=⟨_,rfl⟩
 obtain ⟨p,R4⟩:=C
 rw [hC] at s6 hP pm
 rw [hC]
 simp only at s6 hP pm ⊢
 have m4:R4.most=R.most:=pm.1.trans m3
 have s7:=s6.put (b:=h2.next) (x:=some (VB.cells [.int .i64 kind,.int .i64 a,.int .i64 b,.int .i64 p.x,.int .i64 p.y,.int .i64 0,.int .i64 0] false)) (by omega) b6 (fun _ _ e=>by simp at e)
 have f7:=f6.put (b:=h2.next) (n:=h6.next) (x:=some (VB.cells [.int .i64 kind,.int .i64 a,.int .i64 b,.int .i64 p.x,.int .i64 p.y,.int .i64 0,.int .i64 0] false)) (by omega) (Nat.le_refl _)
 have y3:¬h2.next=i:=by omega
 have st6:=s6
 obtain ⟨hn6,ev6,hi6,he6⟩:=s6
 unfold rC at hi6
 by_cases k2:kind=2
 ·have c2:(kind == 2)=true:=by simp [k2]
  rw [if_pos k2] at hP
  simp only [simprocAttr,-Int.reduceNatCast',go_sem,b6,c2,hi6,y3]
  refine qzh (ranged_run hG hl hb s7 1 R4.most (by omega) (by omega)) ?_
  intro v h8 ⟨e,s8,fm8⟩
  subst e
  have n8:=fm8.1
  simp only at n8
  have b8:qza h8.l h2.next=some (some (.cells [.int .i64 kind,.int .i64 a,.int .i64 b,.int .i64 p.x,.int .i64 p.y,.int .i64 0,.int .i64 0] false)):=by rw [fm8.2 h2.next (by show h2.next < h6.next;omega) (by omega)];simp only [qzb,if_true]
  have b8':qza h8.l h.next=some (some (.cells [.int .i64 0,.int .i64 0,.int .i64 0,.int .i64 0,.int .i64 0,.int .i64 0,.int .i64 0] false)):=by rw [fm8.2 h.next (by show h.next < h6.next;omega) (by omega)];simp only [qzb];rw [if_neg y1];exact b6'
  simp only [simprocAttr,-Int.reduceNatCast',go_sem,b8,b8',y1,y2]
  rw [←hP]
  have s9:=s8.put (b:=h2.next) (x:=some (VB.cells [.int .i64 kind,.int .i64 a,.int .i64 b,.int .i64 p.x,.int .i64 p.y,.int .i64 (rangedS bs R4 1 R4.most).1,.int .i64 0] false)) (by omega) b8 (fun _ _ e=>by simp at e)
  have s10:=s9.put (b:=h.next) (x:=some (VB.cells [.int .i64 kind,.int .i64 a,.int .i64 b,.int .i64 p.x,.int .i64 p.y,.int .i64 (rangedS bs R4 1 R4.most).1,.int .i64 0] false)) (by omega) (by simp only [qzb];rw [if_neg y1];exact b8') (fun _ _ e=>by simp at e)
  exact ⟨rfl,s10,(((f7.trans fm8).put (b:=h2.next) (n:=h8.next) (by omega) (Nat.le_refl _)).put (by omega) (Nat.le_refl _))⟩
 have c2:(kind == 2)=false:=by simp [k2]
 rw [if_neg k2] at hP
 simp only [simprocAttr,-Int.reduceNatCast',go_sem,b6,c2,hi6,y3]
 refine qzh (part_run hG hl hb s7 0 (by omega) (by omega) (by omega) (by omega)) ?_
 intro v h8 ⟨e,s8,fm8⟩
 subst e
 have n8:=fm8.1
 simp only at n8
 have b8:qza h8.l h2.next=some (some (.cells [.int .i64 kind,.int .i64 a,.int .i64 b,.int .i64 p.x,.int .i64 p.y,.int .i64 0,.int .i64 0] false)):=by rw [fm8.2 h2.next (by show h2.next < h6.next;omega) (by omega)];simp only [qzb,if_true]
 have b8':qza h8.l h.next=some (some (.cells [.int .i64 0,.int .i64 0,.int .i64 0,.int .i64 0,.int .i64 0,.int .i64 0,.int .i64 0] false)):=by rw [fm8.2 h.next (by show h.next < h6.next;omega) (by omega)];simp only [qzb];rw [if_neg y1];exact b6'
 have xm:=part_most bs R4 0
 obtain ⟨D,hD⟩:∃ D,partS bs R4 0=D:=⟨_,rfl⟩
 obtain ⟨x,R5⟩:=D
 rw [hD] at s8 hP xm
 rw [hD]
 simp only at s8 hP xm ⊢
 have s9:=s8.put (b:=h2.next) (x:=some (VB.cells [.int .i64 kind,.int .i64 a,.int .i64 b,.int .i64 p.x,.int .i64 p.y,.int .i64 x,.int .i64 0] false)) (by omega) b8 (fun _ _ e=>by simp at e)
 have f9:=(f7.trans fm8).put (b:=h2.next) (n:=h8.next) (x:=some (VB.cells [.int .i64 kind,.int .i64 a,.int .i64 b,.int .i64 p.x,.int .i64 p.y,.int .i64 x,.int .i64 0] false)) (by omega) (Nat.le_refl _)
 obtain ⟨hn8,ev8,hi8,he8⟩:=s8
 unfold rC at hi8
 simp only [simprocAttr,-Int.reduceNatCast',go_sem,b8,hi8,y3]
 refine qzh (part_run hG hl hb s9 0 (by omega) (by omega) (by omega) (by omega)) ?_
 intro v h10 ⟨e,s10,fm10⟩
 subst e
 have n10:=fm10.1
 simp only at n10
 have b10:qza h10.l h2.next=some (some (.cells [.int .i64 kind,.int .i64 a,.int .i64 b,.int .i64 p.x,.int .i64 p.y,.int .i64 x,.int .i64 0] false)):=by rw [fm10.2 h2.next (by show h2.next < h8.next;omega) (by omega)];simp only [qzb,if_true]
 have b10':qza h10.l h.next=some (some (.cells [.int .i64 0,.int .i64 0,.int .i64 0,.int .i64 0,.int .i64 0,.int .i64 0,.int .i64 0] false)):=by rw [fm10.2 h.next (by show h.next < h8.next;omega) (by omega)];simp only [qzb];rw [if_neg y1];exact b8'
 obtain ⟨F,hF⟩:∃ F,partS bs R5 0=F:=⟨_,rfl⟩
 obtain ⟨y,R6⟩:=F
 rw [hF] at s10 hP
 rw [hF]
 simp only at s10 hP ⊢
 have f10:=f9.trans fm10
 have s11:=s10.put (b:=h2.next) (x:=some (VB.cells [.int .i64 kind,.int .i64 a,.int .i64 b,.int .i64 p.x,.int .i64 p.y,.int .i64 x,.int .i64 y] false)) (by omega) b10 (fun _ _ e=>by simp at e)
 have f11:=f10.put (b:=h2.next) (n:=h10.next) (x:=some (VB.cells [.int .i64 kind,.int .i64 a,.int .i64 b,.int .i64 p.x,.int .i64 p.y,.int .i64 x,.int .i64 y] false)) (by omega) (Nat.le_refl _)
 have g4:qza Gl 8=some [erP 4]:=(hG 4 (by omega)).1
 by_cases pe:p=⟨x,y⟩
 ·rw [if_pos pe] at hP
  have px:(p.x == x)=true:=by rw [pe];simp
  have py:(p.y == y)=true:=by rw [pe];simp
  simp only [simprocAttr,-Int.reduceNatCast',go_sem,b10,px,py,g_ErrRange,g4]
  refine qzh (fails_run s11 R5.pos 4) ?_
  intro v h12 ⟨s12,fm12⟩
  have n12:=fm12.1
  simp only at n12
  have b12:qza h12.l h2.next=some (some (.cells [.int .i64 kind,.int .i64 a,.int .i64 b,.int .i64 p.x,.int .i64 p.y,.int .i64 x,.int .i64 y] false)):=by rw [fm12.2 h2.next (by show h2.next < h10.next;omega) (by omega)];simp only [qzb,if_true]
  have b12':qza h12.l h.next=some (some (.cells [.int .i64 0,.int .i64 0,.int .i64 0,.int .i64 0,.int .i64 0,.int .i64 0,.int .i64 0] false)):=by rw [fm12.2 h.next (by show h.next < h10.next;omega) (by omega)];simp only [qzb];rw [if_neg y1];exact b10'
  simp only [simprocAttr,-Int.reduceNatCast',go_sem,b12,b12',y1,y2]
  rw [←hP]
  exact ⟨rfl,s12.put (by omega) b12' (fun _ _ e=>by simp at e),(f11.trans fm12).put (by omega) (Nat.le_refl _)⟩
 ·rw [if_neg pe] at hP
  have pq:¬p.x=x∨¬p.y=y:=by
   rcases Decidable.em (p.x=x) with q | q
   ·exact .inr fun r=>pe (by cases p;simp at q r;rw [q,r])
   ·exact .inl q
  have fin:RAt bs i R6 I ⟨(h.next,some (VB.cells [.int .i64 kind,.int .i64 a,.int .i64 b,.int .i64 p.x,.int .i64 p.y,.int .i64 x,.int .i64 y] false))::(h2.next,some (VB.cells [.int .i64 kind,.int .i64 a,.int .i64 b,.int .i64 p.x,.int .i64 p.y,.int .i64 x,.int .i64 y] false))::h10.l,h10.next⟩:=s11.put (by omega) (by simp only [qzb];rw [if_neg y1];exact b10') (fun _ _ e=>by simp at e)
  rcases pq with q | q
  ·have px:(p.x == x)=false:=by simp [q]
   simp only [simprocAttr,-Int.reduceNatCast',go_sem,b10,b10',px,y1,y2]
   rw [←hP]
   exact ⟨rfl,fin,f11.put (by omega) (Nat.le_refl _)⟩
  ·have py:(p.y == y)=false:=by simp [q]
   by_cases qx:p.x=x
   ·have px:(p.x == x)=true:=by simp [qx]
    simp only [simprocAttr,-Int.reduceNatCast',go_sem,b10,b10',px,py,y1,y2]
    rw [←hP]
    exact ⟨rfl,fin,f11.put (by omega) (Nat.le_refl _)⟩
   ·have px:(p.x == x)=false:=by simp [qx]
    simp only [simprocAttr,-Int.reduceNatCast',go_sem,b10,b10',px,py,y1,y2]
    rw [←hP]
    exact ⟨rfl,fin,f11.put (by omega) (Nat.le_refl _)⟩
end
end Go.VL.Dc
namespace Go.VL.Dc
open Go.FR Go.IR Go.VL Go.VL.Er Go.VL.Color Go.VL.Wind Go.VL.Ic Go.VL.Wire
noncomputable section
set_option maxRecDepth 100000
set_option maxHeartbeats 1000000
def segMk (kind:Int):List Pt→Seg
 | []=>⟨kind,z0,z0,z0⟩
 | [p]=>⟨kind,p,z0,z0⟩
 | [p,q]=>⟨kind,p,q,z0⟩
 | p::q::r::_=>⟨kind,p,q,r⟩
def ptsLp (bs:List Nat):Nat→Rd→Pt→List Pt × Rd
 | 0,R,_=>([],R)
 | n+1,R,a=>((pointS bs R a).1::(ptsLp bs n (pointS bs R a).2 (pointS bs R a).1).1,(ptsLp bs n (pointS bs R a).2 (pointS bs R a).1).2)
theorem pts_most (bs:List Nat):∀ (n:Nat) (R:Rd) (a:Pt),(ptsLp bs n R a).2.most=R.most∧(ptsLp bs n R a).2.used=R.used∧(ptsLp bs n R a).2.pts=R.pts∧(ptsLp bs n R a).1.length=n
 | 0,R,a=>⟨rfl,rfl,rfl,rfl⟩
 | n+1,R,a=>by
  have h:=point_most bs R a
  have g:=pts_most bs n (pointS bs R a).2 (pointS bs R a).1
  exact ⟨g.1.trans h.1,g.2.1.trans h.2.1,g.2.2.1.trans h.2.2,by show (_::_).length=_;rw [List.length_cons,g.2.2.2]⟩
theorem pts_near (bs:List Nat):∀ (n:Nat) (R:Rd) (a:Pt),0≤R.most→R.most≤2097152→Nr a→Nr (En.lastPt a (ptsLp bs n R a).1)
 | 0,R,a,_,_,h=>h
 | n+1,R,a,h0,h1,h=>by
  have m:=point_most bs R a
  exact pts_near bs n (pointS bs R a).2 (pointS bs R a).1 (by rw [m.1];exact h0) (by rw [m.1];exact h1) (point_in bs R a h0 h1)
def Fr3 (i ia ib:Nat) (h h':VH):Prop:=h.next≤h'.next∧∀ k,k < h.next→k≠i→k≠ia→k≠ib→qza h'.l k=qza h.l k
attribute [local go_sem] cB cPt cCl cPaint cSeg
theorem pts_loop {Gl:qzj} (hG:GlAll Gl) {bs:List Nat} (hl:bs.length < 100000) (hb:∀ x∈bs,x < 256) (i ia ib:Nat) (hab:ia≠ib) (hia:ia≠i) (hib:ib≠i) (kind:Nat) (hk:kind≤3) (I:IcV) (F:List Pt × Rd) (a0:Pt) (H0:VH) (T0:VF) (K:AEx→VF→VH→Prop)
  (hK:∀ T h,(∀ k,k < 110→k≠13→qza T k=qza T0 k)→RAt bs i F.2 I h→qza h.l ia=some (some (.cells (cPt (En.lastPt a0 F.1)) false))→qza h.l ib=some (some (.cells (cSeg (segMk kind F.1)) false))→ia < h.next→ib < h.next→Fr3 i ia ib H0 h→K (.exit 3) T h)
  (u0:qza T0 0=some (.ptr i 0)) (u5:qza T0 5=some (.ptr ia 0)) (u12:qza T0 12=some (.ptr ib 0)) :
  ∀ (d k:Nat) (T:VF) (h:VH) (l:List Pt) (R:Rd),d+k=kind→l.length=k→F=(l++(ptsLp bs d R (En.lastPt a0 l)).1,(ptsLp bs d R (En.lastPt a0 l)).2)→RAt bs i R I h→0≤R.most→R.most≤2097152→Nr (En.lastPt a0 l) →
   qza h.l ia=some (some (.cells (cPt (En.lastPt a0 l)) false))→qza h.l ib=some (some (.cells (cSeg (segMk kind l)) false))→ia < h.next→ib < h.next→Fr3 i ia ib H0 h→(∀ k,k < 110→k≠13→qza T k=qza T0 k)→qza T 110=some (.int .i64 kind)→qza T 111=some (.int .i64 k) →
  wp Go.VL.Er.E Gl (.loop c_decode_reader_run_l0) T h K:=by
 intro d
 induction d with
 | zero =>
  intro k T h l R hd hlk hF st m0 m1 nr ja jb na nb fr hT t110 t111
  obtain rfl:k=kind:=by omega
  refine qzi c_decode_reader_run_l0.eq_1 ?_
  simp only [simprocAttr,-Int.reduceNatCast',go_sem,t110,t111,Int.lt_irrefl]
  rw [ptsLp,List.append_nil] at hF
  subst hF
  refine hK _ _ (fun k q1 q2 => ?_) st ja jb na nb fr
  simp only [qzb]
  (repeat rw [if_neg (by omega)])
  exact hT k q1 q2
 | succ d ih =>
  intro k T h l R hd hlk hF st m0 m1 nr ja jb na nb fr hT t110 t111
  have t0:=(hT 0 (by omega) (by omega)).trans u0
  have t5:=(hT 5 (by omega) (by omega)).trans u5
  have t12:=(hT 12 (by omega) (by omega)).trans u12
  have c:(k:Int) < kind:=by omega
  have c3:k < 3:=by omega
  have zk:=natV_nat .i64 k
  have hw:IntKind.i64.wrap ((k:Int)+1)=((k+1:Nat):Int):=by rw [qzd (by omega) (by omega)];rfl
  obtain ⟨a,ea⟩:∃ a,En.lastPt a0 l=a:=⟨_,rfl⟩
  rw [ea] at hF nr ja
  refine qzi c_decode_reader_run_l0.eq_1 ?_
  simp only [simprocAttr,-Int.reduceNatCast',go_sem,t110,t111,c,t0,t5,t12,ja]
  refine qzh (point_run hG hl hb st a m0 m1 nr) ?_
  intro v h2 ⟨e,s2,fm2⟩
  subst e
  have n2:=fm2.1
  have ja2:=(fm2.2 ia na hia).trans ja
  have jb2:=(fm2.2 ib nb hib).trans jb
  have pm:=point_most bs R a
  have pi:=point_in bs R a m0 m1
  rw [ptsLp] at hF
  generalize pointS bs R a=q at *
  obtain ⟨p,R2⟩:=q
  simp only at s2 hF pm pi ⊢
  have y1:¬ia=ib:=hab
  have y2:¬ib=ia:=Ne.symm hab
  have el:En.lastPt a0 (l++[p])=p:=En.last_snoc l a0 p
  have kc:k=0∨k=1∨k=2:=by omega
  have cells:∃ C,qza h2.l ib=some (some (.cells C false))∧1+k*2+2≤C.length∧C.take (1+k*2) ++ .int .i64 p.x :: .int .i64 p.y::C.drop (1+k*2+2)=cSeg (segMk kind (l++[p]))∧(∀ pos q,C≠[.int .i64 pos,erP q]):=by
   refine ⟨_,jb2,?_⟩
   rcases kc with rfl | rfl | rfl
   ·obtain rfl:l=[]:=List.length_eq_zero_iff.mp hlk
    exact ⟨by simp,rfl,fun _ _ e=>by simp at e⟩
   ·obtain ⟨x,rfl⟩:=List.length_eq_one_iff.mp hlk
    exact ⟨by simp,rfl,fun _ _ e=>by simp at e⟩
   ·obtain ⟨x,y,rfl⟩:∃ x y,l=[x,y]:=by
     rcases l with _ | ⟨x,_ | ⟨y,_ | ⟨z,l⟩⟩⟩
     ·simp at hlk
     ·simp at hlk
     ·exact ⟨x,y,rfl⟩
     ·simp at hlk
    exact ⟨by simp,rfl,fun _ _ e=>by simp at e⟩
  obtain ⟨C,jC,lC,sC,nC⟩:=cells
  simp only [simprocAttr,-Int.reduceNatCast',go_sem,t0,t5,t12,t111,ja2,jC,lC,sC,zk,c3,y1,y2,hw]
  have s3:=(s2.put (b:=ia) (x:=some (VB.cells (cPt p) false)) hia ja2 (fun _ _ e=>by simp at e)).put (b:=ib) (x:=some (VB.cells (cSeg (segMk kind (l++[p]))) false)) hib (by simp only [qzb];rw [if_neg hab];exact jC) nC
  refine ih (k+1) _ _ (l++[p]) R2 (by omega) (by rw [List.length_append,hlk];rfl) (by rw [el,hF,List.append_assoc];rfl) s3 (by rw [pm.1];exact m0) (by rw [pm.1];exact m1) (by rw [el];exact pi) ?_ ?_ (by show ia < h2.next;omega) (by show ib < h2.next;omega) ⟨by show H0.next≤h2.next;have:=fr.1;omega,fun k q1 q2 q3 q4 => ?_⟩ (fun k q1 q2 => ?_) ?_ ?_
  ·rw [el];simp only [qzb];rw [if_neg (Ne.symm hab),if_pos trivial]
  ·simp only [qzb,if_true]
  ·simp only [qzb]
   rw [if_neg (Ne.symm q4),if_neg (Ne.symm q3),fm2.2 k (by have:=fr.1;omega) q2]
   exact fr.2 k q1 q2 q3 q4
  ·simp only [qzb]
   (repeat rw [if_neg (by omega)])
   exact hT k q1 q2
  ·simp only [simprocAttr,-Int.reduceNatCast',go_sem,t110]
  ·simp only [simprocAttr,-Int.reduceNatCast',go_sem]
end
end Go.VL.Dc
namespace Go.VL.Dc
open Go.FR Go.IR Go.VL Go.VL.Er Go.VL.Color Go.VL.Wind Go.VL.Ic Go.VL.Wire
noncomputable section
set_option maxRecDepth 100000
set_option maxHeartbeats 1000000
def ErrBlk (h:VH) (k:Nat):Prop:=∃ pos q,qza h.l k=some (some (.cells [.int .i64 pos,erP q] false))
theorem RAt.frame {bs:List Nat} {i:Nat} {R:Rd} {I:IcV} {h h':VH} (s:RAt bs i R I h) (hn:h.next≤h'.next) (hf:∀ k,k < h.next→(k=i∨ErrBlk h k)→qza h'.l k=qza h.l k):RAt bs i R I h':=by
 obtain ⟨a,ev,b,c⟩:=s
 refine ⟨by omega,ev,by rw [hf i a (.inl rfl)];exact b,?_⟩
 rcases c with c | ⟨k,pos,j,a1,a2,a3,a4,a5⟩
 ·exact .inl c
 ·exact .inr ⟨k,pos,j,a1,a2,by rw [hf j a4 (.inr ⟨pos,k,a3⟩)];exact a3,by omega,a5⟩
theorem acc_nerr {base:Nat} {h:VH} {j:Nat} {S:List Seg} {v:VV} (a:qzm base h j cSeg S 7 v) {k:Nat} (hk:ErrBlk h k):k≠j∨v = .nilS:=by
 rcases a with ⟨_,e⟩ | ⟨_,a2,_,_⟩
 ·exact .inr e
 ·left
  rintro rfl
  obtain ⟨pos,q,e⟩:=hk
  rw [e] at a2
  simp only [Option.some.injEq,VB.cells.injEq,and_true] at a2
  have:=congrArg List.length a2
  rw [flatL_length cSeg_len] at this
  simp at this
  omega
def segLp (bs:List Nat) (kind:Nat):Nat→Rd→Pt→List Seg→List Seg × Pt × Rd
 | 0,R,a,S=>(S,a,R)
 | n+1,R,a,S=>if isN (ptsLp bs kind R a).2.err=false then (S,En.lastPt a (ptsLp bs kind R a).1,(ptsLp bs kind R a).2) else segLp bs kind n (ptsLp bs kind R a).2 (En.lastPt a (ptsLp bs kind R a).1) (S++[segMk kind (ptsLp bs kind R a).1])
def Kr (i ip ia:Nat) (hA:VH) (jA:Nat) (vA:VV) (hB:VH) (jB:Nat) (vB:VV):Prop:=hA.next≤hB.next∧∀ k,k < hA.next→k≠i→k≠ip→k≠ia→(k≠jA∨vA = .nilS)→qza hB.l k=qza hA.l k∧(k≠jB∨vB = .nilS)
theorem Kr.refl {i ip ia:Nat} {h:VH} {j:Nat} {v:VV}:Kr i ip ia h j v h j v:=⟨Nat.le_refl _,fun k _ _ _ _ h=>⟨rfl,h⟩⟩
theorem Kr.trans {i ip ia:Nat} {h1 h2 h3:VH} {j1 j2 j3:Nat} {v1 v2 v3:VV} (p:Kr i ip ia h1 j1 v1 h2 j2 v2) (q:Kr i ip ia h2 j2 v2 h3 j3 v3):Kr i ip ia h1 j1 v1 h3 j3 v3 :=
 ⟨Nat.le_trans p.1 q.1,fun k k1 k2 k3 k4 k5=>by
  obtain ⟨a1,a2⟩:=p.2 k k1 k2 k3 k4 k5
  obtain ⟨c1,c2⟩:=q.2 k (Nat.lt_of_lt_of_le k1 p.1) k2 k3 k4 a2
  exact ⟨c1.trans a1,c2⟩⟩
structure PSt (bs:List Nat) (i ip ia base:Nat) (I:IcV) (x y cl:VV) (S:List Seg) (a:Pt) (R:Rd) (h:VH) (js:Nat) (vs:VV):Prop where
 r:RAt bs i R I h
 p:qza h.l ip=some (some (.cells [x,y,vs,cl] false))
 s:qzm base h js cSeg S 7 vs
 a:qza h.l ia=some (some (.cells (cPt a) false))
 n:base≤h.next
 q:ia < h.next
 e:ia≠js∨vs = .nilS
attribute [local go_sem] cB cPt cCl cPaint cSeg
theorem segs_loop {Gl:qzj} (hG:GlAll Gl) {bs:List Nat} (hl:bs.length < 100000) (hb:∀ x∈bs,x < 256) (i ip ia ir base:Nat) (hi:i < base) (hp:ip < base) (hia:ia≠i) (hip:ip≠i) (hap:ia≠ip) (hra:ir≠ia) (hrp:ir≠ip) (hri:ir≠i) (kind:Nat) (hk:kind≤3) (many:Nat) (I:IcV) (x y cl:VV) (hx:ntV x=true) (F:List Seg × Pt × Rd) (HS:VH) (JS:Nat) (VS:VV) (hrn:ir < HS.next) (hrj:ir≠JS∨VS = .nilS) (z:Pt) (hrz:qza HS.l ir=some (some (.cells (cPt z) false))) (T0:VF) (K:AEx→VF→VH→Prop)
  (hK:∀ T h js vs,(∀ k,k < 105→k≠12→k≠13→qza T k=qza T0 k)→PSt bs i ip ia base I x y cl F.1 F.2.1 F.2.2 h js vs→Kr i ip ia HS JS VS h js vs→K (.exit 1) T h)
  (hR:∀ T h js vs,(∀ k,k < 105→k≠12→k≠13→qza T k=qza T0 k)→PSt bs i ip ia base I x y cl F.1 F.2.1 F.2.2 h js vs→Kr i ip ia HS JS VS h js vs→K .ret T ⟨(ir,some (.cells (cPt F.2.1) false))::h.l,h.next⟩)
  (u0:qza T0 0=some (.ptr i 0)) (u1:qza T0 1=some (.ptr ip 0)) (u5:qza T0 5=some (.ptr ia 0)) (u6:qza T0 6=some (.ptr ir 0)) (u9:qza T0 9=some (.int .i64 kind)) (hm:many≤400) :
  ∀ (d k:Nat) (T:VF) (h:VH) (js:Nat) (vs:VV) (S:List Seg) (a:Pt) (R:Rd),d+k=many→S.length+d≤400→F=segLp bs kind d R a S→PSt bs i ip ia base I x y cl S a R h js vs→Kr i ip ia HS JS VS h js vs→0≤R.most→R.most≤2097152→Nr a →
   (∀ k,k < 105→k≠12→k≠13→qza T k=qza T0 k)→qza T 105=some (.int .u64 many)→qza T 106=some (.int .u64 k) →
  wp Go.VL.Er.E Gl (.loop c_decode_reader_run_l1) T h K:=by
 intro d
 induction d with
 | zero =>
  intro k T h js vs S a R hd hS hF st kr m0 m1 nr hT t105 t106
  obtain rfl:k=many:=by omega
  refine qzi c_decode_reader_run_l1.eq_1 ?_
  simp only [simprocAttr,-Int.reduceNatCast',go_sem,t105,t106,Int.lt_irrefl]
  subst hF
  refine hK _ _ js vs (fun k q1 q2 q3 => ?_) st kr
  simp only [qzb]
  (repeat rw [if_neg (by omega)])
  exact hT k q1 q2 q3
 | succ d ih =>
  intro k T h js vs S a R hd hS hF st kr m0 m1 nr hT t105 t106
  have t0:=(hT 0 (by omega) (by omega) (by omega)).trans u0
  have t1:=(hT 1 (by omega) (by omega) (by omega)).trans u1
  have t5:=(hT 5 (by omega) (by omega) (by omega)).trans u5
  have t6:=(hT 6 (by omega) (by omega) (by omega)).trans u6
  have t9:=(hT 9 (by omega) (by omega) (by omega)).trans u9
  have c:(k:Int) < many:=by omega
  have hw:IntKind.u64.wrap ((k:Int)+1)=((k+1:Nat):Int):=by rw [Go.VL.Wire.wrap_u64];omega
  have n:=st.n
  have q:=st.q
  have rn:=st.r.1
  refine qzi c_decode_reader_run_l1.eq_1 ?_
  simp only [simprocAttr,-Int.reduceNatCast',go_sem,t105,t106,c,t9]
  have s1:RAt bs i R I ⟨(h.next,some (VB.cells (cSeg (segMk kind [])) false))::(h.next,some (VB.cells [.int .i64 0,.int .i64 0,.int .i64 0,.int .i64 0,.int .i64 0,.int .i64 0,.int .i64 0] false))::h.l,h.next+1⟩:=st.r.move (by show h.next≤h.next+1;omega) (fun k k1=>by simp only [qzb];rw [if_neg (by omega),if_neg (by omega)])
  refine pts_loop hG hl hb i ia h.next (by omega) hia (by omega) kind hk I (ptsLp bs kind R a) a ⟨(h.next,some (VB.cells (cSeg (segMk kind [])) false))::(h.next,some (VB.cells [.int .i64 0,.int .i64 0,.int .i64 0,.int .i64 0,.int .i64 0,.int .i64 0,.int .i64 0] false))::h.l,h.next+1⟩ _ _ ?_ ?_ ?_ ?_ kind 0 _ _ [] R (by omega) rfl rfl s1 m0 m1 nr (by simp only [qzb];rw [if_neg (by omega),if_neg (by omega)];exact st.a) (by simp only [qzb,if_true];rfl) (by show ia < h.next+1;omega) (by show h.next < h.next+1;omega) ⟨Nat.le_refl _,fun _ _ _ _ _=>rfl⟩ (fun _ _ _=>rfl) ?_ ?_
  rotate_left
  ·simp only [simprocAttr,-Int.reduceNatCast',go_sem,t0]
  ·simp only [simprocAttr,-Int.reduceNatCast',go_sem,t5]
  ·simp only [simprocAttr,-Int.reduceNatCast',go_sem]
  ·simp only [simprocAttr,-Int.reduceNatCast',go_sem,t9]
  ·simp only [simprocAttr,-Int.reduceNatCast',go_sem];rfl
  intro T2 h2 hT2 s2 ja2 jb2 na2 nb2 fr2
  have w0:=hT2 0 (by omega) (by omega)
  have w1:=hT2 1 (by omega) (by omega)
  have w5:=hT2 5 (by omega) (by omega)
  have w6:=hT2 6 (by omega) (by omega)
  have w12:=hT2 12 (by omega) (by omega)
  have w105:=hT2 105 (by omega) (by omega)
  have w106:=hT2 106 (by omega) (by omega)
  simp only [qzb,Nat.reduceEqDiff,if_true,if_false,t0,t1,t5,t6,t105,t106] at w0 w1 w5 w6 w12 w105 w106
  rw [segLp] at hF
  have mm:=pts_most bs kind R a
  have nr2:=pts_near bs kind R a m0 m1 nr
  generalize ptsLp bs kind R a=Q at *
  obtain ⟨l,R2⟩:=Q
  simp only at s2 ja2 jb2 hF mm nr2
  have n2:=fr2.1
  simp only at n2
  have fr:∀ k,k < h.next→k≠i→k≠ia→qza h2.l k=qza h.l k:=fun k k1 k2 k3=>by
   rw [fr2.2 k (by show k < h.next+1;omega) k2 k3 (by omega)];simp only [qzb];rw [if_neg (by omega),if_neg (by omega)]
  have jp2:=(fr ip (by omega) hip (Ne.symm hap)).trans st.p
  have ac2:qzm base h2 js cSeg S 7 vs:=by
   rcases st.s with e | ⟨e1,e2,e3,e4⟩
   ·exact .inl e
   ·refine .inr ⟨e1,?_,e3,by omega⟩
    rw [fr js e4 (by omega) ?_];exact e2
    rcases st.e with q | q
    ·exact Ne.symm q
    ·rw [q] at e1;exact nomatch e1
  have kr2:Kr i ip ia HS JS VS h2 js vs:=kr.trans ⟨by omega,fun k k1 k2 k3 k4 k5=>⟨fr k k1 k2 k4,k5⟩⟩
  have st2:PSt bs i ip ia base I x y cl S (En.lastPt a l) R2 h2 js vs:=⟨s2,jp2,ac2,ja2,by omega,na2,st.e⟩
  have s2':=s2
  obtain ⟨hn3,ev3,hi3,he3⟩:=s2'
  have e0:=he3.er0 Gl
  have e1:=he3.er1 Gl
  unfold rC at hi3
  have ir2:qza h2.l ir=some (some (.cells (cPt z) false)):=by rw [(kr2.2 ir hrn hri hrp hra hrj).1];exact hrz
  cases ce:isN R2.err
  ·rw [ce] at e0 e1
   rw [if_pos ce] at hF
   subst hF
   simp only [simprocAttr,-Int.reduceNatCast',go_sem,w0,w5,w6,hi3,↓e0,↓e1,ja2,ir2]
   refine hR _ h2 js vs (fun k q1 q2 q3 => ?_) st2 kr2
   simp only [qzb]
   (repeat rw [if_neg (by omega)])
   rw [hT2 k (by omega) q3]
   simp only [qzb]
   (repeat rw [if_neg (by omega)])
   exact hT k q1 q2 q3
  ·rw [ce] at e0 e1
   rw [if_neg (by rw [ce];simp)] at hF
   simp only [simprocAttr,-Int.reduceNatCast',go_sem,w0,w1,w12,hi3,↓e0,↓e1,jp2,jb2]
   have acc':qzm base ⟨(h2.next,some (VB.cells (cSeg (segMk kind l)) false))::h2.l,h2.next+1⟩ js cSeg S 7 vs:=ac2.ext (by show h2.next≤h2.next+1;omega) (fun x y=>by simp only [qzb];rw [if_neg (by omega)])
   refine wpW_acc (base:=base) (j:=js) (f:=cSeg) (l:=S) (a:=segMk kind l) acc' (by first | (simp only [simprocAttr,-Int.reduceNatCast',go_sem];done) | (simp only [simprocAttr,-Int.reduceNatCast',go_sem];rfl)) cSeg_len (by omega) (by show base≤h2.next+1;omega) (by omega) (by omega) ?_
   intro h' g1 g2 g3
   simp only at g1 g2 g3
   have fr':∀ k,k < h2.next→(k≠js∨vs = .nilS)→qza h'.l k=qza h2.l k:=fun k k1 k2=>by
    rw [g2 k (by omega) k2];simp only [qzb];rw [if_neg (by omega)]
   have jp3:=(fr' ip (by omega) (ac2.ne (.inl hp))).trans jp2
   have ja3:=(fr' ia na2 st.e).trans ja2
   simp only [simprocAttr,-Int.reduceNatCast',go_sem,w1,w106,jp3,hw]
   have s3:RAt bs i R2 I h':=s2.frame (by omega) (fun k k1 k2=>fr' k k1 (by
    rcases k2 with rfl | k2
    ·exact ac2.ne (.inl hi)
    ·exact acc_nerr ac2 k2))
   refine ih (k+1) _ _ (h2.next+1) (.slice (h2.next+1) 0 (S.length+1) 7 (.toEnd 7)) (S++[segMk kind l]) (En.lastPt a l) R2 (by omega) (by rw [List.length_append,List.length_cons,List.length_nil];omega) hF ⟨s3.put hip jp3 (fun _ _ e=>by simp at e),by simp only [qzb,if_true],g3.ext (Nat.le_refl _) (fun x y=>by simp only [qzb];rw [if_neg (by omega)]),by simp only [qzb];rw [if_neg (Ne.symm hap)];exact ja3,by show base≤h'.next;omega,by show ia < h'.next;omega,.inl (by omega)⟩
    (kr2.trans ⟨by show h2.next≤h'.next;omega,fun k k1 k2 k3 k4 k5=>⟨by simp only [qzb];rw [if_neg (Ne.symm k3),fr' k k1 k5],.inl (by omega)⟩⟩) (by rw [mm.1];exact m0) (by rw [mm.1];exact m1) nr2 (fun k q1 q2 q3 => ?_) ?_ ?_
   ·simp only [qzb]
    (repeat rw [if_neg (by omega)])
    rw [hT2 k (by omega) q3]
    simp only [qzb]
    (repeat rw [if_neg (by omega)])
    exact hT k q1 q2 q3
   ·simp only [simprocAttr,-Int.reduceNatCast',go_sem,w105]
   ·simp only [simprocAttr,-Int.reduceNatCast',go_sem]
end
end Go.VL.Dc
