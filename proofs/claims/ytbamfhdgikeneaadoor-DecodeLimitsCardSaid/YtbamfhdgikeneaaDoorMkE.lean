/- A command. -/
import Derived.Test.YtbamfhdgikeneaaDoorVlK
import Derived.Test.YtbamfhdgikeneaaDoorCpA
set_option linter.unusedSimpArgs false
set_option linter.unusedVariables false
namespace Go.VL.Mk
open Go.FR Go.IR Go.VL Go.VL.Color Go.VL.Wind Go.VL.Ic
noncomputable section
set_option maxRecDepth 100000
set_option maxHeartbeats 1000000
def kindN (l:List Int) (a:Nat):Nat:=(nextS l a 2).toNat+1
def ruleS (l:List Int) (a:Nat):Int:=if kindN l a=1 then nextS l (a+1) 2 else 0
def widthS (l:List Int) (far:Int) (a:Nat):Int:=if kindN l a=1 then 0 else 1+nextS l (a+1) (max (far.tdiv 2) 1)
def pkS (l:List Int) (a:Nat):Int:=nextS l (a+2) 3
def cols1 (l:List Int) (a:Nat) (cs:List Cl):List Cl:=addI cs (colorS l (a+3))
def colsOf (l:List Int) (a:Nat) (cs:List Cl):List Cl:=if pkS l a=0 then cols1 l a cs else addI (cols1 l a cs) (colorS l (a+4))
def bS (l:List Int) (a:Nat) (cs:List Cl):Int:=if pkS l a=0 then 0 else addP (cols1 l a cs) (colorS l (a+4))
def pS (l:List Int) (far:Int) (a:Nat):Pt:=if pkS l a=0 then zP else pointS l (a+5) far
def moveS (p q:Pt):Pt:=if p.x=q.x∧p.y=q.y then ⟨q.x+1,q.y⟩ else q
def qS (l:List Int) (far:Int) (a:Nat):Pt:=if pkS l a=0 then zP else if pkS l a=1 then moveS (pointS l (a+5) far) (pointS l (a+7) far) else ⟨1+nextS l (a+7) far,0⟩
def thenS (l:List Int) (a:Nat):Nat:=if pkS l a=0 then a+4 else if pkS l a=1 then a+9 else a+8
def pathsN (l:List Int) (a:Nat):Nat:=(nextS l (thenS l a) 3).toNat+1
def cmdOf (l:List Int) (far:Int) (a:Nat) (cs:List Cl):Cmd:=⟨kindN l a,ruleS l a,widthS l far a,⟨pkS l a,addP cs (colorS l (a+3)),bS l a cs,pS l far a,qS l far a⟩,pathsS l far (kindN l a) (pathsN l a) (thenS l a+1)⟩
def cmdEnd (l:List Int) (a:Nat):Nat:=pathsEnd l (kindN l a) (pathsN l a) (thenS l a+1)
theorem kind_in (l:List Int) (a:Nat):(kindN l a=1∧nextS l a 2=0)∨(kindN l a=2∧nextS l a 2=1):=by
 have:=next_in l a 2 (by omega)
 unfold kindN;omega
theorem pathsN_in (l:List Int) (a:Nat):1≤pathsN l a∧pathsN l a≤3∧nextS l (thenS l a) 3=(pathsN l a:Int) - 1:=by
 have:=next_in l (thenS l a) 3 (by omega)
 unfold pathsN;omega
theorem then_le (l:List Int) (a:Nat):a+4≤thenS l a∧thenS l a≤a+9:=by
 unfold thenS;split<;>(try split)<;>omega
theorem cmdEnd_le (l:List Int) (a:Nat):a < cmdEnd l a∧cmdEnd l a≤a+150:=by
 have h1:=pathsEnd_le l (kindN l a) (pathsN l a) (thenS l a+1)
 have h2:=pathsN_in l a
 have h3:=then_le l a
 unfold cmdEnd;omega
theorem colsOf_len (l:List Int) (a:Nat) (cs:List Cl):cs.length≤(colsOf l a cs).length∧(colsOf l a cs).length≤cs.length+2:=by
 have h1:=addI_len cs (colorS l (a+3))
 have h2:=addI_len (cols1 l a cs) (colorS l (a+4))
 unfold colsOf;unfold cols1 at h2 ⊢
 split<;>omega
attribute [local go_sem] cCl cSeq bSeq cPt cSeg cPath
theorem samePt_ok (Gl:qzj) (p q:Pt):qzn Go.VL.Er.E Gl f_glyphicref_SamePoint [.agg (cPt p),.agg (cPt q)] (.bool (decide (p.x=q.x∧p.y=q.y))):=by
 refine qzk (qze E_glyphicref_SamePoint ?_)
 unfold c_glyphicref_SamePoint r_glyphicref_SamePoint
 simp only [qzl]
 by_cases h1:p.x=q.x
 ·have q1:(p.x == q.x)=true:=by simp [h1]
  by_cases h2:p.y=q.y
  ·have q2:(p.y == q.y)=true:=by simp [h2]
   simp only [simprocAttr,-Int.reduceNatCast',go_sem,q1,q2,h1,h2]
   exact qzc rfl
  ·have q2:(p.y == q.y)=false:=by simp [h2]
   simp only [simprocAttr,-Int.reduceNatCast',go_sem,q1,q2,h1,h2]
   exact qzc rfl
 ·have q1:(p.x == q.x)=false:=by simp [h1]
  simp only [simprocAttr,-Int.reduceNatCast',go_sem,q1,h1]
  exact qzc rfl
abbrev fO (p:Cmd × Nat):List VV:=[.int .i64 p.1.kind,.int .i64 p.1.rule,.int .i64 p.1.width,.int .i64 p.1.paint.kind,.int .i64 p.1.paint.a,.int .i64 p.1.paint.b,.int .i64 p.1.paint.p.x,.int .i64 p.1.paint.p.y,.int .i64 p.1.paint.q.x,.int .i64 p.1.paint.q.y,.slice p.2 0 p.1.paths.length 4 (.toEnd 4)]
theorem fO_len (p:Cmd × Nat):(fO p).length=11:=rfl
def Lies (base:Nat) (h:VH) (j j2:Nat) (v v2:VV) (L:List (Cmd × Nat)):Prop:=∀ p∈L,qza h.l p.2=some (some (.cells (qzg cPath p.1.paths) false))∧base≤p.2∧p.2 < h.next∧(p.2≠j∨v = .nilS)∧(p.2≠j2∨v2 = .nilS)
theorem acc_ext2 {α:Type} {base:Nat} {h h':VH} {j x:Nat} {f:α→List VV} {l:List α} {esz:Nat} {v:VV} (a:qzm base h j f l esz v) (hn:h.next≤h'.next) (hx:j≠x∨v = .nilS) (hl:j≠x→base≤j→j < h.next→qza h'.l j=qza h.l j):qzm base h' j f l esz v:=by
 rcases a with a | ⟨a2,a3,a4,a5⟩
 ·exact .inl a
 ·have:j≠x:=by
   rcases hx with e | e
   ·exact e
   ·rw [e] at a2;exact nomatch a2
  exact .inr ⟨a2,by rw [hl this a4 a5];exact a3,a4,by omega⟩
theorem cmd_step (Gl:qzj) (l:List Int) (far:Int) (i r0 b0 base:Nat) (hl:l.length < 4611686018427387904) (hf:0 < far) (hb:far < 1000000) (hi0:i≠b0) (hi1:i < base) (hb0:b0 < base) (hr0:r0 < base) (hri:r0≠i) (hrb:r0≠b0) (W H S:VV) (zr:VV)
  (a:Nat) (cs:List Cl) (L:List (Cmd × Nat)) (d:Nat) (T:VF) (h:VH) (v vc:VV) (j j2:Nat) (K:AEx→VF→VH→Prop) (ha:a+200 < 1000000) (hcs:cs.length < 90000) (hL:L.length < 90000) (hal:a < l.length)
  (t0:qza T 0=some (.ptr i 0)) (t2:qza T 2=some (.ptr r0 0)) (t3:qza T 3=some (.ptr b0 0)) (t4:qza T 4=some (.int .i64 far)) (t5:qza T 5=some (.int .i64 d)) (hd:d < 1000)
  (s1:qza h.l i=some (some (bSeq l a))) (s2:qza h.l b0=some (some (.cells [W,H,S,v,vc] false))) (q1:qzm base h j cCl cs 4 v) (q2:qzm base h j2 fO L 11 vc) (q3:Lies base h j j2 v vc L) (qj:j≠j2∨v = .nilS∨vc = .nilS) (hn:base≤h.next)
  (hK:∀ T' h' v' vc' j' j2' jp,qza T' 0=some (.ptr i 0)→qza T' 2=some (.ptr r0 0)→qza T' 3=some (.ptr b0 0)→qza T' 4=some (.int .i64 far)→qza T' 5=some (.int .i64 ((d:Int) - 1)) →
   qza h'.l i=some (some (bSeq l (cmdEnd l a)))→qza h'.l b0=some (some (.cells [W,H,S,v',vc'] false))→qzm base h' j' cCl (colsOf l a cs) 4 v'→qzm base h' j2' fO (L++[(cmdOf l far a cs,jp)]) 11 vc'→Lies base h' j' j2' v' vc' (L++[(cmdOf l far a cs,jp)])→(j'≠j2'∨v' = .nilS∨vc' = .nilS)→base≤h'.next→qza h'.l r0=qza h.l r0→wp Go.VL.Er.E Gl (.loop c_glyphicmake_Icon_l1) T' h' K) :
  wp Go.VL.Er.E Gl (.loop c_glyphicmake_Icon_l1) T h K:=by
 refine qzi c_glyphicmake_Icon_l1.eq_1 ?_
 have c1:(d:Int) ≥ 0:=by omega
 have dal:decide (a < l.length)=true:=decide_eq_true hal
 have e1:¬h.next=i:=by omega
 have e2:¬i=h.next:=by omega
 have e3:¬h.next=b0:=by omega
 have e4:¬b0=h.next:=by omega
 have e5:¬i=b0:=hi0
 have e6:¬b0=i:=fun e=>hi0 e.symm
 simp only [simprocAttr,-Int.reduceNatCast',go_sem,t0,t2,t3,t4,t5,c1]
 refine qzp (more_ok Gl l a i) s1 rfl rfl ?_
 simp only [simprocAttr,-Int.reduceNatCast',go_sem,t0,t2,t3,t4,t5,c1,dal]
 refine qzp (next_ok Gl l a 2 i hl (by omega) (by omega) (by omega)) (by simp only [simprocAttr,-Int.reduceNatCast',go_sem]) rfl rfl ?_
 have w1:∀ k:Int,0≤k→k < 2000000→IntKind.i64.wrap (1+k)=1+k:=fun k x y=>qzd (by omega) (by omega)
 have n0:=next_in l a 2 (by omega)
 have n1:=next_in l (a+1) 2 (by omega)
 have m0:(if (1:Int) > far.tdiv 2 then 1 else far.tdiv 2)=max (far.tdiv 2) 1:=by split<;>omega
 have td:0≤far.tdiv 2∧far.tdiv 2≤far:=⟨Int.tdiv_nonneg (by omega) (by omega),Int.tdiv_le_self _ (by omega)⟩
 have wq:IntKind.i64.wrap (far.tdiv 2)=far.tdiv 2:=qzd (by omega) (by omega)
 have n2:=next_in l (a+1) (max (far.tdiv 2) 1) (by omega)
 have n3:=next_in l (a+2) 3 (by omega)
 have hk:=kind_in l a
 obtain ⟨kn,hkn⟩:∃ kn,kindN l a=kn:=⟨_,rfl⟩
 obtain ⟨R,hR⟩:∃ R,ruleS l a=R:=⟨_,rfl⟩
 obtain ⟨Wd,hWd⟩:∃ Wd,widthS l far a=Wd:=⟨_,rfl⟩
 obtain ⟨pk,hpk⟩:∃ pk,pkS l a=pk:=⟨_,rfl⟩
 rw [hkn] at hk
 rcases hk with ⟨hk,hk'⟩ | ⟨hk,hk'⟩
 have kI:IntKind.i64.wrap (1+nextS l a 2)=(kn:Int):=by rw [hk',hk];decide
 have kq:((kn:Int) == 1)=true:=by rw [hk];rfl
 have r1:nextS l (a+1) 2=R:=by rw [←hR];unfold ruleS;rw [hkn,if_pos hk]
 have r2:0=Wd:=by rw [←hWd];unfold widthS;rw [hkn,if_pos hk]
 simp only [simprocAttr,-Int.reduceNatCast',go_sem,t0,t2,t3,t4,t5,kI,kq,e1,e2]
 refine qzp (next_ok Gl l (a+1) 2 i hl (by omega) (by omega) (by omega)) (by simp only [simprocAttr,-Int.reduceNatCast',go_sem,e1]) rfl rfl ?_
 simp only [simprocAttr,-Int.reduceNatCast',go_sem,t0,t2,t3,t4,t5,e1,e2,r1]
 refine qzp (next_ok Gl l (a+2) 3 i hl (by omega) (by omega) (by omega)) (by simp only [simprocAttr,-Int.reduceNatCast',go_sem,e1]) rfl rfl ?_
 simp only [simprocAttr,-Int.reduceNatCast',go_sem,t0,t2,t3,t4,t5,e1,e2,show nextS l (a+2) 3=pk from hpk]
 refine qzp (color_ok Gl l (a+3) i hl (by omega)) (by simp only [simprocAttr,-Int.reduceNatCast',go_sem,e1]) rfl rfl ?_
 simp only [simprocAttr,-Int.reduceNatCast',go_sem,t0,t2,t3,t4,t5,e1,e2]
 rotate_left
 have kI:IntKind.i64.wrap (1+nextS l a 2)=(kn:Int):=by rw [hk',hk];decide
 have kq:((kn:Int) == 1)=false:=by rw [hk];rfl
 have r1:0=R:=by rw [←hR];unfold ruleS;rw [hkn,if_neg (by omega)]
 have r2:IntKind.i64.wrap (1+nextS l (a+1) (max (far.tdiv 2) 1))=Wd:=by rw [w1 _ (by omega) (by omega),←hWd];unfold widthS;rw [hkn,if_neg (by omega)]
 simp only [simprocAttr,-Int.reduceNatCast',go_sem,t0,t2,t3,t4,t5,kI,kq,e1,e2,wq,m0]
 refine qzp (next_ok Gl l (a+1) (max (far.tdiv 2) 1) i hl (by omega) (by omega) (by omega)) (by simp only [simprocAttr,-Int.reduceNatCast',go_sem,e1]) rfl rfl ?_
 simp only [simprocAttr,-Int.reduceNatCast',go_sem,t0,t2,t3,t4,t5,e1,e2,r2]
 refine qzp (next_ok Gl l (a+2) 3 i hl (by omega) (by omega) (by omega)) (by simp only [simprocAttr,-Int.reduceNatCast',go_sem,e1]) rfl rfl ?_
 simp only [simprocAttr,-Int.reduceNatCast',go_sem,t0,t2,t3,t4,t5,e1,e2,show nextS l (a+2) 3=pk from hpk]
 refine qzp (color_ok Gl l (a+3) i hl (by omega)) (by simp only [simprocAttr,-Int.reduceNatCast',go_sem,e1]) rfl rfl ?_
 simp only [simprocAttr,-Int.reduceNatCast',go_sem,t0,t2,t3,t4,t5,e1,e2]
 rotate_left
 all_goals
  refine qzh (addi_run Gl (colorS l (a+3)) cs (by omega) base _ b0 j v W H S vc ?_ ?_ ?_ ?_ (q1.ne (.inl hb0))) ?_
  ·show base≤h.next+1;omega
  ·simp only [qzb,e3,e5,if_false];exact s2
  ·exact qzm.ext (h:=h) q1 (Nat.le_succ _) (fun x y=>by simp only [qzb];(repeat rw [if_neg (by omega)]))
  ·show b0 < h.next+1;omega
  rintro r h3 ⟨rfl,j',v',i3,a3,f3,n3,d3⟩
  simp only at f3 n3 d3
  have o_i:qza h3.l i=some (some (bSeq l (a+4))):=by rw [f3 i (by omega) hi0 (q1.ne (.inl hi1))];simp only [qzb,if_true]
  have o_x:qza h3.l h.next=some (some (.cells [.int .i64 kn,.int .i64 R,.int .i64 Wd,.int .i64 pk,.int .i64 0,.int .i64 0,.int .i64 0,.int .i64 0,.int .i64 0,.int .i64 0,.nilS] false)):=by
   rw [f3 h.next (by omega) (by omega) (q1.ne (.inr (Nat.le_refl _)))]
   simp only [qzb,e2,if_true,if_false]
   first | (rw [←r1];done) | (rw [←r2];done)
  have o:∀ k,k < h.next→k≠i→k≠b0→(k≠j∨v = .nilS)→qza h3.l k=qza h.l k:=fun k x1 x2 x3 x4=>by
   rw [f3 k (by omega) x3 x4];simp only [qzb];(repeat rw [if_neg (by omega)])
  have q2':qzm base h3 j2 fO L 11 vc:=by
   rcases q2 with q2 | ⟨u1,u2,u3,u4⟩
   ·exact .inl q2
   ·refine .inr ⟨u1,?_,u3,by omega⟩
    rw [o j2 u4 (by omega) (by omega)]
    ·exact u2
    ·rcases qj with x | x | x
     ·exact .inl (Ne.symm x)
     ·exact .inr x
     ·rw [x] at u1;exact nomatch u1
  have q3':Lies base h3 j' j2 v' vc L:=fun p hp=>by
   obtain ⟨u1,u2,u3,u4,u5⟩:=q3 p hp
   refine ⟨by rw [o p.2 u3 (by omega) (by omega) u4];exact u1,u2,by omega,?_,u5⟩
   rcases d3 with ⟨rfl,rfl⟩ | d3
   ·exact u4
   ·exact .inl (by omega)
  have qj':j'≠j2∨v' = .nilS∨vc = .nilS:=by
   rcases d3 with ⟨rfl,rfl⟩ | d3
   ·exact qj
   ·rcases q2 with q2 | ⟨_,_,_,u4⟩
    ·exact .inr (.inr q2.2)
    ·exact .inl (by omega)
  have cl:=addI_len cs (colorS l (a+3))
  have g1:¬i=h.next:=e2
  have r0':qza h3.l r0=qza h.l r0:=o r0 (by omega) hri hrb (q1.ne (.inl hr0))
  clear f3
  obtain ⟨A,hA⟩:∃ A,addP cs (colorS l (a+3))=A:=⟨_,rfl⟩
  have hpk3:pk=0∨pk=1∨pk=2:=by rw [←hpk];unfold pkS;omega
  rw [hA]
  rcases hpk3 with p0 | p0 | p0
  have z0:(pk == 0)=true:=by simp [p0]
  have z0':(pk != 0)=false:=by simp [p0]
  have z1:(pk == 1)=false:=by simp [p0]
  have z2:(pk == 2)=false:=by simp [p0]
  simp only [simprocAttr,-Int.reduceNatCast',go_sem,t0,t2,t3,t4,t5,o_x,z0,z0',z1,z2]
  have fT:thenS l a=a+4:=by unfold thenS;rw [hpk,if_pos p0]
  have fB:bS l a cs=0:=by unfold bS;rw [hpk,if_pos p0]
  have fP:pS l far a=zP:=by unfold pS;rw [hpk,if_pos p0]
  have fQ:qS l far a=zP:=by unfold qS;rw [hpk,if_pos p0]
  have fC:colsOf l a cs=addI cs (colorS l (a+3)):=by unfold colsOf;rw [hpk,if_pos p0];rfl
  obtain ⟨hP,ehP⟩:∃ hP,h3=hP:=⟨_,rfl⟩
  rw [ehP] at n3 i3 a3 q2' q3' r0' o_i
  have P1:h.next < hP.next:=by omega
  have Pi0:=o_i
  have Pb:=i3
  have Pa:=a3
  rw [←fC] at Pa
  have P2:=q2'
  have P3:=q3'
  have Pj:=qj'
  have Pr:=r0'
  have Px:j'≠h.next∨v' = .nilS:=by
   rcases d3 with ⟨e,e'⟩ | d3
   ·rw [e,e'];exact (q1.ne (.inr (Nat.le_refl _))).imp Ne.symm id
   ·exact .inl (by omega)
  rw [ehP]
  obtain ⟨vP,rfl⟩:∃ vP,vP=v':=⟨_,rfl⟩
  obtain ⟨jP,rfl⟩:∃ jP,jP=j':=⟨_,rfl⟩
  rotate_left
  have z0:(pk == 0)=false:=by simp [p0]
  have z0':(pk != 0)=true:=by simp [p0]
  have pk0:¬pk=0:=by omega
  have hjx:j'≠h.next∨v' = .nilS:=by
   rcases d3 with ⟨e,e'⟩ | d3
   ·rw [e,e'];exact (q1.ne (.inr (Nat.le_refl _))).imp Ne.symm id
   ·exact .inl (by omega)
  have c2:=addI_len (addI cs (colorS l (a+3))) (colorS l (a+4))
  simp only [simprocAttr,-Int.reduceNatCast',go_sem,t0,t2,t3,t4,t5,o_x,z0,z0',e1,e2]
  refine qzp (color_ok Gl l (a+4) i hl (by omega)) (by simp only [qzb,e1,if_false];exact o_i) rfl rfl ?_
  simp only [simprocAttr,-Int.reduceNatCast',go_sem,t0,t2,t3,t4,t5,e1,e2]
  refine qzh (addi_run Gl (colorS l (a+4)) (addI cs (colorS l (a+3))) (by omega) base _ b0 j' v' W H S vc ?_ ?_ ?_ ?_ (a3.ne (.inl hb0))) ?_
  ·show base≤h3.next;omega
  ·simp only [qzb,e3,e5,if_false];exact i3
  ·exact acc_ext2 (h:=h3) (x:=h.next) a3 (Nat.le_refl _) hjx (fun x y z=>by simp only [qzb];(repeat rw [if_neg (by omega)]))
  ·show b0 < h3.next;omega
  rintro r h4 ⟨rfl,j'',v'',i4,a4,f4,n4,d4⟩
  simp only at f4 n4 d4
  have o4_i:qza h4.l i=some (some (bSeq l (a+5))):=by rw [f4 i (by omega) hi0 (a3.ne (.inl hi1))];simp only [qzb,if_true]
  have o4_x:qza h4.l h.next=some (some (.cells [.int .i64 kn,.int .i64 R,.int .i64 Wd,.int .i64 pk,.int .i64 A,.int .i64 0,.int .i64 0,.int .i64 0,.int .i64 0,.int .i64 0,.nilS] false)):=by
   rw [f4 h.next (by omega) (by omega) (hjx.imp Ne.symm id)]
   simp only [qzb,e2,if_true,if_false]
  have o4:∀ k,k < h.next→k≠i→k≠b0→(k≠j∨v = .nilS)→(k≠j'∨v' = .nilS)→qza h4.l k=qza h.l k:=fun k x1 x2 x3 x4 x5=>by
   rw [f4 k (by omega) x3 x5];simp only [qzb];(repeat rw [if_neg (by omega)]);exact o k x1 x2 x3 x4
  have qjj:∀ k,k=j2→vc ≠ .nilS→(k≠j∨v = .nilS)∧(k≠j'∨v' = .nilS):=fun k e ne=>by
   subst e
   refine ⟨?_,?_⟩
   ·rcases qj with x | x | x
    ·exact .inl (Ne.symm x)
    ·exact .inr x
    ·exact absurd x ne
   ·rcases qj' with x | x | x
    ·exact .inl (Ne.symm x)
    ·exact .inr x
    ·exact absurd x ne
  have P2:qzm base h4 j2 fO L 11 vc:=by
   rcases q2 with q2 | ⟨u1,u2,u3,u4⟩
   ·exact .inl q2
   ·have hh:=qjj j2 rfl (by rw [u1];exact fun e=>nomatch e)
    exact .inr ⟨u1,by rw [o4 j2 u4 (by omega) (by omega) hh.1 hh.2];exact u2,u3,by omega⟩
  have P3:Lies base h4 j'' j2 v'' vc L:=fun p hp=>by
   obtain ⟨u1,u2,u3,u4,u5⟩:=q3 p hp
   obtain ⟨_,_,_,u4',_⟩:=q3' p hp
   refine ⟨by rw [o4 p.2 u3 (by omega) (by omega) u4 u4'];exact u1,u2,by omega,?_,u5⟩
   rcases d4 with ⟨rfl,rfl⟩ | d4
   ·exact u4'
   ·exact .inl (by omega)
  have Pj:j''≠j2∨v'' = .nilS∨vc = .nilS:=by
   rcases d4 with ⟨rfl,rfl⟩ | d4
   ·exact qj'
   ·rcases q2 with q2 | ⟨_,_,_,u4⟩
    ·exact .inr (.inr q2.2)
    ·exact .inl (by omega)
  have Px:j''≠h.next∨v'' = .nilS:=by
   rcases d4 with ⟨e,e'⟩ | d4
   ·rw [e,e'];exact hjx
   ·exact .inl (by omega)
  have Pr:qza h4.l r0=qza h.l r0:=o4 r0 (by omega) hri hrb (q1.ne (.inl hr0)) (a3.ne (.inl hr0))
  have fB:bS l a cs=addP (addI cs (colorS l (a+3))) (colorS l (a+4)):=by unfold bS;rw [hpk,if_neg pk0];rfl
  have fP:pS l far a=pointS l (a+5) far:=by unfold pS;rw [hpk,if_neg pk0]
  have fC:colsOf l a cs=addI (addI cs (colorS l (a+3))) (colorS l (a+4)):=by unfold colsOf;rw [hpk,if_neg pk0];rfl
  have Pb:=i4
  have Pa:=a4
  rw [←fC] at Pa
  rw [←fB]
  obtain ⟨hP,ehP⟩:∃ hP,h4=hP:=⟨_,rfl⟩
  rw [ehP] at n4 o4_i o4_x Pb Pa P2 P3 Pr
  rw [ehP]
  obtain ⟨vP,rfl⟩:∃ vP,vP=v'':=⟨_,rfl⟩
  obtain ⟨jP,rfl⟩:∃ jP,jP=j'':=⟨_,rfl⟩
  have P1:h.next < hP.next:=by omega
  have pin:=point_in l (a+5) far (by omega)
  simp only [simprocAttr,-Int.reduceNatCast',go_sem,t0,t2,t3,t4,t5,o4_x,e1,e2]
  refine qzp (point_ok Gl l (a+5) far i hl (by omega) (by omega) (by omega)) (by simp only [qzb,e1,if_false];exact o4_i) rfl rfl ?_
  rw [←fP]
  have z1:(pk == 1)=true:=by simp [p0]
  have z2:(pk == 2)=false:=by simp [p0]
  simp only [simprocAttr,-Int.reduceNatCast',go_sem,t0,t2,t3,t4,t5,e1,e2,z1]
  refine qzp (point_ok Gl l (a+7) far i hl (by omega) (by omega) (by omega)) (by simp only [qzb,e1,if_false,if_true]) rfl rfl ?_
  have pin2:=point_in l (a+7) far (by omega)
  have fT:thenS l a=a+9:=by unfold thenS;rw [hpk,if_neg pk0,if_pos p0]
  have fQ:qS l far a=moveS (pS l far a) (pointS l (a+7) far):=by unfold qS;rw [hpk,if_neg pk0,if_pos p0,fP]
  simp only [simprocAttr,-Int.reduceNatCast',go_sem,t0,t2,t3,t4,t5,e1,e2,z1]
  refine qzf (samePt_ok Gl (pS l far a) (pointS l (a+7) far)) rfl rfl ?_
  by_cases sp:(pS l far a).x=(pointS l (a+7) far).x∧(pS l far a).y=(pointS l (a+7) far).y
  have dsp:decide ((pS l far a).x=(pointS l (a+7) far).x∧(pS l far a).y=(pointS l (a+7) far).y)=true:=decide_eq_true sp
  have wx:IntKind.i64.wrap ((pointS l (a+7) far).x+1)=(pointS l (a+7) far).x+1:=qzd (by omega) (by omega)
  rw [dsp]
  unfold moveS at fQ
  rw [if_pos sp] at fQ
  simp only [simprocAttr,-Int.reduceNatCast',go_sem,t0,t2,t3,t4,t5,e1,e2,z2,wx]
  rotate_left
  have dsp:decide ((pS l far a).x=(pointS l (a+7) far).x∧(pS l far a).y=(pointS l (a+7) far).y)=false:=decide_eq_false sp
  rw [dsp]
  unfold moveS at fQ
  rw [if_neg sp] at fQ
  simp only [simprocAttr,-Int.reduceNatCast',go_sem,t0,t2,t3,t4,t5,e1,e2,z2]
  rotate_left
  have z0:(pk == 0)=false:=by simp [p0]
  have z0':(pk != 0)=true:=by simp [p0]
  have pk0:¬pk=0:=by omega
  have hjx:j'≠h.next∨v' = .nilS:=by
   rcases d3 with ⟨e,e'⟩ | d3
   ·rw [e,e'];exact (q1.ne (.inr (Nat.le_refl _))).imp Ne.symm id
   ·exact .inl (by omega)
  have c2:=addI_len (addI cs (colorS l (a+3))) (colorS l (a+4))
  simp only [simprocAttr,-Int.reduceNatCast',go_sem,t0,t2,t3,t4,t5,o_x,z0,z0',e1,e2]
  refine qzp (color_ok Gl l (a+4) i hl (by omega)) (by simp only [qzb,e1,if_false];exact o_i) rfl rfl ?_
  simp only [simprocAttr,-Int.reduceNatCast',go_sem,t0,t2,t3,t4,t5,e1,e2]
  refine qzh (addi_run Gl (colorS l (a+4)) (addI cs (colorS l (a+3))) (by omega) base _ b0 j' v' W H S vc ?_ ?_ ?_ ?_ (a3.ne (.inl hb0))) ?_
  ·show base≤h3.next;omega
  ·simp only [qzb,e3,e5,if_false];exact i3
  ·exact acc_ext2 (h:=h3) (x:=h.next) a3 (Nat.le_refl _) hjx (fun x y z=>by simp only [qzb];(repeat rw [if_neg (by omega)]))
  ·show b0 < h3.next;omega
  rintro r h4 ⟨rfl,j'',v'',i4,a4,f4,n4,d4⟩
  simp only at f4 n4 d4
  have o4_i:qza h4.l i=some (some (bSeq l (a+5))):=by rw [f4 i (by omega) hi0 (a3.ne (.inl hi1))];simp only [qzb,if_true]
  have o4_x:qza h4.l h.next=some (some (.cells [.int .i64 kn,.int .i64 R,.int .i64 Wd,.int .i64 pk,.int .i64 A,.int .i64 0,.int .i64 0,.int .i64 0,.int .i64 0,.int .i64 0,.nilS] false)):=by
   rw [f4 h.next (by omega) (by omega) (hjx.imp Ne.symm id)]
   simp only [qzb,e2,if_true,if_false]
  have o4:∀ k,k < h.next→k≠i→k≠b0→(k≠j∨v = .nilS)→(k≠j'∨v' = .nilS)→qza h4.l k=qza h.l k:=fun k x1 x2 x3 x4 x5=>by
   rw [f4 k (by omega) x3 x5];simp only [qzb];(repeat rw [if_neg (by omega)]);exact o k x1 x2 x3 x4
  have qjj:∀ k,k=j2→vc ≠ .nilS→(k≠j∨v = .nilS)∧(k≠j'∨v' = .nilS):=fun k e ne=>by
   subst e
   refine ⟨?_,?_⟩
   ·rcases qj with x | x | x
    ·exact .inl (Ne.symm x)
    ·exact .inr x
    ·exact absurd x ne
   ·rcases qj' with x | x | x
    ·exact .inl (Ne.symm x)
    ·exact .inr x
    ·exact absurd x ne
  have P2:qzm base h4 j2 fO L 11 vc:=by
   rcases q2 with q2 | ⟨u1,u2,u3,u4⟩
   ·exact .inl q2
   ·have hh:=qjj j2 rfl (by rw [u1];exact fun e=>nomatch e)
    exact .inr ⟨u1,by rw [o4 j2 u4 (by omega) (by omega) hh.1 hh.2];exact u2,u3,by omega⟩
  have P3:Lies base h4 j'' j2 v'' vc L:=fun p hp=>by
   obtain ⟨u1,u2,u3,u4,u5⟩:=q3 p hp
   obtain ⟨_,_,_,u4',_⟩:=q3' p hp
   refine ⟨by rw [o4 p.2 u3 (by omega) (by omega) u4 u4'];exact u1,u2,by omega,?_,u5⟩
   rcases d4 with ⟨rfl,rfl⟩ | d4
   ·exact u4'
   ·exact .inl (by omega)
  have Pj:j''≠j2∨v'' = .nilS∨vc = .nilS:=by
   rcases d4 with ⟨rfl,rfl⟩ | d4
   ·exact qj'
   ·rcases q2 with q2 | ⟨_,_,_,u4⟩
    ·exact .inr (.inr q2.2)
    ·exact .inl (by omega)
  have Px:j''≠h.next∨v'' = .nilS:=by
   rcases d4 with ⟨e,e'⟩ | d4
   ·rw [e,e'];exact hjx
   ·exact .inl (by omega)
  have Pr:qza h4.l r0=qza h.l r0:=o4 r0 (by omega) hri hrb (q1.ne (.inl hr0)) (a3.ne (.inl hr0))
  have fB:bS l a cs=addP (addI cs (colorS l (a+3))) (colorS l (a+4)):=by unfold bS;rw [hpk,if_neg pk0];rfl
  have fP:pS l far a=pointS l (a+5) far:=by unfold pS;rw [hpk,if_neg pk0]
  have fC:colsOf l a cs=addI (addI cs (colorS l (a+3))) (colorS l (a+4)):=by unfold colsOf;rw [hpk,if_neg pk0];rfl
  have Pb:=i4
  have Pa:=a4
  rw [←fC] at Pa
  rw [←fB]
  obtain ⟨hP,ehP⟩:∃ hP,h4=hP:=⟨_,rfl⟩
  rw [ehP] at n4 o4_i o4_x Pb Pa P2 P3 Pr
  rw [ehP]
  obtain ⟨vP,rfl⟩:∃ vP,vP=v'':=⟨_,rfl⟩
  obtain ⟨jP,rfl⟩:∃ jP,jP=j'':=⟨_,rfl⟩
  have P1:h.next < hP.next:=by omega
  have pin:=point_in l (a+5) far (by omega)
  simp only [simprocAttr,-Int.reduceNatCast',go_sem,t0,t2,t3,t4,t5,o4_x,e1,e2]
  refine qzp (point_ok Gl l (a+5) far i hl (by omega) (by omega) (by omega)) (by simp only [qzb,e1,if_false];exact o4_i) rfl rfl ?_
  rw [←fP]
  have z1:(pk == 1)=false:=by simp [p0]
  have z2:(pk == 2)=true:=by simp [p0]
  simp only [simprocAttr,-Int.reduceNatCast',go_sem,t0,t2,t3,t4,t5,e1,e2,z1,z2]
  refine qzp (next_ok Gl l (a+7) far i hl (by omega) (by omega) (by omega)) (by simp only [qzb,e1,if_false,if_true]) rfl rfl ?_
  have nf:=next_in l (a+7) far (by omega)
  have fT:thenS l a=a+8:=by unfold thenS;rw [hpk,if_neg pk0,if_neg (by omega)]
  have fQ:qS l far a=⟨1+nextS l (a+7) far,0⟩:=by unfold qS;rw [hpk,if_neg pk0,if_neg (by omega)]
  have wx:=w1 (nextS l (a+7) far) (by omega) (by omega)
  simp only [simprocAttr,-Int.reduceNatCast',go_sem,t0,t2,t3,t4,t5,e1,e2,z1,z2,wx]
  rotate_left
  all_goals
   have nt:=pathsN_in l a
   have tl:=then_le l a
   refine qzp (next_ok Gl l (thenS l a) 3 i hl (by omega) (by omega) (by omega)) (by rw [fT];simp only [qzb,e1,if_false,if_true];try (first | exact Pi0 | rfl)) rfl rfl ?_
   rw [nt.2.2]
   simp only [simprocAttr,-Int.reduceNatCast',go_sem,t0,t2,t3,t4,t5]
   refine paths_loop Gl l far i h.next hP.next kn hl (by omega) (by omega) e2 (by omega) (by omega) (.int .i64 R) (.int .i64 Wd) (.int .i64 pk) (.int .i64 A) (.int .i64 (bS l a cs)) (.int .i64 (pS l far a).x) (.int .i64 (pS l far a).y) (.int .i64 (qS l far a).x) (.int .i64 (qS l far a).y) _ _ _ (pathsS l far kn (pathsN l a) (thenS l a+1)) (cmdEnd l a) ?_ (pathsN l a) (thenS l a+1) [] _ _ .nilS 0 rfl (by unfold cmdEnd;rw [hkn]) (by simp;omega) (by omega) (fun _ _=>rfl) ?_ ?_ ?_ ?_ qzm.nil ?_ ?_ (fun _ _ _ _=>rfl) (Nat.le_refl _)
   rotate_left
   ·simp only [simprocAttr,-Int.reduceNatCast',go_sem,t0]
   ·simp only [simprocAttr,-Int.reduceNatCast',go_sem,t4]
   ·simp only [simprocAttr,-Int.reduceNatCast',go_sem]
   ·simp only [simprocAttr,-Int.reduceNatCast',go_sem]
   ·simp only [simprocAttr,-Int.reduceNatCast',go_sem]
   ·simp only [qzb,e2,if_false,if_true]
    first | rfl | (rw [fQ];done) | (rw [fQ];rfl) | (rw [fQ,fP,fB];done) | (rw [fQ,fP,fB];rfl)
   intro T6 h6 v6 j6 hT6 acc6 s6 x6 fr6 n6
   have fr:∀ k,k < hP.next→k≠i→k≠h.next→qza h6.l k=qza hP.l k:=fun k x1 x2 x3=>by
    rw [fr6 k x1 x2 x3];simp only [qzb];(repeat rw [if_neg (by omega)])
   have u0:qza T6 0=some (.ptr i 0):=by rw [hT6 0 (by omega)];simp only [simprocAttr,-Int.reduceNatCast',go_sem,t0]
   have u2:qza T6 2=some (.ptr r0 0):=by rw [hT6 2 (by omega)];simp only [simprocAttr,-Int.reduceNatCast',go_sem,t2]
   have u3:qza T6 3=some (.ptr b0 0):=by rw [hT6 3 (by omega)];simp only [simprocAttr,-Int.reduceNatCast',go_sem,t3]
   have u4:qza T6 4=some (.int .i64 far):=by rw [hT6 4 (by omega)];simp only [simprocAttr,-Int.reduceNatCast',go_sem,t4]
   have u5:qza T6 5=some (.int .i64 d):=by rw [hT6 5 (by omega)];simp only [simprocAttr,-Int.reduceNatCast',go_sem,t5]
   have u6:qza T6 6=some (.ptr h.next 0):=by rw [hT6 6 (by omega)];simp only [simprocAttr,-Int.reduceNatCast',go_sem]
   have b6:=(fr b0 (by omega) (by omega) (by omega)).trans Pb
   have len6:=pathsS_len l far kn (pathsN l a) (thenS l a+1)
   obtain ⟨rfl,y1,y2,y3⟩:=acc6.some (fun e=>by rw [e] at len6;simp at len6;omega)
   have hf:fO (cmdOf l far a cs,j6)=[.int .i64 kn,.int .i64 R,.int .i64 Wd,.int .i64 pk,.int .i64 A,.int .i64 (bS l a cs),.int .i64 (pS l far a).x,.int .i64 (pS l far a).y,.int .i64 (qS l far a).x,.int .i64 (qS l far a).y,.slice j6 0 (pathsS l far kn (pathsN l a) (thenS l a+1)).length 4 (.toEnd 4)]:=by
    unfold cmdOf;simp only [hkn,hR,hWd,hpk,hA]
   have hj2:j2≠h.next∨vc = .nilS:=(q2.ne (.inr (Nat.le_refl _))).imp Ne.symm id
   have A2:qzm base (VH.mk ((h6.next,some (VB.cells (fO (cmdOf l far a cs,j6)) false))::h6.l) (h6.next+1)) j2 fO L 11 vc:=acc_ext2 P2 (show hP.next≤h6.next+1 by omega) hj2 (fun x y z=>by
    simp only [qzb]
    rw [if_neg (by omega)]
    exact fr j2 z (by omega) x)
   rw [hf] at A2
   have wd:IntKind.i64.wrap ((d:Int) - 1)=(d:Int) - 1:=qzd (by omega) (by omega)
   simp only [simprocAttr,-Int.reduceNatCast',go_sem,u3,b6,u6,x6]
   refine wpW_acc (base:=base) (j:=j2) (f:=fO) (l:=L) (a:=(cmdOf l far a cs,j6)) A2 (by rw [hf];simp only [simprocAttr,-Int.reduceNatCast',go_sem]<;>first | rfl | exact ⟨rfl,rfl⟩ | exact qzc rfl) fO_len (by omega) (by show base≤h6.next+1;omega) (by omega) (by omega) ?_
   intro h7 g1 g2 g3
   simp only at g1 g2 g3
   have fin:∀ k,k < h6.next→k≠b0→(k≠j2∨vc = .nilS)→qza h7.l k=qza h6.l k:=fun k x1 x2 x3=>by
    rw [g2 k (by omega) x3];simp only [qzb];rw [if_neg (by omega)]
   have fin2:∀ k,k < hP.next→k≠i→k≠h.next→k≠b0→(k≠j2∨vc = .nilS)→qza h7.l k=qza hP.l k:=fun k x1 x2 x3 x4 x5=>by
    rw [fin k (by omega) x4 x5];exact fr k x1 x2 x3
   have b7:qza h7.l b0=qza h6.l b0:=by
    rw [g2 b0 (by omega) (P2.ne (.inl hb0))];simp only [qzb];rw [if_neg (by omega)]
   have i7:qza h7.l i=some (some (bSeq l (cmdEnd l a))):=by
    rw [g2 i (by omega) (P2.ne (.inl hi1))];simp only [qzb];rw [if_neg (by omega)];exact s6
   have r7:qza h7.l r0=qza h.l r0:=by
    rw [fin2 r0 (by omega) (by omega) (by omega) (by omega) (P2.ne (.inl hr0))];exact Pr
   rw [b6] at b7
   have y4:∀ k,hP.next≤k→(k≠j2∨vc = .nilS):=fun k hk=>by
    rcases P2 with P2 | ⟨_,_,_,z4⟩
    ·exact .inr P2.2
    ·exact .inl (by omega)
   obtain ⟨h8,e8⟩:∃ h8,VH.mk ((b0,some (VB.cells [W,H,S,vP,.slice (h6.next+1) 0 (L.length+1) 11 (.toEnd 11)] false))::h7.l) h7.next=h8:=⟨_,rfl⟩
   have n8:h8.next=h7.next:=by rw [←e8]
   have f8:∀ k,k≠b0→qza h8.l k=qza h7.l k:=fun k hk=>by rw [←e8];simp only [qzb];rw [if_neg (Ne.symm hk)]
   have m1:qza h8.l b0=some (some (VB.cells [W,H,S,vP,.slice (h6.next+1) 0 (L.length+1) 11 (.toEnd 11)] false)):=by rw [←e8];simp only [qzb,if_true]
   have m2:qzm base h8 jP cCl (colsOf l a cs) 4 vP:=by
    rcases Pa with Pa | ⟨z1,z2,z3,z4⟩
    ·exact .inl Pa
    ·have ne:vP ≠ .nilS:=by rw [z1];exact fun e=>nomatch e
     refine .inr ⟨z1,?_,z3,by omega⟩
     rw [f8 jP (by omega),fin2 jP z4 (by omega) (Px.resolve_right ne) (by omega) (by rcases Pj with x | x | x;exact .inl x;exact absurd x ne;exact .inr x)]
     exact z2
   have m3:qzm base h8 (h6.next+1) fO (L++[(cmdOf l far a cs,j6)]) 11 (.slice (h6.next+1) 0 (L.length+1) 11 (.toEnd 11)):=g3.ext (by omega) (fun x y=>f8 _ (by omega))
   have m4:Lies base h8 jP (h6.next+1) vP (.slice (h6.next+1) 0 (L.length+1) 11 (.toEnd 11)) (L++[(cmdOf l far a cs,j6)]):=fun p hp=>by
    rcases List.mem_append.mp hp with hp | hp
    ·obtain ⟨z1,z2,z3,z4,z5⟩:=P3 p hp
     obtain ⟨_,_,z6,_,_⟩:=q3 p hp
     refine ⟨?_,z2,by omega,z4,.inl (by omega)⟩
     rw [f8 p.2 (by omega),fin2 p.2 z3 (by omega) (by omega) (by omega) z5];exact z1
    ·obtain rfl:=List.mem_singleton.mp hp
     refine ⟨?_,by show base≤j6;omega,by show j6 < h8.next;omega,?_,.inl (by show j6≠h6.next+1;omega)⟩
     ·show qza h8.l j6=some (some (.cells (qzg cPath (pathsS l far (kindN l a) (pathsN l a) (thenS l a+1))) false))
      rw [f8 j6 (by omega),fin j6 y3 (by omega) (y4 j6 y2),hkn];exact y1
     ·show j6≠jP∨vP = .nilS
      rcases Pa with Pa | ⟨_,_,_,z4⟩
      ·exact .inr Pa.2
      ·exact .inl (by omega)
   have m5:jP≠h6.next+1∨vP = .nilS∨VV.slice (h6.next+1) 0 (L.length+1) 11 (.toEnd 11) = .nilS:=by
    rcases Pa with Pa | ⟨_,_,_,z4⟩
    ·exact .inr (.inl Pa.2)
    ·exact .inl (by omega)
   have m6:qza h8.l i=some (some (bSeq l (cmdEnd l a))):=by rw [f8 i (by omega)];exact i7
   have m7:qza h8.l r0=qza h.l r0:=by rw [f8 r0 (by omega)];exact r7
   have hKK:=fun T'=>hK T' h8 vP (VV.slice (h6.next+1) 0 (L.length+1) 11 (.toEnd 11)) jP (h6.next+1) j6
   clear hK
   simp only [simprocAttr,-Int.reduceNatCast',go_sem,u3,u5,b7,wd]
   rw [e8]
   refine hKK _ ?_ ?_ ?_ ?_ ?_ m6 m1 m2 m3 m4 m5 (by omega) m7
   ·simp only [simprocAttr,-Int.reduceNatCast',go_sem,u0]
   ·simp only [simprocAttr,-Int.reduceNatCast',go_sem,u2]
   ·simp only [simprocAttr,-Int.reduceNatCast',go_sem,u3]
   ·simp only [simprocAttr,-Int.reduceNatCast',go_sem,u4]
   ·simp only [simprocAttr,-Int.reduceNatCast',go_sem]
end
end Go.VL.Mk
