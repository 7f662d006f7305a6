import Derived.Test.YtbamfhdgikeneaaDoorVlK
import Derived.Test.YtbamfhdgikeneaaDoorGeA
set_option linter.unusedSimpArgs false
set_option linter.unusedVariables false
namespace Go.VL.Ic
open Go.FR Go.IR Go.VL Go.VL.Er Go.VL.Color Go.VL.Wind
noncomputable section
set_option maxRecDepth 100000
set_option maxHeartbeats 1000000
attribute [local go_sem] cCl erP errK cSeg cPath cPaint cCmd cIcon t_p_api_At t_p_errors_errorString
theorem in_ok (Gl:qzj) (n lo hi:Int):qzn Go.VL.Er.E Gl f_icon_in__int [.int .i64 n,.int .i64 lo,.int .i64 hi] (.bool (inS n lo hi)):=by
 refine qzk (qze E_icon_in__int ?_)
 unfold c_icon_in__int r_icon_in__int inS
 simp only [qzl]
 by_cases h:n ≥ lo
 ·simp only [simprocAttr,-Int.reduceNatCast',go_sem,h]
  exact qzc rfl
 ·simp only [simprocAttr,-Int.reduceNatCast',go_sem,h]
  exact qzc rfl
theorem in64_ok (Gl:qzj) (n lo hi:Int):qzn Go.VL.Er.E Gl f_icon_in__int64 [.int .i64 n,.int .i64 lo,.int .i64 hi] (.bool (inS n lo hi)):=by
 refine qzk (qze E_icon_in__int64 ?_)
 unfold c_icon_in__int64 r_icon_in__int64 inS
 simp only [qzl]
 by_cases h:n ≥ lo
 ·simp only [simprocAttr,-Int.reduceNatCast',go_sem,h]
  exact qzc rfl
 ·simp only [simprocAttr,-Int.reduceNatCast',go_sem,h]
  exact qzc rfl
theorem sized_ok (Gl:qzj) (i:Icon):qzn Go.VL.Er.E Gl f_icon_sized [.agg (cIcon i)] (.bool (sizedS i)):=by
 refine qzk (qze E_icon_sized ?_)
 unfold c_icon_sized r_icon_sized sizedS
 simp only [qzl]
 simp only [simprocAttr,-Int.reduceNatCast',go_sem]
 refine qzf (in_ok Gl _ _ _) rfl rfl ?_
 cases h1:inS i.w 1 4096
 ·simp only [simprocAttr,-Int.reduceNatCast',go_sem]
  exact qzc rfl
 ·simp only [simprocAttr,-Int.reduceNatCast',go_sem]
  refine qzf (in_ok Gl _ _ _) rfl rfl ?_
  cases h2:inS i.h 1 4096
  ·simp only [simprocAttr,-Int.reduceNatCast',go_sem]
   exact qzc rfl
  ·simp only [simprocAttr,-Int.reduceNatCast',go_sem]
   refine qzf (in_ok Gl _ _ _) rfl rfl ?_
   simp only [simprocAttr,-Int.reduceNatCast',go_sem]
   exact qzc rfl
theorem sized_bnd {i:Icon} (h:sizedS i=true):1≤i.w∧i.w≤4096∧1≤i.h∧i.h≤4096∧0≤i.scale∧i.scale≤6:=by
 unfold sizedS inS at h
 simp at h
 omega
theorem great_bnd (i:Icon):0≤greatS i∧greatS i≤4*4096*64:=by
 unfold greatS
 by_cases h:sizedS i=true
 ·rw [if_pos h]
  obtain ⟨h1,h2,h3,h4,h5,h6⟩:=sized_bnd h
  have:∀ s:Fin 7,(1:Int)≤2 ^ s.val∧(2:Int) ^ s.val≤64:=by decide
  have q:=this ⟨i.scale.toNat,by omega⟩
  simp only at q
  generalize (2:Int) ^ i.scale.toNat=z at q
  have e:1≤max i.w i.h∧max i.w i.h≤4096:=by omega
  generalize max i.w i.h=m at e
  refine ⟨Int.mul_nonneg (by omega) (by omega),?_⟩
  exact Int.mul_le_mul (by omega) q.2 (by omega) (by omega)
 ·rw [if_neg h];omega
theorem greatest_ok (Gl:qzj) (i:Icon):qzn Go.VL.Er.E Gl f_icon_Greatest [.agg (cIcon i)] (.int .i64 (greatS i)):=by
 refine qzk (qze E_icon_Greatest ?_)
 have gb:=great_bnd i
 unfold c_icon_Greatest r_icon_Greatest
 simp only [qzl]
 unfold greatS at gb ⊢
 simp only [simprocAttr,-Int.reduceNatCast',go_sem]
 refine qzf (sized_ok Gl _) rfl rfl ?_
 cases h1:sizedS i
 ·simp only [simprocAttr,-Int.reduceNatCast',go_sem]
  exact qzc rfl
 ·rw [h1] at gb
  obtain ⟨b1,b2,b3,b4,b5,b6⟩:=sized_bnd h1
  have w1:IntKind.i64.wrap (4*max i.w i.h)=4*max i.w i.h:=qzd (by omega) (by omega)
  have w2:IntKind.i64.wrap (4*max i.w i.h*2 ^ i.scale.toNat)=4*max i.w i.h*2 ^ i.scale.toNat:=qzd (by simp at gb;omega) (by simp at gb;omega)
  have em:(if i.h > i.w then i.h else i.w)=max i.w i.h:=by split<;>omega
  have nn:¬i.scale < 0:=by omega
  have m1:min i.scale.toNat IntKind.i64.bits=i.scale.toNat:=by show min _ 64=_;omega
  simp only [simprocAttr,-Int.reduceNatCast',go_sem] at m1
  simp only [simprocAttr,-Int.reduceNatCast',go_sem,em,w1,w2,nn,m1]
  exact qzc rfl
theorem far_ok (Gl:qzj) (p:Pt) (m:Int) (h0:0≤m) (h1:m≤2 ^ 62):qzn Go.VL.Er.E Gl f_icon_far [.agg [.int .i64 p.x,.int .i64 p.y],.int .i64 m] (.bool (farS p m)):=by
 refine qzk (qze E_icon_far ?_)
 unfold c_icon_far r_icon_far farS
 simp only [qzl]
 have w:IntKind.i64.wrap (0 - m)=-m:=by rw [qzd (by omega) (by omega)];omega
 simp only [simprocAttr,-Int.reduceNatCast',go_sem,w]
 refine qzf (in64_ok Gl _ _ _) rfl rfl ?_
 cases h2:inS p.x (-m) m
 ·simp only [simprocAttr,-Int.reduceNatCast',go_sem,w]
  exact qzc rfl
 ·simp only [simprocAttr,-Int.reduceNatCast',go_sem,w]
  refine qzf (in64_ok Gl _ _ _) rfl rfl ?_
  simp only [simprocAttr,-Int.reduceNatCast',go_sem]
  exact qzc rfl
theorem head_ok {Gl:qzj} (hG:IcG Gl) (c:Cmd) (m:Int):qzn Go.VL.Er.E Gl f_icon_head [.agg (cCmd c),.int .i64 m] (errV (headS c m)):=by
 refine qzk (qze E_icon_head ?_)
 have g4:qza Gl g_ErrRange=some [errK 4]:=hG.r
 unfold c_icon_head r_icon_head
 simp only [qzl]
 by_cases k1:c.kind=1
 ·have k2:¬c.kind=2:=by omega
  have q1:(c.kind == 1)=true:=by simp [k1]
  have q2:(c.kind == 2)=false:=by simp [k2]
  simp only [simprocAttr,-Int.reduceNatCast',go_sem,q1]
  refine qzf (in_ok Gl _ _ _) rfl rfl ?_
  cases r:inS c.rule 0 1
  ·rw [show headS c m=some 4 by simp [headS,k1,r]]
   simp only [simprocAttr,-Int.reduceNatCast',go_sem,q2,g4]
   exact qzc rfl
  ·by_cases w:c.width=0
   ·have q3:(c.width == 0)=true:=by simp [w]
    rw [show headS c m=none by simp [headS,k1,r,w]]
    simp only [simprocAttr,-Int.reduceNatCast',go_sem,q3]
    exact qzc rfl
   ·have q3:(c.width == 0)=false:=by simp [w]
    rw [show headS c m=some 4 by simp [headS,k1,r,w]]
    simp only [simprocAttr,-Int.reduceNatCast',go_sem,q2,q3,g4]
    exact qzc rfl
 ·have q1:(c.kind == 1)=false:=by simp [k1]
  by_cases k2:c.kind=2
  ·have q2:(c.kind == 2)=true:=by simp [k2]
   by_cases r:c.rule=0
   ·have q3:(c.rule == 0)=true:=by simp [r]
    simp only [simprocAttr,-Int.reduceNatCast',go_sem,q1,q2,q3]
    refine qzf (in64_ok Gl _ _ _) rfl rfl ?_
    cases w:inS c.width 1 m
    ·rw [show headS c m=some 4 by simp [headS,k2,r,w]]
     simp only [simprocAttr,-Int.reduceNatCast',go_sem,g4]
     exact qzc rfl
    ·rw [show headS c m=none by simp [headS,k2,r,w]]
     simp only [simprocAttr,-Int.reduceNatCast',go_sem,g4]
     exact qzc rfl
   ·have q3:(c.rule == 0)=false:=by simp [r]
    rw [show headS c m=some 4 by simp [headS,k2,r]]
    simp only [simprocAttr,-Int.reduceNatCast',go_sem,q1,q2,q3,g4]
    exact qzc rfl
  ·have q2:(c.kind == 2)=false:=by simp [k2]
   rw [show headS c m=some 4 by simp [headS,k1,k2]]
   simp only [simprocAttr,-Int.reduceNatCast',go_sem,q1,q2,g4]
   exact qzc rfl
theorem zero_eq (p:Pt):((p.x == 0) && (p.y == 0))=decide (zeroP p):=by
 unfold zeroP
 by_cases h1:p.x=0<;>by_cases h2:p.y=0<;>simp [h1,h2]
theorem same_eq (p q:Pt):((p.x == q.x) && (p.y == q.y))=decide (sameP p q):=by
 unfold sameP
 by_cases h1:p.x=q.x<;>by_cases h2:p.y=q.y<;>simp [h1,h2]
theorem zero_y {p:Pt} (h:zeroP p):(p.x == 0)=true∧(p.y == 0)=true:=by simp [h.1,h.2]
theorem zero_n {p:Pt} (h:¬zeroP p):(p.x == 0)=false∨(p.x == 0)=true∧(p.y == 0)=false:=by
 have:=zero_eq p
 rw [decide_eq_false h] at this
 cases e:(p.x == 0)<;>simp_all
theorem same_y {p q:Pt} (h:sameP p q):(p.x == q.x)=true∧(p.y == q.y)=true:=by simp [h.1,h.2]
theorem same_n {p q:Pt} (h:¬sameP p q):(p.x == q.x)=false∨(p.x == q.x)=true∧(p.y == q.y)=false:=by
 have:=same_eq p q
 rw [decide_eq_false h] at this
 cases e:(p.x == q.x)<;>simp_all
theorem paint_ok {Gl:qzj} (hG:IcG Gl) (p:Paint) (n m:Int) (n0:0≤n) (n1:n < 2 ^ 62) (m0:0≤m) (m1:m≤2 ^ 62):qzn Go.VL.Er.E Gl f_icon_paint [.agg (cPaint p),.int .i64 n,.int .i64 m] (errV (paintS p n m)):=by
 refine qzk (qze E_icon_paint ?_)
 have g4:qza Gl g_ErrRange=some [errK 4]:=hG.r
 have g9:qza Gl g_ErrCanon=some [errK 9]:=hG.c
 unfold c_icon_paint r_icon_paint
 simp only [qzl]
 have w:IntKind.i64.wrap (n - 1)=n - 1:=qzd (by omega) (by omega)
 have r10:inS 0 0 2=true:=by decide
 have r11:inS 1 0 2=true:=by decide
 have r12:inS 2 0 2=true:=by decide
 simp only [simprocAttr,-Int.reduceNatCast',go_sem]
 refine qzf (in_ok Gl _ _ _) rfl rfl ?_
 cases r1:inS p.kind 0 2
 ·rw [show paintS p n m=some 4 by simp [paintS,r1]]
  simp only [simprocAttr,-Int.reduceNatCast',go_sem,g4]
  exact qzc rfl
 simp only [simprocAttr,-Int.reduceNatCast',go_sem,w]
 refine qzf (in_ok Gl _ _ _) rfl rfl ?_
 cases r2:inS p.a 0 (n - 1)
 ·rw [show paintS p n m=some 4 by simp [paintS,r2]]
  simp only [simprocAttr,-Int.reduceNatCast',go_sem,g4]
  exact qzc rfl
 by_cases k0:p.kind=0
 ·have q0:(p.kind == 0)=true:=by simp [k0]
  by_cases b0:p.b=0
  ·have q1:(p.b == 0)=true:=by simp [b0]
   have q1':(p.b != 0)=false:=by simp [b0]
   by_cases z1:zeroP p.p
   ·obtain ⟨za,zb⟩:=zero_y z1
    by_cases z2:zeroP p.q
    ·obtain ⟨zc,zd⟩:=zero_y z2
     rw [show paintS p n m=none by simp [paintS,r2,r10,k0,b0,z1,z2]]
     simp only [simprocAttr,-Int.reduceNatCast',go_sem,q0,q1,q1',za,zb,zc,zd]
     exact qzc rfl
    ·rw [show paintS p n m=some 9 by simp [paintS,r2,r10,k0,b0,z1,z2]]
     rcases zero_n z2 with zc | ⟨zc,zd⟩
     ·simp only [simprocAttr,-Int.reduceNatCast',go_sem,q0,q1,q1',za,zb,zc,g9]
      exact qzc rfl
     ·simp only [simprocAttr,-Int.reduceNatCast',go_sem,q0,q1,q1',za,zb,zc,zd,g9]
      exact qzc rfl
   ·rw [show paintS p n m=some 9 by simp [paintS,r2,r10,k0,b0,z1]]
    rcases zero_n z1 with za | ⟨za,zb⟩
    ·simp only [simprocAttr,-Int.reduceNatCast',go_sem,q0,q1,q1',za,g9]
     exact qzc rfl
    ·simp only [simprocAttr,-Int.reduceNatCast',go_sem,q0,q1,q1',za,zb,g9]
     exact qzc rfl
  ·have q1:(p.b == 0)=false:=by simp [b0]
   have q1':(p.b != 0)=true:=by simp [b0]
   rw [show paintS p n m=some 9 by simp [paintS,r2,r10,k0,b0]]
   simp only [simprocAttr,-Int.reduceNatCast',go_sem,q0,q1,q1',g9]
   exact qzc rfl
 have q0:(p.kind == 0)=false:=by simp [k0]
 simp only [simprocAttr,-Int.reduceNatCast',go_sem,q0,w]
 refine qzf (in_ok Gl _ _ _) rfl rfl ?_
 cases r3:inS p.b 0 (n - 1)
 ·rw [show paintS p n m=some 4 by simp [paintS,r1,r2,k0,r3]]
  simp only [simprocAttr,-Int.reduceNatCast',go_sem,g4]
  exact qzc rfl
 simp only [simprocAttr,-Int.reduceNatCast',go_sem]
 refine qzf (far_ok Gl ⟨_,_⟩ _ m0 m1) rfl rfl ?_
 cases r4:farS p.p m
 case true =>
  rw [show paintS p n m=some 4 by simp [paintS,r1,r2,k0,r3,r4]]
  simp only [simprocAttr,-Int.reduceNatCast',go_sem,g4]
  exact qzc rfl
 by_cases k1:p.kind=1
 ·have q1:(p.kind == 1)=true:=by simp [k1]
  have q2:(p.kind == 2)=false:=by simp [k1]
  simp only [simprocAttr,-Int.reduceNatCast',go_sem,q1]
  refine qzf (far_ok Gl ⟨_,_⟩ _ m0 m1) rfl rfl ?_
  cases r5:farS p.q m
  ·by_cases e:sameP p.p p.q
   ·obtain ⟨sa,sb⟩:=same_y e
    rw [show paintS p n m=some 4 by simp [paintS,r10,r11,r12,r2,k1,r3,r4,r5,e]]
    simp only [simprocAttr,-Int.reduceNatCast',go_sem,sa,sb,g4]
    exact qzc rfl
   ·rw [show paintS p n m=none by simp [paintS,r10,r11,r12,r2,k1,r3,r4,r5,e];done]
    rcases same_n e with sa | ⟨sa,sb⟩
    ·simp only [simprocAttr,-Int.reduceNatCast',go_sem,sa,q2]
     exact qzc rfl
    ·simp only [simprocAttr,-Int.reduceNatCast',go_sem,sa,sb,q2]
     exact qzc rfl
  ·rw [show paintS p n m=some 4 by simp [paintS,r10,r11,r12,r2,k1,r3,r4,r5]]
   simp only [simprocAttr,-Int.reduceNatCast',go_sem,g4]
   exact qzc rfl
 ·have q1:(p.kind == 1)=false:=by simp [k1]
  have k2:p.kind=2:=by unfold inS at r1;simp at r1;omega
  have q2:(p.kind == 2)=true:=by simp [k2]
  simp only [simprocAttr,-Int.reduceNatCast',go_sem,q1,q2]
  refine qzf (in64_ok Gl _ _ _) rfl rfl ?_
  cases r5:inS p.q.x 1 m
  ·rw [show paintS p n m=some 4 by simp [paintS,r10,r11,r12,r2,k2,r3,r4,r5]]
   simp only [simprocAttr,-Int.reduceNatCast',go_sem,g4]
   exact qzc rfl
  by_cases y0:p.q.y=0
  ·have q3:(p.q.y == 0)=true:=by simp [y0]
   have q3':(p.q.y != 0)=false:=by simp [y0]
   rw [show paintS p n m=none by simp [paintS,r10,r11,r12,r2,k2,r3,r4,r5,y0]]
   simp only [simprocAttr,-Int.reduceNatCast',go_sem,q2,q3,q3']
   exact qzc rfl
  ·have q3:(p.q.y == 0)=false:=by simp [y0]
   have q3':(p.q.y != 0)=true:=by simp [y0]
   rw [show paintS p n m=some 9 by simp [paintS,r10,r11,r12,r2,k2,r3,r4,r5,y0]]
   simp only [simprocAttr,-Int.reduceNatCast',go_sem,q2,q3,q3',g9]
   exact qzc rfl
end
end Go.VL.Ic
namespace Go.VL.Ic
open Go.FR Go.IR Go.VL Go.VL.Er Go.VL.Color Go.VL.Wind
noncomputable section
set_option maxRecDepth 100000
set_option maxHeartbeats 1000000
theorem seg_ok {Gl:qzj} (hG:IcG Gl) (s:Seg) (m:Int) (m0:0≤m) (m1:m≤2 ^ 62):qzn Go.VL.Er.E Gl f_icon_seg [.agg (cSeg s),.int .i64 m] (errV (segS s m)):=by
 refine qzk (qze E_icon_seg ?_)
 have g4:qza Gl g_ErrRange=some [errK 4]:=hG.r
 have g9:qza Gl g_ErrCanon=some [errK 9]:=hG.c
 have w1:IntKind.i64.wrap (0+1)=1:=by decide
 have w2:IntKind.i64.wrap (1+1)=2:=by decide
 have w3:IntKind.i64.wrap (2+1)=3:=by decide
 have z0:qzt (VV.int .i64 0)=some 0:=rfl
 have z1:qzt (VV.int .i64 1)=some 1:=rfl
 have z2:qzt (VV.int .i64 2)=some 2:=rfl
 have z3:qzt (VV.int .i64 3)=some 3:=rfl
 have n0:((0:Nat):Int)=0:=rfl
 have n1:((1:Nat):Int)=1:=rfl
 have n2:((2:Nat):Int)=2:=rfl
 have n3:((3:Nat):Int)=3:=rfl
 unfold c_icon_seg r_icon_seg
 simp only [qzl]
 obtain ⟨kind,p0,p1,p2⟩:=s
 simp only [↓reduceIte,Nat.reduceAdd,Nat.reduceMul,Nat.reduceSub,Nat.reduceDiv,Nat.reduceLT,Nat.reduceEqDiff,reduceCtorEq,Nat.reduceLeDiff,Nat.reduceBEq,Int.reduceEq,Int.reduceLT,Int.reduceLE,Int.reduceBEq,Int.reduceGT,go_sem]
 refine qzf (in_ok Gl _ _ _) rfl rfl ?_
 cases r1:inS kind 1 3
 ·rw [show segS ⟨kind,p0,p1,p2⟩ m=some 4 by simp [segS,r1]]
  simp only [↓reduceIte,Nat.reduceAdd,Nat.reduceMul,Nat.reduceSub,Nat.reduceDiv,Nat.reduceLT,Nat.reduceEqDiff,reduceCtorEq,Nat.reduceLeDiff,Nat.reduceBEq,Int.reduceEq,Int.reduceLT,Int.reduceLE,Int.reduceBEq,Int.reduceGT,go_sem,g4]
  exact qzc rfl
 have k123:kind=1∨kind=2∨kind=3:=by unfold inS at r1;simp at r1;omega
 rcases k123 with rfl | rfl | rfl
 ·simp only [↓reduceIte,Nat.reduceAdd,Nat.reduceMul,Nat.reduceSub,Nat.reduceDiv,Nat.reduceLT,Nat.reduceEqDiff,reduceCtorEq,Nat.reduceLeDiff,Nat.reduceBEq,Int.reduceEq,Int.reduceLT,Int.reduceLE,Int.reduceBEq,Int.reduceGT,go_sem,n0,n1,n2,n3,z0,z1,z2,z3]
  refine qzi c_icon_seg_l1.eq_1 ?_
  simp only [↓reduceIte,Nat.reduceAdd,Nat.reduceMul,Nat.reduceSub,Nat.reduceDiv,Nat.reduceLT,Nat.reduceEqDiff,reduceCtorEq,Nat.reduceLeDiff,Nat.reduceBEq,Int.reduceEq,Int.reduceLT,Int.reduceLE,Int.reduceBEq,Int.reduceGT,go_sem,n0,n1,n2,n3,z0,z1,z2,z3]
  refine qzf (far_ok Gl p0 _ m0 m1) rfl rfl ?_
  cases f0:farS p0 m
  case true =>
   rw [show segS ⟨1,p0,p1,p2⟩ m=some 4 by simp [segS,segPts,r1,f0]]
   simp only [↓reduceIte,Nat.reduceAdd,Nat.reduceMul,Nat.reduceSub,Nat.reduceDiv,Nat.reduceLT,Nat.reduceEqDiff,reduceCtorEq,Nat.reduceLeDiff,Nat.reduceBEq,Int.reduceEq,Int.reduceLT,Int.reduceLE,Int.reduceBEq,Int.reduceGT,go_sem,g4]
   exact qzc rfl
  simp only [↓reduceIte,Nat.reduceAdd,Nat.reduceMul,Nat.reduceSub,Nat.reduceDiv,Nat.reduceLT,Nat.reduceEqDiff,reduceCtorEq,Nat.reduceLeDiff,Nat.reduceBEq,Int.reduceEq,Int.reduceLT,Int.reduceLE,Int.reduceBEq,Int.reduceGT,go_sem,w1,w2,w3]
  refine qzi c_icon_seg_l1.eq_1 ?_
  simp only [↓reduceIte,Nat.reduceAdd,Nat.reduceMul,Nat.reduceSub,Nat.reduceDiv,Nat.reduceLT,Nat.reduceEqDiff,reduceCtorEq,Nat.reduceLeDiff,Nat.reduceBEq,Int.reduceEq,Int.reduceLT,Int.reduceLE,Int.reduceBEq,Int.reduceGT,go_sem,n0,n1,n2,n3,z0,z1,z2,z3,w1,w2,w3]
  refine qzi c_icon_seg_l0.eq_1 ?_
  by_cases y1:zeroP p1
  case neg =>
   rw [show segS ⟨1,p0,p1,p2⟩ m=some 9 by simp [segS,segPts,r1,f0,y1]]
   rcases zero_n y1 with a | ⟨a,b⟩
   ·simp only [↓reduceIte,Nat.reduceAdd,Nat.reduceMul,Nat.reduceSub,Nat.reduceDiv,Nat.reduceLT,Nat.reduceEqDiff,reduceCtorEq,Nat.reduceLeDiff,Nat.reduceBEq,Int.reduceEq,Int.reduceLT,Int.reduceLE,Int.reduceBEq,Int.reduceGT,go_sem,n0,n1,n2,n3,z0,z1,z2,z3,a,g9]
    exact qzc rfl
   ·simp only [↓reduceIte,Nat.reduceAdd,Nat.reduceMul,Nat.reduceSub,Nat.reduceDiv,Nat.reduceLT,Nat.reduceEqDiff,reduceCtorEq,Nat.reduceLeDiff,Nat.reduceBEq,Int.reduceEq,Int.reduceLT,Int.reduceLE,Int.reduceBEq,Int.reduceGT,go_sem,n0,n1,n2,n3,z0,z1,z2,z3,a,b,g9]
    exact qzc rfl
  obtain ⟨a1,b1⟩:=zero_y y1
  simp only [↓reduceIte,Nat.reduceAdd,Nat.reduceMul,Nat.reduceSub,Nat.reduceDiv,Nat.reduceLT,Nat.reduceEqDiff,reduceCtorEq,Nat.reduceLeDiff,Nat.reduceBEq,Int.reduceEq,Int.reduceLT,Int.reduceLE,Int.reduceBEq,Int.reduceGT,go_sem,n0,n1,n2,n3,z0,z1,z2,z3,a1,b1,w1,w2,w3]
  refine qzi c_icon_seg_l0.eq_1 ?_
  by_cases y2:zeroP p2
  case neg =>
   rw [show segS ⟨1,p0,p1,p2⟩ m=some 9 by simp [segS,segPts,r1,f0,y1,y2]]
   rcases zero_n y2 with a | ⟨a,b⟩
   ·simp only [↓reduceIte,Nat.reduceAdd,Nat.reduceMul,Nat.reduceSub,Nat.reduceDiv,Nat.reduceLT,Nat.reduceEqDiff,reduceCtorEq,Nat.reduceLeDiff,Nat.reduceBEq,Int.reduceEq,Int.reduceLT,Int.reduceLE,Int.reduceBEq,Int.reduceGT,go_sem,n0,n1,n2,n3,z0,z1,z2,z3,a,g9]
    exact qzc rfl
   ·simp only [↓reduceIte,Nat.reduceAdd,Nat.reduceMul,Nat.reduceSub,Nat.reduceDiv,Nat.reduceLT,Nat.reduceEqDiff,reduceCtorEq,Nat.reduceLeDiff,Nat.reduceBEq,Int.reduceEq,Int.reduceLT,Int.reduceLE,Int.reduceBEq,Int.reduceGT,go_sem,n0,n1,n2,n3,z0,z1,z2,z3,a,b,g9]
    exact qzc rfl
  obtain ⟨a2,b2⟩:=zero_y y2
  simp only [↓reduceIte,Nat.reduceAdd,Nat.reduceMul,Nat.reduceSub,Nat.reduceDiv,Nat.reduceLT,Nat.reduceEqDiff,reduceCtorEq,Nat.reduceLeDiff,Nat.reduceBEq,Int.reduceEq,Int.reduceLT,Int.reduceLE,Int.reduceBEq,Int.reduceGT,go_sem,n0,n1,n2,n3,z0,z1,z2,z3,a2,b2,w1,w2,w3]
  refine qzi c_icon_seg_l0.eq_1 ?_
  rw [show segS ⟨1,p0,p1,p2⟩ m=none by simp [segS,segPts,r1,f0,y1,y2]]
  simp only [↓reduceIte,Nat.reduceAdd,Nat.reduceMul,Nat.reduceSub,Nat.reduceDiv,Nat.reduceLT,Nat.reduceEqDiff,reduceCtorEq,Nat.reduceLeDiff,Nat.reduceBEq,Int.reduceEq,Int.reduceLT,Int.reduceLE,Int.reduceBEq,Int.reduceGT,go_sem,n0,n1,n2,n3,z0,z1,z2,z3,w1,w2,w3]
  exact qzc rfl
 ·simp only [↓reduceIte,Nat.reduceAdd,Nat.reduceMul,Nat.reduceSub,Nat.reduceDiv,Nat.reduceLT,Nat.reduceEqDiff,reduceCtorEq,Nat.reduceLeDiff,Nat.reduceBEq,Int.reduceEq,Int.reduceLT,Int.reduceLE,Int.reduceBEq,Int.reduceGT,go_sem,n0,n1,n2,n3,z0,z1,z2,z3]
  refine qzi c_icon_seg_l1.eq_1 ?_
  simp only [↓reduceIte,Nat.reduceAdd,Nat.reduceMul,Nat.reduceSub,Nat.reduceDiv,Nat.reduceLT,Nat.reduceEqDiff,reduceCtorEq,Nat.reduceLeDiff,Nat.reduceBEq,Int.reduceEq,Int.reduceLT,Int.reduceLE,Int.reduceBEq,Int.reduceGT,go_sem,n0,n1,n2,n3,z0,z1,z2,z3]
  refine qzf (far_ok Gl p0 _ m0 m1) rfl rfl ?_
  cases f0:farS p0 m
  case true =>
   rw [show segS ⟨2,p0,p1,p2⟩ m=some 4 by simp [segS,segPts,r1,f0]]
   simp only [↓reduceIte,Nat.reduceAdd,Nat.reduceMul,Nat.reduceSub,Nat.reduceDiv,Nat.reduceLT,Nat.reduceEqDiff,reduceCtorEq,Nat.reduceLeDiff,Nat.reduceBEq,Int.reduceEq,Int.reduceLT,Int.reduceLE,Int.reduceBEq,Int.reduceGT,go_sem,g4]
   exact qzc rfl
  simp only [↓reduceIte,Nat.reduceAdd,Nat.reduceMul,Nat.reduceSub,Nat.reduceDiv,Nat.reduceLT,Nat.reduceEqDiff,reduceCtorEq,Nat.reduceLeDiff,Nat.reduceBEq,Int.reduceEq,Int.reduceLT,Int.reduceLE,Int.reduceBEq,Int.reduceGT,go_sem,w1,w2,w3]
  refine qzi c_icon_seg_l1.eq_1 ?_
  simp only [↓reduceIte,Nat.reduceAdd,Nat.reduceMul,Nat.reduceSub,Nat.reduceDiv,Nat.reduceLT,Nat.reduceEqDiff,reduceCtorEq,Nat.reduceLeDiff,Nat.reduceBEq,Int.reduceEq,Int.reduceLT,Int.reduceLE,Int.reduceBEq,Int.reduceGT,go_sem,n0,n1,n2,n3,z0,z1,z2,z3]
  refine qzf (far_ok Gl p1 _ m0 m1) rfl rfl ?_
  cases f1:farS p1 m
  case true =>
   rw [show segS ⟨2,p0,p1,p2⟩ m=some 4 by simp [segS,segPts,r1,f0,f1]]
   simp only [↓reduceIte,Nat.reduceAdd,Nat.reduceMul,Nat.reduceSub,Nat.reduceDiv,Nat.reduceLT,Nat.reduceEqDiff,reduceCtorEq,Nat.reduceLeDiff,Nat.reduceBEq,Int.reduceEq,Int.reduceLT,Int.reduceLE,Int.reduceBEq,Int.reduceGT,go_sem,g4]
   exact qzc rfl
  simp only [↓reduceIte,Nat.reduceAdd,Nat.reduceMul,Nat.reduceSub,Nat.reduceDiv,Nat.reduceLT,Nat.reduceEqDiff,reduceCtorEq,Nat.reduceLeDiff,Nat.reduceBEq,Int.reduceEq,Int.reduceLT,Int.reduceLE,Int.reduceBEq,Int.reduceGT,go_sem,w1,w2,w3]
  refine qzi c_icon_seg_l1.eq_1 ?_
  simp only [↓reduceIte,Nat.reduceAdd,Nat.reduceMul,Nat.reduceSub,Nat.reduceDiv,Nat.reduceLT,Nat.reduceEqDiff,reduceCtorEq,Nat.reduceLeDiff,Nat.reduceBEq,Int.reduceEq,Int.reduceLT,Int.reduceLE,Int.reduceBEq,Int.reduceGT,go_sem,n0,n1,n2,n3,z0,z1,z2,z3,w1,w2,w3]
  refine qzi c_icon_seg_l0.eq_1 ?_
  by_cases y2:zeroP p2
  case neg =>
   rw [show segS ⟨2,p0,p1,p2⟩ m=some 9 by simp [segS,segPts,r1,f0,f1,y2]]
   rcases zero_n y2 with a | ⟨a,b⟩
   ·simp only [↓reduceIte,Nat.reduceAdd,Nat.reduceMul,Nat.reduceSub,Nat.reduceDiv,Nat.reduceLT,Nat.reduceEqDiff,reduceCtorEq,Nat.reduceLeDiff,Nat.reduceBEq,Int.reduceEq,Int.reduceLT,Int.reduceLE,Int.reduceBEq,Int.reduceGT,go_sem,n0,n1,n2,n3,z0,z1,z2,z3,a,g9]
    exact qzc rfl
   ·simp only [↓reduceIte,Nat.reduceAdd,Nat.reduceMul,Nat.reduceSub,Nat.reduceDiv,Nat.reduceLT,Nat.reduceEqDiff,reduceCtorEq,Nat.reduceLeDiff,Nat.reduceBEq,Int.reduceEq,Int.reduceLT,Int.reduceLE,Int.reduceBEq,Int.reduceGT,go_sem,n0,n1,n2,n3,z0,z1,z2,z3,a,b,g9]
    exact qzc rfl
  obtain ⟨a2,b2⟩:=zero_y y2
  simp only [↓reduceIte,Nat.reduceAdd,Nat.reduceMul,Nat.reduceSub,Nat.reduceDiv,Nat.reduceLT,Nat.reduceEqDiff,reduceCtorEq,Nat.reduceLeDiff,Nat.reduceBEq,Int.reduceEq,Int.reduceLT,Int.reduceLE,Int.reduceBEq,Int.reduceGT,go_sem,n0,n1,n2,n3,z0,z1,z2,z3,a2,b2,w1,w2,w3]
  refine qzi c_icon_seg_l0.eq_1 ?_
  rw [show segS ⟨2,p0,p1,p2⟩ m=none by simp [segS,segPts,r1,f0,f1,y2]]
  simp only [↓reduceIte,Nat.reduceAdd,Nat.reduceMul,Nat.reduceSub,Nat.reduceDiv,Nat.reduceLT,Nat.reduceEqDiff,reduceCtorEq,Nat.reduceLeDiff,Nat.reduceBEq,Int.reduceEq,Int.reduceLT,Int.reduceLE,Int.reduceBEq,Int.reduceGT,go_sem,n0,n1,n2,n3,z0,z1,z2,z3,w1,w2,w3]
  exact qzc rfl
 ·simp only [↓reduceIte,Nat.reduceAdd,Nat.reduceMul,Nat.reduceSub,Nat.reduceDiv,Nat.reduceLT,Nat.reduceEqDiff,reduceCtorEq,Nat.reduceLeDiff,Nat.reduceBEq,Int.reduceEq,Int.reduceLT,Int.reduceLE,Int.reduceBEq,Int.reduceGT,go_sem,n0,n1,n2,n3,z0,z1,z2,z3]
  refine qzi c_icon_seg_l1.eq_1 ?_
  simp only [↓reduceIte,Nat.reduceAdd,Nat.reduceMul,Nat.reduceSub,Nat.reduceDiv,Nat.reduceLT,Nat.reduceEqDiff,reduceCtorEq,Nat.reduceLeDiff,Nat.reduceBEq,Int.reduceEq,Int.reduceLT,Int.reduceLE,Int.reduceBEq,Int.reduceGT,go_sem,n0,n1,n2,n3,z0,z1,z2,z3]
  refine qzf (far_ok Gl p0 _ m0 m1) rfl rfl ?_
  cases f0:farS p0 m
  case true =>
   rw [show segS ⟨3,p0,p1,p2⟩ m=some 4 by simp [segS,segPts,r1,f0]]
   simp only [↓reduceIte,Nat.reduceAdd,Nat.reduceMul,Nat.reduceSub,Nat.reduceDiv,Nat.reduceLT,Nat.reduceEqDiff,reduceCtorEq,Nat.reduceLeDiff,Nat.reduceBEq,Int.reduceEq,Int.reduceLT,Int.reduceLE,Int.reduceBEq,Int.reduceGT,go_sem,g4]
   exact qzc rfl
  simp only [↓reduceIte,Nat.reduceAdd,Nat.reduceMul,Nat.reduceSub,Nat.reduceDiv,Nat.reduceLT,Nat.reduceEqDiff,reduceCtorEq,Nat.reduceLeDiff,Nat.reduceBEq,Int.reduceEq,Int.reduceLT,Int.reduceLE,Int.reduceBEq,Int.reduceGT,go_sem,w1,w2,w3]
  refine qzi c_icon_seg_l1.eq_1 ?_
  simp only [↓reduceIte,Nat.reduceAdd,Nat.reduceMul,Nat.reduceSub,Nat.reduceDiv,Nat.reduceLT,Nat.reduceEqDiff,reduceCtorEq,Nat.reduceLeDiff,Nat.reduceBEq,Int.reduceEq,Int.reduceLT,Int.reduceLE,Int.reduceBEq,Int.reduceGT,go_sem,n0,n1,n2,n3,z0,z1,z2,z3]
  refine qzf (far_ok Gl p1 _ m0 m1) rfl rfl ?_
  cases f1:farS p1 m
  case true =>
   rw [show segS ⟨3,p0,p1,p2⟩ m=some 4 by simp [segS,segPts,r1,f0,f1]]
   simp only [↓reduceIte,Nat.reduceAdd,Nat.reduceMul,Nat.reduceSub,Nat.reduceDiv,Nat.reduceLT,Nat.reduceEqDiff,reduceCtorEq,Nat.reduceLeDiff,Nat.reduceBEq,Int.reduceEq,Int.reduceLT,Int.reduceLE,Int.reduceBEq,Int.reduceGT,go_sem,g4]
   exact qzc rfl
  simp only [↓reduceIte,Nat.reduceAdd,Nat.reduceMul,Nat.reduceSub,Nat.reduceDiv,Nat.reduceLT,Nat.reduceEqDiff,reduceCtorEq,Nat.reduceLeDiff,Nat.reduceBEq,Int.reduceEq,Int.reduceLT,Int.reduceLE,Int.reduceBEq,Int.reduceGT,go_sem,w1,w2,w3]
  refine qzi c_icon_seg_l1.eq_1 ?_
  simp only [↓reduceIte,Nat.reduceAdd,Nat.reduceMul,Nat.reduceSub,Nat.reduceDiv,Nat.reduceLT,Nat.reduceEqDiff,reduceCtorEq,Nat.reduceLeDiff,Nat.reduceBEq,Int.reduceEq,Int.reduceLT,Int.reduceLE,Int.reduceBEq,Int.reduceGT,go_sem,n0,n1,n2,n3,z0,z1,z2,z3]
  refine qzf (far_ok Gl p2 _ m0 m1) rfl rfl ?_
  cases f2:farS p2 m
  case true =>
   rw [show segS ⟨3,p0,p1,p2⟩ m=some 4 by simp [segS,segPts,r1,f0,f1,f2]]
   simp only [↓reduceIte,Nat.reduceAdd,Nat.reduceMul,Nat.reduceSub,Nat.reduceDiv,Nat.reduceLT,Nat.reduceEqDiff,reduceCtorEq,Nat.reduceLeDiff,Nat.reduceBEq,Int.reduceEq,Int.reduceLT,Int.reduceLE,Int.reduceBEq,Int.reduceGT,go_sem,g4]
   exact qzc rfl
  simp only [↓reduceIte,Nat.reduceAdd,Nat.reduceMul,Nat.reduceSub,Nat.reduceDiv,Nat.reduceLT,Nat.reduceEqDiff,reduceCtorEq,Nat.reduceLeDiff,Nat.reduceBEq,Int.reduceEq,Int.reduceLT,Int.reduceLE,Int.reduceBEq,Int.reduceGT,go_sem,w1,w2,w3]
  refine qzi c_icon_seg_l1.eq_1 ?_
  simp only [↓reduceIte,Nat.reduceAdd,Nat.reduceMul,Nat.reduceSub,Nat.reduceDiv,Nat.reduceLT,Nat.reduceEqDiff,reduceCtorEq,Nat.reduceLeDiff,Nat.reduceBEq,Int.reduceEq,Int.reduceLT,Int.reduceLE,Int.reduceBEq,Int.reduceGT,go_sem,n0,n1,n2,n3,z0,z1,z2,z3,w1,w2,w3]
  refine qzi c_icon_seg_l0.eq_1 ?_
  rw [show segS ⟨3,p0,p1,p2⟩ m=none by simp [segS,segPts,r1,f0,f1,f2]]
  simp only [↓reduceIte,Nat.reduceAdd,Nat.reduceMul,Nat.reduceSub,Nat.reduceDiv,Nat.reduceLT,Nat.reduceEqDiff,reduceCtorEq,Nat.reduceLeDiff,Nat.reduceBEq,Int.reduceEq,Int.reduceLT,Int.reduceLE,Int.reduceBEq,Int.reduceGT,go_sem,n0,n1,n2,n3,z0,z1,z2,z3,w1,w2,w3]
  exact qzc rfl
theorem firstS_drop {α:Type} {f:α→Option Nat} {l:List α} {i:Nat} {x:α} (h:l[i]?=some x):firstS f (l.drop i)=match f x with
  | some e=>some e
  | none=>firstS f (l.drop (i+1)):=by rw [drop_at h];rfl
attribute [local go_sem] cCl erP errK cSeg cPath cPaint cCmd cIcon t_p_api_At t_p_errors_errorString
theorem seg_loop {Gl:qzj} (hG:IcG Gl) (l:List Seg) (hl:l.length < 1000000) (m:Int) (m0:0≤m) (m1:m≤2 ^ 62) (K:AEx→VF→VH→Prop)
  (hE:∀ T h e,firstS (segS · m) l=some e→qza T 6=some (errK e)→K .ret T h)
  (hK:∀ T h,firstS (segS · m) l=none→K (.exit 1) T h) :
  ∀ (d i:Nat) (T:VF) (h:VH),d+i=l.length→firstS (segS · m) l=firstS (segS · m) (l.drop i)→qza T 2=some (.int .i64 m)→qza T 36=some (.fsl (qzg cSeg l) l.length 7)→qza T 37=some (.int .i64 l.length)→qza T 38=some (.int .i64 i) →
  wp Go.VL.Er.E Gl (.loop c_icon_path_l0) T h K:=by
 intro d
 induction d with
 | zero =>
  intro i T h hd hs t2 t36 t37 t38
  obtain rfl:i=l.length:=by omega
  rw [List.drop_length] at hs
  refine qzi c_icon_path_l0.eq_1 ?_
  have c:¬((l.length:Int) < l.length):=by omega
  simp only [simprocAttr,-Int.reduceNatCast',go_sem,t37,t38,c]
  exact hK _ _ hs
 | succ d ih =>
  intro i T h hd hs t2 t36 t37 t38
  refine qzi c_icon_path_l0.eq_1 ?_
  have hlt:i < l.length:=by omega
  have c:(i:Int) < l.length:=by omega
  obtain ⟨e,he⟩:∃ e,l[i]?=some e:=⟨l[i],List.getElem?_eq_getElem hlt⟩
  have p1:=qzr cSeg_len he
  have p2:=qzs cSeg_len he
  have hw:IntKind.i64.wrap ((i:Int)+1)=((i+1:Nat):Int):=by rw [qzd (by omega) (by omega)];rfl
  rw [firstS_drop he] at hs
  simp only [simprocAttr,-Int.reduceNatCast',go_sem,t2,t36,t37,t38,c,hlt,p1,p2]
  refine qzf (seg_ok hG e m m0 m1) rfl (by cases segS e m<;>rfl) ?_
  cases q:segS e m with
  | some n =>
   rw [q] at hs
   simp only [errV]
   simp only [simprocAttr,-Int.reduceNatCast',go_sem]
   exact hE _ _ n hs (by simp only [simprocAttr,-Int.reduceNatCast',go_sem])
  | none =>
   rw [q] at hs
   simp only [errV]
   simp only [simprocAttr,-Int.reduceNatCast',go_sem,t38,hw]
   refine ih (i+1) _ _ (by omega) hs ?_ ?_ ?_ ?_
   ·simp only [simprocAttr,-Int.reduceNatCast',go_sem,t2]
   ·simp only [simprocAttr,-Int.reduceNatCast',go_sem,t36]
   ·simp only [simprocAttr,-Int.reduceNatCast',go_sem,t37]
   ·simp only [simprocAttr,-Int.reduceNatCast',go_sem]
theorem path_ok {Gl:qzj} (hG:IcG Gl) (p:Path) (fill:Bool) (m:Int) (hl:p.segs.length < 1000000) (m0:0≤m) (m1:m≤2 ^ 62):qzn Go.VL.Er.E Gl f_icon_path [.agg (cPath p),.bool fill,.int .i64 m] (errV (pathS p fill m)):=by
 refine qzk (qze E_icon_path ?_)
 have g4:qza Gl g_ErrRange=some [errK 4]:=hG.r
 have g5:qza Gl g_ErrLimit=some [errK 5]:=hG.l
 have g9:qza Gl g_ErrCanon=some [errK 9]:=hG.c
 unfold c_icon_path r_icon_path
 simp only [qzl]
 have main:∀ (q:(fill && p.closed)=false) (Q:VV→VH→Prop) (T:VF) (h:VH),True:=fun _ _ _ _=>trivial
 by_cases q:(fill && p.closed)=true
 ·simp only [Bool.and_eq_true] at q
  obtain ⟨rfl,q2⟩:=q
  rw [show pathS p true m=some 9 by simp [pathS,q2]]
  simp only [simprocAttr,-Int.reduceNatCast',go_sem,q2,g9]
  exact qzc rfl
 have qq:fill=false∨(fill=true∧p.closed=false):=by cases fill<;>simp_all
 by_cases c0:p.segs.length=0
 ·have c0':((p.segs.length:Int) == 0)=true:=by simp [c0]
  rw [show pathS p fill m=some 4 by unfold pathS;rw [if_neg q,if_pos c0]]
  rcases qq with rfl | ⟨rfl,q2⟩
  ·simp only [simprocAttr,-Int.reduceNatCast',go_sem,c0',g4]
   exact qzc rfl
  ·simp only [simprocAttr,-Int.reduceNatCast',go_sem,c0',q2,g4]
   exact qzc rfl
 have c0':((p.segs.length:Int) == 0)=false:=beq_false_of_ne (by omega)
 by_cases c4:400 < p.segs.length
 ·have c4':(p.segs.length:Int) > 400:=by omega
  rw [show pathS p fill m=some 5 by unfold pathS;rw [if_neg q,if_neg c0,if_pos c4]]
  rcases qq with rfl | ⟨rfl,q2⟩
  ·simp only [simprocAttr,-Int.reduceNatCast',go_sem,c0',c4',g5]
   exact qzc rfl
  ·simp only [simprocAttr,-Int.reduceNatCast',go_sem,c0',c4',q2,g5]
   exact qzc rfl
 have c4':¬(p.segs.length:Int) > 400:=by omega
 have hp:pathS p fill m=if farS p.start m=true then some 4 else firstS (segS · m) p.segs:=by unfold pathS;rw [if_neg q,if_neg c0,if_neg c4]
 rcases qq with rfl | ⟨rfl,q2⟩
 ·simp only [simprocAttr,-Int.reduceNatCast',go_sem,c0',c4']
  refine qzf (far_ok Gl _ _ m0 m1) rfl rfl ?_
  cases f:farS p.start m
  case true =>
   rw [f,if_pos rfl] at hp
   rw [hp]
   simp only [simprocAttr,-Int.reduceNatCast',go_sem,g4]
   exact qzc rfl
  rw [f,if_neg (by simp)] at hp
  rw [hp]
  simp only [simprocAttr,-Int.reduceNatCast',go_sem]
  refine seg_loop hG p.segs hl m m0 m1 _ ?_ ?_ p.segs.length 0 _ _ (by omega) rfl ?_ ?_ ?_ ?_
  ·intro T h e he t6
   rw [he]
   simp only [simprocAttr,-Int.reduceNatCast',go_sem,t6]
   exact qzc rfl
  ·intro T h he
   rw [he]
   simp only [simprocAttr,-Int.reduceNatCast',go_sem]
   exact qzc rfl
  all_goals simp only [simprocAttr,-Int.reduceNatCast',go_sem]
  all_goals rfl
 ·simp only [simprocAttr,-Int.reduceNatCast',go_sem,q2,c0',c4']
  refine qzf (far_ok Gl _ _ m0 m1) rfl rfl ?_
  cases f:farS p.start m
  case true =>
   rw [f,if_pos rfl] at hp
   rw [hp]
   simp only [simprocAttr,-Int.reduceNatCast',go_sem,g4]
   exact qzc rfl
  rw [f,if_neg (by simp)] at hp
  rw [hp]
  simp only [simprocAttr,-Int.reduceNatCast',go_sem]
  refine seg_loop hG p.segs hl m m0 m1 _ ?_ ?_ p.segs.length 0 _ _ (by omega) rfl ?_ ?_ ?_ ?_
  ·intro T h e he t6
   rw [he]
   simp only [simprocAttr,-Int.reduceNatCast',go_sem,t6]
   exact qzc rfl
  ·intro T h he
   rw [he]
   simp only [simprocAttr,-Int.reduceNatCast',go_sem]
   exact qzc rfl
  all_goals simp only [simprocAttr,-Int.reduceNatCast',go_sem]
  all_goals rfl
theorem path_loop {Gl:qzj} (hG:IcG Gl) (k:Int) (l:List Path) (hl:l.length < 1000000) (hp:∀ p∈l,p.segs.length < 1000000) (m:Int) (m0:0≤m) (m1:m≤2 ^ 62) (b:Nat) (cr:List VV) (K:AEx→VF→VH→Prop)
  (hE:∀ T h e,firstS (fun p=>pathS p (decide (k=1)) m) l=some e→qza T 6=some (errK e)→K .ret T h)
  (hK:∀ T h,firstS (fun p=>pathS p (decide (k=1)) m) l=none→K (.exit 1) T h) :
  ∀ (d i:Nat) (T:VF) (h:VH),d+i=l.length→firstS (fun p=>pathS p (decide (k=1)) m) l=firstS (fun p=>pathS p (decide (k=1)) m) (l.drop i)→qza T 2=some (.int .i64 m)→qza T 3=some (.ptr b 0)→qza T 39=some (.fsl (qzg cPath l) l.length 4)→qza T 40=some (.int .i64 l.length)→qza T 41=some (.int .i64 i) →
   qza h.l b=some (some (.cells (.int .i64 k::cr) false))→b < h.next →
  wp Go.VL.Er.E Gl (.loop c_icon_cmd_l0) T h K:=by
 intro d
 induction d with
 | zero =>
  intro i T h hd hs t2 t3 t39 t40 t41 hb hn
  obtain rfl:i=l.length:=by omega
  rw [List.drop_length] at hs
  refine qzi c_icon_cmd_l0.eq_1 ?_
  have c:¬((l.length:Int) < l.length):=by omega
  simp only [simprocAttr,-Int.reduceNatCast',go_sem,t40,t41,c]
  exact hK _ _ hs
 | succ d ih =>
  intro i T h hd hs t2 t3 t39 t40 t41 hb hn
  refine qzi c_icon_cmd_l0.eq_1 ?_
  have hlt:i < l.length:=by omega
  have c:(i:Int) < l.length:=by omega
  obtain ⟨e,he⟩:∃ e,l[i]?=some e:=⟨l[i],List.getElem?_eq_getElem hlt⟩
  have hpe:=hp e (List.mem_of_getElem? he)
  have p1:=qzr cPath_len he
  have p2:=qzs cPath_len he
  have hw:IntKind.i64.wrap ((i:Int)+1)=((i+1:Nat):Int):=by rw [qzd (by omega) (by omega)];rfl
  have hne:¬h.next=b:=by omega
  have kd:(k == 1)=decide (k=1):=rfl
  rw [firstS_drop he] at hs
  simp only [simprocAttr,-Int.reduceNatCast',go_sem,t2,t3,t39,t40,t41,c,hlt,p1,p2,hne,hb]
  refine qzf (path_ok hG e (decide (k=1)) m hpe m0 m1) rfl (by cases pathS e (decide (k=1)) m<;>rfl) ?_
  cases q:pathS e (decide (k=1)) m with
  | some n =>
   rw [q] at hs
   simp only [errV]
   simp only [simprocAttr,-Int.reduceNatCast',go_sem]
   exact hE _ _ n hs (by simp only [simprocAttr,-Int.reduceNatCast',go_sem])
  | none =>
   rw [q] at hs
   simp only [errV]
   simp only [simprocAttr,-Int.reduceNatCast',go_sem,t41,hw]
   refine ih (i+1) _ _ (by omega) hs ?_ ?_ ?_ ?_ ?_ ?_ ?_
   ·simp only [simprocAttr,-Int.reduceNatCast',go_sem,t2]
   ·simp only [simprocAttr,-Int.reduceNatCast',go_sem,t3]
   ·simp only [simprocAttr,-Int.reduceNatCast',go_sem,t39]
   ·simp only [simprocAttr,-Int.reduceNatCast',go_sem,t40]
   ·simp only [simprocAttr,-Int.reduceNatCast',go_sem]
   ·simp only [simprocAttr,-Int.reduceNatCast',go_sem,hne];exact hb
   ·simp only [simprocAttr,-Int.reduceNatCast',go_sem];omega
theorem cmd_ok {Gl:qzj} (hG:IcG Gl) (c:Cmd) (n m:Int) (hl:c.paths.length < 1000000) (hp:∀ p∈c.paths,p.segs.length < 1000000) (n0:0≤n) (n1:n < 2 ^ 62) (m0:0≤m) (m1:m≤2 ^ 62):qzn Go.VL.Er.E Gl f_icon_cmd [.agg (cCmd c),.int .i64 n,.int .i64 m] (errV (cmdS c n m)):=by
 refine qzk (qze E_icon_cmd ?_)
 have g4:qza Gl g_ErrRange=some [errK 4]:=hG.r
 have g5:qza Gl g_ErrLimit=some [errK 5]:=hG.l
 unfold c_icon_cmd r_icon_cmd
 simp only [qzl]
 have hc:cmdS c n m=match headS c m with
  | some e=>some e
  | none=>match paintS c.paint n m with
   | some e=>some e
   | none=>if c.paths.length=0 then some 4 else if 200 < c.paths.length then some 5 else firstS (fun p=>pathS p (decide (c.kind=1)) m) c.paths:=rfl
 simp only [simprocAttr,-Int.reduceNatCast',go_sem]
 refine qzf (head_ok hG c m) rfl (by cases headS c m<;>rfl) ?_
 cases q:headS c m with
 | some e =>
  rw [q] at hc
  rw [hc]
  simp only [errV]
  simp only [simprocAttr,-Int.reduceNatCast',go_sem]
  exact qzc rfl
 | none =>
 rw [q] at hc
 simp only [errV] at hc ⊢
 simp only [simprocAttr,-Int.reduceNatCast',go_sem]
 refine qzf (paint_ok hG c.paint n m n0 n1 m0 m1) rfl (by cases paintS c.paint n m<;>rfl) ?_
 cases q2:paintS c.paint n m with
 | some e =>
  rw [q2] at hc
  rw [hc]
  simp only [errV]
  simp only [simprocAttr,-Int.reduceNatCast',go_sem]
  exact qzc rfl
 | none =>
 rw [q2] at hc
 simp only [errV] at hc ⊢
 by_cases c0:c.paths.length=0
 ·have c0':((c.paths.length:Int) == 0)=true:=by simp [c0]
  rw [if_pos c0] at hc
  rw [hc]
  simp only [simprocAttr,-Int.reduceNatCast',go_sem,c0',g4]
  exact qzc rfl
 have c0':((c.paths.length:Int) == 0)=false:=beq_false_of_ne (by omega)
 by_cases c4:200 < c.paths.length
 ·have c4':(c.paths.length:Int) > 200:=by omega
  rw [if_neg c0,if_pos c4] at hc
  rw [hc]
  simp only [simprocAttr,-Int.reduceNatCast',go_sem,c0',c4',g5]
  exact qzc rfl
 have c4':¬(c.paths.length:Int) > 200:=by omega
 rw [if_neg c0,if_neg c4] at hc
 rw [hc]
 simp only [simprocAttr,-Int.reduceNatCast',go_sem,c0',c4']
 refine path_loop hG c.kind c.paths hl hp m m0 m1 0 [.int .i64 c.rule,.int .i64 c.width,.int .i64 c.paint.kind,.int .i64 c.paint.a,.int .i64 c.paint.b,.int .i64 c.paint.p.x,.int .i64 c.paint.p.y,.int .i64 c.paint.q.x,.int .i64 c.paint.q.y,.fsl (qzg cPath c.paths) c.paths.length 4] _ ?_ ?_ c.paths.length 0 _ _ (by omega) rfl ?_ ?_ ?_ ?_ ?_ ?_ ?_
 ·intro T h e he t6
  rw [he]
  simp only [simprocAttr,-Int.reduceNatCast',go_sem,t6]
  exact qzc rfl
 ·intro T h he
  rw [he]
  simp only [simprocAttr,-Int.reduceNatCast',go_sem]
  exact qzc rfl
 all_goals first | (simp only [simprocAttr,-Int.reduceNatCast',go_sem];done) | (simp only [simprocAttr,-Int.reduceNatCast',go_sem];rfl) | (simp only [simprocAttr,-Int.reduceNatCast',go_sem];exact Nat.zero_lt_succ _)
end
end Go.VL.Ic
