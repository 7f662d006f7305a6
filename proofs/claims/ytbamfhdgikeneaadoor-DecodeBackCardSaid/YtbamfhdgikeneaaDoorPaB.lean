import Derived.Test.YtbamfhdgikeneaaDoorVlJ
import Derived.Test.YtbamfhdgikeneaaDoorPaA
import Derived.Test.YtbamfhdgikeneaaDoorDcG
import Derived.Test.YtbamfhdgikeneaaDoorIcE
import Derived.Test.YtbamfhdgikeneaaDoorWrA
set_option linter.unusedSimpArgs false
set_option linter.unusedVariables false
namespace Go.VL.Pal
open Go.FR Go.IR Go.VL Go.VL.Color Go.VL.Wind
noncomputable section
set_option maxRecDepth 100000
set_option maxHeartbeats 1000000
def colT:List Cl:=[⟨255,0,0,255⟩,⟨0,128,0,255⟩,⟨0,0,200,100⟩,⟨10,20,30,1⟩,⟨255,255,255,255⟩,⟨0,0,0,0⟩,⟨7,0,0,254⟩]
def colS (l:List Int) (at_:Nat):Cl:=colT.getD (nextS l at_ 7).toNat ⟨0,0,0,0⟩
theorem colT_at (k:Nat) (h:k < 7):colT[k]?=some (colT.getD k ⟨0,0,0,0⟩):=by
 rw [List.getD_eq_getElem?_getD,List.getElem?_eq_getElem (by simpa [colT] using h)];rfl
attribute [local go_sem] cCl cSeq
theorem color_ok (Gl:qzj) (l:List Int) (at_:Nat) (i:Nat) (hl:l.length < 4611686018427387904) (ha:at_ < 1000000) :
  StOk Go.VL.Pal.E Gl f_glyphicmake_Color [.ptr i 0] [(i,bSeq l at_)] (.agg (cCl (colS l at_))) [(i,bSeq l (at_+1))]:=by
 refine st1_intro fun nx hn=>qzd E_glyphicmake_Color ?_
 unfold c_glyphicmake_Color r_glyphicmake_Color
 simp only [qzl]
 have e1:¬nx=i:=by omega
 have e2:¬i=nx:=by omega
 have e3:¬nx+1=i:=by omega
 have e4:¬i=nx+1:=by omega
 have e5:¬nx=nx+1:=by omega
 have e6:¬nx+1=nx:=by omega
 have n1:=next_in l at_ 7 (by omega)
 obtain ⟨k,hk⟩:∃ k:Nat,nextS l at_ 7=k:=⟨(nextS l at_ 7).toNat,by omega⟩
 have hk7:k < 7:=by omega
 have hc:colS l at_=colT.getD k ⟨0,0,0,0⟩:=by unfold colS;rw [hk,Int.toNat_natCast]
 have p1:=qzr cCl_len (colT_at k hk7)
 have p2:=qzs cCl_len (colT_at k hk7)
 simp only [simprocAttr,-Int.reduceNatCast',go_sem,e1,e2,e3,e4,e5,e6]
 have tab:[VV.int .u8 255,VV.int .u8 0,VV.int .u8 0,VV.int .u8 255,VV.int .u8 0,VV.int .u8 128,VV.int .u8 0,VV.int .u8 255,VV.int .u8 0,VV.int .u8 0,VV.int .u8 200,VV.int .u8 100,VV.int .u8 10,VV.int .u8 20,VV.int .u8 30,VV.int .u8 1,VV.int .u8 255,VV.int .u8 255,VV.int .u8 255,VV.int .u8 255,VV.int .u8 0,VV.int .u8 0,VV.int .u8 0,VV.int .u8 0,VV.int .u8 7,VV.int .u8 0,VV.int .u8 0,VV.int .u8 254]=qzf cCl colT:=rfl
 rw [tab]
 refine qzp (next_ok Gl l at_ 7 i hl (by omega) (by omega) (by omega)) (by simp only [simprocAttr,-Int.reduceNatCast',go_sem,e1,e2,e3,e4]) rfl rfl ?_
 rw [hk,hc]
 simp only [simprocAttr,-Int.reduceNatCast',go_sem,e1,e2,e3,e4,e5,e6,hk7,p1,p2]
theorem find_loop (Gl:qzj) (c:Cl) (l:List Cl) (hl:l.length < 1000000) (r:Int) (K:AEx→VF→VH→Prop)
  (hK0:∀ T h,r=-1→K (.exit 0) T h) (hK1:∀ T h,qza T 4=some (.int .i64 r)→K .ret T h) :
  ∀ (d i:Nat) (T:VF) (h:VH),d+i=l.length→idxS (l.drop i) c i=r→qza T 0=some (.fsl (qzf cCl l) l.length 4)→qza T 3=some (.ptr 0 0)→qza T 5=some (.int .i64 i)→qza h.l 0=some (some (.cells (cCl c) false)) →
   wp Go.VL.Pal.E Gl (.loop c_glyphicref12_Find_l0) T h K:=by
 intro d
 induction d with
 | zero =>
  intro i T h hd hr t0 t3 t5 h0'
  obtain rfl:i=l.length:=by omega
  refine qzi c_glyphicref12_Find_l0.eq_1 ?_
  simp only [simprocAttr,-Int.reduceNatCast',go_sem,t0,t3,t5,Int.lt_irrefl]
  refine hK0 _ _ ?_
  rw [←hr,List.drop_length];rfl
 | succ d ih =>
  intro i T h hd hr t0 t3 t5 h0'
  refine qzi c_glyphicref12_Find_l0.eq_1 ?_
  have hlt:i < l.length:=by omega
  have c1:(i:Int) < l.length:=by omega
  obtain ⟨x,hx⟩:∃ x,l[i]?=some x:=⟨l[i],List.getElem?_eq_getElem hlt⟩
  have p1:=qzr cCl_len hx
  have p2:=qzs cCl_len hx
  have w:IntKind.i64.wrap ((i:Int)+1)=((i+1:Nat):Int):=by rw [qze (by omega) (by omega)];rfl
  rw [drop_at hx,idxS] at hr
  simp only [simprocAttr,-Int.reduceNatCast',go_sem,t0,t3,t5,c1,hlt,p1,p2,h0']
  refine qzg (same_ok Gl x c) rfl rfl ?_
  by_cases e:c=x
  ·rw [if_pos e] at hr
   subst e
   have de:decide (c=c)=true:=by simp
   simp only [simprocAttr,-Int.reduceNatCast',go_sem,t0,t3,t5,de]
   refine hK1 _ _ ?_
   simp only [simprocAttr,-Int.reduceNatCast',go_sem,hr]
  ·rw [if_neg e] at hr
   have de:decide (x=c)=false:=by simp;exact fun q=>e q.symm
   simp only [simprocAttr,-Int.reduceNatCast',go_sem,t0,t3,t5,de,w]
   refine ih (i+1) _ _ (by omega) hr ?_ ?_ ?_ h0'
   ·simp only [simprocAttr,-Int.reduceNatCast',go_sem,t0]
   ·simp only [simprocAttr,-Int.reduceNatCast',go_sem,t3]
   ·simp only [simprocAttr,-Int.reduceNatCast',go_sem]
theorem refFind_ok (Gl:qzj) (c:Cl) (l:List Cl) (hl:l.length < 1000000):qzo Go.VL.Pal.E Gl f_glyphicref12_Find [.fsl (qzf cCl l) l.length 4,.agg (cCl c)] (.int .i64 (idxS l c 0)):=by
 refine qzk (qzd E_glyphicref12_Find ?_)
 unfold c_glyphicref12_Find r_glyphicref12_Find
 simp only [qzl]
 simp only [simprocAttr,-Int.reduceNatCast',go_sem]
 refine find_loop Gl c l hl (idxS l c 0) _ ?_ ?_ l.length 0 _ _ (by omega) rfl ?_ ?_ ?_ ?_
 ·intro T h e
  simp only [simprocAttr,-Int.reduceNatCast',go_sem,e]
  exact qzc rfl
 ·intro T h t4
  simp only [simprocAttr,-Int.reduceNatCast',go_sem,t4]
  exact qzc rfl
 all_goals simp only [simprocAttr,-Int.reduceNatCast',go_sem]
 rfl
theorem sames_loop (Gl:qzj) (a b:List Cl) (hl:a.length < 1000000) (hab:a.length=b.length) (K:AEx→VF→VH→Prop)
  (hK0:∀ T h,a=b→K (.exit 0) T h) (hK1:∀ T h,a≠b→qza T 4=some (.bool false)→K .ret T h) :
  ∀ (d i:Nat) (T:VF) (h:VH),d+i=a.length→a.take i=b.take i→qza T 0=some (.fsl (qzf cCl a) a.length 4)→qza T 1=some (.fsl (qzf cCl b) b.length 4)→qza T 5=some (.int .i64 i) →
   wp Go.VL.Pal.E Gl (.loop c_glyphicref_SameColors_l0) T h K:=by
 intro d
 induction d with
 | zero =>
  intro i T h hd hr t0 t1 t5
  obtain rfl:i=a.length:=by omega
  refine qzi c_glyphicref_SameColors_l0.eq_1 ?_
  simp only [simprocAttr,-Int.reduceNatCast',go_sem,t0,t1,t5,Int.lt_irrefl]
  refine hK0 _ _ ?_
  rw [List.take_length,hab,List.take_length] at hr
  exact hr
 | succ d ih =>
  intro i T h hd hr t0 t1 t5
  refine qzi c_glyphicref_SameColors_l0.eq_1 ?_
  have hlt:i < a.length:=by omega
  have hlt':i < b.length:=by omega
  have c1:(i:Int) < a.length:=by omega
  obtain ⟨x,hx⟩:∃ x,a[i]?=some x:=⟨a[i],List.getElem?_eq_getElem hlt⟩
  obtain ⟨y,hy⟩:∃ y,b[i]?=some y:=⟨b[i],List.getElem?_eq_getElem hlt'⟩
  have p1:=qzr cCl_len hx
  have p2:=qzs cCl_len hx
  have p3:=qzr cCl_len hy
  have p4:=qzs cCl_len hy
  have w:IntKind.i64.wrap ((i:Int)+1)=((i+1:Nat):Int):=by rw [qze (by omega) (by omega)];rfl
  simp only [simprocAttr,-Int.reduceNatCast',go_sem,t0,t1,t5,c1,hlt,hlt',p1,p2,p3,p4]
  refine qzg (same_ok Gl x y) rfl rfl ?_
  by_cases e:x=y
  ·subst e
   have de:decide (x=x)=true:=by simp
   simp only [simprocAttr,-Int.reduceNatCast',go_sem,t0,t1,t5,de,w]
   refine ih (i+1) _ _ (by omega) (by rw [qzu hx,qzu hy,hr]) ?_ ?_ ?_
   ·simp only [simprocAttr,-Int.reduceNatCast',go_sem,t0]
   ·simp only [simprocAttr,-Int.reduceNatCast',go_sem,t1]
   ·simp only [simprocAttr,-Int.reduceNatCast',go_sem]
  ·have de:decide (x=y)=false:=by simp [e]
   simp only [simprocAttr,-Int.reduceNatCast',go_sem,t0,t1,t5,de]
   refine hK1 _ _ (fun q=>e ?_) ?_
   ·rw [q,hy] at hx;exact (Option.some.inj hx).symm
   ·simp only [simprocAttr,-Int.reduceNatCast',go_sem]
theorem sames_ok (Gl:qzj) (a b:List Cl) (hl:a.length < 1000000):qzo Go.VL.Pal.E Gl f_glyphicref_SameColors [.fsl (qzf cCl a) a.length 4,.fsl (qzf cCl b) b.length 4] (.bool (decide (a=b))):=by
 refine qzk (qzd E_glyphicref_SameColors ?_)
 unfold c_glyphicref_SameColors r_glyphicref_SameColors
 simp only [qzl]
 by_cases hab:a.length=b.length
 ·have h1:((a.length:Int) != (b.length:Int))=false:=by simp [hab]
  simp only [simprocAttr,-Int.reduceNatCast',go_sem,h1]
  refine sames_loop Gl a b hl hab _ ?_ ?_ a.length 0 _ _ (by omega) rfl ?_ ?_ ?_
  ·intro T h e
   simp only [simprocAttr,-Int.reduceNatCast',go_sem,e]
   first | exact qzc rfl | (subst e;simp only [decide_true];exact qzc rfl)
  ·intro T h e t4
   simp only [simprocAttr,-Int.reduceNatCast',go_sem,t4,e]
   exact qzc rfl
  all_goals simp only [simprocAttr,-Int.reduceNatCast',go_sem]
  rfl
 ·have h1:((a.length:Int) != (b.length:Int))=true:=by simp;omega
  have e:a≠b:=fun q=>hab (by rw [q])
  simp only [simprocAttr,-Int.reduceNatCast',go_sem,h1,e]
  exact qzc rfl
end
end Go.VL.Pal
namespace Go.VL.Cp
open Go.FR Go.IR Go.VL Go.VL.Color Go.VL.Wind Go.VL.Ic
noncomputable section
set_option maxRecDepth 100000
set_option maxHeartbeats 1000000
def copyCap {α:Type} (l:List α) (e:Nat):ACap:=if l=[] then .exact 0 else .toEnd e
attribute [local go_sem] cSeg cPath cPaint cCmd cIcon cPt cCl
theorem segs_loop (Gl:qzj) (l:List Seg) (hl:l.length < 1000000) (K:AEx→VF→VH→Prop)
  (hK:∀ T h j,qza T 3=some (.slice j 0 l.length 7 (.toEnd 7))→qza h.l j=some (some (.cells (qzf cSeg l) false))→K (.exit 0) T h) :
  ∀ (d i:Nat) (T:VF) (h:VH) (j:Nat),d+i=l.length→qza T 0=some (.fsl (qzf cSeg l) l.length 7)→qza T 4=some (.int .i64 i)→qza T 3=some (.slice j 0 i 7 (.toEnd 7))→qza h.l j=some (some (.cells (qzf cSeg (l.take i)) false))→j < h.next →
   wp Go.VL.Pal.E Gl (.loop c_glyphicref_Segs_l0) T h K:=by
 intro d
 induction d with
 | zero =>
  intro i T h j hd t0 t4 t3 hj hn
  obtain rfl:i=l.length:=by omega
  refine qzi c_glyphicref_Segs_l0.eq_1 ?_
  simp only [simprocAttr,-Int.reduceNatCast',go_sem,t0,t4,t3,Int.lt_irrefl]
  refine hK _ _ j ?_ (by rw [List.take_length] at hj;exact hj)
  simp only [simprocAttr,-Int.reduceNatCast',go_sem,t3]
 | succ d ih =>
  intro i T h j hd t0 t4 t3 hj hn
  refine qzi c_glyphicref_Segs_l0.eq_1 ?_
  have hlt:i < l.length:=by omega
  have c:(i:Int) < l.length:=by omega
  obtain ⟨e,he⟩:∃ e,l[i]?=some e:=⟨l[i],List.getElem?_eq_getElem hlt⟩
  have p1:=qzr cSeg_len he
  have p2:=qzs cSeg_len he
  have w:IntKind.i64.wrap ((i:Int)+1)=((i+1:Nat):Int):=by rw [qze (by omega) (by omega)];rfl
  have e1:¬h.next=j:=by omega
  have hli:(l.take i).length=i:=by rw [List.length_take];omega
  simp only [simprocAttr,-Int.reduceNatCast',go_sem,t0,t4,t3,c,hlt,p1,p2]
  have acc:qzm 0 (h.push (.cells (cSeg e) false)) j cSeg (l.take i) 7 (.slice j 0 i 7 (.toEnd 7)) := .inr ⟨by rw [hli],by simp only [VH.push,qzb,e1,if_false];exact hj,Nat.zero_le _,by show j < h.next+1;omega⟩
  refine wpW_acc (a:=e) acc ?_ cSeg_len (by omega) (Nat.zero_le _) (by rw [hli];omega) (by rw [hli];omega) ?_
  ·simp only [simprocAttr,-Int.reduceNatCast',go_sem]<;>first | rfl | exact ⟨rfl,rfl⟩ | exact qzc rfl
  ·intro h' g1 g2 g3
   rw [hli] at g3
   simp only [simprocAttr,-Int.reduceNatCast',go_sem,t0,t4,w,hli]
   rcases g3 with ⟨_,g3⟩ | ⟨_,g4,_,g5⟩
   ·exact nomatch g3
   refine ih (i+1) _ h' (h.next+1) (by omega) ?_ ?_ ?_ ?_ g5
   ·simp only [simprocAttr,-Int.reduceNatCast',go_sem,t0]
   ·simp only [simprocAttr,-Int.reduceNatCast',go_sem]
   ·simp only [simprocAttr,-Int.reduceNatCast',go_sem]
   ·rw [qzu he];exact g4
theorem segs_ok (Gl:qzj) (l:List Seg) (hl:l.length < 1000000):PureOwn Go.VL.Pal.E Gl f_glyphicref_Segs [.fsl (qzf cSeg l) l.length 7] (qzf cSeg l) 0 l.length 7 (copyCap l 7):=by
 refine own_sound (qzd E_glyphicref_Segs ?_)
 unfold c_glyphicref_Segs r_glyphicref_Segs copyCap
 have hz:qzw (VV.int .i64 0)=some 0:=rfl
 simp only [qzl]
 have q:l.length < 9223372036854775808∧l.length*56≤281474976710656:=by omega
 rcases l with _ | ⟨e,l⟩
 ·simp only [simprocAttr,-Int.reduceNatCast',go_sem,repV,List.replicate_zero,List.flatten_nil,Nat.le_refl,Nat.zero_mul,Nat.zero_le,Int.natCast_zero,eq_self,hz]
  refine qzi c_glyphicref_Segs_l0.eq_1 ?_
  simp only [simprocAttr,-Int.reduceNatCast',go_sem,Int.natCast_zero,Int.lt_irrefl]
  exact ⟨0,_,rfl,rfl,rfl,subL_refl _⟩
 ·have q0:¬(0=l.length+1):=by omega
  rw [List.length_cons] at q
  simp only [simprocAttr,-Int.reduceNatCast',go_sem,repV,List.replicate_zero,List.flatten_nil,Nat.zero_le,q,q0,hz]
  refine segs_loop Gl (e::l) hl _ ?_ (l.length+1) 0 _ _ 0 (by simp) ?_ ?_ ?_ ?_ ?_
  ·intro T h j t3 hj
   simp only [simprocAttr,-Int.reduceNatCast',go_sem,t3]
   exact ⟨j,_,rfl,by rw [hj];rfl,closedL_flat (fun _=>rfl) _,subL_refl _⟩
  ·simp only [simprocAttr,-Int.reduceNatCast',go_sem]
  ·simp only [simprocAttr,-Int.reduceNatCast',go_sem];rfl
  ·simp only [simprocAttr,-Int.reduceNatCast',go_sem]
  ·simp only [simprocAttr,-Int.reduceNatCast',go_sem,List.take_zero,flatL_nil]
  ·simp only [simprocAttr,-Int.reduceNatCast',go_sem]
theorem paths_loop (Gl:qzj) (l:List Path) (hl:l.length < 1000000) (K:AEx→VF→VH→Prop)
  (hK:∀ T h j,qza T 3=some (.slice j 0 l.length 4 (.toEnd 4))→qza h.l j=some (some (.cells (qzf cPath l) false))→K (.exit 0) T h) :
  ∀ (d i:Nat) (T:VF) (h:VH) (j:Nat),d+i=l.length→qza T 0=some (.fsl (qzf cPath l) l.length 4)→qza T 4=some (.int .i64 i)→qza T 3=some (.slice j 0 i 4 (.toEnd 4))→qza h.l j=some (some (.cells (qzf cPath (l.take i)) false))→j < h.next →
   wp Go.VL.Pal.E Gl (.loop c_glyphicref_Paths_l0) T h K:=by
 intro d
 induction d with
 | zero =>
  intro i T h j hd t0 t4 t3 hj hn
  obtain rfl:i=l.length:=by omega
  refine qzi c_glyphicref_Paths_l0.eq_1 ?_
  simp only [simprocAttr,-Int.reduceNatCast',go_sem,t0,t4,t3,Int.lt_irrefl]
  refine hK _ _ j ?_ (by rw [List.take_length] at hj;exact hj)
  simp only [simprocAttr,-Int.reduceNatCast',go_sem,t3]
 | succ d ih =>
  intro i T h j hd t0 t4 t3 hj hn
  refine qzi c_glyphicref_Paths_l0.eq_1 ?_
  have hlt:i < l.length:=by omega
  have c:(i:Int) < l.length:=by omega
  obtain ⟨e,he⟩:∃ e,l[i]?=some e:=⟨l[i],List.getElem?_eq_getElem hlt⟩
  have p1:=qzr cPath_len he
  have p2:=qzs cPath_len he
  have w:IntKind.i64.wrap ((i:Int)+1)=((i+1:Nat):Int):=by rw [qze (by omega) (by omega)];rfl
  have e1:¬h.next=j:=by omega
  have hli:(l.take i).length=i:=by rw [List.length_take];omega
  simp only [simprocAttr,-Int.reduceNatCast',go_sem,t0,t4,t3,c,hlt,p1,p2]
  have acc:qzm 0 (h.push (.cells (cPath e) false)) j cPath (l.take i) 4 (.slice j 0 i 4 (.toEnd 4)) := .inr ⟨by rw [hli],by simp only [VH.push,qzb,e1,if_false];exact hj,Nat.zero_le _,by show j < h.next+1;omega⟩
  refine wpW_acc (a:=e) acc ?_ cPath_len (by omega) (Nat.zero_le _) (by rw [hli];omega) (by rw [hli];omega) ?_
  ·simp only [simprocAttr,-Int.reduceNatCast',go_sem]<;>first | rfl | exact ⟨rfl,rfl⟩ | exact qzc rfl
  ·intro h' g1 g2 g3
   rw [hli] at g3
   simp only [simprocAttr,-Int.reduceNatCast',go_sem,t0,t4,w,hli]
   rcases g3 with ⟨_,g3⟩ | ⟨_,g4,_,g5⟩
   ·exact nomatch g3
   refine ih (i+1) _ h' (h.next+1) (by omega) ?_ ?_ ?_ ?_ g5
   ·simp only [simprocAttr,-Int.reduceNatCast',go_sem,t0]
   ·simp only [simprocAttr,-Int.reduceNatCast',go_sem]
   ·simp only [simprocAttr,-Int.reduceNatCast',go_sem]
   ·rw [qzu he];exact g4
theorem paths_ok (Gl:qzj) (l:List Path) (hl:l.length < 1000000):PureOwn Go.VL.Pal.E Gl f_glyphicref_Paths [.fsl (qzf cPath l) l.length 4] (qzf cPath l) 0 l.length 4 (copyCap l 4):=by
 refine own_sound (qzd E_glyphicref_Paths ?_)
 unfold c_glyphicref_Paths r_glyphicref_Paths copyCap
 have hz:qzw (VV.int .i64 0)=some 0:=rfl
 simp only [qzl]
 have q:l.length < 9223372036854775808∧l.length*48≤281474976710656:=by omega
 rcases l with _ | ⟨e,l⟩
 ·simp only [simprocAttr,-Int.reduceNatCast',go_sem,repV,List.replicate_zero,List.flatten_nil,Nat.le_refl,Nat.zero_mul,Nat.zero_le,Int.natCast_zero,eq_self,hz]
  refine qzi c_glyphicref_Paths_l0.eq_1 ?_
  simp only [simprocAttr,-Int.reduceNatCast',go_sem,Int.natCast_zero,Int.lt_irrefl]
  exact ⟨0,_,rfl,rfl,rfl,subL_refl _⟩
 ·have q0:¬(0=l.length+1):=by omega
  rw [List.length_cons] at q
  simp only [simprocAttr,-Int.reduceNatCast',go_sem,repV,List.replicate_zero,List.flatten_nil,Nat.zero_le,q,q0,hz]
  refine paths_loop Gl (e::l) hl _ ?_ (l.length+1) 0 _ _ 0 (by simp) ?_ ?_ ?_ ?_ ?_
  ·intro T h j t3 hj
   simp only [simprocAttr,-Int.reduceNatCast',go_sem,t3]
   exact ⟨j,_,rfl,by rw [hj];rfl,closedL_flat (fun _=>rfl) _,subL_refl _⟩
  ·simp only [simprocAttr,-Int.reduceNatCast',go_sem]
  ·simp only [simprocAttr,-Int.reduceNatCast',go_sem];rfl
  ·simp only [simprocAttr,-Int.reduceNatCast',go_sem]
  ·simp only [simprocAttr,-Int.reduceNatCast',go_sem,List.take_zero,flatL_nil]
  ·simp only [simprocAttr,-Int.reduceNatCast',go_sem]
theorem cmds_loop (Gl:qzj) (l:List Cmd) (hl:l.length < 1000000) (K:AEx→VF→VH→Prop)
  (hK:∀ T h j,qza T 3=some (.slice j 0 l.length 11 (.toEnd 11))→qza h.l j=some (some (.cells (qzf cCmd l) false))→K (.exit 0) T h) :
  ∀ (d i:Nat) (T:VF) (h:VH) (j:Nat),d+i=l.length→qza T 0=some (.fsl (qzf cCmd l) l.length 11)→qza T 4=some (.int .i64 i)→qza T 3=some (.slice j 0 i 11 (.toEnd 11))→qza h.l j=some (some (.cells (qzf cCmd (l.take i)) false))→j < h.next →
   wp Go.VL.Pal.E Gl (.loop c_glyphicref_Cmds_l0) T h K:=by
 intro d
 induction d with
 | zero =>
  intro i T h j hd t0 t4 t3 hj hn
  obtain rfl:i=l.length:=by omega
  refine qzi c_glyphicref_Cmds_l0.eq_1 ?_
  simp only [simprocAttr,-Int.reduceNatCast',go_sem,t0,t4,t3,Int.lt_irrefl]
  refine hK _ _ j ?_ (by rw [List.take_length] at hj;exact hj)
  simp only [simprocAttr,-Int.reduceNatCast',go_sem,t3]
 | succ d ih =>
  intro i T h j hd t0 t4 t3 hj hn
  refine qzi c_glyphicref_Cmds_l0.eq_1 ?_
  have hlt:i < l.length:=by omega
  have c:(i:Int) < l.length:=by omega
  obtain ⟨e,he⟩:∃ e,l[i]?=some e:=⟨l[i],List.getElem?_eq_getElem hlt⟩
  have p1:=qzr cCmd_len he
  have p2:=qzs cCmd_len he
  have w:IntKind.i64.wrap ((i:Int)+1)=((i+1:Nat):Int):=by rw [qze (by omega) (by omega)];rfl
  have e1:¬h.next=j:=by omega
  have hli:(l.take i).length=i:=by rw [List.length_take];omega
  simp only [simprocAttr,-Int.reduceNatCast',go_sem,t0,t4,t3,c,hlt,p1,p2]
  have acc:qzm 0 (h.push (.cells (cCmd e) false)) j cCmd (l.take i) 11 (.slice j 0 i 11 (.toEnd 11)) := .inr ⟨by rw [hli],by simp only [VH.push,qzb,e1,if_false];exact hj,Nat.zero_le _,by show j < h.next+1;omega⟩
  refine wpW_acc (a:=e) acc ?_ cCmd_len (by omega) (Nat.zero_le _) (by rw [hli];omega) (by rw [hli];omega) ?_
  ·simp only [simprocAttr,-Int.reduceNatCast',go_sem]<;>first | rfl | exact ⟨rfl,rfl⟩ | exact qzc rfl
  ·intro h' g1 g2 g3
   rw [hli] at g3
   simp only [simprocAttr,-Int.reduceNatCast',go_sem,t0,t4,w,hli]
   rcases g3 with ⟨_,g3⟩ | ⟨_,g4,_,g5⟩
   ·exact nomatch g3
   refine ih (i+1) _ h' (h.next+1) (by omega) ?_ ?_ ?_ ?_ g5
   ·simp only [simprocAttr,-Int.reduceNatCast',go_sem,t0]
   ·simp only [simprocAttr,-Int.reduceNatCast',go_sem]
   ·simp only [simprocAttr,-Int.reduceNatCast',go_sem]
   ·rw [qzu he];exact g4
theorem cmds_ok (Gl:qzj) (l:List Cmd) (hl:l.length < 1000000):PureOwn Go.VL.Pal.E Gl f_glyphicref_Cmds [.fsl (qzf cCmd l) l.length 11] (qzf cCmd l) 0 l.length 11 (copyCap l 11):=by
 refine own_sound (qzd E_glyphicref_Cmds ?_)
 unfold c_glyphicref_Cmds r_glyphicref_Cmds copyCap
 have hz:qzw (VV.int .i64 0)=some 0:=rfl
 simp only [qzl]
 have q:l.length < 9223372036854775808∧l.length*104≤281474976710656:=by omega
 rcases l with _ | ⟨e,l⟩
 ·simp only [simprocAttr,-Int.reduceNatCast',go_sem,repV,List.replicate_zero,List.flatten_nil,Nat.le_refl,Nat.zero_mul,Nat.zero_le,Int.natCast_zero,eq_self,hz]
  refine qzi c_glyphicref_Cmds_l0.eq_1 ?_
  simp only [simprocAttr,-Int.reduceNatCast',go_sem,Int.natCast_zero,Int.lt_irrefl]
  exact ⟨0,_,rfl,rfl,rfl,subL_refl _⟩
 ·have q0:¬(0=l.length+1):=by omega
  rw [List.length_cons] at q
  simp only [simprocAttr,-Int.reduceNatCast',go_sem,repV,List.replicate_zero,List.flatten_nil,Nat.zero_le,q,q0,hz]
  refine cmds_loop Gl (e::l) hl _ ?_ (l.length+1) 0 _ _ 0 (by simp) ?_ ?_ ?_ ?_ ?_
  ·intro T h j t3 hj
   simp only [simprocAttr,-Int.reduceNatCast',go_sem,t3]
   exact ⟨j,_,rfl,by rw [hj];rfl,closedL_flat (fun _=>rfl) _,subL_refl _⟩
  ·simp only [simprocAttr,-Int.reduceNatCast',go_sem]
  ·simp only [simprocAttr,-Int.reduceNatCast',go_sem];rfl
  ·simp only [simprocAttr,-Int.reduceNatCast',go_sem]
  ·simp only [simprocAttr,-Int.reduceNatCast',go_sem,List.take_zero,flatL_nil]
  ·simp only [simprocAttr,-Int.reduceNatCast',go_sem]
end
end Go.VL.Cp
namespace Go.VL.Cp
open Go.FR Go.IR Go.VL Go.VL.Color Go.VL.Wind Go.VL.Ic Go.VL.Wire
noncomputable section
set_option maxRecDepth 100000
set_option maxHeartbeats 1000000
attribute [local go_sem] cB cSeg cPath cPaint cCmd cIcon cPt cCl
theorem bytes_loop (Gl:qzj) (l:List Nat) (hl:l.length < 1000000) (K:AEx→VF→VH→Prop)
  (hK:∀ T h j,qza T 3=some (.slice j 0 l.length 1 (.toEnd 1))→qza h.l j=some (some (.cells (qzf cB l) false))→K (.exit 0) T h) :
  ∀ (d i:Nat) (T:VF) (h:VH) (j:Nat),d+i=l.length→qza T 0=some (.fsl (qzf cB l) l.length 1)→qza T 4=some (.int .i64 i)→qza T 3=some (.slice j 0 i 1 (.toEnd 1))→qza h.l j=some (some (.cells (qzf cB (l.take i)) false))→j < h.next →
   wp Go.VL.Pal.E Gl (.loop c_glyphicref_Bytes_l0) T h K:=by
 intro d
 induction d with
 | zero =>
  intro i T h j hd t0 t4 t3 hj hn
  obtain rfl:i=l.length:=by omega
  refine qzi c_glyphicref_Bytes_l0.eq_1 ?_
  simp only [simprocAttr,-Int.reduceNatCast',go_sem,t0,t4,t3,Int.lt_irrefl]
  refine hK _ _ j ?_ (by rw [List.take_length] at hj;exact hj)
  simp only [simprocAttr,-Int.reduceNatCast',go_sem,t3]
 | succ d ih =>
  intro i T h j hd t0 t4 t3 hj hn
  refine qzi c_glyphicref_Bytes_l0.eq_1 ?_
  have hlt:i < l.length:=by omega
  have c:(i:Int) < l.length:=by omega
  obtain ⟨e,he⟩:∃ e,l[i]?=some e:=⟨l[i],List.getElem?_eq_getElem hlt⟩
  have p1:=qzr cB_len he
  have p2:=flat1_at he
  have w:IntKind.i64.wrap ((i:Int)+1)=((i+1:Nat):Int):=by rw [qze (by omega) (by omega)];rfl
  have e1:¬h.next=j:=by omega
  have hli:(l.take i).length=i:=by rw [List.length_take];omega
  simp only [simprocAttr,-Int.reduceNatCast',go_sem,t0,t4,t3,c,hlt,p1,p2,Nat.mul_one]
  have acc:qzm 0 (h.push (.cells (cB e) false)) j cB (l.take i) 1 (.slice j 0 i 1 (.toEnd 1)) := .inr ⟨by rw [hli],by simp only [VH.push,qzb,e1,if_false];exact hj,Nat.zero_le _,by show j < h.next+1;omega⟩
  refine wpW_acc (a:=e) acc ?_ cB_len (by omega) (Nat.zero_le _) (by rw [hli];omega) (by rw [hli];omega) ?_
  ·simp only [simprocAttr,-Int.reduceNatCast',go_sem]<;>first | rfl | exact ⟨rfl,rfl⟩ | exact qzc rfl
  ·intro h' g1 g2 g3
   rw [hli] at g3
   simp only [simprocAttr,-Int.reduceNatCast',go_sem,t0,t4,w,hli]
   rcases g3 with ⟨_,g3⟩ | ⟨_,g4,_,g5⟩
   ·exact nomatch g3
   refine ih (i+1) _ h' (h.next+1) (by omega) ?_ ?_ ?_ ?_ g5
   ·simp only [simprocAttr,-Int.reduceNatCast',go_sem,t0]
   ·simp only [simprocAttr,-Int.reduceNatCast',go_sem]
   ·simp only [simprocAttr,-Int.reduceNatCast',go_sem]
   ·rw [qzu he];exact g4
theorem bytes_ok (Gl:qzj) (l:List Nat) (hl:l.length < 1000000):PureOwn Go.VL.Pal.E Gl f_glyphicref_Bytes [.fsl (qzf cB l) l.length 1] (qzf cB l) 0 l.length 1 (copyCap l 1):=by
 refine own_sound (qzd E_glyphicref_Bytes ?_)
 unfold c_glyphicref_Bytes r_glyphicref_Bytes copyCap
 have hz:qzw (VV.int .i64 0)=some 0:=rfl
 simp only [qzl]
 have q:l.length < 9223372036854775808∧l.length*1≤281474976710656:=by omega
 rcases l with _ | ⟨e,l⟩
 ·simp only [simprocAttr,-Int.reduceNatCast',go_sem,repV,List.replicate_zero,List.flatten_nil,Nat.le_refl,Nat.zero_mul,Nat.zero_le,Int.natCast_zero,eq_self,hz]
  refine qzi c_glyphicref_Bytes_l0.eq_1 ?_
  simp only [simprocAttr,-Int.reduceNatCast',go_sem,Int.natCast_zero,Int.lt_irrefl]
  exact ⟨0,_,rfl,rfl,rfl,subL_refl _⟩
 ·have q0:¬(0=l.length+1):=by omega
  rw [List.length_cons] at q
  simp only [simprocAttr,-Int.reduceNatCast',go_sem,repV,List.replicate_zero,List.flatten_nil,Nat.zero_le,q,q0,hz]
  refine bytes_loop Gl (e::l) hl _ ?_ (l.length+1) 0 _ _ 0 (by simp) ?_ ?_ ?_ ?_ ?_
  ·intro T h j t3 hj
   simp only [simprocAttr,-Int.reduceNatCast',go_sem,t3]
   exact ⟨j,_,rfl,by rw [hj];rfl,closedL_flat (fun _=>rfl) _,subL_refl _⟩
  ·simp only [simprocAttr,-Int.reduceNatCast',go_sem]
  ·simp only [simprocAttr,-Int.reduceNatCast',go_sem];rfl
  ·simp only [simprocAttr,-Int.reduceNatCast',go_sem]
  ·simp only [simprocAttr,-Int.reduceNatCast',go_sem,List.take_zero,flatL_nil]
  ·simp only [simprocAttr,-Int.reduceNatCast',go_sem]
theorem bytes_some (Gl:qzj) (l:List Nat) (hl:l.length < 1000000) (hn:l≠[]):PureOwn Go.VL.Pal.E Gl f_glyphicref_Bytes [.fsl (qzf cB l) l.length 1] (qzf cB l) 0 l.length 1 (.toEnd 1):=by
 have:=bytes_ok Gl l hl
 rwa [copyCap,if_neg hn] at this
end
end Go.VL.Cp
namespace Go.VL.Mk
open Go.FR Go.IR Go.VL Go.VL.Color Go.VL.Wind Go.VL.Ic
noncomputable section
set_option maxRecDepth 100000
set_option maxHeartbeats 1000000
attribute [local go_sem] cCl cSeq bSeq cPt cSeg cPath
theorem more_ok (Gl:qzj) (l:List Int) (a i:Nat):StOk Go.VL.Er.E Gl f_glyphicmake_Seq_more [.ptr i 0] [(i,bSeq l a)] (.bool (decide (a < l.length))) [(i,bSeq l a)]:=by
 refine st1_intro fun nx hn=>qzd E_glyphicmake_Seq_more ?_
 unfold c_glyphicmake_Seq_more r_glyphicmake_Seq_more
 simp only [qzl]
 by_cases c:a < l.length
 ·have c1:(a:Int) < (l.length:Int):=by omega
  simp only [simprocAttr,-Int.reduceNatCast',go_sem,c,c1]<;>first | rfl | exact ⟨rfl,rfl⟩ | exact qzc rfl
 ·have c1:¬(a:Int) < (l.length:Int):=by omega
  simp only [simprocAttr,-Int.reduceNatCast',go_sem,c,c1]<;>first | rfl | exact ⟨rfl,rfl⟩ | exact qzc rfl
def palS:List Cl:=[⟨255,0,0,255⟩,⟨0,128,0,255⟩,⟨0,0,200,100⟩,⟨10,20,30,1⟩,⟨255,255,255,255⟩,⟨0,0,0,0⟩,⟨7,0,0,254⟩]
def colorS (l:List Int) (a:Nat):Cl:=palS.getD (nextS l a 7).toNat ⟨0,0,0,0⟩
theorem color_ok (Gl:qzj) (l:List Int) (a i:Nat) (hl:l.length < 4611686018427387904) (ha:a < 4611686018427387904):StOk Go.VL.Er.E Gl f_glyphicmake_Color [.ptr i 0] [(i,bSeq l a)] (.agg (cCl (colorS l a))) [(i,bSeq l (a+1))]:=by
 refine st1_intro fun nx hn=>qzd E_glyphicmake_Color ?_
 unfold c_glyphicmake_Color r_glyphicmake_Color
 simp only [qzl]
 have n1:=next_in l a 7 (by omega)
 have e1:¬nx=i:=by omega
 have e2:¬i=nx:=by omega
 have e3:¬nx+1=i:=by omega
 have e4:¬i=nx+1:=by omega
 have e5:¬nx+1=nx:=by omega
 simp only [simprocAttr,-Int.reduceNatCast',go_sem,e1,e3]
 refine qzp (next_ok Gl l a 7 i hl (by omega) (by omega) (by omega)) (by simp only [simprocAttr,-Int.reduceNatCast',go_sem,e1,e3]) rfl rfl ?_
 have z:∀ n:Nat,qzw (VV.int .i64 (n:Int))=some n:=natV_nat .i64
 have z1:qzw (VV.int .i64 1)=some 1:=rfl
 have z2:qzw (VV.int .i64 2)=some 2:=rfl
 have z3:qzw (VV.int .i64 3)=some 3:=rfl
 have z4:qzw (VV.int .i64 4)=some 4:=rfl
 have z5:qzw (VV.int .i64 5)=some 5:=rfl
 have z6:qzw (VV.int .i64 6)=some 6:=rfl
 have z0:qzw (VV.int .i64 0)=some 0:=rfl
 unfold colorS
 have cs:nextS l a 7=0∨nextS l a 7=1∨nextS l a 7=2∨nextS l a 7=3∨nextS l a 7=4∨nextS l a 7=5∨nextS l a 7=6:=by omega
 rcases cs with h | h | h | h | h | h | h
 all_goals
  rw [h]
  simp only [simprocAttr,-Int.reduceNatCast',go_sem,e1,e2,e3,e4,e5,z0,z1,z2,z3,z4,z5,z6]
 all_goals first | exact ⟨rfl,rfl⟩ | rfl
def insideS (l:List Int) (a:Nat) (far:Int):Pt:=if nextS l a 12=0 then pointS l (a+1) far else ⟨nextS l (a+1) (far+1),nextS l (a+2) (far+1)⟩
theorem inside_ok (Gl:qzj) (l:List Int) (a:Nat) (far:Int) (i:Nat) (hl:l.length < 4611686018427387904) (ha:a+3 < 4611686018427387904) (h:0≤far) (hb:far < 4611686018427387000) :
  StOk Go.VL.Er.E Gl f_glyphicmake_inside [.ptr i 0,.int .i64 far] [(i,bSeq l a)] (.agg (cPt (insideS l a far))) [(i,bSeq l (a+3))]:=by
 refine st1_intro fun nx hn=>qzd E_glyphicmake_inside ?_
 unfold c_glyphicmake_inside r_glyphicmake_inside
 simp only [qzl]
 have e1:¬nx=i:=by omega
 have e2:¬i=nx:=by omega
 have w2:IntKind.i64.wrap (far+1)=far+1:=qze (by omega) (by omega)
 simp only [simprocAttr,-Int.reduceNatCast',go_sem]
 refine qzp (next_ok Gl l a 12 i hl (by omega) (by omega) (by omega)) (by simp only [simprocAttr,-Int.reduceNatCast',go_sem,e1]) rfl rfl ?_
 unfold insideS
 by_cases c:nextS l a 12=0
 ·have c':(nextS l a 12 == 0)=true:=by simp [c]
  rw [if_pos c]
  simp only [simprocAttr,-Int.reduceNatCast',go_sem,c']
  refine qzp (point_ok Gl l (a+1) far i hl (by omega) h hb) (by simp only [simprocAttr,-Int.reduceNatCast',go_sem,e1]) rfl rfl ?_
  simp only [simprocAttr,-Int.reduceNatCast',go_sem,e1,e2]<;>first | rfl | exact ⟨rfl,rfl⟩ | exact qzc rfl
 ·have c':(nextS l a 12 == 0)=false:=by simp [c]
  rw [if_neg c]
  simp only [simprocAttr,-Int.reduceNatCast',go_sem,c',w2]
  refine qzp (next_ok Gl l (a+1) (far+1) i hl (by omega) (by omega) (by omega)) (by simp only [simprocAttr,-Int.reduceNatCast',go_sem,e1]) rfl rfl ?_
  simp only [simprocAttr,-Int.reduceNatCast',go_sem,w2]
  refine qzp (next_ok Gl l (a+2) (far+1) i hl (by omega) (by omega) (by omega)) (by simp only [simprocAttr,-Int.reduceNatCast',go_sem,e1]) rfl rfl ?_
  simp only [simprocAttr,-Int.reduceNatCast',go_sem,e1,e2]<;>first | rfl | exact ⟨rfl,rfl⟩ | exact qzc rfl
def zP:Pt:=⟨0,0⟩
def segP (l:List Int) (a:Nat) (far kind:Int) (k:Nat):Seg:=⟨kind,if 0 < k then insideS l a far else zP,if 1 < k then insideS l (a+3) far else zP,if 2 < k then insideS l (a+6) far else zP⟩
theorem pts_loop (Gl:qzj) (l:List Int) (far:Int) (i bx:Nat) (kind:Nat) (hk:kind≤3) (hl:l.length < 4611686018427387904) (hf:0≤far) (hb:far < 4611686018427387000) (a:Nat) (ha:a+9 < 4611686018427387904) (hib:i≠bx) (T0:VF) (hA:VH) (K:AEx→VF→VH→Prop)
  (hK:∀ T h,(∀ k,k < 27→k≠10→qza T k=qza T0 k)→qza h.l i=some (some (bSeq l (a+3*kind)))→qza h.l bx=some (some (.cells (cSeg (segP l a far kind kind)) false))→(∀ k,k≠i→k≠bx→qza h.l k=qza hA.l k)→h.next=hA.next→K (.exit 2) T h) :
  ∀ (d k:Nat) (T:VF) (h:VH),d+k=kind→(∀ k,k < 27→k≠10→qza T k=qza T0 k)→qza T 0=some (.ptr i 0)→qza T 1=some (.int .i64 far)→qza T 9=some (.ptr bx 0)→qza T 10=some (.int .i64 k) →
   qza h.l i=some (some (bSeq l (a+3*k)))→qza h.l bx=some (some (.cells (cSeg (segP l a far kind k)) false))→(∀ k,k≠i→k≠bx→qza h.l k=qza hA.l k)→h.next=hA.next →
  wp Go.VL.Er.E Gl (.loop c_glyphicmake_Path_l0) T h K:=by
 intro d
 induction d with
 | zero =>
  intro k T h hd hT t0 t1 t9 t10 s1 s2 hh hn
  obtain rfl:k=kind:=by omega
  refine qzi c_glyphicmake_Path_l0.eq_1 ?_
  unfold segP at s2
  simp only [simprocAttr,-Int.reduceNatCast',go_sem,t9,t10,s2,Int.lt_irrefl]
  refine hK _ _ (fun k q1 q2 => ?_) s1 s2 hh hn
  simp only [qzb]
  (repeat rw [if_neg (by omega)])
  exact hT k q1 q2
 | succ d ih =>
  intro k T h hd hT t0 t1 t9 t10 s1 s2 hh hn
  refine qzi c_glyphicmake_Path_l0.eq_1 ?_
  have c1:(k:Int) < (kind:Int):=by omega
  have w:IntKind.i64.wrap ((k:Int)+1)=((k+1:Nat):Int):=by rw [qze (by omega) (by omega)];rfl
  have k3:k < 3:=by omega
  have e1:¬bx=i:=fun e=>hib e.symm
  unfold segP at s2
  simp only [simprocAttr,-Int.reduceNatCast',go_sem,t0,t1,t9,t10,s2,c1,natV_nat,k3]
  refine qzp (inside_ok Gl l (a+3*k) far i hl (by omega) hf hb) s1 rfl rfl ?_
  have hcs:k=0∨k=1∨k=2:=by omega
  rcases hcs with rfl | rfl | rfl
  all_goals
   simp only [simprocAttr,-Int.reduceNatCast',go_sem,t0,t1,t9,t10,s2,c1,natV_nat,e1,hib,w]
   first | refine ih (0+1) _ _ (by omega) ?_ ?_ ?_ ?_ ?_ ?_ ?_ ?_ hn | refine ih (1+1) _ _ (by omega) ?_ ?_ ?_ ?_ ?_ ?_ ?_ ?_ hn | refine ih (2+1) _ _ (by omega) ?_ ?_ ?_ ?_ ?_ ?_ ?_ ?_ hn
   ·intro k q1 q2
    simp only [qzb]
    (repeat rw [if_neg (by omega)])
    exact hT k q1 q2
   ·simp only [simprocAttr,-Int.reduceNatCast',go_sem,t0]
   ·simp only [simprocAttr,-Int.reduceNatCast',go_sem,t1]
   ·simp only [simprocAttr,-Int.reduceNatCast',go_sem,t9]
   ·simp only [simprocAttr,-Int.reduceNatCast',go_sem]
   ·simp only [simprocAttr,-Int.reduceNatCast',go_sem,e1]
   ·simp only [simprocAttr,-Int.reduceNatCast',go_sem,segP,zP]
   ·intro k q1 q2
    simp only [qzb,Ne.symm q1,Ne.symm q2,if_false]
    exact hh k q1 q2
end
end Go.VL.Mk
