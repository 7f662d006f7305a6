import Derived.Test.YtbamfhdgikeneaaDoorVlK
import Derived.Test.YtbamfhdgikeneaaDoorIcE
import Derived.Test.YtbamfhdgikeneaaDoorDcK
import Derived.Test.YtbamfhdgikeneaaDoorGeA
import Derived.Test.YtbamfhdgikeneaaDoorDcG
set_option linter.unusedSimpArgs false
set_option linter.unusedVariables false
namespace Go.VL.Cp
open Go.FR Go.IR Go.VL Go.VL.Color Go.VL.Wind Go.VL.Ic
noncomputable section
set_option maxRecDepth 100000
set_option maxHeartbeats 1000000
def copyCap {α:Type} (l:List α) (e:Nat):ACap:=if l=[] then .exact 0 else .toEnd e
attribute [local go_sem] cSeg cPath cPaint cCmd cIcon cPt cCl
theorem segs_loop (Gl:qzj) (l:List Seg) (hl:l.length < 1000000) (K:AEx→VF→VH→Prop)
  (hK:∀ T h j,qza T 3=some (.slice j 0 l.length 7 (.toEnd 7))→qza h.l j=some (some (.cells (qzg cSeg l) false))→K (.exit 0) T h) :
  ∀ (d i:Nat) (T:VF) (h:VH) (j:Nat),d+i=l.length→qza T 0=some (.fsl (qzg cSeg l) l.length 7)→qza T 4=some (.int .i64 i)→qza T 3=some (.slice j 0 i 7 (.toEnd 7))→qza h.l j=some (some (.cells (qzg cSeg (l.take i)) false))→j < h.next →
   wp Go.VL.Pal.E Gl (.loop c_glyphicref_Segs_l0) T h K:=by
 intro d
 induction d with
 | zero =>
  intro i T h j hd t0 t4 t3 hj hn
  obtain rfl:i=l.length:=by omega
  refine qzi c_glyphicref_Segs_l0.eq_1 ?_
  simp only [simprocAttr,-Int.reduceNatCast',go_sem,t0,t4,t3,Int.lt_irrefl]
  refine hK _ _ j ?_ (by rw [List.take_length] at hj;exact hj)
  simp only [simprocAttr,-Int.reduceNatCast',go_sem,t3]
 | succ d ih =>
  intro i T h j hd t0 t4 t3 hj hn
  refine qzi c_glyphicref_Segs_l0.eq_1 ?_
  have hlt:i < l.length:=by omega
  have c:(i:Int) < l.length:=by omega
  obtain ⟨e,he⟩:∃ e,l[i]?=some e:=⟨l[i],List.getElem?_eq_getElem hlt⟩
  have p1:=qzr cSeg_len he
  have p2:=qzs cSeg_len he
  have w:IntKind.i64.wrap ((i:Int)+1)=((i+1:Nat):Int):=by rw [qzd (by omega) (by omega)];rfl
  have e1:¬h.next=j:=by omega
  have hli:(l.take i).length=i:=by rw [List.length_take];omega
  simp only [simprocAttr,-Int.reduceNatCast',go_sem,t0,t4,t3,c,hlt,p1,p2]
  have acc:qzm 0 (h.push (.cells (cSeg e) false)) j cSeg (l.take i) 7 (.slice j 0 i 7 (.toEnd 7)) := .inr ⟨by rw [hli],by simp only [VH.push,qzb,e1,if_false];exact hj,Nat.zero_le _,by show j < h.next+1;omega⟩
  refine wpW_acc (a:=e) acc ?_ cSeg_len (by omega) (Nat.zero_le _) (by rw [hli];omega) (by rw [hli];omega) ?_
  ·simp only [simprocAttr,-Int.reduceNatCast',go_sem]<;>first | rfl | exact ⟨rfl,rfl⟩ | exact qzc rfl
  ·intro h' g1 g2 g3
   rw [hli] at g3
   simp only [simprocAttr,-Int.reduceNatCast',go_sem,t0,t4,w,hli]
   rcases g3 with ⟨_,g3⟩ | ⟨_,g4,_,g5⟩
   ·exact nomatch g3
   refine ih (i+1) _ h' (h.next+1) (by omega) ?_ ?_ ?_ ?_ g5
   ·simp only [simprocAttr,-Int.reduceNatCast',go_sem,t0]
   ·simp only [simprocAttr,-Int.reduceNatCast',go_sem]
   ·simp only [simprocAttr,-Int.reduceNatCast',go_sem]
   ·rw [take_at he];exact g4
theorem segs_ok (Gl:qzj) (l:List Seg) (hl:l.length < 1000000):PureOwn Go.VL.Pal.E Gl f_glyphicref_Segs [.fsl (qzg cSeg l) l.length 7] (qzg cSeg l) 0 l.length 7 (copyCap l 7):=by
 refine own_sound (qze E_glyphicref_Segs ?_)
 unfold c_glyphicref_Segs r_glyphicref_Segs copyCap
 have hz:qzt (VV.int .i64 0)=some 0:=rfl
 simp only [qzl]
 have q:l.length < 9223372036854775808∧l.length*56≤281474976710656:=by omega
 rcases l with _ | ⟨e,l⟩
 ·simp only [simprocAttr,-Int.reduceNatCast',go_sem,repV,List.replicate_zero,List.flatten_nil,Nat.le_refl,Nat.zero_mul,Nat.zero_le,Int.natCast_zero,eq_self,hz]
  refine qzi c_glyphicref_Segs_l0.eq_1 ?_
  simp only [simprocAttr,-Int.reduceNatCast',go_sem,Int.natCast_zero,Int.lt_irrefl]
  exact ⟨0,_,rfl,rfl,rfl,subL_refl _⟩
 ·have q0:¬(0=l.length+1):=by omega
  rw [List.length_cons] at q
  simp only [simprocAttr,-Int.reduceNatCast',go_sem,repV,List.replicate_zero,List.flatten_nil,Nat.zero_le,q,q0,hz]
  refine segs_loop Gl (e::l) hl _ ?_ (l.length+1) 0 _ _ 0 (by simp) ?_ ?_ ?_ ?_ ?_
  ·intro T h j t3 hj
   simp only [simprocAttr,-Int.reduceNatCast',go_sem,t3]
   exact ⟨j,_,rfl,by rw [hj];rfl,closedL_flat (fun _=>rfl) _,subL_refl _⟩
  ·simp only [simprocAttr,-Int.reduceNatCast',go_sem]
  ·simp only [simprocAttr,-Int.reduceNatCast',go_sem];rfl
  ·simp only [simprocAttr,-Int.reduceNatCast',go_sem]
  ·simp only [simprocAttr,-Int.reduceNatCast',go_sem,List.take_zero,flatL_nil]
  ·simp only [simprocAttr,-Int.reduceNatCast',go_sem]
theorem paths_loop (Gl:qzj) (l:List Path) (hl:l.length < 1000000) (K:AEx→VF→VH→Prop)
  (hK:∀ T h j,qza T 3=some (.slice j 0 l.length 4 (.toEnd 4))→qza h.l j=some (some (.cells (qzg cPath l) false))→K (.exit 0) T h) :
  ∀ (d i:Nat) (T:VF) (h:VH) (j:Nat),d+i=l.length→qza T 0=some (.fsl (qzg cPath l) l.length 4)→qza T 4=some (.int .i64 i)→qza T 3=some (.slice j 0 i 4 (.toEnd 4))→qza h.l j=some (some (.cells (qzg cPath (l.take i)) false))→j < h.next →
   wp Go.VL.Pal.E Gl (.loop c_glyphicref_Paths_l0) T h K:=by
 intro d
 induction d with
 | zero =>
  intro i T h j hd t0 t4 t3 hj hn
  obtain rfl:i=l.length:=by omega
  refine qzi c_glyphicref_Paths_l0.eq_1 ?_
  simp only [simprocAttr,-Int.reduceNatCast',go_sem,t0,t4,t3,Int.lt_irrefl]
  refine hK _ _ j ?_ (by rw [List.take_length] at hj;exact hj)
  simp only [simprocAttr,-Int.reduceNatCast',go_sem,t3]
 | succ d ih =>
  intro i T h j hd t0 t4 t3 hj hn
  refine qzi c_glyphicref_Paths_l0.eq_1 ?_
  have hlt:i < l.length:=by omega
  have c:(i:Int) < l.length:=by omega
  obtain ⟨e,he⟩:∃ e,l[i]?=some e:=⟨l[i],List.getElem?_eq_getElem hlt⟩
  have p1:=qzr cPath_len he
  have p2:=qzs cPath_len he
  have w:IntKind.i64.wrap ((i:Int)+1)=((i+1:Nat):Int):=by rw [qzd (by omega) (by omega)];rfl
  have e1:¬h.next=j:=by omega
  have hli:(l.take i).length=i:=by rw [List.length_take];omega
  simp only [simprocAttr,-Int.reduceNatCast',go_sem,t0,t4,t3,c,hlt,p1,p2]
  have acc:qzm 0 (h.push (.cells (cPath e) false)) j cPath (l.take i) 4 (.slice j 0 i 4 (.toEnd 4)) := .inr ⟨by rw [hli],by simp only [VH.push,qzb,e1,if_false];exact hj,Nat.zero_le _,by show j < h.next+1;omega⟩
  refine wpW_acc (a:=e) acc ?_ cPath_len (by omega) (Nat.zero_le _) (by rw [hli];omega) (by rw [hli];omega) ?_
  ·simp only [simprocAttr,-Int.reduceNatCast',go_sem]<;>first | rfl | exact ⟨rfl,rfl⟩ | exact qzc rfl
  ·intro h' g1 g2 g3
   rw [hli] at g3
   simp only [simprocAttr,-Int.reduceNatCast',go_sem,t0,t4,w,hli]
   rcases g3 with ⟨_,g3⟩ | ⟨_,g4,_,g5⟩
   ·exact nomatch g3
   refine ih (i+1) _ h' (h.next+1) (by omega) ?_ ?_ ?_ ?_ g5
   ·simp only [simprocAttr,-Int.reduceNatCast',go_sem,t0]
   ·simp only [simprocAttr,-Int.reduceNatCast',go_sem]
   ·simp only [simprocAttr,-Int.reduceNatCast',go_sem]
   ·rw [take_at he];exact g4
theorem paths_ok (Gl:qzj) (l:List Path) (hl:l.length < 1000000):PureOwn Go.VL.Pal.E Gl f_glyphicref_Paths [.fsl (qzg cPath l) l.length 4] (qzg cPath l) 0 l.length 4 (copyCap l 4):=by
 refine own_sound (qze E_glyphicref_Paths ?_)
 unfold c_glyphicref_Paths r_glyphicref_Paths copyCap
 have hz:qzt (VV.int .i64 0)=some 0:=rfl
 simp only [qzl]
 have q:l.length < 9223372036854775808∧l.length*48≤281474976710656:=by omega
 rcases l with _ | ⟨e,l⟩
 ·simp only [simprocAttr,-Int.reduceNatCast',go_sem,repV,List.replicate_zero,List.flatten_nil,Nat.le_refl,Nat.zero_mul,Nat.zero_le,Int.natCast_zero,eq_self,hz]
  refine qzi c_glyphicref_Paths_l0.eq_1 ?_
  simp only [simprocAttr,-Int.reduceNatCast',go_sem,Int.natCast_zero,Int.lt_irrefl]
  exact ⟨0,_,rfl,rfl,rfl,subL_refl _⟩
 ·have q0:¬(0=l.length+1):=by omega
  rw [List.length_cons] at q
  simp only [simprocAttr,-Int.reduceNatCast',go_sem,repV,List.replicate_zero,List.flatten_nil,Nat.zero_le,q,q0,hz]
  refine paths_loop Gl (e::l) hl _ ?_ (l.length+1) 0 _ _ 0 (by simp) ?_ ?_ ?_ ?_ ?_
  ·intro T h j t3 hj
   simp only [simprocAttr,-Int.reduceNatCast',go_sem,t3]
   exact ⟨j,_,rfl,by rw [hj];rfl,closedL_flat (fun _=>rfl) _,subL_refl _⟩
  ·simp only [simprocAttr,-Int.reduceNatCast',go_sem]
  ·simp only [simprocAttr,-Int.reduceNatCast',go_sem];rfl
  ·simp only [simprocAttr,-Int.reduceNatCast',go_sem]
  ·simp only [simprocAttr,-Int.reduceNatCast',go_sem,List.take_zero,flatL_nil]
  ·simp only [simprocAttr,-Int.reduceNatCast',go_sem]
theorem cmds_loop (Gl:qzj) (l:List Cmd) (hl:l.length < 1000000) (K:AEx→VF→VH→Prop)
  (hK:∀ T h j,qza T 3=some (.slice j 0 l.length 11 (.toEnd 11))→qza h.l j=some (some (.cells (qzg cCmd l) false))→K (.exit 0) T h) :
  ∀ (d i:Nat) (T:VF) (h:VH) (j:Nat),d+i=l.length→qza T 0=some (.fsl (qzg cCmd l) l.length 11)→qza T 4=some (.int .i64 i)→qza T 3=some (.slice j 0 i 11 (.toEnd 11))→qza h.l j=some (some (.cells (qzg cCmd (l.take i)) false))→j < h.next →
   wp Go.VL.Pal.E Gl (.loop c_glyphicref_Cmds_l0) T h K:=by
 intro d
 induction d with
 | zero =>
  intro i T h j hd t0 t4 t3 hj hn
  obtain rfl:i=l.length:=by omega
  refine qzi c_glyphicref_Cmds_l0.eq_1 ?_
  simp only [simprocAttr,-Int.reduceNatCast',go_sem,t0,t4,t3,Int.lt_irrefl]
  refine hK _ _ j ?_ (by rw [List.take_length] at hj;exact hj)
  simp only [simprocAttr,-Int.reduceNatCast',go_sem,t3]
 | succ d ih =>
  intro i T h j hd t0 t4 t3 hj hn
  refine qzi c_glyphicref_Cmds_l0.eq_1 ?_
  have hlt:i < l.length:=by omega
  have c:(i:Int) < l.length:=by omega
  obtain ⟨e,he⟩:∃ e,l[i]?=some e:=⟨l[i],List.getElem?_eq_getElem hlt⟩
  have p1:=qzr cCmd_len he
  have p2:=qzs cCmd_len he
  have w:IntKind.i64.wrap ((i:Int)+1)=((i+1:Nat):Int):=by rw [qzd (by omega) (by omega)];rfl
  have e1:¬h.next=j:=by omega
  have hli:(l.take i).length=i:=by rw [List.length_take];omega
  simp only [simprocAttr,-Int.reduceNatCast',go_sem,t0,t4,t3,c,hlt,p1,p2]
  have acc:qzm 0 (h.push (.cells (cCmd e) false)) j cCmd (l.take i) 11 (.slice j 0 i 11 (.toEnd 11)) := .inr ⟨by rw [hli],by simp only [VH.push,qzb,e1,if_false];exact hj,Nat.zero_le _,by show j < h.next+1;omega⟩
  refine wpW_acc (a:=e) acc ?_ cCmd_len (by omega) (Nat.zero_le _) (by rw [hli];omega) (by rw [hli];omega) ?_
  ·simp only [simprocAttr,-Int.reduceNatCast',go_sem]<;>first | rfl | exact ⟨rfl,rfl⟩ | exact qzc rfl
  ·intro h' g1 g2 g3
   rw [hli] at g3
   simp only [simprocAttr,-Int.reduceNatCast',go_sem,t0,t4,w,hli]
   rcases g3 with ⟨_,g3⟩ | ⟨_,g4,_,g5⟩
   ·exact nomatch g3
   refine ih (i+1) _ h' (h.next+1) (by omega) ?_ ?_ ?_ ?_ g5
   ·simp only [simprocAttr,-Int.reduceNatCast',go_sem,t0]
   ·simp only [simprocAttr,-Int.reduceNatCast',go_sem]
   ·simp only [simprocAttr,-Int.reduceNatCast',go_sem]
   ·rw [take_at he];exact g4
end
end Go.VL.Cp
namespace Go.VL.Cp
open Go.FR Go.IR Go.VL Go.VL.Color Go.VL.Wind Go.VL.Ic Go.VL.Wire
noncomputable section
set_option maxRecDepth 100000
set_option maxHeartbeats 1000000
attribute [local go_sem] cB cSeg cPath cPaint cCmd cIcon cPt cCl
theorem bytes_loop (Gl:qzj) (l:List Nat) (hl:l.length < 1000000) (K:AEx→VF→VH→Prop)
  (hK:∀ T h j,qza T 3=some (.slice j 0 l.length 1 (.toEnd 1))→qza h.l j=some (some (.cells (qzg cB l) false))→K (.exit 0) T h) :
  ∀ (d i:Nat) (T:VF) (h:VH) (j:Nat),d+i=l.length→qza T 0=some (.fsl (qzg cB l) l.length 1)→qza T 4=some (.int .i64 i)→qza T 3=some (.slice j 0 i 1 (.toEnd 1))→qza h.l j=some (some (.cells (qzg cB (l.take i)) false))→j < h.next →
   wp Go.VL.Pal.E Gl (.loop c_glyphicref_Bytes_l0) T h K:=by
 intro d
 induction d with
 | zero =>
  intro i T h j hd t0 t4 t3 hj hn
  obtain rfl:i=l.length:=by omega
  refine qzi c_glyphicref_Bytes_l0.eq_1 ?_
  simp only [simprocAttr,-Int.reduceNatCast',go_sem,t0,t4,t3,Int.lt_irrefl]
  refine hK _ _ j ?_ (by rw [List.take_length] at hj;exact hj)
  simp only [simprocAttr,-Int.reduceNatCast',go_sem,t3]
 | succ d ih =>
  intro i T h j hd t0 t4 t3 hj hn
  refine qzi c_glyphicref_Bytes_l0.eq_1 ?_
  have hlt:i < l.length:=by omega
  have c:(i:Int) < l.length:=by omega
  obtain ⟨e,he⟩:∃ e,l[i]?=some e:=⟨l[i],List.getElem?_eq_getElem hlt⟩
  have p1:=qzr cB_len he
  have p2:=flat1_at he
  have w:IntKind.i64.wrap ((i:Int)+1)=((i+1:Nat):Int):=by rw [qzd (by omega) (by omega)];rfl
  have e1:¬h.next=j:=by omega
  have hli:(l.take i).length=i:=by rw [List.length_take];omega
  simp only [simprocAttr,-Int.reduceNatCast',go_sem,t0,t4,t3,c,hlt,p1,p2,Nat.mul_one]
  have acc:qzm 0 (h.push (.cells (cB e) false)) j cB (l.take i) 1 (.slice j 0 i 1 (.toEnd 1)) := .inr ⟨by rw [hli],by simp only [VH.push,qzb,e1,if_false];exact hj,Nat.zero_le _,by show j < h.next+1;omega⟩
  refine wpW_acc (a:=e) acc ?_ cB_len (by omega) (Nat.zero_le _) (by rw [hli];omega) (by rw [hli];omega) ?_
  ·simp only [simprocAttr,-Int.reduceNatCast',go_sem]<;>first | rfl | exact ⟨rfl,rfl⟩ | exact qzc rfl
  ·intro h' g1 g2 g3
   rw [hli] at g3
   simp only [simprocAttr,-Int.reduceNatCast',go_sem,t0,t4,w,hli]
   rcases g3 with ⟨_,g3⟩ | ⟨_,g4,_,g5⟩
   ·exact nomatch g3
   refine ih (i+1) _ h' (h.next+1) (by omega) ?_ ?_ ?_ ?_ g5
   ·simp only [simprocAttr,-Int.reduceNatCast',go_sem,t0]
   ·simp only [simprocAttr,-Int.reduceNatCast',go_sem]
   ·simp only [simprocAttr,-Int.reduceNatCast',go_sem]
   ·rw [take_at he];exact g4
theorem bytes_ok (Gl:qzj) (l:List Nat) (hl:l.length < 1000000):PureOwn Go.VL.Pal.E Gl f_glyphicref_Bytes [.fsl (qzg cB l) l.length 1] (qzg cB l) 0 l.length 1 (copyCap l 1):=by
 refine own_sound (qze E_glyphicref_Bytes ?_)
 unfold c_glyphicref_Bytes r_glyphicref_Bytes copyCap
 have hz:qzt (VV.int .i64 0)=some 0:=rfl
 simp only [qzl]
 have q:l.length < 9223372036854775808∧l.length*1≤281474976710656:=by omega
 rcases l with _ | ⟨e,l⟩
 ·simp only [simprocAttr,-Int.reduceNatCast',go_sem,repV,List.replicate_zero,List.flatten_nil,Nat.le_refl,Nat.zero_mul,Nat.zero_le,Int.natCast_zero,eq_self,hz]
  refine qzi c_glyphicref_Bytes_l0.eq_1 ?_
  simp only [simprocAttr,-Int.reduceNatCast',go_sem,Int.natCast_zero,Int.lt_irrefl]
  exact ⟨0,_,rfl,rfl,rfl,subL_refl _⟩
 ·have q0:¬(0=l.length+1):=by omega
  rw [List.length_cons] at q
  simp only [simprocAttr,-Int.reduceNatCast',go_sem,repV,List.replicate_zero,List.flatten_nil,Nat.zero_le,q,q0,hz]
  refine bytes_loop Gl (e::l) hl _ ?_ (l.length+1) 0 _ _ 0 (by simp) ?_ ?_ ?_ ?_ ?_
  ·intro T h j t3 hj
   simp only [simprocAttr,-Int.reduceNatCast',go_sem,t3]
   exact ⟨j,_,rfl,by rw [hj];rfl,closedL_flat (fun _=>rfl) _,subL_refl _⟩
  ·simp only [simprocAttr,-Int.reduceNatCast',go_sem]
  ·simp only [simprocAttr,-Int.reduceNatCast',go_sem];rfl
  ·simp only [simprocAttr,-Int.reduceNatCast',go_sem]
  ·simp only [simprocAttr,-Int.reduceNatCast',go_sem,List.take_zero,flatL_nil]
  ·simp only [simprocAttr,-Int.reduceNatCast',go_sem]
end
end Go.VL.Cp
namespace Go.VL.Mk
open Go.FR Go.IR Go.VL Go.VL.Color Go.VL.Wind Go.VL.Ic
noncomputable section
set_option maxRecDepth 100000
set_option maxHeartbeats 1000000
attribute [local go_sem] cCl cSeq bSeq cPt cSeg cPath
theorem more_ok (Gl:qzj) (l:List Int) (a i:Nat):StOk Go.VL.Er.E Gl f_glyphicmake_Seq_more [.ptr i 0] [(i,bSeq l a)] (.bool (decide (a < l.length))) [(i,bSeq l a)]:=by
 refine st1_intro fun nx hn=>qze E_glyphicmake_Seq_more ?_
 unfold c_glyphicmake_Seq_more r_glyphicmake_Seq_more
 simp only [qzl]
 by_cases c:a < l.length
 ·have c1:(a:Int) < (l.length:Int):=by omega
  simp only [simprocAttr,-Int.reduceNatCast',go_sem,c,c1]<;>first | rfl | exact ⟨rfl,rfl⟩ | exact qzc rfl
 ·have c1:¬(a:Int) < (l.length:Int):=by omega
  simp only [simprocAttr,-Int.reduceNatCast',go_sem,c,c1]<;>first | rfl | exact ⟨rfl,rfl⟩ | exact qzc rfl
def palS:List Cl:=[⟨255,0,0,255⟩,⟨0,128,0,255⟩,⟨0,0,200,100⟩,⟨10,20,30,1⟩,⟨255,255,255,255⟩,⟨0,0,0,0⟩,⟨7,0,0,254⟩]
def colorS (l:List Int) (a:Nat):Cl:=palS.getD (nextS l a 7).toNat ⟨0,0,0,0⟩
theorem color_ok (Gl:qzj) (l:List Int) (a i:Nat) (hl:l.length < 4611686018427387904) (ha:a < 4611686018427387904):StOk Go.VL.Er.E Gl f_glyphicmake_Color [.ptr i 0] [(i,bSeq l a)] (.agg (cCl (colorS l a))) [(i,bSeq l (a+1))]:=by
 refine st1_intro fun nx hn=>qze E_glyphicmake_Color ?_
 unfold c_glyphicmake_Color r_glyphicmake_Color
 simp only [qzl]
 have n1:=next_in l a 7 (by omega)
 have e1:¬nx=i:=by omega
 have e2:¬i=nx:=by omega
 have e3:¬nx+1=i:=by omega
 have e4:¬i=nx+1:=by omega
 have e5:¬nx+1=nx:=by omega
 simp only [simprocAttr,-Int.reduceNatCast',go_sem,e1,e3]
 refine qzp (next_ok Gl l a 7 i hl (by omega) (by omega) (by omega)) (by simp only [simprocAttr,-Int.reduceNatCast',go_sem,e1,e3]) rfl rfl ?_
 have z:∀ n:Nat,qzt (VV.int .i64 (n:Int))=some n:=natV_nat .i64
 have z1:qzt (VV.int .i64 1)=some 1:=rfl
 have z2:qzt (VV.int .i64 2)=some 2:=rfl
 have z3:qzt (VV.int .i64 3)=some 3:=rfl
 have z4:qzt (VV.int .i64 4)=some 4:=rfl
 have z5:qzt (VV.int .i64 5)=some 5:=rfl
 have z6:qzt (VV.int .i64 6)=some 6:=rfl
 have z0:qzt (VV.int .i64 0)=some 0:=rfl
 unfold colorS
 have cs:nextS l a 7=0∨nextS l a 7=1∨nextS l a 7=2∨nextS l a 7=3∨nextS l a 7=4∨nextS l a 7=5∨nextS l a 7=6:=by omega
 rcases cs with h | h | h | h | h | h | h
 all_goals
  rw [h]
  simp only [simprocAttr,-Int.reduceNatCast',go_sem,e1,e2,e3,e4,e5,z0,z1,z2,z3,z4,z5,z6]
 all_goals first | exact ⟨rfl,rfl⟩ | rfl
def insideS (l:List Int) (a:Nat) (far:Int):Pt:=if nextS l a 12=0 then pointS l (a+1) far else ⟨nextS l (a+1) (far+1),nextS l (a+2) (far+1)⟩
theorem inside_ok (Gl:qzj) (l:List Int) (a:Nat) (far:Int) (i:Nat) (hl:l.length < 4611686018427387904) (ha:a+3 < 4611686018427387904) (h:0≤far) (hb:far < 4611686018427387000) :
  StOk Go.VL.Er.E Gl f_glyphicmake_inside [.ptr i 0,.int .i64 far] [(i,bSeq l a)] (.agg (cPt (insideS l a far))) [(i,bSeq l (a+3))]:=by
 refine st1_intro fun nx hn=>qze E_glyphicmake_inside ?_
 unfold c_glyphicmake_inside r_glyphicmake_inside
 simp only [qzl]
 have e1:¬nx=i:=by omega
 have e2:¬i=nx:=by omega
 have w2:IntKind.i64.wrap (far+1)=far+1:=qzd (by omega) (by omega)
 simp only [simprocAttr,-Int.reduceNatCast',go_sem]
 refine qzp (next_ok Gl l a 12 i hl (by omega) (by omega) (by omega)) (by simp only [simprocAttr,-Int.reduceNatCast',go_sem,e1]) rfl rfl ?_
 unfold insideS
 by_cases c:nextS l a 12=0
 ·have c':(nextS l a 12 == 0)=true:=by simp [c]
  rw [if_pos c]
  simp only [simprocAttr,-Int.reduceNatCast',go_sem,c']
  refine qzp (point_ok Gl l (a+1) far i hl (by omega) h hb) (by simp only [simprocAttr,-Int.reduceNatCast',go_sem,e1]) rfl rfl ?_
  simp only [simprocAttr,-Int.reduceNatCast',go_sem,e1,e2]<;>first | rfl | exact ⟨rfl,rfl⟩ | exact qzc rfl
 ·have c':(nextS l a 12 == 0)=false:=by simp [c]
  rw [if_neg c]
  simp only [simprocAttr,-Int.reduceNatCast',go_sem,c',w2]
  refine qzp (next_ok Gl l (a+1) (far+1) i hl (by omega) (by omega) (by omega)) (by simp only [simprocAttr,-Int.reduceNatCast',go_sem,e1]) rfl rfl ?_
  simp only [simprocAttr,-Int.reduceNatCast',go_sem,w2]
  refine qzp (next_ok Gl l (a+2) (far+1) i hl (by omega) (by omega) (by omega)) (by simp only [simprocAttr,-Int.reduceNatCast',go_sem,e1]) rfl rfl ?_
  simp only [simprocAttr,-Int.reduceNatCast',go_sem,e1,e2]<;>first | rfl | exact ⟨rfl,rfl⟩ | exact qzc rfl
def zP:Pt:=⟨0,0⟩
def segP (l:List Int) (a:Nat) (far kind:Int) (k:Nat):Seg:=⟨kind,if 0 < k then insideS l a far else zP,if 1 < k then insideS l (a+3) far else zP,if 2 < k then insideS l (a+6) far else zP⟩
theorem pts_loop (Gl:qzj) (l:List Int) (far:Int) (i bx:Nat) (kind:Nat) (hk:kind≤3) (hl:l.length < 4611686018427387904) (hf:0≤far) (hb:far < 4611686018427387000) (a:Nat) (ha:a+9 < 4611686018427387904) (hib:i≠bx) (T0:VF) (hA:VH) (K:AEx→VF→VH→Prop)
  (hK:∀ T h,(∀ k,k < 27→k≠10→qza T k=qza T0 k)→qza h.l i=some (some (bSeq l (a+3*kind)))→qza h.l bx=some (some (.cells (cSeg (segP l a far kind kind)) false))→(∀ k,k≠i→k≠bx→qza h.l k=qza hA.l k)→h.next=hA.next→K (.exit 2) T h) :
  ∀ (d k:Nat) (T:VF) (h:VH),d+k=kind→(∀ k,k < 27→k≠10→qza T k=qza T0 k)→qza T 0=some (.ptr i 0)→qza T 1=some (.int .i64 far)→qza T 9=some (.ptr bx 0)→qza T 10=some (.int .i64 k) →
   qza h.l i=some (some (bSeq l (a+3*k)))→qza h.l bx=some (some (.cells (cSeg (segP l a far kind k)) false))→(∀ k,k≠i→k≠bx→qza h.l k=qza hA.l k)→h.next=hA.next →
  wp Go.VL.Er.E Gl (.loop c_glyphicmake_Path_l0) T h K:=by
 intro d
 induction d with
 | zero =>
  intro k T h hd hT t0 t1 t9 t10 s1 s2 hh hn
  obtain rfl:k=kind:=by omega
  refine qzi c_glyphicmake_Path_l0.eq_1 ?_
  unfold segP at s2
  simp only [simprocAttr,-Int.reduceNatCast',go_sem,t9,t10,s2,Int.lt_irrefl]
  refine hK _ _ (fun k q1 q2 => ?_) s1 s2 hh hn
  simp only [qzb]
  (repeat rw [if_neg (by omega)])
  exact hT k q1 q2
 | succ d ih =>
  intro k T h hd hT t0 t1 t9 t10 s1 s2 hh hn
  refine qzi c_glyphicmake_Path_l0.eq_1 ?_
  have c1:(k:Int) < (kind:Int):=by omega
  have w:IntKind.i64.wrap ((k:Int)+1)=((k+1:Nat):Int):=by rw [qzd (by omega) (by omega)];rfl
  have k3:k < 3:=by omega
  have e1:¬bx=i:=fun e=>hib e.symm
  unfold segP at s2
  simp only [simprocAttr,-Int.reduceNatCast',go_sem,t0,t1,t9,t10,s2,c1,natV_nat,k3]
  refine qzp (inside_ok Gl l (a+3*k) far i hl (by omega) hf hb) s1 rfl rfl ?_
  have hcs:k=0∨k=1∨k=2:=by omega
  rcases hcs with rfl | rfl | rfl
  all_goals
   simp only [simprocAttr,-Int.reduceNatCast',go_sem,t0,t1,t9,t10,s2,c1,natV_nat,e1,hib,w]
   first | refine ih (0+1) _ _ (by omega) ?_ ?_ ?_ ?_ ?_ ?_ ?_ ?_ hn | refine ih (1+1) _ _ (by omega) ?_ ?_ ?_ ?_ ?_ ?_ ?_ ?_ hn | refine ih (2+1) _ _ (by omega) ?_ ?_ ?_ ?_ ?_ ?_ ?_ ?_ hn
   ·intro k q1 q2
    simp only [qzb]
    (repeat rw [if_neg (by omega)])
    exact hT k q1 q2
   ·simp only [simprocAttr,-Int.reduceNatCast',go_sem,t0]
   ·simp only [simprocAttr,-Int.reduceNatCast',go_sem,t1]
   ·simp only [simprocAttr,-Int.reduceNatCast',go_sem,t9]
   ·simp only [simprocAttr,-Int.reduceNatCast',go_sem]
   ·simp only [simprocAttr,-Int.reduceNatCast',go_sem,e1]
   ·simp only [simprocAttr,-Int.reduceNatCast',go_sem,segP,zP]
   ·intro k q1 q2
    simp only [qzb,Ne.symm q1,Ne.symm q2,if_false]
    exact hh k q1 q2
end
end Go.VL.Mk
namespace Go.VL.Mk
open Go.FR Go.IR Go.VL Go.VL.Color Go.VL.Wind Go.VL.Ic
noncomputable section
set_option maxRecDepth 100000
set_option maxHeartbeats 1000000
def segN (l:List Int) (a:Nat):Nat:=(nextS l a 3).toNat+1
theorem segN_in (l:List Int) (a:Nat):1≤segN l a∧segN l a≤3∧1+nextS l a 3=(segN l a:Int):=by
 have:=next_in l a 3 (by omega)
 unfold segN;omega
def segOf (l:List Int) (a:Nat) (far:Int):Seg:=segP l (a+1) far (segN l a) (segN l a)
def segEnd (l:List Int) (a:Nat):Nat:=a+1+3*segN l a
def segsS (l:List Int) (far:Int):Nat→Nat→List Seg
 | 0,_=>[]
 | n+1,a=>segOf l a far::segsS l far n (segEnd l a)
def segsEnd (l:List Int):Nat→Nat→Nat
 | 0,a=>a
 | n+1,a=>segsEnd l n (segEnd l a)
theorem segsS_len (l:List Int) (far:Int):∀ n a,(segsS l far n a).length=n
 | 0,a=>rfl
 | n+1,a=>by rw [segsS,List.length_cons,segsS_len l far n]
theorem segsEnd_le (l:List Int):∀ n a,a≤segsEnd l n a∧segsEnd l n a≤a+10*n
 | 0,a=>by simp [segsEnd]
 | n+1,a=>by
  have h1:=segsEnd_le l n (segEnd l a)
  have h2:=segN_in l a
  unfold segEnd at h1
  rw [segsEnd];unfold segEnd;omega
attribute [local go_sem] cCl cSeq bSeq cPt cSeg cPath
theorem segs_loop (Gl:qzj) (l:List Int) (far:Int) (i nx:Nat) (hin:i < nx) (hl:l.length < 4611686018427387904) (hf:0≤far) (hb:far < 4611686018427387000) (p:Pt) (b:Bool) (z:List VV) (K:AEx→VF→VH→Prop) (r:List Seg) (ae:Nat)
  (hK:∀ T h v j,qza T 6=some (.ptr nx 0)→qza T 7=some (.ptr (nx+1) 0)→qzm (nx+2) h j cSeg r 7 v→qza h.l i=some (some (bSeq l ae))→qza h.l nx=some (some (.cells z false))→qza h.l (nx+1)=some (some (.cells [.int .i64 p.x,.int .i64 p.y,v,.bool b] false))→nx+2≤h.next→K (.exit 0) T h) :
  ∀ (d a:Nat) (acc:List Seg) (T:VF) (h:VH) (v:VV) (j:Nat),r=acc++segsS l far d a→ae=segsEnd l d a→acc.length+d < 1000000→a+10*d < 10000000 →
   qza T 0=some (.ptr i 0)→qza T 1=some (.int .i64 far)→qza T 6=some (.ptr nx 0)→qza T 7=some (.ptr (nx+1) 0)→qza T 8=some (.int .i64 d) →
   qzm (nx+2) h j cSeg acc 7 v→qza h.l i=some (some (bSeq l a))→qza h.l nx=some (some (.cells z false))→qza h.l (nx+1)=some (some (.cells [.int .i64 p.x,.int .i64 p.y,v,.bool b] false))→nx+2≤h.next →
  wp Go.VL.Er.E Gl (.loop c_glyphicmake_Path_l1) T h K:=by
 intro d
 induction d with
 | zero =>
  intro a acc T h v j hr hae h1 h2 t0 t1 t6 t7 t8 ha hs hz hA hn
  refine qzi c_glyphicmake_Path_l1.eq_1 ?_
  have c1:¬((0:Nat):Int) > 0:=by omega
  simp only [simprocAttr,-Int.reduceNatCast',go_sem,t8,c1]
  refine hK _ _ v j ?_ ?_ (by rw [hr,segsS,List.append_nil];exact ha) (by rw [hae];exact hs) hz hA hn
  ·simp only [simprocAttr,-Int.reduceNatCast',go_sem,t6]
  ·simp only [simprocAttr,-Int.reduceNatCast',go_sem,t7]
 | succ d ih =>
  intro a acc T h v j hr hae h1 h2 t0 t1 t6 t7 t8 ha hs hz hA hn
  refine qzi c_glyphicmake_Path_l1.eq_1 ?_
  have c1:((d+1:Nat):Int) > 0:=by omega
  have w:IntKind.i64.wrap (((d+1:Nat):Int) - 1)=(d:Int):=by rw [qzd (by omega) (by omega)];omega
  obtain ⟨k1,k2,k3⟩:=segN_in l a
  have w2:IntKind.i64.wrap (1+nextS l a 3)=(segN l a:Int):=by rw [qzd (by omega) (by omega)];omega
  have e1:¬i=h.next:=by omega
  have e2:¬h.next=i:=by omega
  have e3:¬h.next=nx+1:=by omega
  have e4:¬i=nx+1:=by omega
  have e5:¬nx+1=h.next:=by omega
  have e7:¬nx+1=i:=by omega
  simp only [simprocAttr,-Int.reduceNatCast',go_sem,t0,t1,t7,t8,c1]
  refine qzp (next_ok Gl l a 3 i hl (by omega) (by omega) (by omega)) hs rfl rfl ?_
  simp only [simprocAttr,-Int.reduceNatCast',go_sem,t0,t1,t7,t8,w2,e1,e2]
  refine pts_loop Gl l far i h.next (segN l a) (by omega) hl hf hb (a+1) (by omega) (by omega) _ _ _ ?_ (segN l a) 0 _ _ (by omega) (fun _ _ _=>rfl) ?_ ?_ ?_ ?_ ?_ ?_ (fun _ _ _=>rfl) rfl
  ·intro T' h' hT s1 s2 hh hx
   simp only at hx
   have oA:qza h'.l (nx+1)=some (some (.cells [.int .i64 p.x,.int .i64 p.y,v,.bool b] false)):=by
    rw [hh (nx+1) (by omega) (by omega)]
    simp only [qzb]
    rw [if_neg (by omega),if_neg (by omega),if_neg (by omega)];exact hA
   have oz:qza h'.l nx=some (some (.cells z false)):=by
    rw [hh nx (by omega) (by omega)]
    simp only [qzb]
    rw [if_neg (by omega),if_neg (by omega),if_neg (by omega)];exact hz
   have u7:qza T' 7=some (.ptr (nx+1) 0):=by rw [hT 7 (by omega) (by omega)];simp only [simprocAttr,-Int.reduceNatCast',go_sem,t7]
   have u9:qza T' 9=some (.ptr h.next 0):=by rw [hT 9 (by omega) (by omega)];simp only [simprocAttr,-Int.reduceNatCast',go_sem]
   have u0:qza T' 0=some (.ptr i 0):=by rw [hT 0 (by omega) (by omega)];simp only [simprocAttr,-Int.reduceNatCast',go_sem,t0]
   have u1:qza T' 1=some (.int .i64 far):=by rw [hT 1 (by omega) (by omega)];simp only [simprocAttr,-Int.reduceNatCast',go_sem,t1]
   have u6:qza T' 6=some (.ptr nx 0):=by rw [hT 6 (by omega) (by omega)];simp only [simprocAttr,-Int.reduceNatCast',go_sem,t6]
   have u8:qza T' 8=some (.int .i64 ((d+1:Nat):Int)):=by rw [hT 8 (by omega) (by omega)];simp only [simprocAttr,-Int.reduceNatCast',go_sem,t8]
   have ex:(Seg.mk (segN l a:Int) (segP l (a+1) far (segN l a) (segN l a)).p0 (segP l (a+1) far (segN l a) (segN l a)).p1 (segP l (a+1) far (segN l a) (segN l a)).p2)=segOf l a far:=rfl
   simp only [simprocAttr,-Int.reduceNatCast',go_sem,u7,u9,oA,s2]
   refine wpW_acc (base:=nx+2) (j:=j) (f:=cSeg) (l:=acc) (a:=segOf l a far) (ha.ext (by simp;omega) (fun q1 q2 => ?_)) ?_ cSeg_len (by omega) (by simp;omega) (by omega) (by omega) ?_
   ·simp only [qzb]
    rw [if_neg (by omega),hh j (by omega) (by omega)]
    simp only [qzb]
    rw [if_neg (by omega),if_neg (by omega),if_neg (by omega)]
   ·simp only [simprocAttr,-Int.reduceNatCast',go_sem]<;>first | rfl | exact ⟨rfl,rfl⟩ | exact qzc rfl
   ·intro h2 g1 g2 g3
    have old:∀ k,k < nx+2→qza h2.l k=qza h'.l k:=fun k hk=>by
     rw [g2 k (by simp;omega) (ha.ne (.inl hk))]
     simp only [qzb]
     rw [if_neg (by omega)]
    have o1:=(old i (by omega)).trans s1
    have o2:=(old nx (by omega)).trans oz
    have o3:=(old (nx+1) (by omega)).trans oA
    simp only at g1
    simp only [simprocAttr,-Int.reduceNatCast',go_sem,u7,u8,o3,w]
    refine ih (segEnd l a) (acc++[segOf l a far]) _ _ _ _ ?_ ?_ (by simp;omega) (by unfold segEnd;omega) ?_ ?_ ?_ ?_ ?_ (g3.ext (Nat.le_refl _) (fun q1 q2 => ?_)) ?_ ?_ ?_ ?_
    ·rw [hr,segsS,List.append_assoc];rfl
    ·rw [hae];rfl
    ·simp only [simprocAttr,-Int.reduceNatCast',go_sem,u0]
    ·simp only [simprocAttr,-Int.reduceNatCast',go_sem,u1]
    ·simp only [simprocAttr,-Int.reduceNatCast',go_sem,u6]
    ·simp only [simprocAttr,-Int.reduceNatCast',go_sem,u7]
    ·simp only [simprocAttr,-Int.reduceNatCast',go_sem]
    ·simp only [qzb];rw [if_neg (by omega)]
    ·simp only [qzb,e7,if_false];exact o1
    ·simp only [qzb];rw [if_neg (by omega)];exact o2
    ·simp only [qzb,if_true]
    ·show nx+2≤h2.next;omega
  ·simp only [simprocAttr,-Int.reduceNatCast',go_sem,t0]
  ·simp only [simprocAttr,-Int.reduceNatCast',go_sem,t1]
  ·simp only [simprocAttr,-Int.reduceNatCast',go_sem]
  ·simp only [simprocAttr,-Int.reduceNatCast',go_sem];rfl
  ·simp only [simprocAttr,-Int.reduceNatCast',go_sem,e2]
  ·simp only [simprocAttr,-Int.reduceNatCast',go_sem,segP,zP]
def pathN (l:List Int) (a:Nat):Nat:=(nextS l (a+3) 4).toNat+1
theorem pathN_in (l:List Int) (a:Nat):1≤pathN l a∧pathN l a≤4∧1+nextS l (a+3) 4=(pathN l a:Int):=by
 have:=next_in l (a+3) 4 (by omega)
 unfold pathN;omega
def pathOf (l:List Int) (a:Nat) (far:Int) (b:Bool):Path:=⟨insideS l a far,segsS l far (pathN l a) (a+4),b⟩
def pathEnd (l:List Int) (a:Nat):Nat:=segsEnd l (pathN l a) (a+4)
theorem pathEnd_le (l:List Int) (a:Nat):a≤pathEnd l a∧pathEnd l a≤a+44:=by
 have h1:=segsEnd_le l (pathN l a) (a+4)
 have h2:=pathN_in l a
 unfold pathEnd;omega
theorem path_ok (Gl:qzj) (l:List Int) (a:Nat) (far:Int) (b:Bool) (i:Nat) (hl:l.length < 4611686018427387904) (ha:a < 1000000) (hf:0≤far) (hb:far < 4611686018427387000) :
  StShut Go.VL.Er.E Gl f_glyphicmake_Path [.ptr i 0,.int .i64 far,.bool b] [(i,bSeq l a)] (.agg (cPath (pathOf l a far b))) [(i,bSeq l (pathEnd l a))]:=by
 refine shut1_intro fun nx hn=>qze E_glyphicmake_Path ?_
 unfold c_glyphicmake_Path r_glyphicmake_Path
 simp only [qzl]
 obtain ⟨k1,k2,k3⟩:=pathN_in l a
 have w2:IntKind.i64.wrap (1+nextS l (a+3) 4)=(pathN l a:Int):=by rw [qzd (by omega) (by omega)];omega
 have e1:¬nx=i:=by omega
 have e2:¬i=nx:=by omega
 have e3:¬nx+1=nx:=by omega
 have e4:¬nx=nx+1:=by omega
 have e5:¬nx+1=i:=by omega
 have e6:¬i=nx+1:=by omega
 simp only [simprocAttr,-Int.reduceNatCast',go_sem]
 refine qzp (inside_ok Gl l a far i hl (by omega) hf hb) (by simp only [simprocAttr,-Int.reduceNatCast',go_sem,e1]) rfl rfl ?_
 simp only [simprocAttr,-Int.reduceNatCast',go_sem,e1,e2,e3,e4,e5,e6]
 refine qzp (next_ok Gl l (a+3) 4 i hl (by omega) (by omega) (by omega)) (by simp only [simprocAttr,-Int.reduceNatCast',go_sem,e1,e2,e3,e4,e5,e6]) rfl rfl ?_
 simp only [simprocAttr,-Int.reduceNatCast',go_sem,e1,e2,e3,e4,e5,e6,w2]
 refine segs_loop Gl l far i nx hn hl hf hb (insideS l a far) b [.int .i64 0,.int .i64 0,.nilS,.bool false] _ (segsS l far (pathN l a) (a+4)) (pathEnd l a) ?_ (pathN l a) (a+4) [] _ _ .nilS 0 rfl rfl (by simp;omega) (by omega) ?_ ?_ ?_ ?_ ?_ qzm.nil ?_ ?_ ?_ ?_
 ·intro T h v j t6 t7 hacc hs hz hA hnn
  have hne:segsS l far (pathN l a) (a+4)≠[]:=fun e=>by
   have:=segsS_len l far (pathN l a) (a+4)
   rw [e] at this;simp at this;omega
  obtain ⟨rfl,b2,b3,b4⟩:=hacc.some hne
  have hlen:=segsS_len l far (pathN l a) (a+4)
  simp only [simprocAttr,-Int.reduceNatCast',go_sem,t6,t7,hA,hz,e1,e4,e6]
  refine ⟨qzq.agg (qzo.cons (qzq.closed rfl) (qzo.cons (qzq.closed rfl) (qzo.cons (qzq.acc (f':=cSeg) (l:=segsS l far (pathN l a) (a+4)) (.inr ⟨rfl,b2,b3,b4⟩) (fun _ x hx => ?_) cSeg_len (fun _ _=>qzo.closed rfl)) (qzo.cons (qzq.closed rfl) qzo.nil)))),?_⟩
  ·rw [get_def] at hx
   unfold above
   rw [if_pos (by omega),get_def]
   simp only [qzb]
   rw [if_neg (by omega)]
   exact hx
  ·simp only [simprocAttr,-Int.reduceNatCast',go_sem,e1,e2,hs]
 all_goals first | (simp only [simprocAttr,-Int.reduceNatCast',go_sem,e1,e2,e3,e4,e5,e6];done) | (simp only [simprocAttr,-Int.reduceNatCast',go_sem,e1,e2,e3,e4,e5,e6];rfl) | exact Nat.le_refl _
end
end Go.VL.Mk
namespace Go.VL.Mk
open Go.FR Go.IR Go.VL Go.VL.Color Go.VL.Wind Go.VL.Ic Go.VL.Pal
noncomputable section
set_option maxRecDepth 100000
set_option maxHeartbeats 1000000
def addI (l:List Cl) (c:Cl):List Cl:=if 0≤idxS l c 0 then l else l++[c]
def addP (l:List Cl) (c:Cl):Int:=if 0≤idxS l c 0 then idxS l c 0 else l.length
theorem addI_len (l:List Cl) (c:Cl):l.length≤(addI l c).length∧(addI l c).length≤l.length+1:=by
 unfold addI;split<;>simp
attribute [local go_sem] cCl cSeq bSeq cPt cSeg cPath
theorem addi_run (Gl:qzj) (c:Cl) (l:List Cl) (hl:l.length < 100000) (base:Nat) (h:VH) (i j:Nat) (v x y z u:VV) (hb:base≤h.next) (hi:qza h.l i=some (some (.cells [x,y,z,v,u] false))) (ha:qzm base h j cCl l 4 v) (hin:i < h.next) (hij:i≠j∨v = .nilS) :
  CallsV Go.VL.Er.E Gl f_glyphicmake_add [.ptr i 0,.agg (cCl c)] h (fun r h'=>r = .int .i64 (addP l c)∧∃ j' v',qza h'.l i=some (some (.cells [x,y,z,v',u] false))∧qzm base h' j' cCl (addI l c) 4 v'∧(∀ k,k < h.next→k≠i→(k≠j∨v = .nilS)→qza h'.l k=qza h.l k)∧h.next≤h'.next∧(j'=j∧v'=v∨h.next≤j')):=by
 refine qze E_glyphicmake_add ?_
 unfold c_glyphicmake_add r_glyphicmake_add
 simp only [qzl]
 have e1:¬h.next=i:=by omega
 simp only [simprocAttr,-Int.reduceNatCast',go_sem,e1,hi]
 have acc2:=qzm.ext (h':=h.push (.cells (cCl c) false)) ha (Nat.le_succ _) (fun g1 g2=>by simp only [VH.push,qzb];rw [if_neg (by omega)])
 obtain ⟨a0,s1,s2⟩:=Pal.acc_shut acc2 Pal.cCl_len (fun _=>rfl)
 refine call_plain_sub (a0:=[a0,.agg (cCl c)]) (refFind_ok Gl c l (by omega)) ?_ ⟨_,_,rfl,s2,subL_refl _⟩ rfl ?_
 ·have s1':shut (VH.mk ((h.next,some (.cells (cCl c) false))::h.l) (h.next+1)) v=some a0:=s1
  simp only [shutL,s1'];rfl
 unfold addI addP
 by_cases k1:0≤idxS l c 0
 ·have k1':idxS l c 0 ≥ 0:=k1
  simp only [if_pos k1]
  simp only [simprocAttr,-Int.reduceNatCast',go_sem,k1']
  refine ⟨j,v,by simp only [qzb,e1,if_false];exact hi,acc2,fun k hk _ _ => ?_,Nat.le_succ _,.inl ⟨rfl,rfl⟩⟩
  rw [if_neg (by omega)]
 ·have k1':¬idxS l c 0 ≥ 0:=k1
  simp only [if_neg k1]
  simp only [simprocAttr,-Int.reduceNatCast',go_sem,k1',e1,hi]
  have acc4:qzm base ⟨(h.next+1,some (VB.cells (cCl c) false))::(h.next,some (VB.cells (cCl c) false))::h.l,h.next+1+1⟩ j cCl l 4 v:=qzm.ext (h:=h) ha (by show h.next≤h.next+1+1;omega) (fun q1 q2=>by simp only [qzb];rw [if_neg (by omega),if_neg (by omega)])
  refine wpW_acc (a:=c) acc4 (by simp only [simprocAttr,-Int.reduceNatCast',go_sem]<;>first | rfl | exact ⟨rfl,rfl⟩ | exact qzc rfl) Pal.cCl_len (by omega) (by show base≤h.next+1+1;omega) (by omega) (by omega) ?_
  intro h3 g1 g2 q3
  simp only at g1 g2 q3
  have r0:∀ k,k < h.next→(k≠j∨v=VV.nilS)→qza h3.l k=qza h.l k:=fun k hk hj=>by
   rw [g2 k (by omega) hj];simp only [qzb];rw [if_neg (by omega),if_neg (by omega)]
  have ri:=(r0 i hin hij).trans hi
  obtain ⟨_,q4,_,q5⟩:=q3.some (by simp)
  have e5:¬i=h.next+1+1:=by omega
  have wl:IntKind.i64.wrap (((l.length+1:Nat):Int) - 1)=(l.length:Int):=by rw [qzd (by omega) (by omega)];omega
  simp only [simprocAttr,-Int.reduceNatCast',go_sem,ri,wl]
  refine ⟨h.next+1+1,_,rfl,.inr ⟨by simp,by simp only [qzb,e5,if_false];exact q4,by omega,q5⟩,fun k hk hne hj => ?_,by omega,.inr (by omega)⟩
  rw [if_neg (by omega)];exact r0 k hk (by first | exact hj | (simp at hj ⊢;exact hj))
end
end Go.VL.Mk
namespace Go.VL.Mk
open Go.FR Go.IR Go.VL Go.VL.Color Go.VL.Wind Go.VL.Ic
noncomputable section
set_option maxRecDepth 100000
set_option maxHeartbeats 1000000
def shutB' (l:List Int) (kind:Nat) (a:Nat):Bool:=decide (kind=2) && decide (nextS l a 2=0)
def kAt (kind:Nat) (a:Nat):Nat:=if kind=2 then a+1 else a
def pathsS (l:List Int) (far:Int) (kind:Nat):Nat→Nat→List Path
 | 0,_=>[]
 | n+1,a=>pathOf l (kAt kind a) far (shutB' l kind a)::pathsS l far kind n (pathEnd l (kAt kind a))
def pathsEnd (l:List Int) (kind:Nat):Nat→Nat→Nat
 | 0,a=>a
 | n+1,a=>pathsEnd l kind n (pathEnd l (kAt kind a))
theorem pathsS_len (l:List Int) (far:Int) (kind:Nat):∀ n a,(pathsS l far kind n a).length=n
 | 0,a=>rfl
 | n+1,a=>by rw [pathsS,List.length_cons,pathsS_len l far kind n]
theorem kAt_le (kind a:Nat):a≤kAt kind a∧kAt kind a≤a+1:=by unfold kAt;split<;>omega
theorem pathsEnd_le (l:List Int) (kind:Nat):∀ n a,a≤pathsEnd l kind n a∧pathsEnd l kind n a≤a+45*n
 | 0,a=>by simp [pathsEnd]
 | n+1,a=>by
  have h1:=pathsEnd_le l kind n (pathEnd l (kAt kind a))
  have h2:=pathEnd_le l (kAt kind a)
  have h3:=kAt_le kind a
  rw [pathsEnd];omega
attribute [local go_sem] cCl cSeq bSeq cPt cSeg cPath
theorem paths_loop (Gl:qzj) (l:List Int) (far:Int) (i bx b1:Nat) (kind:Nat) (hl:l.length < 4611686018427387904) (hf:0≤far) (hb:far < 4611686018427387000) (hib:i≠bx) (hi1:i < b1) (hbx:bx < b1) (x1 x2 x3 x4 x5 x6 x7 x8 x9:VV) (T0:VF) (hA:VH) (K:AEx→VF→VH→Prop) (r:List Path) (ae:Nat)
  (hK:∀ T h v j,(∀ k,k < 7→qza T k=qza T0 k)→qzm b1 h j cPath r 4 v→qza h.l i=some (some (bSeq l ae))→qza h.l bx=some (some (.cells [.int .i64 kind,x1,x2,x3,x4,x5,x6,x7,x8,x9,v] false))→(∀ k,k < b1→k≠i→k≠bx→qza h.l k=qza hA.l k)→b1≤h.next→K (.exit 2) T h) :
  ∀ (d a:Nat) (acc:List Path) (T:VF) (h:VH) (v:VV) (j:Nat),r=acc++pathsS l far kind d a→ae=pathsEnd l kind d a→acc.length+d < 1000→a+45*d < 1000000 →
   (∀ k,k < 7→qza T k=qza T0 k)→qza T0 0=some (.ptr i 0)→qza T0 4=some (.int .i64 far)→qza T0 6=some (.ptr bx 0)→qza T 7=some (.int .i64 ((d:Int) - 1)) →
   qzm b1 h j cPath acc 4 v→qza h.l i=some (some (bSeq l a))→qza h.l bx=some (some (.cells [.int .i64 kind,x1,x2,x3,x4,x5,x6,x7,x8,x9,v] false))→(∀ k,k < b1→k≠i→k≠bx→qza h.l k=qza hA.l k)→b1≤h.next →
  wp Go.VL.Er.E Gl (.loop c_glyphicmake_Icon_l0) T h K:=by
 intro d
 induction d with
 | zero =>
  intro a acc T h v j hr hae h1 h2 hT u0 u4 u6 t7 ha hs hB hh hn
  refine qzi c_glyphicmake_Icon_l0.eq_1 ?_
  have c1:¬((0:Nat):Int) - 1 ≥ 0:=by omega
  simp only [simprocAttr,-Int.reduceNatCast',go_sem,t7,c1]
  refine hK _ _ v j (fun k q => ?_) (by rw [hr,pathsS,List.append_nil];exact ha) (by rw [hae];exact hs) hB hh hn
  simp only [qzb]
  (repeat rw [if_neg (by omega)])
  exact hT k q
 | succ d ih =>
  intro a acc T h v j hr hae h1 h2 hT u0 u4 u6 t7 ha hs hB hh hn
  refine qzi c_glyphicmake_Icon_l0.eq_1 ?_
  have t0:=(hT 0 (by omega)).trans u0
  have t4:=(hT 4 (by omega)).trans u4
  have t6:=(hT 6 (by omega)).trans u6
  have c1:((d+1:Nat):Int) - 1 ≥ 0:=by omega
  have w:IntKind.i64.wrap (((d+1:Nat):Int) - 1 - 1)=(d:Int) - 1:=by rw [qzd (by omega) (by omega)];omega
  have e1:¬i=bx:=hib
  have e2:¬bx=i:=fun e=>hib e.symm
  have e3:¬h.next=bx:=by omega
  have e4:¬bx=h.next:=by omega
  have x1':bx < h.next:=by omega
  have e5:(i == bx)=false:=by simp [hib]
  have e6:(bx == i)=false:=by simp [e2]
  have kb:=kAt_le kind a
  obtain ⟨a',hka⟩:∃ a',kAt kind a=a':=⟨_,rfl⟩
  obtain ⟨b,hsb⟩:∃ b,shutB' l kind a=b:=⟨_,rfl⟩
  by_cases k2:kind=2
  have q1:((kind:Int) == 2)=true:=by simp [k2]
  have ka:a'=a+1:=by rw [←hka];unfold kAt;rw [if_pos k2]
  have sb:(nextS l a 2 == 0)=b:=by rw [←hsb];unfold shutB';simp [k2];rfl
  simp only [simprocAttr,-Int.reduceNatCast',go_sem,t0,t4,t6,t7,c1,hB,q1]
  refine qzp (next_ok Gl l a 2 i hl (by omega) (by omega) (by omega)) hs rfl rfl ?_
  rw [←ka]
  simp only [simprocAttr,-Int.reduceNatCast',go_sem,t0,t4,t6,t7,c1,hB,q1,e1,e2,e5,e6,sb]
  have hs':qza (VH.mk ((i,some (bSeq l a'))::h.l) h.next).l i=some (some (bSeq l a')):=by simp only [qzb,if_true]
  have hB':qza (VH.mk ((i,some (bSeq l a'))::h.l) h.next).l bx=some (some (.cells [.int .i64 kind,x1,x2,x3,x4,x5,x6,x7,x8,x9,v] false)):=by simp only [qzb,e1,if_false];exact hB
  have hh':∀ k,k≠i→qza (VH.mk ((i,some (bSeq l a'))::h.l) h.next).l k=qza h.l k:=fun k q=>by simp only [qzb];rw [if_neg (Ne.symm q)]
  rotate_left
  have q1:((kind:Int) == 2)=false:=by simp;omega
  have ka:a'=a:=by rw [←hka];unfold kAt;rw [if_neg k2]
  have sb:false=b:=by rw [←hsb];unfold shutB';simp [k2]
  simp only [simprocAttr,-Int.reduceNatCast',go_sem,t0,t4,t6,t7,c1,hB,q1]
  rw [sb]
  have hs':=hs
  rw [←ka] at hs'
  have hB':=hB
  have hh':∀ k,k≠i→qza h.l k=qza h.l k:=fun k q=>rfl
  rotate_left
  all_goals
   refine call_shut1 (path_ok Gl l a' far b i hl (by omega) hf hb) hs' rfl ?_
   simp only [simprocAttr,-Int.reduceNatCast',go_sem,t0,t4,t6,t7,hB,e1,e2,e5,e6,x1']
   refine wpW_acc (base:=b1) (j:=j) (f:=cPath) (l:=acc) (a:=pathOf l a' far b) (ha.ext (by simp) (fun q1 q2 => ?_)) ?_ cPath_len (by omega) (by simp;omega) (by omega) (by omega) ?_
   ·simp only [qzb]
    (repeat rw [if_neg (by omega)])
   ·simp only [simprocAttr,-Int.reduceNatCast',go_sem]<;>first | rfl | exact ⟨rfl,rfl⟩ | exact qzc rfl
   ·intro h2 g1 g2 g3
    have old:∀ k,k < b1→k≠i→qza h2.l k=qza h.l k:=fun k hk hi=>by
     rw [g2 k (by simp;omega) (ha.ne (.inl hk))]
     simp only [qzb]
     (repeat rw [if_neg (by omega)])
    have o1:qza h2.l i=some (some (bSeq l (pathEnd l a'))):=by
     rw [g2 i (by simp;omega) (ha.ne (.inl hi1))]
     simp only [qzb]
     simp only [if_neg (show ¬h.next=i by omega),if_true]
    have o3:=(old bx (by omega) (by omega)).trans hB
    simp only at g1
    simp only [simprocAttr,-Int.reduceNatCast',go_sem,t6,t7,o3,w]
    refine ih (pathEnd l a') (acc++[pathOf l a' far b]) _ _ _ _ ?_ ?_ (by simp;omega) (by have:=pathEnd_le l a';omega) ?_ u0 u4 u6 ?_ (g3.ext (Nat.le_refl _) (fun q1 q2 => ?_)) ?_ ?_ ?_ ?_
    ·rw [hr,pathsS,List.append_assoc,hka,hsb];rfl
    ·rw [hae,pathsEnd,hka]
    ·intro k q
     simp only [qzb]
     (repeat rw [if_neg (by omega)])
     exact hT k q
    ·simp only [simprocAttr,-Int.reduceNatCast',go_sem]
    ·simp only [qzb];rw [if_neg (by omega)]
    ·simp only [qzb,e2,if_false];exact o1
    ·simp only [qzb,if_true]
    ·intro k q1 q2 q3
     simp only [qzb]
     rw [if_neg (by omega),old k q1 q2,hh k q1 q2 q3]
    ·show b1≤h2.next;omega
end
end Go.VL.Mk
