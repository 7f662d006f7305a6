/- 'glyphiclaw8.WordRows' answers true, whatever it is given. -/
import Derived.Test.YtpobcoodmhhpaaaDoorVlK
import Derived.Test.YtpobcoodmhhpaaaDoorWoR
import Derived.Test.YtpobcoodmhhpaaaDoorVlO
set_option linter.unusedSimpArgs false
set_option linter.unusedVariables false
namespace Go.VL.Wo
open Go.FR Go.IR Go.VL Go.VL.Er
noncomputable section
set_option maxRecDepth 100000
set_option maxHeartbeats 2000000
abbrev iV (l:List Int):VV := .fsl (l.map (VV.int .i64)) l.length 1
abbrev tT:List VV:=txtT.map VV.str
abbrev kT:List VV:=kdT.map fun (n:Nat)=>VV.int .i64 (n:Int)
def prK (x:Int):Nat:=((IntKind.i64.wrap (x.tmod 20+20)).tmod 20).toNat
def prG (x:Int):Nat:=((IntKind.i64.wrap (x.tmod 5+5)).tmod 5).toNat
theorem prK_ok (x:Int):prK x < 20∧(IntKind.i64.wrap (x.tmod 20+20)).tmod 20=(prK x:Int):=by
 obtain ⟨k,h1,h2⟩:=modn x 20 (by omega) (by omega)
 have h2:(IntKind.i64.wrap (x.tmod 20+20)).tmod 20=(k:Int):=h2
 unfold prK;rw [h2];omega
theorem prG_ok (x:Int):prG x < 5∧(IntKind.i64.wrap (x.tmod 5+5)).tmod 5=(prG x:Int):=by
 obtain ⟨k,h1,h2⟩:=modn x 5 (by omega) (by omega)
 have h2:(IntKind.i64.wrap (x.tmod 5+5)).tmod 5=(k:Int):=h2
 unfold prG;rw [h2];omega
def prs (l g:List Int):List (Nat × Nat):=List.zipWith (fun x y=>(prK x,prG y)) l g
theorem prs_ok (l g:List Int):RowOK (prs l g):=fun p hp=>by
 unfold prs at hp
 obtain ⟨i,hi,rfl⟩:=List.mem_iff_getElem.mp hp
 rw [List.getElem_zipWith]
 exact ⟨(prK_ok _).1,(prG_ok _).1⟩
theorem prs_len {l g:List Int} (h:l.length≤g.length):(prs l g).length=l.length:=by simp [prs];omega
theorem prs_at {l g:List Int} {i:Nat} {x y:Int} (hx:l[i]?=some x) (hy:g[i]?=some y):(prs l g)[i]?=some (prK x,prG y):=by
 unfold prs;rw [List.getElem?_zipWith,hx,hy]
attribute [local go_sem] erP atV cW cFault t_p_api_At t_p_errors_errorString
theorem row_loop (Gl:qzg) (l g:List Int) (hl:l.length≤30) (hg:l.length≤g.length) (hg2:g.length≤9223372036854775807) (K:AEx→VF→VH→Prop)
  (hK:∀ T h,qzc T 0=some (iV l)→qzc T 5=some (.bool true)→qzc T 6=some (.slice 0 0 20 1 (.exact 20))→qzc T 7=some (.slice 1 0 20 1 (.exact 20))→qzc T 8=some (.str (rowT (prs l g)))→qzc h.l 0=some (some (.cells tT false))→qzc h.l 1=some (some (.cells kT false))→K (.exit 0) T h) :
  ∀ (d i:Nat) (T:VF) (h:VH),d+i=l.length→qzc T 0=some (iV l)→qzc T 1=some (iV g)→qzc T 5=some (.bool true)→qzc T 6=some (.slice 0 0 20 1 (.exact 20))→qzc T 7=some (.slice 1 0 20 1 (.exact 20))→qzc T 8=some (.str (rowT ((prs l g).take i)))→qzc T 9=some (.int .i64 (i:Int))→qzc h.l 0=some (some (.cells tT false))→qzc h.l 1=some (some (.cells kT false))→2≤h.next →
   wp Go.VL.Er.E Gl (.loop c_glyphiclaw8_WordRows_l1) T h K:=by
 have pl:=prs_len hg
 intro d
 induction d with
 | zero =>
  intro i T h hd t0 t1 t5 t6 t7 t8 t9 b0 b1 hn
  obtain rfl:i=l.length:=by omega
  refine loop_u c_glyphiclaw8_WordRows_l1.eq_1 ?_
  simp only [simprocAttr,-Int.reduceNatCast',go_sem,t0,t9,Int.lt_irrefl]
  refine hK _ h ?_ ?_ ?_ ?_ ?_ b0 b1
  ·simp only [simprocAttr,-Int.reduceNatCast',go_sem,t0]
  ·simp only [simprocAttr,-Int.reduceNatCast',go_sem,t5]
  ·simp only [simprocAttr,-Int.reduceNatCast',go_sem,t6]
  ·simp only [simprocAttr,-Int.reduceNatCast',go_sem,t7]
  ·rw [List.take_of_length_le (by omega)] at t8
   simp only [simprocAttr,-Int.reduceNatCast',go_sem,t8]
 | succ d ih =>
  intro i T h hd t0 t1 t5 t6 t7 t8 t9 b0 b1 hn
  refine loop_u c_glyphiclaw8_WordRows_l1.eq_1 ?_
  have hlt:i < l.length:=by omega
  have hlt2:i < g.length:=by omega
  have c1:(i:Int) < (l.length:Int):=by omega
  obtain ⟨x,hx⟩:∃ x,l[i]?=some x:=⟨l[i],List.getElem?_eq_getElem hlt⟩
  obtain ⟨y,hy⟩:∃ y,g[i]?=some y:=⟨g[i],List.getElem?_eq_getElem hlt2⟩
  have px:(l.map (VV.int .i64))[i]?=some (.int .i64 x):=by rw [List.getElem?_map,hx];rfl
  have py:(g.map (VV.int .i64))[i]?=some (.int .i64 y):=by rw [List.getElem?_map,hy];rfl
  obtain ⟨x1,x2⟩:=prK_ok x
  obtain ⟨y1,y2⟩:=prG_ok y
  have pa:=prs_at hx hy
  have w:IntKind.i64.wrap ((i:Int)+1)=((i+1:Nat):Int):=by rw [wrap_i64 (by omega) (by omega)];rfl
  have z20:¬(20:Int)=0:=by omega
  have z5:¬(5:Int)=0:=by omega
  have ta:=txt_at (prK x) x1
  have ga:=gp_at (prG y) y1
  simp only [gpT,List.map_cons,List.map_nil] at ga
  have lr:=(rowT_len (l:=(prs l g).take i) (fun p hp=>prs_ok l g p (List.mem_of_mem_take hp))).2
  have lt:=(txt_len ⟨prK x,x1⟩).1
  have lg:=gp_len ⟨prG y,y1⟩
  simp only at lt lg
  rw [List.length_take] at lr
  have l1:(rowT ((prs l g).take i)).length+(txtT.getD (prK x) []).length≤9223372036854775807:=by omega
  have l2:(rowT ((prs l g).take i)++txtT.getD (prK x) []).length+(gpT.getD (prG y) []).length≤9223372036854775807:=by rw [List.length_append];omega
  have e8:rowT ((prs l g).take (i+1))=rowT ((prs l g).take i)++txtT.getD (prK x) []++gpT.getD (prG y) []:=by rw [take_at pa,rowT_snoc]
  have n0:¬h.next=0:=by omega
  have n1:¬h.next=1:=by omega
  simp only [show gpT.getD (prG y) []=([[32],[10],[9,13,32],[32,47,47,32,77,32,123,10],[47,47,10]]:List (List UInt8)).getD (prG y) [] from rfl] at l2 e8
  simp only [simprocAttr,-Int.reduceNatCast',go_sem,t0,t1,t5,t6,t7,t8,t9,c1,hlt,hlt2,natV_nat,Nat.mul_one,px,py,x2,y2,z20,z5,x1,y1,b0,b1,ta,ga,strBin,l1,l2,n0,n1,liveB,fzL]
  refine ih (i+1) _ _ (by omega) ?_ ?_ ?_ ?_ ?_ ?_ ?_ ?_ ?_ ?_
  ·simp only [simprocAttr,-Int.reduceNatCast',go_sem,t0]
  ·simp only [simprocAttr,-Int.reduceNatCast',go_sem,t1]
  ·simp only [simprocAttr,-Int.reduceNatCast',go_sem,t5]
  ·simp only [simprocAttr,-Int.reduceNatCast',go_sem,t6]
  ·simp only [simprocAttr,-Int.reduceNatCast',go_sem,t7]
  ·simp only [simprocAttr,-Int.reduceNatCast',go_sem,e8]
  ·simp only [simprocAttr,-Int.reduceNatCast',go_sem,t9,w]
  ·simp only [simprocAttr,-Int.reduceNatCast',go_sem,n0,b0]
  ·simp only [simprocAttr,-Int.reduceNatCast',go_sem,n1,b1]
  ·show 2≤h.next+1;omega
theorem chk_loop (Gl:qzg) (l g:List Int) (hl:l.length≤30) (hg:l.length≤g.length) (K:AEx→VF→VH→Prop)
  (hK:∀ T h,qzc T 5=some (.bool true)→K (.exit 2) T h) :
  ∀ (d i at_:Nat) (T:VF) (h:VH),d+i=l.length→at_≤(rowT ((prs l g).take i)).length→qzc T 0=some (iV l)→qzc T 5=some (.bool true)→qzc T 6=some (.slice 0 0 20 1 (.exact 20))→qzc T 7=some (.slice 1 0 20 1 (.exact 20))→qzc T 8=some (.str (rowT (prs l g)))→qzc T 10=some (.fsl (flatL cW (rowW (prs l g) 0)) l.length 3)→qzc T 12=some (.int .i64 (at_:Int))→qzc T 13=some (.int .i64 (i:Int))→qzc h.l 0=some (some (.cells tT false))→qzc h.l 1=some (some (.cells kT false)) →
   wp Go.VL.Er.E Gl (.loop c_glyphiclaw8_WordRows_l0) T h K:=by
 have pl:=prs_len hg
 intro d
 induction d with
 | zero =>
  intro i at_ T h hd ha t0 t5 t6 t7 t8 t10 t12 t13 b0 b1
  obtain rfl:i=l.length:=by omega
  refine loop_u c_glyphiclaw8_WordRows_l0.eq_1 ?_
  simp only [simprocAttr,-Int.reduceNatCast',go_sem,t10,t13,Int.lt_irrefl]
  refine hK _ h ?_
  simp only [simprocAttr,-Int.reduceNatCast',go_sem,t5]
 | succ d ih =>
  intro i at_ T h hd ha t0 t5 t6 t7 t8 t10 t12 t13 b0 b1
  refine loop_u c_glyphiclaw8_WordRows_l0.eq_1 ?_
  have hlt:i < l.length:=by omega
  have hlt2:i < g.length:=by omega
  have c1:(i:Int) < (l.length:Int):=by omega
  obtain ⟨x,hx⟩:∃ x,l[i]?=some x:=⟨l[i],List.getElem?_eq_getElem hlt⟩
  obtain ⟨y,hy⟩:∃ y,g[i]?=some y:=⟨g[i],List.getElem?_eq_getElem hlt2⟩
  have px:(l.map (VV.int .i64))[i]?=some (.int .i64 x):=by rw [List.getElem?_map,hx];rfl
  obtain ⟨x1,x2⟩:=prK_ok x
  have pa:=prs_at hx hy
  have w:IntKind.i64.wrap ((i:Int)+1)=((i+1:Nat):Int):=by rw [wrap_i64 (by omega) (by omega)];rfl
  have z20:¬(20:Int)=0:=by omega
  have ta:=txt_at (prK x) x1
  have ka:=kd_at (prK x) x1
  have wa:=rowW_at (prs l g) 0 i _ pa
  rw [Nat.zero_add] at wa
  obtain ⟨r,hr⟩:=rowT_drop (prs l g) i _ pa
  have lr:=(rowT_len (l:=(prs l g).take i) (fun p hp=>prs_ok l g p (List.mem_of_mem_take hp))).2
  rw [List.length_take] at lr
  have e8:=congrArg List.length (rowT_snoc ((prs l g).take i) (prK x,prG y))
  rw [←take_at pa] at e8
  have lt:=txt_len ⟨prK x,x1⟩
  simp only [List.length_append] at lt e8 hr
  have ll:=congrArg List.length hr
  simp only [List.length_drop,List.length_append] at ll
  have tt:((rowT (prs l g)).drop (rowT ((prs l g).take i)).length).take (txtT.getD (prK x) []).length=txtT.getD (prK x) []:=by rw [hr,List.take_left' rfl]
  have q0:=part_flat1 cW_len wa (q:=0) (by omega)
  have q1:=part_flat1 cW_len wa (q:=1) (by omega)
  have q2:=part_flat1 cW_len wa (q:=2) (by omega)
  simp only at q0 q1 q2
  obtain ⟨st,hst⟩:∃ st,(rowT ((prs l g).take i)).length=st:=⟨_,rfl⟩
  obtain ⟨tx,htx⟩:∃ tx,txtT.getD (prK x) []=tx:=⟨_,rfl⟩
  rw [hst] at ha q0 q1 q2 tt ll e8 lr
  rw [htx] at ta q0 q1 q2 tt ll e8 lt
  have w1:IntKind.i64.wrap ((st:Int)+(tx.length:Int))=((st+tx.length:Nat):Int):=by rw [wrap_i64 (by omega) (by omega)];omega
  have b2:st≤st+tx.length∧st+tx.length≤(rowT (prs l g)).length:=by omega
  have b3:st+tx.length - st=tx.length:=by omega
  have n1:¬(st:Int) < (at_:Int):=by omega
  have e1:(tx == tx)=true:=by simp
  simp only [partV,Nat.add_zero,List.getElem?_cons_zero,List.getElem?_cons_succ] at q0 q1 q2
  simp only [simprocAttr,-Int.reduceNatCast',go_sem,t0,t5,t6,t7,t8,t10,t12,t13,c1,hlt,natV_nat,natOf_n,Nat.mul_one,px,x2,z20,x1,b0,b1,ta,ka,strBin,q0,q1,q2,w,w1,b2,b3,n1,e1,tt,liveB,fzL]
  refine ih (i+1) (st+tx.length) _ h (by omega) (by omega) ?_ ?_ ?_ ?_ ?_ ?_ ?_ ?_ b0 b1
  ·simp only [simprocAttr,-Int.reduceNatCast',go_sem,t0]
  ·simp only [simprocAttr,-Int.reduceNatCast',go_sem,t5]
  ·simp only [simprocAttr,-Int.reduceNatCast',go_sem,t6]
  ·simp only [simprocAttr,-Int.reduceNatCast',go_sem,t7]
  ·simp only [simprocAttr,-Int.reduceNatCast',go_sem,t8]
  ·simp only [simprocAttr,-Int.reduceNatCast',go_sem,t10]
  ·simp only [simprocAttr,-Int.reduceNatCast',go_sem]
  ·simp only [simprocAttr,-Int.reduceNatCast',go_sem]
theorem wordRows (Gl:qzg) (hG:GlWo Gl) (hs:GlSp Gl) (l:List Int) (_:∀ z∈l,IntKind.i64.min≤z∧z≤IntKind.i64.max) (hl:l.length≤9223372036854775807) (g:List Int) (_:∀ z∈g,IntKind.i64.min≤z∧z≤IntKind.i64.max) (hg:g.length≤9223372036854775807) :
  CallsV Go.VL.Er.E Gl f_glyphiclaw8_WordRows [.fsl (l.map (VV.int .i64)) l.length 1,.fsl (g.map (VV.int .i64)) g.length 1] h0 (fun v _=>v = .bool true):=by
 refine qzd E_glyphiclaw8_WordRows ?_
 unfold c_glyphiclaw8_WordRows r_glyphiclaw8_WordRows
 simp only [qzh]
 simp only [simprocAttr,-Int.reduceNatCast',go_sem]
 refine qzb (first8_ok hG hs) rfl rfl ?_
 by_cases c1:(l.length:Int) > 30
 ·simp only [simprocAttr,-Int.reduceNatCast',go_sem,c1]<;>first | rfl | exact ⟨rfl,rfl⟩ | exact qza rfl
 by_cases c2:(g.length:Int) < (l.length:Int)
 ·simp only [simprocAttr,-Int.reduceNatCast',go_sem,c1,c2]<;>first | rfl | exact ⟨rfl,rfl⟩ | exact qza rfl
 have ok:=prs_ok l g
 have pl:=prs_len (l:=l) (g:=g) (by omega)
 have lr:=(rowT_len ok).2
 have sp:=split_ok hG hs (rowT (prs l g)) (by omega)
 rw [split_fine (by omega) (rowT_split ok)] at sp
 simp only [rowW_len,pl] at sp
 simp only [simprocAttr,-Int.reduceNatCast',go_sem,c1,c2]
 refine row_loop Gl l g (by omega) (by omega) hg _ ?_ l.length 0 _ _ (by omega) rfl rfl rfl rfl rfl rfl rfl rfl rfl (Nat.le_refl 2)
 intro T h t0 t5 t6 t7 t8 b0 b1
 have ln:((l.length:Int) != (l.length:Int))=false:=by simp
 simp only [simprocAttr,-Int.reduceNatCast',go_sem,t0,t5,t6,t7,t8]
 refine call_refs sp rfl rfl ?_
 simp only [ErrV.v]
 simp only [simprocAttr,-Int.reduceNatCast',go_sem,t0,t5,t6,t7,t8,ln]
 refine chk_loop Gl l g (by omega) (by omega) _ ?_ l.length 0 0 _ h (by omega) (Nat.zero_le _) ?_ ?_ ?_ ?_ ?_ ?_ ?_ ?_ b0 b1
 ·intro T h t5
  simp only [simprocAttr,-Int.reduceNatCast',go_sem,t5]<;>first | rfl | exact ⟨rfl,rfl⟩ | exact qza rfl
 ·simp only [simprocAttr,-Int.reduceNatCast',go_sem,t0]
 ·simp only [simprocAttr,-Int.reduceNatCast',go_sem,t5]
 ·simp only [simprocAttr,-Int.reduceNatCast',go_sem,t6]
 ·simp only [simprocAttr,-Int.reduceNatCast',go_sem,t7]
 ·simp only [simprocAttr,-Int.reduceNatCast',go_sem,t8]
 ·simp only [simprocAttr,-Int.reduceNatCast',go_sem]
 ·simp only [simprocAttr,-Int.reduceNatCast',go_sem];rfl
 ·simp only [simprocAttr,-Int.reduceNatCast',go_sem];rfl
end
end Go.VL.Wo
