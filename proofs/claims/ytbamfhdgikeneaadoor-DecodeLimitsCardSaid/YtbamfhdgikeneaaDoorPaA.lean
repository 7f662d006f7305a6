import Derived.Test.YtbamfhdgikeneaaDoorVlK
import Derived.Test.YtbamfhdgikeneaaDoorGeA
import Derived.Test.YtbamfhdgikeneaaDoorIcA
set_option linter.unusedSimpArgs false
set_option linter.unusedVariables false
namespace Go.VL.Pal
open Go.FR Go.IR Go.VL Go.VL.Color
noncomputable section
set_option maxRecDepth 100000
set_option maxHeartbeats 1000000
abbrev E:=lookE envL
theorem cCl_len (c:Cl):(cCl c).length=4:=rfl
def idxS:List Cl→Cl→Nat→Int
 | [],_,_=>-1
 | x::l,c,k=>if c=x then k else idxS l c (k+1)
attribute [local go_sem] cCl
theorem index_loop (Gl:qzj) (c:Cl) (l:List Cl) (hl:l.length < 1000000) (r:Int) (K:AEx→VF→VH→Prop)
  (hK0:∀ T h,r=-1→K (.exit 0) T h) (hK1:∀ T h,qza T 4=some (.int .i64 r)→K .ret T h) :
  ∀ (d i:Nat) (T:VF) (h:VH),d+i=l.length→idxS (l.drop i) c i=r→qza T 0=some (.fsl (qzg cCl l) l.length 4)→qza T 3=some (.ptr 0 0)→qza T 7=some (.int .i64 l.length)→qza T 8=some (.int .i64 i)→qza h.l 0=some (some (.cells (cCl c) false)) →
   wp E Gl (.loop c_slices_Index__api_Color_api_Color_l0) T h K:=by
 intro d
 induction d with
 | zero =>
  intro i T h hd hr t0 t3 t7 t8 h0'
  obtain rfl:i=l.length:=by omega
  refine qzi c_slices_Index__api_Color_api_Color_l0.eq_1 ?_
  simp only [simprocAttr,-Int.reduceNatCast',go_sem,t0,t3,t7,t8,Int.lt_irrefl]
  refine hK0 _ _ ?_
  rw [←hr,List.drop_length];rfl
 | succ d ih =>
  intro i T h hd hr t0 t3 t7 t8 h0'
  refine qzi c_slices_Index__api_Color_api_Color_l0.eq_1 ?_
  have hlt:i < l.length:=by omega
  have c1:(i:Int) < l.length:=by omega
  obtain ⟨x,hx⟩:∃ x,l[i]?=some x:=⟨l[i],List.getElem?_eq_getElem hlt⟩
  have p1:=qzr cCl_len hx
  have p2:=qzs cCl_len hx
  have w:IntKind.i64.wrap ((i:Int)+1)=((i+1:Nat):Int):=by rw [qzd (by omega) (by omega)];rfl
  rw [drop_at hx,idxS] at hr
  have b:∀ x y:Nat,((x:Int) == (y:Int))=decide (x=y):=fun x y=>by
   by_cases e:x=y<;>simp [e]<;>omega
  by_cases e:c=x
  ·rw [if_pos e] at hr
   subst e
   simp only [simprocAttr,-Int.reduceNatCast',go_sem,t0,t3,t7,t8,c1,hlt,p1,p2,h0']
   refine hK1 _ _ ?_
   simp only [simprocAttr,-Int.reduceNatCast',go_sem,hr]
  ·rw [if_neg e] at hr
   have ne:¬(c.r=x.r∧c.g=x.g∧c.b=x.b∧c.a=x.a):=fun h=>e (by cases c;cases x;simp at h;simp [h])
   by_cases e1:c.r=x.r<;>by_cases e2:c.g=x.g<;>by_cases e3:c.b=x.b<;>by_cases e4:c.a=x.a
   ·exact absurd ⟨e1,e2,e3,e4⟩ ne
   all_goals
    simp only [simprocAttr,-Int.reduceNatCast',go_sem,t0,t3,t7,t8,c1,hlt,p1,p2,h0',b,e1,e2,e3,e4,w]
    refine ih (i+1) _ _ (by omega) hr ?_ ?_ ?_ ?_ h0'
    ·simp only [simprocAttr,-Int.reduceNatCast',go_sem,t0]
    ·simp only [simprocAttr,-Int.reduceNatCast',go_sem,t3]
    ·simp only [simprocAttr,-Int.reduceNatCast',go_sem,t7]
    ·simp only [simprocAttr,-Int.reduceNatCast',go_sem]
theorem index_ok (Gl:qzj) (c:Cl) (l:List Cl) (hl:l.length < 1000000):qzn E Gl f_slices_Index__api_Color_api_Color [.fsl (qzg cCl l) l.length 4,.agg (cCl c)] (.int .i64 (idxS l c 0)):=by
 refine qzk (qze E_slices_Index__api_Color_api_Color ?_)
 unfold c_slices_Index__api_Color_api_Color r_slices_Index__api_Color_api_Color
 simp only [qzl]
 simp only [simprocAttr,-Int.reduceNatCast',go_sem]
 refine index_loop Gl c l hl (idxS l c 0) _ ?_ ?_ l.length 0 _ _ (by omega) rfl ?_ ?_ ?_ ?_ ?_
 ·intro T h e
  simp only [simprocAttr,-Int.reduceNatCast',go_sem,e]
  exact qzc rfl
 ·intro T h t4
  simp only [simprocAttr,-Int.reduceNatCast',go_sem,t4]
  exact qzc rfl
 all_goals simp only [simprocAttr,-Int.reduceNatCast',go_sem]
 rfl
theorem wpW_app0 {E:Env} {Gl:qzj} {h:VH} {K:VV→VH→Option (List Nat × Bool)→Prop} {esz eb n:Nat} {v x:VV} {cs:List VV} (hs:srcV h esz x=some (0,cs)) (hn:lenOfV v=some n) (hk:K v h (some (idsO (some v),true))):wpW E Gl (.append esz eb) [v,x] h K:=by
 rw [wpW_append]
 simp only [appendV,hs,hn,optW]
 exact hk
theorem acc_shut {α:Type} {base:Nat} {h:VH} {j:Nat} {f:α→List VV} {l:List α} {esz:Nat} {v:VV} (a:qzm base h j f l esz v) (hf:∀ a,(f a).length=esz) (hc:∀ a,closedL (f a)=true):∃ a0,shut h v=some a0∧subV a0 (.fsl (qzg f l) l.length esz):=by
 rcases a with ⟨rfl,rfl⟩ | ⟨rfl,a3,a4,a5⟩
 ·exact ⟨.nilS,rfl,.inr ⟨esz,rfl⟩⟩
 ·have hcl:=closedL_flat hc l
  obtain ⟨h1,h2⟩:=flat_all hf l
  refine ⟨.fsl (qzg f l) l.length esz,?_,subV_refl _⟩
  simp only [shut,get_def,a3,Option.getD_some,hcl,Nat.zero_add,h1,capOK,List.drop_zero,h2,and_self,if_true]
def Fr (h h':VH):Prop:=(∀ k,k < h.next→qza h'.l k=qza h.l k)∧h.next≤h'.next
def addL (l:List Cl) (c:Cl):List Cl:=if 0≤idxS l c 0 then l else if 256≤l.length then l else l++[c]
def addK (l:List Cl) (c:Cl):Int:=if 0≤idxS l c 0 then idxS l c 0 else if 256≤l.length then -1 else l.length
def addB (l:List Cl) (c:Cl):Bool:=if 0≤idxS l c 0 then true else if 256≤l.length then false else true
end
end Go.VL.Pal
namespace Go.VL.Ic
open Go.FR Go.IR Go.VL Go.VL.Er Go.VL.Color Go.VL.Wind
noncomputable section
set_option maxRecDepth 100000
set_option maxHeartbeats 1000000
theorem sum_drop {α:Type} {f:α→Int} {l:List α} {i:Nat} {x:α} (h:l[i]?=some x):sumS' f (l.drop i)=f x+sumS' f (l.drop (i+1)):=by rw [drop_at h];rfl
theorem sum_nn {α:Type} {f:α→Int}:∀ {l:List α},(∀ x∈l,0≤f x)→0≤sumS' f l
 | [],_=>Int.le_refl 0
 | x::l,h=>by
  have h1:=h x (.head _)
  have h2:=sum_nn (l:=l) fun y hy=>h y (.tail _ hy)
  simp only [sumS'];omega
theorem sum_le {α:Type} {f:α→Int} {c:Int}:∀ {l:List α},(∀ x∈l,f x≤c)→sumS' f l≤c*l.length
 | [],_=>by simp [sumS']
 | x::l,h=>by
  have h1:=h x (.head _)
  have h2:=sum_le (l:=l) fun y hy=>h y (.tail _ hy)
  simp only [sumS',List.length_cons,Int.natCast_add,Int.natCast_one,Int.mul_add];omega
attribute [local go_sem] cCl erP cSeg cPath cPaint cCmd cIcon t_p_api_At t_p_errors_errorString g_ErrRange g_ErrLimit g_ErrCanon
theorem points0 {Gl:qzj} (l:List Seg) (hl:l.length < 1000000) (hk:∀ s∈l,0≤s.kind) (r:Int) (hr:r≤2 ^ 62) (T0:VF) (K:AEx→VF→VH→Prop)
  (hK:∀ T h,qza T 3=some (.int .i64 r)→(∀ k,k < 27→k≠3→k≠9→qza T k=qza T0 k)→K (.exit 4) T h) :
  ∀ (d i:Nat) (n:Int) (T:VF) (h:VH),d+i=l.length→0≤n→n+sumS' (fun s=>s.kind) (l.drop i)=r→(∀ k,k < 27→k≠3→k≠9→qza T k=qza T0 k)→qza T 3=some (.int .i64 n)→qza T 27=some (.fsl (qzg cSeg l) l.length 7)→qza T 28=some (.int .i64 l.length)→qza T 29=some (.int .i64 i) →
  wp Go.VL.Er.E Gl (.loop c_icon_Points_l0) T h K:=by
 intro d
 induction d with
 | zero =>
  intro i n T h hd hn hs hT t3 t27 t28 t29
  obtain rfl:i=l.length:=by omega
  rw [List.drop_length,show sumS' (fun s:Seg=>s.kind) []=0 from rfl,Int.add_zero] at hs
  subst hs
  refine qzi c_icon_Points_l0.eq_1 ?_
  have c:¬((l.length:Int) < l.length):=by omega
  simp only [simprocAttr,-Int.reduceNatCast',go_sem,t28,t29,c]
  refine hK _ _ ?_ ?_
  ·simp only [simprocAttr,-Int.reduceNatCast',go_sem,t3]
  ·intro k h1 h2 h3
   simp only [qzb]
   (repeat rw [if_neg (by omega)])
   exact hT k h1 h2 h3
 | succ d ih =>
  intro i n T h hd hn hs hT t3 t27 t28 t29
  refine qzi c_icon_Points_l0.eq_1 ?_
  have hlt:i < l.length:=by omega
  have c:(i:Int) < l.length:=by omega
  obtain ⟨e,he⟩:∃ e,l[i]?=some e:=⟨l[i],List.getElem?_eq_getElem hlt⟩
  have hke:=hk e (List.mem_of_getElem? he)
  have p1:=qzr cSeg_len he
  have p2:=qzs cSeg_len he
  rw [sum_drop he] at hs
  have hnn:0≤sumS' (fun s=>s.kind) (l.drop (i+1)):=sum_nn fun y hy=>hk y (List.mem_of_mem_drop hy)
  have hw:IntKind.i64.wrap ((i:Int)+1)=((i+1:Nat):Int):=by rw [qzd (by omega) (by omega)];rfl
  have hw2:IntKind.i64.wrap (n+e.kind)=n+e.kind:=qzd (by omega) (by omega)
  simp only [simprocAttr,-Int.reduceNatCast',go_sem,t3,t27,t28,t29,c,hlt,p1,p2,hw,hw2]
  refine ih (i+1) (n+e.kind) _ _ (by omega) (by omega) (by omega) ?_ ?_ ?_ ?_ ?_
  ·intro k h1 h2 h3
   simp only [qzb]
   (repeat rw [if_neg (by omega)])
   exact hT k h1 h2 h3
  ·simp only [simprocAttr,-Int.reduceNatCast',go_sem]
  ·simp only [simprocAttr,-Int.reduceNatCast',go_sem,t27]
  ·simp only [simprocAttr,-Int.reduceNatCast',go_sem,t28]
  ·simp only [simprocAttr,-Int.reduceNatCast',go_sem]
def pathPts (p:Path):Int:=1+sumS' (fun s=>s.kind) p.segs
theorem points1 {Gl:qzj} (l:List Path) (hl:l.length < 1000000) (hk:∀ p∈l,p.segs.length < 1000000∧∀ s∈p.segs,0≤s.kind) (r:Int) (hr:r≤2 ^ 62) (T0:VF) (K:AEx→VF→VH→Prop)
  (hK:∀ T h,qza T 3=some (.int .i64 r)→(∀ k,k < 18→k≠3→k≠7→k≠9→qza T k=qza T0 k)→K (.exit 2) T h) :
  ∀ (d i:Nat) (n:Int) (T:VF) (h:VH),d+i=l.length→0≤n→n+sumS' pathPts (l.drop i)=r→(∀ k,k < 18→k≠3→k≠7→k≠9→qza T k=qza T0 k)→qza T 3=some (.int .i64 n)→qza T 18=some (.fsl (qzg cPath l) l.length 4)→qza T 19=some (.int .i64 l.length)→qza T 20=some (.int .i64 i) →
  wp Go.VL.Er.E Gl (.loop c_icon_Points_l1) T h K:=by
 intro d
 induction d with
 | zero =>
  intro i n T h hd hn hs hT t3 t18 t19 t20
  obtain rfl:i=l.length:=by omega
  rw [List.drop_length,show sumS' pathPts []=0 from rfl,Int.add_zero] at hs
  subst hs
  refine qzi c_icon_Points_l1.eq_1 ?_
  have c:¬((l.length:Int) < l.length):=by omega
  simp only [simprocAttr,-Int.reduceNatCast',go_sem,t19,t20,c]
  refine hK _ _ ?_ ?_
  ·simp only [simprocAttr,-Int.reduceNatCast',go_sem,t3]
  ·intro k h1 h2 h3 h4
   simp only [qzb]
   (repeat rw [if_neg (by omega)])
   exact hT k h1 h2 h3 h4
 | succ d ih =>
  intro i n T h hd hn hs hT t3 t18 t19 t20
  refine qzi c_icon_Points_l1.eq_1 ?_
  have hlt:i < l.length:=by omega
  have c:(i:Int) < l.length:=by omega
  obtain ⟨e,he⟩:∃ e,l[i]?=some e:=⟨l[i],List.getElem?_eq_getElem hlt⟩
  have hke:=hk e (List.mem_of_getElem? he)
  have p1:=qzr cPath_len he
  have p2:=qzs cPath_len he
  rw [sum_drop he] at hs
  have hpp:∀ p:Path,(∀ s∈p.segs,0≤s.kind)→0≤pathPts p:=fun p hp=>by
   have:=sum_nn (f:=fun s:Seg=>s.kind) (l:=p.segs) hp
   unfold pathPts;omega
  have hnn:0≤sumS' pathPts (l.drop (i+1)):=sum_nn fun y hy=>hpp y (hk y (List.mem_of_mem_drop hy)).2
  have hnn2:0≤sumS' (fun s=>s.kind) e.segs:=sum_nn hke.2
  have hw:IntKind.i64.wrap ((i:Int)+1)=((i+1:Nat):Int):=by rw [qzd (by omega) (by omega)];rfl
  have pe:pathPts e=1+sumS' (fun s=>s.kind) e.segs:=rfl
  have hw2:IntKind.i64.wrap (n+1)=n+1:=qzd (by omega) (by omega)
  simp only [simprocAttr,-Int.reduceNatCast',go_sem,t3,t18,t19,t20,c,hlt,p1,p2,hw,hw2]
  refine points0 e.segs hke.1 hke.2 (n+pathPts e) (by omega) _ _ ?_ e.segs.length 0 (n+1) _ _ (by omega) (by omega) (by simp only [List.drop_zero];omega) (fun _ _ _ _=>rfl) ?_ ?_ ?_ ?_
  ·intro T' h' t3' hT'
   simp only [simprocAttr,-Int.reduceNatCast',go_sem,t20,hw,(hT' 20 (by omega) (by omega) (by omega))]
   refine ih (i+1) (n+pathPts e) _ _ (by omega) (by have:=hpp e hke.2;omega) (by omega) ?_ ?_ ?_ ?_ ?_
   ·intro k h1 h2 h3 h4
    simp only [qzb]
    (repeat rw [if_neg (by omega)])
    rw [hT' k (by omega) h2 h4]
    simp only [qzb]
    (repeat rw [if_neg (by omega)])
    exact hT k h1 h2 h3 h4
   ·simp only [simprocAttr,-Int.reduceNatCast',go_sem,t3']
   ·simp only [simprocAttr,-Int.reduceNatCast',go_sem,hT' 18 (by omega) (by omega) (by omega),t18]
   ·simp only [simprocAttr,-Int.reduceNatCast',go_sem,hT' 19 (by omega) (by omega) (by omega),t19]
   ·simp only [simprocAttr,-Int.reduceNatCast',go_sem]
  all_goals simp only [simprocAttr,-Int.reduceNatCast',go_sem]
  all_goals rfl
theorem points_loop {Gl:qzj} (l:List Cmd) (hl:l.length < 1000000) (hk:∀ c∈l,c.paths.length < 1000000∧∀ p∈c.paths,p.segs.length < 1000000∧∀ s∈p.segs,0≤s.kind) (r:Int) (hr:r≤2 ^ 62) (K:AEx→VF→VH→Prop)
  (hK:∀ T h,qza T 3=some (.int .i64 r)→K (.exit 0) T h) :
  ∀ (d i:Nat) (n:Int) (T:VF) (h:VH),d+i=l.length→0≤n→n+sumS' (fun c=>sumS' pathPts c.paths) (l.drop i)=r→qza T 3=some (.int .i64 n)→qza T 11=some (.fsl (qzg cCmd l) l.length 11)→qza T 12=some (.int .i64 l.length)→qza T 13=some (.int .i64 i) →
  wp Go.VL.Er.E Gl (.loop c_icon_Points_l2) T h K:=by
 intro d
 induction d with
 | zero =>
  intro i n T h hd hn hs t3 t18 t19 t20
  obtain rfl:i=l.length:=by omega
  rw [List.drop_length,show sumS' (fun c:Cmd=>sumS' pathPts c.paths) []=0 from rfl,Int.add_zero] at hs
  subst hs
  refine qzi c_icon_Points_l2.eq_1 ?_
  have c:¬((l.length:Int) < l.length):=by omega
  simp only [simprocAttr,-Int.reduceNatCast',go_sem,t19,t20,c]
  refine hK _ _ ?_
  simp only [simprocAttr,-Int.reduceNatCast',go_sem,t3]
 | succ d ih =>
  intro i n T h hd hn hs t3 t11 t12 t13
  refine qzi c_icon_Points_l2.eq_1 ?_
  have hlt:i < l.length:=by omega
  have c:(i:Int) < l.length:=by omega
  obtain ⟨e,he⟩:∃ e,l[i]?=some e:=⟨l[i],List.getElem?_eq_getElem hlt⟩
  have hke:=hk e (List.mem_of_getElem? he)
  have p1:=qzr cCmd_len he
  have p2:=qzs cCmd_len he
  rw [sum_drop he] at hs
  have hpp:∀ p:Path,(∀ s∈p.segs,0≤s.kind)→0≤pathPts p:=fun p hp=>by
   have:=sum_nn (f:=fun s:Seg=>s.kind) (l:=p.segs) hp
   unfold pathPts;omega
  have hcc:∀ c∈l,0≤sumS' pathPts c.paths:=fun c hc=>sum_nn fun p hp=>hpp p ((hk c hc).2 p hp).2
  have hnn:0≤sumS' (fun c=>sumS' pathPts c.paths) (l.drop (i+1)):=sum_nn fun y hy=>hcc y (List.mem_of_mem_drop hy)
  have hnn2:=hcc e (List.mem_of_getElem? he)
  have hw:IntKind.i64.wrap ((i:Int)+1)=((i+1:Nat):Int):=by rw [qzd (by omega) (by omega)];rfl
  simp only [simprocAttr,-Int.reduceNatCast',go_sem,t3,t11,t12,t13,c,hlt,p1,p2,hw]
  refine points1 e.paths hke.1 hke.2 (n+sumS' pathPts e.paths) (by omega) _ _ ?_ e.paths.length 0 n _ _ (by omega) (by omega) (by simp only [List.drop_zero]) (fun _ _ _ _ _=>rfl) ?_ ?_ ?_ ?_
  ·intro T' h' t3' hT'
   simp only [simprocAttr,-Int.reduceNatCast',go_sem,t13,hw,(hT' 13 (by omega) (by omega) (by omega) (by omega))]
   refine ih (i+1) (n+sumS' pathPts e.paths) _ _ (by omega) (by omega) (by omega) ?_ ?_ ?_ ?_
   ·simp only [simprocAttr,-Int.reduceNatCast',go_sem,t3']
   ·simp only [simprocAttr,-Int.reduceNatCast',go_sem,hT' 11 (by omega) (by omega) (by omega) (by omega),t11]
   ·simp only [simprocAttr,-Int.reduceNatCast',go_sem,hT' 12 (by omega) (by omega) (by omega) (by omega),t12]
   ·simp only [simprocAttr,-Int.reduceNatCast',go_sem]
  ·simp only [simprocAttr,-Int.reduceNatCast',go_sem,t3]
  all_goals simp only [simprocAttr,-Int.reduceNatCast',go_sem]
  all_goals rfl
theorem points_ok (Gl:qzj) (i:Icon) (hl:i.cmds.length < 1000000) (hk:∀ c∈i.cmds,c.paths.length < 1000000∧∀ p∈c.paths,p.segs.length < 1000000∧∀ s∈p.segs,0≤s.kind) (hr:pointsS i≤2 ^ 62):qzn Go.VL.Er.E Gl f_icon_Points [.agg (cIcon i)] (.int .i64 (pointsS i)):=by
 refine qzk (qze E_icon_Points ?_)
 unfold c_icon_Points r_icon_Points
 simp only [qzl]
 simp only [simprocAttr,-Int.reduceNatCast',go_sem]
 refine points_loop i.cmds hl hk (pointsS i) hr _ ?_ i.cmds.length 0 0 _ _ (by omega) (by omega) (by simp only [List.drop_zero,Int.zero_add];rfl) ?_ ?_ ?_ ?_
 ·intro T h t3
  simp only [simprocAttr,-Int.reduceNatCast',go_sem,t3]
  exact qzc rfl
 all_goals simp only [simprocAttr,-Int.reduceNatCast',go_sem]
 all_goals rfl
end
end Go.VL.Ic
namespace Go.VL.Ic
open Go.FR Go.IR Go.VL Go.VL.Er Go.VL.Color Go.VL.Wind Go.VL.Pal
noncomputable section
set_option maxRecDepth 100000
set_option maxHeartbeats 1000000
theorem idx_mem (c:Cl):∀ (l:List Cl) (k:Nat),(0≤idxS l c k ↔ c∈l)
 | [],k=>by simp [idxS]
 | x::l,k=>by
  rw [idxS]
  by_cases e:c=x
  ·rw [if_pos e,e];simp
  ·rw [if_neg e,idx_mem c l (k+1)];simp [e]
attribute [local go_sem] cCl erP cSeg cPath cPaint cCmd cIcon t_p_api_At t_p_errors_errorString g_ErrRange g_ErrLimit g_ErrCanon
theorem contains_ok (Gl:qzj) (c:Cl) (l:List Cl) (hl:l.length < 1000000):qzn Go.VL.Er.E Gl f_slices_Contains__api_Color_api_Color [.fsl (qzg cCl l) l.length 4,.agg (cCl c)] (.bool (decide (c∈l))):=by
 refine qzk (qze E_slices_Contains__api_Color_api_Color ?_)
 unfold c_slices_Contains__api_Color_api_Color r_slices_Contains__api_Color_api_Color
 simp only [qzl]
 simp only [simprocAttr,-Int.reduceNatCast',go_sem]
 refine qzf (index_ok Gl c l hl) rfl rfl ?_
 have e:=idx_mem c l 0
 by_cases h:c∈l
 ·have g:idxS l c 0 ≥ 0:=e.mpr h
  simp only [simprocAttr,-Int.reduceNatCast',go_sem,h,g]
  exact qzc rfl
 ·have g:¬idxS l c 0 ≥ 0:=fun x=>h (e.mp x)
  simp only [simprocAttr,-Int.reduceNatCast',go_sem,h,g]
  exact qzc rfl
theorem next_mono:∀ (l:List Int) (n r:Int),nextUse n l=some r→n≤r∧r≤n+l.length
 | [],n,r,h=>by simp [nextUse] at h;simp;omega
 | k::l,n,r,h=>by
  rw [nextUse] at h
  by_cases g:k > n
  ·rw [if_pos g] at h;exact nomatch h
  ·rw [if_neg g] at h
   have:=next_mono l _ _ h
   simp only [List.length_cons]
   split at this<;>omega
theorem next_drop {l:List Int} {i:Nat} {k n:Int} (h:l[i]?=some k):nextUse n (l.drop i)=if k > n then none else nextUse (if k=n then n+1 else n) (l.drop (i+1)):=by rw [drop_at h];rfl
theorem use_loop {Gl:qzj} (l:List Int) (hl:l.length < 1000000) (T0:VF) (h:VH) (j:Nat) (cap:ACap) (cr:List VV) (hj:qza h.l j=some (some (.cells (l.map (VV.int .i64)++cr) false))) (o:Option Int) (K:AEx→VF→VH→Prop)
  (hE:∀ T,o=none→qza T 2=some (.bool false)→K .ret T h)
  (hK:∀ T r,o=some r→qza T 3=some (.int .i64 r)→(∀ k,k < 32→k≠2→k≠3→k≠8→qza T k=qza T0 k)→K (.exit 2) T h) :
  ∀ (d i:Nat) (n:Int) (T:VF),d+i=l.length→0≤n→n≤2 ^ 60+i→o=nextUse n (l.drop i)→(∀ k,k < 32→k≠2→k≠3→k≠8→qza T k=qza T0 k)→qza T 3=some (.int .i64 n)→qza T 32=some (.slice j 0 l.length 1 cap)→qza T 33=some (.int .i64 l.length)→qza T 34=some (.int .i64 i) →
  wp Go.VL.Er.E Gl (.loop c_icon_used_l1) T h K:=by
 intro d
 induction d with
 | zero =>
  intro i n T hd hn hn2 hs hT t3 t32 t33 t34
  obtain rfl:i=l.length:=by omega
  rw [List.drop_length] at hs
  refine qzi c_icon_used_l1.eq_1 ?_
  have c:¬((l.length:Int) < l.length):=by omega
  simp only [simprocAttr,-Int.reduceNatCast',go_sem,t33,t34,c]
  refine hK _ n hs ?_ ?_
  ·simp only [simprocAttr,-Int.reduceNatCast',go_sem,t3]
  ·intro k h1 h2 h3 h4
   simp only [qzb]
   (repeat rw [if_neg (by omega)])
   exact hT k h1 h2 h3 h4
 | succ d ih =>
  intro i n T hd hn hn2 hs hT t3 t32 t33 t34
  refine qzi c_icon_used_l1.eq_1 ?_
  have hlt:i < l.length:=by omega
  have c:(i:Int) < l.length:=by omega
  obtain ⟨e,he⟩:∃ e,l[i]?=some e:=⟨l[i],List.getElem?_eq_getElem hlt⟩
  have he':(l.map (VV.int .i64)++cr)[i]?=some (.int .i64 e):=by rw [List.getElem?_append_left (by simpa using hlt),List.getElem?_map,he];rfl
  have hw:IntKind.i64.wrap ((i:Int)+1)=((i+1:Nat):Int):=by rw [qzd (by omega) (by omega)];rfl
  have hw2:IntKind.i64.wrap (n+1)=n+1:=qzd (by omega) (by omega)
  rw [next_drop he] at hs
  by_cases g:e > n
  ·rw [if_pos g] at hs
   simp only [simprocAttr,-Int.reduceNatCast',go_sem,t3,t32,t33,t34,c,hlt,hj,he',Nat.mul_one,g]
   exact hE _ hs (by simp only [simprocAttr,-Int.reduceNatCast',go_sem])
  rw [if_neg g] at hs
  by_cases q:e=n
  ·have qb:(e == n)=true:=by simp [q]
   rw [if_pos q] at hs
   simp only [simprocAttr,-Int.reduceNatCast',go_sem,t3,t32,t33,t34,c,hlt,hj,he',Nat.mul_one,g,qb,hw,hw2]
   refine ih (i+1) (n+1) _ (by omega) (by omega) (by omega) hs ?_ ?_ ?_ ?_ ?_
   ·intro k h1 h2 h3 h4
    simp only [qzb]
    (repeat rw [if_neg (by omega)])
    exact hT k h1 h2 h3 h4
   ·simp only [simprocAttr,-Int.reduceNatCast',go_sem]
   ·simp only [simprocAttr,-Int.reduceNatCast',go_sem,t32]
   ·simp only [simprocAttr,-Int.reduceNatCast',go_sem,t33]
   ·simp only [simprocAttr,-Int.reduceNatCast',go_sem]
  ·have qb:(e == n)=false:=by simp [q]
   rw [if_neg q] at hs
   simp only [simprocAttr,-Int.reduceNatCast',go_sem,t3,t32,t33,t34,c,hlt,hj,he',Nat.mul_one,g,qb,hw]
   refine ih (i+1) n _ (by omega) (by omega) (by omega) hs ?_ ?_ ?_ ?_ ?_
   ·intro k h1 h2 h3 h4
    simp only [qzb]
    (repeat rw [if_neg (by omega)])
    exact hT k h1 h2 h3 h4
   ·simp only [simprocAttr,-Int.reduceNatCast',go_sem,t3]
   ·simp only [simprocAttr,-Int.reduceNatCast',go_sem,t32]
   ·simp only [simprocAttr,-Int.reduceNatCast',go_sem,t33]
   ·simp only [simprocAttr,-Int.reduceNatCast',go_sem]
theorem useAll_drop {l:List Cmd} {i:Nat} {c:Cmd} {n:Int} (h:l[i]?=some c):useAll n (l.drop i)=match nextUse n (usesOf c) with
  | none=>none
  | some m=>useAll m (l.drop (i+1)):=by rw [drop_at h];rfl
theorem uses_loop {Gl:qzj} (l:List Cmd) (hl:l.length < 1000000) (b:Nat) (bb:VB) (o:Option Int) (K:AEx→VF→VH→Prop)
  (hE:∀ T h,o=none→qza T 2=some (.bool false)→K .ret T h)
  (hK:∀ T h r,o=some r→qza T 3=some (.int .i64 r)→qza T 1=some (.ptr b 0)→qza h.l b=some (some bb)→b < h.next→K (.exit 0) T h) :
  ∀ (d i:Nat) (n:Int) (T:VF) (h:VH),d+i=l.length→0≤n→n≤2*i→o=useAll n (l.drop i)→qza T 1=some (.ptr b 0)→qza T 3=some (.int .i64 n)→qza T 12=some (.fsl (qzg cCmd l) l.length 11)→qza T 13=some (.int .i64 l.length)→qza T 14=some (.int .i64 i)→qza h.l b=some (some bb)→b < h.next →
  wp Go.VL.Er.E Gl (.loop c_icon_used_l2) T h K:=by
 intro d
 induction d with
 | zero =>
  intro i n T h hd hn hn2 hs t1 t3 t12 t13 t14 hb hx
  obtain rfl:i=l.length:=by omega
  rw [List.drop_length] at hs
  refine qzi c_icon_used_l2.eq_1 ?_
  have c:¬((l.length:Int) < l.length):=by omega
  simp only [simprocAttr,-Int.reduceNatCast',go_sem,t13,t14,c]
  refine hK _ _ n hs ?_ ?_ hb hx
  ·simp only [simprocAttr,-Int.reduceNatCast',go_sem,t3]
  ·simp only [simprocAttr,-Int.reduceNatCast',go_sem,t1]
 | succ d ih =>
  intro i n T h hd hn hn2 hs t1 t3 t12 t13 t14 hb hx
  refine qzi c_icon_used_l2.eq_1 ?_
  have hlt:i < l.length:=by omega
  have c:(i:Int) < l.length:=by omega
  obtain ⟨e,he⟩:∃ e,l[i]?=some e:=⟨l[i],List.getElem?_eq_getElem hlt⟩
  have p1:=qzr cCmd_len he
  have p2:=qzs cCmd_len he
  have hw:IntKind.i64.wrap ((i:Int)+1)=((i+1:Nat):Int):=by rw [qzd (by omega) (by omega)];rfl
  rw [useAll_drop he] at hs
  have e0:¬h.next=b:=by omega
  have e1:¬h.next+1=b:=by omega
  have e2:¬h.next+1+1=b:=by omega
  have e3:¬h.next+1+1+1=b:=by omega
  have e5:¬h.next+1=h.next:=by omega
  have e6:¬h.next+1+1=h.next+1:=by omega
  have e7:¬h.next+1+1=h.next:=by omega
  have e8:¬h.next+1+1+1=h.next+1+1:=by omega
  have e9:¬h.next+1+1+1=h.next+1:=by omega
  have e10:¬h.next+1+1+1=h.next:=by omega
  by_cases k0:e.paint.kind=0
  ·have q0:(e.paint.kind == 0)=true:=by simp [k0]
   have q0':(e.paint.kind != 0)=false:=by simp [k0]
   have us:usesOf e=[e.paint.a]:=by unfold usesOf;rw [if_pos k0]
   rw [us] at hs
   simp only [simprocAttr,-Int.reduceNatCast',go_sem,wpW_append,appendV,appToV,t1,t3,t12,t13,t14,c,hlt,p1,p2,hb,q0,q0',e0,e1,e5]
   refine use_loop [e.paint.a] (by simp) _ _ (h.next+1) (.exact 1) [] (by simp only [simprocAttr,-Int.reduceNatCast',go_sem];rfl) (nextUse n [e.paint.a]) _ ?_ ?_ 1 0 n _ rfl hn (by omega) rfl (fun _ _ _ _ _=>rfl) ?_ ?_ ?_ ?_
   ·intro T' he' t2
    rw [he'] at hs
    simp only [simprocAttr,-Int.reduceNatCast',go_sem]
    exact hE _ _ hs (by simp only [simprocAttr,-Int.reduceNatCast',go_sem,t2])
   ·intro T' r he' t3' hT'
    rw [he'] at hs
    have hr:=next_mono _ _ _ he'
    simp only [List.length_cons,List.length_nil] at hr
    simp only [simprocAttr,-Int.reduceNatCast',go_sem,hT' 14 (by omega) (by omega) (by omega) (by omega),t14,hw]
    refine ih (i+1) r _ _ (by omega) (by omega) (by omega) hs ?_ ?_ ?_ ?_ ?_ ?_ ?_
    ·simp only [simprocAttr,-Int.reduceNatCast',go_sem,hT' 1 (by omega) (by omega) (by omega) (by omega),t1]
    ·simp only [simprocAttr,-Int.reduceNatCast',go_sem,t3']
    ·simp only [simprocAttr,-Int.reduceNatCast',go_sem,hT' 12 (by omega) (by omega) (by omega) (by omega),t12]
    ·simp only [simprocAttr,-Int.reduceNatCast',go_sem,hT' 13 (by omega) (by omega) (by omega) (by omega),t13]
    ·simp only [simprocAttr,-Int.reduceNatCast',go_sem]
    ·simp only [simprocAttr,-Int.reduceNatCast',go_sem,e0,e1,hb]
    ·simp only [simprocAttr,-Int.reduceNatCast',go_sem];omega
   all_goals first | (simp only [simprocAttr,-Int.reduceNatCast',go_sem,t3];done) | (simp only [simprocAttr,-Int.reduceNatCast',go_sem,t3];rfl)
  ·have q0:(e.paint.kind == 0)=false:=by simp [k0]
   have q0':(e.paint.kind != 0)=true:=by simp [k0]
   have us:usesOf e=[e.paint.a,e.paint.b]:=by unfold usesOf;rw [if_neg k0]
   rw [us] at hs
   simp only [simprocAttr,-Int.reduceNatCast',go_sem,wpW_append,appendV,appToV,t1,t3,t12,t13,t14,c,hlt,p1,p2,hb,q0,q0',e0,e1,e2,e3,e5,e6,e7,e8,e9,e10]
   refine use_loop [e.paint.a,e.paint.b] (by simp) _ _ (h.next+1+1+1) (.toEnd 1) [] (by simp only [simprocAttr,-Int.reduceNatCast',go_sem];rfl) (nextUse n [e.paint.a,e.paint.b]) _ ?_ ?_ 2 0 n _ rfl hn (by omega) rfl (fun _ _ _ _ _=>rfl) ?_ ?_ ?_ ?_
   ·intro T' he' t2
    rw [he'] at hs
    simp only [simprocAttr,-Int.reduceNatCast',go_sem]
    exact hE _ _ hs (by simp only [simprocAttr,-Int.reduceNatCast',go_sem,t2])
   ·intro T' r he' t3' hT'
    rw [he'] at hs
    have hr:=next_mono _ _ _ he'
    simp only [List.length_cons,List.length_nil] at hr
    simp only [simprocAttr,-Int.reduceNatCast',go_sem,hT' 14 (by omega) (by omega) (by omega) (by omega),t14,hw]
    refine ih (i+1) r _ _ (by omega) (by omega) (by omega) hs ?_ ?_ ?_ ?_ ?_ ?_ ?_
    ·simp only [simprocAttr,-Int.reduceNatCast',go_sem,hT' 1 (by omega) (by omega) (by omega) (by omega),t1]
    ·simp only [simprocAttr,-Int.reduceNatCast',go_sem,t3']
    ·simp only [simprocAttr,-Int.reduceNatCast',go_sem,hT' 12 (by omega) (by omega) (by omega) (by omega),t12]
    ·simp only [simprocAttr,-Int.reduceNatCast',go_sem,hT' 13 (by omega) (by omega) (by omega) (by omega),t13]
    ·simp only [simprocAttr,-Int.reduceNatCast',go_sem]
    ·simp only [simprocAttr,-Int.reduceNatCast',go_sem,e0,e1,e2,e3,hb]
    ·simp only [simprocAttr,-Int.reduceNatCast',go_sem];omega
   all_goals first | (simp only [simprocAttr,-Int.reduceNatCast',go_sem,t3];done) | (simp only [simprocAttr,-Int.reduceNatCast',go_sem,t3];rfl)
theorem once_drop {l seen:List Cl} {i:Nat} {c:Cl} (h:l[i]?=some c):onceS seen (l.drop i)=if c∈seen then false else onceS (seen++[c]) (l.drop (i+1)):=by rw [drop_at h];rfl
theorem once_loop {Gl:qzj} (i0:Icon) (hl:i0.colors.length < 1000000) (b:Nat) (r:Int) (K:AEx→VF→VH→Prop)
  (hE:∀ T h,onceS [] i0.colors=false→qza T 2=some (.bool false)→K .ret T h)
  (hK:∀ T h,onceS [] i0.colors=true→qza T 3=some (.int .i64 r)→qza T 1=some (.ptr b 0)→qza h.l b=some (some (.cells (cIcon i0) false))→K (.exit 4) T h) :
  ∀ (d i:Nat) (T:VF) (h:VH),d+i=i0.colors.length→onceS [] i0.colors=onceS (i0.colors.take i) (i0.colors.drop i)→qza T 1=some (.ptr b 0)→qza T 3=some (.int .i64 r)→qza T 49=some (.fsl (qzg cCl i0.colors) i0.colors.length 4)→qza T 50=some (.int .i64 i0.colors.length)→qza T 51=some (.int .i64 i)→qza h.l b=some (some (.cells (cIcon i0) false))→b < h.next →
  wp Go.VL.Er.E Gl (.loop c_icon_used_l0) T h K:=by
 intro d
 induction d with
 | zero =>
  intro i T h hd hs t1 t3 t49 t50 t51 hb hx
  obtain rfl:i=i0.colors.length:=by omega
  rw [List.drop_length] at hs
  refine qzi c_icon_used_l0.eq_1 ?_
  have c:¬((i0.colors.length:Int) < i0.colors.length):=by omega
  simp only [simprocAttr,-Int.reduceNatCast',go_sem,t50,t51,c]
  refine hK _ _ hs ?_ ?_ hb
  ·simp only [simprocAttr,-Int.reduceNatCast',go_sem,t3]
  ·simp only [simprocAttr,-Int.reduceNatCast',go_sem,t1]
 | succ d ih =>
  intro i T h hd hs t1 t3 t49 t50 t51 hb hx
  refine qzi c_icon_used_l0.eq_1 ?_
  have hlt:i < i0.colors.length:=by omega
  have c:(i:Int) < i0.colors.length:=by omega
  obtain ⟨e,he⟩:∃ e,i0.colors[i]?=some e:=⟨i0.colors[i],List.getElem?_eq_getElem hlt⟩
  have p1:=qzr cCl_len he
  have p2:=qzs cCl_len he
  have p3:=flatL_take cCl_len i i0.colors
  have hi:i≤i0.colors.length:=by omega
  have ln:(i0.colors.take i).length=i:=by rw [List.length_take];omega
  have hw:IntKind.i64.wrap ((i:Int)+1)=((i+1:Nat):Int):=by rw [qzd (by omega) (by omega)];rfl
  have e0:¬h.next=b:=by omega
  have hco:=contains_ok Gl e (i0.colors.take i) (by omega)
  rw [ln] at hco
  rw [once_drop he,←take_at he] at hs
  have zi:=natV_nat .i64 i
  simp only [simprocAttr,-Int.reduceNatCast',go_sem,t1,t49,t50,t51,c,hlt,p1,p2,hb,e0,zi,hi,Nat.sub_zero,Nat.zero_mul,p3]
  refine qzf hco rfl rfl ?_
  by_cases g:e∈i0.colors.take i
  ·have dg:decide (e∈i0.colors.take i)=true:=decide_eq_true g
   rw [if_pos g] at hs
   simp only [simprocAttr,-Int.reduceNatCast',go_sem,dg]
   exact hE _ _ hs (by simp only [simprocAttr,-Int.reduceNatCast',go_sem])
  ·have dg:decide (e∈i0.colors.take i)=false:=decide_eq_false g
   rw [if_neg g] at hs
   simp only [simprocAttr,-Int.reduceNatCast',go_sem,dg,t51,hw]
   refine ih (i+1) _ _ (by omega) hs ?_ ?_ ?_ ?_ ?_ ?_ ?_
   ·simp only [simprocAttr,-Int.reduceNatCast',go_sem,t1]
   ·simp only [simprocAttr,-Int.reduceNatCast',go_sem,t3]
   ·simp only [simprocAttr,-Int.reduceNatCast',go_sem,t49]
   ·simp only [simprocAttr,-Int.reduceNatCast',go_sem,t50]
   ·simp only [simprocAttr,-Int.reduceNatCast',go_sem]
   ·simp only [simprocAttr,-Int.reduceNatCast',go_sem,e0,hb]
   ·simp only [simprocAttr,-Int.reduceNatCast',go_sem];omega
theorem used_ok (Gl:qzj) (i:Icon) (hl:i.colors.length < 1000000) (hc:i.cmds.length < 1000000):qzn Go.VL.Er.E Gl f_icon_used [.agg (cIcon i)] (.bool (usedS i)):=by
 refine qzk (qze E_icon_used ?_)
 unfold c_icon_used r_icon_used
 simp only [qzl]
 have hu:usedS i=match useAll 0 i.cmds with
  | none=>false
  | some n=>if onceS [] i.colors then decide (n=i.colors.length) else false:=rfl
 simp only [simprocAttr,-Int.reduceNatCast',go_sem]
 refine uses_loop i.cmds hc 0 (.cells (cIcon i) false) (useAll 0 i.cmds) _ ?_ ?_ i.cmds.length 0 0 _ _ (by omega) (by omega) (by omega) rfl ?_ ?_ ?_ ?_ ?_ ?_ ?_
 ·intro T h he t2
  rw [hu,he]
  simp only [simprocAttr,-Int.reduceNatCast',go_sem,t2]
  exact qzc rfl
 ·intro T h r he t3 t1 hb hx
  rw [he] at hu
  simp only at hu
  simp only [simprocAttr,-Int.reduceNatCast',go_sem,t1,hb]
  refine once_loop i hl 0 r _ ?_ ?_ i.colors.length 0 _ _ (by omega) rfl ?_ ?_ ?_ ?_ ?_ ?_ ?_
  ·intro T' h' ho t2
   rw [hu,ho]
   simp only [simprocAttr,-Int.reduceNatCast',go_sem,t2]
   exact qzc rfl
  ·intro T' h' ho t3' t1' hb'
   rw [hu,ho]
   simp only [simprocAttr,-Int.reduceNatCast',go_sem,t3',t1',hb']
   exact qzc rfl
  ·simp only [simprocAttr,-Int.reduceNatCast',go_sem,t1]
  ·simp only [simprocAttr,-Int.reduceNatCast',go_sem,t3]
  all_goals first | (simp only [simprocAttr,-Int.reduceNatCast',go_sem];done) | (simp only [simprocAttr,-Int.reduceNatCast',go_sem];rfl) | exact hb | exact hx
 all_goals first | (simp only [simprocAttr,-Int.reduceNatCast',go_sem];done) | (simp only [simprocAttr,-Int.reduceNatCast',go_sem];rfl) | (simp only [simprocAttr,-Int.reduceNatCast',go_sem];exact Nat.zero_lt_succ _)
end
end Go.VL.Ic
