import Derived.Test.YtbamfhdgikeneaaDoorEnD
import Derived.Test.YtbamfhdgikeneaaDoorIcE
import Derived.Test.YtbamfhdgikeneaaDoorVlJ
import Derived.Test.YtbamfhdgikeneaaDoorWrA
set_option linter.unusedSimpArgs false
set_option linter.unusedVariables false
namespace Go.VL.En
open Go.FR Go.IR Go.VL Go.VL.Color Go.VL.Wind Go.VL.Ic
noncomputable section
def expR (A:List Run):List Int:=A.flatMap fun r=>List.replicate r.2 r.1
theorem exp_snoc (A:List Run) (r:Run):expR (A++[r])=expR A++List.replicate r.2 r.1:=by simp [expR]
theorem exp_push (A:List Run) (k:Int):expR (pushR A k)=expR A++[k]:=by
 rcases List.eq_nil_or_concat A with rfl | ⟨B,⟨k',n⟩,rfl⟩
 ·rfl
 ·rw [List.concat_eq_append,pushR_snoc]
  split
  ·rename_i e;subst e
   rw [exp_snoc,exp_snoc];simp only;rw [List.replicate_succ',List.append_assoc]
  ·rw [exp_snoc (B++[(k',n)])];rfl
theorem exp_fold:∀ (l:List Seg) (A:List Run),expR (l.foldl (fun A s=>pushR A s.kind) A)=expR A++l.map (·.kind)
 | [],A=>by simp
 | s::l,A=>by rw [List.foldl_cons,exp_fold l,exp_push,List.map_cons,List.append_assoc];rfl
theorem exp_runs (l:List Seg):expR (runsS l)=l.map (·.kind):=exp_fold l []
theorem exp_len (A:List Run):(expR A).length=countR A:=by
 induction A with
 | nil=>rfl
 | cons r A ih=>simp only [expR,countR,List.flatMap_cons,List.length_append,List.length_replicate,List.map_cons,List.sum_cons] at ih ⊢;rw [ih]
def GoodR (A:List Run):Prop:=(∀ r∈A,1≤r.2)∧∀ i r r',A[i]?=some r→A[i+1]?=some r'→r.1≠r'.1
theorem good_snoc {A:List Run} {r r':Run} (h:GoodR (A++[r])) (h1:1≤r'.2):(r.1≠r'.1→GoodR (A++[r]++[r']))∧(r.1=r'.1→GoodR (A++[r'])):=by
 refine ⟨fun ne=>⟨fun x hx => ?_,fun i x y hx hy => ?_⟩,fun e=>⟨fun x hx => ?_,fun i x y hx hy => ?_⟩⟩
 ·rcases List.mem_append.mp hx with hx | hx
  ·exact h.1 x hx
  ·rw [List.mem_singleton.mp hx];exact h1
 ·by_cases c:i+1 < (A++[r]).length
  ·rw [List.getElem?_append_left (by omega)] at hx
   rw [List.getElem?_append_left c] at hy
   exact h.2 i x y hx hy
  ·have ly:i+1 < (A++[r]++[r']).length:=by
    rcases Nat.lt_or_ge (i+1) (A++[r]++[r']).length with q | q
    ·exact q
    ·rw [List.getElem?_eq_none q] at hy;exact nomatch hy
   have ei:i=A.length:=by simp at c ly;omega
   subst ei
   have e1:(A++[r]++[r'])[A.length]?=some r:=by simp
   have e2:(A++[r]++[r'])[A.length+1]?=some r':=by
    rw [List.getElem?_append_right (by simp)];simp
   rw [e1] at hx;rw [e2] at hy
   obtain rfl:=Option.some.inj hx
   obtain rfl:=Option.some.inj hy
   exact ne
 ·rcases List.mem_append.mp hx with hx | hx
  ·exact h.1 x (List.mem_append.mpr (.inl hx))
  ·rw [List.mem_singleton.mp hx];exact h1
 ·by_cases c:i+1 < A.length
  ·rw [List.getElem?_append_left (by omega)] at hx
   rw [List.getElem?_append_left c] at hy
   exact h.2 i x y (by rw [List.getElem?_append_left (by omega)];exact hx) (by rw [List.getElem?_append_left c];exact hy)
  ·have ly:i+1 < (A++[r']).length:=by
    rcases Nat.lt_or_ge (i+1) (A++[r']).length with q | q
    ·exact q
    ·rw [List.getElem?_eq_none q] at hy;exact nomatch hy
   have ei:i+1=A.length:=by simp at ly;omega
   have e2:(A++[r'])[i+1]?=some r':=by rw [ei];simp
   rw [e2] at hy
   obtain rfl:=Option.some.inj hy
   rw [List.getElem?_append_left (by omega)] at hx
   have:=h.2 i x r (by rw [List.getElem?_append_left (by omega)];exact hx) (by rw [ei];simp)
   rw [←e];exact this
theorem good_push {A:List Run} (h:GoodR A) (k:Int):GoodR (pushR A k):=by
 rcases List.eq_nil_or_concat A with rfl | ⟨B,⟨k',n⟩,rfl⟩
 ·rw [pushR_nil]
  exact ⟨fun r hr=>by rw [List.mem_singleton.mp hr];exact Nat.le_refl _,fun i r r' h1 h2=>by simp at h2⟩
 ·rw [List.concat_eq_append] at h ⊢
  rw [pushR_snoc]
  split
  ·rename_i e;exact (good_snoc h (r':=(k',n+1)) (Nat.le_add_left 1 n)).2 rfl
  ·rename_i e;exact (good_snoc h (r':=(k,1)) (Nat.le_refl _)).1 e
theorem good_fold:∀ (l:List Seg) (A:List Run),GoodR A→GoodR (l.foldl (fun A s=>pushR A s.kind) A)
 | [],A,h=>h
 | s::l,A,h=>good_fold l _ (good_push h s.kind)
theorem good_runs (l:List Seg):GoodR (runsS l):=good_fold l [] ⟨(fun r hr=>by cases hr),(fun i r r' h1 h2=>by simp at h1)⟩
theorem exp_take (R:List Run) {i:Nat} {r:Run} (h:R[i]?=some r):expR (R.take (i+1))=expR (R.take i)++List.replicate r.2 r.1:=by rw [qzu h,exp_snoc]
theorem count_take (R:List Run) {i:Nat} {r:Run} (h:R[i]?=some r):countR (R.take (i+1))=countR (R.take i)+r.2:=by rw [qzu h,countR_snoc]
theorem count_le (R:List Run) (i:Nat):countR (R.take i)≤countR R:=by
 have:countR R=countR (R.take i)+countR (R.drop i):=by
  conv=>lhs;rw [←List.take_append_drop i R]
  unfold countR;rw [List.map_append,List.sum_append]
 omega
theorem kind_run (l:List Seg) {i k:Nat} {r:Run} (h:(runsS l)[i]?=some r) (hk:k < r.2):∃ s,l[countR ((runsS l).take i)+k]?=some s∧s.kind=r.1:=by
 have e:l.map (·.kind)=expR ((runsS l).take i)++(List.replicate r.2 r.1++expR ((runsS l).drop (i+1))):=by
  rw [←exp_runs l,←List.append_assoc,←exp_take _ h]
  unfold expR;rw [←List.flatMap_append,List.take_append_drop]
 have g:(l.map (·.kind))[countR ((runsS l).take i)+k]?=some r.1:=by
  rw [e,List.getElem?_append_right (by rw [exp_len];omega),exp_len,Nat.add_sub_cancel_left,List.getElem?_append_left (by simpa using hk)]
  simp [List.getElem?_replicate,hk]
 rw [List.getElem?_map] at g
 cases q:l[countR ((runsS l).take i)+k]? with
 | none=>rw [q] at g;exact nomatch g
 | some s=>rw [q] at g;exact ⟨s,rfl,Option.some.inj g⟩
theorem runs_len_le (l:List Seg):(runsS l).length≤l.length:=by
 have:∀ (m:List Seg) (A:List Run),(m.foldl (fun A s=>pushR A s.kind) A).length≤A.length+m.length:=fun m=>by
  induction m with
  | nil=>intro A;simp
  | cons s m ih=>intro A;have:=ih (pushR A s.kind);have:=pushR_len A s.kind;simp only [List.foldl_cons,List.length_cons];omega
 have:=this l []
 simp only [List.length_nil,Nat.zero_add] at this
 exact this
theorem run_mem (l:List Seg) {r:Run} (hr:r∈runsS l):r.2≤l.length∧∃ s∈l,s.kind=r.1:=by
 obtain ⟨i,h⟩:=List.mem_iff_getElem?.mp hr
 have c:=count_take _ h
 have c2:=count_le (runsS l) (i+1)
 have c3:countR (runsS l)=l.length:=by rw [←exp_len,exp_runs,List.length_map]
 refine ⟨by omega,?_⟩
 obtain ⟨s,hs,hk⟩:=kind_run l h (k:=0) (by have:=(good_runs l).1 r hr;omega)
 exact ⟨s,List.mem_of_getElem? hs,hk⟩
end
end Go.VL.En
namespace Go.VL.En
open Go.FR Go.IR Go.VL Go.VL.Color Go.VL.Wind Go.VL.Ic Go.VL.Wire
noncomputable section
theorem inS_true {n lo hi:Int}:inS n lo hi=true ↔ lo≤n∧n≤hi:=by
 unfold inS;split
 ·simp;omega
 ·simp;omega
theorem inS_false {n lo hi:Int}:inS n lo hi=false ↔ ¬(lo≤n∧n≤hi):=by
 rw [←inS_true];simp
def NearM (m:Int) (p:Pt):Prop:=(-m≤p.x∧p.x≤m)∧-m≤p.y∧p.y≤m
theorem far_false {p:Pt} {m:Int} (h:farS p m=false):NearM m p:=by
 unfold farS at h
 simp only [Bool.or_eq_false_iff,Bool.not_eq_false',inS_true] at h
 exact h
theorem NearM.b {m:Int} {p:Pt} (h:NearM m p) (hm:m≤1048576):NearB p:=by
 obtain ⟨⟨a,b⟩,c,d⟩:=h
 exact ⟨⟨by omega,by omega⟩,by omega,by omega⟩
def SegR (s:Seg):Prop:=SegOk s∧∀ p∈(segPts s).drop s.kind.toNat,zeroP p
theorem seg_r {s:Seg} {m:Int} (hm:m≤1048576) (h:segS s m=none):SegR s:=by
 have k:=segS_none h
 unfold segS at h
 split at h
 ·exact nomatch h
 split at h
 ·exact nomatch h
 rename_i h2
 split at h
 ·exact nomatch h
 rename_i h3
 refine ⟨⟨k.1,k.2,fun p hp => ?_⟩,fun p hp => ?_⟩
 ·rw [Bool.not_eq_true,List.any_eq_false] at h2
  have:=h2 p hp
  exact (far_false (by simpa using this)).b hm
 ·rw [Bool.not_eq_false,List.all_eq_true] at h3
  simpa using h3 p hp
structure PathR (p:Path):Prop where
 l:p.segs.length≤400
 n:p.segs≠[]
 s:NearB p.start
 r:∀ s∈p.segs,SegR s
theorem path_r {p:Path} {b:Bool} {m:Int} (hm:m≤1048576) (h:pathS p b m=none):PathR p:=by
 obtain ⟨a1,a2,a3,_,a5⟩:=pathS_none h
 exact ⟨a1,a2,(far_false a3).b hm,fun s hs=>seg_r hm (a5 s hs)⟩
structure PaintR (p:Paint):Prop where
 k:0≤p.kind∧p.kind≤2
 a:0≤p.a∧p.a < 256
 b:0≤p.b∧p.b < 256
 np:NearB p.p
 nq:NearB p.q
 z0:p.kind=0→p.b=0∧zeroP p.p∧zeroP p.q
 z2:p.kind=2→0 < p.q.x∧p.q.y=0
theorem zero_near {p:Pt} (h:zeroP p):NearB p:=by
 obtain ⟨a,b⟩:=h
 exact ⟨⟨by omega,by omega⟩,by omega,by omega⟩
theorem paint_r {p:Paint} {n m:Int} (hn:n≤256) (hm:m≤1048576) (h:paintS p n m=none):PaintR p:=by
 unfold paintS at h
 split at h
 ·exact nomatch h
 rename_i h1
 simp only [inS_false,not_or,Decidable.not_not,not_and] at h1
 obtain ⟨k,a,b⟩:=h1
 split at h
 ·rename_i k0
  split at h
  ·exact nomatch h
  rename_i h2
  simp only [not_or,Decidable.not_not,ne_eq] at h2
  obtain ⟨b0,z1,z2⟩:=h2
  exact ⟨⟨by omega,by omega⟩,⟨by omega,by omega⟩,⟨by omega,by omega⟩,zero_near z1,zero_near z2,fun _=>⟨b0,z1,z2⟩,fun e=>by omega⟩
 ·rename_i k0
  have b':=b k0
  split at h
  ·exact nomatch h
  rename_i f
  have fp:=(far_false (p:=p.p) (by simpa using f)).b hm
  split at h
  ·rename_i k1
   split at h
   ·exact nomatch h
   rename_i f2
   simp only [not_or,Bool.not_eq_true] at f2
   exact ⟨⟨by omega,by omega⟩,⟨by omega,by omega⟩,⟨by omega,by omega⟩,fp,(far_false f2.1).b hm,fun e=>by omega,fun e=>by omega⟩
  ·rename_i k1
   split at h
   ·exact nomatch h
   rename_i f2
   rw [Bool.not_eq_false,inS_true] at f2
   split at h
   ·exact nomatch h
   rename_i f3
   simp only [ne_eq,Decidable.not_not] at f3
   exact ⟨⟨by omega,by omega⟩,⟨by omega,by omega⟩,⟨by omega,by omega⟩,fp,⟨⟨by omega,by omega⟩,by omega,by omega⟩,fun e=>by omega,fun _=>⟨by omega,f3⟩⟩
structure CmdR (c:Cmd):Prop where
 k:c.kind=1∧0≤c.rule∧c.rule≤1∧c.width=0∨c.kind=2∧c.rule=0∧1≤c.width∧c.width≤1048576
 p:PaintR c.paint
 n:c.paths≠[]
 l:c.paths.length≤200
 r:∀ p∈c.paths,PathR p
 o:c.kind=1→∀ p∈c.paths,p.closed=false
theorem cmd_r {c:Cmd} {n m:Int} (hn:n≤256) (hm:m≤1048576) (h:cmdS c n m=none):CmdR c:=by
 obtain ⟨a1,a2,a3,a4,a5⟩:=cmdS_none h
 refine ⟨?_,paint_r hn hm a2,a3,a4,fun p hp=>path_r hm (a5 p hp),fun e p hp => ?_⟩
 ·unfold headS at a1
  split at a1
  ·rename_i q
   simp only [inS_true] at q
   exact .inl ⟨q.1,q.2.1.1,q.2.1.2,q.2.2⟩
  ·split at a1
   ·rename_i q
    simp only [inS_true] at q
    exact .inr ⟨q.1,q.2.1,q.2.2.1,by omega⟩
   ·exact nomatch a1
 ·have:=(pathS_none (a5 p hp)).2.2.2.1
  rw [decide_eq_true e] at this
  simpa using this
structure IconR (i:Icon):Prop where
 w:1≤i.w∧i.w≤4096
 h:1≤i.h∧i.h≤4096
 s:0≤i.scale∧i.scale≤6
 cs:i.colors.length≤256
 cl:i.cmds.length≤200
 r:∀ c∈i.cmds,CmdR c
 p:pointsS i≤4000
theorem icon_r {i:Icon} (h:checkS i=none):IconR i:=by
 unfold checkS at h
 split at h
 ·exact nomatch h
 rename_i sz
 obtain ⟨b1,b2,b3,b4,b5,b6⟩:=sized_bnd (by simpa using sz)
 split at h
 ·exact nomatch h
 rename_i le
 split at h
 ·exact nomatch h
 rename_i e
 split at h
 ·exact nomatch h
 rename_i pt
 have g:=great_bnd i
 exact ⟨⟨b1,b2⟩,⟨b3,b4⟩,⟨b5,b6⟩,by omega,by omega,fun c hc=>cmd_r (by omega) (by omega) (firstS_none.mp e c hc),by omega⟩
def pathB (p:Path):List Nat:=putS (2*(runsS p.segs).length+(if p.closed then 1 else 0))++(pointB p.start++runsB p.start (runsS p.segs) p.segs)
def paintB (p:Paint):List Nat:=putS p.a.toNat++(if p.kind=0 then [] else putS p.b.toNat++(pointB p.p++(if p.kind=1 then pointB p.q else putS p.q.x.toNat)))
def cmdB (c:Cmd):List Nat:=putS (c.kind - 1+2*c.rule+4*c.paint.kind).toNat++((if c.kind=2 then putS c.width.toNat else [])++(paintB c.paint++(putS c.paths.length++c.paths.flatMap pathB)))
theorem point_le20 {p:Pt} (h:NearB p):(pointB p).length≤20:=by
 have:=point_le p h ⟨0,0⟩ ⟨⟨by simp,by simp⟩,by simp,by simp⟩
 unfold subPt at this;simpa using this
theorem path_runs {p:Path} (h:PathR p):∀ r∈runsS p.segs,r.2 < 1000000∧1≤r.1∧r.1≤3:=fun r hr=>by
 obtain ⟨a,s,hs,e⟩:=run_mem p.segs hr
 have k:=(h.r s hs).1
 have:=h.l
 exact ⟨by omega,by have:=k.1;omega,by have:=k.2.1;omega⟩
theorem path_len0 {p:Path} (h:PathR p):(pathB p).length≤30+70*p.segs.length:=by
 have h1:=runs_le (runsS p.segs) p.start p.segs (fun r hr=>⟨(path_runs h r hr).1,(path_runs h r hr).2.2⟩) h.s (fun s hs=>(h.r s hs).1)
 have h2:=runs_len_le p.segs
 have h3:=point_le20 h.s
 have hl:=h.l
 have h4:=putS_10 (n:=2*(runsS p.segs).length+(if p.closed then 1 else 0)) (by split<;>omega)
 unfold pathB
 rw [List.length_append,List.length_append];omega
theorem kind_sum:∀ (l:List Seg),(∀ s∈l,SegR s)→(l.length:Int)≤sumS' (fun s=>s.kind) l
 | [],_=>by simp [sumS']
 | s::l,h=>by
  have h1:=(h s (.head _)).1.1
  have h2:=kind_sum l fun t ht=>h t (.tail _ ht)
  simp only [sumS',List.length_cons];omega
abbrev ptsP (p:Path):Int:=1+sumS' (fun s=>s.kind) p.segs
theorem path_len {p:Path} (h:PathR p):((pathB p).length:Int)≤70*ptsP p:=by
 have h1:=path_len0 h
 have h2:=kind_sum p.segs h.r
 unfold ptsP;omega
theorem fm_sum {α:Type} {g:α→List Nat} {f:α→Int} (c:Int):∀ {l:List α},(∀ x∈l,((g x).length:Int)≤c+70*f x)→((l.flatMap g).length:Int)≤c*l.length+70*sumS' f l
 | [],_=>by simp [sumS']
 | x::l,h=>by
  have h1:=h x (.head _)
  have h2:=fm_sum (l:=l) c fun y hy=>h y (.tail _ hy)
  simp only [sumS',List.flatMap_cons,List.length_append,List.length_cons,Int.natCast_add,Int.natCast_one,Int.mul_add];omega
theorem paint_len {p:Paint} (h:PaintR p):(paintB p).length≤60:=by
 have h1:=putS_10 (n:=p.a.toNat) (by have:=h.a;omega)
 have h2:=putS_10 (n:=p.b.toNat) (by have:=h.b;omega)
 have h3:=point_le20 h.np
 have h4:=point_le20 h.nq
 have h5:=putS_10 (n:=p.q.x.toNat) (by have:=h.nq.1;omega)
 unfold paintB
 split
 ·simp;omega
 ·split<;>simp only [List.length_append]<;>omega
theorem cmd_len {c:Cmd} (h:CmdR c):((cmdB c).length:Int)≤100+70*sumS' ptsP c.paths:=by
 have h1:=putS_10 (n:=(c.kind - 1+2*c.rule+4*c.paint.kind).toNat) (by have:=h.k;have:=h.p.k;omega)
 have h2:=putS_10 (n:=c.width.toNat) (by have:=h.k;omega)
 have h3:=paint_len h.p
 have h4:=putS_10 (n:=c.paths.length) (by have:=h.l;omega)
 have h5:=fm_sum (g:=pathB) (f:=ptsP) 0 (l:=c.paths) fun p hp=>by have:=path_len (h.r p hp);omega
 unfold cmdB
 split<;>simp only [List.length_append,List.length_nil]<;>omega
theorem cmds_len {i:Icon} (h:IconR i):(i.cmds.flatMap cmdB).length≤300000:=by
 have h5:=fm_sum (g:=cmdB) (f:=fun c=>sumS' ptsP c.paths) 100 (l:=i.cmds) fun c hc=>cmd_len (h.r c hc)
 have h6:sumS' (fun c:Cmd=>sumS' ptsP c.paths) i.cmds=pointsS i:=rfl
 have:=h.cl
 have:=h.p
 omega
end
end Go.VL.En
namespace Go.VL.Dc
open Go.FR Go.IR Go.VL Go.VL.Er Go.VL.Color Go.VL.Wind Go.VL.Ic Go.VL.Wire
noncomputable section
set_option maxRecDepth 100000
set_option maxHeartbeats 1000000
def isN:ErrV→Bool
 | .none=>true
 | _=>false
structure Rd where
 pos:Int
 err:ErrV
 most:Int
 used:Int
 pts:Int
structure IcV where
 w:VV
 h:VV
 s:VV
 vc:VV
 vm:VV
def rC (bs:List Nat) (R:Rd) (ev:VV) (I:IcV):List VV:=[.fsl (qzf cB bs) bs.length 1,.int .i64 R.pos,ev,.int .i64 R.most,.int .i64 R.used,.int .i64 R.pts,I.w,I.h,I.s,I.vc,I.vm]
def ErrOK (i:Nat) (h:VH) (e:ErrV) (ev:VV):Prop:=ev=e.v∧(∀ k,e ≠ .bare k)∨∃ k pos j,e = .placed k pos∧ev = .iface t_p_api_At (.ptr j 0)∧qza h.l j=some (some (.cells [.int .i64 pos,erP k] false))∧j < h.next∧j≠i
def RAt (bs:List Nat) (i:Nat) (R:Rd) (I:IcV) (h:VH):Prop:=i < h.next∧∃ ev,qza h.l i=some (some (.cells (rC bs R ev I) false))∧ErrOK i h R.err ev
def Fm (i:Nat) (h h':VH):Prop:=h.next≤h'.next∧∀ k,k < h.next→k≠i→qza h'.l k=qza h.l k
theorem Fm.refl {i:Nat} {h:VH}:Fm i h h:=⟨Nat.le_refl _,fun _ _ _=>rfl⟩
theorem Fm.trans {i:Nat} {h h1 h2:VH} (a:Fm i h h1) (b:Fm i h1 h2):Fm i h h2:=⟨Nat.le_trans a.1 b.1,fun k k1 k2=>by rw [b.2 k (Nat.lt_of_lt_of_le k1 a.1) k2,a.2 k k1 k2]⟩
theorem ErrOK.keep {i:Nat} {h h':VH} {e:ErrV} {ev:VV} (s:ErrOK i h e ev) (f:Fm i h h'):ErrOK i h' e ev:=by
 rcases s with s | ⟨k,pos,j,a1,a2,a3,a4,a5⟩
 ·exact .inl s
 ·exact .inr ⟨k,pos,j,a1,a2,by rw [f.2 j a4 a5];exact a3,Nat.lt_of_lt_of_le a4 f.1,a5⟩
theorem ErrOK.none {i:Nat} {h:VH}:ErrOK i h .none .nilI := .inl ⟨rfl,fun _ e=>nomatch e⟩
theorem ErrOK.eq {i:Nat} {h:VH} {e:ErrV} {ev:VV} (s:ErrOK i h e ev) (Gl:qzj) (d:List Nat):eqIV Gl d true ev .nilI=some (isN e):=by
 rcases s with ⟨rfl,hb⟩ | ⟨k,pos,j,rfl,rfl,_⟩
 ·cases e with
  | none=>rfl
  | bare k=>exact absurd rfl (hb k)
  | placed k p=>rfl
 ·rfl
theorem ErrOK.er0 {i:Nat} {h:VH} {e:ErrV} {ev:VV} (s:ErrOK i h e ev) (Gl:qzj):eqRV Gl false (.iface [t_p_api_At,t_p_errors_errorString] true) [ev,.nilI]=some (.bool (isN e)):=by
 simp only [eqRV,aeqV,s.eq];rfl
theorem ErrOK.er1 {i:Nat} {h:VH} {e:ErrV} {ev:VV} (s:ErrOK i h e ev) (Gl:qzj):eqRV Gl true (.iface [t_p_api_At,t_p_errors_errorString] true) [ev,.nilI]=some (.bool (!isN e)):=by
 simp only [eqRV,aeqV,s.eq];rfl
theorem ErrOK.bare {i:Nat} {h:VH} {e:ErrV} {ev:VV} (s:ErrOK i h e ev):∀ k,e ≠ .bare k:=by
 rcases s with ⟨_,hb⟩ | ⟨k,pos,j,rfl,_⟩
 ·exact hb
 ·exact fun k e=>nomatch e
def failS (R:Rd) (pos:Int) (k:Nat):Rd:=if isN R.err then ⟨R.pos,.placed k pos,R.most,R.used,R.pts⟩ else R
def numS (bs:List Nat) (R:Rd):Nat × Rd:=if isN R.err then ((getS bs R.pos).n,⟨if isN (getS bs R.pos).e then (getS bs R.pos).k else R.pos,(getS bs R.pos).e,R.most,R.used,R.pts⟩) else (0,R)
theorem RAt.move {bs:List Nat} {i:Nat} {R:Rd} {I:IcV} {h h':VH} (s:RAt bs i R I h) (hn:h.next≤h'.next) (hf:∀ k,k < h.next→qza h'.l k=qza h.l k):RAt bs i R I h':=by
 obtain ⟨a,ev,b,c⟩:=s
 exact ⟨by omega,ev,by rw [hf i a];exact b,c.keep ⟨hn,fun k k1 _=>hf k k1⟩⟩
theorem ErrOK.put {i:Nat} {h:VH} {e:ErrV} {ev:VV} (s:ErrOK i h e ev) {b:Nat} {cs:List VV} {ro:Bool} {x:Option VB} (hc:qza h.l b=some (some (.cells cs ro))) (hne:∀ pos k,cs≠[.int .i64 pos,erP k]):ErrOK i ⟨(b,x)::h.l,h.next⟩ e ev:=by
 rcases s with e | ⟨k,pos,j,a1,a2,a3,a4,a5⟩
 ·exact .inl e
 ·refine .inr ⟨k,pos,j,a1,a2,?_,a4,a5⟩
  simp only [qzb]
  by_cases q:b=j
  ·subst q
   rw [a3] at hc
   simp only [Option.some.injEq,VB.cells.injEq] at hc
   exact absurd hc.1.symm (hne pos k)
  ·rw [if_neg q];exact a3
theorem RAt.put {bs:List Nat} {i:Nat} {R:Rd} {I:IcV} {h:VH} (s:RAt bs i R I h) {b:Nat} {cs:List VV} {ro:Bool} {x:Option VB} (hb:b≠i) (hc:qza h.l b=some (some (.cells cs ro))) (hne:∀ pos k,cs≠[.int .i64 pos,erP k]):RAt bs i R I ⟨(b,x)::h.l,h.next⟩:=by
 obtain ⟨a,ev,c,e⟩:=s
 exact ⟨a,ev,by simp only [qzb];rw [if_neg hb];exact c,e.put hc hne⟩
attribute [local go_sem] cB cPt cCl
theorem fails_run {Gl:qzj} {bs:List Nat} {i:Nat} {R:Rd} {I:IcV} {h:VH} (st:RAt bs i R I h) (pos:Int) (k:Nat) :
  qzv Go.VL.Er.E Gl f_decode_reader_fails [.ptr i 0,.int .i64 pos,erP k] h (fun _ h'=>RAt bs i (failS R pos k) I h'∧Fm i h h'):=by
 obtain ⟨hn,ev,hi,he⟩:=st
 have e0:=he.er0 Gl
 have e1:=he.er1 Gl
 have hi':=hi
 unfold rC at hi
 refine qzd E_decode_reader_fails ?_
 unfold c_decode_reader_fails r_decode_reader_fails
 simp only [qzl]
 have y:¬h.next=i:=by omega
 cases c:isN R.err
 ·rw [c] at e0 e1
  simp only [simprocAttr,-Int.reduceNatCast',go_sem,hi,↓e0,↓e1]
  have e:failS R pos k=R:=by unfold failS;rw [c];rfl
  rw [e]
  exact ⟨⟨hn,ev,hi',he⟩,Fm.refl⟩
 ·rw [c] at e0 e1
  simp only [simprocAttr,-Int.reduceNatCast',go_sem,hi,↓e0,↓e1,y]
  have e:failS R pos k=⟨R.pos,.placed k pos,R.most,R.used,R.pts⟩:=by unfold failS;rw [c];rfl
  rw [e]
  refine ⟨⟨by show i < h.next+1;omega,.iface t_p_api_At (.ptr h.next 0),by simp only [qzb,if_true];rfl,.inr ⟨k,pos,h.next,rfl,rfl,by simp only [qzb];rw [if_neg (by omega),if_pos trivial],by show h.next < h.next+1;omega,by omega⟩⟩,by show h.next≤h.next+1;omega,fun k k1 k2 => ?_⟩
  simp only [qzb]
  rw [if_neg (by omega),if_neg (by omega)]
theorem getS_e (bs:List Nat) (a:Int):(getS bs a).e = .none∨(getS bs a).n=0∧((getS bs a).e = .placed 6 a∨(getS bs a).e = .placed 8 a):=by
 unfold getS
 split
 ·exact .inr ⟨rfl,.inl rfl⟩
 ·split
  ·exact .inr ⟨rfl,.inl rfl⟩
  ·exact .inr ⟨rfl,.inr rfl⟩
  ·exact .inl rfl
theorem getS_n {bs:List Nat} (hb:∀ x∈bs,x < 256) (a:Int):(getS bs a).n < 18446744073709551616:=by
 unfold getS
 split
 ·simp
 ·split
  ·simp
  ·simp
  ·rename_i e
   obtain ⟨m,e1,e2,_⟩:=got_put _ 0 0 _ _ (by omega) (by omega) (fun x hx=>hb x (List.mem_of_mem_drop hx)) e
   exact e2
theorem numS_n {bs:List Nat} (hb:∀ x∈bs,x < 256) (R:Rd):(numS bs R).1 < 18446744073709551616:=by
 unfold numS
 split
 ·exact getS_n hb R.pos
 ·simp
theorem num_run {Gl:qzj} (hG:GlAll Gl) {bs:List Nat} (hl:bs.length < 100000) (hb:∀ x∈bs,x < 256) {i:Nat} {R:Rd} {I:IcV} {h:VH} (st:RAt bs i R I h) :
  qzv Go.VL.Er.E Gl f_decode_reader_num [.ptr i 0] h (fun v h'=>v = .tuple [.int .u64 ((numS bs R).1:Int),.int .i64 R.pos]∧RAt bs i (numS bs R).2 I h'∧Fm i h h'):=by
 obtain ⟨hn,ev,hi,he⟩:=st
 have e0:=he.er0 Gl
 have e1:=he.er1 Gl
 have hi':=hi
 unfold rC at hi
 refine qzd E_decode_reader_num ?_
 unfold c_decode_reader_num r_decode_reader_num
 simp only [qzl]
 have z0:((0:Nat):Int)=0:=rfl
 cases c:isN R.err
 ·rw [c] at e0 e1
  simp only [simprocAttr,-Int.reduceNatCast',go_sem,hi,↓e0,↓e1]
  have e:numS bs R=(0,R):=by unfold numS;rw [c];rfl
  rw [e]
  first | exact ⟨rfl,⟨hn,ev,hi',he⟩,Fm.refl⟩ | exact ⟨⟨hn,ev,hi',he⟩,Fm.refl⟩
 ·rw [c] at e0 e1
  simp only [simprocAttr,-Int.reduceNatCast',go_sem,hi,↓e0,↓e1]
  have gk:=get_ok hG bs hl hb R.pos
  have e:numS bs R=((getS bs R.pos).n,⟨if isN (getS bs R.pos).e then (getS bs R.pos).k else R.pos,(getS bs R.pos).e,R.most,R.used,R.pts⟩):=by unfold numS;rw [c];rfl
  have ge:=getS_e bs R.pos
  rw [e]
  generalize getS bs R.pos=g at *
  obtain ⟨n,k,er⟩:=g
  simp only at ge ⊢
  rcases ge with rfl | ⟨rfl,rfl | rfl⟩
  ·refine qzg gk rfl rfl ?_
   unfold GotS.v
   simp only [simprocAttr,-Int.reduceNatCast',go_sem,hi,ErrV.v]
   refine ⟨⟨hn,ev,by simp only [qzb,if_true];rfl,?_⟩,Nat.le_refl _,fun k k1 k2=>by simp only [qzb];rw [if_neg (by omega)]⟩
   have ev0:ev = .nilI:=by
    rcases he with ⟨rfl,_⟩ | ⟨k,pos,j,e,_⟩
    ·cases hr:R.err with
     | none=>rfl
     | bare k=>rw [hr] at c;exact nomatch c
     | placed k p=>rw [hr] at c;exact nomatch c
    ·rw [e] at c;exact nomatch c
   rw [ev0];exact ErrOK.none
  ·refine call_refs gk rfl rfl ?_
   unfold GotS.v
   simp only [simprocAttr,-Int.reduceNatCast',go_sem,hi,ErrV.v]
   exact ⟨rfl,⟨hn,_,by simp only [qzb,if_true];rfl,.inl ⟨rfl,fun _ e=>nomatch e⟩⟩,Nat.le_refl _,fun k k1 k2=>by simp only [qzb];rw [if_neg (by omega)]⟩
  ·refine call_refs gk rfl rfl ?_
   unfold GotS.v
   simp only [simprocAttr,-Int.reduceNatCast',go_sem,hi,ErrV.v]
   exact ⟨rfl,⟨hn,_,by simp only [qzb,if_true];rfl,.inl ⟨rfl,fun _ e=>nomatch e⟩⟩,Nat.le_refl _,fun k k1 k2=>by simp only [qzb];rw [if_neg (by omega)]⟩
def rangedS (bs:List Nat) (R:Rd) (lo hi:Int):Int × Rd:=if hi < (numS bs R).1∨((numS bs R).1:Int) < lo then (0,failS (numS bs R).2 R.pos 4) else ((numS bs R).1,(numS bs R).2)
theorem ranged_run {Gl:qzj} (hG:GlAll Gl) {bs:List Nat} (hl:bs.length < 100000) (hb:∀ x∈bs,x < 256) {i:Nat} {R:Rd} {I:IcV} {h:VH} (st:RAt bs i R I h) (lo hi:Int) (h0:0≤hi) (h1:hi < 4611686018427387904) :
  qzv Go.VL.Er.E Gl f_decode_reader_ranged [.ptr i 0,.int .i64 lo,.int .i64 hi] h (fun v h'=>v = .int .i64 (rangedS bs R lo hi).1∧RAt bs i (rangedS bs R lo hi).2 I h'∧Fm i h h'):=by
 refine qzd E_decode_reader_ranged ?_
 unfold c_decode_reader_ranged r_decode_reader_ranged
 simp only [qzl]
 simp only [simprocAttr,-Int.reduceNatCast',go_sem]
 refine qzh (num_run hG hl hb st) ?_
 intro v h2 ⟨ev,st2,fm2⟩
 subst ev
 have nn:=numS_n hb R
 have g4:qza Gl 8=some [erP 4]:=(hG 4 (by omega)).1
 have w1:IntKind.u64.wrap hi=hi:=by rw [Go.VL.Wire.wrap_u64];omega
 unfold rangedS
 generalize numS bs R=q at *
 obtain ⟨n,R2⟩:=q
 simp only at st2 nn ⊢
 by_cases c1:(n:Int) > hi
 ·simp only [simprocAttr,-Int.reduceNatCast',go_sem,w1,c1,g_ErrRange,g4]
  refine qzh (fails_run st2 R.pos 4) ?_
  intro v h3 ⟨st3,fm3⟩
  simp only [simprocAttr,-Int.reduceNatCast',go_sem]
  first | exact ⟨rfl,st3,fm2.trans fm3⟩ | exact ⟨st3,fm2.trans fm3⟩
 ·have w2:IntKind.i64.wrap (n:Int)=n:=qze (by omega) (by omega)
  by_cases c2:(n:Int) < lo
  ·simp only [simprocAttr,-Int.reduceNatCast',go_sem,w1,w2,c1,c2,g_ErrRange,g4]
   refine qzh (fails_run st2 R.pos 4) ?_
   intro v h3 ⟨st3,fm3⟩
   simp only [simprocAttr,-Int.reduceNatCast',go_sem]
   first | exact ⟨rfl,st3,fm2.trans fm3⟩ | exact ⟨st3,fm2.trans fm3⟩
  ·simp only [simprocAttr,-Int.reduceNatCast',go_sem,w1,w2,c1,c2]
   try rw [if_neg (by omega)]
   first | exact ⟨rfl,st2,fm2⟩ | exact ⟨st2,fm2⟩
def manyR (bs:List Nat) (R:Rd) (lo most:Int):Rd:=if ((numS bs R).1:Int) < lo then failS (numS bs R).2 R.pos 4 else if most < (numS bs R).1 then failS (numS bs R).2 R.pos 5 else (numS bs R).2
def manyS (bs:List Nat) (R:Rd) (lo most:Int):Int:=if isN (manyR bs R lo most).err then ((numS bs R).1:Int) else 0
theorem fail_err (R:Rd) (p:Int) (k:Nat):isN (failS R p k).err=false:=by
 unfold failS
 cases c:isN R.err
 ·exact c
 ·rfl
theorem many_run {Gl:qzj} (hG:GlAll Gl) {bs:List Nat} (hl:bs.length < 100000) (hb:∀ x∈bs,x < 256) {i:Nat} {R:Rd} {I:IcV} {h:VH} (st:RAt bs i R I h) (lo most:Int) (h0:0≤lo) (h0':lo < 4611686018427387904) (h1:0≤most) (h2:most < 4611686018427387904) :
  qzv Go.VL.Er.E Gl f_decode_reader_many [.ptr i 0,.int .i64 lo,.int .i64 most] h (fun v h'=>v = .int .i64 (manyS bs R lo most)∧RAt bs i (manyR bs R lo most) I h'∧Fm i h h'):=by
 refine qzd E_decode_reader_many ?_
 unfold c_decode_reader_many r_decode_reader_many
 simp only [qzl]
 simp only [simprocAttr,-Int.reduceNatCast',go_sem]
 refine qzh (num_run hG hl hb st) ?_
 intro v h2 ⟨ev,st2,fm2⟩
 subst ev
 have nn:=numS_n hb R
 have g4:qza Gl 8=some [erP 4]:=(hG 4 (by omega)).1
 have g5:qza Gl 10=some [erP 5]:=(hG 5 (by omega)).1
 have w1:IntKind.u64.wrap lo=lo:=by rw [Go.VL.Wire.wrap_u64];omega
 have w2:IntKind.u64.wrap most=most:=by rw [Go.VL.Wire.wrap_u64];omega
 unfold manyS manyR
 generalize numS bs R=q at *
 obtain ⟨n,R2⟩:=q
 simp only at st2 nn ⊢
 by_cases c1:(n:Int) < lo
 ·simp only [simprocAttr,-Int.reduceNatCast',go_sem,w1,c1,g_ErrRange,g4]
  refine qzh (fails_run st2 R.pos 4) ?_
  intro v h3 ⟨st3,fm3⟩
  have fe:=fail_err R2 R.pos 4
  have st3':=st3
  obtain ⟨hn3,ev3,hi3,he3⟩:=st3
  have e0:=he3.er0 Gl
  have e1:=he3.er1 Gl
  rw [fe] at e0 e1
  unfold rC at hi3
  simp only [simprocAttr,-Int.reduceNatCast',go_sem,hi3,↓e0,↓e1,fe]
  first | exact ⟨rfl,st3',fm2.trans fm3⟩ | exact ⟨st3',fm2.trans fm3⟩
 ·by_cases c2:(n:Int) > most
  ·simp only [simprocAttr,-Int.reduceNatCast',go_sem,w1,w2,c1,c2,g_ErrLimit,g5]
   refine qzh (fails_run st2 R.pos 5) ?_
   intro v h3 ⟨st3,fm3⟩
   have fe:=fail_err R2 R.pos 5
   have st3':=st3
   obtain ⟨hn3,ev3,hi3,he3⟩:=st3
   have e0:=he3.er0 Gl
   have e1:=he3.er1 Gl
   rw [fe] at e0 e1
   unfold rC at hi3
   simp only [simprocAttr,-Int.reduceNatCast',go_sem,hi3,↓e0,↓e1,fe]
   have c2':most < (n:Int):=c2
   try simp only [simprocAttr,-Int.reduceNatCast',go_sem,c2',fe]
   first | exact ⟨rfl,st3',fm2.trans fm3⟩ | exact ⟨st3',fm2.trans fm3⟩
  ·have st2':=st2
   obtain ⟨hn3,ev3,hi3,he3⟩:=st2
   have e0:=he3.er0 Gl
   have e1:=he3.er1 Gl
   unfold rC at hi3
   have c2':¬most < (n:Int):=c2
   have w3:IntKind.i64.wrap (n:Int)=n:=qze (by omega) (by omega)
   cases ce:isN R2.err
   ·rw [ce] at e0 e1
    simp only [simprocAttr,-Int.reduceNatCast',go_sem,w1,w2,c1,c2,hi3,↓e0,↓e1,ce,c2']
    first | exact ⟨rfl,st2',fm2⟩ | exact ⟨st2',fm2⟩
   ·rw [ce] at e0 e1
    simp only [simprocAttr,-Int.reduceNatCast',go_sem,w1,w2,w3,c1,c2,hi3,↓e0,↓e1,ce,c2']
    first | exact ⟨rfl,st2',fm2⟩ | exact ⟨st2',fm2⟩
end
end Go.VL.Dc
namespace Go.VL.Dc
open Go.FR Go.IR Go.VL Go.VL.Er Go.VL.Color Go.VL.Wind Go.VL.Ic Go.VL.Wire
noncomputable section
set_option maxRecDepth 100000
set_option maxHeartbeats 1000000
theorem num_most (bs:List Nat) (R:Rd):(numS bs R).2.most=R.most∧(numS bs R).2.used=R.used∧(numS bs R).2.pts=R.pts:=by
 unfold numS;split<;>exact ⟨rfl,rfl,rfl⟩
theorem fail_most (R:Rd) (p:Int) (k:Nat):(failS R p k).most=R.most∧(failS R p k).used=R.used∧(failS R p k).pts=R.pts∧(failS R p k).pos=R.pos:=by
 unfold failS;split<;>exact ⟨rfl,rfl,rfl,rfl⟩
def partBad (d ahead most:Int):Prop:=d < -2*most∨2*most < d∨ahead+d < -most∨most < ahead+d
instance (d a m:Int):Decidable (partBad d a m):=by unfold partBad;infer_instance
def partS (bs:List Nat) (R:Rd) (ahead:Int):Int × Rd:=if partBad (zagS (numS bs R).1) ahead R.most then (0,failS (numS bs R).2 R.pos 4) else (ahead+zagS (numS bs R).1,(numS bs R).2)
theorem part_most (bs:List Nat) (R:Rd) (a:Int):(partS bs R a).2.most=R.most∧(partS bs R a).2.used=R.used∧(partS bs R a).2.pts=R.pts:=by
 have h:=num_most bs R
 unfold partS
 split
 ·have g:=fail_most (numS bs R).2 R.pos 4
  exact ⟨g.1.trans h.1,g.2.1.trans h.2.1,g.2.2.1.trans h.2.2⟩
 ·exact h
theorem part_in (bs:List Nat) (R:Rd) (a:Int) (h0:0≤R.most):-R.most≤(partS bs R a).1∧(partS bs R a).1≤R.most:=by
 unfold partS
 split
 ·simp only;omega
 ·rename_i h
  unfold partBad at h
  simp only;omega
attribute [local go_sem] cB cPt cCl cPaint
theorem part_run {Gl:qzj} (hG:GlAll Gl) {bs:List Nat} (hl:bs.length < 100000) (hb:∀ x∈bs,x < 256) {i:Nat} {R:Rd} {I:IcV} {h:VH} (st:RAt bs i R I h) (ahead:Int) (h0:0≤R.most) (h1:R.most≤2097152) (a0:-2097152≤ahead) (a1:ahead≤2097152) :
  qzv Go.VL.Er.E Gl f_decode_reader_part [.ptr i 0,.int .i64 ahead] h (fun v h'=>v = .int .i64 (partS bs R ahead).1∧RAt bs i (partS bs R ahead).2 I h'∧Fm i h h'):=by
 refine qzd E_decode_reader_part ?_
 unfold c_decode_reader_part r_decode_reader_part
 simp only [qzl]
 simp only [simprocAttr,-Int.reduceNatCast',go_sem]
 refine qzh (num_run hG hl hb st) ?_
 intro v h2 ⟨ev,st2,fm2⟩
 subst ev
 have nn:=numS_n hb R
 have nm:=num_most bs R
 have g4:qza Gl 8=some [erP 4]:=(hG 4 (by omega)).1
 obtain ⟨P,hP⟩:∃ P,partS bs R ahead=P:=⟨_,rfl⟩
 have hP':=hP
 unfold partS at hP
 rw [hP']
 generalize numS bs R=q at *
 obtain ⟨n,R2⟩:=q
 simp only at st2 nn nm hP ⊢
 obtain ⟨nm,_⟩:=nm
 rw [←nm] at hP h0 h1
 have zi:=zag_in nn
 simp only [simprocAttr,-Int.reduceNatCast',go_sem]
 refine qzg (zag_ok Gl n nn) rfl rfl ?_
 generalize zagS n=d at *
 have w1:IntKind.i64.wrap (-2*R2.most)=-2*R2.most:=qze (by omega) (by omega)
 have w2:IntKind.i64.wrap (2*R2.most)=2*R2.most:=qze (by omega) (by omega)
 have w3:IntKind.i64.wrap (0 - R2.most)=-R2.most:=by rw [qze (by omega) (by omega)];omega
 have st2':=st2
 obtain ⟨hn3,ev3,hi3,he3⟩:=st2
 unfold rC at hi3
 by_cases c1:d < -2*R2.most
 ·rw [if_pos (.inl c1)] at hP
  simp only [simprocAttr,-Int.reduceNatCast',go_sem,hi3,w1,c1,g_ErrRange,g4]
  refine qzh (fails_run st2' R.pos 4) ?_
  intro v h3 ⟨st3,fm3⟩
  simp only [simprocAttr,-Int.reduceNatCast',go_sem]
  rw [←hP]
  exact ⟨rfl,st3,fm2.trans fm3⟩
 by_cases c2:d > 2*R2.most
 ·rw [if_pos (.inr (.inl c2))] at hP
  simp only [simprocAttr,-Int.reduceNatCast',go_sem,hi3,w1,w2,c1,c2,g_ErrRange,g4]
  refine qzh (fails_run st2' R.pos 4) ?_
  intro v h3 ⟨st3,fm3⟩
  simp only [simprocAttr,-Int.reduceNatCast',go_sem]
  rw [←hP]
  exact ⟨rfl,st3,fm2.trans fm3⟩
 have w4:IntKind.i64.wrap (ahead+d)=ahead+d:=qze (by omega) (by omega)
 by_cases c3:ahead+d < -R2.most
 ·rw [if_pos (.inr (.inr (.inl c3)))] at hP
  simp only [simprocAttr,-Int.reduceNatCast',go_sem,hi3,w1,w2,w3,w4,c1,c2,c3,g_ErrRange,g4]
  refine qzh (fails_run st2' R.pos 4) ?_
  intro v h3 ⟨st3,fm3⟩
  simp only [simprocAttr,-Int.reduceNatCast',go_sem]
  rw [←hP]
  exact ⟨rfl,st3,fm2.trans fm3⟩
 by_cases c4:ahead+d > R2.most
 ·rw [if_pos (.inr (.inr (.inr c4)))] at hP
  simp only [simprocAttr,-Int.reduceNatCast',go_sem,hi3,w1,w2,w3,w4,c1,c2,c3,c4,g_ErrRange,g4]
  refine qzh (fails_run st2' R.pos 4) ?_
  intro v h3 ⟨st3,fm3⟩
  simp only [simprocAttr,-Int.reduceNatCast',go_sem]
  rw [←hP]
  exact ⟨rfl,st3,fm2.trans fm3⟩
 rw [if_neg (by unfold partBad;omega)] at hP
 simp only [simprocAttr,-Int.reduceNatCast',go_sem,hi3,w1,w2,w3,w4,c1,c2,c3,c4]
 rw [←hP]
 exact ⟨rfl,st2',fm2⟩
def pointS (bs:List Nat) (R:Rd) (p:Pt):Pt × Rd:=(⟨(partS bs R p.x).1,(partS bs (partS bs R p.x).2 p.y).1⟩,(partS bs (partS bs R p.x).2 p.y).2)
theorem point_most (bs:List Nat) (R:Rd) (p:Pt):(pointS bs R p).2.most=R.most∧(pointS bs R p).2.used=R.used∧(pointS bs R p).2.pts=R.pts:=by
 have h:=part_most bs R p.x
 have g:=part_most bs (partS bs R p.x).2 p.y
 exact ⟨g.1.trans h.1,g.2.1.trans h.2.1,g.2.2.trans h.2.2⟩
def Nr (p:Pt):Prop:=(-2097152≤p.x∧p.x≤2097152)∧-2097152≤p.y∧p.y≤2097152
theorem point_in (bs:List Nat) (R:Rd) (p:Pt) (h0:0≤R.most) (h1:R.most≤2097152):Nr (pointS bs R p).1:=by
 have h:=part_in bs R p.x h0
 have m:=part_most bs R p.x
 have g:=part_in bs (partS bs R p.x).2 p.y (by rw [m.1];exact h0)
 rw [m.1] at g
 exact ⟨⟨by show _≤(partS bs R p.x).1;omega,by show (partS bs R p.x).1≤_;omega⟩,by show _≤(partS bs (partS bs R p.x).2 p.y).1;omega,by show (partS bs (partS bs R p.x).2 p.y).1≤_;omega⟩
theorem point_run {Gl:qzj} (hG:GlAll Gl) {bs:List Nat} (hl:bs.length < 100000) (hb:∀ x∈bs,x < 256) {i:Nat} {R:Rd} {I:IcV} {h:VH} (st:RAt bs i R I h) (p:Pt) (h0:0≤R.most) (h1:R.most≤2097152) (hp:Nr p) :
  qzv Go.VL.Er.E Gl f_decode_reader_point [.ptr i 0,.agg (cPt p)] h (fun v h'=>v = .agg (cPt (pointS bs R p).1)∧RAt bs i (pointS bs R p).2 I h'∧Fm i h h'):=by
 have hn:=st.1
 refine qzd E_decode_reader_point ?_
 unfold c_decode_reader_point r_decode_reader_point
 simp only [qzl]
 have st1:=st.move (h':=⟨(h.next+1,some (VB.cells [.int .i64 0,.int .i64 0] false))::(h.next,some (VB.cells (cPt p) false))::h.l,h.next+1+1⟩) (by show h.next≤h.next+1+1;omega) (fun k k1=>by simp only [qzb];rw [if_neg (by omega),if_neg (by omega)])
 have y1:¬h.next+1=h.next:=by omega
 simp only [simprocAttr,-Int.reduceNatCast',go_sem,y1]
 refine qzh (part_run hG hl hb st1 p.x h0 h1 hp.1.1 hp.1.2) ?_
 intro v h2 ⟨e,st2,fm2⟩
 subst e
 have n2:=fm2.1
 simp only at n2
 have b2:qza h2.l h.next=some (some (.cells (cPt p) false)):=by rw [fm2.2 h.next (by show h.next < h.next+1+1;omega) (by omega)];simp only [qzb];rw [if_neg (by omega),if_pos trivial]
 have b3:qza h2.l (h.next+1)=some (some (.cells [.int .i64 0,.int .i64 0] false)):=by rw [fm2.2 (h.next+1) (by show h.next+1 < h.next+1+1;omega) (by omega)];simp only [qzb,if_true]
 have m:=part_most bs R p.x
 simp only [simprocAttr,-Int.reduceNatCast',go_sem,b2]
 refine qzh (part_run hG hl hb st2 p.y (by rw [m.1];exact h0) (by rw [m.1];exact h1) hp.2.1 hp.2.2) ?_
 intro v h3 ⟨e,st3,fm3⟩
 subst e
 have n3:=fm3.1
 have b4:=(fm3.2 (h.next+1) (by omega) (by omega)).trans b3
 simp only [simprocAttr,-Int.reduceNatCast',go_sem,b4]
 refine ⟨rfl,?_,by show h.next≤h3.next;omega,fun k k1 k2 => ?_⟩
 ·exact st3.put (by omega) b4 (fun _ _ e=>by simp at e)
 ·simp only [qzb]
  rw [if_neg (by omega),fm3.2 k (by omega) k2,fm2.2 k (by show k < h.next+1+1;omega) k2]
  simp only [qzb]
  rw [if_neg (by omega),if_neg (by omega)]
def colorS (bs:List Nat) (R:Rd) (nc:Nat):Int × Rd :=
 if isN (numS bs R).2.err=false then (0,(numS bs R).2)
 else if nc≤(numS bs R).1 then (0,failS (numS bs R).2 R.pos 4)
 else if R.used < (numS bs R).1 then (0,failS (numS bs R).2 R.pos 9)
 else ((numS bs R).1,⟨(numS bs R).2.pos,(numS bs R).2.err,(numS bs R).2.most,max R.used ((numS bs R).1+1),(numS bs R).2.pts⟩)
theorem color_most (bs:List Nat) (R:Rd) (nc:Nat):(colorS bs R nc).2.most=R.most∧(colorS bs R nc).2.pts=R.pts:=by
 have h:=num_most bs R
 have g:=fun k=>fail_most (numS bs R).2 R.pos k
 unfold colorS
 split
 ·exact ⟨h.1,h.2.2⟩
 ·split
  ·exact ⟨(g 4).1.trans h.1,(g 4).2.2.1.trans h.2.2⟩
  ·split
   ·exact ⟨(g 9).1.trans h.1,(g 9).2.2.1.trans h.2.2⟩
   ·exact ⟨h.1,h.2.2⟩
theorem color_used (bs:List Nat) (R:Rd) (nc:Nat) (h0:0≤R.used) (h1:R.used≤nc):0≤(colorS bs R nc).2.used∧(colorS bs R nc).2.used≤nc:=by
 have h:=num_most bs R
 have g:=fun k=>fail_most (numS bs R).2 R.pos k
 unfold colorS
 split
 ·rw [h.2.1];exact ⟨h0,h1⟩
 ·split
  ·rw [(g 4).2.1,h.2.1];exact ⟨h0,h1⟩
  ·split
   ·rw [(g 9).2.1,h.2.1];exact ⟨h0,h1⟩
   ·simp only;omega
theorem color_run {Gl:qzj} (hG:GlAll Gl) {bs:List Nat} (hl:bs.length < 100000) (hb:∀ x∈bs,x < 256) {i:Nat} {R:Rd} {I:IcV} {h:VH} (st:RAt bs i R I h) (nc:Nat) (hc:lenSlV [I.vc]=some (.int .i64 nc)) (hn:nc≤256) (u0:0≤R.used) (u1:R.used≤256) :
  qzv Go.VL.Er.E Gl f_decode_reader_color [.ptr i 0] h (fun v h'=>v = .int .i64 (colorS bs R nc).1∧RAt bs i (colorS bs R nc).2 I h'∧Fm i h h'):=by
 refine qzd E_decode_reader_color ?_
 unfold c_decode_reader_color r_decode_reader_color
 simp only [qzl]
 simp only [simprocAttr,-Int.reduceNatCast',go_sem]
 refine qzh (num_run hG hl hb st) ?_
 intro v h2 ⟨ev,st2,fm2⟩
 subst ev
 have nn:=numS_n hb R
 have nm:=num_most bs R
 have g4:qza Gl 8=some [erP 4]:=(hG 4 (by omega)).1
 have g9:qza Gl 18=some [erP 9]:=(hG 9 (by omega)).1
 obtain ⟨P,hP⟩:∃ P,colorS bs R nc=P:=⟨_,rfl⟩
 have hP':=hP
 unfold colorS at hP
 rw [hP']
 generalize numS bs R=q at *
 obtain ⟨n,R2⟩:=q
 simp only at st2 nn nm hP ⊢
 obtain ⟨nm,nu,_⟩:=nm
 have st2':=st2
 obtain ⟨hn3,ev3,hi3,he3⟩:=st2
 unfold rC at hi3
 have e0:=he3.er0 Gl
 have e1:=he3.er1 Gl
 have w1:IntKind.u64.wrap (nc:Int)=nc:=by rw [Go.VL.Wire.wrap_u64];omega
 have w2:IntKind.u64.wrap R2.used=R2.used:=by rw [Go.VL.Wire.wrap_u64];omega
 cases ce:isN R2.err
 ·rw [ce] at e0 e1
  rw [if_pos ce] at hP
  simp only [simprocAttr,-Int.reduceNatCast',go_sem,hi3,↓e0,↓e1]
  rw [←hP]
  exact ⟨rfl,st2',fm2⟩
 rw [ce] at e0 e1
 rw [if_neg (by rw [ce];simp)] at hP
 by_cases c1:nc≤n
 ·have c1':(n:Int) ≥ nc:=by omega
  rw [if_pos c1] at hP
  simp only [simprocAttr,-Int.reduceNatCast',go_sem,hi3,↓e0,↓e1,↓hc,w1,c1',g_ErrRange,g4]
  refine qzh (fails_run st2' R.pos 4) ?_
  intro v h3 ⟨st3,fm3⟩
  simp only [simprocAttr,-Int.reduceNatCast',go_sem]
  rw [←hP]
  exact ⟨rfl,st3,fm2.trans fm3⟩
 have c1':¬(n:Int) ≥ nc:=by omega
 rw [if_neg c1] at hP
 by_cases c2:(n:Int) > R2.used
 ·rw [if_pos (by omega)] at hP
  simp only [simprocAttr,-Int.reduceNatCast',go_sem,hi3,↓e0,↓e1,↓hc,w1,w2,c1',c2,g_ErrCanon,g9]
  refine qzh (fails_run st2' R.pos 9) ?_
  intro v h3 ⟨st3,fm3⟩
  simp only [simprocAttr,-Int.reduceNatCast',go_sem]
  rw [←hP]
  exact ⟨rfl,st3,fm2.trans fm3⟩
 rw [if_neg (by omega)] at hP
 have w3:IntKind.i64.wrap (n:Int)=n:=qze (by omega) (by omega)
 have w4:IntKind.i64.wrap ((n:Int)+1)=n+1:=qze (by omega) (by omega)
 obtain ⟨M,hM⟩:∃ M,(if (n:Int)+1 > R2.used then (n:Int)+1 else R2.used)=M:=⟨_,rfl⟩
 have eM:max R.used ((n:Int)+1)=M:=by rw [←hM];split<;>omega
 rw [eM] at hP
 simp only [simprocAttr,-Int.reduceNatCast',go_sem,hi3,↓e0,↓e1,↓hc,w1,w2,w3,w4,c1',c2,hM]
 rw [←hP]
 refine ⟨rfl,⟨hn3,ev3,by simp only [qzb,if_true];rfl,?_⟩,fm2.1,fun k k1 k2=>by simp only [qzb];rw [if_neg (Ne.symm k2)];exact fm2.2 k k1 k2⟩
 exact he3.keep ⟨Nat.le_refl _,fun k _ k2=>by simp only [qzb];rw [if_neg (Ne.symm k2)]⟩
end
end Go.VL.Dc
