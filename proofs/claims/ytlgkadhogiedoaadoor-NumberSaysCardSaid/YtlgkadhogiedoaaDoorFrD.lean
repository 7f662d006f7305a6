/- The fast run: how plain values and named blocks stand to the model's. -/
import Derived.Test.YtlgkadhogiedoaaDoorFrC
import Derived.Calls
import Derived.Orders
import Derived.Below
import Derived.Laws.Sem
import Derived.Laws.Cells
import Derived.LaidEql
set_option linter.unusedSimpArgs false
set_option linter.unusedVariables false
namespace Go.FR
noncomputable section
open Go.RowKit (Below)
structure Inj where
 blk:Nat
 off:Nat
 size:Nat
abbrev Pl:=Nat→Option Inj
def Pl.le (ι κ:Pl):Prop:=∀ b j,ι b=some j→κ b=some j
theorem Pl.le_refl (ι:Pl):ι.le ι:=fun _ _ h=>h
theorem Pl.le_trans {a b c:Pl} (h:a.le b) (k:b.le c):a.le c:=fun x j q=>k x j (h x j q)
def capR (j:Inj) (o:Nat):ACap→Nat→Prop
 | .exact n,c=>c=n
 | .toEnd e,c=>c=(j.size - o) / e
mutual
def VRel (ι:Pl):AV→Value→Prop
 | .bool b,v=>v = .bool b
 | .int k n,v=>v = .int k n
 | .str s,v=>v = .string ⟨s.toArray⟩
 | .ptr none,v=>v = .pointer none
 | .ptr (some a),v=>∃ j,ι a.1=some j∧v = .pointer (some ⟨j.blk,j.off+a.2,none⟩)
 | .slice none n c,v=>n=0∧c = .exact 0∧v = .slice none 0 0
 | .slice (some a) n c,v=>∃ j p m,ι a.1=some j∧v = .slice (some p) n m∧n≤m∧capR j a.2 c m∧(m≠0→p=⟨j.blk,j.off+a.2,none⟩)
 | .map none,v=>v = .map none
 | .map (some r),v=>∃ j,ι r=some j∧v = .map (some j.blk)
 | .func f a b,v=>∃ x y,v = .func (.func f) x y∧VRels ι a x.toList∧VRels ι b y.toList
 | .nilFunc,v=>v = .nilFunc
 | .iface t x,v=>∃ y,v = .iface t y∧VRel ι x y
 | .nilIface,v=>v = .nilIface
 | .agg cs,v=>∃ a,v = .agg a∧VRels ι cs a.toList∧∀ c∈cs,scA c=true
 | .tuple cs,v=>∃ a,v = .tuple a∧VRels ι cs a.toList
def VRels (ι:Pl):List AV→List Value→Prop
 | [],l=>l=[]
 | x::xs,l=>∃ y ys,l=y::ys∧VRel ι x y∧VRels ι xs ys
end
mutual
theorem VRel.mono {ι κ:Pl} (h:ι.le κ):∀ (x:AV) (v:Value),VRel ι x v→VRel κ x v
 | .bool _,_,q=>q
 | .int _ _,_,q=>q
 | .str _,_,q=>q
 | .ptr none,_,q=>q
 | .ptr (some _),_,⟨j,hj,q⟩=>⟨j,h _ _ hj,q⟩
 | .slice none _ _,_,q=>q
 | .slice (some _) _ _,_,⟨j,p,m,hj,q⟩=>⟨j,p,m,h _ _ hj,q⟩
 | .map none,_,q=>q
 | .map (some _),_,⟨j,hj,q⟩=>⟨j,h _ _ hj,q⟩
 | .func _ a b,_,⟨x,y,e,p,q⟩=>⟨x,y,e,VRels.mono h a _ p,VRels.mono h b _ q⟩
 | .nilFunc,_,q=>q
 | .iface _ x,_,⟨y,e,q⟩=>⟨y,e,VRel.mono h x _ q⟩
 | .nilIface,_,q=>q
 | .agg cs,_,⟨a,e,q,s⟩=>⟨a,e,VRels.mono h cs _ q,s⟩
 | .tuple cs,_,⟨a,e,q⟩=>⟨a,e,VRels.mono h cs _ q⟩
theorem VRels.mono {ι κ:Pl} (h:ι.le κ):∀ (x:List AV) (v:List Value),VRels ι x v→VRels κ x v
 | [],_,q=>q
 | x::xs,_,⟨y,ys,e,p,q⟩=>⟨y,ys,e,VRel.mono h x _ p,VRels.mono h xs _ q⟩
end
theorem VRels.length {ι:Pl}:∀ {x:List AV} {v:List Value},VRels ι x v→v.length=x.length
 | [],_,q=>by simp [VRels] at q;simp [q]
 | x::xs,_,⟨y,ys,e,_,q⟩=>by rw [e];simp [VRels.length q]
theorem VRels.get {ι:Pl}:∀ {x:List AV} {v:List Value},VRels ι x v→∀ (i:Nat) (a:AV),x[i]?=some a→∃ b,v[i]?=some b∧VRel ι a b
 | [],_,_,i,a,h=>by simp at h
 | x::xs,_,⟨y,ys,e,p,q⟩,i,a,h=>by
  subst e
  cases i with
  | zero=>simp at h;subst h;exact ⟨y,rfl,p⟩
  | succ i=>simp at h;simpa using VRels.get q i a h
theorem VRels.mk {ι:Pl}:∀ {x:List AV} {v:List Value},v.length=x.length→(∀ (i:Nat) (a:AV) (b:Value),x[i]?=some a→v[i]?=some b→VRel ι a b)→VRels ι x v
 | [],v,h,_=>by simp [VRels];exact List.eq_nil_of_length_eq_zero h
 | x::xs,[],h,_=>by simp at h
 | x::xs,y::ys,h,f=>⟨y,ys,rfl,f 0 x y rfl rfl,VRels.mk (by simpa using h) fun i a b p q=>f (i+1) a b (by simpa using p) (by simpa using q)⟩
theorem VRels.append {ι:Pl}:∀ {x x':List AV} {v v':List Value},VRels ι x v→VRels ι x' v'→VRels ι (x++x') (v++v')
 | [],_,_,_,p,q=>by simp [VRels] at p;subst p;simpa using q
 | x::xs,_,_,_,⟨y,ys,e,a,b⟩,q=>by subst e;exact ⟨y,ys++_,rfl,a,VRels.append b q⟩
theorem VRels.drop {ι:Pl}:∀ (n:Nat) {x:List AV} {v:List Value},VRels ι x v→VRels ι (x.drop n) (v.drop n)
 | 0,_,_,p=>p
 | n+1,[],_,p=>by simp [VRels] at p;subst p;simp [VRels]
 | n+1,x::xs,_,⟨y,ys,e,a,b⟩=>by subst e;simpa using VRels.drop n b
theorem VRels.take {ι:Pl}:∀ (n:Nat) {x:List AV} {v:List Value},VRels ι x v→VRels ι (x.take n) (v.take n)
 | 0,_,_,_=>by simp [VRels]
 | n+1,[],_,p=>by simp [VRels] at p;subst p;simp [VRels]
 | n+1,x::xs,_,⟨y,ys,e,a,b⟩=>by subst e;exact ⟨y,ys.take n,by simp,a,VRels.take n b⟩
theorem VRels.nil {ι:Pl}:VRels ι [] []:=rfl
theorem VRels.cons {ι:Pl} {x:AV} {v:Value} {xs:List AV} {vs:List Value} (h:VRel ι x v) (k:VRels ι xs vs):VRels ι (x::xs) (v::vs):=⟨v,vs,rfl,h,k⟩
theorem VRel.one {ι:Pl}:∀ {x:AV} {v:Value},VRel ι x v→scA x=true→v.oneCell'=true
 | .bool _,_,h,_=>by simp only [VRel] at h;subst h;rfl
 | .int _ _,_,h,_=>by simp only [VRel] at h;subst h;rfl
 | .str _,_,h,_=>by simp only [VRel] at h;subst h;rfl
 | .ptr none,_,h,_=>by simp only [VRel] at h;subst h;rfl
 | .ptr (some _),_,⟨_,_,h⟩,_=>by subst h;rfl
 | .slice none _ _,_,⟨_,_,h⟩,_=>by subst h;rfl
 | .slice (some _) _ _,_,⟨_,_,_,_,h,_⟩,_=>by subst h;rfl
 | .map none,_,h,_=>by simp only [VRel] at h;subst h;rfl
 | .map (some _),_,⟨_,_,h⟩,_=>by subst h;rfl
 | .func _ _ _,_,⟨_,_,h,_⟩,_=>by subst h;rfl
 | .nilFunc,_,h,_=>by simp only [VRel] at h;subst h;rfl
 | .iface _ _,_,⟨_,h,_⟩,_=>by subst h;rfl
 | .nilIface,_,h,_=>by simp only [VRel] at h;subst h;rfl
 | .agg _,_,_,s=>by simp [scA] at s
 | .tuple _,_,_,s=>by simp [scA] at s
theorem cells_of_one {v:Value} (h:v.oneCell'=true):v.cells = #[v]:=by
 cases v<;>simp [Value.oneCell'] at h<;>rfl
theorem VRel.cells {ι:Pl} {x:AV} {v:Value} (h:VRel ι x v) (hn:ntA x=true):VRels ι x.cells v.cells.toList∧∀ c∈x.cells,scA c=true:=by
 by_cases s:scA x=true
 ·have h1:=h.one s
  rw [cells_of_one h1]
  have:x.cells=[x]:=by cases x<;>simp [scA] at s<;>rfl
  rw [this]
  exact ⟨VRels.cons h VRels.nil,by simpa using s⟩
 ·cases x<;>simp [scA] at s
  case agg cs=>obtain ⟨a,rfl,q,r⟩:=h;exact ⟨q,r⟩
  case tuple=>simp [ntA] at hn
def ABlk.rw:ABlk→Bool
 | .cells _ rw _=>rw
 | .map _=>true
def MRel (ι:Pl):List (AV × AV)→List MapEntry→Prop
 | [],l=>l=[]
 | x::xs,l=>∃ y ys,l=y::ys∧VRel ι x.1 y.key∧VRel ι x.2 y.val∧MRel ι xs ys
theorem MRel.mono {ι κ:Pl} (h:ι.le κ):∀ (x:List (AV × AV)) (v:List MapEntry),MRel ι x v→MRel κ x v
 | [],_,q=>q
 | x::xs,_,⟨y,ys,e,p,p',q⟩=>⟨y,ys,e,VRel.mono h _ _ p,VRel.mono h _ _ p',MRel.mono h xs _ q⟩
def BRel (B:Nat) (ι:Pl) (w:World) (j:Inj):ABlk→Prop
 | .cells cs rw str=>(∀ v∈cs,scA v=true)∧∃ c t fr,w.heap[j.blk]?=some (.cells c t fr)∧VRels ι cs ((c.toList.drop j.off).take cs.length)∧j.off+cs.length≤c.size ∧
   (rw=true→B≤j.blk∧c.size=j.off+j.size∧(str=true→fr=(0,0)∨c.size≤fr.1))∧(str=false→fr=(0,0))∧(rw=false→j.blk < B)
 | .map es=>∃ l clock,w.heap[j.blk]?=some (.map l clock)∧B≤j.blk∧MRel ι es l.toList
theorem BRel.mono {B:Nat} {ι κ:Pl} {w w':World} {j:Inj} {x:ABlk} (h:BRel B ι w j x) (hi:ι.le κ) (hw:w'.heap[j.blk]?=w.heap[j.blk]?):BRel B κ w' j x:=by
 cases x with
 | cells cs rw str =>
  obtain ⟨hs,c,t,fr,hb,hv,hl,hr⟩:=h
  exact ⟨hs,c,t,fr,by rw [hw];exact hb,VRels.mono hi _ _ hv,hl,hr⟩
 | map es =>
  obtain ⟨l,cl,hb,hB,hm⟩:=h
  exact ⟨l,cl,by rw [hw];exact hb,hB,MRel.mono hi _ _ hm⟩
theorem BRel.lt {B:Nat} {ι:Pl} {w:World} {j:Inj} {x:ABlk} (h:BRel B ι w j x):j.blk < w.heap.size:=by
 have:∃ o,w.heap[j.blk]?=some o:=by
  cases x with
  | cells cs rw str=>obtain ⟨hs,c,t,fr,hb,_⟩:=h;exact ⟨_,hb⟩
  | map es=>obtain ⟨l,cl,hb,_⟩:=h;exact ⟨_,hb⟩
 obtain ⟨o,ho⟩:=this
 exact (Array.getElem?_eq_some_iff.1 ho).1
theorem BRel.le {B:Nat} {ι:Pl} {w:World} {j:Inj} {x:ABlk} (h:BRel B ι w j x) (hr:x.rw=true):B≤j.blk:=by
 cases x with
 | cells cs rw str=>simp [ABlk.rw] at hr;obtain ⟨hs,c,t,fr,hb,hv,hl,hq,_⟩:=h;exact (hq hr).1
 | map es=>obtain ⟨l,cl,hb,hB,_⟩:=h;exact hB
def ABlk.fixed:ABlk→Bool
 | .cells _ false false=>true
 | _=>false
structure HRel (B:Nat) (g:Nat→Option ABlk) (ι:Pl) (w:World):Prop where
 at_:∀ k x,g k=some x→∃ j,ι k=some j∧BRel B ι w j x
 apart:∀ k l x y i j,g k=some x→g l=some y→k≠l→x.rw=true→ι k=some i→ι l=some j→i.blk≠j.blk
 fixed:∀ k l x y i j,g k=some x→g l=some y→k≠l→x.fixed=true→y.fixed=true→ι k=some i→ι l=some j→¬(i.blk=j.blk∧i.off=j.off)
theorem HRel.less {B:Nat} {g g':Nat→Option ABlk} {ι:Pl} {w:World} (h:HRel B g ι w) (hg:∀ k x,g' k=some x→g k=some x):HRel B g' ι w :=
 ⟨fun k x q=>h.at_ k x (hg _ _ q),fun k l x y i j p q=>h.apart k l x y i j (hg _ _ p) (hg _ _ q),fun k l x y i j p q=>h.fixed k l x y i j (hg _ _ p) (hg _ _ q)⟩
theorem HRel.change {B:Nat} {g g':Nat→Option ABlk} {ι κ:Pl} {w w':World} (h:HRel B g ι w) (le:ι.le κ) (n:Nat) (jn:Inj) (hn:κ n=some jn)
  (hsame:∀ c,c≠jn.blk→c < w.heap.size→w'.heap[c]?=w.heap[c]?)
  (hg:∀ k y,k≠n→g' k=some y→g k=some y∧∀ j,ι k=some j→j.blk≠jn.blk)
  (hnew:∀ y,g' n=some y→BRel B κ w' jn y∧y.rw=true):HRel B g' κ w':=by
 refine ⟨fun k x hk => ?_,fun k l x y i j hk hl hne hr hi hj => ?_,fun k l x y i j hk hl hne hr hs hi hj => ?_⟩
 ·by_cases e:k=n
  ·subst e;exact ⟨jn,hn,(hnew _ hk).1⟩
  ·obtain ⟨hk',hne⟩:=hg k x e hk
   obtain ⟨j,hj,hb⟩:=h.at_ k x hk'
   exact ⟨j,le _ _ hj,hb.mono le (hsame _ (hne _ hj) hb.lt)⟩
 ·have old:∀ k x i,k≠n→g' k=some x→κ k=some i→ι k=some i:=fun k x i e hk hi=>by
   obtain ⟨hk',_⟩:=hg k x e hk
   obtain ⟨j,hj,_⟩:=h.at_ k x hk'
   rw [le _ _ hj] at hi;rw [hj];exact hi
  by_cases e:k=n
  ·subst e
   rw [hn] at hi;obtain rfl:=Option.some.inj hi
   have hl':=old l y j (Ne.symm hne) hl hj
   exact fun q=>(hg l y (Ne.symm hne) hl).2 _ hl' q.symm
  ·have hk':=old k x i e hk hi
   by_cases e':l=n
   ·subst e'
    rw [hn] at hj;obtain rfl:=Option.some.inj hj
    exact (hg k x e hk).2 _ hk'
   ·exact h.apart k l x y i j (hg k x e hk).1 (hg l y e' hl).1 hne hr hk' (old l y j e' hl hj)
 ·have old:∀ k x i,k≠n→g' k=some x→κ k=some i→ι k=some i:=fun k x i e hk hi=>by
   obtain ⟨hk',_⟩:=hg k x e hk
   obtain ⟨j,hj,_⟩:=h.at_ k x hk'
   rw [le _ _ hj] at hi;rw [hj];exact hi
  have nf:∀ y,g' n=some y→y.fixed=true→False:=fun y hy hf=>by
   have:=(hnew y hy).2
   cases y with
   | cells cs rw str=>cases rw<;>simp_all [ABlk.rw,ABlk.fixed]
   | map es=>simp [ABlk.fixed] at hf
  by_cases e:k=n
  ·subst e;exact (nf _ hk hr).elim
  ·by_cases e':l=n
   ·subst e';exact (nf _ hl hs).elim
   ·exact h.fixed k l x y i j (hg k x e hk).1 (hg l y e' hl).1 hne hr hs (old k x i e hk hi) (old l y j e' hl hj)
def Own (g:Nat→Option ABlk) (ι:Pl) (c:Nat):Prop:=∃ k x j,g k=some x∧x.rw=true∧ι k=some j∧j.blk=c
structure KeepB (n:Nat) (H:Heap) (ι:Pl) (w:World) (H':Heap) (κ:Pl) (w':World):Prop where
 os:w'.os=w.os
 tape:w'.tape=w.tape
 output:w'.output=w.output
 size:w.heap.size≤w'.heap.size
 le:ι.le κ
 same:∀ c,c < w.heap.size→¬Own H.get ι c→w'.heap[c]?=w.heap[c]?
 own:∀ c,Own H'.get κ c→Own H.get ι c∨w.heap.size≤c
 next:H.next≤H'.next
 low:∀ i,i < n→κ i=ι i
 dom:∀ i,i < n→H.get i=none→H'.get i=none
abbrev Keep (H:Heap) (ι:Pl) (w:World) (H':Heap) (κ:Pl) (w':World):Prop:=KeepB H.next H ι w H' κ w'
theorem Keep.refl (H:Heap) (ι:Pl) (w:World):Keep H ι w H ι w :=
 ⟨rfl,rfl,rfl,Nat.le_refl _,Pl.le_refl _,fun _ _ _=>rfl,fun _ h => .inl h,Nat.le_refl _,fun _ _=>rfl,fun _ _ h=>h⟩
theorem KeepB.trans {n m:Nat} {g g' g'':Heap} {ι κ μ:Pl} {w w' w'':World} (h:KeepB n g ι w g' κ w') (k:KeepB m g' κ w' g'' μ w'') (hnm:n≤m):KeepB n g ι w g'' μ w'':=by
 refine ⟨k.os.trans h.os,k.tape.trans h.tape,k.output.trans h.output,Nat.le_trans h.size k.size,Pl.le_trans h.le k.le,fun c hc ho => ?_,fun c ho => ?_,Nat.le_trans h.next k.next,fun i hi=>(k.low i (Nat.lt_of_lt_of_le hi hnm)).trans (h.low i hi),fun i hi q=>k.dom i (Nat.lt_of_lt_of_le hi hnm) (h.dom i hi q)⟩
 ·rw [k.same c (Nat.lt_of_lt_of_le hc h.size) (fun q=>(h.own c q).elim ho (fun q=>by omega)),h.same c hc ho]
 ·rcases k.own c ho with q | q
  ·exact h.own c q
  ·exact .inr (Nat.le_trans h.size q)
theorem Keep.trans {g g' g'':Heap} {ι κ μ:Pl} {w w' w'':World} (h:Keep g ι w g' κ w') (k:Keep g' κ w' g'' μ w''):Keep g ι w g'' μ w'':=KeepB.trans h k h.next
structure Rel (B:Nat) (G:List (Nat × Nat)) (H:Heap) (ι:Pl) (w:World):Prop where
 h:HRel B H.get ι w
 b:B≤w.heap.size
 g:∀ n i,lookN G n=some i→∃ s,ι i=some ⟨n,0,s⟩
 f:∀ k,H.next≤k→ι k=none
theorem HRel.drew {B:Nat} {g:Nat→Option ABlk} {ι:Pl} {w w':World} (h:HRel B g ι w) (hw:w'.heap=w.heap):HRel B g ι w':=by
 refine ⟨fun k x q => ?_,h.apart,h.fixed⟩
 obtain ⟨j,hj,hb⟩:=h.at_ k x q
 exact ⟨j,hj,hb.mono (Pl.le_refl _) (by rw [hw])⟩
def setP (ι:Pl) (n:Nat) (j:Inj):Pl:=fun k=>if k=n then some j else ι k
theorem setP_same (ι:Pl) (n:Nat) (j:Inj):setP ι n j n=some j:=by simp [setP]
theorem setP_other (ι:Pl) (n:Nat) (j:Inj) {k:Nat} (h:k≠n):setP ι n j k=ι k:=by simp [setP,h]
theorem setP_le {ι:Pl} {n:Nat} {j:Inj} (h:ι n=none):ι.le (setP ι n j):=fun b i q=>by
 by_cases e:b=n
 ·subst e;rw [h] at q;cases q
 ·rw [setP_other _ _ _ e];exact q
theorem Heap.get_set (H:Heap) (b:Nat) (x:ABlk) (k:Nat):(H.set b x).get k=if k=b then some x else H.get k:=Tr.get_set _ _ _ _
theorem Heap.get_kill (H:Heap) (b k:Nat):(H.kill b).get k=if k=b then none else H.get k:=Tr.get_del _ _ _
theorem Heap.get_push (H:Heap) (x:ABlk) (k:Nat):(H.push x).get k=if k=H.next then some x else H.get k:=Tr.get_set _ _ _ _
theorem Heap.next_push (H:Heap) (x:ABlk):(H.push x).next=H.next+1:=rfl
end
end Go.FR
