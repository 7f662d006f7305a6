/- How values that hold what they point to stand to the fast run's. -/
import Derived.Test.YtlgkadhogiedoaaDoorVlA
set_option linter.unusedSimpArgs false
set_option linter.unusedVariables false
namespace Go.VL
open Go.FR
noncomputable section
abbrev Gz:=Nat→Option ABlk
abbrev Pm:=Nat→Option Nat
def noP:Pm:=fun _=>none
def Gz.le (G K:Gz):Prop:=∀ b x,G b=some x→K b=some x
def Pm.le (μ ν:Pm):Prop:=∀ i b,μ i=some b→ν i=some b
theorem Gz.le_refl (G:Gz):G.le G:=fun _ _ h=>h
theorem Pm.le_refl (μ:Pm):μ.le μ:=fun _ _ h=>h
theorem Gz.le_trans {a b c:Gz} (h:a.le b) (k:b.le c):a.le c:=fun x y q=>k x y (h x y q)
theorem Pm.le_trans {a b c:Pm} (h:a.le b) (k:b.le c):a.le c:=fun x y q=>k x y (h x y q)
theorem noP_le (μ:Pm):noP.le μ:=fun _ _ h=>by cases h
mutual
def VR (G:Gz):Pm→VV→AV→Prop
 | _,.bool b,v=>v = .bool b
 | _,.int k n,v=>v = .int k n
 | _,.str s,v=>v = .str s
 | _,.nilP,v=>v = .ptr none
 | μ,.ptr i o,v=>∃ b,μ i=some b∧v = .ptr (some (b,o))
 | _,.gptr i o,v=>v = .ptr (some (i,o))
 | _,.fptr cs o,v=>∃ b p full rw st as,G b=some (.cells full rw st)∧v = .ptr (some (b,p+o))∧as=(full.drop p).take cs.length∧p+cs.length≤full.length∧VRs G noP cs as
 | _,.nilS,v=>v = .slice none 0 (.exact 0)
 | μ,.slice i o n e c,v=>∃ b,μ i=some b∧v = .slice (some (b,o)) n c
 | _,.fsl cs n e,v=>cs.length=n*e∧((n=0∧v = .slice none 0 (.exact 0)) ∨
   ∃ b o c full rw st as,G b=some (.cells full rw st)∧v = .slice (some (b,o)) n c∧capOK e n c∧as=(full.drop o).take (n*e)∧o+n*e≤full.length∧VRs G noP cs as)
 | _,.nilM,v=>v = .map none
 | μ,.map i,v=>∃ b,μ i=some b∧v = .map (some b)
 | _,.fmap ks vs,v=>∃ b es as bs,G b=some (.map es)∧v = .map (some b)∧as=es.map (·.1)∧bs=es.map (·.2)∧VRs G noP ks as∧VRs G noP vs bs
 | μ,.func f a b,v=>∃ x y,v = .func f x y∧VRs G μ a x∧VRs G μ b y
 | _,.nilF,v=>v = .nilFunc
 | μ,.iface t x,v=>∃ y,v = .iface t y∧VR G μ x y
 | _,.nilI,v=>v = .nilIface
 | μ,.agg cs,v=>∃ l,v = .agg l∧VRs G μ cs l
 | μ,.tuple cs,v=>∃ l,v = .tuple l∧VRs G μ cs l
def VRs (G:Gz):Pm→List VV→List AV→Prop
 | _,[],l=>l=[]
 | μ,x::xs,l=>∃ y ys,l=y::ys∧VR G μ x y∧VRs G μ xs ys
end
mutual
theorem VR.mono {G K:Gz} (hg:G.le K):∀ {μ ν:Pm} (hm:μ.le ν) (x:VV) (v:AV),VR G μ x v→VR K ν x v
 | _,_,_,.bool _,_,q=>q
 | _,_,_,.int _ _,_,q=>q
 | _,_,_,.str _,_,q=>q
 | _,_,_,.nilP,_,q=>q
 | _,_,hm,.ptr _ _,_,⟨b,h,e⟩=>⟨b,hm _ _ h,e⟩
 | _,_,_,.gptr _ _,_,q=>q
 | _,_,_,.fptr cs o,_,⟨b,p,full,rw,st,as,h1,h2,h3,h4,h5⟩=>⟨b,p,full,rw,st,as,hg _ _ h1,h2,h3,h4,VRs.mono hg (Pm.le_refl _) cs _ h5⟩
 | _,_,_,.nilS,_,q=>q
 | _,_,hm,.slice _ _ _ _ _,_,⟨b,h,e⟩=>⟨b,hm _ _ h,e⟩
 | _,_,_,.fsl cs _ _,_,⟨h0,.inl q⟩=>⟨h0,.inl q⟩
 | _,_,_,.fsl cs _ _,_,⟨h0,.inr ⟨b,o,c,full,rw,st,as,h1,h2,h3,h4,h5,h6⟩⟩=>⟨h0,.inr ⟨b,o,c,full,rw,st,as,hg _ _ h1,h2,h3,h4,h5,VRs.mono hg (Pm.le_refl _) cs _ h6⟩⟩
 | _,_,_,.nilM,_,q=>q
 | _,_,hm,.map _,_,⟨b,h,e⟩=>⟨b,hm _ _ h,e⟩
 | _,_,_,.fmap ks vs,_,⟨b,es,as,bs,h1,h2,h3,h4,h5,h6⟩=>⟨b,es,as,bs,hg _ _ h1,h2,h3,h4,VRs.mono hg (Pm.le_refl _) ks _ h5,VRs.mono hg (Pm.le_refl _) vs _ h6⟩
 | _,_,hm,.func _ a b,_,⟨x,y,e,p,q⟩=>⟨x,y,e,VRs.mono hg hm a _ p,VRs.mono hg hm b _ q⟩
 | _,_,_,.nilF,_,q=>q
 | _,_,hm,.iface _ x,_,⟨y,e,p⟩=>⟨y,e,VR.mono hg hm x _ p⟩
 | _,_,_,.nilI,_,q=>q
 | _,_,hm,.agg cs,_,⟨l,e,p⟩=>⟨l,e,VRs.mono hg hm cs _ p⟩
 | _,_,hm,.tuple cs,_,⟨l,e,p⟩=>⟨l,e,VRs.mono hg hm cs _ p⟩
theorem VRs.mono {G K:Gz} (hg:G.le K):∀ {μ ν:Pm} (hm:μ.le ν) (x:List VV) (v:List AV),VRs G μ x v→VRs K ν x v
 | _,_,_,[],_,q=>q
 | _,_,hm,x::xs,_,⟨y,ys,e,p,q⟩=>⟨y,ys,e,VR.mono hg hm x _ p,VRs.mono hg hm xs _ q⟩
end
mutual
theorem VR.closed {G:Gz}:∀ {μ:Pm} (ν:Pm) (x:VV) (v:AV),closedB x=true→VR G μ x v→VR G ν x v
 | _,_,.bool _,_,_,q=>q
 | _,_,.int _ _,_,_,q=>q
 | _,_,.str _,_,_,q=>q
 | _,_,.nilP,_,_,q=>q
 | _,_,.ptr _ _,_,h,_=>by simp [closedB] at h
 | _,_,.gptr _ _,_,_,q=>q
 | _,_,.fptr cs o,_,_,q=>q
 | _,_,.nilS,_,_,q=>q
 | _,_,.slice _ _ _ _ _,_,h,_=>by simp [closedB] at h
 | _,_,.fsl cs _ _,_,_,q=>q
 | _,_,.nilM,_,_,q=>q
 | _,_,.map _,_,h,_=>by simp [closedB] at h
 | _,_,.fmap _ _,_,_,q=>q
 | _,ν,.func _ a b,_,h,⟨x,y,e,p,q⟩=>by
  simp only [closedB,Bool.and_eq_true] at h
  exact ⟨x,y,e,VRs.closed ν a _ h.1 p,VRs.closed ν b _ h.2 q⟩
 | _,_,.nilF,_,_,q=>q
 | _,ν,.iface _ x,_,h,⟨y,e,p⟩=>by
  simp only [closedB] at h
  exact ⟨y,e,VR.closed ν x _ h p⟩
 | _,_,.nilI,_,_,q=>q
 | _,ν,.agg cs,_,h,⟨l,e,p⟩=>by
  simp only [closedB] at h
  exact ⟨l,e,VRs.closed ν cs _ h p⟩
 | _,ν,.tuple cs,_,h,⟨l,e,p⟩=>by
  simp only [closedB] at h
  exact ⟨l,e,VRs.closed ν cs _ h p⟩
theorem VRs.closed {G:Gz}:∀ {μ:Pm} (ν:Pm) (x:List VV) (v:List AV),closedL x=true→VRs G μ x v→VRs G ν x v
 | _,_,[],_,_,q=>q
 | _,ν,x::xs,_,h,⟨y,ys,e,p,q⟩=>by
  simp only [closedL,Bool.and_eq_true] at h
  exact ⟨y,ys,e,VR.closed ν x _ h.1 p,VRs.closed ν xs _ h.2 q⟩
end
mutual
theorem VR.plain {G K:Gz}:∀ {μ:Pm} (ν:Pm) (x:VV) (v:AV),plainB x=true→VR G μ x v→VR K ν x v
 | _,_,.bool _,_,_,q=>q
 | _,_,.int _ _,_,_,q=>q
 | _,_,.str _,_,_,q=>q
 | _,_,.nilP,_,_,q=>q
 | _,_,.ptr _ _,_,h,_=>by simp [plainB] at h
 | _,_,.gptr _ _,_,_,q=>q
 | _,_,.fptr cs o,_,h,q=>by simp [plainB] at h
 | _,_,.nilS,_,_,q=>q
 | _,_,.slice _ _ _ _ _,_,h,_=>by simp [plainB] at h
 | _,_,.fsl cs _ _,_,h,q=>by simp [plainB] at h
 | _,_,.nilM,_,_,q=>q
 | _,_,.map _,_,h,_=>by simp [plainB] at h
 | _,_,.fmap _ _,_,h,q=>by simp [plainB] at h
 | _,ν,.func _ a b,_,h,⟨x,y,e,p,q⟩=>by
  simp only [plainB,Bool.and_eq_true] at h
  exact ⟨x,y,e,VRs.plain ν a _ h.1 p,VRs.plain ν b _ h.2 q⟩
 | _,_,.nilF,_,_,q=>q
 | _,ν,.iface _ x,_,h,⟨y,e,p⟩=>by
  simp only [plainB] at h
  exact ⟨y,e,VR.plain ν x _ h p⟩
 | _,_,.nilI,_,_,q=>q
 | _,ν,.agg cs,_,h,⟨l,e,p⟩=>by
  simp only [plainB] at h
  exact ⟨l,e,VRs.plain ν cs _ h p⟩
 | _,ν,.tuple cs,_,h,⟨l,e,p⟩=>by
  simp only [plainB] at h
  exact ⟨l,e,VRs.plain ν cs _ h p⟩
theorem VRs.plain {G K:Gz}:∀ {μ:Pm} (ν:Pm) (x:List VV) (v:List AV),plainL x=true→VRs G μ x v→VRs K ν x v
 | _,_,[],_,_,q=>q
 | _,ν,x::xs,_,h,⟨y,ys,e,p,q⟩=>by
  simp only [plainL,Bool.and_eq_true] at h
  exact ⟨y,ys,e,VR.plain ν x _ h.1 p,VRs.plain ν xs _ h.2 q⟩
end
section
variable {G:Gz} {μ:Pm}
theorem VRs.length:∀ {x:List VV} {v:List AV},VRs G μ x v→v.length=x.length
 | [],_,q=>by simp only [VRs] at q;simp [q]
 | x::xs,_,⟨y,ys,e,_,q⟩=>by rw [e];simp [VRs.length q]
theorem VRs.nil:VRs G μ [] []:=rfl
theorem VRs.cons {x:VV} {v:AV} {xs:List VV} {vs:List AV} (h:VR G μ x v) (k:VRs G μ xs vs):VRs G μ (x::xs) (v::vs):=⟨v,vs,rfl,h,k⟩
theorem VRs.get:∀ {x:List VV} {v:List AV},VRs G μ x v→∀ (i:Nat) (a:VV),x[i]?=some a→∃ b,v[i]?=some b∧VR G μ a b
 | [],_,_,i,a,h=>by simp at h
 | x::xs,_,⟨y,ys,e,p,q⟩,i,a,h=>by
  subst e
  cases i with
  | zero=>simp at h;subst h;exact ⟨y,rfl,p⟩
  | succ i=>simp at h;simpa using VRs.get q i a h
theorem VRs.append:∀ {x x':List VV} {v v':List AV},VRs G μ x v→VRs G μ x' v'→VRs G μ (x++x') (v++v')
 | [],_,_,_,p,q=>by simp only [VRs] at p;subst p;simpa using q
 | x::xs,_,_,_,⟨y,ys,e,a,b⟩,q=>by subst e;exact ⟨y,ys++_,rfl,a,VRs.append b q⟩
theorem VRs.drop:∀ (n:Nat) {x:List VV} {v:List AV},VRs G μ x v→VRs G μ (x.drop n) (v.drop n)
 | 0,_,_,p=>p
 | n+1,[],_,p=>by simp only [VRs] at p;subst p;simp [VRs]
 | n+1,x::xs,_,⟨y,ys,e,a,b⟩=>by subst e;simpa using VRs.drop n b
theorem VRs.take:∀ (n:Nat) {x:List VV} {v:List AV},VRs G μ x v→VRs G μ (x.take n) (v.take n)
 | 0,_,_,_=>by simp [VRs]
 | n+1,[],_,p=>by simp only [VRs] at p;subst p;simp [VRs]
 | n+1,x::xs,_,⟨y,ys,e,a,b⟩=>by subst e;exact ⟨y,ys.take n,by simp,a,VRs.take n b⟩
theorem VRs.rep {z:List VV} {a:List AV} (h:VRs G μ z a):∀ n,VRs G μ (repV n z) (rep n a)
 | 0=>by simp [repV,FR.rep,VRs]
 | n+1=>by simp only [repV,FR.rep,List.replicate_succ,List.flatten_cons];exact VRs.append h (VRs.rep h n)
theorem VR.cells {x:VV} {v:AV} (h:VR G μ x v) (hn:ntV x=true):VRs G μ x.cells v.cells∧ntA v=true:=by
 have one:∀ {x v},VR G μ x v→v.cells=[v]→x.cells=[x]→VRs G μ x.cells v.cells:=fun h e e'=>by rw [e,e'];exact VRs.cons h VRs.nil
 cases x with
 | agg cs=>obtain ⟨l,rfl,q⟩:=h;exact ⟨q,rfl⟩
 | tuple cs=>simp [ntV] at hn
 | ptr i o=>have h':=h;obtain ⟨b,e,rfl⟩:=h;exact ⟨one h' rfl rfl,rfl⟩
 | slice i o n e c=>have h':=h;obtain ⟨b,e,rfl⟩:=h;exact ⟨one h' rfl rfl,rfl⟩
 | map i=>have h':=h;obtain ⟨b,e,rfl⟩:=h;exact ⟨one h' rfl rfl,rfl⟩
 | fptr cs o=>have h':=h;obtain ⟨b,p,full,rw,st,as,h1,rfl,h3⟩:=h;exact ⟨one h' rfl rfl,rfl⟩
 | fsl cs n e =>
  have h':=h
  obtain ⟨h0,⟨h1,rfl⟩ | ⟨b,o,c,full,rw,st,as,h1,rfl,h3⟩⟩:=h<;>exact ⟨one h' rfl rfl,rfl⟩
 | fmap ks vs=>have h':=h;obtain ⟨b,es,as,bs,h1,rfl,h3⟩:=h;exact ⟨one h' rfl rfl,rfl⟩
 | func f a b=>have h':=h;obtain ⟨x,y,rfl,p⟩:=h;exact ⟨one h' rfl rfl,rfl⟩
 | iface t x=>have h':=h;obtain ⟨x,rfl,p⟩:=h;exact ⟨one h' rfl rfl,rfl⟩
 | _=>have h':=h;simp only [VR] at h;subst h;exact ⟨one h' rfl rfl,rfl⟩
theorem part_rel {cs:List VV} {as:List AV} (h:VRs G μ cs as) {off:Nat} {sz:Option Nat} {v:VV} (hv:partV cs off sz=some v):∃ a,partA as off sz=some a∧VR G μ v a:=by
 cases sz with
 | none=>exact VRs.get h off v hv
 | some n =>
  simp only [partV] at hv
  split at hv<;>try (cases hv;done)
  rename_i hle
  obtain rfl:=Option.some.inj hv
  refine ⟨.agg ((as.drop off).take n),?_,_,rfl,VRs.take _ (VRs.drop _ h)⟩
  simp only [partA]
  rw [if_pos (by rw [VRs.length h];exact hle)]
theorem part_win {cs:List VV} {full:List AV} {p:Nat} (h:VRs G μ cs ((full.drop p).take cs.length)) (hl:p+cs.length≤full.length) {off:Nat} {sz:Option Nat} {v:VV} (hv:partV cs off sz=some v) :
  ∃ a,partA full (p+off) sz=some a∧VR G μ v a:=by
 obtain ⟨a,ha,hr⟩:=part_rel h hv
 refine ⟨a,?_,hr⟩
 cases sz with
 | none =>
  simp only [partA] at ha ⊢
  have hlt:off < cs.length:=by
   simp only [partV] at hv
   exact (List.getElem?_eq_some_iff.1 hv).1
  rw [List.getElem?_take_of_lt hlt,List.getElem?_drop] at ha
  exact ha
 | some n =>
  simp only [partA] at ha ⊢
  simp only [partV] at hv
  split at hv<;>try (cases hv;done)
  rename_i hle
  rw [if_pos (by simp;omega)] at ha
  rw [if_pos (by omega)]
  rw [←ha]
  congr 2
  rw [List.drop_take,List.take_take,List.drop_drop,Nat.min_eq_left (by omega)]
theorem splice_rel {cs v:List VV} {as b:List AV} (h:VRs G μ cs as) (k:VRs G μ v b) (off:Nat):VRs G μ (spliceV cs off v) (splice as off b):=by
 unfold spliceV splice
 rw [VRs.length k]
 exact VRs.append (VRs.take _ h) (VRs.append k (VRs.drop _ h))
theorem fill_rel:∀ {ps:List (Nat × Nat)} {cs vs:List VV} {as bs:List AV} {r:List VV},VRs G μ cs as→VRs G μ vs bs→fillV cs ps vs=some r→∃ r',fillA as ps bs=some r'∧VRs G μ r r'
 | [],cs,[],as,bs,r,h,k,e=>by
  simp only [VRs] at k;subst k
  simp only [fillV,Option.some.injEq] at e;subst e
  exact ⟨as,rfl,h⟩
 | [],cs,v::vs,as,bs,r,h,k,e=>by simp [fillV] at e
 | (off,size)::ps,cs,[],as,bs,r,h,k,e=>by simp [fillV] at e
 | (off,size)::ps,cs,v::vs,as,bs,r,h,⟨y,ys,e1,k1,k2⟩,e=>by
  subst e1
  simp only [fillV] at e
  split at e<;>try (cases e;done)
  rename_i hc
  obtain ⟨c1,c2,c3⟩:=hc
  obtain ⟨q1,q2⟩:=VR.cells k1 c3
  obtain ⟨r',hr,hR⟩:=fill_rel (splice_rel h q1 off) k2 e
  refine ⟨r',?_,hR⟩
  simp only [fillA]
  rw [if_pos ⟨by rw [VRs.length q1];exact c1,by rw [VRs.length h];exact c2,q2⟩]
  exact hr
mutual
theorem cv_rel:∀ (a:AV) (v:VV),cv a=some v→VR G μ v a
 | .bool b,v,h=>by simp only [cv,Option.some.injEq] at h;subst h;rfl
 | .int k n,v,h=>by simp only [cv,Option.some.injEq] at h;subst h;rfl
 | .str s,v,h=>by simp only [cv,Option.some.injEq] at h;subst h;rfl
 | .ptr none,v,h=>by simp only [cv,Option.some.injEq] at h;subst h;rfl
 | .ptr (some (i,o)),v,h=>by simp only [cv,Option.some.injEq] at h;subst h;rfl
 | .slice a n c,v,h=>by
  unfold cv at h
  split at h<;>simp_all
  subst h;rfl
 | .map a,v,h=>by
  unfold cv at h
  split at h<;>simp_all
  subst h;rfl
 | .func f a b,v,h=>by
  simp only [cv] at h
  split at h<;>try (cases h;done)
  rename_i x y hx hy
  obtain rfl:=Option.some.inj h
  exact ⟨a,b,rfl,cvs_rel a x hx,cvs_rel b y hy⟩
 | .nilFunc,v,h=>by simp only [cv,Option.some.injEq] at h;subst h;rfl
 | .iface t x,v,h=>by
  simp only [cv] at h
  split at h<;>try (cases h;done)
  rename_i y hy
  obtain rfl:=Option.some.inj h
  exact ⟨x,rfl,cv_rel x y hy⟩
 | .nilIface,v,h=>by simp only [cv,Option.some.injEq] at h;subst h;rfl
 | .agg cs,v,h=>by
  simp only [cv] at h
  split at h<;>try (cases h;done)
  rename_i y hy
  obtain rfl:=Option.some.inj h
  exact ⟨cs,rfl,cvs_rel cs y hy⟩
 | .tuple cs,v,h=>by
  simp only [cv] at h
  split at h<;>try (cases h;done)
  rename_i y hy
  obtain rfl:=Option.some.inj h
  exact ⟨cs,rfl,cvs_rel cs y hy⟩
theorem cvs_rel:∀ (a:List AV) (v:List VV),cvs a=some v→VRs G μ v a
 | [],v,h=>by simp only [cvs,Option.some.injEq] at h;subst h;rfl
 | a::l,v,h=>by
  simp only [cvs] at h
  split at h<;>try (cases h;done)
  rename_i x y hx hy
  obtain rfl:=Option.some.inj h
  exact VRs.cons (cv_rel a x hx) (cvs_rel l y hy)
end
theorem toA_rel {v:VV} {a b:AV} (h:toA v=some a) (k:VR G μ v b):b=a:=by
 cases v<;>simp only [toA,Option.some.injEq,reduceCtorEq] at h<;>(simp only [VR] at k;rw [k,h])
theorem toAs_rel:∀ {v:List VV} {a b:List AV},toAs v=some a→VRs G μ v b→b=a
 | [],a,b,h,k=>by simp only [toAs,Option.some.injEq] at h;simp only [VRs] at k;rw [k,h]
 | v::l,a,b,h,⟨y,ys,e,k1,k2⟩=>by
  simp only [toAs] at h
  split at h<;>try (cases h;done)
  split at h<;>try (cases h;done)
  rename_i x hx _ xs hxs
  obtain rfl:=Option.some.inj h
  rw [e,toA_rel hx k1,toAs_rel hxs k2]
theorem ofA_rel {a:AV} {v:VV} (h:ofA a=some v):VR G μ v a:=by
 cases a<;>simp only [ofA,Option.some.injEq,reduceCtorEq] at h<;>subst h<;>rfl
theorem nat_rel {v:VV} {a:AV} {n:Nat} (h:qzk v=some n) (k:VR G μ v a):natOf a=some n:=by
 cases v<;>simp only [qzk,reduceCtorEq] at h
 rename_i kd m
 simp only [VR] at k;subst k
 split at h<;>try (cases h;done)
 rename_i h0
 obtain rfl:=Option.some.inj h
 obtain ⟨m',rfl⟩:=Int.eq_ofNat_of_zero_le h0
 rfl
theorem bnd_rel {lo hi:Bool} {len most most':Nat} {vs:List VV} {as:List AV} {r:Nat × Nat} (h:bndV lo hi len most vs=some r) (k:VRs G μ vs as) (hm:most≤most'):bnds lo hi len most' as=some r:=by
 unfold bndV at h
 split at h
 ·simp only [VRs] at k;subst k;simpa [bnds] using h
 ·rename_i l
  obtain ⟨y,ys,e,k1,k2⟩:=k
  simp only [VRs] at k2;subst k2;subst e
  split at h<;>try (cases h;done)
  rename_i n hn
  simp only [bnds,nat_rel hn k1]
  exact h
 ·rename_i l
  obtain ⟨y,ys,e,k1,k2⟩:=k
  simp only [VRs] at k2;subst k2;subst e
  split at h<;>try (cases h;done)
  rename_i n hn
  simp only [bnds,nat_rel hn k1]
  split at h<;>try (cases h;done)
  rw [if_pos (by omega)];exact h
 ·rename_i l u
  obtain ⟨y,ys,e,k1,y2,ys2,e2,k2,k3⟩:=k
  simp only [VRs] at k3;subst k3;subst e2;subst e
  split at h<;>try (cases h;done)
  rename_i n m hn hm'
  simp only [bnds,nat_rel hn k1,nat_rel hm' k2]
  split at h<;>try (cases h;done)
  rw [if_pos (by omega)];exact h
 ·cases h
theorem bndV_le {lo hi:Bool} {len most:Nat} {vs:List VV} {l u:Nat} (h:bndV lo hi len most vs=some (l,u)) (hl:len≤most):l≤u∧u≤most:=by
 unfold bndV at h
 split at h
 ·simp only [Option.some.injEq,Prod.mk.injEq] at h;omega
 ·split at h<;>try (cases h;done)
  split at h<;>try (cases h;done)
  simp only [Option.some.injEq,Prod.mk.injEq] at h;omega
 ·split at h<;>try (cases h;done)
  split at h<;>try (cases h;done)
  simp only [Option.some.injEq,Prod.mk.injEq] at h;omega
 ·split at h<;>try (cases h;done)
  split at h<;>try (cases h;done)
  simp only [Option.some.injEq,Prod.mk.injEq] at h;omega
 ·cases h
end
end
end Go.VL
