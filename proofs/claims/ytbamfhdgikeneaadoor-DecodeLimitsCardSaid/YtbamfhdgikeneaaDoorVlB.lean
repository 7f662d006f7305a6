import Derived.Test.YtbamfhdgikeneaaDoorVlA
set_option linter.unusedSimpArgs false
set_option linter.unusedVariables false
namespace Go.VL
open Go.FR
noncomputable section
abbrev Gz:=Nat→Option ABlk
abbrev Pm:=Nat→Option Nat
def noP:Pm:=fun _=>none
def Gz.le (G K:Gz):Prop:=∀ b x,G b=some x→K b=some x
def Pm.le (μ ν:Pm):Prop:=∀ i b,μ i=some b→ν i=some b
theorem Gz.le_refl (G:Gz):G.le G:=fun _ _ h=>h
theorem Pm.le_refl (μ:Pm):μ.le μ:=fun _ _ h=>h
theorem Gz.le_trans {a b c:Gz} (h:a.le b) (k:b.le c):a.le c:=fun x y q=>k x y (h x y q)
theorem Pm.le_trans {a b c:Pm} (h:a.le b) (k:b.le c):a.le c:=fun x y q=>k x y (h x y q)
theorem noP_le (μ:Pm):noP.le μ:=fun _ _ h=>by cases h
mutual
def VR (G:Gz):Pm→VV→AV→Prop
 | _,.bool b,v=>v = .bool b
 | _,.int k n,v=>v = .int k n
 | _,.str s,v=>v = .str s
 | _,.nilP,v=>v = .ptr none
 | μ,.ptr i o,v=>∃ b,μ i=some b∧v = .ptr (some (b,o))
 | _,.gptr i o,v=>v = .ptr (some (i,o))
 | _,.fptr cs o,v=>∃ b p full rw st as,G b=some (.cells full rw st)∧v = .ptr (some (b,p+o))∧as=(full.drop p).take cs.length∧p+cs.length≤full.length∧VRs G noP cs as
 | _,.nilS,v=>v = .slice none 0 (.exact 0)
 | μ,.slice i o n e c,v=>∃ b,μ i=some b∧v = .slice (some (b,o)) n c
 | _,.fsl cs n e,v=>cs.length=n*e∧((n=0∧v = .slice none 0 (.exact 0)) ∨
   ∃ b o c full rw st as,G b=some (.cells full rw st)∧v = .slice (some (b,o)) n c∧capOK e n c∧as=(full.drop o).take (n*e)∧o+n*e≤full.length∧VRs G noP cs as)
 | _,.nilM,v=>v = .map none
 | μ,.map i,v=>∃ b,μ i=some b∧v = .map (some b)
 | _,.fmap ks vs,v=>∃ b es as bs,G b=some (.map es)∧v = .map (some b)∧as=es.map (·.1)∧bs=es.map (·.2)∧VRs G noP ks as∧VRs G noP vs bs
 | μ,.func f a b,v=>∃ x y,v = .func f x y∧VRs G μ a x∧VRs G μ b y
 | _,.nilF,v=>v = .nilFunc
 | μ,.iface t x,v=>∃ y,v = .iface t y∧VR G μ x y
 | _,.nilI,v=>v = .nilIface
 | μ,.agg cs,v=>∃ l,v = .agg l∧VRs G μ cs l
 | μ,.tuple cs,v=>∃ l,v = .tuple l∧VRs G μ cs l
def VRs (G:Gz):Pm→List VV→List AV→Prop
 | _,[],l=>l=[]
 | μ,x::xs,l=>∃ y ys,l=y::ys∧VR G μ x y∧VRs G μ xs ys
end
mutual
theorem VR.mono {G K:Gz} (hg:G.le K):∀ {μ ν:Pm} (hm:μ.le ν) (x:VV) (v:AV),VR G μ x v→VR K ν x v
 | _,_,_,.bool _,_,q=>q
 | _,_,_,.int _ _,_,q=>q
 | _,_,_,.str _,_,q=>q
 | _,_,_,.nilP,_,q=>q
 | _,_,hm,.ptr _ _,_,⟨b,h,e⟩=>⟨b,hm _ _ h,e⟩
 | _,_,_,.gptr _ _,_,q=>q
 | _,_,_,.fptr cs o,_,⟨b,p,full,rw,st,as,h1,h2,h3,h4,h5⟩=>⟨b,p,full,rw,st,as,hg _ _ h1,h2,h3,h4,VRs.mono hg (Pm.le_refl _) cs _ h5⟩
 | _,_,_,.nilS,_,q=>q
 | _,_,hm,.slice _ _ _ _ _,_,⟨b,h,e⟩=>⟨b,hm _ _ h,e⟩
 | _,_,_,.fsl cs _ _,_,⟨h0,.inl q⟩=>⟨h0,.inl q⟩
 | _,_,_,.fsl cs _ _,_,⟨h0,.inr ⟨b,o,c,full,rw,st,as,h1,h2,h3,h4,h5,h6⟩⟩=>⟨h0,.inr ⟨b,o,c,full,rw,st,as,hg _ _ h1,h2,h3,h4,h5,VRs.mono hg (Pm.le_refl _) cs _ h6⟩⟩
 | _,_,_,.nilM,_,q=>q
 | _,_,hm,.map _,_,⟨b,h,e⟩=>⟨b,hm _ _ h,e⟩
 | _,_,_,.fmap ks vs,_,⟨b,es,as,bs,h1,h2,h3,h4,h5,h6⟩=>⟨b,es,as,bs,hg _ _ h1,h2,h3,h4,VRs.mono hg (Pm.le_refl _) ks _ h5,VRs.mono hg (Pm.le_refl _) vs _ h6⟩
 | _,_,hm,.func _ a b,_,⟨x,y,e,p,q⟩=>⟨x,y,e,VRs.mono hg hm a _ p,VRs.mono hg hm b _ q⟩
 | _,_,_,.nilF,_,q=>q
 | _,_,hm,.iface _ x,_,⟨y,e,p⟩=>⟨y,e,VR.mono hg hm x _ p⟩
 | _,_,_,.nilI,_,q=>q
 | _,_,hm,.agg cs,_,⟨l,e,p⟩=>⟨l,e,VRs.mono hg hm cs _ p⟩
 | _,_,hm,.tuple cs,_,⟨l,e,p⟩=>⟨l,e,VRs.mono hg hm cs _ p⟩
theorem VRs.mono {G K:Gz} (hg:G.le K):∀ {μ ν:Pm} (hm:μ.le ν) (x:List VV) (v:List AV),VRs G μ x v→VRs K ν x v
 | _,_,_,[],_,q=>q
 | _,_,hm,x::xs,_,⟨y,ys,e,p,q⟩=>⟨y,ys,e,VR.mono hg hm x _ p,VRs.mono hg hm xs _ q⟩
end
mutual
theorem VR.closed {G:Gz}:∀ {μ:Pm} (ν:Pm) (x:VV) (v:AV),closedB x=true→VR G μ x v→VR G ν x v
 | _,_,.bool _,_,_,q=>q
 | _,_,.int _ _,_,_,q=>q
 | _,_,.str _,_,_,q=>q
 | _,_,.nilP,_,_,q=>q
 | _,_,.ptr _ _,_,h,_=>by simp [closedB] at h
 | _,_,.gptr _ _,_,_,q=>q
 | _,_,.fptr cs o,_,_,q=>q
 | _,_,.nilS,_,_,q=>q
 | _,_,.slice _ _ _ _ _,_,h,_=>by simp [closedB] at h
 | _,_,.fsl cs _ _,_,_,q=>q
 | _,_,.nilM,_,_,q=>q
 | _,_,.map _,_,h,_=>by simp [closedB] at h
 | _,_,.fmap _ _,_,_,q=>q
 | _,ν,.func _ a b,_,h,⟨x,y,e,p,q⟩=>by
  simp only [closedB,Bool.and_eq_true] at h
  exact ⟨x,y,e,VRs.closed ν a _ h.1 p,VRs.closed ν b _ h.2 q⟩
 | _,_,.nilF,_,_,q=>q
 | _,ν,.iface _ x,_,h,⟨y,e,p⟩=>by
  simp only [closedB] at h
  exact ⟨y,e,VR.closed ν x _ h p⟩
 | _,_,.nilI,_,_,q=>q
 | _,ν,.agg cs,_,h,⟨l,e,p⟩=>by
  simp only [closedB] at h
  exact ⟨l,e,VRs.closed ν cs _ h p⟩
 | _,ν,.tuple cs,_,h,⟨l,e,p⟩=>by
  simp only [closedB] at h
  exact ⟨l,e,VRs.closed ν cs _ h p⟩
theorem VRs.closed {G:Gz}:∀ {μ:Pm} (ν:Pm) (x:List VV) (v:List AV),closedL x=true→VRs G μ x v→VRs G ν x v
 | _,_,[],_,_,q=>q
 | _,ν,x::xs,_,h,⟨y,ys,e,p,q⟩=>by
  simp only [closedL,Bool.and_eq_true] at h
  exact ⟨y,ys,e,VR.closed ν x _ h.1 p,VRs.closed ν xs _ h.2 q⟩
end
mutual
theorem VR.plain {G K:Gz}:∀ {μ:Pm} (ν:Pm) (x:VV) (v:AV),plainB x=true→VR G μ x v→VR K ν x v
 | _,_,.bool _,_,_,q=>q
 | _,_,.int _ _,_,_,q=>q
 | _,_,.str _,_,_,q=>q
 | _,_,.nilP,_,_,q=>q
 | _,_,.ptr _ _,_,h,_=>by simp [plainB] at h
 | _,_,.gptr _ _,_,_,q=>q
 | _,_,.fptr cs o,_,h,q=>by simp [plainB] at h
 | _,_,.nilS,_,_,q=>q
 | _,_,.slice _ _ _ _ _,_,h,_=>by simp [plainB] at h
 | _,_,.fsl cs _ _,_,h,q=>by simp [plainB] at h
 | _,_,.nilM,_,_,q=>q
 | _,_,.map _,_,h,_=>by simp [plainB] at h
 | _,_,.fmap _ _,_,h,q=>by simp [plainB] at h
 | _,ν,.func _ a b,_,h,⟨x,y,e,p,q⟩=>by
  simp only [plainB,Bool.and_eq_true] at h
  exact ⟨x,y,e,VRs.plain ν a _ h.1 p,VRs.plain ν b _ h.2 q⟩
 | _,_,.nilF,_,_,q=>q
 | _,ν,.iface _ x,_,h,⟨y,e,p⟩=>by
  simp only [plainB] at h
  exact ⟨y,e,VR.plain ν x _ h p⟩
 | _,_,.nilI,_,_,q=>q
 | _,ν,.agg cs,_,h,⟨l,e,p⟩=>by
  simp only [plainB] at h
  exact ⟨l,e,VRs.plain ν cs _ h p⟩
 | _,ν,.tuple cs,_,h,⟨l,e,p⟩=>by
  simp only [plainB] at h
  exact ⟨l,e,VRs.plain ν cs _ h p⟩
theorem VRs.plain {G K:Gz}:∀ {μ:Pm} (ν:Pm) (x:List VV) (v:List AV),plainL x=true→VRs G μ x v→VRs K ν x v
 | _,_,[],_,_,q=>q
 | _,ν,x::xs,_,h,⟨y,ys,e,p,q⟩=>by
  simp only [plainL,Bool.and_eq_true] at h
  exact ⟨y,ys,e,VR.plain ν x _ h.1 p,VRs.plain ν xs _ h.2 q⟩
end
section
variable {G:Gz} {μ:Pm}
theorem VRs.length:∀ {x:List VV} {v:List AV},VRs G μ x v→v.length=x.length
 | [],_,q=>by simp only [VRs] at q;simp [q]
 | x::xs,_,⟨y,ys,e,_,q⟩=>by rw [e];simp [VRs.length q]
theorem VRs.nil:VRs G μ [] []:=rfl
theorem VRs.cons {x:VV} {v:AV} {xs:List VV} {vs:List AV} (h:VR G μ x v) (k:VRs G μ xs vs):VRs G μ (x::xs) (v::vs):=⟨v,vs,rfl,h,k⟩
theorem VRs.get:∀ {x:List VV} {v:List AV},VRs G μ x v→∀ (i:Nat) (a:VV),x[i]?=some a→∃ b,v[i]?=some b∧VR G μ a b
 | [],_,_,i,a,h=>by simp at h
 | x::xs,_,⟨y,ys,e,p,q⟩,i,a,h=>by
  subst e
  cases i with
  | zero=>simp at h;subst h;exact ⟨y,rfl,p⟩
  | succ i=>simp at h;simpa using VRs.get q i a h
theorem VRs.append:∀ {x x':List VV} {v v':List AV},VRs G μ x v→VRs G μ x' v'→VRs G μ (x++x') (v++v')
 | [],_,_,_,p,q=>by simp only [VRs] at p;subst p;simpa using q
 | x::xs,_,_,_,⟨y,ys,e,a,b⟩,q=>by subst e;exact ⟨y,ys++_,rfl,a,VRs.append b q⟩
theorem VRs.drop:∀ (n:Nat) {x:List VV} {v:List AV},VRs G μ x v→VRs G μ (x.drop n) (v.drop n)
 | 0,_,_,p=>p
 | n+1,[],_,p=>by simp only [VRs] at p;subst p;simp [VRs]
 | n+1,x::xs,_,⟨y,ys,e,a,b⟩=>by subst e;simpa using VRs.drop n b
theorem VRs.take:∀ (n:Nat) {x:List VV} {v:List AV},VRs G μ x v→VRs G μ (x.take n) (v.take n)
 | 0,_,_,_=>by simp [VRs]
 | n+1,[],_,p=>by simp only [VRs] at p;subst p;simp [VRs]
 | n+1,x::xs,_,⟨y,ys,e,a,b⟩=>by subst e;exact ⟨y,ys.take n,by simp,a,VRs.take n b⟩
theorem VRs.rep {z:List VV} {a:List AV} (h:VRs G μ z a):∀ n,VRs G μ (repV n z) (rep n a)
 | 0=>by simp [repV,FR.rep,VRs]
 | n+1=>by simp only [repV,FR.rep,List.replicate_succ,List.flatten_cons];exact VRs.append h (VRs.rep h n)
theorem VR.cells {x:VV} {v:AV} (h:VR G μ x v) (hn:ntV x=true):VRs G μ x.cells v.cells∧ntA v=true:=by
 have one:∀ {x v},VR G μ x v→v.cells=[v]→x.cells=[x]→VRs G μ x.cells v.cells:=fun h e e'=>by rw [e,e'];exact VRs.cons h VRs.nil
 cases x with
 | agg cs=>obtain ⟨l,rfl,q⟩:=h;exact ⟨q,rfl⟩
 | tuple cs=>simp [ntV] at hn
 | ptr i o=>have h':=h;obtain ⟨b,e,rfl⟩:=h;exact ⟨one h' rfl rfl,rfl⟩
 | slice i o n e c=>have h':=h;obtain ⟨b,e,rfl⟩:=h;exact ⟨one h' rfl rfl,rfl⟩
 | map i=>have h':=h;obtain ⟨b,e,rfl⟩:=h;exact ⟨one h' rfl rfl,rfl⟩
 | fptr cs o=>have h':=h;obtain ⟨b,p,full,rw,st,as,h1,rfl,h3⟩:=h;exact ⟨one h' rfl rfl,rfl⟩
 | fsl cs n e =>
  have h':=h
  obtain ⟨h0,⟨h1,rfl⟩ | ⟨b,o,c,full,rw,st,as,h1,rfl,h3⟩⟩:=h<;>exact ⟨one h' rfl rfl,rfl⟩
 | fmap ks vs=>have h':=h;obtain ⟨b,es,as,bs,h1,rfl,h3⟩:=h;exact ⟨one h' rfl rfl,rfl⟩
 | func f a b=>have h':=h;obtain ⟨x,y,rfl,p⟩:=h;exact ⟨one h' rfl rfl,rfl⟩
 | iface t x=>have h':=h;obtain ⟨x,rfl,p⟩:=h;exact ⟨one h' rfl rfl,rfl⟩
 | _=>have h':=h;simp only [VR] at h;subst h;exact ⟨one h' rfl rfl,rfl⟩
theorem part_rel {cs:List VV} {as:List AV} (h:VRs G μ cs as) {off:Nat} {sz:Option Nat} {v:VV} (hv:partV cs off sz=some v):∃ a,partA as off sz=some a∧VR G μ v a:=by
 cases sz with
 | none=>exact VRs.get h off v hv
 | some n =>
  simp only [partV] at hv
  split at hv<;>try (cases hv;done)
  rename_i hle
  obtain rfl:=Option.some.inj hv
  refine ⟨.agg ((as.drop off).take n),?_,_,rfl,VRs.take _ (VRs.drop _ h)⟩
  simp only [partA]
  rw [if_pos (by rw [VRs.length h];exact hle)]
theorem part_win {cs:List VV} {full:List AV} {p:Nat} (h:VRs G μ cs ((full.drop p).take cs.length)) (hl:p+cs.length≤full.length) {off:Nat} {sz:Option Nat} {v:VV} (hv:partV cs off sz=some v) :
  ∃ a,partA full (p+off) sz=some a∧VR G μ v a:=by
 obtain ⟨a,ha,hr⟩:=part_rel h hv
 refine ⟨a,?_,hr⟩
 cases sz with
 | none =>
  simp only [partA] at ha ⊢
  have hlt:off < cs.length:=by
   simp only [partV] at hv
   exact (List.getElem?_eq_some_iff.1 hv).1
  rw [List.getElem?_take_of_lt hlt,List.getElem?_drop] at ha
  exact ha
 | some n =>
  simp only [partA] at ha ⊢
  simp only [partV] at hv
  split at hv<;>try (cases hv;done)
  rename_i hle
  rw [if_pos (by simp;omega)] at ha
  rw [if_pos (by omega)]
  rw [←ha]
  congr 2
  rw [List.drop_take,List.take_take,List.drop_drop,Nat.min_eq_left (by omega)]
theorem splice_rel {cs v:List VV} {as b:List AV} (h:VRs G μ cs as) (k:VRs G μ v b) (off:Nat):VRs G μ (spliceV cs off v) (splice as off b):=by
 unfold spliceV splice
 rw [VRs.length k]
 exact VRs.append (VRs.take _ h) (VRs.append k (VRs.drop _ h))
theorem fill_rel:∀ {ps:List (Nat × Nat)} {cs vs:List VV} {as bs:List AV} {r:List VV},VRs G μ cs as→VRs G μ vs bs→fillV cs ps vs=some r→∃ r',fillA as ps bs=some r'∧VRs G μ r r'
 | [],cs,[],as,bs,r,h,k,e=>by
  simp only [VRs] at k;subst k
  simp only [fillV,Option.some.injEq] at e;subst e
  exact ⟨as,rfl,h⟩
 | [],cs,v::vs,as,bs,r,h,k,e=>by simp [fillV] at e
 | (off,size)::ps,cs,[],as,bs,r,h,k,e=>by simp [fillV] at e
 | (off,size)::ps,cs,v::vs,as,bs,r,h,⟨y,ys,e1,k1,k2⟩,e=>by
  subst e1
  simp only [fillV] at e
  split at e<;>try (cases e;done)
  rename_i hc
  obtain ⟨c1,c2,c3⟩:=hc
  obtain ⟨q1,q2⟩:=VR.cells k1 c3
  obtain ⟨r',hr,hR⟩:=fill_rel (splice_rel h q1 off) k2 e
  refine ⟨r',?_,hR⟩
  simp only [fillA]
  rw [if_pos ⟨by rw [VRs.length q1];exact c1,by rw [VRs.length h];exact c2,q2⟩]
  exact hr
mutual
theorem cv_rel:∀ (a:AV) (v:VV),cv a=some v→VR G μ v a
 | .bool b,v,h=>by simp only [cv,Option.some.injEq] at h;subst h;rfl
 | .int k n,v,h=>by simp only [cv,Option.some.injEq] at h;subst h;rfl
 | .str s,v,h=>by simp only [cv,Option.some.injEq] at h;subst h;rfl
 | .ptr none,v,h=>by simp only [cv,Option.some.injEq] at h;subst h;rfl
 | .ptr (some (i,o)),v,h=>by simp only [cv,Option.some.injEq] at h;subst h;rfl
 | .slice a n c,v,h=>by
  unfold cv at h
  split at h<;>simp_all
  subst h;rfl
 | .map a,v,h=>by
  unfold cv at h
  split at h<;>simp_all
  subst h;rfl
 | .func f a b,v,h=>by
  simp only [cv] at h
  split at h<;>try (cases h;done)
  rename_i x y hx hy
  obtain rfl:=Option.some.inj h
  exact ⟨a,b,rfl,cvs_rel a x hx,cvs_rel b y hy⟩
 | .nilFunc,v,h=>by simp only [cv,Option.some.injEq] at h;subst h;rfl
 | .iface t x,v,h=>by
  simp only [cv] at h
  split at h<;>try (cases h;done)
  rename_i y hy
  obtain rfl:=Option.some.inj h
  exact ⟨x,rfl,cv_rel x y hy⟩
 | .nilIface,v,h=>by simp only [cv,Option.some.injEq] at h;subst h;rfl
 | .agg cs,v,h=>by
  simp only [cv] at h
  split at h<;>try (cases h;done)
  rename_i y hy
  obtain rfl:=Option.some.inj h
  exact ⟨cs,rfl,cvs_rel cs y hy⟩
 | .tuple cs,v,h=>by
  simp only [cv] at h
  split at h<;>try (cases h;done)
  rename_i y hy
  obtain rfl:=Option.some.inj h
  exact ⟨cs,rfl,cvs_rel cs y hy⟩
theorem cvs_rel:∀ (a:List AV) (v:List VV),cvs a=some v→VRs G μ v a
 | [],v,h=>by simp only [cvs,Option.some.injEq] at h;subst h;rfl
 | a::l,v,h=>by
  simp only [cvs] at h
  split at h<;>try (cases h;done)
  rename_i x y hx hy
  obtain rfl:=Option.some.inj h
  exact VRs.cons (cv_rel a x hx) (cvs_rel l y hy)
end
theorem toA_rel {v:VV} {a b:AV} (h:toA v=some a) (k:VR G μ v b):b=a:=by
 cases v<;>simp only [toA,Option.some.injEq,reduceCtorEq] at h<;>(simp only [VR] at k;rw [k,h])
theorem toAs_rel:∀ {v:List VV} {a b:List AV},toAs v=some a→VRs G μ v b→b=a
 | [],a,b,h,k=>by simp only [toAs,Option.some.injEq] at h;simp only [VRs] at k;rw [k,h]
 | v::l,a,b,h,⟨y,ys,e,k1,k2⟩=>by
  simp only [toAs] at h
  split at h<;>try (cases h;done)
  split at h<;>try (cases h;done)
  rename_i x hx _ xs hxs
  obtain rfl:=Option.some.inj h
  rw [e,toA_rel hx k1,toAs_rel hxs k2]
theorem ofA_rel {a:AV} {v:VV} (h:ofA a=some v):VR G μ v a:=by
 cases a<;>simp only [ofA,Option.some.injEq,reduceCtorEq] at h<;>subst h<;>rfl
theorem nat_rel {v:VV} {a:AV} {n:Nat} (h:qzt v=some n) (k:VR G μ v a):natOf a=some n:=by
 cases v<;>simp only [qzt,reduceCtorEq] at h
 rename_i kd m
 simp only [VR] at k;subst k
 split at h<;>try (cases h;done)
 rename_i h0
 obtain rfl:=Option.some.inj h
 obtain ⟨m',rfl⟩:=Int.eq_ofNat_of_zero_le h0
 rfl
theorem bnd_rel {lo hi:Bool} {len most most':Nat} {vs:List VV} {as:List AV} {r:Nat × Nat} (h:bndV lo hi len most vs=some r) (k:VRs G μ vs as) (hm:most≤most'):bnds lo hi len most' as=some r:=by
 unfold bndV at h
 split at h
 ·simp only [VRs] at k;subst k;simpa [bnds] using h
 ·rename_i l
  obtain ⟨y,ys,e,k1,k2⟩:=k
  simp only [VRs] at k2;subst k2;subst e
  split at h<;>try (cases h;done)
  rename_i n hn
  simp only [bnds,nat_rel hn k1]
  exact h
 ·rename_i l
  obtain ⟨y,ys,e,k1,k2⟩:=k
  simp only [VRs] at k2;subst k2;subst e
  split at h<;>try (cases h;done)
  rename_i n hn
  simp only [bnds,nat_rel hn k1]
  split at h<;>try (cases h;done)
  rw [if_pos (by omega)];exact h
 ·rename_i l u
  obtain ⟨y,ys,e,k1,y2,ys2,e2,k2,k3⟩:=k
  simp only [VRs] at k3;subst k3;subst e2;subst e
  split at h<;>try (cases h;done)
  rename_i n m hn hm'
  simp only [bnds,nat_rel hn k1,nat_rel hm' k2]
  split at h<;>try (cases h;done)
  rw [if_pos (by omega)];exact h
 ·cases h
theorem bndV_le {lo hi:Bool} {len most:Nat} {vs:List VV} {l u:Nat} (h:bndV lo hi len most vs=some (l,u)) (hl:len≤most):l≤u∧u≤most:=by
 unfold bndV at h
 split at h
 ·simp only [Option.some.injEq,Prod.mk.injEq] at h;omega
 ·split at h<;>try (cases h;done)
  split at h<;>try (cases h;done)
  simp only [Option.some.injEq,Prod.mk.injEq] at h;omega
 ·split at h<;>try (cases h;done)
  split at h<;>try (cases h;done)
  simp only [Option.some.injEq,Prod.mk.injEq] at h;omega
 ·split at h<;>try (cases h;done)
  split at h<;>try (cases h;done)
  simp only [Option.some.injEq,Prod.mk.injEq] at h;omega
 ·cases h
end
end
end Go.VL
namespace Go.VL
open Go.FR
noncomputable section
section
variable {G:Gz} {μ:Pm}
theorem VRs.one {v:VV} {as:List AV} (h:VRs G μ [v] as):∃ a,as=[a]∧VR G μ v a:=by
 obtain ⟨y,ys,e,p,q⟩:=h
 simp only [VRs] at q;subst q
 exact ⟨y,e,p⟩
theorem VRs.two {v w:VV} {as:List AV} (h:VRs G μ [v,w] as):∃ a b,as=[a,b]∧VR G μ v a∧VR G μ w b:=by
 obtain ⟨y,ys,e,p,q⟩:=h
 obtain ⟨b,rfl,q'⟩:=VRs.one q
 exact ⟨y,b,e,p,q'⟩
theorem VRs.three {v w u:VV} {as:List AV} (h:VRs G μ [v,w,u] as):∃ a b c,as=[a,b,c]∧VR G μ v a∧VR G μ w b∧VR G μ u c:=by
 obtain ⟨y,ys,e,p,q⟩:=h
 obtain ⟨b,c,rfl,q'⟩:=VRs.two q
 exact ⟨y,b,c,e,p,q'⟩
theorem scal_rel {q:POp} {vs:List VV} {as:List AV} {v:VV} (h:scal q vs=some v) (k:VRs G μ vs as):∃ a,FR.pop q as=some a∧VR G μ v a:=by
 unfold scal at h
 split at h<;>try (cases h;done)
 rename_i bs hb
 split at h<;>try (cases h;done)
 rename_i a ha
 rw [toAs_rel hb k]
 exact ⟨a,ha,ofA_rel h⟩
theorem win_slice {cs:List VV} {full:List AV} {o n:Nat} (h:VRs G noP cs ((full.drop o).take n)) (a b:Nat) (hb:a+b≤n):VRs G noP ((cs.drop a).take b) ((full.drop (o+a)).take b):=by
 have:=VRs.take b (VRs.drop a h)
 rw [List.drop_take,List.take_take,List.drop_drop,Nat.min_eq_left (by omega)] at this
 exact this
theorem slV_rel {esz:Nat} {lo hi:Bool} {vs:List VV} {as:List AV} {v:VV} (h:slV esz lo hi vs=some v) (k:VRs G μ vs as):∃ a,FR.pop (.slSl esz lo hi) as=some a∧VR G μ v a:=by
 unfold slV at h
 split at h
 ·rename_i i o n e c r
  obtain ⟨y,ys,rfl,k1,k2⟩:=k
  obtain ⟨b,hb,rfl⟩:=k1
  split at h<;>try (cases h;done)
  split at h<;>try (cases h;done)
  rename_i most hm
  split at h<;>try (cases h;done)
  rename_i l u hbn
  obtain rfl:=Option.some.inj h
  refine ⟨_,?_,b,hb,rfl⟩
  simp only [pop,hm,bnd_rel hbn k2 (Nat.le_refl _)]
 ·rename_i cs n e r
  obtain ⟨y,ys,rfl,k1,k2⟩:=k
  split at h<;>try (cases h;done)
  rename_i he
  subst he
  split at h<;>try (cases h;done)
  rename_i l u hbn
  obtain rfl:=Option.some.inj h
  have hle:=bndV_le hbn (Nat.le_refl _)
  obtain ⟨h0,⟨h1,rfl⟩ | ⟨b,o,c,full,rw,st,as',h1,rfl,h3,h4,h5,h6⟩⟩:=k1
  ·subst h1
   refine ⟨.slice none 0 (.exact 0),?_,?_,.inl ⟨by omega,rfl⟩⟩
   ·simp only [pop,capMost,bnd_rel hbn k2 (Nat.le_refl _)]
    have:u - l=0:=by omega
    simp only [this,capDrop,Nat.zero_sub]
   ·have:u - l=0:=by omega
    simp [this]
  ·have hm:∃ m,capMost e n c=some m∧n≤m:=by
    cases c with
    | exact m=>exact ⟨m,rfl,h3⟩
    | toEnd e'=>simp only [capOK] at h3;subst h3;exact ⟨n,by simp [capMost],Nat.le_refl _⟩
   obtain ⟨m,hm1,hm2⟩:=hm
   have hmul:l*e+(u - l)*e=u*e:=by rw [←Nat.add_mul];congr 1;omega
   have hmul2:u*e≤n*e:=Nat.mul_le_mul_right _ hle.2
   refine ⟨.slice (some (b,o+l*e)) (u - l) (capDrop l c),?_,?_,.inr ⟨b,o+l*e,capDrop l c,full,rw,st,_,h1,rfl,?_,rfl,by omega,?_⟩⟩
   ·simp only [pop,hm1,bnd_rel hbn k2 hm2]
   ·simp only [List.length_take,List.length_drop]
    rw [Nat.min_eq_left];omega
   ·cases c with
    | exact m=>simp only [capDrop,capOK] at h3 ⊢;omega
    | toEnd e'=>exact h3
   ·subst h4
    exact win_slice h6 _ _ (by omega)
 ·rename_i r
  obtain ⟨y,ys,rfl,k1,k2⟩:=k
  simp only [VR] at k1;subst k1
  split at h<;>try (cases h;done)
  rename_i l u hbn
  obtain rfl:=Option.some.inj h
  have hle:=bndV_le hbn (Nat.le_refl _)
  refine ⟨.slice none 0 (.exact 0),?_,rfl⟩
  simp only [pop,capMost,bnd_rel hbn k2 (Nat.le_refl _)]
  have:u - l=0:=by omega
  simp only [this,capDrop,Nat.zero_sub]
 ·cases h
theorem slArrV_rel {len esz:Nat} {lo hi:Bool} {vs:List VV} {as:List AV} {v:VV} (h:slArrV len esz lo hi vs=some v) (k:VRs G μ vs as):∃ a,FR.pop (.slArr len esz lo hi) as=some a∧VR G μ v a:=by
 unfold slArrV at h
 split at h
 ·rename_i i o r
  obtain ⟨y,ys,rfl,k1,k2⟩:=k
  obtain ⟨b,hb,rfl⟩:=k1
  split at h<;>try (cases h;done)
  rename_i l u hbn
  obtain rfl:=Option.some.inj h
  refine ⟨_,?_,b,hb,rfl⟩
  simp only [pop,bnd_rel hbn k2 (Nat.le_refl _)]
 ·rename_i cs o r
  obtain ⟨y,ys,rfl,k1,k2⟩:=k
  obtain ⟨b,p,full,rw,st,as,h1,rfl,h3,h4,h5⟩:=k1
  split at h<;>try (cases h;done)
  rename_i l u hbn
  split at h<;>try (cases h;done)
  rename_i hle'
  obtain rfl:=Option.some.inj h
  have hle:=bndV_le hbn (Nat.le_refl _)
  have hmul:l*esz+(u - l)*esz=u*esz:=by rw [←Nat.add_mul];congr 1;omega
  refine ⟨.slice (some (b,p+o+l*esz)) (u - l) (.exact (len - l)),?_,?_,.inr ⟨b,p+o+l*esz,.exact (len - l),full,rw,st,_,h1,rfl,?_,rfl,by omega,?_⟩⟩
  ·simp only [pop,bnd_rel hbn k2 (Nat.le_refl _)]
  ·simp only [List.length_take,List.length_drop]
   rw [Nat.min_eq_left];omega
  ·simp only [capOK];omega
  ·subst h3
   have:=win_slice h5 (o+l*esz) ((u - l)*esz) (by omega)
   rw [←Nat.add_assoc] at this
   exact this
 ·cases h
theorem pop_rel {q:POp} {vs:List VV} {as:List AV} {v:VV} (h:popV q vs=some v) (kk:VRs G μ vs as):∃ a,FR.pop q as=some a∧VR G μ v a:=by
 cases q<;>simp only [popV] at h
 case bad=>cases h
 case mov =>
  unfold movV at h
  split at h<;>try (cases h;done)
  obtain rfl:=Option.some.inj h
  obtain ⟨a,rfl,k⟩:=VRs.one kk
  exact ⟨a,rfl,k⟩
 case pick =>
  unfold pickV at h
  split at h<;>try (cases h;done)
  rename_i c a b
  obtain rfl:=Option.some.inj h
  obtain ⟨x,y,z,rfl,k1,k2,k3⟩:=VRs.three kk
  simp only [VR] at k1;subst k1
  exact ⟨_,rfl,by cases c<;>simpa⟩
 case bin=>exact scal_rel h kk
 case un=>exact scal_rel h kk
 case conv=>exact scal_rel h kk
 case s2s=>exact scal_rel h kk
 case idxStr=>exact scal_rel h kk
 case slStr=>exact scal_rel h kk
 case lenStr=>exact scal_rel h kk
 case max=>exact scal_rel h kk
 case min=>exact scal_rel h kk
 case field off sz =>
  unfold fieldV at h
  split at h<;>try (cases h;done)
  obtain ⟨a,rfl,l,rfl,k⟩:=VRs.one kk
  exact part_rel k h
 case idxArr len esz sz =>
  unfold idxArrV at h
  split at h<;>try (cases h;done)
  obtain ⟨a,b,rfl,⟨l,rfl,k1⟩,k2⟩:=VRs.two kk
  split at h<;>try (cases h;done)
  rename_i n hn
  split at h<;>try (cases h;done)
  rename_i hlt
  simp only [pop,nat_rel hn k2,if_pos hlt]
  exact part_rel k1 h
 case ext i =>
  unfold extV at h
  split at h<;>try (cases h;done)
  obtain ⟨a,rfl,l,rfl,k⟩:=VRs.one kk
  exact VRs.get k i v h
 case mkI t =>
  unfold mkIV at h
  split at h<;>try (cases h;done)
  obtain ⟨a,rfl,k⟩:=VRs.one kk
  obtain rfl:=Option.some.inj h
  exact ⟨_,rfl,a,rfl,k⟩
 case mkF f n =>
  obtain rfl:=Option.some.inj h
  exact ⟨_,rfl,_,_,rfl,VRs.take _ kk,VRs.drop _ kk⟩
 case fAddr off =>
  unfold fAddrV at h
  split at h<;>try (cases h;done)
  ·obtain ⟨a,rfl,b,hb,rfl⟩:=VRs.one kk
   obtain rfl:=Option.some.inj h
   exact ⟨_,rfl,b,hb,rfl⟩
  ·obtain ⟨a,rfl,k⟩:=VRs.one kk
   simp only [VR] at k;subst k
   obtain rfl:=Option.some.inj h
   exact ⟨_,rfl,rfl⟩
  ·obtain ⟨a,rfl,b,p,full,rw,st,as,h1,rfl,h3⟩:=VRs.one kk
   obtain rfl:=Option.some.inj h
   exact ⟨_,rfl,b,p,full,rw,st,as,h1,by simp [Nat.add_assoc],h3⟩
 case iAddrS esz =>
  unfold iAddrSV at h
  split at h<;>try (cases h;done)
  ·obtain ⟨a,x,rfl,⟨b,hb,rfl⟩,k2⟩:=VRs.two kk
   split at h<;>try (cases h;done)
   rename_i n hn
   split at h<;>try (cases h;done)
   rename_i hlt
   obtain rfl:=Option.some.inj h
   exact ⟨_,by simp only [pop,nat_rel hn k2,if_pos hlt],b,hb,rfl⟩
  ·rename_i cs n e x
   obtain ⟨a,x,rfl,⟨h0,k1⟩,k2⟩:=VRs.two kk
   split at h<;>try (cases h;done)
   rename_i m hm
   split at h<;>try (cases h;done)
   rename_i hlt
   obtain rfl:=Option.some.inj h
   rcases k1 with ⟨h1,_⟩ | ⟨b,o,c,full,rw,st,as,h1,rfl,h3,h4,h5,h6⟩
   ·omega
   ·exact ⟨_,by simp only [pop,nat_rel hm k2,if_pos hlt],b,o,full,rw,st,as,h1,rfl,by rw [h0];exact h4,by omega,h6⟩
 case iAddrA len esz =>
  unfold iAddrAV at h
  split at h<;>try (cases h;done)
  ·obtain ⟨a,x,rfl,⟨b,hb,rfl⟩,k2⟩:=VRs.two kk
   split at h<;>try (cases h;done)
   rename_i n hn
   split at h<;>try (cases h;done)
   rename_i hlt
   obtain rfl:=Option.some.inj h
   exact ⟨_,by simp only [pop,nat_rel hn k2,if_pos hlt],b,hb,rfl⟩
  ·obtain ⟨a,x,rfl,⟨b,p,full,rw,st,as,h1,rfl,h3⟩,k2⟩:=VRs.two kk
   split at h<;>try (cases h;done)
   rename_i n hn
   split at h<;>try (cases h;done)
   rename_i hlt
   obtain rfl:=Option.some.inj h
   exact ⟨_,by simp only [pop,nat_rel hn k2,if_pos hlt];rfl,b,p,full,rw,st,as,h1,by rw [Nat.add_assoc],h3⟩
  ·obtain ⟨a,x,rfl,k1,k2⟩:=VRs.two kk
   simp only [VR] at k1;subst k1
   split at h<;>try (cases h;done)
   rename_i n hn
   split at h<;>try (cases h;done)
   rename_i hlt
   obtain rfl:=Option.some.inj h
   exact ⟨_,by simp only [pop,nat_rel hn k2,if_pos hlt],rfl⟩
 case slSl=>exact slV_rel h kk
 case slArr=>exact slArrV_rel h kk
 case build zero places =>
  unfold buildV at h
  split at h<;>try (cases h;done)
  rename_i z hz
  split at h<;>try (cases h;done)
  rename_i cs hcs
  obtain rfl:=Option.some.inj h
  obtain ⟨r,hr,hR⟩:=fill_rel (cvs_rel (G:=G) (μ:=μ) zero z hz) kk hcs
  exact ⟨.agg r,by simp only [pop,hr],r,rfl,hR⟩
 case nilChk =>
  unfold nilChkV at h
  split at h<;>try (cases h;done)
  ·obtain ⟨a,rfl,b,hb,rfl⟩:=VRs.one kk
   obtain rfl:=Option.some.inj h
   exact ⟨_,rfl,b,hb,rfl⟩
  ·obtain ⟨a,rfl,k⟩:=VRs.one kk
   simp only [VR] at k;subst k
   obtain rfl:=Option.some.inj h
   exact ⟨_,rfl,rfl⟩
  ·obtain ⟨a,rfl,b,p,full,rw,st,as,h1,rfl,h3⟩:=VRs.one kk
   obtain rfl:=Option.some.inj h
   exact ⟨_,rfl,b,p,full,rw,st,as,h1,rfl,h3⟩
  ·obtain ⟨a,rfl,x,y,rfl,h3⟩:=VRs.one kk
   obtain rfl:=Option.some.inj h
   exact ⟨_,rfl,x,y,rfl,h3⟩
 case tAss t ok zero =>
  unfold tAssV at h
  split at h<;>try (cases h;done)
  ·rename_i u x
   obtain ⟨a,rfl,y,rfl,k⟩:=VRs.one kk
   split at h
   ·rename_i e
    obtain rfl:=Option.some.inj h
    refine ⟨if ok=true then AV.tuple [y,AV.bool true] else y,by simp only [pop,if_pos e],?_⟩
    cases ok
    ·exact k
    ·exact ⟨_,rfl,VRs.cons k (VRs.cons rfl VRs.nil)⟩
   ·rename_i e
    split at h<;>try (cases h;done)
    rename_i z hz
    obtain rfl:=Option.some.inj h
    exact ⟨_,by simp only [pop,if_neg e];rfl,_,rfl,VRs.cons (cv_rel _ _ hz) (VRs.cons rfl VRs.nil)⟩
  ·obtain ⟨a,rfl,k⟩:=VRs.one kk
   simp only [VR] at k;subst k
   split at h<;>try (cases h;done)
   rename_i z hz
   obtain rfl:=Option.some.inj h
   exact ⟨_,rfl,_,rfl,VRs.cons (cv_rel _ _ hz) (VRs.cons rfl VRs.nil)⟩
 case lenSl =>
  unfold lenSlV at h
  split at h<;>try (cases h;done)
  ·obtain ⟨a,rfl,b,hb,rfl⟩:=VRs.one kk
   obtain rfl:=Option.some.inj h
   exact ⟨_,rfl,rfl⟩
  ·obtain ⟨a,rfl,h0,k⟩:=VRs.one kk
   obtain rfl:=Option.some.inj h
   rcases k with ⟨h1,rfl⟩ | ⟨b,o,c,full,rw,st,as,h1,rfl,h3⟩
   ·subst h1;exact ⟨_,rfl,rfl⟩
   ·exact ⟨_,rfl,rfl⟩
  ·obtain ⟨a,rfl,k⟩:=VRs.one kk
   simp only [VR] at k;subst k
   obtain rfl:=Option.some.inj h
   exact ⟨_,rfl,rfl⟩
 case lenArr n =>
  unfold lenArrV at h
  split at h<;>try (cases h;done)
  obtain ⟨a,rfl,k⟩:=VRs.one kk
  obtain rfl:=Option.some.inj h
  exact ⟨_,rfl,rfl⟩
end
end
end Go.VL
namespace Go.VL
open Go.FR
noncomputable section
def BlkR (G:Gz) (μ:Pm):VB→ABlk→Prop
 | .cells cs ro,y=>∃ as rw st,y = .cells as rw st∧VRs G μ cs as∧(ro=false→rw=true)∧(ro=true→VRs G noP cs as)
 | .map ks vs ro,y=>∃ es as bs,y = .map es∧as=es.map (·.1)∧bs=es.map (·.2)∧VRs G μ ks as∧VRs G μ vs bs∧(ro=true→VRs G noP ks as∧VRs G noP vs bs)
theorem BlkR.mono {G K:Gz} {μ ν:Pm} (hg:G.le K) (hm:μ.le ν):∀ {x:VB} {y:ABlk},BlkR G μ x y→BlkR K ν x y
 | .cells cs ro,_,⟨as,rw,st,e,h,k,q⟩=>⟨as,rw,st,e,VRs.mono hg hm _ _ h,k,fun r=>VRs.mono hg (Pm.le_refl _) _ _ (q r)⟩
 | .map ks vs ro,_,⟨es,as,bs,e,e1,e2,h,k,q⟩=>⟨es,as,bs,e,e1,e2,VRs.mono hg hm _ _ h,VRs.mono hg hm _ _ k,fun r=>⟨VRs.mono hg (Pm.le_refl _) _ _ (q r).1,VRs.mono hg (Pm.le_refl _) _ _ (q r).2⟩⟩
structure GW (Gl:qzj) (G:Gz) (H:Heap):Prop where
 at_:∀ b x,G b=some x→H.get b=some x∧b < H.next
 glob:∀ i cs,qza Gl i=some cs→∃ as,G i=some (.cells as false false)∧VRs G noP cs as
structure SR (Gl:qzj) (G:Gz) (μ:Pm) (h:VH) (H:Heap):Prop where
 w:GW Gl G H
 blk:∀ i x,h.get i=some x→∃ b y,μ i=some b∧H.get b=some y∧BlkR G μ x y∧(x.ro=true→G b=some y)∧(x.ro=false→G b=none)
 inj:∀ i j x y b,h.get i=some x→h.get j=some y→x.ro=false→μ i=some b→μ j=some b→i=j
 dom:∀ i b,μ i=some b→i < h.next∧b < H.next
def Own (h:VH) (μ:Pm) (b:Nat):Prop:=∃ i x,h.get i=some x∧x.ro=false∧μ i=some b
structure Pr (n:Nat) (G:Gz) (μ:Pm) (h:VH) (H:Heap) (G':Gz) (μ':Pm) (h':VH) (H':Heap):Prop where
 g:G.le G'
 m:μ.le μ'
 hn:h.next≤h'.next
 next:H.next≤H'.next
 keep:∀ b,b < n→¬Own h μ b→H'.get b=H.get b
 gnew:∀ b x,G' b=some x→G b=some x∨n≤b∨Own h μ b
 own:∀ b,Own h' μ' b→Own h μ b∨n≤b
 mnew:∀ i b,μ' i=some b→μ i=some b∨n≤b
theorem Pr.refl (n:Nat) (G:Gz) (μ:Pm) (h:VH) (H:Heap):Pr n G μ h H G μ h H :=
 ⟨Gz.le_refl _,Pm.le_refl _,Nat.le_refl _,Nat.le_refl _,fun _ _ _=>rfl,fun _ _ q => .inl q,fun _ q => .inl q,fun _ _ q => .inl q⟩
theorem Pr.trans {n k:Nat} {G G' G'':Gz} {μ μ' μ'':Pm} {h h' h'':VH} {H H' H'':Heap} (p:Pr n G μ h H G' μ' h' H') (q:Pr k G' μ' h' H' G'' μ'' h'' H'') (hnk:n≤k):Pr n G μ h H G'' μ'' h'' H'':=by
 refine ⟨Gz.le_trans p.g q.g,Pm.le_trans p.m q.m,Nat.le_trans p.hn q.hn,Nat.le_trans p.next q.next,fun b hb ho => ?_,fun b x hx => ?_,fun b ho => ?_,fun i b hi => ?_⟩
 ·rw [q.keep b (by omega) (fun r=>(p.own b r).elim ho (fun r=>by omega)),p.keep b hb ho]
 ·rcases q.gnew b x hx with r | r | r
  ·exact p.gnew b x r
  ·exact .inr (.inl (by omega))
  ·rcases p.own b r with r | r
   ·exact .inr (.inr r)
   ·exact .inr (.inl r)
 ·rcases q.own b ho with r | r
  ·exact p.own b r
  ·exact .inr (by omega)
 ·rcases q.mnew i b hi with r | r
  ·exact p.mnew i b r
  ·exact .inr (by omega)
theorem Pr.le {n k:Nat} {G G':Gz} {μ μ':Pm} {h h':VH} {H H':Heap} (p:Pr k G μ h H G' μ' h' H') (hnk:n≤k):Pr n G μ h H G' μ' h' H' :=
 ⟨p.g,p.m,p.hn,p.next,fun b hb ho=>p.keep b (by omega) ho,fun b x hx=>(p.gnew b x hx).imp_right (fun r=>r.imp_left (fun r=>by omega)),fun b ho=>(p.own b ho).imp_right (fun r=>by omega),fun i b hi=>(p.mnew i b hi).imp_right (fun r=>by omega)⟩
theorem get_set (h:VH) (i:Nat) (x:VB) (j:Nat):(h.set i x).get j=if j=i then some x else h.get j:=by
 unfold VH.get VH.set
 simp only [qza]
 by_cases e:i=j
 ·subst e;simp
 ·rw [if_neg e,if_neg (fun q=>e q.symm)]
theorem get_kill (h:VH) (i:Nat) (j:Nat):(h.kill i).get j=if j=i then none else h.get j:=by
 unfold VH.get VH.kill
 simp only [qza]
 by_cases e:i=j
 ·subst e;simp
 ·rw [if_neg e,if_neg (fun q=>e q.symm)]
theorem get_push (h:VH) (x:VB) (j:Nat):(h.push x).get j=if j=h.next then some x else h.get j:=by
 unfold VH.get VH.push
 simp only [qza]
 by_cases e:h.next=j
 ·subst e;simp
 ·rw [if_neg e,if_neg (fun q=>e q.symm)]
theorem H_push (H:Heap) (x:ABlk) (j:Nat):(H.push x).get j=if j=H.next then some x else H.get j:=by
 show Tr.get _ _=_;rw [Heap.push,Tr.get_set];rfl
theorem H_set (H:Heap) (i:Nat) (x:ABlk) (j:Nat):(H.set i x).get j=if j=i then some x else H.get j:=by
 show Tr.get _ _=_;rw [Heap.set,Tr.get_set];rfl
theorem H_kill (H:Heap) (i:Nat) (j:Nat):(H.kill i).get j=if j=i then none else H.get j:=by
 show Tr.get _ _=_;rw [Heap.kill,Tr.get_del];rfl
def setM (μ:Pm) (i b:Nat):Pm:=fun k=>if k=i then some b else μ k
theorem setM_le {μ:Pm} {i b:Nat} (h:μ i=none):μ.le (setM μ i b):=fun k c q=>by
 unfold setM;by_cases e:k=i
 ·subst e;rw [h] at q;cases q
 ·rw [if_neg e];exact q
theorem SR.fresh {Gl:qzj} {G:Gz} {μ:Pm} {h:VH} {H:Heap} (s:SR Gl G μ h H):μ h.next=none:=by
 cases e:μ h.next with
 | none=>rfl
 | some b=>exact absurd (s.dom _ _ e).1 (Nat.lt_irrefl _)
section
variable {Gl:qzj} {G:Gz} {μ:Pm} {h:VH} {H:Heap}
theorem load_rel (s:SR Gl G μ h H) {sz:Option Nat} {vs:List VV} {as:List AV} {v:VV} (hv:loadV Gl h sz vs=some v) (kk:VRs G μ vs as):∃ a,rop (.load sz) as H=some a∧VR G μ v a:=by
 unfold loadV at hv
 split at hv<;>try (cases hv;done)
 ·obtain ⟨a,rfl,b,hb,rfl⟩:=VRs.one kk
  split at hv<;>try (cases hv;done)
  rename_i cs ro hc
  obtain ⟨b',y,h1,h2,⟨as,rw,st,rfl,h3,_⟩,_⟩:=s.blk _ _ hc
  rw [hb] at h1;obtain rfl:=Option.some.inj h1
  simp only [rop,h2]
  exact part_rel h3 hv
 ·obtain ⟨a,rfl,k⟩:=VRs.one kk
  simp only [VR] at k;subst k
  split at hv<;>try (cases hv;done)
  rename_i cs hc
  obtain ⟨as,h1,h2⟩:=s.w.glob _ _ hc
  simp only [rop,(s.w.at_ _ _ h1).1]
  obtain ⟨a,ha,hr⟩:=part_rel h2 hv
  exact ⟨a,ha,VR.mono (Gz.le_refl _) (noP_le _) _ _ hr⟩
 ·obtain ⟨a,rfl,b,p,full,rw,st,as,h1,rfl,h3,h4,h5⟩:=VRs.one kk
  simp only [rop,(s.w.at_ _ _ h1).1]
  subst h3
  obtain ⟨a,ha,hr⟩:=part_win h5 h4 hv
  exact ⟨a,ha,VR.mono (Gz.le_refl _) (noP_le _) _ _ hr⟩
theorem eqScal_rel {f:AV→AV→Option Bool} {x y:VV} {a b:AV} {r:Bool} (hv:eqScal f x y=some r) (hx:VR G μ x a) (hy:VR G μ y b):f a b=some r:=by
 unfold eqScal at hv
 split at hv<;>try (cases hv;done)
 rename_i c d hc hd
 rw [toA_rel hc hx,toA_rel hd hy];exact hv
theorem pEq_g (s:SR Gl G μ h H) {i o j p:Nat} {r:Bool} (hv:eqGV Gl i o j p=some r):pEq H (i,o) (j,p)=some r:=by
 unfold eqGV at hv
 unfold pEq
 by_cases e:i=j
 ·simp only [e,if_true] at hv ⊢;exact hv
 ·rw [if_neg e] at hv
  rw [if_neg e]
  split at hv<;>try (cases hv;done)
  rename_i q
  obtain ⟨q1,q2,hi,hj⟩:=q
  simp only [inGl,Option.isSome_iff_exists] at hi hj
  obtain ⟨c,hc⟩:=hi
  obtain ⟨d,hd⟩:=hj
  obtain ⟨as,h1,_⟩:=s.w.glob _ _ hc
  obtain ⟨bs,h2,_⟩:=s.w.glob _ _ hd
  simp only [(s.w.at_ _ _ h1).1,(s.w.at_ _ _ h2).1,q1,q2]
  simpa using hv
theorem eqPV_rel (s:SR Gl G μ h H) {x y:VV} {a b:AV} {r:Bool} (hv:eqPV Gl x y=some r) (hx:VR G μ x a) (hy:VR G μ y b):eqPtr H a b=some r:=by
 unfold eqPV at hv
 split at hv<;>try (cases hv;done)
 ·simp only [VR] at hx hy;subst hx;subst hy;simpa [eqPtr] using hv
 ·simp only [VR] at hx;obtain ⟨_,_,rfl⟩:=hy;subst hx;simpa [eqPtr] using hv
 ·simp only [VR] at hx hy;subst hx;subst hy;simpa [eqPtr] using hv
 ·simp only [VR] at hx;obtain ⟨_,_,_,_,_,_,_,rfl,_⟩:=hy;subst hx;simpa [eqPtr] using hv
 ·simp only [VR] at hy;obtain ⟨_,_,rfl⟩:=hx;subst hy;simpa [eqPtr] using hv
 ·simp only [VR] at hx hy;subst hx;subst hy;simpa [eqPtr] using hv
 ·simp only [VR] at hy;obtain ⟨_,_,_,_,_,_,_,rfl,_⟩:=hx;subst hy;simpa [eqPtr] using hv
 ·obtain ⟨b1,h1,rfl⟩:=hx
  obtain ⟨b2,h2,rfl⟩:=hy
  split at hv<;>try (cases hv;done)
  rename_i e
  subst e
  rw [h1] at h2;obtain rfl:=Option.some.inj h2
  simpa [eqPtr,pEq] using hv
 ·simp only [VR] at hx hy;subst hx;subst hy
  simp only [eqPtr];exact pEq_g s hv
theorem eqSV_rel {x y:VV} {a b:AV} {r:Bool} (hv:eqSV x y=some r) (hx:VR G μ x a) (hy:VR G μ y b):eqSl a b=some r:=by
 unfold eqSV at hv
 split at hv<;>try (cases hv;done)
 ·simp only [VR] at hx hy;subst hx;subst hy;simpa [eqSl] using hv
 ·simp only [VR] at hx;obtain ⟨_,_,rfl⟩:=hy;subst hx;simpa [eqSl] using hv
 ·simp only [VR] at hy;obtain ⟨_,_,rfl⟩:=hx;subst hy;simpa [eqSl] using hv
 ·simp only [VR] at hx
  obtain ⟨_,⟨q,_⟩ | ⟨_,_,_,_,_,_,_,_,rfl,_⟩⟩:=hy
  ·omega
  ·subst hx;simpa [eqSl] using hv
 ·simp only [VR] at hy
  obtain ⟨_,⟨q,_⟩ | ⟨_,_,_,_,_,_,_,_,rfl,_⟩⟩:=hx
  ·omega
  ·subst hy;simpa [eqSl] using hv
theorem eqMV_rel {x y:VV} {a b:AV} {r:Bool} (hv:eqMV x y=some r) (hx:VR G μ x a) (hy:VR G μ y b):eqMap a b=some r:=by
 unfold eqMV at hv
 split at hv<;>try (cases hv;done)
 ·simp only [VR] at hx hy;subst hx;subst hy;simpa [eqMap] using hv
 ·simp only [VR] at hx;obtain ⟨_,_,rfl⟩:=hy;subst hx;simpa [eqMap] using hv
 ·simp only [VR] at hy;obtain ⟨_,_,rfl⟩:=hx;subst hy;simpa [eqMap] using hv
 ·simp only [VR] at hx;obtain ⟨_,_,_,_,_,rfl,_⟩:=hy;subst hx;simpa [eqMap] using hv
 ·simp only [VR] at hy;obtain ⟨_,_,_,_,_,rfl,_⟩:=hx;subst hy;simpa [eqMap] using hv
theorem eqFV_rel {x y:VV} {a b:AV} {r:Bool} (hv:eqFV x y=some r) (hx:VR G μ x a) (hy:VR G μ y b):eqFn a b=some r:=by
 unfold eqFV at hv
 split at hv<;>try (cases hv;done)
 ·simp only [VR] at hx hy;subst hx;subst hy;simpa [eqFn] using hv
 ·simp only [VR] at hx;obtain ⟨_,_,rfl,_⟩:=hy;subst hx;simpa [eqFn] using hv
 ·simp only [VR] at hy;obtain ⟨_,_,rfl,_⟩:=hx;subst hy;simpa [eqFn] using hv
theorem eqIV_rel (s:SR Gl G μ h H) {dyn:List Nat} {lit:Bool} {x y:VV} {a b:AV} {r:Bool} (hv:eqIV Gl dyn lit x y=some r) (hx:VR G μ x a) (hy:VR G μ y b):eqIf H dyn lit a b=some r:=by
 unfold eqIV at hv
 split at hv<;>try (cases hv;done)
 ·simp only [VR] at hx hy;subst hx;subst hy;simpa [eqIf] using hv
 ·simp only [VR] at hx;obtain ⟨_,rfl,_⟩:=hy;subst hx;simpa [eqIf] using hv
 ·simp only [VR] at hy;obtain ⟨_,rfl,_⟩:=hx;subst hy;simpa [eqIf] using hv
 ·obtain ⟨c,rfl,hc⟩:=hx
  obtain ⟨d,rfl,hd⟩:=hy
  simp only [eqIf]
  split at hv
  ·rename_i e
   rw [if_pos e]
   split at hv<;>try (cases hv;done)
   rename_i e2
   rw [if_pos e2]
   split at hv<;>try (cases hv;done)
   simp only [VR] at hc hd;subst hc;subst hd
   exact pEq_g s hv
  ·rename_i e
   rw [if_neg e];exact hv
mutual
theorem aeq_rel (s:SR Gl G μ h H):∀ (e:EqT) (x y:VV) (a b:AV) (r:Bool),aeqV Gl e x y=some r→VR G μ x a→VR G μ y b→aeq H e a b=some r
 | .bool,x,y,a,b,r,hv,hx,hy=>by simp only [aeqV] at hv;simp only [aeq];exact eqScal_rel hv hx hy
 | .int,x,y,a,b,r,hv,hx,hy=>by simp only [aeqV] at hv;simp only [aeq];exact eqScal_rel hv hx hy
 | .str,x,y,a,b,r,hv,hx,hy=>by simp only [aeqV] at hv;simp only [aeq];exact eqScal_rel hv hx hy
 | .ptr,x,y,a,b,r,hv,hx,hy=>by simp only [aeqV] at hv;simp only [aeq];exact eqPV_rel s hv hx hy
 | .nilS,x,y,a,b,r,hv,hx,hy=>by simp only [aeqV] at hv;simp only [aeq];exact eqSV_rel hv hx hy
 | .nilM,x,y,a,b,r,hv,hx,hy=>by simp only [aeqV] at hv;simp only [aeq];exact eqMV_rel hv hx hy
 | .nilF,x,y,a,b,r,hv,hx,hy=>by simp only [aeqV] at hv;simp only [aeq];exact eqFV_rel hv hx hy
 | .iface dyn lit,x,y,a,b,r,hv,hx,hy=>by simp only [aeqV] at hv;simp only [aeq];exact eqIV_rel s hv hx hy
 | .agg ps,x,y,a,b,r,hv,hx,hy=>by
  simp only [aeqV] at hv
  split at hv<;>try (cases hv;done)
  obtain ⟨c,rfl,hc⟩:=hx
  obtain ⟨d,rfl,hd⟩:=hy
  simp only [aeq]
  exact aeqs_rel s ps _ _ _ _ r hv hc hd
theorem aeqs_rel (s:SR Gl G μ h H):∀ (ps:List (Nat × Option Nat × EqT)) (x y:List VV) (a b:List AV) (r:Bool),aeqVs Gl ps x y=some r→VRs G μ x a→VRs G μ y b→aeqAll H ps a b=some r
 | [],x,y,a,b,r,hv,hx,hy=>by simpa [aeqVs,aeqAll] using hv
 | (off,sz,e)::ps,x,y,a,b,r,hv,hx,hy=>by
  simp only [aeqVs] at hv
  split at hv<;>try (cases hv;done)
  rename_i u v hu hw
  obtain ⟨c,h1,h2⟩:=part_rel hx hu
  obtain ⟨d,h3,h4⟩:=part_rel hy hw
  simp only [aeqAll,h1,h3]
  split at hv<;>try (cases hv;done)
  ·rename_i hq
   simp only [aeq_rel s e _ _ _ _ _ hq h2 h4]
   exact aeqs_rel s ps x y a b r hv hx hy
  ·rename_i hq
   simp only [aeq_rel s e _ _ _ _ _ hq h2 h4]
   exact hv
end
theorem eqRV_rel (s:SR Gl G μ h H) {neg:Bool} {e:EqT} {vs:List VV} {as:List AV} {v:VV} (hv:eqRV Gl neg e vs=some v) (kk:VRs G μ vs as):∃ a,rop (.eq neg e) as H=some a∧VR G μ v a:=by
 unfold eqRV at hv
 split at hv<;>try (cases hv;done)
 obtain ⟨a,b,rfl,h1,h2⟩:=VRs.two kk
 split at hv<;>try (cases hv;done)
 rename_i r hr
 obtain rfl:=Option.some.inj hv
 exact ⟨_,by simp only [rop,aeq_rel s e _ _ _ _ _ hr h1 h2],rfl⟩
theorem isKey_rel {ks:Bool} {x:VV} {a:AV} (hv:isKeyV ks x=true) (hx:VR G μ x a):isKey ks a=true:=by
 unfold isKeyV at hv
 split at hv<;>try (cases hv;done)
 all_goals (simp only [VR] at hx;subst hx;exact hv)
theorem keyEq_rel {x y:VV} {a b:AV} {r:Bool} (hv:keyEqV x y=some r) (hx:VR G μ x a) (hy:VR G μ y b):keyEq a b=some r:=by
 unfold keyEqV at hv
 split at hv<;>try (cases hv;done)
 all_goals (simp only [VR] at hx hy;subst hx;subst hy;simpa [keyEq] using hv)
def MapR (G:Gz) (μ:Pm) (ks vs:List VV) (es:List (AV × AV)):Prop:=VRs G μ ks (es.map (·.1))∧VRs G μ vs (es.map (·.2))
theorem find_rel {key:VV} {ka:AV} (hk:VR G μ key ka):∀ {ks vs:List VV} {es:List (AV × AV)} {r:Option VV},findV key ks vs=some r→MapR G μ ks vs es →
  (r=none∧mapFind ka es=some none)∨∃ v a,r=some v∧mapFind ka es=some (some a)∧VR G μ v a
 | [],[],es,r,hv,⟨h1,h2⟩=>by
  simp only [findV,Option.some.injEq] at hv;subst hv
  simp only [VRs] at h1
  obtain rfl:=List.map_eq_nil_iff.1 h1
  exact .inl ⟨rfl,rfl⟩
 | k::ks,v::vs,[],r,hv,⟨h1,h2⟩=>by obtain ⟨_,_,e,_⟩:=h1;cases e
 | k::ks,v::vs,(ek,ev)::es,r,hv,⟨h1,h2⟩=>by
  obtain ⟨_,_,e,p1,p2⟩:=h1
  obtain ⟨_,_,e',q1,q2⟩:=h2
  simp only [List.map_cons,List.cons.injEq] at e e'
  obtain ⟨rfl,rfl⟩:=e
  obtain ⟨rfl,rfl⟩:=e'
  simp only [findV] at hv
  split at hv<;>try (cases hv;done)
  ·rename_i hq
   obtain rfl:=Option.some.inj hv
   exact .inr ⟨v,ev,rfl,by simp only [mapFind,keyEq_rel hq hk p1],q1⟩
  ·rename_i hq
   simp only [mapFind,keyEq_rel hq hk p1]
   exact find_rel hk hv ⟨p2,q2⟩
 | [],v::vs,es,r,hv,_=>by simp [findV] at hv
 | k::ks,[],es,r,hv,_=>by simp [findV] at hv
theorem mapOf_rel (s:SR Gl G μ h H) {m:VV} {a:AV} {l r:List VV} (hm:mapOf h m=some (l,r)) (hx:VR G μ m a) :
  (a = .map none∧l=[]∧r=[])∨∃ b es,a = .map (some b)∧H.get b=some (.map es)∧MapR G μ l r es:=by
 unfold mapOf at hm
 split at hm<;>try (cases hm;done)
 ·simp only [VR] at hx
  simp only [Option.some.injEq,Prod.mk.injEq] at hm
  exact .inl ⟨hx,hm.1.symm,hm.2.symm⟩
 ·split at hm<;>try (cases hm;done)
  rename_i hg
  simp only [Option.some.injEq,Prod.mk.injEq] at hm
  obtain ⟨rfl,rfl⟩:=hm
  obtain ⟨b,hb,rfl⟩:=hx
  obtain ⟨b',y,h1,h2,⟨es,as,bs,rfl,rfl,rfl,h3,h4,_⟩,_⟩:=s.blk _ _ hg
  rw [hb] at h1;obtain rfl:=Option.some.inj h1
  exact .inr ⟨b,es,rfl,h2,h3,h4⟩
 ·simp only [Option.some.injEq,Prod.mk.injEq] at hm
  obtain ⟨rfl,rfl⟩:=hm
  obtain ⟨b,es,as,bs,h1,rfl,rfl,rfl,h3,h4⟩:=hx
  exact .inr ⟨b,es,rfl,(s.w.at_ _ _ h1).1,VRs.mono (Gz.le_refl _) (noP_le _) _ _ h3,VRs.mono (Gz.le_refl _) (noP_le _) _ _ h4⟩
theorem lookup_rel (s:SR Gl G μ h H) {ks ok:Bool} {zero:AV} {vs:List VV} {as:List AV} {v:VV} (hv:lookupV h ks ok zero vs=some v) (kk:VRs G μ vs as):∃ a,rop (.lookup ks ok zero) as H=some a∧VR G μ v a:=by
 unfold lookupV at hv
 split at hv<;>try (cases hv;done)
 obtain ⟨a,b,rfl,h1,h2⟩:=VRs.two kk
 split at hv<;>try (cases hv;done)
 rename_i hkey
 split at hv<;>try (cases hv;done)
 rename_i l r z hm hz
 have hzr:VR G μ z zero:=cv_rel _ _ hz
 have hk:=isKey_rel hkey h2
 have zr:VR G μ (if ok=true then VV.tuple [z,.bool false] else z) (if ok=true then AV.tuple [zero,.bool false] else zero):=by
  cases ok
  ·exact hzr
  ·exact ⟨_,rfl,VRs.cons hzr (VRs.cons rfl VRs.nil)⟩
 rcases mapOf_rel s hm h1 with ⟨rfl,rfl,rfl⟩ | ⟨bl,es,rfl,hb,hM⟩
 ·simp only [findV] at hv
  obtain rfl:=Option.some.inj hv
  exact ⟨_,by simp only [rop,if_pos hk],zr⟩
 ·split at hv<;>try (cases hv;done)
  ·rename_i w hf
   obtain rfl:=Option.some.inj hv
   rcases find_rel h2 hf hM with ⟨e,_⟩ | ⟨u,a',e,hq,hr⟩
   ·cases e
   ·obtain rfl:=Option.some.inj e
    refine ⟨if ok=true then .tuple [a',.bool true] else a',by simp only [rop,if_pos hk,hb,hq],?_⟩
    cases ok
    ·exact hr
    ·exact ⟨_,rfl,VRs.cons hr (VRs.cons rfl VRs.nil)⟩
  ·rename_i hf
   obtain rfl:=Option.some.inj hv
   rcases find_rel h2 hf hM with ⟨_,hq⟩ | ⟨u,a',e,_⟩
   ·exact ⟨if ok=true then .tuple [zero,.bool false] else zero,by simp only [rop,if_pos hk,hb,hq],zr⟩
   ·cases e
theorem lenMap_rel (s:SR Gl G μ h H) {vs:List VV} {as:List AV} {v:VV} (hv:lenMapV h vs=some v) (kk:VRs G μ vs as):∃ a,rop .lenMap as H=some a∧VR G μ v a:=by
 unfold lenMapV at hv
 split at hv<;>try (cases hv;done)
 obtain ⟨a,rfl,h1⟩:=VRs.one kk
 split at hv<;>try (cases hv;done)
 rename_i l r hm
 obtain rfl:=Option.some.inj hv
 rcases mapOf_rel s hm h1 with ⟨rfl,rfl,rfl⟩ | ⟨bl,es,rfl,hb,hM⟩
 ·exact ⟨_,rfl,rfl⟩
 ·have:=VRs.length hM.1
  simp only [List.length_map] at this
  exact ⟨.int .i64 es.length,by simp only [rop,hb],by rw [this];rfl⟩
theorem win_rel (s:SR Gl G μ h H) {i o n b:Nat} {cs:List VV} (hw:winV h i o n=some cs) (hb:μ i=some b):∃ as,cellsAt H (b,o) n=some as∧VRs G μ cs as∧cs.length=n:=by
 unfold winV at hw
 split at hw<;>try (cases hw;done)
 rename_i full ro hg
 split at hw<;>try (cases hw;done)
 rename_i hle
 obtain rfl:=Option.some.inj hw
 obtain ⟨b',y,h1,h2,⟨as,rw,st,rfl,h3,_⟩,_⟩:=s.blk _ _ hg
 rw [hb] at h1;obtain rfl:=Option.some.inj h1
 refine ⟨(as.drop o).take n,?_,VRs.take _ (VRs.drop _ h3),by simp;omega⟩
 simp only [cellsAt,h2]
 rw [if_pos (by rw [VRs.length h3];exact hle)]
theorem bytes_rel:∀ {cs:List VV} {as:List AV} {l:List UInt8},bytesV cs=some l→VRs G μ cs as→bytesOf as=some l
 | [],as,l,hv,h=>by simp only [VRs] at h;subst h;simpa [bytesV,bytesOf] using hv
 | c::cs,as,l,hv,⟨y,ys,e,h1,h2⟩=>by
  subst e
  unfold bytesV at hv
  split at hv<;>simp_all
  rename_i n r e1
  obtain ⟨rfl,rfl⟩:=e1
  simp only [VR] at h1;subst h1
  split at hv<;>try (cases hv;done)
  rename_i l' hl
  simp only [bytesOf,bytes_rel hl h2]
  exact hv
theorem b2s_rel (s:SR Gl G μ h H) {vs:List VV} {as:List AV} {v:VV} (hv:b2sV h vs=some v) (kk:VRs G μ vs as):∃ a,rop .b2s as H=some a∧VR G μ v a:=by
 unfold b2sV at hv
 split at hv<;>try (cases hv;done)
 ·obtain ⟨a,rfl,h1⟩:=VRs.one kk
  simp only [VR] at h1;subst h1
  obtain rfl:=Option.some.inj hv
  exact ⟨_,rfl,rfl⟩
 ·obtain ⟨a,rfl,b,hb,rfl⟩:=VRs.one kk
  split at hv<;>try (cases hv;done)
  rename_i cs hw
  split at hv<;>try (cases hv;done)
  rename_i l hl
  obtain rfl:=Option.some.inj hv
  obtain ⟨as,h1,h2,_⟩:=win_rel s hw hb
  exact ⟨.str l,by simp only [rop,h1,bytes_rel hl h2],rfl⟩
 ·rename_i cs n e
  obtain ⟨a,rfl,h0,k1⟩:=VRs.one kk
  split at hv<;>try (cases hv;done)
  rename_i he
  subst he
  split at hv<;>try (cases hv;done)
  rename_i l hl
  obtain rfl:=Option.some.inj hv
  rcases k1 with ⟨h1,rfl⟩ | ⟨b,o,c,full,rw,st,as,h1,rfl,h3,h4,h5,h6⟩
  ·subst h1
   have:cs=[]:=List.eq_nil_of_length_eq_zero (by simpa using h0)
   subst this
   simp only [bytesV,Option.some.injEq] at hl;subst hl
   exact ⟨_,rfl,rfl⟩
  ·subst h4
   rw [Nat.mul_one] at h5 h6
   refine ⟨.str l,?_,rfl⟩
   simp only [rop,cellsAt,(s.w.at_ _ _ h1).1]
   rw [if_pos h5]
   simp only [bytes_rel hl h6]
theorem rop_rel (s:SR Gl G μ h H) {q:ROp} {vs:List VV} {as:List AV} {v:VV} (hv:ropV Gl h q vs=some v) (kk:VRs G μ vs as):∃ a,rop q as H=some a∧VR G μ v a:=by
 cases q<;>simp only [ropV] at hv
 ·exact load_rel s hv kk
 ·exact eqRV_rel s hv kk
 ·exact lookup_rel s hv kk
 ·exact lenMap_rel s hv kk
 ·exact b2s_rel s hv kk
end
end
end Go.VL
