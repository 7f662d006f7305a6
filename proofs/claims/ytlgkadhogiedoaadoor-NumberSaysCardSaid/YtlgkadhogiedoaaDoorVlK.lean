import Derived.Test.YtlgkadhogiedoaaDoorVlJ
import Derived.Attr
set_option linter.unusedSimpArgs false
set_option linter.unusedVariables false
namespace Go.VL
open Go.FR
noncomputable section
def globsFrom (tp:Nat):Nat→List Er→qzh
 | _,[]=>[]
 | n,e::l=>(n,[.iface tp (.gptr (n+1) 0)])::(n+1,[.str e.text])::globsFrom tp (n+2) l
abbrev globsOf (tp:Nat) (l:List Er):qzh:=globsFrom tp 0 l
theorem errTr_low (tp:Nat):∀ (l:List Er) (n:Nat) (T:Tr ABlk) (k:Nat),k < n→(errTr tp n l T).get k=T.get k
 | [],_,_,_,_=>rfl
 | e::l,n,T,k,hk=>by
  simp only [errTr]
  rw [errTr_low tp l (n+2) _ k (by omega),Tr.get_set,if_neg (by omega),Tr.get_set,if_neg (by omega)]
theorem glob_tr (tp:Nat):∀ (l:List Er) (n:Nat) (T:Tr ABlk) (i:Nat) (cs:List VV),qzf (globsFrom tp n l) i=some cs →
  n≤i∧i < n+2*l.length∧∃ as,(errTr tp n l T).get i=some (.cells as false false)∧∀ G,VRs G noP cs as
 | [],n,T,i,cs,h=>by simp [globsFrom,qzf] at h
 | e::l,n,T,i,cs,h=>by
  simp only [globsFrom,qzf] at h
  simp only [errTr,List.length_cons]
  by_cases e1:n=i
  ·rw [if_pos e1] at h
   obtain rfl:=Option.some.inj h
   refine ⟨by omega,by omega,[.iface tp (.ptr (some (n+1,0)))],?_,fun G=>VRs.cons ⟨_,rfl,rfl⟩ VRs.nil⟩
   rw [errTr_low tp l (n+2) _ i (by omega),Tr.get_set,if_neg (by omega),Tr.get_set,if_pos e1.symm]
  ·rw [if_neg e1] at h
   by_cases e2:n+1=i
   ·rw [if_pos e2] at h
    obtain rfl:=Option.some.inj h
    refine ⟨by omega,by omega,[.str e.text],?_,fun G=>VRs.cons rfl VRs.nil⟩
    rw [errTr_low tp l (n+2) _ i (by omega),Tr.get_set,if_pos e2.symm]
   ·rw [if_neg e2] at h
    obtain ⟨h1,h2,h3⟩:=glob_tr tp l (n+2) ((T.set n (.cells [.iface tp (.ptr (some (n+1,0)))] false false)).set (n+1) (.cells [.str e.text] false false)) i cs h
    exact ⟨by omega,by omega,h3⟩
theorem glob_ok (tp:Nat) (l:List Er) (i:Nat) (cs:List VV) (h:qzf (globsOf tp l) i=some cs):∃ as,GG (errHeap tp l) i=some (.cells as false false)∧VRs (GG (errHeap tp l)) noP cs as:=by
 obtain ⟨h1,h2,as,h3,h4⟩:=glob_tr tp l 0 .nil i cs h
 refine ⟨as,?_,h4 _⟩
 unfold GG
 rw [if_pos (by simp only [errHeap];omega)]
 exact h3
end
end Go.VL
namespace Go.VL
open Go.FR
noncomputable section
theorem mapO_mono {f f':VV→Option VV} (hf:∀ v w,f v=some w→f' v=some w):∀ {cs ds:List VV},mapO f cs=some ds→mapO f' cs=some ds
 | [],ds,h=>h
 | c::cs,ds,h=>by
  simp only [mapO] at h ⊢
  split at h<;>try (cases h;done)
  rename_i x hx
  split at h<;>try (cases h;done)
  rename_i z hz
  simp only [hf _ _ hx,mapO_mono hf hz];exact h
theorem shutS_mono {f f':VV→Option VV} (hf:∀ v w,f v=some w→f' v=some w) {cs ds:List VV} (h:shutS f cs=some ds):shutS f' cs=some ds:=by
 unfold shutS at h ⊢
 split at h
 ·rename_i hc;rw [if_pos hc];exact h
 ·rename_i hc;rw [if_neg hc];exact mapO_mono hf h
def stepD (F:VV→Option VV) (g:Nat→Option VB) (v:VV):Option VV:=if closedB v=true then some v else match v with
  | .ptr i o=>match g i with
   | some (.cells cs _)=>match shutS F cs with
    | some ds=>some (.fptr ds o)
    | none=>none
   | _=>none
  | .slice i o n e c=>match g i with
   | some (.cells cs _)=>if o+n*e≤cs.length∧capOK e n c then (match shutS F ((cs.drop o).take (n*e)) with
    | some ds=>some (.fsl ds n e)
    | none=>none) else none
   | _=>none
  | .map i=>match g i with
   | some (.map ks vs _)=>match shutS F ks,shutS F vs with
    | some a,some b=>some (.fmap a b)
    | _,_=>none
   | _=>none
  | .iface t x=>match F x with
   | some y=>some (.iface t y)
   | none=>none
  | .agg cs=>match mapO F cs with
   | some ds=>some (.agg ds)
   | none=>none
  | .tuple cs=>match mapO F cs with
   | some ds=>some (.tuple ds)
   | none=>none
  | _=>none
theorem shutD_step {g:Nat→Option VB} (k:Nat) (v:VV):shutD (k+1) g v=stepD (shutD k g) g v:=by
 cases v<;>rfl
theorem stepD_mono {F F':VV→Option VV} (ih:∀ v w,F v=some w→F' v=some w) {g:Nat→Option VB} {v w:VV} (h:stepD F g v=some w):stepD F' g v=some w:=by
 have ihS:∀ cs ds,shutS F cs=some ds→shutS F' cs=some ds:=fun cs ds q=>shutS_mono ih q
 by_cases hc:closedB v=true
 ·simp only [stepD,hc,if_true] at h ⊢;exact h
 have e:∀ (G:VV→Option VV) (x y:Option VV),(if closedB v=true then x else y)=y:=fun _ x y=>if_neg hc
 cases v
 case ptr i o =>
  unfold stepD at h ⊢
  rw [if_neg hc] at h ⊢
  simp only at h ⊢
  split at h<;>try (cases h;done)
  rename_i cs ro hg
  split at h<;>try (cases h;done)
  rename_i ds hd
  simp only [hg,ihS _ _ hd];exact h
 case slice i o n e c =>
  unfold stepD at h ⊢
  rw [if_neg hc] at h ⊢
  simp only at h ⊢
  split at h<;>try (cases h;done)
  rename_i cs ro hg
  split at h<;>try (cases h;done)
  rename_i hr
  split at h<;>try (cases h;done)
  rename_i ds hd
  simp only [hg,if_pos hr,ihS _ _ hd];exact h
 case map i =>
  unfold stepD at h ⊢
  rw [if_neg hc] at h ⊢
  simp only at h ⊢
  split at h<;>try (cases h;done)
  rename_i ks vs ro hg
  split at h<;>try (cases h;done)
  rename_i x y hx hy
  simp only [hg,ihS _ _ hx,ihS _ _ hy];exact h
 case iface t x =>
  unfold stepD at h ⊢
  rw [if_neg hc] at h ⊢
  simp only at h ⊢
  split at h<;>try (cases h;done)
  rename_i y hy
  simp only [ih _ _ hy];exact h
 case agg cs =>
  unfold stepD at h ⊢
  rw [if_neg hc] at h ⊢
  simp only at h ⊢
  split at h<;>try (cases h;done)
  rename_i y hy
  simp only [mapO_mono ih hy];exact h
 case tuple cs =>
  unfold stepD at h ⊢
  rw [if_neg hc] at h ⊢
  simp only at h ⊢
  split at h<;>try (cases h;done)
  rename_i y hy
  simp only [mapO_mono ih hy];exact h
 all_goals
  unfold stepD at h
  rw [if_neg hc] at h
  cases h
theorem shutD_succ {g:Nat→Option VB}:∀ (k:Nat) (v w:VV),shutD k g v=some w→shutD (k+1) g v=some w
 | 0,v,w,h=>by
  simp only [shutD] at h
  split at h<;>try (cases h;done)
  rename_i hc
  simp only [shutD,hc,if_true];exact h
 | k+1,v,w,h=>by
  rw [shutD_step] at h ⊢
  exact stepD_mono (shutD_succ k) h
theorem shutD_le {g:Nat→Option VB} {k n:Nat} (hk:k≤n) {v w:VV} (h:shutD k g v=some w):shutD n g v=some w:=by
 induction n with
 | zero=>obtain rfl:k=0:=by omega
         exact h
 | succ n ih =>
  by_cases e:k=n+1
  ·rw [←e];exact h
  ·exact shutD_succ _ _ _ (ih (by omega))
def Shuts (g:Nat→Option VB) (v w:VV):Prop:=∃ k v1,shutD k g v=some v1∧subV v1 w
def ShutsL (g:Nat→Option VB) (cs ws:List VV):Prop:=∃ k ds,mapO (shutD k g) cs=some ds∧subL ds ws
theorem shutD_closed {g:Nat→Option VB} {v:VV} (k:Nat) (hc:closedB v=true):shutD k g v=some v:=by
 cases k<;>simp only [shutD,hc,if_true]
theorem mapO_closed {g:Nat→Option VB} (k:Nat):∀ {cs:List VV},closedL cs=true→mapO (shutD k g) cs=some cs
 | [],_=>rfl
 | c::cs,h=>by
  simp only [closedL,Bool.and_eq_true] at h
  simp only [mapO,shutD_closed k h.1,mapO_closed k h.2]
variable {g:Nat→Option VB}
theorem Shuts.closed {v:VV} (hc:closedB v=true):Shuts g v v:=⟨0,v,shutD_closed 0 hc,subV_refl v⟩
theorem Shuts.closed_sub {v w:VV} (hc:closedB v=true) (h:subV v w):Shuts g v w:=⟨0,v,shutD_closed 0 hc,h⟩
theorem ShutsL.closed {cs:List VV} (hc:closedL cs=true):ShutsL g cs cs:=⟨0,cs,mapO_closed 0 hc,subL_refl cs⟩
theorem ShutsL.nil:ShutsL g [] []:=⟨0,[],rfl,rfl⟩
theorem ShutsL.cons {v w:VV} {cs ws:List VV} (h:Shuts g v w) (hs:ShutsL g cs ws):ShutsL g (v::cs) (w::ws):=by
 obtain ⟨k,v1,h1,h2⟩:=h
 obtain ⟨n,ds,h3,h4⟩:=hs
 refine ⟨max k n,v1::ds,?_,⟨_,_,rfl,h2,h4⟩⟩
 simp only [mapO,shutD_le (Nat.le_max_left k n) h1,mapO_mono (fun _ _=>shutD_le (Nat.le_max_right k n)) h3]
theorem ShutsL.append:∀ {a b c d:List VV},ShutsL g a b→ShutsL g c d→ShutsL g (a++c) (b++d)
 | [],b,c,d,⟨k,ds,h1,h2⟩,h=>by
  simp only [mapO,Option.some.injEq] at h1
  subst h1
  have:b=[]:=h2
  subst this
  exact h
 | v::a,b,c,d,⟨k,ds,h1,h2⟩,h=>by
  simp only [mapO] at h1
  split at h1<;>try (cases h1;done)
  rename_i x hx
  split at h1<;>try (cases h1;done)
  rename_i z hz
  obtain rfl:=Option.some.inj h1
  obtain ⟨y,ys,rfl,k1,k2⟩:=h2
  exact ShutsL.cons ⟨k,x,hx,k1⟩ (ShutsL.append ⟨k,z,hz,k2⟩ h)
theorem ShutsL.flat {α:Type} {f f':α→List VV}:∀ {l:List α},(∀ a∈l,ShutsL g (f a) (f' a))→ShutsL g (flatL f l) (flatL f' l)
 | [],_=>ShutsL.nil
 | a::l,h=>by
  rw [flatL_cons,flatL_cons]
  exact ShutsL.append (h a (.head _)) (ShutsL.flat fun b hb=>h b (.tail _ hb))
theorem Shuts.agg {cs ws:List VV} (h:ShutsL g cs ws):Shuts g (.agg cs) (.agg ws):=by
 obtain ⟨k,ds,h1,h2⟩:=h
 refine ⟨k+1,.agg ds,?_,⟨_,rfl,h2⟩⟩
 rw [shutD_step]
 unfold stepD
 split
 ·rename_i hc
  have:closedL cs=true:=hc
  rw [mapO_closed k this] at h1
  rw [Option.some.inj h1]
 ·simp only [h1]
theorem Shuts.tuple {cs ws:List VV} (h:ShutsL g cs ws):Shuts g (.tuple cs) (.tuple ws):=by
 obtain ⟨k,ds,h1,h2⟩:=h
 refine ⟨k+1,.tuple ds,?_,⟨_,rfl,h2⟩⟩
 rw [shutD_step]
 unfold stepD
 split
 ·rename_i hc
  have:closedL cs=true:=hc
  rw [mapO_closed k this] at h1
  rw [Option.some.inj h1]
 ·simp only [h1]
theorem ShutsL.shutS {cs ws:List VV} (h:ShutsL g cs ws):∃ k ds,shutS (shutD k g) cs=some ds∧subL ds ws:=by
 obtain ⟨k,ds,h1,h2⟩:=h
 by_cases hc:closedL cs=true
 ·rw [mapO_closed k hc] at h1
  refine ⟨k,ds,?_,h2⟩
  unfold Go.VL.shutS;rw [if_pos hc];exact h1
 ·refine ⟨k,ds,?_,h2⟩
  unfold Go.VL.shutS;rw [if_neg hc];exact h1
theorem Shuts.slice {i o n e:Nat} {c:ACap} {cs ws:List VV} {ro:Bool} (hi:g i=some (.cells cs ro)) (hr:o+n*e≤cs.length) (hc:capOK e n c) (h:ShutsL g ((cs.drop o).take (n*e)) ws):Shuts g (.slice i o n e c) (.fsl ws n e):=by
 obtain ⟨k,ds,h1,h2⟩:=h.shutS
 exact ⟨k+1,.fsl ds n e,by rw [shutD_step];unfold stepD;rw [if_neg (by simp [closedB])];simp only [hi,hr,hc,and_self,if_true,h1],⟨_,rfl,h2⟩⟩
theorem Shuts.whole {i n e:Nat} {c:ACap} {cs ws:List VV} {ro:Bool} (hi:g i=some (.cells cs ro)) (hn:cs.length=n*e) (hc:capOK e n c) (h:ShutsL g cs ws):Shuts g (.slice i 0 n e c) (.fsl ws n e) :=
 Shuts.slice hi (by omega) hc (by rw [List.drop_zero,←hn,List.take_length];exact h)
theorem Shuts.ptr {i o:Nat} {cs ws:List VV} {ro:Bool} (hi:g i=some (.cells cs ro)) (h:ShutsL g cs ws):Shuts g (.ptr i o) (.fptr ws o):=by
 obtain ⟨k,ds,h1,h2⟩:=h.shutS
 exact ⟨k+1,.fptr ds o,by rw [shutD_step];unfold stepD;rw [if_neg (by simp [closedB])];simp only [hi,h1],⟨_,rfl,h2⟩⟩
theorem Shuts.acc {α:Type} {base:Nat} {h:VH} {j:Nat} {f f':α→List VV} {l:List α} {esz:Nat} {v:VV} (a:AccAt base h j f l esz v) (hg:base≤j→∀ x,h.get j=some x→g j=some x) (hf:∀ a,(f a).length=esz) (hs:∀ a∈l,ShutsL g (f a) (f' a)):Shuts g v (.fsl (flatL f' l) l.length esz):=by
 have hl:=flatL_length hf l
 have hx:=ShutsL.flat hs
 rcases a with ⟨rfl,rfl⟩ | ⟨rfl,a2,a3,a4⟩
 ·exact Shuts.closed_sub rfl (.inr ⟨esz,rfl⟩)
 ·have:=hg a3 _ (by rw [get_def,a2];rfl)
  exact Shuts.whole this (by rw [hl]) rfl hx
end
end Go.VL
namespace Go.VL
open Go.FR
attribute [go_sem] wp_skip wp_ops wp_draw wp_seq wp_block wp_exit wp_ret wp_cond wpIf_true wpIf_false wpIf_bool kSeq_n kSeq_e kSeq_r kBlk_n kBlk_e kBlk_r kLoop_n kLoop_e kLoop_r wpO_nil wpO_cons
attribute [go_sem] wpG_true wpG_false wpA_p wpA_r wpA_n wpA_w kW_app wpX_nil wpX_cons wpXG_true wpXG_false wpXA_p wpXA_r wpXA_n wpXA_w kX_app Ends_n Ends_r optK_some optR_some optN_some optL_some
attribute [go_sem] optW_some kA_app kP_app kN_app kXA_app kXP_app kXN_app wpW_store wpW_copy wpW_mapUpd wpW_mark wpW_callF wpW_callV wantV opdsV opdV look_cons putV popV movV pickV fAddrV iAddrSV
attribute [go_sem] iAddrAV fieldV idxArrV extV mkIV tAssV lenSlV lenArrV nilChkV slV slArrV bndV ropV loadV eqRV aeqV aeqVs eqPV eqSV eqIV eqFV eqMV eqGV inGl eqScal eqBool eqInt eqStr nopV boxV
attribute [go_sem] buildV fillV spliceV storeOpV storeV srcV lenOfV winV copyV b2sV s2bV mkSliceV partV cvs cv scal toAs toA ofA FR.pop abin aun intBin shiftBin strBin bnds natOf max2A min2A foldA
attribute [go_sem] VN.at VH.push VH.set VH.kill VH.fix VB.fix get_def h0 VV.cells ntV finV ressV resV tupV closedB closedL plainB plainL undefV countN mayRead lowB fzB fzL apartB liveB refsOKL refsOK
attribute [go_sem] idsL idsV idsO nilCmp natV_nat capOK capMost capDrop Option.getD_some Option.getD_none Option.isSome_some Option.map_some Option.map_none List.getElem?_cons_zero
attribute [go_sem] List.getElem?_cons_succ List.length_cons List.length_nil List.drop_succ_cons List.drop_zero List.take_succ_cons List.take_zero List.append_nil List.nil_append List.cons_append
attribute [go_sem] List.contains_cons List.contains_nil List.head?_cons Nat.add_zero Nat.zero_add and_self and_true true_and and_false false_and not_true_eq_false not_false_eq_true Bool.and_self
attribute [go_sem] Bool.and_true Bool.true_and Bool.and_false Bool.or_false Bool.true_or Bool.or_true Bool.false_or Bool.not_false Bool.not_true Bool.false_eq_true beq_self_eq_true bne_self_eq_false
attribute [go_sem] rdOK_old oldB oldC or_true or_false false_or
attribute [go_sem high] rdOK_may
attribute [go_sem] beq_true beq_false decide_true decide_false true_or if_true if_false forall_const false_implies true_implies Bool.true_eq_false
end Go.VL
