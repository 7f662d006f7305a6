/- The fast run: operations that only reckon are as the model's. -/
import Derived.Test.YtlgkadhogiedoaaDoorFrD
import Derived.Laws.Strings
import Derived.Laws.Concat
import Derived.Lib.Strings
set_option linter.unusedSimpArgs false
set_option linter.unusedVariables false
namespace Go.FR
noncomputable section
open Go
section
variable {P:Program} {C:Cfg} {ι:Pl} {w:World}
theorem run_und {t:TypeId} {d:TypeDesc} (h:P.underlying t=some d) (w:World):(underlying t).run P w = .ok d w:=by
 simp [underlying,h]
theorem run_size {t:TypeId} {n:Nat} (h:sizeC P t=some n) (w:World):(sizeOf t).run P w = .ok n w:=by
 unfold sizeC at h
 cases hi:P.info? t with
 | none=>simp [hi] at h
 | some i=>simp [hi] at h;simp [sizeOf,typeInfo,hi,h]
theorem run_agg {t:TypeId} {d:TypeDesc} (h:P.underlying t=some d) (w:World):(isAgg t).run P w = .ok (isAggD d) w:=by
 unfold isAgg isAggD
 simp only [Sem.run_bind,run_und h,Result.andThen_ok]
 cases d<;>simp
theorem VR1 {a:AV} {us:List Value} (h:VRels ι [a] us):∃ x,us=[x]∧VRel ι a x:=by
 obtain ⟨x,r,e,h1,h2⟩:=h
 simp only [VRels] at h2;subst h2;exact ⟨x,e,h1⟩
theorem VR2 {a b:AV} {us:List Value} (h:VRels ι [a,b] us):∃ x y,us=[x,y]∧VRel ι a x∧VRel ι b y:=by
 obtain ⟨x,r,e,h1,h2⟩:=h
 obtain ⟨y,rfl,h3⟩:=VR1 h2
 exact ⟨x,y,e,h1,h3⟩
theorem ba_toList (s:List UInt8):(⟨s.toArray⟩:ByteArray).toList=s:=ByteArray.toList_mk s
theorem ba_size (l:List UInt8):(⟨l.toArray⟩:ByteArray).size=l.length:=by simp [ByteArray.size]
theorem abin_run {op:BinOp} {t:TypeId} {a b:AV} {x y v:_} (ha:VRel ι a x) (hb:VRel ι b y) (h:abin op a b=some v) :
  ∃ u,(binOp op t x y).run P w = .ok u w∧VRel ι v u:=by
 cases a<;>cases b<;>simp only [abin] at h<;>try (cases h;done)
 case int.int k m k' n =>
  simp only [VRel] at ha hb;subst ha;subst hb
  have sh:∀ (o:BinOp) (r:AV),shiftBin o k m n=some r→(o = .shl∨o = .shr)→∃ u,(Op.shift o k m k' n).run P w = .ok u w∧VRel ι r u:=by
   intro o r hr ho
   unfold shiftBin at hr
   by_cases hn:n < 0
   ·simp [hn] at hr
   ·rw [if_neg hn] at hr
    rcases ho with rfl | rfl<;>simp only [Option.some.injEq] at hr<;>subst hr<;>exact ⟨_,by simp [Op.shift,hn],rfl⟩
  cases op<;>simp only [intBin] at h<;>first
   | (cases h;done)
   | (exact sh _ _ h (by simp))
   | (simp only [binOp]
      split at h<;>first
       | (cases h;done)
       | (split at h<;>first
         | (cases h;done)
         | (simp only [Option.some.injEq] at h;subst h
            simp_all [Op.intDiv,Op.shift,VRel]
            try (intro hh;omega)))
       | (simp only [Option.some.injEq] at h;subst h
          simp_all [Op.intArith,Op.intDiv,Op.intBits,Op.intCmp,Op.shift,VRel];done))
 case str.str s r =>
  simp only [VRel] at ha hb;subst ha;subst hb
  have e1:=ba_toList s
  have e2:=ba_toList r
  cases op<;>simp only [strBin] at h<;>first
   | (cases h;done)
   | (simp only [Option.some.injEq] at h;subst h
      simp [binOp,Op.stringOp,e1,e2,VRel];done)
   | (split at h
      ·rename_i hl
       simp only [Option.some.injEq] at h;subst h
       refine ⟨_,?_,rfl⟩
       simp only [binOp,Op.stringOp,ba_size]
       rw [if_neg (by simp [IntKind.max,IntKind.signed,IntKind.bits];omega)]
       simp only [Sem.run_pure,ByteArray.mk_append_mk]
      ·cases h)
theorem VRv0 {vs:List AV} (h:VRels ι vs []):vs=[]:=by
 cases vs with
 | nil=>rfl
 | cons x l=>obtain ⟨y,ys,e,_⟩:=h;cases e
theorem VRvc {vs:List AV} {a:Value} {r:List Value} (h:VRels ι vs (a::r)):∃ x l,vs=x::l∧VRel ι x a∧VRels ι l r:=by
 cases vs with
 | nil=>simp [VRels] at h
 | cons x l=>obtain ⟨y,ys,e,p,q⟩:=h;cases e;exact ⟨x,l,rfl,p,q⟩
theorem VRv1 {vs:List AV} {a:Value} (h:VRels ι vs [a]):∃ x,vs=[x]∧VRel ι x a:=by
 obtain ⟨x,l,rfl,p,q⟩:=VRvc h
 obtain rfl:=VRv0 q
 exact ⟨x,rfl,p⟩
theorem VRv2 {vs:List AV} {a b:Value} (h:VRels ι vs [a,b]):∃ x y,vs=[x,y]∧VRel ι x a∧VRel ι y b:=by
 obtain ⟨x,l,rfl,p,q⟩:=VRvc h
 obtain ⟨y,rfl,q'⟩:=VRv1 q
 exact ⟨x,y,rfl,p,q'⟩
theorem VRv3 {vs:List AV} {a b c:Value} (h:VRels ι vs [a,b,c]):∃ x y z,vs=[x,y,z]∧VRel ι x a∧VRel ι y b∧VRel ι z c:=by
 obtain ⟨x,l,rfl,p,q⟩:=VRvc h
 obtain ⟨y,z,rfl,q',r⟩:=VRv2 q
 exact ⟨x,y,z,rfl,p,q',r⟩
theorem natOf_rel {i:AV} {x:Value} {n:Nat} (h:VRel ι i x) (k:natOf i=some n):∃ kd,x = .int kd n:=by
 cases i<;>simp only [natOf] at k<;>try (cases k;done)
 case int kd m =>
  cases m with
  | ofNat m=>simp at k;subst k;simp only [VRel] at h;exact ⟨kd,h⟩
  | negSucc m=>simp at k
theorem part_run {t:TypeId} {sz:Option Nat} {cs:List AV} {a:Array Value} {off:Nat} {v:AV} (ha:aggC P t=some sz) (hc:VRels ι cs a.toList) (hs:∀ c∈cs,scA c=true) (hp:partA cs off sz=some v) :
  ∃ u,(∀ w,(part t a off).run P w = .ok u w)∧VRel ι v u:=by
 unfold aggC at ha
 cases hd:P.underlying t with
 | none=>simp [hd] at ha
 | some d =>
  cases hz:sizeC P t with
  | none=>simp [hd,hz] at ha
  | some n =>
   simp only [hd,hz,Option.some.injEq] at ha
   cases hb:isAggD d with
   | true =>
    simp only [hb,if_true] at ha
    subst ha
    simp only [partA] at hp
    split at hp
    ·rename_i hle
     simp only [Option.some.injEq] at hp;subst hp
     refine ⟨.agg (a.extract off (off+n)),fun w => ?_,_,rfl,?_,fun c hcm=>hs c (List.mem_of_mem_drop (List.mem_of_mem_take hcm))⟩
     ·simp [part,run_agg hd,hb,run_size hz]
     ·have:=(hc.drop off).take n
      simpa [Array.toList_extract,List.extract_eq_take_drop] using this
    ·cases hp
   | false =>
    simp only [hb,Bool.false_eq_true,if_false] at ha
    subst ha
    simp only [partA] at hp
    obtain ⟨u,hu,hr⟩:=hc.get off v hp
    refine ⟨u,fun w => ?_,hr⟩
    have hu':a[off]?=some u:=by simpa using hu
    simp [part,run_agg hd,hb,hu']
theorem bnds_run {lo hi:Option Operand} {ρ:Operand→Value} {len most cap l h:Nat} {r:List AV} (isS:Bool) (hm:most≤cap) (hl:len≤cap) (hr:VRels ι r ((optL lo++optL hi).map ρ))
  (hb:bnds lo.isSome hi.isSome len most r=some (l,h)) :
  (∀ w,(Instr.sliceBounds isS len cap (lo.map ρ) (hi.map ρ) none).run P w = .ok (l,h,cap) w)∧l≤h∧(h≤most∨h=len):=by
 have sb:∀ (k:IntKind) (i y:Nat) (code:BoundsCode) (w:World),i≤y→(Instr.sliceBound (.int k (i:Int)) y code).run P w = .ok i w:=by
  intro k i y code w h
  have:(0:Int)≤(i:Int)∧(i:Int)≤(y:Int):=⟨by omega,by omega⟩
  simp [Instr.sliceBound,asIntOf,this]
 cases lo with
 | none =>
  cases hi with
  | none =>
   simp only [optL,List.append_nil,List.map_nil] at hr
   obtain rfl:=VRv0 hr
   simp only [Option.isSome_none,bnds,Option.some.injEq,Prod.mk.injEq] at hb
   obtain ⟨rfl,rfl⟩:=hb
   exact ⟨fun w=>by simp [Instr.sliceBounds],by omega,.inr rfl⟩
  | some hi =>
   simp only [optL,List.nil_append,List.map_cons,List.map_nil] at hr
   obtain ⟨a,rfl,ha⟩:=VRv1 hr
   simp only [Option.isSome_none,Option.isSome_some,bnds] at hb
   split at hb
   ·rename_i n hn
    split at hb
    ·rename_i hle
     simp only [Option.some.injEq,Prod.mk.injEq] at hb
     obtain ⟨rfl,rfl⟩:=hb
     obtain ⟨kd,e⟩:=natOf_rel ha hn
     exact ⟨fun w=>by simp [Instr.sliceBounds,e,sb kd n cap _ w (by omega)],by omega,.inl hle⟩
    ·cases hb
   ·cases hb
 | some lo =>
  cases hi with
  | none =>
   simp only [optL,List.append_nil,List.map_cons,List.map_nil] at hr
   obtain ⟨a,rfl,ha⟩:=VRv1 hr
   simp only [Option.isSome_none,Option.isSome_some,bnds] at hb
   split at hb
   ·rename_i n hn
    split at hb
    ·rename_i hle
     simp only [Option.some.injEq,Prod.mk.injEq] at hb
     obtain ⟨rfl,rfl⟩:=hb
     obtain ⟨kd,e⟩:=natOf_rel ha hn
     exact ⟨fun w=>by simp [Instr.sliceBounds,e,sb kd n _ _ w hle],hle,.inr rfl⟩
    ·cases hb
   ·cases hb
  | some hi =>
   simp only [optL,List.cons_append,List.nil_append,List.map_cons,List.map_nil] at hr
   obtain ⟨a,b,rfl,ha,hb'⟩:=VRv2 hr
   simp only [Option.isSome_some,bnds] at hb
   split at hb
   ·rename_i n m hn hm'
    split at hb
    ·rename_i hle
     simp only [Option.some.injEq,Prod.mk.injEq] at hb
     obtain ⟨rfl,rfl⟩:=hb
     obtain ⟨kd,e⟩:=natOf_rel ha hn
     obtain ⟨kd',e'⟩:=natOf_rel hb' hm'
     exact ⟨fun w=>by simp [Instr.sliceBounds,e,e',sb kd n _ _ w hle.1,sb kd' m _ _ w (by omega:m≤cap)],hle.1,.inl hle.2⟩
    ·cases hb
   ·cases hb
theorem fillA_length:∀ (ps:List (Nat × Nat)) (vs:List AV) (cs r:List AV),fillA cs ps vs=some r→r.length=cs.length
 | [],[],cs,r,h=>by simp [fillA] at h;rw [h]
 | [],_::_,cs,r,h=>by simp [fillA] at h
 | _::_,[],cs,r,h=>by simp [fillA] at h
 | (off,size)::ps,v::vs,cs,r,h=>by
  simp only [fillA] at h
  split at h
  ·rename_i hc
   rw [fillA_length ps vs _ r h]
   simp [splice];omega
  ·cases h
theorem foldl_setL {α:Type} (vs:List α):∀ (off i:Nat) (L:List α),off+i+vs.length≤L.length →
  (vs.zipIdx i).foldl (fun (cs:List α) (p:α × Nat)=>cs.set (off+p.2) p.1) L=L.take (off+i)++(vs++L.drop (off+i+vs.length)):=by
 induction vs with
 | nil=>intro off i L h;simp
 | cons v vs ih =>
  intro off i L h
  simp only [List.length_cons] at h
  simp only [List.zipIdx_cons,List.foldl_cons]
  rw [ih off (i+1) _ (by simp;omega)]
  have e:L.set (off+i) v=L.take (off+i)++v::L.drop (off+i+1):=by
   rw [List.set_eq_take_append_cons_drop,if_pos (by omega)]
  have hlen:(L.take (off+i)).length=off+i:=by simp;omega
  have e1:(L.set (off+i) v).take (off+(i+1))=L.take (off+i)++[v]:=by
   rw [e,List.take_append,hlen]
   simp [show off+(i+1) - (off+i)=1 by omega,List.take_take]
  have e2:(L.set (off+i) v).drop (off+(i+1)+vs.length)=L.drop (off+i+(vs.length+1)):=by
   rw [e,List.drop_append,hlen]
   rw [show off+(i+1)+vs.length - (off+i)=vs.length+1 by omega,List.drop_eq_nil_of_le (by rw [hlen];omega)]
   simp [List.drop_drop]
   congr 1
   omega
  rw [e1,e2];simp
theorem foldl_set {α:Type} (vs:List α) (off i:Nat) (a:Array α) (h:off+i+vs.length≤a.size) :
  ((vs.zipIdx i).foldl (fun (cs:Array α) (p:α × Nat)=>cs.setIfInBounds (off+p.2) p.1) a).toList=a.toList.take (off+i)++(vs++a.toList.drop (off+i+vs.length)):=by
 have key:∀ (l:List (α × Nat)) (a:Array α),(l.foldl (fun (cs:Array α) (p:α × Nat)=>cs.setIfInBounds (off+p.2) p.1) a).toList=l.foldl (fun (cs:List α) (p:α × Nat)=>cs.set (off+p.2) p.1) a.toList:=by
  intro l
  induction l with
  | nil=>intro a;rfl
  | cons p l ih=>intro a;simp only [List.foldl_cons];rw [ih];simp
 rw [key,foldl_setL _ _ _ _ (by simpa using h)]
theorem fill_run {place:Nat→Option (Nat × Nat)}:∀ (parts:List (Nat × Value)) (pl:List (Nat × Nat)) (vs:List AV) (cs r:List AV) (a:Array Value),
  parts.map (fun p=>place p.1)=pl.map some→VRels ι vs (parts.map (·.2))→VRels ι cs a.toList→(∀ c∈cs,scA c=true)→fillA cs pl vs=some r →
  ∃ b,Instr.fill place a parts=some b∧VRels ι r b.toList∧∀ c∈r,scA c=true:=by
 intro parts
 induction parts with
 | nil =>
  intro pl vs cs r a hp hv hc hs h
  cases pl with
  | nil =>
   obtain rfl:=VRv0 hv
   simp [fillA] at h;subst h
   exact ⟨a,rfl,hc,hs⟩
  | cons=>simp at hp
 | cons p parts ih =>
  intro pl vs cs r a hp hv hc hs h
  obtain ⟨i,u⟩:=p
  cases pl with
  | nil=>simp at hp
  | cons q pl =>
   obtain ⟨off,size⟩:=q
   simp only [List.map_cons,List.cons.injEq] at hp
   obtain ⟨hp1,hp2⟩:=hp
   simp only [List.map_cons] at hv
   obtain ⟨v,vs,rfl,hvu,hv⟩:=VRvc hv
   simp only [fillA] at h
   split at h
   ·rename_i hcond
    obtain ⟨hc1,hc2⟩:=hvu.cells hcond.2.2
    have hl1:=hc1.length
    have hl2:=hc.length
    have hsz:u.cells.size=size:=by rw [←hcond.1,←hl1];simp
    have hsz2:a.size=cs.length:=by rw [←hl2];simp
    simp only [Instr.fill,hp1]
    rw [if_neg (by simp [hsz,hsz2];omega)]
    have e:Array.foldl (fun cs x=>match x with | (c,j)=>cs.setIfInBounds (off+j) c) a u.cells.zipIdx=(u.cells.toList.zipIdx 0).foldl (fun cs p=>cs.setIfInBounds (off+p.2) p.1) a:=by
     rw [←Array.foldl_toList];simp
    rw [e]
    have hfold:=foldl_set u.cells.toList off 0 a (by simp;omega)
    refine ih pl vs (splice cs off v.cells) r _ hp2 hv ?_ ?_ h
    ·rw [hfold]
     simp only [splice,Nat.add_zero]
     rw [hl1]
     exact VRels.append (hc.take off) (VRels.append hc1 (hc.drop _))
    ·intro c hc'
     simp only [splice,List.mem_append] at hc'
     rcases hc' with hc' | hc' | hc'
     ·exact hs c (List.mem_of_mem_take hc')
     ·exact hc2 c hc'
     ·exact hs c (List.mem_of_mem_drop hc')
   ·cases h
theorem mapO_map {α β:Type} {f:α→Option β}:∀ {l:List α} {r:List β},mapO f l=some r→l.map f=r.map some
 | [],r,h=>by simp [mapO] at h;subst h;rfl
 | x::l,r,h=>by
  simp only [mapO] at h
  split at h
  ·cases h
  ·rename_i y hy
   split at h
   ·cases h
   ·rename_i ys hys
    simp only [Option.some.injEq] at h;subst h
    simp [hy,mapO_map hys]
theorem run_mapM {α β:Type} {f:α→Sem β} {g:α→Option β} {w:World}:∀ {l:List α} {r:List β},mapO g l=some r→(∀ a b,g a=some b→(f a).run P w = .ok b w)→(l.mapM f).run P w = .ok r w
 | [],r,h,hf=>by simp [mapO] at h;subst h;simp
 | x::l,r,h,hf=>by
  simp only [mapO] at h
  split at h
  ·cases h
  ·rename_i y hy
   split at h
   ·cases h
   ·rename_i ys hys
    simp only [Option.some.injEq] at h;subst h
    simp [List.mapM_cons,hf x y hy,run_mapM hys hf]
theorem run_fields {fs:Array Field} {places:List (Nat × Nat)} (h:fieldsC P fs=some places) (w:World) :
  (fs.mapM fun (f:Field)=>(do pure (f.offset,←sizeOf f.type):Sem (Nat × Nat))).run P w = .ok places.toArray w:=by
 rw [Array.mapM_eq_mapM_toList]
 rw [Sem.run_map,run_mapM h]
 ·rfl
 ·intro f b hb
  split at hb
  ·rename_i n hn
   simp only [Option.some.injEq] at hb;subst hb
   simp [run_size hn]
  ·cases hb
theorem mapO_rels {f:Value→Option AV}:∀ {l:List Value} {r:List AV},mapO f l=some r→(∀ a b,f a=some b→VRel ι b a)→VRels ι r l
 | [],r,h,_=>by simp [mapO] at h;subst h;rfl
 | x::l,r,h,hf=>by
  simp only [mapO] at h
  split at h
  ·cases h
  ·rename_i y hy
   split at h
   ·cases h
   ·rename_i ys hys
    simp only [Option.some.injEq] at h;subst h
    exact VRels.cons (hf _ _ hy) (mapO_rels hys hf)
theorem ofV_sound:∀ (d:Nat) (v:Value) (a:AV),ofV d v=some a→VRel ι a v
 | 0,_,_,h=>by simp [ofV] at h
 | d+1,v,a,h=>by
  cases v with
  | bool b=>simp [ofV] at h;subst h;rfl
  | int k n=>simp [ofV] at h;subst h;rfl
  | float k b=>simp [ofV] at h
  | complex k a b=>simp [ofV] at h
  | string s=>simp [ofV] at h;subst h;simp [VRel]
  | pointer p=>cases p<;>simp [ofV] at h;subst h;rfl
  | slice p n c=>cases p<;>cases n<;>cases c<;>simp [ofV] at h;subst h;exact ⟨rfl,rfl,rfl⟩
  | map r=>cases r<;>simp [ofV] at h;subst h;rfl
  | chan r=>simp [ofV] at h
  | func f a b=>simp [ofV] at h
  | nilFunc=>simp [ofV] at h;subst h;rfl
  | iface t x=>simp [ofV] at h
  | nilIface=>simp [ofV] at h;subst h;rfl
  | agg cs =>
   simp only [ofV] at h
   split at h
   ·rename_i l hl
    split at h
    ·rename_i hs
     simp only [Option.some.injEq] at h;subst h
     exact ⟨cs,rfl,mapO_rels hl (fun a b hb=>ofV_sound d a b hb),by simpa using hs⟩
    ·cases h
   ·cases h
  | tuple cs =>
   simp only [ofV] at h
   split at h
   ·rename_i l hl
    simp only [Option.some.injEq] at h;subst h
    exact ⟨cs,rfl,mapO_rels hl (fun a b hb=>ofV_sound d a b hb)⟩
   ·cases h
theorem zeroC_run {t:TypeId} {z:AV} (h:zeroC P t=some z):∃ u,(∀ w,(zeroValue t).run P w = .ok u w)∧VRel ι z u∧(∀ c∈z.cells,scA c=true)∧ntA z=true:=by
 unfold zeroC at h
 split at h
 ·rename_i i hi
  split at h
  ·rename_i v hv
   split at h
   ·rename_i z' hz
    split at h
    ·rename_i hc
     simp only [Option.some.injEq] at h;subst h
     simp only [Bool.and_eq_true,List.all_eq_true] at hc
     exact ⟨v,fun w=>by simp [zeroValue,typeInfo,hi,hv],ofV_sound 4 _ _ hz,hc.1,hc.2⟩
    ·cases h
   ·cases h
  ·cases h
 ·cases h
theorem abin_kind {op:BinOp} {a b v:AV} (h:abin op a b=some v):(∃ x,v = .bool x)∨(∃ k n,v = .int k n)∨∃ s,v = .str s:=by
 cases a<;>cases b<;>simp only [abin] at h<;>try (cases h;done)
 case int.int k m k' n =>
  cases op<;>simp only [shiftBin,intBin] at h<;>(repeat' split at h)<;>first
   | (cases h;done)
   | (simp only [Option.some.injEq] at h;subst h;first | exact .inl ⟨_,rfl⟩ | exact .inr (.inl ⟨_,_,rfl⟩) | exact .inr (.inr ⟨_,rfl⟩))
 case str.str s r =>
  cases op<;>simp only [strBin] at h<;>(repeat' split at h)<;>first
   | (cases h;done)
   | (simp only [Option.some.injEq] at h;subst h;first | exact .inl ⟨_,rfl⟩ | exact .inr (.inl ⟨_,_,rfl⟩) | exact .inr (.inr ⟨_,rfl⟩))
theorem VRel_one_way {v:AV} {u u':Value} (k:(∃ x,v = .bool x)∨(∃ k n,v = .int k n)∨∃ s,v = .str s) (h:VRel ι v u) (h':VRel ι v u'):u=u':=by
 rcases k with ⟨x,rfl⟩ | ⟨k,n,rfl⟩ | ⟨s,rfl⟩<;>simp only [VRel] at h h'<;>rw [h,h']
theorem ba_extract (s:List UInt8) (l h:Nat):(⟨s.toArray⟩:ByteArray).extract l h=⟨((s.drop l).take (h - l)).toArray⟩:=by
 have e:∀ a b:ByteArray,a.data.toList=b.data.toList→a=b:=fun a b h=>by
  cases a;cases b;simp only [ByteArray.mk.injEq];exact Array.toList_inj.1 h
 apply e
 rw [Lib.extract_data]
theorem add_zero_addr (j:Inj) (o n:Nat):(⟨j.blk,j.off+o,none⟩:Addr).add n=⟨j.blk,j.off+(o+n),none⟩:=by
 unfold Addr.add
 split
 ·rename_i h;simp [h]
 ·simp [Nat.add_assoc]
theorem fold2_run {f:AV→AV→Option AV} {F:Value→Value→Sem Value} (hf:∀ (a b z:AV) x y,VRel ι a x→VRel ι b y→f a b=some z→∃ u,(∀ w,(F x y).run P w = .ok u w)∧VRel ι z u) :
  ∀ (r:List AV) (us:List Value) (a z:AV) (x:Value),VRel ι a x→VRels ι r us→foldA f a r=some z→∃ u,(∀ w,(us.foldlM F x).run P w = .ok u w)∧VRel ι z u
 | [],us,a,z,x,ha,hr,h=>by
  simp only [VRels] at hr;subst hr
  simp only [foldA,Option.some.injEq] at h;subst h
  exact ⟨x,fun w=>by simp,ha⟩
 | b::r,us,a,z,x,ha,⟨y,ys,e,hb,hr⟩,h=>by
  subst e
  simp only [foldA] at h
  split at h
  ·rename_i m hm
   obtain ⟨u,hu,hmu⟩:=hf a b m x y ha hb hm
   obtain ⟨v,hv,hz⟩:=fold2_run hf r ys m z u hmu hr h
   exact ⟨v,fun w=>by simp [List.foldlM_cons,hu,hv],hz⟩
  ·cases h
theorem max2_run {a b z:AV} {x y:Value} (ha:VRel ι a x) (hb:VRel ι b y) (h:max2A a b=some z):∃ u,(∀ w,(Builtin.max2 x y).run P w = .ok u w)∧VRel ι z u:=by
 cases a<;>cases b<;>simp only [max2A] at h<;>try (cases h;done)
 simp only [VRel] at ha hb
 split at h
 ·simp only [Option.some.injEq] at h;subst h
  exact ⟨_,fun w=>by rw [ha,hb];simp only [Builtin.max2,Sem.run_pure],rfl⟩
 ·cases h
theorem min2_run {a b z:AV} {x y:Value} (ha:VRel ι a x) (hb:VRel ι b y) (h:min2A a b=some z):∃ u,(∀ w,(Builtin.min2 x y).run P w = .ok u w)∧VRel ι z u:=by
 cases a<;>cases b<;>simp only [min2A] at h<;>try (cases h;done)
 simp only [VRel] at ha hb
 split at h
 ·simp only [Option.some.injEq] at h;subst h
  exact ⟨_,fun w=>by rw [ha,hb];simp only [Builtin.min2,Sem.run_pure],rfl⟩
 ·cases h
theorem len1 {l:Array Operand} {q:POp} (hq:q = .lenStr∨q = .lenSl∨∃ n,q = .lenArr n) {vs:List AV} {v:AV} {ρ:Operand→Value} (hv:VRels ι vs (l.toList.map ρ)) (hp:pop q vs=some v) :
  ∃ a x,l = #[x]∧vs=[a]∧VRel ι a (ρ x):=by
 have hl:=hv.length
 cases vs with
 | nil=>rcases hq with rfl | rfl | ⟨n,rfl⟩<;>simp [pop] at hp
 | cons a r =>
  cases r with
  | cons b r=>rcases hq with rfl | rfl | ⟨n,rfl⟩<;>simp [pop] at hp
  | nil =>
   simp at hl
   obtain ⟨x,hx⟩:∃ x,l.toList=[x]:=List.length_eq_one_iff.1 (by simpa using hl)
   have:l = #[x]:=by cases l;simp_all
   subst this
   obtain ⟨y,e,hy⟩:=VR1 hv
   simp at e;subst e
   exact ⟨a,x,rfl,rfl,hy⟩
theorem call_pop {c:Call} {q:POp} {xs:List Operand} {vs:List AV} {v:AV} {ρ:Operand→Value} {dst:Option Tmp} {type:TypeId} {pos:String} {after:Array Edge} {guard:Option (Nat × Bool)}
  (hk:kindC P C (.call c)=some (.p q,xs)) (hv:VRels ι vs (xs.map ρ)) (hp:pop q vs=some v) :
  ∃ u,(∀ w,(execOp ρ { dst,op := .call c,type,pos,after,guard }).run P w = .ok (.value u) w)∧VRel ι v u:=by
 obtain ⟨callee,args,argTypes⟩:=c
 simp only [kindC,callC] at hk
 cases callee with
 | value f=>cases f<;>simp at hk
 | invoke r m=>simp at hk
 | builtin b =>
  simp only at hk
  split at hk
  ·rename_i t ht
   have ht':argTypes = #[t]:=by cases argTypes;simp_all
   subst ht'
   split at hk
   ·rename_i hd
    simp only [Option.some.injEq,Prod.mk.injEq,AK.p.injEq] at hk
    obtain ⟨rfl,rfl⟩:=hk
    obtain ⟨a,x,rfl,rfl,ha⟩:=len1 (by simp) hv hp
    cases a<;>simp only [pop] at hp<;>try (cases hp;done)
    simp only [VRel] at ha
    simp only [Option.some.injEq] at hp;subst hp
    exact ⟨_,fun w=>by simp [execOp,resolve,invoke,builtin,Builtin.len_,run_und hd,ha,ba_size,goInt],rfl⟩
   ·rename_i e hd
    simp only [Option.some.injEq,Prod.mk.injEq,AK.p.injEq] at hk
    obtain ⟨rfl,rfl⟩:=hk
    obtain ⟨a,x,rfl,rfl,ha⟩:=len1 (by simp) hv hp
    cases a<;>simp only [pop] at hp<;>try (cases hp;done)
    rename_i p n cap
    simp only [Option.some.injEq] at hp;subst hp
    refine ⟨.int .i64 n,fun w => ?_,rfl⟩
    cases p with
    | none =>
     obtain ⟨rfl,_,e⟩:=ha
     simp [execOp,resolve,invoke,builtin,Builtin.len_,run_und hd,e,goInt]
    | some p =>
     obtain ⟨j,q,m,hj,e,_⟩:=ha
     simp [execOp,resolve,invoke,builtin,Builtin.len_,run_und hd,e,goInt]
   ·rename_i n e hd
    simp only [Option.some.injEq,Prod.mk.injEq,AK.p.injEq] at hk
    obtain ⟨rfl,rfl⟩:=hk
    obtain ⟨a,x,rfl,rfl,ha⟩:=len1 (by simp) hv hp
    simp only [pop,Option.some.injEq] at hp;subst hp
    exact ⟨.int .i64 n,fun w=>by simp [execOp,resolve,invoke,builtin,Builtin.len_,run_und hd,goInt],rfl⟩
   ·rename_i a hd
    split at hk
    ·rename_i n e hd2
     simp only [Option.some.injEq,Prod.mk.injEq,AK.p.injEq] at hk
     obtain ⟨rfl,rfl⟩:=hk
     obtain ⟨a,x,rfl,rfl,ha⟩:=len1 (by simp) hv hp
     simp only [pop,Option.some.injEq] at hp;subst hp
     exact ⟨.int .i64 n,fun w=>by simp [execOp,resolve,invoke,builtin,Builtin.len_,run_und hd,run_und hd2,goInt],rfl⟩
    ·cases hk
   ·simp at hk
   ·cases hk
  ·split at hk
   ·split at hk
    ·split at hk<;>try (cases hk;done)
     split at hk<;>simp at hk
    ·cases hk
   ·cases hk
  ·split at hk<;>try (cases hk;done)
   split at hk<;>simp at hk
  ·simp only [Option.some.injEq,Prod.mk.injEq,AK.p.injEq] at hk
   obtain ⟨rfl,rfl⟩:=hk
   cases vs with
   | nil=>simp [pop] at hp
   | cons a r =>
    simp only [pop] at hp
    obtain ⟨x,us,e,ha,hr⟩:=hv
    obtain ⟨u,hu,hz⟩:=fold2_run (P:=P) (fun a b z x y ha hb h=>max2_run ha hb h) r us a v x ha hr hp
    refine ⟨u,fun w => ?_,hz⟩
    have e':(args.map ρ).toList=x::us:=by simpa using e
    simp [execOp,resolve,invoke,builtin,Builtin.max_]
    rw [←Array.toList_map,e']
    simp [hu]
  ·simp only [Option.some.injEq,Prod.mk.injEq,AK.p.injEq] at hk
   obtain ⟨rfl,rfl⟩:=hk
   cases vs with
   | nil=>simp [pop] at hp
   | cons a r =>
    simp only [pop] at hp
    obtain ⟨x,us,e,ha,hr⟩:=hv
    obtain ⟨u,hu,hz⟩:=fold2_run (P:=P) (fun a b z x y ha hb h=>min2_run ha hb h) r us a v x ha hr hp
    refine ⟨u,fun w => ?_,hz⟩
    have e':(args.map ρ).toList=x::us:=by simpa using e
    simp [execOp,resolve,invoke,builtin,Builtin.min_]
    rw [←Array.toList_map,e']
    simp [hu]
  ·cases hk
theorem pop_sound {o:Oper} {q:POp} {xs:List Operand} {vs:List AV} {v:AV} {ρ:Operand→Value}
  (hk:kindC P C o.op=some (.p q,xs)) (hv:VRels ι vs (xs.map ρ)) (hp:pop q vs=some v) :
  ∃ u,(∀ w,(execOp ρ o).run P w = .ok (.value u) w)∧VRel ι v u:=by
 obtain ⟨dst,op,type,pos,after,guard⟩:=o
 cases op with
 | move x =>
  simp only [kindC,Option.some.injEq,Prod.mk.injEq,AK.p.injEq] at hk
  obtain ⟨rfl,rfl⟩:=hk
  obtain ⟨a,rfl,ha⟩:=VRv1 hv
  simp only [pop,Option.some.injEq] at hp;subst hp
  exact ⟨_,fun w=>by simp [execOp],ha⟩
 | assign x =>
  simp only [kindC,Option.some.injEq,Prod.mk.injEq,AK.p.injEq] at hk
  obtain ⟨rfl,rfl⟩:=hk
  obtain ⟨a,rfl,ha⟩:=VRv1 hv
  simp only [pop,Option.some.injEq] at hp;subst hp
  exact ⟨_,fun w=>by simp [execOp],ha⟩
 | pick c x y =>
  simp only [kindC,Option.some.injEq,Prod.mk.injEq,AK.p.injEq] at hk
  obtain ⟨rfl,rfl⟩:=hk
  obtain ⟨a,b,d,rfl,ha,hb,hd⟩:=VRv3 hv
  cases a<;>simp only [pop] at hp<;>try (cases hp;done)
  case bool t =>
   simp only [Option.some.injEq] at hp;subst hp
   simp only [VRel] at ha
   refine ⟨if t then ρ x else ρ y,fun w=>by simp [execOp,ha,asBool],?_⟩
   cases t<;>simpa
 | alloc e =>
  simp only [kindC] at hk
  split at hk<;>simp at hk
 | box e x=>simp [kindC] at hk
 | build t ps =>
  simp only [kindC] at hk
  split at hk
  ·rename_i fs z hd hz
   split at hk
   ·rename_i places hpl
    split at hk
    ·rename_i pl hps
     simp only [Option.some.injEq,Prod.mk.injEq,AK.p.injEq] at hk
     obtain ⟨rfl,rfl⟩:=hk
     simp only [pop] at hp
     split at hp
     ·rename_i cs hcs
      simp only [Option.some.injEq] at hp;subst hp
      obtain ⟨u,hu,hzu,hzc,hzn⟩:=zeroC_run (ι:=ι) hz
      obtain ⟨hz1,hz2⟩:=hzu.cells hzn
      obtain ⟨b,hb1,hb2,hb3⟩:=fill_run (place:=fun i=>places.toArray[i]?) (ps.toList.map fun p=>(p.1,ρ p.2)) pl vs z.cells cs u.cells (by rw [List.map_map];simpa [Function.comp_def] using mapO_map hps) (by simpa [Function.comp_def] using hv) hz1 hz2 hcs
      refine ⟨.agg b,fun w => ?_,b,rfl,hb2,hb3⟩
      have e:(ps.map fun (x:Nat × Operand)=>match x with | (i,x)=>(i,ρ x)).toList=ps.toList.map fun p=>(p.1,ρ p.2):=by simp
      have hr:=run_fields hpl w
      simp only [execOp,Instr.build,Sem.run_bind,hu,Result.andThen_ok,run_und hd,hr,e,hb1,Sem.run_pure]
     ·cases hp
    ·cases hk
   ·cases hk
  ·rename_i n e z hd hz
   split at hk
   ·rename_i sz hsz
    simp only [Option.some.injEq,Prod.mk.injEq,AK.p.injEq] at hk
    obtain ⟨rfl,rfl⟩:=hk
    simp only [pop] at hp
    split at hp
    ·rename_i cs hcs
     simp only [Option.some.injEq] at hp;subst hp
     obtain ⟨u,hu,hzu,hzc,hzn⟩:=zeroC_run (ι:=ι) hz
     obtain ⟨hz1,hz2⟩:=hzu.cells hzn
     obtain ⟨b,hb1,hb2,hb3⟩:=fill_run (place:=fun i=>some (i*sz,sz)) (ps.toList.map fun p=>(p.1,ρ p.2)) _ vs z.cells cs u.cells (by simp [Function.comp_def]) (by simpa [Function.comp_def] using hv) hz1 hz2 hcs
     refine ⟨.agg b,fun w => ?_,b,rfl,hb2,hb3⟩
     have e:(ps.map fun (x:Nat × Operand)=>match x with | (i,x)=>(i,ρ x)).toList=ps.toList.map fun p=>(p.1,ρ p.2):=by simp
     simp only [execOp,Instr.build,Sem.run_bind,hu,Result.andThen_ok,run_und hd,run_size hsz,e,hb1,Sem.run_pure]
    ·cases hp
   ·cases hk
  ·cases hk
 | buildSlice t n ps =>
  simp only [kindC] at hk
  split at hk<;>try (cases hk;done)
  split at hk<;>try (cases hk;done)
  split at hk<;>simp at hk
 | insert t m k x =>
  simp only [kindC] at hk
  split at hk<;>try (cases hk;done)
  split at hk<;>simp at hk
 | load t a =>
  simp only [kindC] at hk
  split at hk<;>simp at hk
 | store t a x =>
  simp only [kindC] at hk
  split at hk<;>simp at hk
 | ready g=>simp [kindC] at hk
 | waits g=>simp [kindC] at hk
 | nilCheck x =>
  simp only [kindC,Option.some.injEq,Prod.mk.injEq,AK.p.injEq] at hk
  obtain ⟨rfl,rfl⟩:=hk
  obtain ⟨a,rfl,ha⟩:=VRv1 hv
  cases a<;>simp only [pop] at hp<;>try (cases hp;done)
  case ptr p =>
   cases p with
   | none=>simp [pop] at hp
   | some p =>
    simp only [pop,Option.some.injEq] at hp;subst hp
    obtain ⟨j,hj,e⟩:=ha
    exact ⟨_,fun w=>by simp [execOp,e],j,hj,rfl⟩
  case func f a b =>
   simp only [Option.some.injEq] at hp;subst hp
   obtain ⟨x',y',e,h⟩:=ha
   exact ⟨_,fun w=>by simp [execOp,e],x',y',rfl,h⟩
 | binOp op t x y t2 =>
  have hk':q = .bin op∧xs=[x,y]:=by
   cases op<;>simp only [kindC] at hk<;>first
    | (simp only [Option.some.injEq,Prod.mk.injEq,AK.p.injEq] at hk;exact ⟨hk.1.symm,hk.2.symm⟩)
    | (split at hk<;>first
      | (simp only [Option.some.injEq,Prod.mk.injEq,AK.p.injEq] at hk;exact ⟨hk.1.symm,hk.2.symm⟩)
      | (split at hk<;>simp at hk))
  obtain ⟨rfl,rfl⟩:=hk'
  obtain ⟨a,b,rfl,ha,hb⟩:=VRv2 hv
  simp only [pop] at hp
  obtain ⟨u,_,hu⟩:=abin_run (P:=P) (w:=default) (t:=t) ha hb hp
  have hrun:∀ w,(binOp op t (ρ x) (ρ y)).run P w = .ok u w:=fun w=>by
   obtain ⟨u',h1,h2⟩:=abin_run (P:=P) (w:=w) (t:=t) ha hb hp
   rw [VRel_one_way (abin_kind hp) hu h2];exact h1
  refine ⟨u,fun w => ?_,hu⟩
  have hg:∀ w,(eqGuard op t x y (ρ x) (ρ y)).run P w = .ok () w:=fun w=>by
   cases a<;>cases b<;>simp only [abin] at hp<;>try (cases hp;done)
   all_goals
    simp only [VRel] at ha hb
    rw [ha,hb]
    cases op<;>simp [eqGuard]
  simp [execOp,hrun,hg]
 | unOp op t x =>
  simp only [kindC,Option.some.injEq,Prod.mk.injEq,AK.p.injEq] at hk
  obtain ⟨rfl,rfl⟩:=hk
  obtain ⟨a,rfl,ha⟩:=VRv1 hv
  simp only [pop] at hp
  cases a<;>simp only [aun] at hp<;>try (cases hp;done)
  case bool b =>
   cases op<;>simp only at hp<;>try (cases hp;done)
   simp only [Option.some.injEq] at hp;subst hp
   simp only [VRel] at ha
   exact ⟨.bool (!b),fun w=>by simp [execOp,ha,Op.unary],rfl⟩
  case int k n =>
   simp only [VRel] at ha
   cases op<;>simp only [intBin] at hp<;>try (cases hp;done)
   ·simp only [Option.some.injEq] at hp;subst hp
    exact ⟨_,fun w=>by simp [execOp,ha,Op.unary,Op.intArith];rfl,by simp [VRel]⟩
   ·simp only [Option.some.injEq] at hp;subst hp
    exact ⟨_,fun w=>by simp [execOp,ha,Op.unary,Op.intBits];rfl,by simp [VRel]⟩
 | convert s d x =>
  simp only [kindC] at hk
  split at hk
  ·rename_i k0 k hs hd
   simp only [Option.some.injEq,Prod.mk.injEq,AK.p.injEq] at hk
   obtain ⟨rfl,rfl⟩:=hk
   obtain ⟨a,rfl,ha⟩:=VRv1 hv
   cases a<;>simp only [pop] at hp<;>try (cases hp;done)
   simp only [Option.some.injEq] at hp;subst hp
   simp only [VRel] at ha
   exact ⟨_,fun w=>by simp [execOp,ha,convert,run_und hs,run_und hd,Conv.intToInt];rfl,by simp [VRel]⟩
  ·rename_i hs hd
   simp only [Option.some.injEq,Prod.mk.injEq,AK.p.injEq] at hk
   obtain ⟨rfl,rfl⟩:=hk
   obtain ⟨a,rfl,ha⟩:=VRv1 hv
   cases a<;>simp only [pop] at hp<;>try (cases hp;done)
   simp only [Option.some.injEq] at hp;subst hp
   simp only [VRel] at ha
   exact ⟨_,fun w=>by simp [execOp,ha,convert,run_und hs,run_und hd];rfl,by simp [VRel]⟩
  ·split at hk<;>simp at hk
  ·split at hk
   ·split at hk<;>simp at hk
   ·cases hk
  ·split at hk<;>simp at hk
  ·cases hk
 | sliceToArrayPointer t x=>simp [kindC] at hk
 | makeInterface t x =>
  simp only [kindC] at hk
  split at hk
  ·cases hk
  ·rename_i d hd hne
   simp only [Option.some.injEq,Prod.mk.injEq,AK.p.injEq] at hk
   obtain ⟨rfl,rfl⟩:=hk
   obtain ⟨a,rfl,ha⟩:=VRv1 hv
   simp only [pop,Option.some.injEq] at hp;subst hp
   refine ⟨.iface t (ρ x),fun w => ?_,_,rfl,ha⟩
   simp only [execOp,Instr.makeInterface,Sem.run_bind,run_und hne,Result.andThen_ok]
   cases d<;>simp_all
  ·cases hk
 | makeFunc fn first captured =>
  cases fn<;>simp only [kindC] at hk<;>try (cases hk;done)
  rename_i f
  simp only [Option.some.injEq,Prod.mk.injEq,AK.p.injEq] at hk
  obtain ⟨rfl,rfl⟩:=hk
  simp only [pop,Option.some.injEq] at hp;subst hp
  refine ⟨.func (.func f) (first.map ρ) (captured.map ρ),fun w=>by simp [execOp,Instr.makeFunc],_,_,rfl,?_,?_⟩
  ·have:=hv.take first.size
   simpa using this
  ·have:=hv.drop first.size
   simpa using this
 | makeMap t r=>cases r<;>simp [kindC] at hk
 | makeChan t s=>simp [kindC] at hk
 | makeSlice t l c =>
  simp only [kindC] at hk
  split at hk<;>try (cases hk;done)
  split at hk<;>try (cases hk;done)
  split at hk<;>simp at hk
 | slice t x lo hi mx =>
  cases mx with
  | some _=>simp [kindC] at hk
  | none =>
  simp only [kindC] at hk
  split at hk
  ·rename_i hd
   simp only [Option.some.injEq,Prod.mk.injEq,AK.p.injEq] at hk
   obtain ⟨rfl,rfl⟩:=hk
   obtain ⟨a,r,rfl,ha,hr⟩:=VRvc hv
   cases a<;>simp only [pop] at hp<;>try (cases hp;done)
   rename_i s
   split at hp
   ·rename_i l h hb
    simp only [Option.some.injEq] at hp;subst hp
    simp only [VRel] at ha
    obtain ⟨h1,h2,h3⟩:=bnds_run (P:=P) (cap:=s.length) false (Nat.le_refl _) (Nat.le_refl _) hr hb
    refine ⟨_,fun w => ?_,rfl⟩
    have hm:(Option.map ρ (none:Option Operand))=none:=rfl
    simp only [execOp,Instr.sliceAt,Instr.slice,Sem.run_bind,run_und hd,Result.andThen_ok,ha,hm,Option.isSome_none,Bool.false_eq_true,if_false,Sem.run_pure,ba_size,h1]
    rw [ba_extract]
   ·cases hp
  ·rename_i e hd
   split at hk
   ·rename_i n hn
    simp only [Option.some.injEq,Prod.mk.injEq,AK.p.injEq] at hk
    obtain ⟨rfl,rfl⟩:=hk
    obtain ⟨a,r,rfl,ha,hr⟩:=VRvc hv
    cases a<;>simp only [pop] at hp<;>try (cases hp;done)
    rename_i p len cap
    split at hp
    ·cases hp
    ·rename_i most hmost
     split at hp
     ·rename_i l h hb
      simp only [Option.some.injEq] at hp;subst hp
      have hm:(Option.map ρ (none:Option Operand))=none:=rfl
      cases p with
      | none =>
       obtain ⟨rfl,rfl,e⟩:=ha
       simp only [capMost,Option.some.injEq] at hmost;subst hmost
       obtain ⟨h1,h2,h3⟩:=bnds_run (P:=P) (cap:=0) true (Nat.le_refl _) (Nat.le_refl _) hr hb
       have hh:h=0:=by simp at h3;omega
       have hl:l=0:=by omega
       subst hh;subst hl
       refine ⟨.slice none 0 0,fun w => ?_,by simp [VRel,capDrop]⟩
       simp only [execOp,Instr.sliceAt,Instr.slice,Sem.run_bind,run_und hd,Result.andThen_ok,e,hm,h1,run_size hn,Sem.run_pure,if_true]
      | some p =>
       obtain ⟨j,q,m,hj,e,hle,hcr,hq⟩:=ha
       have hmm:most≤m:=by
        cases cap with
        | exact n=>simp [capR] at hcr;simp [capMost] at hmost;omega
        | toEnd z=>simp only [capMost] at hmost;split at hmost<;>simp at hmost;omega
       obtain ⟨h1,h2,h3⟩:=bnds_run (P:=P) (cap:=m) true hmm hle hr hb
       have hhm:h≤m:=by rcases h3 with h3 | h3<;>omega
       refine ⟨.slice (some (if m=l then q else q.add (l*n))) (h - l) (m - l),fun w => ?_,j,_,_,hj,rfl,by omega,?_,?_⟩
       ·simp only [execOp,Instr.sliceAt,Instr.slice,Sem.run_bind,run_und hd,Result.andThen_ok,e,hm,h1,run_size hn,Sem.run_pure]
        by_cases hml:m=l<;>simp [hml]
       ·cases cap with
        | exact c=>simp only [capR,capDrop] at hcr ⊢;omega
        | toEnd z =>
         simp only [capMost] at hmost
         split at hmost
         ·rename_i hz
          subst hz
          simp only [capR,capDrop] at hcr ⊢
          rw [hcr,←Nat.sub_sub,Nat.mul_comm l z,Nat.sub_mul_div]
         ·cases hmost
       ·intro hne
        rw [if_neg (by omega),hq (by omega),add_zero_addr]
     ·cases hp
   ·cases hk
  ·rename_i n e hd
   split at hk
   ·rename_i sz hsz
    simp only [Option.some.injEq,Prod.mk.injEq,AK.p.injEq] at hk
    obtain ⟨rfl,rfl⟩:=hk
    obtain ⟨a,r,rfl,ha,hr⟩:=VRvc hv
    cases a<;>simp only [pop] at hp<;>try (cases hp;done)
    rename_i p
    cases p with
    | none=>simp [pop] at hp
    | some p =>
     simp only [pop] at hp
     split at hp
     ·rename_i l h hb
      simp only [Option.some.injEq] at hp;subst hp
      obtain ⟨j,hj,e⟩:=ha
      have hm:(Option.map ρ (none:Option Operand))=none:=rfl
      obtain ⟨h1,h2,h3⟩:=bnds_run (P:=P) (cap:=n) false (Nat.le_refl _) (Nat.le_refl _) hr hb
      refine ⟨.slice (some (if n=l then ⟨j.blk,j.off+p.2,none⟩ else (⟨j.blk,j.off+p.2,none⟩:Addr).add (l*sz))) (h - l) (n - l),fun w => ?_,j,_,_,hj,rfl,by omega,rfl,?_⟩
      ·simp only [execOp,Instr.sliceAt,Instr.sureAddr,Sem.run_bind,run_und hd,Result.andThen_ok,e,hm,h1,run_size hsz,Sem.run_pure]
      ·intro hne
       rw [if_neg (by omega),add_zero_addr]
     ·cases hp
   ·cases hk
  ·rename_i a hd
   split at hk
   ·rename_i n e hd2
    split at hk
    ·rename_i sz hsz
     simp only [Option.some.injEq,Prod.mk.injEq,AK.p.injEq] at hk
     obtain ⟨rfl,rfl⟩:=hk
     obtain ⟨a,r,rfl,ha,hr⟩:=VRvc hv
     cases a<;>simp only [pop] at hp<;>try (cases hp;done)
     rename_i p
     cases p with
     | none=>simp [pop] at hp
     | some p =>
      simp only [pop] at hp
      split at hp
      ·rename_i l h hb
       simp only [Option.some.injEq] at hp;subst hp
       obtain ⟨j,hj,e⟩:=ha
       have hm:(Option.map ρ (none:Option Operand))=none:=rfl
       obtain ⟨h1,h2,h3⟩:=bnds_run (P:=P) (cap:=n) false (Nat.le_refl _) (Nat.le_refl _) hr hb
       refine ⟨.slice (some (if n=l then ⟨j.blk,j.off+p.2,none⟩ else (⟨j.blk,j.off+p.2,none⟩:Addr).add (l*sz))) (h - l) (n - l),fun w => ?_,j,_,_,hj,rfl,by omega,rfl,?_⟩
       ·simp only [execOp,Instr.sliceAt,Instr.slice,asAddr,Sem.run_bind,run_und hd,run_und hd2,Result.andThen_ok,e,hm,h1,run_size hsz,Sem.run_pure]
       ·intro hne
        rw [if_neg (by omega),add_zero_addr]
      ·cases hp
    ·cases hk
   ·cases hk
  ·cases hk
 | fieldAddr s x i =>
  simp only [kindC] at hk
  split at hk
  ·rename_i fs hd
   split at hk
   ·rename_i f hf
    split at hk
    ·rename_i n hn
     simp only [Option.some.injEq,Prod.mk.injEq,AK.p.injEq] at hk
     obtain ⟨rfl,rfl⟩:=hk
     obtain ⟨a,rfl,ha⟩:=VRv1 hv
     cases a<;>simp only [pop] at hp<;>try (cases hp;done)
     rename_i p
     cases p with
     | none=>simp [pop] at hp
     | some p =>
      simp only [pop,Option.some.injEq] at hp;subst hp
      obtain ⟨j,hj,e⟩:=ha
      refine ⟨.pointer (some ⟨j.blk,j.off+(p.2+f.offset),none⟩),fun w => ?_,j,hj,rfl⟩
      simp [execOp,Instr.fieldAt,run_und hd,hf,e,Instr.sureAddr,fieldPlace,run_size hn,Addr.add]
      split
      ·rename_i h0;simp [h0]
      ·simp [Nat.add_assoc]
    ·cases hk
   ·cases hk
  ·cases hk
 | field t x i =>
  simp only [kindC] at hk
  split at hk
  ·rename_i fs hd
   split at hk
   ·rename_i f hf
    split at hk
    ·rename_i sz hsz
     simp only [Option.some.injEq,Prod.mk.injEq,AK.p.injEq] at hk
     obtain ⟨rfl,rfl⟩:=hk
     obtain ⟨a,rfl,ha⟩:=VRv1 hv
     cases a<;>simp only [pop] at hp<;>try (cases hp;done)
     obtain ⟨c,e,hc,hs⟩:=ha
     obtain ⟨u,hu,hr⟩:=part_run hsz hc hs hp
     exact ⟨u,fun w=>by simp [execOp,Instr.field,run_und hd,hf,e,asAgg,hu],hr⟩
    ·cases hk
   ·cases hk
  ·cases hk
 | extract x i =>
  simp only [kindC,Option.some.injEq,Prod.mk.injEq,AK.p.injEq] at hk
  obtain ⟨rfl,rfl⟩:=hk
  obtain ⟨a,rfl,ha⟩:=VRv1 hv
  cases a<;>simp only [pop] at hp<;>try (cases hp;done)
  obtain ⟨c,e,hc⟩:=ha
  obtain ⟨u,hu,hr⟩:=hc.get i v hp
  have hu':c[i]?=some u:=by simpa using hu
  exact ⟨u,fun w=>by simp [execOp,Instr.extract,e,hu'],hr⟩
 | indexAddr t x i =>
  simp only [kindC] at hk
  split at hk
  ·rename_i e hd
   split at hk
   ·rename_i n hn
    simp only [Option.some.injEq,Prod.mk.injEq,AK.p.injEq] at hk
    obtain ⟨rfl,rfl⟩:=hk
    obtain ⟨a,b,rfl,ha,hb⟩:=VRv2 hv
    cases a<;>simp only [pop] at hp<;>try (cases hp;done)
    rename_i p len cap
    cases p with
    | none=>simp [pop] at hp
    | some p =>
     simp only [pop] at hp
     split at hp
     ·rename_i k hk
      split at hp
      ·rename_i hlt
       simp only [Option.some.injEq] at hp;subst hp
       obtain ⟨kd,ei⟩:=natOf_rel hb hk
       obtain ⟨j,q,m,hj,e,hle,hcr,hq⟩:=ha
       refine ⟨.pointer (some ⟨j.blk,j.off+(p.2+k*n),none⟩),fun w => ?_,j,hj,rfl⟩
       have h0:(0:Int)≤(k:Int)∧(k:Int) < (len:Int):=by omega
       rw [←add_zero_addr,←hq (by omega)]
       simp [execOp,Instr.indexAt,ei,e,asIntOf,run_und hd,run_size hn,h0]
       try omega
      ·cases hp
     ·cases hp
   ·cases hk
  ·rename_i len e hd
   split at hk
   ·rename_i n hn
    simp only [Option.some.injEq,Prod.mk.injEq,AK.p.injEq] at hk
    obtain ⟨rfl,rfl⟩:=hk
    obtain ⟨a,b,rfl,ha,hb⟩:=VRv2 hv
    cases a<;>simp only [pop] at hp<;>try (cases hp;done)
    rename_i p
    cases p with
    | none=>simp [pop] at hp
    | some p =>
     simp only [pop] at hp
     split at hp
     ·rename_i k hk
      split at hp
      ·rename_i hlt
       simp only [Option.some.injEq] at hp;subst hp
       obtain ⟨kd,ei⟩:=natOf_rel hb hk
       obtain ⟨j,hj,e⟩:=ha
       refine ⟨.pointer (some ⟨j.blk,j.off+(p.2+k*n),none⟩),fun w => ?_,j,hj,rfl⟩
       have h0:(0:Int)≤(k:Int)∧(k:Int) < (len:Int):=by omega
       rw [←add_zero_addr]
       simp [execOp,Instr.indexAt,Instr.sureAddr,ei,e,asIntOf,run_und hd,run_size hn,h0]
       try omega
      ·cases hp
     ·cases hp
   ·cases hk
  ·cases hk
 | index t x i =>
  simp only [kindC] at hk
  split at hk
  ·rename_i hd
   simp only [Option.some.injEq,Prod.mk.injEq,AK.p.injEq] at hk
   obtain ⟨rfl,rfl⟩:=hk
   obtain ⟨a,b,rfl,ha,hb⟩:=VRv2 hv
   cases a<;>simp only [pop] at hp<;>try (cases hp;done)
   rename_i s
   split at hp
   ·rename_i k hk
    split at hp
    ·rename_i c hc
     simp only [Option.some.injEq] at hp;subst hp
     obtain ⟨kd,ei⟩:=natOf_rel hb hk
     simp only [VRel] at ha
     refine ⟨.int .u8 c.toNat,fun w => ?_,rfl⟩
     have hc':(⟨s.toArray⟩:ByteArray)[k]?=some c:=by
      obtain ⟨hlt,he⟩:=List.getElem?_eq_some_iff.1 hc
      rw [ByteArray.getElem?_lt' _ _ (by simpa [ba_size] using hlt)]
      rw [←he];rfl
     simp [execOp,Instr.index,asIntOf,ei,ha,run_und hd,hc']
    ·cases hp
   ·cases hp
  ·rename_i len e hd
   split at hk
   ·rename_i n sz hn hsz
    simp only [Option.some.injEq,Prod.mk.injEq,AK.p.injEq] at hk
    obtain ⟨rfl,rfl⟩:=hk
    obtain ⟨a,b,rfl,ha,hb⟩:=VRv2 hv
    cases a<;>simp only [pop] at hp<;>try (cases hp;done)
    split at hp
    ·rename_i k hk
     split at hp
     ·rename_i hlt
      obtain ⟨kd,ei⟩:=natOf_rel hb hk
      obtain ⟨c,e,hc,hs⟩:=ha
      obtain ⟨u,hu,hr⟩:=part_run hsz hc hs hp
      have h0:(0:Int)≤(k:Int)∧(k:Int) < (len:Int):=by omega
      exact ⟨u,fun w=>by simp [execOp,Instr.index,asIntOf,ei,e,run_und hd,run_size hn,h0,hu];try omega,hr⟩
     ·cases hp
    ·cases hp
   ·cases hk
  ·cases hk
 | typeAssert x xt t ok =>
  simp only [kindC] at hk
  split at hk
  ·cases hk
  ·rename_i d z hno hd hz
   simp only [Option.some.injEq,Prod.mk.injEq,AK.p.injEq] at hk
   obtain ⟨rfl,rfl⟩:=hk
   obtain ⟨a,rfl,ha⟩:=VRv1 hv
   obtain ⟨u0,hu0,hz0,_⟩:=zeroC_run (ι:=ι) hz
   have und:∀ w,(underlying t).run P w = .ok d w:=fun w=>run_und hd w
   cases a<;>simp only [pop] at hp<;>try (cases hp;done)
   case iface u y =>
    obtain ⟨y',e,hy⟩:=ha
    split at hp
    ·rename_i hut
     simp only [Option.some.injEq] at hp;subst hp
     subst hut
     cases ok with
     | true =>
      refine ⟨.tuple #[y',.bool true],fun w => ?_,#[y',.bool true],rfl,VRels.cons hy (VRels.cons rfl VRels.nil)⟩
      simp only [execOp,Instr.typeAssert,Sem.run_bind,und,Result.andThen_ok,e]
      cases d<;>simp_all
     | false =>
      refine ⟨y',fun w => ?_,hy⟩
      simp only [execOp,Instr.typeAssert,Sem.run_bind,und,Result.andThen_ok,e]
      cases d<;>simp_all
    ·rename_i hut
     cases ok with
     | false=>simp at hp
     | true =>
      simp only [if_true,Option.some.injEq] at hp;subst hp
      refine ⟨.tuple #[u0,.bool false],fun w => ?_,#[u0,.bool false],rfl,VRels.cons hz0 (VRels.cons rfl VRels.nil)⟩
      simp only [execOp,Instr.typeAssert,Sem.run_bind,und,Result.andThen_ok,e]
      cases d<;>simp_all
   case nilIface =>
    simp only [VRel] at ha
    cases ok with
    | false=>simp at hp
    | true =>
     simp only [if_true,Option.some.injEq] at hp;subst hp
     refine ⟨.tuple #[u0,.bool false],fun w => ?_,#[u0,.bool false],rfl,VRels.cons hz0 (VRels.cons rfl VRels.nil)⟩
     simp only [execOp,Instr.typeAssert,Sem.run_bind,und,Result.andThen_ok,ha]
     cases d<;>simp_all
  ·cases hk
 | call c=>exact call_pop hk hv hp
 | lookup t x i ok =>
  simp only [kindC] at hk
  split at hk<;>try (cases hk;done)
  split at hk<;>simp at hk
 | mapUpdate t m k x =>
  simp only [kindC] at hk
  split at hk<;>try (cases hk;done)
  split at hk<;>simp at hk
 | _=>simp [kindC] at hk
end
end
end Go.FR
