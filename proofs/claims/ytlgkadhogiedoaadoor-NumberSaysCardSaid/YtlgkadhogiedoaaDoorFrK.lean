/- The fast run: what writes, operation by operation. -/
import Derived.Test.YtlgkadhogiedoaaDoorFrJ
set_option linter.unusedSimpArgs false
set_option linter.unusedVariables false
namespace Go.FR
noncomputable section
open Go
section
variable {P:Program} {C:Cfg} {ι κ:Pl} {w w':World} {B:Nat} {H H':Heap} {G:List (Nat × Nat)}
def Ends (P:Program) (s:Sem Next) (w:World) (u:Value) (w':World):Prop:=s.run P w = .ok (.value u) w'∨(s.run P w = .ok .skip w'∧u=undef)
theorem undef_rel:VRel ι undefA undef:=⟨#[],rfl,rfl⟩
theorem store_sound {call:CallT} {t:TypeId} {a x:Operand} {q:WOp} {xs:List Operand} {vs:List AV} {v:AV} {ρ:Operand→Value} {dst:Option Tmp} {type:TypeId} {pos:String} {after:Array Edge} {guard:Option (Nat × Bool)} (hR:Rel B G H ι w)
  (hk:kindC P C (.store t a x)=some (.w q,xs)) (hv:VRels ι vs (xs.map ρ)) (hp:wop call q vs H=some (v,H')) :
  ∃ u w' κ,Ends P (execOp ρ { dst,op := .store t a x,type,pos,after,guard }) w u w'∧VRel κ v u∧Rel B G H' κ w'∧Keep H ι w H' κ w':=by
 simp only [kindC] at hk
 split at hk<;>simp at hk
 rename_i n hn
 obtain ⟨rfl,rfl⟩:=hk
 obtain ⟨ad,vx,rfl,had,hvx⟩:=VRv2 hv
 cases ad<;>simp only [wop] at hp<;>try (cases hp;done)
 rename_i p
 cases p with
 | none=>simp [wop] at hp
 | some p =>
  simp only [wop] at hp
  split at hp<;>try (cases hp;done)
  rename_i hc
  split at hp<;>try (cases hp;done)
  rename_i H'' hst
  simp only [Option.some.injEq,Prod.mk.injEq] at hp
  obtain ⟨rfl,rfl⟩:=hp
  obtain ⟨j,hj,e⟩:=had
  obtain ⟨hr,hs⟩:=hvx.cells hc.2
  have hsz:=size_of_vrels hr
  obtain ⟨w',h1,h2,h3⟩:=storeAt_run (P:=P) hR hj hr hs hst
  refine ⟨undef,w',ι,.inr ⟨?_,rfl⟩,undef_rel,h2,h3⟩
  have hne:¬((ρ x).cells.size≠n):=by omega
  simp only [execOp,Instr.storeAt,e,Instr.sureAddr,storeVar,Sem.run_bind,Sem.run_pure,Result.andThen_ok,run_size hn,if_neg hne]
  simp [h1]
theorem copy_sound {call:CallT} {c:Call} {n:Nat} {vs:List AV} {v:AV} {ρ:Operand→Value} {dst:Option Tmp} {type:TypeId} {pos:String} {after:Array Edge} {guard:Option (Nat × Bool)} {args:Array Operand} {t1 t2 e:TypeId} (hR:Rel B G H ι w)
  (hd:P.underlying t1=some (.slice e)) (hn:sizeC P e=some n) (hv:VRels ι vs (args.toList.map ρ)) (hp:wop call (.copy n) vs H=some (v,H')) :
  ∃ u w' κ,Ends P (execOp ρ { dst,op := .call ⟨.builtin .copy,args,#[t1,t2]⟩,type,pos,after,guard }) w u w'∧VRel κ v u∧Rel B G H' κ w'∧Keep H ι w H' κ w':=by
 have hl:=hv.length
 match vs,hp with
 | [.slice (some a) m cap,x],hp =>
  obtain ⟨o1,o2,ho⟩:∃ o1 o2,args = #[o1,o2]:=by
   simp at hl
   cases args with
   | mk l =>
    match l,hl with
    | [o1,o2],_=>exact ⟨o1,o2,rfl⟩
  subst ho
  obtain ⟨y,z,e0,hy,hz⟩:=VR2 hv
  simp at e0
  obtain ⟨rfl,rfl⟩:=e0
  simp only [wop] at hp
  split at hp<;>try (cases hp;done)
  rename_i k cs hsrc
  split at hp<;>try (cases hp;done)
  rename_i H'' hst
  simp only [Option.some.injEq,Prod.mk.injEq] at hp
  obtain ⟨rfl,rfl⟩:=hp
  obtain ⟨hlen,hnl,hnsc,L,hLr,hfc⟩:=src_run (P:=P) hR.h hz hsrc
  obtain ⟨j,p,mc,hj,e1,hle,hcr,hq⟩:=hy
  obtain ⟨w',h1,h2,h3⟩:=storeAt_run (P:=P) hR hj (hLr.take (min k m*n)) (fun c hc=>hnsc c (List.mem_of_mem_take hc)) hst
  have hf:=hfc w rfl (min k m) (Nat.min_le_left _ _)
  refine ⟨.int .i64 (min k m:Nat),w',ι,.inl ?_,rfl,h2,h3⟩
  have hst':(storeCells p (L.take (min k m*n))).run P w = .ok () w':=by
   by_cases hm:mc=0
   ·have hm0:m=0:=by omega
    subst hm0
    simp at h1 ⊢
    simp [storeCells] at h1 ⊢
    exact h1
   ·rw [hq hm];exact h1
  have hmin:Nat.min k m=min k m:=rfl
  simp [execOp,resolve,invoke,builtin,Builtin.copy_,run_und hd,e1,hlen,run_size hn,hmin,hf,hst',goInt]
 | [],hp=>simp [wop] at hp
 | [a],hp=>cases a<;>simp [wop] at hp
 | a::b::c::r,hp=>cases a<;>simp [wop] at hp
 | [.slice none m cap,x],hp=>simp [wop] at hp
 | [.bool _,x],hp=>simp [wop] at hp
 | [.int _ _,x],hp=>simp [wop] at hp
 | [.str _,x],hp=>simp [wop] at hp
 | [.ptr _,x],hp=>simp [wop] at hp
 | [.map _,x],hp=>simp [wop] at hp
 | [.func _ _ _,x],hp=>simp [wop] at hp
 | [.nilFunc,x],hp=>simp [wop] at hp
 | [.iface _ _,x],hp=>simp [wop] at hp
 | [.nilIface,x],hp=>simp [wop] at hp
 | [.agg _,x],hp=>simp [wop] at hp
 | [.tuple _,x],hp=>simp [wop] at hp
theorem mark_sound {call:CallT} {s d:TypeId} {x:Operand} {q:WOp} {xs:List Operand} {vs:List AV} {v:AV} {ρ:Operand→Value} {dst:Option Tmp} {type:TypeId} {pos:String} {after:Array Edge} {guard:Option (Nat × Bool)} (hR:Rel B G H ι w)
  (hk:kindC P C (.convert s d x)=some (.w q,xs)) (hv:VRels ι vs (xs.map ρ)) (hp:wop call q vs H=some (v,H')) :
  ∃ u w' κ,Ends P (execOp ρ { dst,op := .convert s d x,type,pos,after,guard }) w u w'∧VRel κ v u∧Rel B G H' κ w'∧Keep H ι w H' κ w':=by
 simp only [kindC] at hk
 split at hk<;>try (simp at hk;done)
 ·split at hk<;>simp at hk
 ·rename_i e0 e hs hd
  split at hk<;>try (cases hk;done)
  rename_i he
  split at hk<;>simp at hk
  rename_i hsd
  obtain ⟨rfl,rfl⟩:=hk
  subst hsd
  have hee:e0=e:=by rw [hs] at hd;simpa using hd
  subst hee
  obtain ⟨a,rfl,ha⟩:=VRv1 hv
  match a,ha,hp with
  | .slice (some p) (n+1) c,ha,hp =>
   simp only [wop] at hp
   split at hp<;>try (cases hp;done)
   rename_i cs str hg
   simp only [Option.some.injEq,Prod.mk.injEq] at hp
   obtain ⟨rfl,rfl⟩:=hp
   obtain ⟨j,z,m,hj,ex,hle,hcr,hq⟩:=ha
   obtain ⟨j',hj',hb⟩:=hR.h.at_ _ _ hg
   rw [hj] at hj';obtain rfl:=Option.some.inj hj'
   obtain ⟨hsc,cc,t,fr,hbl,hvr,hlen,hrw,hstr,hro⟩:=hb
   obtain ⟨hB,hsz,hfr⟩:=hrw rfl
   have hz:=hq (by omega)
   let fr':Nat × Nat:=if fr.1 == fr.2 then (cc.size,cc.size+1) else (min fr.1 cc.size,max fr.2 (cc.size+1))
   have hput:Put j.blk (.cells cc t fr') w (w.freeze ⟨j.blk,cc.size,none⟩ 1):=by
    refine ⟨rfl,rfl,rfl,by simp [World.freeze],fun k hk => ?_,?_⟩
    ·simp only [World.freeze]
     rw [if_neg (by omega)]
     simp only [Array.getElem?_modify]
     rw [if_neg (by omega)]
    ·simp only [World.freeze]
     rw [if_neg (by omega)]
     simp only [Array.getElem?_modify,if_true,hbl,Option.map_some]
     rfl
   have hfr1:cc.size≤fr'.1:=by
    show cc.size≤(if fr.1 == fr.2 then (cc.size,cc.size+1) else (min fr.1 cc.size,max fr.2 (cc.size+1))).1
    split
    ·exact Nat.le_refl _
    ·rename_i hne
     have:cc.size≤fr.1:=by
      cases str with
      | false=>rw [hstr rfl] at hne;simp at hne
      | true=>rcases hfr rfl with h | h
              ·rw [h] at hne;simp at hne
              ·exact h
     exact Nat.le_min.2 ⟨this,Nat.le_refl _⟩
   obtain ⟨h1,h2⟩:=upd_block hR hg rfl hj hput (x' := .cells cs true true) ⟨hsc,cc,t,fr',hput.is,hvr,hlen,fun _=>⟨hB,hsz,fun _ => .inr hfr1⟩,(fun h=>by cases h),(fun h=>by cases h)⟩ rfl
   refine ⟨_,_,ι,.inl ?_,⟨j,z,m,hj,rfl,hle,hcr,hq⟩,h1,h2⟩
   simp only [execOp,convert,Sem.run_bind,run_und hs,run_und hd,ex,Result.andThen_ok,run_und he,markStringish,hz]
   simp [World.shape?,hbl]
  | .slice (some p) 0 c,ha,hp=>simp [wop] at hp
  | .slice none _ _,ha,hp=>simp [wop] at hp
  | .bool _,ha,hp=>simp [wop] at hp
  | .int _ _,ha,hp=>simp [wop] at hp
  | .str _,ha,hp=>simp [wop] at hp
  | .ptr _,ha,hp=>simp [wop] at hp
  | .map _,ha,hp=>simp [wop] at hp
  | .func _ _ _,ha,hp=>simp [wop] at hp
  | .nilFunc,ha,hp=>simp [wop] at hp
  | .iface _ _,ha,hp=>simp [wop] at hp
  | .nilIface,ha,hp=>simp [wop] at hp
  | .agg _,ha,hp=>simp [wop] at hp
  | .tuple _,ha,hp=>simp [wop] at hp
 ·split at hk<;>simp at hk
theorem mapPut_run {ks:Bool} {d:TypeDesc} (hd:descK ks d=true) {k v:AV} {u x:Value} (hk:isKey ks k=true) (h:VRel ι k u) (hx:VRel ι v x):∀ (es es':List (AV × AV)) (l:List MapEntry) (i:Nat),MRel ι es l→mapPut k v es=some es' →
  (Instr.findNow d u l i=some none∧∀ b,MRel ι es' (l++[{ key:=u,val:=x,born:=b }])) ∨
  (∃ n y,Instr.findNow d u l i=some (some (i+n,y.val))∧l[n]?=some y∧Instr.sameBits 10000 y.key u=true∧MRel ι es' (l.modify n fun e=>{ e with key:=u,val:=x }))
 | [],es',l,i,hm,hp=>by
  simp only [MRel] at hm;subst hm
  simp only [mapPut,Option.some.injEq] at hp;subst hp
  exact .inl ⟨rfl,fun b=>⟨_,[],rfl,h,hx,rfl⟩⟩
 | (kk,vv)::es,es',l,i,⟨y,ys,e,h1,h2,hm⟩,hp=>by
  subst e
  simp only [mapPut] at hp
  split at hp
  ·rename_i he
   simp only [Option.some.injEq] at hp;subst hp
   have hs:=sameNow_run hd hk h h1 he
   have hsb:Instr.sameBits 10000 y.key u=true:=by
    cases k<;>cases kk<;>simp only [keyEq] at he<;>try (cases he;done)
    ·simp only [VRel] at h h1;rw [h,h1]
     split at he
     ·rename_i e;subst e;simp at he;subst he;simp [Instr.sameBits]
     ·cases he
    ·simp only [VRel] at h h1;rw [h,h1]
     simp at he;subst he;simp [Instr.sameBits,beq_toListBytes]
   exact .inr ⟨0,y,by simp [Instr.findNow,hs],rfl,hsb,⟨_,ys,rfl,h,hx,hm⟩⟩
  ·rename_i he
   split at hp<;>try (cases hp;done)
   rename_i r' hr'
   simp only [Option.some.injEq] at hp;subst hp
   have hs:=sameNow_run hd hk h h1 he
   rcases mapPut_run hd hk h hx es r' ys (i+1) hm hr' with ⟨a1,a2⟩ | ⟨n,z,a1,a2,a3,a4⟩
   ·exact .inl ⟨by simp [Instr.findNow,hs,a1],fun b=>⟨y,ys++[_],rfl,h1,h2,a2 b⟩⟩
   ·exact .inr ⟨n+1,z,by simp [Instr.findNow,hs,a1];try omega,by simpa using a2,a3,⟨y,_,by simp [List.modify_succ_cons],h1,h2,a4⟩⟩
  ·cases hp
theorem mapUpd_run {call:CallT} {t kt et:TypeId} {ks:Bool} {kd:TypeDesc} {vs:List AV} {v:AV} {m k x:Value} (hR:Rel B G H ι w) (hd:P.underlying t=some (.map kt et)) (hkt:P.underlying kt=some kd) (hdk:descK ks kd=true)
  (hv:VRels ι vs [m,k,x]) (hp:wop call (.mapUpd ks) vs H=some (v,H')) :
  ∃ w',(Instr.mapUpdate t m k x).run P w = .ok () w'∧v=undefA∧Rel B G H' ι w'∧Keep H ι w H' ι w':=by
 obtain ⟨a,b,c,rfl,ha,hb,hc⟩:=VRv3 hv
 match a,ha,hp with
 | .map (some mm),ha,hp =>
  simp only [wop] at hp
  split at hp<;>try (cases hp;done)
  rename_i hkey
  split at hp<;>try (cases hp;done)
  rename_i es hg
  split at hp<;>try (cases hp;done)
  rename_i es' hes
  simp only [Option.some.injEq,Prod.mk.injEq] at hp
  obtain ⟨rfl,rfl⟩:=hp
  obtain ⟨j,hj,em⟩:=ha
  obtain ⟨j',hj',hbr⟩:=hR.h.at_ _ _ hg
  rw [hj] at hj';obtain rfl:=Option.some.inj hj'
  obtain ⟨l,clock,hbl,hBj,hml⟩:=hbr
  have hobj:(getObj j.blk).run P w = .ok (.map l clock) w:=by simp [getObj,Sem.run,hbl]
  have hck:=checkKey_run (P:=P) (w:=w) hkt hdk false k
  have hset:∀ o:Obj,(setObj j.blk o).run P w = .ok () { w with heap:=w.heap.setIfInBounds j.blk o }:=fun o=>by simp [setObj,Sem.run,hbl]
  have hlt:j.blk < w.heap.size:=(Array.getElem?_eq_some_iff.1 hbl).1
  have hput:∀ o:Obj,Put j.blk o w { w with heap:=w.heap.setIfInBounds j.blk o }:=fun o =>
   ⟨rfl,rfl,rfl,by simp,fun c hc=>by simp [Array.getElem?_setIfInBounds_ne (Ne.symm hc)],by simp [hlt]⟩
  rcases mapPut_run hdk hkey hb hc es es' l.toList 0 hml hes with ⟨a1,a2⟩ | ⟨n,y,a1,a2,a3,a4⟩
  ·have hfk:=findKey_run (P:=P) (w:=w) (ks:=ks) hkt a1
   obtain ⟨h1,h2⟩:=upd_block hR hg rfl hj (hput (.map (l.push { key:=k,val:=x,born:=clock }) (clock+1))) (x' := .map es') ⟨l.push { key:=k,val:=x,born:=clock },clock+1,(hput _).is,hBj,by simpa using a2 clock⟩ rfl
   exact ⟨_,by simp [Instr.mapUpdate,run_und hd,em,hobj,hck,hfk,hset],rfl,h1,h2⟩
  ·have hfk:=findKey_run (P:=P) (w:=w) (ks:=ks) hkt a1
   have hy:l[n]?=some y:=by simpa using a2
   obtain ⟨h1,h2⟩:=upd_block hR hg rfl hj (hput (.map (l.modify n fun e=>{ e with key:=k,val:=x }) clock)) (x' := .map es') ⟨l.modify n fun e=>{ e with key:=k,val:=x },clock,(hput _).is,hBj,by rw [Array.toList_modify];exact a4⟩ rfl
   refine ⟨_,?_,rfl,h1,h2⟩
   simp [Instr.mapUpdate,run_und hd,em,hobj,hck,hfk,hset,hy,Instr.keyThatStays,a3]
 | .map none,ha,hp=>simp [wop] at hp
 | .bool _,ha,hp=>simp [wop] at hp
 | .int _ _,ha,hp=>simp [wop] at hp
 | .str _,ha,hp=>simp [wop] at hp
 | .ptr _,ha,hp=>simp [wop] at hp
 | .slice _ _ _,ha,hp=>simp [wop] at hp
 | .func _ _ _,ha,hp=>simp [wop] at hp
 | .nilFunc,ha,hp=>simp [wop] at hp
 | .iface _ _,ha,hp=>simp [wop] at hp
 | .nilIface,ha,hp=>simp [wop] at hp
 | .agg _,ha,hp=>simp [wop] at hp
 | .tuple _,ha,hp=>simp [wop] at hp
def isCallW:WOp→Bool
 | .callF _=>true
 | .callV=>true
 | _=>false
theorem mapPut_sound {call:CallT} {op:Op} {t:TypeId} {m k x:Operand} (hop:op = .mapUpdate t m k x∨op = .insert t m k x) {q:WOp} {xs:List Operand} {vs:List AV} {v:AV} {ρ:Operand→Value} {dst:Option Tmp} {type:TypeId} {pos:String} {after:Array Edge} {guard:Option (Nat × Bool)} (hR:Rel B G H ι w)
  (hk:kindC P C op=some (.w q,xs)) (hv:VRels ι vs (xs.map ρ)) (hp:wop call q vs H=some (v,H')) :
  ∃ u w' κ,Ends P (execOp ρ { dst,op,type,pos,after,guard }) w u w'∧VRel κ v u∧Rel B G H' κ w'∧Keep H ι w H' κ w':=by
 rcases hop with rfl | rfl
 all_goals
  simp only [kindC] at hk
  split at hk<;>try (cases hk;done)
  rename_i kt et hd
  split at hk<;>simp at hk
  rename_i ks hks
  obtain ⟨rfl,rfl⟩:=hk
  obtain ⟨kd,hkt,hdk⟩:=keyD_desc hks
  obtain ⟨w',h1,rfl,h2,h3⟩:=mapUpd_run hR hd hkt hdk hv hp
  exact ⟨undef,w',ι,.inr ⟨by simp [execOp,h1],rfl⟩,undef_rel,h2,h3⟩
set_option maxHeartbeats 1600000 in
theorem wcall_sound {call:CallT} {c:Call} {q:WOp} {xs:List Operand} {vs:List AV} {v:AV} {ρ:Operand→Value} {dst:Option Tmp} {type:TypeId} {pos:String} {after:Array Edge} {guard:Option (Nat × Bool)} (hR:Rel B G H ι w) (hq:isCallW q=false)
  (hk:kindC P C (.call c)=some (.w q,xs)) (hv:VRels ι vs (xs.map ρ)) (hp:wop call q vs H=some (v,H')) :
  ∃ u w' κ,Ends P (execOp ρ { dst,op := .call c,type,pos,after,guard }) w u w'∧VRel κ v u∧Rel B G H' κ w'∧Keep H ι w H' κ w':=by
 obtain ⟨callee,args,argTypes⟩:=c
 simp only [kindC,callC] at hk
 cases callee with
 | value f =>
  cases f<;>simp only [Option.some.injEq,Prod.mk.injEq,AK.w.injEq] at hk<;>obtain ⟨rfl,rfl⟩:=hk<;>simp [isCallW] at hq
 | invoke r m=>simp at hk
 | builtin b =>
  simp only at hk
  split at hk
  ·split at hk<;>try (simp at hk;done)
   split at hk<;>simp at hk
  ·rename_i t u hargs
   have ht':argTypes = #[t,u]:=by cases argTypes;simp_all
   subst ht'
   split at hk<;>try (cases hk;done)
   rename_i e d hd hud
   split at hk<;>try (cases hk;done)
   rename_i hseq
   split at hk<;>try (cases hk;done)
   rename_i n b z hn hb hz
   split at hk<;>try (cases hk;done)
   rename_i hzl
   simp only [Option.some.injEq,Prod.mk.injEq,AK.w.injEq] at hk
   obtain ⟨rfl,rfl⟩:=hk
   have hl:=hv.length
   match vs,hl,hv,hp with
   | [s,x],hl,hv,hp =>
    obtain ⟨o1,o2,ho⟩:∃ o1 o2,args = #[o1,o2]:=by
     simp at hl
     cases args with
     | mk l =>
      match l,hl with
      | [o1,o2],_=>exact ⟨o1,o2,rfl⟩
    subst ho
    obtain ⟨y,zz,e0,hy,hz'⟩:=VR2 hv
    simp at e0
    obtain ⟨rfl,rfl⟩:=e0
    simp only [wop] at hp
    obtain ⟨vu,w',κ,h1,h2,h3,h4⟩:=append_sound (ty:=type) hd hud hseq hn hb hz hzl hR hy hz' hp
    exact ⟨vu,w',κ,.inl (by simp [execOp,resolve,invoke,builtin,h1]),h2,h3,h4⟩
   | [],hl,hv,hp=>simp [wop] at hp
   | [a],hl,hv,hp=>simp [wop] at hp
   | a::b::c::r,hl,hv,hp=>simp [wop] at hp
  ·rename_i t u hargs
   have ht':argTypes = #[t,u]:=by cases argTypes;simp_all
   subst ht'
   split at hk<;>try (cases hk;done)
   rename_i e hd
   split at hk<;>simp at hk
   rename_i n hn
   obtain ⟨rfl,rfl⟩:=hk
   exact copy_sound (c:=⟨.builtin .copy,args,#[t,u]⟩) hR hd hn hv hp
  ·simp at hk
  ·simp at hk
  ·cases hk
theorem wop_sound {call:CallT} {o:Oper} {q:WOp} {xs:List Operand} {vs:List AV} {v:AV} {ρ:Operand→Value} (hR:Rel B G H ι w) (hq:isCallW q=false)
  (hk:kindC P C o.op=some (.w q,xs)) (hv:VRels ι vs (xs.map ρ)) (hp:wop call q vs H=some (v,H')) :
  ∃ u w' κ,Ends P (execOp ρ o) w u w'∧VRel κ v u∧Rel B G H' κ w'∧Keep H ι w H' κ w':=by
 obtain ⟨dst,op,type,pos,after,guard⟩:=o
 cases op with
 | store t a x=>exact store_sound hR hk hv hp
 | convert s d x=>exact mark_sound hR hk hv hp
 | mapUpdate t m k x=>exact mapPut_sound (.inl rfl) hR hk hv hp
 | insert t m k x=>exact mapPut_sound (.inr rfl) hR hk hv hp
 | call c=>exact wcall_sound hR hq hk hv hp
 | load t a =>
  simp only [kindC] at hk
  split at hk<;>simp at hk
 | binOp op t x y t2 =>
  simp only [kindC] at hk
  split at hk
  ·split at hk
   ·simp at hk
   ·simp at hk
   ·split at hk<;>simp at hk
  ·split at hk
   ·simp at hk
   ·simp at hk
   ·split at hk<;>simp at hk
  ·simp at hk
 | lookup t x i ok =>
  simp only [kindC] at hk
  split at hk<;>try (cases hk;done)
  split at hk<;>simp at hk
 | alloc e =>
  simp only [kindC] at hk
  split at hk<;>simp at hk
 | build t ps =>
  simp only [kindC] at hk
  split at hk
  ·split at hk
   ·split at hk<;>simp at hk
   ·cases hk
  ·split at hk<;>simp at hk
  ·cases hk
 | buildSlice t n ps =>
  simp only [kindC] at hk
  split at hk<;>try (cases hk;done)
  split at hk<;>try (cases hk;done)
  split at hk<;>simp at hk
 | makeInterface t x =>
  simp only [kindC] at hk
  split at hk<;>simp at hk
 | makeFunc fn first captured=>cases fn<;>simp [kindC] at hk
 | makeMap t r=>cases r<;>simp [kindC] at hk
 | makeSlice t l c =>
  simp only [kindC] at hk
  split at hk<;>try (cases hk;done)
  split at hk<;>try (cases hk;done)
  split at hk<;>simp at hk
 | slice t x lo hi mx =>
  cases mx with
  | some _=>simp [kindC] at hk
  | none =>
   simp only [kindC] at hk
   split at hk
   ·simp at hk
   ·split at hk<;>simp at hk
   ·split at hk<;>simp at hk
   ·split at hk
    ·split at hk<;>simp at hk
    ·cases hk
   ·cases hk
 | fieldAddr s x i =>
  simp only [kindC] at hk
  split at hk<;>try (cases hk;done)
  split at hk<;>try (cases hk;done)
  split at hk<;>simp at hk
 | field s x i =>
  simp only [kindC] at hk
  split at hk<;>try (cases hk;done)
  split at hk<;>try (cases hk;done)
  split at hk<;>simp at hk
 | indexAddr t x i =>
  simp only [kindC] at hk
  split at hk<;>try (cases hk;done)
  all_goals (split at hk<;>simp at hk)
 | index t x i =>
  simp only [kindC] at hk
  split at hk
  ·simp at hk
  ·split at hk<;>simp at hk
  ·cases hk
 | typeAssert x xt t ok =>
  simp only [kindC] at hk
  split at hk<;>simp at hk
 | _=>simp [kindC] at hk
theorem nop_sound {o:Oper} {q:NOp} {xs:List Operand} {vs:List AV} {blk:ABlk} {res:NRes} {ρ:Operand→Value} (hB:B≤w.heap.size) {id:Nat} (hid:ι id=none)
  (hk:kindC P C o.op=some (.n q,xs)) (hv:VRels ι vs (xs.map ρ)) (hp:nop q vs=some (blk,res)) :
  ∃ u w' κ,(execOp ρ o).run P w = .ok (.value u) w'∧Made B ι κ id w w' blk∧VRel κ (res.at id) u:=by
 obtain ⟨dst,op,type,pos,after,guard⟩:=o
 cases op with
 | alloc e=>exact alloc_sound hB hid hk hv hp
 | box e x=>exact box_sound hB hid hk hv hp
 | buildSlice t n ps=>exact bslice_sound hB hid hk hv hp
 | makeMap t r=>exact mkmap_sound hB hid hk hv hp
 | makeSlice t l c=>exact mkslice_sound hB hid hk hv hp
 | convert s d x=>exact s2b_sound hB hid hk hv hp
 | store t a x =>
  simp only [kindC] at hk
  split at hk<;>simp at hk
 | mapUpdate t m k x =>
  simp only [kindC] at hk
  split at hk<;>try (cases hk;done)
  split at hk<;>simp at hk
 | insert t m k x =>
  simp only [kindC] at hk
  split at hk<;>try (cases hk;done)
  split at hk<;>simp at hk
 | call c =>
  obtain ⟨callee,args,argTypes⟩:=c
  simp only [kindC,callC] at hk
  cases callee with
  | value f=>cases f<;>simp at hk
  | invoke r m=>simp at hk
  | builtin b =>
   simp only at hk
   split at hk
   ·split at hk<;>try (simp at hk;done)
    split at hk<;>simp at hk
   ·split at hk<;>try (cases hk;done)
    split at hk<;>try (cases hk;done)
    split at hk<;>try (cases hk;done)
    split at hk<;>simp at hk
   ·split at hk<;>try (cases hk;done)
    split at hk<;>simp at hk
   ·simp at hk
   ·simp at hk
   ·cases hk
 | load t a =>
  simp only [kindC] at hk
  split at hk<;>simp at hk
 | binOp op t x y t2 =>
  simp only [kindC] at hk
  split at hk
  ·split at hk
   ·simp at hk
   ·simp at hk
   ·split at hk<;>simp at hk
  ·split at hk
   ·simp at hk
   ·simp at hk
   ·split at hk<;>simp at hk
  ·simp at hk
 | lookup t x i ok =>
  simp only [kindC] at hk
  split at hk<;>try (cases hk;done)
  split at hk<;>simp at hk
 | build t ps =>
  simp only [kindC] at hk
  split at hk
  ·split at hk
   ·split at hk<;>simp at hk
   ·cases hk
  ·split at hk<;>simp at hk
  ·cases hk
 | makeInterface t x =>
  simp only [kindC] at hk
  split at hk<;>simp at hk
 | makeFunc fn first captured=>cases fn<;>simp [kindC] at hk
 | slice t x lo hi mx =>
  cases mx with
  | some _=>simp [kindC] at hk
  | none =>
   simp only [kindC] at hk
   split at hk
   ·simp at hk
   ·split at hk<;>simp at hk
   ·split at hk<;>simp at hk
   ·split at hk
    ·split at hk<;>simp at hk
    ·cases hk
   ·cases hk
 | fieldAddr s x i =>
  simp only [kindC] at hk
  split at hk<;>try (cases hk;done)
  split at hk<;>try (cases hk;done)
  split at hk<;>simp at hk
 | field s x i =>
  simp only [kindC] at hk
  split at hk<;>try (cases hk;done)
  split at hk<;>try (cases hk;done)
  split at hk<;>simp at hk
 | indexAddr t x i =>
  simp only [kindC] at hk
  split at hk<;>try (cases hk;done)
  all_goals (split at hk<;>simp at hk)
 | index t x i =>
  simp only [kindC] at hk
  split at hk
  ·simp at hk
  ·split at hk<;>simp at hk
  ·cases hk
 | typeAssert x xt t ok =>
  simp only [kindC] at hk
  split at hk<;>simp at hk
 | _=>simp [kindC] at hk
end
end
end Go.FR
