/- The fast run: what makes a block is as the model's. -/
import Derived.Test.YtlgkadhogiedoaaDoorFrG
import Derived.Laws.MakeOwn
set_option linter.unusedSimpArgs false
set_option linter.unusedVariables false
namespace Go.FR
noncomputable section
open Go
section
variable {P:Program} {C:Cfg} {ι:Pl} {w:World} {B:Nat} {H:Heap}
structure Made (B:Nat) (ι κ:Pl) (id:Nat) (w w':World) (blk:ABlk):Prop where
 os:w'.os=w.os
 tape:w'.tape=w.tape
 output:w'.output=w.output
 size:w'.heap.size=w.heap.size+1
 same:∀ c,c < w.heap.size→w'.heap[c]?=w.heap[c]?
 is:∃ j,κ=setP ι id j∧j.blk=w.heap.size∧BRel B κ w' j blk
 rw:blk.rw=true
theorem made_mk {id:Nat} {blk:ABlk} {o:Obj} {j:Inj} {w':World} (hid:ι id=none) (hw:w'.heap=w.heap.push o) (hos:w'.os=w.os) (htape:w'.tape=w.tape) (hout:w'.output=w.output) (hj:j.blk=w.heap.size)
  (hb:BRel B (setP ι id j) w' j blk) (hr:blk.rw=true):Made B ι (setP ι id j) id w w' blk :=
 ⟨hos,htape,hout,by rw [hw];simp,fun c hc=>by rw [hw,Array.getElem?_push,if_neg (by omega)],⟨j,rfl,hj,hb⟩,hr⟩
theorem made_cells {id:Nat} {cs:List AV} {L:Array Value} {t:TypeId} {str:Bool} (hB:B≤w.heap.size) (hid:ι id=none) (hr:VRels ι cs (L.toList.take cs.length)) (hl:cs.length≤L.size) (hs:∀ c∈cs,scA c=true) :
  ∃ j:Inj,j.blk=w.heap.size∧j.off=0∧j.size=L.size∧Made B ι (setP ι id j) id w { w with heap:=w.heap.push (.cells L t) } (.cells cs true false):=by
 refine ⟨⟨w.heap.size,0,L.size⟩,rfl,rfl,rfl,made_mk hid rfl rfl rfl rfl rfl ⟨hs,L,t,(0,0),by simp,?_,by simpa using hl,fun _=>⟨hB,by simp,fun h=>by cases h⟩,fun _=>rfl,fun h=>by cases h⟩ rfl⟩
 have:ι.le (setP ι id ⟨w.heap.size,0,L.size⟩):=setP_le hid
 simpa using VRels.mono this _ _ hr
theorem rep_length (n:Nat) (l:List AV):(rep n l).length=n*l.length:=by
 induction n with
 | zero=>simp [rep]
 | succ n ih=>simp [rep,ih,Nat.succ_mul];omega
theorem rep_rels {zs:List AV} {z:Array Value} (h:VRels ι zs z.toList) (hz:0 < z.size):∀ (n m k:Nat),(n+k)*z.size≤m →
  VRels ι (rep n zs) (((((List.range m).map fun i=>z[i % z.size]!).drop (k*z.size)).take (n*z.size)))
 | 0,m,k,hm=>by simp [rep,VRels]
 | n+1,m,k,hm=>by
  have ih:=rep_rels h hz n m (k+1) (by rw [show n+(k+1)=n+1+k by omega];exact hm)
  have hlen:=h.length
  have e:(((List.range m).map fun i=>z[i % z.size]!).drop (k*z.size)).take ((n+1)*z.size)=z.toList++((((List.range m).map fun i=>z[i % z.size]!).drop ((k+1)*z.size)).take (n*z.size)):=by
   apply List.ext_getElem?
   intro i
   have hkm:(n+1+k)*z.size=n*z.size+z.size+k*z.size:=by rw [Nat.add_mul,Nat.succ_mul]
   simp only [List.getElem?_take,List.getElem?_drop,List.getElem?_append,List.getElem?_map,List.getElem?_range,Array.length_toList,Nat.succ_mul]
   by_cases h1:i < z.size
   ·rw [if_pos (by omega),if_pos h1]
    rw [List.getElem?_range (by omega)]
    have:(k*z.size+i) % z.size=i:=by rw [Nat.mul_comm,Nat.mul_add_mod];exact Nat.mod_eq_of_lt h1
    simp only [Option.map_some,this]
    simp [h1]
   ·rw [if_neg h1]
    by_cases h2:i < n*z.size+z.size
    ·rw [if_pos h2,if_pos (by omega)]
     rw [show k*z.size+i=k*z.size+z.size+(i - z.size) by omega]
    ·rw [if_neg h2,if_neg (by omega)]
  simp only [rep]
  rw [e]
  exact VRels.append h ih
theorem range0 (f:Nat→Value):(Array.range 0).map f = #[]:=by
 apply Array.eq_empty_of_size_eq_zero;simp
theorem range_map (z:Array Value) (m:Nat):((Array.range m).map fun i=>z[i % z.size]!).toList=(List.range m).map fun i=>z[i % z.size]! := by simp
theorem size_of_vrels {l:List AV} {a:Array Value} (h:VRels ι l a.toList):a.size=l.length:=by have:=h.length;simpa using this
theorem take_self {α:Type} (l:List α) {n:Nat} (h:l.length=n):l.take n=l:=by subst h;simp
theorem alloc_sound {e:TypeId} {q:NOp} {xs:List Operand} {vs:List AV} {blk:ABlk} {res:NRes} {ρ:Operand→Value} {dst:Option Tmp} {type:TypeId} {pos:String} {after:Array Edge} {guard:Option (Nat × Bool)} (hB:B≤w.heap.size) {id:Nat} (hid:ι id=none)
  (hk:kindC P C (.alloc e)=some (.n q,xs)) (hv:VRels ι vs (xs.map ρ)) (hp:nop q vs=some (blk,res)) :
  ∃ u w' κ,(execOp ρ { dst,op := .alloc e,type,pos,after,guard }).run P w = .ok (.value u) w'∧Made B ι κ id w w' blk∧VRel κ (res.at id) u:=by
 simp only [kindC] at hk
 split at hk
 ·rename_i z hz
  simp only [Option.some.injEq,Prod.mk.injEq,AK.n.injEq] at hk
  obtain ⟨rfl,rfl⟩:=hk
  obtain rfl:=VRv0 hv
  simp only [nop,Option.some.injEq,Prod.mk.injEq] at hp
  obtain ⟨rfl,rfl⟩:=hp
  obtain ⟨u,hu,hzu,hzc,hzn⟩:=zeroC_run (ι:=ι) hz
  obtain ⟨h1,h2⟩:=hzu.cells hzn
  have hs:=size_of_vrels h1
  obtain ⟨j,hj1,hj2,hj3,hm⟩:=made_cells (t:=e) (str:=false) hB hid (L:=u.cells) (by rw [take_self _ (by simpa using hs)];exact h1) (by omega) h2
  refine ⟨_,_,_,by simp [execOp,Instr.alloc,hu,newVar,newRow];rfl,hm,j,setP_same _ _ _,?_⟩
  simp [hj1,hj2]
 ·cases hk
theorem box_sound {e:TypeId} {x:Operand} {q:NOp} {xs:List Operand} {vs:List AV} {blk:ABlk} {res:NRes} {ρ:Operand→Value} {dst:Option Tmp} {type:TypeId} {pos:String} {after:Array Edge} {guard:Option (Nat × Bool)} (hB:B≤w.heap.size) {id:Nat} (hid:ι id=none)
  (hk:kindC P C (.box e x)=some (.n q,xs)) (hv:VRels ι vs (xs.map ρ)) (hp:nop q vs=some (blk,res)) :
  ∃ u w' κ,(execOp ρ { dst,op := .box e x,type,pos,after,guard }).run P w = .ok (.value u) w'∧Made B ι κ id w w' blk∧VRel κ (res.at id) u:=by
 simp only [kindC,Option.some.injEq,Prod.mk.injEq,AK.n.injEq] at hk
 obtain ⟨rfl,rfl⟩:=hk
 obtain ⟨a,rfl,ha⟩:=VRv1 hv
 simp only [nop] at hp
 split at hp
 ·rename_i hn
  simp only [Option.some.injEq,Prod.mk.injEq] at hp
  obtain ⟨rfl,rfl⟩:=hp
  obtain ⟨h1,h2⟩:=ha.cells hn
  have hs:=size_of_vrels h1
  obtain ⟨j,hj1,hj2,hj3,hm⟩:=made_cells (t:=e) (str:=false) hB hid (L:=(ρ x).cells) (by rw [take_self _ (by simpa using hs)];exact h1) (by omega) h2
  refine ⟨_,_,_,by simp [execOp,Instr.box,newVar,newRow];rfl,hm,j,setP_same _ _ _,?_⟩
  simp [hj1,hj2]
 ·cases hp
theorem bslice_sound {t:TypeId} {n:Nat} {ps:Array (Nat × Operand)} {q:NOp} {xs:List Operand} {vs:List AV} {blk:ABlk} {res:NRes} {ρ:Operand→Value} {dst:Option Tmp} {type:TypeId} {pos:String} {after:Array Edge} {guard:Option (Nat × Bool)} (hB:B≤w.heap.size) {id:Nat} (hid:ι id=none)
  (hk:kindC P C (.buildSlice t n ps)=some (.n q,xs)) (hv:VRels ι vs (xs.map ρ)) (hp:nop q vs=some (blk,res)) :
  ∃ u w' κ,(execOp ρ { dst,op := .buildSlice t n ps,type,pos,after,guard }).run P w = .ok (.value u) w'∧Made B ι κ id w w' blk∧VRel κ (res.at id) u:=by
 simp only [kindC] at hk
 split at hk<;>try (cases hk;done)
 rename_i e hd
 split at hk<;>try (cases hk;done)
 rename_i sz z hsz hz
 split at hk<;>try (cases hk;done)
 rename_i hc
 simp only [Option.some.injEq,Prod.mk.injEq,AK.n.injEq] at hk
 obtain ⟨rfl,rfl⟩:=hk
 simp only [nop] at hp
 split at hp<;>try (cases hp;done)
 rename_i cs hcs
 simp only [Option.some.injEq,Prod.mk.injEq] at hp
 obtain ⟨rfl,rfl⟩:=hp
 obtain ⟨u,hu,hzu,hzc,hzn⟩:=zeroC_run (ι:=ι) hz
 obtain ⟨h1,h2⟩:=hzu.cells hzn
 have hs:=size_of_vrels h1
 have hzs:u.cells.size=sz:=by omega
 have hrep:=rep_rels h1 (by omega) n (n*sz) 0 (by rw [hzs];simp)
 have hrep':VRels ι (rep n z.cells) ((List.range (n*sz)).map fun i=>u.cells[i % u.cells.size]!):=by
  have:(((List.range (n*sz)).map fun i=>u.cells[i % u.cells.size]!).drop (0*u.cells.size)).take (n*u.cells.size)=(List.range (n*sz)).map fun i=>u.cells[i % u.cells.size]! := by
   rw [Nat.zero_mul,List.drop_zero,hzs];exact take_self _ (by simp)
  rwa [this] at hrep
 have hsc:∀ c∈rep n z.cells,scA c=true:=by
  intro c hc
  have:∀ k,c∈rep k z.cells→c∈z.cells:=by
   intro k
   induction k with
   | zero=>intro h;simp [rep] at h
   | succ k ih=>intro h;simp only [rep,List.mem_append] at h;exact h.elim (fun x=>x) ih
  exact h2 c (this n hc)
 obtain ⟨b,hb1,hb2,hb3⟩:=fill_run (place:=fun i=>some (i*sz,sz)) (ps.toList.map fun p=>(p.1,ρ p.2)) _ vs (rep n z.cells) cs ((Array.range (n*sz)).map fun i=>u.cells[i % u.cells.size]!) (by simp [Function.comp_def]) (by simpa [Function.comp_def] using hv) (by rw [range_map];exact hrep') hsc hcs
 have hbs:=size_of_vrels hb2
 obtain ⟨j,hj1,hj2,hj3,hm⟩:=made_cells (t:=e) (str:=false) hB hid (L:=b) (by rw [take_self _ (by simpa using hbs)];exact hb2) (by omega) hb3
 have e1:(ps.map fun (x:Nat × Operand)=>match x with | (i,x)=>(i,ρ x)).toList=ps.toList.map fun p=>(p.1,ρ p.2):=by simp
 have hfl:=fillA_length _ _ _ _ hcs
 refine ⟨.slice (some ⟨w.heap.size,0,none⟩) n n,_,_,?_,hm,j,⟨w.heap.size,0,none⟩,n,setP_same _ _ _,rfl,Nat.le_refl _,rfl,fun _=>by simp [hj1,hj2]⟩
 by_cases h0:n*sz=0
 ·have hn0:n=0:=by rcases Nat.mul_eq_zero.1 h0 with h | h<;>omega
  subst hn0
  simp only [execOp,Instr.buildSlice,Sem.run_bind,run_und hd,Result.andThen_ok,run_size hsz]
  rw [if_neg (by simp)]
  simp only [Nat.zero_mul,if_true,Sem.run_bind,Sem.run_pure,Result.andThen_ok,e1]
  have hb1':Instr.fill (fun i=>some (i*sz,sz)) ((Array.range 0).map fun i=>(#[]:Array Value)[i % (#[]:Array Value).size]!) (ps.toList.map fun p=>(p.1,ρ p.2))=some b:=by
   rw [←hb1,Nat.zero_mul,range0,range0]
  simp only [hb1']
  simp [newRow]
 ·simp only [execOp,Instr.buildSlice,Sem.run_bind,run_und hd,Result.andThen_ok,run_size hsz]
  rw [if_neg (by omega)]
  simp only [h0,if_false,Sem.run_bind,hu,Sem.run_pure,Result.andThen_ok,e1,hb1]
  simp [newRow]
theorem mkmap_sound {t:TypeId} {r:Option Operand} {q:NOp} {xs:List Operand} {vs:List AV} {blk:ABlk} {res:NRes} {ρ:Operand→Value} {dst:Option Tmp} {type:TypeId} {pos:String} {after:Array Edge} {guard:Option (Nat × Bool)} (hB:B≤w.heap.size) {id:Nat} (hid:ι id=none)
  (hk:kindC P C (.makeMap t r)=some (.n q,xs)) (hv:VRels ι vs (xs.map ρ)) (hp:nop q vs=some (blk,res)) :
  ∃ u w' κ,(execOp ρ { dst,op := .makeMap t r,type,pos,after,guard }).run P w = .ok (.value u) w'∧Made B ι κ id w w' blk∧VRel κ (res.at id) u:=by
 cases r with
 | some r=>simp [kindC] at hk
 | none =>
  simp only [kindC,Option.some.injEq,Prod.mk.injEq,AK.n.injEq] at hk
  obtain ⟨rfl,rfl⟩:=hk
  simp only [nop,Option.some.injEq,Prod.mk.injEq] at hp
  obtain ⟨rfl,rfl⟩:=hp
  refine ⟨.map (some w.heap.size),{ w with heap:=w.heap.push (.map #[] 0) },setP ι id ⟨w.heap.size,0,0⟩,by simp [execOp,Instr.makeMap],made_mk hid rfl rfl rfl rfl rfl ⟨#[],0,by simp,hB,rfl⟩ rfl,⟨w.heap.size,0,0⟩,setP_same _ _ _,rfl⟩
theorem zeroC_info {t:TypeId} {z:AV} (h:zeroC P t=some z):∃ i u,P.info? t=some i∧i.zero=some u∧VRel ι z u∧ntA z=true:=by
 unfold zeroC at h
 split at h
 ·rename_i i hi
  split at h
  ·rename_i v hv
   split at h
   ·rename_i z' hz
    split at h
    ·rename_i hc
     simp only [Option.some.injEq] at h;subst h
     simp only [Bool.and_eq_true,List.all_eq_true] at hc
     exact ⟨i,v,hi,hv,ofV_sound 4 _ _ hz,hc.2⟩
    ·cases h
   ·cases h
  ·cases h
 ·cases h
theorem sizeC_info {t:TypeId} {n:Nat} {i:TypeInfo} (hi:P.info? t=some i) (h:sizeC P t=some n):i.size=n:=by
 unfold sizeC at h;simpa [hi] using h
theorem bytesC_info {t:TypeId} {n:Nat} {i:TypeInfo} (hi:P.info? t=some i) (h:bytesC P t=some n):i.bytes=n:=by
 unfold bytesC at h;simpa [hi] using h
theorem mkslice_sound {t:TypeId} {l c:Operand} {q:NOp} {xs:List Operand} {vs:List AV} {blk:ABlk} {res:NRes} {ρ:Operand→Value} {dst:Option Tmp} {type:TypeId} {pos:String} {after:Array Edge} {guard:Option (Nat × Bool)} (hB:B≤w.heap.size) {id:Nat} (hid:ι id=none)
  (hk:kindC P C (.makeSlice t l c)=some (.n q,xs)) (hv:VRels ι vs (xs.map ρ)) (hp:nop q vs=some (blk,res)) :
  ∃ u w' κ,(execOp ρ { dst,op := .makeSlice t l c,type,pos,after,guard }).run P w = .ok (.value u) w'∧Made B ι κ id w w' blk∧VRel κ (res.at id) u:=by
 simp only [kindC] at hk
 split at hk<;>try (cases hk;done)
 rename_i e hd
 split at hk<;>try (cases hk;done)
 rename_i sz bs z hsz hbs hz
 split at hk<;>try (cases hk;done)
 rename_i hc
 simp only [Option.some.injEq,Prod.mk.injEq,AK.n.injEq] at hk
 obtain ⟨rfl,rfl⟩:=hk
 obtain ⟨a,b,rfl,ha,hb⟩:=VRv2 hv
 simp only [nop] at hp
 split at hp<;>try (cases hp;done)
 rename_i ln cn hln hcn
 split at hp<;>try (cases hp;done)
 rename_i hcond
 simp only [Option.some.injEq,Prod.mk.injEq] at hp
 obtain ⟨rfl,rfl⟩:=hp
 obtain ⟨k1,e1⟩:=natOf_rel ha hln
 obtain ⟨k2,e2⟩:=natOf_rel hb hcn
 obtain ⟨inf,u,hinf,hzero,hzu,hzn⟩:=zeroC_info (ι:=ι) hz
 obtain ⟨h1,h2⟩:=hzu.cells hzn
 have hs:=size_of_vrels h1
 have hzs:u.cells.size=sz:=by omega
 have hrep:=rep_rels h1 (by omega) ln (cn*sz) 0 (by rw [hzs];simp;exact Nat.mul_le_mul_right _ hcond.2.1)
 rw [Nat.zero_mul,List.drop_zero,hzs,←hc.1,←rep_length,hc.1] at hrep
 have hsc:∀ c∈rep ln z.cells,scA c=true:=by
  intro c hc
  have:∀ k,c∈rep k z.cells→c∈z.cells:=by
   intro k
   induction k with
   | zero=>intro h;simp [rep] at h
   | succ k ih=>intro h;simp only [rep,List.mem_append] at h;exact h.elim (fun x=>x) ih
  exact h2 c (this ln hc)
 have hlen:(rep ln z.cells).length≤cn*sz:=by rw [rep_length,hc.1];exact Nat.mul_le_mul_right _ hcond.2.1
 have hmc:(madeCells u.cells (cn*sz)).toList=(List.range (cn*sz)).map fun i=>u.cells[i % sz]! := by simp [madeCells,hzs]
 obtain ⟨j,hj1,hj2,hj3,hm⟩:=made_cells (t:=e) (str:=false) (L:=madeCells u.cells (cn*sz)) hB hid (by rw [hmc];exact hrep) (by rw [size_madeCells];exact hlen) hsc
 have hb':(inf.bytes:Int)*(cn:Int)≤281474976710656:=by
  have h:=hcond.2.2.2
  rw [Nat.mul_comm,←bytesC_info hinf hbs] at h
  have h2:((inf.bytes*cn:Nat):Int)≤281474976710656:=by omega
  rwa [Int.natCast_mul] at h2
 have hrun:=run_make (P:=P) w t e inf u hd hinf hzero k1 k2 ln cn (by omega) (by omega) hb' (by omega)
 rw [sizeC_info hinf hsz,Int.toNat_natCast,Int.toNat_natCast] at hrun
 refine ⟨.slice (some ⟨w.heap.size,0,none⟩) ln cn,_,_,?_,hm,j,⟨w.heap.size,0,none⟩,cn,setP_same _ _ _,rfl,hcond.2.1,?_,fun _=>by simp [hj1,hj2]⟩
 ·simp [execOp,e1,e2,hrun]
 ·split
  ·rfl
  ·simp only [capR,hj3,Nat.sub_zero,size_madeCells]
   rw [Nat.mul_div_cancel _ hc.2]
theorem byte_rels (s:List UInt8):VRels ι (byteCells s) (s.map fun b=>Value.int .u8 b.toNat):=by
 induction s with
 | nil=>rfl
 | cons b s ih=>exact VRels.cons rfl ih
theorem s2b_sound {s d:TypeId} {x:Operand} {q:NOp} {xs:List Operand} {vs:List AV} {blk:ABlk} {res:NRes} {ρ:Operand→Value} {dst:Option Tmp} {type:TypeId} {pos:String} {after:Array Edge} {guard:Option (Nat × Bool)} (hB:B≤w.heap.size) {id:Nat} (hid:ι id=none)
  (hk:kindC P C (.convert s d x)=some (.n q,xs)) (hv:VRels ι vs (xs.map ρ)) (hp:nop q vs=some (blk,res)) :
  ∃ u w' κ,(execOp ρ { dst,op := .convert s d x,type,pos,after,guard }).run P w = .ok (.value u) w'∧Made B ι κ id w w' blk∧VRel κ (res.at id) u:=by
 simp only [kindC] at hk
 split at hk<;>try (simp at hk;done)
 ·split at hk<;>simp at hk
 ·split at hk
  ·split at hk<;>simp at hk
  ·cases hk
 ·rename_i e hs hd
  split at hk<;>simp at hk
  rename_i he
  obtain ⟨rfl,rfl⟩:=hk
  obtain ⟨a,rfl,ha⟩:=VRv1 hv
  cases a<;>simp only [nop] at hp<;>try (cases hp;done)
  rename_i l
  split at hp<;>try (cases hp;done)
  rename_i hlt
  simp only [Option.some.injEq,Prod.mk.injEq] at hp
  obtain ⟨rfl,rfl⟩:=hp
  simp only [VRel] at ha
  generalize hcap:(Question.appendCap l.length 0 e).cut (w.tape w.drawn (Question.appendCap l.length 0 e))=cap
  have hcl:l.length≤cap:=by rw [←hcap];simp [Question.cut]
  have hsz:((l.toArray.map fun b:UInt8=>Value.int .u8 b.toNat)++Array.replicate (cap - l.length) (Value.int .u8 0)).size=cap:=by simp;omega
  refine ⟨.slice (some ⟨w.heap.size,0,none⟩) l.length cap,World.freeze { w with drawn:=w.drawn+1,heap:=w.heap.push (.cells ((l.toArray.map fun b:UInt8=>Value.int .u8 b.toNat)++Array.replicate (cap - l.length) (Value.int .u8 0)) e) } ⟨w.heap.size,cap,none⟩ 1,setP ι id ⟨w.heap.size,0,cap⟩,?_,⟨rfl,rfl,rfl,?_,?_,⟨⟨w.heap.size,0,cap⟩,rfl,rfl,?_,?_⟩,rfl⟩,⟨w.heap.size,0,cap⟩,⟨w.heap.size,0,none⟩,cap,setP_same _ _ _,rfl,hcl,by simp [capR],fun _=>rfl⟩
  ·simp only [execOp,ha,convert,Sem.run_bind,run_und hs,run_und hd,run_und he,Result.andThen_ok,Conv.stringToBytes,run_choose,Question.forced,ba_size,hcap]
   simp only [Bool.false_eq_true,if_false,Result.andThen_ok,newRow,Sem.run_bind,run_newObj,Sem.run_pure,markStringish,run_shape]
   simp only [World.shape?,Array.getElem?_push_size,hsz]
   simp [World.freeze]
  ·simp [World.freeze]
  ·intro c hc
   simp only [World.freeze]
   rw [if_neg (by omega)]
   simp only [Array.getElem?_modify]
   rw [if_neg (by omega),Array.getElem?_push,if_neg (by omega)]
  ·intro c hc
   simp only [byteCells,List.mem_map] at hc
   obtain ⟨b,_,rfl⟩:=hc
   rfl
  ·refine ⟨((l.toArray.map fun b:UInt8=>Value.int .u8 b.toNat)++Array.replicate (cap - l.length) (Value.int .u8 0)),e,(cap,cap+1),?_,?_,?_,fun _=>⟨hB,?_,fun _ => .inr ?_⟩,(fun h=>by cases h),(fun h=>by cases h)⟩
   ·simp only [World.freeze]
    rw [if_neg (by omega)]
    simp only [Array.getElem?_modify,if_true,Array.getElem?_push_size,Option.map_some]
    simp
   ·have hl:(byteCells l).length=l.length:=by simp [byteCells]
    rw [hl]
    have:=byte_rels (ι:=setP ι id ⟨w.heap.size,0,cap⟩) l
    simpa using this
   ·simp [byteCells]
   ·simpa using hsz
   ·simpa using Nat.le_of_eq hsz
end
end
end Go.FR
