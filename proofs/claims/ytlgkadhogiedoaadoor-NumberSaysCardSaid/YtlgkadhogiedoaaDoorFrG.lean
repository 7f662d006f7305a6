/- The fast run: what reads the heap, operation by operation. -/
import Derived.Test.YtlgkadhogiedoaaDoorFrF
import Derived.Laws.BytesString
set_option linter.unusedSimpArgs false
set_option linter.unusedVariables false
namespace Go.FR
noncomputable section
open Go
section
variable {P:Program} {C:Cfg} {ι:Pl} {w:World} {B:Nat} {H:Heap}
def plainEq:Value→Bool
 | .bool _=>true
 | .pointer _=>true
 | .slice _ _ _=>true
 | .map _=>true
 | .func _ _ _=>true
 | .nilFunc=>true
 | .iface _ _=>true
 | .nilIface=>true
 | .agg _=>true
 | _=>false
def eqK:AV→Bool
 | .int _ _=>false
 | .str _=>false
 | .tuple _=>false
 | _=>true
theorem plain_scA {x:AV} {u:Value} (h:VRel ι x u) (hx:eqK x=true):plainEq u=true:=by
 cases x<;>try (simp [eqK] at hx;done)
 case bool=>simp only [VRel] at h;subst h;rfl
 case ptr a=>cases a with
  | none=>simp only [VRel] at h;subst h;rfl
  | some a=>obtain ⟨j,_,rfl⟩:=h;rfl
 case slice a n c=>cases a with
  | none=>obtain ⟨_,_,rfl⟩:=h;rfl
  | some a=>obtain ⟨_,_,_,_,rfl,_⟩:=h;rfl
 case map a=>cases a with
  | none=>simp only [VRel] at h;subst h;rfl
  | some a=>obtain ⟨j,_,rfl⟩:=h;rfl
 case func=>obtain ⟨_,_,rfl,_⟩:=h;rfl
 case nilFunc=>simp only [VRel] at h;subst h;rfl
 case iface=>obtain ⟨_,rfl,_⟩:=h;rfl
 case nilIface=>simp only [VRel] at h;subst h;rfl
 case agg=>obtain ⟨_,rfl,_⟩:=h;rfl
theorem plain_eq {e:EqT} {x y:AV} {u v:Value} {r:Bool} (h1:e ≠ .int) (h2:e ≠ .str) (hx:VRel ι x u) (hy:VRel ι y v) (h:aeq H e x y=some r):plainEq u=true∧plainEq v=true:=by
 have key:eqK x=true∧eqK y=true:=by
  cases e<;>simp only [aeq] at h
  case int=>exact absurd rfl h1
  case str=>exact absurd rfl h2
  all_goals
   cases x<;>cases y<;>simp only [eqBool,eqPtr,eqSl,eqMap,eqFn,eqIf] at h<;>first
    | (cases h;done)
    | exact ⟨rfl,rfl⟩
 exact ⟨plain_scA hx key.1,plain_scA hy key.2⟩
theorem binOp_eql {t:TypeId} {u v:Value} (hu:plainEq u=true) (hv:plainEq v=true):binOp .eql t u v=(do pure (.bool (←Op.equal t u v))):=by
 cases u<;>simp [plainEq] at hu<;>cases v<;>simp [plainEq] at hv<;>rfl
theorem binOp_neq {t:TypeId} {u v:Value} (hu:plainEq u=true) (hv:plainEq v=true):binOp .neq t u v=(do pure (.bool (!(←Op.equal t u v)))):=by
 cases u<;>simp [plainEq] at hu<;>cases v<;>simp [plainEq] at hv<;>rfl
theorem guard_other {op:BinOp} {t:TypeId} {x y:Operand} {u v:Value} (h1:u ≠ .nilIface) (h2:∀ c,u ≠ .agg c):(eqGuard op t x y u v).run P w = .ok () w:=by
 cases u<;>try (exact absurd rfl h1)
 case agg c=>exact absurd rfl (h2 c)
 all_goals cases op<;>simp [eqGuard]
theorem inv_nilIface:∀ {a:AV},VRel ι a .nilIface→a = .nilIface
 | .bool _,h=>by simp only [VRel] at h;cases h
 | .int _ _,h=>by simp only [VRel] at h;cases h
 | .str _,h=>by simp only [VRel] at h;cases h
 | .ptr none,h=>by simp only [VRel] at h;cases h
 | .ptr (some _),⟨_,_,h⟩=>by cases h
 | .slice none _ _,⟨_,_,h⟩=>by cases h
 | .slice (some _) _ _,⟨_,_,_,_,h,_⟩=>by cases h
 | .map none,h=>by simp only [VRel] at h;cases h
 | .map (some _),⟨_,_,h⟩=>by cases h
 | .func _ _ _,⟨_,_,h,_⟩=>by cases h
 | .nilFunc,h=>by simp only [VRel] at h;cases h
 | .iface _ _,⟨_,h,_⟩=>by cases h
 | .nilIface,_=>rfl
 | .agg _,⟨_,h,_⟩=>by cases h
 | .tuple _,⟨_,h,_⟩=>by cases h
theorem inv_agg {c:Array Value}:∀ {a:AV},VRel ι a (.agg c)→∃ l,a = .agg l
 | .bool _,h=>by simp only [VRel] at h;cases h
 | .int _ _,h=>by simp only [VRel] at h;cases h
 | .str _,h=>by simp only [VRel] at h;cases h
 | .ptr none,h=>by simp only [VRel] at h;cases h
 | .ptr (some _),⟨_,_,h⟩=>by cases h
 | .slice none _ _,⟨_,_,h⟩=>by cases h
 | .slice (some _) _ _,⟨_,_,_,_,h,_⟩=>by cases h
 | .map none,h=>by simp only [VRel] at h;cases h
 | .map (some _),⟨_,_,h⟩=>by cases h
 | .func _ _ _,⟨_,_,h,_⟩=>by cases h
 | .nilFunc,h=>by simp only [VRel] at h;cases h
 | .iface _ _,⟨_,h,_⟩=>by cases h
 | .nilIface,h=>by simp only [VRel] at h;cases h
 | .agg l,_=>⟨l,rfl⟩
 | .tuple _,⟨_,h,_⟩=>by cases h
theorem guard_run {op:BinOp} {t:TypeId} {x y:Operand} {a b:AV} {u v:Value} {d:Nat} {e:EqT} {r:Bool} (he:eqC P C (isConstO x || isConstO y) (d+1) t=some e) (ha:VRel ι a u) (hb:VRel ι b v) (h:aeq H e a b=some r) :
  (eqGuard op t x y u v).run P w = .ok () w:=by
 by_cases hn:u = .nilIface∧v = .nilIface
 ·obtain ⟨rfl,rfl⟩:=hn
  have ea:=inv_nilIface ha
  have eb:=inv_nilIface hb
  subst ea;subst eb
  cases e<;>simp only [aeq,eqBool,eqInt,eqStr,eqPtr,eqSl,eqMap,eqFn,eqIf] at h<;>try (cases h;done)
  rename_i dyn lit
  have hlit:lit=true:=by cases lit<;>simp at h ⊢
  subst hlit
  simp only [eqC] at he
  split at he<;>try (cases he;done)
  all_goals (try (split at he<;>try (cases he;done)))
  all_goals (try (split at he<;>try (cases he;done)))
  rename_i ms hd hdyn
  simp only [Option.some.injEq,EqT.iface.injEq] at he
  obtain ⟨_,he⟩:=he
  have hin:(Op.eqGuardIn Op.maxDepth t .nilIface .nilIface).run P w = .ok (!ms.isEmpty) w:=by
   have:∀ n,(Op.eqGuardIn (n+1) t .nilIface .nilIface).run P w = .ok (!ms.isEmpty) w:=fun n=>by
    simp [Op.eqGuardIn,run_und hd]
   exact this 9999
  cases hx:isConstO x with
  | true =>
   cases x<;>simp [isConstO] at hx
   cases op<;>simp [eqGuard]
  | false =>
   cases hy:isConstO y with
   | true =>
    cases y<;>simp [isConstO] at hy
    cases op<;>simp [eqGuard]
   | false =>
    simp [hx,hy] at he
    cases op<;>simp [eqGuard,hin,he]
 ·by_cases hg:(∃ c,u = .agg c)∧∃ c,v = .agg c
  ·obtain ⟨⟨c,rfl⟩,⟨c',rfl⟩⟩:=hg
   have ea:=inv_agg ha
   obtain ⟨l,rfl⟩:=ea
   have hgt:P.eqGuardType P.depth t=false:=by
    cases e<;>simp only [aeq,eqBool,eqInt,eqStr,eqPtr,eqSl,eqMap,eqFn,eqIf] at h<;>try (cases h;done)
    all_goals (cases b<;>simp only [eqBool,eqInt,eqStr,eqPtr,eqSl,eqMap,eqFn,eqIf] at h<;>try (cases h;done))
    simp only [eqC] at he
    split at he<;>try (cases he;done)
    all_goals (try (split at he<;>try (cases he;done)))
    all_goals simp_all
   cases op<;>simp [eqGuard,hgt]
  ·by_cases h1:u = .nilIface
   ·subst h1
    have h3:v ≠ .nilIface:=fun e=>hn ⟨rfl,e⟩
    cases v<;>try (exact absurd rfl h3)
    all_goals cases op<;>simp [eqGuard]
   ·by_cases h2:∃ c,u = .agg c
    ·obtain ⟨c,rfl⟩:=h2
     have h3:∀ c,v ≠ .agg c:=fun c' e=>hg ⟨⟨c,rfl⟩,c',e⟩
     cases v<;>try (exact absurd rfl (h3 _))
     all_goals cases op<;>simp [eqGuard]
    ·exact guard_other h1 (fun c e=>h2 ⟨c,e⟩)
def descK (ks:Bool):TypeDesc→Bool
 | .string=>ks
 | .int _ => !ks
 | _=>false
theorem keyD_desc {d:Option TypeDesc} {ks:Bool} (h:keyD d=some ks):∃ t,d=some t∧descK ks t=true:=by
 unfold keyD at h
 split at h<;>simp at h<;>subst h
 ·exact ⟨_,rfl,rfl⟩
 ·exact ⟨_,rfl,rfl⟩
theorem sameNow_run {ks:Bool} {d:TypeDesc} (hd:descK ks d=true) {k k':AV} {u u':Value} (hk:isKey ks k=true) (h:VRel ι k u) (h':VRel ι k' u') {r:Bool} (he:keyEq k k'=some r):Instr.sameNow d u u'=some r:=by
 cases k<;>cases k'<;>simp only [keyEq] at he<;>try (cases he;done)
 ·simp only [VRel] at h h';subst h;subst h'
  cases d<;>simp [descK] at hd<;>simp [isKey] at hk
  ·split at he
   ·rename_i e;subst e;simp only [Option.some.injEq] at he;subst he;simp [Instr.sameNow]
   ·cases he
  ·rw [hd] at hk;cases hk
 ·simp only [VRel] at h h';subst h;subst h'
  simp only [Option.some.injEq] at he;subst he
  cases d<;>simp [descK] at hd<;>simp [isKey] at hk
  ·rw [hd] at hk;cases hk
  ·simp [Instr.sameNow,beq_toListBytes,ba_toList]
theorem findNow_run {ks:Bool} {d:TypeDesc} (hd:descK ks d=true) {k:AV} {u:Value} (hk:isKey ks k=true) (h:VRel ι k u):∀ (es:List (AV × AV)) (l:List MapEntry) (i:Nat) (r:Option AV),MRel ι es l→mapFind k es=some r →
  (r=none→Instr.findNow d u l i=some none)∧(∀ v,r=some v→∃ n y,Instr.findNow d u l i=some (some (i+n,y.val))∧VRel ι v y.val∧l[n]?=some y∧∃ kk,VRel ι kk y.key∧keyEq k kk=some true)
 | [],l,i,r,hm,hf=>by
  simp only [MRel] at hm;subst hm
  simp only [mapFind,Option.some.injEq] at hf;subst hf
  exact ⟨fun _=>rfl,(fun v hv=>by cases hv)⟩
 | (kk,v)::es,l,i,r,⟨y,ys,e,h1,h2,hm⟩,hf=>by
  subst e
  simp only [mapFind] at hf
  split at hf
  ·rename_i he
   simp only [Option.some.injEq] at hf;subst hf
   have:=sameNow_run hd hk h h1 he
   refine ⟨(fun q=>by cases q),fun v' hv => ?_⟩
   simp only [Option.some.injEq] at hv;subst hv
   exact ⟨0,y,by simp [Instr.findNow,this],h2,rfl,kk,h1,he⟩
  ·rename_i he
   have hs:=sameNow_run hd hk h h1 he
   obtain ⟨a1,a2⟩:=findNow_run hd hk h es ys (i+1) r hm hf
   refine ⟨fun q=>by simp [Instr.findNow,hs,a1 q],fun v' hv => ?_⟩
   obtain ⟨n,z,b1,b2,b3,b4⟩:=a2 v' hv
   exact ⟨n+1,z,by simp [Instr.findNow,hs,b1];omega,b2,by simpa using b3,b4⟩
  ·cases hf
theorem checkKey_run {ks:Bool} {d:TypeDesc} {t:TypeId} (ht:P.underlying t=some d) (hd:descK ks d=true) (emp:Bool) (u:Value):(Instr.checkKey emp 10000 t u).run P w = .ok () w:=by
 have:∀ n,(Instr.checkKey emp (n+1) t u).run P w = .ok () w:=fun n=>by
  cases d<;>simp [descK] at hd<;>simp [Instr.checkKey,run_und ht]
 exact this 9999
theorem findKey_run {ks:Bool} {d:TypeDesc} {t:TypeId} (ht:P.underlying t=some d) {k:Value} {l:List MapEntry} {r:Option (Nat × Value)} (h:Instr.findNow d k l 0=some r):(Instr.findKey t k l).run P w = .ok r w:=by
 simp [Instr.findKey,run_und ht,h]
theorem bytesOf_vals:∀ {cs:List AV} {l:List UInt8},bytesOf cs=some l→∀ {L:List Value},VRels ι cs L→∃ ns:List Int,L=ns.map (Value.int .u8)∧l=ns.map fun n=>UInt8.ofNat n.toNat
 | [],l,h,L,hr=>by
  simp only [bytesOf,Option.some.injEq] at h;subst h
  simp only [VRels] at hr;subst hr
  exact ⟨[],rfl,rfl⟩
 | c::cs,l,h,L,⟨y,ys,e,h1,h2⟩=>by
  subst e
  cases c<;>try (simp [bytesOf] at h;done)
  rename_i k n
  cases k<;>try (simp [bytesOf] at h;done)
  simp only [bytesOf] at h
  split at h
  ·rename_i l' hl'
   simp only [Option.some.injEq] at h;subst h
   obtain ⟨ns,e1,e2⟩:=bytesOf_vals hl' h2
   simp only [VRel] at h1;subst h1
   exact ⟨n::ns,by simp [e1],by simp [e2]⟩
  ·cases h
theorem foldl_push (ns:List Int):∀ (s:List UInt8),ns.foldl (fun (r:ByteArray) n=>r.push (UInt8.ofNat n.toNat)) ⟨s.toArray⟩=⟨(s++ns.map fun n=>UInt8.ofNat n.toNat).toArray⟩:=by
 induction ns with
 | nil=>intro s;simp
 | cons n ns ih =>
  intro s
  simp only [List.foldl_cons]
  have:(⟨s.toArray⟩:ByteArray).push (UInt8.ofNat n.toNat)=⟨(s++[UInt8.ofNat n.toNat]).toArray⟩:=by
   simp [ByteArray.push]
  rw [this,ih];simp
set_option maxHeartbeats 1600000 in
theorem load_sound {t:TypeId} {a:Operand} {q:ROp} {xs:List Operand} {vs:List AV} {v:AV} {ρ:Operand→Value} {dst:Option Tmp} {type:TypeId} {pos:String} {after:Array Edge} {guard:Option (Nat × Bool)} (hR:HRel B H.get ι w)
  (hk:kindC P C (.load t a)=some (.r q,xs)) (hv:VRels ι vs (xs.map ρ)) (hp:rop q vs H=some v) :
  ∃ u,(execOp ρ { dst,op := .load t a,type,pos,after,guard }).run P w = .ok (.value u) w∧VRel ι v u:=by
 simp only [kindC] at hk
 split at hk<;>simp at hk
 rename_i sz hsz
 obtain ⟨rfl,rfl⟩:=hk
 obtain ⟨x,rfl,hx⟩:=VRv1 hv
 cases x<;>simp only [rop] at hp<;>try (cases hp;done)
 rename_i p
 cases p with
 | none=>simp [rop] at hp
 | some p =>
  simp only [rop] at hp
  split at hp
  ·rename_i cs rw str hg
   obtain ⟨j,hj,e⟩:=hx
   obtain ⟨j',hj',hb⟩:=hR.at_ _ _ hg
   rw [hj] at hj';obtain rfl:=Option.some.inj hj'
   obtain ⟨u,hu,hr⟩:=load_run (P:=P) hsz hb hp
   exact ⟨u,by simp [execOp,Instr.loadAt,e,Instr.sureAddr,hu],hr⟩
  ·cases hp
theorem eqC_kind {lit:Bool} {d:Nat} {t:TypeId} {e:EqT} (h:eqC P C lit (d+1) t=some e) (h1:∀ k,P.underlying t=some (.int k)→False) (h2:P.underlying t=some .string→False):e ≠ .int∧e ≠ .str:=by
 simp only [eqC] at h
 split at h
 ·simp only [Option.some.injEq] at h;subst h;exact ⟨by simp,by simp⟩
 ·rename_i k hd;exact (h1 k hd).elim
 ·rename_i hd;exact (h2 hd).elim
 ·split at h
  ·simp only [Option.some.injEq] at h;subst h;exact ⟨by simp,by simp⟩
  ·cases h
 ·simp only [Option.some.injEq] at h;subst h;exact ⟨by simp,by simp⟩
 ·simp only [Option.some.injEq] at h;subst h;exact ⟨by simp,by simp⟩
 ·simp only [Option.some.injEq] at h;subst h;exact ⟨by simp,by simp⟩
 ·split at h
  ·simp only [Option.some.injEq] at h;subst h;exact ⟨by simp,by simp⟩
  ·cases h
 ·split at h
  ·cases h
  ·split at h
   ·simp only [Option.some.injEq] at h;subst h;exact ⟨by simp,by simp⟩
   ·cases h
 ·split at h
  ·cases h
  ·split at h
   ·simp only [Option.some.injEq] at h;subst h;exact ⟨by simp,by simp⟩
   ·cases h
 ·cases h
set_option maxHeartbeats 1600000 in
theorem binOp_sound {op:BinOp} {t:TypeId} {x y:Operand} {t2:TypeId} {q:ROp} {xs:List Operand} {vs:List AV} {v:AV} {ρ:Operand→Value} {dst:Option Tmp} {type:TypeId} {pos:String} {after:Array Edge} {guard:Option (Nat × Bool)} (hR:HRel B H.get ι w)
  (hk:kindC P C (.binOp op t x y t2)=some (.r q,xs)) (hv:VRels ι vs (xs.map ρ)) (hp:rop q vs H=some v) :
  ∃ u,(execOp ρ { dst,op := .binOp op t x y t2,type,pos,after,guard }).run P w = .ok (.value u) w∧VRel ι v u:=by
 have hk':∃ e neg,q = .eq neg e∧xs=[x,y]∧eqC P C (isConstO x || isConstO y) 6 t=some e∧e ≠ .int∧e ≠ .str∧((op = .eql∧neg=false)∨(op = .neq∧neg=true)):=by
  cases op<;>simp only [kindC] at hk<;>first
   | (simp at hk;done)
   | (split at hk
      ·simp at hk
      ·simp at hk
      ·rename_i h1 h2
       split at hk
       ·rename_i e he
        simp only [Option.some.injEq,Prod.mk.injEq,AK.r.injEq] at hk
        have hnot:=eqC_kind he (fun k hk=>h1 k hk) (fun hk=>h2 hk)
        exact ⟨e,_,hk.1.symm,hk.2.symm,he,hnot.1,hnot.2,by simp⟩
       ·simp at hk)
 obtain ⟨e,neg,rfl,rfl,he,hn1,hn2,hop⟩:=hk'
 obtain ⟨a,b,rfl,ha,hb⟩:=VRv2 hv
 simp only [rop] at hp
 split at hp
 ·rename_i r hr
  simp only [Option.some.injEq] at hp;subst hp
  obtain ⟨p1,p2⟩:=plain_eq hn1 hn2 ha hb hr
  have hg:=guard_run (P:=P) (C:=C) (op:=op) (w:=w) he ha hb hr
  have hrun:(Op.equal t (ρ x) (ρ y)).run P w = .ok r w:=aeq_run hR 6 _ t e he 9992 a b _ _ r ha hb hr
  rcases hop with ⟨rfl,rfl⟩ | ⟨rfl,rfl⟩
  ·exact ⟨.bool r,by simp [execOp,hg,binOp_eql p1 p2,hrun],by simp [VRel]⟩
  ·exact ⟨.bool (!r),by simp [execOp,hg,binOp_neq p1 p2,hrun],by simp [VRel]⟩
 ·cases hp
set_option maxHeartbeats 1600000 in
theorem lookup_sound {t:TypeId} {x i:Operand} {ok:Bool} {q:ROp} {xs:List Operand} {vs:List AV} {v:AV} {ρ:Operand→Value} {dst:Option Tmp} {type:TypeId} {pos:String} {after:Array Edge} {guard:Option (Nat × Bool)} (hR:HRel B H.get ι w)
  (hk:kindC P C (.lookup t x i ok)=some (.r q,xs)) (hv:VRels ι vs (xs.map ρ)) (hp:rop q vs H=some v) :
  ∃ u,(execOp ρ { dst,op := .lookup t x i ok,type,pos,after,guard }).run P w = .ok (.value u) w∧VRel ι v u:=by
 simp only [kindC] at hk
 split at hk<;>try (cases hk;done)
 rename_i kt et hd
 split at hk<;>simp at hk
 rename_i ks z hks hz
 obtain ⟨rfl,rfl⟩:=hk
 obtain ⟨a,b,rfl,ha,hb⟩:=VRv2 hv
 obtain ⟨kd,hkt,hdk⟩:=keyD_desc hks
 obtain ⟨u0,hu0,hz0,_⟩:=zeroC_run (ι:=ι) hz
 cases a<;>simp only [rop] at hp<;>try (cases hp;done)
 rename_i m
 split at hp
 ·rename_i hkey
  split at hp
  ·simp only [VRel] at ha
   simp only [Option.some.injEq] at hp;subst hp
   have hck:=checkKey_run (P:=P) (w:=w) hkt hdk true (ρ i)
   have hfk:=findKey_run (P:=P) (w:=w) (ks:=ks) hkt (k:=ρ i) (l:=[]) (r:=none) rfl
   cases ok with
   | true=>exact ⟨.tuple #[u0,.bool false],by simp [execOp,Instr.lookup,run_und hd,ha,hck,hfk,hu0],#[u0,.bool false],rfl,VRels.cons hz0 (VRels.cons rfl VRels.nil)⟩
   | false=>exact ⟨u0,by simp [execOp,Instr.lookup,run_und hd,ha,hck,hfk,hu0],hz0⟩
  ·rename_i m
   split at hp
   ·rename_i es hg
    obtain ⟨j,hj,e⟩:=ha
    obtain ⟨j',hj',hbr⟩:=hR.at_ _ _ hg
    rw [hj] at hj';obtain rfl:=Option.some.inj hj'
    obtain ⟨l,clock,hbl,_,hml⟩:=hbr
    have hobj:(getObj j.blk).run P w = .ok (.map l clock) w:=by simp [getObj,Sem.run,hbl]
    have hck:=checkKey_run (P:=P) (w:=w) hkt hdk l.isEmpty (ρ i)
    split at hp
    ·rename_i v' hf
     simp only [Option.some.injEq] at hp;subst hp
     obtain ⟨n,y,h1,h2,_⟩:=(findNow_run hdk hkey hb es l.toList 0 _ hml hf).2 v' rfl
     have hfk:=findKey_run (P:=P) (w:=w) (ks:=ks) hkt h1
     cases ok with
     | true=>exact ⟨.tuple #[y.val,.bool true],by simp [execOp,Instr.lookup,run_und hd,e,hobj,hck,hfk],#[y.val,.bool true],rfl,VRels.cons h2 (VRels.cons rfl VRels.nil)⟩
     | false=>exact ⟨y.val,by simp [execOp,Instr.lookup,run_und hd,e,hobj,hck,hfk],h2⟩
    ·rename_i hf
     simp only [Option.some.injEq] at hp;subst hp
     have hfk:=findKey_run (P:=P) (w:=w) (ks:=ks) hkt ((findNow_run hdk hkey hb es l.toList 0 _ hml hf).1 rfl)
     cases ok with
     | true=>exact ⟨.tuple #[u0,.bool false],by simp [execOp,Instr.lookup,run_und hd,e,hobj,hck,hfk,hu0],#[u0,.bool false],rfl,VRels.cons hz0 (VRels.cons rfl VRels.nil)⟩
     | false=>exact ⟨u0,by simp [execOp,Instr.lookup,run_und hd,e,hobj,hck,hfk,hu0],hz0⟩
    ·cases hp
   ·cases hp
 ·cases hp
set_option maxHeartbeats 1600000 in
theorem convert_sound {s d:TypeId} {x:Operand} {q:ROp} {xs:List Operand} {vs:List AV} {v:AV} {ρ:Operand→Value} {dst:Option Tmp} {type:TypeId} {pos:String} {after:Array Edge} {guard:Option (Nat × Bool)} (hR:HRel B H.get ι w)
  (hk:kindC P C (.convert s d x)=some (.r q,xs)) (hv:VRels ι vs (xs.map ρ)) (hp:rop q vs H=some v) :
  ∃ u,(execOp ρ { dst,op := .convert s d x,type,pos,after,guard }).run P w = .ok (.value u) w∧VRel ι v u:=by
 simp only [kindC] at hk
 split at hk<;>try (simp at hk;done)
 ·rename_i e hs hd
  split at hk<;>simp at hk
  rename_i he
  obtain ⟨rfl,rfl⟩:=hk
  obtain ⟨a,rfl,ha⟩:=VRv1 hv
  cases a<;>simp only [rop] at hp<;>try (cases hp;done)
  rename_i p n cap
  cases p with
  | none =>
   simp only [rop,Option.some.injEq] at hp;subst hp
   obtain ⟨_,_,ex⟩:=ha
   exact ⟨.string .empty,by simp [execOp,ex,convert,run_und hs,run_und hd,run_und he,Conv.bytesToString],by simp [VRel];rfl⟩
  | some p =>
   simp only [rop] at hp
   split at hp
   ·rename_i cs hcs
    split at hp
    ·rename_i l hl
     simp only [Option.some.injEq] at hp;subst hp
     obtain ⟨j,z,m,hj,ex,hle,hcr,hq⟩:=ha
     unfold cellsAt at hcs
     split at hcs
     ·rename_i cs0 rw str hg
      split at hcs
      ·rename_i hlen
       simp only [Option.some.injEq] at hcs;subst hcs
       obtain ⟨j',hj',hb⟩:=hR.at_ _ _ hg
       rw [hj] at hj';obtain rfl:=Option.some.inj hj'
       obtain ⟨L,hL,hr,hc⟩:=cells_at hb hlen
       obtain ⟨ns,e1,e2⟩:=bytesOf_vals hl hr
       have hload:(loadCells z n).run P w = .ok (ns.map (Value.int .u8)).toArray w:=by
        by_cases hm:m=0
        ·have:n=0:=by omega
         subst this
         have:L=[]:=List.eq_nil_of_length_eq_zero hL
         subst this
         rw [←e1]
         simp [loadCells,loadCellsFrom]
        ·rw [hq hm,←e1]
         have:=run_loadCells_list (P:=P) (w:=w) ⟨j.blk,j.off+p.2,none⟩ L hc
         rwa [hL] at this
       refine ⟨_,?_,rfl⟩
       have:=run_bytesToString (P:=P) w z n m ns hload
       have hf:=foldl_push ns []
       simp only [List.nil_append] at hf
       rw [←e2] at hf
       have he0:(ByteArray.empty:ByteArray)=⟨([]:List UInt8).toArray⟩:=rfl
       rw [he0,hf] at this
       simp [execOp,ex,convert,run_und hs,run_und hd,run_und he,this]
      ·cases hcs
     ·cases hcs
    ·cases hp
   ·cases hp
 ·split at hk
  ·split at hk<;>simp at hk
  ·cases hk
 ·split at hk<;>simp at hk
set_option maxHeartbeats 1600000 in
theorem call_sound {c:Call} {q:ROp} {xs:List Operand} {vs:List AV} {v:AV} {ρ:Operand→Value} {dst:Option Tmp} {type:TypeId} {pos:String} {after:Array Edge} {guard:Option (Nat × Bool)} (hR:HRel B H.get ι w)
  (hk:kindC P C (.call c)=some (.r q,xs)) (hv:VRels ι vs (xs.map ρ)) (hp:rop q vs H=some v) :
  ∃ u,(execOp ρ { dst,op := .call c,type,pos,after,guard }).run P w = .ok (.value u) w∧VRel ι v u:=by
 obtain ⟨callee,args,argTypes⟩:=c
 simp only [kindC,callC] at hk
 cases callee with
 | value f=>cases f<;>simp at hk
 | invoke r m=>simp at hk
 | builtin b =>
  simp only at hk
  split at hk
  ·rename_i t ht
   have ht':argTypes = #[t]:=by cases argTypes;simp_all
   subst ht'
   split at hk<;>try (simp at hk;done)
   ·split at hk<;>simp at hk
   ·rename_i kt et hd
    simp only [Option.some.injEq,Prod.mk.injEq,AK.r.injEq] at hk
    obtain ⟨rfl,rfl⟩:=hk
    cases vs with
    | nil=>simp [rop] at hp
    | cons a r =>
     cases r with
     | cons b r=>cases a<;>simp [rop] at hp
     | nil =>
      obtain ⟨x,hx⟩:∃ x,args.toList=[x]:=List.length_eq_one_iff.1 (by have:=hv.length;simpa using this)
      have:args = #[x]:=by cases args;simp_all
      subst this
      obtain ⟨y,e,hy⟩:=VR1 hv
      simp at e;subst e
      cases a<;>simp only [rop] at hp<;>try (cases hp;done)
      rename_i m
      cases m with
      | none =>
       simp only [rop,Option.some.injEq] at hp;subst hp
       simp only [VRel] at hy
       exact ⟨.int .i64 0,by simp [execOp,resolve,invoke,builtin,Builtin.len_,run_und hd,hy,goInt],rfl⟩
      | some m =>
       simp only [rop] at hp
       split at hp
       ·rename_i es hg
        simp only [Option.some.injEq] at hp;subst hp
        obtain ⟨j,hj,ex⟩:=hy
        obtain ⟨j',hj',hbr⟩:=hR.at_ _ _ hg
        rw [hj] at hj';obtain rfl:=Option.some.inj hj'
        obtain ⟨l,clock,hbl,_,hml⟩:=hbr
        have hobj:(getObj j.blk).run P w = .ok (.map l clock) w:=by simp [getObj,Sem.run,hbl]
        have hlen:∀ (a:List (AV × AV)) (b:List MapEntry),MRel ι a b→b.length=a.length:=by
         intro a
         induction a with
         | nil=>intro b hb;simp only [MRel] at hb;subst hb;rfl
         | cons x a ih=>intro b hb;obtain ⟨y,ys,rfl,_,_,h⟩:=hb;simp [ih _ h]
        have:=hlen _ _ hml
        have hthis:(l.size:Int)=(es.length:Int):=by have:=this;simp at this;omega
        refine ⟨.int .i64 es.length,by simp [execOp,resolve,invoke,builtin,Builtin.len_,run_und hd,ex,hobj,goInt,hthis],rfl⟩
       ·cases hp
  ·split at hk
   ·split at hk
    ·split at hk<;>try (cases hk;done)
     split at hk<;>simp at hk
    ·cases hk
   ·cases hk
  ·split at hk<;>try (cases hk;done)
   split at hk<;>simp at hk
  ·simp at hk
  ·simp at hk
  ·cases hk
set_option maxHeartbeats 1600000 in
theorem rop_sound {o:Oper} {q:ROp} {xs:List Operand} {vs:List AV} {v:AV} {ρ:Operand→Value} (hR:HRel B H.get ι w)
  (hk:kindC P C o.op=some (.r q,xs)) (hv:VRels ι vs (xs.map ρ)) (hp:rop q vs H=some v) :
  ∃ u,(execOp ρ o).run P w = .ok (.value u) w∧VRel ι v u:=by
 obtain ⟨dst,op,type,pos,after,guard⟩:=o
 cases op with
 | load t a=>exact load_sound hR hk hv hp
 | binOp op t x y t2=>exact binOp_sound hR hk hv hp
 | lookup t x i ok=>exact lookup_sound hR hk hv hp
 | convert s d x=>exact convert_sound hR hk hv hp
 | call c=>exact call_sound hR hk hv hp
 | alloc e =>
  simp only [kindC] at hk
  split at hk<;>simp at hk
 | build t ps =>
  simp only [kindC] at hk
  split at hk
  ·split at hk
   ·split at hk<;>simp at hk
   ·cases hk
  ·split at hk<;>simp at hk
  ·cases hk
 | buildSlice t n ps =>
  simp only [kindC] at hk
  split at hk<;>try (cases hk;done)
  split at hk<;>try (cases hk;done)
  split at hk<;>simp at hk
 | insert t m k x =>
  simp only [kindC] at hk
  split at hk<;>try (cases hk;done)
  split at hk<;>simp at hk
 | mapUpdate t m k x =>
  simp only [kindC] at hk
  split at hk<;>try (cases hk;done)
  split at hk<;>simp at hk
 | store t a x =>
  simp only [kindC] at hk
  split at hk<;>simp at hk
 | makeInterface t x =>
  simp only [kindC] at hk
  split at hk<;>simp at hk
 | makeFunc fn first captured=>cases fn<;>simp [kindC] at hk
 | makeMap t r=>cases r<;>simp [kindC] at hk
 | makeSlice t l c =>
  simp only [kindC] at hk
  split at hk<;>try (cases hk;done)
  split at hk<;>try (cases hk;done)
  split at hk<;>simp at hk
 | slice t x lo hi mx =>
  cases mx with
  | some _=>simp [kindC] at hk
  | none =>
   simp only [kindC] at hk
   split at hk
   ·simp at hk
   ·split at hk<;>simp at hk
   ·split at hk<;>simp at hk
   ·split at hk
    ·split at hk<;>simp at hk
    ·cases hk
   ·cases hk
 | fieldAddr s x i =>
  simp only [kindC] at hk
  split at hk<;>try (cases hk;done)
  split at hk<;>try (cases hk;done)
  split at hk<;>simp at hk
 | field s x i =>
  simp only [kindC] at hk
  split at hk<;>try (cases hk;done)
  split at hk<;>try (cases hk;done)
  split at hk<;>simp at hk
 | indexAddr t x i =>
  simp only [kindC] at hk
  split at hk<;>try (cases hk;done)
  all_goals (split at hk<;>simp at hk)
 | index t x i =>
  simp only [kindC] at hk
  split at hk
  ·simp at hk
  ·split at hk<;>simp at hk
  ·cases hk
 | typeAssert x xt t ok =>
  simp only [kindC] at hk
  split at hk<;>simp at hk
 | _=>simp [kindC] at hk
end
end
end Go.FR
