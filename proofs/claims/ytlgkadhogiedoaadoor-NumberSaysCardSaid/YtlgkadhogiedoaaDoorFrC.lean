/- The fast run: the model's code as a small code. -/
import Derived.Test.YtlgkadhogiedoaaDoorFrB
import GoSem.Core.Program
import GoSem.Core.Layout
import GoSem.Op.Equal
import GoSem.Core.Region
set_option linter.unusedSimpArgs false
set_option linter.unusedVariables false
namespace Go.FR
def mapO {α β:Type} (f:α→Option β):List α→Option (List β)
 | []=>some []
 | x::l=>match f x with
  | none=>none
  | some y=>match mapO f l with
   | none=>none
   | some ys=>some (y::ys)
def ofV:Nat→Value→Option AV
 | 0,_=>none
 | _+1,.bool b=>some (.bool b)
 | _+1,.int k n=>some (.int k n)
 | _+1,.string s=>some (.str s.data.toList)
 | _+1,.pointer none=>some (.ptr none)
 | _+1,.slice none 0 0=>some (.slice none 0 (.exact 0))
 | _+1,.map none=>some (.map none)
 | _+1,.nilFunc=>some .nilFunc
 | _+1,.nilIface=>some .nilIface
 | d+1,.agg cs=>match mapO (ofV d) cs.toList with
  | some l=>if l.all scA then some (.agg l) else none
  | none=>none
 | d+1,.tuple cs=>match mapO (ofV d) cs.toList with
  | some l=>some (.tuple l)
  | none=>none
 | _+1,_=>none
def lookN:List (Nat × Nat)→Nat→Option Nat
 | [],_=>none
 | (a,b)::l,n=>if a=n then some b else lookN l n
structure Cfg where
 globals:List (Nat × Nat)
 dyn:List Nat
def opdC (C:Cfg):Operand→Option Opd
 | .tmp t=>some (.t t)
 | .const v=>match ofV 4 v with
  | some v=>some (.c v)
  | none=>none
 | .global g=>match lookN C.globals g with
  | some i=>some (.c (.ptr (some (i,0))))
  | none=>none
 | .func f=>some (.c (.func f [] []))
section
variable (P:Program) (C:Cfg)
def isAggD:TypeDesc→Bool
 | .struct _=>true
 | .array _ _=>true
 | _=>false
def sizeC (t:Nat):Option Nat:=match P.info? t with
 | some i=>some i.size
 | none=>none
def bytesC (t:Nat):Option Nat:=match P.info? t with
 | some i=>some i.bytes
 | none=>none
def aggC (t:Nat):Option (Option Nat) :=
 match P.underlying t,sizeC P t with
 | some d,some n=>some (if isAggD d then some n else none)
 | _,_=>none
def zeroC (t:Nat):Option AV:=match P.info? t with
 | some i=>match i.zero with
  | some v=>match ofV 4 v with
   | some z=>if z.cells.all scA && ntA z then some z else none
   | none=>none
  | none=>none
 | none=>none
def isConstO:Operand→Bool
 | .const _=>true
 | _=>false
def dynOk (t:Nat):Bool :=
 match P.underlying t with
 | some (.pointer e)=>(match sizeC P e with | some n => !(Nat.beq n 0) | none=>false) &&
   (match P.info? t with | some i=>i.comparable | none=>false)
 | _=>false
def eqC (lit:Bool):Nat→Nat→Option EqT
 | 0,_=>none
 | d+1,t=>match P.underlying t with
  | some .bool=>some .bool
  | some (.int _)=>some .int
  | some .string=>some .str
  | some (.pointer e)=>match sizeC P e with
   | some (_+1)=>some .ptr
   | _=>none
  | some (.slice _)=>some .nilS
  | some (.map _ _)=>some .nilM
  | some (.func _ _ _)=>some .nilF
  | some (.interface ms)=>if C.dyn.all (dynOk P) then some (.iface C.dyn (lit || ms.isEmpty)) else none
  | some (.struct fs) =>
   if P.stoodInHeld t || P.eqGuardType P.depth t then none else
   match mapO (fun f=>if f.name = "_" then none else match aggC P f.type,eqC false d f.type with
    | some sz,some e=>some (f.offset,sz,e)
    | _,_=>none) fs.toList with
   | some ps=>some (.agg ps)
   | none=>none
  | some (.array n e) =>
   if P.eqGuardType P.depth t then none else
   match sizeC P e,aggC P e,eqC false d e with
   | some s,some sz,some q=>some (.agg ((List.range n).map fun i=>(i*s,sz,q)))
   | _,_,_=>none
  | _=>none
def fieldsC (fs:Array Field):Option (List (Nat × Nat)) :=
 mapO (fun f=>match sizeC P f.type with | some n=>some (f.offset,n) | none=>none) fs.toList
def isSeqD:TypeDesc→Bool
 | .slice _=>true
 | .string=>true
 | _=>false
def callC (c:Call):Option (AK × List Operand) :=
 match c.callee with
 | .value (.func f)=>some (.w (.callF f),c.args.toList)
 | .value x=>some (.w .callV,x::c.args.toList)
 | .invoke _ _=>none
 | .builtin b=>match b,c.argTypes.toList with
  | .len,[t]=>match P.underlying t with
   | some .string=>some (.p .lenStr,c.args.toList)
   | some (.slice _)=>some (.p .lenSl,c.args.toList)
   | some (.array n _)=>some (.p (.lenArr n),c.args.toList)
   | some (.pointer a)=>match P.underlying a with
    | some (.array n _)=>some (.p (.lenArr n),c.args.toList)
    | _=>none
   | some (.map _ _)=>some (.r .lenMap,c.args.toList)
   | _=>none
  | .append,[t,u]=>match P.underlying t,P.underlying u with
   | some (.slice e),some d=>if isSeqD d then
     match sizeC P e,bytesC P e,zeroC P e with
     | some n,some b,some z=>if z.cells.length=n then some (.w (.append n b),c.args.toList) else none
     | _,_,_=>none
    else none
   | _,_=>none
  | .copy,[t,_]=>match P.underlying t with
   | some (.slice e)=>match sizeC P e with
    | some n=>some (.w (.copy n),c.args.toList)
    | none=>none
   | _=>none
  | .max,_=>some (.p .max,c.args.toList)
  | .min,_=>some (.p .min,c.args.toList)
  | _,_=>none
def keyD:Option TypeDesc→Option Bool
 | some .string=>some true
 | some (.int _)=>some false
 | _=>none
def optL:Option Operand→List Operand
 | none=>[]
 | some x=>[x]
def kindC (o:Op):Option (AK × List Operand) :=
 match o with
 | .move x=>some (.p .mov,[x])
 | .assign x=>some (.p .mov,[x])
 | .pick c a b=>some (.p .pick,[c,a,b])
 | .alloc e=>match zeroC P e with
  | some z=>some (.n (.alloc z.cells),[])
  | none=>none
 | .box _ v=>some (.n .box,[v])
 | .build t ps=>match P.underlying t,zeroC P t with
  | some (.struct fs),some z=>match fieldsC P fs with
   | some places=>match mapO (fun p=>places[p.1]?) ps.toList with
    | some pl=>some (.p (.build z.cells pl),ps.toList.map (·.2))
    | none=>none
   | none=>none
  | some (.array _ e),some z=>match sizeC P e with
   | some n=>some (.p (.build z.cells (ps.toList.map fun p=>(p.1*n,n))),ps.toList.map (·.2))
   | none=>none
  | _,_=>none
 | .buildSlice t len ps=>match P.underlying t with
  | some (.slice e)=>match sizeC P e,zeroC P e with
   | some n,some z=>if z.cells.length=n∧len*n≤16777216∧0 < n then
     some (.n (.bslice len (rep len z.cells) (ps.toList.map fun p=>(p.1*n,n))),ps.toList.map (·.2)) else none
   | _,_=>none
  | _=>none
 | .load t a=>match aggC P t with
  | some sz=>some (.r (.load sz),[a])
  | none=>none
 | .store t a v=>match sizeC P t with
  | some n=>some (.w (.store n),[a,v])
  | none=>none
 | .nilCheck x=>some (.p .nilChk,[x])
 | .binOp op t x y _=>match op with
  | .eql=>match P.underlying t with
   | some (.int _)=>some (.p (.bin op),[x,y])
   | some .string=>some (.p (.bin op),[x,y])
   | _=>match eqC P C (isConstO x || isConstO y) 6 t with
    | some e=>some (.r (.eq false e),[x,y])
    | none=>none
  | .neq=>match P.underlying t with
   | some (.int _)=>some (.p (.bin op),[x,y])
   | some .string=>some (.p (.bin op),[x,y])
   | _=>match eqC P C (isConstO x || isConstO y) 6 t with
    | some e=>some (.r (.eq true e),[x,y])
    | none=>none
  | _=>some (.p (.bin op),[x,y])
 | .unOp op _ x=>some (.p (.un op),[x])
 | .convert s d x=>match P.underlying s,P.underlying d with
  | some (.int _),some (.int k)=>some (.p (.conv k),[x])
  | some .string,some .string=>some (.p .s2s,[x])
  | some (.slice e),some .string=>match P.underlying e with
   | some (.int .u8)=>some (.r .b2s,[x])
   | _=>none
  | some (.slice _),some (.slice e)=>match P.underlying e with
   | some (.int .u8)=>if s=d then some (.w .mark,[x]) else none
   | _=>none
  | some .string,some (.slice e)=>match P.underlying e with
   | some (.int .u8)=>some (.n .s2b,[x])
   | _=>none
  | _,_=>none
 | .makeInterface t x=>match P.underlying t with
  | some (.interface _)=>none
  | some _=>some (.p (.mkI t),[x])
  | none=>none
 | .makeFunc (.func f) first captured=>some (.p (.mkF f first.size),first.toList++captured.toList)
 | .makeMap _ none=>some (.n .mkMap,[])
 | .makeSlice t l c=>match P.underlying t with
  | some (.slice e)=>match sizeC P e,bytesC P e,zeroC P e with
   | some n,some b,some z=>if z.cells.length=n∧0 < n then some (.n (.mkSlice n b z.cells),[l,c]) else none
   | _,_,_=>none
  | _=>none
 | .slice t x lo hi none=>match P.underlying t with
  | some .string=>some (.p (.slStr lo.isSome hi.isSome),x::(optL lo++optL hi))
  | some (.slice e)=>match sizeC P e with
   | some n=>some (.p (.slSl n lo.isSome hi.isSome),x::(optL lo++optL hi))
   | none=>none
  | some (.array n e)=>match sizeC P e with
   | some s=>some (.p (.slArr n s lo.isSome hi.isSome),x::(optL lo++optL hi))
   | none=>none
  | some (.pointer a)=>match P.underlying a with
   | some (.array n e)=>match sizeC P e with
    | some s=>some (.p (.slArr n s lo.isSome hi.isSome),x::(optL lo++optL hi))
    | none=>none
   | _=>none
  | _=>none
 | .fieldAddr s x i=>match P.underlying s with
  | some (.struct fs)=>match fs[i]? with
   | some f=>match sizeC P f.type with
    | some (_+1)=>some (.p (.fAddr f.offset),[x])
    | _=>none
   | none=>none
  | _=>none
 | .field t x i=>match P.underlying t with
  | some (.struct fs)=>match fs[i]? with
   | some f=>match aggC P f.type with
    | some sz=>some (.p (.field f.offset sz),[x])
    | none=>none
   | none=>none
  | _=>none
 | .indexAddr t x i=>match P.underlying t with
  | some (.slice e)=>match sizeC P e with
   | some n=>some (.p (.iAddrS n),[x,i])
   | none=>none
  | some (.array len e)=>match sizeC P e with
   | some n=>some (.p (.iAddrA len n),[x,i])
   | none=>none
  | _=>none
 | .index t x i=>match P.underlying t with
  | some .string=>some (.p .idxStr,[x,i])
  | some (.array len e)=>match sizeC P e,aggC P e with
   | some n,some sz=>some (.p (.idxArr len n sz),[x,i])
   | _,_=>none
  | _=>none
 | .lookup t x i ok=>match P.underlying t with
  | some (.map k e)=>match keyD (P.underlying k),zeroC P e with
   | some ks,some z=>some (.r (.lookup ks ok z),[x,i])
   | _,_=>none
  | _=>none
 | .mapUpdate t m k v=>match P.underlying t with
  | some (.map kt _)=>match keyD (P.underlying kt) with
   | some ks=>some (.w (.mapUpd ks),[m,k,v])
   | none=>none
  | _=>none
 | .insert t m k v=>match P.underlying t with
  | some (.map kt _)=>match keyD (P.underlying kt) with
   | some ks=>some (.w (.mapUpd ks),[m,k,v])
   | none=>none
  | _=>none
 | .extract x i=>some (.p (.ext i),[x])
 | .typeAssert x _ a ok=>match P.underlying a,zeroC P a with
  | some (.interface _),_=>none
  | some _,some z=>some (.p (.tAss a ok z),[x])
  | _,_=>none
 | .call c=>callC P c
 | _=>none
def guardC (ops:Array Oper):Option (Nat × Bool)→Option (Option (Nat × Bool))
 | none=>some none
 | some (j,want)=>match ops[j]? with
  | some o=>match o.dst with
   | some d=>some (some (d,want))
   | none=>none
  | none=>none
def opC (nt:Nat) (ops:Array Oper) (o:Oper):AOp :=
 let dok:=match o.dst with
  | some d=>Nat.blt d nt
  | none=>true
 match dok,guardC ops o.guard with
 | true,some g=>match kindC P C o.op with
  | some (k,xs)=>match mapO (opdC C) xs with
   | some args=>{ dst:=o.dst,args,k,guard:=g }
   | none=>{ dst:=none,args:=[],k := .p .bad,guard:=none }
  | none=>{ dst:=none,args:=[],k := .p .bad,guard:=none }
 | _,_=>{ dst:=none,args:=[],k := .p .bad,guard:=none }
def bindsE (e:Edge):Bool:=Region.binds .any e
def aheadRow (acc:List Nat):List Edge→Nat→Nat
 | [],m=>m
 | e::l,m=>if bindsE e then aheadRow acc l (m ||| (2 ^ e.on) ||| acc.getD e.on 0) else aheadRow acc l m
def aheadTab:List Oper→List Nat→List Nat
 | [],acc=>acc
 | o::l,acc=>aheadTab l (acc++[aheadRow acc o.after.toList 0])
def isW:AK→Bool
 | .w _=>true
 | _=>false
def isN:AK→Bool
 | .n _=>true
 | _=>false
def isR:AK→Bool
 | .r _=>true
 | _=>false
def inMask (m:Nat):Nat→Nat→List Nat
 | 0,_=>[]
 | n+1,i=>if m.testBit i then i::inMask m n (i+1) else inMask m n (i+1)
def orderC (tab:List Nat) (ks:List AOp) (n:Nat):List Nat→Nat→List Nat
 | [],done=>inMask ((2 ^ n - 1) ^^^ ((2 ^ n - 1) &&& done)) n 0
 | i::l,done=>match ks[i]? with
  | some o=>if isW o.k then
    let m:=tab.getD i 0
    let more:=m ^^^ (m &&& done)
    inMask more n 0++(i::orderC tab ks n l (done ||| m ||| 2 ^ i))
   else orderC tab ks n l done
  | none=>orderC tab ks n l done
def readsA (o:AOp):List Nat :=
 (o.args.filterMap fun | .t n=>some n | .c _=>none)++(match o.guard with | some (j,_)=>[j] | none=>[])
def hits (d:Option Nat) (l:List Nat):Bool:=match d with
 | none=>false
 | some d=>l.contains d
def pairOk (tab:List Nat) (ks:List AOp) (i j:Nat):Bool :=
 match ks[i]?,ks[j]? with
 | some a,some b =>
  !((tab.getD i 0).testBit j) &&
  ((tab.getD j 0).testBit i ||
   (!(hits a.dst (readsA b)) && !(hits b.dst (readsA a)) && !(match a.dst with | some d=>b.dst == some d | none=>false) &&
    !(isW a.k && isW b.k) && !((isN a.k || isR a.k) && isW b.k)))
 | _,_=>false
def allPairs (f:Nat→Nat→Bool):List Nat→Bool
 | []=>true
 | i::l=>l.all (f i) && allPairs f l
def rankC (tab:List Nat) (ks:List AOp):List Nat→List Nat→Nat→Option (List (AOp × Nat))
 | [],_,_=>some []
 | i::l,ws,nn=>match ks[i]? with
  | none=>none
  | some o=>match o.k with
   | .w _=>match rankC tab ks l (i::ws) nn with
    | some r=>some ((o,0)::r)
    | none=>none
   | .n _=>match rankC tab ks l ws (nn+1) with
    | some r=>some ((o,nn)::r)
    | none=>none
   | .r _=>match rankC tab ks l ws nn with
    | some r=>some ((o,(ws.filter fun w => !((tab.getD i 0).testBit w)).length)::r)
    | none=>none
   | .p _=>match rankC tab ks l ws nn with
    | some r=>some ((o,0)::r)
    | none=>none
def edgesBack:Nat→List Oper→Bool
 | _,[]=>true
 | i,o::l=>o.after.toList.all (fun e => !(bindsE e) || Nat.blt e.on i) && edgesBack (i+1) l
def nodupB:List Nat→Bool
 | []=>true
 | x::l => !(l.contains x) && nodupB l
def drawC (nt:Nat) (ops:Array Oper):Option (List (AOp × Nat)) :=
 let ks:=ops.toList.map (opC P C nt ops)
 let tab:=aheadTab ops.toList []
 let n:=ops.size
 let idx:=orderC tab ks n (List.range n) 0
 if P.follows .mixedOrders && edgesBack 0 ops.toList && (List.range n).all (fun i=>idx.contains i) && nodupB idx && idx.all (fun i=>Nat.blt i n) && allPairs (pairOk tab ks) idx then
  rankC tab ks idx [] 0
 else none
def codeC (nt:Nat):Code→Option AC
 | .skip=>some .skip
 | .region _ ops draw=>match draw with
  | false=>some (.ops (ops.toList.map (opC P C nt ops)))
  | true=>match drawC P C nt ops with
   | some l=>some (.draw l)
   | none=>some (.ops [{ dst:=none,args:=[],k := .p .bad,guard:=none }])
 | .seq a b=>match codeC nt a,codeC nt b with
  | some a,some b=>some (.seq a b)
  | _,_=>none
 | .cond c a b=>match opdC C c,codeC nt a,codeC nt b with
  | some c,some a,some b=>some (.cond c a b)
  | _,_,_=>none
 | .block id a=>match codeC nt a with
  | some a=>some (.block id a)
  | none=>none
 | .loop a=>match codeC nt a with
  | some a=>some (.loop a)
  | none=>none
 | .exit id=>some (.exit id)
 | .ret=>some .ret
 | _=>some (.ops [{ dst:=none,args:=[],k := .p .bad,guard:=none }])
def resC:ResultVar→Option ARes
 | .tmp t=>some (.tmp t)
 | .cell a t=>match aggC P t with
  | some sz=>some (.cell a sz)
  | none=>none
def primC (name:String):Option Prim :=
 if name = "internal/bytealg.IndexByteString" then some .indexByte
 else none
def funcC (f:Func):Option AFunc :=
 match f.body with
 | some c=>match codeC P C f.ntmps c,mapO (resC P) f.results.toList with
  | some a,some r=>some (.code a r)
  | _,_=>none
 | none=>match primC f.name with
  | some p=>some (.prim p)
  | none=>none
end
end Go.FR
