/- The fast run: operations, code, how a function is run. -/
import Derived.Test.YtlgkadhogiedoaaDoorFrA
import GoSem.Op.String
import GoSem.Core.Ast
set_option linter.unusedSimpArgs false
set_option linter.unusedVariables false
namespace Go.FR
noncomputable section
inductive ABlk where
 | cells (cs:List AV) (rw str:Bool)
 | map (es:List (AV × AV))
 deriving Inhabited
structure Heap where
 tr:Tr ABlk
 next:Nat
 deriving Inhabited
def Heap.get (H:Heap) (b:Nat):Option ABlk:=H.tr.get b
def Heap.set (H:Heap) (b:Nat) (x:ABlk):Heap:={ H with tr:=H.tr.set b x }
def Heap.kill (H:Heap) (b:Nat):Heap:={ H with tr:=H.tr.del b }
def Heap.push (H:Heap) (x:ABlk):Heap:={ tr:=H.tr.set H.next x,next:=H.next+1 }
inductive Opd where
 | t (n:Nat)
 | c (v:AV)
 deriving Inhabited
inductive EqT where
 | bool | int | str | ptr | nilS | nilM | nilF
 | iface (dyn:List Nat) (lit:Bool)
 | agg (ps:List (Nat × Option Nat × EqT))
 deriving Inhabited
inductive POp where
 | bad
 | mov
 | pick
 | bin (op:BinOp)
 | un (op:UnOp)
 | conv (k:IntKind)
 | s2s
 | field (off:Nat) (sz:Option Nat)
 | idxArr (len esz:Nat) (sz:Option Nat)
 | idxStr
 | ext (i:Nat)
 | mkI (t:Nat)
 | mkF (f nfirst:Nat)
 | fAddr (off:Nat)
 | iAddrS (esz:Nat)
 | iAddrA (len esz:Nat)
 | slStr (lo hi:Bool)
 | slSl (esz:Nat) (lo hi:Bool)
 | slArr (len esz:Nat) (lo hi:Bool)
 | build (zero:List AV) (places:List (Nat × Nat))
 | nilChk
 | tAss (t:Nat) (ok:Bool) (zero:AV)
 | lenStr
 | lenSl
 | lenArr (n:Nat)
 | max
 | min
 deriving Inhabited
inductive ROp where
 | load (sz:Option Nat)
 | eq (neg:Bool) (e:EqT)
 | lookup (ks ok:Bool) (zero:AV)
 | lenMap
 | b2s
 deriving Inhabited
inductive NOp where
 | alloc (zero:List AV)
 | box
 | bslice (len:Nat) (zero:List AV) (places:List (Nat × Nat))
 | mkSlice (esz ebytes:Nat) (zero:List AV)
 | mkMap
 | s2b
 deriving Inhabited
inductive WOp where
 | store (sz:Nat)
 | append (esz ebytes:Nat)
 | copy (esz:Nat)
 | mapUpd (ks:Bool)
 | mark
 | callF (f:Nat)
 | callV
 deriving Inhabited
inductive AK where
 | p (o:POp)
 | r (o:ROp)
 | n (o:NOp)
 | w (o:WOp)
 deriving Inhabited
structure AOp where
 dst:Option Nat
 args:List Opd
 k:AK
 guard:Option (Nat × Bool)
 deriving Inhabited
inductive AC where
 | skip
 | ops (l:List AOp)
 | draw (l:List (AOp × Nat))
 | seq (a b:AC)
 | cond (c:Opd) (a b:AC)
 | block (id:Nat) (a:AC)
 | loop (a:AC)
 | exit (id:Nat)
 | ret
 deriving Inhabited
inductive AEx where
 | normal
 | exit (id:Nat)
 | ret
 deriving Inhabited
inductive ARes where
 | tmp (t:Nat)
 | cell (t:Nat) (sz:Option Nat)
 deriving Inhabited
inductive Prim where
 | indexByte
 | makeNoZero
 | noEscape
 | indexString
 deriving Inhabited
inductive AFunc where
 | code (body:AC) (res:List ARes)
 | prim (p:Prim)
 deriving Inhabited
abbrev Fr:=Tr AV
abbrev CallT:=Nat→List AV→Heap→Option (AV × Heap)
def opd (T:Fr):Opd→Option AV
 | .t n=>T.get n
 | .c v=>some v
def opds (T:Fr):List Opd→Option (List AV)
 | []=>some []
 | o::r=>match opd T o with
  | none=>none
  | some v=>match opds T r with
   | none=>none
   | some vs=>some (v::vs)
def put (T:Fr) (d:Option Nat) (v:AV):Fr :=
 match d with
 | none=>T
 | some n=>T.set n v
def wanted (T:Fr):Option (Nat × Bool)→Option Bool
 | none=>some true
 | some (j,want)=>match T.get j with
  | none=>none
  | some (.bool b)=>some (b == want)
  | some _=>some false
def intBin (op:BinOp) (k:IntKind) (x y:Int):Option AV :=
 match op with
 | .add=>some (.int k (k.wrap (x+y)))
 | .sub=>some (.int k (k.wrap (x - y)))
 | .mul=>some (.int k (k.wrap (x*y)))
 | .quo=>if y=0 then none else some (.int k (k.wrap (x.tdiv y)))
 | .rem=>if y=0 then none else some (.int k (x.tmod y))
 | .and=>some (.int k (k.wrap (BitVec.ofInt k.bits x &&& BitVec.ofInt k.bits y).toNat))
 | .or=>some (.int k (k.wrap (BitVec.ofInt k.bits x ||| BitVec.ofInt k.bits y).toNat))
 | .xor=>some (.int k (k.wrap (BitVec.ofInt k.bits x ^^^ BitVec.ofInt k.bits y).toNat))
 | .andNot=>some (.int k (k.wrap (BitVec.ofInt k.bits x &&& ~~~(BitVec.ofInt k.bits y)).toNat))
 | .eql=>some (.bool (x == y))
 | .neq=>some (.bool (x != y))
 | .lss=>some (.bool (decide (x < y)))
 | .leq=>some (.bool (decide (x≤y)))
 | .gtr=>some (.bool (decide (x > y)))
 | .geq=>some (.bool (decide (x ≥ y)))
 | _=>none
def shiftBin (op:BinOp) (k:IntKind) (x y:Int):Option AV :=
 if y < 0 then none else
 match op with
 | .shl=>some (.int k (k.wrap (x*2 ^ (min y.toNat k.bits))))
 | .shr=>some (.int k (x.fdiv (2 ^ (min y.toNat k.bits))))
 | _=>none
def strBin (op:BinOp) (x y:List UInt8):Option AV :=
 match op with
 | .add=>if x.length+y.length≤9223372036854775807 then some (.str (x++y)) else none
 | .eql=>some (.bool (x == y))
 | .neq=>some (.bool (!(x == y)))
 | .lss=>some (.bool (Op.bytesLess x y))
 | .leq=>some (.bool (Op.bytesLess x y || x == y))
 | .gtr=>some (.bool (!(Op.bytesLess x y || x == y)))
 | .geq=>some (.bool (!(Op.bytesLess x y)))
 | _=>none
def abin (op:BinOp):AV→AV→Option AV
 | .int k x,.int k' y=>match op with
  | .shl=>shiftBin .shl k x y
  | .shr=>shiftBin .shr k x y
  | _=>if k=k' then intBin op k x y else none
 | .str x,.str y=>strBin op x y
 | _,_=>none
def aun (op:UnOp):AV→Option AV
 | .int k n=>match op with
  | .neg=>some (.int k (k.wrap (0 - n)))
  | .xor=>intBin .xor k (if k.signed then -1 else k.max) n
  | _=>none
 | .bool b=>match op with
  | .not=>some (.bool (!b))
  | _=>none
 | _=>none
def splice (cs:List AV) (off:Nat) (v:List AV):List AV:=cs.take off++(v++cs.drop (off+v.length))
def ntA:AV→Bool
 | .tuple _=>false
 | _=>true
def scA:AV→Bool
 | .agg _=>false
 | .tuple _=>false
 | _=>true
def fillA (cs:List AV):List (Nat × Nat)→List AV→Option (List AV)
 | [],[]=>some cs
 | (off,size)::ps,v::vs =>
  if v.cells.length=size∧off+size≤cs.length∧ntA v=true then fillA (splice cs off v.cells) ps vs else none
 | _,_=>none
def partA (cs:List AV) (off:Nat):Option Nat→Option AV
 | none=>cs[off]?
 | some n=>if off+n≤cs.length then some (.agg ((cs.drop off).take n)) else none
def natOf:AV→Option Nat
 | .int _ (.ofNat n)=>some n
 | _=>none
def bnds (lo hi:Bool) (len most:Nat):List AV→Option (Nat × Nat)
 | args=>match lo,hi,args with
  | false,false,[]=>some (0,len)
  | true,false,[l]=>match natOf l with
   | some l=>if l≤len then some (l,len) else none
   | none=>none
  | false,true,[h]=>match natOf h with
   | some h=>if h≤most then some (0,h) else none
   | none=>none
  | true,true,[l,h]=>match natOf l,natOf h with
   | some l,some h=>if l≤h∧h≤most then some (l,h) else none
   | _,_=>none
  | _,_,_=>none
def capMost (esz len:Nat):ACap→Option Nat
 | .exact n=>some n
 | .toEnd e=>if e=esz then some len else none
def capDrop (l:Nat):ACap→ACap
 | .exact n => .exact (n - l)
 | .toEnd e => .toEnd e
def max2A:AV→AV→Option AV
 | .int k x,.int k' y=>if k=k' then some (.int k (if y > x then y else x)) else none
 | _,_=>none
def min2A:AV→AV→Option AV
 | .int k x,.int k' y=>if k=k' then some (.int k (if y < x then y else x)) else none
 | _,_=>none
def foldA (f:AV→AV→Option AV):AV→List AV→Option AV
 | x,[]=>some x
 | x,y::r=>match f x y with
  | some z=>foldA f z r
  | none=>none
def pop:POp→List AV→Option AV
 | .mov,[x]=>some x
 | .pick,[.bool c,a,b]=>some (if c then a else b)
 | .bin op,[x,y]=>abin op x y
 | .un op,[x]=>aun op x
 | .conv k,[.int _ n]=>some (.int k (k.wrap n))
 | .s2s,[.str s]=>some (.str s)
 | .field off sz,[.agg cs]=>partA cs off sz
 | .idxArr len esz sz,[.agg cs,i]=>match natOf i with
  | some i=>if i < len then partA cs (i*esz) sz else none
  | none=>none
 | .idxStr,[.str s,i]=>match natOf i with
  | some i=>match s[i]? with
   | some b=>some (.int .u8 b.toNat)
   | none=>none
  | none=>none
 | .ext i,[.tuple vs]=>vs[i]?
 | .mkI t,[x]=>some (.iface t x)
 | .mkF f n,vs=>some (.func f (vs.take n) (vs.drop n))
 | .fAddr off,[.ptr (some (b,o))]=>some (.ptr (some (b,o+off)))
 | .iAddrS esz,[.slice (some (b,o)) len _,i]=>match natOf i with
  | some i=>if i < len then some (.ptr (some (b,o+i*esz))) else none
  | none=>none
 | .iAddrA len esz,[.ptr (some (b,o)),i]=>match natOf i with
  | some i=>if i < len then some (.ptr (some (b,o+i*esz))) else none
  | none=>none
 | .slStr lo hi,.str s::r=>match bnds lo hi s.length s.length r with
  | some (l,h)=>some (.str ((s.drop l).take (h - l)))
  | none=>none
 | .slSl esz lo hi,.slice a len cap::r=>match capMost esz len cap with
  | none=>none
  | some most=>match bnds lo hi len most r with
   | some (l,h)=>some (.slice (match a with | none=>none | some (b,o)=>some (b,o+l*esz)) (h - l) (capDrop l cap))
   | none=>none
 | .slArr len esz lo hi,.ptr (some (b,o))::r=>match bnds lo hi len len r with
  | some (l,h)=>some (.slice (some (b,o+l*esz)) (h - l) (.exact (len - l)))
  | none=>none
 | .build zero places,vs=>match fillA zero places vs with
  | some cs=>some (.agg cs)
  | none=>none
 | .nilChk,[.ptr (some a)]=>some (.ptr (some a))
 | .nilChk,[.func f a b]=>some (.func f a b)
 | .tAss t ok zero,[.iface u v]=>if u=t then some (if ok then .tuple [v,.bool true] else v) else if ok then some (.tuple [zero,.bool false]) else none
 | .tAss _ ok zero,[.nilIface]=>if ok then some (.tuple [zero,.bool false]) else none
 | .lenArr n,[_]=>some (.int .i64 n)
 | .lenStr,[.str s]=>some (.int .i64 s.length)
 | .lenSl,[.slice _ n _]=>some (.int .i64 n)
 | .max,x::r=>foldA max2A x r
 | .min,x::r=>foldA min2A x r
 | _,_=>none
def pEq (H:Heap) (a a':Nat × Nat):Option Bool :=
 if a.1=a'.1 then some (decide (a.2=a'.2)) else
 match H.get a.1,H.get a'.1 with
 | some (.cells _ rw false),some (.cells _ rw' false)=>if rw || rw' || (a.2 == 0 && a'.2 == 0) then some false else none
 | _,_=>none
def eqBool:AV→AV→Option Bool
 | .bool a,.bool b=>some (a == b)
 | _,_=>none
def eqInt:AV→AV→Option Bool
 | .int k a,.int k' b=>if k=k' then some (a == b) else none
 | _,_=>none
def eqStr:AV→AV→Option Bool
 | .str a,.str b=>some (a == b)
 | _,_=>none
def eqPtr (H:Heap):AV→AV→Option Bool
 | .ptr a,.ptr b=>match a,b with
  | none,b=>some b.isNone
  | some _,none=>some false
  | some a,some b=>pEq H a b
 | _,_=>none
def eqSl:AV→AV→Option Bool
 | .slice a _ _,.slice b _ _=>match a,b with
  | none,b=>some b.isNone
  | some _,none=>some false
  | some _,some _=>none
 | _,_=>none
def eqMap:AV→AV→Option Bool
 | .map a,.map b=>match a,b with
  | none,b=>some b.isNone
  | some _,none=>some false
  | some _,some _=>none
 | _,_=>none
def eqFn:AV→AV→Option Bool
 | .nilFunc,.nilFunc=>some true
 | .nilFunc,.func _ _ _=>some false
 | .func _ _ _,.nilFunc=>some false
 | _,_=>none
def eqIf (H:Heap) (dyn:List Nat) (lit:Bool):AV→AV→Option Bool
 | .nilIface,.nilIface=>if lit then some true else none
 | .nilIface,.iface _ _=>some false
 | .iface _ _,.nilIface=>some false
 | .iface t x,.iface u y=>if t=u then (if dyn.contains t then match x,y with
   | .ptr (some a),.ptr (some b)=>pEq H a b
   | _,_=>none
  else none) else some false
 | _,_=>none
mutual
def aeq (H:Heap):EqT→AV→AV→Option Bool
 | .bool,x,y=>eqBool x y
 | .int,x,y=>eqInt x y
 | .str,x,y=>eqStr x y
 | .ptr,x,y=>eqPtr H x y
 | .nilS,x,y=>eqSl x y
 | .nilM,x,y=>eqMap x y
 | .nilF,x,y=>eqFn x y
 | .iface dyn lit,x,y=>eqIf H dyn lit x y
 | .agg ps,x,y=>match x,y with
  | .agg xs,.agg ys=>aeqAll H ps xs ys
  | _,_=>none
def aeqAll (H:Heap):List (Nat × Option Nat × EqT)→List AV→List AV→Option Bool
 | [],_,_=>some true
 | (off,sz,e)::ps,xs,ys=>match partA xs off sz,partA ys off sz with
  | some x,some y=>match aeq H e x y with
   | some true=>aeqAll H ps xs ys
   | some false=>some false
   | none=>none
  | _,_=>none
end
def keyEq:AV→AV→Option Bool
 | .str a,.str b=>some (a == b)
 | .int k a,.int k' b=>if k=k' then some (a == b) else none
 | _,_=>none
def mapFind (key:AV):List (AV × AV)→Option (Option AV)
 | []=>some none
 | (k,v)::r=>match keyEq key k with
  | some true=>some (some v)
  | some false=>mapFind key r
  | none=>none
def mapPut (key val:AV):List (AV × AV)→Option (List (AV × AV))
 | []=>some [(key,val)]
 | (k,v)::r=>match keyEq key k with
  | some true=>some ((key,val)::r)
  | some false=>match mapPut key val r with
   | some r'=>some ((k,v)::r')
   | none=>none
  | none=>none
def isKey (ks:Bool):AV→Bool
 | .str _=>ks
 | .int _ _ => !ks
 | _=>false
def cellsAt (H:Heap) (a:Nat × Nat) (n:Nat):Option (List AV) :=
 match H.get a.1 with
 | some (.cells cs _ _)=>if a.2+n≤cs.length then some ((cs.drop a.2).take n) else none
 | _=>none
def bytesOf:List AV→Option (List UInt8)
 | []=>some []
 | .int .u8 n::r=>match bytesOf r with
  | some l=>some (UInt8.ofNat n.toNat::l)
  | none=>none
 | _::_=>none
def rop:ROp→List AV→Heap→Option AV
 | .load sz,[.ptr (some (b,o))],H=>match H.get b with
  | some (.cells cs _ _)=>partA cs o sz
  | _=>none
 | .eq neg e,[x,y],H=>match aeq H e x y with
  | some b=>some (.bool (if neg then !b else b))
  | none=>none
 | .lookup ks ok zero,[.map m,key],H =>
  if isKey ks key then
   match m with
   | none=>some (if ok then .tuple [zero,.bool false] else zero)
   | some m=>match H.get m with
    | some (.map es)=>match mapFind key es with
     | some (some v)=>some (if ok then .tuple [v,.bool true] else v)
     | some none=>some (if ok then .tuple [zero,.bool false] else zero)
     | none=>none
    | _=>none
  else none
 | .lenMap,[.map none],_=>some (.int .i64 0)
 | .lenMap,[.map (some m)],H=>match H.get m with
  | some (.map es)=>some (.int .i64 es.length)
  | _=>none
 | .b2s,[.slice none _ _],_=>some (.str [])
 | .b2s,[.slice (some a) n _],H=>match cellsAt H a n with
  | some cs=>match bytesOf cs with
   | some l=>some (.str l)
   | none=>none
  | none=>none
 | _,_,_=>none
def rep (n:Nat) (l:List AV):List AV :=
 match n with
 | 0=>[]
 | n+1=>l++rep n l
def byteCells (s:List UInt8):List AV:=s.map fun b => .int .u8 b.toNat
inductive NRes where
 | ptr
 | slice (len:Nat) (cap:ACap)
 | map
 deriving Inhabited
def NRes.at:NRes→Nat→AV
 | .ptr,i => .ptr (some (i,0))
 | .slice len cap,i => .slice (some (i,0)) len cap
 | .map,i => .map (some i)
def nop:NOp→List AV→Option (ABlk × NRes)
 | .alloc zero,[]=>some (.cells zero true false,.ptr)
 | .box,[v]=>if ntA v=true then some (.cells v.cells true false,.ptr) else none
 | .bslice len zero places,vs=>match fillA zero places vs with
  | some cs=>some (.cells cs true false,.slice len (.exact len))
  | none=>none
 | .mkSlice esz ebytes zero,[l,c]=>match natOf l,natOf c with
  | some l,some c =>
   if zero.length=esz∧l≤c∧c < 9223372036854775808∧c*ebytes≤281474976710656 then
    some (.cells (rep l zero) true false,.slice l (if l=c then .exact c else .toEnd esz))
   else none
  | _,_=>none
 | .mkMap,_=>some (.map [],.map)
 | .s2b,[.str s]=>if s.length < 9223372036854775808 then some (.cells (byteCells s) true true,.slice s.length (.toEnd 1)) else none
 | _,_=>none
def storeAt (H:Heap) (a:Nat × Nat) (v:List AV):Option Heap :=
 match H.get a.1 with
 | some (.cells cs true str)=>if a.2+v.length≤cs.length then some (H.set a.1 (.cells (splice cs a.2 v) true str)) else none
 | _=>none
def srcCells (H:Heap) (esz:Nat):AV→Option (Nat × List AV)
 | .slice none _ _=>some (0,[])
 | .slice (some a) n _=>match cellsAt H a (n*esz) with
  | some cs=>some (n,cs)
  | none=>none
 | .str s=>if esz=1 then some (s.length,byteCells s) else none
 | _=>none
def appendTo (esz:Nat) (base:Option (Nat × Nat)) (cap:ACap) (len need:Nat) (new:List AV) (H:Heap):Option (AV × Heap) :=
 match base with
 | none=>match cap with
  | .exact _=>some (.slice (some (H.next,0)) need (.toEnd esz),H.push (.cells new true false))
  | .toEnd _=>none
 | some a=>match cap with
  | .exact c =>
   if need≤c then
    match storeAt H (a.1,a.2+len*esz) new with
    | some H'=>some (.slice base need cap,H')
    | none=>none
   else
    match cellsAt H a (len*esz) with
    | some old=>some (.slice (some (H.next,0)) need (.toEnd esz),H.push (.cells (old++new) true false))
    | none=>none
  | .toEnd e =>
   match H.get a.1 with
   | some (.cells cs true str) =>
    if e=esz∧a.2+len*esz≤cs.length then
     some (.slice (some (H.next,0)) need (.toEnd esz),(H.kill a.1).push (.cells ((cs.drop a.2).take (len*esz)++new) true str))
    else none
   | _=>none
def appendA (esz ebytes:Nat) (s x:AV) (H:Heap):Option (AV × Heap) :=
 match s with
 | .slice base len cap=>match srcCells H esz x with
  | some (0,_)=>some (.slice base len cap,H)
  | some (n+1,new) =>
   if (len+(n+1))*ebytes≤17592186044416∧len+(n+1) < 17592186044416∧0 < esz then
    appendTo esz base cap len (len+(n+1)) new H
   else none
  | none=>none
 | _=>none
def wop (call:CallT):WOp→List AV→Heap→Option (AV × Heap)
 | .store sz,[.ptr (some a),v],H =>
  if v.cells.length=sz∧ntA v=true then
   match storeAt H a v.cells with
   | some H'=>some (undefA,H')
   | none=>none
  else none
 | .append esz ebytes,[s,x],H=>appendA esz ebytes s x H
 | .copy esz,[.slice (some a) n _,x],H=>match srcCells H esz x with
  | some (m,cs) =>
   let k:=min m n
   match storeAt H a (cs.take (k*esz)) with
   | some H'=>some (.int .i64 k,H')
   | none=>none
  | none=>none
 | .mapUpd ks,[.map (some m),key,val],H =>
  if isKey ks key then
   match H.get m with
   | some (.map es)=>match mapPut key val es with
    | some es'=>some (undefA,H.set m (.map es'))
    | none=>none
   | _=>none
  else none
 | .mark,[.slice (some a) (n+1) c],H=>match H.get a.1 with
  | some (.cells cs true _)=>some (.slice (some a) (n+1) c,H.set a.1 (.cells cs true true))
  | _=>none
 | .callF f,args,H=>call f args H
 | .callV,.func f first captured::args,H=>call f (first++args++captured) H
 | _,_,_=>none
def step (call:CallT) (o:AOp) (T:Fr) (H:Heap):Option (Fr × Heap) :=
 match wanted T o.guard with
 | none=>none
 | some false=>some (put T o.dst undefA,H)
 | some true=>match opds T o.args with
  | none=>none
  | some vs=>match o.k with
   | .p q=>match pop q vs with
    | some v=>some (put T o.dst v,H)
    | none=>none
   | .r q=>match rop q vs H with
    | some v=>some (put T o.dst v,H)
    | none=>none
   | .n q=>match nop q vs with
    | some (x,res)=>some (put T o.dst (res.at H.next),H.push x)
    | none=>none
   | .w q=>match wop call q vs H with
    | some (v,H')=>some (put T o.dst v,H')
    | none=>none
def runOps (call:CallT):List AOp→Fr→Heap→Option (Fr × Heap)
 | [],T,H=>some (T,H)
 | o::l,T,H=>match step call o T H with
  | some (T',H')=>runOps call l T' H'
  | none=>none
mutual
def beqA:AV→AV→Bool
 | .bool a,.bool b=>a == b
 | .int k a,.int k' b=>decide (k=k') && decide (a=b)
 | .str a,.str b=>decide (a=b)
 | .ptr a,.ptr b=>decide (a=b)
 | .slice a n c,.slice b m d=>decide (a=b) && decide (n=m) && decide (c=d)
 | .map a,.map b=>decide (a=b)
 | .func f a b,.func g c d=>decide (f=g) && beqAs a c && beqAs b d
 | .nilFunc,.nilFunc=>true
 | .iface t a,.iface u b=>decide (t=u) && beqA a b
 | .nilIface,.nilIface=>true
 | .agg a,.agg b=>beqAs a b
 | .tuple a,.tuple b=>beqAs a b
 | _,_=>false
def beqAs:List AV→List AV→Bool
 | [],[]=>true
 | a::l,b::m=>beqA a b && beqAs l m
 | _,_=>false
end
def ropAt (q:ROp) (vs:List AV):List Heap→Option AV
 | []=>none
 | [H]=>rop q vs H
 | H::l=>match rop q vs H,ropAt q vs l with
  | some v,some u=>if beqA v u then some v else none
  | _,_=>none
def stepD (call:CallT) (base:Nat) (x:AOp × Nat) (T:Fr) (H:Heap) (snaps:List Heap):Option (Fr × Heap × List Heap) :=
 let o:=x.1
 match wanted T o.guard with
 | none=>none
 | some false=>some (put T o.dst undefA,H,snaps)
 | some true=>match opds T o.args with
  | none=>none
  | some vs=>match o.k with
   | .p q=>match pop q vs with
    | some v=>some (put T o.dst v,H,snaps)
    | none=>none
   | .r q=>match ropAt q vs (snaps.take (x.2+1)) with
    | some v=>some (put T o.dst v,H,snaps)
    | none=>none
   | .n q=>match nop q vs with
    | some (b,res)=>some (put T o.dst (res.at (base+x.2)),H.set (base+x.2) b,snaps.map fun S=>S.set (base+x.2) b)
    | none=>none
   | .w q=>match wop call q vs H with
    | some (v,H')=>some (put T o.dst v,H',H'::snaps)
    | none=>none
def runD (call:CallT) (base:Nat):List (AOp × Nat)→Fr→Heap→List Heap→Option (Fr × Heap)
 | [],T,H,_=>some (T,H)
 | x::l,T,H,snaps=>match stepD call base x T H snaps with
  | some (T',H',snaps')=>runD call base l T' H' snaps'
  | none=>none
def countN:List (AOp × Nat)→Nat
 | []=>0
 | x::l=>match x.1.k with
  | .n _=>countN l+1
  | _=>countN l
def Heap.reserve (H:Heap) (n:Nat):Heap:={ H with next:=H.next+n }
def iter (f:Fr→Heap→Option (AEx × Fr × Heap)):Nat→Fr→Heap→Option (AEx × Fr × Heap)
 | 0,_,_=>none
 | n+1,T,H=>match f T H with
  | some (.normal,T',H')=>iter f n T' H'
  | r=>r
def exec (call:CallT) (N:Nat):AC→Fr→Heap→Option (AEx × Fr × Heap)
 | .skip,T,H=>some (.normal,T,H)
 | .ops l,T,H=>match runOps call l T H with
  | some (T',H')=>some (.normal,T',H')
  | none=>none
 | .draw l,T,H=>match runD call H.next l T (H.reserve (countN l)) [H.reserve (countN l)] with
  | some (T',H')=>some (.normal,T',H')
  | none=>none
 | .seq a b,T,H=>match exec call N a T H with
  | some (.normal,T',H')=>exec call N b T' H'
  | r=>r
 | .cond c a b,T,H=>match opd T c with
  | some (.bool true)=>exec call N a T H
  | some (.bool false)=>exec call N b T H
  | _=>none
 | .block id a,T,H=>match exec call N a T H with
  | some (.exit i,T',H')=>match Nat.beq i id with
   | true=>some (.normal,T',H')
   | false=>some (.exit i,T',H')
  | r=>r
 | .loop a,T,H=>iter (exec call N a) N T H
 | .exit id,T,H=>some (.exit id,T,H)
 | .ret,T,H=>some (.ret,T,H)
def resA (T:Fr) (H:Heap):ARes→Option AV
 | .tmp t=>T.get t
 | .cell t sz=>match T.get t with
  | some v=>rop (.load sz) [v] H
  | none=>none
def ressA (T:Fr) (H:Heap):List ARes→Option (List AV)
 | []=>some []
 | r::l=>match resA T H r,ressA T H l with
  | some v,some vs=>some (v::vs)
  | _,_=>none
def tupA:List AV→AV
 | [v]=>v
 | vs => .tuple vs
def initT:Nat→List AV→Fr→Fr
 | _,[],T=>T
 | i,v::l,T=>initT (i+1) l (T.set i v)
def idxByte (c:UInt8):List UInt8→Nat→Option Nat
 | [],_=>none
 | b::l,i=>if b=c then some i else idxByte c l (i+1)
def primA:Prim→List AV→Heap→Option (AV × Heap)
 | .indexByte,[.str s,.int .u8 c],H=>some (.int .i64 (match idxByte (UInt8.ofNat c.toNat) s 0 with | some i=>(i:Int) | none=>-1),H)
 | _,_,_=>none
def callN (fn:Nat→Option AFunc):Nat→CallT
 | 0,_,_,_=>none
 | n+1,f,args,H=>match fn f with
  | none=>none
  | some (.prim p)=>primA p args H
  | some (.code body res)=>match exec (callN fn n) n body (initT 0 args .nil) H with
   | some (.normal,T',H')=>match ressA T' H' res with
    | some vs=>some (tupA vs,H')
    | none=>none
   | some (.ret,T',H')=>match ressA T' H' res with
    | some vs=>some (tupA vs,H')
    | none=>none
   | _=>none
end
end Go.FR
