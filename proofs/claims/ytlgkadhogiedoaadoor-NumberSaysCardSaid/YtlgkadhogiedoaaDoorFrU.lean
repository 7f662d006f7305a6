/- The fast run: the same run, where each value is reckoned as soon as it is put. -/
import Derived.Test.YtlgkadhogiedoaaDoorFrT
set_option linter.unusedSimpArgs false
set_option linter.unusedVariables false
namespace Go.FR
noncomputable section
open Go
universe u
variable {β:Type}
def forceN (n:Nat) (k:Nat→β):β:=Nat.rec (motive:=fun _=>β) (k 0) (fun m _=>k (Nat.succ m)) n
def forceI (n:Int) (k:Int→β):β:=Int.rec (motive:=fun _=>β) (fun m=>forceN m fun m=>k (Int.ofNat m)) (fun m=>forceN m fun m=>k (Int.negSucc m)) n
def forceL {α:Type} (l:List α):(List α→β)→β:=List.rec (motive:=fun _=>(List α→β)→β) (fun k=>k []) (fun x _ ih k=>ih fun l=>k (x::l)) l
def forceB (b:Bool) (k:Bool→β):β:=Bool.rec (motive:=fun _=>β) (k false) (k true) b
def forceV (v:AV) (k:AV→β):β:=match v with
 | .int i n=>forceI n fun n=>k (.int i n)
 | .bool b=>forceB b fun b=>k (.bool b)
 | .slice a n c=>forceN n fun n=>k (.slice a n c)
 | .str s=>forceL s fun s=>k (.str s)
 | v=>k v
def forceC (l:List AV):(List AV→β)→β:=List.rec (motive:=fun _=>(List AV→β)→β) (fun k=>k []) (fun x _ ih k=>forceV x fun x=>ih fun l=>k (x::l)) l
def forceA (v:AV) (k:AV→β):β:=match v with
 | .agg cs=>forceC cs fun cs=>k (.agg cs)
 | .tuple cs=>forceC cs fun cs=>k (.tuple cs)
 | v=>forceV v k
def forceK (x:ABlk) (k:ABlk→β):β:=match x with
 | .cells cs rw str=>forceC cs fun cs=>k (.cells cs rw str)
 | .map es=>forceL es fun es=>k (.map es)
def storeS (H:Heap) (a:Nat × Nat) (v:List AV):Option Heap :=
 match H.get a.1 with
 | some (.cells cs true str)=>if a.2+v.length≤cs.length then forceC (splice cs a.2 v) fun cs=>some (H.set a.1 (.cells cs true str)) else none
 | _=>none
def appendToS (esz:Nat) (base:Option (Nat × Nat)) (cap:ACap) (len need:Nat) (new:List AV) (H:Heap):Option (AV × Heap) :=
 match base with
 | none=>match cap with
  | .exact _=>forceC new fun new=>some (.slice (some (H.next,0)) need (.toEnd esz),H.push (.cells new true false))
  | .toEnd _=>none
 | some a=>match cap with
  | .exact c =>
   if need≤c then
    match storeS H (a.1,a.2+len*esz) new with
    | some H'=>some (.slice base need cap,H')
    | none=>none
   else
    match cellsAt H a (len*esz) with
    | some old=>forceC (old++new) fun cs=>some (.slice (some (H.next,0)) need (.toEnd esz),H.push (.cells cs true false))
    | none=>none
  | .toEnd e =>
   match H.get a.1 with
   | some (.cells cs true str) =>
    if e=esz∧a.2+len*esz≤cs.length then
     forceC ((cs.drop a.2).take (len*esz)++new) fun cs=>some (.slice (some (H.next,0)) need (.toEnd esz),(H.kill a.1).push (.cells cs true str))
    else none
   | _=>none
def appendS (esz ebytes:Nat) (s x:AV) (H:Heap):Option (AV × Heap) :=
 match s with
 | .slice base len cap=>match srcCells H esz x with
  | some (0,_)=>some (.slice base len cap,H)
  | some (n+1,new) =>
   if (len+(n+1))*ebytes≤17592186044416∧len+(n+1) < 17592186044416∧0 < esz then
    appendToS esz base cap len (len+(n+1)) new H
   else none
  | none=>none
 | _=>none
def wopS (call:CallT) (q:WOp) (vs:List AV) (H:Heap):Option (AV × Heap) :=
 match q with
 | .store sz=>(match vs with
  | [.ptr (some a),v]=>if v.cells.length=sz∧ntA v=true then
    match storeS H a v.cells with
    | some H'=>some (undefA,H')
    | none=>none
   else none
  | _=>none)
 | .append esz ebytes=>(match vs with
  | [s,x]=>appendS esz ebytes s x H
  | _=>none)
 | .callF f=>call f vs H
 | q=>wop call q vs H
def p1 (f:AV→Option AV):List AV→Option AV
 | [x]=>f x
 | _=>none
def p2 (f:AV→AV→Option AV):List AV→Option AV
 | [x,y]=>f x y
 | _=>none
def p3 (f:AV→AV→AV→Option AV):List AV→Option AV
 | [x,y,z]=>f x y z
 | _=>none
def fPick (c a b:AV):Option AV:=match c with
 | .bool true=>some a
 | .bool false=>some b
 | _=>none
def fConv (k:IntKind) (x:AV):Option AV:=match x with
 | .int _ n=>some (.int k (k.wrap n))
 | _=>none
def fField (off:Nat) (sz:Option Nat) (x:AV):Option AV:=match x with
 | .agg cs=>partA cs off sz
 | _=>none
def fIdxArr (len esz:Nat) (sz:Option Nat) (x i:AV):Option AV:=match x with
 | .agg cs=>(match natOf i with
  | some i=>if i < len then partA cs (i*esz) sz else none
  | none=>none)
 | _=>none
def fIdxStr (x i:AV):Option AV:=match x with
 | .str s=>(match natOf i with
  | some i=>(match s[i]? with
   | some b=>some (.int .u8 b.toNat)
   | none=>none)
  | none=>none)
 | _=>none
def fExt (i:Nat) (x:AV):Option AV:=match x with
 | .tuple vs=>vs[i]?
 | _=>none
def fFAddr (off:Nat) (x:AV):Option AV:=match x with
 | .ptr (some (b,o))=>some (.ptr (some (b,o+off)))
 | _=>none
def fIAddrS (esz:Nat) (x i:AV):Option AV:=match x with
 | .slice (some (b,o)) len _=>(match natOf i with
  | some i=>if i < len then some (.ptr (some (b,o+i*esz))) else none
  | none=>none)
 | _=>none
def fLenStr (x:AV):Option AV:=match x with
 | .str s=>some (.int .i64 s.length)
 | _=>none
def fLenSl (x:AV):Option AV:=match x with
 | .slice _ n _=>some (.int .i64 n)
 | _=>none
def fBuild (zero:List AV) (places:List (Nat × Nat)) (vs:List AV):Option AV:=match fillA zero places vs with
 | some cs=>some (.agg cs)
 | none=>none
def popF (q:POp) (vs:List AV):Option AV:=match q with
 | .mov=>p1 some vs
 | .pick=>p3 fPick vs
 | .bin op=>p2 (abin op) vs
 | .un op=>p1 (aun op) vs
 | .conv k=>p1 (fConv k) vs
 | .field off sz=>p1 (fField off sz) vs
 | .idxArr len esz sz=>p2 (fIdxArr len esz sz) vs
 | .idxStr=>p2 fIdxStr vs
 | .ext i=>p1 (fExt i) vs
 | .mkI t=>p1 (fun x=>some (.iface t x)) vs
 | .fAddr off=>p1 (fFAddr off) vs
 | .iAddrS esz=>p2 (fIAddrS esz) vs
 | .build zero places=>fBuild zero places vs
 | .lenStr=>p1 fLenStr vs
 | .lenSl=>p1 fLenSl vs
 | q=>pop q vs
def fLoad (sz:Option Nat) (H:Heap) (x:AV):Option AV:=match x with
 | .ptr (some (b,o))=>(match H.get b with
  | some (.cells cs _ _)=>partA cs o sz
  | _=>none)
 | _=>none
def fEq (neg:Bool) (e:EqT) (H:Heap) (x y:AV):Option AV:=match aeq H e x y with
 | some b=>some (.bool (if neg then !b else b))
 | none=>none
def ropF (q:ROp) (vs:List AV) (H:Heap):Option AV:=match q with
 | .load sz=>p1 (fLoad sz H) vs
 | .eq neg e=>p2 (fEq neg e H) vs
 | q=>rop q vs H
def stepS (call:CallT) (o:AOp) (T:Fr) (H:Heap):Option (Fr × Heap) :=
 match wanted T o.guard with
 | none=>none
 | some false=>some (put T o.dst undefA,H)
 | some true=>match opds T o.args with
  | none=>none
  | some vs=>match o.k with
   | .p q=>match popF q vs with
    | some v=>forceA v fun v=>some (put T o.dst v,H)
    | none=>none
   | .r q=>match ropF q vs H with
    | some v=>forceA v fun v=>some (put T o.dst v,H)
    | none=>none
   | .n q=>match nop q vs with
    | some (x,res)=>forceK x fun x=>some (put T o.dst (res.at H.next),H.push x)
    | none=>none
   | .w q=>match wopS call q vs H with
    | some (v,H')=>forceA v fun v=>some (put T o.dst v,H')
    | none=>none
def runOpsS (call:CallT):List AOp→Fr→Heap→Option (Fr × Heap)
 | [],T,H=>some (T,H)
 | o::l,T,H=>match stepS call o T H with
  | some (T',H')=>runOpsS call l T' H'
  | none=>none
def stepDS (call:CallT) (base:Nat) (x:AOp × Nat) (T:Fr) (H:Heap) (snaps:List Heap):Option (Fr × Heap × List Heap) :=
 let o:=x.1
 match wanted T o.guard with
 | none=>none
 | some false=>some (put T o.dst undefA,H,snaps)
 | some true=>match opds T o.args with
  | none=>none
  | some vs=>match o.k with
   | .p q=>match popF q vs with
    | some v=>forceA v fun v=>some (put T o.dst v,H,snaps)
    | none=>none
   | .r q=>match ropAt q vs (snaps.take (x.2+1)) with
    | some v=>forceA v fun v=>some (put T o.dst v,H,snaps)
    | none=>none
   | .n q=>match nop q vs with
    | some (b,res)=>forceK b fun b=>some (put T o.dst (res.at (base+x.2)),H.set (base+x.2) b,snaps.map fun S=>S.set (base+x.2) b)
    | none=>none
   | .w q=>match wopS call q vs H with
    | some (v,H')=>forceA v fun v=>some (put T o.dst v,H',H'::snaps)
    | none=>none
def runDS (call:CallT) (base:Nat):List (AOp × Nat)→Fr→Heap→List Heap→Option (Fr × Heap)
 | [],T,H,_=>some (T,H)
 | x::l,T,H,snaps=>match stepDS call base x T H snaps with
  | some (T',H',snaps')=>runDS call base l T' H' snaps'
  | none=>none
def execS (call:CallT) (N:Nat):AC→Fr→Heap→Option (AEx × Fr × Heap)
 | .skip,T,H=>some (.normal,T,H)
 | .ops l,T,H=>match runOpsS call l T H with
  | some (T',H')=>some (.normal,T',H')
  | none=>none
 | .draw l,T,H=>match runDS call H.next l T (H.reserve (countN l)) [H.reserve (countN l)] with
  | some (T',H')=>some (.normal,T',H')
  | none=>none
 | .seq a b,T,H=>match execS call N a T H with
  | some (.normal,T',H')=>execS call N b T' H'
  | r=>r
 | .cond c a b,T,H=>match opd T c with
  | some (.bool true)=>execS call N a T H
  | some (.bool false)=>execS call N b T H
  | _=>none
 | .block id a,T,H=>match execS call N a T H with
  | some (.exit i,T',H')=>match Nat.beq i id with
   | true=>some (.normal,T',H')
   | false=>some (.exit i,T',H')
  | r=>r
 | .loop a,T,H=>iter (execS call N a) N T H
 | .exit id,T,H=>some (.exit id,T,H)
 | .ret,T,H=>some (.ret,T,H)
def callNS (fn:Nat→Option AFunc):Nat→CallT
 | 0,_,_,_=>none
 | n+1,f,args,H=>match fn f with
  | none=>none
  | some (.prim p)=>primA p args H
  | some (.code body res)=>fin res (execS (callNS fn n) n body (initT 0 args .nil) H)
end
end Go.FR
