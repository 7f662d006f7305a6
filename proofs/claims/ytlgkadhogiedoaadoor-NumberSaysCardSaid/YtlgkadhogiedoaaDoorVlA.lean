/- Plain values that hold what they point to: what the operations of the small code come to over these. Nothing of the heap's names stands in what is closed. -/
import Derived.Test.YtlgkadhogiedoaaDoorFrR
set_option linter.unusedSimpArgs false
set_option linter.unusedVariables false
namespace Go.VL
open Go.FR
noncomputable section
inductive VV where
 | bool (b:Bool)
 | int (k:IntKind) (n:Int)
 | str (s:List UInt8)
 | nilP
 | ptr (i o:Nat)
 | gptr (i o:Nat)
 | fptr (cs:List VV) (o:Nat)
 | nilS
 | slice (i o n esz:Nat) (c:ACap)
 | fsl (cs:List VV) (n esz:Nat)
 | nilM
 | map (i:Nat)
 | fmap (ks vs:List VV)
 | func (f:Nat) (first captured:List VV)
 | nilF
 | iface (t:Nat) (v:VV)
 | nilI
 | agg (cs:List VV)
 | tuple (vs:List VV)
 deriving Inhabited
def undefV:VV := .tuple []
def VV.cells:VV→List VV
 | .agg cs=>cs
 | v=>[v]
def ntV:VV→Bool
 | .tuple _=>false
 | _=>true
mutual
def closedB:VV→Bool
 | .ptr _ _=>false
 | .slice _ _ _ _ _=>false
 | .map _=>false
 | .func _ a b=>closedL a && closedL b
 | .iface _ v=>closedB v
 | .agg cs=>closedL cs
 | .tuple vs=>closedL vs
 | _=>true
def closedL:List VV→Bool
 | []=>true
 | v::l=>closedB v && closedL l
end
mutual
def plainB:VV→Bool
 | .bool _=>true
 | .int _ _=>true
 | .str _=>true
 | .nilP=>true
 | .gptr _ _=>true
 | .nilS=>true
 | .nilM=>true
 | .nilF=>true
 | .nilI=>true
 | .func _ a b=>plainL a && plainL b
 | .iface _ v=>plainB v
 | .agg cs=>plainL cs
 | .tuple vs=>plainL vs
 | _=>false
def plainL:List VV→Bool
 | []=>true
 | v::l=>plainB v && plainL l
end
mutual
def cv:AV→Option VV
 | .bool b=>some (.bool b)
 | .int k n=>some (.int k n)
 | .str s=>some (.str s)
 | .ptr none=>some .nilP
 | .ptr (some (i,o))=>some (.gptr i o)
 | .slice none 0 (.exact 0)=>some .nilS
 | .map none=>some .nilM
 | .func f a b=>match cvs a,cvs b with
  | some x,some y=>some (.func f x y)
  | _,_=>none
 | .nilFunc=>some .nilF
 | .iface t v=>match cv v with
  | some x=>some (.iface t x)
  | none=>none
 | .nilIface=>some .nilI
 | .agg cs=>match cvs cs with
  | some x=>some (.agg x)
  | none=>none
 | .tuple cs=>match cvs cs with
  | some x=>some (.tuple x)
  | none=>none
 | _=>none
def cvs:List AV→Option (List VV)
 | []=>some []
 | a::l=>match cv a,cvs l with
  | some x,some y=>some (x::y)
  | _,_=>none
end
inductive VB where
 | cells (cs:List VV) (ro:Bool)
 | map (ks vs:List VV) (ro:Bool)
 deriving Inhabited
def VB.ro:VB→Bool
 | .cells _ r=>r
 | .map _ _ r=>r
def VB.fix:VB→VB
 | .cells cs _ => .cells cs true
 | .map ks vs _ => .map ks vs true
def qzf {α:Type}:List (Nat × α)→Nat→Option α
 | [],_=>none
 | (a,b)::l,n=>if a=n then some b else qzf l n
structure VH where
 l:List (Nat × Option VB)
 next:Nat
 deriving Inhabited
def VH.get (h:VH) (i:Nat):Option VB:=(qzf h.l i).getD none
def VH.set (h:VH) (i:Nat) (x:VB):VH:=⟨(i,some x)::h.l,h.next⟩
def VH.kill (h:VH) (i:Nat):VH:=⟨(i,none)::h.l,h.next⟩
def VH.push (h:VH) (x:VB):VH:=⟨(h.next,some x)::h.l,h.next+1⟩
abbrev VF:=List (Nat × VV)
def putV (T:VF) (d:Option Nat) (v:VV):VF :=
 match d with
 | none=>T
 | some n=>(n,v)::T
def opdV (T:VF):Opd→Option VV
 | .t n=>qzf T n
 | .c a=>cv a
def opdsV (T:VF):List Opd→Option (List VV)
 | []=>some []
 | o::r=>match opdV T o with
  | none=>none
  | some v=>match opdsV T r with
   | none=>none
   | some vs=>some (v::vs)
def toA:VV→Option AV
 | .bool b=>some (.bool b)
 | .int k n=>some (.int k n)
 | .str s=>some (.str s)
 | _=>none
def toAs:List VV→Option (List AV)
 | []=>some []
 | v::l=>match toA v with
  | none=>none
  | some a=>match toAs l with
   | none=>none
   | some as=>some (a::as)
def ofA:AV→Option VV
 | .bool b=>some (.bool b)
 | .int k n=>some (.int k n)
 | .str s=>some (.str s)
 | _=>none
def scal (q:POp) (vs:List VV):Option VV:=match toAs vs with
 | none=>none
 | some as=>match FR.pop q as with
  | none=>none
  | some a=>ofA a
def spliceV (cs:List VV) (off:Nat) (v:List VV):List VV:=cs.take off++(v++cs.drop (off+v.length))
def fillV (cs:List VV):List (Nat × Nat)→List VV→Option (List VV)
 | [],[]=>some cs
 | (off,size)::ps,v::vs =>
  if v.cells.length=size∧off+size≤cs.length∧ntV v=true then fillV (spliceV cs off v.cells) ps vs else none
 | _,_=>none
def partV (cs:List VV) (off:Nat):Option Nat→Option VV
 | none=>cs[off]?
 | some n=>if off+n≤cs.length then some (.agg ((cs.drop off).take n)) else none
def qzk:VV→Option Nat
 | .int _ n=>if 0≤n then some n.toNat else none
 | _=>none
def bndV (lo hi:Bool) (len most:Nat) (args:List VV):Option (Nat × Nat) :=
 match lo,hi,args with
 | false,false,[]=>some (0,len)
 | true,false,[l]=>match qzk l with
  | some l=>if l≤len then some (l,len) else none
  | none=>none
 | false,true,[h]=>match qzk h with
  | some h=>if h≤most then some (0,h) else none
  | none=>none
 | true,true,[l,h]=>match qzk l,qzk h with
  | some l,some h=>if l≤h∧h≤most then some (l,h) else none
  | _,_=>none
 | _,_,_=>none
def slV (esz:Nat) (lo hi:Bool):List VV→Option VV
 | .slice i o n e c::r=>if e=esz then (match capMost esz n c with
  | none=>none
  | some most=>match bndV lo hi n most r with
   | some (l,h)=>some (.slice i (o+l*esz) (h - l) esz (capDrop l c))
   | none=>none) else none
 | .fsl cs n e::r=>if e=esz then (match bndV lo hi n n r with
   | some (l,h)=>some (.fsl ((cs.drop (l*esz)).take ((h - l)*esz)) (h - l) esz)
   | none=>none) else none
 | .nilS::r=>match bndV lo hi 0 0 r with
   | some (l,h)=>some .nilS
   | none=>none
 | _=>none
def slArrV (len esz:Nat) (lo hi:Bool):List VV→Option VV
 | .ptr i o::r=>match bndV lo hi len len r with
  | some (l,h)=>some (.slice i (o+l*esz) (h - l) esz (.exact (len - l)))
  | none=>none
 | .fptr cs o::r=>match bndV lo hi len len r with
  | some (l,h)=>if o+h*esz≤cs.length then some (.fsl ((cs.drop (o+l*esz)).take ((h - l)*esz)) (h - l) esz) else none
  | none=>none
 | _=>none
def fieldV (off:Nat) (sz:Option Nat):List VV→Option VV
 | [.agg cs]=>partV cs off sz
 | _=>none
def idxArrV (len esz:Nat) (sz:Option Nat):List VV→Option VV
 | [.agg cs,i]=>match qzk i with
  | some i=>if i < len then partV cs (i*esz) sz else none
  | none=>none
 | _=>none
def extV (i:Nat):List VV→Option VV
 | [.tuple vs]=>vs[i]?
 | _=>none
def mkIV (t:Nat):List VV→Option VV
 | [x]=>some (.iface t x)
 | _=>none
def fAddrV (off:Nat):List VV→Option VV
 | [.ptr i o]=>some (.ptr i (o+off))
 | [.gptr i o]=>some (.gptr i (o+off))
 | [.fptr cs o]=>some (.fptr cs (o+off))
 | _=>none
def iAddrSV (esz:Nat):List VV→Option VV
 | [.slice i o n _ _,x]=>match qzk x with
  | some k=>if k < n then some (.ptr i (o+k*esz)) else none
  | none=>none
 | [.fsl cs n _,x]=>match qzk x with
  | some k=>if k < n then some (.fptr cs (k*esz)) else none
  | none=>none
 | _=>none
def iAddrAV (len esz:Nat):List VV→Option VV
 | [.ptr i o,x]=>match qzk x with
  | some k=>if k < len then some (.ptr i (o+k*esz)) else none
  | none=>none
 | [.fptr cs o,x]=>match qzk x with
  | some k=>if k < len then some (.fptr cs (o+k*esz)) else none
  | none=>none
 | [.gptr i o,x]=>match qzk x with
  | some k=>if k < len then some (.gptr i (o+k*esz)) else none
  | none=>none
 | _=>none
def nilChkV:List VV→Option VV
 | [.ptr i o]=>some (.ptr i o)
 | [.gptr i o]=>some (.gptr i o)
 | [.fptr cs o]=>some (.fptr cs o)
 | [.func f a b]=>some (.func f a b)
 | _=>none
def tAssV (t:Nat) (ok:Bool) (zero:AV):List VV→Option VV
 | [.iface u v]=>if u=t then some (if ok then .tuple [v,.bool true] else v) else match ok,cv zero with
  | true,some z=>some (.tuple [z,.bool false])
  | _,_=>none
 | [.nilI]=>match ok,cv zero with
  | true,some z=>some (.tuple [z,.bool false])
  | _,_=>none
 | _=>none
def lenSlV:List VV→Option VV
 | [.slice _ _ n _ _]=>some (.int .i64 n)
 | [.fsl _ n _]=>some (.int .i64 n)
 | [.nilS]=>some (.int .i64 0)
 | _=>none
def movV:List VV→Option VV
 | [x]=>some x
 | _=>none
def pickV:List VV→Option VV
 | [.bool c,a,b]=>some (if c then a else b)
 | _=>none
def lenArrV (n:Nat):List VV→Option VV
 | [_]=>some (.int .i64 n)
 | _=>none
def buildV (zero:List AV) (places:List (Nat × Nat)) (vs:List VV):Option VV :=
 match cvs zero with
 | none=>none
 | some z=>match fillV z places vs with
  | some cs=>some (.agg cs)
  | none=>none
def popV (q:POp) (vs:List VV):Option VV :=
 match q with
 | .bad=>none
 | .mov=>movV vs
 | .pick=>pickV vs
 | .bin op=>scal (.bin op) vs
 | .un op=>scal (.un op) vs
 | .conv k=>scal (.conv k) vs
 | .s2s=>scal .s2s vs
 | .field off sz=>fieldV off sz vs
 | .idxArr len esz sz=>idxArrV len esz sz vs
 | .idxStr=>scal .idxStr vs
 | .ext i=>extV i vs
 | .mkI t=>mkIV t vs
 | .mkF f n=>some (.func f (vs.take n) (vs.drop n))
 | .fAddr off=>fAddrV off vs
 | .iAddrS esz=>iAddrSV esz vs
 | .iAddrA len esz=>iAddrAV len esz vs
 | .slStr lo hi=>scal (.slStr lo hi) vs
 | .slSl esz lo hi=>slV esz lo hi vs
 | .slArr len esz lo hi=>slArrV len esz lo hi vs
 | .build zero places=>buildV zero places vs
 | .nilChk=>nilChkV vs
 | .tAss t ok zero=>tAssV t ok zero vs
 | .lenStr=>scal .lenStr vs
 | .lenSl=>lenSlV vs
 | .lenArr n=>lenArrV n vs
 | .max=>scal .max vs
 | .min=>scal .min vs
abbrev qzh:=List (Nat × List VV)
def loadV (Gl:qzh) (h:VH) (sz:Option Nat):List VV→Option VV
 | [.ptr i o]=>match h.get i with
  | some (.cells cs _)=>partV cs o sz
  | _=>none
 | [.gptr i o]=>match qzf Gl i with
  | some cs=>partV cs o sz
  | none=>none
 | [.fptr cs o]=>partV cs o sz
 | _=>none
def inGl (Gl:qzh) (i:Nat):Bool:=(qzf Gl i).isSome
def eqGV (Gl:qzh) (i o j p:Nat):Option Bool:=if i=j then some (decide (o=p)) else if o=0∧p=0∧inGl Gl i=true∧inGl Gl j=true then some false else none
def eqPV (Gl:qzh):VV→VV→Option Bool
 | .nilP,.nilP=>some true
 | .nilP,.ptr _ _=>some false
 | .nilP,.gptr _ _=>some false
 | .nilP,.fptr _ _=>some false
 | .ptr _ _,.nilP=>some false
 | .gptr _ _,.nilP=>some false
 | .fptr _ _,.nilP=>some false
 | .ptr i o,.ptr j p=>if i=j then some (decide (o=p)) else none
 | .gptr i o,.gptr j p=>eqGV Gl i o j p
 | _,_=>none
def eqSV:VV→VV→Option Bool
 | .nilS,.nilS=>some true
 | .nilS,.slice _ _ _ _ _=>some false
 | .slice _ _ _ _ _,.nilS=>some false
 | .nilS,.fsl _ (_+1) _=>some false
 | .fsl _ (_+1) _,.nilS=>some false
 | _,_=>none
def eqMV:VV→VV→Option Bool
 | .nilM,.nilM=>some true
 | .nilM,.map _=>some false
 | .map _,.nilM=>some false
 | .nilM,.fmap _ _=>some false
 | .fmap _ _,.nilM=>some false
 | _,_=>none
def eqFV:VV→VV→Option Bool
 | .nilF,.nilF=>some true
 | .nilF,.func _ _ _=>some false
 | .func _ _ _,.nilF=>some false
 | _,_=>none
def eqIV (Gl:qzh) (dyn:List Nat) (lit:Bool):VV→VV→Option Bool
 | .nilI,.nilI=>if lit then some true else none
 | .nilI,.iface _ _=>some false
 | .iface _ _,.nilI=>some false
 | .iface t x,.iface u y=>if t=u then (if dyn.contains t then match x,y with
   | .gptr i o,.gptr j p=>eqGV Gl i o j p
   | _,_=>none
  else none) else some false
 | _,_=>none
def eqScal (f:AV→AV→Option Bool) (x y:VV):Option Bool:=match toA x,toA y with
 | some a,some b=>f a b
 | _,_=>none
mutual
def aeqV (Gl:qzh):EqT→VV→VV→Option Bool
 | .bool,x,y=>eqScal eqBool x y
 | .int,x,y=>eqScal eqInt x y
 | .str,x,y=>eqScal eqStr x y
 | .ptr,x,y=>eqPV Gl x y
 | .nilS,x,y=>eqSV x y
 | .nilM,x,y=>eqMV x y
 | .nilF,x,y=>eqFV x y
 | .iface dyn lit,x,y=>eqIV Gl dyn lit x y
 | .agg ps,x,y=>match x,y with
  | .agg xs,.agg ys=>aeqVs Gl ps xs ys
  | _,_=>none
def aeqVs (Gl:qzh):List (Nat × Option Nat × EqT)→List VV→List VV→Option Bool
 | [],_,_=>some true
 | (off,sz,e)::ps,xs,ys=>match partV xs off sz,partV ys off sz with
  | some x,some y=>match aeqV Gl e x y with
   | some true=>aeqVs Gl ps xs ys
   | some false=>some false
   | none=>none
  | _,_=>none
end
def eqRV (Gl:qzh) (neg:Bool) (e:EqT):List VV→Option VV
 | [x,y]=>match aeqV Gl e x y with
  | some b=>some (.bool (if neg then !b else b))
  | none=>none
 | _=>none
def isKeyV (ks:Bool):VV→Bool
 | .str _=>ks
 | .int _ _ => !ks
 | _=>false
def keyEqV:VV→VV→Option Bool
 | .str a,.str b=>some (a == b)
 | .int k a,.int k' b=>if k=k' then some (a == b) else none
 | _,_=>none
def findV (key:VV):List VV→List VV→Option (Option VV)
 | [],[]=>some none
 | k::ks,v::vs=>match keyEqV key k with
  | some true=>some (some v)
  | some false=>findV key ks vs
  | none=>none
 | _,_=>none
def mapOf (h:VH):VV→Option (List VV × List VV)
 | .nilM=>some ([],[])
 | .map i=>match h.get i with
  | some (.map ks vs _)=>some (ks,vs)
  | _=>none
 | .fmap ks vs=>some (ks,vs)
 | _=>none
def lookupV (h:VH) (ks ok:Bool) (zero:AV):List VV→Option VV
 | [m,key]=>if isKeyV ks key then (match mapOf h m,cv zero with
  | some (l,r),some z=>match findV key l r with
   | some (some v)=>some (if ok then .tuple [v,.bool true] else v)
   | some none=>some (if ok then .tuple [z,.bool false] else z)
   | none=>none
  | _,_=>none) else none
 | _=>none
def lenMapV (h:VH):List VV→Option VV
 | [m]=>match mapOf h m with
  | some (l,_)=>some (.int .i64 l.length)
  | none=>none
 | _=>none
def winV (h:VH) (i o n:Nat):Option (List VV):=match h.get i with
 | some (.cells cs _)=>if o+n≤cs.length then some ((cs.drop o).take n) else none
 | _=>none
def bytesV:List VV→Option (List UInt8)
 | []=>some []
 | .int .u8 n::r=>match bytesV r with
  | some l=>some (UInt8.ofNat n.toNat::l)
  | none=>none
 | _::_=>none
def b2sV (h:VH):List VV→Option VV
 | [.nilS]=>some (.str [])
 | [.slice i o n _ _]=>match winV h i o n with
  | some cs=>match bytesV cs with
   | some l=>some (.str l)
   | none=>none
  | none=>none
 | [.fsl cs n e]=>if e=1 then (match bytesV cs with
   | some l=>some (.str l)
   | none=>none) else none
 | _=>none
def ropV (Gl:qzh) (h:VH) (q:ROp) (vs:List VV):Option VV :=
 match q with
 | .load sz=>loadV Gl h sz vs
 | .eq neg e=>eqRV Gl neg e vs
 | .lookup ks ok zero=>lookupV h ks ok zero vs
 | .lenMap=>lenMapV h vs
 | .b2s=>b2sV h vs
def repV (n:Nat) (l:List VV):List VV:=(List.replicate n l).flatten
def byteV (b:UInt8):VV := .int .u8 b.toNat
inductive VN where
 | ptr
 | slice (n esz:Nat) (c:ACap)
 | map
def VN.at:VN→Nat→VV
 | .ptr,i => .ptr i 0
 | .slice n e c,i => .slice i 0 n e c
 | .map,i => .map i
def boxV:List VV→Option (VB × VN)
 | [v]=>if ntV v=true then some (.cells v.cells false,.ptr) else none
 | _=>none
def mkSliceV (esz ebytes:Nat) (zero:List AV):List VV→Option (VB × VN)
 | [l,c]=>match qzk l,qzk c,cvs zero with
  | some l,some c,some z =>
   if zero.length=esz∧l≤c∧c < 9223372036854775808∧c*ebytes≤281474976710656 then
    some (.cells (repV l z) false,.slice l esz (if l=c then .exact c else .toEnd esz))
   else none
  | _,_,_=>none
 | _=>none
def s2bV:List VV→Option (VB × VN)
 | [.str s]=>if s.length < 9223372036854775808 then some (.cells (s.map byteV) false,.slice s.length 1 (.toEnd 1)) else none
 | _=>none
def nopV (q:NOp) (vs:List VV):Option (VB × VN) :=
 match q with
 | .alloc zero=>match vs,cvs zero with
  | [],some z=>some (.cells z false,.ptr)
  | _,_=>none
 | .box=>boxV vs
 | .bslice len zero places=>match cvs zero with
  | none=>none
  | some z=>match fillV z places vs with
   | some cs=>some (.cells cs false,.slice len (cs.length / len) (.exact len))
   | none=>none
 | .mkSlice esz ebytes zero=>mkSliceV esz ebytes zero vs
 | .mkMap=>some (.map [] [] false,.map)
 | .s2b=>s2bV vs
def storeV (h:VH) (i o:Nat) (v:List VV):Option VH :=
 match h.get i with
 | some (.cells cs false)=>if o+v.length≤cs.length then some (h.set i (.cells (spliceV cs o v) false)) else none
 | _=>none
def srcV (h:VH) (esz:Nat):VV→Option (Nat × List VV)
 | .nilS=>some (0,[])
 | .slice i o n e _=>if e=esz∨n=0 then (match winV h i o (n*esz) with
  | some cs=>some (n,cs)
  | none=>none) else none
 | .fsl cs n e=>if e=esz∨n=0 then some (n,cs) else none
 | .str s=>if esz=1 then some (s.length,s.map byteV) else none
 | _=>none
def appToV (esz:Nat) (s:VV) (m:Nat) (new:List VV) (h:VH):Option (VV × VH) :=
 match s with
 | .nilS=>some (.slice h.next 0 m esz (.toEnd esz),h.push (.cells new false))
 | .slice i o n e c=>if e=esz∨n=0 then (match c with
  | .exact c =>
   if n+m≤c then
    match storeV h i (o+n*esz) new with
    | some h'=>some (.slice i o (n+m) esz (.exact c),h')
    | none=>none
   else
    match winV h i o (n*esz) with
    | some old=>some (.slice h.next 0 (n+m) esz (.toEnd esz),h.push (.cells (old++new) false))
    | none=>none
  | .toEnd e' =>
   match h.get i with
   | some (.cells cs false) =>
    if e'=esz∧o+n*esz≤cs.length then
     some (.slice h.next 0 (n+m) esz (.toEnd esz),(h.kill i).push (.cells ((cs.drop o).take (n*esz)++new) false))
    else none
   | _=>none) else none
 | _=>none
def lenOfV:VV→Option Nat
 | .nilS=>some 0
 | .slice _ _ n _ _=>some n
 | .fsl _ n _=>some n
 | _=>none
def appendV (esz ebytes:Nat) (h:VH):List VV→Option (VV × VH)
 | [s,x]=>match srcV h esz x,lenOfV s with
  | some (0,_),some _=>some (s,h)
  | some (m+1,new),some n =>
   if (n+(m+1))*ebytes≤17592186044416∧n+(m+1) < 17592186044416∧0 < esz then appToV esz s (m+1) new h else none
  | _,_=>none
 | _=>none
def storeOpV (sz:Nat) (h:VH):List VV→Option (VV × VH)
 | [.ptr i o,v]=>if v.cells.length=sz∧ntV v=true then (match storeV h i o v.cells with
  | some h'=>some (undefV,h')
  | none=>none) else none
 | _=>none
def copyV (esz:Nat) (h:VH):List VV→Option (VV × VH)
 | [.slice i o n _ _,x]=>match srcV h esz x with
  | some (m,cs)=>match storeV h i o (cs.take (min m n*esz)) with
   | some h'=>some (.int .i64 (min m n:Nat),h')
   | none=>none
  | none=>none
 | _=>none
def mputV (key val:VV):List VV→List VV→Option (List VV × List VV)
 | [],[]=>some ([key],[val])
 | k::ks,v::vs=>match keyEqV key k with
  | some true=>some (key::ks,val::vs)
  | some false=>match mputV key val ks vs with
   | some (a,b)=>some (k::a,v::b)
   | none=>none
  | none=>none
 | _,_=>none
def mapUpdV (ks:Bool) (h:VH):List VV→Option (VV × VH)
 | [.map i,key,val]=>if isKeyV ks key then (match h.get i with
  | some (.map l r false)=>match mputV key val l r with
   | some (l',r')=>some (undefV,h.set i (.map l' r' false))
   | none=>none
  | _=>none) else none
 | _=>none
def markV (h:VH):List VV→Option (VV × VH)
 | [.slice i o (n+1) e c]=>match h.get i with
  | some (.cells cs false)=>some (.slice i o (n+1) e c,h)
  | _=>none
 | _=>none
def capOK (e n:Nat):ACap→Prop
 | .exact c=>n≤c
 | .toEnd e'=>e'=e
instance (e n:Nat) (c:ACap):Decidable (capOK e n c):=match c with
 | .exact c=>inferInstanceAs (Decidable (n≤c))
 | .toEnd e'=>inferInstanceAs (Decidable (e'=e))
mutual
def shut (h:VH):VV→Option VV
 | .ptr i o=>match h.get i with
  | some (.cells cs _)=>if closedL cs=true then some (.fptr cs o) else none
  | _=>none
 | .slice i o n e c=>match h.get i with
  | some (.cells cs _)=>if closedL cs=true∧o+n*e≤cs.length∧capOK e n c then some (.fsl ((cs.drop o).take (n*e)) n e) else none
  | _=>none
 | .map i=>match h.get i with
  | some (.map ks vs _)=>if closedL ks=true∧closedL vs=true then some (.fmap ks vs) else none
  | _=>none
 | .func f a b=>match shutL h a,shutL h b with
  | some x,some y=>some (.func f x y)
  | _,_=>none
 | .iface t v=>match shut h v with
  | some x=>some (.iface t x)
  | none=>none
 | .agg cs=>match shutL h cs with
  | some x=>some (.agg x)
  | none=>none
 | .tuple vs=>match shutL h vs with
  | some x=>some (.tuple x)
  | none=>none
 | v=>some v
def shutL (h:VH):List VV→Option (List VV)
 | []=>some []
 | v::l=>match shut h v with
  | none=>none
  | some x=>match shutL h l with
   | none=>none
   | some y=>some (x::y)
end
mutual
def idsV:VV→List Nat
 | .ptr i _=>[i]
 | .slice i _ _ _ _=>[i]
 | .map i=>[i]
 | .func _ a b=>idsL a++idsL b
 | .iface _ v=>idsV v
 | .agg cs=>idsL cs
 | .tuple vs=>idsL vs
 | _=>[]
def idsL:List VV→List Nat
 | []=>[]
 | v::l=>idsV v++idsL l
end
def VH.fix (h:VH):List Nat→VH
 | []=>h
 | i::l=>match h.get i with
  | some x=>(h.set i x.fix).fix l
  | none=>h.fix l
def shutS (f:VV→Option VV) (cs:List VV):Option (List VV):=if closedL cs=true then some cs else mapO f cs
def shutD:Nat→(Nat→Option VB)→VV→Option VV
 | 0,_,v=>if closedB v=true then some v else none
 | k+1,g,v=>if closedB v=true then some v else match v with
  | .ptr i o=>match g i with
   | some (.cells cs _)=>match shutS (shutD k g) cs with
    | some ds=>some (.fptr ds o)
    | none=>none
   | _=>none
  | .slice i o n e c=>match g i with
   | some (.cells cs _)=>if o+n*e≤cs.length∧capOK e n c then (match shutS (shutD k g) ((cs.drop o).take (n*e)) with
    | some ds=>some (.fsl ds n e)
    | none=>none) else none
   | _=>none
  | .map i=>match g i with
   | some (.map ks vs _)=>match shutS (shutD k g) ks,shutS (shutD k g) vs with
    | some a,some b=>some (.fmap a b)
    | _,_=>none
   | _=>none
  | .iface t x=>match shutD k g x with
   | some y=>some (.iface t y)
   | none=>none
  | .agg cs=>match mapO (shutD k g) cs with
   | some ds=>some (.agg ds)
   | none=>none
  | .tuple cs=>match mapO (shutD k g) cs with
   | some ds=>some (.tuple ds)
   | none=>none
  | _=>none
mutual
def subV:VV→VV→Prop
 | .nilS,y=>y = .nilS∨∃ e,y = .fsl [] 0 e
 | .agg a,y=>∃ b,y = .agg b∧subL a b
 | .tuple a,y=>∃ b,y = .tuple b∧subL a b
 | .iface t x,y=>∃ z,y = .iface t z∧subV x z
 | .fptr cs o,y=>∃ ds,y = .fptr ds o∧subL cs ds
 | .fsl cs n e,y=>∃ ds,y = .fsl ds n e∧subL cs ds
 | .bool b,y=>y = .bool b
 | .int k n,y=>y = .int k n
 | .str s,y=>y = .str s
 | .nilP,y=>y = .nilP
 | .ptr i o,y=>y = .ptr i o
 | .gptr i o,y=>y = .gptr i o
 | .slice i o n e c,y=>y = .slice i o n e c
 | .nilM,y=>y = .nilM
 | .map i,y=>y = .map i
 | .fmap a b,y=>y = .fmap a b
 | .func f a b,y=>y = .func f a b
 | .nilF,y=>y = .nilF
 | .nilI,y=>y = .nilI
def subL:List VV→List VV→Prop
 | [],y=>y=[]
 | x::xs,y=>∃ z zs,y=z::zs∧subV x z∧subL xs zs
end
end
end Go.VL
