/- The fast run: a number that is not known, where it is turned into one of a few. -/
import Derived.Test.YtlgkadhogiedoaaDoorFrS
set_option linter.unusedSimpArgs false
set_option linter.unusedVariables false
namespace Go.FR
noncomputable section
open Go
def splitOps (j:Nat):List AOp→Option (List AOp × AOp × List AOp)
 | []=>none
 | x::l=>match (match x.dst with | some d=>Nat.beq d j | none=>false) with
  | true=>some ([],x,l)
  | false=>match splitOps j l with
   | some (p,o,q)=>some (x::p,o,q)
   | none=>none
def splitC (j:Nat):AC→Option (AC × AOp × AC)
 | .ops l=>match splitOps j l with
  | some (p,o,q)=>some (.ops p,o,.ops q)
  | none=>none
 | .seq a b=>match splitC j a with
  | some (p,o,q)=>some (p,o,.seq q b)
  | none=>match splitC j b with
   | some (p,o,q)=>some (.seq a p,o,q)
   | none=>none
 | _=>none
def fin (res:List ARes):Option (AEx × Fr × Heap)→Option (AV × Heap)
 | some (.normal,T',H')=>match ressA T' H' res with
  | some vs=>some (tupA vs,H')
  | none=>none
 | some (.ret,T',H')=>match ressA T' H' res with
  | some vs=>some (tupA vs,H')
  | none=>none
 | _=>none
def isT:Option (AV × Heap)→Bool
 | some (.bool true,_)=>true
 | _=>false
def allK (f:Int→Bool):Nat→Bool
 | 0=>true
 | n+1=>match f (Int.ofNat n) with
  | true=>allK f n
  | false=>false
def stT:Option (AEx × Fr × Heap)→Fr
 | some (_,T,_)=>T
 | none => .nil
def stH:Option (AEx × Fr × Heap)→Heap
 | some (_,_,H)=>H
 | none=>⟨.nil,0⟩
def wrapK (a n:Int):Int:=(IntKind.wrap .i64 (a.tmod n+n)).tmod n
end
end Go.FR
