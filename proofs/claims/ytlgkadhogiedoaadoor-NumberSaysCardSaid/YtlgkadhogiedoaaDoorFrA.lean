/- The fast run: plain values, a heap of named blocks, a small code, and how it is run. Nothing of Go's memory model stands in it. -/
import GoSem.Core.View
set_option linter.unusedSimpArgs false
set_option linter.unusedVariables false
namespace Go.FR
inductive ACap where
 | exact (n:Nat)
 | toEnd (esz:Nat)
 deriving Inhabited,DecidableEq
inductive AV where
 | bool (b:Bool)
 | int (k:IntKind) (n:Int)
 | str (s:List UInt8)
 | ptr (a:Option (Nat × Nat))
 | slice (a:Option (Nat × Nat)) (len:Nat) (cap:ACap)
 | map (r:Option Nat)
 | func (f:Nat) (first captured:List AV)
 | nilFunc
 | iface (t:Nat) (v:AV)
 | nilIface
 | agg (cells:List AV)
 | tuple (vs:List AV)
 deriving Inhabited
def AV.cells:AV→List AV
 | .agg cs=>cs
 | v=>[v]
def undefA:AV := .tuple []
inductive Tr (α:Type) where
 | nil
 | node (v:Option α) (l r:Tr α)
 deriving Inhabited
namespace Tr
variable {α:Type}
noncomputable def get (t:Tr α):Nat→Option α :=
 Tr.rec (motive:=fun _=>Nat→Option α) (fun _=>none)
  (fun v _ _ gl gr n=>Nat.rec (motive:=fun _=>Option α) v (fun m _=>cond (Nat.beq (Nat.mod m 2) 0) (gl (Nat.div m 2)) (gr (Nat.div m 2))) n) t
noncomputable def mk (f:Nat):Nat→Option α→Tr α :=
 Nat.rec (motive:=fun _=>Nat→Option α→Tr α) (fun _ _=>nil)
  (fun _ ih n v=>Nat.rec (motive:=fun _=>Tr α) (node v nil nil) (fun m _=>cond (Nat.beq (Nat.mod m 2) 0) (node none (ih (Nat.div m 2) v) nil) (node none nil (ih (Nat.div m 2) v))) n) f
noncomputable def setO (t:Tr α):Nat→Option α→Tr α :=
 Tr.rec (motive:=fun _=>Nat→Option α→Tr α) (fun n v=>mk (Nat.succ n) n v)
  (fun a l r sl sr n v=>Nat.rec (motive:=fun _=>Tr α) (node v l r) (fun m _=>cond (Nat.beq (Nat.mod m 2) 0) (node a (sl (Nat.div m 2) v) r) (node a l (sr (Nat.div m 2) v))) n) t
noncomputable def set (t:Tr α) (n:Nat) (v:α):Tr α:=setO t n (some v)
noncomputable def del (t:Tr α) (n:Nat):Tr α:=setO t n none
theorem get_nil (n:Nat):(nil:Tr α).get n=none:=by rfl
theorem get_zero (v:Option α) (l r:Tr α):(node v l r).get 0=v:=rfl
theorem get_even {m:Nat} (h:m % 2=0) (v:Option α) (l r:Tr α):(node v l r).get (m+1)=l.get (m / 2):=by
 have hb:Nat.beq (Nat.mod m 2) 0=true:=(by rw [Nat.beq_eq];exact h)
 show cond (Nat.beq (Nat.mod m 2) 0) (l.get (Nat.div m 2)) (r.get (Nat.div m 2))=_
 rw [hb];rfl
theorem get_odd {m:Nat} (h:m % 2≠0) (v:Option α) (l r:Tr α):(node v l r).get (m+1)=r.get (m / 2):=by
 have hb:Nat.beq (Nat.mod m 2) 0=false:=by
  cases hc:Nat.beq (Nat.mod m 2) 0 with
  | false=>rfl
  | true=>exact (h (Nat.eq_of_beq_eq_true hc)).elim
 show cond (Nat.beq (Nat.mod m 2) 0) (l.get (Nat.div m 2)) (r.get (Nat.div m 2))=_
 rw [hb];rfl
theorem mk_even {f n:Nat} (h:n % 2=0) (v:Option α):mk (f+1) (n+1) v=node none (mk f (n / 2) v) nil:=by
 have hb:Nat.beq (Nat.mod n 2) 0=true:=(by rw [Nat.beq_eq];exact h)
 show cond (Nat.beq (Nat.mod n 2) 0) (node none (mk f (Nat.div n 2) v) nil) (node none nil (mk f (Nat.div n 2) v))=_
 rw [hb];rfl
theorem mk_odd {f n:Nat} (h:n % 2≠0) (v:Option α):mk (f+1) (n+1) v=node none nil (mk f (n / 2) v):=by
 have hb:Nat.beq (Nat.mod n 2) 0=false:=by
  cases hc:Nat.beq (Nat.mod n 2) 0 with
  | false=>rfl
  | true=>exact (h (Nat.eq_of_beq_eq_true hc)).elim
 show cond (Nat.beq (Nat.mod n 2) 0) (node none (mk f (Nat.div n 2) v) nil) (node none nil (mk f (Nat.div n 2) v))=_
 rw [hb];rfl
theorem setO_even {n:Nat} (h:n % 2=0) (a v:Option α) (l r:Tr α):setO (node a l r) (n+1) v=node a (setO l (n / 2) v) r:=by
 have hb:Nat.beq (Nat.mod n 2) 0=true:=(by rw [Nat.beq_eq];exact h)
 show cond (Nat.beq (Nat.mod n 2) 0) (node a (setO l (Nat.div n 2) v) r) (node a l (setO r (Nat.div n 2) v))=_
 rw [hb];rfl
theorem setO_odd {n:Nat} (h:n % 2≠0) (a v:Option α) (l r:Tr α):setO (node a l r) (n+1) v=node a l (setO r (n / 2) v):=by
 have hb:Nat.beq (Nat.mod n 2) 0=false:=by
  cases hc:Nat.beq (Nat.mod n 2) 0 with
  | false=>rfl
  | true=>exact (h (Nat.eq_of_beq_eq_true hc)).elim
 show cond (Nat.beq (Nat.mod n 2) 0) (node a (setO l (Nat.div n 2) v) r) (node a l (setO r (Nat.div n 2) v))=_
 rw [hb];rfl
theorem get_mk:∀ (f n:Nat) (v:Option α) (m:Nat),n < f→(mk f n v).get m=if m=n then v else none
 | 0,n,v,m,h=>by omega
 | f+1,0,v,m,h=>by
  show (node v nil nil).get m=_
  cases m with
  | zero=>rfl
  | succ m =>
   by_cases hc:m % 2=0
   ·rw [get_even hc];simp [get_nil]
   ·rw [get_odd hc];simp [get_nil]
 | f+1,n+1,v,m,h=>by
  by_cases hb:n % 2=0
  ·rw [mk_even hb]
   cases m with
   | zero=>rw [get_zero];simp
   | succ m =>
    by_cases hc:m % 2=0
    ·rw [get_even hc,get_mk f (n / 2) v (m / 2) (by omega)]
     by_cases e:m / 2=n / 2
     ·rw [if_pos e,if_pos (by omega)]
     ·rw [if_neg e,if_neg (by omega)]
    ·rw [get_odd hc,get_nil,if_neg (by omega)]
  ·rw [mk_odd hb]
   cases m with
   | zero=>rw [get_zero];simp
   | succ m =>
    by_cases hc:m % 2=0
    ·rw [get_even hc,get_nil,if_neg (by omega)]
    ·rw [get_odd hc,get_mk f (n / 2) v (m / 2) (by omega)]
     by_cases e:m / 2=n / 2
     ·rw [if_pos e,if_pos (by omega)]
     ·rw [if_neg e,if_neg (by omega)]
theorem get_setO:∀ (t:Tr α) (n:Nat) (v:Option α) (m:Nat),(setO t n v).get m=if m=n then v else t.get m
 | nil,n,v,m=>by
  show (mk (Nat.succ n) n v).get m=_
  rw [get_mk _ _ _ _ (Nat.lt_succ_self n),get_nil]
 | node a l r,0,v,m=>by
  show (node v l r).get m=_
  cases m with
  | zero=>rfl
  | succ m =>
   rw [if_neg (by omega)]
   by_cases hc:m % 2=0
   ·rw [get_even hc,get_even hc]
   ·rw [get_odd hc,get_odd hc]
 | node a l r,n+1,v,m=>by
  by_cases hb:n % 2=0
  ·rw [setO_even hb]
   cases m with
   | zero=>rw [get_zero,get_zero,if_neg (by omega)]
   | succ m =>
    by_cases hc:m % 2=0
    ·rw [get_even hc,get_even hc,get_setO l (n / 2) v (m / 2)]
     by_cases e:m / 2=n / 2
     ·rw [if_pos e,if_pos (by omega)]
     ·rw [if_neg e,if_neg (by omega)]
    ·rw [get_odd hc,get_odd hc,if_neg (by omega)]
  ·rw [setO_odd hb]
   cases m with
   | zero=>rw [get_zero,get_zero,if_neg (by omega)]
   | succ m =>
    by_cases hc:m % 2=0
    ·rw [get_even hc,get_even hc,if_neg (by omega)]
    ·rw [get_odd hc,get_odd hc,get_setO r (n / 2) v (m / 2)]
     by_cases e:m / 2=n / 2
     ·rw [if_pos e,if_pos (by omega)]
     ·rw [if_neg e,if_neg (by omega)]
theorem get_set (t:Tr α) (n:Nat) (v:α) (m:Nat):(t.set n v).get m=if m=n then some v else t.get m:=get_setO t n (some v) m
theorem get_del (t:Tr α) (n m:Nat):(t.del n).get m=if m=n then none else t.get m:=get_setO t n none m
end Tr
end Go.FR
