/- The fast run: the same run, where each value is reckoned as soon as it is put. -/
import Derived.Test.YtgebbopcagmmkaaDoorFrT
namespace Go.FR
noncomputable section
open Go
set_option linter.unusedVariables false
set_option linter.unusedSimpArgs false

universe u
variable {β : Type}

def forceN (n : Nat) (k : Nat → β) : β := Nat.rec (motive := fun _ => β) (k 0) (fun m _ => k (Nat.succ m)) n
theorem forceN_eq (n : Nat) (k : Nat → β) : forceN n k = k n := by cases n <;> rfl

def forceI (n : Int) (k : Int → β) : β := Int.rec (motive := fun _ => β) (fun m => forceN m fun m => k (Int.ofNat m)) (fun m => forceN m fun m => k (Int.negSucc m)) n
theorem forceI_eq (n : Int) (k : Int → β) : forceI n k = k n := by cases n <;> simp [forceI, forceN_eq]

def forceL {α : Type} (l : List α) : (List α → β) → β := List.rec (motive := fun _ => (List α → β) → β) (fun k => k []) (fun x _ ih k => ih fun l => k (x :: l)) l
theorem forceL_eq {α : Type} : ∀ (l : List α) (k : List α → β), forceL l k = k l
  | [], k => rfl
  | x :: l, k => forceL_eq l fun l => k (x :: l)

def forceB (b : Bool) (k : Bool → β) : β := Bool.rec (motive := fun _ => β) (k false) (k true) b
theorem forceB_eq (b : Bool) (k : Bool → β) : forceB b k = k b := by cases b <;> rfl

/-- A plain value's number. -/
def forceV (v : AV) (k : AV → β) : β := match v with
  | .int i n => forceI n fun n => k (.int i n)
  | .bool b => forceB b fun b => k (.bool b)
  | .slice a n c => forceN n fun n => k (.slice a n c)
  | .str s => forceL s fun s => k (.str s)
  | v => k v
theorem forceV_eq (v : AV) (k : AV → β) : forceV v k = k v := by cases v <;> simp [forceV, forceI_eq, forceB_eq, forceN_eq, forceL_eq]

def forceC (l : List AV) : (List AV → β) → β := List.rec (motive := fun _ => (List AV → β) → β) (fun k => k []) (fun x _ ih k => forceV x fun x => ih fun l => k (x :: l)) l
theorem forceC_eq : ∀ (l : List AV) (k : List AV → β), forceC l k = k l
  | [], k => rfl
  | x :: l, k => by
    show forceV x (fun x => forceC l fun l => k (x :: l)) = _
    rw [forceV_eq, forceC_eq l]

def forceA (v : AV) (k : AV → β) : β := match v with
  | .agg cs => forceC cs fun cs => k (.agg cs)
  | .tuple cs => forceC cs fun cs => k (.tuple cs)
  | v => forceV v k
theorem forceA_eq (v : AV) (k : AV → β) : forceA v k = k v := by cases v <;> simp [forceA, forceV_eq, forceC_eq]

def forceK (x : ABlk) (k : ABlk → β) : β := match x with
  | .cells cs rw str => forceC cs fun cs => k (.cells cs rw str)
  | .map es => forceL es fun es => k (.map es)
theorem forceK_eq (x : ABlk) (k : ABlk → β) : forceK x k = k x := by cases x <;> simp [forceK, forceC_eq, forceL_eq]

/-! What writes, strictly. -/

def storeS (H : Heap) (a : Nat × Nat) (v : List AV) : Option Heap :=
  match H.get a.1 with
  | some (.cells cs true str) => if a.2 + v.length ≤ cs.length then forceC (splice cs a.2 v) fun cs => some (H.set a.1 (.cells cs true str)) else none
  | _ => none
theorem storeS_eq (H : Heap) (a : Nat × Nat) (v : List AV) : storeS H a v = storeAt H a v := by
  unfold storeS storeAt
  simp only [forceC_eq]
  rfl

def appendToS (esz : Nat) (base : Option (Nat × Nat)) (cap : ACap) (len need : Nat) (new : List AV) (H : Heap) : Option (AV × Heap) :=
  match base with
  | none => match cap with
    | .exact _ => forceC new fun new => some (.slice (some (H.next, 0)) need (.toEnd esz), H.push (.cells new true false))
    | .toEnd _ => none
  | some a => match cap with
    | .exact c =>
      if need ≤ c then
        match storeS H (a.1, a.2 + len * esz) new with
        | some H' => some (.slice base need cap, H')
        | none => none
      else
        match cellsAt H a (len * esz) with
        | some old => forceC (old ++ new) fun cs => some (.slice (some (H.next, 0)) need (.toEnd esz), H.push (.cells cs true false))
        | none => none
    | .toEnd e =>
      match H.get a.1 with
      | some (.cells cs true str) =>
        if e = esz ∧ a.2 + len * esz ≤ cs.length then
          forceC ((cs.drop a.2).take (len * esz) ++ new) fun cs => some (.slice (some (H.next, 0)) need (.toEnd esz), (H.kill a.1).push (.cells cs true str))
        else none
      | _ => none
theorem appendToS_eq (esz : Nat) (base : Option (Nat × Nat)) (cap : ACap) (len need : Nat) (new : List AV) (H : Heap) : appendToS esz base cap len need new H = appendTo esz base cap len need new H := by
  unfold appendToS appendTo
  simp only [forceC_eq, storeS_eq]
  rfl

def appendS (esz ebytes : Nat) (s x : AV) (H : Heap) : Option (AV × Heap) :=
  match s with
  | .slice base len cap => match srcCells H esz x with
    | some (0, _) => some (.slice base len cap, H)
    | some (n + 1, new) =>
      if (len + (n + 1)) * ebytes ≤ 17592186044416 ∧ len + (n + 1) < 17592186044416 ∧ 0 < esz then
        appendToS esz base cap len (len + (n + 1)) new H
      else none
    | none => none
  | _ => none
theorem appendS_eq (esz ebytes : Nat) (s x : AV) (H : Heap) : appendS esz ebytes s x H = appendA esz ebytes s x H := by
  unfold appendS appendA
  simp only [appendToS_eq]
  rfl

def wopS (call : CallT) (q : WOp) (vs : List AV) (H : Heap) : Option (AV × Heap) :=
  match q with
  | .store sz => (match vs with
    | [.ptr (some a), v] => if v.cells.length = sz ∧ ntA v = true then
        match storeS H a v.cells with
        | some H' => some (undefA, H')
        | none => none
      else none
    | _ => none)
  | .append esz ebytes => (match vs with
    | [s, x] => appendS esz ebytes s x H
    | _ => none)
  | .callF f => call f vs H
  | q => wop call q vs H
theorem wopS_eq (call : CallT) (q : WOp) (vs : List AV) (H : Heap) : wopS call q vs H = wop call q vs H := by
  cases q with
  | store sz =>
    simp only [wopS, storeS_eq]
    split
    · rfl
    · rename_i h
      unfold wop
      split <;> first | rfl | (exfalso; simp_all; done)
  | append e b =>
    simp only [wopS, appendS_eq]
    split
    · rfl
    · rename_i h
      unfold wop
      split <;> first | rfl | (exfalso; simp_all; done)
  | callF f => rfl
  | _ => rfl

def stepS (call : CallT) (o : AOp) (T : Fr) (H : Heap) : Option (Fr × Heap) :=
  match wanted T o.guard with
  | none => none
  | some false => some (put T o.dst undefA, H)
  | some true => match opds T o.args with
    | none => none
    | some vs => match o.k with
      | .p q => match pop q vs with
        | some v => forceA v fun v => some (put T o.dst v, H)
        | none => none
      | .r q => match rop q vs H with
        | some v => forceA v fun v => some (put T o.dst v, H)
        | none => none
      | .n q => match nop q vs with
        | some (x, res) => forceK x fun x => some (put T o.dst (res.at H.next), H.push x)
        | none => none
      | .w q => match wopS call q vs H with
        | some (v, H') => forceA v fun v => some (put T o.dst v, H')
        | none => none
theorem stepS_eq (call : CallT) (o : AOp) (T : Fr) (H : Heap) : stepS call o T H = step call o T H := by
  unfold stepS step
  simp only [forceA_eq, forceK_eq, wopS_eq]
  rfl

def runOpsS (call : CallT) : List AOp → Fr → Heap → Option (Fr × Heap)
  | [], T, H => some (T, H)
  | o :: l, T, H => match stepS call o T H with
    | some (T', H') => runOpsS call l T' H'
    | none => none
theorem runOpsS_eq (call : CallT) : ∀ (l : List AOp) (T : Fr) (H : Heap), runOpsS call l T H = runOps call l T H
  | [], T, H => rfl
  | o :: l, T, H => by
    simp only [runOpsS, runOps, stepS_eq]
    cases step call o T H with
    | none => rfl
    | some r => exact runOpsS_eq call l r.1 r.2

def stepDS (call : CallT) (base : Nat) (x : AOp × Nat) (T : Fr) (H : Heap) (snaps : List Heap) : Option (Fr × Heap × List Heap) :=
  let o := x.1
  match wanted T o.guard with
  | none => none
  | some false => some (put T o.dst undefA, H, snaps)
  | some true => match opds T o.args with
    | none => none
    | some vs => match o.k with
      | .p q => match pop q vs with
        | some v => forceA v fun v => some (put T o.dst v, H, snaps)
        | none => none
      | .r q => match ropAt q vs (snaps.take (x.2 + 1)) with
        | some v => forceA v fun v => some (put T o.dst v, H, snaps)
        | none => none
      | .n q => match nop q vs with
        | some (b, res) => forceK b fun b => some (put T o.dst (res.at (base + x.2)), H.set (base + x.2) b, snaps)
        | none => none
      | .w q => match wopS call q vs H with
        | some (v, H') => forceA v fun v => some (put T o.dst v, H', H' :: snaps)
        | none => none
theorem stepDS_eq (call : CallT) (base : Nat) (x : AOp × Nat) (T : Fr) (H : Heap) (S : List Heap) : stepDS call base x T H S = stepD call base x T H S := by
  unfold stepDS stepD
  simp only [forceA_eq, forceK_eq, wopS_eq]
  rfl

def runDS (call : CallT) (base : Nat) : List (AOp × Nat) → Fr → Heap → List Heap → Option (Fr × Heap)
  | [], T, H, _ => some (T, H)
  | x :: l, T, H, snaps => match stepDS call base x T H snaps with
    | some (T', H', snaps') => runDS call base l T' H' snaps'
    | none => none
theorem runDS_eq (call : CallT) (base : Nat) : ∀ (l : List (AOp × Nat)) (T : Fr) (H : Heap) (S : List Heap), runDS call base l T H S = runD call base l T H S
  | [], T, H, S => rfl
  | o :: l, T, H, S => by
    simp only [runDS, runD, stepDS_eq]
    cases stepD call base o T H S with
    | none => rfl
    | some r => exact runDS_eq call base l r.1 r.2.1 r.2.2

def execS (call : CallT) (N : Nat) : AC → Fr → Heap → Option (AEx × Fr × Heap)
  | .skip, T, H => some (.normal, T, H)
  | .ops l, T, H => match runOpsS call l T H with
    | some (T', H') => some (.normal, T', H')
    | none => none
  | .draw l, T, H => match runDS call H.next l T (H.reserve (countN l)) [H.reserve (countN l)] with
    | some (T', H') => some (.normal, T', H')
    | none => none
  | .seq a b, T, H => match execS call N a T H with
    | some (.normal, T', H') => execS call N b T' H'
    | r => r
  | .cond c a b, T, H => match opd T c with
    | some (.bool true) => execS call N a T H
    | some (.bool false) => execS call N b T H
    | _ => none
  | .block id a, T, H => match execS call N a T H with
    | some (.exit i, T', H') => match Nat.beq i id with
      | true => some (.normal, T', H')
      | false => some (.exit i, T', H')
    | r => r
  | .loop a, T, H => iter (execS call N a) N T H
  | .exit id, T, H => some (.exit id, T, H)
  | .ret, T, H => some (.ret, T, H)
theorem execS_eq (call : CallT) (N : Nat) : ∀ (c : AC), execS call N c = exec call N c
  | .skip => rfl
  | .ops l => by funext T H; simp only [execS, exec, runOpsS_eq]; rfl
  | .draw l => by funext T H; simp only [execS, exec, runDS_eq]; rfl
  | .seq a b => by funext T H; simp only [execS, exec, execS_eq call N a, execS_eq call N b]; rfl
  | .cond c a b => by funext T H; simp only [execS, exec, execS_eq call N a, execS_eq call N b]; rfl
  | .block id a => by funext T H; simp only [execS, exec, execS_eq call N a]; rfl
  | .loop a => by funext T H; simp only [execS, exec, execS_eq call N a]
  | .exit id => rfl
  | .ret => rfl

def callNS (fn : Nat → Option AFunc) : Nat → CallT
  | 0, _, _, _ => none
  | n + 1, f, args, H => match fn f with
    | none => none
    | some (.prim p) => primA p args H
    | some (.code body res) => fin res (execS (callNS fn n) n body (initT 0 args .nil) H)
theorem callNS_eq (fn : Nat → Option AFunc) : ∀ n, callNS fn n = callN fn n
  | 0 => rfl
  | n + 1 => by
    funext f args H
    simp only [callNS, callN, callNS_eq fn n, execS_eq]
    cases fn f with
    | none => rfl
    | some x => cases x <;> rfl

end
end Go.FR
