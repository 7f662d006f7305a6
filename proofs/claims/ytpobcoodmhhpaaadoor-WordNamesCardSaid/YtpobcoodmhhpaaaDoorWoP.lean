import Derived.Test.YtpobcoodmhhpaaaDoorWoF
import Derived.Test.YtpobcoodmhhpaaaDoorVlN
import Derived.Test.YtpobcoodmhhpaaaDoorVlK
import Derived.Test.YtpobcoodmhhpaaaDoorVlJ
import Derived.Test.YtpobcoodmhhpaaaDoorIrA
set_option linter.unusedSimpArgs false
set_option linter.unusedVariables false
namespace Go.VL.Wo
open Go.FR Go.IR Go.VL Go.VL.Er
noncomputable section
theorem globs_none (tp:Nat):∀ (l:List Er) (n i:Nat),n+2*l.length≤i→qze (globsFrom tp n l) i=none
 | [],n,i,_=>rfl
 | e::l,n,i,h=>by
  simp only [List.length_cons] at h
  simp only [globsFrom,qze]
  rw [if_neg (by omega),if_neg (by omega)]
  exact globs_none tp l (n+2) i (by omega)
theorem all_keep {Gl:qzg} {n:Nat} {x:List VV} (h:GlAll Gl):GlAll (Gl++[(n,x)]):=fun k hk=>by
 obtain ⟨h1,h2⟩:=h k hk
 refine ⟨look_keep h1,?_⟩
 cases q:qze Gl (2*k+1) with
 | none=>rw [q] at h2;cases h2
 | some y=>rw [look_keep q];rfl
theorem sp_eq:spZ.map (VV.int .u8)=spTab:=by
 unfold spZ spTab
 rw [List.map_map];rfl
theorem gl_sp {l:List Er} (h:l.length=13):GlAll (globsOf t_p_errors_errorString l++[(26,spZ.map (VV.int .u8))])∧GlSp (globsOf t_p_errors_errorString l++[(26,spZ.map (VV.int .u8))]):=by
 refine ⟨all_keep (glob_all (by omega)),?_⟩
 unfold GlSp
 rw [sp_eq]
 exact look_new (n:=26) (globs_none _ l 0 26 (by omega))
end
end Go.VL.Wo
namespace Go.VL.Wire
open Go.FR Go.IR Go.VL
noncomputable section
set_option maxRecDepth 100000
set_option maxHeartbeats 1000000
abbrev E:=lookE envL
def putS (n:Nat):List Nat:=if n < 128 then [n] else (n % 128+128)::putS (n / 128)
termination_by n
decreasing_by omega
abbrev cB (b:Nat):List VV:=[.int .u8 (b:Int)]
theorem cB_len (b:Nat):(cB b).length=1:=rfl
theorem AccE.ext {α:Type} {base:Nat} {h h':VH} {j:Nat} {f:α→List VV} {l:List α} {esz:Nat} {v:VV} (a:AccE base h j f l esz v) (hn:h.next≤h'.next) (hl:base≤j→j < h.next→qze h'.l j=qze h.l j):AccE base h' j f l esz v:=by
 rcases a with a | ⟨e,a1,a2,a3,a4,a5⟩
 ·exact .inl (a.ext hn hl)
 ·exact .inr ⟨e,a1,a2,by rw [hl a4 a5];exact a3,a4,by omega⟩
def zigS (z:Int):Nat:=if z < 0 then (-2*z - 1).toNat else (2*z).toNat
end
end Go.VL.Wire
namespace Go.VL.Wind
open Go.FR Go.IR Go.VL
noncomputable section
set_option maxRecDepth 100000
set_option maxHeartbeats 1000000
abbrev w64 (n:Int):Int:=IntKind.i64.wrap n
structure Pt where
 x:Int
 y:Int
deriving DecidableEq
structure Edge where
 a:Pt
 b:Pt
abbrev cPt (p:Pt):List VV:=[.int .i64 p.x,.int .i64 p.y]
abbrev cEdge (e:Edge):List VV:=[.int .i64 e.a.x,.int .i64 e.a.y,.int .i64 e.b.x,.int .i64 e.b.y]
abbrev sEdges (l:List Edge):VV := .fsl (flatL cEdge l) l.length 4
abbrev E:=lookE envL
def crossS (a b p:Pt):Int:=w64 (w64 (w64 (b.x - a.x)*w64 (p.y - a.y)) - w64 (w64 (b.y - a.y)*w64 (p.x - a.x)))
def oneS (e:Edge) (p:Pt):Int :=
 if e.a.y≤p.y∧e.b.y > p.y∧crossS e.a e.b p > 0 then 1 else if e.b.y≤p.y∧e.a.y > p.y∧crossS e.a e.b p < 0 then -1 else 0
def numS (l:List Edge) (p:Pt) (n:Int):Int:=l.foldl (fun n e=>w64 (n+oneS e p)) n
def insS (l:List Edge) (rule:Int) (p:Pt):Bool:=if rule=0 then (numS l p 0).tmod 2 != 0 else numS l p 0 != 0
attribute [local go_sem] cEdge cPt
end
end Go.VL.Wind
namespace Go.VL.Wind
open Go.FR Go.IR Go.VL
noncomputable section
set_option maxRecDepth 100000
set_option maxHeartbeats 1000000
abbrev cSeq (l:List Int) (at_:Nat):List VV:=[.fsl (l.map (VV.int .i64)) l.length 1,.int .i64 at_]
abbrev bSeq (l:List Int) (at_:Nat):VB := .cells (cSeq l at_) false
def numbS (n below:Int):Int:=if n.tmod below < 0 then n.tmod below+below else n.tmod below
theorem numb_in (n below:Int) (h:0 < below):0≤numbS n below∧numbS n below < below:=by
 unfold numbS
 have h1:=Int.lt_tmod_of_pos n h
 have h2:=Int.tmod_lt_of_pos n h
 split<;>omega
attribute [local go_sem] cEdge cPt cSeq
theorem numb_ok (Gl:qzg) (n below:Int) (h:0 < below) (hb:below < 9223372036854775807):qzf E Gl f_glyphicworld_Number [.int .i64 n,.int .i64 below] (.int .i64 (numbS n below)):=by
 refine qzd (qzc E_glyphicworld_Number ?_)
 unfold c_glyphicworld_Number r_glyphicworld_Number numbS
 simp only [qzh]
 have h0:¬below=0:=by omega
 have h1:=Int.lt_tmod_of_pos n h
 have h2:=Int.tmod_lt_of_pos n h
 by_cases c:n.tmod below < 0
 ·have w:IntKind.i64.wrap (n.tmod below+below)=n.tmod below+below:=qzi (by omega) (by omega)
  simp only [simprocAttr,-Int.reduceNatCast',go_sem,h0,c,w]
  exact qza rfl
 ·simp only [simprocAttr,-Int.reduceNatCast',go_sem,h0,c]
  exact qza rfl
def pickS (l:List Int) (at_:Nat):Int:=if at_ < l.length then l.getD at_ 0 else 0
def nextS (l:List Int) (at_:Nat) (below:Int):Int:=numbS (pickS l at_) below
def pointS (l:List Int) (at_:Nat) (far:Int):Pt:=⟨nextS l at_ (2*far+1) - far,nextS l (at_+1) (2*far+1) - far⟩
def edgesS (l:List Int):Nat→Nat→Int→List Edge
 | 0,_,_=>[]
 | n+1,at_,far=>⟨pointS l at_ far,pointS l (at_+2) far⟩::edgesS l n (at_+4) far
def chainS (l:List Int) (far:Int):Nat→Nat→Pt→List Edge
 | 0,_,_=>[]
 | n+1,at_,p=>⟨p,pointS l at_ far⟩::chainS l far n (at_+2) (pointS l at_ far)
def lastS (l:List Int) (far:Int):Nat→Nat→Pt→Pt
 | 0,_,p=>p
 | n+1,at_,p=>lastS l far n (at_+2) (pointS l at_ far)
def ringS (l:List Int) (n at_:Nat) (far:Int):List Edge :=
 chainS l far (n - 1) (at_+2) (pointS l at_ far)++[⟨lastS l far (n - 1) (at_+2) (pointS l at_ far),pointS l at_ far⟩]
end
end Go.VL.Wind
