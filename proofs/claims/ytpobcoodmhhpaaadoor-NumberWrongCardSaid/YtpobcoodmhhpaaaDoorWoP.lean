import Derived.Test.YtpobcoodmhhpaaaDoorNuG
import Derived.Test.YtpobcoodmhhpaaaDoorVlN
import Derived.Test.YtpobcoodmhhpaaaDoorVlK
set_option linter.unusedSimpArgs false
set_option linter.unusedVariables false
namespace Go.VL.Wo
open Go.FR Go.IR Go.VL Go.VL.Er
noncomputable section
theorem globs_none (tp:Nat):∀ (l:List Er) (n i:Nat),n+2*l.length≤i→qzi (globsFrom tp n l) i=none
 | [],n,i,_=>rfl
 | e::l,n,i,h=>by
  simp only [List.length_cons] at h
  simp only [globsFrom,qzi]
  rw [if_neg (by omega),if_neg (by omega)]
  exact globs_none tp l (n+2) i (by omega)
theorem all_keep {Gl:qzh} {n:Nat} {x:List VV} (h:GlAll Gl):GlAll (Gl++[(n,x)]):=fun k hk=>by
 obtain ⟨h1,h2⟩:=h k hk
 refine ⟨look_keep h1,?_⟩
 cases q:qzi Gl (2*k+1) with
 | none=>rw [q] at h2;cases h2
 | some y=>rw [look_keep q];rfl
end
end Go.VL.Wo
namespace Go.VL.Nu
open Go.FR Go.IR Go.VL Go.VL.Er Go.VL.Wo
noncomputable section
theorem pow_eq:powZ.map (VV.int .u64)=powTab:=by
 unfold powZ powTab
 rw [List.map_map];rfl
theorem gl_pow {l:List Er} (h:l.length=13):GlAll (globsOf t_p_errors_errorString l++[(26,powZ.map (VV.int .u64))])∧GlPow (globsOf t_p_errors_errorString l++[(26,powZ.map (VV.int .u64))]):=by
 refine ⟨all_keep (glob_all (by omega)),?_⟩
 unfold GlPow
 rw [pow_eq]
 exact look_new (n:=26) (globs_none _ l 0 26 (by omega))
end
end Go.VL.Nu
namespace Go.VL.Nu
open Go.FR Go.IR Go.VL Go.VL.Er Go.VL.Wo
noncomputable section
set_option maxRecDepth 100000
set_option maxHeartbeats 1000000
def nwT:List (List UInt8):=[[],[45],[46],[49,46],[46,53],[49,50,51,52,53,54,55],[49,46,49,50,51,52,53,54,55],[49,32],[32,49],[43,49],[45,45,49],[49,45],[49,46,53,46,53],[48,120,49],[49,101,53],[45,46,53],[49,44,53]]
theorem nw_all:∀ k:Fin 17,parOK (nwT.getD k.val [])=false∧allS (nwT.getD k.val [])=false∧(nwT.getD k.val []).length≤20:=by decide +kernel
theorem nw_at (k:Nat) (h:k < 17):(nwT.map VV.str)[k]?=some (.str (nwT.getD k [])):=by
 have h':k < nwT.length:=h
 rw [List.getElem?_map,List.getElem?_eq_getElem h',List.getD_eq_getElem?_getD,List.getElem?_eq_getElem h'];rfl
attribute [local go_sem] erP atV cFault t_p_api_At t_p_errors_errorString
theorem numberWrong (Gl:qzh) (hG:GlAll Gl) (hp:GlPow Gl) (x:Int) (_:IntKind.i64.min≤x) (_:x≤IntKind.i64.max) :
  CallsV Go.VL.Er.E Gl f_glyphiclaw9_NumberWrong [.int .i64 x] h0 (fun v _=>v = .bool true):=by
 refine qzc E_glyphiclaw9_NumberWrong ?_
 unfold c_glyphiclaw9_NumberWrong r_glyphiclaw9_NumberWrong
 simp only [qzg]
 obtain ⟨k,hk,ek⟩:=modn x 17 (by omega) (by omega)
 obtain ⟨n1,n2,n3⟩:=nw_all ⟨k,hk⟩
 simp only at n1 n2 n3
 have hx:=nw_at k hk
 simp only [nwT,List.map_cons,List.map_nil] at hx
 simp only [show nwT.getD k []=([[],[45],[46],[49,46],[46,53],[49,50,51,52,53,54,55],[49,46,49,50,51,52,53,54,55],[49,32],[32,49],[43,49],[45,45,49],[49,45],[49,46,53,46,53],[48,120,49],[49,101,53],[45,46,53],[49,44,53]]:List (List UInt8)).getD k [] from rfl] at n1 n2 n3
 obtain ⟨t,ht⟩:∃ t,([[],[45],[46],[49,46],[46,53],[49,50,51,52,53,54,55],[49,46,49,50,51,52,53,54,55],[49,32],[32,49],[43,49],[45,45,49],[49,45],[49,46,53,46,53],[48,120,49],[49,101,53],[45,46,53],[49,44,53]]:List (List UInt8)).getD k []=t:=⟨_,rfl⟩
 rw [ht] at n1 n2 n3 hx
 have z17:¬((17:Nat):Int)=0:=by omega
 have k17:k < 17:=hk
 have g0:qzi Gl 0=some [erP 0]:=(hG 0 (by omega)).1
 have k1:=parse_ok g0 t (by omega)
 have k2:=whole_ok Gl t (by omega)
 have k3:=whole_ok Gl [45,49] (by decide)
 have e1:parN t=0:=by unfold parN;rw [n1];rfl
 have e2:parE t = .bare 0:=by unfold parE;rw [n1];rfl
 rw [e1,e2] at k1
 rw [n2] at k2
 rw [show allS [45,49]=false by decide] at k3
 have si:=see_is hG (.bare 0) (show (0:Nat) < 13 by omega) 101
 rw [decide_eq_true (show (ErrV.bare 0).f=bareF 101 from rfl)] at si
 simp only [simprocAttr,-Int.reduceNatCast',go_sem]
 refine qzb (first9_ok hp) rfl rfl ?_
 simp only [simprocAttr,-Int.reduceNatCast',go_sem,ek,z17,natV_nat,k17,hx,Nat.mul_one]
 refine qzb k1 rfl rfl ?_
 simp only [simprocAttr,-Int.reduceNatCast',go_sem,natV_nat,k17,hx,Nat.mul_one]
 refine qzb k2 rfl rfl ?_
 simp only [simprocAttr,-Int.reduceNatCast',go_sem]
 refine qzb k3 rfl rfl ?_
 simp only [simprocAttr,-Int.reduceNatCast',go_sem]
 refine qzb si rfl rfl ?_
 simp only [simprocAttr,-Int.reduceNatCast',go_sem]<;>first | rfl | exact ⟨rfl,rfl⟩ | exact qza rfl
end
end Go.VL.Nu
