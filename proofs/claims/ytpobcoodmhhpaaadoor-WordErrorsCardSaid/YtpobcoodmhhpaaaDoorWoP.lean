import Derived.Test.YtpobcoodmhhpaaaDoorWoF
import Derived.Test.YtpobcoodmhhpaaaDoorVlN
import Derived.Test.YtpobcoodmhhpaaaDoorVlL
set_option linter.unusedSimpArgs false
set_option linter.unusedVariables false
namespace Go.VL.Wo
open Go.FR Go.IR Go.VL Go.VL.Er
noncomputable section
theorem globs_none (tp:Nat):∀ (l:List Er) (n i:Nat),n+2*l.length≤i→qze (globsFrom tp n l) i=none
 | [],n,i,_=>rfl
 | e::l,n,i,h=>by
  simp only [List.length_cons] at h
  simp only [globsFrom,qze]
  rw [if_neg (by omega),if_neg (by omega)]
  exact globs_none tp l (n+2) i (by omega)
theorem all_keep {Gl:qzg} {n:Nat} {x:List VV} (h:GlAll Gl):GlAll (Gl++[(n,x)]):=fun k hk=>by
 obtain ⟨h1,h2⟩:=h k hk
 refine ⟨look_keep h1,?_⟩
 cases q:qze Gl (2*k+1) with
 | none=>rw [q] at h2;cases h2
 | some y=>rw [look_keep q];rfl
theorem sp_eq:spZ.map (VV.int .u8)=spTab:=by
 unfold spZ spTab
 rw [List.map_map];rfl
theorem gl_sp {l:List Er} (h:l.length=13):GlAll (globsOf t_p_errors_errorString l++[(26,spZ.map (VV.int .u8))])∧GlSp (globsOf t_p_errors_errorString l++[(26,spZ.map (VV.int .u8))]):=by
 refine ⟨all_keep (glob_all (by omega)),?_⟩
 unfold GlSp
 rw [sp_eq]
 exact look_new (n:=26) (globs_none _ l 0 26 (by omega))
end
end Go.VL.Wo
namespace Go.VL.Wo
open Go.FR Go.IR Go.VL Go.VL.Er
noncomputable section
set_option maxRecDepth 100000
set_option maxHeartbeats 1000000
def werrT:List (List UInt8):=[[49,50,51,52,53,54,55],[49,46],[49,46,49,50,51,52,53,54,55],[45],[45,32,49],[35,49,50,51,52,53],[35,49,50,51,52,53,54,55],[35,49,50,51,52,53,54,55,56,57],[35,49,50,51,52,53,103],[49,50,97],[49,46,53,46],[35,102,102,102,102,102,102,35],[77,77],[77,49],[68],[36],[47],[49,50,35,102,102,102,102,102,102],[97,98,99,100,101,102,103,104,105,106,107,108,109,110,111,112,113,114,115,116,117,118,119,120,121],[49,65],[35,97,98,99,100,101,102,90]]
def aheadT:Nat→List UInt8
 | 0=>[]
 | n+1=>aheadT n++[97,32]
theorem aheadT_len:∀ n,(aheadT n).length=2*n
 | 0=>rfl
 | n+1=>by simp [aheadT,aheadT_len n];omega
theorem werr_all:∀ (k:Fin 21) (n:Fin 5),(splitW (aheadT n.val++werrT[k.val]! ++ [32,98])).2=some (2*n.val)∧werrT[k.val]!.length≤30:=by decide +kernel
theorem werr_fine:(splitW [49,59,50,123,120,45,49,61,35,97,98,99,100,101,102,125,77,45,49]).2=none:=by decide +kernel
attribute [local go_sem] erP atV cW cFault t_p_api_At t_p_errors_errorString
theorem ahead_loop (Gl:qzg) (n:Nat) (hn:n < 1000) (K:AEx→VF→VH→Prop) (h:VH) (v6 v5 v7:VV)
  (hK:∀ T,qze T 5=some v5→qze T 6=some v6→qze T 7=some v7→qze T 8=some (.int .i64 (n:Int))→qze T 9=some (.str (aheadT n))→K (.exit 0) T h) :
  ∀ (d i:Nat) (T:VF),d+i=n→qze T 5=some v5→qze T 6=some v6→qze T 7=some v7→qze T 8=some (.int .i64 (n:Int))→qze T 9=some (.str (aheadT i))→qze T 10=some (.int .i64 (i:Int)) →
   wp Go.VL.Er.E Gl (.loop c_glyphiclaw8_WordErrors_l0) T h K:=by
 intro d
 induction d with
 | zero =>
  intro i T hd t5 t6 t7 t8 t9 t10
  obtain rfl:i=n:=by omega
  refine loop_u c_glyphiclaw8_WordErrors_l0.eq_1 ?_
  simp only [simprocAttr,-Int.reduceNatCast',go_sem,t8,t10,Int.lt_irrefl]
  refine hK _ ?_ ?_ ?_ ?_ ?_
  ·simp only [simprocAttr,-Int.reduceNatCast',go_sem,t5]
  ·simp only [simprocAttr,-Int.reduceNatCast',go_sem,t6]
  ·simp only [simprocAttr,-Int.reduceNatCast',go_sem,t7]
  ·simp only [simprocAttr,-Int.reduceNatCast',go_sem,t8]
  ·simp only [simprocAttr,-Int.reduceNatCast',go_sem,t9]
 | succ d ih =>
  intro i T hd t5 t6 t7 t8 t9 t10
  refine loop_u c_glyphiclaw8_WordErrors_l0.eq_1 ?_
  have c1:(i:Int) < (n:Int):=by omega
  have w:IntKind.i64.wrap ((i:Int)+1)=((i+1:Nat):Int):=by rw [qzi (by omega) (by omega)];rfl
  have la:=aheadT_len i
  have l2:(aheadT i).length+2≤9223372036854775807:=by omega
  simp only [simprocAttr,-Int.reduceNatCast',go_sem,t8,t9,t10,c1,w,strBin,l2]
  refine ih (i+1) _ (by omega) ?_ ?_ ?_ ?_ ?_ ?_
  ·simp only [simprocAttr,-Int.reduceNatCast',go_sem,t5]
  ·simp only [simprocAttr,-Int.reduceNatCast',go_sem,t6]
  ·simp only [simprocAttr,-Int.reduceNatCast',go_sem,t7]
  ·simp only [simprocAttr,-Int.reduceNatCast',go_sem,t8]
  ·simp only [simprocAttr,-Int.reduceNatCast',go_sem];rfl
  ·simp only [simprocAttr,-Int.reduceNatCast',go_sem]
theorem wordErrors (Gl:qzg) (hG:GlAll Gl) (hs:GlSp Gl) (x:Int) (_:IntKind.i64.min≤x) (_:x≤IntKind.i64.max) (y:Int) (_:IntKind.i64.min≤y) (_:y≤IntKind.i64.max) :
  CallsV Go.VL.Er.E Gl f_glyphiclaw8_WordErrors [.int .i64 x,.int .i64 y] h0 (fun v _=>v = .bool true):=by
 refine qzc E_glyphiclaw8_WordErrors ?_
 unfold c_glyphiclaw8_WordErrors r_glyphiclaw8_WordErrors
 simp only [qzh]
 obtain ⟨k,hk,ek⟩:=modn x 21 (by omega) (by omega)
 obtain ⟨n,hn,en⟩:=modn y 5 (by omega) (by omega)
 have en:(IntKind.i64.wrap (y.tmod 5+5)).tmod 5=(n:Int):=en
 obtain ⟨wa,wl⟩:=werr_all ⟨k,hk⟩ ⟨n,hn⟩
 simp only at wa wl
 have lt:werrT.length=21:=rfl
 have hx:(werrT.map VV.str)[k]?=some (.str werrT[k]!):=by
  rw [List.getElem?_map,List.getElem?_eq_getElem (by omega),List.getElem!_eq_getElem?_getD,List.getElem?_eq_getElem (by omega)];rfl
 have eT:werrT.map VV.str=[.str [49,50,51,52,53,54,55],.str [49,46],.str [49,46,49,50,51,52,53,54,55],.str [45],.str [45,32,49],.str [35,49,50,51,52,53],.str [35,49,50,51,52,53,54,55],.str [35,49,50,51,52,53,54,55,56,57],.str [35,49,50,51,52,53,103],.str [49,50,97],.str [49,46,53,46],.str [35,102,102,102,102,102,102,35],.str [77,77],.str [77,49],.str [68],.str [36],.str [47],.str [49,50,35,102,102,102,102,102,102],.str [97,98,99,100,101,102,103,104,105,106,107,108,109,110,111,112,113,114,115,116,117,118,119,120,121],.str [49,65],.str [35,97,98,99,100,101,102,90]]:=rfl
 rw [eT] at hx
 have z21:¬((21:Nat):Int)=0:=by omega
 have la:=aheadT_len n
 obtain ⟨t,ht⟩:∃ t,werrT[k]! = t:=⟨_,rfl⟩
 rw [ht] at wa wl hx
 obtain ⟨ws,hws⟩:∃ ws,(splitW (aheadT n++t++[32,98])).1=ws:=⟨_,rfl⟩
 have k1:=split_ok hG hs (aheadT n++t++[32,98]) (by simp;omega)
 rw [split_bad (by simp;omega) (show splitW (aheadT n++t++[32,98])=(ws,some (2*n)) by rw [←hws,←wa])] at k1
 obtain ⟨w2,hw2⟩:∃ ws,(splitW [49,59,50,123,120,45,49,61,35,97,98,99,100,101,102,125,77,45,49]).1=ws:=⟨_,rfl⟩
 have k2:=split_ok hG hs [49,59,50,123,120,45,49,61,35,97,98,99,100,101,102,125,77,45,49] (by decide)
 rw [split_fine (by decide) (show splitW [49,59,50,123,120,45,49,61,35,97,98,99,100,101,102,125,77,45,49]=(w2,none) by rw [←hw2,←werr_fine])] at k2
 simp only [simprocAttr,-Int.reduceNatCast',go_sem]
 refine qzb (first8_ok hG hs) rfl rfl ?_
 simp only [simprocAttr,-Int.reduceNatCast',go_sem,ek,en,z21]
 refine ahead_loop Gl n (by omega) _ _ _ _ _ ?_ n 0 _ (by omega) rfl rfl rfl rfl rfl rfl
 intro T t5 t6 t7 t8 t9
 have l1:(aheadT n).length+t.length≤9223372036854775807:=by omega
 have l2:(aheadT n++t).length+2≤9223372036854775807:=by simp;omega
 have k21:k < 21:=hk
 have w3:IntKind.i64.wrap (2*(n:Int))=((2*n:Nat):Int):=by rw [qzi (by omega) (by omega)];omega
 simp only [simprocAttr,-Int.reduceNatCast',go_sem,t5,t6,t7,t8,t9,natV_nat,k21,Nat.mul_one,hx,strBin,l1,l2]
 refine call_refs k1 rfl rfl ?_
 simp only [simprocAttr,-Int.reduceNatCast',go_sem,t5,t6,t7,t8,t9]
 refine call_refs k2 rfl rfl ?_
 simp only [ErrV.v]
 simp only [simprocAttr,-Int.reduceNatCast',go_sem,t5,t6,t7,t8,t9,w3]
 refine qzb (placed_ok Gl 101 _) rfl rfl ?_
 simp only [simprocAttr,-Int.reduceNatCast',go_sem]
 have ss:=see_same hG (.placed 0 ((2*n:Nat):Int)) (show (0:Nat) < 13 by omega) (placedF 101 ((2*n:Nat):Int))
 rw [decide_eq_true (show (ErrV.placed 0 ((2*n:Nat):Int)).f=placedF 101 ((2*n:Nat):Int) from rfl)] at ss
 refine qzb ss rfl rfl ?_
 simp only [simprocAttr,-Int.reduceNatCast',go_sem]<;>first | rfl | exact ⟨rfl,rfl⟩ | exact qza rfl
end
end Go.VL.Wo
