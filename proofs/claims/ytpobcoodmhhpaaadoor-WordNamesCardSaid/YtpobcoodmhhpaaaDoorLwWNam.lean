/- 'glyphiclaw8.WordNames' answers true, whatever it is given. -/
import Derived.Test.YtpobcoodmhhpaaaDoorVlK
import Derived.Test.YtpobcoodmhhpaaaDoorWoP
set_option linter.unusedSimpArgs false
set_option linter.unusedVariables false
namespace Go.VL.Wo
open Go.FR Go.IR Go.VL Go.VL.Er Go.VL.Wire
noncomputable section
set_option maxRecDepth 100000
set_option maxHeartbeats 1000000
def nmC:List UInt8:=[97,122,48,57,95,107]
def nmB:Nat→List Nat
 | 0=>[113]
 | i+1=>nmB i++[(nmC.getD ((i+1) % 6) 0).toNat]
theorem nmB_len:∀ i,(nmB i).length=i+1
 | 0=>rfl
 | i+1=>by simp [nmB,nmB_len i]
theorem nmB_256:∀ i,∀ x∈nmB i,x < 256
 | 0,x,h=>by simp [nmB] at h;omega
 | i+1,x,h=>by
  simp only [nmB,List.mem_append,List.mem_singleton] at h
  rcases h with h | rfl
  ·exact nmB_256 i x h
  ·exact UInt8.toNat_lt _
def nmT (n:Nat):List UInt8:=(nmB n).map UInt8.ofNat
theorem nm_good:∀ n:Fin 24,splitW (nmT n.val)=([⟨1,0,nmT n.val⟩],none)∧isNameS (nmT n.val)=true:=by decide +kernel
theorem nm_bad:∀ n:Fin 6,(splitW (nmT (n.val+24))).2=some 0∧isNameS (nmT (n.val+24))=false:=by decide +kernel
def keyT (w:List UInt8):List UInt8:=w++[32]++w++[115,32]++w++[95]
theorem key_all:∀ k:Fin 16,splitW (keyT keysS[k.val]!)=([⟨2,0,keysS[k.val]!⟩,⟨1,keysS[k.val]!.length+1,keysS[k.val]! ++ [115]⟩,⟨1,2*keysS[k.val]!.length+3,keysS[k.val]! ++ [95]⟩],none)∧isNameS keysS[k.val]! = false∧isNameS (keysS[k.val]! ++ [115])=true∧keysS[k.val]!.length≤10:=by decide +kernel
theorem bytes_flat:∀ l:List Nat,(∀ x∈l,x < 256)→bytesV (flatL cB l)=some (l.map UInt8.ofNat)
 | [],_=>rfl
 | x::l,h=>by
  have e:=bytes_flat l (fun y hy=>h y (.tail _ hy))
  have hx:=h x (.head _)
  rw [flatL_cons]
  simp only [List.cons_append,List.nil_append,bytesV,e,List.map_cons]
  have:(0:Int)≤(x:Int)∧(x:Int) < 256:=by omega
  simp [this,hx]
attribute [local go_sem] erP atV cW cB cFault t_p_api_At t_p_errors_errorString
theorem nm_loop (Gl:qzg) (N:Nat) (hN:N < 1000) (K:AEx→VF→VH→Prop) (v1 v5:VV)
  (hK:∀ T h v j,AccE 0 h j cB (nmB N) 1 v→qze T 0=some (.int .i64 ((N+1:Nat):Int))→qze T 1=some v1→qze T 5=some v5→qze T 6=some v→K (.exit 0) T h) :
  ∀ (d i:Nat) (T:VF) (h:VH) (v:VV) (j:Nat),d+i=N→AccE 0 h j cB (nmB i) 1 v→qze T 0=some (.int .i64 ((N+1:Nat):Int))→qze T 1=some v1→qze T 5=some v5→qze T 6=some v→qze T 7=some (.int .i64 ((i+1:Nat):Int)) →
   wp Go.VL.Er.E Gl (.loop c_glyphiclaw8_WordNames_l0) T h K:=by
 intro d
 induction d with
 | zero =>
  intro i T h v j hd acc t0 t1 t5 t6 t7
  obtain rfl:i=N:=by omega
  refine loop_u c_glyphiclaw8_WordNames_l0.eq_1 ?_
  simp only [simprocAttr,-Int.reduceNatCast',go_sem,t0,t7,Int.lt_irrefl]
  refine hK _ h v j acc ?_ ?_ ?_ ?_
  ·simp only [simprocAttr,-Int.reduceNatCast',go_sem,t0]
  ·simp only [simprocAttr,-Int.reduceNatCast',go_sem,t1]
  ·simp only [simprocAttr,-Int.reduceNatCast',go_sem,t5]
  ·simp only [simprocAttr,-Int.reduceNatCast',go_sem,t6]
 | succ d ih =>
  intro i T h v j hd acc t0 t1 t5 t6 t7
  refine loop_u c_glyphiclaw8_WordNames_l0.eq_1 ?_
  have c1:((i+1:Nat):Int) < ((N+1:Nat):Int):=by omega
  have w:IntKind.i64.wrap (((i+1:Nat):Int)+1)=((i+1+1:Nat):Int):=by rw [qzi (by omega) (by omega)];omega
  have m6:((i+1:Nat):Int).tmod 6=(((i+1) % 6:Nat):Int):=rfl
  have z6:¬(6:Int)=0:=by omega
  have l6:(i+1) % 6 < nmC.length:=Nat.mod_lt _ (by omega)
  have hx:([97,122,48,57,95,107]:List UInt8)[(i+1) % 6]?=some (nmC.getD ((i+1) % 6) 0):=by
   show nmC[(i+1) % 6]?=_
   rw [List.getD_eq_getElem?_getD,List.getElem?_eq_getElem l6];rfl
  have ln:=nmB_len i
  simp only [simprocAttr,-Int.reduceNatCast',go_sem,t0,t6,t7,c1,m6,z6,natOf_n,hx]
  have acc2:AccE 0 (VH.mk ((h.next,some (.cells [.int .u8 ((nmC.getD ((i+1) % 6) 0).toNat:Int)] false))::h.l) (h.next+1)) j cB (nmB i) 1 v:=by
   rcases acc with a | ⟨e,e1,e2,e3,e4,e5⟩
   ·exact .inl (a.ext (Nat.le_succ _) (fun q1 q2=>by simp only [look_cons];rw [if_neg (by omega)]))
   ·exact .inr ⟨e,e1,e2,by simp only [look_cons];rw [if_neg (by omega)];exact e3,e4,by show j < h.next+1;omega⟩
  refine wpW_accE (base:=0) (j:=j) (f:=cB) (l:=nmB i) (ls:=[(nmC.getD ((i+1) % 6) 0).toNat]) acc2 ?_ (by simp) cB_len (by omega) (Nat.zero_le _) (by simp;omega) (by simp;omega) ?_
  ·simp only [simprocAttr,-Int.reduceNatCast',go_sem]
   rfl
  intro h3 g1 g2 g3
  simp only [simprocAttr,-Int.reduceNatCast',go_sem,t7,w]
  refine ih (i+1) _ h3 _ _ (by omega) (.inl g3) ?_ ?_ ?_ ?_ ?_
  ·simp only [simprocAttr,-Int.reduceNatCast',go_sem,t0]
  ·simp only [simprocAttr,-Int.reduceNatCast',go_sem,t1]
  ·simp only [simprocAttr,-Int.reduceNatCast',go_sem,t5]
  ·simp only [simprocAttr,-Int.reduceNatCast',go_sem]
  ·simp only [simprocAttr,-Int.reduceNatCast',go_sem]
theorem wordNames (Gl:qzg) (hG:GlAll Gl) (hs:GlSp Gl) (x:Int) (_:IntKind.i64.min≤x) (_:x≤IntKind.i64.max) (y:Int) (_:IntKind.i64.min≤y) (_:y≤IntKind.i64.max) :
  CallsV Go.VL.Er.E Gl f_glyphiclaw8_WordNames [.int .i64 x,.int .i64 y] h0 (fun v _=>v = .bool true):=by
 refine qzc E_glyphiclaw8_WordNames ?_
 unfold c_glyphiclaw8_WordNames r_glyphiclaw8_WordNames
 simp only [qzh]
 have n1:=Wind.numb_in x 30 (by omega)
 have n2:=Wind.numb_in y 16 (by omega)
 obtain ⟨N,hN⟩:∃ N:Nat,Wind.numbS x 30=N:=⟨(Wind.numbS x 30).toNat,by omega⟩
 obtain ⟨k,hk⟩:∃ k:Nat,Wind.numbS y 16=k:=⟨(Wind.numbS y 16).toNat,by omega⟩
 have q1:=Wind.numb_ok Gl x 30 (by omega) (by omega)
 have q2:=Wind.numb_ok Gl y 16 (by omega) (by omega)
 rw [hN] at q1 n1;rw [hk] at q2 n2
 have w1:IntKind.i64.wrap ((N:Int)+1)=((N+1:Nat):Int):=by rw [qzi (by omega) (by omega)];rfl
 simp only [simprocAttr,-Int.reduceNatCast',go_sem]
 refine qzb (first8_ok hG hs) rfl rfl ?_
 simp only [simprocAttr,-Int.reduceNatCast',go_sem]
 refine qzb q1 rfl rfl ?_
 simp only [simprocAttr,-Int.reduceNatCast',go_sem,w1]
 refine nm_loop Gl N (by omega) _ _ _ ?_ N 0 _ _ (.slice 0 0 1 1 (.exact 1)) 0 (by omega) (.inr ⟨1,.inl rfl,rfl,rfl,Nat.le_refl _,by show 0 < 1;omega⟩) rfl rfl rfl rfl rfl
 intro T h v j acc t0 t1 t5 t6
 obtain ⟨c,hv,hj,jn⟩:∃ c,v = .slice j 0 (N+1) 1 c∧qze h.l j=some (some (.cells (flatL cB (nmB N)) false))∧j < h.next:=by
  rcases acc with (⟨e,_⟩ | ⟨e1,e2,e3,e4⟩) | ⟨e,e1,e2,e3,e4,e5⟩
  ·have:=nmB_len N;rw [e] at this;simp at this
  ·exact ⟨_,by rw [e1,nmB_len],e2,e4⟩
  ·rcases e1 with rfl | e1
   ·exact ⟨_,by rw [e2,nmB_len],e3,e5⟩
   ·have:=nmB_len N;rw [e1] at this;simp at this
 subst hv
 have bl:(flatL cB (nmB N)).length=N+1:=by rw [flatL_length cB_len,nmB_len,Nat.mul_one]
 have bt:(flatL cB (nmB N)).take (N+1)=flatL cB (nmB N):=by rw [←bl];exact List.take_length
 have bb:bytesV (flatL cB (nmB N))=some (nmT N):=bytes_flat _ (nmB_256 N)
 have tl:(nmT N).length=N+1:=by simp [nmT,nmB_len]
 obtain ⟨kw,ki,ks,kl⟩:=key_all ⟨k,by omega⟩
 simp only at kw ki ks kl
 have hx:(keysS.map VV.str)[k]?=some (.str keysS[k]!):=by
  have:k < keysS.length:=by show k < 16;omega
  rw [List.getElem?_map,List.getElem?_eq_getElem this,List.getElem!_eq_getElem?_getD,List.getElem?_eq_getElem this];rfl
 obtain ⟨t,ht⟩:∃ t,keysS[k]! = t:=⟨_,rfl⟩
 rw [ht] at kw ki ks kl hx
 have k16:k < 16:=by omega
 simp only [keysS,List.map_cons,List.map_nil] at hx
 have s1:=split_ok hG hs (nmT N) (by omega)
 have s2:=split_ok hG hs (keyT t) (by simp [keyT];omega)
 rw [split_fine (by simp [keyT];omega) kw] at s2
 have i1:=isName_ok (Gl:=Gl) hs (nmT N) (by omega)
 have i2:=isName_ok (Gl:=Gl) hs t (by omega)
 have i3:=isName_ok (Gl:=Gl) hs (t++[115]) (by simp;omega)
 rw [ki] at i2;rw [ks] at i3
 have jx:¬h.next=j:=by omega
 have bl':N+1≤(flatL cB (nmB N)).length:=by omega
 have lt1:t.length+1≤9223372036854775807:=by omega
 have lt2:(t++[32]).length+t.length≤9223372036854775807:=by simp;omega
 have lt3:(t++[32]++t).length+2≤9223372036854775807:=by simp;omega
 have lt4:(t++[32]++t++[115,32]).length+t.length≤9223372036854775807:=by simp;omega
 have lt5:(t++[32]++t++[115,32]++t).length+1≤9223372036854775807:=by simp;omega
 have z0:natV (.int .i64 0)=some 0:=rfl
 have z1:natV (.int .i64 1)=some 1:=rfl
 have z2:natV (.int .i64 2)=some 2:=rfl
 simp only [simprocAttr,-Int.reduceNatCast',go_sem,t0,t1,t5,t6]
 refine qzb q2 rfl rfl ?_
 simp only [simprocAttr,-Int.reduceNatCast',go_sem,t0,t1,t5,t6,natV_nat,k16,hx,Nat.mul_one,jx,hj,bl',bt,bb]
 refine call_refs s1 rfl rfl ?_
 simp only [simprocAttr,-Int.reduceNatCast',go_sem,t0,t1,t5,t6,strBin,lt1,lt2,lt3,lt4,lt5]
 refine call_refs s2 rfl rfl ?_
 have l3:(((3:Nat):Int) != 3)=false:=rfl
 have b22:(((2:Nat):Int) != 2)=false:=rfl
 have b11:(((1:Nat):Int) != 1)=false:=rfl
 have lt6:t.length+1≤9223372036854775807:=by omega
 simp only [flatL,List.map_cons,List.map_nil,List.flatten_cons,List.flatten_nil,ErrV.v,List.length_cons,List.length_nil]
 simp only [simprocAttr,-Int.reduceNatCast',go_sem,t0,t1,t5,t6,l3,b22,b11,z0,z1,z2]
 refine qzb i2 rfl rfl ?_
 simp only [simprocAttr,-Int.reduceNatCast',go_sem,strBin,lt6]
 refine qzb i3 rfl rfl ?_
 by_cases c24:N+1 > 24
 ·have c:((N+1:Nat):Int) > 24:=by omega
  obtain ⟨M,hM⟩:∃ M:Nat,N=M+24:=⟨N - 24,by omega⟩
  obtain ⟨b1,b2⟩:=nm_bad ⟨M,by omega⟩
  simp only at b1 b2
  rw [←hM] at b1 b2
  rw [b2] at i1
  rw [split_bad (by omega) (show splitW (nmT N)=((splitW (nmT N)).1,some 0) by rw [←b1])]
  simp only [ErrV.v]
  have ss:=see_same hG (.placed 0 ((0:Nat):Int)) (show (0:Nat) < 13 by omega) (placedF 101 0)
  rw [decide_eq_true (show (ErrV.placed 0 ((0:Nat):Int)).f=placedF 101 0 from rfl)] at ss
  simp only [simprocAttr,-Int.reduceNatCast',go_sem,t0,t5,t6,c]
  refine qzb (placed_ok Gl 101 0) rfl rfl ?_
  simp only [simprocAttr,-Int.reduceNatCast',go_sem,t0,t5,t6]
  refine qzb ss rfl rfl ?_
  simp only [simprocAttr,-Int.reduceNatCast',go_sem,t0,t5,t6,jx,hj,bl',bt,bb]
  refine qzb i1 rfl rfl ?_
  simp only [simprocAttr,-Int.reduceNatCast',go_sem]<;>first | rfl | exact ⟨rfl,rfl⟩ | exact qza rfl
 ·have c:¬((N+1:Nat):Int) > 24:=by omega
  obtain ⟨b1,b2⟩:=nm_good ⟨N,by omega⟩
  simp only at b1 b2
  rw [b2] at i1
  rw [split_fine (by omega) b1]
  have l1:(((1:Nat):Int) == 1)=true:=rfl
  have te:(nmT N == nmT N)=true:=by simp
  simp only [flatL,List.map_cons,List.map_nil,List.flatten_cons,List.flatten_nil,ErrV.v,List.length_cons,List.length_nil]
  simp only [simprocAttr,-Int.reduceNatCast',go_sem,t0,t5,t6,c,l1,z0,strBin,te,jx,hj,bl',bt,bb,liveB,fzL]
  refine qzb i1 rfl rfl ?_
  simp only [simprocAttr,-Int.reduceNatCast',go_sem]<;>first | rfl | exact ⟨rfl,rfl⟩ | exact qza rfl
end
end Go.VL.Wo
