import Derived.Test.YtbamfhdgikeneaaDoorVlK
import Derived.Test.YtbamfhdgikeneaaDoorIcE
set_option linter.unusedSimpArgs false
set_option linter.unusedVariables false
namespace Go.VL.En
open Go.FR Go.IR Go.VL Go.VL.Color Go.VL.Wind Go.VL.Ic Go.VL.Wire
noncomputable section
set_option maxRecDepth 100000
set_option maxHeartbeats 1000000
theorem WrQ.weak {b j:Nat} {v:VV} {X bs:List Nat} {h h1 h2:VH} (hn:h.next≤h1.next) (hf:∀ k,k < h.next→qza h1.l k=qza h.l k) (q:WrQ b j v X bs h1 h2):WrQ b j v X bs h h2:=by
 obtain ⟨j1,v1,a1,a2,a3,a4,a5,a6⟩:=q
 exact ⟨j1,v1,a1,a2,a3,fun k k1 k2 k3=>by rw [a4 k (by omega) k2 k3,hf k k1],by omega,a6.imp id (fun x=>by omega)⟩
theorem fm_take {α:Type} {g:α→List Nat} {l:List α} {i:Nat} {e:α} (he:l[i]?=some e):(l.take (i+1)).flatMap g=(l.take i).flatMap g++g e:=by
 rw [take_at he,List.flatMap_append];simp
theorem fm_le {α:Type} {g:α→List Nat} (l:List α) (i:Nat):((l.take i).flatMap g).length≤(l.flatMap g).length:=by
 have:l.flatMap g=(l.take i).flatMap g++(l.drop i).flatMap g:=by rw [←List.flatMap_append,List.take_append_drop]
 rw [this,List.length_append];omega
attribute [local go_sem] cSeg cR cB cPt cCl cPath cCmd cPaint t_p_api_At
theorem eachColor_loop {Gl:qzj} (l:List Cl) (f:Nat) (g:Cl→List Nat) (hl:l.length < 1000000) {m:Nat} (hw:∀ c∈l,Wr f (fun b=>[.ptr b 0,.agg (cCl c)]) (g c) m) (b j:Nat) (v:VV) (X:List Nat) (h:VH) (hX:X.length+(l.flatMap g).length+m < 1000000000) (hb:b < h.next) (K:AEx→VF→VH→Prop)
  (hK:∀ T h',WrQ b j v X (l.flatMap g) h h'→K (.exit 0) T h') :
  ∀ (d i:Nat) (T:VF) (h1:VH),d+i=l.length→WrQ b j v X ((l.take i).flatMap g) h h1→qza T 1=some (.func f [.ptr b 0] [])→qza T 6=some (.fsl (qzg cCl l) l.length 4)→qza T 7=some (.int .i64 l.length)→qza T 8=some (.int .i64 i) →
  wp Go.VL.Er.E Gl (.loop c_encode_each__api_Color_l0) T h1 K:=by
 intro d
 induction d with
 | zero =>
  intro i T h1 hd q t1 t6 t7 t8
  obtain rfl:i=l.length:=by omega
  rw [List.take_length] at q
  refine qzi c_encode_each__api_Color_l0.eq_1 ?_
  have c:¬((l.length:Int) < l.length):=by omega
  simp only [simprocAttr,-Int.reduceNatCast',go_sem,t7,t8,c]
  exact hK _ _ q
 | succ d ih =>
  intro i T h1 hd q t1 t6 t7 t8
  refine qzi c_encode_each__api_Color_l0.eq_1 ?_
  have hlt:i < l.length:=by omega
  have c:(i:Int) < l.length:=by omega
  obtain ⟨e,he⟩:∃ e,l[i]?=some e:=⟨l[i],List.getElem?_eq_getElem hlt⟩
  have p1:=qzr Ic.cCl_len he
  have p2:=qzs Ic.cCl_len he
  have hx:IntKind.i64.wrap ((i:Int)+1)=((i+1:Nat):Int):=by rw [qzd (by omega) (by omega)];rfl
  obtain ⟨j1,v1,a1,a2,a3,a4,a5,a6⟩:=q
  have nb:=fm_take (g:=g) he
  have nl:((l.take i).flatMap g).length+(g e).length≤(l.flatMap g).length:=by
   rw [←List.length_append,←nb];exact fm_le l (i+1)
  simp only [simprocAttr,-Int.reduceNatCast',go_sem,t1,t6,t7,t8,c,hlt,p1,p2,wpW_callV]
  have fX:∀ k,k < h1.next→qza ((h1.next,some (VB.cells (cCl e) false))::(h1.next,some (VB.cells [.int .u8 0,.int .u8 0,.int .u8 0,.int .u8 0] false))::h1.l) k=qza h1.l k:=fun k hk=>by simp only [qzb];rw [if_neg (by omega),if_neg (by omega)]
  refine qzh (hw e (List.mem_of_getElem? he) Gl ⟨(h1.next,some (VB.cells (cCl e) false))::(h1.next,some (VB.cells [.int .u8 0,.int .u8 0,.int .u8 0,.int .u8 0] false))::h1.l,h1.next+1⟩ b j1 v1 (X++(l.take i).flatMap g) (by rw [fX b (by omega)];exact a1) (Go.VL.Wire.AccE.ext a2 (by show h1.next≤h1.next+1;omega) (fun _ q=>fX j1 q)) (by show b < h1.next+1;omega) a3 (by rw [List.length_append];omega)) ?_
  intro r h2 q2
  simp only [simprocAttr,-Int.reduceNatCast',go_sem,t8,hx]
  refine ih (i+1) _ _ (by omega) (by rw [nb];exact wrq_snoc hb a4 a5 a6 (q2.weak (by show h1.next≤h1.next+1;omega) fX)) ?_ ?_ ?_ ?_
  ·simp only [simprocAttr,-Int.reduceNatCast',go_sem,t1]
  ·simp only [simprocAttr,-Int.reduceNatCast',go_sem,t6]
  ·simp only [simprocAttr,-Int.reduceNatCast',go_sem,t7]
  ·simp only [simprocAttr,-Int.reduceNatCast',go_sem]
theorem eachColor_wr (l:List Cl) (f:Nat) (g:Cl→List Nat) (hl:l.length < 1000000) {m:Nat} (hw:∀ c∈l,Wr f (fun b=>[.ptr b 0,.agg (cCl c)]) (g c) m):Wr f_encode_each__api_Color (fun b=>[.fsl (qzg cCl l) l.length 4,.func f [.ptr b 0] []]) (l.flatMap g) m:=by
 intro Gl h b j v X hi ha hb hbj hX
 refine qze E_encode_each__api_Color ?_
 unfold c_encode_each__api_Color r_encode_each__api_Color
 simp only [qzl]
 simp only [simprocAttr,-Int.reduceNatCast',go_sem]
 refine eachColor_loop l f g hl hw b j v X h hX hb _ ?_ l.length 0 _ _ (by omega) (WrQ.refl hi ha hbj) ?_ ?_ ?_ ?_
 ·intro T h' q
  simp only [simprocAttr,-Int.reduceNatCast',go_sem]
  exact q
 all_goals first | (simp only [simprocAttr,-Int.reduceNatCast',go_sem];done) | (simp only [simprocAttr,-Int.reduceNatCast',go_sem];rfl)
theorem eachCmd_loop {Gl:qzj} (l:List Cmd) (f:Nat) (g:Cmd→List Nat) (hl:l.length < 1000000) {m:Nat} (hw:∀ c∈l,Wr f (fun b=>[.ptr b 0,.agg (cCmd c)]) (g c) m) (b j:Nat) (v:VV) (X:List Nat) (h:VH) (hX:X.length+(l.flatMap g).length+m < 1000000000) (hb:b < h.next) (K:AEx→VF→VH→Prop)
  (hK:∀ T h',WrQ b j v X (l.flatMap g) h h'→K (.exit 0) T h') :
  ∀ (d i:Nat) (T:VF) (h1:VH),d+i=l.length→WrQ b j v X ((l.take i).flatMap g) h h1→qza T 1=some (.func f [.ptr b 0] [])→qza T 6=some (.fsl (qzg cCmd l) l.length 11)→qza T 7=some (.int .i64 l.length)→qza T 8=some (.int .i64 i) →
  wp Go.VL.Er.E Gl (.loop c_encode_each__api_Cmd_l0) T h1 K:=by
 intro d
 induction d with
 | zero =>
  intro i T h1 hd q t1 t6 t7 t8
  obtain rfl:i=l.length:=by omega
  rw [List.take_length] at q
  refine qzi c_encode_each__api_Cmd_l0.eq_1 ?_
  have c:¬((l.length:Int) < l.length):=by omega
  simp only [simprocAttr,-Int.reduceNatCast',go_sem,t7,t8,c]
  exact hK _ _ q
 | succ d ih =>
  intro i T h1 hd q t1 t6 t7 t8
  refine qzi c_encode_each__api_Cmd_l0.eq_1 ?_
  have hlt:i < l.length:=by omega
  have c:(i:Int) < l.length:=by omega
  obtain ⟨e,he⟩:∃ e,l[i]?=some e:=⟨l[i],List.getElem?_eq_getElem hlt⟩
  have p1:=qzr cCmd_len he
  have p2:=qzs cCmd_len he
  have hx:IntKind.i64.wrap ((i:Int)+1)=((i+1:Nat):Int):=by rw [qzd (by omega) (by omega)];rfl
  obtain ⟨j1,v1,a1,a2,a3,a4,a5,a6⟩:=q
  have nb:=fm_take (g:=g) he
  have nl:((l.take i).flatMap g).length+(g e).length≤(l.flatMap g).length:=by
   rw [←List.length_append,←nb];exact fm_le l (i+1)
  simp only [simprocAttr,-Int.reduceNatCast',go_sem,t1,t6,t7,t8,c,hlt,p1,p2,wpW_callV]
  have fX:∀ k,k < h1.next→qza ((h1.next,some (VB.cells (cCmd e) false))::(h1.next,some (VB.cells [.int .i64 0,.int .i64 0,.int .i64 0,.int .i64 0,.int .i64 0,.int .i64 0,.int .i64 0,.int .i64 0,.int .i64 0,.int .i64 0,.nilS] false))::h1.l) k=qza h1.l k:=fun k hk=>by simp only [qzb];rw [if_neg (by omega),if_neg (by omega)]
  refine qzh (hw e (List.mem_of_getElem? he) Gl ⟨(h1.next,some (VB.cells (cCmd e) false))::(h1.next,some (VB.cells [.int .i64 0,.int .i64 0,.int .i64 0,.int .i64 0,.int .i64 0,.int .i64 0,.int .i64 0,.int .i64 0,.int .i64 0,.int .i64 0,.nilS] false))::h1.l,h1.next+1⟩ b j1 v1 (X++(l.take i).flatMap g) (by rw [fX b (by omega)];exact a1) (Go.VL.Wire.AccE.ext a2 (by show h1.next≤h1.next+1;omega) (fun _ q=>fX j1 q)) (by show b < h1.next+1;omega) a3 (by rw [List.length_append];omega)) ?_
  intro r h2 q2
  simp only [simprocAttr,-Int.reduceNatCast',go_sem,t8,hx]
  refine ih (i+1) _ _ (by omega) (by rw [nb];exact wrq_snoc hb a4 a5 a6 (q2.weak (by show h1.next≤h1.next+1;omega) fX)) ?_ ?_ ?_ ?_
  ·simp only [simprocAttr,-Int.reduceNatCast',go_sem,t1]
  ·simp only [simprocAttr,-Int.reduceNatCast',go_sem,t6]
  ·simp only [simprocAttr,-Int.reduceNatCast',go_sem,t7]
  ·simp only [simprocAttr,-Int.reduceNatCast',go_sem]
theorem eachCmd_wr (l:List Cmd) (f:Nat) (g:Cmd→List Nat) (hl:l.length < 1000000) {m:Nat} (hw:∀ c∈l,Wr f (fun b=>[.ptr b 0,.agg (cCmd c)]) (g c) m):Wr f_encode_each__api_Cmd (fun b=>[.fsl (qzg cCmd l) l.length 11,.func f [.ptr b 0] []]) (l.flatMap g) m:=by
 intro Gl h b j v X hi ha hb hbj hX
 refine qze E_encode_each__api_Cmd ?_
 unfold c_encode_each__api_Cmd r_encode_each__api_Cmd
 simp only [qzl]
 simp only [simprocAttr,-Int.reduceNatCast',go_sem]
 refine eachCmd_loop l f g hl hw b j v X h hX hb _ ?_ l.length 0 _ _ (by omega) (WrQ.refl hi ha hbj) ?_ ?_ ?_ ?_
 ·intro T h' q
  simp only [simprocAttr,-Int.reduceNatCast',go_sem]
  exact q
 all_goals first | (simp only [simprocAttr,-Int.reduceNatCast',go_sem];done) | (simp only [simprocAttr,-Int.reduceNatCast',go_sem];rfl)
end
end Go.VL.En
namespace Go.VL.En
open Go.FR Go.IR Go.VL Go.VL.Color Go.VL.Wind Go.VL.Ic Go.VL.Wire
noncomputable section
set_option maxRecDepth 100000
set_option maxHeartbeats 1000000
theorem WrQ.opened {b j:Nat} {v:VV} {X bs:List Nat} {h h2:VH} (hb:b < h.next) (q:WrQ b j v X bs h h2):∃ j1 v1,qza h2.l b=some (some (.cells [v1] false))∧AccE 0 h2 j1 cB (X++bs) 1 v1∧(b≠j1∨v1 = .nilS) ∧
  (∀ k,k < h.next→k≠b→(k≠j∨v = .nilS)→qza h2.l k=qza h.l k∧(k≠j1∨v1 = .nilS))∧(∀ cs h3,WrQ b j1 v1 (X++bs) cs h2 h3→WrQ b j v X (bs++cs) h h3)∧h.next≤h2.next:=by
 obtain ⟨j1,v1,a1,a2,a3,a4,a5,a6⟩:=q
 refine ⟨j1,v1,a1,a2,a3,fun k k1 k2 k3=>⟨a4 k k1 k2 k3,?_⟩,fun cs h3 q=>wrq_snoc hb a4 a5 a6 q,a5⟩
 rcases a6 with ⟨rfl,rfl⟩ | a6
 ·exact k3
 ·exact .inl (by omega)
def colorsB (l:List Cl):List Nat:=l.flatMap colorB
def bytesS (g:Cmd→List Nat) (i:Icon):List Nat:=[71,76,89,49]++(numsB [i.w.toNat,i.h.toNat,i.scale.toNat,i.colors.length]++(colorsB i.colors++(numsB [i.cmds.length]++i.cmds.flatMap g)))
theorem colorsB_len (l:List Cl):(colorsB l).length=4*l.length:=by
 induction l with
 | nil=>rfl
 | cons c l ih=>simp only [colorsB,List.flatMap_cons,List.length_append,List.length_cons] at ih ⊢;rw [ih];simp [colorB];omega
attribute [local go_sem] markV cSeg cR cB cPt cCl cPath cCmd cPaint cIcon t_p_api_At t_p_errors_errorString
theorem bytes_run {Gl:qzj} (hG:IcG Gl) (i:Icon) (hf:i.Fit) (hk:checkS i=none) (hc:∀ c∈i.colors,c.In) (g:Cmd→List Nat) {m:Nat} (hm:m < 10000000) (hw:∀ c∈i.cmds,Wr f_encode_writer_cmd (fun b=>[.ptr b 0,.agg (cCmd c)]) (g c) m) (hlen:(i.cmds.flatMap g).length < 100000000) :
  CallsV Go.VL.Er.E Gl f_encode_Bytes [.agg (cIcon i)] h0 (fun v h'=>∃ j v',v = .tuple [v',.nilI]∧AccE 0 h' j cB (bytesS g i) 1 v'):=by
 refine qze E_encode_Bytes ?_
 unfold c_encode_Bytes r_encode_Bytes
 simp only [qzl]
 have ck:=check_ok hG i hf
 rw [hk] at ck
 simp only [simprocAttr,-Int.reduceNatCast',go_sem]
 refine qzf (v := .nilI) ck rfl rfl ?_
 have sz:sizedS i=true:=by
  unfold checkS at hk
  cases e:sizedS i
  ·rw [if_pos e] at hk;exact nomatch hk
  ·rfl
 have lens:i.colors.length≤256∧i.cmds.length≤200:=by
  unfold checkS at hk
  rw [if_neg (by rw [sz];simp)] at hk
  by_cases e:256 < i.colors.length∨200 < i.cmds.length
  ·rw [if_pos e] at hk;exact nomatch hk
  ·omega
 obtain ⟨b1,b2,b3,b4,b5,b6⟩:=sized_bnd sz
 obtain ⟨W,hW⟩:∃ W:Nat,i.w=W:=⟨i.w.toNat,by omega⟩
 obtain ⟨H,hH⟩:∃ H:Nat,i.h=H:=⟨i.h.toNat,by omega⟩
 obtain ⟨S,hS⟩:∃ S:Nat,i.scale=S:=⟨i.scale.toNat,by omega⟩
 have w1:i.w.toNat=W:=by omega
 have w2:i.h.toNat=H:=by omega
 have w3:i.scale.toNat=S:=by omega
 have l1:=numsB_le [W,H,S,i.colors.length] (by simp;omega)
 have l2:=numsB_le [i.cmds.length] (by simp;omega)
 have l3:=colorsB_len i.colors
 simp only [List.length_cons,List.length_nil] at l1 l2
 simp only [simprocAttr,-Int.reduceNatCast',go_sem,hW,hH,hS]
 refine qzh (num_run [W,H,S,i.colors.length] (by simp;omega) (by simp) 2 3 (by omega) 1 (.slice 1 0 4 1 (.exact 4)) [71,76,89,49] _ ?_ ?_ ?_ ?_ ?_ ?_ ?_ (.inl (by omega))) ?_
 ·simp only [List.length_cons,List.length_nil];omega
 ·show 2 < 4;omega
 ·show 3 < 4;omega
 ·exact .inl (by omega)
 ·simp only [simprocAttr,-Int.reduceNatCast',go_sem];rfl
 ·simp only [simprocAttr,-Int.reduceNatCast',go_sem]
 ·exact .inr ⟨1,.inl rfl,rfl,by simp only [simprocAttr,-Int.reduceNatCast',go_sem];rfl,Nat.zero_le _,by show 1 < 4;omega⟩
 intro r h2 q
 obtain ⟨j2,v2,i2,ac2,bj2,fr2,tr2,n2⟩:=q.opened (show 2 < 4 by omega)
 simp only at n2 fr2
 have ic2:qza h2.l 0=some (some (.cells (cIcon i) false)):=by
  rw [(fr2 0 (by omega) (by omega) (.inl (by omega))).1];simp only [simprocAttr,-Int.reduceNatCast',go_sem,hW,hH,hS]
 have nj2:=(fr2 0 (by omega) (by omega) (.inl (by omega))).2
 simp only [simprocAttr,-Int.reduceNatCast',go_sem,ic2]
 refine qzh (eachColor_wr i.colors f_encode_writer_color colorB (by omega) (fun c hcm=>color_wr c (hc c hcm)) Gl h2 2 j2 v2 _ i2 ac2 (by omega) bj2 (by rw [List.length_append];show _+(colorsB i.colors).length+0 < _;simp only [List.length_cons,List.length_nil];omega)) ?_
 intro r h3 q3
 obtain ⟨j3,v3,i3,ac3,bj3,fr3,tr3,n3⟩:=q3.opened (by omega)
 have ic3:=(fr3 0 (by omega) (by omega) nj2).1.trans ic2
 have nj3:=(fr3 0 (by omega) (by omega) nj2).2
 simp only [simprocAttr,-Int.reduceNatCast',go_sem,ic3]
 have fX:∀ k,k < h3.next→qza ((h3.next,some (VB.cells [.int .i64 (i.cmds.length:Int)] false))::h3.l) k=qza h3.l k:=fun k hk=>by simp only [qzb];rw [if_neg (by omega)]
 refine qzh (num_run [i.cmds.length] (by simp;omega) (by simp) 2 h3.next (by omega) j3 v3 _ ⟨(h3.next,some (VB.cells [.int .i64 (i.cmds.length:Int)] false))::h3.l,h3.next+1⟩ ?_ (by show 2 < h3.next+1;omega) (by show h3.next < h3.next+1;omega) ?_ (by simp only [qzb,if_true];rfl) (by rw [fX 2 (by omega)];exact i3) (Go.VL.Wire.AccE.ext ac3 (by show h3.next≤h3.next+1;omega) (fun _ q=>fX j3 q)) bj3) ?_
 ·rw [List.length_append,List.length_append];show _+_+(colorsB i.colors).length+_ < _;simp only [List.length_cons,List.length_nil];omega
 ·exact AccE.ne ac3 (.inr (Nat.le_refl _))
 intro r h4 q4
 have q4:=q4.weak (h:=h3) (by show h3.next≤h3.next+1;omega) fX
 obtain ⟨j4,v4,i4,ac4,bj4,fr4,tr4,n4⟩:=q4.opened (by omega)
 have ic4:=(fr4 0 (by omega) (by omega) nj3).1.trans ic3
 simp only [simprocAttr,-Int.reduceNatCast',go_sem,ic4]
 refine qzh (eachCmd_wr i.cmds f_encode_writer_cmd g (by omega) hw Gl h4 2 j4 v4 _ i4 ac4 (by omega) bj4 (by rw [List.length_append,List.length_append,List.length_append];show _+_+(colorsB i.colors).length+_+_+m < _;simp only [List.length_cons,List.length_nil];omega)) ?_
 intro r h5 q5
 obtain ⟨j5,v5,i5,ac5,bj5,fr5,tr5,n5⟩:=q5.opened (by omega)
 simp only [simprocAttr,-Int.reduceNatCast',go_sem,i5]
 refine ⟨j5,v5,rfl,?_⟩
 have e:bytesS g i=[71,76,89,49]++numsB [W,H,S,i.colors.length]++i.colors.flatMap colorB++numsB [i.cmds.length]++i.cmds.flatMap g:=by
  unfold bytesS;rw [w1,w2,w3];simp only [List.append_assoc];rfl
 rw [e];exact ac5
theorem accE_shuts {h:VH} {j:Nat} {v:VV} {l:List Nat} (a:AccE 0 h j cB l 1 v) (hn:l≠[]):qzq h.get v (.fsl (qzg cB l) l.length 1):=by
 rcases a with a | ⟨e,e1,rfl,a2,a3,a4⟩
 ·exact qzq.acc (f':=cB) a (fun _ x hx=>hx) cB_len (fun _ _=>qzo.closed rfl)
 ·obtain rfl:=e1.resolve_right hn
  exact qzq.whole (by rw [get_def,a2];rfl) (by rw [flatL_length cB_len]) (Nat.le_refl _) (qzo.closed (closedL_flat (fun _=>rfl) _))
theorem bytes_ok {Gl:qzj} (hG:IcG Gl) (i:Icon) (hf:i.Fit) (hk:checkS i=none) (hc:∀ c∈i.colors,c.In) (g:Cmd→List Nat) {m:Nat} (hm:m < 10000000) (hw:∀ c∈i.cmds,Wr f_encode_writer_cmd (fun b=>[.ptr b 0,.agg (cCmd c)]) (g c) m) (hlen:(i.cmds.flatMap g).length < 100000000) :
  qzn Go.VL.Er.E Gl f_encode_Bytes [.agg (cIcon i)] (.tuple [.fsl (qzg cB (bytesS g i)) (bytesS g i).length 1,.nilI]) :=
 qzk ((bytes_run hG i hf hk hc g hm hw hlen).mono fun v h ⟨j,v',e,a⟩=>by
  rw [e]
  exact qzq.tuple (qzo.cons (accE_shuts a (by simp [bytesS])) (qzo.cons (qzq.closed rfl) qzo.nil)))
end
end Go.VL.En
namespace Go.VL.En
open Go.FR Go.IR Go.VL Go.VL.Color Go.VL.Wind Go.VL.Ic Go.VL.Wire
noncomputable section
set_option maxRecDepth 100000
set_option maxHeartbeats 1000000
structure St (N b j:Nat) (v:VV) (X:List Nat) (h:VH) (done:List Nat) (h1:VH) (j1:Nat) (v1:VV):Prop where
 i:qza h1.l b=some (some (.cells [v1] false))
 a:AccE 0 h1 j1 cB (X++done) 1 v1
 bj:b≠j1∨v1 = .nilS
 fr:∀ k,k < N→k≠b→(k≠j∨v = .nilS)→qza h1.l k=qza h.l k
 d:j1=j∧v1=v∨N≤j1
 n:N≤h1.next
def Kp (b ba:Nat) (hA:VH) (jA:Nat) (vA:VV) (hB:VH) (jB:Nat) (vB:VV):Prop:=hA.next≤hB.next∧∀ k,k < hA.next→k≠b→k≠ba→(k≠jA∨vA = .nilS)→qza hB.l k=qza hA.l k∧(k≠jB∨vB = .nilS)
theorem Kp.refl {b ba:Nat} {h:VH} {j:Nat} {v:VV}:Kp b ba h j v h j v:=⟨Nat.le_refl _,fun k _ _ _ h=>⟨rfl,h⟩⟩
theorem Kp.trans {b ba:Nat} {h1 h2 h3:VH} {j1 j2 j3:Nat} {v1 v2 v3:VV} (p:Kp b ba h1 j1 v1 h2 j2 v2) (q:Kp b ba h2 j2 v2 h3 j3 v3):Kp b ba h1 j1 v1 h3 j3 v3 :=
 ⟨Nat.le_trans p.1 q.1,fun k k1 k2 k3 k4=>by
  obtain ⟨a1,a2⟩:=p.2 k k1 k2 k3 k4
  obtain ⟨c1,c2⟩:=q.2 k (Nat.lt_of_lt_of_le k1 p.1) k2 k3 a2
  exact ⟨c1.trans a1,c2⟩⟩
theorem St.move {N b j:Nat} {v:VV} {X:List Nat} {h:VH} {done:List Nat} {h1 h2:VH} {j1:Nat} {v1:VV} (s:St N b j v X h done h1 j1 v1) (hb:b < N) (ba:Nat) (hba:N≤ba) (hbj:ba≠j1∨v1 = .nilS) (hn:h1.next≤h2.next) (hf:∀ k,k < h1.next→k≠ba→qza h2.l k=qza h1.l k):St N b j v X h done h2 j1 v1∧Kp b ba h1 j1 v1 h2 j1 v1:=by
 have hN:=s.n
 refine ⟨⟨by rw [hf b (by omega) (by omega)];exact s.i,?_,s.bj,fun k k1 k2 k3=>by rw [hf k (by omega) (by omega)];exact s.fr k k1 k2 k3,s.d,by omega⟩,hn,fun k k1 k2 k3 k4=>⟨hf k k1 k3,k4⟩⟩
 rcases s.a with a | ⟨e,e1,e2,e3,e4,e5⟩
 ·rcases a with a | ⟨a1,a2,a3,a4⟩
  ·exact .inl (.inl a)
  ·refine .inl (.inr ⟨a1,?_,a3,by omega⟩)
   rw [hf j1 a4 ?_];exact a2
   rcases hbj with x | x
   ·exact Ne.symm x
   ·rw [x] at a1;exact nomatch a1
 ·refine .inr ⟨e,e1,e2,?_,e4,by omega⟩
  rw [hf j1 e5 ?_];exact e3
  rcases hbj with x | x
  ·exact Ne.symm x
  ·rw [x] at e2;exact nomatch e2
theorem St.call {N b j:Nat} {v:VV} {X:List Nat} {h:VH} {done bs:List Nat} {h1 h2:VH} {j1:Nat} {v1:VV} (s:St N b j v X h done h1 j1 v1) (hb:b < N) (ba:Nat) (q:WrQ b j1 v1 (X++done) bs h1 h2) (hjN:N≤j1∨j1=j∧v1=v):∃ j2 v2,St N b j v X h (done++bs) h2 j2 v2∧Kp b ba h1 j1 v1 h2 j2 v2∧(ba < h1.next→ba≠b→(ba≠j1∨v1 = .nilS)→qza h2.l ba=qza h1.l ba∧(ba≠j2∨v2 = .nilS)):=by
 have hN:=s.n
 obtain ⟨j2,v2,a1,a2,a3,a4,a5,a6⟩:=q
 have kp:∀ k,k < h1.next→k≠b→(k≠j1∨v1 = .nilS)→qza h2.l k=qza h1.l k∧(k≠j2∨v2 = .nilS):=fun k k1 k2 k3=>by
  refine ⟨a4 k k1 k2 k3,?_⟩
  rcases a6 with ⟨rfl,rfl⟩ | a6
  ·exact k3
  ·exact .inl (by omega)
 refine ⟨j2,v2,⟨a1,by rw [←List.append_assoc];exact a2,a3,fun k k1 k2 k3 => ?_,?_,by omega⟩,⟨a5,fun k k1 k2 _ k4=>kp k k1 k2 k4⟩,fun x1 x2 x3=>kp ba x1 x2 x3⟩
 ·rw [a4 k (by omega) k2 ?_];exact s.fr k k1 k2 k3
  rcases s.d with ⟨rfl,rfl⟩ | d
  ·exact k3
  ·exact .inl (by omega)
 ·rcases a6 with ⟨rfl,rfl⟩ | a6
  ·exact s.d
  ·exact .inr (by omega)
def subPt (q p:Pt):Pt:=⟨q.x - p.x,q.y - p.y⟩
def lastPt:Pt→List Pt→Pt
 | a,[]=>a
 | _,q::l=>lastPt q l
def deltaB:Pt→List Pt→List Nat
 | _,[]=>[]
 | a,q::l=>pointB (subPt q a)++deltaB q l
theorem last_snoc:∀ (l:List Pt) (a q:Pt),lastPt a (l++[q])=q
 | [],a,q=>rfl
 | p::l,a,q=>last_snoc l p q
theorem delta_snoc:∀ (l:List Pt) (a q:Pt),deltaB a (l++[q])=deltaB a l++pointB (subPt q (lastPt a l))
 | [],a,q=>by simp [deltaB,lastPt]
 | p::l,a,q=>by rw [List.cons_append,deltaB,delta_snoc l,deltaB,List.append_assoc];rfl
def ptsOf (s:Seg):List Pt:=(segPts s).take s.kind.toNat
def segsB:Pt→List Seg→List Nat
 | _,[]=>[]
 | a,s::l=>deltaB a (ptsOf s)++segsB (lastPt a (ptsOf s)) l
def endPt:Pt→List Seg→Pt
 | a,[]=>a
 | a,s::l=>endPt (lastPt a (ptsOf s)) l
theorem end_snoc:∀ (l:List Seg) (a:Pt) (s:Seg),endPt a (l++[s])=lastPt (endPt a l) (ptsOf s)
 | [],a,s=>rfl
 | p::l,a,s=>end_snoc l _ s
theorem segs_snoc:∀ (l:List Seg) (a:Pt) (s:Seg),segsB a (l++[s])=segsB a l++deltaB (endPt a l) (ptsOf s)
 | [],a,s=>by simp [segsB,endPt]
 | p::l,a,s=>by rw [List.cons_append,segsB,segs_snoc l,segsB,List.append_assoc];rfl
def NearB (p:Pt):Prop:=(-4611686018427387904≤p.x∧p.x≤4611686018427387903)∧-4611686018427387904≤p.y∧p.y≤4611686018427387903
def SegOk (s:Seg):Prop:=1≤s.kind∧s.kind≤3∧∀ p∈ptsOf s,NearB p
theorem pts_len {s:Seg} (h:SegOk s):(ptsOf s).length=s.kind.toNat:=by
 unfold ptsOf segPts;rw [List.length_take];simp;have:=h.1;have:=h.2.1;omega
theorem last_near:∀ (l:List Pt) (a:Pt),NearB a→(∀ p∈l,NearB p)→NearB (lastPt a l)
 | [],a,h,_=>h
 | q::l,a,_,h=>last_near l q (h q (.head _)) fun p hp=>h p (.tail _ hp)
theorem point_le (p:Pt) (h:NearB p) (q:Pt) (hq:NearB q):(pointB (subPt p q)).length≤20:=by
 obtain ⟨h1,h2⟩:=h
 obtain ⟨h3,h4⟩:=hq
 unfold pointB
 rw [List.length_append]
 have k1:=putS_10 (zig_lt (z:=(subPt p q).x) (by unfold subPt;simp only;omega) (by unfold subPt;simp only;omega))
 have k2:=putS_10 (zig_lt (z:=(subPt p q).y) (by unfold subPt;simp only;omega) (by unfold subPt;simp only;omega))
 omega
theorem delta_le:∀ (l:List Pt) (a:Pt),NearB a→(∀ p∈l,NearB p)→(deltaB a l).length≤20*l.length
 | [],a,_,_=>by simp [deltaB]
 | q::l,a,ha,h=>by
  have h1:=point_le q (h q (.head _)) a ha
  have h2:=delta_le l q (h q (.head _)) fun p hp=>h p (.tail _ hp)
  rw [deltaB,List.length_append,List.length_cons];omega
theorem segs_le:∀ (l:List Seg) (a:Pt),NearB a→(∀ s∈l,SegOk s)→(segsB a l).length≤60*l.length∧NearB (endPt a l)
 | [],a,h,_=>⟨by simp [segsB],h⟩
 | s::l,a,ha,h=>by
  have hs:=h s (.head _)
  have h1:=delta_le (ptsOf s) a ha hs.2.2
  have h3:=pts_len hs
  have h2:=segs_le l (lastPt a (ptsOf s)) (last_near _ _ ha hs.2.2) fun t ht=>h t (.tail _ ht)
  have:=hs.2.1
  refine ⟨?_,h2.2⟩
  rw [segsB,List.length_append,List.length_cons];omega
attribute [local go_sem] cSeg cR cB cPt cCl cPath cCmd cPaint cIcon t_p_api_At t_p_errors_errorString
theorem delta_loop {Gl:qzj} (N b j:Nat) (v:VV) (X:List Nat) (h:VH) (hb:b < N) (ba bx:Nat) (hba:N≤ba) (hbx:N≤bx) (hne:ba≠bx) (s:Seg) (hs:SegOk s) (A:Pt) (hA:NearB A) (D:List Nat) (hX:X.length+D.length+100 < 1000000000) (T0:VF) (hS:VH) (jS:Nat) (vS:VV) (K:AEx→VF→VH→Prop)
  (hK:∀ T h1 j1 v1,(∀ k,k < 64→k≠13→qza T k=qza T0 k)→St N b j v X h (D++deltaB A (ptsOf s)) h1 j1 v1→Kp b ba hS jS vS h1 j1 v1→qza h1.l ba=some (some (.cells (cPt (lastPt A (ptsOf s))) false))→ba < h1.next→(ba≠j1∨v1 = .nilS)→K (.exit 4) T h1)
  (u0:qza T0 0=some (.ptr b 0)) (u6:qza T0 6=some (.ptr ba 0)) (u62:qza T0 62=some (.slice bx 1 s.kind.toNat 2 (.exact 3))) (u63:qza T0 63=some (.int .i64 (s.kind.toNat:Int)))
  (hbxs:qza hS.l bx=some (some (.cells (cSeg s) false))) (hbxn:bx < hS.next) (hbxb:bx≠b) (hbxj:bx≠jS∨vS = .nilS) :
  ∀ (d i:Nat) (T:VF) (h1:VH) (j1:Nat) (v1:VV),d+i=s.kind.toNat→(∀ k,k < 64→k≠13→qza T k=qza T0 k)→qza T 64=some (.int .i64 i)→St N b j v X h (D++deltaB A ((ptsOf s).take i)) h1 j1 v1→Kp b ba hS jS vS h1 j1 v1→qza h1.l ba=some (some (.cells (cPt (lastPt A ((ptsOf s).take i))) false))→ba < h1.next→(ba≠j1∨v1 = .nilS) →
  wp Go.VL.Er.E Gl (.loop c_encode_writer_path_l0) T h1 K:=by
 have pl:=pts_len hs
 have k1:=hs.1
 have k2:=hs.2.1
 intro d
 induction d with
 | zero =>
  intro i T h1 j1 v1 hd hT t64 st kp ia na ja
  obtain rfl:i=s.kind.toNat:=by omega
  rw [←pl,List.take_length] at st ia
  have t63:=(hT 63 (by omega) (by omega)).trans u63
  refine qzi c_encode_writer_path_l0.eq_1 ?_
  simp only [simprocAttr,-Int.reduceNatCast',go_sem,t63,t64,Int.lt_irrefl]
  refine hK _ _ j1 v1 (fun k q1 q2 => ?_) st kp ia na ja
  simp only [qzb]
  (repeat rw [if_neg (by omega)])
  exact hT k q1 q2
 | succ d ih =>
  intro i T h1 j1 v1 hd hT t64 st kp ia na ja
  have t0:=(hT 0 (by omega) (by omega)).trans u0
  have t6:=(hT 6 (by omega) (by omega)).trans u6
  have t62:=(hT 62 (by omega) (by omega)).trans u62
  have t63:=(hT 63 (by omega) (by omega)).trans u63
  refine qzi c_encode_writer_path_l0.eq_1 ?_
  have hlt:i < s.kind.toNat:=by omega
  have c:(i:Int) < (s.kind.toNat:Int):=by omega
  have hw:IntKind.i64.wrap ((i:Int)+1)=((i+1:Nat):Int):=by rw [qzd (by omega) (by omega)];rfl
  have zi:=natV_nat .i64 i
  obtain ⟨xs,xj⟩:=kp.2 bx hbxn hbxb (Ne.symm hne) hbxj
  rw [hbxs] at xs
  obtain ⟨P,hP⟩:∃ P,(ptsOf s)[i]?=some P:=⟨(ptsOf s)[i]'(by omega),List.getElem?_eq_getElem _⟩
  have hPn:=hs.2.2 P (List.mem_of_getElem? hP)
  have hcut:((cSeg s).drop (1+i*2)).take 2=cPt P∧1+i*2+2≤(cSeg s).length:=by
   have hc:i=0∨i=1∨i=2:=by omega
   have hP':(segPts s)[i]?=some P:=by
    unfold ptsOf at hP
    rw [List.getElem?_take] at hP
    rw [if_pos (by omega)] at hP;exact hP
   rcases hc with rfl | rfl | rfl
   all_goals
    simp [segPts] at hP'
    subst hP'
    exact ⟨rfl,by simp⟩
  obtain ⟨p2,p1⟩:=hcut
  have hnb:NearB (lastPt A ((ptsOf s).take i)):=last_near _ _ hA fun p hp=>hs.2.2 p (List.mem_of_mem_take hp)
  obtain ⟨⟨x1,x2⟩,x3,x4⟩:=hPn
  obtain ⟨⟨x5,x6⟩,x7,x8⟩:=hnb
  obtain ⟨B,hB⟩:∃ B,lastPt A ((ptsOf s).take i)=B:=⟨_,rfl⟩
  rw [hB] at ia x5 x6 x7 x8
  have s1:w64 (P.x - B.x)=P.x - B.x:=qzd (by omega) (by omega)
  have s2:w64 (P.y - B.y)=P.y - B.y:=qzd (by omega) (by omega)
  have p3:1+i*2≤5:=by omega
  have y1:¬h1.next=ba:=by omega
  have y2:¬h1.next=bx:=by have:=kp.1;omega
  simp only [simprocAttr,-Int.reduceNatCast',go_sem,t0,t6,t62,t63,t64,c,zi,hlt,xs,p1,p2,p3,ia,y1]
  refine qzf (sub_ok Gl P B) rfl rfl ?_
  rw [s1,s2]
  simp only [simprocAttr,-Int.reduceNatCast',go_sem,t0,t6,t62,t63,t64,ia,y1]
  obtain ⟨st1,kp1⟩:=st.move (h2:=⟨(h1.next,some (VB.cells (cPt P) false))::(h1.next,some (VB.cells [.int .i64 0,.int .i64 0] false))::h1.l,h1.next+1⟩) hb ba hba ja (by show h1.next≤h1.next+1;omega) (fun k k1 _=>by simp only [qzb];rw [if_neg (by omega),if_neg (by omega)])
  have dl:=delta_le ((ptsOf s).take i) A hA (fun p hp=>hs.2.2 p (List.mem_of_mem_take hp))
  have dl2:((ptsOf s).take i).length≤3:=by rw [List.length_take];omega
  have pl2:=point_le P ⟨⟨x1,x2⟩,x3,x4⟩ B ⟨⟨x5,x6⟩,x7,x8⟩
  refine qzh (point_wr (subPt P B) (by unfold subPt;simp only;omega) (by unfold subPt;simp only;omega) (by unfold subPt;simp only;omega) (by unfold subPt;simp only;omega) Gl _ b j1 v1 (X++(D++deltaB A ((ptsOf s).take i))) st1.i st1.a (show b < h1.next+1 by have:=st.n;omega) st1.bj (by rw [List.length_append,List.length_append];omega)) ?_
  intro r h2 q
  have qn:qza (VH.mk ((h1.next,some (VB.cells (cPt P) false))::(h1.next,some (VB.cells [.int .i64 0,.int .i64 0] false))::h1.l) (h1.next+1)).l h1.next=some (some (.cells (cPt P) false)):=by simp only [qzb,if_true]
  obtain ⟨j2,v2,a1,a2,a3,a4,a5,a6⟩:=q
  have q:WrQ b j1 v1 (X++(D++deltaB A ((ptsOf s).take i))) (pointB (subPt P B)) ⟨(h1.next,some (VB.cells (cPt P) false))::(h1.next,some (VB.cells [.int .i64 0,.int .i64 0] false))::h1.l,h1.next+1⟩ h2:=⟨j2,v2,a1,a2,a3,a4,a5,a6⟩
  clear a1 a2 a3 a4 a5 a6
  obtain ⟨j2,v2,st2,kp2,bk2⟩:=st1.call hb ba q (st1.d.symm)
  have sn:=st.n
  have q13:=(kp2.2 h1.next (by show h1.next < h1.next+1;omega) (by omega) (by omega) (AccE.ne st.a (.inr (Nat.le_refl _)))).1.trans qn
  have bb:=bk2 (by show ba < h1.next+1;omega) (by omega) ja
  have ib2:qza h2.l ba=some (some (.cells (cPt B) false)):=by rw [bb.1];simp only [qzb];rw [if_neg y1,if_neg y1];exact ia
  simp only [simprocAttr,-Int.reduceNatCast',go_sem,t0,t6,t62,t63,t64,q13,ib2,hw]
  have nn2:=kp2.1
  simp only at nn2
  obtain ⟨st3,kp3⟩:=st2.move (h2:=⟨(ba,some (VB.cells (cPt P) false))::h2.l,h2.next⟩) hb ba hba bb.2 (Nat.le_refl _) (fun k _ k3=>by simp only [qzb];rw [if_neg (Ne.symm k3)])
  refine ih (i+1) _ _ j2 v2 (by omega) (fun k q1 q2 => ?_) ?_ ?_ (kp.trans (kp1.trans (kp2.trans kp3))) ?_ (by show ba < h2.next;omega) bb.2
  ·simp only [qzb]
   (repeat rw [if_neg (by omega)])
   exact hT k q1 q2
  ·simp only [simprocAttr,-Int.reduceNatCast',go_sem]
  ·rw [take_at hP,delta_snoc,hB,←List.append_assoc];exact st3
  ·rw [take_at hP,last_snoc];simp only [qzb,if_true]
end
end Go.VL.En
namespace Go.VL.En
open Go.FR Go.IR Go.VL Go.VL.Color Go.VL.Wind Go.VL.Ic Go.VL.Wire
noncomputable section
set_option maxRecDepth 100000
set_option maxHeartbeats 1000000
attribute [local go_sem] cSeg cR cB cPt cCl cPath cCmd cPaint cIcon iC t_p_api_At t_p_errors_errorString
theorem segs_loop {Gl:qzj} (N b j:Nat) (v:VV) (X:List Nat) (h:VH) (hb:b < N) (ba:Nat) (hba:N≤ba) (l:List Seg) (hl:l.length < 1000000) (hs:∀ s∈l,SegOk s) (A:Pt) (hA:NearB A) (D:List Nat) (hX:X.length+D.length+60*l.length+200 < 1000000000) (T0:VF) (hS:VH) (jS:Nat) (vS:VV) (K:AEx→VF→VH→Prop)
  (hK:∀ T h1 j1 v1,(∀ k,k < 54→k≠11→k≠13→qza T k=qza T0 k)→St N b j v X h (D++segsB A l) h1 j1 v1→Kp b ba hS jS vS h1 j1 v1→qza h1.l ba=some (some (.cells (cPt (endPt A l)) false))→ba < h1.next→(ba≠j1∨v1 = .nilS)→K (.exit 2) T h1)
  (u0:qza T0 0=some (.ptr b 0)) (u6:qza T0 6=some (.ptr ba 0)) :
  ∀ (d i:Nat) (T:VF) (h1:VH) (j1:Nat) (v1:VV),d+i=l.length→(∀ k,k < 54→k≠11→k≠13→qza T k=qza T0 k)→qza T 53=some (.fsl (qzg cSeg l) l.length 7)→qza T 54=some (.int .i64 l.length)→qza T 55=some (.int .i64 i)→St N b j v X h (D++segsB A (l.take i)) h1 j1 v1→Kp b ba hS jS vS h1 j1 v1→qza h1.l ba=some (some (.cells (cPt (endPt A (l.take i))) false))→ba < h1.next→(ba≠j1∨v1 = .nilS) →
  wp Go.VL.Er.E Gl (.loop c_encode_writer_path_l1) T h1 K:=by
 intro d
 induction d with
 | zero =>
  intro i T h1 j1 v1 hd hT t53 t54 t55 st kp ia na ja
  obtain rfl:i=l.length:=by omega
  rw [List.take_length] at st ia
  refine qzi c_encode_writer_path_l1.eq_1 ?_
  simp only [simprocAttr,-Int.reduceNatCast',go_sem,t54,t55,Int.lt_irrefl]
  refine hK _ _ j1 v1 (fun k q1 q2 q3 => ?_) st kp ia na ja
  simp only [qzb]
  (repeat rw [if_neg (by omega)])
  exact hT k q1 q2 q3
 | succ d ih =>
  intro i T h1 j1 v1 hd hT t53 t54 t55 st kp ia na ja
  have t0:=(hT 0 (by omega) (by omega) (by omega)).trans u0
  have t6:=(hT 6 (by omega) (by omega) (by omega)).trans u6
  refine qzi c_encode_writer_path_l1.eq_1 ?_
  have hlt:i < l.length:=by omega
  have c:(i:Int) < (l.length:Int):=by omega
  have hw:IntKind.i64.wrap ((i:Int)+1)=((i+1:Nat):Int):=by rw [qzd (by omega) (by omega)];rfl
  obtain ⟨e,he⟩:∃ e,l[i]?=some e:=⟨l[i],List.getElem?_eq_getElem hlt⟩
  have hse:=hs e (List.mem_of_getElem? he)
  have p1:=qzr cSeg_len he
  have p2:=qzs cSeg_len he
  have k1:=hse.1
  have k2:=hse.2.1
  obtain ⟨kn,hkn⟩:∃ kn:Nat,e.kind.toNat=kn:=⟨_,rfl⟩
  have hk:e.kind=(kn:Int):=by omega
  have zk:qzt (VV.int .i64 e.kind)=some kn:=by rw [hk];exact natV_nat .i64 kn
  have k3:kn≤3:=by omega
  have dl:=segs_le (l.take i) A hA (fun s q=>hs s (List.mem_of_mem_take q))
  have tl:(l.take i).length=i:=by rw [List.length_take];omega
  simp only [simprocAttr,-Int.reduceNatCast',go_sem,t0,t6,t53,t54,t55,c,hlt,p1,p2,zk,k3,Nat.sub_zero]
  have sn:=st.n
  obtain ⟨st1,kp1⟩:=st.move (h2:=⟨(h1.next,some (VB.cells (cSeg e) false))::(h1.next,some (VB.cells [.int .i64 0,.int .i64 0,.int .i64 0,.int .i64 0,.int .i64 0,.int .i64 0,.int .i64 0] false))::h1.l,h1.next+1⟩) hb ba hba ja (by show h1.next≤h1.next+1;omega) (fun k k1 _=>by simp only [qzb];rw [if_neg (by omega),if_neg (by omega)])
  refine delta_loop N b j v X h hb ba h1.next hba (by omega) (by omega) e hse (endPt A (l.take i)) dl.2 (D++segsB A (l.take i)) (by rw [List.length_append];omega) _ ⟨(h1.next,some (VB.cells (cSeg e) false))::(h1.next,some (VB.cells [.int .i64 0,.int .i64 0,.int .i64 0,.int .i64 0,.int .i64 0,.int .i64 0,.int .i64 0] false))::h1.l,h1.next+1⟩ j1 v1 _ ?_ ?_ ?_ ?_ ?_ (by simp only [qzb,if_true]) (by show h1.next < h1.next+1;omega) (by omega) (AccE.ne st.a (.inr (Nat.le_refl _))) kn 0 _ _ j1 v1 (by omega) (fun _ _ _=>rfl) ?_ (by rw [List.take_zero,deltaB,List.append_nil];exact st1) Kp.refl (by rw [List.take_zero];simp only [qzb];rw [if_neg (by omega),if_neg (by omega)];exact ia) (by show ba < h1.next+1;omega) ja
  ·intro T' h2 j2 v2 hT' st2 kp2 ia2 na2 ja2
   have w55:=hT' 55 (by omega) (by omega)
   have w53:=hT' 53 (by omega) (by omega)
   have w54:=hT' 54 (by omega) (by omega)
   simp only [qzb,Nat.reduceEqDiff,if_true,if_false,t53,t54,t55] at w53 w54 w55
   simp only [simprocAttr,-Int.reduceNatCast',go_sem,w55,hw]
   refine ih (i+1) _ _ j2 v2 (by omega) (fun k q1 q2 q3 => ?_) ?_ ?_ ?_ (by rw [take_at he,segs_snoc,←List.append_assoc];exact st2) (kp.trans (kp1.trans kp2)) (by rw [take_at he,end_snoc];exact ia2) na2 ja2
   ·simp only [qzb]
    (repeat rw [if_neg (by omega)])
    rw [hT' k (by omega) q3]
    simp only [qzb]
    (repeat rw [if_neg (by omega)])
    exact hT k q1 q2 q3
   ·simp only [simprocAttr,-Int.reduceNatCast',go_sem,w53]
   ·simp only [simprocAttr,-Int.reduceNatCast',go_sem,w54]
   ·simp only [simprocAttr,-Int.reduceNatCast',go_sem]
  ·simp only [simprocAttr,-Int.reduceNatCast',go_sem,t0]
  ·simp only [simprocAttr,-Int.reduceNatCast',go_sem,t6]
  ·rw [hkn];simp only [simprocAttr,-Int.reduceNatCast',go_sem]
  ·rw [hkn];simp only [simprocAttr,-Int.reduceNatCast',go_sem]
  ·simp only [simprocAttr,-Int.reduceNatCast',go_sem];rfl
def runsB:Pt→List Run→List Seg→List Nat
 | _,[],_=>[]
 | a,r::R,l=>putS (4*r.2+r.1.toNat)++(segsB a (l.take r.2)++runsB (endPt a (l.take r.2)) R (l.drop r.2))
end
end Go.VL.En
namespace Go.VL.En
open Go.FR Go.IR Go.VL Go.VL.Color Go.VL.Wind Go.VL.Ic
noncomputable section
def expR (A:List Run):List Int:=A.flatMap fun r=>List.replicate r.2 r.1
def GoodR (A:List Run):Prop:=(∀ r∈A,1≤r.2)∧∀ i r r',A[i]?=some r→A[i+1]?=some r'→r.1≠r'.1
end
end Go.VL.En
namespace Go.VL.En
open Go.FR Go.IR Go.VL Go.VL.Color Go.VL.Wind Go.VL.Ic Go.VL.Wire
noncomputable section
def NearM (m:Int) (p:Pt):Prop:=(-m≤p.x∧p.x≤m)∧-m≤p.y∧p.y≤m
theorem NearM.b {m:Int} {p:Pt} (h:NearM m p) (hm:m≤1048576):NearB p:=by
 obtain ⟨⟨a,b⟩,c,d⟩:=h
 exact ⟨⟨by omega,by omega⟩,by omega,by omega⟩
def SegR (s:Seg):Prop:=SegOk s∧∀ p∈(segPts s).drop s.kind.toNat,zeroP p
structure PathR (p:Path):Prop where
 l:p.segs.length≤400
 n:p.segs≠[]
 s:NearB p.start
 r:∀ s∈p.segs,SegR s
structure PaintR (p:Paint):Prop where
 k:0≤p.kind∧p.kind≤2
 a:0≤p.a∧p.a < 256
 b:0≤p.b∧p.b < 256
 np:NearB p.p
 nq:NearB p.q
 z0:p.kind=0→p.b=0∧zeroP p.p∧zeroP p.q
 z2:p.kind=2→0 < p.q.x∧p.q.y=0
structure CmdR (c:Cmd):Prop where
 k:c.kind=1∧0≤c.rule∧c.rule≤1∧c.width=0∨c.kind=2∧c.rule=0∧1≤c.width∧c.width≤1048576
 p:PaintR c.paint
 n:c.paths≠[]
 l:c.paths.length≤200
 r:∀ p∈c.paths,PathR p
 o:c.kind=1→∀ p∈c.paths,p.closed=false
structure IconR (i:Icon):Prop where
 w:1≤i.w∧i.w≤4096
 h:1≤i.h∧i.h≤4096
 s:0≤i.scale∧i.scale≤6
 cs:i.colors.length≤256
 cl:i.cmds.length≤200
 r:∀ c∈i.cmds,CmdR c
 p:pointsS i≤4000
def pathB (p:Path):List Nat:=putS (2*(runsS p.segs).length+(if p.closed then 1 else 0))++(pointB p.start++runsB p.start (runsS p.segs) p.segs)
def paintB (p:Paint):List Nat:=putS p.a.toNat++(if p.kind=0 then [] else putS p.b.toNat++(pointB p.p++(if p.kind=1 then pointB p.q else putS p.q.x.toNat)))
def cmdB (c:Cmd):List Nat:=putS (c.kind - 1+2*c.rule+4*c.paint.kind).toNat++((if c.kind=2 then putS c.width.toNat else [])++(paintB c.paint++(putS c.paths.length++c.paths.flatMap pathB)))
abbrev ptsP (p:Path):Int:=1+sumS' (fun s=>s.kind) p.segs
end
end Go.VL.En
