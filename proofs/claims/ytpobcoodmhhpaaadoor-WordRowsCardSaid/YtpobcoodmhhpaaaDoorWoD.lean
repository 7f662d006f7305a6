/- Chapter 8: what is reserved. -/
import Derived.Test.YtpobcoodmhhpaaaDoorVlK
import Derived.Test.YtpobcoodmhhpaaaDoorWoC
set_option linter.unusedSimpArgs false
set_option linter.unusedVariables false
namespace Go.VL.Wo
open Go.FR Go.IR Go.VL Go.VL.Er
noncomputable section
set_option maxRecDepth 100000
set_option maxHeartbeats 1000000
def KS:List UInt8:=[105,99,111,110,32,115,99,97,108,101,32,99,111,110,115,116,32,99,111,108,111,114,32,115,104,97,112,101,32,102,105,108,108,32,101,118,101,110,111,100,100,32,110,111,110,122,101,114,111,32,108,105,110,101,32,108,105,110,101,97,114,32,114,97,100,105,97,108,32,112,97,116,104,32,117,115,101,32,97,116,32,98,121,32,116,117,114,110]
def keysS:List (List UInt8):=[[105,99,111,110],[115,99,97,108,101],[99,111,110,115,116],[99,111,108,111,114],[115,104,97,112,101],[102,105,108,108],[101,118,101,110,111,100,100],[110,111,110,122,101,114,111],[108,105,110,101],[108,105,110,101,97,114],[114,97,100,105,97,108],[112,97,116,104],[117,115,101],[97,116],[98,121],[116,117,114,110]]
def spB (b:UInt8):Bool:=b.toNat == 9 || b.toNat == 10 || b.toNat == 11 || b.toNat == 12 || b.toNat == 13 || b.toNat == 32
def bitV (k:IntKind) (c:Bool):VV := .int k (if c then 1 else 0)
def spTab:List VV:=(List.range 256).map fun n=>bitV .u8 (spB (UInt8.ofNat n))
def spZ:List Int:=(List.range 256).map fun n=>if spB (UInt8.ofNat n) then 1 else 0
def GlSp (Gl:qzg):Prop:=qzc Gl g_asciiSpace=some spTab
theorem spTab_at (b:UInt8):spTab[b.toNat]?=some (.int .u8 (if spB b then 1 else 0)):=by
 unfold spTab
 rw [List.getElem?_map,List.getElem?_range b.toNat_lt,Option.map_some,UInt8.ofNat_toNat];rfl
def cntS:List UInt8→Bool→Nat
 | [],_=>0
 | b::r,was=>(if was && !spB b then 1 else 0)+cntS r (spB b)
theorem or_u8 (x y:Nat) (hx:x < 128) (hy:y < 128):∃ z:Nat,z < 128∧abin .or (.int .u8 (x:Int)) (.int .u8 (y:Int))=some (.int .u8 (z:Int)):=by
 refine ⟨x ||| y,Nat.or_lt_two_pow (n:=7) hx hy,?_⟩
 have hz:x ||| y < 128:=Nat.or_lt_two_pow (n:=7) hx hy
 simp only [abin,if_true,intBin]
 congr 2
 have:(BitVec.ofInt IntKind.u8.bits (x:Int) ||| BitVec.ofInt IntKind.u8.bits (y:Int)).toNat=x ||| y:=by
  have e:∀ n:Nat,n < 128→(BitVec.ofInt IntKind.u8.bits (n:Int)).toNat=n:=fun n hn=>by
   rw [BitVec.ofInt_natCast,BitVec.toNat_ofNat]
   exact Nat.mod_eq_of_lt (by show n < 2 ^ 8;omega)
  rw [BitVec.toNat_or,e x hx,e y hy]
 rw [this]
 show ((x ||| y:Nat):Int) % 256=_
 omega
theorem xor_not (c:Bool):aun .xor (.int .i64 (if c=true then 1 else 0))=some (.int .i64 (if c=true then -2 else -1)):=by cases c<;>rfl
theorem and_not (w c:Bool):abin .and (.int .i64 (if w=true then 1 else 0)) (.int .i64 (if c=true then -2 else -1))=some (.int .i64 ((if (w && !c)=true then 1 else 0:Nat):Int)):=by cases w<;>cases c<;>rfl
theorem wrap_bit (c:Bool):IntKind.i64.wrap (if c=true then 1 else 0)=if c=true then 1 else 0:=by cases c<;>rfl
attribute [local go_sem] erP t_p_api_At iAddrAV mkSliceV repV
theorem cnt_loop {Gl:qzg} (hs:GlSp Gl) (s:List UInt8) (hl:s.length < 1000000) (hb:∀ b∈s,b.toNat < 128) (N:Nat) (K:AEx→VF→VH→Prop)
  (hK:∀ T h x,x < 128→qzc T 0=some (.str s)→qzc T 3=some (.int .i64 (N:Int))→qzc T 5=some (.int .u8 ((x:Nat):Int))→K (.exit 0) T h) :
  ∀ (r:List UInt8) (k n x:Nat) (w:Bool) (T:VF) (h:VH),s.drop k=r→k≤s.length→x < 128→n≤k→n+cntS r w=N→qzc T 0=some (.str s)→qzc T 3=some (.int .i64 (n:Int))→qzc T 4=some (.int .i64 (if w=true then 1 else 0))→qzc T 5=some (.int .u8 ((x:Nat):Int))→qzc T 6=some (.int .i64 (k:Int)) →
   wp Go.VL.Er.E Gl (.loop c_strings_Fields_l3) T h K:=by
 intro r
 induction r with
 | nil =>
  intro k n x w T h hr hk hx hn hN t0 t3 t4 t5 t6
  have:s.length≤k:=by simpa using List.drop_eq_nil_iff.mp hr
  obtain rfl:k=s.length:=by omega
  refine loop_u c_strings_Fields_l3.eq_1 ?_
  simp only [simprocAttr,-Int.reduceNatCast',go_sem,t0,t6,Int.lt_irrefl]
  refine hK _ _ x hx ?_ ?_ ?_
  ·simp only [simprocAttr,-Int.reduceNatCast',go_sem,t0]
  ·simp only [simprocAttr,-Int.reduceNatCast',go_sem,t3]
   rw [←hN];rfl
  ·simp only [simprocAttr,-Int.reduceNatCast',go_sem,t5]
 | cons b r ih =>
  intro k n x w T h hr hk hx hn hN t0 t3 t4 t5 t6
  have hxb:s[k]?=some b:=by
   have:=congrArg (fun l=>l[0]?) hr
   simpa using this
  have hlt:k < s.length:=(List.getElem?_eq_some_iff.1 hxb).1
  have c1:(k:Int) < s.length:=by omega
  have hr':s.drop (k+1)=r:=by
   rw [drop_at hxb] at hr;exact (List.cons.inj hr).2
  have w1:IntKind.i64.wrap ((k:Int)+1)=((k+1:Nat):Int):=by rw [wrap_i64 (by omega) (by omega)];rfl
  obtain ⟨z,hz,oz⟩:=or_u8 x b.toNat hx (hb b (List.mem_of_getElem? hxb))
  have tb:=spTab_at b
  have xn:=xor_not (spB b)
  have an:=and_not w (spB b)
  have wb:=wrap_bit (spB b)
  obtain ⟨m,hm⟩:∃ m:Nat,(if (w && !spB b)=true then 1 else 0)=m:=⟨_,rfl⟩
  have m1:m≤1:=by rw [←hm];split<;>omega
  have w2:IntKind.i64.wrap ((n:Int)+(m:Int))=((n+m:Nat):Int):=by rw [wrap_i64 (by omega) (by omega)];omega
  have l256:b.toNat < 256:=b.toNat_lt
  have gs:qzc Gl g_asciiSpace=some spTab:=hs
  simp only [g_asciiSpace] at gs
  unfold cntS at hN
  rw [hm] at an hN
  refine loop_u c_strings_Fields_l3.eq_1 ?_
  simp only [simprocAttr,-Int.reduceNatCast',go_sem,t0,t3,t4,t5,t6,c1,hxb,natOf_n,natV_nat,l256,Nat.mul_one,gs,tb,g_asciiSpace,↓oz,↓xn,↓an,wb,w2,w1]
  refine ih (k+1) (n+m) z (spB b) _ _ hr' (by omega) hz (by omega) (by omega) ?_ ?_ ?_ ?_ ?_
  ·simp only [simprocAttr,-Int.reduceNatCast',go_sem,t0]
  ·simp only [simprocAttr,-Int.reduceNatCast',go_sem]
  ·simp only [simprocAttr,-Int.reduceNatCast',go_sem]
  ·simp only [simprocAttr,-Int.reduceNatCast',go_sem]
  ·simp only [simprocAttr,-Int.reduceNatCast',go_sem]
def fldF (s:List UInt8):List UInt8→Nat→Nat→Nat→List VV→Option (Nat × Nat × List VV)
 | [],_,st,na,cs=>some (st,na,cs)
 | b::r,k,st,na,cs=>if spB b=false then fldF s r (k+1) st na cs else
  match r.head? with
  | none=>none
  | some c=>if spB c=false∧na < cs.length∧st≤k then fldF s r (k+1) (k+1) (na+1) (cs.set na (.str ((s.drop st).take (k - st)))) else none
theorem set_split {cs:List VV} {n:Nat} {v:VV} (h:n < cs.length):cs.take n++v::cs.drop (n+1)=cs.set n v:=by
 rw [List.set_eq_take_append_cons_drop,if_pos h]
theorem fld_loop {Gl:qzg} (hs:GlSp Gl) (s:List UInt8) (hl:s.length < 1000000) (m:Nat) (R:Nat × Nat × List VV) (j:Nat) (K:AEx→VF→VH→Prop)
  (hK:∀ T h,qzc T 0=some (.str s)→qzc T 9=some (.slice j 0 m 1 (.exact m))→qzc T 10=some (.int .i64 ((R.2.1:Nat):Int))→qzc T 11=some (.int .i64 ((R.1:Nat):Int))→qzc h.l j=some (some (.cells R.2.2 false))→K (.exit 4) T h) :
  ∀ (r:List UInt8) (k st na:Nat) (cs:List VV) (T:VF) (h:VH),s.drop k=r→k≤s.length→na≤k→cs.length=m→fldF s r k st na cs=some R→qzc T 0=some (.str s)→qzc T 9=some (.slice j 0 m 1 (.exact m))→qzc T 10=some (.int .i64 (na:Int))→qzc T 11=some (.int .i64 (st:Int))→qzc T 12=some (.int .i64 (k:Int))→qzc h.l j=some (some (.cells cs false)) →
   wp Go.VL.Er.E Gl (.loop c_strings_Fields_l1) T h K:=by
 have gs:qzc Gl g_asciiSpace=some spTab:=hs
 simp only [g_asciiSpace] at gs
 have z10:((1:Int) != 0)=true:=rfl
 intro r
 induction r with
 | nil =>
  intro k st na cs T h hr hk hn hc hR t0 t9 t10 t11 t12 hj
  have:s.length≤k:=by simpa using List.drop_eq_nil_iff.mp hr
  obtain rfl:k=s.length:=by omega
  simp only [fldF,Option.some.injEq] at hR
  subst hR
  refine loop_u c_strings_Fields_l1.eq_1 ?_
  simp only [simprocAttr,-Int.reduceNatCast',go_sem,t0,t12,Int.lt_irrefl]
  refine hK _ h ?_ ?_ ?_ ?_ hj
  ·simp only [simprocAttr,-Int.reduceNatCast',go_sem,t0]
  ·simp only [simprocAttr,-Int.reduceNatCast',go_sem,t9]
  ·simp only [simprocAttr,-Int.reduceNatCast',go_sem,t10]
  ·simp only [simprocAttr,-Int.reduceNatCast',go_sem,t11]
 | cons b r ih =>
  intro k st na cs T h hr hk hn hc hR t0 t9 t10 t11 t12 hj
  have hxb:s[k]?=some b:=by
   have:=congrArg (fun l=>l[0]?) hr
   simpa using this
  have hlt:k < s.length:=(List.getElem?_eq_some_iff.1 hxb).1
  have c1:(k:Int) < s.length:=by omega
  have hr':s.drop (k+1)=r:=by
   rw [drop_at hxb] at hr;exact (List.cons.inj hr).2
  have w1:IntKind.i64.wrap ((k:Int)+1)=((k+1:Nat):Int):=by rw [wrap_i64 (by omega) (by omega)];rfl
  have tb:=spTab_at b
  have l256:b.toNat < 256:=b.toNat_lt
  rw [fldF] at hR
  refine loop_u c_strings_Fields_l1.eq_1 ?_
  cases hb:spB b
  ·rw [if_pos hb] at hR
   simp only [simprocAttr,-Int.reduceNatCast',go_sem,t0,t9,t10,t11,t12,c1,hxb,natOf_n,natV_nat,l256,Nat.mul_one,gs,tb,g_asciiSpace,hb,w1]
   refine ih (k+1) st na cs _ h hr' (by omega) (by omega) hc hR ?_ ?_ ?_ ?_ ?_ hj
   ·simp only [simprocAttr,-Int.reduceNatCast',go_sem,t0]
   ·simp only [simprocAttr,-Int.reduceNatCast',go_sem,t9]
   ·simp only [simprocAttr,-Int.reduceNatCast',go_sem,t10]
   ·simp only [simprocAttr,-Int.reduceNatCast',go_sem,t11]
   ·simp only [simprocAttr,-Int.reduceNatCast',go_sem]
  ·rw [if_neg (by rw [hb];simp)] at hR
   cases r with
   | nil=>exact nomatch hR
   | cons c q =>
    simp only [List.head?_cons] at hR
    by_cases g:spB c=false∧na < cs.length∧st≤k
    ·rw [if_pos g] at hR
     obtain ⟨g1,g2,g3⟩:=g
     have hxc:s[k+1]?=some c:=by
      have:=congrArg (fun l=>l[0]?) hr'
      simpa using this
     have c2:((k+1:Nat):Int) < s.length:=by have:=(List.getElem?_eq_some_iff.1 hxc).1;omega
     have tc:=spTab_at c
     have l256':c.toNat < 256:=c.toNat_lt
     have w2:IntKind.i64.wrap ((na:Int)+1)=((na+1:Nat):Int):=by rw [wrap_i64 (by omega) (by omega)];rfl
     have n16:na < m:=by omega
     have n17:na+1≤m:=by omega
     have ss:=set_split (v := .str ((s.drop st).take (k - st))) g2
     have kk:st≤k∧k≤s.length:=⟨g3,hk⟩
     simp only [simprocAttr,-Int.reduceNatCast',go_sem,t0,t9,t10,t11,t12,c1,hxb,natOf_n,natV_nat,l256,Nat.mul_one,gs,tb,g_asciiSpace,hb,w1,w2,n16,n17,hj,hc,kk,ss]
     refine loop_u c_strings_Fields_l0.eq_1 ?_
     simp only [simprocAttr,-Int.reduceNatCast',go_sem,t0,t9,t10,t11,t12,c2,hxc,natOf_n,natV_nat,Nat.mul_one,l256',gs,tc,g_asciiSpace,g1]
     refine ih (k+1) (k+1) (na+1) (cs.set na (.str ((s.drop st).take (k - st)))) _ _ hr' (by omega) (by omega) (by rw [List.length_set];exact hc) hR ?_ ?_ ?_ ?_ ?_ ?_
     ·simp only [simprocAttr,-Int.reduceNatCast',go_sem,t0]
     ·simp only [simprocAttr,-Int.reduceNatCast',go_sem,t9]
     ·simp only [simprocAttr,-Int.reduceNatCast',go_sem]
     ·simp only [simprocAttr,-Int.reduceNatCast',go_sem]
     ·simp only [simprocAttr,-Int.reduceNatCast',go_sem]
     ·simp only [look_cons,if_true]
    ·rw [if_neg g] at hR;exact nomatch hR
def fin0:List VV:=List.replicate 16 (.str [])
theorem fld_keys:fldF KS KS 0 0 0 fin0=some (84,15,(keysS.map VV.str).set 15 (.str [])):=by rfl
theorem fields_ok {Gl:qzg} (hs:GlSp Gl):PureOwn Go.VL.Er.E Gl f_strings_Fields [.str KS] (keysS.map VV.str) 0 16 1 (.exact 16):=by
 have gs:qzc Gl g_asciiSpace=some spTab:=hs
 simp only [g_asciiSpace] at gs
 refine own_sound (qzd E_strings_Fields ?_)
 unfold c_strings_Fields r_strings_Fields
 simp only [qzh]
 simp only [↓reduceIte,Nat.reduceAdd,Nat.reduceMul,Nat.reduceSub,Nat.reduceDiv,Nat.reduceLT,Nat.reduceEqDiff,reduceCtorEq,Nat.reduceLeDiff,Nat.reduceBEq,Int.reduceEq,Int.reduceLT,Int.reduceLE,Int.reduceBEq,Int.reduceGT,go_sem]
 refine cnt_loop hs KS (by decide) (by decide) 16 _ ?_ KS 0 0 0 true _ _ rfl (Nat.zero_le _) (by omega) (Nat.zero_le _) (by rfl) ?_ ?_ ?_ ?_ ?_
 ·intro T h x hx t0 t3 t5
  have c128:¬((x:Int) ≥ 128):=by omega
  have z16:natV (.int .i64 ((16:Nat):Int))=some 16:=rfl
  simp only [↓reduceIte,Nat.reduceAdd,Nat.reduceMul,Nat.reduceSub,Nat.reduceDiv,Nat.reduceLT,Nat.reduceEqDiff,reduceCtorEq,Nat.reduceLeDiff,Nat.reduceBEq,Int.reduceEq,Int.reduceLT,Int.reduceLE,Int.reduceBEq,Int.reduceGT,go_sem,t0,t3,t5,c128,z16]
  have k0:KS[0]?=some 105:=rfl
  have c0:(0:Int) < ((KS.length:Nat):Int):=by decide
  have tb:=spTab_at 105
  have sp0:spB 105=false:=rfl
  have l0:(105:UInt8).toNat < 256:=by decide
  have z0:natOf (.int .i64 0)=some 0:=rfl
  have b0:((0:Int) != 0)=false:=rfl
  refine loop_u c_strings_Fields_l2.eq_1 ?_
  simp only [↓reduceIte,Nat.reduceAdd,Nat.reduceMul,Nat.reduceSub,Nat.reduceDiv,Nat.reduceLT,Nat.reduceEqDiff,reduceCtorEq,Nat.reduceLeDiff,Nat.reduceBEq,Int.reduceEq,Int.reduceLT,Int.reduceLE,Int.reduceBEq,Int.reduceGT,go_sem,t0,c0,k0,z0,natV_nat,l0,Nat.mul_one,gs,tb,g_asciiSpace,sp0,b0]
  refine fld_loop hs KS (by decide) 16 (84,15,(keysS.map VV.str).set 15 (.str [])) h.next _ ?_ KS 0 0 0 fin0 _ _ rfl (Nat.zero_le _) (Nat.zero_le _) rfl fld_keys ?_ ?_ ?_ ?_ ?_ ?_
  ·intro T h t0 t9 t10 t11 hj
   have d1:((84:Nat):Int) < ((KS.length:Nat):Int):=by decide
   have d2:84≤KS.length:=by decide
   have d3:((KS.drop 84).take (KS.length - 84))=[116,117,114,110]:=rfl
   simp only at t10 t11 hj
   have q1:16≤((keysS.map VV.str).set 15 (.str [])).length:=by decide
   have q2:((keysS.map VV.str).set 15 (.str [])).take 15 ++ .str [116,117,114,110]::((keysS.map VV.str).set 15 (.str [])).drop 16=keysS.map VV.str:=rfl
   simp only [↓reduceIte,Nat.reduceAdd,Nat.reduceMul,Nat.reduceSub,Nat.reduceDiv,Nat.reduceLT,Nat.reduceEqDiff,reduceCtorEq,Nat.reduceLeDiff,Nat.reduceBEq,Int.reduceEq,Int.reduceLT,Int.reduceLE,Int.reduceBEq,Int.reduceGT,go_sem,t0,t9,t10,t11,d1,natOf_n,natV_nat,d2,d3,hj,Nat.mul_one,q1,q2]
   exact ⟨_,_,rfl,by simp only [if_true];rfl,rfl,subL_refl _⟩
  all_goals simp only [↓reduceIte,Nat.reduceAdd,Nat.reduceMul,Nat.reduceSub,Nat.reduceDiv,Nat.reduceLT,Nat.reduceEqDiff,reduceCtorEq,Nat.reduceLeDiff,Nat.reduceBEq,Int.reduceEq,Int.reduceLT,Int.reduceLE,Int.reduceBEq,Int.reduceGT,go_sem]
  all_goals first | exact t0 | rfl
 all_goals simp only [↓reduceIte,Nat.reduceAdd,Nat.reduceMul,Nat.reduceSub,Nat.reduceDiv,Nat.reduceLT,Nat.reduceEqDiff,reduceCtorEq,Nat.reduceLeDiff,Nat.reduceBEq,Int.reduceEq,Int.reduceLT,Int.reduceLE,Int.reduceBEq,Int.reduceGT,go_sem]
 all_goals rfl
def idxT:List (List UInt8)→List UInt8→Nat→Int
 | [],_,_=>-1
 | x::l,s,k=>if s=x then k else idxT l s (k+1)
theorem idxT_has:∀ (l:List (List UInt8)) (s:List UInt8) (k:Nat),decide (idxT l s k ≥ 0)=l.contains s
 | [],s,k=>rfl
 | x::l,s,k=>by
  unfold idxT
  by_cases e:s=x
  ·subst e;simp
  ·rw [if_neg e,idxT_has l s (k+1),List.contains_cons]
   have:(s == x)=false:=by simp [e]
   rw [this,Bool.false_or]
theorem indexT_loop (Gl:qzg) (s:List UInt8) (l:List (List UInt8)) (hl:l.length < 1000000) (r:Int) (K:AEx→VF→VH→Prop)
  (hK0:∀ T h,r=-1→K (.exit 0) T h) (hK1:∀ T h,qzc T 4=some (.int .i64 r)→K .ret T h) :
  ∀ (d i:Nat) (T:VF) (h:VH),d+i=l.length→idxT (l.drop i) s i=r→qzc T 0=some (.fsl (l.map VV.str) l.length 1)→qzc T 1=some (.str s)→qzc T 7=some (.int .i64 l.length)→qzc T 8=some (.int .i64 i) →
   wp Go.VL.Er.E Gl (.loop c_slices_Index__string_string_l0) T h K:=by
 intro d
 induction d with
 | zero =>
  intro i T h hd hr t0 t1 t7 t8
  obtain rfl:i=l.length:=by omega
  refine loop_u c_slices_Index__string_string_l0.eq_1 ?_
  simp only [simprocAttr,-Int.reduceNatCast',go_sem,t0,t1,t7,t8,Int.lt_irrefl]
  refine hK0 _ _ ?_
  rw [←hr,List.drop_length];rfl
 | succ d ih =>
  intro i T h hd hr t0 t1 t7 t8
  refine loop_u c_slices_Index__string_string_l0.eq_1 ?_
  have hlt:i < l.length:=by omega
  have c1:(i:Int) < l.length:=by omega
  obtain ⟨x,hx⟩:∃ x,l[i]?=some x:=⟨l[i],List.getElem?_eq_getElem hlt⟩
  have p1:(l.map VV.str)[i]?=some (.str x):=by rw [List.getElem?_map,hx];rfl
  have w:IntKind.i64.wrap ((i:Int)+1)=((i+1:Nat):Int):=by rw [wrap_i64 (by omega) (by omega)];rfl
  rw [drop_at hx,idxT] at hr
  by_cases e:s=x
  ·rw [if_pos e] at hr
   have e':(s == x)=true:=by simp [e]
   simp only [simprocAttr,-Int.reduceNatCast',go_sem,t0,t1,t7,t8,c1,hlt,p1,natV_nat,Nat.mul_one,strBin,e']
   refine hK1 _ _ ?_
   simp only [simprocAttr,-Int.reduceNatCast',go_sem,hr]
  ·rw [if_neg e] at hr
   have e':(s == x)=false:=by simp [e]
   simp only [simprocAttr,-Int.reduceNatCast',go_sem,t0,t1,t7,t8,c1,hlt,p1,natV_nat,Nat.mul_one,strBin,e',w]
   refine ih (i+1) _ _ (by omega) hr ?_ ?_ ?_ ?_
   ·simp only [simprocAttr,-Int.reduceNatCast',go_sem,t0]
   ·simp only [simprocAttr,-Int.reduceNatCast',go_sem,t1]
   ·simp only [simprocAttr,-Int.reduceNatCast',go_sem,t7]
   ·simp only [simprocAttr,-Int.reduceNatCast',go_sem]
theorem indexT_ok (Gl:qzg) (s:List UInt8) (l:List (List UInt8)) (hl:l.length < 1000000):qzf Go.VL.Er.E Gl f_slices_Index__string_string [.fsl (l.map VV.str) l.length 1,.str s] (.int .i64 (idxT l s 0)):=by
 refine qze (qzd E_slices_Index__string_string ?_)
 unfold c_slices_Index__string_string r_slices_Index__string_string
 simp only [qzh]
 simp only [simprocAttr,-Int.reduceNatCast',go_sem]
 refine indexT_loop Gl s l hl (idxT l s 0) _ ?_ ?_ l.length 0 _ _ (by omega) rfl ?_ ?_ ?_ ?_
 ·intro T h e
  simp only [simprocAttr,-Int.reduceNatCast',go_sem,e]
  exact qza rfl
 ·intro T h t4
  simp only [simprocAttr,-Int.reduceNatCast',go_sem,t4]
  exact qza rfl
 all_goals simp only [simprocAttr,-Int.reduceNatCast',go_sem]
 rfl
theorem containsT_ok (Gl:qzg) (s:List UInt8) (l:List (List UInt8)) (hl:l.length < 1000000):qzf Go.VL.Er.E Gl f_slices_Contains__string_string [.fsl (l.map VV.str) l.length 1,.str s] (.bool (l.contains s)):=by
 refine qze (qzd E_slices_Contains__string_string ?_)
 unfold c_slices_Contains__string_string r_slices_Contains__string_string
 simp only [qzh]
 simp only [simprocAttr,-Int.reduceNatCast',go_sem]
 refine qzb (indexT_ok Gl s l hl) rfl rfl ?_
 have e:=idxT_has l s 0
 simp only [simprocAttr,-Int.reduceNatCast',go_sem,e]
 exact qza rfl
def resS (s:List UInt8):Bool:=keysS.contains s
theorem reserved_ok {Gl:qzg} (hs:GlSp Gl) (s:List UInt8):qzf Go.VL.Er.E Gl f_word_reserved [.str s] (.bool (resS s)):=by
 refine qze (qzd E_word_reserved ?_)
 unfold c_word_reserved r_word_reserved resS
 simp only [qzh]
 simp only [simprocAttr,-Int.reduceNatCast',go_sem]
 refine call_own (fields_ok hs) rfl rfl ?_
 simp only [simprocAttr,-Int.reduceNatCast',go_sem]
 refine qzb (containsT_ok Gl s keysS (by decide)) rfl rfl ?_
 simp only [simprocAttr,-Int.reduceNatCast',go_sem]
 exact qza rfl
end
end Go.VL.Wo
