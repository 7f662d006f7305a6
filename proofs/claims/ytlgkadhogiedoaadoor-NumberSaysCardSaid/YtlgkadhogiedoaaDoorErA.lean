import Derived.Test.YtlgkadhogiedoaaDoorVlK
import Derived.Test.YtlgkadhogiedoaaDoorIrA
set_option linter.unusedSimpArgs false
set_option linter.unusedVariables false
namespace Go.VL.Er
open Go.FR Go.IR Go.VL
noncomputable section
set_option maxRecDepth 100000
set_option maxHeartbeats 1000000
abbrev E:=lookE envL
abbrev erP (k:Nat):VV := .iface t_p_errors_errorString (.gptr (2*k+1) 0)
abbrev atV (k:Nat) (pos:Int):VV := .iface t_p_api_At (.fptr [.int .i64 pos,erP k] 0)
def GlHas (Gl:qzh) (k:Nat):Prop:=qzf Gl (2*k)=some [erP k]∧(qzf Gl (2*k+1)).isSome=true
def GlAll (Gl:qzh):Prop:=∀ k,k < 13→GlHas Gl k
theorem look_globs (tp:Nat):∀ (l:List Er) (n k:Nat),k < l.length→qzf (globsFrom tp n l) (n+2*k)=some [.iface tp (.gptr (n+2*k+1) 0)]∧(qzf (globsFrom tp n l) (n+2*k+1)).isSome=true
 | [],n,k,h=>by simp at h
 | e::l,n,0,h=>by simp [globsFrom,qzf]
 | e::l,n,k+1,h=>by
  have:=look_globs tp l (n+2) k (by simpa using h)
  have e1:n+2+2*k=n+2*(k+1):=by omega
  rw [e1] at this
  simp only [globsFrom,qzf]
  rw [if_neg (by omega),if_neg (by omega),if_neg (by omega),if_neg (by omega)]
  exact this
theorem glob_all {l:List Er} (h:13≤l.length):GlAll (globsOf t_p_errors_errorString l):=fun k hk=>by
 have:=look_globs t_p_errors_errorString l 0 k (by omega)
 rw [Nat.zero_add] at this
 exact this
structure Fault where
 code:Int
 placed:Bool
 pos:Int
deriving DecidableEq
abbrev cFault (f:Fault):List VV:=[.int .i64 f.code,.bool f.placed,.int .i64 f.pos]
def bareF (n:Int):Fault:=⟨n,false,0⟩
def placedF (n pos:Int):Fault:=if n=0 then bareF 0 else ⟨n,true,pos⟩
attribute [local go_sem] cFault erP atV t_p_api_At t_p_errors_errorString
theorem none_ok (Gl:qzh):qzg E Gl f_glyphicref_None [] (.agg (cFault (bareF 0))):=by
 refine qzd (qzc E_glyphicref_None ?_)
 unfold c_glyphicref_None r_glyphicref_None bareF
 simp only [qzi]
 simp only [simprocAttr,-Int.reduceNatCast',go_sem]
 exact qza rfl
theorem bare_ok (Gl:qzh) (n:Int):qzg E Gl f_glyphicref_Bare [.int .i64 n] (.agg (cFault (bareF n))):=by
 refine qzd (qzc E_glyphicref_Bare ?_)
 unfold c_glyphicref_Bare r_glyphicref_Bare bareF
 simp only [qzi]
 simp only [simprocAttr,-Int.reduceNatCast',go_sem]
 exact qza rfl
theorem placed_ok (Gl:qzh) (n pos:Int):qzg E Gl f_glyphicref_Placed [.int .i64 n,.int .i64 pos] (.agg (cFault (placedF n pos))):=by
 refine qzd (qzc E_glyphicref_Placed ?_)
 unfold c_glyphicref_Placed r_glyphicref_Placed placedF
 simp only [qzi]
 by_cases h:n=0
 ·have hb:(n == 0)=true:=by simp [h]
  rw [if_pos h]
  simp only [simprocAttr,-Int.reduceNatCast',go_sem,hb]
  refine qzb (none_ok Gl) rfl rfl ?_
  simp only [simprocAttr,-Int.reduceNatCast',go_sem]
  exact qza rfl
 ·have hb:(n == 0)=false:=by simp [h]
  rw [if_neg h]
  simp only [simprocAttr,-Int.reduceNatCast',go_sem,hb]
  exact qza rfl
theorem sameF_ok (Gl:qzh) (a b:Fault):qzg E Gl f_glyphicref_SameFault [.agg (cFault a),.agg (cFault b)] (.bool (decide (a=b))):=by
 refine qzd (qzc E_glyphicref_SameFault ?_)
 unfold c_glyphicref_SameFault r_glyphicref_SameFault
 simp only [qzi]
 obtain ⟨a1,a2,a3⟩:=a
 obtain ⟨b1,b2,b3⟩:=b
 have e:decide ((⟨a1,a2,a3⟩:Fault)=⟨b1,b2,b3⟩)=((a1 == b1) && ((a2 == b2) && (a3 == b3))):=by
  by_cases h1:a1=b1<;>by_cases h2:a2=b2<;>by_cases h3:a3=b3<;>simp [h1,h2,h3]
 rw [e]
 by_cases h1:a1=b1
 ·have q1:(a1 == b1)=true:=by simp [h1]
  by_cases h2:a2=b2
  ·have q2:(a2 == b2)=true:=by simp [h2]
   simp only [simprocAttr,-Int.reduceNatCast',go_sem,q1,q2]
   exact qza rfl
  ·have q2:(a2 == b2)=false:=by simp [h2]
   simp only [simprocAttr,-Int.reduceNatCast',go_sem,q1,q2]
   exact qza rfl
 ·have q1:(a1 == b1)=false:=by simp [h1]
  simp only [simprocAttr,-Int.reduceNatCast',go_sem,q1]
  exact qza rfl
theorem sents_ok {Gl:qzh} (hG:GlAll Gl):PureOwn E Gl f_glyphicsee_sentinels [] ((List.range 13).map erP) 0 13 1 (.exact 13):=by
 refine own_sound (qzc E_glyphicsee_sentinels ?_)
 unfold c_glyphicsee_sentinels r_glyphicsee_sentinels
 simp only [qzi]
 have g0:qzf Gl 0=some [erP 0]:=(hG 0 (by omega)).1
 have g1:qzf Gl 2=some [erP 1]:=(hG 1 (by omega)).1
 have g2:qzf Gl 4=some [erP 2]:=(hG 2 (by omega)).1
 have g3:qzf Gl 6=some [erP 3]:=(hG 3 (by omega)).1
 have g4:qzf Gl 8=some [erP 4]:=(hG 4 (by omega)).1
 have g5:qzf Gl 10=some [erP 5]:=(hG 5 (by omega)).1
 have g6:qzf Gl 12=some [erP 6]:=(hG 6 (by omega)).1
 have g7:qzf Gl 14=some [erP 7]:=(hG 7 (by omega)).1
 have g8:qzf Gl 16=some [erP 8]:=(hG 8 (by omega)).1
 have g9:qzf Gl 18=some [erP 9]:=(hG 9 (by omega)).1
 have g10:qzf Gl 20=some [erP 10]:=(hG 10 (by omega)).1
 have g11:qzf Gl 22=some [erP 11]:=(hG 11 (by omega)).1
 have g12:qzf Gl 24=some [erP 12]:=(hG 12 (by omega)).1
 simp only [simprocAttr,-Int.reduceNatCast',go_sem,g_ErrText,g_ErrName,g_ErrTwice,g_ErrPath,g_ErrRange,g_ErrLimit,g_ErrShort,g_ErrMagic,g_ErrVarint,g_ErrCanon,g_ErrTrail,g_ErrWidth,g_ErrBudget,g0,g1,g2,g3,g4,g5,g6,g7,g8,g9,g10,g11,g12]
 exact ⟨0,_,rfl,rfl,rfl,subL_refl _⟩
theorem alike_ok {Gl:qzh} (hG:GlAll Gl) (k i:Nat) (hk:k < 13) (hi:i < 13):qzg E Gl f_glyphicsee_Alike [erP k,erP i] (.bool (decide (k=i))):=by
 refine qzd (qzc E_glyphicsee_Alike ?_)
 unfold c_glyphicsee_Alike r_glyphicsee_Alike
 simp only [qzi]
 have g1:=(hG k hk).2
 have g2:=(hG i hi).2
 by_cases h:k=i
 ·subst h
  simp only [simprocAttr,-Int.reduceNatCast',go_sem,eq_self]
  exact qza rfl
 ·have h':¬2*k+1=2*i+1:=by omega
  have hd:decide (k=i)=false:=by simp [h]
  simp only [simprocAttr,-Int.reduceNatCast',go_sem,g1,g2,h',hd]
  exact qza rfl
end
end Go.VL.Er
namespace Go.VL.Er
open Go.FR Go.IR Go.VL
noncomputable section
set_option maxRecDepth 100000
set_option maxHeartbeats 1000000
theorem sent_at (i:Nat) (hi:i < 13):((List.range 13).map erP)[i]?=some (erP i):=by
 rw [List.getElem?_map,List.getElem?_range hi];rfl
theorem sent_loop {Gl:qzh} (hG:GlAll Gl) (k:Nat) (hk:k < 13) (K:AEx→VF→VH→Prop)
  (hK:∀ T h,qzf T 2=some (.int .i64 (101+(k:Int)))→K .ret T h) :
  ∀ (d i:Nat) (T:VF) (h:VH) (j:Nat),d+i=k→qzf T 0=some (erP k)→qzf T 3=some (.slice j 0 13 1 (.exact 13))→qzf T 4=some (.int .i64 i)→qzf h.l j=some (some (.cells ((List.range 13).map erP) false)) →
   wp E Gl (.loop c_glyphicsee_sentinel_l0) T h K:=by
 intro d
 induction d with
 | zero =>
  intro i T h j hd t0 t3 t4 hj
  obtain rfl:i=k:=by omega
  refine qzj c_glyphicsee_sentinel_l0.eq_1 ?_
  have c1:(i:Int) < ((13:Nat):Int):=by omega
  have p1:=sent_at i hk
  have w:IntKind.i64.wrap (101+(i:Int))=101+(i:Int):=qze (by omega) (by omega)
  simp only [wp_skip,wp_ops,wp_seq,wp_block,wp_exit,wp_cond,wpIf_bool,kSeq_n,kSeq_e,kLoop_e,wpO_nil,wpO_cons,wpG_true,wpA_p,wpA_r,wpA_w,optK_some,optR_some,optL_some,kA_app,kP_app,wpW_callF,wantV,opdsV,opdV,look_cons,putV,popV,movV,iAddrSV,lenSlV,ropV,loadV,partV,scal,toAs,toA,ofA,FR.pop,abin,intBin,get_def,natV_nat,↓reduceIte,Option.getD_some,Nat.reduceEqDiff,reduceCtorEq,Nat.zero_add,and_true,decide_true,forall_const,false_implies,Bool.true_eq_false,reduceCtorEq,erP,t_p_errors_errorString,t0,t3,t4,c1,hk,hj,Nat.mul_one,p1]
  refine qzb (alike_ok hG i i hk hk) rfl rfl ?_
  have de:decide (i=i)=true:=by simp
  simp only [wp_skip,wp_ops,wp_seq,wp_ret,wp_cond,wpIf_bool,kSeq_n,kSeq_r,kBlk_n,kBlk_r,kLoop_n,kLoop_r,wpO_nil,wpO_cons,wpG_true,wpA_p,kW_app,optK_some,optL_some,kA_app,kP_app,wantV,opdsV,opdV,look_cons,putV,popV,movV,cv,scal,toAs,toA,ofA,FR.pop,abin,intBin,↓reduceIte,Nat.reduceEqDiff,and_true,decide_true,forall_const,false_implies,Bool.true_eq_false,t4,w]
  refine hK _ _ ?_
  simp only [look_cons,↓reduceIte]
 | succ d ih =>
  intro i T h j hd t0 t3 t4 hj
  refine qzj c_glyphicsee_sentinel_l0.eq_1 ?_
  have hi:i < 13:=by omega
  have c1:(i:Int) < ((13:Nat):Int):=by omega
  have p1:=sent_at i hi
  have w:IntKind.i64.wrap ((i:Int)+1)=((i+1:Nat):Int):=by rw [qze (by omega) (by omega)];rfl
  simp only [wp_skip,wp_ops,wp_seq,wp_block,wp_exit,wp_cond,wpIf_bool,kSeq_n,kSeq_e,kLoop_e,wpO_nil,wpO_cons,wpG_true,wpA_p,wpA_r,wpA_w,optK_some,optR_some,optL_some,kA_app,kP_app,wpW_callF,wantV,opdsV,opdV,look_cons,putV,popV,movV,iAddrSV,lenSlV,ropV,loadV,partV,scal,toAs,toA,ofA,FR.pop,abin,intBin,get_def,natV_nat,↓reduceIte,Option.getD_some,Nat.reduceEqDiff,reduceCtorEq,Nat.zero_add,and_true,decide_true,forall_const,false_implies,Bool.true_eq_false,reduceCtorEq,erP,t_p_errors_errorString,t0,t3,t4,c1,hi,hj,Nat.mul_one,p1]
  refine qzb (alike_ok hG k i hk hi) rfl rfl ?_
  have de:decide (k=i)=false:=by simp;omega
  simp only [wp_skip,wp_ops,wp_seq,wp_ret,wp_cond,wpIf_bool,kSeq_n,kSeq_r,kBlk_n,kBlk_r,kLoop_n,kLoop_r,wpO_nil,wpO_cons,wpG_true,wpA_p,kW_app,optK_some,optL_some,kA_app,kP_app,wantV,opdsV,opdV,look_cons,putV,popV,movV,cv,scal,toAs,toA,ofA,FR.pop,abin,intBin,↓reduceIte,Nat.reduceEqDiff,true_and,Bool.false_eq_true,forall_const,false_implies,de,t4,w]
  refine ih (i+1) _ h j (by omega) ?_ ?_ ?_ hj
  ·simp only [look_cons,↓reduceIte,reduceCtorEq,reduceCtorEq,erP,t_p_errors_errorString,t0]
  ·simp only [look_cons,↓reduceIte,Nat.reduceEqDiff,t3]
  ·simp only [look_cons,↓reduceIte]
attribute [local go_sem] cFault erP atV t_p_api_At t_p_errors_errorString
theorem sent_ok {Gl:qzh} (hG:GlAll Gl) (k:Nat) (hk:k < 13):qzg E Gl f_glyphicsee_sentinel [erP k] (.int .i64 (101+(k:Int))):=by
 refine qzd (qzc E_glyphicsee_sentinel ?_)
 unfold c_glyphicsee_sentinel r_glyphicsee_sentinel
 simp only [qzi]
 simp only [simprocAttr,-Int.reduceNatCast',go_sem]
 refine call_own (sents_ok hG) rfl (plainL_map (fun _=>rfl) _) ?_
 simp only [simprocAttr,-Int.reduceNatCast',go_sem]
 refine sent_loop hG k hk _ ?_ k 0 _ _ 0 (by omega) ?_ ?_ ?_ ?_
 ·intro T h t2
  simp only [simprocAttr,-Int.reduceNatCast',go_sem,t2]
  exact qza rfl
 ·simp only [simprocAttr,-Int.reduceNatCast',go_sem]
 ·simp only [simprocAttr,-Int.reduceNatCast',go_sem]
 ·simp only [simprocAttr,-Int.reduceNatCast',go_sem];rfl
 ·simp only [simprocAttr,-Int.reduceNatCast',go_sem]
theorem fault_nil (Gl:qzh):qzg E Gl f_glyphicsee_Fault [.nilI] (.agg (cFault (bareF 0))):=by
 refine qzd (qzc E_glyphicsee_Fault ?_)
 unfold c_glyphicsee_Fault r_glyphicsee_Fault
 simp only [qzi]
 simp only [simprocAttr,-Int.reduceNatCast',go_sem]
 refine qzb (none_ok Gl) rfl rfl ?_
 simp only [simprocAttr,-Int.reduceNatCast',go_sem]
 exact qza rfl
theorem fault_bare {Gl:qzh} (hG:GlAll Gl) (k:Nat) (hk:k < 13):qzg E Gl f_glyphicsee_Fault [erP k] (.agg (cFault (bareF (101+(k:Int))))):=by
 refine qzd (qzc E_glyphicsee_Fault ?_)
 unfold c_glyphicsee_Fault r_glyphicsee_Fault
 simp only [qzi]
 simp only [simprocAttr,-Int.reduceNatCast',go_sem]
 refine qzb (sent_ok hG k hk) rfl rfl ?_
 simp only [simprocAttr,-Int.reduceNatCast',go_sem]
 refine qzb (bare_ok Gl _) rfl rfl ?_
 simp only [simprocAttr,-Int.reduceNatCast',go_sem]
 exact qza rfl
theorem fault_at {Gl:qzh} (hG:GlAll Gl) (k:Nat) (hk:k < 13) (pos:Int):qzg E Gl f_glyphicsee_Fault [atV k pos] (.agg (cFault (placedF (101+(k:Int)) pos))):=by
 refine qzd (qzc E_glyphicsee_Fault ?_)
 unfold c_glyphicsee_Fault r_glyphicsee_Fault
 simp only [qzi]
 simp only [simprocAttr,-Int.reduceNatCast',go_sem]
 refine qzb (sent_ok hG k hk) rfl rfl ?_
 simp only [simprocAttr,-Int.reduceNatCast',go_sem]
 refine qzb (placed_ok Gl _ _) rfl rfl ?_
 simp only [simprocAttr,-Int.reduceNatCast',go_sem]
 exact qza rfl
inductive ErrV where
 | none
 | bare (k:Nat)
 | placed (k:Nat) (pos:Int)
def ErrV.v:ErrV→VV
 | .none => .nilI
 | .bare k=>erP k
 | .placed k pos=>atV k pos
def ErrV.ok:ErrV→Prop
 | .none=>True
 | .bare k=>k < 13
 | .placed k _=>k < 13
def ErrV.f:ErrV→Fault
 | .none=>bareF 0
 | .bare k=>bareF (101+(k:Int))
 | .placed k pos=>placedF (101+(k:Int)) pos
theorem fault_ok {Gl:qzh} (hG:GlAll Gl) (e:ErrV) (he:e.ok):qzg E Gl f_glyphicsee_Fault [e.v] (.agg (cFault e.f)):=by
 cases e with
 | none=>exact fault_nil Gl
 | bare k=>exact fault_bare hG k he
 | placed k pos=>exact fault_at hG k he pos
theorem shut_closed {h:VH}:∀ e:ErrV,shut h e.v=some e.v:=fun e=>by cases e<;>rfl
theorem see_same {Gl:qzh} (hG:GlAll Gl) (e:ErrV) (he:e.ok) (f:Fault):qzg E Gl f_glyphicsee_Same [e.v,.agg (cFault f)] (.bool (decide (e.f=f))):=by
 refine qzd (qzc E_glyphicsee_Same ?_)
 unfold c_glyphicsee_Same r_glyphicsee_Same
 simp only [qzi]
 simp only [simprocAttr,-Int.reduceNatCast',go_sem]
 refine qzb (fault_ok hG e he) (by simp only [shutL,shut_closed]) rfl ?_
 simp only [simprocAttr,-Int.reduceNatCast',go_sem]
 refine qzb (sameF_ok Gl e.f f) rfl rfl ?_
 simp only [simprocAttr,-Int.reduceNatCast',go_sem]
 exact qza rfl
theorem see_is {Gl:qzh} (hG:GlAll Gl) (e:ErrV) (he:e.ok) (n:Int):qzg E Gl f_glyphicsee_Is [e.v,.int .i64 n] (.bool (decide (e.f=bareF n))):=by
 refine qzd (qzc E_glyphicsee_Is ?_)
 unfold c_glyphicsee_Is r_glyphicsee_Is
 simp only [qzi]
 simp only [simprocAttr,-Int.reduceNatCast',go_sem]
 refine qzb (bare_ok Gl n) rfl rfl ?_
 simp only [simprocAttr,-Int.reduceNatCast',go_sem]
 refine qzb (see_same hG e he _) (by simp only [shutL,shut_closed];rfl) rfl ?_
 simp only [simprocAttr,-Int.reduceNatCast',go_sem]
 exact qza rfl
end
end Go.VL.Er
