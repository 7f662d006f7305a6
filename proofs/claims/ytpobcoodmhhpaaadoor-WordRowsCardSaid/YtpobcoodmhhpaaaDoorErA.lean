import Derived.Test.YtpobcoodmhhpaaaDoorVlK
import Derived.Test.YtpobcoodmhhpaaaDoorIrA
set_option linter.unusedSimpArgs false
set_option linter.unusedVariables false
namespace Go.VL.Er
open Go.FR Go.IR Go.VL
noncomputable section
set_option maxRecDepth 100000
set_option maxHeartbeats 1000000
abbrev E:=lookE envL
abbrev erP (k:Nat):VV := .iface t_p_errors_errorString (.gptr (2*k+1) 0)
abbrev atV (k:Nat) (pos:Int):VV := .iface t_p_api_At (.fptr [.int .i64 pos,erP k] 0)
def GlHas (Gl:qzg) (k:Nat):Prop:=qzc Gl (2*k)=some [erP k]∧(qzc Gl (2*k+1)).isSome=true
def GlAll (Gl:qzg):Prop:=∀ k,k < 13→GlHas Gl k
structure Fault where
 code:Int
 placed:Bool
 pos:Int
deriving DecidableEq
abbrev cFault (f:Fault):List VV:=[.int .i64 f.code,.bool f.placed,.int .i64 f.pos]
def bareF (n:Int):Fault:=⟨n,false,0⟩
def placedF (n pos:Int):Fault:=if n=0 then bareF 0 else ⟨n,true,pos⟩
attribute [local go_sem] cFault erP atV t_p_api_At t_p_errors_errorString
end
end Go.VL.Er
namespace Go.VL.Er
open Go.FR Go.IR Go.VL
noncomputable section
set_option maxRecDepth 100000
set_option maxHeartbeats 1000000
attribute [local go_sem] cFault erP atV t_p_api_At t_p_errors_errorString
inductive ErrV where
 | none
 | bare (k:Nat)
 | placed (k:Nat) (pos:Int)
def ErrV.v:ErrV→VV
 | .none => .nilI
 | .bare k=>erP k
 | .placed k pos=>atV k pos
def ErrV.ok:ErrV→Prop
 | .none=>True
 | .bare k=>k < 13
 | .placed k _=>k < 13
def ErrV.f:ErrV→Fault
 | .none=>bareF 0
 | .bare k=>bareF (101+(k:Int))
 | .placed k pos=>placedF (101+(k:Int)) pos
end
end Go.VL.Er
namespace Go.VL.Wo
open Go.FR Go.IR Go.VL Go.VL.Er
noncomputable section
set_option maxRecDepth 100000
set_option maxHeartbeats 1000000
abbrev u8V (b:UInt8):VV := .int .u8 ((b.toNat:Nat):Int)
def blankS (b:UInt8):Bool:=b.toNat == 32 || b.toNat == 9 || b.toNat == 10 || b.toNat == 13
def digitS (b:UInt8):Bool:=decide (48≤b.toNat) && decide (b.toNat≤57)
def hexS (b:UInt8):Bool:=digitS b || (decide (97≤b.toNat) && decide (b.toNat≤102))
def lowS (b:UInt8):Bool:=decide (97≤b.toNat) && decide (b.toNat≤122)
def nameS (b:UInt8):Bool:=lowS b || digitS b || b.toNat == 95
def wordS (b:UInt8):Bool:=nameS b || (decide (65≤b.toNat) && decide (b.toNat≤90))
def lineS (b:UInt8):Bool:=b.toNat != 10
theorem beq_nat (x y:Nat):((x:Int) == (y:Int))=(x == y):=by
 rw [Bool.eq_iff_iff,beq_iff_eq,beq_iff_eq];omega
theorem natOf_n (k:IntKind) (n:Nat):natOf (.int k (n:Int))=some n:=by simp [natOf]
attribute [local go_sem] erP t_p_api_At
theorem isLow_ok (Gl:qzg) (b:UInt8):qzf Go.VL.Er.E Gl f_word_isLow [u8V b] (.bool (lowS b)):=by
 refine qze (qzd E_word_isLow ?_)
 unfold c_word_isLow r_word_isLow lowS
 simp only [qzh]
 by_cases h1:97≤b.toNat
 ·have c1:((b.toNat:Nat):Int) ≥ 97:=by omega
  have e2:decide (((b.toNat:Nat):Int)≤122)=decide (b.toNat≤122):=by congr 1;exact propext ⟨fun h=>by omega,fun h=>by omega⟩
  simp only [simprocAttr,-Int.reduceNatCast',go_sem,c1,h1,e2]
  exact qza rfl
 ·have c1:¬((b.toNat:Nat):Int) ≥ 97:=by omega
  simp only [simprocAttr,-Int.reduceNatCast',go_sem,c1,h1]
  exact qza rfl
theorem isDigit_ok (Gl:qzg) (b:UInt8):qzf Go.VL.Er.E Gl f_word_isDigit [u8V b] (.bool (digitS b)):=by
 refine qze (qzd E_word_isDigit ?_)
 unfold c_word_isDigit r_word_isDigit digitS
 simp only [qzh]
 by_cases h1:48≤b.toNat
 ·have c1:((b.toNat:Nat):Int) ≥ 48:=by omega
  have e2:decide (((b.toNat:Nat):Int)≤57)=decide (b.toNat≤57):=by congr 1;exact propext ⟨fun h=>by omega,fun h=>by omega⟩
  simp only [simprocAttr,-Int.reduceNatCast',go_sem,c1,h1,e2]
  exact qza rfl
 ·have c1:¬((b.toNat:Nat):Int) ≥ 48:=by omega
  simp only [simprocAttr,-Int.reduceNatCast',go_sem,c1,h1]
  exact qza rfl
theorem isHex_ok (Gl:qzg) (b:UInt8):qzf Go.VL.Er.E Gl f_word_isHex [u8V b] (.bool (hexS b)):=by
 refine qze (qzd E_word_isHex ?_)
 unfold c_word_isHex r_word_isHex hexS
 simp only [qzh]
 simp only [simprocAttr,-Int.reduceNatCast',go_sem]
 refine qzb (isDigit_ok Gl b) rfl rfl ?_
 by_cases h0:digitS b=true
 ·simp only [simprocAttr,-Int.reduceNatCast',go_sem,h0]
  exact qza rfl
 ·have h0:digitS b=false:=by simpa using h0
  by_cases h1:97≤b.toNat
  ·have c1:((b.toNat:Nat):Int) ≥ 97:=by omega
   have e2:decide (((b.toNat:Nat):Int)≤102)=decide (b.toNat≤102):=by congr 1;exact propext ⟨fun h=>by omega,fun h=>by omega⟩
   simp only [simprocAttr,-Int.reduceNatCast',go_sem,c1,h1,e2,h0]
   exact qza rfl
  ·have c1:¬((b.toNat:Nat):Int) ≥ 97:=by omega
   simp only [simprocAttr,-Int.reduceNatCast',go_sem,c1,h1,h0]
   exact qza rfl
theorem inName_ok (Gl:qzg) (b:UInt8):qzf Go.VL.Er.E Gl f_word_inName [u8V b] (.bool (nameS b)):=by
 refine qze (qzd E_word_inName ?_)
 unfold c_word_inName r_word_inName nameS
 simp only [qzh]
 simp only [simprocAttr,-Int.reduceNatCast',go_sem]
 refine qzb (isLow_ok Gl b) rfl rfl ?_
 by_cases h0:lowS b=true
 ·simp only [simprocAttr,-Int.reduceNatCast',go_sem,h0]
  exact qza rfl
 ·have h0:lowS b=false:=by simpa using h0
  simp only [simprocAttr,-Int.reduceNatCast',go_sem,h0]
  refine qzb (isDigit_ok Gl b) rfl rfl ?_
  have e2:(((b.toNat:Nat):Int) == 95)=(b.toNat == 95):=beq_nat b.toNat 95
  by_cases h1:digitS b=true
  ·simp only [simprocAttr,-Int.reduceNatCast',go_sem,h1]
   exact qza rfl
  ·have h1:digitS b=false:=by simpa using h1
   simp only [simprocAttr,-Int.reduceNatCast',go_sem,h1,e2]
   exact qza rfl
theorem inWord_ok (Gl:qzg) (b:UInt8):qzf Go.VL.Er.E Gl f_word_inWord [u8V b] (.bool (wordS b)):=by
 refine qze (qzd E_word_inWord ?_)
 unfold c_word_inWord r_word_inWord wordS
 simp only [qzh]
 simp only [simprocAttr,-Int.reduceNatCast',go_sem]
 refine qzb (inName_ok Gl b) rfl rfl ?_
 by_cases h0:nameS b=true
 ·simp only [simprocAttr,-Int.reduceNatCast',go_sem,h0]
  exact qza rfl
 ·have h0:nameS b=false:=by simpa using h0
  by_cases h1:65≤b.toNat
  ·have c1:((b.toNat:Nat):Int) ≥ 65:=by omega
   have e2:decide (((b.toNat:Nat):Int)≤90)=decide (b.toNat≤90):=by congr 1;exact propext ⟨fun h=>by omega,fun h=>by omega⟩
   simp only [simprocAttr,-Int.reduceNatCast',go_sem,c1,h1,e2,h0]
   exact qza rfl
  ·have c1:¬((b.toNat:Nat):Int) ≥ 65:=by omega
   simp only [simprocAttr,-Int.reduceNatCast',go_sem,c1,h1,h0]
   exact qza rfl
theorem isBlank_ok (Gl:qzg) (b:UInt8):qzf Go.VL.Er.E Gl f_word_isBlank [u8V b] (.bool (blankS b)):=by
 refine qze (qzd E_word_isBlank ?_)
 unfold c_word_isBlank r_word_isBlank blankS
 simp only [qzh]
 have e1:(((b.toNat:Nat):Int) == 32)=(b.toNat == 32):=beq_nat b.toNat 32
 have e2:(((b.toNat:Nat):Int) == 9)=(b.toNat == 9):=beq_nat b.toNat 9
 have e3:(((b.toNat:Nat):Int) == 10)=(b.toNat == 10):=beq_nat b.toNat 10
 have e4:(((b.toNat:Nat):Int) == 13)=(b.toNat == 13):=beq_nat b.toNat 13
 cases h1:(b.toNat == 32)
 ·cases h2:(b.toNat == 9)
  ·cases h3:(b.toNat == 10)
   ·simp only [simprocAttr,-Int.reduceNatCast',go_sem,e1,e2,e3,e4,h1,h2,h3]
    exact qza rfl
   ·simp only [simprocAttr,-Int.reduceNatCast',go_sem,e1,e2,e3,e4,h1,h2,h3]
    exact qza rfl
  ·simp only [simprocAttr,-Int.reduceNatCast',go_sem,e1,e2,e3,e4,h1,h2]
   exact qza rfl
 ·simp only [simprocAttr,-Int.reduceNatCast',go_sem,e1,e2,e3,e4,h1]
  exact qza rfl
theorem notLine_ok (Gl:qzg) (b:UInt8):qzf Go.VL.Er.E Gl f_word_gap_q1 [u8V b] (.bool (lineS b)):=by
 refine qze (qzd E_word_gap_q1 ?_)
 unfold c_word_gap_q1 r_word_gap_q1 lineS
 simp only [qzh]
 have e1:(((b.toNat:Nat):Int) != 10)=(b.toNat != 10):=by rw [bne,bne,←beq_nat b.toNat 10];rfl
 simp only [simprocAttr,-Int.reduceNatCast',go_sem,e1]
 exact qza rfl
def spanS (p:UInt8→Bool):List UInt8→Nat
 | []=>0
 | b::s=>if p b then spanS p s+1 else 0
theorem spanS_le (p:UInt8→Bool):∀ s:List UInt8,spanS p s≤s.length
 | []=>Nat.le_refl _
 | b::s=>by
  unfold spanS
  split
  ·have:=spanS_le p s;simp only [List.length_cons];omega
  ·simp
theorem span_loop (Gl:qzg) {f:Nat} {p:UInt8→Bool} (hp:∀ b,qzf Go.VL.Er.E Gl f [u8V b] (.bool (p b))) (s:List UInt8) (hs:s.length < 4611686018427387904) (n:Nat) (K:AEx→VF→VH→Prop)
  (hK:∀ T h,qzc T 5=some (.int .i64 (n:Int))→K (.exit 0) T h) :
  ∀ (r:List UInt8) (k:Nat) (T:VF) (h:VH),s.drop k=r→k≤s.length→k+spanS p r=n→qzc T 0=some (.str s)→qzc T 1=some (.func f [] [])→qzc T 5=some (.int .i64 (k:Int)) →
   wp Go.VL.Er.E Gl (.loop c_word_span_l0) T h K:=by
 intro r
 induction r with
 | nil =>
  intro k T h hr hk hn t0 t1 t5
  have:s.length≤k:=by simpa using List.drop_eq_nil_iff.mp hr
  obtain rfl:k=s.length:=by omega
  refine loop_u c_word_span_l0.eq_1 ?_
  simp only [simprocAttr,-Int.reduceNatCast',go_sem,t0,t1,t5,Int.lt_irrefl]
  refine hK _ _ ?_
  simp only [simprocAttr,-Int.reduceNatCast',go_sem,t5]
  rw [←hn];rfl
 | cons b r ih =>
  intro k T h hr hk hn t0 t1 t5
  have hx:s[k]?=some b:=by
   have:=congrArg (fun l=>l[0]?) hr
   simpa using this
  have hlt:k < s.length:=(List.getElem?_eq_some_iff.1 hx).1
  have c1:(k:Int) < s.length:=by omega
  have hr':s.drop (k+1)=r:=by
   rw [drop_at hx] at hr;exact (List.cons.inj hr).2
  have w1:IntKind.i64.wrap ((k:Int)+1)=((k+1:Nat):Int):=by rw [wrap_i64 (by omega) (by omega)];rfl
  refine loop_u c_word_span_l0.eq_1 ?_
  simp only [simprocAttr,-Int.reduceNatCast',go_sem,t0,t1,t5,c1,hx,natOf_n,wpW_callV]
  refine qzb (hp b) rfl rfl ?_
  unfold spanS at hn
  cases hb:p b
  ·rw [hb] at hn
   simp only [simprocAttr,-Int.reduceNatCast',go_sem]
   refine hK _ _ ?_
   simp only [simprocAttr,-Int.reduceNatCast',go_sem,t5]
   rw [←hn];simp
  ·rw [hb] at hn
   simp only [if_true] at hn
   simp only [simprocAttr,-Int.reduceNatCast',go_sem,t5,w1]
   refine ih (k+1) _ _ hr' (by omega) (by omega) ?_ ?_ ?_
   ·simp only [simprocAttr,-Int.reduceNatCast',go_sem,t0]
   ·simp only [simprocAttr,-Int.reduceNatCast',go_sem,t1]
   ·simp only [simprocAttr,-Int.reduceNatCast',go_sem]
theorem span_ok (Gl:qzg) {f:Nat} {p:UInt8→Bool} (hp:∀ b,qzf Go.VL.Er.E Gl f [u8V b] (.bool (p b))) (s:List UInt8) (hs:s.length < 4611686018427387904) :
  qzf Go.VL.Er.E Gl f_word_span [.str s,.func f [] []] (.int .i64 ((spanS p s:Nat):Int)):=by
 refine qze (qzd E_word_span ?_)
 unfold c_word_span r_word_span
 simp only [qzh]
 simp only [simprocAttr,-Int.reduceNatCast',go_sem]
 refine span_loop Gl hp s hs (spanS p s) _ ?_ s 0 _ _ rfl (Nat.zero_le _) (Nat.zero_add _) ?_ ?_ ?_
 ·intro T h t5
  simp only [simprocAttr,-Int.reduceNatCast',go_sem,t5]
  exact qza rfl
 all_goals simp only [simprocAttr,-Int.reduceNatCast',go_sem]
 rfl
end
end Go.VL.Wo
