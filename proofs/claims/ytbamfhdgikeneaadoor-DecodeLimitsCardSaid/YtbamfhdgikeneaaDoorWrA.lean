import Derived.Test.YtbamfhdgikeneaaDoorVlK
import Derived.Test.YtbamfhdgikeneaaDoorVlI
import Derived.Test.YtbamfhdgikeneaaDoorIrA
set_option linter.unusedSimpArgs false
set_option linter.unusedVariables false
namespace Go.VL.Wire
open Go.FR Go.IR Go.VL
noncomputable section
set_option maxRecDepth 100000
set_option maxHeartbeats 1000000
abbrev E:=lookE envL
def putS (n:Nat):List Nat:=if n < 128 then [n] else (n % 128+128)::putS (n / 128)
termination_by n
decreasing_by omega
abbrev cB (b:Nat):List VV:=[.int .u8 (b:Int)]
theorem cB_len (b:Nat):(cB b).length=1:=rfl
theorem putS_lt {n:Nat} (h:n < 128):putS n=[n]:=by rw [putS,if_pos h]
theorem putS_ge {n:Nat} (h:¬n < 128):putS n=(n % 128+128)::putS (n / 128):=by rw [putS,if_neg h]
theorem putS_pos (n:Nat):0 < (putS n).length:=by
 rw [putS];split<;>simp
theorem putS_len:∀ (k n:Nat),n < 128 ^ (k+1)→(putS n).length≤k+1
 | 0,n,h=>by rw [putS_lt (by simpa using h)];simp
 | k+1,n,h=>by
  by_cases c:n < 128
  ·rw [putS_lt c];simp
  ·rw [putS_ge c]
   have:=putS_len k (n / 128) (by rw [Nat.div_lt_iff_lt_mul (by omega)];rw [Nat.pow_succ] at h;exact h)
   simp only [List.length_cons];omega
theorem putS_10 {n:Nat} (h:n < 18446744073709551616):(putS n).length≤10:=putS_len 9 n (by omega)
theorem wrap_u8 (n:Nat):IntKind.u8.wrap (n:Int)=((n % 256:Nat):Int):=by
 show ((n:Int) % 256)=_
 omega
theorem or128 (x:Nat) (h:x < 256):IntKind.u8.wrap ((BitVec.ofInt IntKind.u8.bits (x:Int) ||| BitVec.ofInt IntKind.u8.bits 128).toNat:Int)=((x % 128+128:Nat):Int):=by
 have key:∀ x:Fin 256,IntKind.u8.wrap ((BitVec.ofInt IntKind.u8.bits ((x.val:Nat):Int) ||| BitVec.ofInt IntKind.u8.bits 128).toNat:Int)=((x.val % 128+128:Nat):Int):=by decide +kernel
 exact key ⟨x,h⟩
theorem AccE.ext {α:Type} {base:Nat} {h h':VH} {j:Nat} {f:α→List VV} {l:List α} {esz:Nat} {v:VV} (a:AccE base h j f l esz v) (hn:h.next≤h'.next) (hl:base≤j→j < h.next→qza h'.l j=qza h.l j):AccE base h' j f l esz v:=by
 rcases a with a | ⟨e,a1,a2,a3,a4,a5⟩
 ·exact .inl (a.ext hn hl)
 ·exact .inr ⟨e,a1,a2,by rw [hl a4 a5];exact a3,a4,by omega⟩
theorem cloneNil (Gl:qzj):qzn E Gl f_slices_Clone__byte_byte [.nilS] .nilS:=by
 refine qzk (qze E_slices_Clone__byte_byte ?_)
 unfold c_slices_Clone__byte_byte r_slices_Clone__byte_byte
 simp only [qzl]
 simp only [simprocAttr,-Int.reduceNatCast',go_sem]
 exact qzc rfl
theorem put_loop (Gl:qzj) (base:Nat) (K:AEx→VF→VH→Prop) (n0:Nat) (acc0:List Nat)
  (hK:∀ (T:VF) (h:VH) (j:Nat) (v:VV) (m:Nat) (acc:List Nat),acc++[m]=acc0++putS n0→m < 128→qza T 0=some v→qza T 1=some (.int .u64 (m:Int))→AccE base h j cB acc 1 v→base≤h.next→K (.exit 0) T h) :
  ∀ (d n:Nat) (acc:List Nat) (T:VF) (h:VH) (j:Nat) (v:VV),n < 2 ^ d→acc.length+d < 1000000→acc++putS n=acc0++putS n0→qza T 0=some v→qza T 1=some (.int .u64 (n:Int))→AccE base h j cB acc 1 v→base≤h.next →
   wp E Gl (.loop c_wire_Put_l0) T h K:=by
 intro d
 induction d with
 | zero =>
  intro n acc T h j v hn hl ha t0 t1 hacc hb
  refine qzi c_wire_Put_l0.eq_1 ?_
  obtain rfl:n=0:=by omega
  have c:¬(((0:Nat):Int) ≥ 128):=by omega
  simp only [simprocAttr,-Int.reduceNatCast',go_sem,t0,t1,c]
  refine hK _ _ j v 0 acc (by rw [←ha,putS_lt (by omega)]) (by omega) ?_ ?_ hacc hb
  ·simp only [simprocAttr,-Int.reduceNatCast',go_sem,t0]
  ·simp only [simprocAttr,-Int.reduceNatCast',go_sem,t1]
 | succ d ih =>
  intro n acc T h j v hn hl ha t0 t1 hacc hb
  refine qzi c_wire_Put_l0.eq_1 ?_
  by_cases c:n < 128
  ·have c':¬((n:Int) ≥ 128):=by omega
   simp only [simprocAttr,-Int.reduceNatCast',go_sem,t0,t1,c']
   refine hK _ _ j v n acc (by rw [←ha,putS_lt c]) c ?_ ?_ hacc hb
   ·simp only [simprocAttr,-Int.reduceNatCast',go_sem,t0]
   ·simp only [simprocAttr,-Int.reduceNatCast',go_sem,t1]
  ·have c':((n:Int) ≥ 128):=by omega
   have w1:=wrap_u8 n
   have w2:=or128 (n % 256) (Nat.mod_lt _ (by omega))
   rw [show n % 256 % 128=n % 128 by omega] at w2
   have w3:Int.fdiv (n:Int) (2 ^ min (7:Int).toNat IntKind.u64.bits)=((n / 128:Nat):Int):=by
    show Int.fdiv (n:Int) 128=_
    rw [Int.fdiv_eq_ediv_of_nonneg _ (by omega)];omega
   have z7:¬((7:Int) < 0):=by omega
   simp only [simprocAttr,-Int.reduceNatCast',go_sem] at w2 w3
   simp only [simprocAttr,-Int.reduceNatCast',go_sem,t0,t1,c',w1,w2,w3,shiftBin,z7]
   have acc2:=AccE.ext (h':=h.push (.cells [VV.int IntKind.u8 ((n % 128+128:Nat):Int)] false)) hacc (Nat.le_succ _) (fun g1 g2=>by simp only [VH.push,qzb];rw [if_neg (by omega)])
   refine wpW_accE (ls:=[n % 128+128]) acc2 (by simp only [simprocAttr,-Int.reduceNatCast',go_sem]<;>first | rfl | exact ⟨rfl,rfl⟩ | exact qzc rfl) (by simp) cB_len (by omega) (by show base≤h.next+1;omega) (by simp;omega) (by simp;omega) ?_
   intro h' g1 g2 g3
   simp only [VH.push] at g1
   simp only [simprocAttr,-Int.reduceNatCast',go_sem,t1,w3,z7,shiftBin]
   refine ih (n / 128) (acc++[n % 128+128]) _ h' _ _ (by rw [Nat.pow_succ] at hn;omega) (by simp;omega) (by rw [←ha,putS_ge c];simp) ?_ ?_ (.inl g3) (by omega)
   ·simp only [simprocAttr,-Int.reduceNatCast',go_sem]
   ·simp only [simprocAttr,-Int.reduceNatCast',go_sem]
theorem put_end (Gl:qzj) (n:Nat) (T:VF) (h:VH) (j:Nat) (v:VV) (hn:n < 18446744073709551616) (t0:qza T 0=some v) (t1:qza T 1=some (.int .u64 (n:Int))) (acc:List Nat) (hl:acc.length < 100000) (hacc:AccE 0 h j cB acc 1 v) (Q:VV→VH→Prop)
  (hQ:∀ h' i,qza h'.l i=some (some (.cells (qzg cB (acc++putS n)) false))→Q (.slice i 0 (acc++putS n).length 1 (.toEnd 1)) h') :
  wp E Gl (.loop c_wire_Put_l0) T h (kBlk 0 (kSeq E Gl (.seq (.ops [⟨(some 17),[.t 0],.p (.mov),none⟩,
  ⟨(some 18),[.t 1],.p (.mov),none⟩,
  ⟨(some 19),[.t 18],.p (.conv .u8),none⟩,
  ⟨(some 20),[.t 19],.n (.bslice 1 [(.int .u8 0)] [(0,1)]),none⟩,
  ⟨(some 21),[.t 17,.t 20],.w (.append 1 1),none⟩,
  ⟨(some 4),[.t 21],.p (.mov),none⟩]) .ret) (Ends Gl [.tmp 4] Q))):=by
 refine put_loop Gl 0 _ n acc ?_ 64 n acc T h j v (by omega) (by omega) rfl t0 t1 hacc (Nat.zero_le _)
 intro T h j v m ac ham hm t0 t1 hacc hb
 have w1:IntKind.u8.wrap (m:Int)=(m:Int):=by rw [wrap_u8,Nat.mod_eq_of_lt (by omega)]
 simp only [simprocAttr,-Int.reduceNatCast',go_sem,t0,t1,w1]
 have acc2:=AccE.ext (h':=h.push (.cells [VV.int IntKind.u8 (m:Int)] false)) hacc (Nat.le_succ _) (fun g1 g2=>by simp only [VH.push,qzb];rw [if_neg (by omega)])
 have hlen:ac.length < 200000:=by
  have:=congrArg List.length ham
  have:=putS_10 hn
  simp at *;omega
 refine wpW_accE (ls:=[m]) acc2 (by simp only [simprocAttr,-Int.reduceNatCast',go_sem]<;>first | rfl | exact ⟨rfl,rfl⟩ | exact qzc rfl) (by simp) cB_len (by omega) (Nat.zero_le _) (by simp;omega) (by simp;omega) ?_
 intro h' g1 g2 g3
 obtain ⟨e1,e2,_,_⟩:=g3.some (by simp)
 rw [ham] at e2
 simp only [simprocAttr,-Int.reduceNatCast',go_sem]
 have:=hQ h' (h.next+1) e2
 rw [←ham,List.length_append] at this
 exact this
theorem putNil (Gl:qzj) (n:Nat) (hn:n < 18446744073709551616):PureOwn E Gl f_wire_Put [.nilS,.int .u64 (n:Int)] (qzg cB (putS n)) 0 (putS n).length 1 (.toEnd 1):=by
 refine own_sound (qze E_wire_Put ?_)
 unfold c_wire_Put r_wire_Put
 simp only [qzl]
 simp only [simprocAttr,-Int.reduceNatCast',go_sem]
 refine qzf (cloneNil Gl) rfl rfl ?_
 simp only [simprocAttr,-Int.reduceNatCast',go_sem]
 refine put_end Gl n _ _ 0 .nilS hn ?_ ?_ [] (by simp) (.inl qzm.nil) _ (fun h' i hi=>⟨i,_,rfl,by rw [hi];rfl,closedL_flat (fun _=>rfl) _,subL_refl _⟩)
 ·simp only [simprocAttr,-Int.reduceNatCast',go_sem]
 ·simp only [simprocAttr,-Int.reduceNatCast',go_sem]
def zigS (z:Int):Nat:=if z < 0 then (-2*z - 1).toNat else (2*z).toNat
theorem zig_lt {z:Int} (h1:-9223372036854775808≤z) (h2:z≤9223372036854775807):zigS z < 18446744073709551616:=by unfold zigS;split<;>omega
theorem wrap_u64 (n:Int):IntKind.u64.wrap n=n % 18446744073709551616:=rfl
theorem zig_math (z:Int) (h1:-9223372036854775808≤z) (h2:z≤9223372036854775807):IntKind.u64.wrap (BitVec.ofInt IntKind.u64.bits (IntKind.u64.wrap (IntKind.u64.wrap z*2 ^ min (Int.toNat 1) IntKind.u64.bits)) ^^^ BitVec.ofInt IntKind.u64.bits (IntKind.u64.wrap (z.fdiv (2 ^ min (Int.toNat 63) IntKind.i64.bits)))).toNat=(zigS z:Nat):=by
 show IntKind.u64.wrap ((BitVec.ofInt 64 (IntKind.u64.wrap (IntKind.u64.wrap z*2)) ^^^ BitVec.ofInt 64 (IntKind.u64.wrap (z.fdiv 9223372036854775808))).toNat:Int)=(zigS z:Nat)
 simp only [wrap_u64]
 by_cases c:z < 0
 ·have e1:z.fdiv 9223372036854775808=-1:=by rw [Int.fdiv_eq_ediv_of_nonneg _ (by omega)];omega
  have e2:BitVec.ofInt 64 (-1 % 18446744073709551616)=BitVec.allOnes 64:=by decide
  rw [e1,e2,BitVec.xor_allOnes,BitVec.toNat_not,BitVec.toNat_ofInt]
  unfold zigS
  rw [if_pos c]
  omega
 ·have e1:z.fdiv 9223372036854775808=0:=by rw [Int.fdiv_eq_ediv_of_nonneg _ (by omega)];omega
  have e2:BitVec.ofInt 64 (0 % 18446744073709551616)=0#64:=by decide
  rw [e1,e2,BitVec.xor_zero,BitVec.toNat_ofInt]
  unfold zigS
  rw [if_neg c]
  omega
theorem zig_ok (Gl:qzj) (z:Int) (h1:-9223372036854775808≤z) (h2:z≤9223372036854775807):qzn E Gl f_wire_Zig [.int .i64 z] (.int .u64 (zigS z:Nat)):=by
 refine qzk (qze E_wire_Zig ?_)
 unfold c_wire_Zig r_wire_Zig
 simp only [qzl]
 have z1:¬((1:Int) < 0):=by omega
 have z2:¬((63:Int) < 0):=by omega
 have zm:=zig_math z h1 h2
 simp only [simprocAttr,-Int.reduceNatCast',go_sem] at zm
 simp only [simprocAttr,-Int.reduceNatCast',go_sem,shiftBin,z1,z2,zm]
 exact qzc rfl
end
end Go.VL.Wire
namespace Go.VL.Er
open Go.FR Go.IR Go.VL
noncomputable section
set_option maxRecDepth 100000
set_option maxHeartbeats 1000000
abbrev E:=lookE envL
abbrev erP (k:Nat):VV := .iface t_p_errors_errorString (.gptr (2*k+1) 0)
abbrev atV (k:Nat) (pos:Int):VV := .iface t_p_api_At (.fptr [.int .i64 pos,erP k] 0)
def GlHas (Gl:qzj) (k:Nat):Prop:=qza Gl (2*k)=some [erP k]∧(qza Gl (2*k+1)).isSome=true
def GlAll (Gl:qzj):Prop:=∀ k,k < 13→GlHas Gl k
theorem look_globs (tp:Nat):∀ (l:List Er) (n k:Nat),k < l.length→qza (globsFrom tp n l) (n+2*k)=some [.iface tp (.gptr (n+2*k+1) 0)]∧(qza (globsFrom tp n l) (n+2*k+1)).isSome=true
 | [],n,k,h=>by simp at h
 | e::l,n,0,h=>by simp [globsFrom,qza]
 | e::l,n,k+1,h=>by
  have:=look_globs tp l (n+2) k (by simpa using h)
  have e1:n+2+2*k=n+2*(k+1):=by omega
  rw [e1] at this
  simp only [globsFrom,qza]
  rw [if_neg (by omega),if_neg (by omega),if_neg (by omega),if_neg (by omega)]
  exact this
theorem glob_all {l:List Er} (h:13≤l.length):GlAll (globsOf t_p_errors_errorString l):=fun k hk=>by
 have:=look_globs t_p_errors_errorString l 0 k (by omega)
 rw [Nat.zero_add] at this
 exact this
structure Fault where
 code:Int
 placed:Bool
 pos:Int
deriving DecidableEq
abbrev cFault (f:Fault):List VV:=[.int .i64 f.code,.bool f.placed,.int .i64 f.pos]
def bareF (n:Int):Fault:=⟨n,false,0⟩
def placedF (n pos:Int):Fault:=if n=0 then bareF 0 else ⟨n,true,pos⟩
attribute [local go_sem] cFault erP atV t_p_api_At t_p_errors_errorString
theorem none_ok (Gl:qzj):qzn E Gl f_glyphicref_None [] (.agg (cFault (bareF 0))):=by
 refine qzk (qze E_glyphicref_None ?_)
 unfold c_glyphicref_None r_glyphicref_None bareF
 simp only [qzl]
 simp only [simprocAttr,-Int.reduceNatCast',go_sem]
 exact qzc rfl
theorem bare_ok (Gl:qzj) (n:Int):qzn E Gl f_glyphicref_Bare [.int .i64 n] (.agg (cFault (bareF n))):=by
 refine qzk (qze E_glyphicref_Bare ?_)
 unfold c_glyphicref_Bare r_glyphicref_Bare bareF
 simp only [qzl]
 simp only [simprocAttr,-Int.reduceNatCast',go_sem]
 exact qzc rfl
theorem placed_ok (Gl:qzj) (n pos:Int):qzn E Gl f_glyphicref_Placed [.int .i64 n,.int .i64 pos] (.agg (cFault (placedF n pos))):=by
 refine qzk (qze E_glyphicref_Placed ?_)
 unfold c_glyphicref_Placed r_glyphicref_Placed placedF
 simp only [qzl]
 by_cases h:n=0
 ·have hb:(n == 0)=true:=by simp [h]
  rw [if_pos h]
  simp only [simprocAttr,-Int.reduceNatCast',go_sem,hb]
  refine qzf (none_ok Gl) rfl rfl ?_
  simp only [simprocAttr,-Int.reduceNatCast',go_sem]
  exact qzc rfl
 ·have hb:(n == 0)=false:=by simp [h]
  rw [if_neg h]
  simp only [simprocAttr,-Int.reduceNatCast',go_sem,hb]
  exact qzc rfl
theorem sameF_ok (Gl:qzj) (a b:Fault):qzn E Gl f_glyphicref_SameFault [.agg (cFault a),.agg (cFault b)] (.bool (decide (a=b))):=by
 refine qzk (qze E_glyphicref_SameFault ?_)
 unfold c_glyphicref_SameFault r_glyphicref_SameFault
 simp only [qzl]
 obtain ⟨a1,a2,a3⟩:=a
 obtain ⟨b1,b2,b3⟩:=b
 have e:decide ((⟨a1,a2,a3⟩:Fault)=⟨b1,b2,b3⟩)=((a1 == b1) && ((a2 == b2) && (a3 == b3))):=by
  by_cases h1:a1=b1<;>by_cases h2:a2=b2<;>by_cases h3:a3=b3<;>simp [h1,h2,h3]
 rw [e]
 by_cases h1:a1=b1
 ·have q1:(a1 == b1)=true:=by simp [h1]
  by_cases h2:a2=b2
  ·have q2:(a2 == b2)=true:=by simp [h2]
   simp only [simprocAttr,-Int.reduceNatCast',go_sem,q1,q2]
   exact qzc rfl
  ·have q2:(a2 == b2)=false:=by simp [h2]
   simp only [simprocAttr,-Int.reduceNatCast',go_sem,q1,q2]
   exact qzc rfl
 ·have q1:(a1 == b1)=false:=by simp [h1]
  simp only [simprocAttr,-Int.reduceNatCast',go_sem,q1]
  exact qzc rfl
theorem sents_ok {Gl:qzj} (hG:GlAll Gl):PureOwn E Gl f_glyphicsee_sentinels [] ((List.range 13).map erP) 0 13 1 (.exact 13):=by
 refine own_sound (qze E_glyphicsee_sentinels ?_)
 unfold c_glyphicsee_sentinels r_glyphicsee_sentinels
 simp only [qzl]
 have g0:qza Gl 0=some [erP 0]:=(hG 0 (by omega)).1
 have g1:qza Gl 2=some [erP 1]:=(hG 1 (by omega)).1
 have g2:qza Gl 4=some [erP 2]:=(hG 2 (by omega)).1
 have g3:qza Gl 6=some [erP 3]:=(hG 3 (by omega)).1
 have g4:qza Gl 8=some [erP 4]:=(hG 4 (by omega)).1
 have g5:qza Gl 10=some [erP 5]:=(hG 5 (by omega)).1
 have g6:qza Gl 12=some [erP 6]:=(hG 6 (by omega)).1
 have g7:qza Gl 14=some [erP 7]:=(hG 7 (by omega)).1
 have g8:qza Gl 16=some [erP 8]:=(hG 8 (by omega)).1
 have g9:qza Gl 18=some [erP 9]:=(hG 9 (by omega)).1
 have g10:qza Gl 20=some [erP 10]:=(hG 10 (by omega)).1
 have g11:qza Gl 22=some [erP 11]:=(hG 11 (by omega)).1
 have g12:qza Gl 24=some [erP 12]:=(hG 12 (by omega)).1
 simp only [simprocAttr,-Int.reduceNatCast',go_sem,g_ErrText,g_ErrName,g_ErrTwice,g_ErrPath,g_ErrRange,g_ErrLimit,g_ErrShort,g_ErrMagic,g_ErrVarint,g_ErrCanon,g_ErrTrail,g_ErrWidth,g_ErrBudget,g0,g1,g2,g3,g4,g5,g6,g7,g8,g9,g10,g11,g12]
 exact ⟨0,_,rfl,rfl,rfl,subL_refl _⟩
theorem alike_ok {Gl:qzj} (hG:GlAll Gl) (k i:Nat) (hk:k < 13) (hi:i < 13):qzn E Gl f_glyphicsee_Alike [erP k,erP i] (.bool (decide (k=i))):=by
 refine qzk (qze E_glyphicsee_Alike ?_)
 unfold c_glyphicsee_Alike r_glyphicsee_Alike
 simp only [qzl]
 have g1:=(hG k hk).2
 have g2:=(hG i hi).2
 by_cases h:k=i
 ·subst h
  simp only [simprocAttr,-Int.reduceNatCast',go_sem,eq_self]
  exact qzc rfl
 ·have h':¬2*k+1=2*i+1:=by omega
  have hd:decide (k=i)=false:=by simp [h]
  simp only [simprocAttr,-Int.reduceNatCast',go_sem,g1,g2,h',hd]
  exact qzc rfl
end
end Go.VL.Er
namespace Go.VL.Er
open Go.FR Go.IR Go.VL
noncomputable section
set_option maxRecDepth 100000
set_option maxHeartbeats 1000000
theorem sent_at (i:Nat) (hi:i < 13):((List.range 13).map erP)[i]?=some (erP i):=by
 rw [List.getElem?_map,List.getElem?_range hi];rfl
theorem sent_loop {Gl:qzj} (hG:GlAll Gl) (k:Nat) (hk:k < 13) (K:AEx→VF→VH→Prop)
  (hK:∀ T h,qza T 2=some (.int .i64 (101+(k:Int)))→K .ret T h) :
  ∀ (d i:Nat) (T:VF) (h:VH) (j:Nat),d+i=k→qza T 0=some (erP k)→qza T 3=some (.slice j 0 13 1 (.exact 13))→qza T 4=some (.int .i64 i)→qza h.l j=some (some (.cells ((List.range 13).map erP) false)) →
   wp E Gl (.loop c_glyphicsee_sentinel_l0) T h K:=by
 intro d
 induction d with
 | zero =>
  intro i T h j hd t0 t3 t4 hj
  obtain rfl:i=k:=by omega
  refine qzi c_glyphicsee_sentinel_l0.eq_1 ?_
  have c1:(i:Int) < ((13:Nat):Int):=by omega
  have p1:=sent_at i hk
  have w:IntKind.i64.wrap (101+(i:Int))=101+(i:Int):=qzd (by omega) (by omega)
  simp only [wp_skip,wp_ops,wp_seq,wp_block,wp_exit,wp_cond,wpIf_bool,kSeq_n,kSeq_e,kLoop_e,wpO_nil,wpO_cons,wpG_true,wpA_p,wpA_r,wpA_w,optK_some,optR_some,optL_some,kA_app,kP_app,wpW_callF,wantV,opdsV,opdV,qzb,putV,popV,movV,iAddrSV,lenSlV,ropV,loadV,partV,scal,toAs,toA,ofA,FR.pop,abin,intBin,get_def,natV_nat,↓reduceIte,Option.getD_some,Nat.reduceEqDiff,reduceCtorEq,Nat.zero_add,and_true,decide_true,forall_const,false_implies,Bool.true_eq_false,reduceCtorEq,erP,t_p_errors_errorString,t0,t3,t4,c1,hk,hj,Nat.mul_one,p1]
  refine qzf (alike_ok hG i i hk hk) rfl rfl ?_
  have de:decide (i=i)=true:=by simp
  simp only [wp_skip,wp_ops,wp_seq,wp_ret,wp_cond,wpIf_bool,kSeq_n,kSeq_r,kBlk_n,kBlk_r,kLoop_n,kLoop_r,wpO_nil,wpO_cons,wpG_true,wpA_p,kW_app,optK_some,optL_some,kA_app,kP_app,wantV,opdsV,opdV,qzb,putV,popV,movV,cv,scal,toAs,toA,ofA,FR.pop,abin,intBin,↓reduceIte,Nat.reduceEqDiff,and_true,decide_true,forall_const,false_implies,Bool.true_eq_false,t4,w]
  refine hK _ _ ?_
  simp only [qzb,↓reduceIte]
 | succ d ih =>
  intro i T h j hd t0 t3 t4 hj
  refine qzi c_glyphicsee_sentinel_l0.eq_1 ?_
  have hi:i < 13:=by omega
  have c1:(i:Int) < ((13:Nat):Int):=by omega
  have p1:=sent_at i hi
  have w:IntKind.i64.wrap ((i:Int)+1)=((i+1:Nat):Int):=by rw [qzd (by omega) (by omega)];rfl
  simp only [wp_skip,wp_ops,wp_seq,wp_block,wp_exit,wp_cond,wpIf_bool,kSeq_n,kSeq_e,kLoop_e,wpO_nil,wpO_cons,wpG_true,wpA_p,wpA_r,wpA_w,optK_some,optR_some,optL_some,kA_app,kP_app,wpW_callF,wantV,opdsV,opdV,qzb,putV,popV,movV,iAddrSV,lenSlV,ropV,loadV,partV,scal,toAs,toA,ofA,FR.pop,abin,intBin,get_def,natV_nat,↓reduceIte,Option.getD_some,Nat.reduceEqDiff,reduceCtorEq,Nat.zero_add,and_true,decide_true,forall_const,false_implies,Bool.true_eq_false,reduceCtorEq,erP,t_p_errors_errorString,t0,t3,t4,c1,hi,hj,Nat.mul_one,p1]
  refine qzf (alike_ok hG k i hk hi) rfl rfl ?_
  have de:decide (k=i)=false:=by simp;omega
  simp only [wp_skip,wp_ops,wp_seq,wp_ret,wp_cond,wpIf_bool,kSeq_n,kSeq_r,kBlk_n,kBlk_r,kLoop_n,kLoop_r,wpO_nil,wpO_cons,wpG_true,wpA_p,kW_app,optK_some,optL_some,kA_app,kP_app,wantV,opdsV,opdV,qzb,putV,popV,movV,cv,scal,toAs,toA,ofA,FR.pop,abin,intBin,↓reduceIte,Nat.reduceEqDiff,true_and,Bool.false_eq_true,forall_const,false_implies,de,t4,w]
  refine ih (i+1) _ h j (by omega) ?_ ?_ ?_ hj
  ·simp only [qzb,↓reduceIte,reduceCtorEq,reduceCtorEq,erP,t_p_errors_errorString,t0]
  ·simp only [qzb,↓reduceIte,Nat.reduceEqDiff,t3]
  ·simp only [qzb,↓reduceIte]
attribute [local go_sem] cFault erP atV t_p_api_At t_p_errors_errorString
theorem sent_ok {Gl:qzj} (hG:GlAll Gl) (k:Nat) (hk:k < 13):qzn E Gl f_glyphicsee_sentinel [erP k] (.int .i64 (101+(k:Int))):=by
 refine qzk (qze E_glyphicsee_sentinel ?_)
 unfold c_glyphicsee_sentinel r_glyphicsee_sentinel
 simp only [qzl]
 simp only [simprocAttr,-Int.reduceNatCast',go_sem]
 refine call_own (sents_ok hG) rfl (plainL_map (fun _=>rfl) _) ?_
 simp only [simprocAttr,-Int.reduceNatCast',go_sem]
 refine sent_loop hG k hk _ ?_ k 0 _ _ 0 (by omega) ?_ ?_ ?_ ?_
 ·intro T h t2
  simp only [simprocAttr,-Int.reduceNatCast',go_sem,t2]
  exact qzc rfl
 ·simp only [simprocAttr,-Int.reduceNatCast',go_sem]
 ·simp only [simprocAttr,-Int.reduceNatCast',go_sem]
 ·simp only [simprocAttr,-Int.reduceNatCast',go_sem];rfl
 ·simp only [simprocAttr,-Int.reduceNatCast',go_sem]
theorem fault_nil (Gl:qzj):qzn E Gl f_glyphicsee_Fault [.nilI] (.agg (cFault (bareF 0))):=by
 refine qzk (qze E_glyphicsee_Fault ?_)
 unfold c_glyphicsee_Fault r_glyphicsee_Fault
 simp only [qzl]
 simp only [simprocAttr,-Int.reduceNatCast',go_sem]
 refine qzf (none_ok Gl) rfl rfl ?_
 simp only [simprocAttr,-Int.reduceNatCast',go_sem]
 exact qzc rfl
theorem fault_bare {Gl:qzj} (hG:GlAll Gl) (k:Nat) (hk:k < 13):qzn E Gl f_glyphicsee_Fault [erP k] (.agg (cFault (bareF (101+(k:Int))))):=by
 refine qzk (qze E_glyphicsee_Fault ?_)
 unfold c_glyphicsee_Fault r_glyphicsee_Fault
 simp only [qzl]
 simp only [simprocAttr,-Int.reduceNatCast',go_sem]
 refine qzf (sent_ok hG k hk) rfl rfl ?_
 simp only [simprocAttr,-Int.reduceNatCast',go_sem]
 refine qzf (bare_ok Gl _) rfl rfl ?_
 simp only [simprocAttr,-Int.reduceNatCast',go_sem]
 exact qzc rfl
theorem fault_at {Gl:qzj} (hG:GlAll Gl) (k:Nat) (hk:k < 13) (pos:Int):qzn E Gl f_glyphicsee_Fault [atV k pos] (.agg (cFault (placedF (101+(k:Int)) pos))):=by
 refine qzk (qze E_glyphicsee_Fault ?_)
 unfold c_glyphicsee_Fault r_glyphicsee_Fault
 simp only [qzl]
 simp only [simprocAttr,-Int.reduceNatCast',go_sem]
 refine qzf (sent_ok hG k hk) rfl rfl ?_
 simp only [simprocAttr,-Int.reduceNatCast',go_sem]
 refine qzf (placed_ok Gl _ _) rfl rfl ?_
 simp only [simprocAttr,-Int.reduceNatCast',go_sem]
 exact qzc rfl
inductive ErrV where
 | none
 | bare (k:Nat)
 | placed (k:Nat) (pos:Int)
def ErrV.v:ErrV→VV
 | .none => .nilI
 | .bare k=>erP k
 | .placed k pos=>atV k pos
def ErrV.ok:ErrV→Prop
 | .none=>True
 | .bare k=>k < 13
 | .placed k _=>k < 13
def ErrV.f:ErrV→Fault
 | .none=>bareF 0
 | .bare k=>bareF (101+(k:Int))
 | .placed k pos=>placedF (101+(k:Int)) pos
theorem fault_ok {Gl:qzj} (hG:GlAll Gl) (e:ErrV) (he:e.ok):qzn E Gl f_glyphicsee_Fault [e.v] (.agg (cFault e.f)):=by
 cases e with
 | none=>exact fault_nil Gl
 | bare k=>exact fault_bare hG k he
 | placed k pos=>exact fault_at hG k he pos
theorem shut_closed {h:VH}:∀ e:ErrV,shut h e.v=some e.v:=fun e=>by cases e<;>rfl
theorem see_same {Gl:qzj} (hG:GlAll Gl) (e:ErrV) (he:e.ok) (f:Fault):qzn E Gl f_glyphicsee_Same [e.v,.agg (cFault f)] (.bool (decide (e.f=f))):=by
 refine qzk (qze E_glyphicsee_Same ?_)
 unfold c_glyphicsee_Same r_glyphicsee_Same
 simp only [qzl]
 simp only [simprocAttr,-Int.reduceNatCast',go_sem]
 refine qzf (fault_ok hG e he) (by simp only [shutL,shut_closed]) rfl ?_
 simp only [simprocAttr,-Int.reduceNatCast',go_sem]
 refine qzf (sameF_ok Gl e.f f) rfl rfl ?_
 simp only [simprocAttr,-Int.reduceNatCast',go_sem]
 exact qzc rfl
end
end Go.VL.Er
