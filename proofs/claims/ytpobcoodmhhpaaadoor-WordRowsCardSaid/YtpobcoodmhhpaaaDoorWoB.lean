/- Chapter 8: gaps, numbers, colors, names. -/
import Derived.Test.YtpobcoodmhhpaaaDoorVlK
import Derived.Test.YtpobcoodmhhpaaaDoorErA
set_option linter.unusedSimpArgs false
set_option linter.unusedVariables false
namespace Go.VL.Wo
open Go.FR Go.IR Go.VL Go.VL.Er
noncomputable section
set_option maxRecDepth 100000
set_option maxHeartbeats 1000000
def prefS (s p:List UInt8):Bool:=decide (p.length≤s.length) && (s.take p.length == p)
attribute [local go_sem] erP t_p_api_At
theorem hasPre_lite (Gl:qzg) (s p:List UInt8):qzf Go.VL.Er.E Gl f_internal_stringslite_HasPrefix [.str s,.str p] (.bool (prefS s p)):=by
 refine qze (qzd E_internal_stringslite_HasPrefix ?_)
 unfold c_internal_stringslite_HasPrefix r_internal_stringslite_HasPrefix prefS
 simp only [qzh]
 by_cases h:p.length≤s.length
 ·have c1:(s.length:Int) ≥ (p.length:Int):=by omega
  simp only [simprocAttr,-Int.reduceNatCast',go_sem,c1,h,natOf_n,Nat.sub_zero,strBin]
  exact qza rfl
 ·have c1:¬(s.length:Int) ≥ (p.length:Int):=by omega
  simp only [simprocAttr,-Int.reduceNatCast',go_sem,c1,h]
  exact qza rfl
theorem hasPre_ok (Gl:qzg) (s p:List UInt8):qzf Go.VL.Er.E Gl f_strings_HasPrefix [.str s,.str p] (.bool (prefS s p)):=by
 refine qze (qzd E_strings_HasPrefix ?_)
 unfold c_strings_HasPrefix r_strings_HasPrefix
 simp only [qzh]
 simp only [simprocAttr,-Int.reduceNatCast',go_sem]
 refine qzb (hasPre_lite Gl s p) rfl rfl ?_
 simp only [simprocAttr,-Int.reduceNatCast',go_sem]
 exact qza rfl
def gapM:Bool→List UInt8→Nat
 | _,[]=>0
 | true,b::s=>if b.toNat=10 then gapM false s+1 else gapM true s+1
 | false,b::s=>if blankS b then gapM false s+1 else if b.toNat=47∧(s.head?.map UInt8.toNat)=some 47 then gapM true s+1 else 0
theorem gapT (b:UInt8) (s:List UInt8):gapM true (b::s)=if b.toNat=10 then gapM false s+1 else gapM true s+1:=by rw [gapM]
theorem gapF (b:UInt8) (s:List UInt8):gapM false (b::s)=if blankS b then gapM false s+1 else if b.toNat=47∧(s.head?.map UInt8.toNat)=some 47 then gapM true s+1 else 0:=by rw [gapM]
abbrev gapS (s:List UInt8):Nat:=gapM false s
theorem gapM_le:∀ (m:Bool) (s:List UInt8),gapM m s≤s.length
 | m,[]=>by cases m<;>simp [gapM]
 | true,b::s=>by
  unfold gapM
  have h1:=gapM_le false s
  have h2:=gapM_le true s
  simp only [List.length_cons]
  split<;>omega
 | false,b::s=>by
  unfold gapM
  have h1:=gapM_le false s
  have h2:=gapM_le true s
  simp only [List.length_cons]
  split
  ·omega
  ·split<;>omega
theorem gap_line:∀ s:List UInt8,gapM true s=spanS lineS s+gapM false (s.drop (spanS lineS s))
 | []=>rfl
 | b::s=>by
  rw [gapT,spanS]
  by_cases h:b.toNat=10
  ·have:lineS b=false:=by simp [lineS,h]
   have hb:blankS b=true:=by simp [blankS,h]
   rw [if_pos h,this,if_neg (by simp),List.drop_zero,gapF,if_pos hb];omega
  ·have:lineS b=true:=by simp [lineS,h]
   rw [if_neg h,this,if_pos rfl,gap_line s]
   simp only [List.drop_succ_cons];omega
theorem gap_blank:∀ s:List UInt8,gapM false s=spanS blankS s+if prefS (s.drop (spanS blankS s)) [47,47] then gapM true (s.drop (spanS blankS s)) else 0
 | []=>rfl
 | b::s=>by
  rw [gapF,spanS]
  by_cases h:blankS b=true
  ·rw [if_pos h,if_pos h,gap_blank s]
   simp only [List.drop_succ_cons];omega
  ·rw [if_neg h,if_neg h,List.drop_zero,Nat.zero_add]
   have e:(b.toNat=47∧s.head?.map UInt8.toNat=some 47) ↔ prefS (b::s) [47,47]=true:=by
    cases s with
    | nil=>simp [prefS]
    | cons c s =>
     have k:∀ x:UInt8,x.toNat=47 ↔ x=47:=fun x=>⟨fun q=>UInt8.toNat_inj.mp (by rw [q];rfl),fun q=>by rw [q];rfl⟩
     simp [prefS,k]
   by_cases q:prefS (b::s) [47,47]=true
   ·rw [if_pos q,if_pos (e.mpr q),gapT]
    have:¬b.toNat=10:=by have:=(e.mpr q).1;omega
    rw [if_neg this]
   ·rw [if_neg q,if_neg (fun z=>q (e.mp z))]
theorem span2 {s:List UInt8} (h:prefS s [47,47]=true):0 < spanS lineS s:=by
 cases s with
 | nil=>simp [prefS] at h
 | cons b s =>
  cases s with
  | nil=>simp [prefS] at h
  | cons c s =>
   simp only [prefS,List.length_cons,List.length_nil,List.take_succ_cons,List.take_zero,Bool.and_eq_true,beq_iff_eq,List.cons.injEq] at h
   unfold spanS
   have:lineS b=true:=by rw [h.2.1];decide
   rw [if_pos this];omega
theorem gap_loop (Gl:qzg) (s:List UInt8) (hs:s.length < 2305843009213693952) (R:Nat) (K:AEx→VF→VH→Prop)
  (hK:∀ T h,qzc T 2=some (.int .i64 (R:Int))→K .ret T h) :
  ∀ (d k:Nat) (T:VF) (h:VH),s.length - k≤d→k≤s.length→k+gapM false (s.drop k)=R→qzc T 0=some (.str s)→qzc T 3=some (.int .i64 (k:Int)) →
   wp Go.VL.Er.E Gl (.loop c_word_gap_l0) T h K:=by
 intro d
 induction d with
 | zero =>
  intro k T h hd hk hR t0 t3
  obtain rfl:k=s.length:=by omega
  refine loop_u c_word_gap_l0.eq_1 ?_
  have sp:=span_ok Gl (isBlank_ok Gl) (s.drop s.length) (by simp)
  have hp:=hasPre_ok Gl (s.drop s.length) [47,47]
  rw [List.drop_length] at sp hp hR
  have w1:IntKind.i64.wrap ((s.length:Int)+0)=(s.length:Int):=by rw [wrap_i64 (by omega) (by omega)];omega
  have z0:((spanS blankS []:Nat):Int)=0:=rfl
  have z1:prefS [] [47,47]=false:=rfl
  rw [z0] at sp;rw [z1] at hp
  have dl:s.drop s.length=[]:=List.drop_length
  simp only [simprocAttr,-Int.reduceNatCast',go_sem,t0,t3,natOf_n,Nat.le_refl,dl,Nat.sub_self,List.take_zero]
  refine qzb sp rfl rfl ?_
  simp only [simprocAttr,-Int.reduceNatCast',go_sem,t0,t3,w1,natOf_n,Nat.le_refl,dl,Nat.sub_self,List.take_zero]
  refine qzb hp rfl rfl ?_
  simp only [simprocAttr,-Int.reduceNatCast',go_sem]
  refine hK _ _ ?_
  simp only [simprocAttr,-Int.reduceNatCast',go_sem]
  rw [←hR];rfl
 | succ d ih =>
  intro k T h hd hk hR t0 t3
  refine loop_u c_word_gap_l0.eq_1 ?_
  have le1:=spanS_le blankS (s.drop k)
  rw [List.length_drop] at le1
  have sp:=span_ok Gl (isBlank_ok Gl) (s.drop k) (by rw [List.length_drop];omega)
  rw [gap_blank,List.drop_drop] at hR
  obtain ⟨a,ha⟩:∃ a,spanS blankS (s.drop k)=a:=⟨_,rfl⟩
  rw [ha] at sp hR le1
  have hp:=hasPre_ok Gl (s.drop (k+a)) [47,47]
  have w1:IntKind.i64.wrap ((k:Int)+(a:Int))=((k+a:Nat):Int):=by rw [wrap_i64 (by omega) (by omega)];omega
  have tk:∀ n,n≤s.length→(s.drop n).take (s.length - n)=s.drop n:=fun n hn=>List.take_of_length_le (by rw [List.length_drop];omega)
  have t1:=tk k hk
  have t2:=tk (k+a) (by omega)
  have ka:k+a≤s.length:=by omega
  simp only [simprocAttr,-Int.reduceNatCast',go_sem,t0,t3,natOf_n,hk,t1]
  refine qzb sp rfl rfl ?_
  simp only [simprocAttr,-Int.reduceNatCast',go_sem,t0,t3,w1,natOf_n,ka,t2]
  refine qzb hp rfl rfl ?_
  cases hq:prefS (s.drop (k+a)) [47,47]
  ·rw [hq] at hR
   simp only [simprocAttr,-Int.reduceNatCast',go_sem]
   refine hK _ _ ?_
   simp only [simprocAttr,-Int.reduceNatCast',go_sem]
   rw [←hR];simp
  ·rw [hq,if_pos rfl,gap_line,List.drop_drop] at hR
   have s2:=span2 hq
   have le2:=spanS_le lineS (s.drop (k+a))
   rw [List.length_drop] at le2
   have sq:=span_ok Gl (notLine_ok Gl) (s.drop (k+a)) (by rw [List.length_drop];omega)
   obtain ⟨b,hb⟩:∃ b,spanS lineS (s.drop (k+a))=b:=⟨_,rfl⟩
   rw [hb] at sq hR le2 s2
   have w2:IntKind.i64.wrap (((k+a:Nat):Int)+(b:Int))=((k+a+b:Nat):Int):=by rw [wrap_i64 (by omega) (by omega)];omega
   simp only [simprocAttr,-Int.reduceNatCast',go_sem,t0,natOf_n,ka,t2]
   refine qzb sq rfl rfl ?_
   simp only [simprocAttr,-Int.reduceNatCast',go_sem,w2]
   refine ih (k+a+b) _ _ (by omega) (by omega) (by omega) ?_ ?_
   ·simp only [simprocAttr,-Int.reduceNatCast',go_sem,t0]
   ·simp only [simprocAttr,-Int.reduceNatCast',go_sem]
theorem gap_ok (Gl:qzg) (s:List UInt8) (hs:s.length < 2305843009213693952):qzf Go.VL.Er.E Gl f_word_gap [.str s] (.int .i64 ((gapS s:Nat):Int)):=by
 refine qze (qzd E_word_gap ?_)
 unfold c_word_gap r_word_gap
 simp only [qzh]
 simp only [simprocAttr,-Int.reduceNatCast',go_sem]
 refine gap_loop Gl s hs (gapS s) _ ?_ s.length 0 _ _ (by omega) (Nat.zero_le _) (by rw [List.drop_zero,Nat.zero_add]) ?_ ?_
 ·intro T h t2
  simp only [simprocAttr,-Int.reduceNatCast',go_sem,t2]
  exact qza rfl
 all_goals simp only [simprocAttr,-Int.reduceNatCast',go_sem]
 rfl
def endsS:List UInt8→Bool
 | []=>true
 | b::_ => !wordS b && b.toNat != 46 && b.toNat != 35
theorem bne_nat (x y:Nat):((x:Int) != (y:Int))=(x != y):=by rw [bne,bne,beq_nat]
theorem ends_ok (Gl:qzg) (s:List UInt8):qzf Go.VL.Er.E Gl f_word_ends [.str s] (.bool (endsS s)):=by
 refine qze (qzd E_word_ends ?_)
 unfold c_word_ends r_word_ends
 simp only [qzh]
 have z0:natOf (.int .i64 0)=some 0:=rfl
 cases s with
 | nil =>
  have c:(([]:List UInt8) == [])=true:=rfl
  simp only [simprocAttr,-Int.reduceNatCast',go_sem,strBin,c,endsS]
  exact qza rfl
 | cons b s =>
  have c:((b::s) == ([]:List UInt8))=false:=rfl
  have e1:(((b.toNat:Nat):Int) != 46)=(b.toNat != 46):=bne_nat b.toNat 46
  have e2:(((b.toNat:Nat):Int) != 35)=(b.toNat != 35):=bne_nat b.toNat 35
  simp only [simprocAttr,-Int.reduceNatCast',go_sem,strBin,c,endsS,z0]
  refine qzb (inWord_ok Gl b) rfl rfl ?_
  cases h1:wordS b
  ·cases h2:(b.toNat != 46)
   ·simp only [simprocAttr,-Int.reduceNatCast',go_sem,e1,e2,h2,z0]
    exact qza rfl
   ·simp only [simprocAttr,-Int.reduceNatCast',go_sem,e1,e2,h2,z0]
    exact qza rfl
  ·simp only [simprocAttr,-Int.reduceNatCast',go_sem]
   exact qza rfl
def nameN (s:List UInt8):Nat:=if spanS nameS s > 24 then 0 else spanS nameS s
theorem name_ok (Gl:qzg) (s:List UInt8) (hs:s.length < 2305843009213693952):qzf Go.VL.Er.E Gl f_word_name [.str s] (.int .i64 ((nameN s:Nat):Int)):=by
 refine qze (qzd E_word_name ?_)
 unfold c_word_name r_word_name nameN
 simp only [qzh]
 simp only [simprocAttr,-Int.reduceNatCast',go_sem]
 refine qzb (span_ok Gl (inName_ok Gl) s (by omega)) rfl rfl ?_
 by_cases h:spanS nameS s > 24
 ·have c:((spanS nameS s:Nat):Int) > 24:=by omega
  rw [if_pos h]
  simp only [simprocAttr,-Int.reduceNatCast',go_sem,c]
  exact qza rfl
 ·have c:¬((spanS nameS s:Nat):Int) > 24:=by omega
  rw [if_neg h]
  simp only [simprocAttr,-Int.reduceNatCast',go_sem,c]
  exact qza rfl
def colorN (s:List UInt8):Nat :=
 let n:=1+spanS hexS (s.drop 1)
 if (n=7∨n=9)∧endsS (s.drop n)=true then n else 0
theorem colorW_ok (Gl:qzg) (s:List UInt8) (h0:1≤s.length) (hs:s.length < 2305843009213693952):qzf Go.VL.Er.E Gl f_word_color [.str s] (.int .i64 ((colorN s:Nat):Int)):=by
 refine qze (qzd E_word_color ?_)
 unfold c_word_color r_word_color colorN
 simp only [qzh]
 have z1:natOf (.int .i64 1)=some 1:=rfl
 have tk:∀ n,n≤s.length→(s.drop n).take (s.length - n)=s.drop n:=fun n hn=>List.take_of_length_le (by rw [List.length_drop];omega)
 have t1:=tk 1 h0
 have le1:=spanS_le hexS (s.drop 1)
 rw [List.length_drop] at le1
 have sp:=span_ok Gl (isHex_ok Gl) (s.drop 1) (by rw [List.length_drop];omega)
 obtain ⟨a,ha⟩:∃ a,spanS hexS (s.drop 1)=a:=⟨_,rfl⟩
 rw [ha] at sp le1 ⊢
 have w1:IntKind.i64.wrap (1+(a:Int))=((1+a:Nat):Int):=by rw [wrap_i64 (by omega) (by omega)];omega
 have ka:1+a≤s.length:=by omega
 have t2:=tk (1+a) ka
 simp only [simprocAttr,-Int.reduceNatCast',go_sem,z1,h0,t1]
 refine qzb sp rfl rfl ?_
 have e7:(((1+a:Nat):Int) != 7)=decide (¬1+a=7):=(bne_nat (1+a) 7).trans (by by_cases q:1+a=7<;>simp [q])
 have e9:(((1+a:Nat):Int) != 9)=decide (¬1+a=9):=(bne_nat (1+a) 9).trans (by by_cases q:1+a=9<;>simp [q])
 have fin:∀ b:Bool,(1+a=7∨1+a=9)→endsS (s.drop (1+a))=b→((if (1+a=7∨1+a=9)∧endsS (s.drop (1+a))=true then 1+a else 0:Nat):Int)=if b then ((1+a:Nat):Int) else 0:=fun b q e=>by
  rw [e]
  cases b
  ·simp
  ·simp [q]
 by_cases q7:1+a=7
 ·have d7:decide (¬1+a=7)=false:=by simp [q7]
  have f:=fin _ (.inl q7) rfl
  rw [f]
  simp only [simprocAttr,-Int.reduceNatCast',go_sem,w1,e7,e9,d7,natOf_n,ka,t2]
  refine qzb (ends_ok Gl _) rfl rfl ?_
  cases he:endsS (s.drop (1+a))
  ·simp only [simprocAttr,-Int.reduceNatCast',go_sem]
   exact qza rfl
  ·simp only [simprocAttr,-Int.reduceNatCast',go_sem]
   exact qza rfl
 ·have d7:decide (¬1+a=7)=true:=by simp [q7]
  by_cases q9:1+a=9
  ·have d9:decide (¬1+a=9)=false:=by simp [q9]
   have f:=fin _ (.inr q9) rfl
   rw [f]
   simp only [simprocAttr,-Int.reduceNatCast',go_sem,w1,e7,e9,d7,d9,natOf_n,ka,t2]
   refine qzb (ends_ok Gl _) rfl rfl ?_
   cases he:endsS (s.drop (1+a))
   ·simp only [simprocAttr,-Int.reduceNatCast',go_sem]
    exact qza rfl
   ·simp only [simprocAttr,-Int.reduceNatCast',go_sem]
    exact qza rfl
  ·have d9:decide (¬1+a=9)=true:=by simp [q9]
   rw [if_neg (by omega)]
   simp only [simprocAttr,-Int.reduceNatCast',go_sem,w1,e7,e9,d7,d9,natOf_n,ka,t2]
   exact qza rfl
end
end Go.VL.Wo
