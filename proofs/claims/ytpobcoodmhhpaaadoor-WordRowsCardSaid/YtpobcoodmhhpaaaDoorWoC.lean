/- Chapter 8: a number's length, what is reserved. -/
import Derived.Test.YtpobcoodmhhpaaaDoorWoB
set_option linter.unusedSimpArgs false
set_option linter.unusedVariables false
namespace Go.VL.Wo
open Go.FR Go.IR Go.VL Go.VL.Er
noncomputable section
set_option maxRecDepth 100000
set_option maxHeartbeats 1000000
def numE (s:List UInt8) (n:Nat):Nat:=if endsS (s.drop n)=true then n else 0
def numP (s:List UInt8) (n:Nat):Nat :=
 if (s[n]?.map UInt8.toNat)=some 46 then
  (if spanS digitS (s.drop (n+1)) < 1∨spanS digitS (s.drop (n+1)) > 6 then 0 else numE s (n+(1+spanS digitS (s.drop (n+1)))))
 else numE s n
def numU (s:List UInt8) (a:Nat):Nat:=if spanS digitS (s.drop a) < 1∨spanS digitS (s.drop a) > 6 then 0 else numP s (a+spanS digitS (s.drop a))
def numberN (s:List UInt8):Nat:=numU s (if (s[0]?.map UInt8.toNat)=some 45 then 1 else 0)
theorem numberW_ok (Gl:qzg) (s:List UInt8) (h0:1≤s.length) (hs:s.length < 2305843009213693952):qzf Go.VL.Er.E Gl f_word_number [.str s] (.int .i64 ((numberN s:Nat):Int)):=by
 refine qze (qzd E_word_number ?_)
 unfold c_word_number r_word_number
 simp only [qzh]
 have z0:natOf (.int .i64 0)=some 0:=rfl
 have z1:natOf (.int .i64 1)=some 1:=rfl
 have tk:∀ n,n≤s.length→(s.drop n).take (s.length - n)=s.drop n:=fun n hn=>List.take_of_length_le (by rw [List.length_drop];omega)
 obtain ⟨b,hb⟩:∃ b,s[0]?=some b:=⟨s[0],List.getElem?_eq_getElem h0⟩
 have e45:(((b.toNat:Nat):Int) == 45)=(b.toNat == 45):=beq_nat b.toNat 45
 unfold numberN
 rw [hb,Option.map_some]
 have key:∀ a:Nat,(if some b.toNat=some 45 then 1 else 0)=a→a≤1∧(b.toNat == 45)=(a == 1):=fun a ha=>by
  by_cases q:b.toNat=45
  ·rw [if_pos (by rw [q])] at ha;subst ha;simp [q]
  ·rw [if_neg (by simpa using q)] at ha;subst ha;simp [q]
 obtain ⟨a,ha⟩:∃ a:Nat,(if some b.toNat=some 45 then 1 else 0)=a:=⟨_,rfl⟩
 obtain ⟨a1,ab⟩:=key a ha
 rw [ha]
 have ta:=tk a (by omega)
 have la:a≤s.length:=by omega
 have le1:=spanS_le digitS (s.drop a)
 rw [List.length_drop] at le1
 have sp:=span_ok Gl (isDigit_ok Gl) (s.drop a) (by rw [List.length_drop];omega)
 unfold numU
 obtain ⟨u,hu⟩:∃ u,spanS digitS (s.drop a)=u:=⟨_,rfl⟩
 rw [hu] at sp le1 ⊢
 have w1:IntKind.i64.wrap ((a:Int)+(u:Int))=((a+u:Nat):Int):=by rw [wrap_i64 (by omega) (by omega)];omega
 have w01:IntKind.i64.wrap (0+1)=1:=rfl
 have aa:a=1∨a=0:=by omega
 obtain ⟨n,hn⟩:∃ n,a+u=n:=⟨_,rfl⟩
 rw [hn] at w1 ⊢
 have ln:n≤s.length:=by omega
 have tn:=tk n ln
 have fin1:∀ c:Bool,endsS (s.drop n)=c→((numE s n:Nat):Int)=if c then (n:Int) else 0:=fun c hc=>by
  unfold numE;rw [hc];cases c<;>simp
 rcases aa with rfl | rfl
 case' inl =>
  have ab':(b.toNat == 45)=true:=ab
  have w1:IntKind.i64.wrap (1+(u:Int))=(n:Int):=w1
  simp only [↓reduceIte,Nat.reduceAdd,Nat.reduceMul,Nat.reduceSub,Nat.reduceDiv,Nat.reduceLT,Nat.reduceEqDiff,reduceCtorEq,Nat.reduceLeDiff,Nat.reduceBEq,Int.reduceEq,Int.reduceLT,Int.reduceLE,Int.reduceBEq,Int.reduceGT,go_sem,z0,hb,e45,ab',w01,z1,la,ta]
  refine qzb sp rfl rfl ?_
  simp only [↓reduceIte,Nat.reduceAdd,Nat.reduceMul,Nat.reduceSub,Nat.reduceDiv,Nat.reduceLT,Nat.reduceEqDiff,reduceCtorEq,Nat.reduceLeDiff,Nat.reduceBEq,Int.reduceEq,Int.reduceLT,Int.reduceLE,Int.reduceBEq,Int.reduceGT,go_sem,w1]
 case' inr =>
  have ab':(b.toNat == 45)=false:=ab
  have w1:IntKind.i64.wrap (0+(u:Int))=(n:Int):=w1
  rw [List.drop_zero] at sp
  have ta:s.take (s.length - 0)=s:=ta
  simp only [↓reduceIte,Nat.reduceAdd,Nat.reduceMul,Nat.reduceSub,Nat.reduceDiv,Nat.reduceLT,Nat.reduceEqDiff,reduceCtorEq,Nat.reduceLeDiff,Nat.reduceBEq,Int.reduceEq,Int.reduceLT,Int.reduceLE,Int.reduceBEq,Int.reduceGT,go_sem,z0,hb,e45,ab',la,ta]
  refine qzb sp rfl rfl ?_
  simp only [↓reduceIte,Nat.reduceAdd,Nat.reduceMul,Nat.reduceSub,Nat.reduceDiv,Nat.reduceLT,Nat.reduceEqDiff,reduceCtorEq,Nat.reduceLeDiff,Nat.reduceBEq,Int.reduceEq,Int.reduceLT,Int.reduceLE,Int.reduceBEq,Int.reduceGT,go_sem,w1]
 all_goals
  by_cases u1:u < 1
  ·have c1:(u:Int) < 1:=by omega
   rw [if_pos (.inl u1)]
   simp only [↓reduceIte,Nat.reduceAdd,Nat.reduceMul,Nat.reduceSub,Nat.reduceDiv,Nat.reduceLT,Nat.reduceEqDiff,reduceCtorEq,Nat.reduceLeDiff,Nat.reduceBEq,Int.reduceEq,Int.reduceLT,Int.reduceLE,Int.reduceBEq,Int.reduceGT,go_sem,c1]
   exact qza rfl
  ·have c1:¬(u:Int) < 1:=by omega
   by_cases u6:u > 6
   ·have c6:(u:Int) > 6:=by omega
    rw [if_pos (.inr u6)]
    simp only [↓reduceIte,Nat.reduceAdd,Nat.reduceMul,Nat.reduceSub,Nat.reduceDiv,Nat.reduceLT,Nat.reduceEqDiff,reduceCtorEq,Nat.reduceLeDiff,Nat.reduceBEq,Int.reduceEq,Int.reduceLT,Int.reduceLE,Int.reduceBEq,Int.reduceGT,go_sem,c1,c6]
    exact qza rfl
   ·have c6:¬(u:Int) > 6:=by omega
    rw [if_neg (by omega)]
    unfold numP
    by_cases ln':n < s.length
    ·obtain ⟨c,hc⟩:∃ c,s[n]?=some c:=⟨s[n],List.getElem?_eq_getElem ln'⟩
     have cl:(n:Int) < (s.length:Int):=by omega
     have e46:(((c.toNat:Nat):Int) == 46)=(c.toNat == 46):=beq_nat c.toNat 46
     rw [hc,Option.map_some]
     by_cases q:c.toNat=46
     ·have q':(c.toNat == 46)=true:=by simp [q]
      rw [if_pos (by rw [q])]
      have lp:n+1≤s.length:=by omega
      have tp:=tk (n+1) lp
      have wp1:IntKind.i64.wrap ((n:Int)+1)=((n+1:Nat):Int):=by rw [wrap_i64 (by omega) (by omega)];omega
      have le2:=spanS_le digitS (s.drop (n+1))
      rw [List.length_drop] at le2
      have sp2:=span_ok Gl (isDigit_ok Gl) (s.drop (n+1)) (by rw [List.length_drop];omega)
      obtain ⟨v,hv⟩:∃ v,spanS digitS (s.drop (n+1))=v:=⟨_,rfl⟩
      rw [hv] at sp2 le2 ⊢
      simp only [↓reduceIte,Nat.reduceAdd,Nat.reduceMul,Nat.reduceSub,Nat.reduceDiv,Nat.reduceLT,Nat.reduceEqDiff,reduceCtorEq,Nat.reduceLeDiff,Nat.reduceBEq,Int.reduceEq,Int.reduceLT,Int.reduceLE,Int.reduceBEq,Int.reduceGT,go_sem,c1,c6,cl,hc,e46,q',natOf_n,wp1,lp,tp]
      refine qzb sp2 rfl rfl ?_
      by_cases v1:v < 1
      ·have d1:(v:Int) < 1:=by omega
       rw [if_pos (.inl v1)]
       simp only [↓reduceIte,Nat.reduceAdd,Nat.reduceMul,Nat.reduceSub,Nat.reduceDiv,Nat.reduceLT,Nat.reduceEqDiff,reduceCtorEq,Nat.reduceLeDiff,Nat.reduceBEq,Int.reduceEq,Int.reduceLT,Int.reduceLE,Int.reduceBEq,Int.reduceGT,go_sem,d1]
       exact qza rfl
      ·have d1:¬(v:Int) < 1:=by omega
       by_cases v6:v > 6
       ·have d6:(v:Int) > 6:=by omega
        rw [if_pos (.inr v6)]
        simp only [↓reduceIte,Nat.reduceAdd,Nat.reduceMul,Nat.reduceSub,Nat.reduceDiv,Nat.reduceLT,Nat.reduceEqDiff,reduceCtorEq,Nat.reduceLeDiff,Nat.reduceBEq,Int.reduceEq,Int.reduceLT,Int.reduceLE,Int.reduceBEq,Int.reduceGT,go_sem,d1,d6]
        exact qza rfl
       ·have d6:¬(v:Int) > 6:=by omega
        rw [if_neg (by omega)]
        have wv:IntKind.i64.wrap (1+(v:Int))=((1+v:Nat):Int):=by rw [wrap_i64 (by omega) (by omega)];omega
        have wn:IntKind.i64.wrap ((n:Int)+((1+v:Nat):Int))=((n+(1+v):Nat):Int):=by rw [wrap_i64 (by omega) (by omega)];omega
        have lv:n+(1+v)≤s.length:=by omega
        have tv:=tk _ lv
        simp only [↓reduceIte,Nat.reduceAdd,Nat.reduceMul,Nat.reduceSub,Nat.reduceDiv,Nat.reduceLT,Nat.reduceEqDiff,reduceCtorEq,Nat.reduceLeDiff,Nat.reduceBEq,Int.reduceEq,Int.reduceLT,Int.reduceLE,Int.reduceBEq,Int.reduceGT,go_sem,d1,d6,wv,wn,natOf_n,lv,tv]
        refine qzb (ends_ok Gl _) rfl rfl ?_
        unfold numE
        cases he:endsS (s.drop (n+(1+v)))
        ·simp only [↓reduceIte,Nat.reduceAdd,Nat.reduceMul,Nat.reduceSub,Nat.reduceDiv,Nat.reduceLT,Nat.reduceEqDiff,reduceCtorEq,Nat.reduceLeDiff,Nat.reduceBEq,Int.reduceEq,Int.reduceLT,Int.reduceLE,Int.reduceBEq,Int.reduceGT,go_sem]
         exact qza rfl
        ·simp only [↓reduceIte,Nat.reduceAdd,Nat.reduceMul,Nat.reduceSub,Nat.reduceDiv,Nat.reduceLT,Nat.reduceEqDiff,reduceCtorEq,Nat.reduceLeDiff,Nat.reduceBEq,Int.reduceEq,Int.reduceLT,Int.reduceLE,Int.reduceBEq,Int.reduceGT,go_sem]
         exact qza rfl
     ·have q':(c.toNat == 46)=false:=by simp [q]
      rw [if_neg (by simpa using q)]
      simp only [↓reduceIte,Nat.reduceAdd,Nat.reduceMul,Nat.reduceSub,Nat.reduceDiv,Nat.reduceLT,Nat.reduceEqDiff,reduceCtorEq,Nat.reduceLeDiff,Nat.reduceBEq,Int.reduceEq,Int.reduceLT,Int.reduceLE,Int.reduceBEq,Int.reduceGT,go_sem,c1,c6,cl,hc,e46,q',natOf_n,ln,tn]
      refine qzb (ends_ok Gl _) rfl rfl ?_
      unfold numE
      cases he:endsS (s.drop n)
      ·simp only [↓reduceIte,Nat.reduceAdd,Nat.reduceMul,Nat.reduceSub,Nat.reduceDiv,Nat.reduceLT,Nat.reduceEqDiff,reduceCtorEq,Nat.reduceLeDiff,Nat.reduceBEq,Int.reduceEq,Int.reduceLT,Int.reduceLE,Int.reduceBEq,Int.reduceGT,go_sem]
       exact qza rfl
      ·simp only [↓reduceIte,Nat.reduceAdd,Nat.reduceMul,Nat.reduceSub,Nat.reduceDiv,Nat.reduceLT,Nat.reduceEqDiff,reduceCtorEq,Nat.reduceLeDiff,Nat.reduceBEq,Int.reduceEq,Int.reduceLT,Int.reduceLE,Int.reduceBEq,Int.reduceGT,go_sem]
       exact qza rfl
    ·have cl:¬(n:Int) < (s.length:Int):=by omega
     have hc:s[n]?=none:=List.getElem?_eq_none (by omega)
     rw [hc,Option.map_none,if_neg (by simp)]
     simp only [↓reduceIte,Nat.reduceAdd,Nat.reduceMul,Nat.reduceSub,Nat.reduceDiv,Nat.reduceLT,Nat.reduceEqDiff,reduceCtorEq,Nat.reduceLeDiff,Nat.reduceBEq,Int.reduceEq,Int.reduceLT,Int.reduceLE,Int.reduceBEq,Int.reduceGT,go_sem,c1,c6,cl,natOf_n,ln,tn]
     refine qzb (ends_ok Gl _) rfl rfl ?_
     unfold numE
     cases he:endsS (s.drop n)
     ·simp only [↓reduceIte,Nat.reduceAdd,Nat.reduceMul,Nat.reduceSub,Nat.reduceDiv,Nat.reduceLT,Nat.reduceEqDiff,reduceCtorEq,Nat.reduceLeDiff,Nat.reduceBEq,Int.reduceEq,Int.reduceLT,Int.reduceLE,Int.reduceBEq,Int.reduceGT,go_sem]
      exact qza rfl
     ·simp only [↓reduceIte,Nat.reduceAdd,Nat.reduceMul,Nat.reduceSub,Nat.reduceDiv,Nat.reduceLT,Nat.reduceEqDiff,reduceCtorEq,Nat.reduceLeDiff,Nat.reduceBEq,Int.reduceEq,Int.reduceLT,Int.reduceLE,Int.reduceBEq,Int.reduceGT,go_sem]
      exact qza rfl
end
end Go.VL.Wo
