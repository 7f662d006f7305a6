/- Digits of a number, into the bytes handed. -/
import Derived.Test.YtlgkadhogiedoaaDoorVlK
import Derived.Test.YtlgkadhogiedoaaDoorNuD
set_option linter.unusedSimpArgs false
set_option linter.unusedVariables false
namespace Go.VL.Nu
open Go.FR Go.IR Go.VL Go.VL.Er Go.VL.Wo
noncomputable section
set_option maxRecDepth 100000
set_option maxHeartbeats 1000000
def smT:List UInt8:=[48,48,48,49,48,50,48,51,48,52,48,53,48,54,48,55,48,56,48,57,49,48,49,49,49,50,49,51,49,52,49,53,49,54,49,55,49,56,49,57,50,48,50,49,50,50,50,51,50,52,50,53,50,54,50,55,50,56,50,57,51,48,51,49,51,50,51,51,51,52,51,53,51,54,51,55,51,56,51,57,52,48,52,49,52,50,52,51,52,52,52,53,52,54,52,55,52,56,52,57,53,48,53,49,53,50,53,51,53,52,53,53,53,54,53,55,53,56,53,57,54,48,54,49,54,50,54,51,54,52,54,53,54,54,54,55,54,56,54,57,55,48,55,49,55,50,55,51,55,52,55,53,55,54,55,55,55,56,55,57,56,48,56,49,56,50,56,51,56,52,56,53,56,54,56,55,56,56,56,57,57,48,57,49,57,50,57,51,57,52,57,53,57,54,57,55,57,56,57,57]
def dgT:List UInt8:=[48,49,50,51,52,53,54,55,56,57,97,98,99,100,101,102,103,104,105,106,107,108,109,110,111,112,113,114,115,116,117,118,119,120,121,122]
def dg (n:Nat):UInt8:=UInt8.ofNat (48+n)
theorem dg_nat {n:Nat} (h:n < 10):(dg n).toNat=48+n:=by
 have all:∀ k:Fin 10,(dg k.val).toNat=48+k.val:=by decide
 exact all ⟨n,h⟩
theorem sm_at {k:Nat} (h:k < 100):smT[2*k]?=some (dg (k / 10))∧smT[2*k+1]?=some (dg (k % 10)):=by
 have all:∀ k:Fin 100,smT[2*k.val]?=some (dg (k.val / 10))∧smT[2*k.val+1]?=some (dg (k.val % 10)):=by decide +kernel
 exact all ⟨k,h⟩
theorem sm_cut {k:Nat} (h:k < 100):(smT.drop (2*k)).take 2=[dg (k / 10),dg (k % 10)]∧2*k+2≤smT.length:=by
 have all:∀ k:Fin 100,(smT.drop (2*k.val)).take 2=[dg (k.val / 10),dg (k.val % 10)]∧2*k.val+2≤smT.length:=by decide +kernel
 exact all ⟨k,h⟩
theorem dg_cut {k:Nat} (h:k < 10):(dgT.drop k).take 1=[dg k]∧k+1≤dgT.length:=by
 have all:∀ k:Fin 10,(dgT.drop k.val).take 1=[dg k.val]∧k.val+1≤dgT.length:=by decide
 exact all ⟨k,h⟩
theorem wrapL {n:Nat} (h:n < 9223372036854775808):IntKind.i64.wrap (no_index (@OfNat.ofNat Int n _)) = @OfNat.ofNat Int n _:=by
 have:((n:Nat):Int) = @OfNat.ofNat Int n _:=rfl
 rw [←this];exact qze (by omega) (by omega)
abbrev zB:VV := .int .u8 0
abbrev dB (n:Nat):VV := .int .u8 (((dg n).toNat:Nat):Int)
attribute [local go_sem] erP t_p_api_At
theorem fb3 (Gl:qzh) (u j:Nat) (h1:100≤u) (h2:u < 1000):StOk Go.VL.Er.E Gl f_internal_strconv_formatBase10 [.slice j 1 3 1 (.exact 23),.int .u64 (u:Int)] [(j,.cells [zB,zB,zB,zB,zB,zB,zB,zB,zB,zB,zB,zB,zB,zB,zB,zB,zB,zB,zB,zB,zB,zB,zB,zB] false)] (.tuple []) [(j,.cells [zB,dB (u / 100 % 10),dB (u / 10 % 10),dB (u % 10),zB,zB,zB,zB,zB,zB,zB,zB,zB,zB,zB,zB,zB,zB,zB,zB,zB,zB,zB,zB] false)]:=by
 refine st1_intro fun nx hn=>qzc E_internal_strconv_formatBase10 ?_
 unfold c_internal_strconv_formatBase10 r_internal_strconv_formatBase10
 simp only [qzi]
 have u32:IntKind.u32.wrap (u:Int)=u:=wrap_u32n (by omega)
 have r5:((u:Nat):Int).tmod 100=((u % 100:Nat):Int):=rfl
 have m5:IntKind.u32.wrap (((u % 100:Nat):Int)*2)=((2*(u % 100):Nat):Int):=by rw [show ((u % 100:Nat):Int)*2=((2*(u % 100):Nat):Int) by omega,wrap_u32n (by omega)]
 have q5:IntKind.u32.wrap (((u:Nat):Int).tdiv 100)=((u / 100:Nat):Int):=wrap_u32n (n:=u / 100) (by omega)
 have p5:IntKind.u32.wrap (((2*(u % 100):Nat):Int)+1)=((2*(u % 100)+1:Nat):Int):=by rw [show ((2*(u % 100):Nat):Int)+1=((2*(u % 100)+1:Nat):Int) by omega,wrap_u32n (by omega)]
 obtain ⟨a5,a6⟩:=sm_at (k:=u % 100) (by omega)
 rw [show u % 100 / 10=u / 10 % 10 by omega] at a5
 rw [show u % 100 % 10=u % 10 by omega] at a6
 have f7:IntKind.u8.wrap (IntKind.u32.wrap (48+((u / 100:Nat):Int)))=(((dg (u / 100 % 10)).toNat:Nat):Int):=by
  rw [dg_nat (by omega),show 48+((u / 100:Nat):Int)=((48+u / 100 % 10:Nat):Int) by omega,wrap_u32n (by omega),wrap_u8n (by omega)]
 have yc:((3:Nat):Int)=3:=rfl
 simp only [simprocAttr,-Int.reduceNatCast',go_sem,yc]
 refine qzj c_internal_strconv_formatBase10_l0.eq_1 ?_
 simp only [smT] at a5 a6
 have z0:qzk (.int .i64 0)=some 0:=rfl
 have y1:qzk (.int .i64 1)=some 1:=rfl
 have y2:qzk (.int .i64 2)=some 2:=rfl
 simp only [simprocAttr,-Int.reduceNatCast',go_sem,yc,wrapL,natOf_n,z0,y1,y2,u32,r5,m5,q5,p5,a5,a6,f7]
theorem fb4 (Gl:qzh) (u j:Nat) (h1:1000≤u) (h2:u < 10000):StOk Go.VL.Er.E Gl f_internal_strconv_formatBase10 [.slice j 1 4 1 (.exact 23),.int .u64 (u:Int)] [(j,.cells [zB,zB,zB,zB,zB,zB,zB,zB,zB,zB,zB,zB,zB,zB,zB,zB,zB,zB,zB,zB,zB,zB,zB,zB] false)] (.tuple []) [(j,.cells [zB,dB (u / 1000 % 10),dB (u / 100 % 10),dB (u / 10 % 10),dB (u % 10),zB,zB,zB,zB,zB,zB,zB,zB,zB,zB,zB,zB,zB,zB,zB,zB,zB,zB,zB] false)]:=by
 refine st1_intro fun nx hn=>qzc E_internal_strconv_formatBase10 ?_
 unfold c_internal_strconv_formatBase10 r_internal_strconv_formatBase10
 simp only [qzi]
 have u32:IntKind.u32.wrap (u:Int)=u:=wrap_u32n (by omega)
 have r1:((u:Nat):Int).tmod 10000=((u % 10000:Nat):Int):=rfl
 have q1:IntKind.u32.wrap (((u:Nat):Int).tdiv 10000)=((u / 10000:Nat):Int):=wrap_u32n (n:=u / 10000) (by omega)
 have q2:IntKind.u32.wrap (((u % 10000:Nat):Int).tdiv 100)=((u % 10000 / 100:Nat):Int):=wrap_u32n (n:=u % 10000 / 100) (by omega)
 have m2:IntKind.u32.wrap (((u % 10000 / 100:Nat):Int)*2)=((2*(u % 10000 / 100):Nat):Int):=by rw [show ((u % 10000 / 100:Nat):Int)*2=((2*(u % 10000 / 100):Nat):Int) by omega,wrap_u32n (by omega)]
 have r3:((u % 10000:Nat):Int).tmod 100=((u % 10000 % 100:Nat):Int):=rfl
 have m3:IntKind.u32.wrap (((u % 10000 % 100:Nat):Int)*2)=((2*(u % 10000 % 100):Nat):Int):=by rw [show ((u % 10000 % 100:Nat):Int)*2=((2*(u % 10000 % 100):Nat):Int) by omega,wrap_u32n (by omega)]
 have p2:IntKind.u32.wrap (((2*(u % 10000 / 100):Nat):Int)+1)=((2*(u % 10000 / 100)+1:Nat):Int):=by rw [show ((2*(u % 10000 / 100):Nat):Int)+1=((2*(u % 10000 / 100)+1:Nat):Int) by omega,wrap_u32n (by omega)]
 have p3:IntKind.u32.wrap (((2*(u % 10000 % 100):Nat):Int)+1)=((2*(u % 10000 % 100)+1:Nat):Int):=by rw [show ((2*(u % 10000 % 100):Nat):Int)+1=((2*(u % 10000 % 100)+1:Nat):Int) by omega,wrap_u32n (by omega)]
 obtain ⟨a1,a2⟩:=sm_at (k:=u % 10000 / 100) (by omega)
 obtain ⟨a3,a4⟩:=sm_at (k:=u % 10000 % 100) (by omega)
 rw [show u % 10000 / 100 / 10=u / 1000 % 10 by omega] at a1
 rw [show u % 10000 / 100 % 10=u / 100 % 10 by omega] at a2
 rw [show u % 10000 % 100 / 10=u / 10 % 10 by omega] at a3
 rw [show u % 10000 % 100 % 10=u % 10 by omega] at a4
 have yc:((4:Nat):Int)=4:=rfl
 simp only [simprocAttr,-Int.reduceNatCast',go_sem,yc]
 refine qzj c_internal_strconv_formatBase10_l0.eq_1 ?_
 simp only [smT] at a1 a2 a3 a4
 have z0:qzk (.int .i64 0)=some 0:=rfl
 have y1:qzk (.int .i64 1)=some 1:=rfl
 have y2:qzk (.int .i64 2)=some 2:=rfl
 have y3:qzk (.int .i64 3)=some 3:=rfl
 simp only [simprocAttr,-Int.reduceNatCast',go_sem,yc,wrapL,natOf_n,z0,y1,y2,y3,u32,r1,q1,q2,m2,r3,m3,p2,p3,a1,a2,a3,a4]
theorem fb5 (Gl:qzh) (u j:Nat) (h1:10000≤u) (h2:u < 100000):StOk Go.VL.Er.E Gl f_internal_strconv_formatBase10 [.slice j 1 5 1 (.exact 23),.int .u64 (u:Int)] [(j,.cells [zB,zB,zB,zB,zB,zB,zB,zB,zB,zB,zB,zB,zB,zB,zB,zB,zB,zB,zB,zB,zB,zB,zB,zB] false)] (.tuple []) [(j,.cells [zB,dB (u / 10000 % 10),dB (u / 1000 % 10),dB (u / 100 % 10),dB (u / 10 % 10),dB (u % 10),zB,zB,zB,zB,zB,zB,zB,zB,zB,zB,zB,zB,zB,zB,zB,zB,zB,zB] false)]:=by
 refine st1_intro fun nx hn=>qzc E_internal_strconv_formatBase10 ?_
 unfold c_internal_strconv_formatBase10 r_internal_strconv_formatBase10
 simp only [qzi]
 have u32:IntKind.u32.wrap (u:Int)=u:=wrap_u32n (by omega)
 have r1:((u:Nat):Int).tmod 10000=((u % 10000:Nat):Int):=rfl
 have q1:IntKind.u32.wrap (((u:Nat):Int).tdiv 10000)=((u / 10000:Nat):Int):=wrap_u32n (n:=u / 10000) (by omega)
 have q2:IntKind.u32.wrap (((u % 10000:Nat):Int).tdiv 100)=((u % 10000 / 100:Nat):Int):=wrap_u32n (n:=u % 10000 / 100) (by omega)
 have m2:IntKind.u32.wrap (((u % 10000 / 100:Nat):Int)*2)=((2*(u % 10000 / 100):Nat):Int):=by rw [show ((u % 10000 / 100:Nat):Int)*2=((2*(u % 10000 / 100):Nat):Int) by omega,wrap_u32n (by omega)]
 have r3:((u % 10000:Nat):Int).tmod 100=((u % 10000 % 100:Nat):Int):=rfl
 have m3:IntKind.u32.wrap (((u % 10000 % 100:Nat):Int)*2)=((2*(u % 10000 % 100):Nat):Int):=by rw [show ((u % 10000 % 100:Nat):Int)*2=((2*(u % 10000 % 100):Nat):Int) by omega,wrap_u32n (by omega)]
 have p2:IntKind.u32.wrap (((2*(u % 10000 / 100):Nat):Int)+1)=((2*(u % 10000 / 100)+1:Nat):Int):=by rw [show ((2*(u % 10000 / 100):Nat):Int)+1=((2*(u % 10000 / 100)+1:Nat):Int) by omega,wrap_u32n (by omega)]
 have p3:IntKind.u32.wrap (((2*(u % 10000 % 100):Nat):Int)+1)=((2*(u % 10000 % 100)+1:Nat):Int):=by rw [show ((2*(u % 10000 % 100):Nat):Int)+1=((2*(u % 10000 % 100)+1:Nat):Int) by omega,wrap_u32n (by omega)]
 obtain ⟨a1,a2⟩:=sm_at (k:=u % 10000 / 100) (by omega)
 obtain ⟨a3,a4⟩:=sm_at (k:=u % 10000 % 100) (by omega)
 rw [show u % 10000 / 100 / 10=u / 1000 % 10 by omega] at a1
 rw [show u % 10000 / 100 % 10=u / 100 % 10 by omega] at a2
 rw [show u % 10000 % 100 / 10=u / 10 % 10 by omega] at a3
 rw [show u % 10000 % 100 % 10=u % 10 by omega] at a4
 have f7:IntKind.u8.wrap (IntKind.u32.wrap (48+((u / 10000:Nat):Int)))=(((dg (u / 10000 % 10)).toNat:Nat):Int):=by
  rw [dg_nat (by omega),show 48+((u / 10000:Nat):Int)=((48+u / 10000 % 10:Nat):Int) by omega,wrap_u32n (by omega),wrap_u8n (by omega)]
 have yc:((5:Nat):Int)=5:=rfl
 simp only [simprocAttr,-Int.reduceNatCast',go_sem,yc]
 refine qzj c_internal_strconv_formatBase10_l0.eq_1 ?_
 simp only [smT] at a1 a2 a3 a4
 have z0:qzk (.int .i64 0)=some 0:=rfl
 have y1:qzk (.int .i64 1)=some 1:=rfl
 have y2:qzk (.int .i64 2)=some 2:=rfl
 have y3:qzk (.int .i64 3)=some 3:=rfl
 have y4:qzk (.int .i64 4)=some 4:=rfl
 simp only [simprocAttr,-Int.reduceNatCast',go_sem,yc,wrapL,natOf_n,z0,y1,y2,y3,y4,u32,r1,q1,q2,m2,r3,m3,p2,p3,a1,a2,a3,a4,f7]
theorem fb6 (Gl:qzh) (u j:Nat) (h1:100000≤u) (h2:u < 1000000):StOk Go.VL.Er.E Gl f_internal_strconv_formatBase10 [.slice j 1 6 1 (.exact 23),.int .u64 (u:Int)] [(j,.cells [zB,zB,zB,zB,zB,zB,zB,zB,zB,zB,zB,zB,zB,zB,zB,zB,zB,zB,zB,zB,zB,zB,zB,zB] false)] (.tuple []) [(j,.cells [zB,dB (u / 100000 % 10),dB (u / 10000 % 10),dB (u / 1000 % 10),dB (u / 100 % 10),dB (u / 10 % 10),dB (u % 10),zB,zB,zB,zB,zB,zB,zB,zB,zB,zB,zB,zB,zB,zB,zB,zB,zB] false)]:=by
 refine st1_intro fun nx hn=>qzc E_internal_strconv_formatBase10 ?_
 unfold c_internal_strconv_formatBase10 r_internal_strconv_formatBase10
 simp only [qzi]
 have u32:IntKind.u32.wrap (u:Int)=u:=wrap_u32n (by omega)
 have r1:((u:Nat):Int).tmod 10000=((u % 10000:Nat):Int):=rfl
 have q1:IntKind.u32.wrap (((u:Nat):Int).tdiv 10000)=((u / 10000:Nat):Int):=wrap_u32n (n:=u / 10000) (by omega)
 have q2:IntKind.u32.wrap (((u % 10000:Nat):Int).tdiv 100)=((u % 10000 / 100:Nat):Int):=wrap_u32n (n:=u % 10000 / 100) (by omega)
 have m2:IntKind.u32.wrap (((u % 10000 / 100:Nat):Int)*2)=((2*(u % 10000 / 100):Nat):Int):=by rw [show ((u % 10000 / 100:Nat):Int)*2=((2*(u % 10000 / 100):Nat):Int) by omega,wrap_u32n (by omega)]
 have r3:((u % 10000:Nat):Int).tmod 100=((u % 10000 % 100:Nat):Int):=rfl
 have m3:IntKind.u32.wrap (((u % 10000 % 100:Nat):Int)*2)=((2*(u % 10000 % 100):Nat):Int):=by rw [show ((u % 10000 % 100:Nat):Int)*2=((2*(u % 10000 % 100):Nat):Int) by omega,wrap_u32n (by omega)]
 have p2:IntKind.u32.wrap (((2*(u % 10000 / 100):Nat):Int)+1)=((2*(u % 10000 / 100)+1:Nat):Int):=by rw [show ((2*(u % 10000 / 100):Nat):Int)+1=((2*(u % 10000 / 100)+1:Nat):Int) by omega,wrap_u32n (by omega)]
 have p3:IntKind.u32.wrap (((2*(u % 10000 % 100):Nat):Int)+1)=((2*(u % 10000 % 100)+1:Nat):Int):=by rw [show ((2*(u % 10000 % 100):Nat):Int)+1=((2*(u % 10000 % 100)+1:Nat):Int) by omega,wrap_u32n (by omega)]
 obtain ⟨a1,a2⟩:=sm_at (k:=u % 10000 / 100) (by omega)
 obtain ⟨a3,a4⟩:=sm_at (k:=u % 10000 % 100) (by omega)
 rw [show u % 10000 / 100 / 10=u / 1000 % 10 by omega] at a1
 rw [show u % 10000 / 100 % 10=u / 100 % 10 by omega] at a2
 rw [show u % 10000 % 100 / 10=u / 10 % 10 by omega] at a3
 rw [show u % 10000 % 100 % 10=u % 10 by omega] at a4
 have r5:((u / 10000:Nat):Int).tmod 100=((u / 10000 % 100:Nat):Int):=rfl
 have m5:IntKind.u32.wrap (((u / 10000 % 100:Nat):Int)*2)=((2*(u / 10000 % 100):Nat):Int):=by rw [show ((u / 10000 % 100:Nat):Int)*2=((2*(u / 10000 % 100):Nat):Int) by omega,wrap_u32n (by omega)]
 have q5:IntKind.u32.wrap (((u / 10000:Nat):Int).tdiv 100)=((u / 10000 / 100:Nat):Int):=wrap_u32n (n:=u / 10000 / 100) (by omega)
 have p5:IntKind.u32.wrap (((2*(u / 10000 % 100):Nat):Int)+1)=((2*(u / 10000 % 100)+1:Nat):Int):=by rw [show ((2*(u / 10000 % 100):Nat):Int)+1=((2*(u / 10000 % 100)+1:Nat):Int) by omega,wrap_u32n (by omega)]
 obtain ⟨a5,a6⟩:=sm_at (k:=u / 10000 % 100) (by omega)
 rw [show u / 10000 % 100 / 10=u / 100000 % 10 by omega] at a5
 rw [show u / 10000 % 100 % 10=u / 10000 % 10 by omega] at a6
 have yc:((6:Nat):Int)=6:=rfl
 simp only [simprocAttr,-Int.reduceNatCast',go_sem,yc]
 refine qzj c_internal_strconv_formatBase10_l0.eq_1 ?_
 simp only [smT] at a1 a2 a3 a4 a5 a6
 have z0:qzk (.int .i64 0)=some 0:=rfl
 have y1:qzk (.int .i64 1)=some 1:=rfl
 have y2:qzk (.int .i64 2)=some 2:=rfl
 have y3:qzk (.int .i64 3)=some 3:=rfl
 have y4:qzk (.int .i64 4)=some 4:=rfl
 have y5:qzk (.int .i64 5)=some 5:=rfl
 simp only [simprocAttr,-Int.reduceNatCast',go_sem,yc,wrapL,natOf_n,z0,y1,y2,y3,y4,y5,u32,r1,q1,q2,m2,r3,m3,p2,p3,a1,a2,a3,a4,r5,m5,q5,p5,a5,a6]
theorem fb7 (Gl:qzh) (u j:Nat) (h1:1000000≤u) (h2:u < 10000000):StOk Go.VL.Er.E Gl f_internal_strconv_formatBase10 [.slice j 1 7 1 (.exact 23),.int .u64 (u:Int)] [(j,.cells [zB,zB,zB,zB,zB,zB,zB,zB,zB,zB,zB,zB,zB,zB,zB,zB,zB,zB,zB,zB,zB,zB,zB,zB] false)] (.tuple []) [(j,.cells [zB,dB (u / 1000000 % 10),dB (u / 100000 % 10),dB (u / 10000 % 10),dB (u / 1000 % 10),dB (u / 100 % 10),dB (u / 10 % 10),dB (u % 10),zB,zB,zB,zB,zB,zB,zB,zB,zB,zB,zB,zB,zB,zB,zB,zB] false)]:=by
 refine st1_intro fun nx hn=>qzc E_internal_strconv_formatBase10 ?_
 unfold c_internal_strconv_formatBase10 r_internal_strconv_formatBase10
 simp only [qzi]
 have u32:IntKind.u32.wrap (u:Int)=u:=wrap_u32n (by omega)
 have r1:((u:Nat):Int).tmod 10000=((u % 10000:Nat):Int):=rfl
 have q1:IntKind.u32.wrap (((u:Nat):Int).tdiv 10000)=((u / 10000:Nat):Int):=wrap_u32n (n:=u / 10000) (by omega)
 have q2:IntKind.u32.wrap (((u % 10000:Nat):Int).tdiv 100)=((u % 10000 / 100:Nat):Int):=wrap_u32n (n:=u % 10000 / 100) (by omega)
 have m2:IntKind.u32.wrap (((u % 10000 / 100:Nat):Int)*2)=((2*(u % 10000 / 100):Nat):Int):=by rw [show ((u % 10000 / 100:Nat):Int)*2=((2*(u % 10000 / 100):Nat):Int) by omega,wrap_u32n (by omega)]
 have r3:((u % 10000:Nat):Int).tmod 100=((u % 10000 % 100:Nat):Int):=rfl
 have m3:IntKind.u32.wrap (((u % 10000 % 100:Nat):Int)*2)=((2*(u % 10000 % 100):Nat):Int):=by rw [show ((u % 10000 % 100:Nat):Int)*2=((2*(u % 10000 % 100):Nat):Int) by omega,wrap_u32n (by omega)]
 have p2:IntKind.u32.wrap (((2*(u % 10000 / 100):Nat):Int)+1)=((2*(u % 10000 / 100)+1:Nat):Int):=by rw [show ((2*(u % 10000 / 100):Nat):Int)+1=((2*(u % 10000 / 100)+1:Nat):Int) by omega,wrap_u32n (by omega)]
 have p3:IntKind.u32.wrap (((2*(u % 10000 % 100):Nat):Int)+1)=((2*(u % 10000 % 100)+1:Nat):Int):=by rw [show ((2*(u % 10000 % 100):Nat):Int)+1=((2*(u % 10000 % 100)+1:Nat):Int) by omega,wrap_u32n (by omega)]
 obtain ⟨a1,a2⟩:=sm_at (k:=u % 10000 / 100) (by omega)
 obtain ⟨a3,a4⟩:=sm_at (k:=u % 10000 % 100) (by omega)
 rw [show u % 10000 / 100 / 10=u / 1000 % 10 by omega] at a1
 rw [show u % 10000 / 100 % 10=u / 100 % 10 by omega] at a2
 rw [show u % 10000 % 100 / 10=u / 10 % 10 by omega] at a3
 rw [show u % 10000 % 100 % 10=u % 10 by omega] at a4
 have r5:((u / 10000:Nat):Int).tmod 100=((u / 10000 % 100:Nat):Int):=rfl
 have m5:IntKind.u32.wrap (((u / 10000 % 100:Nat):Int)*2)=((2*(u / 10000 % 100):Nat):Int):=by rw [show ((u / 10000 % 100:Nat):Int)*2=((2*(u / 10000 % 100):Nat):Int) by omega,wrap_u32n (by omega)]
 have q5:IntKind.u32.wrap (((u / 10000:Nat):Int).tdiv 100)=((u / 10000 / 100:Nat):Int):=wrap_u32n (n:=u / 10000 / 100) (by omega)
 have p5:IntKind.u32.wrap (((2*(u / 10000 % 100):Nat):Int)+1)=((2*(u / 10000 % 100)+1:Nat):Int):=by rw [show ((2*(u / 10000 % 100):Nat):Int)+1=((2*(u / 10000 % 100)+1:Nat):Int) by omega,wrap_u32n (by omega)]
 obtain ⟨a5,a6⟩:=sm_at (k:=u / 10000 % 100) (by omega)
 rw [show u / 10000 % 100 / 10=u / 100000 % 10 by omega] at a5
 rw [show u / 10000 % 100 % 10=u / 10000 % 10 by omega] at a6
 have f7:IntKind.u8.wrap (IntKind.u32.wrap (48+((u / 10000 / 100:Nat):Int)))=(((dg (u / 1000000 % 10)).toNat:Nat):Int):=by
  rw [dg_nat (by omega),show 48+((u / 10000 / 100:Nat):Int)=((48+u / 1000000 % 10:Nat):Int) by omega,wrap_u32n (by omega),wrap_u8n (by omega)]
 have yc:((7:Nat):Int)=7:=rfl
 simp only [simprocAttr,-Int.reduceNatCast',go_sem,yc]
 refine qzj c_internal_strconv_formatBase10_l0.eq_1 ?_
 simp only [smT] at a1 a2 a3 a4 a5 a6
 have z0:qzk (.int .i64 0)=some 0:=rfl
 have y1:qzk (.int .i64 1)=some 1:=rfl
 have y2:qzk (.int .i64 2)=some 2:=rfl
 have y3:qzk (.int .i64 3)=some 3:=rfl
 have y4:qzk (.int .i64 4)=some 4:=rfl
 have y5:qzk (.int .i64 5)=some 5:=rfl
 have y6:qzk (.int .i64 6)=some 6:=rfl
 simp only [simprocAttr,-Int.reduceNatCast',go_sem,yc,wrapL,natOf_n,z0,y1,y2,y3,y4,y5,y6,u32,r1,q1,q2,m2,r3,m3,p2,p3,a1,a2,a3,a4,r5,m5,q5,p5,a5,a6,f7]
end
end Go.VL.Nu
