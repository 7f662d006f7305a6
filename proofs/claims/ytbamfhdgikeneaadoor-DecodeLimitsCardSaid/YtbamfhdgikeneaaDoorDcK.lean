import Derived.Test.YtbamfhdgikeneaaDoorVlK
import Derived.Test.YtbamfhdgikeneaaDoorShA
import Derived.Test.YtbamfhdgikeneaaDoorEnD
import Derived.Test.YtbamfhdgikeneaaDoorGeA
import Derived.Test.YtbamfhdgikeneaaDoorPaA
import Derived.Test.YtbamfhdgikeneaaDoorDcG
set_option linter.unusedSimpArgs false
set_option linter.unusedVariables false
namespace Go.VL.Dc
open Go.FR Go.IR Go.VL Go.VL.Er Go.VL.Color Go.VL.Wind Go.VL.Ic Go.VL.Wire
noncomputable section
set_option maxRecDepth 100000
set_option maxHeartbeats 2000000
theorem cols_keep (bs:List Nat):∀ (n:Nat) (R:Rd) (L:List Cl),(colLp bs n R L).1.most=R.most∧(colLp bs n R L).1.used=R.used∧(colLp bs n R L).1.pts=R.pts
 | 0,R,L=>⟨rfl,rfl,rfl⟩
 | n+1,R,L=>by
  have g:=fun k=>fail_most R R.pos k
  rw [colLp]
  repeat' split
  all_goals first
   | exact ⟨rfl,rfl,rfl⟩
   | exact ⟨(g _).1,(g _).2.1,(g _).2.2.1⟩
   | exact cols_keep bs n _ _
theorem cols_len (bs:List Nat):∀ (n:Nat) (R:Rd) (L:List Cl),L.length≤(colLp bs n R L).2.length∧(colLp bs n R L).2.length≤L.length+n
 | 0,R,L=>⟨Nat.le_refl _,Nat.le_refl _⟩
 | n+1,R,L=>by
  have g:=fun Q l=>cols_len bs n Q l
  rw [colLp]
  repeat' split
  all_goals first
   | exact ⟨Nat.le_refl _,Nat.le_add_right _ _⟩
   | (refine ⟨Nat.le_trans ?_ (g _ _).1,Nat.le_trans (g _ _).2 ?_⟩<;>rw [List.length_append,List.length_cons,List.length_nil]<;>omega)
def rd0:Rd:=⟨0,.none,0,0,0⟩
def magicS:List Nat:=[71,76,89,49]
def headR (bs:List Nat):Rd:=if 60000 < bs.length then failS rd0 60000 5 else if bs.length < 4 then failS rd0 0 6 else if bs.take 4=magicS then rd0 else failS rd0 0 7
def at4 (R:Rd):Rd:=⟨4,R.err,R.most,R.used,R.pts⟩
def wS (bs:List Nat):Int × Rd:=rangedS bs (at4 (headR bs)) 1 4096
def hS (bs:List Nat):Int × Rd:=rangedS bs (wS bs).2 1 4096
def sS (bs:List Nat):Int × Rd:=rangedS bs (hS bs).2 0 6
def icS (bs:List Nat):Icon:=⟨(wS bs).1,(hS bs).1,(sS bs).1,[],[]⟩
def withR (R:Rd) (m:Int):Rd:=⟨R.pos,R.err,m,R.used,R.pts⟩
def mostR (bs:List Nat):Rd:=withR (sS bs).2 (greatS (icS bs))
def cmdsLp (bs:List Nat) (nc:Nat):Nat→Rd→List Cmd→Rd × List Cmd
 | 0,R,M=>(R,M)
 | n+1,R,M=>if isN R.err=false then (R,M) else cmdsLp bs nc n (cmdL bs R nc).2.1 (M++if (cmdL bs R nc).2.2=true then [cmdS' bs R nc] else [])
def colsF (bs:List Nat):Rd × List Cl:=colsS bs (mostR bs)
def cmdsF (bs:List Nat):Rd × List Cmd:=cmdsLp bs (colsF bs).2.length (manyN bs (colsF bs).1 0 200) (manyR bs (colsF bs).1 0 200) []
def lastR (n nc:Nat) (R:Rd):Rd:=if R.used < nc then failS R R.pos 9 else if R.pos < n then failS R R.pos 10 else R
def endR (bs:List Nat):Rd:=lastR bs.length (colsF bs).2.length (cmdsF bs).1
def decS (bs:List Nat):Icon × ErrV:=if isN (endR bs).err=true then (⟨(wS bs).1,(hS bs).1,(sS bs).1,(colsF bs).2,(cmdsF bs).2⟩,.none) else (⟨0,0,0,[],[]⟩,(endR bs).err)
attribute [local go_sem] cB cPt cCl cPaint
theorem cmds_loop {Gl:qzj} (hG:GlAll Gl) {bs:List Nat} (hl:bs.length < 100000) (hb:∀ x∈bs,x < 256) (i base:Nat) (hi:i < base) (I:IcV) (nc:Nat) (hc:lenSlV [I.vc]=some (.int .i64 nc)) (hn:nc≤256) (F:Rd × List Cmd) (HS:VH) (JS:Nat) (VS:VV) (many:Nat) (hm:many≤200) (K:AEx→VF→VH→Prop)
  (hK:∀ T h jm vm M,qza T 4=some (.ptr i 0)→qza T 0=some (.fsl (qzg cB bs) bs.length 1)→qza T 2=some (.ptr 0 0)→RAt bs i F.1 (withM I vm) h→DAcc base h jm mC mW M 11 vm→M.map (·.1)=F.2→Kc i HS JS VS h jm vm→0≤F.1.used→F.1.used≤nc→K (.exit 1) T h) :
  ∀ (d k:Nat) (T:VF) (h:VH) (jm:Nat) (vm:VV) (M:List (Cmd × VV)) (R:Rd),d+k=many→M.length≤k→F=cmdsLp bs nc d R (M.map (·.1))→RAt bs i R (withM I vm) h→base≤h.next→DAcc base h jm mC mW M 11 vm→Kc i HS JS VS h jm vm→0≤R.most→R.most≤2097152→0≤R.used→R.used≤nc→0≤R.pts→R.pts≤4200+200*k →
   qza T 4=some (.ptr i 0)→qza T 0=some (.fsl (qzg cB bs) bs.length 1)→qza T 2=some (.ptr 0 0)→qza T 6=some (.func f_decode_reader_cmd [.ptr i 0] [])→qza T 68=some (.int .i64 many)→qza T 69=some (.int .i64 k) →
  wp Go.VL.Er.E Gl (.loop c_decode_Icon_l0) T h K:=by
 intro d
 induction d with
 | zero =>
  intro k T h jm vm M R hd hM hF st nb dm kc m0 m1 u0 u1 p0 p1 t4 t0 t2 t6 t68 t69
  obtain rfl:k=many:=by omega
  refine qzi c_decode_Icon_l0.eq_1 ?_
  simp only [simprocAttr,-Int.reduceNatCast',go_sem,t68,t69,Int.lt_irrefl]
  subst hF
  refine hK _ _ jm vm M ?_ ?_ ?_ st dm rfl kc u0 u1
  ·simp only [simprocAttr,-Int.reduceNatCast',go_sem,t4]
  ·simp only [simprocAttr,-Int.reduceNatCast',go_sem,t0]
  ·simp only [simprocAttr,-Int.reduceNatCast',go_sem,t2]
 | succ d ih =>
  intro k T h jm vm M R hd hM hF st nb dm kc m0 m1 u0 u1 p0 p1 t4 t0 t2 t6 t68 t69
  have c1:(k:Int) < many:=by omega
  have hw:IntKind.i64.wrap ((k:Int)+1)=((k+1:Nat):Int):=by rw [qzd (by omega) (by omega)];rfl
  have s0:=st
  obtain ⟨hn3,ev3,hi3,he3⟩:=s0
  unfold rC at hi3
  have e0:=he3.er0 Gl
  have e1:=he3.er1 Gl
  refine qzi c_decode_Icon_l0.eq_1 ?_
  rw [cmdsLp] at hF
  cases ce:isN R.err
  ·rw [ce] at e0 e1
   rw [if_pos ce] at hF
   subst hF
   simp only [simprocAttr,-Int.reduceNatCast',go_sem,t4,t6,t68,t69,c1,hi3,↓e0,↓e1]
   refine hK _ _ jm vm M ?_ ?_ ?_ st dm rfl kc u0 u1
   ·simp only [simprocAttr,-Int.reduceNatCast',go_sem,t4]
   ·simp only [simprocAttr,-Int.reduceNatCast',go_sem,t0]
   ·simp only [simprocAttr,-Int.reduceNatCast',go_sem,t2]
  rw [ce] at e0 e1
  rw [if_neg (by rw [ce];simp)] at hF
  have inv:=cmd_inv bs R nc m0 m1 u0 u1 p0
  simp only [simprocAttr,-Int.reduceNatCast',go_sem,t4,t6,t68,t69,c1,hi3,↓e0,↓e1,wpW_callV]
  refine qzh (cmd_run hG hl hb st nc hc hn m0 m1 u0 u1 p0 (by omega) base hi nb jm M dm (by omega)) ?_
  intro v h2 ⟨jm2,vm2,M2,s2,d2,e2,k2⟩
  simp only [simprocAttr,-Int.reduceNatCast',go_sem,t69,hw]
  refine ih (k+1) _ h2 jm2 vm2 M2 _ (by omega) ?_ (by rw [e2];exact hF) s2 (by have:=k2.1;omega) d2 (kc.trans k2) (by rw [inv.1];exact m0) (by rw [inv.1];exact m1) inv.2.1 inv.2.2.1 inv.2.2.2.1 (by have:=inv.2.2.2.2;omega) ?_ ?_ ?_ ?_ ?_ ?_
  ·have:=congrArg List.length e2
   rw [List.length_map,List.length_append,List.length_map] at this
   rw [this]
   split
   ·simp;omega
   ·simp;omega
  ·simp only [simprocAttr,-Int.reduceNatCast',go_sem,t4]
  ·simp only [simprocAttr,-Int.reduceNatCast',go_sem,t0]
  ·simp only [simprocAttr,-Int.reduceNatCast',go_sem,t2]
  ·simp only [simprocAttr,-Int.reduceNatCast',go_sem,t6]
  ·simp only [simprocAttr,-Int.reduceNatCast',go_sem,t68]
  ·simp only [simprocAttr,-Int.reduceNatCast',go_sem]
theorem bytes_flat:∀ l:List Nat,bytesV (qzg cB l)=some (l.map UInt8.ofNat)
 | []=>rfl
 | x::l=>by
  rw [flatL_cons]
  show bytesV (.int .u8 (x:Int)::qzg cB l)=_
  simp only [bytesV,bytes_flat l,Int.toNat_natCast,List.map_cons]
theorem magic_iff {l:List Nat} (h:∀ x∈l,x < 256):l.map UInt8.ofNat=[71,76,89,49] ↔ l=magicS:=by
 constructor
 ·intro e
  have inj:∀ x:Nat,x < 256→∀ y:Nat,y < 256→UInt8.ofNat x=UInt8.ofNat y→x=y:=fun x hx y hy q=>by
   have:=congrArg UInt8.toNat q
   simp only [UInt8.toNat_ofNat'] at this
   omega
  unfold magicS
  rcases l with _ | ⟨a,_ | ⟨b,_ | ⟨c,_ | ⟨d,_ | ⟨f,r⟩⟩⟩⟩⟩
  all_goals first
   | (simp only [List.map_cons,List.map_nil,List.cons.injEq,and_true] at e
      obtain ⟨e1,e2,e3,e4⟩:=e
      rw [inj a (h a (by simp)) 71 (by omega) e1,inj b (h b (by simp)) 76 (by omega) e2,inj c (h c (by simp)) 89 (by omega) e3,inj d (h d (by simp)) 49 (by omega) e4])
   | (exfalso;simp at e)
 ·intro e;rw [e];rfl
theorem Shuts_iface {g:Nat→Option VB} {t:Nat} {v w:VV} (hn:closedB (.iface t v)=false) (h:qzq g v w):qzq g (.iface t v) (.iface t w):=by
 obtain ⟨k,v1,h1,h2⟩:=h
 refine ⟨k+1,.iface t v1,?_,⟨_,rfl,h2⟩⟩
 rw [shutD_step]
 unfold stepD
 rw [if_neg (by rw [hn];simp)]
 simp only [h1]
theorem err_shut {i:Nat} {h:VH} {e:ErrV} {ev:VV} (s:ErrOK i h e ev):qzq h.get ev e.v:=by
 rcases s with ⟨rfl,hb⟩ | ⟨k,pos,j,rfl,rfl,a3,_,_⟩
 ·cases e with
  | none=>exact qzq.closed rfl
  | bare k=>exact absurd rfl (hb k)
  | placed k pos=>exact qzq.closed rfl
 ·exact Shuts_iface rfl (qzq.ptr (ro:=false) (by rw [get_def,a3];rfl) (qzo.closed rfl))
theorem RAt.setS {bs:List Nat} {i:Nat} {R:Rd} {h:VH} {ev:VV} (hn:i < h.next) (he:ErrOK i h R.err ev) (R':Rd) (I':IcV) (e:R'.err=R.err):RAt bs i R' I' ⟨(i,some (.cells (rC bs R' ev I') false))::h.l,h.next⟩ :=
 ⟨hn,ev,by simp only [qzb,if_true],by rw [e];exact he.keep ⟨Nat.le_refl _,fun k _ k2=>by simp only [qzb];rw [if_neg (Ne.symm k2)]⟩⟩
theorem len_acc {α:Type} {base:Nat} {h:VH} {j:Nat} {f:α→List VV} {l:List α} {esz:Nat} {v:VV} (a:qzm base h j f l esz v):lenSlV [v]=some (.int .i64 (l.length:Int)):=by
 rcases a with ⟨rfl,rfl⟩ | ⟨rfl,_,_,_⟩<;>rfl
theorem shut_mC (g:Nat→Option VB) (x:Cmd × VV) (hs:qzq g x.2 (mW x.1)):qzo g (mC x) (cCmd x.1):=shut_cmd hs
theorem great_most (i:Icon):0≤greatS i∧greatS i≤2097152:=by have:=great_bnd i;omega
theorem head_zero (bs:List Nat):(headR bs).used=0∧(headR bs).pts=0:=by
 have g:=fun p k=>fail_most rd0 p k
 unfold headR
 repeat' split
 all_goals first
  | exact ⟨(g _ _).2.1,(g _ _).2.2.1⟩
  | exact ⟨rfl,rfl⟩
theorem decode_ok {Gl:qzj} (hG:GlAll Gl) {bs:List Nat} (hl:bs.length < 100000) (hb:∀ x∈bs,x < 256) :
  qzn Go.VL.Er.E Gl f_decode_Icon [.fsl (qzg cB bs) bs.length 1] (.tuple [.agg (cIcon (decS bs).1),(decS bs).2.v]):=by
 refine qzk (qze E_decode_Icon ?_)
 have g5:qza Gl 10=some [erP 5]:=(hG 5 (by omega)).1
 have g6:qza Gl 12=some [erP 6]:=(hG 6 (by omega)).1
 have g7:qza Gl 14=some [erP 7]:=(hG 7 (by omega)).1
 have g9:qza Gl 18=some [erP 9]:=(hG 9 (by omega)).1
 have g10:qza Gl 20=some [erP 10]:=(hG 10 (by omega)).1
 unfold c_decode_Icon r_decode_Icon
 simp only [qzl]
 obtain ⟨I0,hI0⟩:∃ I0:IcV,I0=⟨.int .i64 0,.int .i64 0,.int .i64 0,.nilS,.nilS⟩:=⟨_,rfl⟩
 obtain ⟨HA,eHA⟩:∃ HA:VH,VH.mk [(1,some (VB.cells [VV.fsl (qzg cB bs) bs.length 1,VV.int IntKind.i64 0,VV.nilI,VV.int IntKind.i64 0,VV.int IntKind.i64 0,VV.int IntKind.i64 0,VV.int IntKind.i64 0,VV.int IntKind.i64 0,VV.int IntKind.i64 0,VV.nilS,VV.nilS] false)),(0,some (VB.cells [VV.int IntKind.i64 0,VV.int IntKind.i64 0,VV.int IntKind.i64 0,VV.nilS,VV.nilS] false))] 2=HA:=⟨_,rfl⟩
 have sA:RAt bs 1 rd0 I0 HA:=by rw [←eHA,hI0];exact ⟨by show 1 < 2;omega,.nilI,rfl,ErrOK.none⟩
 have bA:qza HA.l 0=some (some (.cells [VV.int IntKind.i64 0,VV.int IntKind.i64 0,VV.int IntKind.i64 0,VV.nilS,VV.nilS] false)):=by rw [←eHA];rfl
 have nA:HA.next=2:=by rw [←eHA]
 obtain ⟨HR,hHR⟩:∃ x,headR bs=x:=⟨_,rfl⟩
 have hHR':=hHR
 unfold headR at hHR
 have q1:¬(1:Nat)=0:=by omega
 by_cases c1:60000 < bs.length
 case' pos =>
  rw [if_pos c1] at hHR
  have d1:(bs.length:Int) > 60000:=by omega
  simp only [simprocAttr,-Int.reduceNatCast',go_sem,d1,g_ErrLimit,g5]
  rw [eHA]
  refine qzh (fails_run sA 60000 5) ?_
  intro v h2 ⟨s2,fm2⟩
  rw [hHR] at s2
  have b2:=(fm2.2 0 (by omega) (by omega)).trans bA
  have n2:=fm2.1
  obtain ⟨hn3,ev3,hi3,he3⟩:=s2
  unfold rC at hi3
  simp only [simprocAttr,-Int.reduceNatCast',go_sem,hi3]
  have t2:=RAt.setS (bs:=bs) hn3 he3 (at4 HR) I0 rfl
  unfold rC at t2
  obtain ⟨hB,eB⟩:∃ x:VH,VH.mk ((1,some (VB.cells [VV.fsl (qzg cB bs) bs.length 1,VV.int IntKind.i64 4,ev3,VV.int IntKind.i64 HR.most,VV.int IntKind.i64 HR.used,VV.int IntKind.i64 HR.pts,I0.w,I0.h,I0.s,I0.vc,I0.vm] false))::h2.l) h2.next=x:=⟨_,rfl⟩
  rw [eB]
  have t2:RAt bs 1 (at4 HR) I0 hB:=by rw [←eB];exact t2
  have b2:qza hB.l 0=some (some (.cells [VV.int IntKind.i64 0,VV.int IntKind.i64 0,VV.int IntKind.i64 0,VV.nilS,VV.nilS] false)):=by rw [←eB];simp only [qzb];rw [if_neg q1];exact b2
  have n2:2≤hB.next:=by rw [←eB];show 2≤h2.next;omega
 case' neg =>
  rw [if_neg c1] at hHR
  have d1:¬(bs.length:Int) > 60000:=by omega
  by_cases c2:bs.length < 4
  case' pos =>
   rw [if_pos c2] at hHR
   have d2:(bs.length:Int) < 4:=by omega
   simp only [simprocAttr,-Int.reduceNatCast',go_sem,d1,d2,g_ErrShort,g6]
   rw [eHA]
   refine qzh (fails_run sA 0 6) ?_
   intro v h2 ⟨s2,fm2⟩
   rw [hHR] at s2
   have b2:=(fm2.2 0 (by omega) (by omega)).trans bA
   have n2:=fm2.1
   obtain ⟨hn3,ev3,hi3,he3⟩:=s2
   unfold rC at hi3
   simp only [simprocAttr,-Int.reduceNatCast',go_sem,hi3]
   have t2:=RAt.setS (bs:=bs) hn3 he3 (at4 HR) I0 rfl
   unfold rC at t2
   obtain ⟨hB,eB⟩:∃ x:VH,VH.mk ((1,some (VB.cells [VV.fsl (qzg cB bs) bs.length 1,VV.int IntKind.i64 4,ev3,VV.int IntKind.i64 HR.most,VV.int IntKind.i64 HR.used,VV.int IntKind.i64 HR.pts,I0.w,I0.h,I0.s,I0.vc,I0.vm] false))::h2.l) h2.next=x:=⟨_,rfl⟩
   rw [eB]
   have t2:RAt bs 1 (at4 HR) I0 hB:=by rw [←eB];exact t2
   have b2:qza hB.l 0=some (some (.cells [VV.int IntKind.i64 0,VV.int IntKind.i64 0,VV.int IntKind.i64 0,VV.nilS,VV.nilS] false)):=by rw [←eB];simp only [qzb];rw [if_neg q1];exact b2
   have n2:2≤hB.next:=by rw [←eB];show 2≤h2.next;omega
  case' neg =>
   rw [if_neg c2] at hHR
   have d2:¬(bs.length:Int) < 4:=by omega
   have z4:qzt (VV.int .i64 4)=some 4:=rfl
   have l4:4≤bs.length:=by omega
   have fl:=flatL_take cB_len 4 bs
   have bt:∀ x∈bs.take 4,x < 256:=fun x hx=>hb x (List.mem_of_mem_take hx)
   have bf:=bytes_flat (bs.take 4)
   have mi:=magic_iff bt
   have z5:List.drop (0*1) (qzg cB bs)=qzg cB bs:=rfl
   have z6:(4 - 0)*1=4:=rfl
   by_cases c3:bs.take 4=magicS
   case' pos =>
    rw [if_pos c3] at hHR
    have d3:(List.map UInt8.ofNat (List.take 4 bs) == [71,76,89,49])=true:=by rw [mi.mpr c3];rfl
    simp only [simprocAttr,-Int.reduceNatCast',go_sem,d1,d2,z4,l4,z5,z6,fl,bf,d3]
    obtain ⟨hB,eB⟩:∃ x:VH,VH.mk [(1,some (VB.cells [VV.fsl (qzg cB bs) bs.length 1,VV.int IntKind.i64 4,VV.nilI,VV.int IntKind.i64 0,VV.int IntKind.i64 0,VV.int IntKind.i64 0,VV.int IntKind.i64 0,VV.int IntKind.i64 0,VV.int IntKind.i64 0,VV.nilS,VV.nilS] false)),(1,some (VB.cells [VV.fsl (qzg cB bs) bs.length 1,VV.int IntKind.i64 0,VV.nilI,VV.int IntKind.i64 0,VV.int IntKind.i64 0,VV.int IntKind.i64 0,VV.int IntKind.i64 0,VV.int IntKind.i64 0,VV.int IntKind.i64 0,VV.nilS,VV.nilS] false)),(0,some (VB.cells [VV.int IntKind.i64 0,VV.int IntKind.i64 0,VV.int IntKind.i64 0,VV.nilS,VV.nilS] false))] 2=x:=⟨_,rfl⟩
    rw [eB]
    have t2:RAt bs 1 (at4 HR) I0 hB:=by rw [←eB,←hHR,hI0];exact ⟨by show 1 < 2;omega,.nilI,rfl,ErrOK.none⟩
    have b2:qza hB.l 0=some (some (.cells [VV.int IntKind.i64 0,VV.int IntKind.i64 0,VV.int IntKind.i64 0,VV.nilS,VV.nilS] false)):=by rw [←eB];rfl
    have n2:2≤hB.next:=by rw [←eB];exact Nat.le_refl _
   case' neg =>
    rw [if_neg c3] at hHR
    have d3:(List.map UInt8.ofNat (List.take 4 bs) == [71,76,89,49])=false:=by
     cases e:(List.map UInt8.ofNat (List.take 4 bs) == [71,76,89,49])
     ·rfl
     ·exact absurd (mi.mp (by simpa using e)) c3
    simp only [simprocAttr,-Int.reduceNatCast',go_sem,d1,d2,z4,l4,z5,z6,fl,bf,d3,g_ErrMagic,g7]
    rw [eHA]
    refine qzh (fails_run sA 0 7) ?_
    intro v h2 ⟨s2,fm2⟩
    rw [hHR] at s2
    have b2:=(fm2.2 0 (by omega) (by omega)).trans bA
    have n2:=fm2.1
    obtain ⟨hn3,ev3,hi3,he3⟩:=s2
    unfold rC at hi3
    simp only [simprocAttr,-Int.reduceNatCast',go_sem,hi3]
    have t2:=RAt.setS (bs:=bs) hn3 he3 (at4 HR) I0 rfl
    unfold rC at t2
    obtain ⟨hB,eB⟩:∃ x:VH,VH.mk ((1,some (VB.cells [VV.fsl (qzg cB bs) bs.length 1,VV.int IntKind.i64 4,ev3,VV.int IntKind.i64 HR.most,VV.int IntKind.i64 HR.used,VV.int IntKind.i64 HR.pts,I0.w,I0.h,I0.s,I0.vc,I0.vm] false))::h2.l) h2.next=x:=⟨_,rfl⟩
    rw [eB]
    have t2:RAt bs 1 (at4 HR) I0 hB:=by rw [←eB];exact t2
    have b2:qza hB.l 0=some (some (.cells [VV.int IntKind.i64 0,VV.int IntKind.i64 0,VV.int IntKind.i64 0,VV.nilS,VV.nilS] false)):=by rw [←eB];simp only [qzb];rw [if_neg q1];exact b2
    have n2:2≤hB.next:=by rw [←eB];show 2≤h2.next;omega
 all_goals
  obtain ⟨Wv,hW⟩:∃ x,wS bs=x:=⟨_,rfl⟩
  obtain ⟨Hv,hH⟩:∃ x,hS bs=x:=⟨_,rfl⟩
  obtain ⟨Sv,hS⟩:∃ x,sS bs=x:=⟨_,rfl⟩
  have hW':rangedS bs (at4 HR) 1 4096=Wv:=by rw [←hW,←hHR'];rfl
  have hH':rangedS bs Wv.2 1 4096=Hv:=by rw [←hH,←hW];rfl
  have hS':rangedS bs Hv.2 0 6=Sv:=by rw [←hS,←hH];rfl
  have pW:=ranged_pos bs (at4 HR) 1 4096 (by show (0:Int)≤4;omega) (by show (4:Int)≤100004;omega) hl hb
  have pH:=ranged_pos bs Wv.2 1 4096 (by rw [←hW'];exact pW.1) (by rw [←hW'];exact pW.2) hl hb
  have pS:=ranged_pos bs Hv.2 0 6 (by rw [←hH'];exact pH.1) (by rw [←hH'];exact pH.2) hl hb
  rw [hS'] at pS
  refine qzh (ranged_run hG hl hb t2 1 4096 (by omega) (by omega)) ?_
  rw [hW']
  intro v h3 ⟨e,s3,fm3⟩
  subst e
  have b3:=(fm3.2 0 (by omega) (by omega)).trans b2
  have n3:=fm3.1
  obtain ⟨hn4,ev4,hi4,he4⟩:=s3
  unfold rC at hi4
  rw [hI0] at hi4
  simp only [simprocAttr,-Int.reduceNatCast',go_sem,hi4]
  have t3:=RAt.setS (bs:=bs) hn4 he4 Wv.2 ⟨.int .i64 Wv.1,.int .i64 0,.int .i64 0,.nilS,.nilS⟩ rfl
  refine qzh (ranged_run hG hl hb t3 1 4096 (by omega) (by omega)) ?_
  rw [hH']
  intro v h4 ⟨e,s4,fm4⟩
  subst e
  have b4:=fm4.2 0 (by show 0 < h3.next;omega) (by omega)
  simp only [qzb] at b4
  rw [if_neg q1,b3] at b4
  have n4:=fm4.1
  simp only at n4
  obtain ⟨hn5,ev5,hi5,he5⟩:=s4
  unfold rC at hi5
  simp only [simprocAttr,-Int.reduceNatCast',go_sem,hi5]
  have t4:=RAt.setS (bs:=bs) hn5 he5 Hv.2 ⟨.int .i64 Wv.1,.int .i64 Hv.1,.int .i64 0,.nilS,.nilS⟩ rfl
  refine qzh (ranged_run hG hl hb t4 0 6 (by omega) (by omega)) ?_
  rw [hS']
  intro v h5 ⟨e,s5,fm5⟩
  subst e
  have b5:=fm5.2 0 (by show 0 < h4.next;omega) (by omega)
  simp only [qzb] at b5
  rw [if_neg q1,b4] at b5
  have n5:=fm5.1
  simp only at n5
  obtain ⟨hn6,ev6,hi6,he6⟩:=s5
  unfold rC at hi6
  simp only [simprocAttr,-Int.reduceNatCast',go_sem,hi6]
  have hic:icS bs=⟨Wv.1,Hv.1,Sv.1,[],[]⟩:=by unfold icS;rw [hW,hH,hS]
  refine call_deepL (greatest_ok Gl ⟨Wv.1,Hv.1,Sv.1,[],[]⟩) (shut_icon shut_nil shut_nil) rfl ?_
  have gm:=great_most ⟨Wv.1,Hv.1,Sv.1,[],[]⟩
  obtain ⟨gr,hgr⟩:∃ x,greatS ⟨Wv.1,Hv.1,Sv.1,[],[]⟩=x:=⟨_,rfl⟩
  rw [hgr] at gm ⊢
  have hM:mostR bs=withR Sv.2 gr:=by unfold mostR;rw [hic,hS,hgr]
  simp only [simprocAttr,-Int.reduceNatCast',go_sem,hi6,wpW_callV]
  have rW:=ranged_most bs (at4 HR) 1 4096
  have rH:=ranged_most bs Wv.2 1 4096
  have rS:=ranged_most bs Hv.2 0 6
  rw [hW'] at rW
  rw [hH'] at rH
  rw [hS'] at rS
  have hz:=head_zero bs
  rw [hHR'] at hz
  have zu:Sv.2.used=0:=by rw [rS.2.1,rH.2.1,rW.2.1];exact hz.1
  have zp:Sv.2.pts=0:=by rw [rS.2.2,rH.2.2,rW.2.2];exact hz.2
  have t6:RAt bs 1 (mostR bs) (withC ⟨.int .i64 Wv.1,.int .i64 Hv.1,.int .i64 Sv.1,.nilS,.nilS⟩ .nilS) ⟨(1,some (VB.cells (rC bs (withR Sv.2 gr) ev6 ⟨.int .i64 Wv.1,.int .i64 Hv.1,.int .i64 Sv.1,.nilS,.nilS⟩) false))::(1,some (VB.cells (rC bs Sv.2 ev6 ⟨.int .i64 Wv.1,.int .i64 Hv.1,.int .i64 Sv.1,.nilS,.nilS⟩) false))::h5.l,h5.next⟩:=by
   rw [hM]
   exact ⟨hn6,ev6,by simp only [qzb,if_true],he6.keep ⟨Nat.le_refl _,fun k k1 k2=>by simp only [qzb];rw [if_neg (Ne.symm k2),if_neg (Ne.symm k2)]⟩⟩
  obtain ⟨MR,hMR⟩:∃ x,mostR bs=x:=⟨_,rfl⟩
  have mu:MR.used=0:=by rw [←hMR,hM];exact zu
  have mp:MR.pts=0:=by rw [←hMR,hM];exact zp
  have mm:MR.most=gr:=by rw [←hMR,hM];rfl
  have mq:0≤MR.pos∧MR.pos≤100004:=by rw [←hMR,hM];exact pS
  refine qzh (colors_run hG hl hb 1 (mostR bs) ⟨.int .i64 Wv.1,.int .i64 Hv.1,.int .i64 Sv.1,.nilS,.nilS⟩ _ t6 (by rw [hMR];exact mq.1) (by rw [hMR];exact mq.2)) ?_
  intro v h7 ⟨jc,vc,s7,ac7,fm7⟩
  have b7:=fm7.2 0 (by show 0 < h5.next;omega) (by omega)
  simp only [qzb] at b7
  rw [if_neg q1,if_neg q1,b5] at b7
  have n7:=fm7.1
  simp only at n7 ac7
  have ck:(colsF bs).1.most=MR.most∧(colsF bs).1.used=MR.used∧(colsF bs).1.pts=MR.pts:=by
   have mk:=many_most bs MR 0 256
   have:=cols_keep bs (manyN bs MR 0 256) (manyR bs MR 0 256) []
   unfold colsF colsS
   rw [hMR]
   exact ⟨this.1.trans mk.1,this.2.1.trans mk.2.1,this.2.2.trans mk.2.2⟩
  have cl:(colsF bs).2.length≤256:=by
   have:=(cols_len bs (manyN bs MR 0 256) (manyR bs MR 0 256) []).2
   have mi:=many_in bs MR 0 256 (by omega)
   unfold colsF colsS
   rw [hMR]
   refine Nat.le_trans this ?_
   show 0+manyN bs MR 0 256≤256
   unfold manyN;omega
  have hCC:colsF bs=colsS bs (mostR bs):=rfl
  rw [←hCC] at s7 ac7
  obtain ⟨C,hC⟩:∃ x,colsF bs=x:=⟨_,rfl⟩
  rw [hC] at s7 ac7 ck cl
  obtain ⟨CR,CL⟩:=C
  simp only at s7 ac7 ck cl
  simp only [simprocAttr,-Int.reduceNatCast',go_sem]
  refine qzh (many_run hG hl hb s7 0 200 (by omega) (by omega) (by omega) (by omega)) ?_
  intro v h8 ⟨e,s8,fm8⟩
  subst e
  have b8:=(fm8.2 0 (by omega) (by omega)).trans b7
  have n8:=fm8.1
  have ac8:=acc_keep ac7 (by omega) fm8
  have mi:=many_in bs CR 0 200 (by omega)
  have mk:=many_most bs CR 0 200
  obtain ⟨N,hN⟩:∃ N:Nat,manyS bs CR 0 200=N:=⟨(manyS bs CR 0 200).toNat,by omega⟩
  have hN':manyN bs CR 0 200=N:=by unfold manyN;rw [hN];rfl
  rw [hN] at mi ⊢
  have hF:cmdsF bs=cmdsLp bs CL.length N (manyR bs CR 0 200) []:=by unfold cmdsF;rw [hC];simp only;rw [hN']
  have lv:=len_acc ac8
  simp only [simprocAttr,-Int.reduceNatCast',go_sem]
  refine cmds_loop hG hl hb 1 h8.next (by omega) (withC ⟨.int .i64 Wv.1,.int .i64 Hv.1,.int .i64 Sv.1,.nilS,.nilS⟩ vc) CL.length lv cl (cmdsF bs) h8 0 .nilS N (by omega) _ ?_ N 0 _ h8 0 .nilS [] _ (by omega) (by simp) hF s8 (Nat.le_refl _) DAcc.nil Kc.refl (by rw [mk.1,ck.1,mm];exact gm.1) (by rw [mk.1,ck.1,mm];exact gm.2) (by rw [mk.2.1,ck.2.1,mu];omega) (by rw [mk.2.1,ck.2.1,mu];omega) (by rw [mk.2.2,ck.2.2,mp];omega) (by rw [mk.2.2,ck.2.2,mp];omega) ?_ ?_ ?_ ?_ ?_ ?_
  rotate_left
  ·simp only [simprocAttr,-Int.reduceNatCast',go_sem]
  ·simp only [simprocAttr,-Int.reduceNatCast',go_sem]
  ·simp only [simprocAttr,-Int.reduceNatCast',go_sem]
  ·simp only [simprocAttr,-Int.reduceNatCast',go_sem]
  ·simp only [simprocAttr,-Int.reduceNatCast',go_sem]
  ·simp only [simprocAttr,-Int.reduceNatCast',go_sem];rfl
  intro T h9 jm vm M u4 u0 u2 s9 d9 eM k9 v0 v1
  have n9:=k9.1
  have b9:=(k9.2 0 (by omega) (by omega) (.inr rfl)).1.trans b8
  have ac9:qzm h5.next h9 jc cCl CL 4 vc:=ac8.ext n9 (fun x1 x2=>(k9.2 jc x2 (by omega) (.inr rfl)).1)
  have hE:endR bs=lastR bs.length CL.length (cmdsF bs).1:=by unfold endR;rw [hC]
  have s9':=s9
  obtain ⟨hnA,evA,hiA,heA⟩:=s9'
  unfold rC at hiA
  have hD:decS bs=if isN (endR bs).err=true then (⟨Wv.1,Hv.1,Sv.1,CL,M.map (·.1)⟩,.none) else (⟨0,0,0,[],[]⟩,(endR bs).err):=by unfold decS;rw [hW,hH,hS,hC,eM]
  rw [hD,hE]
  obtain ⟨QR,hQR⟩:∃ x,(cmdsF bs).1=x:=⟨_,rfl⟩
  rw [hQR] at s9 hiA heA v0 v1 ⊢
  have lv':=lv
  simp only [lenSlV] at lv'
  by_cases e1:QR.used < CL.length
  case' pos =>
   have e2:True:=trivial
   simp only [simprocAttr,-Int.reduceNatCast',go_sem,u4,u0,u2,hiA,lv',e1,g_ErrCanon,g9]
   refine qzh (fails_run s9 QR.pos 9) ?_
   intro v hZ ⟨sZ,fmZ⟩
   have hL:lastR bs.length CL.length QR=failS QR QR.pos 9:=if_pos e1
   rw [hL]
   have bZ:=(fmZ.2 0 (by omega) (by omega)).trans b9
   have acZ:=acc_keep ac9 (by omega) fmZ
   have dZ:=d9.keep fmZ.1 (fun k k1 k2=>fmZ.2 k k2 (by omega))
   have nZ:=fmZ.1
   obtain ⟨RZ,hRZ⟩:∃ x,failS QR QR.pos 9=x:=⟨_,rfl⟩
   rw [hRZ] at sZ ⊢
  case' neg =>
   by_cases e2:QR.pos < bs.length
   case' pos =>
    simp only [simprocAttr,-Int.reduceNatCast',go_sem,u4,u0,u2,hiA,lv',e1,e2,g_ErrTrail,g10]
    refine qzh (fails_run s9 QR.pos 10) ?_
    intro v hZ ⟨sZ,fmZ⟩
    have hL:lastR bs.length CL.length QR=failS QR QR.pos 10:=by unfold lastR;rw [if_neg e1,if_pos e2]
    rw [hL]
    have bZ:=(fmZ.2 0 (by omega) (by omega)).trans b9
    have acZ:=acc_keep ac9 (by omega) fmZ
    have dZ:=d9.keep fmZ.1 (fun k k1 k2=>fmZ.2 k k2 (by omega))
    have nZ:=fmZ.1
    obtain ⟨RZ,hRZ⟩:∃ x,failS QR QR.pos 10=x:=⟨_,rfl⟩
    rw [hRZ] at sZ ⊢
   case' neg =>
    have hL:lastR bs.length CL.length QR=QR:=by unfold lastR;rw [if_neg e1,if_neg e2]
    rw [hL]
    obtain ⟨hZ,ehZ⟩:∃ x,h9=x:=⟨_,rfl⟩
    have nZ:h9.next≤hZ.next:=by rw [ehZ];exact Nat.le_refl _
    obtain ⟨RZ,hRZ⟩:∃ x,QR=x:=⟨_,rfl⟩
    have sZ:=s9
    have bZ:=b9
    have acZ:=ac9
    have dZ:=d9
    rw [ehZ] at sZ bZ acZ dZ ⊢
    rw [hRZ] at sZ e1 e2 ⊢
  all_goals
   obtain ⟨hnB,evB,hiB,heB⟩:=sZ
   unfold rC at hiB
   have y0:¬(1:Nat)=0:=by omega
   have x0:=heB.er0 Gl
   have x1:=heB.er1 Gl
   cases ce:isN RZ.err
   ·rw [ce] at x0 x1
    simp only [simprocAttr,-Int.reduceNatCast',go_sem,u4,u0,u2,hiB,↓x0,↓x1,bZ,lv',e1,e2,y0]
    refine ⟨by simp;omega,?_⟩
    exact ends_shuts (qzq.tuple (qzo.append (shut_icon shut_nil shut_nil) (qzo.cons (err_shut (heB.put (b:=0) (x:=_) bZ (fun _ _ e=>by simp at e))) qzo.nil)))
   ·rw [ce] at x0 x1
    simp only [simprocAttr,-Int.reduceNatCast',go_sem,u4,u0,u2,hiB,↓x0,↓x1,bZ,lv',e1,e2,y0]
    have g0:∀ (x:Option VB) (k:Nat),k≠0→VH.get ⟨(0,x)::hZ.l,hZ.next⟩ k=hZ.get k:=fun x k k1=>by rw [get_def,get_def];simp only [qzb];rw [if_neg (Ne.symm k1)]
    have fin:∀ x:Option VB,qzq (VH.get ⟨(0,x)::hZ.l,hZ.next⟩) (.tuple [.agg [.int .i64 Wv.1,.int .i64 Hv.1,.int .i64 Sv.1,vc,vm],.nilI]) (.tuple [.agg (cIcon ⟨Wv.1,Hv.1,Sv.1,CL,M.map (·.1)⟩),ErrV.v .none]):=fun x =>
     qzq.tuple (qzo.append (shut_icon (qzq.acc acZ (fun b1 y hy=>by rw [g0 x jc (by omega)];exact hy) Ic.cCl_len (fun _ _=>qzo.closed rfl)) (dZ.dp mC_len cCmd (fun g y _ hs=>shut_mC g y hs) _ (fun k k1 _=>g0 x k (by omega)))) (qzo.cons (qzq.closed rfl) qzo.nil))
    first
     | exact ends_shuts (fin _)
     | exact ⟨by simp;omega,ends_shuts (fin _)⟩
end
end Go.VL.Dc
namespace Go.VL.Dc
open Go.FR Go.IR Go.VL Go.VL.Er Go.VL.Color Go.VL.Wind Go.VL.Ic Go.VL.Wire
noncomputable section
def InvP (n:Nat) (R:Rd):Prop:=(isN R.err=true→0≤R.pos∧R.pos≤n)∧(isN R.err=true∨∃ k p,R.err = .placed k p∧0≤p∧p≤n∧k < 13)
structure Go1 (n:Nat) (R R':Rd):Prop where
 keep:isN R.err=false→R'.err=R.err
 inv:InvP n R→InvP n R'
theorem Go1.refl {n:Nat} {R:Rd}:Go1 n R R:=⟨fun _=>rfl,id⟩
theorem Go1.trans {n:Nat} {R R1 R2:Rd} (a:Go1 n R R1) (b:Go1 n R1 R2):Go1 n R R2 :=
 ⟨fun h=>by rw [b.keep (by rw [a.keep h];exact h),a.keep h],fun h=>b.inv (a.inv h)⟩
theorem Go1.was {n:Nat} {R R1:Rd} (a:Go1 n R R1) (h:isN R1.err=true):isN R.err=true:=by
 cases c:isN R.err
 ·rw [a.keep c,c] at h;exact h
 ·rfl
theorem Go1.set {n:Nat} {R R1 R2:Rd} (a:Go1 n R R1) (h:R2.err=R1.err) (hp:R2.pos=R1.pos):Go1 n R R2 :=
 ⟨fun c=>by rw [h];exact a.keep c,fun c=>by have:=a.inv c;unfold InvP;rw [h,hp];exact this⟩
theorem Go1.fail {n:Nat} {R R1:Rd} (a:Go1 n R R1) (k:Nat) (hk:k < 13):Go1 n R (failS R1 R.pos k):=by
 unfold failS
 cases c:isN R1.err
 ·exact a
 ·have c0:=a.was c
  exact ⟨fun h=>(by rw [c0] at h;exact nomatch h),fun h=>⟨fun e=>(nomatch e),.inr ⟨k,R.pos,rfl,(h.1 c0).1,(h.1 c0).2,hk⟩⟩⟩
theorem num_go (bs:List Nat) (R:Rd):Go1 bs.length R (numS bs R).2:=by
 unfold numS
 cases c:isN R.err
 ·exact ⟨fun _=>rfl,id⟩
 ·refine ⟨fun h=>(by rw [c] at h;exact nomatch h),fun h => ?_⟩
  have hp:=h.1 c
  simp only [if_true]
  have key:isN (getS bs R.pos).e=true∧0≤(getS bs R.pos).k∧(getS bs R.pos).k≤bs.length∨isN (getS bs R.pos).e=false∧∃ k,(getS bs R.pos).e = .placed k R.pos∧k < 13:=by
   unfold getS
   split
   ·exact .inr ⟨rfl,_,rfl,by omega⟩
   ·split
    ·exact .inr ⟨rfl,_,rfl,by omega⟩
    ·exact .inr ⟨rfl,_,rfl,by omega⟩
    ·rename_i m j hj
     refine .inl ⟨rfl,?_⟩
     have gl:∀ (l:List Nat) (k acc m j:Nat),getL l k acc = .got m j→k≤j∧j≤k+l.length:=by
      intro l
      induction l with
      | nil=>intro k acc m j e;rw [getL] at e;exact nomatch e
      | cons x r ih =>
       intro k acc m j e
       rw [getL] at e
       split at e
       ·exact nomatch e
       ·split at e
        ·injection e with e1 e2
         rw [List.length_cons];omega
        ·have:=ih _ _ _ _ e
         rw [List.length_cons];omega
     have:=gl _ _ _ _ _ hj
     rw [List.length_drop] at this
     simp only
     omega
  rcases key with ⟨e,q⟩ | ⟨e,k,q,hk⟩
  ·refine ⟨fun _ => ?_,.inl e⟩
   simp only [e,if_true];exact q
  ·refine ⟨fun x=>(by simp only [e] at x;exact nomatch x),.inr ⟨k,R.pos,q,hp.1,hp.2,hk⟩⟩
theorem ranged_go (bs:List Nat) (R:Rd) (lo hi:Int):Go1 bs.length R (rangedS bs R lo hi).2:=by
 have g:=num_go bs R
 unfold rangedS;split
 ·exact g.fail 4 (by omega)
 ·exact g
theorem many_go (bs:List Nat) (R:Rd) (lo hi:Int):Go1 bs.length R (manyR bs R lo hi):=by
 have g:=num_go bs R
 unfold manyR;repeat' split
 ·exact g.fail 4 (by omega)
 ·exact g.fail 5 (by omega)
 ·exact g
theorem part_go (bs:List Nat) (R:Rd) (a:Int):Go1 bs.length R (partS bs R a).2:=by
 have g:=num_go bs R
 unfold partS;split
 ·exact g.fail 4 (by omega)
 ·exact g
theorem point_go (bs:List Nat) (R:Rd) (p:Pt):Go1 bs.length R (pointS bs R p).2:=(part_go bs R p.x).trans (part_go bs _ p.y)
theorem color_go (bs:List Nat) (R:Rd) (nc:Nat):Go1 bs.length R (colorS bs R nc).2:=by
 have g:=num_go bs R
 unfold colorS;repeat' split
 ·exact g
 ·exact g.fail 4 (by omega)
 ·exact g.fail 9 (by omega)
 ·exact g.set rfl rfl
theorem paint_go (bs:List Nat) (R:Rd) (k:Int) (nc:Nat):Go1 bs.length R (paintS bs R k nc).2:=by
 have c1:=color_go bs R nc
 have c2:=c1.trans (color_go bs _ nc)
 have p1:=c2.trans (point_go bs _ z0)
 have q1:=p1.trans (part_go bs _ 0)
 unfold paintS
 split
 ·exact c1
 ·split
  ·exact p1.trans (ranged_go bs _ _ _)
  ·simp only
   split
   ·exact q1.trans ((part_go bs _ 0).fail 4 (by omega))
   ·exact q1.trans (part_go bs _ 0)
theorem pts_go (bs:List Nat):∀ (n:Nat) (R:Rd) (a:Pt),Go1 bs.length R (ptsLp bs n R a).2
 | 0,R,a=>Go1.refl
 | n+1,R,a=>(point_go bs R a).trans (pts_go bs n _ _)
theorem segs_go (bs:List Nat) (kind:Nat):∀ (n:Nat) (R:Rd) (a:Pt) (S:List Seg),Go1 bs.length R (segLp bs kind n R a S).2.2
 | 0,R,a,S=>Go1.refl
 | n+1,R,a,S=>by
  rw [segLp]
  split
  ·exact pts_go bs kind R a
  ·exact (pts_go bs kind R a).trans (segs_go bs kind n _ _ _)
theorem runR_go (bs:List Nat) (R:Rd) (S:List Seg):Go1 bs.length R (runR bs R S):=by
 have g:=num_go bs R
 unfold runR;repeat' split
 ·exact g
 ·exact g.fail 4 (by omega)
 ·exact g.fail 9 (by omega)
 ·exact g.fail 5 (by omega)
 ·exact g
theorem run_go (bs:List Nat) (R:Rd) (S:List Seg) (a:Pt):Go1 bs.length R (runS bs R S a).2.2:=by
 have g:=runR_go bs R S
 unfold runS;split
 ·exact g
 ·obtain ⟨Q,hQ⟩:∃ Q,runR bs R S=Q:=⟨_,rfl⟩
  rw [hQ] at g ⊢
  refine Go1.trans (g.set ?_ ?_) (segs_go bs _ _ _ _ _)
  ·rfl
  ·rfl
theorem runs_go (bs:List Nat):∀ (n:Nat) (R:Rd) (a:Pt) (S:List Seg),Go1 bs.length R (runsLp bs n R a S).2.2
 | 0,R,a,S=>Go1.refl
 | n+1,R,a,S=>by
  rw [runsLp]
  split
  ·exact Go1.refl
  ·exact (run_go bs R S a).trans (runs_go bs n _ _ _)
theorem pathR1_go (bs:List Nat) (R:Rd) (f:Bool):Go1 bs.length R (pathR1 bs R f):=by
 have g:=num_go bs R
 unfold pathR1;repeat' split
 ·exact g
 ·exact g.fail 4 (by omega)
 ·exact g.fail 9 (by omega)
 ·exact g
theorem path_go (bs:List Nat) (R:Rd) (f:Bool):Go1 bs.length R (pathF bs R f).2.2 :=
 (((pathR1_go bs R f).trans (point_go bs _ z0)).set (R2:=incS _) rfl rfl).trans (runs_go bs _ _ _ _)
theorem paths_go (bs:List Nat) (f:Bool):∀ (n:Nat) (R:Rd) (P:List Path),Go1 bs.length R (pathsLp bs f n R P).2.1
 | 0,R,P=>Go1.refl
 | n+1,R,P=>by
  rw [pathsLp]
  split
  ·exact Go1.refl
  ·exact (path_go bs R f).trans (paths_go bs f n _ _)
theorem cmdR1_go (bs:List Nat) (R:Rd):Go1 bs.length R (cmdR1 bs R):=by
 have g:=num_go bs R
 unfold cmdR1;split
 ·exact g.fail 4 (by omega)
 ·exact g
theorem cmdW_go (bs:List Nat) (R:Rd):Go1 bs.length R (cmdW bs R).2:=by
 have g:=cmdR1_go bs R
 unfold cmdW;split
 ·exact g.trans (ranged_go bs _ _ _)
 ·exact g
theorem cmd_go (bs:List Nat) (R:Rd) (nc:Nat):Go1 bs.length R (cmdL bs R nc).2.1 :=
 (((cmdW_go bs R).trans (paint_go bs _ _ nc)).trans (many_go bs _ 1 200)).trans (paths_go bs _ _ _ _)
theorem cmds_go (bs:List Nat) (nc:Nat):∀ (n:Nat) (R:Rd) (M:List Cmd),Go1 bs.length R (cmdsLp bs nc n R M).1
 | 0,R,M=>Go1.refl
 | n+1,R,M=>by
  rw [cmdsLp]
  split
  ·exact Go1.refl
  ·exact (cmd_go bs R nc).trans (cmds_go bs nc n _ _)
theorem cols_go (bs:List Nat):∀ (n:Nat) (R:Rd) (L:List Cl),Go1 bs.length R (colLp bs n R L).1
 | 0,R,L=>Go1.refl
 | n+1,R,L=>by
  rw [colLp]
  split
  ·exact Go1.refl
  ·split
   ·exact Go1.refl.fail 6 (by omega)
   ·split
    ·exact Go1.refl.fail 9 (by omega)
    ·rename_i h1 h2 h3
     refine Go1.trans (R1:=⟨R.pos+4,R.err,R.most,R.used,R.pts⟩) ⟨fun _=>rfl,fun h=>⟨fun e => ?_,h.2⟩⟩ (cols_go bs n _ _)
     have:=h.1 e
     simp only at this ⊢
     omega
theorem colsS_go (bs:List Nat) (R:Rd):Go1 bs.length R (colsS bs R).1:=(many_go bs R 0 256).trans (cols_go bs _ _ _)
theorem last_go (n nc:Nat) (R:Rd):Go1 n R (lastR n nc R):=by
 unfold lastR;repeat' split
 ·exact Go1.refl.fail 9 (by omega)
 ·exact Go1.refl.fail 10 (by omega)
 ·exact Go1.refl
theorem w_go (bs:List Nat):Go1 bs.length (at4 (headR bs)) (wS bs).2:=ranged_go bs _ _ _
theorem most_go (bs:List Nat):Go1 bs.length (at4 (headR bs)) (mostR bs) :=
 (((w_go bs).trans (ranged_go bs _ _ _)).trans (ranged_go bs _ _ _)).set (R1:=(sS bs).2) rfl rfl
theorem colsF_go (bs:List Nat):Go1 bs.length (at4 (headR bs)) (colsF bs).1:=(most_go bs).trans (colsS_go bs _)
theorem cmdsF_go (bs:List Nat):Go1 bs.length (at4 (headR bs)) (cmdsF bs).1:=(colsF_go bs).trans ((many_go bs _ 0 200).trans (cmds_go bs _ _ _ _))
theorem end_go (bs:List Nat):Go1 bs.length (at4 (headR bs)) (endR bs):=(cmdsF_go bs).trans (last_go _ _ _)
end
end Go.VL.Dc
namespace Go.VL.En
open Go.FR Go.IR Go.VL Go.VL.Color Go.VL.Wind Go.VL.Ic Go.VL.Wire
noncomputable section
theorem zero_eq {p q:Pt} (h:zeroP p) (h':zeroP q):p=q:=by
 cases p;cases q
 simp only [zeroP] at h h'
 obtain ⟨rfl,rfl⟩:=h
 obtain ⟨rfl,rfl⟩:=h'
 rfl
end
end Go.VL.En
namespace Go.VL.Dc
open Go.FR Go.IR Go.VL Go.VL.Er Go.VL.Color Go.VL.Wind Go.VL.Ic Go.VL.Wire
noncomputable section
def Up (bs:List Nat) (R:Rd) (s:List Nat):Prop:=R.err = .none∧∃ p:Nat,R.pos=p∧p≤bs.length∧bs.drop p=s
theorem Up.isN {bs:List Nat} {R:Rd} {s:List Nat} (h:Up bs R s):isN R.err=true:=by rw [h.1];rfl
theorem Up.set {bs:List Nat} {R R':Rd} {s:List Nat} (h:Up bs R s) (e:R'.err=R.err) (e':R'.pos=R.pos):Up bs R' s:=by
 unfold Up;rw [e,e'];exact h
theorem num_up {bs:List Nat} {R:Rd} {m:Nat} {s:List Nat} (h:Up bs R (putS m++s)) (hm:m < 18446744073709551616):(numS bs R).1=m∧Up bs (numS bs R).2 s:=by
 obtain ⟨e,p,hp,hl,hd⟩:=h
 have g:getS bs R.pos=⟨m,(p:Int)+((putS m).length:Nat),.none⟩:=by
  unfold getS
  rw [if_neg (by omega),hp,Int.toNat_natCast,hd,get_put m s 0 0 (by omega) (by simpa using hm) (by omega)]
  simp
 have l2:=congrArg List.length hd
 rw [List.length_drop,List.length_append] at l2
 unfold numS
 rw [e,if_pos (show isN ErrV.none=true from rfl),g]
 refine ⟨rfl,rfl,p+(putS m).length,?_,by omega,?_⟩
 ·simp [isN]
 ·rw [←List.drop_drop,hd];exact List.drop_left
theorem ranged_up {bs:List Nat} {R:Rd} {m:Nat} {s:List Nat} (h:Up bs R (putS m++s)) (lo hi:Int) (h1:lo≤m) (h2:m≤hi) (hh:hi < 18446744073709551616):(rangedS bs R lo hi).1=m∧Up bs (rangedS bs R lo hi).2 s:=by
 obtain ⟨a,b⟩:=num_up h (by omega)
 unfold rangedS
 rw [a,if_neg (by omega)]
 exact ⟨rfl,b⟩
theorem many_up {bs:List Nat} {R:Rd} {m:Nat} {s:List Nat} (h:Up bs R (putS m++s)) (lo hi:Int) (h1:lo≤m) (h2:m≤hi) (hh:hi < 18446744073709551616):manyN bs R lo hi=m∧Up bs (manyR bs R lo hi) s:=by
 obtain ⟨a,b⟩:=num_up h (by omega)
 have eR:manyR bs R lo hi=(numS bs R).2:=by unfold manyR;rw [a,if_neg (by omega),if_neg (by omega)]
 unfold manyN manyS
 rw [eR,a,if_pos b.isN]
 exact ⟨by simp,b⟩
theorem zag_zig' {z:Int}:zagS (zigS z)=z:=by unfold zagS zigS;split<;>split<;>omega
theorem part_up {bs:List Nat} {R:Rd} {d a:Int} {s:List Nat} (h:Up bs R (putS (zigS d)++s)) (hm:R.most≤2097152) (ha:-R.most≤a∧a≤R.most) (hd:-R.most≤a+d∧a+d≤R.most):(partS bs R a).1=a+d∧Up bs (partS bs R a).2 s:=by
 obtain ⟨e,f⟩:=num_up h (zig_lt (by omega) (by omega))
 unfold partS
 rw [e,zag_zig',if_neg (by unfold partBad;omega)]
 exact ⟨rfl,f⟩
def NearR (m:Int) (p:Pt):Prop:=(-m≤p.x∧p.x≤m)∧-m≤p.y∧p.y≤m
theorem point_up {bs:List Nat} {R:Rd} {p a:Pt} {s:List Nat} (h:Up bs R (En.pointB (En.subPt p a)++s)) (hm:R.most≤2097152) (ha:NearR R.most a) (hp:NearR R.most p):(pointS bs R a).1=p∧Up bs (pointS bs R a).2 s:=by
 unfold En.pointB En.subPt at h
 rw [List.append_assoc] at h
 have m1:=part_most bs R a.x
 obtain ⟨e1,f1⟩:=part_up h hm ha.1 (by simp only;have:=hp.1;omega)
 obtain ⟨e2,f2⟩:=part_up f1 (by rw [m1.1];exact hm) (a:=a.y) (by rw [m1.1];exact ha.2) (by rw [m1.1];simp only;have:=hp.2;omega)
 unfold pointS
 refine ⟨?_,f2⟩
 rw [e1,e2]
 cases p;simp only [Pt.mk.injEq];omega
theorem point0_up {bs:List Nat} {R:Rd} {p:Pt} {s:List Nat} (h:Up bs R (En.pointB p++s)) (hm0:0≤R.most) (hm:R.most≤2097152) (hp:NearR R.most p):(pointS bs R z0).1=p∧Up bs (pointS bs R z0).2 s:=by
 refine point_up (p:=p) (a:=z0) ?_ hm ⟨⟨by show -R.most≤0;omega,by show 0≤R.most;omega⟩,by show -R.most≤0;omega,by show 0≤R.most;omega⟩ hp
 have:En.subPt p z0=p:=by unfold En.subPt z0;cases p;simp
 rw [this];exact h
end
end Go.VL.Dc
namespace Go.VL.Dc
open Go.FR Go.IR Go.VL Go.VL.Er Go.VL.Color Go.VL.Wind Go.VL.Ic Go.VL.Wire
noncomputable section
def sumK (l:List Seg):Int:=sumS' (fun s:Seg=>s.kind) l
def Adj:Option Int→List En.Run→Prop
 | _,[]=>True
 | o,r::R=>o≠some r.1∧1≤r.2∧Adj (some r.1) R
end
end Go.VL.Dc
namespace Go.VL.Dc
open Go.FR Go.IR Go.VL Go.VL.Er Go.VL.Color Go.VL.Wind Go.VL.Ic Go.VL.Wire
noncomputable section
theorem color_up {bs:List Nat} {R:Rd} {m nc:Nat} {s:List Nat} (h:Up bs R (putS m++s)) (hm:m < nc) (hn:nc≤256) (hu:(m:Int)≤R.used):(colorS bs R nc).1=m∧Up bs (colorS bs R nc).2 s∧(colorS bs R nc).2.used=(if (m:Int)=R.used then R.used+1 else R.used):=by
 obtain ⟨e,f⟩:=num_up h (by omega)
 unfold colorS
 rw [if_neg (by rw [f.isN];simp),e,if_neg (by omega),if_neg (by omega)]
 refine ⟨rfl,f.set rfl rfl,?_⟩
 simp only
 split<;>omega
theorem cols_up {bs:List Nat}:∀ (l:List Cl) {R:Rd} {L:List Cl} {s:List Nat},Up bs R (En.colorsB l++s)→onceS L l=true→(colLp bs l.length R L).2=L++l∧Up bs (colLp bs l.length R L).1 s
 | [],R,L,s,h,_=>⟨(List.append_nil L).symm,h⟩
 | c::l,R,L,s,h,ho=>by
  rw [onceS] at ho
  split at ho
  ·exact nomatch ho
  rename_i hnot
  obtain ⟨e,p,hp,hl,hd⟩:=h
  have hd':bs.drop p=c.r::c.g::c.b::c.a::(En.colorsB l++s):=by rw [hd];rfl
  have l2:=congrArg List.length hd'
  rw [List.length_drop] at l2
  simp only [List.length_cons] at l2
  have hcl:clAt bs p=c:=by
   have g:∀ q,bs[p+q]?=(c.r::c.g::c.b::c.a::(En.colorsB l++s))[q]?:=fun q=>by rw [←hd',List.getElem?_drop]
   have g0:=g 0;have g1:=g 1;have g2:=g 2;have g3:=g 3
   simp at g0 g1 g2 g3
   unfold clAt
   simp only [List.getD_eq_getElem?_getD,g0,g1,g2,g3,Option.getD_some]
  rw [List.length_cons,colLp,if_neg (by rw [e];simp [isN]),if_neg (by omega),hp,Int.toNat_natCast,hcl,if_neg hnot]
  have up:Up bs ⟨(p:Int)+4,R.err,R.most,R.used,R.pts⟩ (En.colorsB l++s):=by
   refine ⟨e,p+4,by simp,by omega,?_⟩
   rw [←List.drop_drop,hd'];rfl
  have q:=cols_up l (L:=L++[c]) up ho
  exact ⟨by rw [q.1];simp,q.2⟩
end
end Go.VL.Dc
namespace Go.VL.Dc
open Go.FR Go.IR Go.VL Go.VL.Er Go.VL.Color Go.VL.Wind Go.VL.Ic Go.VL.Wire
noncomputable section
structure CheckOk (i:Icon):Prop where
 sz:sizedS i=true
 cs:i.colors.length≤256
 ms:i.cmds.length≤200
 c:∀ c∈i.cmds,cmdS c i.colors.length (greatS i)=none
 p:pointsS i≤4000
 u:useAll 0 i.cmds=some (i.colors.length:Int)
 o:onceS [] i.colors=true
theorem check_ok {i:Icon} (h:checkS i=none):CheckOk i:=by
 unfold checkS at h
 split at h
 ·exact nomatch h
 rename_i h1
 split at h
 ·exact nomatch h
 rename_i h2
 split at h
 ·exact nomatch h
 rename_i h3
 split at h
 ·exact nomatch h
 rename_i h4
 split at h
 ·exact nomatch h
 rename_i h5
 have hu:usedS i=true:=by simpa using h5
 unfold usedS at hu
 split at hu
 ·exact nomatch hu
 ·rename_i n hn
  split at hu
  ·rename_i ho
   exact ⟨by simpa using h1,by omega,by omega,firstS_none.mp h3,by omega,by rw [hn];simpa using hu,ho⟩
  ·exact nomatch hu
end
end Go.VL.Dc
namespace Go.VL.Dc
open Go.FR Go.IR Go.VL Go.VL.Er Go.VL.Color Go.VL.Wind Go.VL.Ic Go.VL.Wire
noncomputable section
def Short (R:Rd):Prop:=∃ p,R.err = .placed 6 p
theorem Short.n {R:Rd} (h:Short R):isN R.err=false:=by obtain ⟨p,e⟩:=h;rw [e];rfl
theorem Short.go {n:Nat} {R R':Rd} (h:Short R) (g:Go1 n R R'):Short R':=by
 obtain ⟨p,e⟩:=h
 exact ⟨p,by rw [g.keep (by rw [e];rfl),e]⟩
theorem Short.fail {R:Rd} (h:Short R) (p:Int) (k:Nat):Short (failS R p k):=by
 unfold failS;rw [if_neg (by rw [h.n];simp)];exact h
variable {bs:List Nat} {n:Nat}
end
end Go.VL.Dc
namespace Go.VL.Pal
open Go.FR Go.IR Go.VL Go.VL.Color Go.VL.Wind
noncomputable section
set_option maxRecDepth 100000
set_option maxHeartbeats 1000000
def colT:List Cl:=[⟨255,0,0,255⟩,⟨0,128,0,255⟩,⟨0,0,200,100⟩,⟨10,20,30,1⟩,⟨255,255,255,255⟩,⟨0,0,0,0⟩,⟨7,0,0,254⟩]
def colS (l:List Int) (at_:Nat):Cl:=colT.getD (nextS l at_ 7).toNat ⟨0,0,0,0⟩
theorem colT_at (k:Nat) (h:k < 7):colT[k]?=some (colT.getD k ⟨0,0,0,0⟩):=by
 rw [List.getD_eq_getElem?_getD,List.getElem?_eq_getElem (by simpa [colT] using h)];rfl
attribute [local go_sem] cCl cSeq
theorem color_ok (Gl:qzj) (l:List Int) (at_:Nat) (i:Nat) (hl:l.length < 4611686018427387904) (ha:at_ < 1000000) :
  StOk Go.VL.Pal.E Gl f_glyphicmake_Color [.ptr i 0] [(i,bSeq l at_)] (.agg (cCl (colS l at_))) [(i,bSeq l (at_+1))]:=by
 refine st1_intro fun nx hn=>qze E_glyphicmake_Color ?_
 unfold c_glyphicmake_Color r_glyphicmake_Color
 simp only [qzl]
 have e1:¬nx=i:=by omega
 have e2:¬i=nx:=by omega
 have e3:¬nx+1=i:=by omega
 have e4:¬i=nx+1:=by omega
 have e5:¬nx=nx+1:=by omega
 have e6:¬nx+1=nx:=by omega
 have n1:=next_in l at_ 7 (by omega)
 obtain ⟨k,hk⟩:∃ k:Nat,nextS l at_ 7=k:=⟨(nextS l at_ 7).toNat,by omega⟩
 have hk7:k < 7:=by omega
 have hc:colS l at_=colT.getD k ⟨0,0,0,0⟩:=by unfold colS;rw [hk,Int.toNat_natCast]
 have p1:=qzr cCl_len (colT_at k hk7)
 have p2:=qzs cCl_len (colT_at k hk7)
 simp only [simprocAttr,-Int.reduceNatCast',go_sem,e1,e2,e3,e4,e5,e6]
 have tab:[VV.int .u8 255,VV.int .u8 0,VV.int .u8 0,VV.int .u8 255,VV.int .u8 0,VV.int .u8 128,VV.int .u8 0,VV.int .u8 255,VV.int .u8 0,VV.int .u8 0,VV.int .u8 200,VV.int .u8 100,VV.int .u8 10,VV.int .u8 20,VV.int .u8 30,VV.int .u8 1,VV.int .u8 255,VV.int .u8 255,VV.int .u8 255,VV.int .u8 255,VV.int .u8 0,VV.int .u8 0,VV.int .u8 0,VV.int .u8 0,VV.int .u8 7,VV.int .u8 0,VV.int .u8 0,VV.int .u8 254]=qzg cCl colT:=rfl
 rw [tab]
 refine qzp (next_ok Gl l at_ 7 i hl (by omega) (by omega) (by omega)) (by simp only [simprocAttr,-Int.reduceNatCast',go_sem,e1,e2,e3,e4]) rfl rfl ?_
 rw [hk,hc]
 simp only [simprocAttr,-Int.reduceNatCast',go_sem,e1,e2,e3,e4,e5,e6,hk7,p1,p2]
theorem find_loop (Gl:qzj) (c:Cl) (l:List Cl) (hl:l.length < 1000000) (r:Int) (K:AEx→VF→VH→Prop)
  (hK0:∀ T h,r=-1→K (.exit 0) T h) (hK1:∀ T h,qza T 4=some (.int .i64 r)→K .ret T h) :
  ∀ (d i:Nat) (T:VF) (h:VH),d+i=l.length→idxS (l.drop i) c i=r→qza T 0=some (.fsl (qzg cCl l) l.length 4)→qza T 3=some (.ptr 0 0)→qza T 5=some (.int .i64 i)→qza h.l 0=some (some (.cells (cCl c) false)) →
   wp Go.VL.Pal.E Gl (.loop c_glyphicref12_Find_l0) T h K:=by
 intro d
 induction d with
 | zero =>
  intro i T h hd hr t0 t3 t5 h0'
  obtain rfl:i=l.length:=by omega
  refine qzi c_glyphicref12_Find_l0.eq_1 ?_
  simp only [simprocAttr,-Int.reduceNatCast',go_sem,t0,t3,t5,Int.lt_irrefl]
  refine hK0 _ _ ?_
  rw [←hr,List.drop_length];rfl
 | succ d ih =>
  intro i T h hd hr t0 t3 t5 h0'
  refine qzi c_glyphicref12_Find_l0.eq_1 ?_
  have hlt:i < l.length:=by omega
  have c1:(i:Int) < l.length:=by omega
  obtain ⟨x,hx⟩:∃ x,l[i]?=some x:=⟨l[i],List.getElem?_eq_getElem hlt⟩
  have p1:=qzr cCl_len hx
  have p2:=qzs cCl_len hx
  have w:IntKind.i64.wrap ((i:Int)+1)=((i+1:Nat):Int):=by rw [qzd (by omega) (by omega)];rfl
  rw [drop_at hx,idxS] at hr
  simp only [simprocAttr,-Int.reduceNatCast',go_sem,t0,t3,t5,c1,hlt,p1,p2,h0']
  refine qzf (same_ok Gl x c) rfl rfl ?_
  by_cases e:c=x
  ·rw [if_pos e] at hr
   subst e
   have de:decide (c=c)=true:=by simp
   simp only [simprocAttr,-Int.reduceNatCast',go_sem,t0,t3,t5,de]
   refine hK1 _ _ ?_
   simp only [simprocAttr,-Int.reduceNatCast',go_sem,hr]
  ·rw [if_neg e] at hr
   have de:decide (x=c)=false:=by simp;exact fun q=>e q.symm
   simp only [simprocAttr,-Int.reduceNatCast',go_sem,t0,t3,t5,de,w]
   refine ih (i+1) _ _ (by omega) hr ?_ ?_ ?_ h0'
   ·simp only [simprocAttr,-Int.reduceNatCast',go_sem,t0]
   ·simp only [simprocAttr,-Int.reduceNatCast',go_sem,t3]
   ·simp only [simprocAttr,-Int.reduceNatCast',go_sem]
theorem refFind_ok (Gl:qzj) (c:Cl) (l:List Cl) (hl:l.length < 1000000):qzn Go.VL.Pal.E Gl f_glyphicref12_Find [.fsl (qzg cCl l) l.length 4,.agg (cCl c)] (.int .i64 (idxS l c 0)):=by
 refine qzk (qze E_glyphicref12_Find ?_)
 unfold c_glyphicref12_Find r_glyphicref12_Find
 simp only [qzl]
 simp only [simprocAttr,-Int.reduceNatCast',go_sem]
 refine find_loop Gl c l hl (idxS l c 0) _ ?_ ?_ l.length 0 _ _ (by omega) rfl ?_ ?_ ?_ ?_
 ·intro T h e
  simp only [simprocAttr,-Int.reduceNatCast',go_sem,e]
  exact qzc rfl
 ·intro T h t4
  simp only [simprocAttr,-Int.reduceNatCast',go_sem,t4]
  exact qzc rfl
 all_goals simp only [simprocAttr,-Int.reduceNatCast',go_sem]
 rfl
end
end Go.VL.Pal
