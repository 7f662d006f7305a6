import Derived.Test.YtbamfhdgikeneaaDoorVlJ
import Derived.Test.YtbamfhdgikeneaaDoorShA
import Derived.Test.YtbamfhdgikeneaaDoorEnP
import Derived.Test.YtbamfhdgikeneaaDoorWrA
set_option linter.unusedSimpArgs false
set_option linter.unusedVariables false
namespace Go.VL.Dc
open Go.FR Go.IR Go.VL Go.VL.Er Go.VL.Color Go.VL.Wind Go.VL.Ic Go.VL.Wire
noncomputable section
set_option maxRecDepth 100000
set_option maxHeartbeats 2000000
theorem cols_keep (bs:List Nat):∀ (n:Nat) (R:Rd) (L:List Cl),(colLp bs n R L).1.most=R.most∧(colLp bs n R L).1.used=R.used∧(colLp bs n R L).1.pts=R.pts
 | 0,R,L=>⟨rfl,rfl,rfl⟩
 | n+1,R,L=>by
  have g:=fun k=>fail_most R R.pos k
  rw [colLp]
  repeat' split
  all_goals first
   | exact ⟨rfl,rfl,rfl⟩
   | exact ⟨(g _).1,(g _).2.1,(g _).2.2.1⟩
   | exact cols_keep bs n _ _
theorem cols_len (bs:List Nat):∀ (n:Nat) (R:Rd) (L:List Cl),L.length≤(colLp bs n R L).2.length∧(colLp bs n R L).2.length≤L.length+n
 | 0,R,L=>⟨Nat.le_refl _,Nat.le_refl _⟩
 | n+1,R,L=>by
  have g:=fun Q l=>cols_len bs n Q l
  rw [colLp]
  repeat' split
  all_goals first
   | exact ⟨Nat.le_refl _,Nat.le_add_right _ _⟩
   | (refine ⟨Nat.le_trans ?_ (g _ _).1,Nat.le_trans (g _ _).2 ?_⟩<;>rw [List.length_append,List.length_cons,List.length_nil]<;>omega)
def rd0:Rd:=⟨0,.none,0,0,0⟩
def magicS:List Nat:=[71,76,89,49]
def headR (bs:List Nat):Rd:=if 60000 < bs.length then failS rd0 60000 5 else if bs.length < 4 then failS rd0 0 6 else if bs.take 4=magicS then rd0 else failS rd0 0 7
def at4 (R:Rd):Rd:=⟨4,R.err,R.most,R.used,R.pts⟩
def wS (bs:List Nat):Int × Rd:=rangedS bs (at4 (headR bs)) 1 4096
def hS (bs:List Nat):Int × Rd:=rangedS bs (wS bs).2 1 4096
def sS (bs:List Nat):Int × Rd:=rangedS bs (hS bs).2 0 6
def icS (bs:List Nat):Icon:=⟨(wS bs).1,(hS bs).1,(sS bs).1,[],[]⟩
def withR (R:Rd) (m:Int):Rd:=⟨R.pos,R.err,m,R.used,R.pts⟩
def mostR (bs:List Nat):Rd:=withR (sS bs).2 (greatS (icS bs))
def cmdsLp (bs:List Nat) (nc:Nat):Nat→Rd→List Cmd→Rd × List Cmd
 | 0,R,M=>(R,M)
 | n+1,R,M=>if isN R.err=false then (R,M) else cmdsLp bs nc n (cmdL bs R nc).2.1 (M++if (cmdL bs R nc).2.2=true then [cmdS' bs R nc] else [])
def colsF (bs:List Nat):Rd × List Cl:=colsS bs (mostR bs)
def cmdsF (bs:List Nat):Rd × List Cmd:=cmdsLp bs (colsF bs).2.length (manyN bs (colsF bs).1 0 200) (manyR bs (colsF bs).1 0 200) []
def lastR (n nc:Nat) (R:Rd):Rd:=if R.used < nc then failS R R.pos 9 else if R.pos < n then failS R R.pos 10 else R
def endR (bs:List Nat):Rd:=lastR bs.length (colsF bs).2.length (cmdsF bs).1
def decS (bs:List Nat):Icon × ErrV:=if isN (endR bs).err=true then (⟨(wS bs).1,(hS bs).1,(sS bs).1,(colsF bs).2,(cmdsF bs).2⟩,.none) else (⟨0,0,0,[],[]⟩,(endR bs).err)
attribute [local go_sem] cB cPt cCl cPaint
theorem cmds_loop {Gl:qzj} (hG:GlAll Gl) {bs:List Nat} (hl:bs.length < 100000) (hb:∀ x∈bs,x < 256) (i base:Nat) (hi:i < base) (I:IcV) (nc:Nat) (hc:lenSlV [I.vc]=some (.int .i64 nc)) (hn:nc≤256) (F:Rd × List Cmd) (HS:VH) (JS:Nat) (VS:VV) (many:Nat) (hm:many≤200) (K:AEx→VF→VH→Prop)
  (hK:∀ T h jm vm M,qza T 4=some (.ptr i 0)→qza T 0=some (.fsl (qzf cB bs) bs.length 1)→qza T 2=some (.ptr 0 0)→RAt bs i F.1 (withM I vm) h→DAcc base h jm mC mW M 11 vm→M.map (·.1)=F.2→Kc i HS JS VS h jm vm→0≤F.1.used→F.1.used≤nc→K (.exit 1) T h) :
  ∀ (d k:Nat) (T:VF) (h:VH) (jm:Nat) (vm:VV) (M:List (Cmd × VV)) (R:Rd),d+k=many→M.length≤k→F=cmdsLp bs nc d R (M.map (·.1))→RAt bs i R (withM I vm) h→base≤h.next→DAcc base h jm mC mW M 11 vm→Kc i HS JS VS h jm vm→0≤R.most→R.most≤2097152→0≤R.used→R.used≤nc→0≤R.pts→R.pts≤4200+200*k →
   qza T 4=some (.ptr i 0)→qza T 0=some (.fsl (qzf cB bs) bs.length 1)→qza T 2=some (.ptr 0 0)→qza T 6=some (.func f_decode_reader_cmd [.ptr i 0] [])→qza T 68=some (.int .i64 many)→qza T 69=some (.int .i64 k) →
  wp Go.VL.Er.E Gl (.loop c_decode_Icon_l0) T h K:=by
 intro d
 induction d with
 | zero =>
  intro k T h jm vm M R hd hM hF st nb dm kc m0 m1 u0 u1 p0 p1 t4 t0 t2 t6 t68 t69
  obtain rfl:k=many:=by omega
  refine qzi c_decode_Icon_l0.eq_1 ?_
  simp only [simprocAttr,-Int.reduceNatCast',go_sem,t68,t69,Int.lt_irrefl]
  subst hF
  refine hK _ _ jm vm M ?_ ?_ ?_ st dm rfl kc u0 u1
  ·simp only [simprocAttr,-Int.reduceNatCast',go_sem,t4]
  ·simp only [simprocAttr,-Int.reduceNatCast',go_sem,t0]
  ·simp only [simprocAttr,-Int.reduceNatCast',go_sem,t2]
 | succ d ih =>
  intro k T h jm vm M R hd hM hF st nb dm kc m0 m1 u0 u1 p0 p1 t4 t0 t2 t6 t68 t69
  have c1:(k:Int) < many:=by omega
  have hw:IntKind.i64.wrap ((k:Int)+1)=((k+1:Nat):Int):=by rw [qze (by omega) (by omega)];rfl
  have s0:=st
  obtain ⟨hn3,ev3,hi3,he3⟩:=s0
  unfold rC at hi3
  have e0:=he3.er0 Gl
  have e1:=he3.er1 Gl
  refine qzi c_decode_Icon_l0.eq_1 ?_
  rw [cmdsLp] at hF
  cases ce:isN R.err
  ·rw [ce] at e0 e1
   rw [if_pos ce] at hF
   subst hF
   simp only [simprocAttr,-Int.reduceNatCast',go_sem,t4,t6,t68,t69,c1,hi3,↓e0,↓e1]
   refine hK _ _ jm vm M ?_ ?_ ?_ st dm rfl kc u0 u1
   ·simp only [simprocAttr,-Int.reduceNatCast',go_sem,t4]
   ·simp only [simprocAttr,-Int.reduceNatCast',go_sem,t0]
   ·simp only [simprocAttr,-Int.reduceNatCast',go_sem,t2]
  rw [ce] at e0 e1
  rw [if_neg (by rw [ce];simp)] at hF
  have inv:=cmd_inv bs R nc m0 m1 u0 u1 p0
  simp only [simprocAttr,-Int.reduceNatCast',go_sem,t4,t6,t68,t69,c1,hi3,↓e0,↓e1,wpW_callV]
  refine qzh (cmd_run hG hl hb st nc hc hn m0 m1 u0 u1 p0 (by omega) base hi nb jm M dm (by omega)) ?_
  intro v h2 ⟨jm2,vm2,M2,s2,d2,e2,k2⟩
  simp only [simprocAttr,-Int.reduceNatCast',go_sem,t69,hw]
  refine ih (k+1) _ h2 jm2 vm2 M2 _ (by omega) ?_ (by rw [e2];exact hF) s2 (by have:=k2.1;omega) d2 (kc.trans k2) (by rw [inv.1];exact m0) (by rw [inv.1];exact m1) inv.2.1 inv.2.2.1 inv.2.2.2.1 (by have:=inv.2.2.2.2;omega) ?_ ?_ ?_ ?_ ?_ ?_
  ·have:=congrArg List.length e2
   rw [List.length_map,List.length_append,List.length_map] at this
   rw [this]
   split
   ·simp;omega
   ·simp;omega
  ·simp only [simprocAttr,-Int.reduceNatCast',go_sem,t4]
  ·simp only [simprocAttr,-Int.reduceNatCast',go_sem,t0]
  ·simp only [simprocAttr,-Int.reduceNatCast',go_sem,t2]
  ·simp only [simprocAttr,-Int.reduceNatCast',go_sem,t6]
  ·simp only [simprocAttr,-Int.reduceNatCast',go_sem,t68]
  ·simp only [simprocAttr,-Int.reduceNatCast',go_sem]
theorem bytes_flat:∀ l:List Nat,bytesV (qzf cB l)=some (l.map UInt8.ofNat)
 | []=>rfl
 | x::l=>by
  rw [flatL_cons]
  show bytesV (.int .u8 (x:Int)::qzf cB l)=_
  simp only [bytesV,bytes_flat l,Int.toNat_natCast,List.map_cons]
theorem magic_iff {l:List Nat} (h:∀ x∈l,x < 256):l.map UInt8.ofNat=[71,76,89,49] ↔ l=magicS:=by
 constructor
 ·intro e
  have inj:∀ x:Nat,x < 256→∀ y:Nat,y < 256→UInt8.ofNat x=UInt8.ofNat y→x=y:=fun x hx y hy q=>by
   have:=congrArg UInt8.toNat q
   simp only [UInt8.toNat_ofNat'] at this
   omega
  unfold magicS
  rcases l with _ | ⟨a,_ | ⟨b,_ | ⟨c,_ | ⟨d,_ | ⟨f,r⟩⟩⟩⟩⟩
  all_goals first
   | (simp only [List.map_cons,List.map_nil,List.cons.injEq,and_true] at e
      obtain ⟨e1,e2,e3,e4⟩:=e
      rw [inj a (h a (by simp)) 71 (by omega) e1,inj b (h b (by simp)) 76 (by omega) e2,inj c (h c (by simp)) 89 (by omega) e3,inj d (h d (by simp)) 49 (by omega) e4])
   | (exfalso;simp at e)
 ·intro e;rw [e];rfl
theorem Shuts_iface {g:Nat→Option VB} {t:Nat} {v w:VV} (hn:closedB (.iface t v)=false) (h:qzq g v w):qzq g (.iface t v) (.iface t w):=by
 obtain ⟨k,v1,h1,h2⟩:=h
 refine ⟨k+1,.iface t v1,?_,⟨_,rfl,h2⟩⟩
 rw [shutD_step]
 unfold stepD
 rw [if_neg (by rw [hn];simp)]
 simp only [h1]
theorem err_shut {i:Nat} {h:VH} {e:ErrV} {ev:VV} (s:ErrOK i h e ev):qzq h.get ev e.v:=by
 rcases s with ⟨rfl,hb⟩ | ⟨k,pos,j,rfl,rfl,a3,_,_⟩
 ·cases e with
  | none=>exact qzq.closed rfl
  | bare k=>exact absurd rfl (hb k)
  | placed k pos=>exact qzq.closed rfl
 ·exact Shuts_iface rfl (qzq.ptr (ro:=false) (by rw [qzt,a3];rfl) (qzn.closed rfl))
theorem RAt.setS {bs:List Nat} {i:Nat} {R:Rd} {h:VH} {ev:VV} (hn:i < h.next) (he:ErrOK i h R.err ev) (R':Rd) (I':IcV) (e:R'.err=R.err):RAt bs i R' I' ⟨(i,some (.cells (rC bs R' ev I') false))::h.l,h.next⟩ :=
 ⟨hn,ev,by simp only [qzb,if_true],by rw [e];exact he.keep ⟨Nat.le_refl _,fun k _ k2=>by simp only [qzb];rw [if_neg (Ne.symm k2)]⟩⟩
theorem len_acc {α:Type} {base:Nat} {h:VH} {j:Nat} {f:α→List VV} {l:List α} {esz:Nat} {v:VV} (a:qzm base h j f l esz v):lenSlV [v]=some (.int .i64 (l.length:Int)):=by
 rcases a with ⟨rfl,rfl⟩ | ⟨rfl,_,_,_⟩<;>rfl
theorem shut_mC (g:Nat→Option VB) (x:Cmd × VV) (hs:qzq g x.2 (mW x.1)):qzn g (mC x) (cCmd x.1):=shut_cmd hs
theorem great_most (i:Icon):0≤greatS i∧greatS i≤2097152:=by have:=great_bnd i;omega
theorem head_zero (bs:List Nat):(headR bs).used=0∧(headR bs).pts=0:=by
 have g:=fun p k=>fail_most rd0 p k
 unfold headR
 repeat' split
 all_goals first
  | exact ⟨(g _ _).2.1,(g _ _).2.2.1⟩
  | exact ⟨rfl,rfl⟩
theorem decode_ok {Gl:qzj} (hG:GlAll Gl) {bs:List Nat} (hl:bs.length < 100000) (hb:∀ x∈bs,x < 256) :
  qzo Go.VL.Er.E Gl f_decode_Icon [.fsl (qzf cB bs) bs.length 1] (.tuple [.agg (cIcon (decS bs).1),(decS bs).2.v]):=by
 refine qzk (qzd E_decode_Icon ?_)
 have g5:qza Gl 10=some [erP 5]:=(hG 5 (by omega)).1
 have g6:qza Gl 12=some [erP 6]:=(hG 6 (by omega)).1
 have g7:qza Gl 14=some [erP 7]:=(hG 7 (by omega)).1
 have g9:qza Gl 18=some [erP 9]:=(hG 9 (by omega)).1
 have g10:qza Gl 20=some [erP 10]:=(hG 10 (by omega)).1
 unfold c_decode_Icon r_decode_Icon
 simp only [qzl]
 obtain ⟨I0,hI0⟩:∃ I0:IcV,I0=⟨.int .i64 0,.int .i64 0,.int .i64 0,.nilS,.nilS⟩:=⟨_,rfl⟩
 obtain ⟨HA,eHA⟩:∃ HA:VH,VH.mk [(1,some (VB.cells [VV.fsl (qzf cB bs) bs.length 1,VV.int IntKind.i64 0,VV.nilI,VV.int IntKind.i64 0,VV.int IntKind.i64 0,VV.int IntKind.i64 0,VV.int IntKind.i64 0,VV.int IntKind.i64 0,VV.int IntKind.i64 0,VV.nilS,VV.nilS] false)),(0,some (VB.cells [VV.int IntKind.i64 0,VV.int IntKind.i64 0,VV.int IntKind.i64 0,VV.nilS,VV.nilS] false))] 2=HA:=⟨_,rfl⟩
 have sA:RAt bs 1 rd0 I0 HA:=by rw [←eHA,hI0];exact ⟨by show 1 < 2;omega,.nilI,rfl,ErrOK.none⟩
 have bA:qza HA.l 0=some (some (.cells [VV.int IntKind.i64 0,VV.int IntKind.i64 0,VV.int IntKind.i64 0,VV.nilS,VV.nilS] false)):=by rw [←eHA];rfl
 have nA:HA.next=2:=by rw [←eHA]
 obtain ⟨HR,hHR⟩:∃ x,headR bs=x:=⟨_,rfl⟩
 have hHR':=hHR
 unfold headR at hHR
 have q1:¬(1:Nat)=0:=by omega
 by_cases c1:60000 < bs.length
 case' pos =>
  rw [if_pos c1] at hHR
  have d1:(bs.length:Int) > 60000:=by omega
  simp only [simprocAttr,-Int.reduceNatCast',go_sem,d1,g_ErrLimit,g5]
  rw [eHA]
  refine qzh (fails_run sA 60000 5) ?_
  intro v h2 ⟨s2,fm2⟩
  rw [hHR] at s2
  have b2:=(fm2.2 0 (by omega) (by omega)).trans bA
  have n2:=fm2.1
  obtain ⟨hn3,ev3,hi3,he3⟩:=s2
  unfold rC at hi3
  simp only [simprocAttr,-Int.reduceNatCast',go_sem,hi3]
  have t2:=RAt.setS (bs:=bs) hn3 he3 (at4 HR) I0 rfl
  unfold rC at t2
  obtain ⟨hB,eB⟩:∃ x:VH,VH.mk ((1,some (VB.cells [VV.fsl (qzf cB bs) bs.length 1,VV.int IntKind.i64 4,ev3,VV.int IntKind.i64 HR.most,VV.int IntKind.i64 HR.used,VV.int IntKind.i64 HR.pts,I0.w,I0.h,I0.s,I0.vc,I0.vm] false))::h2.l) h2.next=x:=⟨_,rfl⟩
  rw [eB]
  have t2:RAt bs 1 (at4 HR) I0 hB:=by rw [←eB];exact t2
  have b2:qza hB.l 0=some (some (.cells [VV.int IntKind.i64 0,VV.int IntKind.i64 0,VV.int IntKind.i64 0,VV.nilS,VV.nilS] false)):=by rw [←eB];simp only [qzb];rw [if_neg q1];exact b2
  have n2:2≤hB.next:=by rw [←eB];show 2≤h2.next;omega
 case' neg =>
  rw [if_neg c1] at hHR
  have d1:¬(bs.length:Int) > 60000:=by omega
  by_cases c2:bs.length < 4
  case' pos =>
   rw [if_pos c2] at hHR
   have d2:(bs.length:Int) < 4:=by omega
   simp only [simprocAttr,-Int.reduceNatCast',go_sem,d1,d2,g_ErrShort,g6]
   rw [eHA]
   refine qzh (fails_run sA 0 6) ?_
   intro v h2 ⟨s2,fm2⟩
   rw [hHR] at s2
   have b2:=(fm2.2 0 (by omega) (by omega)).trans bA
   have n2:=fm2.1
   obtain ⟨hn3,ev3,hi3,he3⟩:=s2
   unfold rC at hi3
   simp only [simprocAttr,-Int.reduceNatCast',go_sem,hi3]
   have t2:=RAt.setS (bs:=bs) hn3 he3 (at4 HR) I0 rfl
   unfold rC at t2
   obtain ⟨hB,eB⟩:∃ x:VH,VH.mk ((1,some (VB.cells [VV.fsl (qzf cB bs) bs.length 1,VV.int IntKind.i64 4,ev3,VV.int IntKind.i64 HR.most,VV.int IntKind.i64 HR.used,VV.int IntKind.i64 HR.pts,I0.w,I0.h,I0.s,I0.vc,I0.vm] false))::h2.l) h2.next=x:=⟨_,rfl⟩
   rw [eB]
   have t2:RAt bs 1 (at4 HR) I0 hB:=by rw [←eB];exact t2
   have b2:qza hB.l 0=some (some (.cells [VV.int IntKind.i64 0,VV.int IntKind.i64 0,VV.int IntKind.i64 0,VV.nilS,VV.nilS] false)):=by rw [←eB];simp only [qzb];rw [if_neg q1];exact b2
   have n2:2≤hB.next:=by rw [←eB];show 2≤h2.next;omega
  case' neg =>
   rw [if_neg c2] at hHR
   have d2:¬(bs.length:Int) < 4:=by omega
   have z4:qzw (VV.int .i64 4)=some 4:=rfl
   have l4:4≤bs.length:=by omega
   have fl:=flatL_take cB_len 4 bs
   have bt:∀ x∈bs.take 4,x < 256:=fun x hx=>hb x (List.mem_of_mem_take hx)
   have bf:=bytes_flat (bs.take 4)
   have mi:=magic_iff bt
   have z5:List.drop (0*1) (qzf cB bs)=qzf cB bs:=rfl
   have z6:(4 - 0)*1=4:=rfl
   by_cases c3:bs.take 4=magicS
   case' pos =>
    rw [if_pos c3] at hHR
    have d3:(List.map UInt8.ofNat (List.take 4 bs) == [71,76,89,49])=true:=by rw [mi.mpr c3];rfl
    simp only [simprocAttr,-Int.reduceNatCast',go_sem,d1,d2,z4,l4,z5,z6,fl,bf,d3]
    obtain ⟨hB,eB⟩:∃ x:VH,VH.mk [(1,some (VB.cells [VV.fsl (qzf cB bs) bs.length 1,VV.int IntKind.i64 4,VV.nilI,VV.int IntKind.i64 0,VV.int IntKind.i64 0,VV.int IntKind.i64 0,VV.int IntKind.i64 0,VV.int IntKind.i64 0,VV.int IntKind.i64 0,VV.nilS,VV.nilS] false)),(1,some (VB.cells [VV.fsl (qzf cB bs) bs.length 1,VV.int IntKind.i64 0,VV.nilI,VV.int IntKind.i64 0,VV.int IntKind.i64 0,VV.int IntKind.i64 0,VV.int IntKind.i64 0,VV.int IntKind.i64 0,VV.int IntKind.i64 0,VV.nilS,VV.nilS] false)),(0,some (VB.cells [VV.int IntKind.i64 0,VV.int IntKind.i64 0,VV.int IntKind.i64 0,VV.nilS,VV.nilS] false))] 2=x:=⟨_,rfl⟩
    rw [eB]
    have t2:RAt bs 1 (at4 HR) I0 hB:=by rw [←eB,←hHR,hI0];exact ⟨by show 1 < 2;omega,.nilI,rfl,ErrOK.none⟩
    have b2:qza hB.l 0=some (some (.cells [VV.int IntKind.i64 0,VV.int IntKind.i64 0,VV.int IntKind.i64 0,VV.nilS,VV.nilS] false)):=by rw [←eB];rfl
    have n2:2≤hB.next:=by rw [←eB];exact Nat.le_refl _
   case' neg =>
    rw [if_neg c3] at hHR
    have d3:(List.map UInt8.ofNat (List.take 4 bs) == [71,76,89,49])=false:=by
     cases e:(List.map UInt8.ofNat (List.take 4 bs) == [71,76,89,49])
     ·rfl
     ·exact absurd (mi.mp (by simpa using e)) c3
    simp only [simprocAttr,-Int.reduceNatCast',go_sem,d1,d2,z4,l4,z5,z6,fl,bf,d3,g_ErrMagic,g7]
    rw [eHA]
    refine qzh (fails_run sA 0 7) ?_
    intro v h2 ⟨s2,fm2⟩
    rw [hHR] at s2
    have b2:=(fm2.2 0 (by omega) (by omega)).trans bA
    have n2:=fm2.1
    obtain ⟨hn3,ev3,hi3,he3⟩:=s2
    unfold rC at hi3
    simp only [simprocAttr,-Int.reduceNatCast',go_sem,hi3]
    have t2:=RAt.setS (bs:=bs) hn3 he3 (at4 HR) I0 rfl
    unfold rC at t2
    obtain ⟨hB,eB⟩:∃ x:VH,VH.mk ((1,some (VB.cells [VV.fsl (qzf cB bs) bs.length 1,VV.int IntKind.i64 4,ev3,VV.int IntKind.i64 HR.most,VV.int IntKind.i64 HR.used,VV.int IntKind.i64 HR.pts,I0.w,I0.h,I0.s,I0.vc,I0.vm] false))::h2.l) h2.next=x:=⟨_,rfl⟩
    rw [eB]
    have t2:RAt bs 1 (at4 HR) I0 hB:=by rw [←eB];exact t2
    have b2:qza hB.l 0=some (some (.cells [VV.int IntKind.i64 0,VV.int IntKind.i64 0,VV.int IntKind.i64 0,VV.nilS,VV.nilS] false)):=by rw [←eB];simp only [qzb];rw [if_neg q1];exact b2
    have n2:2≤hB.next:=by rw [←eB];show 2≤h2.next;omega
 all_goals
  obtain ⟨Wv,hW⟩:∃ x,wS bs=x:=⟨_,rfl⟩
  obtain ⟨Hv,hH⟩:∃ x,hS bs=x:=⟨_,rfl⟩
  obtain ⟨Sv,hS⟩:∃ x,sS bs=x:=⟨_,rfl⟩
  have hW':rangedS bs (at4 HR) 1 4096=Wv:=by rw [←hW,←hHR'];rfl
  have hH':rangedS bs Wv.2 1 4096=Hv:=by rw [←hH,←hW];rfl
  have hS':rangedS bs Hv.2 0 6=Sv:=by rw [←hS,←hH];rfl
  have pW:=ranged_pos bs (at4 HR) 1 4096 (by show (0:Int)≤4;omega) (by show (4:Int)≤100004;omega) hl hb
  have pH:=ranged_pos bs Wv.2 1 4096 (by rw [←hW'];exact pW.1) (by rw [←hW'];exact pW.2) hl hb
  have pS:=ranged_pos bs Hv.2 0 6 (by rw [←hH'];exact pH.1) (by rw [←hH'];exact pH.2) hl hb
  rw [hS'] at pS
  refine qzh (ranged_run hG hl hb t2 1 4096 (by omega) (by omega)) ?_
  rw [hW']
  intro v h3 ⟨e,s3,fm3⟩
  subst e
  have b3:=(fm3.2 0 (by omega) (by omega)).trans b2
  have n3:=fm3.1
  obtain ⟨hn4,ev4,hi4,he4⟩:=s3
  unfold rC at hi4
  rw [hI0] at hi4
  simp only [simprocAttr,-Int.reduceNatCast',go_sem,hi4]
  have t3:=RAt.setS (bs:=bs) hn4 he4 Wv.2 ⟨.int .i64 Wv.1,.int .i64 0,.int .i64 0,.nilS,.nilS⟩ rfl
  refine qzh (ranged_run hG hl hb t3 1 4096 (by omega) (by omega)) ?_
  rw [hH']
  intro v h4 ⟨e,s4,fm4⟩
  subst e
  have b4:=fm4.2 0 (by show 0 < h3.next;omega) (by omega)
  simp only [qzb] at b4
  rw [if_neg q1,b3] at b4
  have n4:=fm4.1
  simp only at n4
  obtain ⟨hn5,ev5,hi5,he5⟩:=s4
  unfold rC at hi5
  simp only [simprocAttr,-Int.reduceNatCast',go_sem,hi5]
  have t4:=RAt.setS (bs:=bs) hn5 he5 Hv.2 ⟨.int .i64 Wv.1,.int .i64 Hv.1,.int .i64 0,.nilS,.nilS⟩ rfl
  refine qzh (ranged_run hG hl hb t4 0 6 (by omega) (by omega)) ?_
  rw [hS']
  intro v h5 ⟨e,s5,fm5⟩
  subst e
  have b5:=fm5.2 0 (by show 0 < h4.next;omega) (by omega)
  simp only [qzb] at b5
  rw [if_neg q1,b4] at b5
  have n5:=fm5.1
  simp only at n5
  obtain ⟨hn6,ev6,hi6,he6⟩:=s5
  unfold rC at hi6
  simp only [simprocAttr,-Int.reduceNatCast',go_sem,hi6]
  have hic:icS bs=⟨Wv.1,Hv.1,Sv.1,[],[]⟩:=by unfold icS;rw [hW,hH,hS]
  refine call_deepL (greatest_ok Gl ⟨Wv.1,Hv.1,Sv.1,[],[]⟩) (shut_icon shut_nil shut_nil) rfl ?_
  have gm:=great_most ⟨Wv.1,Hv.1,Sv.1,[],[]⟩
  obtain ⟨gr,hgr⟩:∃ x,greatS ⟨Wv.1,Hv.1,Sv.1,[],[]⟩=x:=⟨_,rfl⟩
  rw [hgr] at gm ⊢
  have hM:mostR bs=withR Sv.2 gr:=by unfold mostR;rw [hic,hS,hgr]
  simp only [simprocAttr,-Int.reduceNatCast',go_sem,hi6,wpW_callV]
  have rW:=ranged_most bs (at4 HR) 1 4096
  have rH:=ranged_most bs Wv.2 1 4096
  have rS:=ranged_most bs Hv.2 0 6
  rw [hW'] at rW
  rw [hH'] at rH
  rw [hS'] at rS
  have hz:=head_zero bs
  rw [hHR'] at hz
  have zu:Sv.2.used=0:=by rw [rS.2.1,rH.2.1,rW.2.1];exact hz.1
  have zp:Sv.2.pts=0:=by rw [rS.2.2,rH.2.2,rW.2.2];exact hz.2
  have t6:RAt bs 1 (mostR bs) (withC ⟨.int .i64 Wv.1,.int .i64 Hv.1,.int .i64 Sv.1,.nilS,.nilS⟩ .nilS) ⟨(1,some (VB.cells (rC bs (withR Sv.2 gr) ev6 ⟨.int .i64 Wv.1,.int .i64 Hv.1,.int .i64 Sv.1,.nilS,.nilS⟩) false))::(1,some (VB.cells (rC bs Sv.2 ev6 ⟨.int .i64 Wv.1,.int .i64 Hv.1,.int .i64 Sv.1,.nilS,.nilS⟩) false))::h5.l,h5.next⟩:=by
   rw [hM]
   exact ⟨hn6,ev6,by simp only [qzb,if_true],he6.keep ⟨Nat.le_refl _,fun k k1 k2=>by simp only [qzb];rw [if_neg (Ne.symm k2),if_neg (Ne.symm k2)]⟩⟩
  obtain ⟨MR,hMR⟩:∃ x,mostR bs=x:=⟨_,rfl⟩
  have mu:MR.used=0:=by rw [←hMR,hM];exact zu
  have mp:MR.pts=0:=by rw [←hMR,hM];exact zp
  have mm:MR.most=gr:=by rw [←hMR,hM];rfl
  have mq:0≤MR.pos∧MR.pos≤100004:=by rw [←hMR,hM];exact pS
  refine qzh (colors_run hG hl hb 1 (mostR bs) ⟨.int .i64 Wv.1,.int .i64 Hv.1,.int .i64 Sv.1,.nilS,.nilS⟩ _ t6 (by rw [hMR];exact mq.1) (by rw [hMR];exact mq.2)) ?_
  intro v h7 ⟨jc,vc,s7,ac7,fm7⟩
  have b7:=fm7.2 0 (by show 0 < h5.next;omega) (by omega)
  simp only [qzb] at b7
  rw [if_neg q1,if_neg q1,b5] at b7
  have n7:=fm7.1
  simp only at n7 ac7
  have ck:(colsF bs).1.most=MR.most∧(colsF bs).1.used=MR.used∧(colsF bs).1.pts=MR.pts:=by
   have mk:=many_most bs MR 0 256
   have:=cols_keep bs (manyN bs MR 0 256) (manyR bs MR 0 256) []
   unfold colsF colsS
   rw [hMR]
   exact ⟨this.1.trans mk.1,this.2.1.trans mk.2.1,this.2.2.trans mk.2.2⟩
  have cl:(colsF bs).2.length≤256:=by
   have:=(cols_len bs (manyN bs MR 0 256) (manyR bs MR 0 256) []).2
   have mi:=many_in bs MR 0 256 (by omega)
   unfold colsF colsS
   rw [hMR]
   refine Nat.le_trans this ?_
   show 0+manyN bs MR 0 256≤256
   unfold manyN;omega
  have hCC:colsF bs=colsS bs (mostR bs):=rfl
  rw [←hCC] at s7 ac7
  obtain ⟨C,hC⟩:∃ x,colsF bs=x:=⟨_,rfl⟩
  rw [hC] at s7 ac7 ck cl
  obtain ⟨CR,CL⟩:=C
  simp only at s7 ac7 ck cl
  simp only [simprocAttr,-Int.reduceNatCast',go_sem]
  refine qzh (many_run hG hl hb s7 0 200 (by omega) (by omega) (by omega) (by omega)) ?_
  intro v h8 ⟨e,s8,fm8⟩
  subst e
  have b8:=(fm8.2 0 (by omega) (by omega)).trans b7
  have n8:=fm8.1
  have ac8:=acc_keep ac7 (by omega) fm8
  have mi:=many_in bs CR 0 200 (by omega)
  have mk:=many_most bs CR 0 200
  obtain ⟨N,hN⟩:∃ N:Nat,manyS bs CR 0 200=N:=⟨(manyS bs CR 0 200).toNat,by omega⟩
  have hN':manyN bs CR 0 200=N:=by unfold manyN;rw [hN];rfl
  rw [hN] at mi ⊢
  have hF:cmdsF bs=cmdsLp bs CL.length N (manyR bs CR 0 200) []:=by unfold cmdsF;rw [hC];simp only;rw [hN']
  have lv:=len_acc ac8
  simp only [simprocAttr,-Int.reduceNatCast',go_sem]
  refine cmds_loop hG hl hb 1 h8.next (by omega) (withC ⟨.int .i64 Wv.1,.int .i64 Hv.1,.int .i64 Sv.1,.nilS,.nilS⟩ vc) CL.length lv cl (cmdsF bs) h8 0 .nilS N (by omega) _ ?_ N 0 _ h8 0 .nilS [] _ (by omega) (by simp) hF s8 (Nat.le_refl _) DAcc.nil Kc.refl (by rw [mk.1,ck.1,mm];exact gm.1) (by rw [mk.1,ck.1,mm];exact gm.2) (by rw [mk.2.1,ck.2.1,mu];omega) (by rw [mk.2.1,ck.2.1,mu];omega) (by rw [mk.2.2,ck.2.2,mp];omega) (by rw [mk.2.2,ck.2.2,mp];omega) ?_ ?_ ?_ ?_ ?_ ?_
  rotate_left
  ·simp only [simprocAttr,-Int.reduceNatCast',go_sem]
  ·simp only [simprocAttr,-Int.reduceNatCast',go_sem]
  ·simp only [simprocAttr,-Int.reduceNatCast',go_sem]
  ·simp only [simprocAttr,-Int.reduceNatCast',go_sem]
  ·simp only [simprocAttr,-Int.reduceNatCast',go_sem]
  ·simp only [simprocAttr,-Int.reduceNatCast',go_sem];rfl
  intro T h9 jm vm M u4 u0 u2 s9 d9 eM k9 v0 v1
  have n9:=k9.1
  have b9:=(k9.2 0 (by omega) (by omega) (.inr rfl)).1.trans b8
  have ac9:qzm h5.next h9 jc cCl CL 4 vc:=ac8.ext n9 (fun x1 x2=>(k9.2 jc x2 (by omega) (.inr rfl)).1)
  have hE:endR bs=lastR bs.length CL.length (cmdsF bs).1:=by unfold endR;rw [hC]
  have s9':=s9
  obtain ⟨hnA,evA,hiA,heA⟩:=s9'
  unfold rC at hiA
  have hD:decS bs=if isN (endR bs).err=true then (⟨Wv.1,Hv.1,Sv.1,CL,M.map (·.1)⟩,.none) else (⟨0,0,0,[],[]⟩,(endR bs).err):=by unfold decS;rw [hW,hH,hS,hC,eM]
  rw [hD,hE]
  obtain ⟨QR,hQR⟩:∃ x,(cmdsF bs).1=x:=⟨_,rfl⟩
  rw [hQR] at s9 hiA heA v0 v1 ⊢
  have lv':=lv
  simp only [lenSlV] at lv'
  by_cases e1:QR.used < CL.length
  case' pos =>
   have e2:True:=trivial
   simp only [simprocAttr,-Int.reduceNatCast',go_sem,u4,u0,u2,hiA,lv',e1,g_ErrCanon,g9]
   refine qzh (fails_run s9 QR.pos 9) ?_
   intro v hZ ⟨sZ,fmZ⟩
   have hL:lastR bs.length CL.length QR=failS QR QR.pos 9:=if_pos e1
   rw [hL]
   have bZ:=(fmZ.2 0 (by omega) (by omega)).trans b9
   have acZ:=acc_keep ac9 (by omega) fmZ
   have dZ:=d9.keep fmZ.1 (fun k k1 k2=>fmZ.2 k k2 (by omega))
   have nZ:=fmZ.1
   obtain ⟨RZ,hRZ⟩:∃ x,failS QR QR.pos 9=x:=⟨_,rfl⟩
   rw [hRZ] at sZ ⊢
  case' neg =>
   by_cases e2:QR.pos < bs.length
   case' pos =>
    simp only [simprocAttr,-Int.reduceNatCast',go_sem,u4,u0,u2,hiA,lv',e1,e2,g_ErrTrail,g10]
    refine qzh (fails_run s9 QR.pos 10) ?_
    intro v hZ ⟨sZ,fmZ⟩
    have hL:lastR bs.length CL.length QR=failS QR QR.pos 10:=by unfold lastR;rw [if_neg e1,if_pos e2]
    rw [hL]
    have bZ:=(fmZ.2 0 (by omega) (by omega)).trans b9
    have acZ:=acc_keep ac9 (by omega) fmZ
    have dZ:=d9.keep fmZ.1 (fun k k1 k2=>fmZ.2 k k2 (by omega))
    have nZ:=fmZ.1
    obtain ⟨RZ,hRZ⟩:∃ x,failS QR QR.pos 10=x:=⟨_,rfl⟩
    rw [hRZ] at sZ ⊢
   case' neg =>
    have hL:lastR bs.length CL.length QR=QR:=by unfold lastR;rw [if_neg e1,if_neg e2]
    rw [hL]
    obtain ⟨hZ,ehZ⟩:∃ x,h9=x:=⟨_,rfl⟩
    have nZ:h9.next≤hZ.next:=by rw [ehZ];exact Nat.le_refl _
    obtain ⟨RZ,hRZ⟩:∃ x,QR=x:=⟨_,rfl⟩
    have sZ:=s9
    have bZ:=b9
    have acZ:=ac9
    have dZ:=d9
    rw [ehZ] at sZ bZ acZ dZ ⊢
    rw [hRZ] at sZ e1 e2 ⊢
  all_goals
   obtain ⟨hnB,evB,hiB,heB⟩:=sZ
   unfold rC at hiB
   have y0:¬(1:Nat)=0:=by omega
   have x0:=heB.er0 Gl
   have x1:=heB.er1 Gl
   cases ce:isN RZ.err
   ·rw [ce] at x0 x1
    simp only [simprocAttr,-Int.reduceNatCast',go_sem,u4,u0,u2,hiB,↓x0,↓x1,bZ,lv',e1,e2,y0]
    refine ⟨by simp;omega,?_⟩
    exact ends_shuts (qzq.tuple (qzn.append (shut_icon shut_nil shut_nil) (qzn.cons (err_shut (heB.put (b:=0) (x:=_) bZ (fun _ _ e=>by simp at e))) qzn.nil)))
   ·rw [ce] at x0 x1
    simp only [simprocAttr,-Int.reduceNatCast',go_sem,u4,u0,u2,hiB,↓x0,↓x1,bZ,lv',e1,e2,y0]
    have g0:∀ (x:Option VB) (k:Nat),k≠0→VH.get ⟨(0,x)::hZ.l,hZ.next⟩ k=hZ.get k:=fun x k k1=>by rw [qzt,qzt];simp only [qzb];rw [if_neg (Ne.symm k1)]
    have fin:∀ x:Option VB,qzq (VH.get ⟨(0,x)::hZ.l,hZ.next⟩) (.tuple [.agg [.int .i64 Wv.1,.int .i64 Hv.1,.int .i64 Sv.1,vc,vm],.nilI]) (.tuple [.agg (cIcon ⟨Wv.1,Hv.1,Sv.1,CL,M.map (·.1)⟩),ErrV.v .none]):=fun x =>
     qzq.tuple (qzn.append (shut_icon (qzq.acc acZ (fun b1 y hy=>by rw [g0 x jc (by omega)];exact hy) Ic.cCl_len (fun _ _=>qzn.closed rfl)) (dZ.dp mC_len cCmd (fun g y _ hs=>shut_mC g y hs) _ (fun k k1 _=>g0 x k (by omega)))) (qzn.cons (qzq.closed rfl) qzn.nil))
    first
     | exact ends_shuts (fin _)
     | exact ⟨by simp;omega,ends_shuts (fin _)⟩
end
end Go.VL.Dc
namespace Go.VL.Dc
open Go.FR Go.IR Go.VL Go.VL.Er Go.VL.Color Go.VL.Wind Go.VL.Ic Go.VL.Wire
noncomputable section
def InvP (n:Nat) (R:Rd):Prop:=(isN R.err=true→0≤R.pos∧R.pos≤n)∧(isN R.err=true∨∃ k p,R.err = .placed k p∧0≤p∧p≤n∧k < 13)
structure Go1 (n:Nat) (R R':Rd):Prop where
 keep:isN R.err=false→R'.err=R.err
 inv:InvP n R→InvP n R'
theorem Go1.refl {n:Nat} {R:Rd}:Go1 n R R:=⟨fun _=>rfl,id⟩
theorem Go1.trans {n:Nat} {R R1 R2:Rd} (a:Go1 n R R1) (b:Go1 n R1 R2):Go1 n R R2 :=
 ⟨fun h=>by rw [b.keep (by rw [a.keep h];exact h),a.keep h],fun h=>b.inv (a.inv h)⟩
theorem Go1.was {n:Nat} {R R1:Rd} (a:Go1 n R R1) (h:isN R1.err=true):isN R.err=true:=by
 cases c:isN R.err
 ·rw [a.keep c,c] at h;exact h
 ·rfl
theorem Go1.set {n:Nat} {R R1 R2:Rd} (a:Go1 n R R1) (h:R2.err=R1.err) (hp:R2.pos=R1.pos):Go1 n R R2 :=
 ⟨fun c=>by rw [h];exact a.keep c,fun c=>by have:=a.inv c;unfold InvP;rw [h,hp];exact this⟩
theorem Go1.fail {n:Nat} {R R1:Rd} (a:Go1 n R R1) (k:Nat) (hk:k < 13):Go1 n R (failS R1 R.pos k):=by
 unfold failS
 cases c:isN R1.err
 ·exact a
 ·have c0:=a.was c
  exact ⟨fun h=>(by rw [c0] at h;exact nomatch h),fun h=>⟨fun e=>(nomatch e),.inr ⟨k,R.pos,rfl,(h.1 c0).1,(h.1 c0).2,hk⟩⟩⟩
theorem num_go (bs:List Nat) (R:Rd):Go1 bs.length R (numS bs R).2:=by
 unfold numS
 cases c:isN R.err
 ·exact ⟨fun _=>rfl,id⟩
 ·refine ⟨fun h=>(by rw [c] at h;exact nomatch h),fun h => ?_⟩
  have hp:=h.1 c
  simp only [if_true]
  have key:isN (getS bs R.pos).e=true∧0≤(getS bs R.pos).k∧(getS bs R.pos).k≤bs.length∨isN (getS bs R.pos).e=false∧∃ k,(getS bs R.pos).e = .placed k R.pos∧k < 13:=by
   unfold getS
   split
   ·exact .inr ⟨rfl,_,rfl,by omega⟩
   ·split
    ·exact .inr ⟨rfl,_,rfl,by omega⟩
    ·exact .inr ⟨rfl,_,rfl,by omega⟩
    ·rename_i m j hj
     refine .inl ⟨rfl,?_⟩
     have gl:∀ (l:List Nat) (k acc m j:Nat),getL l k acc = .got m j→k≤j∧j≤k+l.length:=by
      intro l
      induction l with
      | nil=>intro k acc m j e;rw [getL] at e;exact nomatch e
      | cons x r ih =>
       intro k acc m j e
       rw [getL] at e
       split at e
       ·exact nomatch e
       ·split at e
        ·injection e with e1 e2
         rw [List.length_cons];omega
        ·have:=ih _ _ _ _ e
         rw [List.length_cons];omega
     have:=gl _ _ _ _ _ hj
     rw [List.length_drop] at this
     simp only
     omega
  rcases key with ⟨e,q⟩ | ⟨e,k,q,hk⟩
  ·refine ⟨fun _ => ?_,.inl e⟩
   simp only [e,if_true];exact q
  ·refine ⟨fun x=>(by simp only [e] at x;exact nomatch x),.inr ⟨k,R.pos,q,hp.1,hp.2,hk⟩⟩
theorem ranged_go (bs:List Nat) (R:Rd) (lo hi:Int):Go1 bs.length R (rangedS bs R lo hi).2:=by
 have g:=num_go bs R
 unfold rangedS;split
 ·exact g.fail 4 (by omega)
 ·exact g
theorem many_go (bs:List Nat) (R:Rd) (lo hi:Int):Go1 bs.length R (manyR bs R lo hi):=by
 have g:=num_go bs R
 unfold manyR;repeat' split
 ·exact g.fail 4 (by omega)
 ·exact g.fail 5 (by omega)
 ·exact g
theorem part_go (bs:List Nat) (R:Rd) (a:Int):Go1 bs.length R (partS bs R a).2:=by
 have g:=num_go bs R
 unfold partS;split
 ·exact g.fail 4 (by omega)
 ·exact g
theorem point_go (bs:List Nat) (R:Rd) (p:Pt):Go1 bs.length R (pointS bs R p).2:=(part_go bs R p.x).trans (part_go bs _ p.y)
theorem color_go (bs:List Nat) (R:Rd) (nc:Nat):Go1 bs.length R (colorS bs R nc).2:=by
 have g:=num_go bs R
 unfold colorS;repeat' split
 ·exact g
 ·exact g.fail 4 (by omega)
 ·exact g.fail 9 (by omega)
 ·exact g.set rfl rfl
theorem paint_go (bs:List Nat) (R:Rd) (k:Int) (nc:Nat):Go1 bs.length R (paintS bs R k nc).2:=by
 have c1:=color_go bs R nc
 have c2:=c1.trans (color_go bs _ nc)
 have p1:=c2.trans (point_go bs _ z0)
 have q1:=p1.trans (part_go bs _ 0)
 unfold paintS
 split
 ·exact c1
 ·split
  ·exact p1.trans (ranged_go bs _ _ _)
  ·simp only
   split
   ·exact q1.trans ((part_go bs _ 0).fail 4 (by omega))
   ·exact q1.trans (part_go bs _ 0)
theorem pts_go (bs:List Nat):∀ (n:Nat) (R:Rd) (a:Pt),Go1 bs.length R (ptsLp bs n R a).2
 | 0,R,a=>Go1.refl
 | n+1,R,a=>(point_go bs R a).trans (pts_go bs n _ _)
theorem segs_go (bs:List Nat) (kind:Nat):∀ (n:Nat) (R:Rd) (a:Pt) (S:List Seg),Go1 bs.length R (segLp bs kind n R a S).2.2
 | 0,R,a,S=>Go1.refl
 | n+1,R,a,S=>by
  rw [segLp]
  split
  ·exact pts_go bs kind R a
  ·exact (pts_go bs kind R a).trans (segs_go bs kind n _ _ _)
theorem runR_go (bs:List Nat) (R:Rd) (S:List Seg):Go1 bs.length R (runR bs R S):=by
 have g:=num_go bs R
 unfold runR;repeat' split
 ·exact g
 ·exact g.fail 4 (by omega)
 ·exact g.fail 9 (by omega)
 ·exact g.fail 5 (by omega)
 ·exact g
theorem run_go (bs:List Nat) (R:Rd) (S:List Seg) (a:Pt):Go1 bs.length R (runS bs R S a).2.2:=by
 have g:=runR_go bs R S
 unfold runS;split
 ·exact g
 ·obtain ⟨Q,hQ⟩:∃ Q,runR bs R S=Q:=⟨_,rfl⟩
  rw [hQ] at g ⊢
  refine Go1.trans (g.set ?_ ?_) (segs_go bs _ _ _ _ _)
  ·rfl
  ·rfl
theorem runs_go (bs:List Nat):∀ (n:Nat) (R:Rd) (a:Pt) (S:List Seg),Go1 bs.length R (runsLp bs n R a S).2.2
 | 0,R,a,S=>Go1.refl
 | n+1,R,a,S=>by
  rw [runsLp]
  split
  ·exact Go1.refl
  ·exact (run_go bs R S a).trans (runs_go bs n _ _ _)
theorem pathR1_go (bs:List Nat) (R:Rd) (f:Bool):Go1 bs.length R (pathR1 bs R f):=by
 have g:=num_go bs R
 unfold pathR1;repeat' split
 ·exact g
 ·exact g.fail 4 (by omega)
 ·exact g.fail 9 (by omega)
 ·exact g
theorem path_go (bs:List Nat) (R:Rd) (f:Bool):Go1 bs.length R (pathF bs R f).2.2 :=
 (((pathR1_go bs R f).trans (point_go bs _ z0)).set (R2:=incS _) rfl rfl).trans (runs_go bs _ _ _ _)
theorem paths_go (bs:List Nat) (f:Bool):∀ (n:Nat) (R:Rd) (P:List Path),Go1 bs.length R (pathsLp bs f n R P).2.1
 | 0,R,P=>Go1.refl
 | n+1,R,P=>by
  rw [pathsLp]
  split
  ·exact Go1.refl
  ·exact (path_go bs R f).trans (paths_go bs f n _ _)
theorem cmdR1_go (bs:List Nat) (R:Rd):Go1 bs.length R (cmdR1 bs R):=by
 have g:=num_go bs R
 unfold cmdR1;split
 ·exact g.fail 4 (by omega)
 ·exact g
theorem cmdW_go (bs:List Nat) (R:Rd):Go1 bs.length R (cmdW bs R).2:=by
 have g:=cmdR1_go bs R
 unfold cmdW;split
 ·exact g.trans (ranged_go bs _ _ _)
 ·exact g
theorem cmd_go (bs:List Nat) (R:Rd) (nc:Nat):Go1 bs.length R (cmdL bs R nc).2.1 :=
 (((cmdW_go bs R).trans (paint_go bs _ _ nc)).trans (many_go bs _ 1 200)).trans (paths_go bs _ _ _ _)
theorem cmds_go (bs:List Nat) (nc:Nat):∀ (n:Nat) (R:Rd) (M:List Cmd),Go1 bs.length R (cmdsLp bs nc n R M).1
 | 0,R,M=>Go1.refl
 | n+1,R,M=>by
  rw [cmdsLp]
  split
  ·exact Go1.refl
  ·exact (cmd_go bs R nc).trans (cmds_go bs nc n _ _)
theorem cols_go (bs:List Nat):∀ (n:Nat) (R:Rd) (L:List Cl),Go1 bs.length R (colLp bs n R L).1
 | 0,R,L=>Go1.refl
 | n+1,R,L=>by
  rw [colLp]
  split
  ·exact Go1.refl
  ·split
   ·exact Go1.refl.fail 6 (by omega)
   ·split
    ·exact Go1.refl.fail 9 (by omega)
    ·rename_i h1 h2 h3
     refine Go1.trans (R1:=⟨R.pos+4,R.err,R.most,R.used,R.pts⟩) ⟨fun _=>rfl,fun h=>⟨fun e => ?_,h.2⟩⟩ (cols_go bs n _ _)
     have:=h.1 e
     simp only at this ⊢
     omega
theorem colsS_go (bs:List Nat) (R:Rd):Go1 bs.length R (colsS bs R).1:=(many_go bs R 0 256).trans (cols_go bs _ _ _)
theorem last_go (n nc:Nat) (R:Rd):Go1 n R (lastR n nc R):=by
 unfold lastR;repeat' split
 ·exact Go1.refl.fail 9 (by omega)
 ·exact Go1.refl.fail 10 (by omega)
 ·exact Go1.refl
theorem w_go (bs:List Nat):Go1 bs.length (at4 (headR bs)) (wS bs).2:=ranged_go bs _ _ _
theorem most_go (bs:List Nat):Go1 bs.length (at4 (headR bs)) (mostR bs) :=
 (((w_go bs).trans (ranged_go bs _ _ _)).trans (ranged_go bs _ _ _)).set (R1:=(sS bs).2) rfl rfl
theorem colsF_go (bs:List Nat):Go1 bs.length (at4 (headR bs)) (colsF bs).1:=(most_go bs).trans (colsS_go bs _)
theorem cmdsF_go (bs:List Nat):Go1 bs.length (at4 (headR bs)) (cmdsF bs).1:=(colsF_go bs).trans ((many_go bs _ 0 200).trans (cmds_go bs _ _ _ _))
theorem end_go (bs:List Nat):Go1 bs.length (at4 (headR bs)) (endR bs):=(cmdsF_go bs).trans (last_go _ _ _)
theorem head_inv (bs:List Nat) (hl:bs.length≤60000):InvP bs.length (at4 (headR bs)):=by
 unfold headR at4
 rw [if_neg (by omega)]
 split
 ·exact ⟨fun e=>(nomatch e),.inr ⟨6,0,rfl,by omega,by omega,by omega⟩⟩
 ·split
  ·exact ⟨fun _=>⟨by simp only;omega,by simp only;omega⟩,.inl rfl⟩
  ·exact ⟨fun e=>(nomatch e),.inr ⟨7,0,rfl,by omega,by omega,by omega⟩⟩
end
end Go.VL.Dc
namespace Go.VL.En
open Go.FR Go.IR Go.VL Go.VL.Color Go.VL.Wind Go.VL.Ic Go.VL.Wire
noncomputable section
theorem near_point {p:Pt} (h:NearB p):(-9223372036854775808≤p.x∧p.x≤9223372036854775807)∧-9223372036854775808≤p.y∧p.y≤9223372036854775807:=by
 obtain ⟨⟨a,b⟩,c,d⟩:=h;exact ⟨⟨by omega,by omega⟩,by omega,by omega⟩
theorem zero_eq {p q:Pt} (h:zeroP p) (h':zeroP q):p=q:=by
 cases p;cases q
 simp only [zeroP] at h h'
 obtain ⟨rfl,rfl⟩:=h
 obtain ⟨rfl,rfl⟩:=h'
 rfl
end
end Go.VL.En
namespace Go.VL.Dc
open Go.FR Go.IR Go.VL Go.VL.Er Go.VL.Color Go.VL.Wind Go.VL.Ic Go.VL.Wire
noncomputable section
def Up (bs:List Nat) (R:Rd) (s:List Nat):Prop:=R.err = .none∧∃ p:Nat,R.pos=p∧p≤bs.length∧bs.drop p=s
theorem Up.isN {bs:List Nat} {R:Rd} {s:List Nat} (h:Up bs R s):isN R.err=true:=by rw [h.1];rfl
theorem Up.set {bs:List Nat} {R R':Rd} {s:List Nat} (h:Up bs R s) (e:R'.err=R.err) (e':R'.pos=R.pos):Up bs R' s:=by
 unfold Up;rw [e,e'];exact h
theorem num_up {bs:List Nat} {R:Rd} {m:Nat} {s:List Nat} (h:Up bs R (putS m++s)) (hm:m < 18446744073709551616):(numS bs R).1=m∧Up bs (numS bs R).2 s:=by
 obtain ⟨e,p,hp,hl,hd⟩:=h
 have g:getS bs R.pos=⟨m,(p:Int)+((putS m).length:Nat),.none⟩:=by
  unfold getS
  rw [if_neg (by omega),hp,Int.toNat_natCast,hd,get_put m s 0 0 (by omega) (by simpa using hm) (by omega)]
  simp
 have l2:=congrArg List.length hd
 rw [List.length_drop,List.length_append] at l2
 unfold numS
 rw [e,if_pos (show isN ErrV.none=true from rfl),g]
 refine ⟨rfl,rfl,p+(putS m).length,?_,by omega,?_⟩
 ·simp [isN]
 ·rw [←List.drop_drop,hd];exact List.drop_left
theorem ranged_up {bs:List Nat} {R:Rd} {m:Nat} {s:List Nat} (h:Up bs R (putS m++s)) (lo hi:Int) (h1:lo≤m) (h2:m≤hi) (hh:hi < 18446744073709551616):(rangedS bs R lo hi).1=m∧Up bs (rangedS bs R lo hi).2 s:=by
 obtain ⟨a,b⟩:=num_up h (by omega)
 unfold rangedS
 rw [a,if_neg (by omega)]
 exact ⟨rfl,b⟩
theorem many_up {bs:List Nat} {R:Rd} {m:Nat} {s:List Nat} (h:Up bs R (putS m++s)) (lo hi:Int) (h1:lo≤m) (h2:m≤hi) (hh:hi < 18446744073709551616):manyN bs R lo hi=m∧Up bs (manyR bs R lo hi) s:=by
 obtain ⟨a,b⟩:=num_up h (by omega)
 have eR:manyR bs R lo hi=(numS bs R).2:=by unfold manyR;rw [a,if_neg (by omega),if_neg (by omega)]
 unfold manyN manyS
 rw [eR,a,if_pos b.isN]
 exact ⟨by simp,b⟩
theorem zag_zig' {z:Int}:zagS (zigS z)=z:=by unfold zagS zigS;split<;>split<;>omega
theorem part_up {bs:List Nat} {R:Rd} {d a:Int} {s:List Nat} (h:Up bs R (putS (zigS d)++s)) (hm:R.most≤2097152) (ha:-R.most≤a∧a≤R.most) (hd:-R.most≤a+d∧a+d≤R.most):(partS bs R a).1=a+d∧Up bs (partS bs R a).2 s:=by
 obtain ⟨e,f⟩:=num_up h (zig_lt (by omega) (by omega))
 unfold partS
 rw [e,zag_zig',if_neg (by unfold partBad;omega)]
 exact ⟨rfl,f⟩
def NearR (m:Int) (p:Pt):Prop:=(-m≤p.x∧p.x≤m)∧-m≤p.y∧p.y≤m
theorem point_up {bs:List Nat} {R:Rd} {p a:Pt} {s:List Nat} (h:Up bs R (En.pointB (En.subPt p a)++s)) (hm:R.most≤2097152) (ha:NearR R.most a) (hp:NearR R.most p):(pointS bs R a).1=p∧Up bs (pointS bs R a).2 s:=by
 unfold En.pointB En.subPt at h
 rw [List.append_assoc] at h
 have m1:=part_most bs R a.x
 obtain ⟨e1,f1⟩:=part_up h hm ha.1 (by simp only;have:=hp.1;omega)
 obtain ⟨e2,f2⟩:=part_up f1 (by rw [m1.1];exact hm) (a:=a.y) (by rw [m1.1];exact ha.2) (by rw [m1.1];simp only;have:=hp.2;omega)
 unfold pointS
 refine ⟨?_,f2⟩
 rw [e1,e2]
 cases p;simp only [Pt.mk.injEq];omega
theorem point0_up {bs:List Nat} {R:Rd} {p:Pt} {s:List Nat} (h:Up bs R (En.pointB p++s)) (hm0:0≤R.most) (hm:R.most≤2097152) (hp:NearR R.most p):(pointS bs R z0).1=p∧Up bs (pointS bs R z0).2 s:=by
 refine point_up (p:=p) (a:=z0) ?_ hm ⟨⟨by show -R.most≤0;omega,by show 0≤R.most;omega⟩,by show -R.most≤0;omega,by show 0≤R.most;omega⟩ hp
 have:En.subPt p z0=p:=by unfold En.subPt z0;cases p;simp
 rw [this];exact h
theorem pts_up {bs:List Nat}:∀ (l:List Pt) {R:Rd} {a:Pt} {s:List Nat},Up bs R (En.deltaB a l++s)→R.most≤2097152→NearR R.most a→(∀ p∈l,NearR R.most p)→(ptsLp bs l.length R a).1=l∧Up bs (ptsLp bs l.length R a).2 s
 | [],R,a,s,h,_,_,_=>⟨rfl,h⟩
 | p::l,R,a,s,h,hm,ha,hl=>by
  rw [En.deltaB,List.append_assoc] at h
  have m1:=point_most bs R a
  obtain ⟨e1,f1⟩:=point_up h hm ha (hl p (.head _))
  rw [List.length_cons,ptsLp]
  rw [e1]
  obtain ⟨e2,f2⟩:=pts_up l f1 (by rw [m1.1];exact hm) (by rw [m1.1];exact hl p (.head _)) (fun q hq=>by rw [m1.1];exact hl q (.tail _ hq))
  exact ⟨by rw [e2],f2⟩
theorem far_near {p:Pt} {m:Int} (h:farS p m=false):NearR m p:=En.far_false h
theorem seg_near {s:Seg} {m:Int} (h:segS s m=none):∀ p∈En.ptsOf s,NearR m p:=by
 intro p hp
 unfold segS at h
 split at h
 ·exact nomatch h
 split at h
 ·exact nomatch h
 rename_i h2
 rw [Bool.not_eq_true,List.any_eq_false] at h2
 exact far_near (by simpa using h2 p hp)
theorem seg_mk {s:Seg} (h:En.SegR s):segMk s.kind (En.ptsOf s)=s:=by
 obtain ⟨k,p,q,r⟩:=s
 obtain ⟨⟨k1,k2,_⟩,z⟩:=h
 have ze:∀ p:Pt,zeroP p→p=z0:=fun p hp=>En.zero_eq hp ⟨rfl,rfl⟩
 simp only [En.ptsOf,segPts] at *
 have:k=1∨k=2∨k=3:=by omega
 rcases this with rfl | rfl | rfl
 ·simp at z
  rw [ze q z.1,ze r z.2];rfl
 ·simp at z
  rw [ze r z];rfl
 ·rfl
theorem last_nearR {m:Int}:∀ (l:List Pt) (a:Pt),NearR m a→(∀ p∈l,NearR m p)→NearR m (En.lastPt a l)
 | [],a,h,_=>h
 | q::l,a,_,h=>last_nearR l q (h q (.head _)) fun p hp=>h p (.tail _ hp)
theorem end_nearR {m:Int}:∀ (l:List Seg) (a:Pt),NearR m a→(∀ s∈l,∀ p∈En.ptsOf s,NearR m p)→NearR m (En.endPt a l)
 | [],a,h,_=>h
 | s::l,a,h,hl=>end_nearR l _ (last_nearR _ _ h (hl s (.head _))) fun t ht=>hl t (.tail _ ht)
theorem segs_up {bs:List Nat} (k:Nat):∀ (l:List Seg) {R:Rd} {a:Pt} {S:List Seg} {s:List Nat},Up bs R (En.segsB a l++s)→R.most≤2097152→NearR R.most a→(∀ x∈l,En.SegR x∧x.kind=k∧∀ p∈En.ptsOf x,NearR R.most p) →
  (segLp bs k l.length R a S).1=S++l∧(segLp bs k l.length R a S).2.1=En.endPt a l∧Up bs (segLp bs k l.length R a S).2.2 s
 | [],R,a,S,s,h,_,_,_=>⟨(List.append_nil S).symm,rfl,h⟩
 | x::l,R,a,S,s,h,hm,ha,hl=>by
  rw [En.segsB,List.append_assoc] at h
  obtain ⟨q1,q2,q3⟩:=hl x (.head _)
  have pl:(En.ptsOf x).length=k:=by rw [En.pts_len q1.1,q2];simp
  obtain ⟨e1,f1⟩:=pts_up (En.ptsOf x) h hm ha q3
  have m1:=pts_most bs (En.ptsOf x).length R a
  rw [pl] at e1 f1 m1
  rw [List.length_cons,segLp,if_neg (by rw [f1.isN];simp),e1,←q2,seg_mk q1]
  have g:=segs_up k l (S:=S++[x]) f1 (by rw [m1.1];exact hm) (by rw [m1.1];exact last_nearR _ _ ha q3) (fun y hy=>by rw [m1.1];exact hl y (.tail _ hy))
  exact ⟨by rw [g.1];simp,by rw [g.2.1];rfl,g.2.2⟩
end
end Go.VL.Dc
namespace Go.VL.Dc
open Go.FR Go.IR Go.VL Go.VL.Er Go.VL.Color Go.VL.Wind Go.VL.Ic Go.VL.Wire
noncomputable section
def sumK (l:List Seg):Int:=sumS' (fun s:Seg=>s.kind) l
theorem sumK_app:∀ (l m:List Seg),sumK (l++m)=sumK l+sumK m
 | [],m=>by simp [sumK,sumS']
 | x::l,m=>by
  have:=sumK_app l m
  simp only [sumK,List.cons_append,sumS'] at *
  omega
theorem sumK_nn {l:List Seg} (h:∀ x∈l,1≤x.kind):0≤sumK l:=by
 induction l with
 | nil=>simp [sumK,sumS']
 | cons x l ih =>
  have:=ih fun y hy=>h y (.tail _ hy)
  have:=h x (.head _)
  simp only [sumK,sumS'] at *
  omega
theorem sumK_all {k:Int}:∀ {l:List Seg},(∀ x∈l,x.kind=k)→sumK l=l.length*k
 | [],_=>by simp [sumK,sumS']
 | x::l,h=>by
  have:=sumK_all (l:=l) fun y hy=>h y (.tail _ hy)
  have e:=h x (.head _)
  simp only [sumK,sumS',List.length_cons] at *
  rw [this,e,Int.natCast_add,Int.add_mul];simp;omega
theorem segLp_most (bs:List Nat) (k:Nat):∀ (n:Nat) (R:Rd) (a:Pt) (S:List Seg),(segLp bs k n R a S).2.2.most=R.most∧(segLp bs k n R a S).2.2.used=R.used∧(segLp bs k n R a S).2.2.pts=R.pts
 | 0,R,a,S=>⟨rfl,rfl,rfl⟩
 | n+1,R,a,S=>by
  have m:=pts_most bs k R a
  rw [segLp]
  split
  ·exact ⟨m.1,m.2.1,m.2.2.1⟩
  ·have g:=segLp_most bs k n (ptsLp bs k R a).2 (En.lastPt a (ptsLp bs k R a).1) (S++[segMk k (ptsLp bs k R a).1])
   exact ⟨g.1.trans m.1,g.2.1.trans m.2.1,g.2.2.trans m.2.2.1⟩
theorem run_up {bs:List Nat} {k:Nat} {l S:List Seg} {R:Rd} {a:Pt} {s:List Nat} (h:Up bs R (putS (4*l.length+k)++(En.segsB a l++s))) (hk:1≤k) (hk3:k≤3) (hn:l≠[]) (hS:S.getLast?.map (·.kind)≠some (k:Int)) (h4:S.length+l.length≤400) (hp:R.pts+sumK l≤4000) (hm:R.most≤2097152) (ha:NearR R.most a) (hl:∀ x∈l,En.SegR x∧x.kind=k∧∀ p∈En.ptsOf x,NearR R.most p) :
  (runS bs R S a).1=S++l∧(runS bs R S a).2.1=En.endPt a l∧Up bs (runS bs R S a).2.2 s∧(runS bs R S a).2.2.pts=R.pts+sumK l∧(runS bs R S a).2.2.most=R.most∧(runS bs R S a).2.2.used=R.used:=by
 have ln:1≤l.length:=by rcases l with _ | ⟨x,l⟩<;>simp at hn ⊢
 obtain ⟨e1,f1⟩:=num_up h (by omega)
 have nm:=num_most bs R
 have k4:(4*l.length+k) % 4=k:=by omega
 have n4:(4*l.length+k) / 4=l.length:=by omega
 have sk:=sumK_all (l:=l) (fun x hx=>(hl x hx).2.1)
 have eR:runR bs R S=(numS bs R).2:=by
  unfold runR
  rw [e1,k4,n4,if_neg (by rw [f1.isN];simp),if_neg (by omega),if_neg hS,if_neg (by rw [sk] at hp;omega)]
 have e2:runS bs R S a=segLp bs k l.length ⟨(numS bs R).2.pos,(numS bs R).2.err,(numS bs R).2.most,(numS bs R).2.used,R.pts+(l.length:Int)*(k:Int)⟩ a S:=by
  unfold runS
  rw [eR,if_neg (by rw [f1.isN];simp),e1,k4,n4]
 rw [e2]
 have g:=segs_up k l (S:=S) (R:=⟨(numS bs R).2.pos,(numS bs R).2.err,(numS bs R).2.most,(numS bs R).2.used,R.pts+(l.length:Int)*(k:Int)⟩) (f1.set rfl rfl) (by simp only;rw [nm.1];exact hm) (by simp only;rw [nm.1];exact ha) (by simp only;rw [nm.1];exact hl)
 have sm:=segLp_most bs k l.length ⟨(numS bs R).2.pos,(numS bs R).2.err,(numS bs R).2.most,(numS bs R).2.used,R.pts+(l.length:Int)*(k:Int)⟩ a S
 exact ⟨g.1,g.2.1,g.2.2,by rw [sm.2.2,sk],by rw [sm.1];exact nm.1,by rw [sm.2.1];exact nm.2.1⟩
def Adj:Option Int→List En.Run→Prop
 | _,[]=>True
 | o,r::R=>o≠some r.1∧1≤r.2∧Adj (some r.1) R
theorem adj_good:∀ (R:List En.Run) (o:Option Int),(∀ r,R[0]?=some r→o≠some r.1)→En.GoodR R→Adj o R
 | [],_,_,_=>trivial
 | r::R,o,h0,h=>by
  refine ⟨h0 r rfl,h.1 r (.head _),adj_good R _ (fun r' hr' e => ?_) ⟨fun x hx=>h.1 x (.tail _ hx),fun i x y hx hy=>h.2 (i+1) x y (by simpa using hx) (by simpa using hy)⟩⟩
  exact h.2 0 r r' rfl (by simpa using hr') (Option.some.inj e)
theorem runs_up {bs:List Nat}:∀ (Rl:List En.Run) {l S:List Seg} {R:Rd} {a:Pt} {s:List Nat},Up bs R (En.runsB a Rl l++s)→l.map (·.kind)=En.expR Rl→Adj (S.getLast?.map (·.kind)) Rl→S.length+l.length≤400→R.pts+sumK l≤4000→R.most≤2097152→NearR R.most a→(∀ x∈l,En.SegR x∧∀ p∈En.ptsOf x,NearR R.most p) →
  (runsLp bs Rl.length R a S).1=S++l∧Up bs (runsLp bs Rl.length R a S).2.2 s∧(runsLp bs Rl.length R a S).2.2.pts=R.pts+sumK l
 | [],l,S,R,a,s,h,hx,_,_,_,_,_,_=>by
  obtain rfl:l=[]:=by simpa [En.expR] using hx
  exact ⟨(List.append_nil S).symm,h,by simp [sumK,sumS',runsLp]⟩
 | (k,n)::Rl,l,S,R,a,s,h,hx,had,h4,hp,hm,ha,hl=>by
  obtain ⟨a1,a2,a3⟩:=had
  simp only at a1 a2 a3
  rw [En.runsB,List.append_assoc,List.append_assoc] at h
  simp only at h
  simp only [En.expR,List.flatMap_cons] at hx
  have x1:=congrArg (List.take n) hx
  have x2:=congrArg (List.drop n) hx
  rw [←List.map_take] at x1
  rw [←List.map_drop] at x2
  have t1:(l.take n).map (·.kind)=List.replicate n k:=by rw [x1];simp
  have t2:(l.drop n).map (·.kind)=En.expR Rl:=by rw [x2];simp [En.expR]
  have tl:(l.take n).length=n:=by have:=congrArg List.length t1;simpa using this
  have tk:∀ x∈l.take n,x.kind=k:=fun x hx=>by
   have:x.kind∈(l.take n).map (·.kind):=List.mem_map.mpr ⟨x,hx,rfl⟩
   rw [t1] at this
   exact (List.mem_replicate.mp this).2
  have tne:l.take n≠[]:=fun e=>by rw [e] at tl;simp at tl;omega
  obtain ⟨x0,hx0⟩:∃ x,x∈l.take n:=List.exists_mem_of_ne_nil _ tne
  have k0:=tk x0 hx0
  have kk:=(hl x0 (List.mem_of_mem_take hx0)).1.1
  obtain ⟨kn,hkn⟩:∃ kn:Nat,k=kn:=⟨k.toNat,by have:=kk.1;omega⟩
  have lsum:sumK l=sumK (l.take n)+sumK (l.drop n):=by rw [←sumK_app,List.take_append_drop]
  have ll:l.length=n+(l.drop n).length:=by rw [List.length_drop];have:=congrArg List.length (List.take_append_drop n l);rw [List.length_append,tl,List.length_drop] at this;omega
  have nn:=sumK_nn (l:=l.drop n) (fun x hx=>(hl x (List.mem_of_mem_drop hx)).1.1.1)
  subst hkn
  have g:=run_up (k:=kn) (l:=l.take n) (S:=S) (R:=R) (a:=a) (s:=En.runsB (En.endPt a (l.take n)) Rl (l.drop n)++s) (by rw [tl];simpa using h) (by have:=kk.1;omega) (by have:=kk.2.1;omega) tne a1 (by omega) (by omega) hm ha (fun x hx=>⟨(hl x (List.mem_of_mem_take hx)).1,tk x hx,(hl x (List.mem_of_mem_take hx)).2⟩)
  rw [List.length_cons,runsLp,if_neg (by rw [h.isN];simp)]
  obtain ⟨g1,g2,g3,g4,g5,g6⟩:=g
  rw [g1,g2]
  have hla:((S++l.take n).getLast?.map (·.kind))=some (kn:Int):=by
   obtain ⟨y,hy⟩:∃ y,(l.take n).getLast?=some y:=by
    cases q:(l.take n).getLast? with
    | none=>exact absurd (List.getLast?_eq_none_iff.mp q) tne
    | some y=>exact ⟨y,rfl⟩
   rw [List.getLast?_append,hy,Option.some_or,Option.map_some,tk y (List.mem_of_getLast? hy)]
  have q:=runs_up Rl (l:=l.drop n) (S:=S++l.take n) (s:=s) g3 t2 (by rw [hla];exact a3) (by rw [List.length_append,tl];omega) (by rw [g4];omega) (by rw [g5];exact hm) (by rw [g5];exact end_nearR _ _ ha (fun x hx=>(hl x (List.mem_of_mem_take hx)).2)) (fun x hx=>by rw [g5];exact hl x (List.mem_of_mem_drop hx))
  exact ⟨by rw [q.1,List.append_assoc,List.take_append_drop],q.2.1,by rw [q.2.2,g4];omega⟩
theorem path_up {bs:List Nat} {p:Path} {R:Rd} {s:List Nat} {fill:Bool} (h:Up bs R (En.pathB p++s)) (m0:0≤R.most) (hm:R.most≤1048576) (hc:Ic.pathS p fill R.most=none) (hp:R.pts+(1+sumK p.segs)≤4000) :
  pathS' bs R fill=p∧Up bs (pathF bs R fill).2.2 s∧(pathF bs R fill).2.2.pts=R.pts+(1+sumK p.segs):=by
 obtain ⟨c1,c2,c3,c4,c5⟩:=pathS_none hc
 have pr:=En.path_r hm hc
 unfold En.pathB at h
 rw [List.append_assoc,List.append_assoc] at h
 have rl:=En.runs_len_le p.segs
 obtain ⟨e1,f1⟩:=num_up h (by split<;>omega)
 have nm:=num_most bs R
 have rne:=En.runs_ne c2
 have rn:1≤(En.runsS p.segs).length:=by rcases q:En.runsS p.segs with _ | ⟨x,l⟩<;>simp [q] at rne ⊢
 have d2:(numS bs R).1 / 2=(En.runsS p.segs).length:=by rw [e1];split<;>omega
 have m2:(numS bs R).1 % 2=if p.closed then 1 else 0:=by rw [e1];split<;>omega
 have eR:pathR1 bs R fill=(numS bs R).2:=by
  unfold pathR1
  rw [if_neg (by rw [f1.isN];simp),if_neg (by omega),if_neg]
  rintro ⟨x,y⟩
  rw [m2] at y
  cases hcl:p.closed
  ·rw [hcl] at y;simp at y
  ·rw [hcl,x] at c4;simp at c4
 obtain ⟨e2,f2⟩:=point0_up (p:=p.start) f1 (by rw [nm.1];exact m0) (by rw [nm.1];omega) (by rw [nm.1];exact far_near c3)
 have pm:=point_most bs (numS bs R).2 z0
 have q:=runs_up (En.runsS p.segs) (l:=p.segs) (S:=[]) (R:=incS (pointS bs (numS bs R).2 z0).2) (a:=p.start) (s:=s) (f2.set rfl rfl) (En.exp_runs _).symm (adj_good _ _ (fun r _ e=>by simp at e) (En.good_runs _)) (by simp;omega) (by show (pointS bs (numS bs R).2 z0).2.pts+1+_≤_;rw [pm.2.2,nm.2.2];omega) (by show (pointS bs (numS bs R).2 z0).2.most≤_;rw [pm.1,nm.1];omega) (by show NearR (pointS bs (numS bs R).2 z0).2.most _;rw [pm.1,nm.1];exact far_near c3) (fun x hx=>⟨pr.r x hx,by show ∀ y∈En.ptsOf x,NearR (pointS bs (numS bs R).2 z0).2.most y;rw [pm.1,nm.1];exact seg_near (c5 x hx)⟩)
 have eF:pathF bs R fill=runsLp bs (En.runsS p.segs).length (incS (pointS bs (numS bs R).2 z0).2) p.start []:=by
  unfold pathF;rw [eR,d2,e2]
 unfold pathS'
 rw [eF,eR,e2,q.1,m2]
 refine ⟨?_,q.2.1,?_⟩
 ·cases p;simp only [List.nil_append,Path.mk.injEq,true_and]
  split<;>simp_all
 ·rw [q.2.2];show (pointS bs (numS bs R).2 z0).2.pts+1+_=_;rw [pm.2.2,nm.2.2];omega
theorem paths_up {bs:List Nat} {fill:Bool}:∀ (l:List Path) {R:Rd} {P:List Path} {s:List Nat},Up bs R (l.flatMap En.pathB++s)→0≤R.most→R.most≤1048576→(∀ p∈l,Ic.pathS p fill R.most=none)→0≤R.pts→R.pts+sumS' En.ptsP l≤4000 →
  (pathsLp bs fill l.length R P).1=P++l∧Up bs (pathsLp bs fill l.length R P).2.1 s∧(pathsLp bs fill l.length R P).2.1.pts=R.pts+sumS' En.ptsP l∧(pathsLp bs fill l.length R P).2.2=true
 | [],R,P,s,h,_,_,_,_,_=>⟨(List.append_nil P).symm,h,by simp [pathsLp,sumS'],rfl⟩
 | p::l,R,P,s,h,m0,hm,hc,p0,hp=>by
  rw [List.flatMap_cons,List.append_assoc] at h
  have pn:∀ x∈l,0≤En.ptsP x:=fun x hx=>by
   have:=sumK_nn (l:=x.segs) (fun y hy=>((En.path_r hm (hc x (.tail _ hx))).r y hy).1.1)
   show 0≤1+sumK x.segs;omega
  have sn:∀ {l:List Path},(∀ x∈l,0≤En.ptsP x)→0≤sumS' En.ptsP l:=by
   intro l
   induction l with
   | nil=>intro _;simp [sumS']
   | cons x l ih =>
    intro h
    have:=ih fun y hy=>h y (.tail _ hy)
    have:=h x (.head _)
    simp only [sumS'];omega
  have ss:=sn pn
  have sp:sumS' En.ptsP (p::l)=(1+sumK p.segs)+sumS' En.ptsP l:=rfl
  obtain ⟨g1,g2,g3⟩:=path_up (fill:=fill) h m0 hm (hc p (.head _)) (by omega)
  have pin:=path_inv bs R fill m0 (by omega) p0
  rw [List.length_cons,pathsLp,if_neg (by rw [h.isN];simp),g1]
  obtain ⟨q1,q2,q3,q4⟩:=paths_up (fill:=fill) l (P:=P++[p]) g2 (by rw [pin.1];exact m0) (by rw [pin.1];exact hm) (fun x hx=>by rw [pin.1];exact hc x (.tail _ hx)) pin.2.2.1 (by rw [g3];omega)
  exact ⟨by rw [q1];simp,q2,by rw [q3,g3,sp];omega,q4⟩
end
end Go.VL.Dc
