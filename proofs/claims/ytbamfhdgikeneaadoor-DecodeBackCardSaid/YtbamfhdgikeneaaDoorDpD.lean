import Derived.Test.YtbamfhdgikeneaaDoorDcK
set_option linter.unusedSimpArgs false
set_option linter.unusedVariables false
namespace Go.VL.Dc
open Go.FR Go.IR Go.VL Go.VL.Er Go.VL.Color Go.VL.Wind Go.VL.Ic Go.VL.Wire
noncomputable section
theorem color_up {bs:List Nat} {R:Rd} {m nc:Nat} {s:List Nat} (h:Up bs R (putS m++s)) (hm:m < nc) (hn:nc≤256) (hu:(m:Int)≤R.used):(colorS bs R nc).1=m∧Up bs (colorS bs R nc).2 s∧(colorS bs R nc).2.used=(if (m:Int)=R.used then R.used+1 else R.used):=by
 obtain ⟨e,f⟩:=num_up h (by omega)
 unfold colorS
 rw [if_neg (by rw [f.isN];simp),e,if_neg (by omega),if_neg (by omega)]
 refine ⟨rfl,f.set rfl rfl,?_⟩
 simp only
 split<;>omega
theorem next_two {u u' a b:Int} (h:nextUse u [a,b]=some u'):a≤u∧b≤(if a=u then u+1 else u)∧u'=(if b=(if a=u then u+1 else u) then (if a=u then u+1 else u)+1 else (if a=u then u+1 else u)):=by
 by_cases q1:a > u
 ·simp only [nextUse,if_pos q1] at h;exact nomatch h
 ·simp only [nextUse,if_neg q1] at h
  by_cases q2:b > (if a=u then u+1 else u)
  ·rw [if_pos q2] at h;exact nomatch h
  ·rw [if_neg q2] at h
   exact ⟨by omega,by omega,(Option.some.inj h).symm⟩
theorem next_one {u u' a:Int} (h:nextUse u [a]=some u'):a≤u∧u'=(if a=u then u+1 else u):=by
 simp only [nextUse] at h
 split at h
 ·exact nomatch h
 ·exact ⟨by omega,(Option.some.inj h).symm⟩
theorem paint_up {bs:List Nat} {R:Rd} {p:Paint} {nc:Nat} {u':Int} {s:List Nat} (h:Up bs R (En.paintB p++s)) (hn:nc≤256) (m0:0≤R.most) (hm:R.most≤1048576) (hc:Ic.paintS p nc R.most=none) (hu:nextUse R.used (if p.kind=0 then [p.a] else [p.a,p.b])=some u') :
  (paintS bs R p.kind nc).1=p∧Up bs (paintS bs R p.kind nc).2 s∧(paintS bs R p.kind nc).2.used=u':=by
 unfold Ic.paintS at hc
 split at hc
 ·exact nomatch hc
 rename_i c1
 simp only [En.inS_false,not_or,Decidable.not_not,not_and] at c1
 obtain ⟨ck,ca,cb⟩:=c1
 obtain ⟨ma,hma⟩:∃ m:Nat,p.a=m:=⟨p.a.toNat,by omega⟩
 have ta:p.a.toNat=ma:=by omega
 unfold En.paintB at h
 rw [ta] at h
 unfold paintS
 by_cases k0:p.kind=0
 ·rw [if_pos k0] at hc hu h ⊢
  split at hc
  ·exact nomatch hc
  rename_i c2
  simp only [not_or,Decidable.not_not,ne_eq] at c2
  obtain ⟨b0,z1,z2⟩:=c2
  obtain ⟨n1,n2⟩:=next_one hu
  rw [List.append_nil] at h
  obtain ⟨e1,f1,g1⟩:=color_up h (by omega) hn (by omega)
  refine ⟨?_,f1,by rw [g1,n2,hma]⟩
  rw [e1]
  have y1:p.p=z0:=En.zero_eq z1 ⟨rfl,rfl⟩
  have y2:p.q=z0:=En.zero_eq z2 ⟨rfl,rfl⟩
  cases p
  simp only at *
  subst b0 y1 y2 hma
  rfl
 rw [if_neg k0] at hc hu h ⊢
 have cb':=cb k0
 obtain ⟨mb,hmb⟩:∃ m:Nat,p.b=m:=⟨p.b.toNat,by omega⟩
 have tb:p.b.toNat=mb:=by omega
 rw [tb] at h
 obtain ⟨n1,n2,n3⟩:=next_two hu
 simp only [List.append_assoc] at h
 obtain ⟨e1,f1,g1⟩:=color_up h (by omega) hn (by omega)
 have m1:=color_most bs R nc
 rw [←hma] at g1
 obtain ⟨e2,f2,g2⟩:=color_up f1 (by omega) hn (by rw [g1];omega)
 have m2:=color_most bs (colorS bs R nc).2 nc
 rw [g1,←hmb,←n3] at g2
 split at hc
 ·exact nomatch hc
 rename_i c3
 have np:=far_near (p:=p.p) (by simpa using c3)
 obtain ⟨e3,f3⟩:=point0_up f2 (by rw [m2.1,m1.1];exact m0) (by rw [m2.1,m1.1];omega) (by rw [m2.1,m1.1];exact np)
 have m3:=point_most bs (colorS bs (colorS bs R nc).2 nc).2 z0
 have mm:(pointS bs (colorS bs (colorS bs R nc).2 nc).2 z0).2.most=R.most:=m3.1.trans (m2.1.trans m1.1)
 have mu:(pointS bs (colorS bs (colorS bs R nc).2 nc).2 z0).2.used=u':=m3.2.1.trans g2
 rw [e1,e2,e3]
 obtain ⟨Q,hQ⟩:∃ Q,(pointS bs (colorS bs (colorS bs R nc).2 nc).2 z0).2=Q:=⟨_,rfl⟩
 rw [hQ] at f3 mm mu ⊢
 by_cases k1:p.kind=1
 ·rw [if_pos k1] at hc f3
  rw [if_neg (by omega)]
  split at hc
  ·exact nomatch hc
  rename_i c4
  simp only [not_or,Bool.not_eq_true] at c4
  have nq:=far_near c4.1
  unfold En.pointB at f3
  rw [List.append_assoc] at f3
  obtain ⟨e4,f4⟩:=part_up (a:=0) f3 (by omega) (by omega) (by rw [mm];have:=nq.1;omega)
  have m4:=part_most bs Q 0
  obtain ⟨e5,f5⟩:=part_up (a:=0) f4 (by rw [m4.1];omega) (by rw [m4.1];omega) (by rw [m4.1,mm];have:=nq.2;omega)
  have m5:=part_most bs (partS bs Q 0).2 0
  rw [e4,e5]
  have pe:¬p.p=⟨0+p.q.x,0+p.q.y⟩:=fun e=>c4.2 ⟨by rw [e];simp,by rw [e];simp⟩
  rw [if_neg pe]
  refine ⟨?_,f5,by rw [m5.2.1,m4.2.1];exact mu⟩
  cases p;simp only at *;subst hma hmb;simp
 ·rw [if_neg k1] at hc f3
  rw [if_pos (by omega)]
  split at hc
  ·exact nomatch hc
  rename_i c4
  rw [Bool.not_eq_false,En.inS_true] at c4
  split at hc
  ·exact nomatch hc
  rename_i c5
  simp only [ne_eq,Decidable.not_not] at c5
  obtain ⟨e4,f4⟩:=ranged_up f3 1 Q.most (by omega) (by rw [mm];omega) (by omega)
  have m4:=ranged_most bs Q 1 Q.most
  rw [e4]
  refine ⟨?_,f4,by rw [m4.2.1];exact mu⟩
  obtain ⟨k,a,b,pp,⟨qx,qy⟩⟩:=p
  simp only at *;subst hma hmb c5
  rw [show ((qx.toNat:Nat):Int)=qx by omega]
theorem cmd_up {bs:List Nat} {R:Rd} {c:Cmd} {nc:Nat} {u':Int} {s:List Nat} (h:Up bs R (En.cmdB c++s)) (hn:nc≤256) (m0:0≤R.most) (hm:R.most≤1048576) (hc:cmdS c nc R.most=none) (hu:nextUse R.used (usesOf c)=some u') (p0:0≤R.pts) (hp:R.pts+sumS' En.ptsP c.paths≤4000) :
  (cmdL bs R nc).2.2=true∧cmdS' bs R nc=c∧Up bs (cmdL bs R nc).2.1 s∧(cmdL bs R nc).2.1.used=u'∧(cmdL bs R nc).2.1.pts=R.pts+sumS' En.ptsP c.paths:=by
 obtain ⟨c1,c2,c3,c4,c5⟩:=cmdS_none hc
 have cr:=En.cmd_r (by omega) hm hc
 have hk:=cr.k
 have pk:=cr.p.k
 unfold En.cmdB at h
 simp only [List.append_assoc] at h
 obtain ⟨e1,f1⟩:=num_up h (by omega)
 have nm:=num_most bs R
 obtain ⟨v,hv⟩:∃ v,(c.kind - 1+2*c.rule+4*c.paint.kind).toNat=v:=⟨_,rfl⟩
 rw [hv] at e1
 have v12:v < 12:=by omega
 have v2:(v % 2:Nat)=c.kind - 1:=by omega
 have vr:((v / 2 % 2:Nat):Int)=c.rule:=by omega
 have v4:((v / 4:Nat):Int)=c.paint.kind:=by omega
 have v3:v % 4≠3:=by omega
 have eR1:cmdR1 bs R=(numS bs R).2:=by unfold cmdR1;rw [e1,if_neg (by omega)]
 obtain ⟨e2,f2,mW⟩:(cmdW bs R).1=c.width∧Up bs (cmdW bs R).2 (En.paintB c.paint++(putS c.paths.length++(c.paths.flatMap En.pathB++s)))∧((cmdW bs R).2.most=R.most∧(cmdW bs R).2.used=R.used∧(cmdW bs R).2.pts=R.pts):=by
  refine ⟨?_,?_,cmdW_most bs R⟩
  all_goals
   unfold cmdW
   rw [e1,eR1]
   by_cases k2:c.kind=2
   ·rw [if_pos k2] at f1
    rw [if_pos (by omega)]
    unfold headS at c1
    rw [if_neg (by omega)] at c1
    split at c1
    ·rename_i q
     have q3:=En.inS_true.mp q.2.2
     have:=ranged_up f1 1 (numS bs R).2.most (by omega) (by rw [nm.1];omega) (by rw [nm.1];omega)
     first
      | exact this.2
      | (rw [this.1];omega)
    ·exact nomatch c1
   ·rw [if_neg k2,List.nil_append] at f1
    rw [if_neg (by omega)]
    first
     | exact f1
     | (simp only;omega)
 obtain ⟨e3,f3,g3⟩:=paint_up (R:=(cmdW bs R).2) f2 hn (by rw [mW.1];exact m0) (by rw [mW.1];exact hm) (by rw [mW.1];exact c2) (by rw [mW.2.1];exact hu)
 have eP:cmdP bs R nc=paintS bs (cmdW bs R).2 c.paint.kind nc:=by unfold cmdP;rw [e1,v4]
 have pin:=paint_inv bs (cmdW bs R).2 c.paint.kind nc
 rw [←eP] at e3 f3 g3
 have pm:(cmdP bs R nc).2.most=R.most∧(cmdP bs R nc).2.pts=R.pts:=by
  rw [eP]
  have key:∀ (Q:Rd) (k:Int),(paintS bs Q k nc).2.most=Q.most∧(paintS bs Q k nc).2.pts=Q.pts:=fun Q k=>by
   have c1:=color_most bs Q nc
   have c2:=color_most bs (colorS bs Q nc).2 nc
   have p1:=point_most bs (colorS bs (colorS bs Q nc).2 nc).2 z0
   have r1:=ranged_most bs (pointS bs (colorS bs (colorS bs Q nc).2 nc).2 z0).2 1 (pointS bs (colorS bs (colorS bs Q nc).2 nc).2 z0).2.most
   have x1:=part_most bs (pointS bs (colorS bs (colorS bs Q nc).2 nc).2 z0).2 0
   have y1:=part_most bs (partS bs (pointS bs (colorS bs (colorS bs Q nc).2 nc).2 z0).2 0).2 0
   have f:=fail_most (partS bs (partS bs (pointS bs (colorS bs (colorS bs Q nc).2 nc).2 z0).2 0).2 0).2 (partS bs (pointS bs (colorS bs (colorS bs Q nc).2 nc).2 z0).2 0).2.pos 4
   unfold paintS
   split
   ·exact c1
   ·split
    ·exact ⟨by rw [r1.1,p1.1,c2.1,c1.1],by rw [r1.2.2,p1.2.2,c2.2,c1.2]⟩
    ·simp only
     split
     ·exact ⟨by rw [f.1,y1.1,x1.1,p1.1,c2.1,c1.1],by rw [f.2.2.1,y1.2.2,x1.2.2,p1.2.2,c2.2,c1.2]⟩
     ·exact ⟨by rw [y1.1,x1.1,p1.1,c2.1,c1.1],by rw [y1.2.2,x1.2.2,p1.2.2,c2.2,c1.2]⟩
  have:=key (cmdW bs R).2 c.paint.kind
  exact ⟨this.1.trans mW.1,this.2.trans mW.2.2⟩
 have ln:1≤c.paths.length:=by rcases q:c.paths with _ | ⟨x,l⟩<;>simp [q] at c3 ⊢
 obtain ⟨e4,f4⟩:=many_up f3 1 200 (by omega) (by omega) (by omega)
 have mm:=many_most bs (cmdP bs R nc).2 1 200
 have hf:decide (v % 2=0)=decide (c.kind=1):=by by_cases q:c.kind=1<;>simp [q]<;>omega
 obtain ⟨q1,q2,q3,q4⟩:=paths_up (fill:=decide (c.kind=1)) c.paths (P:=[]) f4 (by rw [mm.1,pm.1];exact m0) (by rw [mm.1,pm.1];exact hm) (fun x hx=>by rw [mm.1,pm.1];exact c5 x hx) (by rw [mm.2.2,pm.2];exact p0) (by rw [mm.2.2,pm.2];exact hp)
 have eL:cmdL bs R nc=pathsLp bs (decide (c.kind=1)) c.paths.length (manyR bs (cmdP bs R nc).2 1 200) []:=by
  unfold cmdL cmdN
  rw [e1,hf,e4]
 have pi:=pathsLp_inv bs (decide (c.kind=1)) c.paths.length (manyR bs (cmdP bs R nc).2 1 200) [] (by rw [mm.1,pm.1];exact m0) (by rw [mm.1,pm.1];omega) (by rw [mm.2.2,pm.2];exact p0)
 unfold cmdS'
 rw [eL,e1,e2,e3,q1]
 refine ⟨q4,?_,q2,by rw [pi.2.1,mm.2.1];exact g3,by rw [q3,mm.2.2,pm.2]⟩
 cases c
 simp only [List.nil_append,Cmd.mk.injEq,and_true] at *
 omega
theorem cmds_up {bs:List Nat} {nc:Nat} (hn:nc≤256):∀ (l:List Cmd) {R:Rd} {M:List Cmd} {u':Int} {s:List Nat},Up bs R (l.flatMap En.cmdB++s)→0≤R.most→R.most≤1048576→(∀ c∈l,cmdS c nc R.most=none)→useAll R.used l=some u'→0≤R.used→R.used≤nc→0≤R.pts→R.pts+sumS' (fun c:Cmd=>sumS' En.ptsP c.paths) l≤4000 →
  (cmdsLp bs nc l.length R M).2=M++l∧Up bs (cmdsLp bs nc l.length R M).1 s∧(cmdsLp bs nc l.length R M).1.used=u'
 | [],R,M,u',s,h,_,_,_,hu,_,_,_,_=>⟨(List.append_nil M).symm,h,Option.some.inj hu⟩
 | c::l,R,M,u',s,h,m0,hm,hc,hu,u0,u1,p0,hp=>by
  rw [List.flatMap_cons,List.append_assoc] at h
  rw [useAll] at hu
  cases hv:nextUse R.used (usesOf c) with
  | none=>rw [hv] at hu;exact nomatch hu
  | some v =>
   rw [hv] at hu
   have nnp:∀ (l:List Path),(∀ p∈l,En.PathR p)→0≤sumS' En.ptsP l:=by
    intro l
    induction l with
    | nil=>intro _;simp [sumS']
    | cons x l ih =>
     intro h
     have:=ih fun y hy=>h y (.tail _ hy)
     have:=sumK_nn (l:=x.segs) (fun y hy=>((h x (.head _)).r y hy).1.1)
     have e:En.ptsP x=1+sumK x.segs:=rfl
     simp only [sumS',e];omega
   have nn:∀ (l:List Cmd),(∀ c∈l,cmdS c nc R.most=none)→0≤sumS' (fun c:Cmd=>sumS' En.ptsP c.paths) l:=by
    intro l
    induction l with
    | nil=>intro _;simp [sumS']
    | cons x l ih =>
     intro h
     have:=ih fun y hy=>h y (.tail _ hy)
     have:=nnp x.paths (En.cmd_r (by omega) hm (h x (.head _))).r
     simp only [sumS'];omega
   have n1:=nn l fun x hx=>hc x (.tail _ hx)
   have n2:=nnp c.paths (En.cmd_r (by omega) hm (hc c (.head _))).r
   simp only [sumS'] at hp
   obtain ⟨g1,g2,g3,g4,g5⟩:=cmd_up h hn m0 hm (hc c (.head _)) hv p0 (by omega)
   have inv:=cmd_inv bs R nc m0 (by omega) u0 u1 p0
   rw [List.length_cons,cmdsLp,if_neg (by rw [h.isN];simp),if_pos g1,g2]
   obtain ⟨q1,q2,q3⟩:=cmds_up hn l (M:=M++[c]) g3 (by rw [inv.1];exact m0) (by rw [inv.1];exact hm) (fun x hx=>by rw [inv.1];exact hc x (.tail _ hx)) (by rw [g4];exact hu) inv.2.1 inv.2.2.1 inv.2.2.2.1 (by rw [g5];omega)
   exact ⟨by rw [q1];simp,q2,q3⟩
theorem cols_up {bs:List Nat}:∀ (l:List Cl) {R:Rd} {L:List Cl} {s:List Nat},Up bs R (En.colorsB l++s)→onceS L l=true→(colLp bs l.length R L).2=L++l∧Up bs (colLp bs l.length R L).1 s
 | [],R,L,s,h,_=>⟨(List.append_nil L).symm,h⟩
 | c::l,R,L,s,h,ho=>by
  rw [onceS] at ho
  split at ho
  ·exact nomatch ho
  rename_i hnot
  obtain ⟨e,p,hp,hl,hd⟩:=h
  have hd':bs.drop p=c.r::c.g::c.b::c.a::(En.colorsB l++s):=by rw [hd];rfl
  have l2:=congrArg List.length hd'
  rw [List.length_drop] at l2
  simp only [List.length_cons] at l2
  have hcl:clAt bs p=c:=by
   have g:∀ q,bs[p+q]?=(c.r::c.g::c.b::c.a::(En.colorsB l++s))[q]?:=fun q=>by rw [←hd',List.getElem?_drop]
   have g0:=g 0;have g1:=g 1;have g2:=g 2;have g3:=g 3
   simp at g0 g1 g2 g3
   unfold clAt
   simp only [List.getD_eq_getElem?_getD,g0,g1,g2,g3,Option.getD_some]
  rw [List.length_cons,colLp,if_neg (by rw [e];simp [isN]),if_neg (by omega),hp,Int.toNat_natCast,hcl,if_neg hnot]
  have up:Up bs ⟨(p:Int)+4,R.err,R.most,R.used,R.pts⟩ (En.colorsB l++s):=by
   refine ⟨e,p+4,by simp,by omega,?_⟩
   rw [←List.drop_drop,hd'];rfl
  have q:=cols_up l (L:=L++[c]) up ho
  exact ⟨by rw [q.1];simp,q.2⟩
end
end Go.VL.Dc
namespace Go.VL.Dc
open Go.FR Go.IR Go.VL Go.VL.Er Go.VL.Color Go.VL.Wind Go.VL.Ic Go.VL.Wire
noncomputable section
structure CheckOk (i:Icon):Prop where
 sz:sizedS i=true
 cs:i.colors.length≤256
 ms:i.cmds.length≤200
 c:∀ c∈i.cmds,cmdS c i.colors.length (greatS i)=none
 p:pointsS i≤4000
 u:useAll 0 i.cmds=some (i.colors.length:Int)
 o:onceS [] i.colors=true
theorem check_ok {i:Icon} (h:checkS i=none):CheckOk i:=by
 unfold checkS at h
 split at h
 ·exact nomatch h
 rename_i h1
 split at h
 ·exact nomatch h
 rename_i h2
 split at h
 ·exact nomatch h
 rename_i h3
 split at h
 ·exact nomatch h
 rename_i h4
 split at h
 ·exact nomatch h
 rename_i h5
 have hu:usedS i=true:=by simpa using h5
 unfold usedS at hu
 split at hu
 ·exact nomatch hu
 ·rename_i n hn
  split at hu
  ·rename_i ho
   exact ⟨by simpa using h1,by omega,by omega,firstS_none.mp h3,by omega,by rw [hn];simpa using hu,ho⟩
  ·exact nomatch hu
theorem icon_up {i:Icon} (hk:CheckOk i) (s:List Nat) (hlen:(En.bytesS En.cmdB i++s).length≤60000) :
  (wS (En.bytesS En.cmdB i++s)).1=i.w∧(hS (En.bytesS En.cmdB i++s)).1=i.h∧(sS (En.bytesS En.cmdB i++s)).1=i.scale∧(colsF (En.bytesS En.cmdB i++s)).2=i.colors∧(cmdsF (En.bytesS En.cmdB i++s)).2=i.cmds∧Up (En.bytesS En.cmdB i++s) (cmdsF (En.bytesS En.cmdB i++s)).1 s∧(cmdsF (En.bytesS En.cmdB i++s)).1.used=i.colors.length:=by
 obtain ⟨bs,hbs⟩:∃ bs,En.bytesS En.cmdB i++s=bs:=⟨_,rfl⟩
 rw [hbs] at hlen ⊢
 obtain ⟨b1,b2,b3,b4,b5,b6⟩:=sized_bnd hk.sz
 have gb:=great_bnd i
 have hb0:bs=[71,76,89,49]++(putS i.w.toNat++(putS i.h.toNat++(putS i.scale.toNat++(putS i.colors.length++(En.colorsB i.colors++(putS i.cmds.length++(i.cmds.flatMap En.cmdB++s))))))):=by
  rw [←hbs];unfold En.bytesS En.numsB
  simp [List.append_assoc]
 have l4:4≤bs.length:=by rw [hb0,List.length_append];simp
 have hh:headR bs=rd0:=by
  unfold headR
  rw [if_neg (by omega),if_neg (by omega),if_pos (by rw [hb0];rfl)]
 have u0:Up bs (at4 (headR bs)) (putS i.w.toNat++(putS i.h.toNat++(putS i.scale.toNat++(putS i.colors.length++(En.colorsB i.colors++(putS i.cmds.length++(i.cmds.flatMap En.cmdB++s))))))):=by
  rw [hh];exact ⟨rfl,4,rfl,l4,by rw [hb0];rfl⟩
 obtain ⟨e1,f1⟩:=ranged_up u0 1 4096 (by omega) (by omega) (by omega)
 have m1:=ranged_most bs (at4 (headR bs)) 1 4096
 obtain ⟨e2,f2⟩:=ranged_up f1 1 4096 (by omega) (by omega) (by omega)
 have m2:=ranged_most bs (wS bs).2 1 4096
 obtain ⟨e3,f3⟩:=ranged_up f2 0 6 (by omega) (by omega) (by omega)
 have m3:=ranged_most bs (hS bs).2 0 6
 have w1:(wS bs).1=i.w:=by show (rangedS _ _ _ _).1=_;rw [e1];omega
 have w2:(hS bs).1=i.h:=by show (rangedS _ (rangedS _ _ _ _).2 _ _).1=_;rw [e2];omega
 have w3:(sS bs).1=i.scale:=by show (rangedS _ (rangedS _ (rangedS _ _ _ _).2 _ _).2 _ _).1=_;rw [e3];omega
 have hz:=head_zero bs
 have su:(sS bs).2.used=0:=by show (rangedS bs (hS bs).2 0 6).2.used=0;rw [m3.2.1];show (rangedS bs (wS bs).2 1 4096).2.used=0;rw [m2.2.1];exact m1.2.1.trans hz.1
 have sp:(sS bs).2.pts=0:=by show (rangedS bs (hS bs).2 0 6).2.pts=0;rw [m3.2.2];show (rangedS bs (wS bs).2 1 4096).2.pts=0;rw [m2.2.2];exact m1.2.2.trans hz.2
 have hg:greatS (icS bs)=greatS i:=by unfold icS;rw [w1,w2,w3];rfl
 have u3:Up bs (mostR bs) (putS i.colors.length++(En.colorsB i.colors++(putS i.cmds.length++(i.cmds.flatMap En.cmdB++s)))):=Up.set (R:=(sS bs).2) f3 rfl rfl
 have cs:=hk.cs
 have ms:=hk.ms
 obtain ⟨e4,f4⟩:=many_up u3 0 256 (by omega) (by omega) (by omega)
 obtain ⟨e5,f5⟩:=cols_up i.colors (L:=[]) f4 hk.o
 have m4:=many_most bs (mostR bs) 0 256
 have m5:=cols_keep bs i.colors.length (manyR bs (mostR bs) 0 256) []
 have hC:colsF bs=colLp bs i.colors.length (manyR bs (mostR bs) 0 256) []:=by unfold colsF colsS;rw [e4]
 rw [←hC] at e5 f5 m5
 rw [List.nil_append] at e5
 obtain ⟨e6,f6⟩:=many_up f5 0 200 (by omega) (by omega) (by omega)
 have m6:=many_most bs (colsF bs).1 0 200
 have mo:(manyR bs (colsF bs).1 0 200).most=greatS i:=by rw [m6.1,m5.1,m4.1];exact hg
 have us:(manyR bs (colsF bs).1 0 200).used=0:=by rw [m6.2.1,m5.2.1,m4.2.1];exact su
 have ps:(manyR bs (colsF bs).1 0 200).pts=0:=by rw [m6.2.2,m5.2.2,m4.2.2];exact sp
 have hM:cmdsF bs=cmdsLp bs i.colors.length i.cmds.length (manyR bs (colsF bs).1 0 200) []:=by unfold cmdsF;rw [e6,e5]
 obtain ⟨q1,q2,q3⟩:=cmds_up (nc:=i.colors.length) cs i.cmds (M:=[]) (s:=s) f6 (by rw [mo];omega) (by rw [mo];omega) (fun c hc=>by rw [mo];exact hk.c c hc) (by rw [us];exact hk.u) (by rw [us];omega) (by rw [us];omega) (by rw [ps];omega) (by rw [ps,Int.zero_add];exact hk.p)
 rw [←hM] at q1 q2 q3
 exact ⟨w1,w2,w3,e5,by rw [q1];rfl,q2,q3⟩
theorem back_all {i:Icon} (hk:CheckOk i) (hlen:(En.bytesS En.cmdB i).length≤60000):decS (En.bytesS En.cmdB i)=(i,.none)∧(endR (En.bytesS En.cmdB i)).pos=(En.bytesS En.cmdB i).length:=by
 have h:=icon_up hk [] (by rw [List.append_nil];exact hlen)
 rw [List.append_nil] at h
 obtain ⟨h1,h2,h3,h4,h5,⟨e,p,hp,hl,hd⟩,h7⟩:=h
 have lp:p=(En.bytesS En.cmdB i).length:=by have:=congrArg List.length hd;rw [List.length_drop] at this;simp at this;omega
 have hE:endR (En.bytesS En.cmdB i)=(cmdsF (En.bytesS En.cmdB i)).1:=by
  unfold endR lastR
  rw [h4,h7,if_neg (by omega),if_neg (by omega)]
 refine ⟨?_,by rw [hE,hp,lp]⟩
 unfold decS
 rw [hE,e,if_pos (show isN ErrV.none=true from rfl),h1,h2,h3,h4,h5]
theorem back_more {i:Icon} (hk:CheckOk i) (x:Nat) (hlen:(En.bytesS En.cmdB i).length < 60000):(decS (En.bytesS En.cmdB i++[x])).2 = .placed 10 (En.bytesS En.cmdB i).length:=by
 have h:=icon_up hk [x] (by rw [List.length_append];simp;omega)
 obtain ⟨h1,h2,h3,h4,h5,⟨e,p,hp,hl,hd⟩,h7⟩:=h
 have lb:(En.bytesS En.cmdB i++[x]).length=(En.bytesS En.cmdB i).length+1:=by simp
 have lp:p=(En.bytesS En.cmdB i).length:=by have:=congrArg List.length hd;rw [List.length_drop] at this;simp at this;omega
 have hE:endR (En.bytesS En.cmdB i++[x])=failS (cmdsF (En.bytesS En.cmdB i++[x])).1 (cmdsF (En.bytesS En.cmdB i++[x])).1.pos 10:=by
  unfold endR lastR
  rw [h4,h7,if_neg (by omega),if_pos (by rw [lb];omega)]
 unfold failS at hE
 rw [e,if_pos (show isN ErrV.none=true from rfl),hp,lp] at hE
 unfold decS
 rw [hE];rfl
end
end Go.VL.Dc
namespace Go.VL.Dc
open Go.FR Go.IR Go.VL Go.VL.Er Go.VL.Color Go.VL.Wind Go.VL.Ic Go.VL.Wire
noncomputable section
def Short (R:Rd):Prop:=∃ p,R.err = .placed 6 p
theorem Short.n {R:Rd} (h:Short R):isN R.err=false:=by obtain ⟨p,e⟩:=h;rw [e];rfl
theorem Short.go {n:Nat} {R R':Rd} (h:Short R) (g:Go1 n R R'):Short R':=by
 obtain ⟨p,e⟩:=h
 exact ⟨p,by rw [g.keep (by rw [e];rfl),e]⟩
theorem Short.fail {R:Rd} (h:Short R) (p:Int) (k:Nat):Short (failS R p k):=by
 unfold failS;rw [if_neg (by rw [h.n];simp)];exact h
theorem getL_take:∀ (l:List Nat) (k acc n:Nat),getL (l.take n) k acc=getL l k acc∨getL (l.take n) k acc = .short
 | l,k,acc,0 => .inr (by rw [List.take_zero,getL])
 | [],k,acc,n+1 => .inr (by rw [List.take_nil,getL])
 | x::l,k,acc,n+1=>by
  rw [List.take_succ_cons]
  simp only [getL]
  split
  ·exact .inl rfl
  ·split
   ·exact .inl rfl
   ·exact getL_take l _ _ n
variable {bs:List Nat} {n:Nat}
theorem getS_take (a:Int):getS (bs.take n) a=getS bs a∨(getS (bs.take n) a).e = .placed 6 a:=by
 by_cases c:a < 0∨((bs.take n).length:Int) < a
 ·right;unfold getS;rw [if_pos c]
 ·have c':¬(a < 0∨(bs.length:Int) < a):=by rw [List.length_take] at c;omega
  have d:(bs.take n).drop a.toNat=(bs.drop a.toNat).take (n - a.toNat):=by rw [List.drop_take]
  unfold getS
  rw [if_neg c,if_neg c',d]
  rcases getL_take (bs.drop a.toNat) 0 0 (n - a.toNat) with h | h
  ·left;rw [h]
  ·right;rw [h]
theorem num_tr (R:Rd):Short (numS (bs.take n) R).2∨numS (bs.take n) R=numS bs R:=by
 unfold numS
 cases c:isN R.err
 ·right;rfl
 ·rcases getS_take (bs:=bs) (n:=n) R.pos with h | h
  ·right;rw [h]
  ·left;exact ⟨R.pos,h⟩
theorem ranged_tr (R:Rd) (lo hi:Int):Short (rangedS (bs.take n) R lo hi).2∨rangedS (bs.take n) R lo hi=rangedS bs R lo hi:=by
 rcases num_tr (bs:=bs) (n:=n) R with h | h
 ·left;unfold rangedS;split
  ·exact h.fail _ _
  ·exact h
 ·right;unfold rangedS;rw [h]
theorem many_tr (R:Rd) (lo hi:Int):Short (manyR (bs.take n) R lo hi)∨manyR (bs.take n) R lo hi=manyR bs R lo hi∧manyN (bs.take n) R lo hi=manyN bs R lo hi:=by
 rcases num_tr (bs:=bs) (n:=n) R with h | h
 ·left;unfold manyR;repeat' split
  ·exact h.fail _ _
  ·exact h.fail _ _
  ·exact h
 ·right;unfold manyN manyS manyR;rw [h];exact ⟨rfl,rfl⟩
theorem part_tr (R:Rd) (a:Int):Short (partS (bs.take n) R a).2∨partS (bs.take n) R a=partS bs R a:=by
 rcases num_tr (bs:=bs) (n:=n) R with h | h
 ·left;unfold partS;split
  ·exact h.fail _ _
  ·exact h
 ·right;unfold partS;rw [h]
theorem point_tr (R:Rd) (p:Pt):Short (pointS (bs.take n) R p).2∨pointS (bs.take n) R p=pointS bs R p:=by
 rcases part_tr (bs:=bs) (n:=n) R p.x with h | h
 ·left;exact h.go (part_go _ _ _)
 ·unfold pointS;rw [h]
  rcases part_tr (bs:=bs) (n:=n) (partS bs R p.x).2 p.y with g | g
  ·left;exact g
  ·right;rw [g]
theorem color_tr (R:Rd) (nc:Nat):Short (colorS (bs.take n) R nc).2∨colorS (bs.take n) R nc=colorS bs R nc:=by
 rcases num_tr (bs:=bs) (n:=n) R with h | h
 ·left;unfold colorS;rw [if_pos h.n];exact h
 ·right;unfold colorS;rw [h]
theorem paint_tr (R:Rd) (k:Int) (nc:Nat):Short (paintS (bs.take n) R k nc).2∨paintS (bs.take n) R k nc=paintS bs R k nc:=by
 rcases color_tr (bs:=bs) (n:=n) R nc with h1 | h1
 ·left
  have c2:=h1.go (color_go (bs.take n) _ nc)
  have p1:=c2.go (point_go (bs.take n) _ z0)
  have q1:=p1.go (part_go (bs.take n) _ 0)
  unfold paintS
  split
  ·exact h1
  ·split
   ·exact p1.go (ranged_go (bs.take n) _ _ _)
   ·simp only
    split
    ·exact (q1.go (part_go (bs.take n) _ 0)).fail _ _
    ·exact q1.go (part_go (bs.take n) _ 0)
 unfold paintS
 rw [h1]
 by_cases k0:k=0
 ·right;rw [if_pos k0,if_pos k0]
 rw [if_neg k0,if_neg k0]
 rcases color_tr (bs:=bs) (n:=n) (colorS bs R nc).2 nc with h2 | h2
 ·left
  have p1:=h2.go (point_go (bs.take n) _ z0)
  have q1:=p1.go (part_go (bs.take n) _ 0)
  split
  ·exact p1.go (ranged_go (bs.take n) _ _ _)
  ·simp only
   split
   ·exact (q1.go (part_go (bs.take n) _ 0)).fail _ _
   ·exact q1.go (part_go (bs.take n) _ 0)
 rw [h2]
 rcases point_tr (bs:=bs) (n:=n) (colorS bs (colorS bs R nc).2 nc).2 z0 with h3 | h3
 ·left
  have q1:=h3.go (part_go (bs.take n) _ 0)
  split
  ·exact h3.go (ranged_go (bs.take n) _ _ _)
  ·simp only
   split
   ·exact (q1.go (part_go (bs.take n) _ 0)).fail _ _
   ·exact q1.go (part_go (bs.take n) _ 0)
 rw [h3]
 by_cases k2:k=2
 ·rw [if_pos k2,if_pos k2]
  rcases ranged_tr (bs:=bs) (n:=n) (pointS bs (colorS bs (colorS bs R nc).2 nc).2 z0).2 1 (pointS bs (colorS bs (colorS bs R nc).2 nc).2 z0).2.most with h4 | h4
  ·left;exact h4
  ·right;rw [h4]
 rw [if_neg k2,if_neg k2]
 rcases part_tr (bs:=bs) (n:=n) (pointS bs (colorS bs (colorS bs R nc).2 nc).2 z0).2 0 with h4 | h4
 ·left
  simp only
  split
  ·exact (h4.go (part_go (bs.take n) _ 0)).fail _ _
  ·exact h4.go (part_go (bs.take n) _ 0)
 rw [h4]
 rcases part_tr (bs:=bs) (n:=n) (partS bs (pointS bs (colorS bs (colorS bs R nc).2 nc).2 z0).2 0).2 0 with h5 | h5
 ·left
  simp only
  split
  ·exact h5.fail _ _
  ·exact h5
 ·right;rw [h5]
theorem pts_tr:∀ (m:Nat) (R:Rd) (a:Pt),Short (ptsLp (bs.take n) m R a).2∨ptsLp (bs.take n) m R a=ptsLp bs m R a
 | 0,R,a => .inr rfl
 | m+1,R,a=>by
  rcases point_tr (bs:=bs) (n:=n) R a with h | h
  ·left;exact h.go (pts_go _ _ _ _)
  ·rw [ptsLp,ptsLp,h]
   rcases pts_tr m (pointS bs R a).2 (pointS bs R a).1 with g | g
   ·left;exact g
   ·right;rw [g]
theorem segs_tr (kind:Nat):∀ (m:Nat) (R:Rd) (a:Pt) (S:List Seg),Short (segLp (bs.take n) kind m R a S).2.2∨segLp (bs.take n) kind m R a S=segLp bs kind m R a S
 | 0,R,a,S => .inr rfl
 | m+1,R,a,S=>by
  rcases pts_tr (bs:=bs) (n:=n) kind R a with h | h
  ·left;rw [segLp,if_pos h.n];exact h
  ·rw [segLp,segLp,h]
   split
   ·right;rfl
   ·exact segs_tr kind m _ _ _
theorem run_tr (R:Rd) (S:List Seg) (a:Pt):Short (runS (bs.take n) R S a).2.2∨runS (bs.take n) R S a=runS bs R S a:=by
 rcases num_tr (bs:=bs) (n:=n) R with h | h
 ·left
  have e:runR (bs.take n) R S=(numS (bs.take n) R).2:=by unfold runR;rw [if_pos h.n]
  unfold runS;rw [e,if_pos h.n];exact h
 ·have e:runR (bs.take n) R S=runR bs R S:=by unfold runR;rw [h]
  unfold runS
  rw [e,h]
  split
  ·right;rfl
  ·exact segs_tr _ _ _ _ _
theorem runs_tr:∀ (m:Nat) (R:Rd) (a:Pt) (S:List Seg),Short (runsLp (bs.take n) m R a S).2.2∨runsLp (bs.take n) m R a S=runsLp bs m R a S
 | 0,R,a,S => .inr rfl
 | m+1,R,a,S=>by
  rw [runsLp,runsLp]
  split
  ·right;rfl
  ·rcases run_tr (bs:=bs) (n:=n) R S a with h | h
   ·left;exact h.go (runs_go _ _ _ _ _)
   ·rw [h];exact runs_tr m _ _ _
theorem path_tr (R:Rd) (f:Bool):Short (pathF (bs.take n) R f).2.2∨pathF (bs.take n) R f=pathF bs R f∧pathS' (bs.take n) R f=pathS' bs R f:=by
 have inc:∀ {Q:Rd},Short Q→Short (incS Q):=fun h=>h
 rcases num_tr (bs:=bs) (n:=n) R with h | h
 ·left
  have e:pathR1 (bs.take n) R f=(numS (bs.take n) R).2:=by unfold pathR1;rw [if_pos h.n]
  unfold pathF
  rw [e]
  exact (inc (h.go (point_go _ _ z0))).go (runs_go _ _ _ _ _)
 ·have e:pathR1 (bs.take n) R f=pathR1 bs R f:=by unfold pathR1;rw [h]
  rcases point_tr (bs:=bs) (n:=n) (pathR1 bs R f) z0 with g | g
  ·left
   unfold pathF
   rw [e]
   exact (inc g).go (runs_go _ _ _ _ _)
  ·have key:Short (pathF (bs.take n) R f).2.2∨pathF (bs.take n) R f=pathF bs R f:=by
    unfold pathF;rw [e,h,g];exact runs_tr _ _ _ _
   rcases key with k | k
   ·exact .inl k
   ·right
    refine ⟨k,?_⟩
    unfold pathS'
    rw [k,e,g,h]
theorem paths_tr (f:Bool):∀ (m:Nat) (R:Rd) (P:List Path),Short (pathsLp (bs.take n) f m R P).2.1∨pathsLp (bs.take n) f m R P=pathsLp bs f m R P
 | 0,R,P => .inr rfl
 | m+1,R,P=>by
  rw [pathsLp,pathsLp]
  split
  ·right;rfl
  ·rcases path_tr (bs:=bs) (n:=n) R f with h | ⟨h,h'⟩
   ·left;exact h.go (paths_go _ _ _ _ _)
   ·rw [h,h'];exact paths_tr f m _ _
theorem cmd_tr (R:Rd) (nc:Nat):Short (cmdL (bs.take n) R nc).2.1∨cmdL (bs.take n) R nc=cmdL bs R nc∧cmdS' (bs.take n) R nc=cmdS' bs R nc:=by
 rcases num_tr (bs:=bs) (n:=n) R with h | h
 ·left
  have s1:Short (cmdR1 (bs.take n) R):=by
   unfold cmdR1;split
   ·exact h.fail _ _
   ·exact h
  have s2:Short (cmdW (bs.take n) R).2:=by
   unfold cmdW;split
   ·exact s1.go (ranged_go _ _ _ _)
   ·exact s1
  exact ((s2.go (paint_go _ _ _ nc)).go (many_go _ _ 1 200)).go (paths_go _ _ _ _ _)
 ·have e1:cmdR1 (bs.take n) R=cmdR1 bs R:=by unfold cmdR1;rw [h]
  have e2:Short (cmdW (bs.take n) R).2∨cmdW (bs.take n) R=cmdW bs R:=by
   unfold cmdW;rw [h,e1]
   split
   ·exact ranged_tr _ _ _
   ·right;rfl
  rcases e2 with e2 | e2
  ·left;exact ((e2.go (paint_go _ _ _ nc)).go (many_go _ _ 1 200)).go (paths_go _ _ _ _ _)
  have e3:Short (cmdP (bs.take n) R nc).2∨cmdP (bs.take n) R nc=cmdP bs R nc:=by
   unfold cmdP;rw [h,e2];exact paint_tr _ _ _
  rcases e3 with e3 | e3
  ·left;exact (e3.go (many_go _ _ 1 200)).go (paths_go _ _ _ _ _)
  rcases many_tr (bs:=bs) (n:=n) (cmdP bs R nc).2 1 200 with e4 | ⟨e4,e5⟩
  ·left
   unfold cmdL;rw [e3]
   exact e4.go (paths_go _ _ _ _ _)
  have e6:Short (cmdL (bs.take n) R nc).2.1∨cmdL (bs.take n) R nc=cmdL bs R nc:=by
   unfold cmdL cmdN;rw [h,e3,e4,e5];exact paths_tr _ _ _ _
  rcases e6 with e6 | e6
  ·exact .inl e6
  ·right
   refine ⟨e6,?_⟩
   unfold cmdS';rw [e6,h,e2,e3]
theorem cmds_tr (nc:Nat):∀ (m:Nat) (R:Rd) (M:List Cmd),Short (cmdsLp (bs.take n) nc m R M).1∨cmdsLp (bs.take n) nc m R M=cmdsLp bs nc m R M
 | 0,R,M => .inr rfl
 | m+1,R,M=>by
  rw [cmdsLp,cmdsLp]
  split
  ·right;rfl
  ·rcases cmd_tr (bs:=bs) (n:=n) R nc with h | ⟨h,h'⟩
   ·left;exact h.go (cmds_go _ _ _ _ _)
   ·rw [h,h'];exact cmds_tr nc m _ _
theorem cols_tr:∀ (m:Nat) (R:Rd) (L:List Cl),(isN R.err=true→0≤R.pos)→Short (colLp (bs.take n) m R L).1∨colLp (bs.take n) m R L=colLp bs m R L
 | 0,R,L,_ => .inr rfl
 | m+1,R,L,hp=>by
  rw [colLp,colLp]
  cases c:isN R.err
  ·right;rfl
  ·have p0:=hp c
   by_cases c1:((bs.take n).length:Int) - R.pos < 4
   ·left
    rw [if_neg (show ¬(true=false) by simp),if_pos c1]
    unfold failS;rw [if_pos c];exact ⟨_,rfl⟩
   ·have lt:=List.length_take (l:=bs) (i:=n)
    have c2:¬(bs.length:Int) - R.pos < 4:=by omega
    rw [if_neg (show ¬(true=false) by simp),if_neg c1,if_neg (show ¬(true=false) by simp),if_neg c2]
    have hcl:clAt (bs.take n) R.pos.toNat=clAt bs R.pos.toNat:=by
     unfold clAt
     have g:∀ q,q < 4→(bs.take n).getD (R.pos.toNat+q) 0=bs.getD (R.pos.toNat+q) 0:=fun q hq=>by
      rw [List.getD_eq_getElem?_getD,List.getD_eq_getElem?_getD,List.getElem?_take_of_lt (by omega)]
     rw [g 1 (by omega),g 2 (by omega),g 3 (by omega)]
     have:=g 0 (by omega)
     rw [Nat.add_zero] at this
     rw [this]
    rw [hcl]
    split
    ·right;rfl
    ·exact cols_tr m _ _ (fun _=>by simp only;omega)
theorem head_tr (hn:4≤n) (hl:bs.length≤60000) (h4:4≤bs.length):headR (bs.take n)=headR bs:=by
 have lt:=List.length_take (l:=bs) (i:=n)
 have e:(bs.take n).take 4=bs.take 4:=by rw [List.take_take];congr 1;omega
 unfold headR
 rw [e,if_neg (show ¬60000 < (bs.take n).length by omega),if_neg (show ¬(bs.take n).length < 4 by omega),if_neg (show ¬60000 < bs.length by omega),if_neg (show ¬bs.length < 4 by omega)]
theorem all_tr (hn:4≤n) (hl:bs.length≤60000) (h4:4≤bs.length):Short (cmdsF (bs.take n)).1∨(wS (bs.take n)=wS bs∧hS (bs.take n)=hS bs∧sS (bs.take n)=sS bs∧colsF (bs.take n)=colsF bs∧cmdsF (bs.take n)=cmdsF bs):=by
 have hh:=head_tr hn hl h4
 have e1:Short (wS (bs.take n)).2∨wS (bs.take n)=wS bs:=by unfold wS;rw [hh];exact ranged_tr _ _ _
 have restW:Short (wS (bs.take n)).2→Short (cmdsF (bs.take n)).1:=fun s =>
  (((((s.go (ranged_go _ _ 1 4096)).go (ranged_go _ _ 0 6)).go (Go1.set (R2:=mostR (bs.take n)) (Go1.refl (n:=(bs.take n).length)) rfl rfl)).go (colsS_go _ _)).go (many_go _ _ 0 200)).go (cmds_go _ _ _ _ _)
 rcases e1 with e1 | e1
 ·exact .inl (restW e1)
 have e2:Short (hS (bs.take n)).2∨hS (bs.take n)=hS bs:=by unfold hS;rw [e1];exact ranged_tr _ _ _
 rcases e2 with e2 | e2
 ·exact .inl (((((e2.go (ranged_go _ _ 0 6)).go (Go1.set (R2:=mostR (bs.take n)) (Go1.refl (n:=(bs.take n).length)) rfl rfl)).go (colsS_go _ _)).go (many_go _ _ 0 200)).go (cmds_go _ _ _ _ _))
 have e3:Short (sS (bs.take n)).2∨sS (bs.take n)=sS bs:=by unfold sS;rw [e2];exact ranged_tr _ _ _
 rcases e3 with e3 | e3
 ·exact .inl ((((e3.go (Go1.set (R2:=mostR (bs.take n)) (Go1.refl (n:=(bs.take n).length)) rfl rfl)).go (colsS_go _ _)).go (many_go _ _ 0 200)).go (cmds_go _ _ _ _ _))
 have eM:mostR (bs.take n)=mostR bs:=by unfold mostR icS;rw [e1,e2,e3]
 have e4:Short (colsF (bs.take n)).1∨colsF (bs.take n)=colsF bs:=by
  unfold colsF colsS
  rw [eM]
  rcases many_tr (bs:=bs) (n:=n) (mostR bs) 0 256 with h | ⟨h,h'⟩
  ·left;exact h.go (cols_go _ _ _ _)
  ·rw [h,h']
   refine cols_tr _ _ _ (fun hp => ?_)
   have g:=(most_go bs).trans (many_go bs (mostR bs) 0 256)
   exact ((g.inv (head_inv bs hl)).1 hp).1
 rcases e4 with e4 | e4
 ·exact .inl ((e4.go (many_go _ _ 0 200)).go (cmds_go _ _ _ _ _))
 have e5:Short (cmdsF (bs.take n)).1∨cmdsF (bs.take n)=cmdsF bs:=by
  unfold cmdsF
  rw [e4]
  rcases many_tr (bs:=bs) (n:=n) (colsF bs).1 0 200 with h | ⟨h,h'⟩
  ·left;exact h.go (cmds_go _ _ _ _ _)
  ·rw [h,h'];exact cmds_tr _ _ _ _
 rcases e5 with e5 | e5
 ·exact .inl e5
 ·exact .inr ⟨e1,e2,e3,e4,e5⟩
theorem back_less {i:Icon} (hk:CheckOk i) (hlen:(En.bytesS En.cmdB i).length≤60000) {k:Nat} (hkn:k < (En.bytesS En.cmdB i).length):∃ p,(decS ((En.bytesS En.cmdB i).take k)).2 = .placed 6 p:=by
 have done:∀ b:List Nat,Short (endR b)→∃ p,(decS b).2 = .placed 6 p:=fun b h=>by
  have hn:=h.n
  obtain ⟨p,e⟩:=h
  exact ⟨p,by unfold decS;rw [if_neg (by rw [hn];simp)];exact e⟩
 obtain ⟨bs,hbs⟩:∃ b,En.bytesS En.cmdB i=b:=⟨_,rfl⟩
 have u:=icon_up hk [] (by rw [List.append_nil];exact hlen)
 rw [List.append_nil,hbs] at u
 rw [hbs] at hlen hkn ⊢
 have lt:=List.length_take (l:=bs) (i:=k)
 have h4:4≤bs.length:=by rw [←hbs];unfold En.bytesS;rw [List.length_append];simp
 apply done
 by_cases k4:k < 4
 ·have hh:headR (bs.take k)=failS rd0 0 6:=by unfold headR;rw [if_neg (by omega),if_pos (by omega)]
  have:Short (at4 (headR (bs.take k))):=by rw [hh];exact ⟨0,rfl⟩
  exact this.go (end_go _)
 rcases all_tr (bs:=bs) (n:=k) (by omega) hlen h4 with s | ⟨h1,h2,h3,h5,h6⟩
 ·exact s.go (last_go (bs.take k).length _ _)
 ·exfalso
  obtain ⟨_,_,_,u4,u5,⟨e,p,hp,hl,hd⟩,u7⟩:=u
  have lp:p=bs.length:=by have:=congrArg List.length hd;rw [List.length_drop] at this;simp at this;omega
  have g:=(cmdsF_go (bs.take k)).inv (head_inv (bs.take k) (by omega))
  rw [h6] at g
  have:=(g.1 (by rw [e];rfl)).2
  omega
end
end Go.VL.Dc
