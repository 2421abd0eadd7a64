/-Lemmas.-/
import Derived.Test.YtknefelegjlgnaaGreatDoorCCCm16
import Derived.Test.YtknefelegjlgnaaGreatDoorCCCm17
set_option maxRecDepth 100000
set_option maxHeartbeats 16000000
namespace Go.Proofs.YtknefelegjlgnaaGreatDoor
open Go.RowKit
theorem lT{fn:Func}{c c2 i:Tmp}(h:fn.results= #[.cell c 35,.cell c2 50,.tmp i]){w:VA}{b b2:Nat}{a:Array VC}{x0 x1 x2 x3 x4 x5 x6 u v y:VC}(h1:a[c]?.getD undef= .pointer (some ⟨b,0,none⟩))(h2:a[c2]?.getD undef= .pointer (some ⟨b2,0,none⟩))(hk:Bk w b 35 #[x0,x1,x2,x3,x4,x5,x6])(hk2:Bk w b2 50 #[u,v])(hv:a[i]?.getD undef=y) :
  (results fn a).run Tryz.prog w= .ok (.tuple #[.agg #[x0,x1,x2,x3,x4,x5,x6],.agg #[u,v],y]) w:=by
 obtain⟨⟨k0,k1,k2,k3⟩,k4,k5,k6⟩:=hk.seven;obtain⟨g0,g1,_,_⟩:=hk2.two;simp[results,h,h1,h2,hv,go_sem,k0,k1,k2,k3,k4,k5,k6,g0,g1]
theorem lU{w:VA}{b:Nat}{x0 x1 x2 x3 x4 x5 x6 u v:VC}(hk:Bk w b 35 #[x0,x1,x2,x3,x4,x5,x6])(hk2:Bk w (b+1) 50 #[u,v])(y0 y1 y2 y3 y4 y5 y6 z0 z1:VC) :
  Bk (((((((((w.setCell ⟨b,0,none⟩ y0).setCell ⟨b,1,none⟩ y1).setCell ⟨b,2,none⟩ y2).setCell ⟨b,3,none⟩ y3).setCell ⟨b,4,none⟩ y4).setCell ⟨b,5,none⟩ y5).setCell ⟨b,6,none⟩ y6).setCell ⟨b+1,0,none⟩ z0).setCell ⟨b+1,1,none⟩ z1) b 35 #[y0,y1,y2,y3,y4,y5,y6] ∧
  Bk (((((((((w.setCell ⟨b,0,none⟩ y0).setCell ⟨b,1,none⟩ y1).setCell ⟨b,2,none⟩ y2).setCell ⟨b,3,none⟩ y3).setCell ⟨b,4,none⟩ y4).setCell ⟨b,5,none⟩ y5).setCell ⟨b,6,none⟩ y6).setCell ⟨b+1,0,none⟩ z0).setCell ⟨b+1,1,none⟩ z1) (b+1) 50 #[z0,z1] :=
 ⟨((hk.set7 y0 y1 y2 y3 y4 y5 y6).far (p:=⟨b+1,0,none⟩) (by show b≠b+1;omega) z0).far (p:=⟨b+1,1,none⟩) (by show b≠b+1;omega) z1,
  Bk.set2 ((iM w b y0 y1 y2 y3 y4 y5 y6 (b+1) (by omega)).trans hk2) z0 z1⟩
theorem lJ{w0 w:VA}{B b:Nat}(h:Below B w0 w)(hb:B<=b)(y0 y1 y2 y3 y4 y5 y6 z0 z1:VC) :
  Below B w0 (((((((((w.setCell ⟨b,0,none⟩ y0).setCell ⟨b,1,none⟩ y1).setCell ⟨b,2,none⟩ y2).setCell ⟨b,3,none⟩ y3).setCell ⟨b,4,none⟩ y4).setCell ⟨b,5,none⟩ y5).setCell ⟨b,6,none⟩ y6).setCell ⟨b+1,0,none⟩ z0).setCell ⟨b+1,1,none⟩ z1) :=
 ((dQ h hb y0 y1 y2 y3 y4 y5 y6).setCell (p:=⟨b+1,0,none⟩) (by show B<=b+1;omega) z0).setCell (p:=⟨b+1,1,none⟩) (by show B<=b+1;omega) z1
theorem CmtE.err{r:Rp}{a u:Nat}{d:Dig}{w w':VA}{x:Int}(h1:x≠0)(h2:x≠20)(hb:VE w w'):CmtE r a u (.no,d) w (.returned (.tuple #[.agg rzC,.agg #[.int .u64 0,.int .u64 0],.int .i64 x])) w':=⟨x,h1,h2,zRs,rfl,RpM.zero _ _,hb⟩
theorem oV(hpck:kF)(r:Rp)(s:Rsl)(gs:List Gru)(a u:Nat)(nm:VB)(l:List Fl)(A1:OA)(m c1:Nat)(au ms:VB)(tm:Int)(B:Nat)(w:VA)
  (hd:r.d.Ok) (hpn:r.d.pn= []) (hj:Jn r.d.sz r.d.ss a (recs gs) u) (hM:Mt gs r.p r.rs r.lg) (hpf:r.p.length<=49000) (hm:RpM w B r s) (hB:B<=w.heap.size)
  (h1:Sl w B 2 A1 m (flat flC l)) (hnm:nm.size<=65536) (hml:m<=1000) (hfs:∀f∈l,f.1.size<=1000000/\f.2.size<=60000) (hcm:lC au ms tm) :
  Calls Tryz.prog 28 #[rpV r s,.string nm,.slice A1 m c1,.string au,.string ms,.int .i64 tm] w (CmtE r a u (eU r.p r.rs r.lg nm l au ms tm) w):=by
 have hlf:=jv hM.rf;have hrf:=nK hM.rf;have Vy:∀u∈r.lg,u.1.size<=65536:=fun u hu=>by
  rw[hM.lo]at hu;obtain⟨g,hg,hu⟩:=List.mem_flatMap.1 hu;exact((hM.ok g hg).us u hu).1
 have hwr:∀x∈r.rs,WfD x.2:=fun x hx=>by
  obtain⟨⟨o,ho,_⟩,_⟩:=compl_zero.1 (hM.co x hx);rw[jK hM.pl ho];exact eY _
 obtain⟨W,hW⟩:=NX9 (((w.alloc (.cells (rpC r s) 35)).alloc (.cells rzC 35)).alloc (.cells #[.int .u64 0,.int .u64 0] 50))
 have HB0:VF w W:=by rw[<-hW];exact(((ah _ w).alloc aj _).alloc (by simp) _).alloc (by simp;omega) _
 have HK:Hid (Bk W w.heap.size 35 (rpC r s)):=by rw[<-hW];exact((Bk.new w _ _).alloc _).alloc _
 have HZ:Hid (Bk W (w.heap.size+1) 35 rzC):=by rw[<-hW];exact((Bk.new _ _ _).at_ (by simp)).alloc _
 have HY:Hid (Bk W (w.heap.size+1+1) 50 #[.int .u64 0,.int .u64 0]):=by rw[<-hW];exact(Bk.new _ _ _).at_ (by simp)
 have zW:W.heap.size=w.heap.size+3:=by rw[<-hW];simp
 have HM:=ai hm;have Vj:=ai hM;have HD:=ai hd;have WE:=ai hpn;have HJ:=ai hj;have WI:=ai hpf;have Q:=ai (D5 s.rA s.lA r.rs.length s.rc r.lg.length s.lc B r.rs r.lg nm W (hm.rf.below HB0.o hB) (hm.l.below HB0.o hB) (by omega) (by unfold maxLen;omega) (by unfold maxLen;omega) (by unfold maxLen;omega) (fun u hu=>by have:=Vy u hu;unfold maxLen;omega));unfold qG at Q;have X:=ai (SS r.rs r.lg nm);have R:=ai (yC (nm:=nm) (lg:=r.lg) hwr);have lq:=ai (TP r.rs r.lg nm);obtain⟨⟨pl,pd⟩,hpl⟩:∃t,eU r.p r.rs r.lg nm l au ms tm=t:=⟨_,rfl⟩
 rw[hpl];unfold eU at hpl;obtain⟨⟨⟨o1,o2⟩,ge⟩,hge⟩:∃t,aW r.rs r.lg nm=t:=⟨_,rfl⟩
 rw[hge]at hpl Q X R lq;simp only at hpl Q X R lq;have Vk:=ai hpl;have HW:=ai hW;have H1:=ai h1;have Vz:=ai hfs;have HCM:=ai hcm;have hdp:r.d.pn.length=0:=by rw[hpn];rfl
 obtain⟨dn,hdn⟩:=NX9 r.d.ss.length
 obtain⟨pn,Y⟩:=NX9 r.p.length
 obtain⟨rn,hrn⟩:=NX9 r.rs.length
 obtain⟨ln,hln⟩:=NX9 r.lg.length
 have VG:=ai hdn;have VH:=ai hdp;have D:=ai Y;have VI:=ai hrn;have VJ:=ai hln;simp only[rpV,rpC,hdn,hdp,Y,hrn,hln]at HK HW Q hpf ⊢;clear hd hpn hj hM hm h1 hfs hcm hW hpl hdp hdn Y hrn hln hge hlf hrf Vy hwr;obtain⟨⟨k0,k1,k2,k3⟩,k4,k5,k6⟩:=HK.o.seven
 go_enter Tryz.func28,Tryz.ntmps28
 go_wp2_with fail;rw[HW.o];refine Q.o.mono ?_;rintro e w1 ⟨rfl,hb1⟩;obtain⟨W2,hW2⟩:=NX9 (w1.alloc (.cells #[.int .u64 o1,.int .u64 o2] 50))
 have hb2:VE w1 W2:=by rw[<-hW2];exact(ah _ w1).alloc aj _
 have z1:=hb1.size;have WJ:Hid (Bk W2 w1.heap.size 50 #[.int .u64 o1,.int .u64 o2]):=by rw[<-hW2];exact Bk.new w1 _ _
 have hbb:VE W W2:=hb1.trans (hb2.mono z1);have VK:=ai (HK.o.below hbb (by omega));have HZ2:=ai (HZ.o.below hbb (by omega));have Vl:=ai (HY.o.below hbb (by omega));have HB2:VF w W2:=HB0.o.trans (hbb.mono (by omega));have z2:W2.heap.size=w1.heap.size+1:=by rw[<-hW2];simp
 have HW2:=ai hW2;clear hb1 hb2 hbb hW2 Q HK HZ HY HB0 k0 k1 k2 k3 k4 k5 k6;obtain⟨⟨k0,k1,k2,k3⟩,k4,k5,k6⟩:=VK.o.seven;obtain⟨⟨z0,z1',z2',z3⟩,z4,z5,z6⟩:=HZ2.o.seven;obtain⟨⟨f0,f1,f2,f3⟩,f4,f5,f6⟩:=HZ2.o.free7;obtain⟨y0,y1,g0,g1⟩:=Vl.o.two;rw[<-HW2.o]at k0 k1 k2 k3 k4 k5 k6 z0 z1' z2' z3 z4 z5 z6 f0 f1 f2 f3 f4 f5 f6 y0 y1 g0 g1;have hne:w.heap.size+1+1≠w.heap.size+1:=by omega
 by_cases hbad:ge≠0/\ge≠8
 . have hb0: (ge != 0)=true:=by simpa using hbad.1
   have hb8: (ge != 8)=true:=by simpa using hbad.2
   have F:Hid ((pl,pd)= (.no,zD)):=by show _=_;rw[<-Vk.o,if_pos hbad]
   have WL:=ai hbad;clear hbad;go_wp2_with fail;rw[HW2.o];obtain⟨h1,h2⟩:=lU HZ2.o Vl.o (.int .i64 0) (.slice none 0 0) (.slice none 0 0) (.int .i64 0) (.slice none 0 0) (.slice none 0 0) (.slice none 0 0) (.int .u64 0) (.int .u64 0);refine ZW (lT Tryz.results28 rfl rfl h1 h2 rfl) rfl ?_;rw[F.o];exact .err WL.o.1 X.o (lJ HB2.o (by omega) _ _ _ _ _ _ _ _ _)
 . have hp:=Vk.o
   rw[if_neg hbad]at hp;have Z:=ai hp;have HST:=ai (LM s.pA pn s.pc B r.p A1 m c1 l W2 (by have:=HM.o.p.below HB2.o hB;simp only[D.o]at this;exact this) (H1.o.below HB2.o hB) (by omega) (by have:=HM.o.pc;rw[D.o]at this;exact this) HM.o.pm (by omega) (by omega) Vj.o.pl Vz.o);unfold Jp at HST;simp only[az,zD]at HST;have hcs: (ge=8/\ (o1=0/\o2=0))∨ (ge=0/\ (o1 != 0 || o2 != 0)=true):=by
    rcases (show ge=8∨ge=0 by omega) with h | h
    . have:=lq.o.1 h;exact .inl ⟨h,congrArg Prod.fst this,congrArg Prod.snd this⟩
    . refine .inr ⟨h,?_⟩
      have:=lq.o.2 h;rw[Bool.or_eq_true,bne_iff_ne,bne_iff_ne];refine Classical.byContradiction fun hn=>this ?_;rw[not_or,ne_eq,ne_eq,Decidable.not_not,Decidable.not_not]at hn;exact Prod.ext hn.1 hn.2
   clear hp hbad Vk;rcases hcs with ⟨rfl,rfl,rfl⟩ | ⟨rfl,hoz⟩
   all_goals
    go_wp2_with fail;rw[HW2.o];refine HST.o.mono ?_;rintro e w3 ⟨hst,hb3⟩;have z3:=hb3.size;have Vm:=ai (VK.o.below hb3 (by omega));have HZ3:=ai (HZ2.o.below hb3 (by omega));have nO:=ai (Vl.o.below hb3 (by omega));have Vo:=ai (WJ.o.below hb3 (by omega));have HB3:VF w w3:=HB2.o.trans (hb3.mono (by omega));clear hb3 HST k0 k1 k2 k3 k4 k5 k6 z0 z1' z2' z3 z4 z5 z6 f0 f1 f2 f3 f4 f5 f6 y0 y1 g0 g1;have WM:w.heap.size+3<=w1.heap.size/\w1.heap.size<w3.heap.size:=by have:=Vo.o.lt;omega
    obtain⟨Xd,Xe⟩:=WM;by_cases htk:TckR l 0
    case neg =>
     rcases hst with ⟨z,htz,hz,rfl⟩ | ⟨h,_⟩
     case inr=>exact absurd h htk
     have hzb: (z != 0)=true:=by simpa using hz
     have WN:=ai hz;have VL:=ai (Ul htz);have F:Hid ((pl,pd)= (.no,zD)):=by show _=_;rw[<-Z.o,if_neg htk]
     obtain⟨W4,j⟩:=NX9 (w3.alloc (.cells #[.int .u64 0,.int .u64 0] 50))
     have hb4:VE w3 W4:=by rw[<-j];exact(ah _ w3).alloc aj _
     have L:=ai (HZ3.o.below hb4 (by omega));have ag:=ai (nO.o.below hb4 (by omega));have HB4:VF w W4:=HB3.o.trans (hb4.mono (by omega));obtain⟨⟨z0,z1',z2',z3'⟩,z4,z5,z6⟩:=L.o.seven;obtain⟨⟨f0,f1,f2,f3⟩,f4,f5,f6⟩:=L.o.free7;obtain⟨y0,y1,g0,g1⟩:=ag.o.two;rw[<-j]at z0 z1' z2' z3' z4 z5 z6 f0 f1 f2 f3 f4 f5 f6 y0 y1 g0 g1;have I:=ai j;clear hz htz htk hb4 j;go_wp2_with fail;rw[I.o];obtain⟨h1,h2⟩:=lU L.o ag.o (.int .i64 0) (.slice none 0 0) (.slice none 0 0) (.int .i64 0) (.slice none 0 0) (.slice none 0 0) (.slice none 0 0) (.int .u64 0) (.int .u64 0);refine ZW (lT Tryz.results28 rfl rfl h1 h2 rfl) rfl ?_;rw[F.o];exact .err WN.o VL.o (lJ HB4.o (by omega) _ _ _ _ _ _ _ _ _)
    rcases hst with ⟨z,htz,hz,_⟩ | ⟨_,hst⟩
    case inl=>exact absurd (TckR.same htz htk) hz
    have hp:=Z.o;rw[if_pos htk]at hp;have VM:Hid (OkL l):=(zI htk (fun f hf=>(Vz.o f hf).2)).1;rcases hst with ⟨q,⟨r1,r2⟩,qA,qc,hso,Vp,rfl,VN,hqc,hqm⟩ | ⟨hso,rfl⟩
    case inr =>
     have F:Hid ((pl,pd)= (.no,zD)):=by show _=_;rw[<-hp,hso]
     obtain⟨W4,j⟩:=NX9 (w3.alloc (.cells #[.int .u64 0,.int .u64 0] 50))
     have hb4:VE w3 W4:=by rw[<-j];exact(ah _ w3).alloc aj _
     have L:=ai (HZ3.o.below hb4 (by omega));have ag:=ai (nO.o.below hb4 (by omega));have HB4:VF w W4:=HB3.o.trans (hb4.mono (by omega));obtain⟨⟨z0,z1',z2',z3'⟩,z4,z5,z6⟩:=L.o.seven;obtain⟨⟨f0,f1,f2,f3⟩,f4,f5,f6⟩:=L.o.free7;obtain⟨y0,y1,g0,g1⟩:=ag.o.two;rw[<-j]at z0 z1' z2' z3' z4 z5 z6 f0 f1 f2 f3 f4 f5 f6 y0 y1 g0 g1;have I:=ai j;clear hso hp htk hb4 j;go_wp2_with fail;rw[I.o];obtain⟨h1,h2⟩:=lU L.o ag.o (.int .i64 0) (.slice none 0 0) (.slice none 0 0) (.int .i64 0) (.slice none 0 0) (.slice none 0 0) (.slice none 0 0) (.int .u64 0) (.int .u64 0);refine ZW (lT Tryz.results28 rfl rfl h1 h2 rfl) rfl ?_;rw[F.o];exact .err (by decide) (by decide) (lJ HB4.o (by omega) _ _ _ _ _ _ _ _ _)
    rw[hso]at hp;simp only at hp;have N:=ai hp;have S:=ai Vp;have VO:=ai VN;have Xi:q.length<=70000:=by have h1:=Vp.len;have h2:=IW VM.o;rw[D.o]at h1;omega
    obtain⟨W4,j⟩:=NX9 (w3.alloc (.cells #[.int .u64 r1,.int .u64 r2] 50))
    obtain⟨W5,bf⟩:=NX9 (W4.alloc (.cells #[.int .i64 3,.string ⟨#[]⟩,.slice none 0 0,.int .u64 r1,.int .u64 r2,.slice none 0 0,.string au,.int .i64 tm,.string ms] 109))
    have hb4:VE w3 W4:=by rw[<-j];exact(ah _ w3).alloc aj _
    have Xj:W4.heap.size=w3.heap.size+1:=by rw[<-j];simp
    have bg:VE W4 W5:=by rw[<-bf];exact(ah _ W4).alloc aj _
    have WO:W5.heap.size=w3.heap.size+2:=by rw[<-bf];simp;omega
    have hb5:VE w3 W5:=hb4.trans (bg.mono (by omega));have Vq:Hid (Bk W5 w3.heap.size 50 #[.int .u64 r1,.int .u64 r2]):=by
     have:Bk W4 w3.heap.size 50 #[.int .u64 r1,.int .u64 r2]:=by rw[<-j];exact Bk.new w3 _ _
     exact this.below bg (by omega)
    have nU:Hid (Bk W5 (w3.heap.size+1) 109 #[.int .i64 3,.string ⟨#[]⟩,.slice none 0 0,.int .u64 r1,.int .u64 r2,.slice none 0 0,.string au,.int .i64 tm,.string ms]):=by rw[<-bf];exact(Bk.new _ _ _).at_ (by omega)
    have bn:=ai (Vm.o.below hb5 (by omega));have oO:=ai (HZ3.o.below hb5 (by omega));have oU:=ai (nO.o.below hb5 (by omega));have T:=ai (Vo.o.below hb5 (by omega));have bz:VF w W5:=HB3.o.trans (hb5.mono (by omega));have qx:Hid (Sl W5 W5.heap.size 3 qA q.length (flat itC q)):=(VO.o.below hb5 aj).more (by omega);obtain⟨k0',k1',_,_⟩:=Vo.o.two;obtain⟨⟨k0,k1,k2,k3⟩,k4,k5,k6⟩:=Vm.o.seven;have I:=ai j;have U:=ai bf;clear hso Vp VN hp htk hb4 bg hb5 j bf Vm HZ3 nO HB3 VO
   focus
    have Vr:Hid (OkO (aY (r1,r2) (0,0) au ms tm)):=qI HCM.o S.o.wf S.o.nz R.o;have Vs:Hid ((match bC q (aY (r1,r2) (0,0) au ms tm) with
     | none=>(.no,zD)
     | some q2=>(dm r.p r.rs r.lg q2 [(nm,(0,0),dgO (aY (r1,r2) (0,0) au ms tm))],dgO (aY (r1,r2) (0,0) au ms tm)):gI×Dig)= (pl,pd)):=by
     have h:=N.o;rw[if_neg (fun h=>h.1 rfl)]at h;exact h
    obtain⟨u0,u1,_,_⟩:=T.o.two;rw[<-U.o,<-I.o]at u0 u1
    go_upto_region 13 with fail
    rw[I.o,U.o];have uw:Hid (∃(p1 p2:Int)(tA:OA)(tn tc:Nat),WfD (p1,p2)/\OkO (aY (r1,r2) (p1,p2) au ms tm)/\ (match bC q (aY (r1,r2) (p1,p2) au ms tm) with
     | none=>(.no,zD)
     | some q2=>(dm r.p r.rs r.lg q2 [(nm,(p1,p2),dgO (aY (r1,r2) (p1,p2) au ms tm))],dgO (aY (r1,r2) (p1,p2) au ms tm)):gI×Dig)= (pl,pd)/\Bk W5 w1.heap.size 50 #[.int .u64 p1,.int .u64 p2] ∧
     Bk W5 (w3.heap.size+1) 109 #[.int .i64 3,.string ⟨#[]⟩,.slice none 0 0,.int .u64 r1,.int .u64 r2,.slice tA tn tc,.string au,.int .i64 tm,.string ms]/\ObM W5 W5.heap.size (aY (r1,r2) (p1,p2) au ms tm) ⟨none,0,0,tA,tn,tc⟩) :=
     ⟨0,0,none,0,0,R.o,Vr.o,Vs.o,T.o,nU.o,Sl.nil _ _ _ _,Sl.nil _ _ _ _,Nat.le_refl _,ZX _,Nat.le_refl _,ZX _⟩
    have uA:=bn;have uD:=oO;have wo:=oU;have wz:=bz;have xe:=qx;have VP:w3.heap.size+2<=W5.heap.size:=by omega
    obtain⟨H,G⟩:=NX9 W5
    rw[G]at uw uA uD wo wz xe VP ⊢;clear G u0 u1 k0' k1' k0 k1 k2 k3 k4 k5 k6 N Z bn oO oU T bz qx nU Vq WO U
   rotate_left
   focus
    have hnz: ((o1,o2):Dig)≠zD:=fun h=>by
     have e1:o1=0:=congrArg Prod.fst h;have e2:o2=0:=congrArg Prod.snd h;rw[e1,e2]at hoz;simp at hoz
    have VQ:=ai hnz;have Vr:Hid (OkO (aY (r1,r2) (o1,o2) au ms tm)):=qI HCM.o S.o.wf S.o.nz R.o;have xn:=ai (nI s.pA pn s.pc B r.p (o1,o2) W5 (by have:=HM.o.p.below bz.o hB;simp only[D.o]at this;exact this) (by omega) (by omega) Vj.o.pl);unfold GeE at xn;simp only[az]at xn;obtain⟨⟨VR,VS,VT,VU⟩,VV,VW,VX⟩:=bn.o.seven;obtain⟨u0,u1,_,_⟩:=T.o.two;rw[<-U.o,<-I.o]at VR VS VT VU VV VW VX u0 u1;have Xf: (!(o1 == 0) || !(o2 == 0))=true:=hoz;have Xg: (!(o1 == 0))=true∨ (!(o2 == 0))=true:=by simpa using hoz
    clear hnz;go_wp2_with fail;rw[I.o,U.o];refine xn.o.mono ?_;rintro e w6 ⟨hq,hb6⟩;have z6:=hb6.size;have zt:=ai (bn.o.below hb6 (by omega));have zx:=ai (oO.o.below hb6 (by omega));have Aj:=ai (oU.o.below hb6 (by omega));have cu:=ai (T.o.below hb6 (by omega));have cO:=ai (Vq.o.below hb6 (by omega));have dN:=ai (nU.o.below hb6 (by omega));have Ak:VF w w6:=bz.o.trans (hb6.mono (by omega));have VY:Hid (Sl w6 w6.heap.size 3 qA q.length (flat itC q)):=(qx.o.below hb6 aj).more z6;clear hb6 xn VR VS VT VU VV VW VX u0 u1 k0 k1 k2 k3 k4 k5 k6 k0' k1' bn oO oU T Vq nU bz qx U;by_cases hkp:∃o,aC r.p (o1,o2)=some o/\o.tree= (r1,r2)
    . obtain⟨o,hgo,hot⟩:=hkp
      rcases hq with ⟨o',sl,hg',_,rfl,_,_,_⟩ | ⟨hg',_⟩
      case inr=>rw[hgo]at hg';cases hg'
      rw[hgo]at hg';cases hg';have F:Hid ((pl,pd)= (.keep,zD)):=by show _=_;rw[<-N.o,if_pos ⟨VQ.o,o,hgo,hot⟩]
      obtain⟨ok,od,oe,⟨t1,t2⟩,op,oa,ot,om⟩:=o;simp only at hot;cases hot
      simp only[obV,obC];obtain⟨W7,xA⟩:=NX9 (w6.alloc (.cells #[.int .i64 ok,.string od,.slice sl.eA sl.en sl.ec,.int .u64 r1,.int .u64 r2,.slice sl.pA sl.pn sl.pc,.string oa,.int .i64 ot,.string om] 109))
      have hb7:VE w6 W7:=by rw[<-xA];exact(ah _ w6).alloc aj _
      have V:=ai (zx.o.below hb7 (by omega));have ed:=ai (Aj.o.below hb7 (by omega));have zf:VF w W7:=Ak.o.trans (hb7.mono (by omega));obtain⟨⟨k0,k1,k2,k3⟩,k4,k5,k6⟩:=(zt.o.below hb7 (by omega)).seven;obtain⟨v0,v1,_,_⟩:=(cO.o.below hb7 (by omega)).two;obtain⟨⟨z0,z1',z2',z3'⟩,z4,z5,WQ⟩:=V.o.seven;obtain⟨⟨f0,f1,f2,f3⟩,f4,f5,f6⟩:=V.o.free7;obtain⟨y0,y1,g0,g1⟩:=ed.o.two;rw[<-xA]at k0 k1 k2 k3 k4 k5 k6 v0 v1 z0 z1' z2' z3' z4 z5 WQ f0 f1 f2 f3 f4 f5 f6 y0 y1 g0 g1;have WR:=ai xA;have heq: (r1 == r1 && r2 == r2)=true:=by simp
      clear hgo hb7 xA;go_wp2_with fail;rw[WR.o];obtain⟨h1,h2⟩:=lU V.o ed.o (.int .i64 r.d.sz) (.slice s.d.a1 dn s.d.c1) (.slice s.d.a2 0 s.d.c2) (.int .i64 r.d.lf) (.slice s.pA pn s.pc) (.slice s.rA rn s.rc) (.slice s.lA ln s.lc) (.int .u64 0) (.int .u64 0);refine ZW (lT Tryz.results28 rfl rfl h1 h2 rfl) rfl ?_;rw[F.o];have hbf:=lJ zf.o (show w.heap.size<=w.heap.size+1 by omega) (.int .i64 r.d.sz) (.slice s.d.a1 dn s.d.c1) (.slice s.d.a2 0 s.d.c2) (.int .i64 r.d.lf) (.slice s.pA pn s.pc) (.slice s.rA rn s.rc) (.slice s.lA ln s.lc) (.int .u64 0) (.int .u64 0);exact⟨s,by simp only[rpV,rpC,VG.o,VH.o,D.o,VI.o,VJ.o];rfl,(HM.o.below hbf hB).more (by have:=hbf.size;omega),hbf⟩
    have Vs:Hid ((match bC q (aY (r1,r2) (o1,o2) au ms tm) with
     | none=>(.no,zD)
     | some q2=>(dm r.p r.rs r.lg q2 [(nm,(o1,o2),dgO (aY (r1,r2) (o1,o2) au ms tm))],dgO (aY (r1,r2) (o1,o2) au ms tm)):gI×Dig)= (pl,pd)):=by
     have h:=N.o;rw[if_neg (fun h=>hkp h.2)]at h;exact h
    have a1:∀o,(w6.alloc o).cell? ⟨w3.heap.size,0,none⟩=some (.int .u64 r1):=fun o=>(cO.o.alloc o).two.1;have a2:∀o,(w6.alloc o).cell? ⟨w3.heap.size,1,none⟩=some (.int .u64 r2):=fun o=>(cO.o.alloc o).two.2.1;have a3:∀o,(w6.alloc o).cell? ⟨w1.heap.size,0,none⟩=some (.int .u64 o1):=fun o=>(cu.o.alloc o).two.1;have a4:∀o,(w6.alloc o).cell? ⟨w1.heap.size,1,none⟩=some (.int .u64 o2):=fun o=>(cu.o.alloc o).two.2.1;have a5:∀o o',((w6.alloc o).alloc o').cell? ⟨w3.heap.size+1,5,none⟩=some (.slice none 0 0):=fun o o'=>by have:=((dN.o.alloc o).alloc o').nine.2.2.2.2.2.1;exact this
    have a6:∀o o',((w6.alloc o).alloc o').frozen? ⟨w3.heap.size+1,5,none⟩=false:=fun o o'=>((dN.o.alloc o).alloc o').free 5;rcases hq with ⟨⟨ok,od,oe,⟨t1,t2⟩,op,oa,ot,om⟩,sl,hg',_,rfl,_,_,_⟩ | ⟨hg',rfl⟩
    case' inl =>
     have Xk: (t1 == r1 && t2 == r2)=false:=by
      rw[Bool.eq_false_iff];intro h;rw[Bool.and_eq_true,beq_iff_eq,beq_iff_eq]at h;exact hkp ⟨_,hg',Prod.ext h.1 h.2⟩
    all_goals
     simp only[obV,obC,zOb,zOs,zD];clear hg' hkp
     go_upto_region 13 with fail
     generalize hX2:World.alloc (World.alloc w6 _) _=X2;have hb2:VE w6 X2:=by rw[<-hX2];exact((ah _ w6).alloc aj _).alloc (by simp) _
     have hnd:Bk X2 (w6.heap.size+1) 50 #[.int .u64 o1,.int .u64 o2]:=by rw[<-hX2];exact(Bk.new _ _ _).at_ (by simp)
     have hob:Bk X2 (w3.heap.size+1) 109 #[.int .i64 3,.string ⟨#[]⟩,.slice none 0 0,.int .u64 r1,.int .u64 r2,.slice none 0 0,.string au,.int .i64 tm,.string ms]:=dN.o.below hb2 (by omega);obtain⟨H,G⟩:=NX9 (X2.setCell ⟨w3.heap.size+1,5,none⟩ (.slice (some ⟨w6.heap.size+1,0,none⟩) 1 1))
     have hoth:∀k,k≠w3.heap.size+1->H.heap[k]? =X2.heap[k]? :=fun k hk=>by rw[<-G];exact Z8 _ _ _ k hk
     have zT:H.heap.size=X2.heap.size:=by rw[<-G];simp
     have zX:=hnd.lt;have uA:Hid (Bk H w.heap.size 35 #[.int .i64 r.d.sz,.slice s.d.a1 dn s.d.c1,.slice s.d.a2 0 s.d.c2,.int .i64 r.d.lf,.slice s.pA pn s.pc,.slice s.rA rn s.rc,.slice s.lA ln s.lc]):=(hoth _ (by omega)).trans (zt.o.below hb2 (by omega));have uD:Hid (Bk H (w.heap.size+1) 35 rzC):=(hoth _ (by omega)).trans (zx.o.below hb2 (by omega));have wo:Hid (Bk H (w.heap.size+1+1) 50 #[.int .u64 0,.int .u64 0]):=(hoth _ (by omega)).trans (Aj.o.below hb2 (by omega));have wz:VF w H:=by rw[<-G];exact(Ak.o.trans (hb2.mono (by omega))).setCell (p:=⟨w3.heap.size+1,5,none⟩) (by show w.heap.size<=w3.heap.size+1;omega) _
     have VZ:∀(A:OA)(n:Nat)(xs:List VC)(sz:Nat),Sl X2 X2.heap.size sz A n xs-> (0<n->∃v,xs[0]? =some v/\∃x:Int,v= .int .u64 x)->2<=sz-> (∀v,xs[1]? =some v->∃x:Int,v= .int .u64 x)-> (∀k,0<n->xs.length=n*sz->k<sz->∃v,xs[k]? =some v)->True:=fun _ _ _ _ _ _ _ _ _=>trivial;have xe:Hid (Sl H H.heap.size 3 qA q.length (flat itC q)):=by
      have h:=(VY.o.below hb2 aj).more hb2.size;refine(h.avoid fun b off e hn hcc=>hoth b fun e2=>?_).more (by omega);subst e2;obtain⟨x,hx⟩:∃x,q[0]? =some x:=⟨_,Z5 hn⟩
      have c0:=hcc 0 _ (kR dD q 0 0 x _ hx rfl (by omega));have c1:=hcc 1 _ (kR dD q 0 1 x _ hx rfl (by omega));have c2:=hcc 2 _ (kR dD q 0 2 x _ hx rfl (by omega));rw[hob.cell]at c0 c1 c2
      match off,c0,c1,c2 with
      | 0,c0,_,_=>simp at c0
      | 1,c0,_,_=>simp at c0
      | 2,c0,_,_=>simp at c0
      | 3,_,_,c2=>simp at c2
      | 4,_,c1,_=>simp at c1
      | 5,c0,_,_=>simp at c0
      | 6,c0,_,_=>simp at c0
      | 7,c0,_,_=>simp at c0
      | 8,c0,_,_=>simp at c0
      | n+9,c0,_,_=>simp at c0
     have VP:w3.heap.size+2<=H.heap.size:=by omega
     have uw:Hid (∃(p1 p2:Int)(tA:OA)(tn tc:Nat),WfD (p1,p2)/\OkO (aY (r1,r2) (p1,p2) au ms tm)/\ (match bC q (aY (r1,r2) (p1,p2) au ms tm) with
      | none=>(.no,zD)
      | some q2=>(dm r.p r.rs r.lg q2 [(nm,(p1,p2),dgO (aY (r1,r2) (p1,p2) au ms tm))],dgO (aY (r1,r2) (p1,p2) au ms tm)):gI×Dig)= (pl,pd)/\Bk H w1.heap.size 50 #[.int .u64 p1,.int .u64 p2] ∧
      Bk H (w3.heap.size+1) 109 #[.int .i64 3,.string ⟨#[]⟩,.slice none 0 0,.int .u64 r1,.int .u64 r2,.slice tA tn tc,.string au,.int .i64 tm,.string ms]/\ObM H H.heap.size (aY (r1,r2) (p1,p2) au ms tm) ⟨none,0,0,tA,tn,tc⟩):=by
      refine⟨o1,o2,some ⟨w6.heap.size+1,0,none⟩,1,1,R.o,Vr.o,Vs.o,(hoth _ (by omega)).trans (cu.o.below hb2 (by omega)),?_,Sl.nil _ _ _ _,?_,Nat.le_refl _,ZX _,Nat.le_refl _,by show 1<=maxLen;unfold maxLen;omega⟩
      . rw[<-G];have:=hob.set 5 (.slice (some ⟨w6.heap.size+1,0,none⟩) 1 1);simpa using this
      . show Sl _ _ _ _ _ (flat dgC (if((o1,o2):Dig)=zD then [] else [(o1,o2)]))
        rw[if_neg VQ.o];exact Sl.of_bk (n:=1) (size:=2) ((hoth _ (by omega)).trans hnd) rfl
     rw[G];clear hX2 hb2 hnd hob G hoth zT zX VZ
   all_goals
    obtain⟨p1,p2,tA,tn,tc,hwp,fA,hpt,hod,Aq,Au⟩:=uw.o;obtain⟨⟨d1,d2⟩,hdo⟩:∃t,dgO (aY (r1,r2) (p1,p2) au ms tm)=t:=⟨_,rfl⟩
    have fO:Hid (Calls Tryz.prog 68 #[.slice qA q.length qc,.agg #[.int .i64 3,.string ⟨#[]⟩,.slice none 0 0,.int .u64 r1,.int .u64 r2,.slice tA tn tc,.string au,.int .i64 tm,.string ms]] H (PuE qA qc q (aY (r1,r2) (p1,p2) au ms tm) H)):=xu qA q.length qc H.heap.size q (aY (r1,r2) (p1,p2) au ms tm) ⟨none,0,0,tA,tn,tc⟩ H xe.o Au aj hqc hqm (by omega) S.o.ok.asc fA;unfold PuE at fO;rw[hdo]at fO hpt;simp only[az,zD]at fO;have We:=ai fA;have WS:=ai hwp;have fU:=ai hpt;have WU:=ai hdo;have Wh:=ai hod;obtain⟨u0,u1,_,_⟩:=hod.two;obtain⟨b0,b1,b2,b3,b4,b5,b6,b7,b8⟩:=Aq.nine;have Xl:=hod.lt;clear hwp fA hpt hod Aq Au hdo uw;go_wp2_with fail;refine fO.o.mono ?_;rintro e w7 ⟨hpu,hb7⟩;have z7:=hb7.size;have Wi:=ai (uA.o.below hb7 (by omega));have V:=ai (uD.o.below hb7 (by omega));have ed:=ai (wo.o.below hb7 (by omega));have WV:=ai (Wh.o.below hb7 (by omega));have zf:VF w w7:=wz.o.trans (hb7.mono (by omega));clear hb7 fO u0 u1 b0 b1 b2 b3 b4 b5 b6 b7 b8 uA uD wo Wh wz xe;rcases hpu with ⟨q2,A7,c7,hq2,rfl,hs7,_,Xh,_⟩ | ⟨hq2,rfl⟩
    case inr =>
     have F:Hid ((pl,pd)= (.no,zD)):=by show _=_;rw[<-fU.o,hq2]
     obtain⟨W8,y⟩:=NX9 (w7.alloc (.cells #[.int .u64 0,.int .u64 0] 50))
     have hb8:VE w7 W8:=by rw[<-y];exact(ah _ w7).alloc aj _
     have Vt:=ai (V.o.below hb8 (by omega));have Wj:=ai (ed.o.below hb8 (by omega));have WW:VF w W8:=zf.o.trans (hb8.mono (by omega));obtain⟨⟨z0,z1',z2',z3'⟩,z4,z5,z6⟩:=Vt.o.seven;obtain⟨⟨f0,f1,f2,f3⟩,f4,f5,f6⟩:=Vt.o.free7;obtain⟨y0,y1,g0,g1⟩:=Wj.o.two;rw[<-y]at z0 z1' z2' z3' z4 z5 z6 f0 f1 f2 f3 f4 f5 f6 y0 y1 g0 g1;have Vu:=ai y;clear hq2 hb8 y;go_wp2_with fail;rw[Vu.o];obtain⟨h1,h2⟩:=lU Vt.o Wj.o (.int .i64 0) (.slice none 0 0) (.slice none 0 0) (.int .i64 0) (.slice none 0 0) (.slice none 0 0) (.slice none 0 0) (.int .u64 0) (.int .u64 0);refine ZW (lT Tryz.results28 rfl rfl h1 h2 rfl) rfl ?_;rw[F.o];exact .err (by decide) (by decide) (lJ WW.o (by omega) _ _ _ _ _ _ _ _ _)
    have hpe:=fU.o;rw[hq2]at hpe;simp only[Prod.mk.injEq]at hpe;obtain⟨AP,rfl⟩:=hpe;have BB:=xN hq2;have gu:PlOk q2:=lN S.o.ok We.o hq2;obtain⟨WX,KF⟩:=NX9 q2.length
    rw[KF]at hs7 BB ⊢;obtain⟨W8,y⟩:=NX9 (w7.alloc (.cells #[.int .u64 d1,.int .u64 d2] 50))
    obtain⟨W9,zk⟩:=NX9 (W8.alloc (.cells #[.string nm,.int .u64 p1,.int .u64 p2,.int .u64 d1,.int .u64 d2] 85))
    have hb8:VE w7 W8:=by rw[<-y];exact(ah _ w7).alloc aj _
    have iU:VE W8 W9:=by rw[<-zk];exact(ah _ W8).alloc aj _
    have z8:W8.heap.size=w7.heap.size+1:=by rw[<-y];simp
    have M:VE w7 W9:=hb8.trans (iU.mono (by omega));have Wl:Hid (Bk W8 w7.heap.size 50 #[.int .u64 d1,.int .u64 d2]):=by rw[<-y];exact Bk.new w7 _ _
    have Wn:=ai (Wl.o.below iU (by omega));have Wp:Bk W9 (w7.heap.size+1) 85 #[.string nm,.int .u64 p1,.int .u64 p2,.int .u64 d1,.int .u64 d2]:=by rw[<-zk];exact(Bk.new W8 _ _).at_ z8
    have WY:=ai (Wi.o.below hb8 (by omega));have WZ:=ai (WV.o.below hb8 (by omega));have Wq:=ai (Wi.o.below M (by omega));have Xa:=ai (V.o.below M (by omega));have Xb:=ai (ed.o.below M (by omega));have Vw:VF w W9:=zf.o.trans (M.mono (by omega));have z9:=M.size;have zo:=ai (wI hpck r s gs a u q2 A7 WX c7 [(nm,(p1,p2),(d1,d2))] (some ⟨w7.heap.size+1,0,none⟩) 1 1 W9.heap.size W9 HD.o WE.o HJ.o Vj.o WI.o ((HM.o.below Vw.o hB).more (by have:=Vw.o.size;omega)) aj ((hs7.below M aj).more z9) (Sl.of_bk (n:=1) (size:=5) Wp rfl) (by omega)
     (fun i hi=>by obtain⟨o,ho,he⟩:=gu.enc i hi;rw[he];exact ho.len) (fun i hi=>by rw[gu.dg i hi];exact eY _) (by omega) (fun x hx=>by rw[List.mem_singleton.1 hx];exact⟨hnm,WS.o,by rw[<-WU.o];exact eY _⟩))
    have Ws:=ai (SE (p:=r.p) (q:=q2) (rs:=r.rs) (lg:=r.lg) (us:= [(nm,(p1,p2),(d1,d2))]) (by simp));rw[AP]at zo Ws;simp only[rpV,rpC,VG.o,VH.o,D.o,VI.o,VJ.o]at zo;obtain⟨u0,u1,_,_⟩:=WZ.o.two;obtain⟨e0,e1,_,_⟩:=Wl.o.two;obtain⟨⟨k0,k1,k2,k3⟩,k4,k5,k6⟩:=WY.o.seven;rw[<-y]at u0 u1 e0 e1 k0 k1 k2 k3 k4 k5 k6;have Vu:=ai y;have Xc:=ai zk;clear AP hq2 BB gu KF hs7 hb8 iU M y zk Wp fU;go_wp2_with fail;rw[Vu.o,Xc.o];refine zo.o.mono ?_;rintro e w10 hx;obtain⟨r',x,⟨s',rfl,KR,C⟩,hfin⟩:=CmtE.of (w:=w) Ws.o hx;have Nc:=ai (hfin (d1,d2));have z10:=C.size;have PR:=ai KR;have J:=ai (Wq.o.below C (by have:=Wq.o.lt;omega));have O:=ai (Xa.o.below C (by omega));have ku:=ai (Xb.o.below C (by omega));have kU:=ai (Wn.o.below C Wn.o.lt);have UB:VF w w10:=Vw.o.trans (C.mono (by omega));clear C hx hfin KR zo u0 u1 e0 e1 k0 k1 k2 k3 k4 k5 k6;obtain⟨⟨k0,k1,k2,k3⟩,k4,k5,k6⟩:=J.o.seven;obtain⟨⟨f0,f1,f2,f3⟩,f4,f5,f6⟩:=J.o.free7;obtain⟨⟨z0,z1',z2',z3'⟩,z4,z5,z6⟩:=O.o.seven;obtain⟨⟨x0,x1,x2,x3⟩,x4,x5,x6⟩:=O.o.free7;obtain⟨y0,y1,g0,g1⟩:=ku.o.two;obtain⟨u0,u1,_,_⟩:=kU.o.two;have hn1:w.heap.size≠w.heap.size+1:=by omega
    have hn2:w.heap.size≠w.heap.size+1+1:=by omega
    have hn3:w7.heap.size≠w.heap.size:=by omega
    have hn4:w7.heap.size≠w.heap.size+1:=by omega
    have Xm:w7.heap.size≠w.heap.size+1+1:=by omega
    obtain⟨c,E⟩:=NX9 (((((((w10.setCell ⟨w.heap.size,0,none⟩ (.int .i64 r'.d.sz)).setCell ⟨w.heap.size,1,none⟩ (.slice s'.d.a1 r'.d.ss.length s'.d.c1)).setCell ⟨w.heap.size,2,none⟩ (.slice s'.d.a2 r'.d.pn.length s'.d.c2)).setCell ⟨w.heap.size,3,none⟩ (.int .i64 r'.d.lf)).setCell ⟨w.heap.size,4,none⟩ (.slice s'.pA r'.p.length s'.pc)).setCell ⟨w.heap.size,5,none⟩ (.slice s'.rA r'.rs.length s'.rc)).setCell ⟨w.heap.size,6,none⟩ (.slice s'.lA r'.lg.length s'.lc))
    have Wu:Hid (Bk c w.heap.size 35 #[.int .i64 r'.d.sz,.slice s'.d.a1 r'.d.ss.length s'.d.c1,.slice s'.d.a2 r'.d.pn.length s'.d.c2,.int .i64 r'.d.lf,.slice s'.pA r'.p.length s'.pc,.slice s'.rA r'.rs.length s'.rc,.slice s'.lA r'.lg.length s'.lc]):=by rw[<-E];exact J.o.set7 _ _ _ _ _ _ _
    have hof:∀k,k≠w.heap.size->c.heap[k]? =w10.heap[k]? :=fun k hk=>by rw[<-E];exact iM _ _ _ _ _ _ _ _ _ k hk
    have K:Hid (Bk c (w.heap.size+1) 35 rzC):=(hof _ (by omega)).trans O.o;have P:Hid (Bk c (w.heap.size+1+1) 50 #[.int .u64 0,.int .u64 0]):=(hof _ (by omega)).trans ku.o;have Wv:Hid (Bk c w7.heap.size 50 #[.int .u64 d1,.int .u64 d2]):=(hof _ (by omega)).trans kU.o;have Vf:VF w c:=by rw[<-E];exact dQ UB.o aj _ _ _ _ _ _ _
    have z11:c.heap.size=w10.heap.size:=by rw[<-E];simp
    have Wx:Hid (RpM c c.heap.size r' s'):=by have:=PR.o.box J.o (by simp[bxV]) hof;rw[z11];exact this
    clear hof O ku kU UB PR J;simp only[rpV,rpC];clear z11
    go_upto_region 17 with fail
    try rw[E]
    clear E k0 k1 k2 k3 k4 k5 k6 f0 f1 f2 f3 f4 f5 f6 z0 z1' z2' z3' z4 z5 z6 x0 x1 x2 x3 x4 x5 x6 y0 y1 g0 g1 u0 u1;obtain⟨⟨k0,k1,k2,k3⟩,k4,k5,k6⟩:=Wu.o.seven;obtain⟨⟨z0,z1',z2',z3'⟩,z4,z5,z6⟩:=K.o.seven;obtain⟨⟨x0,x1,x2,x3⟩,x4,x5,x6⟩:=K.o.free7;obtain⟨y0,y1,g0,g1⟩:=P.o.two;obtain⟨u0,u1,_,_⟩:=Wv.o.two;have hfd:∀v1 v2:VC,RpM (((((((((c.setCell ⟨w.heap.size+1,0,none⟩ (.int .i64 r'.d.sz)).setCell ⟨w.heap.size+1,1,none⟩ (.slice s'.d.a1 r'.d.ss.length s'.d.c1)).setCell ⟨w.heap.size+1,2,none⟩ (.slice s'.d.a2 r'.d.pn.length s'.d.c2)).setCell ⟨w.heap.size+1,3,none⟩ (.int .i64 r'.d.lf)).setCell ⟨w.heap.size+1,4,none⟩ (.slice s'.pA r'.p.length s'.pc)).setCell ⟨w.heap.size+1,5,none⟩ (.slice s'.rA r'.rs.length s'.rc)).setCell ⟨w.heap.size+1,6,none⟩ (.slice s'.lA r'.lg.length s'.lc)).setCell ⟨w.heap.size+1+1,0,none⟩ v1).setCell ⟨w.heap.size+1+1,1,none⟩ v2) c.heap.size r' s':=fun v1 v2 =>
     (Wx.o.box K.o (by simp[rzC,bxV]) (fun k hk=>iM _ _ _ _ _ _ _ _ _ k hk)).box (t:=50) (cs:=#[.int .u64 0,.int .u64 0]) ((iM _ _ _ _ _ _ _ _ _ _ (by omega)).trans P.o) (by simp[bxV]) (fun k hk=>(Z8 _ ⟨w.heap.size+1+1,1,none⟩ _ k hk).trans (Z8 _ ⟨w.heap.size+1+1,0,none⟩ _ k hk))
    have Wy:=ai hfd;clear hfd;by_cases hx0:x=0
    . subst hx0
      go_upto_region 19 with fail
      go_region
      obtain⟨h1,h2⟩:=lU K.o P.o (.int .i64 r'.d.sz) (.slice s'.d.a1 r'.d.ss.length s'.d.c1) (.slice s'.d.a2 r'.d.pn.length s'.d.c2) (.int .i64 r'.d.lf) (.slice s'.pA r'.p.length s'.pc) (.slice s'.rA r'.rs.length s'.rc) (.slice s'.lA r'.lg.length s'.lc) (.int .u64 d1) (.int .u64 d2);have hbf:=lJ Vf.o (show w.heap.size<=w.heap.size+1 by omega) (.int .i64 r'.d.sz) (.slice s'.d.a1 r'.d.ss.length s'.d.c1) (.slice s'.d.a2 r'.d.pn.length s'.d.c2) (.int .i64 r'.d.lf) (.slice s'.pA r'.p.length s'.pc) (.slice s'.rA r'.rs.length s'.rc) (.slice s'.lA r'.lg.length s'.lc) (.int .u64 d1) (.int .u64 d2);have hfr:=(Wy.o (.int .u64 d1) (.int .u64 d2)).more (B':=c.heap.size) aj;have hsz:c.heap.size= (((((((((c.setCell ⟨w.heap.size+1,0,none⟩ (.int .i64 r'.d.sz)).setCell ⟨w.heap.size+1,1,none⟩ (.slice s'.d.a1 r'.d.ss.length s'.d.c1)).setCell ⟨w.heap.size+1,2,none⟩ (.slice s'.d.a2 r'.d.pn.length s'.d.c2)).setCell ⟨w.heap.size+1,3,none⟩ (.int .i64 r'.d.lf)).setCell ⟨w.heap.size+1,4,none⟩ (.slice s'.pA r'.p.length s'.pc)).setCell ⟨w.heap.size+1,5,none⟩ (.slice s'.rA r'.rs.length s'.rc)).setCell ⟨w.heap.size+1,6,none⟩ (.slice s'.lA r'.lg.length s'.lc)).setCell ⟨w.heap.size+1+1,0,none⟩ (.int .u64 d1)).setCell ⟨w.heap.size+1+1,1,none⟩ (.int .u64 d2)).heap.size:=by simp
      have Vx:=ai hsz;clear hsz;obtain⟨WG,WA⟩:=NX9 (((((((((c.setCell ⟨w.heap.size+1,0,none⟩ (.int .i64 r'.d.sz)).setCell ⟨w.heap.size+1,1,none⟩ (.slice s'.d.a1 r'.d.ss.length s'.d.c1)).setCell ⟨w.heap.size+1,2,none⟩ (.slice s'.d.a2 r'.d.pn.length s'.d.c2)).setCell ⟨w.heap.size+1,3,none⟩ (.int .i64 r'.d.lf)).setCell ⟨w.heap.size+1,4,none⟩ (.slice s'.pA r'.p.length s'.pc)).setCell ⟨w.heap.size+1,5,none⟩ (.slice s'.rA r'.rs.length s'.rc)).setCell ⟨w.heap.size+1,6,none⟩ (.slice s'.lA r'.lg.length s'.lc)).setCell ⟨w.heap.size+1+1,0,none⟩ (.int .u64 d1)).setCell ⟨w.heap.size+1+1,1,none⟩ (.int .u64 d2))
      rw[WA]at h1 h2 hbf hfr Vx ⊢;have h1d:Hid (Bk WG.drew (w.heap.size+1) _ _):=h1;have WB:Hid (Bk WG.drew (w.heap.size+1+1) _ _):=h2;have hbd:Hid (VE w WG.drew):=hbf.drew;have hrd:Hid (RpM WG.drew WG.drew.heap.size r' s'):=(hfr.below (ah c.heap.size WG).drew aj).more (by show c.heap.size<=WG.heap.size;rw[Vx.o];exact Nat.le_refl _);clear h1 h2 hbf hfr WA Vx k0 k1 k2 k3 k4 k5 k6 z0 z1' z2' z3' z4 z5 z6 x0 x1 x2 x3 x4 x5 x6 y0 y1 g0 g1 u0 u1;obtain⟨WH,WC⟩:=NX9 WG.drew
      rw[WC]at h1d WB hbd hrd ⊢;clear WC;go_wp2_with fail;refine ZW (lT Tryz.results28 rfl rfl h1d.o WB.o rfl) rfl ?_;exact Nc.o _ s' hrd.o hbd.o
    . have hxb: (x != 0)=true:=by simpa using hx0
      have HX0:=ai hx0;clear hx0;go_wp2_with fail;obtain⟨h1,h2⟩:=lU K.o P.o (.int .i64 r'.d.sz) (.slice s'.d.a1 r'.d.ss.length s'.d.c1) (.slice s'.d.a2 r'.d.pn.length s'.d.c2) (.int .i64 r'.d.lf) (.slice s'.pA r'.p.length s'.pc) (.slice s'.rA r'.rs.length s'.rc) (.slice s'.lA r'.lg.length s'.lc) (.int .u64 0) (.int .u64 0);have hbf:=lJ Vf.o (show w.heap.size<=w.heap.size+1 by omega) (.int .i64 r'.d.sz) (.slice s'.d.a1 r'.d.ss.length s'.d.c1) (.slice s'.d.a2 r'.d.pn.length s'.d.c2) (.int .i64 r'.d.lf) (.slice s'.pA r'.p.length s'.pc) (.slice s'.rA r'.rs.length s'.rc) (.slice s'.lA r'.lg.length s'.lc) (.int .u64 0) (.int .u64 0);refine ZW (lT Tryz.results28 rfl rfl h1 h2 rfl) rfl ?_;have hf:=Nc.o _ s' ((Wy.o (.int .u64 0) (.int .u64 0)).more (by simp)) hbf;rw[if_neg HX0.o]at hf;exact hf
section
open Go.Maps
theorem Ee{fn:Func}{c:Tmp}(h:fn.results= #[.cell c 50]){w:VA}{a:Array VC}{b:Nat}{x y:VC}(ha:a[c]?.getD undef= .pointer (some ⟨b,0,none⟩))(hk:Bk w b 50 #[x,y]) :
  (results fn a).run Tryz.prog w= .ok (.agg #[x,y]) w:=by
 have h0:=hk.cell 0;have h1:=hk.cell 1;simp at h0 h1;simp[results,h,ha,go_sem,h0,h1]
theorem BO{fn:Func}{c i j:Tmp}(h:fn.results= #[.cell c 50,.tmp i,.tmp j]){w:VA}{a:Array VC}{b:Nat}{x y v u:VC}(ha:a[c]?.getD undef= .pointer (some ⟨b,0,none⟩))(hk:Bk w b 50 #[x,y])(hv:a[i]?.getD undef=v)(hu:a[j]?.getD undef=u) :
  (results fn a).run Tryz.prog w= .ok (.tuple #[.agg #[x,y],v,u]) w:=by
 have h0:=hk.cell 0;have h1:=hk.cell 1;simp at h0 h1;simp[results,h,ha,hv,hu,go_sem,h0,h1]
theorem JK(s:VB)(hs:s.size<=maxLen)(h16:16<=s.size)(w:VA) :
  Calls Tryz.prog 229 #[.string s] w fun e w'=>e= .returned (.tuple #[az (dg (toL s)),.int .i64 16,.int .i64 0])/\VE w w':=by
 unfold maxLen at hs;have HE:=ai (IY (toL s));have K0:Bk ((w.alloc (.cells #[.int .u64 0,.int .u64 0] 50)).alloc (.cells #[.int .u64 0,.int .u64 0] 50)) w.heap.size 50 #[.int .u64 0,.int .u64 0]:=(Bk.new w 50 _).alloc _;have K1:Bk ((w.alloc (.cells #[.int .u64 0,.int .u64 0] 50)).alloc (.cells #[.int .u64 0,.int .u64 0] 50)) (w.heap.size+1) 50 #[.int .u64 0,.int .u64 0]:=by
  have:=Bk.new (w.alloc (.cells #[.int .u64 0,.int .u64 0] 50)) 50 #[.int .u64 0,.int .u64 0]
  rwa[Z9]at this
 have HB:Hid (VE w ((w.alloc (.cells #[.int .u64 0,.int .u64 0] 50)).alloc (.cells #[.int .u64 0,.int .u64 0] 50))):=((ah _ w).alloc aj _).alloc (by simp) _;have b:=ai K0;have c:=ai K1;clear K0 K1;have d:¬(s.size:Int)<16:=by omega
 go_enter Tryz.func229,Tryz.ntmps229
 go_wp2
 go_loopw[11] (fun i wr=>∃k:Nat,k<=16/\i= .int .i64 k/\Hid (Bk wr w.heap.size 50 #[.int .u64 0,.int .u64 0])/\Hid (Bk wr (w.heap.size+1) 50 #[.int .u64 (wd1 (toL s) k),.int .u64 (wd2 (toL s) k)])/\VF w wr) (fun i _=>16 - (intOf i).toNat)
 case atStart=>exact⟨0,by omega,rfl,b.o,c.o,HB.o⟩
 case round =>
  obtain⟨k,hk,rfl,J0,J1,hB⟩:=hrel;by_cases hlt:k<16
  . have hsz:k<s.size:=by omega
    have hd:s[k].toNat<256:=s[k].toNat_lt;have hki: (k:Int)<16:=by omega
    by_cases h8:k<8
    . have hx:=Iy (l:=toL s) h8
      obtain⟨e1,e2⟩:=FI (tX hsz) h8;have a:=ai e1;have HE2:=ai e2;have y0:=J1.o.cell 0;have y1:=J1.o.cell 1;have f0:=J1.o.free 0;simp at y0 y1;clear e1 e2;have hq: (k:Int) / 8=0:=by omega
      generalize wd1 (toL s) k=x at *;generalize wd2 (toL s) k=y at *;have hor:=tY (x:=x) (y:=s[k].toNat) (by omega) (by omega);go_wp2_with fail
      go_region
      go_wp2
      go_roundw
      case rel=>exact⟨k+1,by omega,by go_num,J0.o.far (p:=⟨w.heap.size+1,0,none⟩) (by simp) _,by show Bk _ _ _ _;rw[a.o,HE2.o];exact J1.o.set 0 _,(hB.o.setCell (p:=⟨w.heap.size+1,0,none⟩) (by simp) _).drew⟩
      case measure=>simp[intOf];omega
    . have hx:=H9 (l:=toL s) hlt
      obtain⟨e1,e2⟩:=Fj (tX hsz) (by omega);have a:=ai e1;have HE2:=ai e2;have y0:=J1.o.cell 0;have y1:=J1.o.cell 1;have f1:=J1.o.free 1;simp at y0 y1;clear e1 e2;have hq: (k:Int) / 8=1:=by omega
      generalize wd1 (toL s) k=x at *;generalize wd2 (toL s) k=y at *;have hor:=tY (x:=y) (y:=s[k].toNat) (by omega) (by omega);go_wp2_with fail
      go_region
      go_wp2
      go_roundw
      case rel=>exact⟨k+1,by omega,by go_num,J0.o.far (p:=⟨w.heap.size+1,1,none⟩) (by simp) _,by show Bk _ _ _ _;rw[a.o,HE2.o];exact J1.o.set 1 _,(hB.o.setCell (p:=⟨w.heap.size+1,1,none⟩) (by simp) _).drew⟩
      case measure=>simp[intOf];omega
  . have hke:Hid (k=16):=by show _=_;omega
    have hki:¬(k:Int)<16:=by omega
    have HX:Hid (dg (toL s)= ((wd1 (toL s) k:Int),(wd2 (toL s) k:Int))):=by show _=_;rw[hke.o];exact HE.o
    obtain⟨y0,y1,_,_⟩:=J1.o.agg;obtain⟨z0,z1,f0,f1⟩:=J0.o.agg;generalize wd1 (toL s) k=x at *;generalize wd2 (toL s) k=y at *;clear hlt
    go_wp2
    exact ZW (BO Tryz.results229 rfl (J0.o.set2 _ _) rfl rfl) rfl ⟨by rw[HX.o];rfl,eX hB.o aj _ _⟩
def UJ(r:Dig×Nat×Int)(w:VA)(e:Ending)(w':VA):Prop:=e= .returned (.tuple #[az r.1,.int .i64 r.2.1,.int .i64 r.2.2])/\VE w w'
def bH(l:VD):Dig×Nat×Int:=if l.length<16 then((0,0),0,13) else(dg l,16,0)
theorem JE(s:VB)(hs:s.size<=maxLen)(w:VA):Calls Tryz.prog 229 #[.string s] w (UJ (bH (toL s)) w):=by
 by_cases h16:s.size<16
 . have HX:Hid (bH (toL s)= ((0,0),0,13)):=by show _=_;unfold bH;rw[<-aQ,if_pos h16]
   have b: (s.size:Int)<16:=by omega
   have K0:Bk ((w.alloc (.cells #[.int .u64 0,.int .u64 0] 50)).alloc (.cells #[.int .u64 0,.int .u64 0] 50)) w.heap.size 50 #[.int .u64 0,.int .u64 0]:=(Bk.new w 50 _).alloc _;have HB:Hid (VE w ((w.alloc (.cells #[.int .u64 0,.int .u64 0] 50)).alloc (.cells #[.int .u64 0,.int .u64 0] 50))):=((ah _ w).alloc aj _).alloc (by simp) _;have a:=ai K0;clear K0
   go_enter Tryz.func229,Tryz.ntmps229
   go_wp2
   rw[HX.o];exact ZW (BO Tryz.results229 rfl a.o rfl rfl) rfl ⟨rfl,HB.o⟩
 . refine(JK s hs (by omega) w).mono ?_
   rintro e w' ⟨rfl,hb⟩;have:bH (toL s)= (dg (toL s),16,0):=by unfold bH;rw[<-aQ,if_neg h16]
   rw[this];exact⟨rfl,hb⟩
def uK(r:List Upd×Int)(w:VA)(e:Ending)(w':VA):Prop :=
 ∃A m c,e= .returned (.tuple #[.slice A m c,.int .i64 r.2])/\Apd w' w.heap.size 85 5 A m c (flat upC r.1)/\m<=c/\c<=maxLen/\VE w w'
theorem oJ{r:List Upd×Int}{w w':VA}{A:OA}{x:Int}(hr:r= ([],x))(hb:VE w w'):uK r w (.returned (.tuple #[.slice A 0 0,.int .i64 x])) w':=by
 rw[hr];exact⟨A,0,0,rfl,.inr ⟨rfl,rfl,rfl⟩,Nat.le_refl _,ZX _,hb⟩
theorem Apd.low{w:VA}{base base' size n c:Nat}{e:TypeId}{A:OA}{xs:List VC}(h:Apd w base e size A n c xs)(hb:base'<=base):Apd w base' e size A n c xs:=h.imp (fun h=>Bc h hb) id
theorem Apd.keepB{w w':VA}{base size n c:Nat}{e:TypeId}{A:OA}{xs:List VC}(h:Apd w base e size A n c xs)(hk:∀k cur,base<=k->w.heap[k]? =some (.cells cur e (0,0))->w'.heap[k]? =w.heap[k]?):Apd w' base e size A n c xs :=
 h.imp (fun h=>jc h fun k e=>by obtain⟨h1,cur,h2⟩:=bV h e;exact hk k cur h1 h2) id
theorem Apd.cap{w:VA}{base size n c:Nat}{e:TypeId}{A:OA}{xs:List VC}(h:Apd w base e size A n c xs):n<=c/\c<=maxLen:=by
 rcases h with h | ⟨rfl,rfl,_⟩
 . obtain⟨A',c',e,h1,h2⟩:=rC h
   cases e;exact⟨h1,h2⟩
 . exact⟨Nat.le_refl _,ZX _⟩
theorem tV(s:VB)(k:Nat):toL (s.extract k s.size)= (toL s).drop k:=by
 show(s.extract k s.size).data.toList=_;rw[mG,ZU];rfl;rw[List.length_drop];show(toL s).length - k<=_;rw[<-aQ];omega
def zS(v:VC)(rb:Nat)(q:VB)(bad:Bool)(w:VA)(e:Ending)(w':VA):Prop:=e= .returned v/\Bk w' rb 302 #[.string q,.bool bad]/\Gb (fun g=>g=rb) w w'
theorem Kr(rb:Nat)(q:VB)(bad:Bool)(w:VA)(hk:Bk w rb 302 #[.string q,.bool bad])(hq:q.size<=1000000) :
  Calls Tryz.prog 225 #[.pointer (some ⟨rb,0,none⟩),.func (.func 226) #[] #[]] w (zS (.string (ofL (aK (toL q)).1)) rb (q.extract (aK (toL q)).2.1 q.size) (bad || (aK (toL q)).2.2 != 0) w):=by
 have hgt:=uf (toL q);rw[<-aQ]at hgt;have HK:=ai hk;obtain⟨x0,x1,f0,f1⟩:=hk.agg;clear hk
 go_enter Tryz.func225,Tryz.ntmps225
 go_wp2_with fail;refine(vM q (by unfold maxLen;omega) _).mono ?_;generalize aK (toL q)=g at *;obtain⟨t,m,e⟩:=g;obtain⟨ts,hts⟩:=NX9 (ofL t)
 rintro e' w' ⟨rfl,rfl⟩;simp only at hgt ⊢;rw[hts];have a:=ai hts;clear hts;have b: (m:Int)<= (q.size:Int):=by omega
 cases bad with
 | true =>
   go_wp2
   go_ret
   exact⟨by rw[a.o];rfl,kN HK.o _ _,kM _ _ _ _⟩
 | false =>
   go_wp2
   go_ret
   exact⟨by rw[a.o];rfl,kN HK.o _ _,kM _ _ _ _⟩
theorem KZ(rb:Nat)(q:VB)(bad:Bool)(w:VA)(hk:Bk w rb 302 #[.string q,.bool bad]) :
  Calls Tryz.prog 231 #[.pointer (some ⟨rb,0,none⟩),.func (.func 141) #[] #[]] w (zS (.int .i64 (aA (toL q)).1) rb (q.extract (aA (toL q)).2.1 q.size) (bad || (aA (toL q)).2.2 != 0) w):=by
 have hgt:=nM (toL q);rw[<-aQ]at hgt;have HK:=ai hk;obtain⟨x0,x1,f0,f1⟩:=hk.agg;clear hk
 go_enter Tryz.func231,Tryz.ntmps231
 go_wp2_with fail;refine(mX q _).mono ?_;generalize aA (toL q)=g at *;obtain⟨t,m,e⟩:=g;rintro e' w' ⟨rfl,rfl⟩;simp only at hgt ⊢;have a: (m:Int)<= (q.size:Int):=by omega
 cases bad with
 | true =>
   go_wp2
   go_ret
   exact⟨rfl,kN HK.o _ _,kM _ _ _ _⟩
 | false =>
   go_wp2
   go_ret
   exact⟨rfl,kN HK.o _ _,kM _ _ _ _⟩
theorem Qb(l:VD): (bH l).2.1<=l.length:=by
 unfold bH;split
 . simp
 . simp;omega
theorem CJ(rb:Nat)(q:VB)(bad:Bool)(w:VA)(hk:Bk w rb 302 #[.string q,.bool bad])(hq:q.size<=1000000) :
  Calls Tryz.prog 228 #[.pointer (some ⟨rb,0,none⟩),.func (.func 229) #[] #[]] w (zS (az (bH (toL q)).1) rb (q.extract (bH (toL q)).2.1 q.size) (bad || (bH (toL q)).2.2 != 0) w):=by
 have hgt:=Qb (toL q);rw[<-aQ]at hgt;have hlt:=hk.lt;have hka:=hk.alloc (.cells #[.int .u64 0,.int .u64 0] 50);obtain⟨x0,x1,f0,f1⟩:=hka.agg;have HK:=ai hka;have K4:=ai (Bk.new w 50 #[.int .u64 0,.int .u64 0]);clear hk hka
 go_enter Tryz.func228,Tryz.ntmps228
 go_wp2_with fail;refine(JE q (by unfold maxLen;omega) _).mono ?_;generalize bH (toL q)=g at *;obtain⟨⟨a,b⟩,m,e⟩:=g;rintro e' w2 ⟨rfl,hb2⟩;simp only[az]at hgt ⊢;have hz2:w.heap.size+1<=w2.heap.size:=by have:=hb2.size;simp at this;omega
 have J:=ai ((HK.o.below hb2 (by simp;omega)).alloc (.cells #[.int .u64 a,.int .u64 b] 50));have c:=ai ((K4.o.below hb2 (by simp)).alloc (.cells #[.int .u64 a,.int .u64 b] 50));have f:=ai (Bk.new w2 50 #[.int .u64 a,.int .u64 b]);have G2:Hid (Gb (fun g=>g=rb) w (w2.alloc (.cells #[.int .u64 a,.int .u64 b] 50))):=(Gb.of_below ((ah _ w).alloc aj _)).trans ((Gb.of_below hb2).trans (Gb.of_below ((ah _ w2).alloc aj _)));clear hb2 x0 x1 f0 f1;obtain⟨x0,x1,f0,f1⟩:=J.o.agg;obtain⟨y0,y1,g0,g1⟩:=c.o.agg;have hne1:rb≠w.heap.size:=by omega
 have hne2:rb≠w2.heap.size:=by omega
 have d: (m:Int)<= (q.size:Int):=by omega
 cases bad with
 | true =>
   go_wp2
   exact ZW (Ee Tryz.results228 rfl (((c.o.far (p:=⟨rb,1,none⟩) hne1.symm _).far (p:=⟨rb,0,none⟩) hne1.symm _).set2 _ _)) rfl
    ⟨rfl,((kN J.o _ _).far (p:=⟨w.heap.size,0,none⟩) hne1 _).far (p:=⟨w.heap.size,1,none⟩) hne1 _,((G2.o.trans (kM _ _ _ _)).after aj 0 _).after aj 1 _⟩
 | false =>
   go_wp2
   exact ZW (Ee Tryz.results228 rfl (((c.o.far (p:=⟨rb,1,none⟩) hne1.symm _).far (p:=⟨rb,0,none⟩) hne1.symm _).set2 _ _)) rfl
    ⟨rfl,((kN J.o _ _).far (p:=⟨w.heap.size,0,none⟩) hne1 _).far (p:=⟨w.heap.size,1,none⟩) hne1 _,((G2.o.trans (kM _ _ _ _)).after aj 0 _).after aj 1 _⟩
def zQ(rb ub:Nat)(q:VB)(bad:Bool)(cs:Array VC)(w:VA)(e:Ending)(w':VA):Prop:=e= .returned (.tuple #[])/\Bk w' rb 302 #[.string q,.bool bad]/\Bk w' ub 85 cs/\Gb (fun g=>g=rb∨g=ub) w w'
theorem Gb.or1{rb ub:Nat}{a b:VA}(h:Gb (fun g=>g=rb) a b):Gb (fun g=>g=rb∨g=ub) a b:=h.mono fun _ _ e=> .inl e
theorem OD(rb ub:Nat)(q:VB)(bad:Bool)(s:VB)(a b c d:Int)(w:VA)(hk:Bk w rb 302 #[.string q,.bool bad])(hu:Bk w ub 85 #[.string s,.int .u64 a,.int .u64 b,.int .u64 c,.int .u64 d])(hq:q.size<=1000000)(hne:rb≠ub) :
  Calls Tryz.prog 224 #[.pointer (some ⟨rb,0,none⟩),.pointer (some ⟨ub,0,none⟩)] w (zQ rb ub (q.extract (aK (toL q)).2.1 q.size) (bad || (aK (toL q)).2.2 != 0) #[.string (ofL (aK (toL q)).1),.int .u64 a,.int .u64 b,.int .u64 c,.int .u64 d] w):=by
 have HK:=ai hk;have HU:=ai hu;clear hk hu
 go_enter Tryz.func224,Tryz.ntmps224
 go_wp2_with fail;refine(Kr rb q bad _ HK.o hq).mono ?_;generalize ofL (aK (toL q)).1=ts at *;generalize q.extract (aK (toL q)).2.1 q.size=q' at *;generalize (bad || (aK (toL q)).2.2 != 0)=b' at *;rintro e w1 ⟨rfl,k1,g1⟩;have f:=g1.bk HU.o (fun e=>hne e.symm);have g:=ai f;have h:=ai k1;have i:=ai g1;have u0:=f.cell 0;have f0:=f.free 0;simp at u0;clear f k1 g1
 go_wp2
 go_end0
 exact⟨rfl,h.o.far (p:=⟨ub,0,none⟩) hne _,by have:=g.o.set 0 (.string ts);simpa using this,i.o.or1.trans (Gb.set (.inr rfl) 0 _)⟩
theorem OC(rb ub:Nat)(q:VB)(bad:Bool)(s:VB)(a b c d:Int)(w:VA)(hk:Bk w rb 302 #[.string q,.bool bad])(hu:Bk w ub 85 #[.string s,.int .u64 a,.int .u64 b,.int .u64 c,.int .u64 d])(hq:q.size<=1000000)(hne:rb≠ub) :
  Calls Tryz.prog 227 #[.pointer (some ⟨rb,0,none⟩),.pointer (some ⟨ub,0,none⟩)] w (zQ rb ub (q.extract (bH (toL q)).2.1 q.size) (bad || (bH (toL q)).2.2 != 0) #[.string s,.int .u64 (bH (toL q)).1.1,.int .u64 (bH (toL q)).1.2,.int .u64 c,.int .u64 d] w):=by
 have HK:=ai hk;have HU:=ai hu;clear hk hu
 go_enter Tryz.func227,Tryz.ntmps227
 go_wp2_with fail;refine(CJ rb q bad _ HK.o hq).mono ?_;generalize bH (toL q)=g at *;obtain⟨⟨x,y⟩,m,ee⟩:=g;simp only[az];generalize q.extract m q.size=q' at *;generalize (bad || ee != 0)=b' at *;rintro e w1 ⟨rfl,k1,g1⟩;have f:=g1.bk HU.o (fun e=>hne e.symm);have h:=ai f;have i:=ai k1;have j:=ai g1;have u1:=f.cell 1;have u2:=f.cell 2;have f1:=f.free 1;have f2:=f.free 2;simp at u1 u2;clear f k1 g1
 go_wp2
 go_end0
 exact⟨rfl,(i.o.far (p:=⟨ub,1,none⟩) hne _).far (p:=⟨ub,2,none⟩) hne _,by have:=(h.o.set 1 (.int .u64 x)).set 2 (.int .u64 y);simpa using this,(j.o.or1.trans (Gb.set (.inr rfl) 1 _)).trans (Gb.set (.inr rfl) 2 _)⟩
theorem Pg(rb ub:Nat)(q:VB)(bad:Bool)(s:VB)(a b c d:Int)(w:VA)(hk:Bk w rb 302 #[.string q,.bool bad])(hu:Bk w ub 85 #[.string s,.int .u64 a,.int .u64 b,.int .u64 c,.int .u64 d])(hq:q.size<=1000000)(hne:rb≠ub) :
  Calls Tryz.prog 230 #[.pointer (some ⟨rb,0,none⟩),.pointer (some ⟨ub,0,none⟩)] w (zQ rb ub (q.extract (bH (toL q)).2.1 q.size) (bad || (bH (toL q)).2.2 != 0) #[.string s,.int .u64 a,.int .u64 b,.int .u64 (bH (toL q)).1.1,.int .u64 (bH (toL q)).1.2] w):=by
 have HK:=ai hk;have HU:=ai hu;clear hk hu
 go_enter Tryz.func230,Tryz.ntmps230
 go_wp2_with fail;refine(CJ rb q bad _ HK.o hq).mono ?_;generalize bH (toL q)=g at *;obtain⟨⟨x,y⟩,m,ee⟩:=g;simp only[az];generalize q.extract m q.size=q' at *;generalize (bad || ee != 0)=b' at *;rintro e w1 ⟨rfl,k1,g1⟩;have f:=g1.bk HU.o (fun e=>hne e.symm);have h:=ai f;have i:=ai k1;have j:=ai g1;have u1:=f.cell 3;have u2:=f.cell 4;have f1:=f.free 3;have f2:=f.free 4;simp at u1 u2;clear f k1 g1
 go_wp2
 go_end0
 exact⟨rfl,(i.o.far (p:=⟨ub,3,none⟩) hne _).far (p:=⟨ub,4,none⟩) hne _,by have:=(h.o.set 3 (.int .u64 x)).set 4 (.int .u64 y);simpa using this,(j.o.or1.trans (Gb.set (.inr rfl) 3 _)).trans (Gb.set (.inr rfl) 4 _)⟩
end
section
open Go.Maps
def pt1(q:VB):VB:=q.extract (aK (toL q)).2.1 q.size
def pt2(q:VB):VB:=q.extract (bH (toL q)).2.1 q.size
theorem Pn(q:VB):rdU (toL q)=if(((false || (aK (toL q)).2.2 != 0) || (bH (toL (pt1 q))).2.2 != 0) || (bH (toL (pt2 (pt1 q)))).2.2 != 0)=true then none
  else some ((ofL (aK (toL q)).1,(bH (toL (pt1 q))).1,(bH (toL (pt2 (pt1 q)))).1),toL (pt2 (pt2 (pt1 q)))):=by
 have e1:toL (pt1 q)= (toL q).drop (aK (toL q)).2.1:=tV _ _;unfold rdU;by_cases h1: (aK (toL q)).2.2=0
 . by_cases h2: (toL (pt1 q)).length<16
   . have g2:bH (toL (pt1 q))= ((0,0),0,13):=by unfold bH;rw[if_pos h2]
     rw[if_pos (.inr (by rw[e1,List.length_drop]at h2;omega)),if_pos (by rw[g2];simp)]
   . have g2:bH (toL (pt1 q))= (dg (toL (pt1 q)),16,0):=by unfold bH;rw[if_neg h2]
     have e2:toL (pt2 (pt1 q))= (toL q).drop ((aK (toL q)).2.1+16):=by
      rw[pt2,tV,g2,e1,List.drop_drop]
     by_cases h3: (toL (pt2 (pt1 q))).length<16
     . have g3:bH (toL (pt2 (pt1 q)))= ((0,0),0,13):=by unfold bH;rw[if_pos h3]
       rw[if_pos (.inr (by rw[e2,List.length_drop]at h3;omega)),if_pos (by rw[g3];simp)]
     . have g3:bH (toL (pt2 (pt1 q)))= (dg (toL (pt2 (pt1 q))),16,0):=by unfold bH;rw[if_neg h3]
       have e3:toL (pt2 (pt2 (pt1 q)))= (toL q).drop ((aK (toL q)).2.1+32):=by
        rw[show pt2 (pt2 (pt1 q))= (pt2 (pt1 q)).extract (bH (toL (pt2 (pt1 q)))).2.1 (pt2 (pt1 q)).size from rfl,tV,g3,e2,List.drop_drop];rfl
       rw[if_neg (by rw[e2,List.length_drop]at h3;simp[h1];omega),if_neg (by rw[g2,g3];simp[h1]),g2,g3,e1,e2,e3]
 . rw[if_pos (.inl h1),if_pos (by simp[h1])]
theorem PI(k:Nat)(l:VD)(acc:List Upd):fin acc (rdL (k+1) l)=match rdU l with | none=>([],13) | some (u,r)=>if dI u≠0 then([],13) else fin (acc++ [u]) (rdL k r):=by
 rw[rdL];cases rdU l with
 | none=>rfl
 | some p =>
   obtain⟨u,r⟩:=p;simp only;cases rdL k r with
   | none=>simp[fin]
   | some p2 =>
     obtain⟨us,q⟩:=p2;simp only[fin,dM];by_cases hp:dI u=0
     . simp[hp]
     . simp[hp]
theorem yV(q:VB)(h:q.size<=1000000): (pt1 q).size<=1000000/\ (pt2 q).size<=1000000:=by
 unfold pt1 pt2;rw[ByteArray.size_extract,ByteArray.size_extract];omega
theorem Apd.gbp{p:Nat->Prop}{w w':VA}{base size n c:Nat}{e:TypeId}{A:OA}{xs:List VC}(h:Apd w base e size A n c xs)(hg:Gb p w w')(hp:∀k,base<=k->¬p k):Apd w' base e size A n c xs:=by
 rcases h with h | h
 . refine .inl ⟨h.1,?_⟩
   rcases h.2 with h0 | ⟨g,cap,cur,hv,h1,hh,h2⟩
   . exact .inl h0
   . exact .inr ⟨g,cap,cur,hv,h1,(hg.block g (Array.getElem?_eq_some_iff.1 hh).1 (hp g h1)).trans hh,h2⟩
 . exact .inr h
theorem Gb.then2{r u:Nat}{a b c:VA}(h:Gb (fun x=>x=r) a b)(g:Gb (fun x=>x=r∨x=u) b c)(hu:a.heap.size<=u):Gb (fun x=>x=r) a c :=
 ⟨g.os.trans h.os,g.tape.trans h.tape,g.output.trans h.output,ZY h.size g.size,fun i hi hn=>(g.block i (Nat.lt_of_lt_of_le hi h.size) (by rintro (e | e);exact hn e;omega)).trans (h.block i hi hn)⟩
theorem LP(l:VD): (aK l).1.length<=l.length:=by
 unfold aK;split
 . simp
 . split
   . simp
   . split
     . simp
     . simp only[List.length_take,List.length_drop];omega
def uP(s:VB)(n j:Nat)(q:VB)(bad:Bool)(acc:List Upd):Prop:=eQ (toL s)=if bad=true then([],13) else fin acc (rdL (n - j) (toL q))
theorem Ku(s:VB)(w:VA)(hs:s.size<=1000000):Calls Tryz.prog 142 #[.string s] w (uK (eQ (toL s)) w):=by
 have HR:Hid (∀r,eQ (toL s)=r->∀e w',uK r w e w'->uK (eQ (toL s)) w e w'):=fun r h e w' hh=>by rw[h];exact hh
 have HD:Hid (eQ (toL s)=if(aA (toL s)).2.2≠0∨1000< (aA (toL s)).1 then([],13) else fin [] (rdL (aA (toL s)).1 ((toL s).drop (aA (toL s)).2.1))):=rfl;obtain⟨i0,hi,hz0,hz1,hz2⟩:=info_parts uJ;have Hi:=ai hi;have C:=ai hz0;have D:=ai hz1;have E:=ai hz2;clear hi hz0 hz1 hz2;have K0:Hid (Bk ((w.alloc (.cells #[.string s,.bool false] 302)).alloc (.cells #[.func (.func 224) #[] #[],.func (.func 227) #[] #[],.func (.func 230) #[] #[]] 305)) w.heap.size 302 #[.string s,.bool false]):=(Bk.new w 302 _).alloc _;have P0:Hid (Bk ((w.alloc (.cells #[.string s,.bool false] 302)).alloc (.cells #[.func (.func 224) #[] #[],.func (.func 227) #[] #[],.func (.func 230) #[] #[]] 305)) (w.heap.size+1) 305 #[.func (.func 224) #[] #[],.func (.func 227) #[] #[],.func (.func 230) #[] #[]]):=by
  have:=Bk.new (w.alloc (.cells #[.string s,.bool false] 302)) 305 #[.func (.func 224) #[] #[],.func (.func 227) #[] #[],.func (.func 230) #[] #[]];rw[Z9]at this;exact this
 have HB0:Hid (VE w ((w.alloc (.cells #[.string s,.bool false] 302)).alloc (.cells #[.func (.func 224) #[] #[],.func (.func 227) #[] #[],.func (.func 230) #[] #[]] 305))):=((ah _ w).alloc aj _).alloc (by simp) _
 go_enter Tryz.func142,Tryz.ntmps142
 go_wp2_with fail;refine(KZ w.heap.size s false _ K0.o).mono ?_;obtain⟨q0,hq0⟩:=NX9 (s.extract (aA (toL s)).2.1 s.size)
 rw[hq0];have f:Hid (toL q0= (toL s).drop (aA (toL s)).2.1):=by show _=_;rw[<-hq0];exact tV _ _
 have F:q0.size<=1000000:=by rw[<-hq0,ByteArray.size_extract];omega
 have hgm:=xw (toL s);clear hq0;generalize aA (toL s)=g at *;obtain⟨n,k,e⟩:=g;simp only at HD f hgm ⊢;rintro e' w1 ⟨rfl,k1,g1⟩;have hz1:w.heap.size+2<=w1.heap.size:=by have:=g1.size;simp at this;omega
 have K1:=ai k1;have P1:=ai (g1.bk P0.o (by simp));have HB1:=ai (HB0.o.trans (g1.below (B:=w.heap.size) (by simp;omega) (fun k hk e=>by omega)));obtain⟨x0,x1,f0,f1⟩:=k1.agg;clear k1 g1;by_cases he:e=0
 . subst he
   by_cases hn:1000<n
   . have hni: (1000:Int)< (n:Int):=by omega
     have hn0: (0:Int)< (n:Int):=by omega
     have hfin:Hid (eQ (toL s)= ([],13)):=by show _=_;rw[HD.o,if_pos (.inr hn)]
     have hr1:=K1.o.set 1 (.bool true);have y1:=hr1.cell 1;simp at y1;clear hr1
     go_wp2
     refine wp_loop_rounds 1 ?_;rw[rounds_succ]
     go_wp2
     go_ret2
     exact oJ hfin.o (HB1.o.setCell (p:=⟨w.heap.size,1,none⟩) aj _)
   . have hni:¬(1000:Int)< (n:Int):=by omega
     have hnd:decide ((1000:Int)< (n:Int))=false:=by simpa using hni
     have HI0:Hid (uP s n 0 q0 false []):=by
      show eQ (toL s)=_;rw[HD.o,f.o,if_neg (by simp;omega)];rfl
     have KB:Hid (Bk (w1.setCell ⟨w.heap.size,1,none⟩ (.bool false)) w.heap.size 302 #[.string q0,.bool false]):=by
      show Bk _ _ _ _;have:=K1.o.set 1 (.bool false)
      simpa using this
     have PB:Hid (Bk (w1.setCell ⟨w.heap.size,1,none⟩ (.bool false)) (w.heap.size+1) 305 #[.func (.func 224) #[] #[],.func (.func 227) #[] #[],.func (.func 230) #[] #[]]):=P1.o.far (p:=⟨w.heap.size,1,none⟩) (by simp) _;have N:Hid (VE w (w1.setCell ⟨w.heap.size,1,none⟩ (.bool false))):=HB1.o.setCell (p:=⟨w.heap.size,1,none⟩) aj _;have hzb:w.heap.size+2<= (w1.setCell ⟨w.heap.size,1,none⟩ (.bool false)).heap.size:=by simp;omega
     clear HD f K1 P1
     go_wp2
     go_loopw[7,8] (fun v i wr=>∃(j:Nat)(A:OA)(c:Nat)(q:VB)(bad:Bool)(acc:List Upd),j<=n/\i= .int .i64 j/\v= .slice A j c/\q.size<=1000000/\Hid (Bk wr w.heap.size 302 #[.string q,.bool bad])/\Hid (Bk wr (w.heap.size+1) 305 #[.func (.func 224) #[] #[],.func (.func 227) #[] #[],.func (.func 230) #[] #[]]) ∧
      Hid (Apd wr (w.heap.size+2) 85 5 A j c (flat upC acc))/\Hid (uP s n j q bad acc)/\VF w wr/\w.heap.size+2<=wr.heap.size) (fun _ i _=>n - (intOf i).toNat)
     case atStart=>exact⟨0,none,0,q0,false,[],ZX _,rfl,rfl,F,KB.o,PB.o,.inr ⟨rfl,rfl,rfl⟩,HI0.o,N.o,hzb⟩
     case round =>
      clear KB PB N hzb HI0;obtain⟨j,A,c,q,bad,acc,hj,rfl,rfl,G,I,V,hA,hI,hBel,hwz⟩:=hrel;clear hni hnd;by_cases hlt:j<n
      . have hlz: (j:Int)< (n:Int):=by omega
        cases bad with
        | true =>
          have hfin:Hid (eQ (toL s)= ([],13)):=hI.o;obtain⟨x0,x1,_,_⟩:=I.o.agg
          go_wp2
          go_ret2
          exact oJ hfin.o hBel.o
        | false =>
          have HI2:Hid (eQ (toL s)=match rdU (toL q) with | none=>([],13) | some (u,r)=>if dI u≠0 then([],13) else fin (acc++ [u]) (rdL (n - (j+1)) r)):=by
           show _=_;have h1:eQ (toL s)=fin acc (rdL (n - j) (toL q)):=hI.o;rw[h1,show n - j=n - (j+1)+1 by omega,PI]
          have H:=ai (Pn q);have hp1:=(yV q G).1;have hp2:=(yV (pt1 q) hp1).2;have hp3:=(yV (pt2 (pt1 q)) hp2).2;have J:=ai (I.o.alloc (.cells #[.string ⟨#[]⟩,.int .u64 0,.int .u64 0,.int .u64 0,.int .u64 0] 85));have d:=ai (V.o.alloc (.cells #[.string ⟨#[]⟩,.int .u64 0,.int .u64 0,.int .u64 0,.int .u64 0] 85));have K:=ai (Bk.new wr 85 #[.string ⟨#[]⟩,.int .u64 0,.int .u64 0,.int .u64 0,.int .u64 0]);have L:Hid (Gb (fun g=>g=w.heap.size) wr (wr.alloc (.cells #[.string ⟨#[]⟩,.int .u64 0,.int .u64 0,.int .u64 0,.int .u64 0] 85))):=Gb.of_below ((ah _ wr).alloc aj _);obtain⟨x0,x1,_,_⟩:=I.o.agg;have y0:=d.o.cell 0;have y1:=d.o.cell 1;have y2:=d.o.cell 2;simp at y0 y1 y2
          go_wp2
          refine wp_loop_rounds 4 ?_;rw[rounds_succ];go_wp2_with fail;have a:w.heap.size≠wr.heap.size:=by omega
          have O: (ofL (aK (toL q)).1).size<=1000000:=by rw[bU];have:=LP (toL q);rw[<-aQ]at this;omega
          refine(OD w.heap.size wr.heap.size q false ⟨#[]⟩ 0 0 0 0 _ J.o K.o G a).mono ?_;rw[show q.extract (aK (toL q)).2.1 q.size=pt1 q from rfl];generalize pt1 q=q1 at *;generalize (false || (aK (toL q)).2.2 != 0)=b1 at *;generalize ofL (aK (toL q)).1=ts at *;rintro e2 w2 ⟨rfl,k2,u2,g2⟩;have K2:=ai k2;have P:=ai u2;have P2:=ai (g2.bk d.o (by intro e;omega));have G2:=ai (L.o.then2 g2 aj);have hz2:wr.heap.size+1<=w2.heap.size:=by have:=g2.size;simp at this;omega
          clear k2 u2 g2 y0 y1 y2 x0 x1;have y0:=P2.o.cell 0;have y1:=P2.o.cell 1;have y2:=P2.o.cell 2;simp at y0 y1 y2
          go_wp2
          rw[rounds_succ];go_wp2_with fail;refine(OC w.heap.size wr.heap.size q1 b1 ts 0 0 0 0 _ K2.o P.o hp1 a).mono ?_;rw[show q1.extract (bH (toL q1)).2.1 q1.size=pt2 q1 from rfl];generalize pt2 q1=q2 at *;generalize (b1 || (bH (toL q1)).2.2 != 0)=b2 at *;generalize (bH (toL q1)).1=dd1 at *;obtain⟨a0,a1⟩:=dd1;rintro e3 w3 ⟨rfl,k3,u3,g3⟩;simp only at u3;have K3:=ai k3;have Q:=ai u3;have P3:=ai (g3.bk P2.o (by intro e;omega));have G3:=ai (G2.o.then2 g3 aj);have hz3:w2.heap.size<=w3.heap.size:=g3.size;clear k3 u3 g3 y0 y1 y2;have y0:=P3.o.cell 0;have y1:=P3.o.cell 1;have y2:=P3.o.cell 2;simp at y0 y1 y2
          go_wp2
          rw[rounds_succ];go_wp2_with fail;refine(Pg w.heap.size wr.heap.size q2 b2 ts a0 a1 0 0 _ K3.o Q.o hp2 a).mono ?_;rw[show q2.extract (bH (toL q2)).2.1 q2.size=pt2 q2 from rfl];generalize pt2 q2=q3 at *;generalize (b2 || (bH (toL q2)).2.2 != 0)=b3 at *;generalize (bH (toL q2)).1=dd2 at *;obtain⟨c0,c1⟩:=dd2;rintro e4 w4 ⟨rfl,k4,u4,g4⟩;simp only at u4;have K4:=ai k4;have R:=ai u4;have P4:=ai (g4.bk P3.o (by intro e;omega));have G4:=ai (G3.o.then2 g4 aj);have W:w3.heap.size<=w4.heap.size:=g4.size;obtain⟨x0,x1,f0,f1⟩:=k4.agg;have v0:=u4.cell 0;have v1:=u4.cell 1;have v2:=u4.cell 2;have v3:=u4.cell 3;have v4:=u4.cell 4;simp at v0 v1 v2 v3 v4;clear k4 u4 g4 y0 y1 y2 K2 K3 P Q P2 P3 G2 G3
          go_wp2
          rw[rounds_succ];cases b3 with
          | true =>
            have l:Hid (uP s n (j+1) q3 true (acc++ [(ts,(a0,a1),(c0,c1))])):=by
             show eQ (toL s)=_;rw[HI2.o,H.o];rfl
            have KB:Hid (Bk (w4.setCell ⟨w.heap.size,1,none⟩ (.bool true)) w.heap.size 302 #[.string q3,.bool true]):=by
             show Bk _ _ _ _;have:=K4.o.set 1 (.bool true)
             simpa using this
            have PB:Hid (Bk (w4.setCell ⟨w.heap.size,1,none⟩ (.bool true)) (w.heap.size+1) 305 #[.func (.func 224) #[] #[],.func (.func 227) #[] #[],.func (.func 230) #[] #[]]):=P4.o.far (p:=⟨w.heap.size,1,none⟩) (by simp) _;have HG:Hid (Gb (fun x=>x=w.heap.size) wr (w4.setCell ⟨w.heap.size,1,none⟩ (.bool true))):=G4.o.trans (Gb.set (p:=fun x=>x=w.heap.size) (x:=w.heap.size) rfl 1 _);have b:=R.o.far (p:=⟨w.heap.size,1,none⟩) a.symm (.bool true);have t0:=b.cell 0;have t1:=b.cell 1;have t2:=b.cell 2;have t3:=b.cell 3;have t4:=b.cell 4;simp at t0 t1 t2 t3 t4;clear b
            go_wp2_with (at_builtin;refine aO ?_)
            refine aH ?_;refine eG (base:=w.heap.size+2) _ rfl (.tmp 63) (.tmp 65) 31 rfl 85 i0 _ 48 Tryz.underlying31 Hi.o C.o D.o E.o rfl (by decide) A j c (flat upC acc) rfl ?ap (w4.heap.size+1) _ 1 _ (flat upC [(ts,(a0,a1),(c0,c1))]) rfl ?sl (rE _) (by unfold maxLen;omega) (by omega) (by simp;omega) ?_
            case ap=>exact(hA.o.gbp HG.o (fun k hk e=>by omega)).below ((ah _ _).alloc aj _)
            case sl =>
             have:=Sl.new (w4.setCell ⟨w.heap.size,1,none⟩ (.bool true)) 85 (flat upC [(ts,(a0,a1),(c0,c1))]) 1 (size:=5) rfl;have e: (w4.setCell ⟨w.heap.size,1,none⟩ (.bool true)).heap.size=w4.heap.size:=by simp
             rw[e]at this;exact this
            intro M c7 w7 a7 hb7 _ _ _;rw[<-bQ]at a7;have m:=ai a7;have o:w.heap.size+2<=w7.heap.size:=by have:=hb7.size;simp at this;omega
            have t:=ai ((KB.o.alloc (.cells #[.string ts,.int .u64 a0,.int .u64 a1,.int .u64 c0,.int .u64 c1] 85)).below hb7 (by omega));have y:=ai ((PB.o.alloc (.cells #[.string ts,.int .u64 a0,.int .u64 a1,.int .u64 c0,.int .u64 c1] 85)).below hb7 (by omega));have z:VF w w7:=((hBel.o.trans (HG.o.below (B:=w.heap.size) (by omega) (fun k hk e=>by omega))).alloc (by simp;omega) _).trans (hb7.mono (by omega));clear a7 hb7
            go_wp2
            go_roundw
            case rel=>exact⟨j+1,M,c7,q3,_,acc++ [(ts,(a0,a1),(c0,c1))],by omega,by go_num,rfl,hp3,t.o,y.o,m.o,l.o,z.o,o⟩
            case measure=>simp[intOf];omega
          | false =>
            have HI3:Hid (eQ (toL s)=if dI (ts,(a0,a1),(c0,c1))≠0 then([],13) else fin (acc++ [(ts,(a0,a1),(c0,c1))]) (rdL (n - (j+1)) (toL q3))):=by
             show _=_;rw[HI2.o,H.o];rfl
            go_wp2_with fail;refine(vK (ts,(a0,a1),(c0,c1)) _ (by show ts.size<=maxLen;unfold maxLen;omega)).mono ?_;generalize dI (ts,(a0,a1),(c0,c1))=pe at *;rintro e5 w5 ⟨rfl,hb5⟩;have X:w4.heap.size<=w5.heap.size:=hb5.size;have K5:=K4.o.below hb5 (by omega);have S:=R.o.below hb5 (by omega);have T:=P4.o.below hb5 (by omega);have U:=G4.o.trans (Gb.of_below hb5);obtain⟨pb,hpb⟩:=NX9 ((pe != 0))
            have l:Hid (uP s n (j+1) q3 pb (acc++ [(ts,(a0,a1),(c0,c1))])):=by
             show eQ (toL s)=_;rw[HI3.o,<-hpb];by_cases hp:pe=0
             . rw[if_neg (by simp[hp]),if_neg (by simp[hp])]
             . rw[if_pos hp,if_pos (by simp[hp])]
            have KB:Hid (Bk (w5.setCell ⟨w.heap.size,1,none⟩ (.bool pb)) w.heap.size 302 #[.string q3,.bool pb]):=by
             show Bk _ _ _ _;have:=K5.set 1 (.bool pb)
             simpa using this
            have PB:Hid (Bk (w5.setCell ⟨w.heap.size,1,none⟩ (.bool pb)) (w.heap.size+1) 305 #[.func (.func 224) #[] #[],.func (.func 227) #[] #[],.func (.func 230) #[] #[]]):=T.far (p:=⟨w.heap.size,1,none⟩) (by simp) _;have HG:Hid (Gb (fun x=>x=w.heap.size) wr (w5.setCell ⟨w.heap.size,1,none⟩ (.bool pb))):=U.trans (Gb.set (p:=fun x=>x=w.heap.size) (x:=w.heap.size) rfl 1 _);obtain⟨z0,z1,s0,s1⟩:=K5.agg;have b:=S.far (p:=⟨w.heap.size,1,none⟩) a.symm (.bool pb);have t0:=b.cell 0;have t1:=b.cell 1;have t2:=b.cell 2;have t3:=b.cell 3;have t4:=b.cell 4;simp at t0 t1 t2 t3 t4;clear b K5 S T U hb5 x0 x1 f0 f1 v0 v1 v2 v3 v4 HI3
            go_wp2_with (at_builtin;refine aO ?_)
            refine aH ?_;refine eG (base:=w.heap.size+2) _ rfl (.tmp 63) (.tmp 65) 31 rfl 85 i0 _ 48 Tryz.underlying31 Hi.o C.o D.o E.o rfl (by decide) A j c (flat upC acc) rfl ?ap (w5.heap.size+1) _ 1 _ (flat upC [(ts,(a0,a1),(c0,c1))]) rfl ?sl (rE _) (by unfold maxLen;omega) (by omega) (by simp;omega) ?_
            case ap=>exact(hA.o.gbp HG.o (fun k hk e=>by omega)).below ((ah _ _).alloc aj _)
            case sl =>
             have:=Sl.new (w5.setCell ⟨w.heap.size,1,none⟩ (.bool pb)) 85 (flat upC [(ts,(a0,a1),(c0,c1))]) 1 (size:=5) rfl;have e: (w5.setCell ⟨w.heap.size,1,none⟩ (.bool pb)).heap.size=w5.heap.size:=by simp
             rw[e]at this;exact this
            intro M c7 w7 a7 hb7 _ _ _;rw[<-bQ]at a7;have m:=ai a7;have o:w.heap.size+2<=w7.heap.size:=by have:=hb7.size;simp at this;omega
            have t:=ai ((KB.o.alloc (.cells #[.string ts,.int .u64 a0,.int .u64 a1,.int .u64 c0,.int .u64 c1] 85)).below hb7 (by omega));have y:=ai ((PB.o.alloc (.cells #[.string ts,.int .u64 a0,.int .u64 a1,.int .u64 c0,.int .u64 c1] 85)).below hb7 (by omega));have z:VF w w7:=((hBel.o.trans (HG.o.below (B:=w.heap.size) (by omega) (fun k hk e=>by omega))).alloc (by simp;omega) _).trans (hb7.mono (by omega));clear a7 hb7
            go_wp2
            go_roundw
            case rel=>exact⟨j+1,M,c7,q3,_,acc++ [(ts,(a0,a1),(c0,c1))],by omega,by go_num,rfl,hp3,t.o,y.o,m.o,l.o,z.o,o⟩
            case measure=>simp[intOf];omega
      . have hlz:¬(j:Int)< (n:Int):=by omega
        obtain⟨x0,x1,_,_⟩:=I.o.agg;cases bad with
        | true =>
          have hfin:Hid (eQ (toL s)= ([],13)):=hI.o
          go_wp2
          go_ret2
          exact oJ hfin.o hBel.o
        | false =>
          have hI2:eQ (toL s)=if toL q= []/\dM []=0 then(acc++ [],0) else([],13):=by
           have h1:eQ (toL s)=fin acc (rdL (n - j) (toL q)):=hI.o;rw[h1,show n - j=0 by omega,rdL,fin]
          by_cases hqe:toL q= []
          . have hfin:Hid (eQ (toL s)= (acc,0)):=by show _=_;rw[hI2,if_pos ⟨hqe,rfl⟩,List.append_nil]
            have t1:q.toList= []:=by rw[ByteArray.toList_eq];exact hqe
            have t2: (q.toList == ([]:List UInt8))=true:=by rw[t1];rfl
            clear hI2 hqe
            go_wp2
            go_ret2
            exact HR.o _ hfin.o _ _ ⟨A,j,c,rfl,hA.o.low (by omega),hA.o.cap.1,hA.o.cap.2,hBel.o⟩
          . have hfin:Hid (eQ (toL s)= ([],13)):=by show _=_;rw[hI2,if_neg (by simp[hqe])]
            have t1: (!q.toList.isEmpty)=true:=by
             rw[ByteArray.toList_eq];simp only[Bool.not_eq_true',List.isEmpty_eq_false_iff];exact hqe
            have t2: (q.toList == ([]:List UInt8))=false:=by rw[beq_eq_false_iff_ne,ByteArray.toList_eq];exact hqe
            have t3:¬q.toList= []:=by rw[ByteArray.toList_eq];exact hqe
            clear hI2 hqe
            go_wp2
            go_ret2
            exact oJ hfin.o hBel.o
 . have hne: (e != 0)=true:=by rw[bne_iff_ne];exact he
   have hfin:Hid (eQ (toL s)= ([],13)):=by show _=_;rw[HD.o,if_pos (.inl he)]
   have hr1:=K1.o.set 1 (.bool true);have y1:=hr1.cell 1;simp at y1;clear hr1 he;by_cases hn0: (0:Int)< (n:Int)
   all_goals
    go_wp2
    refine wp_loop_rounds 1 ?_;rw[rounds_succ]
    go_wp2
    go_ret2
    exact oJ hfin.o (HB1.o.setCell (p:=⟨w.heap.size,1,none⟩) aj _)
end
