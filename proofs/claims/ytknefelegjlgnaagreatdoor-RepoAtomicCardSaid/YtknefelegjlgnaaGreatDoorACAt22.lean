/-
  Lemmas of the card.
-/
import Derived.Test.YtknefelegjlgnaaGreatDoorACAt21
set_option maxRecDepth 100000
set_option maxHeartbeats 16000000
namespace Go.Proofs.YtknefelegjlgnaaGreatDoor
open Go.RowKit
theorem jR{fn:Func}{c c2 i:Tmp}(h:fn.results= #[.cell c 35,.cell c2 50,.tmp i]){w:MZ}{b b2:Nat}{a:Array M4}{x0 x1 x2 x3 x4 x5 x6 u v y:M4}(h1:a[c]?.getD undef= .pointer (some ⟨b,0,none⟩))(h2:a[c2]?.getD undef= .pointer (some ⟨b2,0,none⟩))(hk:Bk w b 35 #[x0,x1,x2,x3,x4,x5,x6])(hk2:Bk w b2 50 #[u,v])(hv:a[i]?.getD undef=y) :
  (results fn a).run Tryz.prog w= .ok (.tuple #[.agg #[x0,x1,x2,x3,x4,x5,x6],.agg #[u,v],y]) w:=by
 obtain⟨⟨k0,k1,k2,k3⟩,k4,k5,k6⟩:=hk.seven;obtain⟨g0,g1,_,_⟩:=hk2.two;simp[results,h,h1,h2,hv,go_sem,k0,k1,k2,k3,k4,k5,k6,g0,g1]
theorem jQ{w:MZ}{b:Nat}{x0 x1 x2 x3 x4 x5 x6 u v:M4}(hk:Bk w b 35 #[x0,x1,x2,x3,x4,x5,x6])(hk2:Bk w (b+1) 50 #[u,v])(y0 y1 y2 y3 y4 y5 y6 z0 z1:M4) :
  Bk (((((((((w.setCell ⟨b,0,none⟩ y0).setCell ⟨b,1,none⟩ y1).setCell ⟨b,2,none⟩ y2).setCell ⟨b,3,none⟩ y3).setCell ⟨b,4,none⟩ y4).setCell ⟨b,5,none⟩ y5).setCell ⟨b,6,none⟩ y6).setCell ⟨b+1,0,none⟩ z0).setCell ⟨b+1,1,none⟩ z1) b 35 #[y0,y1,y2,y3,y4,y5,y6] ∧
  Bk (((((((((w.setCell ⟨b,0,none⟩ y0).setCell ⟨b,1,none⟩ y1).setCell ⟨b,2,none⟩ y2).setCell ⟨b,3,none⟩ y3).setCell ⟨b,4,none⟩ y4).setCell ⟨b,5,none⟩ y5).setCell ⟨b,6,none⟩ y6).setCell ⟨b+1,0,none⟩ z0).setCell ⟨b+1,1,none⟩ z1) (b+1) 50 #[z0,z1] :=
 ⟨((hk.set7 y0 y1 y2 y3 y4 y5 y6).far (p:=⟨b+1,0,none⟩) (by show b≠b+1;omega) z0).far (p:=⟨b+1,1,none⟩) (by show b≠b+1;omega) z1,
  Bk.set2 ((gq w b y0 y1 y2 y3 y4 y5 y6 (b+1) (by omega)).trans hk2) z0 z1⟩
theorem jI{w0 w:MZ}{B b:Nat}(h:Below B w0 w)(hb:B<=b)(y0 y1 y2 y3 y4 y5 y6 z0 z1:M4) :
  Below B w0 (((((((((w.setCell ⟨b,0,none⟩ y0).setCell ⟨b,1,none⟩ y1).setCell ⟨b,2,none⟩ y2).setCell ⟨b,3,none⟩ y3).setCell ⟨b,4,none⟩ y4).setCell ⟨b,5,none⟩ y5).setCell ⟨b,6,none⟩ y6).setCell ⟨b+1,0,none⟩ z0).setCell ⟨b+1,1,none⟩ z1) :=
 ((cZ h hb y0 y1 y2 y3 y4 y5 y6).setCell (p:=⟨b+1,0,none⟩) (by show B<=b+1;omega) z0).setCell (p:=⟨b+1,1,none⟩) (by show B<=b+1;omega) z1
theorem CmtE.err{r:Rp}{a u:Nat}{d:Dig}{w w':MZ}{x:Int}(h1:x≠0)(h2:x≠20)(hb:Below w.heap.size w w'):CmtE r a u (.no,d) w (.returned (.tuple #[.agg rzC,.agg #[.int .u64 0,.int .u64 0],.int .i64 x])) w':=⟨x,h1,h2,zRs,rfl,RpM.zero _ _,hb⟩
theorem rX(hpck:iW)(r:Rp)(s:Rsl)(gs:List Gru)(a u:Nat)(nm:M3)(l:List Fl)(A1:OA)(m c1:Nat)(au ms:M3)(tm:Int)(B:Nat)(w:MZ)
  (hd:r.d.Ok) (hpn:r.d.pn= []) (hj:Jn r.d.sz r.d.ss a (recs gs) u) (hM:Mt gs r.p r.rs r.lg) (hpf:r.p.length<=49000) (hm:RpM w B r s) (hB:B<=w.heap.size)
  (h1:Sl w B 2 A1 m (flat flC l)) (hnm:nm.size<=65536) (hml:m<=1000) (hfs:∀f∈l,f.1.size<=1000000/\f.2.size<=60000) (hcm:nM au ms tm) :
  Calls Tryz.prog 28 #[rpV r s,.string nm,.slice A1 m c1,.string au,.string ms,.int .i64 tm] w (CmtE r a u (gJ r.p r.rs r.lg nm l au ms tm) w):=by
 have fL:=gY hM.rf;have fN:=kR hM.rf;have ef:∀u∈r.lg,u.1.size<=65536:=fun u hu=>by
  rw[hM.lo]at hu;obtain⟨g,hg,hu⟩:=List.mem_flatMap.1 hu;exact((hM.ok g hg).us u hu).1
 have eg:∀x∈r.rs,WfD x.2:=fun x hx=>by
  obtain⟨⟨o,ho,_⟩,_⟩:=compl_zero.1 (hM.co x hx);rw[mY hM.pl ho];exact eQ _
 obtain⟨W,hW⟩:=NX9 (((w.alloc (.cells (rpC r s) 35)).alloc (.cells rzC 35)).alloc (.cells #[.int .u64 0,.int .u64 0] 50))
 have bz:Hid (Below w.heap.size w W):=by rw[<-hW];exact(((af _ w).alloc ai _).alloc (by simp) _).alloc (by simp;omega) _
 have HK:Hid (Bk W w.heap.size 35 (rpC r s)):=by rw[<-hW];exact((Bk.new w _ _).alloc _).alloc _
 have HZ:Hid (Bk W (w.heap.size+1) 35 rzC):=by rw[<-hW];exact((Bk.new _ _ _).at_ (by simp)).alloc _
 have HY:Hid (Bk W (w.heap.size+1+1) 50 #[.int .u64 0,.int .u64 0]):=by rw[<-hW];exact(Bk.new _ _ _).at_ (by simp)
 have zW:W.heap.size=w.heap.size+3:=by rw[<-hW];simp
 have HM:=ah hm;have cU:=ah hM;have HD:=ah hd;have fO:=ah hpn;have HJ:=ah hj;have fR:=ah hpf;have am:=ah (Gl s.rA s.lA r.rs.length s.rc r.lg.length s.lc B r.rs r.lg nm W (hm.rf.below bz.o hB) (hm.l.below bz.o hB) (by omega) (by unfold maxLen;omega) (by unfold maxLen;omega) (by unfold maxLen;omega) (fun u hu=>by have:=ef u hu;unfold maxLen;omega));unfold ql at am;have aw:=ah (JR r.rs r.lg nm);have an:=ah (Bg (nm:=nm) (lg:=r.lg) eg);have ca:=ah (Li r.rs r.lg nm);obtain⟨⟨pl,pd⟩,ao⟩:∃t,gJ r.p r.rs r.lg nm l au ms tm=t:=⟨_,rfl⟩
 rw[ao];unfold gJ at ao;obtain⟨⟨⟨o1,o2⟩,ge⟩,eh⟩:∃t,bW r.rs r.lg nm=t:=⟨_,rfl⟩
 rw[eh]at ao am aw an ca;simp only at ao am aw an ca;have cV:=ah ao;have HW:=ah hW;have H1:=ah h1;have ei:=ah hfs;have ej:=ah hcm;have cW:r.d.pn.length=0:=by rw[hpn];rfl
 obtain⟨dn,cX⟩:=NX9 r.d.ss.length
 obtain⟨pn,aD⟩:=NX9 r.p.length
 obtain⟨rn,cY⟩:=NX9 r.rs.length
 obtain⟨ln,da⟩:=NX9 r.lg.length
 have el:=ah cX;have em:=ah cW;have M:=ah aD;have eo:=ah cY;have ep:=ah da;simp only[rpV,rpC,cX,cW,aD,cY,da]at HK HW am hpf ⊢;clear hd hpn hj hM hm h1 hfs hcm hW ao cW cX aD cY da eh fL fN ef eg;obtain⟨⟨k0,k1,k2,k3⟩,k4,k5,k6⟩:=HK.o.seven
 go_enter Tryz.func28,Tryz.ntmps28
 go_wp2_with fail;rw[HW.o];refine am.o.mono ?_;rintro e w1 ⟨rfl,db⟩;obtain⟨W2,aE⟩:=NX9 (w1.alloc (.cells #[.int .u64 o1,.int .u64 o2] 50))
 have E:Below w1.heap.size w1 W2:=by rw[<-aE];exact(af _ w1).alloc ai _
 have z1:=db.size;have fS:Hid (Bk W2 w1.heap.size 50 #[.int .u64 o1,.int .u64 o2]):=by rw[<-aE];exact Bk.new w1 _ _
 have ba:Below W.heap.size W W2:=db.trans (E.mono z1);have er:=ah (HK.o.below ba (by omega));have cb:=ah (HZ.o.below ba (by omega));have dc:=ah (HY.o.below ba (by omega));have cc:Hid (Below w.heap.size w W2):=bz.o.trans (ba.mono (by omega));have z2:W2.heap.size=w1.heap.size+1:=by rw[<-aE];simp
 have dd:=ah aE;clear db E ba aE am HK HZ HY bz k0 k1 k2 k3 k4 k5 k6;obtain⟨⟨k0,k1,k2,k3⟩,k4,k5,k6⟩:=er.o.seven;obtain⟨⟨z0,y,C,z3⟩,z4,z5,z6⟩:=cb.o.seven;obtain⟨⟨f0,f1,f2,f3⟩,f4,f5,f6⟩:=cb.o.free7;obtain⟨y0,y1,g0,g1⟩:=dc.o.two;rw[<-dd.o]at k0 k1 k2 k3 k4 k5 k6 z0 y C z3 z4 z5 z6 f0 f1 f2 f3 f4 f5 f6 y0 y1 g0 g1;have gS:w.heap.size+1+1≠w.heap.size+1:=by omega
 by_cases hbad:ge≠0/\ge≠8
 . have ha: (ge != 0)=true:=by simpa using hbad.1
   have K: (ge != 8)=true:=by simpa using hbad.2
   have O:Hid ((pl,pd)= (.no,zD)):=by show _=_;rw[<-cV.o,if_pos hbad]
   have fU:=ah hbad;clear hbad;go_wp2_with fail;rw[dd.o];obtain⟨h1,h2⟩:=jQ cb.o dc.o (.int .i64 0) (.slice none 0 0) (.slice none 0 0) (.int .i64 0) (.slice none 0 0) (.slice none 0 0) (.slice none 0 0) (.int .u64 0) (.int .u64 0);refine ZY (jR Tryz.results28 rfl rfl h1 h2 rfl) rfl ?_;rw[O.o];exact .err fU.o.1 aw.o (jI cc.o (by omega) _ _ _ _ _ _ _ _ _)
 . have hp:=cV.o
   rw[if_neg hbad]at hp;have bb:=ah hp;have cd:=ah (Fu s.pA pn s.pc B r.p A1 m c1 l W2 (by have:=HM.o.p.below cc.o hB;simp only[M.o]at this;exact this) (H1.o.below cc.o hB) (by omega) (by have:=HM.o.pc;rw[M.o]at this;exact this) HM.o.pm (by omega) (by omega) cU.o.pl ei.o);unfold Da at cd;simp only[aB,zD]at cd;have fW: (ge=8/\ (o1=0/\o2=0))∨ (ge=0/\ (o1 != 0 || o2 != 0)=true):=by
    rcases (show ge=8∨ge=0 by omega) with h | h
    . have:=ca.o.1 h;exact .inl ⟨h,congrArg Prod.fst this,congrArg Prod.snd this⟩
    . refine .inr ⟨h,?_⟩
      have:=ca.o.2 h;rw[Bool.or_eq_true,bne_iff_ne,bne_iff_ne];refine Classical.byContradiction fun hn=>this ?_;rw[not_or,ne_eq,ne_eq,Decidable.not_not,Decidable.not_not]at hn;exact Prod.ext hn.1 hn.2
   clear hp hbad cV;rcases fW with ⟨rfl,rfl,rfl⟩ | ⟨rfl,hoz⟩
   all_goals
    go_wp2_with fail;rw[dd.o];refine cd.o.mono ?_;rintro e w3 ⟨ce,V⟩;have z3:=V.size;have de:=ah (er.o.below V (by omega));have cf:=ah (cb.o.below V (by omega));have cg:=ah (dc.o.below V (by omega));have dj:=ah (fS.o.below V (by omega));have ch:Hid (Below w.heap.size w w3):=cc.o.trans (V.mono (by omega));clear V cd k0 k1 k2 k3 k4 k5 k6 z0 y C z3 z4 z5 z6 f0 f1 f2 f3 f4 f5 f6 y0 y1 g0 g1;have fX:w.heap.size+3<=w1.heap.size/\w1.heap.size<w3.heap.size:=by have:=dj.o.lt;omega
    obtain⟨gA,gC⟩:=fX;by_cases htk:TckR l 0
    case neg =>
     rcases ce with ⟨z,ci,hz,rfl⟩ | ⟨h,_⟩
     case inr=>exact absurd h htk
     have hb: (z != 0)=true:=by simpa using hz
     have fY:=ah hz;have es:=ah (LK ci);have O:Hid ((pl,pd)= (.no,zD)):=by show _=_;rw[<-bb.o,if_neg htk]
     obtain⟨W4,j⟩:=NX9 (w3.alloc (.cells #[.int .u64 0,.int .u64 0] 50))
     have F:Below w3.heap.size w3 W4:=by rw[<-j];exact(af _ w3).alloc ai _
     have X:=ah (cf.o.below F (by omega));have bd:=ah (cg.o.below F (by omega));have dk:Hid (Below w.heap.size w W4):=ch.o.trans (F.mono (by omega));obtain⟨⟨z0,y,C,G⟩,z4,z5,z6⟩:=X.o.seven;obtain⟨⟨f0,f1,f2,f3⟩,f4,f5,f6⟩:=X.o.free7;obtain⟨y0,y1,g0,g1⟩:=bd.o.two;rw[<-j]at z0 y C G z4 z5 z6 f0 f1 f2 f3 f4 f5 f6 y0 y1 g0 g1;have S:=ah j;clear hz ci htk F j;go_wp2_with fail;rw[S.o];obtain⟨h1,h2⟩:=jQ X.o bd.o (.int .i64 0) (.slice none 0 0) (.slice none 0 0) (.int .i64 0) (.slice none 0 0) (.slice none 0 0) (.slice none 0 0) (.int .u64 0) (.int .u64 0);refine ZY (jR Tryz.results28 rfl rfl h1 h2 rfl) rfl ?_;rw[O.o];exact .err fY.o es.o (jI dk.o (by omega) _ _ _ _ _ _ _ _ _)
    rcases ce with ⟨z,ci,hz,_⟩ | ⟨_,ce⟩
    case inl=>exact absurd (TckR.same ci htk) hz
    have hp:=bb.o;rw[if_pos htk]at hp;have et:Hid (OkL l):=(CU htk (fun f hf=>(ei.o f hf).2)).1;rcases ce with ⟨q,⟨r1,r2⟩,qA,qc,bf,dl,rfl,ev,ga,gb⟩ | ⟨bf,rfl⟩
    case inr =>
     have O:Hid ((pl,pd)= (.no,zD)):=by show _=_;rw[<-hp,bf]
     obtain⟨W4,j⟩:=NX9 (w3.alloc (.cells #[.int .u64 0,.int .u64 0] 50))
     have F:Below w3.heap.size w3 W4:=by rw[<-j];exact(af _ w3).alloc ai _
     have X:=ah (cf.o.below F (by omega));have bd:=ah (cg.o.below F (by omega));have dk:Hid (Below w.heap.size w W4):=ch.o.trans (F.mono (by omega));obtain⟨⟨z0,y,C,G⟩,z4,z5,z6⟩:=X.o.seven;obtain⟨⟨f0,f1,f2,f3⟩,f4,f5,f6⟩:=X.o.free7;obtain⟨y0,y1,g0,g1⟩:=bd.o.two;rw[<-j]at z0 y C G z4 z5 z6 f0 f1 f2 f3 f4 f5 f6 y0 y1 g0 g1;have S:=ah j;clear bf hp htk F j;go_wp2_with fail;rw[S.o];obtain⟨h1,h2⟩:=jQ X.o bd.o (.int .i64 0) (.slice none 0 0) (.slice none 0 0) (.int .i64 0) (.slice none 0 0) (.slice none 0 0) (.slice none 0 0) (.int .u64 0) (.int .u64 0);refine ZY (jR Tryz.results28 rfl rfl h1 h2 rfl) rfl ?_;rw[O.o];exact .err (by decide) (by decide) (jI dk.o (by omega) _ _ _ _ _ _ _ _ _)
    rw[bf]at hp;simp only at hp;have ad:=ah hp;have ap:=ah dl;have ew:=ah ev;have hc:q.length<=70000:=by have h1:=dl.len;have h2:=CW et.o;rw[M.o]at h1;omega
    obtain⟨W4,j⟩:=NX9 (w3.alloc (.cells #[.int .u64 r1,.int .u64 r2] 50))
    obtain⟨W5,bg⟩:=NX9 (W4.alloc (.cells #[.int .i64 3,.string ⟨#[]⟩,.slice none 0 0,.int .u64 r1,.int .u64 r2,.slice none 0 0,.string au,.int .i64 tm,.string ms] 109))
    have F:Below w3.heap.size w3 W4:=by rw[<-j];exact(af _ w3).alloc ai _
    have hh:W4.heap.size=w3.heap.size+1:=by rw[<-j];simp
    have bh:Below W4.heap.size W4 W5:=by rw[<-bg];exact(af _ W4).alloc ai _
    have gc:W5.heap.size=w3.heap.size+2:=by rw[<-bg];simp;omega
    have Y:Below w3.heap.size w3 W5:=F.trans (bh.mono (by omega));have dp:Hid (Bk W5 w3.heap.size 50 #[.int .u64 r1,.int .u64 r2]):=by
     have:Bk W4 w3.heap.size 50 #[.int .u64 r1,.int .u64 r2]:=by rw[<-j];exact Bk.new w3 _ _
     exact this.below bh (by omega)
    have cj:Hid (Bk W5 (w3.heap.size+1) 109 #[.int .i64 3,.string ⟨#[]⟩,.slice none 0 0,.int .u64 r1,.int .u64 r2,.slice none 0 0,.string au,.int .i64 tm,.string ms]):=by rw[<-bg];exact(Bk.new _ _ _).at_ (by omega)
    have bi:=ah (de.o.below Y (by omega));have ck:=ah (cf.o.below Y (by omega));have cl:=ah (cg.o.below Y (by omega));have aq:=ah (dj.o.below Y (by omega));have bj:Hid (Below w.heap.size w W5):=ch.o.trans (Y.mono (by omega));have cm:Hid (Sl W5 W5.heap.size 3 qA q.length (flat itC q)):=(ew.o.below Y ai).more (by omega);obtain⟨ex,ey,_,_⟩:=dj.o.two;obtain⟨⟨k0,k1,k2,k3⟩,k4,k5,k6⟩:=de.o.seven;have S:=ah j;have ar:=ah bg;clear bf dl ev hp htk F bh Y j bg de cf cg ch ew
   focus
    have dq:Hid (OkO (bF (r1,r2) (0,0) au ms tm)):=qG ej.o ap.o.wf ap.o.nz an.o;have dr:Hid ((match bA q (bF (r1,r2) (0,0) au ms tm) with
     | none=>(.no,zD)
     | some q2=>(dh r.p r.rs r.lg q2 [(nm,(0,0),dgO (bF (r1,r2) (0,0) au ms tm))],dgO (bF (r1,r2) (0,0) au ms tm)):fC×Dig)= (pl,pd)):=by
     have h:=ad.o;rw[if_neg (fun h=>h.1 rfl)]at h;exact h
    obtain⟨u0,u1,_,_⟩:=aq.o.two;rw[<-ar.o,<-S.o]at u0 u1
    go_upto_region 13 with fail
    rw[S.o,ar.o];have cn:Hid (∃(p1 p2:Int)(tA:OA)(tn tc:Nat),WfD (p1,p2)/\OkO (bF (r1,r2) (p1,p2) au ms tm)/\ (match bA q (bF (r1,r2) (p1,p2) au ms tm) with
     | none=>(.no,zD)
     | some q2=>(dh r.p r.rs r.lg q2 [(nm,(p1,p2),dgO (bF (r1,r2) (p1,p2) au ms tm))],dgO (bF (r1,r2) (p1,p2) au ms tm)):fC×Dig)= (pl,pd)/\Bk W5 w1.heap.size 50 #[.int .u64 p1,.int .u64 p2] ∧
     Bk W5 (w3.heap.size+1) 109 #[.int .i64 3,.string ⟨#[]⟩,.slice none 0 0,.int .u64 r1,.int .u64 r2,.slice tA tn tc,.string au,.int .i64 tm,.string ms]/\ObM W5 W5.heap.size (bF (r1,r2) (p1,p2) au ms tm) ⟨none,0,0,tA,tn,tc⟩) :=
     ⟨0,0,none,0,0,an.o,dq.o,dr.o,aq.o,cj.o,Sl.nil _ _ _ _,Sl.nil _ _ _ _,Nat.le_refl _,ZZ _,Nat.le_refl _,ZZ _⟩
    have cp:=bi;have cq:=ck;have cr:=cl;have ct:=bj;have cu:=cm;have ez:w3.heap.size+2<=W5.heap.size:=by omega
    obtain⟨WT,P⟩:=NX9 W5
    rw[P]at cn cp cq cr ct cu ez ⊢;clear P u0 u1 ex ey k0 k1 k2 k3 k4 k5 k6 ad bb bi ck cl aq bj cm cj dp gc ar
   rotate_left
   focus
    have eC: ((o1,o2):Dig)≠zD:=fun h=>by
     have e1:o1=0:=congrArg Prod.fst h;have e2:o2=0:=congrArg Prod.snd h;rw[e1,e2]at hoz;simp at hoz
    have eE:=ah eC;have dq:Hid (OkO (bF (r1,r2) (o1,o2) au ms tm)):=qG ej.o ap.o.wf ap.o.nz an.o;have cv:=ah (tK s.pA pn s.pc B r.p (o1,o2) W5 (by have:=HM.o.p.below bj.o hB;simp only[M.o]at this;exact this) (by omega) (by omega) cU.o.pl);unfold GeE at cv;simp only[aB]at cv;obtain⟨⟨eI,eJ,eK,eL⟩,eM,eN,eR⟩:=bi.o.seven;obtain⟨u0,u1,_,_⟩:=aq.o.two;rw[<-ar.o,<-S.o]at eI eJ eK eL eM eN eR u0 u1;have gE: (!(o1 == 0) || !(o2 == 0))=true:=hoz;have gO: (!(o1 == 0))=true∨ (!(o2 == 0))=true:=by simpa using hoz
    clear eC;go_wp2_with fail;rw[S.o,ar.o];refine cv.o.mono ?_;rintro e w6 ⟨hq,L⟩;have z6:=L.size;have cE:=ah (bi.o.below L (by omega));have cF:=ah (ck.o.below L (by omega));have cG:=ah (cl.o.below L (by omega));have bk:=ah (aq.o.below L (by omega));have bm:=ah (dp.o.below L (by omega));have bn:=ah (cj.o.below L (by omega));have cH:Hid (Below w.heap.size w w6):=bj.o.trans (L.mono (by omega));have eS:Hid (Sl w6 w6.heap.size 3 qA q.length (flat itC q)):=(cm.o.below L ai).more z6;clear L cv eI eJ eK eL eM eN eR u0 u1 k0 k1 k2 k3 k4 k5 k6 ex ey bi ck cl aq dp cj bj cm ar;by_cases hkp:∃o,aL r.p (o1,o2)=some o/\o.tree= (r1,r2)
    . obtain⟨o,cw,ds⟩:=hkp
      rcases hq with ⟨o',sl,Q,_,rfl,_,_,_⟩ | ⟨Q,_⟩
      case inr=>rw[cw]at Q;cases Q
      rw[cw]at Q;cases Q;have O:Hid ((pl,pd)= (.keep,zD)):=by show _=_;rw[<-ad.o,if_pos ⟨eE.o,o,cw,ds⟩]
      obtain⟨ok,od,oe,⟨t1,t2⟩,op,oa,ot,om⟩:=o;simp only at ds;cases ds
      simp only[obV,obC];obtain⟨W7,cx⟩:=NX9 (w6.alloc (.cells #[.int .i64 ok,.string od,.slice sl.eA sl.en sl.ec,.int .u64 r1,.int .u64 r2,.slice sl.pA sl.pn sl.pc,.string oa,.int .i64 ot,.string om] 109))
      have D:Below w6.heap.size w6 W7:=by rw[<-cx];exact(af _ w6).alloc ai _
      have av:=ah (cF.o.below D (by omega));have bo:=ah (cG.o.below D (by omega));have cy:Hid (Below w.heap.size w W7):=cH.o.trans (D.mono (by omega));obtain⟨⟨k0,k1,k2,k3⟩,k4,k5,k6⟩:=(cE.o.below D (by omega)).seven;obtain⟨v0,v1,_,_⟩:=(bm.o.below D (by omega)).two;obtain⟨⟨z0,y,C,G⟩,z4,z5,gd⟩:=av.o.seven;obtain⟨⟨f0,f1,f2,f3⟩,f4,f5,f6⟩:=av.o.free7;obtain⟨y0,y1,g0,g1⟩:=bo.o.two;rw[<-cx]at k0 k1 k2 k3 k4 k5 k6 v0 v1 z0 y C G z4 z5 gd f0 f1 f2 f3 f4 f5 f6 y0 y1 g0 g1;have gf:=ah cx;have hl: (r1 == r1 && r2 == r2)=true:=by simp
      clear cw D cx;go_wp2_with fail;rw[gf.o];obtain⟨h1,h2⟩:=jQ av.o bo.o (.int .i64 r.d.sz) (.slice s.d.a1 dn s.d.c1) (.slice s.d.a2 0 s.d.c2) (.int .i64 r.d.lf) (.slice s.pA pn s.pc) (.slice s.rA rn s.rc) (.slice s.lA ln s.lc) (.int .u64 0) (.int .u64 0);refine ZY (jR Tryz.results28 rfl rfl h1 h2 rfl) rfl ?_;rw[O.o];have R:=jI cy.o (show w.heap.size<=w.heap.size+1 by omega) (.int .i64 r.d.sz) (.slice s.d.a1 dn s.d.c1) (.slice s.d.a2 0 s.d.c2) (.int .i64 r.d.lf) (.slice s.pA pn s.pc) (.slice s.rA rn s.rc) (.slice s.lA ln s.lc) (.int .u64 0) (.int .u64 0);exact⟨s,by simp only[rpV,rpC,el.o,em.o,M.o,eo.o,ep.o];rfl,(HM.o.below R hB).more (by have:=R.size;omega),R⟩
    have dr:Hid ((match bA q (bF (r1,r2) (o1,o2) au ms tm) with
     | none=>(.no,zD)
     | some q2=>(dh r.p r.rs r.lg q2 [(nm,(o1,o2),dgO (bF (r1,r2) (o1,o2) au ms tm))],dgO (bF (r1,r2) (o1,o2) au ms tm)):fC×Dig)= (pl,pd)):=by
     have h:=ad.o;rw[if_neg (fun h=>hkp h.2)]at h;exact h
    have a1:∀o,(w6.alloc o).cell? ⟨w3.heap.size,0,none⟩=some (.int .u64 r1):=fun o=>(bm.o.alloc o).two.1;have a2:∀o,(w6.alloc o).cell? ⟨w3.heap.size,1,none⟩=some (.int .u64 r2):=fun o=>(bm.o.alloc o).two.2.1;have a3:∀o,(w6.alloc o).cell? ⟨w1.heap.size,0,none⟩=some (.int .u64 o1):=fun o=>(bk.o.alloc o).two.1;have a4:∀o,(w6.alloc o).cell? ⟨w1.heap.size,1,none⟩=some (.int .u64 o2):=fun o=>(bk.o.alloc o).two.2.1;have a5:∀o o',((w6.alloc o).alloc o').cell? ⟨w3.heap.size+1,5,none⟩=some (.slice none 0 0):=fun o o'=>by have:=((bn.o.alloc o).alloc o').nine.2.2.2.2.2.1;exact this
    have a6:∀o o',((w6.alloc o).alloc o').frozen? ⟨w3.heap.size+1,5,none⟩=false:=fun o o'=>((bn.o.alloc o).alloc o').free 5;rcases hq with ⟨⟨ok,od,oe,⟨t1,t2⟩,op,oa,ot,om⟩,sl,Q,_,rfl,_,_,_⟩ | ⟨Q,rfl⟩
    case' inl =>
     have hr: (t1 == r1 && t2 == r2)=false:=by
      rw[Bool.eq_false_iff];intro h;rw[Bool.and_eq_true,beq_iff_eq,beq_iff_eq]at h;exact hkp ⟨_,Q,Prod.ext h.1 h.2⟩
    all_goals
     simp only[obV,obC,zOb,zOs,zD];clear Q hkp
     go_upto_region 13 with fail
     generalize hX2:World.alloc (World.alloc w6 _) _=X2;have E:Below w6.heap.size w6 X2:=by rw[<-hX2];exact((af _ w6).alloc ai _).alloc (by simp) _
     have dt:Bk X2 (w6.heap.size+1) 50 #[.int .u64 o1,.int .u64 o2]:=by rw[<-hX2];exact(Bk.new _ _ _).at_ (by simp)
     have du:Bk X2 (w3.heap.size+1) 109 #[.int .i64 3,.string ⟨#[]⟩,.slice none 0 0,.int .u64 r1,.int .u64 r2,.slice none 0 0,.string au,.int .i64 tm,.string ms]:=bn.o.below E (by omega);obtain⟨WT,P⟩:=NX9 (X2.setCell ⟨w3.heap.size+1,5,none⟩ (.slice (some ⟨w6.heap.size+1,0,none⟩) 1 1))
     have H:∀k,k≠w3.heap.size+1->WT.heap[k]? =X2.heap[k]? :=fun k hk=>by rw[<-P];exact Z8 _ _ _ k hk
     have zT:WT.heap.size=X2.heap.size:=by rw[<-P];simp
     have zX:=dt.lt;have cp:Hid (Bk WT w.heap.size 35 #[.int .i64 r.d.sz,.slice s.d.a1 dn s.d.c1,.slice s.d.a2 0 s.d.c2,.int .i64 r.d.lf,.slice s.pA pn s.pc,.slice s.rA rn s.rc,.slice s.lA ln s.lc]):=(H _ (by omega)).trans (cE.o.below E (by omega));have cq:Hid (Bk WT (w.heap.size+1) 35 rzC):=(H _ (by omega)).trans (cF.o.below E (by omega));have cr:Hid (Bk WT (w.heap.size+1+1) 50 #[.int .u64 0,.int .u64 0]):=(H _ (by omega)).trans (cG.o.below E (by omega));have ct:Hid (Below w.heap.size w WT):=by rw[<-P];exact(cH.o.trans (E.mono (by omega))).setCell (p:=⟨w3.heap.size+1,5,none⟩) (by show w.heap.size<=w3.heap.size+1;omega) _
     have eV:∀(A:OA)(n:Nat)(xs:List M4)(sz:Nat),Sl X2 X2.heap.size sz A n xs-> (0<n->∃v,xs[0]? =some v/\∃x:Int,v= .int .u64 x)->2<=sz-> (∀v,xs[1]? =some v->∃x:Int,v= .int .u64 x)-> (∀k,0<n->xs.length=n*sz->k<sz->∃v,xs[k]? =some v)->True:=fun _ _ _ _ _ _ _ _ _=>trivial;have cu:Hid (Sl WT WT.heap.size 3 qA q.length (flat itC q)):=by
      have h:=(eS.o.below E ai).more E.size;refine(h.avoid fun b off e hn hcc=>H b fun e2=>?_).more (by omega);subst e2;obtain⟨x,hx⟩:∃x,q[0]? =some x:=⟨_,Z6 hn⟩
      have c0:=hcc 0 _ (jm bO q 0 0 x _ hx rfl (by omega));have c1:=hcc 1 _ (jm bO q 0 1 x _ hx rfl (by omega));have c2:=hcc 2 _ (jm bO q 0 2 x _ hx rfl (by omega));rw[du.cell]at c0 c1 c2
      match off,c0,c1,c2 with
      | 0,c0,_,_=>simp at c0
      | 1,c0,_,_=>simp at c0
      | 2,c0,_,_=>simp at c0
      | 3,_,_,c2=>simp at c2
      | 4,_,c1,_=>simp at c1
      | 5,c0,_,_=>simp at c0
      | 6,c0,_,_=>simp at c0
      | 7,c0,_,_=>simp at c0
      | 8,c0,_,_=>simp at c0
      | n+9,c0,_,_=>simp at c0
     have ez:w3.heap.size+2<=WT.heap.size:=by omega
     have cn:Hid (∃(p1 p2:Int)(tA:OA)(tn tc:Nat),WfD (p1,p2)/\OkO (bF (r1,r2) (p1,p2) au ms tm)/\ (match bA q (bF (r1,r2) (p1,p2) au ms tm) with
      | none=>(.no,zD)
      | some q2=>(dh r.p r.rs r.lg q2 [(nm,(p1,p2),dgO (bF (r1,r2) (p1,p2) au ms tm))],dgO (bF (r1,r2) (p1,p2) au ms tm)):fC×Dig)= (pl,pd)/\Bk WT w1.heap.size 50 #[.int .u64 p1,.int .u64 p2] ∧
      Bk WT (w3.heap.size+1) 109 #[.int .i64 3,.string ⟨#[]⟩,.slice none 0 0,.int .u64 r1,.int .u64 r2,.slice tA tn tc,.string au,.int .i64 tm,.string ms]/\ObM WT WT.heap.size (bF (r1,r2) (p1,p2) au ms tm) ⟨none,0,0,tA,tn,tc⟩):=by
      refine⟨o1,o2,some ⟨w6.heap.size+1,0,none⟩,1,1,an.o,dq.o,dr.o,(H _ (by omega)).trans (bk.o.below E (by omega)),?_,Sl.nil _ _ _ _,?_,Nat.le_refl _,ZZ _,Nat.le_refl _,by show 1<=maxLen;unfold maxLen;omega⟩
      . rw[<-P];have:=du.set 5 (.slice (some ⟨w6.heap.size+1,0,none⟩) 1 1);simpa using this
      . show Sl _ _ _ _ _ (flat dgC (if((o1,o2):Dig)=zD then [] else [(o1,o2)]))
        rw[if_neg eE.o];exact Sl.of_bk (n:=1) (size:=2) ((H _ (by omega)).trans dt) rfl
     rw[P];clear hX2 E dt du P H zT zX eV
   all_goals
    obtain⟨p1,p2,tA,tn,tc,eW,bp,dv,cz,cI,cJ⟩:=cn.o;obtain⟨⟨d1,d2⟩,dx⟩:∃t,dgO (bF (r1,r2) (p1,p2) au ms tm)=t:=⟨_,rfl⟩
    have bq:Hid (Calls Tryz.prog 68 #[.slice qA q.length qc,.agg #[.int .i64 3,.string ⟨#[]⟩,.slice none 0 0,.int .u64 r1,.int .u64 r2,.slice tA tn tc,.string au,.int .i64 tm,.string ms]] WT (PuE qA qc q (bF (r1,r2) (p1,p2) au ms tm) WT)):=uC qA q.length qc WT.heap.size q (bF (r1,r2) (p1,p2) au ms tm) ⟨none,0,0,tA,tn,tc⟩ WT cu.o cJ ai ga gb (by omega) ap.o.ok.asc bp;unfold PuE at bq;rw[dx]at bq dv;simp only[aB,zD]at bq;have fa:=ah bp;have gg:=ah eW;have br:=ah dv;have gh:=ah dx;have fb:=ah cz;obtain⟨u0,u1,_,_⟩:=cz.two;obtain⟨b0,b1,b2,b3,b4,b5,b6,b7,b8⟩:=cI.nine;have hs:=cz.lt;clear eW bp dv cz cI cJ dx cn;go_wp2_with fail;refine bq.o.mono ?_;rintro e w7 ⟨gj,D⟩;have z7:=D.size;have fc:=ah (cp.o.below D (by omega));have av:=ah (cq.o.below D (by omega));have bo:=ah (cr.o.below D (by omega));have gk:=ah (fb.o.below D (by omega));have cy:Hid (Below w.heap.size w w7):=ct.o.trans (D.mono (by omega));clear D bq u0 u1 b0 b1 b2 b3 b4 b5 b6 b7 b8 cp cq cr fb ct cu;rcases gj with ⟨q2,A7,c7,Z,rfl,dy,_,gR,_⟩ | ⟨Z,rfl⟩
    case inr =>
     have O:Hid ((pl,pd)= (.no,zD)):=by show _=_;rw[<-br.o,Z]
     obtain⟨W8,I⟩:=NX9 (w7.alloc (.cells #[.int .u64 0,.int .u64 0] 50))
     have K:Below w7.heap.size w7 W8:=by rw[<-I];exact(af _ w7).alloc ai _
     have dN:=ah (av.o.below K (by omega));have fd:=ah (bo.o.below K (by omega));have gl:Hid (Below w.heap.size w W8):=cy.o.trans (K.mono (by omega));obtain⟨⟨z0,y,C,G⟩,z4,z5,z6⟩:=dN.o.seven;obtain⟨⟨f0,f1,f2,f3⟩,f4,f5,f6⟩:=dN.o.free7;obtain⟨y0,y1,g0,g1⟩:=fd.o.two;rw[<-I]at z0 y C G z4 z5 z6 f0 f1 f2 f3 f4 f5 f6 y0 y1 g0 g1;have dT:=ah I;clear Z K I;go_wp2_with fail;rw[dT.o];obtain⟨h1,h2⟩:=jQ dN.o fd.o (.int .i64 0) (.slice none 0 0) (.slice none 0 0) (.int .i64 0) (.slice none 0 0) (.slice none 0 0) (.slice none 0 0) (.int .u64 0) (.int .u64 0);refine ZY (jR Tryz.results28 rfl rfl h1 h2 rfl) rfl ?_;rw[O.o];exact .err (by decide) (by decide) (jI gl.o (by omega) _ _ _ _ _ _ _ _ _)
    have ea:=br.o;rw[Z]at ea;simp only[Prod.mk.injEq]at ea;obtain⟨cL,rfl⟩:=ea;have cM:=uf Z;have bs:PlOk q2:=mW ap.o.ok fa.o Z;obtain⟨gn,cN⟩:=NX9 q2.length
    rw[cN]at dy cM ⊢;obtain⟨W8,I⟩:=NX9 (w7.alloc (.cells #[.int .u64 d1,.int .u64 d2] 50))
    obtain⟨W9,cA⟩:=NX9 (W8.alloc (.cells #[.string nm,.int .u64 p1,.int .u64 p2,.int .u64 d1,.int .u64 d2] 85))
    have K:Below w7.heap.size w7 W8:=by rw[<-I];exact(af _ w7).alloc ai _
    have bt:Below W8.heap.size W8 W9:=by rw[<-cA];exact(af _ W8).alloc ai _
    have z8:W8.heap.size=w7.heap.size+1:=by rw[<-I];simp
    have ab:Below w7.heap.size w7 W9:=K.trans (bt.mono (by omega));have ff:Hid (Bk W8 w7.heap.size 50 #[.int .u64 d1,.int .u64 d2]):=by rw[<-I];exact Bk.new w7 _ _
    have fg:=ah (ff.o.below bt (by omega));have fh:Bk W9 (w7.heap.size+1) 85 #[.string nm,.int .u64 p1,.int .u64 p2,.int .u64 d1,.int .u64 d2]:=by rw[<-cA];exact(Bk.new W8 _ _).at_ z8
    have gr:=ah (fc.o.below K (by omega));have gt:=ah (gk.o.below K (by omega));have fi:=ah (fc.o.below ab (by omega));have gu:=ah (av.o.below ab (by omega));have gv:=ah (bo.o.below ab (by omega));have eb:Hid (Below w.heap.size w W9):=cy.o.trans (ab.mono (by omega));have z9:=ab.size;have cC:=ah (sS hpck r s gs a u q2 A7 gn c7 [(nm,(p1,p2),(d1,d2))] (some ⟨w7.heap.size+1,0,none⟩) 1 1 W9.heap.size W9 HD.o fO.o HJ.o cU.o fR.o ((HM.o.below eb.o hB).more (by have:=eb.o.size;omega)) ai ((dy.below ab ai).more z9) (Sl.of_bk (n:=1) (size:=5) fh rfl) (by omega)
     (fun i hi=>by obtain⟨o,ho,he⟩:=bs.enc i hi;rw[he];exact ho.len) (fun i hi=>by rw[bs.dg i hi];exact eQ _) (by omega) (fun x hx=>by rw[List.mem_singleton.1 hx];exact⟨hnm,gg.o,by rw[<-gh.o];exact eQ _⟩))
    have fj:=ah (Kc (p:=r.p) (q:=q2) (rs:=r.rs) (lg:=r.lg) (us:= [(nm,(p1,p2),(d1,d2))]) (by simp));rw[cL]at cC fj;simp only[rpV,rpC,el.o,em.o,M.o,eo.o,ep.o]at cC;obtain⟨u0,u1,_,_⟩:=gt.o.two;obtain⟨e0,e1,_,_⟩:=ff.o.two;obtain⟨⟨k0,k1,k2,k3⟩,k4,k5,k6⟩:=gr.o.seven;rw[<-I]at u0 u1 e0 e1 k0 k1 k2 k3 k4 k5 k6;have dT:=ah I;have gw:=ah cA;clear cL Z cM bs cN dy K bt ab I cA fh br;go_wp2_with fail;rw[dT.o,gw.o];refine cC.o.mono ?_;rintro e cD hx;obtain⟨r',x,⟨s',rfl,cO,J⟩,cP⟩:=CmtE.of (w:=w) fj.o hx;have cQ:=ah (cP (d1,d2));have ht:=J.size;have cR:=ah cO;have T:=ah (fi.o.below J (by have:=fi.o.lt;omega));have ag:=ah (gu.o.below J (by omega));have bv:=ah (gv.o.below J (by omega));have bw:=ah (fg.o.below J fg.o.lt);have cS:Hid (Below w.heap.size w cD):=eb.o.trans (J.mono (by omega));clear J hx cP cO cC u0 u1 e0 e1 k0 k1 k2 k3 k4 k5 k6;obtain⟨⟨k0,k1,k2,k3⟩,k4,k5,k6⟩:=T.o.seven;obtain⟨⟨f0,f1,f2,f3⟩,f4,f5,f6⟩:=T.o.free7;obtain⟨⟨z0,y,C,G⟩,z4,z5,z6⟩:=ag.o.seven;obtain⟨⟨x0,x1,x2,x3⟩,x4,x5,x6⟩:=ag.o.free7;obtain⟨y0,y1,g0,g1⟩:=bv.o.two;obtain⟨u0,u1,_,_⟩:=bw.o.two;have hv:w.heap.size≠w.heap.size+1:=by omega
    have hw:w.heap.size≠w.heap.size+1+1:=by omega
    have hy:w7.heap.size≠w.heap.size:=by omega
    have hA:w7.heap.size≠w.heap.size+1:=by omega
    have hC:w7.heap.size≠w.heap.size+1+1:=by omega
    obtain⟨c,N⟩:=NX9 (((((((cD.setCell ⟨w.heap.size,0,none⟩ (.int .i64 r'.d.sz)).setCell ⟨w.heap.size,1,none⟩ (.slice s'.d.a1 r'.d.ss.length s'.d.c1)).setCell ⟨w.heap.size,2,none⟩ (.slice s'.d.a2 r'.d.pn.length s'.d.c2)).setCell ⟨w.heap.size,3,none⟩ (.int .i64 r'.d.lf)).setCell ⟨w.heap.size,4,none⟩ (.slice s'.pA r'.p.length s'.pc)).setCell ⟨w.heap.size,5,none⟩ (.slice s'.rA r'.rs.length s'.rc)).setCell ⟨w.heap.size,6,none⟩ (.slice s'.lA r'.lg.length s'.lc))
    have fk:Hid (Bk c w.heap.size 35 #[.int .i64 r'.d.sz,.slice s'.d.a1 r'.d.ss.length s'.d.c1,.slice s'.d.a2 r'.d.pn.length s'.d.c2,.int .i64 r'.d.lf,.slice s'.pA r'.p.length s'.pc,.slice s'.rA r'.rs.length s'.rc,.slice s'.lA r'.lg.length s'.lc]):=by rw[<-N];exact T.o.set7 _ _ _ _ _ _ _
    have bx:∀k,k≠w.heap.size->c.heap[k]? =cD.heap[k]? :=fun k hk=>by rw[<-N];exact gq _ _ _ _ _ _ _ _ _ k hk
    have U:Hid (Bk c (w.heap.size+1) 35 rzC):=(bx _ (by omega)).trans ag.o;have al:Hid (Bk c (w.heap.size+1+1) 50 #[.int .u64 0,.int .u64 0]):=(bx _ (by omega)).trans bv.o;have fl:Hid (Bk c w7.heap.size 50 #[.int .u64 d1,.int .u64 d2]):=(bx _ (by omega)).trans bw.o;have cT:Hid (Below w.heap.size w c):=by rw[<-N];exact cZ cS.o ai _ _ _ _ _ _ _
    have fm:c.heap.size=cD.heap.size:=by rw[<-N];simp
    have fn:Hid (RpM c c.heap.size r' s'):=by have:=cR.o.box T.o (by simp[bxV]) bx;rw[fm];exact this
    clear bx ag bv bw cS cR T;simp only[rpV,rpC];clear fm
    go_upto_region 17 with fail
    try rw[N]
    clear N k0 k1 k2 k3 k4 k5 k6 f0 f1 f2 f3 f4 f5 f6 z0 y C G z4 z5 z6 x0 x1 x2 x3 x4 x5 x6 y0 y1 g0 g1 u0 u1;obtain⟨⟨k0,k1,k2,k3⟩,k4,k5,k6⟩:=fk.o.seven;obtain⟨⟨z0,y,C,G⟩,z4,z5,z6⟩:=U.o.seven;obtain⟨⟨x0,x1,x2,x3⟩,x4,x5,x6⟩:=U.o.free7;obtain⟨y0,y1,g0,g1⟩:=al.o.two;obtain⟨u0,u1,_,_⟩:=fl.o.two;have fp:∀v1 v2:M4,RpM (((((((((c.setCell ⟨w.heap.size+1,0,none⟩ (.int .i64 r'.d.sz)).setCell ⟨w.heap.size+1,1,none⟩ (.slice s'.d.a1 r'.d.ss.length s'.d.c1)).setCell ⟨w.heap.size+1,2,none⟩ (.slice s'.d.a2 r'.d.pn.length s'.d.c2)).setCell ⟨w.heap.size+1,3,none⟩ (.int .i64 r'.d.lf)).setCell ⟨w.heap.size+1,4,none⟩ (.slice s'.pA r'.p.length s'.pc)).setCell ⟨w.heap.size+1,5,none⟩ (.slice s'.rA r'.rs.length s'.rc)).setCell ⟨w.heap.size+1,6,none⟩ (.slice s'.lA r'.lg.length s'.lc)).setCell ⟨w.heap.size+1+1,0,none⟩ v1).setCell ⟨w.heap.size+1+1,1,none⟩ v2) c.heap.size r' s':=fun v1 v2 =>
     (fn.o.box U.o (by simp[rzC,bxV]) (fun k hk=>gq _ _ _ _ _ _ _ _ _ k hk)).box (t:=50) (cs:=#[.int .u64 0,.int .u64 0]) ((gq _ _ _ _ _ _ _ _ _ _ (by omega)).trans al.o) (by simp[bxV]) (fun k hk=>(Z8 _ ⟨w.heap.size+1+1,1,none⟩ _ k hk).trans (Z8 _ ⟨w.heap.size+1+1,0,none⟩ _ k hk))
    have fr:=ah fp;clear fp;by_cases hx0:x=0
    . subst hx0
      go_upto_region 19 with fail
      go_region
      obtain⟨h1,h2⟩:=jQ U.o al.o (.int .i64 r'.d.sz) (.slice s'.d.a1 r'.d.ss.length s'.d.c1) (.slice s'.d.a2 r'.d.pn.length s'.d.c2) (.int .i64 r'.d.lf) (.slice s'.pA r'.p.length s'.pc) (.slice s'.rA r'.rs.length s'.rc) (.slice s'.lA r'.lg.length s'.lc) (.int .u64 d1) (.int .u64 d2);have R:=jI cT.o (show w.heap.size<=w.heap.size+1 by omega) (.int .i64 r'.d.sz) (.slice s'.d.a1 r'.d.ss.length s'.d.c1) (.slice s'.d.a2 r'.d.pn.length s'.d.c2) (.int .i64 r'.d.lf) (.slice s'.pA r'.p.length s'.pc) (.slice s'.rA r'.rs.length s'.rc) (.slice s'.lA r'.lg.length s'.lc) (.int .u64 d1) (.int .u64 d2);have ed:=(fr.o (.int .u64 d1) (.int .u64 d2)).more (B':=c.heap.size) ai;have fs:c.heap.size= (((((((((c.setCell ⟨w.heap.size+1,0,none⟩ (.int .i64 r'.d.sz)).setCell ⟨w.heap.size+1,1,none⟩ (.slice s'.d.a1 r'.d.ss.length s'.d.c1)).setCell ⟨w.heap.size+1,2,none⟩ (.slice s'.d.a2 r'.d.pn.length s'.d.c2)).setCell ⟨w.heap.size+1,3,none⟩ (.int .i64 r'.d.lf)).setCell ⟨w.heap.size+1,4,none⟩ (.slice s'.pA r'.p.length s'.pc)).setCell ⟨w.heap.size+1,5,none⟩ (.slice s'.rA r'.rs.length s'.rc)).setCell ⟨w.heap.size+1,6,none⟩ (.slice s'.lA r'.lg.length s'.lc)).setCell ⟨w.heap.size+1+1,0,none⟩ (.int .u64 d1)).setCell ⟨w.heap.size+1+1,1,none⟩ (.int .u64 d2)).heap.size:=by simp
      have ee:=ah fs;clear fs;obtain⟨WG,ft⟩:=NX9 (((((((((c.setCell ⟨w.heap.size+1,0,none⟩ (.int .i64 r'.d.sz)).setCell ⟨w.heap.size+1,1,none⟩ (.slice s'.d.a1 r'.d.ss.length s'.d.c1)).setCell ⟨w.heap.size+1,2,none⟩ (.slice s'.d.a2 r'.d.pn.length s'.d.c2)).setCell ⟨w.heap.size+1,3,none⟩ (.int .i64 r'.d.lf)).setCell ⟨w.heap.size+1,4,none⟩ (.slice s'.pA r'.p.length s'.pc)).setCell ⟨w.heap.size+1,5,none⟩ (.slice s'.rA r'.rs.length s'.rc)).setCell ⟨w.heap.size+1,6,none⟩ (.slice s'.lA r'.lg.length s'.lc)).setCell ⟨w.heap.size+1+1,0,none⟩ (.int .u64 d1)).setCell ⟨w.heap.size+1+1,1,none⟩ (.int .u64 d2))
      rw[ft]at h1 h2 R ed ee ⊢;have fv:Hid (Bk WG.drew (w.heap.size+1) _ _):=h1;have fx:Hid (Bk WG.drew (w.heap.size+1+1) _ _):=h2;have fy:Hid (Below w.heap.size w WG.drew):=R.drew;have fz:Hid (RpM WG.drew WG.drew.heap.size r' s'):=(ed.below (af c.heap.size WG).drew ai).more (by show c.heap.size<=WG.heap.size;rw[ee.o];exact Nat.le_refl _);clear h1 h2 R ed ft ee k0 k1 k2 k3 k4 k5 k6 z0 y C G z4 z5 z6 x0 x1 x2 x3 x4 x5 x6 y0 y1 g0 g1 u0 u1;obtain⟨WH,fA⟩:=NX9 WG.drew
      rw[fA]at fv fx fy fz ⊢;clear fA;go_wp2_with fail;refine ZY (jR Tryz.results28 rfl rfl fv.o fx.o rfl) rfl ?_;exact cQ.o _ s' fz.o fy.o
    . have hD: (x != 0)=true:=by simpa using hx0
      have gx:=ah hx0;clear hx0;go_wp2_with fail;obtain⟨h1,h2⟩:=jQ U.o al.o (.int .i64 r'.d.sz) (.slice s'.d.a1 r'.d.ss.length s'.d.c1) (.slice s'.d.a2 r'.d.pn.length s'.d.c2) (.int .i64 r'.d.lf) (.slice s'.pA r'.p.length s'.pc) (.slice s'.rA r'.rs.length s'.rc) (.slice s'.lA r'.lg.length s'.lc) (.int .u64 0) (.int .u64 0);have R:=jI cT.o (show w.heap.size<=w.heap.size+1 by omega) (.int .i64 r'.d.sz) (.slice s'.d.a1 r'.d.ss.length s'.d.c1) (.slice s'.d.a2 r'.d.pn.length s'.d.c2) (.int .i64 r'.d.lf) (.slice s'.pA r'.p.length s'.pc) (.slice s'.rA r'.rs.length s'.rc) (.slice s'.lA r'.lg.length s'.lc) (.int .u64 0) (.int .u64 0);refine ZY (jR Tryz.results28 rfl rfl h1 h2 rfl) rfl ?_;have hf:=cQ.o _ s' ((fr.o (.int .u64 0) (.int .u64 0)).more (by simp)) R;rw[if_neg gx.o]at hf;exact hf
section
open Go.Maps
theorem y9{fn:Func}{c:Tmp}(h:fn.results= #[.cell c 50]){w:MZ}{a:Array M4}{b:Nat}{x y:M4}(ha:a[c]?.getD undef= .pointer (some ⟨b,0,none⟩))(hk:Bk w b 50 #[x,y]) :
  (results fn a).run Tryz.prog w= .ok (.agg #[x,y]) w:=by
 have h0:=hk.cell 0;have h1:=hk.cell 1;simp at h0 h1;simp[results,h,ha,go_sem,h0,h1]
theorem xN{fn:Func}{c i j:Tmp}(h:fn.results= #[.cell c 50,.tmp i,.tmp j]){w:MZ}{a:Array M4}{b:Nat}{x y v u:M4}(ha:a[c]?.getD undef= .pointer (some ⟨b,0,none⟩))(hk:Bk w b 50 #[x,y])(hv:a[i]?.getD undef=v)(hu:a[j]?.getD undef=u) :
  (results fn a).run Tryz.prog w= .ok (.tuple #[.agg #[x,y],v,u]) w:=by
 have h0:=hk.cell 0;have h1:=hk.cell 1;simp at h0 h1;simp[results,h,ha,hv,hu,go_sem,h0,h1]
theorem DJ(s:M3)(hs:s.size<=maxLen)(h16:16<=s.size)(w:MZ) :
  Calls Tryz.prog 229 #[.string s] w fun e w'=>e= .returned (.tuple #[aB (dg (toL s)),.int .i64 16,.int .i64 0])/\Below w.heap.size w w':=by
 unfold maxLen at hs;have HE:=ah (vL (toL s));have K0:Bk ((w.alloc (.cells #[.int .u64 0,.int .u64 0] 50)).alloc (.cells #[.int .u64 0,.int .u64 0] 50)) w.heap.size 50 #[.int .u64 0,.int .u64 0]:=(Bk.new w 50 _).alloc _;have K1:Bk ((w.alloc (.cells #[.int .u64 0,.int .u64 0] 50)).alloc (.cells #[.int .u64 0,.int .u64 0] 50)) (w.heap.size+1) 50 #[.int .u64 0,.int .u64 0]:=by
  have:=Bk.new (w.alloc (.cells #[.int .u64 0,.int .u64 0] 50)) 50 #[.int .u64 0,.int .u64 0]
  rwa[Z9]at this
 have HB:Hid (Below w.heap.size w ((w.alloc (.cells #[.int .u64 0,.int .u64 0] 50)).alloc (.cells #[.int .u64 0,.int .u64 0] 50))):=((af _ w).alloc ai _).alloc (by simp) _;have d:=ah K0;have f:=ah K1;clear K0 K1;have m:¬(s.size:Int)<16:=by omega
 go_enter Tryz.func229,Tryz.ntmps229
 go_wp2
 go_loopw[11] (fun i wr=>∃k:Nat,k<=16/\i= .int .i64 k/\Hid (Bk wr w.heap.size 50 #[.int .u64 0,.int .u64 0])/\Hid (Bk wr (w.heap.size+1) 50 #[.int .u64 (wd1 (toL s) k),.int .u64 (wd2 (toL s) k)])/\Hid (Below w.heap.size w wr)) (fun i _=>16 - (intOf i).toNat)
 case atStart=>exact⟨0,by omega,rfl,d.o,f.o,HB.o⟩
 case round =>
  obtain⟨k,hk,rfl,J0,J1,hB⟩:=hrel;by_cases hlt:k<16
  . have c:k<s.size:=by omega
    have hd:s[k].toNat<256:=s[k].toNat_lt;have g: (k:Int)<16:=by omega
    by_cases h8:k<8
    . have hx:=vw (l:=toL s) h8
      obtain⟨e1,e2⟩:=tZ (kz c) h8;have a:=ah e1;have b:=ah e2;have y0:=J1.o.cell 0;have y1:=J1.o.cell 1;have f0:=J1.o.free 0;simp at y0 y1;clear e1 e2;have hq: (k:Int) / 8=0:=by omega
      generalize wd1 (toL s) k=x at *;generalize wd2 (toL s) k=y at *;have h:=kQ (x:=x) (y:=s[k].toNat) (by omega) (by omega);go_wp2_with fail
      go_region
      go_wp2
      go_roundw
      case rel=>exact⟨k+1,by omega,by go_num,J0.o.far (p:=⟨w.heap.size+1,0,none⟩) (by simp) _,by show Bk _ _ _ _;rw[a.o,b.o];exact J1.o.set 0 _,(hB.o.setCell (p:=⟨w.heap.size+1,0,none⟩) (by simp) _).drew⟩
      case measure=>simp[intOf];omega
    . have hx:=vo (l:=toL s) hlt
      obtain⟨e1,e2⟩:=tL (kz c) (by omega);have a:=ah e1;have b:=ah e2;have y0:=J1.o.cell 0;have y1:=J1.o.cell 1;have f1:=J1.o.free 1;simp at y0 y1;clear e1 e2;have hq: (k:Int) / 8=1:=by omega
      generalize wd1 (toL s) k=x at *;generalize wd2 (toL s) k=y at *;have h:=kQ (x:=y) (y:=s[k].toNat) (by omega) (by omega);go_wp2_with fail
      go_region
      go_wp2
      go_roundw
      case rel=>exact⟨k+1,by omega,by go_num,J0.o.far (p:=⟨w.heap.size+1,1,none⟩) (by simp) _,by show Bk _ _ _ _;rw[a.o,b.o];exact J1.o.set 1 _,(hB.o.setCell (p:=⟨w.heap.size+1,1,none⟩) (by simp) _).drew⟩
      case measure=>simp[intOf];omega
  . have j:Hid (k=16):=by show _=_;omega
    have g:¬(k:Int)<16:=by omega
    have HX:Hid (dg (toL s)= ((wd1 (toL s) k:Int),(wd2 (toL s) k:Int))):=by show _=_;rw[j.o];exact HE.o
    obtain⟨y0,y1,_,_⟩:=J1.o.agg;obtain⟨z0,z1,f0,f1⟩:=J0.o.agg;generalize wd1 (toL s) k=x at *;generalize wd2 (toL s) k=y at *;clear hlt
    go_wp2
    exact ZY (xN Tryz.results229 rfl (J0.o.set2 _ _) rfl rfl) rfl ⟨by rw[HX.o];rfl,dR hB.o ai _ _⟩
def Mc(r:Dig×Nat×Int)(w:MZ)(e:Ending)(w':MZ):Prop:=e= .returned (.tuple #[aB r.1,.int .i64 r.2.1,.int .i64 r.2.2])/\Below w.heap.size w w'
def aX(l:M5):Dig×Nat×Int:=if l.length<16 then((0,0),0,13) else(dg l,16,0)
theorem Dw(s:M3)(hs:s.size<=maxLen)(w:MZ):Calls Tryz.prog 229 #[.string s] w (Mc (aX (toL s)) w):=by
 by_cases h16:s.size<16
 . have HX:Hid (aX (toL s)= ((0,0),0,13)):=by show _=_;unfold aX;rw[<-aP,if_pos h16]
   have b: (s.size:Int)<16:=by omega
   have K0:Bk ((w.alloc (.cells #[.int .u64 0,.int .u64 0] 50)).alloc (.cells #[.int .u64 0,.int .u64 0] 50)) w.heap.size 50 #[.int .u64 0,.int .u64 0]:=(Bk.new w 50 _).alloc _;have HB:Hid (Below w.heap.size w ((w.alloc (.cells #[.int .u64 0,.int .u64 0] 50)).alloc (.cells #[.int .u64 0,.int .u64 0] 50))):=((af _ w).alloc ai _).alloc (by simp) _;have a:=ah K0;clear K0
   go_enter Tryz.func229,Tryz.ntmps229
   go_wp2
   rw[HX.o];exact ZY (xN Tryz.results229 rfl a.o rfl rfl) rfl ⟨rfl,HB.o⟩
 . refine(DJ s hs (by omega) w).mono ?_
   rintro e w' ⟨rfl,hb⟩;have:aX (toL s)= (dg (toL s),16,0):=by unfold aX;rw[<-aP,if_neg h16]
   rw[this];exact⟨rfl,hb⟩
def qF(r:List Upd×Int)(w:MZ)(e:Ending)(w':MZ):Prop :=
 ∃A m c,e= .returned (.tuple #[.slice A m c,.int .i64 r.2])/\Apd w' w.heap.size 85 5 A m c (flat upC r.1)/\m<=c/\c<=maxLen/\Below w.heap.size w w'
theorem lU{r:List Upd×Int}{w w':MZ}{A:OA}{x:Int}(hr:r= ([],x))(hb:Below w.heap.size w w'):qF r w (.returned (.tuple #[.slice A 0 0,.int .i64 x])) w':=by
 rw[hr];exact⟨A,0,0,rfl,.inr ⟨rfl,rfl,rfl⟩,Nat.le_refl _,ZZ _,hb⟩
theorem Apd.low{w:MZ}{base base' size n c:Nat}{e:TypeId}{A:OA}{xs:List M4}(h:Apd w base e size A n c xs)(hb:base'<=base):Apd w base' e size A n c xs:=h.imp (fun h=>wT h hb) id
theorem Apd.keepB{w w':MZ}{base size n c:Nat}{e:TypeId}{A:OA}{xs:List M4}(h:Apd w base e size A n c xs)(hk:∀k cur,base<=k->w.heap[k]? =some (.cells cur e (0,0))->w'.heap[k]? =w.heap[k]?):Apd w' base e size A n c xs :=
 h.imp (fun h=>gX h fun k e=>by obtain⟨h1,cur,h2⟩:=bU h e;exact hk k cur h1 h2) id
theorem Apd.cap{w:MZ}{base size n c:Nat}{e:TypeId}{A:OA}{xs:List M4}(h:Apd w base e size A n c xs):n<=c/\c<=maxLen:=by
 rcases h with h | ⟨rfl,rfl,_⟩
 . obtain⟨A',c',e,h1,h2⟩:=nV h
   cases e;exact⟨h1,h2⟩
 . exact⟨Nat.le_refl _,ZZ _⟩
theorem oQ(s:M3)(k:Nat):toL (s.extract k s.size)= (toL s).drop k:=by
 show(s.extract k s.size).data.toList=_;rw[jX,ZW];rfl;rw[List.length_drop];show(toL s).length - k<=_;rw[<-aP];omega
def vR(v:M4)(rb:Nat)(q:M3)(bad:Bool)(w:MZ)(e:Ending)(w':MZ):Prop:=e= .returned v/\Bk w' rb 302 #[.string q,.bool bad]/\Gb (fun g=>g=rb) w w'
theorem D6(rb:Nat)(q:M3)(bad:Bool)(w:MZ)(hk:Bk w rb 302 #[.string q,.bool bad])(hq:q.size<=1000000) :
  Calls Tryz.prog 225 #[.pointer (some ⟨rb,0,none⟩),.func (.func 226) #[] #[]] w (vR (.string (ofL (aK (toL q)).1)) rb (q.extract (aK (toL q)).2.1 q.size) (bad || (aK (toL q)).2.2 != 0) w):=by
 have b:=pU (toL q);rw[<-aP]at b;have HK:=ah hk;obtain⟨x0,x1,f0,f1⟩:=hk.agg;clear hk
 go_enter Tryz.func225,Tryz.ntmps225
 go_wp2_with fail;refine(nY q (by unfold maxLen;omega) _).mono ?_;generalize aK (toL q)=g at *;obtain⟨t,m,e⟩:=g;obtain⟨ts,a⟩:=NX9 (ofL t)
 rintro e' w' ⟨rfl,rfl⟩;simp only at b ⊢;rw[a];have c:=ah a;clear a;have d: (m:Int)<= (q.size:Int):=by omega
 cases bad with
 | true =>
   go_wp2
   go_ret
   exact⟨by rw[c.o];rfl,iE HK.o _ _,iD _ _ _ _⟩
 | false =>
   go_wp2
   go_ret
   exact⟨by rw[c.o];rfl,iE HK.o _ _,iD _ _ _ _⟩
theorem Ew(rb:Nat)(q:M3)(bad:Bool)(w:MZ)(hk:Bk w rb 302 #[.string q,.bool bad]) :
  Calls Tryz.prog 231 #[.pointer (some ⟨rb,0,none⟩),.func (.func 141) #[] #[]] w (vR (.int .i64 (ay (toL q)).1) rb (q.extract (ay (toL q)).2.1 q.size) (bad || (ay (toL q)).2.2 != 0) w):=by
 have a:=kN (toL q);rw[<-aP]at a;have HK:=ah hk;obtain⟨x0,x1,f0,f1⟩:=hk.agg;clear hk
 go_enter Tryz.func231,Tryz.ntmps231
 go_wp2_with fail;refine(jD q _).mono ?_;generalize ay (toL q)=g at *;obtain⟨t,m,e⟩:=g;rintro e' w' ⟨rfl,rfl⟩;simp only at a ⊢;have b: (m:Int)<= (q.size:Int):=by omega
 cases bad with
 | true =>
   go_wp2
   go_ret
   exact⟨rfl,iE HK.o _ _,iD _ _ _ _⟩
 | false =>
   go_wp2
   go_ret
   exact⟨rfl,iE HK.o _ _,iD _ _ _ _⟩
theorem Ir(l:M5): (aX l).2.1<=l.length:=by
 unfold aX;split
 . simp
 . simp;omega
theorem yl(rb:Nat)(q:M3)(bad:Bool)(w:MZ)(hk:Bk w rb 302 #[.string q,.bool bad])(hq:q.size<=1000000) :
  Calls Tryz.prog 228 #[.pointer (some ⟨rb,0,none⟩),.func (.func 229) #[] #[]] w (vR (aB (aX (toL q)).1) rb (q.extract (aX (toL q)).2.1 q.size) (bad || (aX (toL q)).2.2 != 0) w):=by
 have h:=Ir (toL q);rw[<-aP]at h;have j:=hk.lt;have f:=hk.alloc (.cells #[.int .u64 0,.int .u64 0] 50);obtain⟨x0,x1,f0,f1⟩:=f.agg;have HK:=ah f;have K4:=ah (Bk.new w 50 #[.int .u64 0,.int .u64 0]);clear hk f
 go_enter Tryz.func228,Tryz.ntmps228
 go_wp2_with fail;refine(Dw q (by unfold maxLen;omega) _).mono ?_;generalize aX (toL q)=g at *;obtain⟨⟨a,b⟩,m,e⟩:=g;rintro e' w2 ⟨rfl,d⟩;simp only[aB]at h ⊢;have k:w.heap.size+1<=w2.heap.size:=by have:=d.size;simp at this;omega
 have J:=ah ((HK.o.below d (by simp;omega)).alloc (.cells #[.int .u64 a,.int .u64 b] 50));have J4:=ah ((K4.o.below d (by simp)).alloc (.cells #[.int .u64 a,.int .u64 b] 50));have J5:=ah (Bk.new w2 50 #[.int .u64 a,.int .u64 b]);have G2:Hid (Gb (fun g=>g=rb) w (w2.alloc (.cells #[.int .u64 a,.int .u64 b] 50))):=(Gb.of_below ((af _ w).alloc ai _)).trans ((Gb.of_below d).trans (Gb.of_below ((af _ w2).alloc ai _)));clear d x0 x1 f0 f1;obtain⟨x0,x1,f0,f1⟩:=J.o.agg;obtain⟨y0,y1,g0,g1⟩:=J4.o.agg;have c:rb≠w.heap.size:=by omega
 have i:rb≠w2.heap.size:=by omega
 have l: (m:Int)<= (q.size:Int):=by omega
 cases bad with
 | true =>
   go_wp2
   exact ZY (y9 Tryz.results228 rfl (((J4.o.far (p:=⟨rb,1,none⟩) c.symm _).far (p:=⟨rb,0,none⟩) c.symm _).set2 _ _)) rfl
    ⟨rfl,((iE J.o _ _).far (p:=⟨w.heap.size,0,none⟩) c _).far (p:=⟨w.heap.size,1,none⟩) c _,((G2.o.trans (iD _ _ _ _)).after ai 0 _).after ai 1 _⟩
 | false =>
   go_wp2
   exact ZY (y9 Tryz.results228 rfl (((J4.o.far (p:=⟨rb,1,none⟩) c.symm _).far (p:=⟨rb,0,none⟩) c.symm _).set2 _ _)) rfl
    ⟨rfl,((iE J.o _ _).far (p:=⟨w.heap.size,0,none⟩) c _).far (p:=⟨w.heap.size,1,none⟩) c _,((G2.o.trans (iD _ _ _ _)).after ai 0 _).after ai 1 _⟩
def vP(rb ub:Nat)(q:M3)(bad:Bool)(cs:Array M4)(w:MZ)(e:Ending)(w':MZ):Prop:=e= .returned (.tuple #[])/\Bk w' rb 302 #[.string q,.bool bad]/\Bk w' ub 85 cs/\Gb (fun g=>g=rb∨g=ub) w w'
theorem Gb.or1{rb ub:Nat}{a b:MZ}(h:Gb (fun g=>g=rb) a b):Gb (fun g=>g=rb∨g=ub) a b:=h.mono fun _ _ e=> .inl e
theorem Hu(rb ub:Nat)(q:M3)(bad:Bool)(s:M3)(a b c d:Int)(w:MZ)(hk:Bk w rb 302 #[.string q,.bool bad])(hu:Bk w ub 85 #[.string s,.int .u64 a,.int .u64 b,.int .u64 c,.int .u64 d])(hq:q.size<=1000000)(hne:rb≠ub) :
  Calls Tryz.prog 224 #[.pointer (some ⟨rb,0,none⟩),.pointer (some ⟨ub,0,none⟩)] w (vP rb ub (q.extract (aK (toL q)).2.1 q.size) (bad || (aK (toL q)).2.2 != 0) #[.string (ofL (aK (toL q)).1),.int .u64 a,.int .u64 b,.int .u64 c,.int .u64 d] w):=by
 have HK:=ah hk;have HU:=ah hu;clear hk hu
 go_enter Tryz.func224,Tryz.ntmps224
 go_wp2_with fail;refine(D6 rb q bad _ HK.o hq).mono ?_;generalize ofL (aK (toL q)).1=ts at *;generalize q.extract (aK (toL q)).2.1 q.size=q' at *;generalize (bad || (aK (toL q)).2.2 != 0)=b' at *;rintro e w1 ⟨rfl,k1,g1⟩;have U1:=g1.bk HU.o (fun e=>hne e.symm);have f:=ah U1;have g:=ah k1;have h:=ah g1;have u0:=U1.cell 0;have f0:=U1.free 0;simp at u0;clear U1 k1 g1
 go_wp2
 go_end0
 exact⟨rfl,g.o.far (p:=⟨ub,0,none⟩) hne _,by have:=f.o.set 0 (.string ts);simpa using this,h.o.or1.trans (Gb.set (.inr rfl) 0 _)⟩
theorem Hg(rb ub:Nat)(q:M3)(bad:Bool)(s:M3)(a b c d:Int)(w:MZ)(hk:Bk w rb 302 #[.string q,.bool bad])(hu:Bk w ub 85 #[.string s,.int .u64 a,.int .u64 b,.int .u64 c,.int .u64 d])(hq:q.size<=1000000)(hne:rb≠ub) :
  Calls Tryz.prog 227 #[.pointer (some ⟨rb,0,none⟩),.pointer (some ⟨ub,0,none⟩)] w (vP rb ub (q.extract (aX (toL q)).2.1 q.size) (bad || (aX (toL q)).2.2 != 0) #[.string s,.int .u64 (aX (toL q)).1.1,.int .u64 (aX (toL q)).1.2,.int .u64 c,.int .u64 d] w):=by
 have HK:=ah hk;have HU:=ah hu;clear hk hu
 go_enter Tryz.func227,Tryz.ntmps227
 go_wp2_with fail;refine(yl rb q bad _ HK.o hq).mono ?_;generalize aX (toL q)=g at *;obtain⟨⟨x,y⟩,m,ee⟩:=g;simp only[aB];generalize q.extract m q.size=q' at *;generalize (bad || ee != 0)=b' at *;rintro e w1 ⟨rfl,k1,g1⟩;have U1:=g1.bk HU.o (fun e=>hne e.symm);have f:=ah U1;have h:=ah k1;have i:=ah g1;have u1:=U1.cell 1;have u2:=U1.cell 2;have f1:=U1.free 1;have f2:=U1.free 2;simp at u1 u2;clear U1 k1 g1
 go_wp2
 go_end0
 exact⟨rfl,(h.o.far (p:=⟨ub,1,none⟩) hne _).far (p:=⟨ub,2,none⟩) hne _,by have:=(f.o.set 1 (.int .u64 x)).set 2 (.int .u64 y);simpa using this,(i.o.or1.trans (Gb.set (.inr rfl) 1 _)).trans (Gb.set (.inr rfl) 2 _)⟩
theorem GY(rb ub:Nat)(q:M3)(bad:Bool)(s:M3)(a b c d:Int)(w:MZ)(hk:Bk w rb 302 #[.string q,.bool bad])(hu:Bk w ub 85 #[.string s,.int .u64 a,.int .u64 b,.int .u64 c,.int .u64 d])(hq:q.size<=1000000)(hne:rb≠ub) :
  Calls Tryz.prog 230 #[.pointer (some ⟨rb,0,none⟩),.pointer (some ⟨ub,0,none⟩)] w (vP rb ub (q.extract (aX (toL q)).2.1 q.size) (bad || (aX (toL q)).2.2 != 0) #[.string s,.int .u64 a,.int .u64 b,.int .u64 (aX (toL q)).1.1,.int .u64 (aX (toL q)).1.2] w):=by
 have HK:=ah hk;have HU:=ah hu;clear hk hu
 go_enter Tryz.func230,Tryz.ntmps230
 go_wp2_with fail;refine(yl rb q bad _ HK.o hq).mono ?_;generalize aX (toL q)=g at *;obtain⟨⟨x,y⟩,m,ee⟩:=g;simp only[aB];generalize q.extract m q.size=q' at *;generalize (bad || ee != 0)=b' at *;rintro e w1 ⟨rfl,k1,g1⟩;have U1:=g1.bk HU.o (fun e=>hne e.symm);have f:=ah U1;have h:=ah k1;have i:=ah g1;have u1:=U1.cell 3;have u2:=U1.cell 4;have f1:=U1.free 3;have f2:=U1.free 4;simp at u1 u2;clear U1 k1 g1
 go_wp2
 go_end0
 exact⟨rfl,(h.o.far (p:=⟨ub,3,none⟩) hne _).far (p:=⟨ub,4,none⟩) hne _,by have:=(f.o.set 3 (.int .u64 x)).set 4 (.int .u64 y);simpa using this,(i.o.or1.trans (Gb.set (.inr rfl) 3 _)).trans (Gb.set (.inr rfl) 4 _)⟩
end
