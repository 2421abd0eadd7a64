/-
  Lemmas of the card.
-/
import Derived.Test.YtknefelegjlgnaaGreatDoorDCDu21
set_option maxRecDepth 100000
set_option maxHeartbeats 16000000
namespace Go.Proofs.YtknefelegjlgnaaGreatDoor
open Go.RowKit
theorem jL{fn:Func}{c c2 i:Tmp}(h:fn.results= #[.cell c 35,.cell c2 50,.tmp i]){w:MQ}{b b2:Nat}{a:Array MS}{x0 x1 x2 x3 x4 x5 x6 u v y:MS}(h1:a[c]?.getD undef= .pointer (some ⟨b,0,none⟩))(h2:a[c2]?.getD undef= .pointer (some ⟨b2,0,none⟩))(hk:Bk w b 35 #[x0,x1,x2,x3,x4,x5,x6])(hk2:Bk w b2 50 #[u,v])(hv:a[i]?.getD undef=y) :
  (results fn a).run Tryz.prog w= .ok (.tuple #[.agg #[x0,x1,x2,x3,x4,x5,x6],.agg #[u,v],y]) w:=by
 obtain⟨⟨k0,k1,k2,k3⟩,k4,k5,k6⟩:=hk.seven;obtain⟨g0,g1,_,_⟩:=hk2.two;simp[results,h,h1,h2,hv,go_sem,k0,k1,k2,k3,k4,k5,k6,g0,g1]
theorem jP{w:MQ}{b:Nat}{x0 x1 x2 x3 x4 x5 x6 u v:MS}(hk:Bk w b 35 #[x0,x1,x2,x3,x4,x5,x6])(hk2:Bk w (b+1) 50 #[u,v])(y0 y1 y2 y3 y4 y5 y6 z0 z1:MS) :
  Bk (((((((((w.setCell ⟨b,0,none⟩ y0).setCell ⟨b,1,none⟩ y1).setCell ⟨b,2,none⟩ y2).setCell ⟨b,3,none⟩ y3).setCell ⟨b,4,none⟩ y4).setCell ⟨b,5,none⟩ y5).setCell ⟨b,6,none⟩ y6).setCell ⟨b+1,0,none⟩ z0).setCell ⟨b+1,1,none⟩ z1) b 35 #[y0,y1,y2,y3,y4,y5,y6] ∧
  Bk (((((((((w.setCell ⟨b,0,none⟩ y0).setCell ⟨b,1,none⟩ y1).setCell ⟨b,2,none⟩ y2).setCell ⟨b,3,none⟩ y3).setCell ⟨b,4,none⟩ y4).setCell ⟨b,5,none⟩ y5).setCell ⟨b,6,none⟩ y6).setCell ⟨b+1,0,none⟩ z0).setCell ⟨b+1,1,none⟩ z1) (b+1) 50 #[z0,z1] :=
 ⟨((hk.set7 y0 y1 y2 y3 y4 y5 y6).far (p:=⟨b+1,0,none⟩) (by show b≠b+1;omega) z0).far (p:=⟨b+1,1,none⟩) (by show b≠b+1;omega) z1,
  Bk.set2 ((fZ w b y0 y1 y2 y3 y4 y5 y6 (b+1) (by omega)).trans hk2) z0 z1⟩
theorem jD{w0 w:MQ}{B b:Nat}(h:Below B w0 w)(hb:B<=b)(y0 y1 y2 y3 y4 y5 y6 z0 z1:MS) :
  Below B w0 (((((((((w.setCell ⟨b,0,none⟩ y0).setCell ⟨b,1,none⟩ y1).setCell ⟨b,2,none⟩ y2).setCell ⟨b,3,none⟩ y3).setCell ⟨b,4,none⟩ y4).setCell ⟨b,5,none⟩ y5).setCell ⟨b,6,none⟩ y6).setCell ⟨b+1,0,none⟩ z0).setCell ⟨b+1,1,none⟩ z1) :=
 ((dz h hb y0 y1 y2 y3 y4 y5 y6).setCell (p:=⟨b+1,0,none⟩) (by show B<=b+1;omega) z0).setCell (p:=⟨b+1,1,none⟩) (by show B<=b+1;omega) z1
theorem CmtE.err{r:Rp}{a u:Nat}{d:Dig}{w w':MQ}{x:Int}(h1:x≠0)(h2:x≠20)(hb:Below w.heap.size w w'):CmtE r a u (.no,d) w (.returned (.tuple #[.agg rzC,.agg #[.int .u64 0,.int .u64 0],.int .i64 x])) w':=⟨x,h1,h2,zRs,rfl,RpM.zero _ _,hb⟩
theorem rV(hpck:iV)(r:Rp)(s:Rsl)(gs:List Gru)(a u:Nat)(nm:MR)(l:List Fl)(A1:OA)(m c1:Nat)(au ms:MR)(tm:Int)(B:Nat)(w:MQ)
  (hd:r.d.Ok) (hpn:r.d.pn= []) (hj:Jn r.d.sz r.d.ss a (recs gs) u) (hM:Mt gs r.p r.rs r.lg) (hpf:r.p.length<=49000) (hm:RpM w B r s) (hB:B<=w.heap.size)
  (h1:Sl w B 2 A1 m (flat flC l)) (hnm:nm.size<=65536) (hml:m<=1000) (hfs:∀f∈l,f.1.size<=1000000/\f.2.size<=60000) (hcm:nH au ms tm) :
  Calls Tryz.prog 28 #[rpV r s,.string nm,.slice A1 m c1,.string au,.string ms,.int .i64 tm] w (CmtE r a u (gH r.p r.rs r.lg nm l au ms tm) w):=by
 have hlf:=gY hM.rf;have hrf:=kS hM.rf;have hlw:∀u∈r.lg,u.1.size<=65536:=fun u hu=>by
  rw[hM.lo]at hu;obtain⟨g,hg,hu⟩:=List.mem_flatMap.1 hu;exact((hM.ok g hg).us u hu).1
 have hwr:∀x∈r.rs,WfD x.2:=fun x hx=>by
  obtain⟨⟨o,ho,_⟩,_⟩:=compl_zero.1 (hM.co x hx);rw[mW hM.pl ho];exact eP _
 obtain⟨W,hW⟩:∃W,((w.alloc (.cells (rpC r s) 35)).alloc (.cells rzC 35)).alloc (.cells #[.int .u64 0,.int .u64 0] 50)=W:=⟨_,rfl⟩
 have HB0:Hid (Below w.heap.size w W):=by rw[<-hW];exact(((af _ w).alloc ai _).alloc (by simp) _).alloc (by simp;omega) _
 have HK:Hid (Bk W w.heap.size 35 (rpC r s)):=by rw[<-hW];exact((Bk.new w _ _).alloc _).alloc _
 have HZ:Hid (Bk W (w.heap.size+1) 35 rzC):=by rw[<-hW];exact((Bk.new _ _ _).at_ (by simp)).alloc _
 have HY:Hid (Bk W (w.heap.size+1+1) 50 #[.int .u64 0,.int .u64 0]):=by rw[<-hW];exact(Bk.new _ _ _).at_ (by simp)
 have zW:W.heap.size=w.heap.size+3:=by rw[<-hW];simp
 have HM:=ah hm;have HMT:=ah hM;have HD:=ah hd;have HPN:=ah hpn;have HJ:=ah hj;have HPF:=ah hpf;have HGT:=ah (Gf s.rA s.lA r.rs.length s.rc r.lg.length s.lc B r.rs r.lg nm W (hm.rf.below HB0.out hB) (hm.l.below HB0.out hB) (by omega) (by unfold maxLen;omega) (by unfold maxLen;omega) (by unfold maxLen;omega) (fun u hu=>by have:=hlw u hu;unfold maxLen;omega));unfold qp at HGT;have HG20:=ah (JL r.rs r.lg nm);have HGW:=ah (Be (nm:=nm) (lg:=r.lg) hwr);have HGZ:=ah (K8 r.rs r.lg nm);obtain⟨⟨pl,pd⟩,hpl⟩:∃t,gH r.p r.rs r.lg nm l au ms tm=t:=⟨_,rfl⟩
 rw[hpl];unfold gH at hpl;obtain⟨⟨⟨o1,o2⟩,ge⟩,hge⟩:∃t,bV r.rs r.lg nm=t:=⟨_,rfl⟩
 rw[hge]at hpl HGT HG20 HGW HGZ;simp only at hpl HGT HG20 HGW HGZ;have HPL:=ah hpl;have HW:=ah hW;have H1:=ah h1;have HFS:=ah hfs;have HCM:=ah hcm;have hdp:r.d.pn.length=0:=by rw[hpn];rfl
 obtain⟨dn,hdn⟩:∃dn,r.d.ss.length=dn:=⟨_,rfl⟩
 obtain⟨pn,hpn2⟩:∃pn,r.p.length=pn:=⟨_,rfl⟩
 obtain⟨rn,hrn⟩:∃rn,r.rs.length=rn:=⟨_,rfl⟩
 obtain⟨ln,hln⟩:∃ln,r.lg.length=ln:=⟨_,rfl⟩
 have HDN:=ah hdn;have HDP:=ah hdp;have HPLN:=ah hpn2;have HRN:=ah hrn;have HLN:=ah hln;simp only[rpV,rpC,hdn,hdp,hpn2,hrn,hln]at HK HW HGT hpf ⊢;clear hd hpn hj hM hm h1 hfs hcm hW hpl hdp hdn hpn2 hrn hln hge hlf hrf hlw hwr;obtain⟨⟨k0,k1,k2,k3⟩,k4,k5,k6⟩:=HK.out.seven
 go_enter Tryz.func28,Tryz.ntmps28
 go_wp2_with fail;rw[HW.out];refine HGT.out.mono ?_;rintro e w1 ⟨rfl,hb1⟩;obtain⟨W2,hW2⟩:∃W2,w1.alloc (.cells #[.int .u64 o1,.int .u64 o2] 50)=W2:=⟨_,rfl⟩
 have hb2:Below w1.heap.size w1 W2:=by rw[<-hW2];exact(af _ w1).alloc ai _
 have z1:=hb1.size;have HO2:Hid (Bk W2 w1.heap.size 50 #[.int .u64 o1,.int .u64 o2]):=by rw[<-hW2];exact Bk.new w1 _ _
 have hbb:Below W.heap.size W W2:=hb1.trans (hb2.mono z1);have HK2:=ah (HK.out.below hbb (by omega));have HZ2:=ah (HZ.out.below hbb (by omega));have HY2:=ah (HY.out.below hbb (by omega));have HB2:Hid (Below w.heap.size w W2):=HB0.out.trans (hbb.mono (by omega));have z2:W2.heap.size=w1.heap.size+1:=by rw[<-hW2];simp
 have HW2:=ah hW2;clear hb1 hb2 hbb hW2 HGT HK HZ HY HB0 k0 k1 k2 k3 k4 k5 k6;obtain⟨⟨k0,k1,k2,k3⟩,k4,k5,k6⟩:=HK2.out.seven;obtain⟨⟨z0,z1',z2',z3⟩,z4,z5,z6⟩:=HZ2.out.seven;obtain⟨⟨f0,f1,f2,f3⟩,f4,f5,f6⟩:=HZ2.out.free7;obtain⟨y0,y1,g0,g1⟩:=HY2.out.two;rw[<-HW2.out]at k0 k1 k2 k3 k4 k5 k6 z0 z1' z2' z3 z4 z5 z6 f0 f1 f2 f3 f4 f5 f6 y0 y1 g0 g1;have hne:w.heap.size+1+1≠w.heap.size+1:=by omega
 by_cases hbad:ge≠0/\ge≠8
 . have hb0: (ge != 0)=true:=by simpa using hbad.1
   have hb8: (ge != 8)=true:=by simpa using hbad.2
   have HPP:Hid ((pl,pd)= (.no,zD)):=by show _=_;rw[<-HPL.out,if_pos hbad]
   have HBD:=ah hbad;clear hbad;go_wp2_with fail;rw[HW2.out];obtain⟨h1,h2⟩:=jP HZ2.out HY2.out (.int .i64 0) (.slice none 0 0) (.slice none 0 0) (.int .i64 0) (.slice none 0 0) (.slice none 0 0) (.slice none 0 0) (.int .u64 0) (.int .u64 0);refine ZY (jL Tryz.results28 rfl rfl h1 h2 rfl) rfl ?_;rw[HPP.out];exact .err HBD.out.1 HG20.out (jD HB2.out (by omega) _ _ _ _ _ _ _ _ _)
 . have hp:=HPL.out
   rw[if_neg hbad]at hp;have HPL2:=ah hp;have HST:=ah (Fu s.pA pn s.pc B r.p A1 m c1 l W2 (by have:=HM.out.p.below HB2.out hB;simp only[HPLN.out]at this;exact this) (H1.out.below HB2.out hB) (by omega) (by have:=HM.out.pc;rw[HPLN.out]at this;exact this) HM.out.pm (by omega) (by omega) HMT.out.pl HFS.out);unfold CW at HST;simp only[aB,zD]at HST;have hcs: (ge=8/\ (o1=0/\o2=0))∨ (ge=0/\ (o1 != 0 || o2 != 0)=true):=by
    rcases (show ge=8∨ge=0 by omega) with h | h
    . have:=HGZ.out.1 h;exact .inl ⟨h,congrArg Prod.fst this,congrArg Prod.snd this⟩
    . refine .inr ⟨h,?_⟩
      have:=HGZ.out.2 h;rw[Bool.or_eq_true,bne_iff_ne,bne_iff_ne];refine Classical.byContradiction fun hn=>this ?_;rw[not_or,ne_eq,ne_eq,Decidable.not_not,Decidable.not_not]at hn;exact Prod.ext hn.1 hn.2
   clear hp hbad HPL;rcases hcs with ⟨rfl,rfl,rfl⟩ | ⟨rfl,hoz⟩
   all_goals
    go_wp2_with fail;rw[HW2.out];refine HST.out.mono ?_;rintro e w3 ⟨hst,hb3⟩;have z3:=hb3.size;have HK3:=ah (HK2.out.below hb3 (by omega));have HZ3:=ah (HZ2.out.below hb3 (by omega));have HY3:=ah (HY2.out.below hb3 (by omega));have HO3:=ah (HO2.out.below hb3 (by omega));have HB3:Hid (Below w.heap.size w w3):=HB2.out.trans (hb3.mono (by omega));clear hb3 HST k0 k1 k2 k3 k4 k5 k6 z0 z1' z2' z3 z4 z5 z6 f0 f1 f2 f3 f4 f5 f6 y0 y1 g0 g1;have zw3:w.heap.size+3<=w1.heap.size/\w1.heap.size<w3.heap.size:=by have:=HO3.out.lt;omega
    obtain⟨zw3a,zw3b⟩:=zw3;by_cases htk:TckR l 0
    case neg =>
     rcases hst with ⟨z,htz,hz,rfl⟩ | ⟨h,_⟩
     case inr=>exact absurd h htk
     have hzb: (z != 0)=true:=by simpa using hz
     have HZN:=ah hz;have HT20:=ah (KQ htz);have HPP:Hid ((pl,pd)= (.no,zD)):=by show _=_;rw[<-HPL2.out,if_neg htk]
     obtain⟨W4,hW4⟩:∃W4,w3.alloc (.cells #[.int .u64 0,.int .u64 0] 50)=W4:=⟨_,rfl⟩
     have hb4:Below w3.heap.size w3 W4:=by rw[<-hW4];exact(af _ w3).alloc ai _
     have HZ4:=ah (HZ3.out.below hb4 (by omega));have HY4:=ah (HY3.out.below hb4 (by omega));have HB4:Hid (Below w.heap.size w W4):=HB3.out.trans (hb4.mono (by omega));obtain⟨⟨z0,z1',z2',z3'⟩,z4,z5,z6⟩:=HZ4.out.seven;obtain⟨⟨f0,f1,f2,f3⟩,f4,f5,f6⟩:=HZ4.out.free7;obtain⟨y0,y1,g0,g1⟩:=HY4.out.two;rw[<-hW4]at z0 z1' z2' z3' z4 z5 z6 f0 f1 f2 f3 f4 f5 f6 y0 y1 g0 g1;have HW4:=ah hW4;clear hz htz htk hb4 hW4;go_wp2_with fail;rw[HW4.out];obtain⟨h1,h2⟩:=jP HZ4.out HY4.out (.int .i64 0) (.slice none 0 0) (.slice none 0 0) (.int .i64 0) (.slice none 0 0) (.slice none 0 0) (.slice none 0 0) (.int .u64 0) (.int .u64 0);refine ZY (jL Tryz.results28 rfl rfl h1 h2 rfl) rfl ?_;rw[HPP.out];exact .err HZN.out HT20.out (jD HB4.out (by omega) _ _ _ _ _ _ _ _ _)
    rcases hst with ⟨z,htz,hz,_⟩ | ⟨_,hst⟩
    case inl=>exact absurd (TckR.same htz htk) hz
    have hp:=HPL2.out;rw[if_pos htk]at hp;have HOKL:Hid (OkL l):=(Cx htk (fun f hf=>(HFS.out f hf).2)).1;rcases hst with ⟨q,⟨r1,r2⟩,qA,qc,hso,hsr,rfl,hsq,hqc,hqm⟩ | ⟨hso,rfl⟩
    case inr =>
     have HPP:Hid ((pl,pd)= (.no,zD)):=by show _=_;rw[<-hp,hso]
     obtain⟨W4,hW4⟩:∃W4,w3.alloc (.cells #[.int .u64 0,.int .u64 0] 50)=W4:=⟨_,rfl⟩
     have hb4:Below w3.heap.size w3 W4:=by rw[<-hW4];exact(af _ w3).alloc ai _
     have HZ4:=ah (HZ3.out.below hb4 (by omega));have HY4:=ah (HY3.out.below hb4 (by omega));have HB4:Hid (Below w.heap.size w W4):=HB3.out.trans (hb4.mono (by omega));obtain⟨⟨z0,z1',z2',z3'⟩,z4,z5,z6⟩:=HZ4.out.seven;obtain⟨⟨f0,f1,f2,f3⟩,f4,f5,f6⟩:=HZ4.out.free7;obtain⟨y0,y1,g0,g1⟩:=HY4.out.two;rw[<-hW4]at z0 z1' z2' z3' z4 z5 z6 f0 f1 f2 f3 f4 f5 f6 y0 y1 g0 g1;have HW4:=ah hW4;clear hso hp htk hb4 hW4;go_wp2_with fail;rw[HW4.out];obtain⟨h1,h2⟩:=jP HZ4.out HY4.out (.int .i64 0) (.slice none 0 0) (.slice none 0 0) (.int .i64 0) (.slice none 0 0) (.slice none 0 0) (.slice none 0 0) (.int .u64 0) (.int .u64 0);refine ZY (jL Tryz.results28 rfl rfl h1 h2 rfl) rfl ?_;rw[HPP.out];exact .err (by decide) (by decide) (jD HB4.out (by omega) _ _ _ _ _ _ _ _ _)
    rw[hso]at hp;simp only at hp;have HPL3:=ah hp;have HSR:=ah hsr;have HSQ:=ah hsq;have hql:q.length<=70000:=by have h1:=hsr.len;have h2:=Cz HOKL.out;rw[HPLN.out]at h1;omega
    obtain⟨W4,hW4⟩:∃W4,w3.alloc (.cells #[.int .u64 r1,.int .u64 r2] 50)=W4:=⟨_,rfl⟩
    obtain⟨W5,hW5⟩:∃W5,W4.alloc (.cells #[.int .i64 3,.string ⟨#[]⟩,.slice none 0 0,.int .u64 r1,.int .u64 r2,.slice none 0 0,.string au,.int .i64 tm,.string ms] 109)=W5:=⟨_,rfl⟩
    have hb4:Below w3.heap.size w3 W4:=by rw[<-hW4];exact(af _ w3).alloc ai _
    have z4s:W4.heap.size=w3.heap.size+1:=by rw[<-hW4];simp
    have hb45:Below W4.heap.size W4 W5:=by rw[<-hW5];exact(af _ W4).alloc ai _
    have z5s:W5.heap.size=w3.heap.size+2:=by rw[<-hW5];simp;omega
    have hb5:Below w3.heap.size w3 W5:=hb4.trans (hb45.mono (by omega));have HR5:Hid (Bk W5 w3.heap.size 50 #[.int .u64 r1,.int .u64 r2]):=by
     have:Bk W4 w3.heap.size 50 #[.int .u64 r1,.int .u64 r2]:=by rw[<-hW4];exact Bk.new w3 _ _
     exact this.below hb45 (by omega)
    have HN5:Hid (Bk W5 (w3.heap.size+1) 109 #[.int .i64 3,.string ⟨#[]⟩,.slice none 0 0,.int .u64 r1,.int .u64 r2,.slice none 0 0,.string au,.int .i64 tm,.string ms]):=by rw[<-hW5];exact(Bk.new _ _ _).at_ (by omega)
    have HK5:=ah (HK3.out.below hb5 (by omega));have HZ5:=ah (HZ3.out.below hb5 (by omega));have HY5:=ah (HY3.out.below hb5 (by omega));have HO5:=ah (HO3.out.below hb5 (by omega));have HB5:Hid (Below w.heap.size w W5):=HB3.out.trans (hb5.mono (by omega));have HQ5:Hid (Sl W5 W5.heap.size 3 qA q.length (flat itC q)):=(HSQ.out.below hb5 ai).more (by omega);obtain⟨k0',k1',_,_⟩:=HO3.out.two;obtain⟨⟨k0,k1,k2,k3⟩,k4,k5,k6⟩:=HK3.out.seven;have HW4:=ah hW4;have HW5:=ah hW5;clear hso hsr hsq hp htk hb4 hb45 hb5 hW4 hW5 HK3 HZ3 HY3 HB3 HSQ
   focus
    have HOB:Hid (OkO (bF (r1,r2) (0,0) au ms tm)):=qw HCM.out HSR.out.wf HSR.out.nz HGW.out;have HPT:Hid ((match bC q (bF (r1,r2) (0,0) au ms tm) with
     | none=>(.no,zD)
     | some q2=>(cK r.p r.rs r.lg q2 [(nm,(0,0),dgO (bF (r1,r2) (0,0) au ms tm))],dgO (bF (r1,r2) (0,0) au ms tm)):fw×Dig)= (pl,pd)):=by
     have h:=HPL3.out;rw[if_neg (fun h=>h.1 rfl)]at h;exact h
    obtain⟨u0,u1,_,_⟩:=HO5.out.two;rw[<-HW5.out,<-HW4.out]at u0 u1
    go_upto_region 13 with fail
    rw[HW4.out,HW5.out];have HPK:Hid (∃(p1 p2:Int)(tA:OA)(tn tc:Nat),WfD (p1,p2)/\OkO (bF (r1,r2) (p1,p2) au ms tm)/\ (match bC q (bF (r1,r2) (p1,p2) au ms tm) with
     | none=>(.no,zD)
     | some q2=>(cK r.p r.rs r.lg q2 [(nm,(p1,p2),dgO (bF (r1,r2) (p1,p2) au ms tm))],dgO (bF (r1,r2) (p1,p2) au ms tm)):fw×Dig)= (pl,pd)/\Bk W5 w1.heap.size 50 #[.int .u64 p1,.int .u64 p2] ∧
     Bk W5 (w3.heap.size+1) 109 #[.int .i64 3,.string ⟨#[]⟩,.slice none 0 0,.int .u64 r1,.int .u64 r2,.slice tA tn tc,.string au,.int .i64 tm,.string ms]/\ObM W5 W5.heap.size (bF (r1,r2) (p1,p2) au ms tm) ⟨none,0,0,tA,tn,tc⟩) :=
     ⟨0,0,none,0,0,HGW.out,HOB.out,HPT.out,HO5.out,HN5.out,Sl.nil _ _ _ _,Sl.nil _ _ _ _,Nat.le_refl _,ZZ _,Nat.le_refl _,ZZ _⟩
    have HK6:=HK5;have HZ6:=HZ5;have HY6:=HY5;have HB6:=HB5;have HQ6:=HQ5;have z6s:w3.heap.size+2<=W5.heap.size:=by omega
    obtain⟨WT,hWT⟩:∃WT,W5=WT:=⟨_,rfl⟩
    rw[hWT]at HPK HK6 HZ6 HY6 HB6 HQ6 z6s ⊢;clear hWT u0 u1 k0' k1' k0 k1 k2 k3 k4 k5 k6 HPL3 HPL2 HK5 HZ5 HY5 HO5 HB5 HQ5 HN5 HR5 z5s HW5
   rotate_left
   focus
    have hnz: ((o1,o2):Dig)≠zD:=fun h=>by
     have e1:o1=0:=congrArg Prod.fst h;have e2:o2=0:=congrArg Prod.snd h;rw[e1,e2]at hoz;simp at hoz
    have HNZ:=ah hnz;have HOB:Hid (OkO (bF (r1,r2) (o1,o2) au ms tm)):=qw HCM.out HSR.out.wf HSR.out.nz HGW.out;have HGE:=ah (um s.pA pn s.pc B r.p (o1,o2) W5 (by have:=HM.out.p.below HB5.out hB;simp only[HPLN.out]at this;exact this) (by omega) (by omega) HMT.out.pl);unfold GeE at HGE;simp only[aB]at HGE;obtain⟨⟨kk0,kk1,kk2,kk3⟩,kk4,kk5,kk6⟩:=HK5.out.seven;obtain⟨u0,u1,_,_⟩:=HO5.out.two;rw[<-HW5.out,<-HW4.out]at kk0 kk1 kk2 kk3 kk4 kk5 kk6 u0 u1;have hoz2: (!(o1 == 0) || !(o2 == 0))=true:=hoz;have hoz3: (!(o1 == 0))=true∨ (!(o2 == 0))=true:=by simpa using hoz
    clear hnz;go_wp2_with fail;rw[HW4.out,HW5.out];refine HGE.out.mono ?_;rintro e w6 ⟨hq,hb6⟩;have z6:=hb6.size;have HK5b:=ah (HK5.out.below hb6 (by omega));have HZ5b:=ah (HZ5.out.below hb6 (by omega));have HY5b:=ah (HY5.out.below hb6 (by omega));have HO5b:=ah (HO5.out.below hb6 (by omega));have HR5b:=ah (HR5.out.below hb6 (by omega));have HN5b:=ah (HN5.out.below hb6 (by omega));have HB5b:Hid (Below w.heap.size w w6):=HB5.out.trans (hb6.mono (by omega));have HQ5b:Hid (Sl w6 w6.heap.size 3 qA q.length (flat itC q)):=(HQ5.out.below hb6 ai).more z6;clear hb6 HGE kk0 kk1 kk2 kk3 kk4 kk5 kk6 u0 u1 k0 k1 k2 k3 k4 k5 k6 k0' k1' HK5 HZ5 HY5 HO5 HR5 HN5 HB5 HQ5 HW5;by_cases hkp:∃o,aL r.p (o1,o2)=some o/\o.tree= (r1,r2)
    . obtain⟨o,hgo,hot⟩:=hkp
      rcases hq with ⟨o',sl,hg',_,rfl,_,_,_⟩ | ⟨hg',_⟩
      case inr=>rw[hgo]at hg';cases hg'
      rw[hgo]at hg';cases hg';have HPP:Hid ((pl,pd)= (.keep,zD)):=by show _=_;rw[<-HPL3.out,if_pos ⟨HNZ.out,o,hgo,hot⟩]
      obtain⟨ok,od,oe,⟨t1,t2⟩,op,oa,ot,om⟩:=o;simp only at hot;cases hot
      simp only[obV,obC];obtain⟨W7,hW7⟩:∃W7,w6.alloc (.cells #[.int .i64 ok,.string od,.slice sl.eA sl.en sl.ec,.int .u64 r1,.int .u64 r2,.slice sl.pA sl.pn sl.pc,.string oa,.int .i64 ot,.string om] 109)=W7:=⟨_,rfl⟩
      have hb7:Below w6.heap.size w6 W7:=by rw[<-hW7];exact(af _ w6).alloc ai _
      have HZ7:=ah (HZ5b.out.below hb7 (by omega));have HY7:=ah (HY5b.out.below hb7 (by omega));have HB7:Hid (Below w.heap.size w W7):=HB5b.out.trans (hb7.mono (by omega));obtain⟨⟨k0,k1,k2,k3⟩,k4,k5,k6⟩:=(HK5b.out.below hb7 (by omega)).seven;obtain⟨v0,v1,_,_⟩:=(HR5b.out.below hb7 (by omega)).two;obtain⟨⟨z0,z1',z2',z3'⟩,z4,z5,z6'⟩:=HZ7.out.seven;obtain⟨⟨f0,f1,f2,f3⟩,f4,f5,f6⟩:=HZ7.out.free7;obtain⟨y0,y1,g0,g1⟩:=HY7.out.two;rw[<-hW7]at k0 k1 k2 k3 k4 k5 k6 v0 v1 z0 z1' z2' z3' z4 z5 z6' f0 f1 f2 f3 f4 f5 f6 y0 y1 g0 g1;have HW7:=ah hW7;have heq: (r1 == r1 && r2 == r2)=true:=by simp
      clear hgo hb7 hW7;go_wp2_with fail;rw[HW7.out];obtain⟨h1,h2⟩:=jP HZ7.out HY7.out (.int .i64 r.d.sz) (.slice s.d.a1 dn s.d.c1) (.slice s.d.a2 0 s.d.c2) (.int .i64 r.d.lf) (.slice s.pA pn s.pc) (.slice s.rA rn s.rc) (.slice s.lA ln s.lc) (.int .u64 0) (.int .u64 0);refine ZY (jL Tryz.results28 rfl rfl h1 h2 rfl) rfl ?_;rw[HPP.out];have hbf:=jD HB7.out (show w.heap.size<=w.heap.size+1 by omega) (.int .i64 r.d.sz) (.slice s.d.a1 dn s.d.c1) (.slice s.d.a2 0 s.d.c2) (.int .i64 r.d.lf) (.slice s.pA pn s.pc) (.slice s.rA rn s.rc) (.slice s.lA ln s.lc) (.int .u64 0) (.int .u64 0);exact⟨s,by simp only[rpV,rpC,HDN.out,HDP.out,HPLN.out,HRN.out,HLN.out];rfl,(HM.out.below hbf hB).more (by have:=hbf.size;omega),hbf⟩
    have HPT:Hid ((match bC q (bF (r1,r2) (o1,o2) au ms tm) with
     | none=>(.no,zD)
     | some q2=>(cK r.p r.rs r.lg q2 [(nm,(o1,o2),dgO (bF (r1,r2) (o1,o2) au ms tm))],dgO (bF (r1,r2) (o1,o2) au ms tm)):fw×Dig)= (pl,pd)):=by
     have h:=HPL3.out;rw[if_neg (fun h=>hkp h.2)]at h;exact h
    have a1:∀o,(w6.alloc o).cell? ⟨w3.heap.size,0,none⟩=some (.int .u64 r1):=fun o=>(HR5b.out.alloc o).two.1;have a2:∀o,(w6.alloc o).cell? ⟨w3.heap.size,1,none⟩=some (.int .u64 r2):=fun o=>(HR5b.out.alloc o).two.2.1;have a3:∀o,(w6.alloc o).cell? ⟨w1.heap.size,0,none⟩=some (.int .u64 o1):=fun o=>(HO5b.out.alloc o).two.1;have a4:∀o,(w6.alloc o).cell? ⟨w1.heap.size,1,none⟩=some (.int .u64 o2):=fun o=>(HO5b.out.alloc o).two.2.1;have a5:∀o o',((w6.alloc o).alloc o').cell? ⟨w3.heap.size+1,5,none⟩=some (.slice none 0 0):=fun o o'=>by have:=((HN5b.out.alloc o).alloc o').nine.2.2.2.2.2.1;exact this
    have a6:∀o o',((w6.alloc o).alloc o').frozen? ⟨w3.heap.size+1,5,none⟩=false:=fun o o'=>((HN5b.out.alloc o).alloc o').free 5;rcases hq with ⟨⟨ok,od,oe,⟨t1,t2⟩,op,oa,ot,om⟩,sl,hg',_,rfl,_,_,_⟩ | ⟨hg',rfl⟩
    case' inl =>
     have hfq: (t1 == r1 && t2 == r2)=false:=by
      rw[Bool.eq_false_iff];intro h;rw[Bool.and_eq_true,beq_iff_eq,beq_iff_eq]at h;exact hkp ⟨_,hg',Prod.ext h.1 h.2⟩
    all_goals
     simp only[obV,obC,zOb,zOs,zD];clear hg' hkp
     go_upto_region 13 with fail
     generalize hX2:World.alloc (World.alloc w6 _) _=X2;have hb2:Below w6.heap.size w6 X2:=by rw[<-hX2];exact((af _ w6).alloc ai _).alloc (by simp) _
     have hnd:Bk X2 (w6.heap.size+1) 50 #[.int .u64 o1,.int .u64 o2]:=by rw[<-hX2];exact(Bk.new _ _ _).at_ (by simp)
     have hob:Bk X2 (w3.heap.size+1) 109 #[.int .i64 3,.string ⟨#[]⟩,.slice none 0 0,.int .u64 r1,.int .u64 r2,.slice none 0 0,.string au,.int .i64 tm,.string ms]:=HN5b.out.below hb2 (by omega);obtain⟨WT,hWT⟩:∃WT,X2.setCell ⟨w3.heap.size+1,5,none⟩ (.slice (some ⟨w6.heap.size+1,0,none⟩) 1 1)=WT:=⟨_,rfl⟩
     have hoth:∀k,k≠w3.heap.size+1->WT.heap[k]? =X2.heap[k]? :=fun k hk=>by rw[<-hWT];exact Z8 _ _ _ k hk
     have zT:WT.heap.size=X2.heap.size:=by rw[<-hWT];simp
     have zX:=hnd.lt;have HK6:Hid (Bk WT w.heap.size 35 #[.int .i64 r.d.sz,.slice s.d.a1 dn s.d.c1,.slice s.d.a2 0 s.d.c2,.int .i64 r.d.lf,.slice s.pA pn s.pc,.slice s.rA rn s.rc,.slice s.lA ln s.lc]):=(hoth _ (by omega)).trans (HK5b.out.below hb2 (by omega));have HZ6:Hid (Bk WT (w.heap.size+1) 35 rzC):=(hoth _ (by omega)).trans (HZ5b.out.below hb2 (by omega));have HY6:Hid (Bk WT (w.heap.size+1+1) 50 #[.int .u64 0,.int .u64 0]):=(hoth _ (by omega)).trans (HY5b.out.below hb2 (by omega));have HB6:Hid (Below w.heap.size w WT):=by rw[<-hWT];exact(HB5b.out.trans (hb2.mono (by omega))).setCell (p:=⟨w3.heap.size+1,5,none⟩) (by show w.heap.size<=w3.heap.size+1;omega) _
     have hobx:∀(A:OA)(n:Nat)(xs:List MS)(sz:Nat),Sl X2 X2.heap.size sz A n xs-> (0<n->∃v,xs[0]? =some v/\∃x:Int,v= .int .u64 x)->2<=sz-> (∀v,xs[1]? =some v->∃x:Int,v= .int .u64 x)-> (∀k,0<n->xs.length=n*sz->k<sz->∃v,xs[k]? =some v)->True:=fun _ _ _ _ _ _ _ _ _=>trivial;have HQ6:Hid (Sl WT WT.heap.size 3 qA q.length (flat itC q)):=by
      have h:=(HQ5b.out.below hb2 ai).more hb2.size;refine(h.avoid fun b off e hn hcc=>hoth b fun e2=>?_).more (by omega);subst e2;obtain⟨x,hx⟩:∃x,q[0]? =some x:=⟨_,Z6 hn⟩
      have c0:=hcc 0 _ (jk bN q 0 0 x _ hx rfl (by omega));have c1:=hcc 1 _ (jk bN q 0 1 x _ hx rfl (by omega));have c2:=hcc 2 _ (jk bN q 0 2 x _ hx rfl (by omega));rw[hob.cell]at c0 c1 c2
      match off,c0,c1,c2 with
      | 0,c0,_,_=>simp[itC]at c0
      | 1,c0,_,_=>simp[itC]at c0
      | 2,c0,_,_=>simp[itC]at c0
      | 3,_,_,c2=>simp[itC]at c2
      | 4,_,c1,_=>simp[itC]at c1
      | 5,c0,_,_=>simp[itC]at c0
      | 6,c0,_,_=>simp[itC]at c0
      | 7,c0,_,_=>simp[itC]at c0
      | 8,c0,_,_=>simp[itC]at c0
      | n+9,c0,_,_=>simp at c0
     have z6s:w3.heap.size+2<=WT.heap.size:=by omega
     have HPK:Hid (∃(p1 p2:Int)(tA:OA)(tn tc:Nat),WfD (p1,p2)/\OkO (bF (r1,r2) (p1,p2) au ms tm)/\ (match bC q (bF (r1,r2) (p1,p2) au ms tm) with
      | none=>(.no,zD)
      | some q2=>(cK r.p r.rs r.lg q2 [(nm,(p1,p2),dgO (bF (r1,r2) (p1,p2) au ms tm))],dgO (bF (r1,r2) (p1,p2) au ms tm)):fw×Dig)= (pl,pd)/\Bk WT w1.heap.size 50 #[.int .u64 p1,.int .u64 p2] ∧
      Bk WT (w3.heap.size+1) 109 #[.int .i64 3,.string ⟨#[]⟩,.slice none 0 0,.int .u64 r1,.int .u64 r2,.slice tA tn tc,.string au,.int .i64 tm,.string ms]/\ObM WT WT.heap.size (bF (r1,r2) (p1,p2) au ms tm) ⟨none,0,0,tA,tn,tc⟩):=by
      refine⟨o1,o2,some ⟨w6.heap.size+1,0,none⟩,1,1,HGW.out,HOB.out,HPT.out,(hoth _ (by omega)).trans (HO5b.out.below hb2 (by omega)),?_,Sl.nil _ _ _ _,?_,Nat.le_refl _,ZZ _,Nat.le_refl _,by show 1<=maxLen;unfold maxLen;omega⟩
      . rw[<-hWT];have:=hob.set 5 (.slice (some ⟨w6.heap.size+1,0,none⟩) 1 1);simpa using this
      . show Sl _ _ _ _ _ (flat dgC (if((o1,o2):Dig)=zD then [] else [(o1,o2)]))
        rw[if_neg HNZ.out];exact Sl.of_bk (n:=1) (size:=2) ((hoth _ (by omega)).trans hnd) rfl
     rw[hWT];clear hX2 hb2 hnd hob hWT hoth zT zX hobx
   all_goals
    obtain⟨p1,p2,tA,tn,tc,hwp,hokp,hpt,hod,hobj,hobm⟩:=HPK.out;obtain⟨⟨d1,d2⟩,hdo⟩:∃t,dgO (bF (r1,r2) (p1,p2) au ms tm)=t:=⟨_,rfl⟩
    have HPC:Hid (Calls Tryz.prog 68 #[.slice qA q.length qc,.agg #[.int .i64 3,.string ⟨#[]⟩,.slice none 0 0,.int .u64 r1,.int .u64 r2,.slice tA tn tc,.string au,.int .i64 tm,.string ms]] WT (PuE qA qc q (bF (r1,r2) (p1,p2) au ms tm) WT)):=uj qA q.length qc WT.heap.size q (bF (r1,r2) (p1,p2) au ms tm) ⟨none,0,0,tA,tn,tc⟩ WT HQ6.out hobm ai hqc hqm (by omega) HSR.out.ok.asc hokp;unfold PuE at HPC;rw[hdo]at HPC hpt;simp only[aB,zD]at HPC;have HOKP:=ah hokp;have HWP:=ah hwp;have HPT2:=ah hpt;have HDO:=ah hdo;have HO6:=ah hod;obtain⟨u0,u1,_,_⟩:=hod.two;obtain⟨b0,b1,b2,b3,b4,b5,b6,b7,b8⟩:=hobj.nine;have zo6:=hod.lt;clear hwp hokp hpt hod hobj hobm hdo HPK;go_wp2_with fail;refine HPC.out.mono ?_;rintro e w7 ⟨hpu,hb7⟩;have z7:=hb7.size;have HK7:=ah (HK6.out.below hb7 (by omega));have HZ7:=ah (HZ6.out.below hb7 (by omega));have HY7:=ah (HY6.out.below hb7 (by omega));have HO7:=ah (HO6.out.below hb7 (by omega));have HB7:Hid (Below w.heap.size w w7):=HB6.out.trans (hb7.mono (by omega));clear hb7 HPC u0 u1 b0 b1 b2 b3 b4 b5 b6 b7 b8 HK6 HZ6 HY6 HO6 HB6 HQ6;rcases hpu with ⟨q2,A7,c7,hq2,rfl,hs7,_,hcm7,_⟩ | ⟨hq2,rfl⟩
    case inr =>
     have HPP:Hid ((pl,pd)= (.no,zD)):=by show _=_;rw[<-HPT2.out,hq2]
     obtain⟨W8,hW8⟩:∃W8,w7.alloc (.cells #[.int .u64 0,.int .u64 0] 50)=W8:=⟨_,rfl⟩
     have hb8:Below w7.heap.size w7 W8:=by rw[<-hW8];exact(af _ w7).alloc ai _
     have HZ8:=ah (HZ7.out.below hb8 (by omega));have HY8:=ah (HY7.out.below hb8 (by omega));have HB8:Hid (Below w.heap.size w W8):=HB7.out.trans (hb8.mono (by omega));obtain⟨⟨z0,z1',z2',z3'⟩,z4,z5,z6⟩:=HZ8.out.seven;obtain⟨⟨f0,f1,f2,f3⟩,f4,f5,f6⟩:=HZ8.out.free7;obtain⟨y0,y1,g0,g1⟩:=HY8.out.two;rw[<-hW8]at z0 z1' z2' z3' z4 z5 z6 f0 f1 f2 f3 f4 f5 f6 y0 y1 g0 g1;have HW8:=ah hW8;clear hq2 hb8 hW8;go_wp2_with fail;rw[HW8.out];obtain⟨h1,h2⟩:=jP HZ8.out HY8.out (.int .i64 0) (.slice none 0 0) (.slice none 0 0) (.int .i64 0) (.slice none 0 0) (.slice none 0 0) (.slice none 0 0) (.int .u64 0) (.int .u64 0);refine ZY (jL Tryz.results28 rfl rfl h1 h2 rfl) rfl ?_;rw[HPP.out];exact .err (by decide) (by decide) (jD HB8.out (by omega) _ _ _ _ _ _ _ _ _)
    have hpe:=HPT2.out;rw[hq2]at hpe;simp only[Prod.mk.injEq]at hpe;obtain⟨hpe1,rfl⟩:=hpe;have hq2l:=sS hq2;have hplo:PlOk q2:=mV HSR.out.ok HOKP.out hq2;obtain⟨q2n,hq2n⟩:∃n,q2.length=n:=⟨_,rfl⟩
    rw[hq2n]at hs7 hq2l ⊢;obtain⟨W8,hW8⟩:∃W8,w7.alloc (.cells #[.int .u64 d1,.int .u64 d2] 50)=W8:=⟨_,rfl⟩
    obtain⟨W9,hW9⟩:∃W9,W8.alloc (.cells #[.string nm,.int .u64 p1,.int .u64 p2,.int .u64 d1,.int .u64 d2] 85)=W9:=⟨_,rfl⟩
    have hb8:Below w7.heap.size w7 W8:=by rw[<-hW8];exact(af _ w7).alloc ai _
    have hb89:Below W8.heap.size W8 W9:=by rw[<-hW9];exact(af _ W8).alloc ai _
    have z8:W8.heap.size=w7.heap.size+1:=by rw[<-hW8];simp
    have hb9:Below w7.heap.size w7 W9:=hb8.trans (hb89.mono (by omega));have HD8:Hid (Bk W8 w7.heap.size 50 #[.int .u64 d1,.int .u64 d2]):=by rw[<-hW8];exact Bk.new w7 _ _
    have HD9:=ah (HD8.out.below hb89 (by omega));have HU9:Bk W9 (w7.heap.size+1) 85 #[.string nm,.int .u64 p1,.int .u64 p2,.int .u64 d1,.int .u64 d2]:=by rw[<-hW9];exact(Bk.new W8 _ _).at_ z8
    have HK8:=ah (HK7.out.below hb8 (by omega));have HO8:=ah (HO7.out.below hb8 (by omega));have HK9:=ah (HK7.out.below hb9 (by omega));have HZ9:=ah (HZ7.out.below hb9 (by omega));have HY9:=ah (HY7.out.below hb9 (by omega));have HB9:Hid (Below w.heap.size w W9):=HB7.out.trans (hb9.mono (by omega));have z9:=hb9.size;have HWR:=ah (sI hpck r s gs a u q2 A7 q2n c7 [(nm,(p1,p2),(d1,d2))] (some ⟨w7.heap.size+1,0,none⟩) 1 1 W9.heap.size W9 HD.out HPN.out HJ.out HMT.out HPF.out ((HM.out.below HB9.out hB).more (by have:=HB9.out.size;omega)) ai ((hs7.below hb9 ai).more z9) (Sl.of_bk (n:=1) (size:=5) HU9 rfl) (by omega)
     (fun i hi=>by obtain⟨o,ho,he⟩:=hplo.enc i hi;rw[he];exact ho.len) (fun i hi=>by rw[hplo.dg i hi];exact eP _) (by omega) (fun x hx=>by rw[List.mem_singleton.1 hx];exact⟨hnm,HWP.out,by rw[<-HDO.out];exact eP _⟩))
    have HNE:=ah (JH (p:=r.p) (q:=q2) (rs:=r.rs) (lg:=r.lg) (us:= [(nm,(p1,p2),(d1,d2))]) (by simp));rw[hpe1]at HWR HNE;simp only[rpV,rpC,HDN.out,HDP.out,HPLN.out,HRN.out,HLN.out]at HWR;obtain⟨u0,u1,_,_⟩:=HO8.out.two;obtain⟨e0,e1,_,_⟩:=HD8.out.two;obtain⟨⟨k0,k1,k2,k3⟩,k4,k5,k6⟩:=HK8.out.seven;rw[<-hW8]at u0 u1 e0 e1 k0 k1 k2 k3 k4 k5 k6;have HW8:=ah hW8;have HW9:=ah hW9;clear hpe1 hq2 hq2l hplo hq2n hs7 hb8 hb89 hb9 hW8 hW9 HU9 HPT2;go_wp2_with fail;rw[HW8.out,HW9.out];refine HWR.out.mono ?_;rintro e w10 hx;obtain⟨r',x,⟨s',rfl,hr10,hb10⟩,hfin⟩:=CmtE.of (w:=w) HNE.out hx;have HFIN:=ah (hfin (d1,d2));have z10:=hb10.size;have HR10:=ah hr10;have HK10:=ah (HK9.out.below hb10 (by have:=HK9.out.lt;omega));have HZ10:=ah (HZ9.out.below hb10 (by omega));have HY10:=ah (HY9.out.below hb10 (by omega));have HD10:=ah (HD9.out.below hb10 HD9.out.lt);have HB10:Hid (Below w.heap.size w w10):=HB9.out.trans (hb10.mono (by omega));clear hb10 hx hfin hr10 HWR u0 u1 e0 e1 k0 k1 k2 k3 k4 k5 k6;obtain⟨⟨k0,k1,k2,k3⟩,k4,k5,k6⟩:=HK10.out.seven;obtain⟨⟨f0,f1,f2,f3⟩,f4,f5,f6⟩:=HK10.out.free7;obtain⟨⟨z0,z1',z2',z3'⟩,z4,z5,z6⟩:=HZ10.out.seven;obtain⟨⟨x0,x1,x2,x3⟩,x4,x5,x6⟩:=HZ10.out.free7;obtain⟨y0,y1,g0,g1⟩:=HY10.out.two;obtain⟨u0,u1,_,_⟩:=HD10.out.two;have hn1:w.heap.size≠w.heap.size+1:=by omega
    have hn2:w.heap.size≠w.heap.size+1+1:=by omega
    have hn3:w7.heap.size≠w.heap.size:=by omega
    have hn4:w7.heap.size≠w.heap.size+1:=by omega
    have hn5:w7.heap.size≠w.heap.size+1+1:=by omega
    obtain⟨W11,hW11⟩:∃W11,((((((w10.setCell ⟨w.heap.size,0,none⟩ (.int .i64 r'.d.sz)).setCell ⟨w.heap.size,1,none⟩ (.slice s'.d.a1 r'.d.ss.length s'.d.c1)).setCell ⟨w.heap.size,2,none⟩ (.slice s'.d.a2 r'.d.pn.length s'.d.c2)).setCell ⟨w.heap.size,3,none⟩ (.int .i64 r'.d.lf)).setCell ⟨w.heap.size,4,none⟩ (.slice s'.pA r'.p.length s'.pc)).setCell ⟨w.heap.size,5,none⟩ (.slice s'.rA r'.rs.length s'.rc)).setCell ⟨w.heap.size,6,none⟩ (.slice s'.lA r'.lg.length s'.lc)=W11:=⟨_,rfl⟩
    have HK11:Hid (Bk W11 w.heap.size 35 #[.int .i64 r'.d.sz,.slice s'.d.a1 r'.d.ss.length s'.d.c1,.slice s'.d.a2 r'.d.pn.length s'.d.c2,.int .i64 r'.d.lf,.slice s'.pA r'.p.length s'.pc,.slice s'.rA r'.rs.length s'.rc,.slice s'.lA r'.lg.length s'.lc]):=by rw[<-hW11];exact HK10.out.set7 _ _ _ _ _ _ _
    have hof:∀k,k≠w.heap.size->W11.heap[k]? =w10.heap[k]? :=fun k hk=>by rw[<-hW11];exact fZ _ _ _ _ _ _ _ _ _ k hk
    have HZ11:Hid (Bk W11 (w.heap.size+1) 35 rzC):=(hof _ (by omega)).trans HZ10.out;have HY11:Hid (Bk W11 (w.heap.size+1+1) 50 #[.int .u64 0,.int .u64 0]):=(hof _ (by omega)).trans HY10.out;have HD11:Hid (Bk W11 w7.heap.size 50 #[.int .u64 d1,.int .u64 d2]):=(hof _ (by omega)).trans HD10.out;have HB11:Hid (Below w.heap.size w W11):=by rw[<-hW11];exact dz HB10.out ai _ _ _ _ _ _ _
    have z11:W11.heap.size=w10.heap.size:=by rw[<-hW11];simp
    have HR11:Hid (RpM W11 W11.heap.size r' s'):=by have:=HR10.out.box HK10.out (by simp[bxV]) hof;rw[z11];exact this
    clear hof HZ10 HY10 HD10 HB10 HR10 HK10;simp only[rpV,rpC,dkV,dkC];clear z11
    go_upto_region 17 with fail
    try rw[hW11]
    clear hW11 k0 k1 k2 k3 k4 k5 k6 f0 f1 f2 f3 f4 f5 f6 z0 z1' z2' z3' z4 z5 z6 x0 x1 x2 x3 x4 x5 x6 y0 y1 g0 g1 u0 u1;obtain⟨⟨k0,k1,k2,k3⟩,k4,k5,k6⟩:=HK11.out.seven;obtain⟨⟨z0,z1',z2',z3'⟩,z4,z5,z6⟩:=HZ11.out.seven;obtain⟨⟨x0,x1,x2,x3⟩,x4,x5,x6⟩:=HZ11.out.free7;obtain⟨y0,y1,g0,g1⟩:=HY11.out.two;obtain⟨u0,u1,_,_⟩:=HD11.out.two;have hfd:∀v1 v2:MS,RpM (((((((((W11.setCell ⟨w.heap.size+1,0,none⟩ (.int .i64 r'.d.sz)).setCell ⟨w.heap.size+1,1,none⟩ (.slice s'.d.a1 r'.d.ss.length s'.d.c1)).setCell ⟨w.heap.size+1,2,none⟩ (.slice s'.d.a2 r'.d.pn.length s'.d.c2)).setCell ⟨w.heap.size+1,3,none⟩ (.int .i64 r'.d.lf)).setCell ⟨w.heap.size+1,4,none⟩ (.slice s'.pA r'.p.length s'.pc)).setCell ⟨w.heap.size+1,5,none⟩ (.slice s'.rA r'.rs.length s'.rc)).setCell ⟨w.heap.size+1,6,none⟩ (.slice s'.lA r'.lg.length s'.lc)).setCell ⟨w.heap.size+1+1,0,none⟩ v1).setCell ⟨w.heap.size+1+1,1,none⟩ v2) W11.heap.size r' s':=fun v1 v2 =>
     (HR11.out.box HZ11.out (by simp[rzC,bxV]) (fun k hk=>fZ _ _ _ _ _ _ _ _ _ k hk)).box (t:=50) (cs:=#[.int .u64 0,.int .u64 0]) ((fZ _ _ _ _ _ _ _ _ _ _ (by omega)).trans HY11.out) (by simp[bxV]) (fun k hk=>(Z8 _ ⟨w.heap.size+1+1,1,none⟩ _ k hk).trans (Z8 _ ⟨w.heap.size+1+1,0,none⟩ _ k hk))
    have HFD:=ah hfd;clear hfd;by_cases hx0:x=0
    . subst hx0
      go_upto_region 19 with fail
      go_region
      obtain⟨h1,h2⟩:=jP HZ11.out HY11.out (.int .i64 r'.d.sz) (.slice s'.d.a1 r'.d.ss.length s'.d.c1) (.slice s'.d.a2 r'.d.pn.length s'.d.c2) (.int .i64 r'.d.lf) (.slice s'.pA r'.p.length s'.pc) (.slice s'.rA r'.rs.length s'.rc) (.slice s'.lA r'.lg.length s'.lc) (.int .u64 d1) (.int .u64 d2);have hbf:=jD HB11.out (show w.heap.size<=w.heap.size+1 by omega) (.int .i64 r'.d.sz) (.slice s'.d.a1 r'.d.ss.length s'.d.c1) (.slice s'.d.a2 r'.d.pn.length s'.d.c2) (.int .i64 r'.d.lf) (.slice s'.pA r'.p.length s'.pc) (.slice s'.rA r'.rs.length s'.rc) (.slice s'.lA r'.lg.length s'.lc) (.int .u64 d1) (.int .u64 d2);have hfr:=(HFD.out (.int .u64 d1) (.int .u64 d2)).more (B':=W11.heap.size) ai;have hsz:W11.heap.size= (((((((((W11.setCell ⟨w.heap.size+1,0,none⟩ (.int .i64 r'.d.sz)).setCell ⟨w.heap.size+1,1,none⟩ (.slice s'.d.a1 r'.d.ss.length s'.d.c1)).setCell ⟨w.heap.size+1,2,none⟩ (.slice s'.d.a2 r'.d.pn.length s'.d.c2)).setCell ⟨w.heap.size+1,3,none⟩ (.int .i64 r'.d.lf)).setCell ⟨w.heap.size+1,4,none⟩ (.slice s'.pA r'.p.length s'.pc)).setCell ⟨w.heap.size+1,5,none⟩ (.slice s'.rA r'.rs.length s'.rc)).setCell ⟨w.heap.size+1,6,none⟩ (.slice s'.lA r'.lg.length s'.lc)).setCell ⟨w.heap.size+1+1,0,none⟩ (.int .u64 d1)).setCell ⟨w.heap.size+1+1,1,none⟩ (.int .u64 d2)).heap.size:=by simp
      have HSZ:=ah hsz;clear hsz;obtain⟨WG,hWG⟩:∃WG,((((((((W11.setCell ⟨w.heap.size+1,0,none⟩ (.int .i64 r'.d.sz)).setCell ⟨w.heap.size+1,1,none⟩ (.slice s'.d.a1 r'.d.ss.length s'.d.c1)).setCell ⟨w.heap.size+1,2,none⟩ (.slice s'.d.a2 r'.d.pn.length s'.d.c2)).setCell ⟨w.heap.size+1,3,none⟩ (.int .i64 r'.d.lf)).setCell ⟨w.heap.size+1,4,none⟩ (.slice s'.pA r'.p.length s'.pc)).setCell ⟨w.heap.size+1,5,none⟩ (.slice s'.rA r'.rs.length s'.rc)).setCell ⟨w.heap.size+1,6,none⟩ (.slice s'.lA r'.lg.length s'.lc)).setCell ⟨w.heap.size+1+1,0,none⟩ (.int .u64 d1)).setCell ⟨w.heap.size+1+1,1,none⟩ (.int .u64 d2)=WG:=⟨_,rfl⟩
      rw[hWG]at h1 h2 hbf hfr HSZ ⊢;have h1d:Hid (Bk WG.drew (w.heap.size+1) _ _):=h1;have h2d:Hid (Bk WG.drew (w.heap.size+1+1) _ _):=h2;have hbd:Hid (Below w.heap.size w WG.drew):=hbf.drew;have hrd:Hid (RpM WG.drew WG.drew.heap.size r' s'):=(hfr.below (af W11.heap.size WG).drew ai).more (by show W11.heap.size<=WG.heap.size;rw[HSZ.out];exact Nat.le_refl _);clear h1 h2 hbf hfr hWG HSZ k0 k1 k2 k3 k4 k5 k6 z0 z1' z2' z3' z4 z5 z6 x0 x1 x2 x3 x4 x5 x6 y0 y1 g0 g1 u0 u1;obtain⟨WH,hWH⟩:∃WH,WG.drew=WH:=⟨_,rfl⟩
      rw[hWH]at h1d h2d hbd hrd ⊢;clear hWH;go_wp2_with fail;refine ZY (jL Tryz.results28 rfl rfl h1d.out h2d.out rfl) rfl ?_;exact HFIN.out _ s' hrd.out hbd.out
    . have hxb: (x != 0)=true:=by simpa using hx0
      have HX0:=ah hx0;clear hx0;go_wp2_with fail;obtain⟨h1,h2⟩:=jP HZ11.out HY11.out (.int .i64 r'.d.sz) (.slice s'.d.a1 r'.d.ss.length s'.d.c1) (.slice s'.d.a2 r'.d.pn.length s'.d.c2) (.int .i64 r'.d.lf) (.slice s'.pA r'.p.length s'.pc) (.slice s'.rA r'.rs.length s'.rc) (.slice s'.lA r'.lg.length s'.lc) (.int .u64 0) (.int .u64 0);have hbf:=jD HB11.out (show w.heap.size<=w.heap.size+1 by omega) (.int .i64 r'.d.sz) (.slice s'.d.a1 r'.d.ss.length s'.d.c1) (.slice s'.d.a2 r'.d.pn.length s'.d.c2) (.int .i64 r'.d.lf) (.slice s'.pA r'.p.length s'.pc) (.slice s'.rA r'.rs.length s'.rc) (.slice s'.lA r'.lg.length s'.lc) (.int .u64 0) (.int .u64 0);refine ZY (jL Tryz.results28 rfl rfl h1 h2 rfl) rfl ?_;have hf:=HFIN.out _ s' ((HFD.out (.int .u64 0) (.int .u64 0)).more (by simp)) hbf;rw[if_neg HX0.out]at hf;exact hf
section
open Go.Maps
theorem yz{fn:Func}{c:Tmp}(h:fn.results= #[.cell c 50]){w:MQ}{a:Array MS}{b:Nat}{x y:MS}(ha:a[c]?.getD undef= .pointer (some ⟨b,0,none⟩))(hk:Bk w b 50 #[x,y]) :
  (results fn a).run Tryz.prog w= .ok (.agg #[x,y]) w:=by
 have h0:=hk.cell 0;have h1:=hk.cell 1;simp at h0 h1;simp[results,h,ha,go_sem,h0,h1]
theorem wW{fn:Func}{c i j:Tmp}(h:fn.results= #[.cell c 50,.tmp i,.tmp j]){w:MQ}{a:Array MS}{b:Nat}{x y v u:MS}(ha:a[c]?.getD undef= .pointer (some ⟨b,0,none⟩))(hk:Bk w b 50 #[x,y])(hv:a[i]?.getD undef=v)(hu:a[j]?.getD undef=u) :
  (results fn a).run Tryz.prog w= .ok (.tuple #[.agg #[x,y],v,u]) w:=by
 have h0:=hk.cell 0;have h1:=hk.cell 1;simp at h0 h1;simp[results,h,ha,hv,hu,go_sem,h0,h1]
theorem Dn(s:MR)(hs:s.size<=maxLen)(h16:16<=s.size)(w:MQ) :
  Calls Tryz.prog 229 #[.string s] w fun e w'=>e= .returned (.tuple #[aB (dg (toL s)),.int .i64 16,.int .i64 0])/\Below w.heap.size w w':=by
 unfold maxLen at hs;have HE:=ah (vF (toL s));have K0:Bk ((w.alloc (.cells #[.int .u64 0,.int .u64 0] 50)).alloc (.cells #[.int .u64 0,.int .u64 0] 50)) w.heap.size 50 #[.int .u64 0,.int .u64 0]:=(Bk.new w 50 _).alloc _;have K1:Bk ((w.alloc (.cells #[.int .u64 0,.int .u64 0] 50)).alloc (.cells #[.int .u64 0,.int .u64 0] 50)) (w.heap.size+1) 50 #[.int .u64 0,.int .u64 0]:=by
  have:=Bk.new (w.alloc (.cells #[.int .u64 0,.int .u64 0] 50)) 50 #[.int .u64 0,.int .u64 0]
  rwa[Z9]at this
 have HB:Hid (Below w.heap.size w ((w.alloc (.cells #[.int .u64 0,.int .u64 0] 50)).alloc (.cells #[.int .u64 0,.int .u64 0] 50))):=((af _ w).alloc ai _).alloc (by simp) _;have HK0:=ah K0;have HK1:=ah K1;clear K0 K1;have h16i:¬(s.size:Int)<16:=by omega
 go_enter Tryz.func229,Tryz.ntmps229
 go_wp2
 go_loopw[11] (fun i wr=>∃k:Nat,k<=16/\i= .int .i64 k/\Hid (Bk wr w.heap.size 50 #[.int .u64 0,.int .u64 0])/\Hid (Bk wr (w.heap.size+1) 50 #[.int .u64 (wd1 (toL s) k),.int .u64 (wd2 (toL s) k)])/\Hid (Below w.heap.size w wr)) (fun i _=>16 - (intOf i).toNat)
 case atStart=>exact⟨0,by omega,rfl,HK0.out,HK1.out,HB.out⟩
 case round =>
  obtain⟨k,hk,rfl,J0,J1,hB⟩:=hrel;by_cases hlt:k<16
  . have hsz:k<s.size:=by omega
    have hd:s[k].toNat<256:=s[k].toNat_lt;have hki: (k:Int)<16:=by omega
    by_cases h8:k<8
    . have hx:=uY (l:=toL s) h8
      obtain⟨e1,e2⟩:=tQ (kH hsz) h8;have HE1:=ah e1;have HE2:=ah e2;have y0:=J1.out.cell 0;have y1:=J1.out.cell 1;have f0:=J1.out.free 0;simp at y0 y1;clear e1 e2;have hq: (k:Int) / 8=0:=by omega
      generalize wd1 (toL s) k=x at *;generalize wd2 (toL s) k=y at *;have hor:=kQ (x:=x) (y:=s[k].toNat) (by omega) (by omega);go_wp2_with fail
      go_region
      go_wp2
      go_roundw
      case rel=>exact⟨k+1,by omega,by go_num,J0.out.far (p:=⟨w.heap.size+1,0,none⟩) (by simp) _,by show Bk _ _ _ _;rw[HE1.out,HE2.out];exact J1.out.set 0 _,(hB.out.setCell (p:=⟨w.heap.size+1,0,none⟩) (by simp) _).drew⟩
      case measure=>simp[intOf];omega
    . have hx:=vk (l:=toL s) hlt
      obtain⟨e1,e2⟩:=tC (kH hsz) (by omega);have HE1:=ah e1;have HE2:=ah e2;have y0:=J1.out.cell 0;have y1:=J1.out.cell 1;have f1:=J1.out.free 1;simp at y0 y1;clear e1 e2;have hq: (k:Int) / 8=1:=by omega
      generalize wd1 (toL s) k=x at *;generalize wd2 (toL s) k=y at *;have hor:=kQ (x:=y) (y:=s[k].toNat) (by omega) (by omega);go_wp2_with fail
      go_region
      go_wp2
      go_roundw
      case rel=>exact⟨k+1,by omega,by go_num,J0.out.far (p:=⟨w.heap.size+1,1,none⟩) (by simp) _,by show Bk _ _ _ _;rw[HE1.out,HE2.out];exact J1.out.set 1 _,(hB.out.setCell (p:=⟨w.heap.size+1,1,none⟩) (by simp) _).drew⟩
      case measure=>simp[intOf];omega
  . have hke:Hid (k=16):=by show _=_;omega
    have hki:¬(k:Int)<16:=by omega
    have HX:Hid (dg (toL s)= ((wd1 (toL s) k:Int),(wd2 (toL s) k:Int))):=by show _=_;rw[hke.out];exact HE.out
    obtain⟨y0,y1,_,_⟩:=J1.out.agg;obtain⟨z0,z1,f0,f1⟩:=J0.out.agg;generalize wd1 (toL s) k=x at *;generalize wd2 (toL s) k=y at *;clear hlt
    go_wp2
    exact ZY (wW Tryz.results229 rfl (J0.out.set2 _ _) rfl rfl) rfl ⟨by rw[HX.out];rfl,dQ hB.out ai _ _⟩
def LX(r:Dig×Nat×Int)(w:MQ)(e:Ending)(w':MQ):Prop:=e= .returned (.tuple #[aB r.1,.int .i64 r.2.1,.int .i64 r.2.2])/\Below w.heap.size w w'
def aX(l:MU):Dig×Nat×Int:=if l.length<16 then((0,0),0,13) else(dg l,16,0)
theorem Dg(s:MR)(hs:s.size<=maxLen)(w:MQ):Calls Tryz.prog 229 #[.string s] w (LX (aX (toL s)) w):=by
 by_cases h16:s.size<16
 . have HX:Hid (aX (toL s)= ((0,0),0,13)):=by show _=_;unfold aX;rw[<-aP,if_pos h16]
   have h16i: (s.size:Int)<16:=by omega
   have K0:Bk ((w.alloc (.cells #[.int .u64 0,.int .u64 0] 50)).alloc (.cells #[.int .u64 0,.int .u64 0] 50)) w.heap.size 50 #[.int .u64 0,.int .u64 0]:=(Bk.new w 50 _).alloc _;have HB:Hid (Below w.heap.size w ((w.alloc (.cells #[.int .u64 0,.int .u64 0] 50)).alloc (.cells #[.int .u64 0,.int .u64 0] 50))):=((af _ w).alloc ai _).alloc (by simp) _;have HK0:=ah K0;clear K0
   go_enter Tryz.func229,Tryz.ntmps229
   go_wp2
   rw[HX.out];exact ZY (wW Tryz.results229 rfl HK0.out rfl rfl) rfl ⟨rfl,HB.out⟩
 . refine(Dn s hs (by omega) w).mono ?_
   rintro e w' ⟨rfl,hb⟩;have:aX (toL s)= (dg (toL s),16,0):=by unfold aX;rw[<-aP,if_neg h16]
   rw[this];exact⟨rfl,hb⟩
def qi(r:List Upd×Int)(w:MQ)(e:Ending)(w':MQ):Prop :=
 ∃A m c,e= .returned (.tuple #[.slice A m c,.int .i64 r.2])/\Apd w' w.heap.size 85 5 A m c (flat upC r.1)/\m<=c/\c<=maxLen/\Below w.heap.size w w'
theorem lM{r:List Upd×Int}{w w':MQ}{A:OA}{x:Int}(hr:r= ([],x))(hb:Below w.heap.size w w'):qi r w (.returned (.tuple #[.slice A 0 0,.int .i64 x])) w':=by
 rw[hr];exact⟨A,0,0,rfl,.inr ⟨rfl,rfl,rfl⟩,Nat.le_refl _,ZZ _,hb⟩
theorem Apd.low{w:MQ}{base base' size n c:Nat}{e:TypeId}{A:OA}{xs:List MS}(h:Apd w base e size A n c xs)(hb:base'<=base):Apd w base' e size A n c xs:=h.imp (fun h=>wK h hb) id
theorem Apd.keepB{w w':MQ}{base size n c:Nat}{e:TypeId}{A:OA}{xs:List MS}(h:Apd w base e size A n c xs)(hk:∀k cur,base<=k->w.heap[k]? =some (.cells cur e (0,0))->w'.heap[k]? =w.heap[k]?):Apd w' base e size A n c xs :=
 h.imp (fun h=>gW h fun k e=>by obtain⟨h1,cur,h2⟩:=bT h e;exact hk k cur h1 h2) id
theorem Apd.cap{w:MQ}{base size n c:Nat}{e:TypeId}{A:OA}{xs:List MS}(h:Apd w base e size A n c xs):n<=c/\c<=maxLen:=by
 rcases h with h | ⟨rfl,rfl,_⟩
 . obtain⟨A',c',e,h1,h2⟩:=nT h
   cases e;exact⟨h1,h2⟩
 . exact⟨Nat.le_refl _,ZZ _⟩
theorem oZ(s:MR)(k:Nat):toL (s.extract k s.size)= (toL s).drop k:=by
 show(s.extract k s.size).data.toList=_;rw[jW,ZW];rfl;rw[List.length_drop];show(toL s).length - k<=_;rw[<-aP];omega
def vN(v:MS)(rb:Nat)(q:MR)(bad:Bool)(w:MQ)(e:Ending)(w':MQ):Prop:=e= .returned v/\Bk w' rb 302 #[.string q,.bool bad]/\Gb (fun g=>g=rb) w w'
theorem DY(rb:Nat)(q:MR)(bad:Bool)(w:MQ)(hk:Bk w rb 302 #[.string q,.bool bad])(hq:q.size<=1000000) :
  Calls Tryz.prog 225 #[.pointer (some ⟨rb,0,none⟩),.func (.func 226) #[] #[]] w (vN (.string (ofL (aK (toL q)).1)) rb (q.extract (aK (toL q)).2.1 q.size) (bad || (aK (toL q)).2.2 != 0) w):=by
 have hgt:=pW (toL q);rw[<-aP]at hgt;have HK:=ah hk;obtain⟨x0,x1,f0,f1⟩:=hk.agg;clear hk
 go_enter Tryz.func225,Tryz.ntmps225
 go_wp2_with fail;refine(nV q (by unfold maxLen;omega) _).mono ?_;generalize aK (toL q)=g at *;obtain⟨t,m,e⟩:=g;obtain⟨ts,hts⟩:∃ts,ofL t=ts:=⟨_,rfl⟩
 rintro e' w' ⟨rfl,rfl⟩;simp only at hgt ⊢;rw[hts];have HTS:=ah hts;clear hts;have hmi: (m:Int)<= (q.size:Int):=by omega
 cases bad with
 | true =>
   go_wp2
   go_ret
   exact⟨by rw[HTS.out];rfl,iC HK.out _ _,iB _ _ _ _⟩
 | false =>
   go_wp2
   go_ret
   exact⟨by rw[HTS.out];rfl,iC HK.out _ _,iB _ _ _ _⟩
theorem Ew(rb:Nat)(q:MR)(bad:Bool)(w:MQ)(hk:Bk w rb 302 #[.string q,.bool bad]) :
  Calls Tryz.prog 231 #[.pointer (some ⟨rb,0,none⟩),.func (.func 141) #[] #[]] w (vN (.int .i64 (ay (toL q)).1) rb (q.extract (ay (toL q)).2.1 q.size) (bad || (ay (toL q)).2.2 != 0) w):=by
 have hgt:=kN (toL q);rw[<-aP]at hgt;have HK:=ah hk;obtain⟨x0,x1,f0,f1⟩:=hk.agg;clear hk
 go_enter Tryz.func231,Tryz.ntmps231
 go_wp2_with fail;refine(jC q _).mono ?_;generalize ay (toL q)=g at *;obtain⟨t,m,e⟩:=g;rintro e' w' ⟨rfl,rfl⟩;simp only at hgt ⊢;have hmi: (m:Int)<= (q.size:Int):=by omega
 cases bad with
 | true =>
   go_wp2
   go_ret
   exact⟨rfl,iC HK.out _ _,iB _ _ _ _⟩
 | false =>
   go_wp2
   go_ret
   exact⟨rfl,iC HK.out _ _,iB _ _ _ _⟩
theorem IQ(l:MU): (aX l).2.1<=l.length:=by
 unfold aX;split
 . simp
 . simp;omega
theorem xY(rb:Nat)(q:MR)(bad:Bool)(w:MQ)(hk:Bk w rb 302 #[.string q,.bool bad])(hq:q.size<=1000000) :
  Calls Tryz.prog 228 #[.pointer (some ⟨rb,0,none⟩),.func (.func 229) #[] #[]] w (vN (aB (aX (toL q)).1) rb (q.extract (aX (toL q)).2.1 q.size) (bad || (aX (toL q)).2.2 != 0) w):=by
 have hgt:=IQ (toL q);rw[<-aP]at hgt;have hlt:=hk.lt;have hka:=hk.alloc (.cells #[.int .u64 0,.int .u64 0] 50);obtain⟨x0,x1,f0,f1⟩:=hka.agg;have HK:=ah hka;have K4:=ah (Bk.new w 50 #[.int .u64 0,.int .u64 0]);clear hk hka
 go_enter Tryz.func228,Tryz.ntmps228
 go_wp2_with fail;refine(Dg q (by unfold maxLen;omega) _).mono ?_;generalize aX (toL q)=g at *;obtain⟨⟨a,b⟩,m,e⟩:=g;rintro e' w2 ⟨rfl,hb2⟩;simp only[aB]at hgt ⊢;have hz2:w.heap.size+1<=w2.heap.size:=by have:=hb2.size;simp at this;omega
 have J:=ah ((HK.out.below hb2 (by simp;omega)).alloc (.cells #[.int .u64 a,.int .u64 b] 50));have J4:=ah ((K4.out.below hb2 (by simp)).alloc (.cells #[.int .u64 a,.int .u64 b] 50));have J5:=ah (Bk.new w2 50 #[.int .u64 a,.int .u64 b]);have G2:Hid (Gb (fun g=>g=rb) w (w2.alloc (.cells #[.int .u64 a,.int .u64 b] 50))):=(Gb.of_below ((af _ w).alloc ai _)).trans ((Gb.of_below hb2).trans (Gb.of_below ((af _ w2).alloc ai _)));clear hb2 x0 x1 f0 f1;obtain⟨x0,x1,f0,f1⟩:=J.out.agg;obtain⟨y0,y1,g0,g1⟩:=J4.out.agg;have hne1:rb≠w.heap.size:=by omega
 have hne2:rb≠w2.heap.size:=by omega
 have hmi: (m:Int)<= (q.size:Int):=by omega
 cases bad with
 | true =>
   go_wp2
   exact ZY (yz Tryz.results228 rfl (((J4.out.far (p:=⟨rb,1,none⟩) hne1.symm _).far (p:=⟨rb,0,none⟩) hne1.symm _).set2 _ _)) rfl
    ⟨rfl,((iC J.out _ _).far (p:=⟨w.heap.size,0,none⟩) hne1 _).far (p:=⟨w.heap.size,1,none⟩) hne1 _,((G2.out.trans (iB _ _ _ _)).after ai 0 _).after ai 1 _⟩
 | false =>
   go_wp2
   exact ZY (yz Tryz.results228 rfl (((J4.out.far (p:=⟨rb,1,none⟩) hne1.symm _).far (p:=⟨rb,0,none⟩) hne1.symm _).set2 _ _)) rfl
    ⟨rfl,((iC J.out _ _).far (p:=⟨w.heap.size,0,none⟩) hne1 _).far (p:=⟨w.heap.size,1,none⟩) hne1 _,((G2.out.trans (iB _ _ _ _)).after ai 0 _).after ai 1 _⟩
def vL(rb ub:Nat)(q:MR)(bad:Bool)(cs:Array MS)(w:MQ)(e:Ending)(w':MQ):Prop:=e= .returned (.tuple #[])/\Bk w' rb 302 #[.string q,.bool bad]/\Bk w' ub 85 cs/\Gb (fun g=>g=rb∨g=ub) w w'
theorem Gb.or1{rb ub:Nat}{a b:MQ}(h:Gb (fun g=>g=rb) a b):Gb (fun g=>g=rb∨g=ub) a b:=h.mono fun _ _ e=> .inl e
theorem GH(rb ub:Nat)(q:MR)(bad:Bool)(s:MR)(a b c d:Int)(w:MQ)(hk:Bk w rb 302 #[.string q,.bool bad])(hu:Bk w ub 85 #[.string s,.int .u64 a,.int .u64 b,.int .u64 c,.int .u64 d])(hq:q.size<=1000000)(hne:rb≠ub) :
  Calls Tryz.prog 224 #[.pointer (some ⟨rb,0,none⟩),.pointer (some ⟨ub,0,none⟩)] w (vL rb ub (q.extract (aK (toL q)).2.1 q.size) (bad || (aK (toL q)).2.2 != 0) #[.string (ofL (aK (toL q)).1),.int .u64 a,.int .u64 b,.int .u64 c,.int .u64 d] w):=by
 have HK:=ah hk;have HU:=ah hu;clear hk hu
 go_enter Tryz.func224,Tryz.ntmps224
 go_wp2_with fail;refine(DY rb q bad _ HK.out hq).mono ?_;generalize ofL (aK (toL q)).1=ts at *;generalize q.extract (aK (toL q)).2.1 q.size=q' at *;generalize (bad || (aK (toL q)).2.2 != 0)=b' at *;rintro e w1 ⟨rfl,k1,g1⟩;have U1:=g1.bk HU.out (fun e=>hne e.symm);have HU1:=ah U1;have HK1:=ah k1;have HG1:=ah g1;have u0:=U1.cell 0;have f0:=U1.free 0;simp at u0;clear U1 k1 g1
 go_wp2
 go_end0
 exact⟨rfl,HK1.out.far (p:=⟨ub,0,none⟩) hne _,by have:=HU1.out.set 0 (.string ts);simpa using this,HG1.out.or1.trans (Gb.set (.inr rfl) 0 _)⟩
theorem GK(rb ub:Nat)(q:MR)(bad:Bool)(s:MR)(a b c d:Int)(w:MQ)(hk:Bk w rb 302 #[.string q,.bool bad])(hu:Bk w ub 85 #[.string s,.int .u64 a,.int .u64 b,.int .u64 c,.int .u64 d])(hq:q.size<=1000000)(hne:rb≠ub) :
  Calls Tryz.prog 227 #[.pointer (some ⟨rb,0,none⟩),.pointer (some ⟨ub,0,none⟩)] w (vL rb ub (q.extract (aX (toL q)).2.1 q.size) (bad || (aX (toL q)).2.2 != 0) #[.string s,.int .u64 (aX (toL q)).1.1,.int .u64 (aX (toL q)).1.2,.int .u64 c,.int .u64 d] w):=by
 have HK:=ah hk;have HU:=ah hu;clear hk hu
 go_enter Tryz.func227,Tryz.ntmps227
 go_wp2_with fail;refine(xY rb q bad _ HK.out hq).mono ?_;generalize aX (toL q)=g at *;obtain⟨⟨x,y⟩,m,ee⟩:=g;simp only[aB];generalize q.extract m q.size=q' at *;generalize (bad || ee != 0)=b' at *;rintro e w1 ⟨rfl,k1,g1⟩;have U1:=g1.bk HU.out (fun e=>hne e.symm);have HU1:=ah U1;have HK1:=ah k1;have HG1:=ah g1;have u1:=U1.cell 1;have u2:=U1.cell 2;have f1:=U1.free 1;have f2:=U1.free 2;simp at u1 u2;clear U1 k1 g1
 go_wp2
 go_end0
 exact⟨rfl,(HK1.out.far (p:=⟨ub,1,none⟩) hne _).far (p:=⟨ub,2,none⟩) hne _,by have:=(HU1.out.set 1 (.int .u64 x)).set 2 (.int .u64 y);simpa using this,(HG1.out.or1.trans (Gb.set (.inr rfl) 1 _)).trans (Gb.set (.inr rfl) 2 _)⟩
theorem He(rb ub:Nat)(q:MR)(bad:Bool)(s:MR)(a b c d:Int)(w:MQ)(hk:Bk w rb 302 #[.string q,.bool bad])(hu:Bk w ub 85 #[.string s,.int .u64 a,.int .u64 b,.int .u64 c,.int .u64 d])(hq:q.size<=1000000)(hne:rb≠ub) :
  Calls Tryz.prog 230 #[.pointer (some ⟨rb,0,none⟩),.pointer (some ⟨ub,0,none⟩)] w (vL rb ub (q.extract (aX (toL q)).2.1 q.size) (bad || (aX (toL q)).2.2 != 0) #[.string s,.int .u64 a,.int .u64 b,.int .u64 (aX (toL q)).1.1,.int .u64 (aX (toL q)).1.2] w):=by
 have HK:=ah hk;have HU:=ah hu;clear hk hu
 go_enter Tryz.func230,Tryz.ntmps230
 go_wp2_with fail;refine(xY rb q bad _ HK.out hq).mono ?_;generalize aX (toL q)=g at *;obtain⟨⟨x,y⟩,m,ee⟩:=g;simp only[aB];generalize q.extract m q.size=q' at *;generalize (bad || ee != 0)=b' at *;rintro e w1 ⟨rfl,k1,g1⟩;have U1:=g1.bk HU.out (fun e=>hne e.symm);have HU1:=ah U1;have HK1:=ah k1;have HG1:=ah g1;have u1:=U1.cell 3;have u2:=U1.cell 4;have f1:=U1.free 3;have f2:=U1.free 4;simp at u1 u2;clear U1 k1 g1
 go_wp2
 go_end0
 exact⟨rfl,(HK1.out.far (p:=⟨ub,3,none⟩) hne _).far (p:=⟨ub,4,none⟩) hne _,by have:=(HU1.out.set 3 (.int .u64 x)).set 4 (.int .u64 y);simpa using this,(HG1.out.or1.trans (Gb.set (.inr rfl) 3 _)).trans (Gb.set (.inr rfl) 4 _)⟩
end
end Go.Proofs.YtknefelegjlgnaaGreatDoor
