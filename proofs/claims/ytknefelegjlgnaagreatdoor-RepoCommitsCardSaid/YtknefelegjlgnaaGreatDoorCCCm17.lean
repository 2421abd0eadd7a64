/-Lemmas.-/
import Derived.Test.YtknefelegjlgnaaGreatDoorCCCm15
set_option maxRecDepth 100000
set_option maxHeartbeats 16000000
namespace Go.Proofs.YtknefelegjlgnaaGreatDoor
open Go.RowKit
def nZ(r:Rp)(n x:Int)(w:VA)(e:Ending)(w':VA):Prop:=∃s,e= .returned (.tuple #[rpV r s,.int .i64 n,.int .i64 x])/\RpM w' w'.heap.size r s/\VE w w'
def CoE(r:Rp)(a:Nat)(pl:gI)(w:VA)(e:Ending)(w':VA):Prop:=match pl with
 | .rew g p rs lg=>nZ (after r (dV r.d a (aN g)) p rs lg).1 (if(after r (dV r.d a (aN g)) p rs lg).2=0 then(r.p.length:Int) - (p.length:Int) else 0) (after r (dV r.d a (aN g)) p rs lg).2 w e w'
 | _=>nZ r 0 0 w e w'
theorem Px{p:List Itm}(hp:PlOk p){rs:List Rf}{l m:List Dig}(h:uS p (rs.map (·.2)) l m):fQ p l=iG p rs:=by
 unfold fQ iG;refine List.filter_congr fun i hi=>?_;rw[decide_eq_decide,h.there];obtain⟨o,ho,e⟩:=hp.enc i hi;have hg:aC p i.1=some o:=(iI hp).2 ⟨ho,by rw[<-e];exact hi⟩;exact⟨fun h=>h.2.1,fun h=>⟨qi hp hg,h,by rw[hg];simp⟩⟩
theorem yE{fn:Func}{c i j:Tmp}(h:fn.results= #[.cell c 35,.tmp i,.tmp j]){w:VA}{b:Nat}{a:Array VC}{x0 x1 x2 x3 x4 x5 x6 u v:VC}(h1:a[c]?.getD undef= .pointer (some ⟨b,0,none⟩))(hk:Bk w b 35 #[x0,x1,x2,x3,x4,x5,x6])(hu:a[i]?.getD undef=u)(hv:a[j]?.getD undef=v) :
  (results fn a).run Tryz.prog w= .ok (.tuple #[.agg #[x0,x1,x2,x3,x4,x5,x6],u,v]) w:=by
 obtain⟨⟨k0,k1,k2,k3⟩,k4,k5,k6⟩:=hk.seven;simp[results,h,h1,hu,hv,go_sem,k0,k1,k2,k3,k4,k5,k6]
theorem BQ(r:Rp)(s:Rsl)(gs:List Gru)(a u B:Nat)(w:VA)
  (hd:r.d.Ok) (hpn:r.d.pn= []) (hj:Jn r.d.sz r.d.ss a (recs gs) u) (hM:Mt gs r.p r.rs r.lg) (hpf:r.p.length<=49000) (hm:RpM w B r s) (hB:B<=w.heap.size) :
  Calls Tryz.prog 17 #[rpV r s] w (CoE r a (gZ r.p r.rs r.lg) w):=by
 have hlf:=jv hM.rf;have hrf:=nK hM.rf;have Q:∀u∈r.lg,u.1.size<=65536/\WfU u:=fun u hu=>by
  rw[hM.lo]at hu;obtain⟨g,hg,hu⟩:=List.mem_flatMap.1 hu;exact(hM.ok g hg).us u hu
 obtain⟨d,p,rs,lg⟩:=r;simp only at hd hpn hj hM hpf hlf hrf Q ⊢;obtain⟨W,hW⟩:=NX9 ((w.alloc (.cells (rpC ⟨d,p,rs,lg⟩ s) 35)).alloc (.cells rzC 35))
 have HB0:VF w W:=by rw[<-hW];exact((ah _ w).alloc aj _).alloc (by simp) _
 have HK:Hid (Bk W w.heap.size 35 (rpC ⟨d,p,rs,lg⟩ s)):=by rw[<-hW];exact(Bk.new w _ _).alloc _
 have HZ:Hid (Bk W (w.heap.size+1) 35 rzC):=by rw[<-hW];exact(Bk.new _ _ _).at_ (by simp)
 have zW:W.heap.size=w.heap.size+2:=by rw[<-hW];simp
 obtain⟨pl,hpl⟩:=NX9 (gZ p rs lg)
 rw[hpl];have qA:=ai hpl;have c:=ai hM;have HD:=ai hd;have uw:=ai hpn;have HJ:=ai hj;have HM:=ai hm;have uA:=ai Q;have HW:=ai hW;have hdp:d.pn.length=0:=by rw[hpn];rfl
 obtain⟨dn,hdn⟩:=NX9 d.ss.length
 obtain⟨pn,hpl⟩:=NX9 p.length
 obtain⟨rn,hrn⟩:=NX9 rs.length
 obtain⟨ln,hln⟩:=NX9 lg.length
 have R:=ai hdn;have S:=ai hdp;have b:=ai hpl;have T:=ai hrn;have U:=ai hln;have HRW:Hid (Sl W B 3 s.rA rn (flat rfC rs)):=by have:=hm.rf.below HB0.o hB;simp only[hrn]at this;exact this
 have bf:Hid (Sl W B 3 s.pA pn (flat itC p)):=by have:=hm.p.below HB0.o hB;simp only[hpl]at this;exact this
 simp only[rpV,rpC,hdn,hdp,hpl,hrn,hln]at HK HW hpf hlf hrf ⊢;clear hd hpn hj hM hm Q hW hdp hdn hpl hrn hln;obtain⟨⟨k0,k1,k2,k3⟩,k4,k5,k6⟩:=HK.o.seven;obtain⟨i0,hi,K,L,M⟩:=info_parts lZ;have Hi:=ai hi;have uD:=ai K;have wz:=ai L;have xe:=ai M;have bg:Hid (∀x∈rs,WfD x.2):=fun x hx=>by
  obtain⟨⟨o,ho,_⟩,_⟩:=compl_zero.1 (c.o.co x hx);rw[jK c.o.pl ho];exact eY _
 clear hi K L M
 go_enter Tryz.func17,Tryz.ntmps17
 go_wp2_with fail;rw[HW.o]
 go_loopw[5,20] (fun v i wr=>∃(k:Nat)(A':OA)(c':Nat),k<=rn/\i= .int .i64 k/\v= .slice A' k c'/\k<=c'/\c'<=maxLen/\Hid (wr.ownsRow W.heap.size 50 2 (.slice A' k c') k (flat dgC ((rs.map (·.2)).take k)))/\VF W wr) (fun _ i _=>rn - (intOf i).toNat)
 case atStart=>exact⟨0,none,0,ZX _,rfl,rfl,Nat.le_refl _,ZX _,World.ownsRow_nil _ _ _ _,ah _ _⟩
 case round =>
  obtain⟨k,A',c',hk,rfl,rfl,hc1,hc2,hO,hBr⟩:=hrel;have HO:=ai hO.o;have f:=ai hBr.o;have zr:=f.o.size;clear hO hBr k0 k1 k2 k3 k4 k5 k6;by_cases hlt:k<rn
  . obtain⟨bb,off,y,hA,hbb,hy,hc⟩:=(HRW.o.below f.o (by omega)).at_ jg (by omega) hlt
    have x0:=hc 0 _ rfl;have x1:=hc 1 _ rfl;have x2:=hc 2 _ rfl;have hlz: (k:Int)< (rn:Int):=by omega
    have bn:Hid (flat dgC ((rs.map (·.2)).take (k+1))=flat dgC ((rs.map (·.2)).take k)++flat dgC [y.2]):=by
     show _=_;rw[aV (show(rs.map (·.2))[k]? =some y.2 by rw[List.getElem?_map,hy];rfl),bQ]
    obtain⟨yn,y1,y2⟩:=y;simp only[Nat.add_zero]at x0 x1 x2 bn;obtain⟨W3,hW3⟩:=NX9 ((wr.alloc (.cells #[.string yn,.int .u64 y1,.int .u64 y2] 52)).alloc (.cells #[.int .u64 y1,.int .u64 y2] 50))
    have hb3:VE wr W3:=by rw[<-hW3];exact((ah _ wr).alloc aj _).alloc (by simp) _
    have xA:Hid (Bk W3 (wr.heap.size+1) 50 #[.int .u64 y1,.int .u64 y2]):=by rw[<-hW3];exact(Bk.new _ _ _).at_ (by simp)
    have bz:=ai (gQ HO.o hb3);have HB3:VF W W3:=f.o.trans (hb3.mono zr);have HW3:=ai hW3;rw[hA];clear hc hy hb3 hW3
    go_wp2_with (at_builtin;refine uk (.tmp 24) (.tmp 27) 47 rfl ?_)
    rw[HW3.o];refine aH ?_;refine jV (base:=W.heap.size) (size:=2) _ rfl (.tmp 24) (.tmp 27) 47 rfl 50 i0 _ 16 Tryz.underlying47 Hi.o uD.o wz.o xe.o rfl (by decide) (.slice A' k c') k _ rfl bz.o _ _ 1 1 (flat dgC [(y1,y2)]) rfl (Sl.of_bk (n:=1) (size:=2) xA.o rfl) (kT _) (by unfold maxLen;omega) (by omega) HB3.o.size ?_;intro A4 c4 w4 ho hg cu cO;rw[<-bn.o]at ho;have zk:=ai ho;have HB4:VF W w4:=HB3.o.grown hg HB3.o.size (fun g e=>(bV bz.o e).1);clear ho hg x0 x1 x2;go_wp2_with fail;go_roundw
    case rel=>exact⟨k+1,A4,c4,hlt,by go_num,rfl,cu,cO,zk.o,HB4.o⟩
    case measure=>simp[intOf];omega
  . have hlz:¬(k:Int)< (rn:Int):=by omega
    have hkn:k=rn:=by omega
    subst hkn;have zo:Hid ((rs.map (·.2)).take k=rs.map (·.2)):=ZU (by rw[List.length_map,T.o];exact Nat.le_refl _);rw[zo.o]at HO;obtain⟨wo,hwo⟩:∃wo,wo=wr:=⟨_,rfl⟩
    subst hwo;have V:=ai (Cm p s.pA pn s.pc (rs.map (·.2)) A' k c' wo.heap.size wo ((bf.o.below f.o (by omega)).more (by omega)) (Sl.of_own HO.o) aj c.o.pl (by omega) (fun d hd=>by obtain⟨x,hx,rfl⟩:=List.mem_map.1 hd;exact bg.o x hx) hrf);unfold ReE at V;obtain⟨⟨k0,k1,k2,k3⟩,k4,k5,k6⟩:=(HK.o.below f.o (by omega)).seven;go_wp2_with fail;refine V.o.mono ?_;rintro e w2 ⟨rl,rm,zt,rc',mA,mc,rfl,hr,hsl,hln,hwl,hb2⟩;have HB2:VF W w2:=f.o.trans (hb2.mono zr);have j:=ai (NT s.pA pn s.pc w2.heap.size zt rl.length rc' p rl w2 ((bf.o.below HB2.o (by omega)).more (by have:=HB2.o.size;omega)) hsl aj (by omega) (by omega) hwl (fun i hi=>by rw[c.o.pl.dg i hi];exact eY _));unfold KeE at j;rw[Px c.o.pl hr]at j;obtain⟨F,hF⟩:=NX9 (iG p rs)
    rw[hF]at j;have dN:=ai hF;have zx:=HB2.o.size;clear hr hsl hln hwl hb2 V hF k0 k1 k2 k3 k4 k5 k6;obtain⟨⟨k0,k1,k2,k3⟩,k4,k5,k6⟩:=(HK.o.below HB2.o (by omega)).seven;go_wp2_with fail;refine j.o.mono ?_;rintro e w4 ⟨fA,fc,rfl,hsf,hfc,hfm,hb4⟩;have HB4:VF W w4:=HB2.o.trans (hb4.mono zx);have X:=ai hsf;have zT:F.length<=pn:=by rw[<-dN.o,<-b.o];exact List.length_filter_le _ _
    have Y:Hid (pl=if F.length=pn then .keep else .rew (lg,bD F) F rs lg):=by
     show _=_;rw[<-qA.o];unfold gZ;rw[dN.o,b.o]
    have Vq:=HB4.o.size;have Z:=ai (HK.o.below HB4.o (by omega));have m:=ai (HZ.o.below HB4.o (by omega));have q:VF w w4:=HB0.o.trans (HB4.o.mono (by omega));clear hsf hb4 j k0 k1 k2 k3 k4 k5 k6;obtain⟨⟨k0,k1,k2,k3⟩,k4,k5,k6⟩:=Z.o.seven;obtain⟨fn,hfn⟩:=NX9 F.length
    have h:=ai hfn;rw[hfn]at Y zT X hfc ⊢;clear hfn;by_cases hz:fn=pn
    . subst hz
      have zX:Hid (pl= .keep):=by show _=_;rw[Y.o,if_pos rfl]
      obtain⟨⟨z0,z1',z2,z3⟩,z4,z5,z6⟩:=m.o.seven;obtain⟨⟨f0,f1,f2,f3⟩,f4,f5,f6⟩:=m.o.free7;go_wp2_with fail;refine ZW (yE Tryz.results17 rfl (m.o.set7 _ _ _ _ _ _ _) rfl rfl) rfl ?_;rw[zX.o];have hbf:=dQ q.o (show w.heap.size<=w.heap.size+1 by omega) (.int .i64 d.sz) (.slice s.d.a1 dn s.d.c1) (.slice s.d.a2 0 s.d.c2) (.int .i64 d.lf) (.slice s.pA fn s.pc) (.slice s.rA k s.rc) (.slice s.lA ln s.lc);exact⟨s,by simp only[rpV,rpC,R.o,S.o,b.o,T.o,U.o];rfl,(HM.o.below hbf hB).more (by have:=hbf.size;omega),hbf⟩
    . have hnz: ((pn:Int) - (fn:Int) == 0)=false:=by rw[beq_eq_false_iff_ne];omega
      have Vr:=ai hz;have Aj:Hid (pl= .rew (lg,bD F) F rs lg):=by show _=_;rw[Y.o,if_neg hz]
      have Ak:Hid (GOk (lg,bD F)):=⟨jv c.o.rf,Ii c.o.rf,uA.o,by show(bD F).length<=_;unfold bD;rw[List.length_map,h.o];omega⟩
      have ed:Hid (Sl w4 w4.heap.size 5 s.lA ln (flat upC lg)):=by have:=(HM.o.l.below q.o hB).more (show B<=w4.heap.size by omega);simp only[U.o]at this;exact this
      have E:=ai (Dj lg s.lA ln s.lc F fA fn fc w4.heap.size w4 ed.o X.o aj Ak.o (by omega));unfold zO at E;obtain⟨l,hl⟩:=NX9 (aN (lg,bD F))
      have hl0:l≠ []:=by rw[<-hl];simp[aN]
      have hll:l.length<=200000:=by rw[<-hl];unfold aN bD;simp;have:=h.o;omega
      rw[hl]at E;have Aq:=ai hl;have Au:=ai hl0;clear hl hl0 hz;go_wp2_with fail;refine E.o.mono ?_;rintro e w5 ⟨A5,m5,c5,rfl,hs5,AP,Vm,Vo,hb5⟩;have Vs:=hb5.size;have fO:VF w w5:=q.o.trans (hb5.mono (by omega));have ag:=ai (Z.o.below hb5 (by omega));have fU:=ai (m.o.below hb5 (by omega));have N:Hid (Sl w5 w5.heap.size 3 fA fn (flat itC F)):=(X.o.below hb5 aj).more hb5.size;have HAD:=ai (KL d s.d B a u (recs gs) l A5 m5 c5 w5.heap.size w5 HD.o uw.o HJ.o (HM.o.d.below fO.o hB) (by omega) hs5 aj (by unfold maxLen;omega) Au.o);obtain⟨⟨dx,ex⟩,au⟩:∃t,dV d a l=t:=⟨_,rfl⟩
      rw[au]at HAD;have BB:=ai au;unfold bG at HAD;clear hs5 hb5 E au Z m AP k0 k1 k2 k3 k4 k5 k6;obtain⟨⟨k0,k1,k2,k3⟩,k4,k5,k6⟩:=ag.o.seven;simp only[dkV,dkC,R.o,S.o]at HAD;go_wp2_with fail;refine HAD.o.mono ?_;rintro e w6 ⟨sq,rfl,hmx,hb6⟩;have Vt:=hb6.size;have gu:=ai hmx;have iU:=ai (ag.o.below hb6 (by omega));have ku:=ai (fU.o.below hb6 (by omega));have kU:VF w w6:=fO.o.trans (hb6.mono (by omega));have O:Hid (Sl w6 w6.heap.size 3 fA fn (flat itC F)):=(N.o.below hb6 aj).more hb6.size;clear hmx hb6 HAD k0 k1 k2 k3 k4 k5 k6 ag fU N;obtain⟨xn,G⟩:=NX9 dx.ss.length
      obtain⟨xp,hxp⟩:=NX9 dx.pn.length
      have Vu:=ai G;have Vw:=ai hxp;simp only[G,hxp];obtain⟨W7,z⟩:=NX9 (w6.alloc (.cells #[.int .i64 dx.sz,.slice sq.a1 xn sq.c1,.slice sq.a2 xp sq.c2,.int .i64 dx.lf] 25))
      have hb7:VE w6 W7:=by rw[<-z];exact(ah _ w6).alloc aj _
      have HD7:Hid (Bk W7 w6.heap.size 25 #[.int .i64 dx.sz,.slice sq.a1 xn sq.c1,.slice sq.a2 xp sq.c2,.int .i64 dx.lf]):=by rw[<-z];exact Bk.new w6 _ _
      have lq:=ai (iU.o.below hb7 (by omega));have nz:=ai (ku.o.below hb7 (by omega));have HY:VF w W7:=kU.o.trans (hb7.mono (by omega));have nO:Hid (DkM W7 W7.heap.size dx sq):=(gu.o.below hb7 aj).more hb7.size;have nU:Hid (Sl W7 W7.heap.size 3 fA fn (flat itC F)):=(O.o.below hb7 aj).more hb7.size;have Vx:w6.heap.size<W7.heap.size:=HD7.o.lt;have H:=ai (C9 ⟨d,p,rs,lg⟩ ⟨zDk,F,rs,lg⟩ s ⟨⟨none,0,none,0⟩,fA,fc,s.rA,s.rc,s.lA,s.lc⟩ dx sq ex W7);have oO:Hid (∃(i0 i3:Int)(a1 a2 a4 a5 a6:OA)(l1 l2 l4 l5 l6 b1 b2 b4 b5 b6:Nat),(if ex=0 then rpV {(⟨zDk,F,rs,lg⟩:Rp) with d:=dx} {(⟨⟨none,0,none,0⟩,fA,fc,s.rA,s.rc,s.lA,s.lc⟩:Rsl) with d:=sq} else if ex=20 then rpV {(⟨d,p,rs,lg⟩:Rp) with d:=dx} {s with d:=sq} else rpV zRp zRs)= .agg #[.int .i64 i0,.slice a1 l1 b1,.slice a2 l2 b2,.int .i64 i3,.slice a4 l4 b4,.slice a5 l5 b5,.slice a6 l6 b6]):=by
       show ∃_,_;split
       . exact⟨_,_,_,_,_,_,_,_,_,_,_,_,_,_,_,_,_,rfl⟩
       . split
         . exact⟨_,_,_,_,_,_,_,_,_,_,_,_,_,_,_,_,_,rfl⟩
         . exact⟨_,_,_,_,_,_,_,_,_,_,_,_,_,_,_,_,_,rfl⟩
      obtain⟨I,i3,a1,a2,a4,a5,a6,l1,l2,l4,l5,l6,b1,b2,b4,b5,b6,hyv⟩:=oO.o;rw[hyv]at H;have KF:=ai hyv;simp only[rpV,rpC,dkV,dkC,zDk,List.length_nil,R.o,S.o,b.o,T.o,U.o,h.o,G,hxp,Int.cast_ofNat_Int]at H;obtain⟨d0,d1,d2,d3⟩:=HD7.o.dk4;obtain⟨⟨k0,k1,k2,k3⟩,k4,k5,k6⟩:=lq.o.seven;rw[<-z]at d0 d1 d2 d3 k0 k1 k2 k3 k4 k5 k6;have KR:=ai z;clear hb7 z G hxp hyv iU ku kU gu O;go_wp2_with fail;rw[KR.o];refine H.o.mono ?_;rintro e w8 ⟨rfl,hb8⟩;have Nc:=ai (nz.o.below hb8 (by omega));have PR:VF w w8:=HY.o.trans (hb8.mono (by omega));have oU:=ai (nO.o.below hb8 aj);have qc:Hid (Sl w8 w8.heap.size 3 fA fn (flat itC F)):=(nU.o.below hb8 aj).more hb8.size;have UB:=hb8.size;clear hb8 H d0 d1 d2 d3 k0 k1 k2 k3 k4 k5 k6 nz lq HD7;obtain⟨J,A⟩:=NX9 (w8.alloc (.cells #[.int .i64 I,.slice a1 l1 b1,.slice a2 l2 b2,.int .i64 i3,.slice a4 l4 b4,.slice a5 l5 b5,.slice a6 l6 b6] 35))
      have C:VE w8 J:=by rw[<-A];exact(ah _ w8).alloc aj _
      have Vf:Hid (Bk J w8.heap.size 35 #[.int .i64 I,.slice a1 l1 b1,.slice a2 l2 b2,.int .i64 i3,.slice a4 l4 b4,.slice a5 l5 b5,.slice a6 l6 b6]):=by rw[<-A];exact Bk.new w8 _ _
      have D:=ai (Nc.o.below C (by omega));have Vj:VF w J:=PR.o.trans (C.mono (by omega));have Vp:w8.heap.size≠w.heap.size+1:=by omega
      have Vk:Hid (RpM J J.heap.size ⟨dx,F,[],[]⟩ ⟨sq,fA,fc,none,0,none,0⟩):=by
       have h8:RpM w8 w8.heap.size ⟨dx,F,[],[]⟩ ⟨sq,fA,fc,none,0,none,0⟩:=⟨oU.o.more UB,by show Sl _ _ _ _ F.length _;rw[h.o];exact qc.o,Sl.nil _ _ _ _,Sl.nil _ _ _ _,by show F.length<=_;rw[h.o];exact hfc,hfm⟩
       exact(h8.below C aj).more C.size
      obtain⟨⟨q0,q1,q2,q3⟩,q4,q5,q6⟩:=Vf.o.seven;obtain⟨⟨z0,z1',z2,z3⟩,z4,z5,z6⟩:=D.o.seven;obtain⟨⟨f0,f1,f2,f3⟩,f4,f5,f6⟩:=D.o.free7;rw[<-A]at q0 q1 q2 q3 q4 q5 q6 z0 z1' z2 z3 z4 z5 z6 f0 f1 f2 f3 f4 f5 f6;have qx:=ai A;have P:Hid (∀wf n,wf= ((((((J.setCell ⟨w.heap.size+1,0,none⟩ (.int .i64 I)).setCell ⟨w.heap.size+1,1,none⟩ (.slice a1 l1 b1)).setCell ⟨w.heap.size+1,2,none⟩ (.slice a2 l2 b2)).setCell ⟨w.heap.size+1,3,none⟩ (.int .i64 i3)).setCell ⟨w.heap.size+1,4,none⟩ (.slice a4 l4 b4)).setCell ⟨w.heap.size+1,5,none⟩ (.slice a5 l5 b5)).setCell ⟨w.heap.size+1,6,none⟩ (.slice a6 l6 b6) ->
        n= (if ex=0 then(pn:Int) - (fn:Int) else 0)->CoE ⟨d,p,rs,lg⟩ a pl w (.returned (.tuple #[.agg #[.int .i64 I,.slice a1 l1 b1,.slice a2 l2 b2,.int .i64 i3,.slice a4 l4 b4,.slice a5 l5 b5,.slice a6 l6 b6],.int .i64 n,.int .i64 ex])) wf):=by
       rintro wf n hwf rfl;have hbf:VE w wf:=by rw[hwf];exact dQ Vj.o (by omega) _ _ _ _ _ _ _
       have hof:∀k,k≠w.heap.size+1->wf.heap[k]? =J.heap[k]? :=fun k hk=>by rw[hwf];exact iM _ _ _ _ _ _ _ _ _ k hk
       have zf:wf.heap.size=J.heap.size:=by rw[hwf];simp
       have h9:=(Vk.o.box D.o (by simp[bxV]) hof).more (show J.heap.size<=wf.heap.size by omega);have hrw:=(HM.o.below hbf hB).more (show B<=wf.heap.size by have:=hbf.size;omega);have hcg:=DK ⟨d,p,rs,lg⟩ s (dx,ex) sq F rs lg ⟨⟨none,0,none,0⟩,fA,fc,s.rA,s.rc,s.lA,s.lc⟩ w wf hbf hrw ⟨⟨Sl.nil _ _ _ _,Sl.nil _ _ _ _⟩,h9.p,hrw.rf,hrw.l,h9.pc,h9.pm⟩ h9.d;rw[KF.o]at hcg;obtain⟨sf,he,hmf,_⟩:=hcg;rw[Aj.o];show nZ _ _ _ _ _ _;rw[Aq.o,BB.o];simp only[Ending.returned.injEq,Value.tuple.injEq,Array.mk.injEq,List.cons.injEq,Value.int.injEq,true_and,and_true]at he;refine⟨sf,?_,hmf,hbf⟩;rw[he.1,he.2,b.o,h.o]
       congr 3
       unfold after;by_cases h0:ex=0
       . simp[h0]
       . by_cases h2:ex=20 <;> simp[h0,h2]
      clear C A;by_cases h0:ex=0
      . subst h0
        go_wp2_with fail;rw[qx.o];refine ZW (yE Tryz.results17 rfl (D.o.set7 _ _ _ _ _ _ _) rfl rfl) rfl ?_;exact P.o _ _ rfl (by simp)
      . have Vy: (ex != 0)=true:=by simpa using h0
        have Vl:=ai h0;clear h0;go_wp2_with fail;rw[qx.o];refine ZW (yE Tryz.results17 rfl (D.o.set7 _ _ _ _ _ _ _) rfl rfl) rfl ?_;exact P.o _ _ rfl (by rw[if_neg Vl.o])
theorem wI(hpck:kF)(r:Rp)(s:Rsl)(gs:List Gru)(a u:Nat)(q:List Itm)(A2:OA)(n2 c2:Nat)(us:List Upd)(A1:OA)(n1 c1:Nat)(B:Nat)(w:VA)
  (hd:r.d.Ok) (hpn:r.d.pn= []) (hj:Jn r.d.sz r.d.ss a (recs gs) u) (hM:Mt gs r.p r.rs r.lg) (hpf:r.p.length<=49000) (hm:RpM w B r s) (hB:B<=w.heap.size)
  (h1:Sl w B 3 A2 n2 (flat itC q)) (h2:Sl w B 5 A1 n1 (flat upC us)) (hq:n2<=100000) (hqs:∀i∈q,i.2.size<=65536) (hqw:∀i∈q,WfD i.1) (hn1:n1<=1000) (hus:∀u∈us,u.1.size<=65536/\WfU u) :
  Calls Tryz.prog 35 #[rpV r s,.slice A2 n2 c2,.slice A1 n1 c1] w (ExE r a u (dm r.p r.rs r.lg q us) w):=by
 have hlf:=jv hM.rf;have hrf:=nK hM.rf;have cO:∀u∈r.lg,u.1.size<=65536:=fun u hu=>by
  rw[hM.lo]at hu;obtain⟨g,hg,hu⟩:=List.mem_flatMap.1 hu;exact((hM.ok g hg).us u hu).1
 obtain⟨d,p,rs,lg⟩:=r;simp only at hd hpn hj hM hpf hlf hrf cO ⊢;obtain⟨W,hW⟩:=NX9 ((w.alloc (.cells (rpC ⟨d,p,rs,lg⟩ s) 35)).alloc (.cells rzC 35))
 have HB0:VF w W:=by rw[<-hW];exact((ah _ w).alloc aj _).alloc (by simp) _
 have HK:Hid (Bk W w.heap.size 35 (rpC ⟨d,p,rs,lg⟩ s)):=by rw[<-hW];exact(Bk.new w _ _).alloc _
 have HZ:Hid (Bk W (w.heap.size+1) 35 rzC):=by rw[<-hW];exact(Bk.new _ _ _).at_ (by simp)
 have zW:W.heap.size=w.heap.size+2:=by rw[<-hW];simp
 have HC:=ai (hpck A2 n2 c2 B q W (h1.below HB0.o hB) (by omega) (by omega) hqs hqw);obtain⟨pl,hpl⟩:=NX9 (dm p rs lg q us)
 rw[hpl];have I:=ai hpl;have dN:=ai hM;have HD:=ai hd;have VI:=ai hpn;have HJ:=ai hj;have HM:=ai hm;have H1:=ai h1;have H2:=ai h2;have ed:=ai hus;have VJ:=ai cO;have zx:=ai (h1.len dD (by omega));have P:=ai (h2.len gz (by omega));have VK:Hid (rpV ⟨d,p,rs,lg⟩ s= .agg (rpC ⟨d,p,rs,lg⟩ s)):=rfl;have HW:=ai hW;have hdp:d.pn.length=0:=by rw[hpn];rfl
 obtain⟨dn,hdn⟩:=NX9 d.ss.length
 obtain⟨pn,hpl⟩:=NX9 p.length
 obtain⟨rn,hrn⟩:=NX9 rs.length
 obtain⟨ln,hln⟩:=NX9 lg.length
 have fA:=ai hdn;have fO:=ai hdp;have v:=ai hpl;have fU:=ai hrn;have gu:=ai hln;simp only[rpV,rpC,hdn,hdp,hpl,hrn,hln]at HK HW hpf hlf hrf VK ⊢;clear hd hpn hj hM hm h1 h2 hus cO hqs hqw hW hdp hdn hpl hrn hln;have hws:w.heap.size+2=W.heap.size:=zW.symm
 go_enter Tryz.func35,Tryz.ntmps35
 go_wp2_with fail;rw[HW.o];refine HC.o.mono ?_;rintro e w1 ⟨x,rfl,hx,J,hb1⟩;have iU:=ai (HK.o.below hb1 (by omega));have HZ1:=ai (HZ.o.below hb1 (by omega));have HB1:VF w w1:=HB0.o.trans (hb1.mono (by omega));have z1:w.heap.size+2<=w1.heap.size:=by have:=hb1.size;omega
 have HX:=ai hx;clear hb1 HC HK HZ HB0 hx;by_cases h0:x=0
 case neg =>
  have VL: (x != 0)=true:=by simpa using h0
  have o:Hid (pl= .no):=by show _=_;rw[<-I.o];unfold dm;rw[if_neg (fun h=>h0 (HX.o.2 h.1))]
  have H0:=ai h0;have ku:=ai J;clear h0 J;obtain⟨⟨z0,z1',z2,z3⟩,z4,z5,z6⟩:=HZ1.o.seven;obtain⟨⟨f0,f1,f2,f3⟩,f4,f5,f6⟩:=HZ1.o.free7;go_wp2_with fail;refine ZW (eP Tryz.results35 rfl (HZ1.o.set7 _ _ _ _ _ _ _) rfl) rfl ?_;rw[o.o];exact .err H0.o ku.o (dQ HB1.o (by omega) _ _ _ _ _ _ _)
 subst h0;have kU:Hid (PlOk q):=HX.o.1 rfl;have lq:=ai (LY s.pA A2 pn s.pc n2 c2 B p q w1 (by have:=HM.o.p.below HB1.o hB;simp only[v.o]at this;exact this) (H1.o.below HB1.o hB) (by omega) (by omega) (by omega) dN.o.pl.asc kU.o.asc);unfold UnE at lq;obtain⟨⟨k0,k1,k2,k3⟩,k4,k5,k6⟩:=iU.o.seven;clear J HX;go_wp2_with fail;refine lq.o.mono ?_;rintro e w2 ⟨hcs,hb2⟩;have nz:=ai (iU.o.below hb2 (by omega));have HZ2:=ai (HZ1.o.below hb2 (by omega));have HB2:VF w w2:=HB1.o.trans (hb2.mono (by omega));have WR:w.heap.size+2<=w2.heap.size:=by have:=hb2.size;omega
 clear hb2 lq iU HZ1 HB1 k0 k1 k2 k3 k4 k5 k6;rcases hcs with ⟨un,uA,uc,hur,rfl,hus,huc,VM⟩ | ⟨hcl,rfl⟩
 case inr =>
  have o:Hid (pl= .no):=by show _=_;rw[<-I.o];unfold dm;rw[if_neg (fun h=>h.2.1 hcl)]
  obtain⟨⟨z0,z1',z2,z3⟩,z4,z5,z6⟩:=HZ2.o.seven;obtain⟨⟨f0,f1,f2,f3⟩,f4,f5,f6⟩:=HZ2.o.free7;clear hcl;go_wp2_with fail;refine ZW (eP Tryz.results35 rfl (HZ2.o.set7 _ _ _ _ _ _ _) rfl) rfl ?_;rw[o.o];exact .err (by decide) (by decide) (dQ HB2.o (by omega) _ _ _ _ _ _ _)
 have nO:=ai hur;have Y:=ai hus;have WS:un.length<=149000:=by
  have h1:=AscI.nodup_len hur.asc (l:=p++q) (fun i hi=>List.mem_append.2 ((hur.mem i).1 hi));rw[af,v.o,zx.o]at h1;omega
 clear hur hus;have K:=ai (Bz s.rA s.lA A1 rn s.rc ln s.lc n1 c1 B rs lg us w2 (by have:=HM.o.rf.below HB2.o hB;simp only[fU.o]at this;exact this) (by have:=HM.o.l.below HB2.o hB;simp only[gu.o]at this;exact this) (H2.o.below HB2.o hB) (by omega) (by unfold maxLen;omega) (by unfold maxLen;omega) (by omega) (fun u hu=>by have:=(ed.o u hu).1;unfold maxLen;omega) (fun u hu=>by have:=VJ.o u hu;unfold maxLen;omega));unfold nY at K;have L:=ai (Ox rs lg us);have nU:=ai (@xm rs lg us);obtain⟨⟨rs',VN,x⟩,hap⟩:∃t,di rs lg us=t:=⟨_,rfl⟩
 rw[hap]at K L nU;have E:=ai hap;simp only at K L nU;obtain⟨⟨k0,k1,k2,k3⟩,k4,k5,k6⟩:=nz.o.seven;clear hap;go_wp2_with fail;refine K.o.mono ?_;rintro e w3 ⟨rA,rm,rc,lA,lm,lc,rfl,zT,WJ,WL,hsl,WM,WN,hb3⟩;have C:=ai (nz.o.below hb3 (by omega));have HZ3:=ai (HZ2.o.below hb3 (by omega));have HB3:VF w w3:=HB2.o.trans (hb3.mono (by omega));have WT:w.heap.size+2<=w3.heap.size:=by have:=hb3.size;omega
 have zX:=ai (Y.o.below hb3 aj);have z23:=hb3.size;have Aj:=ai zT;have Z:=ai hsl;clear hb3 K nz HZ2 HB2 k0 k1 k2 k3 k4 k5 k6 zT hsl Y;obtain⟨c,z⟩:=NX9 (w3.alloc (.cells #[.slice rA rm rc,.slice lA lm lc] 33))
 by_cases h0:x=0
 case neg =>
  have VL: (x != 0)=true:=by simpa using h0
  have o:Hid (pl= .no):=by show _=_;rw[<-I.o];unfold dm;rw[if_neg (fun h=>h0 (by have:=h.2.2.1;rw[E.o]at this;exact this))]
  have H0:=ai h0;have hbb:VE w3 c:=by rw[<-z];exact(ah _ w3).alloc aj _
  have D:=ai (HZ3.o.below hbb (by omega));have G:VF w c:=HB3.o.trans (hbb.mono (by omega));clear h0 hbb;obtain⟨⟨z0,z1',z2,z3⟩,z4,z5,z6⟩:=D.o.seven;obtain⟨⟨f0,f1,f2,f3⟩,f4,f5,f6⟩:=D.o.free7;go_wp2_with fail;refine ZW (eP Tryz.results35 rfl (D.o.set7 _ _ _ _ _ _ _) rfl) rfl ?_;rw[o.o];exact .err H0.o L.o (dQ G.o (by omega) _ _ _ _ _ _ _)
 subst h0;have Q:Hid (Jd rs lg us rs'):=nU.o rfl;have Ak:VN=lg++us:=by have h1:=E.o;rw[Q.o.eq]at h1;cases h1;rfl
 subst Ak;have hlen:=Q.o.len;rw[P.o]at hlen;have hb3:VE w3 c:=by rw[<-z];exact(ah _ w3).alloc aj _
 have HF3:Hid (Bk c w3.heap.size 33 #[.slice rA rm rc,.slice lA lm lc]):=by rw[<-z];exact Bk.new w3 _ _
 have Aq:=ai (C.o.below hb3 (by omega));have D:=ai (HZ3.o.below hb3 (by omega));have G:VF w c:=HB3.o.trans (hb3.mono (by omega));have oO:Hid (Sl c c.heap.size 3 uA un.length (flat itC un)):=((zX.o.more z23).below hb3 aj).more hb3.size;have Au:Hid (Sl c c.heap.size 3 rA rm (flat rfC rs')):=(Aj.o.below hb3 aj).more hb3.size;have AP:Hid (Sl c c.heap.size 5 lA lm (flat upC (lg++us))):=(Z.o.below hb3 aj).more hb3.size;have zb:c.heap.size=w3.heap.size+1:=by rw[<-z];simp
 have VO:Hid (PlOk un):=nO.o.plOk dN.o.pl kU.o;have oU:=ai (yM nO.o);have VP:=ai (H2.o.below G.o hB);clear hb3 zX Aj Z C HZ3 HB3;go_wp2_with fail;clear z
 go_loopw[50] (fun i wr=>∃k:Nat,k<=n1/\i= .int .i64 k/\VF c wr/\Hid (∀j u,j<k->us[j]? =some u->u.2.2≠zD->dO un u.2.2=0)) (fun i _=>n1 - (intOf i).toNat)
 case atStart=>exact⟨0,ZX _,rfl,ah _ _,fun j u hj=>absurd hj (by omega)⟩
 case round =>
  obtain⟨k,hk,rfl,hBr,hC⟩:=hrel;have b:=ai hBr.o;have qc:=ai hC.o;have zr:=b.o.size;clear hBr hC;by_cases hlt:k<n1
  . obtain⟨bb,off,y,rfl,hbb,hy,hc⟩:=(VP.o.below b.o (by omega)).at_ gz (by omega) hlt
    have x0:=hc 0 _ rfl;have x1:=hc 1 _ rfl;have x2:=hc 2 _ rfl;have x3:=hc 3 _ rfl;have x4:=hc 4 _ rfl;have hlz: (k:Int)< (n1:Int):=by omega
    have BB:Hid (WfD y.2.2):=(ed.o y (Z7 hy)).2.2;have HY:=ai hy;obtain⟨yn,⟨o1,o2⟩,⟨m1,m2⟩⟩:=y;simp only[Nat.add_zero]at x0 x1 x2 x3 x4 BB;obtain⟨W3,hW3⟩:=NX9 (wr.alloc (.cells #[.string yn,.int .u64 o1,.int .u64 o2,.int .u64 m1,.int .u64 m2] 85))
    have hb3:VE wr W3:=by rw[<-hW3];exact(ah _ wr).alloc aj _
    have C:Hid (Bk W3 wr.heap.size 85 #[.string yn,.int .u64 o1,.int .u64 o2,.int .u64 m1,.int .u64 m2]):=by rw[<-hW3];exact Bk.new wr _ _
    have HB3:VF c W3:=b.o.trans (hb3.mono zr);have y3:=C.o.cell 3;have y4:=C.o.cell 4;simp at y3 y4;have HST:Hid (dO un (m1,m2)=0∨ ((m1,m2):Dig)=zD->∀j u,j<k+1->us[j]? =some u->u.2.2≠zD->dO un u.2.2=0):=fun h j u hj hu hz=>by
     rcases Nat.lt_or_ge j k with h1 | h1
     . exact qc.o j u h1 hu hz
     . have:j=k:=by omega
       subst this;rw[HY.o]at hu;cases hu;exact h.resolve_right hz
    clear hc hy hb3;by_cases hz: ((m1,m2):Dig)=zD
    . have hm1:m1=0:=congrArg Prod.fst hz
      have hm2:m2=0:=congrArg Prod.snd hz;have HS2:=ai (HST.o (.inr hz));rw[<-hW3]at y3 y4;have HW3:=ai hW3;subst hm1 hm2;clear hz hW3;go_wp2_with fail;rw[HW3.o];go_roundw
      case rel=>exact⟨k+1,hlt,by go_num,HB3.o,HS2.o⟩
      case measure=>simp[intOf];omega
    . have hzb: (m1 == 0 && m2 == 0)=false:=by
        rw[Bool.eq_false_iff];intro h;rw[Bool.and_eq_true,beq_iff_eq,beq_iff_eq]at h;exact hz (Prod.ext h.1 h.2)
      have VQ:=ai hz;have HCM:=ai (Bv un uA un.length uc c.heap.size (m1,m2) W3 (oO.o.below HB3.o aj) HB3.o.size (by omega) VO.o BB.o);obtain⟨cv,hcv⟩:=NX9 (dO un (m1,m2))
      rw[hcv]at HCM HST;have VR:=ai hcv;have ag:cv≠20:=by rw[<-hcv];exact QY _ _
      simp only[az]at HCM;clear hz hcv;go_wp2_with fail;refine HCM.o.mono ?_;rintro e w4 ⟨rfl,hb4⟩;have HB4:VF c w4:=HB3.o.trans (hb4.mono HB3.o.size);clear hb4 HCM x0 x1 x2 x3 x4 hW3 y3 y4;by_cases hc0:cv=0
      . subst hc0
        have HS2:=ai (HST.o (.inl rfl));go_wp2_with fail;go_roundw
        case rel=>exact⟨k+1,hlt,by go_num,HB4.o,HS2.o⟩
        case measure=>simp[intOf];omega
      . have hcb: (cv != 0)=true:=by simpa using hc0
        have o:Hid (pl= .no):=by
         show _=_;rw[<-I.o];unfold dm;rw[if_neg (fun h=>hc0 (by have:=h.2.2.2 _ (Z7 HY.o) VQ.o;rw[oU.o,VR.o]at this;exact this))]
        have H0:=ai hc0;have ku:=ai ag;have qx:=ai (D.o.below HB4.o (by omega));have KF:VF w w4:=G.o.trans (HB4.o.mono (by omega));clear hc0 ag;obtain⟨⟨z0,z1',z2,z3⟩,z4,z5,z6⟩:=qx.o.seven;obtain⟨⟨f0,f1,f2,f3⟩,f4,f5,f6⟩:=qx.o.free7;go_wp2_with fail;refine ZW (eP Tryz.results35 rfl (qx.o.set7 _ _ _ _ _ _ _) rfl) rfl ?_;rw[o.o];exact .err H0.o ku.o (dQ KF.o (by omega) _ _ _ _ _ _ _)
  . have hlz:¬(k:Int)< (n1:Int):=by omega
    have hkn:k=n1:=by omega
    have KR:Hid (∀u∈us,u.2.2≠zD->dO un u.2.2=0):=fun u hu hz=>by
     obtain⟨j,hj⟩:=List.mem_iff_getElem?.1 hu;exact qc.o j u (by have:=(List.getElem?_eq_some_iff.1 hj).1;rw[P.o]at this;omega) hj hz
    have o:Hid (pl=if dS p q= []/\us= [] then .keep else .app (us,bD (dS p q)) un rs' (lg++us)):=by
     show _=_;rw[<-I.o];unfold dm;rw[if_pos ⟨kU.o,nO.o.clear,by rw[E.o],by rw[oU.o];exact KR.o⟩,oU.o,E.o]
    obtain⟨f,hwo⟩:∃f,f=wr:=⟨_,rfl⟩
    subst hwo;have qA:VF w f:=G.o.trans (b.o.mono (by omega));have VS:=ai (Aq.o.below b.o (by omega));have VT:=ai (D.o.below b.o (by omega));have Nc:=ai (HF3.o.below b.o (by omega));have VU:Hid (Sl f f.heap.size 3 uA un.length (flat itC un)):=(oO.o.below b.o aj).more zr;have PR:Hid (Sl f f.heap.size 3 rA rm (flat rfC rs')):=(Au.o.below b.o aj).more zr;have UB:Hid (Sl f f.heap.size 5 lA lm (flat upC (lg++us))):=(AP.o.below b.o aj).more zr;have zo:w.heap.size+2<=f.heap.size:=by omega
    have WU:w3.heap.size<f.heap.size:=by omega
    clear Aq D G oO Au AP HF3 b qc hkn hlt hk;obtain⟨i0,hi,au,bf,bg⟩:=info_parts lY;have Hi:=ai hi;have VV:=ai au;have VW:=ai bf;have VX:=ai bg;have VY:Hid (Sl f B 3 A2 n2 (flat itC q)):=H1.o.below qA.o hB;have VZ:Hid (Sl f B 3 s.pA pn (flat itC p)):=by have:=HM.o.p.below qA.o hB;simp only[v.o]at this;exact this
    clear hi au bf bg;go_wp2_with fail;clear hlz
    go_loopw[15,69] (fun v15 i wr=>∃(j m:Nat)(A':OA)(c':Nat),j<=n2/\i= .int .i64 j/\v15= .slice A' m c'/\m<=c'/\c'<=maxLen/\m<=j/\Hid ((dS p (q.take j)).length=m)/\Hid (Apd wr f.heap.size 118 3 A' m c' (flat itC (dS p (q.take j))))/\VF f wr) (fun _ i _=>n2 - (intOf i).toNat)
    case atStart=>exact⟨0,0,none,0,ZX _,rfl,rfl,Nat.le_refl _,ZX _,Nat.le_refl _,rfl,.inr ⟨rfl,rfl,rfl⟩,ah _ _⟩
    case round =>
     obtain⟨j,m,A',c',hj,rfl,rfl,hmc,hcm,hmj,Vf,hO,hBel⟩:=hrel;have A:=ai Vf.o;have HO:=ai hO.o;have b:=ai hBel.o;have zr:f.heap.size<=wr.heap.size:=b.o.size;have R:=ai (VS.o.below b.o (by omega));clear Vf hO hBel;obtain⟨⟨k0,k1,k2,k3⟩,k4,k5,k6⟩:=R.o.seven;by_cases hlt:j<n2
     . obtain⟨bb,off,y,rfl,hbb,hy,y0,y1,y2⟩:=(VY.o.below b.o (by omega)).it hlt
       have hlz: (j:Int)< (n2:Int):=by omega
       have uw:=ai (Lc (p:=p) hy);obtain⟨⟨x1,x2⟩,xs⟩:=y;simp only at y0 y1 y2 uw;obtain⟨W3,hW3⟩:=NX9 (wr.alloc (.cells #[.int .u64 x1,.int .u64 x2,.string xs] 118))
       have hb3:VE wr W3:=by rw[<-hW3];exact(ah _ wr).alloc aj _
       have uD:Hid (Bk W3 wr.heap.size 118 #[.int .u64 x1,.int .u64 x2,.string xs]):=by rw[<-hW3];exact Bk.new wr _ _
       have HB3:VF f W3:=b.o.trans (hb3.mono zr);have We:=ai (HO.o.below hb3);have C:=ai (R.o.below hb3 (by omega));have wz:=ai (Qg s.pA pn s.pc B p (x1,x2) W3 (VZ.o.below HB3.o (by omega)) (by have:=HB3.o.size;omega) (by omega) dN.o.pl.asc);obtain⟨r0,r1,r2⟩:=uD.o.three;clear k0 k1 k2 k3 k4 k5 k6;obtain⟨⟨k0,k1,k2,k3⟩,k4,k5,k6⟩:=C.o.seven;rw[<-hW3]at r0 r1 r2 k0 k1 k2 k3 k4 k5 k6;have HW3:=ai hW3;simp only[az]at wz;clear hb3 hy hW3;go_wp2_with fail;rw[HW3.o];refine wz.o.mono ?_;rintro e w4 ⟨rfl,hb4⟩;have hz3:wr.heap.size<W3.heap.size:=uD.o.lt;have Vj:=ai (uD.o.below hb4 hz3);have Vk:=ai (We.o.below hb4);have HB4:VF f w4:=HB3.o.trans (hb4.mono HB3.o.size);clear hb4 wz r0 r1 r2 k0 k1 k2 k3 k4 k5 k6 y0 y1 y2;obtain⟨r0,r1,r2⟩:=Vj.o.three;have z4:wr.heap.size<w4.heap.size:=Vj.o.lt;cases hfd: (bT p (x1,x2)).isSome with
       | true =>
         have HF2:Hid (dS p (q.take (j+1))=dS p (q.take j)):=by show _=_;rw[uw.o,if_pos hfd]
         clear hfd;go_wp2_with fail;go_roundw
         case rel=>exact⟨j+1,m,A',c',hlt,by go_num,rfl,hmc,hcm,by omega,by show _=_;rw[HF2.o];exact A.o,by show Apd _ _ _ _ _ _ _ _;rw[HF2.o];exact Vk.o,HB4.o⟩
         case measure=>simp[intOf];omega
       | false =>
         have HF2:Hid (dS p (q.take (j+1))=dS p (q.take j)++ [((x1,x2),xs)]):=by show _=_;rw[uw.o,if_neg (by rw[hfd];simp)]
         have Wh:Hid (Bk (w4.alloc (.cells #[.int .u64 x1,.int .u64 x2,.string xs] 118)) w4.heap.size 118 #[.int .u64 x1,.int .u64 x2,.string xs]):=Bk.new w4 _ _;clear hfd
         go_wp2_with (at_builtin;refine uk (.tmp 79) (.tmp 81) 29 rfl ?_)
         refine aH ?_;refine eG (base:=f.heap.size) (size:=3) _ rfl (.tmp 79) (.tmp 81) 29 rfl 118 i0 _ 32 Tryz.underlying29 Hi.o VV.o VW.o VX.o rfl (by decide) A' m c' _ rfl (Apd.below Vk.o ((ah _ _).alloc aj _)) _ _ 1 1 (flat itC [((x1,x2),xs)]) rfl (Sl.of_bk (n:=1) (size:=3) Wh.o rfl) (jr _) (by unfold maxLen;omega) (by omega) (by rw[Z9];omega) ?_;intro A4 c4 w5 xe hb5 Wi xA _;rw[<-bQ,<-HF2.o]at xe;have Wj:=ai xe;have S:VF f w5:=(Below.alloc HB4.o (by omega) _).trans hb5;have Wl:Hid ((dS p (q.take (j+1))).length=m+1):=by show _=_;rw[HF2.o,af,A.o];rfl
         clear xe hb5 r0 r1 r2;go_wp2_with fail;go_roundw
         case rel=>exact⟨j+1,m+1,A4,c4,hlt,by go_num,rfl,Wi,xA,by omega,Wl.o,Wj.o,S.o⟩
         case measure=>simp[intOf];omega
     . have hlz:¬(j:Int)< (n2:Int):=by omega
       have Wn:Hid (q.take j=q):=ZU (by rw[zx.o];omega);rw[Wn.o]at A HO;obtain⟨F,hF⟩:=NX9 (dS p q)
       rw[hF]at A HO o;have zf:VF w wr:=qA.o.trans (b.o.mono (by omega));have M:=ai (VT.o.below b.o (by omega));have WV:w.heap.size+2<=wr.heap.size:=by omega
       clear hF;by_cases hk0:m=0/\n1=0
       . obtain⟨rfl,rfl⟩:=hk0
         have Wp:Hid (pl= .keep):=by show _=_;rw[o.o,if_pos ⟨List.eq_nil_of_length_eq_zero A.o,List.eq_nil_of_length_eq_zero P.o⟩]
         obtain⟨⟨z0,z1',z2,z3⟩,z4,z5,z6⟩:=M.o.seven;obtain⟨⟨f0,f1,f2,f3⟩,f4,f5,f6⟩:=M.o.free7;go_wp2_with fail;refine ZW (eP Tryz.results35 rfl (M.o.set7 _ _ _ _ _ _ _) rfl) rfl ?_;rw[Wp.o];have hbf:=dQ zf.o (show w.heap.size<=w.heap.size+1 by omega) (.int .i64 d.sz) (.slice s.d.a1 dn s.d.c1) (.slice s.d.a2 0 s.d.c2) (.int .i64 d.lf) (.slice s.pA pn s.pc) (.slice s.rA rn s.rc) (.slice s.lA ln s.lc);exact⟨s,by simp only[rpV,rpC,fA.o,fO.o,v.o,fU.o,gu.o];rfl,(HM.o.below hbf hB).more (by have:=hbf.size;omega),hbf⟩
       . have Wq:Hid (pl= .app (us,bD F) un rs' (lg++us)):=by
           show _=_;rw[o.o,if_neg (fun h=>hk0 ⟨by rw[<-A.o,h.1];rfl,by rw[<-P.o,h.2];rfl⟩)]
         have Ws:Hid (GOk (us,bD F)):=⟨Q.o.len,Q.o.pr,ed.o,by show(bD F).length<=_;unfold bD;rw[List.length_map,A.o];omega⟩
         have T:=ai (Dj us A1 n1 c1 F A' m c' wr.heap.size wr ((H2.o.below zf.o hB).more (by omega)) HO.o.sl aj Ws.o (by omega));unfold zO at T;obtain⟨l,hl⟩:=NX9 (aN (us,bD F))
         have hl0:l≠ []:=by rw[<-hl];simp[aN]
         have hll:l.length<=200000:=by rw[<-hl];unfold aN bD;simp;have:=A.o;omega
         rw[hl]at T;have Wu:=ai hl;have Wv:=ai hl0;clear hl hl0 k0 k1 k2 k3 k4 k5 k6;have hrm:rm=rs'.length:=(PR.o.len jg (by omega)).symm;have hlm:lm= (lg++us).length:=(UB.o.len gz (by omega)).symm;have bn:=ai hrm;have bz:=ai hlm;clear hrm hlm;rcases (show m≠0∨ (m=0/\n1≠0) by omega) with hm0 | ⟨rfl,hn0⟩
         all_goals
          go_wp2_with fail;refine T.o.mono ?_;rintro e w5 ⟨A5,m5,c5,rfl,hs5,xA,WO,WQ,hb5⟩;have WW:=hb5.size;have S:VF w w5:=zf.o.trans (hb5.mono (by omega));have zk:=ai (R.o.below hb5 (by omega));have Vl:=ai (M.o.below hb5 (by omega));have Vm:=ai ((Nc.o.below b.o (by omega)).below hb5 (by omega));have Vo:VF f w5:=b.o.trans (hb5.mono (by omega));have HAD:=ai (LX d s.d B a u (recs gs) l A5 m5 c5 w5.heap.size w5 HD.o VI.o HJ.o (HM.o.d.below S.o hB) (by omega) hs5 aj (by unfold maxLen;omega) Wv.o);obtain⟨⟨dx,ex⟩,zt⟩:∃t,dG d a u l=t:=⟨_,rfl⟩
          rw[zt]at HAD;have Wx:=ai zt;unfold bG at HAD;clear hs5 hb5 T zt R M Nc xA;obtain⟨⟨k0,k1,k2,k3⟩,k4,k5,k6⟩:=zk.o.seven;simp only[dkV,dkC,fA.o,fO.o]at HAD;go_wp2_with fail;refine HAD.o.mono ?_;rintro e w6 ⟨sq,rfl,hmx,hb6⟩;have WX:=hb6.size;have Vp:=ai hmx;have Vq:=ai (zk.o.below hb6 (by omega));have Vr:=ai (Vl.o.below hb6 (by omega));have HF6:=ai (Vm.o.below hb6 (by omega));have Vs:VF w w6:=S.o.trans (hb6.mono (by omega));have cu:VF f w6:=Vo.o.trans (hb6.mono (by omega));clear hmx hb6 HAD k0 k1 k2 k3 k4 k5 k6 zk Vl Vm;obtain⟨xn,U⟩:=NX9 dx.ss.length
          obtain⟨xp,hxp⟩:=NX9 dx.pn.length
          have WY:=ai U;have WZ:=ai hxp;simp only[U,hxp];obtain⟨W7,N⟩:=NX9 (w6.alloc (.cells #[.int .i64 dx.sz,.slice sq.a1 xn sq.c1,.slice sq.a2 xp sq.c2,.int .i64 dx.lf] 25))
          have hb7:VE w6 W7:=by rw[<-N];exact(ah _ w6).alloc aj _
          have HD7:Hid (Bk W7 w6.heap.size 25 #[.int .i64 dx.sz,.slice sq.a1 xn sq.c1,.slice sq.a2 xp sq.c2,.int .i64 dx.lf]):=by rw[<-N];exact Bk.new w6 _ _
          have Vt:=ai (Vq.o.below hb7 (by omega));have Vu:=ai (Vr.o.below hb7 (by omega));have Vw:=ai (HF6.o.below hb7 (by omega));have Wy:VF w W7:=Vs.o.trans (hb7.mono (by omega));have Vx:VF f W7:=cu.o.trans (hb7.mono (by omega));have Vy:Hid (DkM W7 W7.heap.size dx sq):=(Vp.o.below hb7 aj).more hb7.size;have Xa:w6.heap.size<W7.heap.size:=HD7.o.lt;have V:=ai (C9 ⟨d,p,rs,lg⟩ ⟨zDk,un,rs',lg++us⟩ s ⟨⟨none,0,none,0⟩,uA,uc,rA,rc,lA,lc⟩ dx sq ex W7);have Vz:Hid (∃(i0 i3:Int)(a1 a2 a4 a5 a6:OA)(l1 l2 l4 l5 l6 b1 b2 b4 b5 b6:Nat),(if ex=0 then rpV {(⟨zDk,un,rs',lg++us⟩:Rp) with d:=dx} {(⟨⟨none,0,none,0⟩,uA,uc,rA,rc,lA,lc⟩:Rsl) with d:=sq} else if ex=20 then rpV {(⟨d,p,rs,lg⟩:Rp) with d:=dx} {s with d:=sq} else rpV zRp zRs)= .agg #[.int .i64 i0,.slice a1 l1 b1,.slice a2 l2 b2,.int .i64 i3,.slice a4 l4 b4,.slice a5 l5 b5,.slice a6 l6 b6]):=by
           show ∃_,_;split
           . exact⟨_,_,_,_,_,_,_,_,_,_,_,_,_,_,_,_,_,rfl⟩
           . split
             . exact⟨_,_,_,_,_,_,_,_,_,_,_,_,_,_,_,_,_,rfl⟩
             . exact⟨_,_,_,_,_,_,_,_,_,_,_,_,_,_,_,_,_,rfl⟩
          obtain⟨WA,i3,a1,a2,a4,a5,a6,l1,l2,l4,l5,l6,b1,b2,b4,b5,b6,hyv⟩:=Vz.o;rw[hyv]at V;have WB:=ai hyv;simp only[rpV,rpC,dkV,dkC,zDk,List.length_nil,fA.o,fO.o,v.o,fU.o,gu.o,U,hxp,<-bn.o,<-bz.o,Int.cast_ofNat_Int]at V;obtain⟨d0,d1,d2,d3⟩:=HD7.o.dk4;obtain⟨⟨k0,k1,k2,k3⟩,k4,k5,k6⟩:=Vt.o.seven;obtain⟨g0,g1,_,_⟩:=Vw.o.two;rw[<-N]at d0 d1 d2 d3 k0 k1 k2 k3 k4 k5 k6 g0 g1;have WC:=ai N;clear hb7 N U hxp hyv Vq Vr HF6 Vs cu Vp;go_wp2_with fail;rw[WC.o];refine V.o.mono ?_;rintro e w8 ⟨rfl,hb8⟩;have O:=ai (Vu.o.below hb8 (by omega));have WE:VF w w8:=Wy.o.trans (hb8.mono (by omega));have VG:VF f w8:=Vx.o.trans (hb8.mono (by omega));have VH:=ai (Vy.o.below hb8 aj);have WG:=hb8.size;clear hb8 V d0 d1 d2 d3 k0 k1 k2 k3 k4 k5 k6 g0 g1 Vu Vt Vw HD7;obtain⟨⟨z0,z1',z2,z3⟩,z4,z5,z6⟩:=O.o.seven;obtain⟨⟨f0,f1,f2,f3⟩,f4,f5,f6⟩:=O.o.free7;go_wp2_with fail;refine ZW (eP Tryz.results35 rfl (O.o.set7 _ _ _ _ _ _ _) rfl) rfl ?_;rw[Wq.o];show fG _ _ _ _ _;rw[Wu.o,Wx.o];obtain⟨w9,X⟩:=NX9 (((((((w8.setCell ⟨w.heap.size+1,0,none⟩ (.int .i64 WA)).setCell ⟨w.heap.size+1,1,none⟩ (.slice a1 l1 b1)).setCell ⟨w.heap.size+1,2,none⟩ (.slice a2 l2 b2)).setCell ⟨w.heap.size+1,3,none⟩ (.int .i64 i3)).setCell ⟨w.heap.size+1,4,none⟩ (.slice a4 l4 b4)).setCell ⟨w.heap.size+1,5,none⟩ (.slice a5 l5 b5)).setCell ⟨w.heap.size+1,6,none⟩ (.slice a6 l6 b6))
          have hbf:VE w w9:=by rw[<-X];exact dQ WE.o (by omega) _ _ _ _ _ _ _
          have hof:∀k,k≠w.heap.size+1->w9.heap[k]? =w8.heap[k]? :=fun k hk=>by rw[<-X];exact iM _ _ _ _ _ _ _ _ _ k hk
          have z9:w9.heap.size=w8.heap.size:=by rw[<-X];simp
          have H:VE f w8:=VG.o;have WH:RpM w9 w9.heap.size ⟨zDk,un,rs',lg++us⟩ ⟨⟨none,0,none,0⟩,uA,uc,rA,rc,lA,lc⟩:=by
           have h8:RpM w8 w8.heap.size ⟨zDk,un,rs',lg++us⟩ ⟨⟨none,0,none,0⟩,uA,uc,rA,rc,lA,lc⟩ :=
            ⟨⟨Sl.nil _ _ _ _,Sl.nil _ _ _ _⟩,(VU.o.below H aj).more H.size,by have:=(PR.o.below H aj).more H.size;rw[bn.o]at this;exact this,by have:=(UB.o.below H aj).more H.size;rw[bz.o]at this;exact this,huc,VM⟩
           exact(h8.box O.o (by simp[bxV]) hof).more (by omega)
          have WI:DkM w9 w9.heap.size dx sq:=by
           have h8:RpM w8 w8.heap.size ⟨dx,[],[],[]⟩ ⟨sq,none,0,none,0,none,0⟩:=⟨VH.o.more WG,Sl.nil _ _ _ _,Sl.nil _ _ _ _,Sl.nil _ _ _ _,Nat.le_refl _,ZX _⟩
           exact((h8.box O.o (by simp[bxV]) hof).more (by omega)).d
          have hcg:=DK ⟨d,p,rs,lg⟩ s (dx,ex) sq un rs' (lg++us) ⟨⟨none,0,none,0⟩,uA,uc,rA,rc,lA,lc⟩ w w9 hbf ((HM.o.below hbf hB).more (by have:=hbf.size;omega)) WH WI;rw[WB.o]at hcg;rw[X];exact hcg
