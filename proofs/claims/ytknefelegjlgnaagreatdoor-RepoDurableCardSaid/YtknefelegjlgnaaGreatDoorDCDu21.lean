/-
  Lemmas of the card.
-/
import Derived.Test.YtknefelegjlgnaaGreatDoorDCDu20
set_option maxRecDepth 100000
set_option maxHeartbeats 16000000
namespace Go.Proofs.YtknefelegjlgnaaGreatDoor
open Go.RowKit
structure Acs where
 fA:OA
 fc:Nat
 pA:OA
 pc:Nat
 uA:OA
 uc:Nat
 kA:OA
 kc:Nat
abbrev AcX:=Ac×Acs
def acC(x:AcX):List MS:= [.int .i64 x.1.kind,.string x.1.nm,.slice x.2.fA x.1.fs.length x.2.fc,.slice x.2.pA x.1.pl.length x.2.pc,.slice x.2.uA x.1.us.length x.2.uc,.int .i64 x.1.left,.slice x.2.kA x.1.pk.length x.2.kc]
def acA(x:AcX):Array MS:=#[.int .i64 x.1.kind,.string x.1.nm,.slice x.2.fA x.1.fs.length x.2.fc,.slice x.2.pA x.1.pl.length x.2.pc,.slice x.2.uA x.1.us.length x.2.uc,.int .i64 x.1.left,.slice x.2.kA x.1.pk.length x.2.kc]
theorem pJ(x:AcX): (acC x).length=7:=rfl
structure AcM(w:MQ)(B:Nat)(x:AcX):Prop where
 f:Sl w B 2 x.2.fA x.1.fs.length (flat flC x.1.fs)
 p:Sl w B 3 x.2.pA x.1.pl.length (flat itC x.1.pl)
 u:Sl w B 5 x.2.uA x.1.us.length (flat upC x.1.us)
 k:Sl w B 1 x.2.kA x.1.pk.length (flat gT x.1.pk)
theorem AcM.below{w w':MQ}{B B':Nat}{x:AcX}(h:AcM w B x)(hb:Below B' w w')(hB:B<=B'):AcM w' B x:=⟨h.f.below hb hB,h.p.below hb hB,h.u.below hb hB,h.k.below hb hB⟩
theorem AcM.more{w:MQ}{B B':Nat}{x:AcX}(h:AcM w B x)(hB:B<=B'):AcM w B' x:=⟨h.f.more hB,h.p.more hB,h.u.more hB,h.k.more hB⟩
structure AcB(x:Ac):Prop where
 fn:x.fs.length<=maxLen
 fs:∀f∈x.fs,f.1.size<=maxLen/\f.2.size<=maxLen
 pn:x.pl.length<=maxLen
 ps:∀i∈x.pl,WfD i.1/\i.2.size<=maxLen
 un:x.us.length<=maxLen
 us:∀u∈x.us,u.1.size<=maxLen/\WfU u
 kn:x.pk.length<=maxLen
 nm:x.nm.size<=maxLen
 lm:x.left<=9223372036854775807
structure AcsM(w:MQ)(B:Nat)(A:OA)(n:Nat)(l:List AcX):Prop where
 s:Sl w B 7 A n (flat acC l)
 m:∀x∈l,AcM w B x
theorem AcsM.below{w w':MQ}{B B':Nat}{A:OA}{n:Nat}{l:List AcX}(h:AcsM w B A n l)(hb:Below B' w w')(hB:B<=B'):AcsM w' B A n l:=⟨h.s.below hb hB,fun x hx=>(h.m x hx).below hb hB⟩
theorem Sl.ac{w:MQ}{B n k:Nat}{A:OA}{l:List AcX}(h:Sl w B 7 A n (flat acC l))(hk:k<n) :
  ∃b off x,A=some ⟨b,off,none⟩/\b<B/\l[k]? =some x/\ (w.cell? ⟨b,off+k*7,none⟩=some (.int .i64 x.1.kind)/\w.cell? ⟨b,off+k*7+1,none⟩=some (.string x.1.nm)/\w.cell? ⟨b,off+k*7+2,none⟩=some (.slice x.2.fA x.1.fs.length x.2.fc)/\w.cell? ⟨b,off+k*7+3,none⟩=some (.slice x.2.pA x.1.pl.length x.2.pc))
   /\w.cell? ⟨b,off+k*7+4,none⟩=some (.slice x.2.uA x.1.us.length x.2.uc)/\w.cell? ⟨b,off+k*7+5,none⟩=some (.int .i64 x.1.left)/\w.cell? ⟨b,off+k*7+6,none⟩=some (.slice x.2.kA x.1.pk.length x.2.kc):=by
 obtain⟨b,off,u,rfl,hb,hu,hc⟩:=h.at_ pJ (by omega) hk;exact⟨b,off,u,rfl,hb,hu,⟨hc 0 _ rfl,hc 1 _ rfl,hc 2 _ rfl,hc 3 _ rfl⟩,hc 4 _ rfl,hc 5 _ rfl,hc 6 _ rfl⟩
def jb(n z:Int)(A:OA)(m c:Nat):MS:= .agg #[.int .i64 n,.int .i64 z,.slice A m c]
def lC(r:Rp)(n x:Int)(w:MQ)(e:Ending)(w':MQ):Prop:=∃s,e= .returned (.tuple #[rpV r s,.int .i64 n,.int .i64 x])/\RpM w' w'.heap.size r s/\Below w.heap.size w w'
def CoE(r:Rp)(a:Nat)(pl:fw)(w:MQ)(e:Ending)(w':MQ):Prop:=match pl with
 | .rew g p rs lg=>lC (after r (dC r.d a (aN g)) p rs lg).1 (if(after r (dC r.d a (aN g)) p rs lg).2=0 then(r.p.length:Int) - (p.length:Int) else 0) (after r (dC r.d a (aN g)) p rs lg).2 w e w'
 | _=>lC r 0 0 w e w'
theorem Il{p:List Itm}(hp:PlOk p){rs:List Rf}{l m:List Dig}(h:qB p (rs.map (·.2)) l m):eG p l=fP p rs:=by
 unfold eG fP;refine List.filter_congr fun i hi=>?_;rw[decide_eq_decide,h.there];obtain⟨o,ho,e⟩:=hp.enc i hi;have hg:aL p i.1=some o:=(gp hp).2 ⟨ho,by rw[<-e];exact hi⟩;exact⟨fun h=>h.2.1,fun h=>⟨uG hp hg,h,by rw[hg];simp⟩⟩
theorem uO{fn:Func}{c i j:Tmp}(h:fn.results= #[.cell c 35,.tmp i,.tmp j]){w:MQ}{b:Nat}{a:Array MS}{x0 x1 x2 x3 x4 x5 x6 u v:MS}(h1:a[c]?.getD undef= .pointer (some ⟨b,0,none⟩))(hk:Bk w b 35 #[x0,x1,x2,x3,x4,x5,x6])(hu:a[i]?.getD undef=u)(hv:a[j]?.getD undef=v) :
  (results fn a).run Tryz.prog w= .ok (.tuple #[.agg #[x0,x1,x2,x3,x4,x5,x6],u,v]) w:=by
 obtain⟨⟨k0,k1,k2,k3⟩,k4,k5,k6⟩:=hk.seven;simp[results,h,h1,hu,hv,go_sem,k0,k1,k2,k3,k4,k5,k6]
theorem xC(r:Rp)(s:Rsl)(gs:List Gru)(a u B:Nat)(w:MQ)
  (hd:r.d.Ok) (hpn:r.d.pn= []) (hj:Jn r.d.sz r.d.ss a (recs gs) u) (hM:Mt gs r.p r.rs r.lg) (hpf:r.p.length<=49000) (hm:RpM w B r s) (hB:B<=w.heap.size) :
  Calls Tryz.prog 17 #[rpV r s] w (CoE r a (fB r.p r.rs r.lg) w):=by
 have hlf:=gY hM.rf;have hrf:=kS hM.rf;have hlw:∀u∈r.lg,u.1.size<=65536/\WfU u:=fun u hu=>by
  rw[hM.lo]at hu;obtain⟨g,hg,hu⟩:=List.mem_flatMap.1 hu;exact(hM.ok g hg).us u hu
 obtain⟨d,p,rs,lg⟩:=r;simp only at hd hpn hj hM hpf hlf hrf hlw ⊢;obtain⟨W,hW⟩:∃W,(w.alloc (.cells (rpC ⟨d,p,rs,lg⟩ s) 35)).alloc (.cells rzC 35)=W:=⟨_,rfl⟩
 have HB0:Hid (Below w.heap.size w W):=by rw[<-hW];exact((af _ w).alloc ai _).alloc (by simp) _
 have HK:Hid (Bk W w.heap.size 35 (rpC ⟨d,p,rs,lg⟩ s)):=by rw[<-hW];exact(Bk.new w _ _).alloc _
 have HZ:Hid (Bk W (w.heap.size+1) 35 rzC):=by rw[<-hW];exact(Bk.new _ _ _).at_ (by simp)
 have zW:W.heap.size=w.heap.size+2:=by rw[<-hW];simp
 obtain⟨pl,hpl⟩:∃pl,fB p rs lg=pl:=⟨_,rfl⟩
 rw[hpl];have HPL:=ah hpl;have HMT:=ah hM;have HD:=ah hd;have HPN:=ah hpn;have HJ:=ah hj;have HM:=ah hm;have HLW:=ah hlw;have HW:=ah hW;have hdp:d.pn.length=0:=by rw[hpn];rfl
 obtain⟨dn,hdn⟩:∃dn,d.ss.length=dn:=⟨_,rfl⟩
 obtain⟨pn,hpl⟩:∃pn,p.length=pn:=⟨_,rfl⟩
 obtain⟨rn,hrn⟩:∃rn,rs.length=rn:=⟨_,rfl⟩
 obtain⟨ln,hln⟩:∃ln,lg.length=ln:=⟨_,rfl⟩
 have HDN:=ah hdn;have HDP:=ah hdp;have HPLN:=ah hpl;have HRN:=ah hrn;have HLN:=ah hln;have HRW:Hid (Sl W B 3 s.rA rn (flat rfC rs)):=by have:=hm.rf.below HB0.out hB;simp only[hrn]at this;exact this
 have HPW:Hid (Sl W B 3 s.pA pn (flat itC p)):=by have:=hm.p.below HB0.out hB;simp only[hpl]at this;exact this
 simp only[rpV,rpC,hdn,hdp,hpl,hrn,hln]at HK HW hpf hlf hrf ⊢;clear hd hpn hj hM hm hlw hW hdp hdn hpl hrn hln;obtain⟨⟨k0,k1,k2,k3⟩,k4,k5,k6⟩:=HK.out.seven;obtain⟨i0,hi,hzz0,hzz1,hzz2⟩:=info_parts jv;have Hi:=ah hi;have Hz0:=ah hzz0;have Hz1:=ah hzz1;have Hz2:=ah hzz2;have HWFR:Hid (∀x∈rs,WfD x.2):=fun x hx=>by
  obtain⟨⟨o,ho,_⟩,_⟩:=compl_zero.1 (HMT.out.co x hx);rw[mW HMT.out.pl ho];exact eP _
 clear hi hzz0 hzz1 hzz2
 go_enter Tryz.func17,Tryz.ntmps17
 go_wp2_with fail;rw[HW.out]
 go_loopw[5,20] (fun v i wr=>∃(k:Nat)(A':OA)(c':Nat),k<=rn/\i= .int .i64 k/\v= .slice A' k c'/\k<=c'/\c'<=maxLen/\Hid (wr.ownsRow W.heap.size 50 2 (.slice A' k c') k (flat dgC ((rs.map (·.2)).take k)))/\Hid (Below W.heap.size W wr)) (fun _ i _=>rn - (intOf i).toNat)
 case atStart=>exact⟨0,none,0,ZZ _,rfl,rfl,Nat.le_refl _,ZZ _,World.ownsRow_nil _ _ _ _,af _ _⟩
 case round =>
  obtain⟨k,A',c',hk,rfl,rfl,hc1,hc2,hO,hBr⟩:=hrel;have HO:=ah hO.out;have HBr:=ah hBr.out;have zr:=HBr.out.size;clear hO hBr k0 k1 k2 k3 k4 k5 k6;by_cases hlt:k<rn
  . obtain⟨bb,off,y,hA,hbb,hy,hc⟩:=(HRW.out.below HBr.out (by omega)).at_ gN (by omega) hlt
    have x0:=hc 0 _ rfl;have x1:=hc 1 _ rfl;have x2:=hc 2 _ rfl;have hlz: (k:Int)< (rn:Int):=by omega
    have HTK:Hid (flat dgC ((rs.map (·.2)).take (k+1))=flat dgC ((rs.map (·.2)).take k)++flat dgC [y.2]):=by
     show _=_;rw[aS (show(rs.map (·.2))[k]? =some y.2 by rw[List.getElem?_map,hy];rfl),bu]
    obtain⟨yn,y1,y2⟩:=y;simp only[Nat.add_zero]at x0 x1 x2 HTK;obtain⟨W3,hW3⟩:∃W3,(wr.alloc (.cells #[.string yn,.int .u64 y1,.int .u64 y2] 52)).alloc (.cells #[.int .u64 y1,.int .u64 y2] 50)=W3:=⟨_,rfl⟩
    have hb3:Below wr.heap.size wr W3:=by rw[<-hW3];exact((af _ wr).alloc ai _).alloc (by simp) _
    have HNB:Hid (Bk W3 (wr.heap.size+1) 50 #[.int .u64 y1,.int .u64 y2]):=by rw[<-hW3];exact(Bk.new _ _ _).at_ (by simp)
    have HO3:=ah (fJ HO.out hb3);have HB3:Hid (Below W.heap.size W W3):=HBr.out.trans (hb3.mono zr);have HW3:=ah hW3;rw[hA];clear hc hy hb3 hW3
    go_wp2_with (at_builtin;refine pO (.tmp 24) (.tmp 27) 47 rfl ?_)
    rw[HW3.out];refine aF ?_;refine iL (base:=W.heap.size) (size:=2) _ rfl (.tmp 24) (.tmp 27) 47 rfl 50 i0 _ 16 Tryz.underlying47 Hi.out Hz0.out Hz1.out Hz2.out rfl (by decide) (.slice A' k c') k _ rfl HO3.out _ _ 1 1 (flat dgC [(y1,y2)]) rfl (Sl.of_bk (n:=1) (size:=2) HNB.out rfl) (jm _) (by unfold maxLen;omega) (by omega) HB3.out.size ?_;intro A4 c4 w4 ho hg hc41 hc42;rw[<-HTK.out]at ho;have HO4:=ah ho;have HB4:Hid (Below W.heap.size W w4):=HB3.out.grown hg HB3.out.size (fun g e=>(bT HO3.out e).1);clear ho hg x0 x1 x2;go_wp2_with fail;go_roundw
    case rel=>exact⟨k+1,A4,c4,hlt,by go_num,rfl,hc41,hc42,HO4.out,HB4.out⟩
    case measure=>simp[intOf];omega
  . have hlz:¬(k:Int)< (rn:Int):=by omega
    have hkn:k=rn:=by omega
    subst hkn;have HTA:Hid ((rs.map (·.2)).take k=rs.map (·.2)):=ZW (by rw[List.length_map,HRN.out];exact Nat.le_refl _);rw[HTA.out]at HO;obtain⟨wo,hwo⟩:∃wo,wo=wr:=⟨_,rfl⟩
    subst hwo;have HRE:=ah (xM p s.pA pn s.pc (rs.map (·.2)) A' k c' wo.heap.size wo ((HPW.out.below HBr.out (by omega)).more (by omega)) (Sl.of_own HO.out) ai HMT.out.pl (by omega) (fun d hd=>by obtain⟨x,hx,rfl⟩:=List.mem_map.1 hd;exact HWFR.out x hx) hrf);unfold ReE at HRE;obtain⟨⟨k0,k1,k2,k3⟩,k4,k5,k6⟩:=(HK.out.below HBr.out (by omega)).seven;go_wp2_with fail;refine HRE.out.mono ?_;rintro e w2 ⟨rl,rm,rA',rc',mA,mc,rfl,hr,hsl,hln,hwl,hb2⟩;have HB2:Hid (Below W.heap.size W w2):=HBr.out.trans (hb2.mono zr);have HKE:=ah (F9 s.pA pn s.pc w2.heap.size rA' rl.length rc' p rl w2 ((HPW.out.below HB2.out (by omega)).more (by have:=HB2.out.size;omega)) hsl ai (by omega) (by omega) hwl (fun i hi=>by rw[HMT.out.pl.dg i hi];exact eP _));unfold KeE at HKE;rw[Il HMT.out.pl hr]at HKE;obtain⟨F,hF⟩:∃F,fP p rs=F:=⟨_,rfl⟩
    rw[hF]at HKE;have HFE:=ah hF;have z2s:=HB2.out.size;clear hr hsl hln hwl hb2 HRE hF k0 k1 k2 k3 k4 k5 k6;obtain⟨⟨k0,k1,k2,k3⟩,k4,k5,k6⟩:=(HK.out.below HB2.out (by omega)).seven;go_wp2_with fail;refine HKE.out.mono ?_;rintro e w4 ⟨fA,fc,rfl,hsf,hfc,hfm,hb4⟩;have HB4:Hid (Below W.heap.size W w4):=HB2.out.trans (hb4.mono z2s);have HSF:=ah hsf;have hFl:F.length<=pn:=by rw[<-HFE.out,<-HPLN.out];exact List.length_filter_le _ _
    have HPP:Hid (pl=if F.length=pn then .keep else .rew (lg,aU F) F rs lg):=by
     show _=_;rw[<-HPL.out];unfold fB;rw[HFE.out,HPLN.out]
    have z4s:=HB4.out.size;have HK4:=ah (HK.out.below HB4.out (by omega));have HZ4:=ah (HZ.out.below HB4.out (by omega));have HBw4:Hid (Below w.heap.size w w4):=HB0.out.trans (HB4.out.mono (by omega));clear hsf hb4 HKE k0 k1 k2 k3 k4 k5 k6;obtain⟨⟨k0,k1,k2,k3⟩,k4,k5,k6⟩:=HK4.out.seven;obtain⟨fn,hfn⟩:∃fn,F.length=fn:=⟨_,rfl⟩
    have HFN:=ah hfn;rw[hfn]at HPP hFl HSF hfc ⊢;clear hfn;by_cases hz:fn=pn
    . subst hz
      have HPK:Hid (pl= .keep):=by show _=_;rw[HPP.out,if_pos rfl]
      obtain⟨⟨z0,z1',z2,z3⟩,z4,z5,z6⟩:=HZ4.out.seven;obtain⟨⟨f0,f1,f2,f3⟩,f4,f5,f6⟩:=HZ4.out.free7;go_wp2_with fail;refine ZY (uO Tryz.results17 rfl (HZ4.out.set7 _ _ _ _ _ _ _) rfl rfl) rfl ?_;rw[HPK.out];have hbf:=dz HBw4.out (show w.heap.size<=w.heap.size+1 by omega) (.int .i64 d.sz) (.slice s.d.a1 dn s.d.c1) (.slice s.d.a2 0 s.d.c2) (.int .i64 d.lf) (.slice s.pA fn s.pc) (.slice s.rA k s.rc) (.slice s.lA ln s.lc);exact⟨s,by simp only[rpV,rpC,HDN.out,HDP.out,HPLN.out,HRN.out,HLN.out];rfl,(HM.out.below hbf hB).more (by have:=hbf.size;omega),hbf⟩
    . have hnz: ((pn:Int) - (fn:Int) == 0)=false:=by rw[beq_eq_false_iff_ne];omega
      have HNZ:=ah hz;have HPA:Hid (pl= .rew (lg,aU F) F rs lg):=by show _=_;rw[HPP.out,if_neg hz]
      have HGK:Hid (GOk (lg,aU F)):=⟨gY HMT.out.rf,Cm HMT.out.rf,HLW.out,by show(aU F).length<=_;unfold aU;rw[List.length_map,HFN.out];omega⟩
      have HLGW:Hid (Sl w4 w4.heap.size 5 s.lA ln (flat upC lg)):=by have:=(HM.out.l.below HBw4.out hB).more (show B<=w4.heap.size by omega);simp only[HLN.out]at this;exact this
      have HRC:=ah (xG lg s.lA ln s.lc F fA fn fc w4.heap.size w4 HLGW.out HSF.out ai HGK.out (by omega));unfold vJ at HRC;obtain⟨l,hl⟩:∃l,aN (lg,aU F)=l:=⟨_,rfl⟩
      have hl0:l≠ []:=by rw[<-hl];simp[aN]
      have hll:l.length<=200000:=by rw[<-hl];unfold aN aU;simp;have:=HFN.out;omega
      rw[hl]at HRC;have HLL:=ah hl;have HL0:=ah hl0;clear hl hl0 hz;go_wp2_with fail;refine HRC.out.mono ?_;rintro e w5 ⟨A5,m5,c5,rfl,hs5,hm5,hc51,hc52,hb5⟩;have z5s:=hb5.size;have HB5:Hid (Below w.heap.size w w5):=HBw4.out.trans (hb5.mono (by omega));have HK5:=ah (HK4.out.below hb5 (by omega));have HZ5:=ah (HZ4.out.below hb5 (by omega));have HSF5:Hid (Sl w5 w5.heap.size 3 fA fn (flat itC F)):=(HSF.out.below hb5 ai).more hb5.size;have HAD:=ah (Ez d s.d B a u (recs gs) l A5 m5 c5 w5.heap.size w5 HD.out HPN.out HJ.out (HM.out.d.below HB5.out hB) (by omega) hs5 ai (by unfold maxLen;omega) HL0.out);obtain⟨⟨dx,ex⟩,hdx⟩:∃t,dC d a l=t:=⟨_,rfl⟩
      rw[hdx]at HAD;have HDX:=ah hdx;unfold aW at HAD;clear hs5 hb5 HRC hdx HK4 HZ4 hm5 k0 k1 k2 k3 k4 k5 k6;obtain⟨⟨k0,k1,k2,k3⟩,k4,k5,k6⟩:=HK5.out.seven;simp only[dkV,dkC,HDN.out,HDP.out]at HAD;go_wp2_with fail;refine HAD.out.mono ?_;rintro e w6 ⟨sq,rfl,hmx,hb6⟩;have z6s:=hb6.size;have HMX:=ah hmx;have HK6:=ah (HK5.out.below hb6 (by omega));have HZ6:=ah (HZ5.out.below hb6 (by omega));have HB6:Hid (Below w.heap.size w w6):=HB5.out.trans (hb6.mono (by omega));have HSF6:Hid (Sl w6 w6.heap.size 3 fA fn (flat itC F)):=(HSF5.out.below hb6 ai).more hb6.size;clear hmx hb6 HAD k0 k1 k2 k3 k4 k5 k6 HK5 HZ5 HSF5;obtain⟨xn,hxn⟩:∃xn,dx.ss.length=xn:=⟨_,rfl⟩
      obtain⟨xp,hxp⟩:∃xp,dx.pn.length=xp:=⟨_,rfl⟩
      have HXN:=ah hxn;have HXP:=ah hxp;simp only[hxn,hxp];obtain⟨W7,hW7⟩:∃W7,w6.alloc (.cells #[.int .i64 dx.sz,.slice sq.a1 xn sq.c1,.slice sq.a2 xp sq.c2,.int .i64 dx.lf] 25)=W7:=⟨_,rfl⟩
      have hb7:Below w6.heap.size w6 W7:=by rw[<-hW7];exact(af _ w6).alloc ai _
      have HD7:Hid (Bk W7 w6.heap.size 25 #[.int .i64 dx.sz,.slice sq.a1 xn sq.c1,.slice sq.a2 xp sq.c2,.int .i64 dx.lf]):=by rw[<-hW7];exact Bk.new w6 _ _
      have HK7:=ah (HK6.out.below hb7 (by omega));have HZ7:=ah (HZ6.out.below hb7 (by omega));have HB7:Hid (Below w.heap.size w W7):=HB6.out.trans (hb7.mono (by omega));have HMX7:Hid (DkM W7 W7.heap.size dx sq):=(HMX.out.below hb7 ai).more hb7.size;have HSF7:Hid (Sl W7 W7.heap.size 3 fA fn (flat itC F)):=(HSF6.out.below hb7 ai).more hb7.size;have zW7:w6.heap.size<W7.heap.size:=HD7.out.lt;have HCG:=ah (xL ⟨d,p,rs,lg⟩ ⟨zDk,F,rs,lg⟩ s ⟨⟨none,0,none,0⟩,fA,fc,s.rA,s.rc,s.lA,s.lc⟩ dx sq ex W7);have HVAL:Hid (∃(i0 i3:Int)(a1 a2 a4 a5 a6:OA)(l1 l2 l4 l5 l6 b1 b2 b4 b5 b6:Nat),(if ex=0 then rpV {(⟨zDk,F,rs,lg⟩:Rp) with d:=dx} {(⟨⟨none,0,none,0⟩,fA,fc,s.rA,s.rc,s.lA,s.lc⟩:Rsl) with d:=sq} else if ex=20 then rpV {(⟨d,p,rs,lg⟩:Rp) with d:=dx} {s with d:=sq} else rpV zRp zRs)= .agg #[.int .i64 i0,.slice a1 l1 b1,.slice a2 l2 b2,.int .i64 i3,.slice a4 l4 b4,.slice a5 l5 b5,.slice a6 l6 b6]):=by
       show ∃_,_;split
       . exact⟨_,_,_,_,_,_,_,_,_,_,_,_,_,_,_,_,_,rfl⟩
       . split
         . exact⟨_,_,_,_,_,_,_,_,_,_,_,_,_,_,_,_,_,rfl⟩
         . exact⟨_,_,_,_,_,_,_,_,_,_,_,_,_,_,_,_,_,rfl⟩
      obtain⟨i0',i3,a1,a2,a4,a5,a6,l1,l2,l4,l5,l6,b1,b2,b4,b5,b6,hyv⟩:=HVAL.out;rw[hyv]at HCG;have HYV:=ah hyv;simp only[rpV,rpC,dkV,dkC,zDk,List.length_nil,HDN.out,HDP.out,HPLN.out,HRN.out,HLN.out,HFN.out,hxn,hxp,Int.cast_ofNat_Int]at HCG;obtain⟨d0,d1,d2,d3⟩:=HD7.out.dk4;obtain⟨⟨k0,k1,k2,k3⟩,k4,k5,k6⟩:=HK7.out.seven;rw[<-hW7]at d0 d1 d2 d3 k0 k1 k2 k3 k4 k5 k6;have HW7:=ah hW7;clear hb7 hW7 hxn hxp hyv HK6 HZ6 HB6 HMX HSF6;go_wp2_with fail;rw[HW7.out];refine HCG.out.mono ?_;rintro e w8 ⟨rfl,hb8⟩;have HZ8:=ah (HZ7.out.below hb8 (by omega));have HB8:Hid (Below w.heap.size w w8):=HB7.out.trans (hb8.mono (by omega));have HMX8:=ah (HMX7.out.below hb8 ai);have HSF8:Hid (Sl w8 w8.heap.size 3 fA fn (flat itC F)):=(HSF7.out.below hb8 ai).more hb8.size;have z8s:=hb8.size;clear hb8 HCG d0 d1 d2 d3 k0 k1 k2 k3 k4 k5 k6 HZ7 HK7 HD7;obtain⟨W9,hW9⟩:∃W9,w8.alloc (.cells #[.int .i64 i0',.slice a1 l1 b1,.slice a2 l2 b2,.int .i64 i3,.slice a4 l4 b4,.slice a5 l5 b5,.slice a6 l6 b6] 35)=W9:=⟨_,rfl⟩
      have hb9:Below w8.heap.size w8 W9:=by rw[<-hW9];exact(af _ w8).alloc ai _
      have HT9:Hid (Bk W9 w8.heap.size 35 #[.int .i64 i0',.slice a1 l1 b1,.slice a2 l2 b2,.int .i64 i3,.slice a4 l4 b4,.slice a5 l5 b5,.slice a6 l6 b6]):=by rw[<-hW9];exact Bk.new w8 _ _
      have HZ9:=ah (HZ8.out.below hb9 (by omega));have HB9:Hid (Below w.heap.size w W9):=HB8.out.trans (hb9.mono (by omega));have hne9:w8.heap.size≠w.heap.size+1:=by omega
      have HM9:Hid (RpM W9 W9.heap.size ⟨dx,F,[],[]⟩ ⟨sq,fA,fc,none,0,none,0⟩):=by
       have h8:RpM w8 w8.heap.size ⟨dx,F,[],[]⟩ ⟨sq,fA,fc,none,0,none,0⟩:=⟨HMX8.out.more z8s,by show Sl _ _ _ _ F.length _;rw[HFN.out];exact HSF8.out,Sl.nil _ _ _ _,Sl.nil _ _ _ _,by show F.length<=_;rw[HFN.out];exact hfc,hfm⟩
       exact(h8.below hb9 ai).more hb9.size
      obtain⟨⟨q0,q1,q2,q3⟩,q4,q5,q6⟩:=HT9.out.seven;obtain⟨⟨z0,z1',z2,z3⟩,z4,z5,z6⟩:=HZ9.out.seven;obtain⟨⟨f0,f1,f2,f3⟩,f4,f5,f6⟩:=HZ9.out.free7;rw[<-hW9]at q0 q1 q2 q3 q4 q5 q6 z0 z1' z2 z3 z4 z5 z6 f0 f1 f2 f3 f4 f5 f6;have HW9:=ah hW9;have HRES:Hid (∀wf n,wf= ((((((W9.setCell ⟨w.heap.size+1,0,none⟩ (.int .i64 i0')).setCell ⟨w.heap.size+1,1,none⟩ (.slice a1 l1 b1)).setCell ⟨w.heap.size+1,2,none⟩ (.slice a2 l2 b2)).setCell ⟨w.heap.size+1,3,none⟩ (.int .i64 i3)).setCell ⟨w.heap.size+1,4,none⟩ (.slice a4 l4 b4)).setCell ⟨w.heap.size+1,5,none⟩ (.slice a5 l5 b5)).setCell ⟨w.heap.size+1,6,none⟩ (.slice a6 l6 b6) ->
        n= (if ex=0 then(pn:Int) - (fn:Int) else 0)->CoE ⟨d,p,rs,lg⟩ a pl w (.returned (.tuple #[.agg #[.int .i64 i0',.slice a1 l1 b1,.slice a2 l2 b2,.int .i64 i3,.slice a4 l4 b4,.slice a5 l5 b5,.slice a6 l6 b6],.int .i64 n,.int .i64 ex])) wf):=by
       rintro wf n hwf rfl;have hbf:Below w.heap.size w wf:=by rw[hwf];exact dz HB9.out (by omega) _ _ _ _ _ _ _
       have hof:∀k,k≠w.heap.size+1->wf.heap[k]? =W9.heap[k]? :=fun k hk=>by rw[hwf];exact fZ _ _ _ _ _ _ _ _ _ k hk
       have zf:wf.heap.size=W9.heap.size:=by rw[hwf];simp
       have h9:=(HM9.out.box HZ9.out (by simp[bxV]) hof).more (show W9.heap.size<=wf.heap.size by omega);have hrw:=(HM.out.below hbf hB).more (show B<=wf.heap.size by have:=hbf.size;omega);have hcg:=yS ⟨d,p,rs,lg⟩ s (dx,ex) sq F rs lg ⟨⟨none,0,none,0⟩,fA,fc,s.rA,s.rc,s.lA,s.lc⟩ w wf hbf hrw ⟨⟨Sl.nil _ _ _ _,Sl.nil _ _ _ _⟩,h9.p,hrw.rf,hrw.l,h9.pc,h9.pm⟩ h9.d;rw[HYV.out]at hcg;obtain⟨sf,he,hmf,_⟩:=hcg;rw[HPA.out];show lC _ _ _ _ _ _;rw[HLL.out,HDX.out];simp only[Ending.returned.injEq,Value.tuple.injEq,Array.mk.injEq,List.cons.injEq,Value.int.injEq,true_and,and_true]at he;refine⟨sf,?_,hmf,hbf⟩;rw[he.1,he.2,HPLN.out,HFN.out]
       congr 3
       unfold after;by_cases h0:ex=0
       . simp[h0]
       . by_cases h2:ex=20 <;> simp[h0,h2]
      clear hb9 hW9;by_cases h0:ex=0
      . subst h0
        go_wp2_with fail;rw[HW9.out];refine ZY (uO Tryz.results17 rfl (HZ9.out.set7 _ _ _ _ _ _ _) rfl rfl) rfl ?_;exact HRES.out _ _ rfl (by simp)
      . have h0b: (ex != 0)=true:=by simpa using h0
        have HE0:=ah h0;clear h0;go_wp2_with fail;rw[HW9.out];refine ZY (uO Tryz.results17 rfl (HZ9.out.set7 _ _ _ _ _ _ _) rfl rfl) rfl ?_;exact HRES.out _ _ rfl (by rw[if_neg HE0.out])
theorem sI(hpck:iV)(r:Rp)(s:Rsl)(gs:List Gru)(a u:Nat)(q:List Itm)(A2:OA)(n2 c2:Nat)(us:List Upd)(A1:OA)(n1 c1:Nat)(B:Nat)(w:MQ)
  (hd:r.d.Ok) (hpn:r.d.pn= []) (hj:Jn r.d.sz r.d.ss a (recs gs) u) (hM:Mt gs r.p r.rs r.lg) (hpf:r.p.length<=49000) (hm:RpM w B r s) (hB:B<=w.heap.size)
  (h1:Sl w B 3 A2 n2 (flat itC q)) (h2:Sl w B 5 A1 n1 (flat upC us)) (hq:n2<=100000) (hqs:∀i∈q,i.2.size<=65536) (hqw:∀i∈q,WfD i.1) (hn1:n1<=1000) (hus:∀u∈us,u.1.size<=65536/\WfU u) :
  Calls Tryz.prog 35 #[rpV r s,.slice A2 n2 c2,.slice A1 n1 c1] w (ExE r a u (cK r.p r.rs r.lg q us) w):=by
 have hlf:=gY hM.rf;have hrf:=kS hM.rf;have hlw:∀u∈r.lg,u.1.size<=65536:=fun u hu=>by
  rw[hM.lo]at hu;obtain⟨g,hg,hu⟩:=List.mem_flatMap.1 hu;exact((hM.ok g hg).us u hu).1
 obtain⟨d,p,rs,lg⟩:=r;simp only at hd hpn hj hM hpf hlf hrf hlw ⊢;obtain⟨W,hW⟩:∃W,(w.alloc (.cells (rpC ⟨d,p,rs,lg⟩ s) 35)).alloc (.cells rzC 35)=W:=⟨_,rfl⟩
 have HB0:Hid (Below w.heap.size w W):=by rw[<-hW];exact((af _ w).alloc ai _).alloc (by simp) _
 have HK:Hid (Bk W w.heap.size 35 (rpC ⟨d,p,rs,lg⟩ s)):=by rw[<-hW];exact(Bk.new w _ _).alloc _
 have HZ:Hid (Bk W (w.heap.size+1) 35 rzC):=by rw[<-hW];exact(Bk.new _ _ _).at_ (by simp)
 have zW:W.heap.size=w.heap.size+2:=by rw[<-hW];simp
 have HC:=ah (hpck A2 n2 c2 B q W (h1.below HB0.out hB) (by omega) (by omega) hqs hqw);obtain⟨pl,hpl⟩:∃pl,cK p rs lg q us=pl:=⟨_,rfl⟩
 rw[hpl];have HPL:=ah hpl;have HMT:=ah hM;have HD:=ah hd;have HPN:=ah hpn;have HJ:=ah hj;have HM:=ah hm;have H1:=ah h1;have H2:=ah h2;have HUS:=ah hus;have HLW:=ah hlw;have HQL:=ah (h1.len bN (by omega));have HUL:=ah (h2.len eB (by omega));have HRV:Hid (rpV ⟨d,p,rs,lg⟩ s= .agg (rpC ⟨d,p,rs,lg⟩ s)):=rfl;have HW:=ah hW;have hdp:d.pn.length=0:=by rw[hpn];rfl
 obtain⟨dn,hdn⟩:∃dn,d.ss.length=dn:=⟨_,rfl⟩
 obtain⟨pn,hpl⟩:∃pn,p.length=pn:=⟨_,rfl⟩
 obtain⟨rn,hrn⟩:∃rn,rs.length=rn:=⟨_,rfl⟩
 obtain⟨ln,hln⟩:∃ln,lg.length=ln:=⟨_,rfl⟩
 have HDN:=ah hdn;have HDP:=ah hdp;have HPLN:=ah hpl;have HRN:=ah hrn;have HLN:=ah hln;simp only[rpV,rpC,hdn,hdp,hpl,hrn,hln]at HK HW hpf hlf hrf HRV ⊢;clear hd hpn hj hM hm h1 h2 hus hlw hqs hqw hW hdp hdn hpl hrn hln;have hws:w.heap.size+2=W.heap.size:=zW.symm
 go_enter Tryz.func35,Tryz.ntmps35
 go_wp2_with fail;rw[HW.out];refine HC.out.mono ?_;rintro e w1 ⟨x,rfl,hx,hx20,hb1⟩;have HK1:=ah (HK.out.below hb1 (by omega));have HZ1:=ah (HZ.out.below hb1 (by omega));have HB1:Hid (Below w.heap.size w w1):=HB0.out.trans (hb1.mono (by omega));have z1:w.heap.size+2<=w1.heap.size:=by have:=hb1.size;omega
 have HX:=ah hx;clear hb1 HC HK HZ HB0 hx;by_cases h0:x=0
 case neg =>
  have h0b: (x != 0)=true:=by simpa using h0
  have HPP:Hid (pl= .no):=by show _=_;rw[<-HPL.out];unfold cK;rw[if_neg (fun h=>h0 (HX.out.2 h.1))]
  have H0:=ah h0;have H20:=ah hx20;clear h0 hx20;obtain⟨⟨z0,z1',z2,z3⟩,z4,z5,z6⟩:=HZ1.out.seven;obtain⟨⟨f0,f1,f2,f3⟩,f4,f5,f6⟩:=HZ1.out.free7;go_wp2_with fail;refine ZY (dL Tryz.results35 rfl (HZ1.out.set7 _ _ _ _ _ _ _) rfl) rfl ?_;rw[HPP.out];exact .err H0.out H20.out (dz HB1.out (by omega) _ _ _ _ _ _ _)
 subst h0;have HPQ:Hid (PlOk q):=HX.out.1 rfl;have HUN:=ah (Fy s.pA A2 pn s.pc n2 c2 B p q w1 (by have:=HM.out.p.below HB1.out hB;simp only[HPLN.out]at this;exact this) (H1.out.below HB1.out hB) (by omega) (by omega) (by omega) HMT.out.pl.asc HPQ.out.asc);unfold UnE at HUN;obtain⟨⟨k0,k1,k2,k3⟩,k4,k5,k6⟩:=HK1.out.seven;clear hx20 HX;go_wp2_with fail;refine HUN.out.mono ?_;rintro e w2 ⟨hcs,hb2⟩;have HK2:=ah (HK1.out.below hb2 (by omega));have HZ2:=ah (HZ1.out.below hb2 (by omega));have HB2:Hid (Below w.heap.size w w2):=HB1.out.trans (hb2.mono (by omega));have z2s:w.heap.size+2<=w2.heap.size:=by have:=hb2.size;omega
 clear hb2 HUN HK1 HZ1 HB1 k0 k1 k2 k3 k4 k5 k6;rcases hcs with ⟨un,uA,uc,hur,rfl,hus,huc,hum⟩ | ⟨hcl,rfl⟩
 case inr =>
  have HPP:Hid (pl= .no):=by show _=_;rw[<-HPL.out];unfold cK;rw[if_neg (fun h=>h.2.1 hcl)]
  obtain⟨⟨z0,z1',z2,z3⟩,z4,z5,z6⟩:=HZ2.out.seven;obtain⟨⟨f0,f1,f2,f3⟩,f4,f5,f6⟩:=HZ2.out.free7;clear hcl;go_wp2_with fail;refine ZY (dL Tryz.results35 rfl (HZ2.out.set7 _ _ _ _ _ _ _) rfl) rfl ?_;rw[HPP.out];exact .err (by decide) (by decide) (dz HB2.out (by omega) _ _ _ _ _ _ _)
 have HUR:=ah hur;have HUSL:=ah hus;have hul:un.length<=149000:=by
  have h1:=AscI.nodup_len hur.asc (l:=p++q) (fun i hi=>List.mem_append.2 ((hur.mem i).1 hi));rw[ae,HPLN.out,HQL.out]at h1;omega
 clear hur hus;have HAP:=ah (xw s.rA s.lA A1 rn s.rc ln s.lc n1 c1 B rs lg us w2 (by have:=HM.out.rf.below HB2.out hB;simp only[HRN.out]at this;exact this) (by have:=HM.out.l.below HB2.out hB;simp only[HLN.out]at this;exact this) (H2.out.below HB2.out hB) (by omega) (by unfold maxLen;omega) (by unfold maxLen;omega) (by omega) (fun u hu=>by have:=(HUS.out u hu).1;unfold maxLen;omega) (fun u hu=>by have:=HLW.out u hu;unfold maxLen;omega));unfold lh at HAP;have HA20:=ah (GX rs lg us);have HAO:=ah (@sP rs lg us);obtain⟨⟨rs',lg',x⟩,hap⟩:∃t,bZ rs lg us=t:=⟨_,rfl⟩
 rw[hap]at HAP HA20 HAO;have HAPE:=ah hap;simp only at HAP HA20 HAO;obtain⟨⟨k0,k1,k2,k3⟩,k4,k5,k6⟩:=HK2.out.seven;clear hap;go_wp2_with fail;refine HAP.out.mono ?_;rintro e w3 ⟨rA,rm,rc,lA,lm,lc,rfl,hsr,hrc1,hrc2,hsl,hlc1,hlc2,hb3⟩;have HK3:=ah (HK2.out.below hb3 (by omega));have HZ3:=ah (HZ2.out.below hb3 (by omega));have HB3:Hid (Below w.heap.size w w3):=HB2.out.trans (hb3.mono (by omega));have z3s:w.heap.size+2<=w3.heap.size:=by have:=hb3.size;omega
 have HU3:=ah (HUSL.out.below hb3 ai);have z23:=hb3.size;have HSR:=ah hsr;have HSLG:=ah hsl;clear hb3 HAP HK2 HZ2 HB2 k0 k1 k2 k3 k4 k5 k6 hsr hsl HUSL;obtain⟨w3b,hw3b⟩:∃w3b,w3.alloc (.cells #[.slice rA rm rc,.slice lA lm lc] 33)=w3b:=⟨_,rfl⟩
 by_cases h0:x=0
 case neg =>
  have h0b: (x != 0)=true:=by simpa using h0
  have HPP:Hid (pl= .no):=by show _=_;rw[<-HPL.out];unfold cK;rw[if_neg (fun h=>h0 (by have:=h.2.2.1;rw[HAPE.out]at this;exact this))]
  have H0:=ah h0;have hbb:Below w3.heap.size w3 w3b:=by rw[<-hw3b];exact(af _ w3).alloc ai _
  have HZb:=ah (HZ3.out.below hbb (by omega));have HBb:Hid (Below w.heap.size w w3b):=HB3.out.trans (hbb.mono (by omega));clear h0 hbb;obtain⟨⟨z0,z1',z2,z3⟩,z4,z5,z6⟩:=HZb.out.seven;obtain⟨⟨f0,f1,f2,f3⟩,f4,f5,f6⟩:=HZb.out.free7;go_wp2_with fail;refine ZY (dL Tryz.results35 rfl (HZb.out.set7 _ _ _ _ _ _ _) rfl) rfl ?_;rw[HPP.out];exact .err H0.out HA20.out (dz HBb.out (by omega) _ _ _ _ _ _ _)
 subst h0;have HAE:Hid (C9 rs lg us rs'):=HAO.out rfl;have hlg':lg'=lg++us:=by have h1:=HAPE.out;rw[HAE.out.eq]at h1;cases h1;rfl
 subst hlg';have hlen:=HAE.out.len;rw[HUL.out]at hlen;have hb3:Below w3.heap.size w3 w3b:=by rw[<-hw3b];exact(af _ w3).alloc ai _
 have HF3:Hid (Bk w3b w3.heap.size 33 #[.slice rA rm rc,.slice lA lm lc]):=by rw[<-hw3b];exact Bk.new w3 _ _
 have HKb:=ah (HK3.out.below hb3 (by omega));have HZb:=ah (HZ3.out.below hb3 (by omega));have HBb:Hid (Below w.heap.size w w3b):=HB3.out.trans (hb3.mono (by omega));have HUb:Hid (Sl w3b w3b.heap.size 3 uA un.length (flat itC un)):=((HU3.out.more z23).below hb3 ai).more hb3.size;have HRb:Hid (Sl w3b w3b.heap.size 3 rA rm (flat rfC rs')):=(HSR.out.below hb3 ai).more hb3.size;have HLb:Hid (Sl w3b w3b.heap.size 5 lA lm (flat upC (lg++us))):=(HSLG.out.below hb3 ai).more hb3.size;have zb:w3b.heap.size=w3.heap.size+1:=by rw[<-hw3b];simp
 have HPU:Hid (PlOk un):=HUR.out.plOk HMT.out.pl HPQ.out;have HUW:=ah (uL HUR.out);have H2b:=ah (H2.out.below HBb.out hB);clear hb3 HU3 HSR HSLG HK3 HZ3 HB3;go_wp2_with fail;clear hw3b
 go_loopw[50] (fun i wr=>∃k:Nat,k<=n1/\i= .int .i64 k/\Hid (Below w3b.heap.size w3b wr)/\Hid (∀j u,j<k->us[j]? =some u->u.2.2≠zD->dm un u.2.2=0)) (fun i _=>n1 - (intOf i).toNat)
 case atStart=>exact⟨0,ZZ _,rfl,af _ _,fun j u hj=>absurd hj (by omega)⟩
 case round =>
  obtain⟨k,hk,rfl,hBr,hC⟩:=hrel;have HBr:=ah hBr.out;have HCr:=ah hC.out;have zr:=HBr.out.size;clear hBr hC;by_cases hlt:k<n1
  . obtain⟨bb,off,y,rfl,hbb,hy,hc⟩:=(H2b.out.below HBr.out (by omega)).at_ eB (by omega) hlt
    have x0:=hc 0 _ rfl;have x1:=hc 1 _ rfl;have x2:=hc 2 _ rfl;have x3:=hc 3 _ rfl;have x4:=hc 4 _ rfl;have hlz: (k:Int)< (n1:Int):=by omega
    have HYW:Hid (WfD y.2.2):=(HUS.out y (Z7 hy)).2.2;have HYG:=ah hy;obtain⟨yn,⟨o1,o2⟩,⟨m1,m2⟩⟩:=y;simp only[Nat.add_zero]at x0 x1 x2 x3 x4 HYW;obtain⟨W3,hW3⟩:∃W3,wr.alloc (.cells #[.string yn,.int .u64 o1,.int .u64 o2,.int .u64 m1,.int .u64 m2] 85)=W3:=⟨_,rfl⟩
    have hb3:Below wr.heap.size wr W3:=by rw[<-hW3];exact(af _ wr).alloc ai _
    have HK3:Hid (Bk W3 wr.heap.size 85 #[.string yn,.int .u64 o1,.int .u64 o2,.int .u64 m1,.int .u64 m2]):=by rw[<-hW3];exact Bk.new wr _ _
    have HB3:Hid (Below w3b.heap.size w3b W3):=HBr.out.trans (hb3.mono zr);have y3:=HK3.out.cell 3;have y4:=HK3.out.cell 4;simp at y3 y4;have HST:Hid (dm un (m1,m2)=0∨ ((m1,m2):Dig)=zD->∀j u,j<k+1->us[j]? =some u->u.2.2≠zD->dm un u.2.2=0):=fun h j u hj hu hz=>by
     rcases Nat.lt_or_ge j k with h1 | h1
     . exact HCr.out j u h1 hu hz
     . have:j=k:=by omega
       subst this;rw[HYG.out]at hu;cases hu;exact h.resolve_right hz
    clear hc hy hb3;by_cases hz: ((m1,m2):Dig)=zD
    . have hm1:m1=0:=congrArg Prod.fst hz
      have hm2:m2=0:=congrArg Prod.snd hz;have HS2:=ah (HST.out (.inr hz));rw[<-hW3]at y3 y4;have HW3:=ah hW3;subst hm1 hm2;clear hz hW3;go_wp2_with fail;rw[HW3.out];go_roundw
      case rel=>exact⟨k+1,hlt,by go_num,HB3.out,HS2.out⟩
      case measure=>simp[intOf];omega
    . have hzb: (m1 == 0 && m2 == 0)=false:=by
        rw[Bool.eq_false_iff];intro h;rw[Bool.and_eq_true,beq_iff_eq,beq_iff_eq]at h;exact hz (Prod.ext h.1 h.2)
      have HNZ:=ah hz;have HCM:=ah (wP un uA un.length uc w3b.heap.size (m1,m2) W3 (HUb.out.below HB3.out ai) HB3.out.size (by omega) HPU.out HYW.out);obtain⟨cv,hcv⟩:∃cv,dm un (m1,m2)=cv:=⟨_,rfl⟩
      rw[hcv]at HCM HST;have HCV:=ah hcv;have hc20:cv≠20:=by rw[<-hcv];exact I6 _ _
      simp only[aB]at HCM;clear hz hcv;go_wp2_with fail;refine HCM.out.mono ?_;rintro e w4 ⟨rfl,hb4⟩;have HB4:Hid (Below w3b.heap.size w3b w4):=HB3.out.trans (hb4.mono HB3.out.size);clear hb4 HCM x0 x1 x2 x3 x4 hW3 y3 y4;by_cases hc0:cv=0
      . subst hc0
        have HS2:=ah (HST.out (.inl rfl));go_wp2_with fail;go_roundw
        case rel=>exact⟨k+1,hlt,by go_num,HB4.out,HS2.out⟩
        case measure=>simp[intOf];omega
      . have hcb: (cv != 0)=true:=by simpa using hc0
        have HPP:Hid (pl= .no):=by
         show _=_;rw[<-HPL.out];unfold cK;rw[if_neg (fun h=>hc0 (by have:=h.2.2.2 _ (Z7 HYG.out) HNZ.out;rw[HUW.out,HCV.out]at this;exact this))]
        have H0:=ah hc0;have H20:=ah hc20;have HZ4:=ah (HZb.out.below HB4.out (by omega));have HBw4:Hid (Below w.heap.size w w4):=HBb.out.trans (HB4.out.mono (by omega));clear hc0 hc20;obtain⟨⟨z0,z1',z2,z3⟩,z4,z5,z6⟩:=HZ4.out.seven;obtain⟨⟨f0,f1,f2,f3⟩,f4,f5,f6⟩:=HZ4.out.free7;go_wp2_with fail;refine ZY (dL Tryz.results35 rfl (HZ4.out.set7 _ _ _ _ _ _ _) rfl) rfl ?_;rw[HPP.out];exact .err H0.out H20.out (dz HBw4.out (by omega) _ _ _ _ _ _ _)
  . have hlz:¬(k:Int)< (n1:Int):=by omega
    have hkn:k=n1:=by omega
    have HALL:Hid (∀u∈us,u.2.2≠zD->dm un u.2.2=0):=fun u hu hz=>by
     obtain⟨j,hj⟩:=List.mem_iff_getElem?.1 hu;exact HCr.out j u (by have:=(List.getElem?_eq_some_iff.1 hj).1;rw[HUL.out]at this;omega) hj hz
    have HPP:Hid (pl=if dA p q= []/\us= [] then .keep else .app (us,aU (dA p q)) un rs' (lg++us)):=by
     show _=_;rw[<-HPL.out];unfold cK;rw[if_pos ⟨HPQ.out,HUR.out.clear,by rw[HAPE.out],by rw[HUW.out];exact HALL.out⟩,HUW.out,HAPE.out]
    obtain⟨wo,hwo⟩:∃wo,wo=wr:=⟨_,rfl⟩
    subst hwo;have HBo:Hid (Below w.heap.size w wo):=HBb.out.trans (HBr.out.mono (by omega));have HKo:=ah (HKb.out.below HBr.out (by omega));have HZo:=ah (HZb.out.below HBr.out (by omega));have HFo:=ah (HF3.out.below HBr.out (by omega));have HUo:Hid (Sl wo wo.heap.size 3 uA un.length (flat itC un)):=(HUb.out.below HBr.out ai).more zr;have HRo:Hid (Sl wo wo.heap.size 3 rA rm (flat rfC rs')):=(HRb.out.below HBr.out ai).more zr;have HLo:Hid (Sl wo wo.heap.size 5 lA lm (flat upC (lg++us))):=(HLb.out.below HBr.out ai).more zr;have zo:w.heap.size+2<=wo.heap.size:=by omega
    have zo3:w3.heap.size<wo.heap.size:=by omega
    clear HKb HZb HBb HUb HRb HLb HF3 HBr HCr hkn hlt hk;obtain⟨i0,hi,hzz0,hzz1,hzz2⟩:=info_parts jQ;have Hi:=ah hi;have Hz0:=ah hzz0;have Hz1:=ah hzz1;have Hz2:=ah hzz2;have HQo:Hid (Sl wo B 3 A2 n2 (flat itC q)):=H1.out.below HBo.out hB;have HPo:Hid (Sl wo B 3 s.pA pn (flat itC p)):=by have:=HM.out.p.below HBo.out hB;simp only[HPLN.out]at this;exact this
    clear hi hzz0 hzz1 hzz2;go_wp2_with fail;clear hlz
    go_loopw[15,69] (fun v15 i wr=>∃(j m:Nat)(A':OA)(c':Nat),j<=n2/\i= .int .i64 j/\v15= .slice A' m c'/\m<=c'/\c'<=maxLen/\m<=j/\Hid ((dA p (q.take j)).length=m)/\Hid (Apd wr wo.heap.size 118 3 A' m c' (flat itC (dA p (q.take j))))/\Hid (Below wo.heap.size wo wr)) (fun _ i _=>n2 - (intOf i).toNat)
    case atStart=>exact⟨0,0,none,0,ZZ _,rfl,rfl,Nat.le_refl _,ZZ _,Nat.le_refl _,rfl,.inr ⟨rfl,rfl,rfl⟩,af _ _⟩
    case round =>
     obtain⟨j,m,A',c',hj,rfl,rfl,hmc,hcm,hmj,hML,hO,hBel⟩:=hrel;have HML:=ah hML.out;have HO:=ah hO.out;have HBr:=ah hBel.out;have zr:wo.heap.size<=wr.heap.size:=HBr.out.size;have HKr:=ah (HKo.out.below HBr.out (by omega));clear hML hO hBel;obtain⟨⟨k0,k1,k2,k3⟩,k4,k5,k6⟩:=HKr.out.seven;by_cases hlt:j<n2
     . obtain⟨bb,off,y,rfl,hbb,hy,y0,y1,y2⟩:=(HQo.out.below HBr.out (by omega)).it hlt
       have hlz: (j:Int)< (n2:Int):=by omega
       have HFS:=ah (El (p:=p) hy);obtain⟨⟨x1,x2⟩,xs⟩:=y;simp only at y0 y1 y2 HFS;obtain⟨W3,hW3⟩:∃W3,wr.alloc (.cells #[.int .u64 x1,.int .u64 x2,.string xs] 118)=W3:=⟨_,rfl⟩
       have hb3:Below wr.heap.size wr W3:=by rw[<-hW3];exact(af _ wr).alloc ai _
       have HX3:Hid (Bk W3 wr.heap.size 118 #[.int .u64 x1,.int .u64 x2,.string xs]):=by rw[<-hW3];exact Bk.new wr _ _
       have HB3:Hid (Below wo.heap.size wo W3):=HBr.out.trans (hb3.mono zr);have HO3:=ah (HO.out.below hb3);have HK3:=ah (HKr.out.below hb3 (by omega));have HHS:=ah (Hq s.pA pn s.pc B p (x1,x2) W3 (HPo.out.below HB3.out (by omega)) (by have:=HB3.out.size;omega) (by omega) HMT.out.pl.asc);obtain⟨r0,r1,r2⟩:=HX3.out.three;clear k0 k1 k2 k3 k4 k5 k6;obtain⟨⟨k0,k1,k2,k3⟩,k4,k5,k6⟩:=HK3.out.seven;rw[<-hW3]at r0 r1 r2 k0 k1 k2 k3 k4 k5 k6;have HW3:=ah hW3;simp only[aB]at HHS;clear hb3 hy hW3;go_wp2_with fail;rw[HW3.out];refine HHS.out.mono ?_;rintro e w4 ⟨rfl,hb4⟩;have hz3:wr.heap.size<W3.heap.size:=HX3.out.lt;have HX4:=ah (HX3.out.below hb4 hz3);have HO4:=ah (HO3.out.below hb4);have HB4:Hid (Below wo.heap.size wo w4):=HB3.out.trans (hb4.mono HB3.out.size);clear hb4 HHS r0 r1 r2 k0 k1 k2 k3 k4 k5 k6 y0 y1 y2;obtain⟨r0,r1,r2⟩:=HX4.out.three;have z4:wr.heap.size<w4.heap.size:=HX4.out.lt;cases hfd: (bE p (x1,x2)).isSome with
       | true =>
         have HF2:Hid (dA p (q.take (j+1))=dA p (q.take j)):=by show _=_;rw[HFS.out,if_pos hfd]
         clear hfd;go_wp2_with fail;go_roundw
         case rel=>exact⟨j+1,m,A',c',hlt,by go_num,rfl,hmc,hcm,by omega,by show _=_;rw[HF2.out];exact HML.out,by show Apd _ _ _ _ _ _ _ _;rw[HF2.out];exact HO4.out,HB4.out⟩
         case measure=>simp[intOf];omega
       | false =>
         have HF2:Hid (dA p (q.take (j+1))=dA p (q.take j)++ [((x1,x2),xs)]):=by show _=_;rw[HFS.out,if_neg (by rw[hfd];simp)]
         have HNB:Hid (Bk (w4.alloc (.cells #[.int .u64 x1,.int .u64 x2,.string xs] 118)) w4.heap.size 118 #[.int .u64 x1,.int .u64 x2,.string xs]):=Bk.new w4 _ _;clear hfd
         go_wp2_with (at_builtin;refine pO (.tmp 79) (.tmp 81) 29 rfl ?_)
         refine aF ?_;refine dw (base:=wo.heap.size) (size:=3) _ rfl (.tmp 79) (.tmp 81) 29 rfl 118 i0 _ 32 Tryz.underlying29 Hi.out Hz0.out Hz1.out Hz2.out rfl (by decide) A' m c' _ rfl (Apd.below HO4.out ((af _ _).alloc ai _)) _ _ 1 1 (flat itC [((x1,x2),xs)]) rfl (Sl.of_bk (n:=1) (size:=3) HNB.out rfl) (gX _) (by unfold maxLen;omega) (by omega) (by rw[Z9];omega) ?_;intro A4 c4 w5 ha5 hb5 hn5 hm5 _;rw[<-bu,<-HF2.out]at ha5;have HA5:=ah ha5;have HB5:Hid (Below wo.heap.size wo w5):=(Below.alloc HB4.out (by omega) _).trans hb5;have HM5:Hid ((dA p (q.take (j+1))).length=m+1):=by show _=_;rw[HF2.out,ae,HML.out];rfl
         clear ha5 hb5 r0 r1 r2;go_wp2_with fail;go_roundw
         case rel=>exact⟨j+1,m+1,A4,c4,hlt,by go_num,rfl,hn5,hm5,by omega,HM5.out,HA5.out,HB5.out⟩
         case measure=>simp[intOf];omega
     . have hlz:¬(j:Int)< (n2:Int):=by omega
       have HTQ:Hid (q.take j=q):=ZW (by rw[HQL.out];omega);rw[HTQ.out]at HML HO;obtain⟨F,hF⟩:∃F,dA p q=F:=⟨_,rfl⟩
       rw[hF]at HML HO HPP;have HBw:Hid (Below w.heap.size w wr):=HBo.out.trans (HBr.out.mono (by omega));have HZr:=ah (HZo.out.below HBr.out (by omega));have zwr:w.heap.size+2<=wr.heap.size:=by omega
       clear hF;by_cases hk0:m=0/\n1=0
       . obtain⟨rfl,rfl⟩:=hk0
         have HPK:Hid (pl= .keep):=by show _=_;rw[HPP.out,if_pos ⟨List.eq_nil_of_length_eq_zero HML.out,List.eq_nil_of_length_eq_zero HUL.out⟩]
         obtain⟨⟨z0,z1',z2,z3⟩,z4,z5,z6⟩:=HZr.out.seven;obtain⟨⟨f0,f1,f2,f3⟩,f4,f5,f6⟩:=HZr.out.free7;go_wp2_with fail;refine ZY (dL Tryz.results35 rfl (HZr.out.set7 _ _ _ _ _ _ _) rfl) rfl ?_;rw[HPK.out];have hbf:=dz HBw.out (show w.heap.size<=w.heap.size+1 by omega) (.int .i64 d.sz) (.slice s.d.a1 dn s.d.c1) (.slice s.d.a2 0 s.d.c2) (.int .i64 d.lf) (.slice s.pA pn s.pc) (.slice s.rA rn s.rc) (.slice s.lA ln s.lc);exact⟨s,by simp only[rpV,rpC,HDN.out,HDP.out,HPLN.out,HRN.out,HLN.out];rfl,(HM.out.below hbf hB).more (by have:=hbf.size;omega),hbf⟩
       . have HPA:Hid (pl= .app (us,aU F) un rs' (lg++us)):=by
           show _=_;rw[HPP.out,if_neg (fun h=>hk0 ⟨by rw[<-HML.out,h.1];rfl,by rw[<-HUL.out,h.2];rfl⟩)]
         have HGK:Hid (GOk (us,aU F)):=⟨HAE.out.len,HAE.out.pr,HUS.out,by show(aU F).length<=_;unfold aU;rw[List.length_map,HML.out];omega⟩
         have HRC:=ah (xG us A1 n1 c1 F A' m c' wr.heap.size wr ((H2.out.below HBw.out hB).more (by omega)) HO.out.sl ai HGK.out (by omega));unfold vJ at HRC;obtain⟨l,hl⟩:∃l,aN (us,aU F)=l:=⟨_,rfl⟩
         have hl0:l≠ []:=by rw[<-hl];simp[aN]
         have hll:l.length<=200000:=by rw[<-hl];unfold aN aU;simp;have:=HML.out;omega
         rw[hl]at HRC;have HLL:=ah hl;have HL0:=ah hl0;clear hl hl0 k0 k1 k2 k3 k4 k5 k6;have hrm:rm=rs'.length:=(HRo.out.len gN (by omega)).symm;have hlm:lm= (lg++us).length:=(HLo.out.len eB (by omega)).symm;have HRMN:=ah hrm;have HLMN:=ah hlm;clear hrm hlm;rcases (show m≠0∨ (m=0/\n1≠0) by omega) with hm0 | ⟨rfl,hn0⟩
         all_goals
          go_wp2_with fail;refine HRC.out.mono ?_;rintro e w5 ⟨A5,m5,c5,rfl,hs5,hm5,hc51,hc52,hb5⟩;have z5s:=hb5.size;have HB5:Hid (Below w.heap.size w w5):=HBw.out.trans (hb5.mono (by omega));have HK5:=ah (HKr.out.below hb5 (by omega));have HZ5:=ah (HZr.out.below hb5 (by omega));have HF5:=ah ((HFo.out.below HBr.out (by omega)).below hb5 (by omega));have HBo5:Hid (Below wo.heap.size wo w5):=HBr.out.trans (hb5.mono (by omega));have HAD:=ah (Fq d s.d B a u (recs gs) l A5 m5 c5 w5.heap.size w5 HD.out HPN.out HJ.out (HM.out.d.below HB5.out hB) (by omega) hs5 ai (by unfold maxLen;omega) HL0.out);obtain⟨⟨dx,ex⟩,hdx⟩:∃t,cB d a u l=t:=⟨_,rfl⟩
          rw[hdx]at HAD;have HDX:=ah hdx;unfold aW at HAD;clear hs5 hb5 HRC hdx HKr HZr HFo hm5;obtain⟨⟨k0,k1,k2,k3⟩,k4,k5,k6⟩:=HK5.out.seven;simp only[dkV,dkC,HDN.out,HDP.out]at HAD;go_wp2_with fail;refine HAD.out.mono ?_;rintro e w6 ⟨sq,rfl,hmx,hb6⟩;have z6s:=hb6.size;have HMX:=ah hmx;have HK6:=ah (HK5.out.below hb6 (by omega));have HZ6:=ah (HZ5.out.below hb6 (by omega));have HF6:=ah (HF5.out.below hb6 (by omega));have HB6:Hid (Below w.heap.size w w6):=HB5.out.trans (hb6.mono (by omega));have HBo6:Hid (Below wo.heap.size wo w6):=HBo5.out.trans (hb6.mono (by omega));clear hmx hb6 HAD k0 k1 k2 k3 k4 k5 k6 HK5 HZ5 HF5;obtain⟨xn,hxn⟩:∃xn,dx.ss.length=xn:=⟨_,rfl⟩
          obtain⟨xp,hxp⟩:∃xp,dx.pn.length=xp:=⟨_,rfl⟩
          have HXN:=ah hxn;have HXP:=ah hxp;simp only[hxn,hxp];obtain⟨W7,hW7⟩:∃W7,w6.alloc (.cells #[.int .i64 dx.sz,.slice sq.a1 xn sq.c1,.slice sq.a2 xp sq.c2,.int .i64 dx.lf] 25)=W7:=⟨_,rfl⟩
          have hb7:Below w6.heap.size w6 W7:=by rw[<-hW7];exact(af _ w6).alloc ai _
          have HD7:Hid (Bk W7 w6.heap.size 25 #[.int .i64 dx.sz,.slice sq.a1 xn sq.c1,.slice sq.a2 xp sq.c2,.int .i64 dx.lf]):=by rw[<-hW7];exact Bk.new w6 _ _
          have HK7:=ah (HK6.out.below hb7 (by omega));have HZ7:=ah (HZ6.out.below hb7 (by omega));have HF7:=ah (HF6.out.below hb7 (by omega));have HB7:Hid (Below w.heap.size w W7):=HB6.out.trans (hb7.mono (by omega));have HBo7:Hid (Below wo.heap.size wo W7):=HBo6.out.trans (hb7.mono (by omega));have HMX7:Hid (DkM W7 W7.heap.size dx sq):=(HMX.out.below hb7 ai).more hb7.size;have zW7:w6.heap.size<W7.heap.size:=HD7.out.lt;have HCG:=ah (xL ⟨d,p,rs,lg⟩ ⟨zDk,un,rs',lg++us⟩ s ⟨⟨none,0,none,0⟩,uA,uc,rA,rc,lA,lc⟩ dx sq ex W7);have HVAL:Hid (∃(i0 i3:Int)(a1 a2 a4 a5 a6:OA)(l1 l2 l4 l5 l6 b1 b2 b4 b5 b6:Nat),(if ex=0 then rpV {(⟨zDk,un,rs',lg++us⟩:Rp) with d:=dx} {(⟨⟨none,0,none,0⟩,uA,uc,rA,rc,lA,lc⟩:Rsl) with d:=sq} else if ex=20 then rpV {(⟨d,p,rs,lg⟩:Rp) with d:=dx} {s with d:=sq} else rpV zRp zRs)= .agg #[.int .i64 i0,.slice a1 l1 b1,.slice a2 l2 b2,.int .i64 i3,.slice a4 l4 b4,.slice a5 l5 b5,.slice a6 l6 b6]):=by
           show ∃_,_;split
           . exact⟨_,_,_,_,_,_,_,_,_,_,_,_,_,_,_,_,_,rfl⟩
           . split
             . exact⟨_,_,_,_,_,_,_,_,_,_,_,_,_,_,_,_,_,rfl⟩
             . exact⟨_,_,_,_,_,_,_,_,_,_,_,_,_,_,_,_,_,rfl⟩
          obtain⟨i0',i3,a1,a2,a4,a5,a6,l1,l2,l4,l5,l6,b1,b2,b4,b5,b6,hyv⟩:=HVAL.out;rw[hyv]at HCG;have HYV:=ah hyv;simp only[rpV,rpC,dkV,dkC,zDk,List.length_nil,HDN.out,HDP.out,HPLN.out,HRN.out,HLN.out,hxn,hxp,<-HRMN.out,<-HLMN.out,Int.cast_ofNat_Int]at HCG;obtain⟨d0,d1,d2,d3⟩:=HD7.out.dk4;obtain⟨⟨k0,k1,k2,k3⟩,k4,k5,k6⟩:=HK7.out.seven;obtain⟨g0,g1,_,_⟩:=HF7.out.two;rw[<-hW7]at d0 d1 d2 d3 k0 k1 k2 k3 k4 k5 k6 g0 g1;have HW7:=ah hW7;clear hb7 hW7 hxn hxp hyv HK6 HZ6 HF6 HB6 HBo6 HMX;go_wp2_with fail;rw[HW7.out];refine HCG.out.mono ?_;rintro e w8 ⟨rfl,hb8⟩;have HZ8:=ah (HZ7.out.below hb8 (by omega));have HB8:Hid (Below w.heap.size w w8):=HB7.out.trans (hb8.mono (by omega));have HBo8:Hid (Below wo.heap.size wo w8):=HBo7.out.trans (hb8.mono (by omega));have HMX8:=ah (HMX7.out.below hb8 ai);have z8s:=hb8.size;clear hb8 HCG d0 d1 d2 d3 k0 k1 k2 k3 k4 k5 k6 g0 g1 HZ7 HK7 HF7 HD7;obtain⟨⟨z0,z1',z2,z3⟩,z4,z5,z6⟩:=HZ8.out.seven;obtain⟨⟨f0,f1,f2,f3⟩,f4,f5,f6⟩:=HZ8.out.free7;go_wp2_with fail;refine ZY (dL Tryz.results35 rfl (HZ8.out.set7 _ _ _ _ _ _ _) rfl) rfl ?_;rw[HPA.out];show dO _ _ _ _ _;rw[HLL.out,HDX.out];obtain⟨w9,hw9⟩:∃w9,((((((w8.setCell ⟨w.heap.size+1,0,none⟩ (.int .i64 i0')).setCell ⟨w.heap.size+1,1,none⟩ (.slice a1 l1 b1)).setCell ⟨w.heap.size+1,2,none⟩ (.slice a2 l2 b2)).setCell ⟨w.heap.size+1,3,none⟩ (.int .i64 i3)).setCell ⟨w.heap.size+1,4,none⟩ (.slice a4 l4 b4)).setCell ⟨w.heap.size+1,5,none⟩ (.slice a5 l5 b5)).setCell ⟨w.heap.size+1,6,none⟩ (.slice a6 l6 b6)=w9:=⟨_,rfl⟩
          have hbf:Below w.heap.size w w9:=by rw[<-hw9];exact dz HB8.out (by omega) _ _ _ _ _ _ _
          have hof:∀k,k≠w.heap.size+1->w9.heap[k]? =w8.heap[k]? :=fun k hk=>by rw[<-hw9];exact fZ _ _ _ _ _ _ _ _ _ k hk
          have z9:w9.heap.size=w8.heap.size:=by rw[<-hw9];simp
          have hbo:Below wo.heap.size wo w8:=HBo8.out;have hr9:RpM w9 w9.heap.size ⟨zDk,un,rs',lg++us⟩ ⟨⟨none,0,none,0⟩,uA,uc,rA,rc,lA,lc⟩:=by
           have h8:RpM w8 w8.heap.size ⟨zDk,un,rs',lg++us⟩ ⟨⟨none,0,none,0⟩,uA,uc,rA,rc,lA,lc⟩ :=
            ⟨⟨Sl.nil _ _ _ _,Sl.nil _ _ _ _⟩,(HUo.out.below hbo ai).more hbo.size,by have:=(HRo.out.below hbo ai).more hbo.size;rw[HRMN.out]at this;exact this,by have:=(HLo.out.below hbo ai).more hbo.size;rw[HLMN.out]at this;exact this,huc,hum⟩
           exact(h8.box HZ8.out (by simp[bxV]) hof).more (by omega)
          have hx9:DkM w9 w9.heap.size dx sq:=by
           have h8:RpM w8 w8.heap.size ⟨dx,[],[],[]⟩ ⟨sq,none,0,none,0,none,0⟩:=⟨HMX8.out.more z8s,Sl.nil _ _ _ _,Sl.nil _ _ _ _,Sl.nil _ _ _ _,Nat.le_refl _,ZZ _⟩
           exact((h8.box HZ8.out (by simp[bxV]) hof).more (by omega)).d
          have hcg:=yS ⟨d,p,rs,lg⟩ s (dx,ex) sq un rs' (lg++us) ⟨⟨none,0,none,0⟩,uA,uc,rA,rc,lA,lc⟩ w w9 hbf ((HM.out.below hbf hB).more (by have:=hbf.size;omega)) hr9 hx9;rw[HYV.out]at hcg;rw[hw9];exact hcg
end Go.Proofs.YtknefelegjlgnaaGreatDoor
