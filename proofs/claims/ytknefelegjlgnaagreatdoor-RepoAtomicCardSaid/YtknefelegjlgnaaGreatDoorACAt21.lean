/-
  Lemmas of the card.
-/
import Derived.Test.YtknefelegjlgnaaGreatDoorACAt20
set_option maxRecDepth 100000
set_option maxHeartbeats 16000000
namespace Go.Proofs.YtknefelegjlgnaaGreatDoor
open Go.RowKit
structure Acs where
 fA:OA
 fc:Nat
 pA:OA
 pc:Nat
 uA:OA
 uc:Nat
 kA:OA
 kc:Nat
abbrev AcX:=Ac×Acs
def acC(x:AcX):List M4:= [.int .i64 x.1.kind,.string x.1.nm,.slice x.2.fA x.1.fs.length x.2.fc,.slice x.2.pA x.1.pl.length x.2.pc,.slice x.2.uA x.1.us.length x.2.uc,.int .i64 x.1.left,.slice x.2.kA x.1.pk.length x.2.kc]
def acA(x:AcX):Array M4:=#[.int .i64 x.1.kind,.string x.1.nm,.slice x.2.fA x.1.fs.length x.2.fc,.slice x.2.pA x.1.pl.length x.2.pc,.slice x.2.uA x.1.us.length x.2.uc,.int .i64 x.1.left,.slice x.2.kA x.1.pk.length x.2.kc]
theorem pO(x:AcX): (acC x).length=7:=rfl
structure AcM(w:MZ)(B:Nat)(x:AcX):Prop where
 f:Sl w B 2 x.2.fA x.1.fs.length (flat flC x.1.fs)
 p:Sl w B 3 x.2.pA x.1.pl.length (flat itC x.1.pl)
 u:Sl w B 5 x.2.uA x.1.us.length (flat upC x.1.us)
 k:Sl w B 1 x.2.kA x.1.pk.length (flat gW x.1.pk)
theorem AcM.below{w w':MZ}{B B':Nat}{x:AcX}(h:AcM w B x)(hb:Below B' w w')(hB:B<=B'):AcM w' B x:=⟨h.f.below hb hB,h.p.below hb hB,h.u.below hb hB,h.k.below hb hB⟩
theorem AcM.more{w:MZ}{B B':Nat}{x:AcX}(h:AcM w B x)(hB:B<=B'):AcM w B' x:=⟨h.f.more hB,h.p.more hB,h.u.more hB,h.k.more hB⟩
structure AcB(x:Ac):Prop where
 fn:x.fs.length<=maxLen
 fs:∀f∈x.fs,f.1.size<=maxLen/\f.2.size<=maxLen
 pn:x.pl.length<=maxLen
 ps:∀i∈x.pl,WfD i.1/\i.2.size<=maxLen
 un:x.us.length<=maxLen
 us:∀u∈x.us,u.1.size<=maxLen/\WfU u
 kn:x.pk.length<=maxLen
 nm:x.nm.size<=maxLen
 lm:x.left<=9223372036854775807
structure AcsM(w:MZ)(B:Nat)(A:OA)(n:Nat)(l:List AcX):Prop where
 s:Sl w B 7 A n (flat acC l)
 m:∀x∈l,AcM w B x
theorem AcsM.below{w w':MZ}{B B':Nat}{A:OA}{n:Nat}{l:List AcX}(h:AcsM w B A n l)(hb:Below B' w w')(hB:B<=B'):AcsM w' B A n l:=⟨h.s.below hb hB,fun x hx=>(h.m x hx).below hb hB⟩
theorem Sl.ac{w:MZ}{B n k:Nat}{A:OA}{l:List AcX}(h:Sl w B 7 A n (flat acC l))(hk:k<n) :
  ∃b off x,A=some ⟨b,off,none⟩/\b<B/\l[k]? =some x/\ (w.cell? ⟨b,off+k*7,none⟩=some (.int .i64 x.1.kind)/\w.cell? ⟨b,off+k*7+1,none⟩=some (.string x.1.nm)/\w.cell? ⟨b,off+k*7+2,none⟩=some (.slice x.2.fA x.1.fs.length x.2.fc)/\w.cell? ⟨b,off+k*7+3,none⟩=some (.slice x.2.pA x.1.pl.length x.2.pc))
   /\w.cell? ⟨b,off+k*7+4,none⟩=some (.slice x.2.uA x.1.us.length x.2.uc)/\w.cell? ⟨b,off+k*7+5,none⟩=some (.int .i64 x.1.left)/\w.cell? ⟨b,off+k*7+6,none⟩=some (.slice x.2.kA x.1.pk.length x.2.kc):=by
 obtain⟨b,off,u,rfl,hb,hu,hc⟩:=h.at_ pO (by omega) hk;exact⟨b,off,u,rfl,hb,hu,⟨hc 0 _ rfl,hc 1 _ rfl,hc 2 _ rfl,hc 3 _ rfl⟩,hc 4 _ rfl,hc 5 _ rfl,hc 6 _ rfl⟩
def ja(n z:Int)(A:OA)(m c:Nat):M4:= .agg #[.int .i64 n,.int .i64 z,.slice A m c]
def lD(r:Rp)(n x:Int)(w:MZ)(e:Ending)(w':MZ):Prop:=∃s,e= .returned (.tuple #[rpV r s,.int .i64 n,.int .i64 x])/\RpM w' w'.heap.size r s/\Below w.heap.size w w'
def CoE(r:Rp)(a:Nat)(pl:fC)(w:MZ)(e:Ending)(w':MZ):Prop:=match pl with
 | .rew g p rs lg=>lD (after r (bZ r.d a (aM g)) p rs lg).1 (if(after r (bZ r.d a (aM g)) p rs lg).2=0 then(r.p.length:Int) - (p.length:Int) else 0) (after r (bZ r.d a (aM g)) p rs lg).2 w e w'
 | _=>lD r 0 0 w e w'
theorem Iq{p:List Itm}(hp:PlOk p){rs:List Rf}{l m:List Dig}(h:qI p (rs.map (·.2)) l m):eG p l=fT p rs:=by
 unfold eG fT;refine List.filter_congr fun i hi=>?_;rw[decide_eq_decide,h.there];obtain⟨o,ho,e⟩:=hp.enc i hi;have hg:aL p i.1=some o:=(gz hp).2 ⟨ho,by rw[<-e];exact hi⟩;exact⟨fun h=>h.2.1,fun h=>⟨uR hp hg,h,by rw[hg];simp⟩⟩
theorem uG{fn:Func}{c i j:Tmp}(h:fn.results= #[.cell c 35,.tmp i,.tmp j]){w:MZ}{b:Nat}{a:Array M4}{x0 x1 x2 x3 x4 x5 x6 u v:M4}(h1:a[c]?.getD undef= .pointer (some ⟨b,0,none⟩))(hk:Bk w b 35 #[x0,x1,x2,x3,x4,x5,x6])(hu:a[i]?.getD undef=u)(hv:a[j]?.getD undef=v) :
  (results fn a).run Tryz.prog w= .ok (.tuple #[.agg #[x0,x1,x2,x3,x4,x5,x6],u,v]) w:=by
 obtain⟨⟨k0,k1,k2,k3⟩,k4,k5,k6⟩:=hk.seven;simp[results,h,h1,hu,hv,go_sem,k0,k1,k2,k3,k4,k5,k6]
theorem xx(r:Rp)(s:Rsl)(gs:List Gru)(a u B:Nat)(w:MZ)
  (hd:r.d.Ok) (hpn:r.d.pn= []) (hj:Jn r.d.sz r.d.ss a (recs gs) u) (hM:Mt gs r.p r.rs r.lg) (hpf:r.p.length<=49000) (hm:RpM w B r s) (hB:B<=w.heap.size) :
  Calls Tryz.prog 17 #[rpV r s] w (CoE r a (fD r.p r.rs r.lg) w):=by
 have bo:=gY hM.rf;have al:=kR hM.rf;have am:∀u∈r.lg,u.1.size<=65536/\WfU u:=fun u hu=>by
  rw[hM.lo]at hu;obtain⟨g,hg,hu⟩:=List.mem_flatMap.1 hu;exact(hM.ok g hg).us u hu
 obtain⟨d,p,rs,lg⟩:=r;simp only at hd hpn hj hM hpf bo al am ⊢;obtain⟨W,hW⟩:=NX9 ((w.alloc (.cells (rpC ⟨d,p,rs,lg⟩ s) 35)).alloc (.cells rzC 35))
 have an:Hid (Below w.heap.size w W):=by rw[<-hW];exact((af _ w).alloc ai _).alloc (by simp) _
 have HK:Hid (Bk W w.heap.size 35 (rpC ⟨d,p,rs,lg⟩ s)):=by rw[<-hW];exact(Bk.new w _ _).alloc _
 have HZ:Hid (Bk W (w.heap.size+1) 35 rzC):=by rw[<-hW];exact(Bk.new _ _ _).at_ (by simp)
 have zW:W.heap.size=w.heap.size+2:=by rw[<-hW];simp
 obtain⟨pl,h⟩:=NX9 (fD p rs lg)
 rw[h];have cA:=ah h;have j:=ah hM;have HD:=ah hd;have cC:=ah hpn;have HJ:=ah hj;have HM:=ah hm;have cD:=ah am;have HW:=ah hW;have ao:d.pn.length=0:=by rw[hpn];rfl
 obtain⟨dn,ap⟩:=NX9 d.ss.length
 obtain⟨pn,h⟩:=NX9 p.length
 obtain⟨rn,P⟩:=NX9 rs.length
 obtain⟨ln,E⟩:=NX9 lg.length
 have aq:=ah ap;have ar:=ah ao;have b:=ah h;have au:=ah P;have av:=ah E;have cE:Hid (Sl W B 3 s.rA rn (flat rfC rs)):=by have:=hm.rf.below an.o hB;simp only[P]at this;exact this
 have bp:Hid (Sl W B 3 s.pA pn (flat itC p)):=by have:=hm.p.below an.o hB;simp only[h]at this;exact this
 simp only[rpV,rpC,ap,ao,h,P,E]at HK HW hpf bo al ⊢;clear hd hpn hj hM hm am hW ao ap h P E;obtain⟨⟨k0,k1,k2,k3⟩,k4,k5,k6⟩:=HK.o.seven;obtain⟨i0,hi,X,Y,Z⟩:=info_parts jw;have Hi:=ah hi;have cF:=ah X;have cG:=ah Y;have cH:=ah Z;have bq:Hid (∀x∈rs,WfD x.2):=fun x hx=>by
  obtain⟨⟨o,ho,_⟩,_⟩:=compl_zero.1 (j.o.co x hx);rw[mY j.o.pl ho];exact eQ _
 clear hi X Y Z
 go_enter Tryz.func17,Tryz.ntmps17
 go_wp2_with fail;rw[HW.o]
 go_loopw[5,20] (fun v i wr=>∃(k:Nat)(A':OA)(c':Nat),k<=rn/\i= .int .i64 k/\v= .slice A' k c'/\k<=c'/\c'<=maxLen/\Hid (wr.ownsRow W.heap.size 50 2 (.slice A' k c') k (flat dgC ((rs.map (·.2)).take k)))/\Hid (Below W.heap.size W wr)) (fun _ i _=>rn - (intOf i).toNat)
 case atStart=>exact⟨0,none,0,ZZ _,rfl,rfl,Nat.le_refl _,ZZ _,World.ownsRow_nil _ _ _ _,af _ _⟩
 case round =>
  obtain⟨k,A',c',hk,rfl,rfl,ea,eb,hO,br⟩:=hrel;have HO:=ah hO.o;have A:=ah br.o;have zr:=A.o.size;clear hO br k0 k1 k2 k3 k4 k5 k6;by_cases hlt:k<rn
  . obtain⟨bb,ec,y,hA,ed,hy,hc⟩:=(cE.o.below A.o (by omega)).at_ gP (by omega) hlt
    have x0:=hc 0 _ rfl;have x1:=hc 1 _ rfl;have x2:=hc 2 _ rfl;have cI: (k:Int)< (rn:Int):=by omega
    have bs:Hid (flat dgC ((rs.map (·.2)).take (k+1))=flat dgC ((rs.map (·.2)).take k)++flat dgC [y.2]):=by
     show _=_;rw[aS (show(rs.map (·.2))[k]? =some y.2 by rw[List.getElem?_map,hy];rfl),bu]
    obtain⟨yn,y1,y2⟩:=y;simp only[Nat.add_zero]at x0 x1 x2 bs;obtain⟨W3,Q⟩:=NX9 ((wr.alloc (.cells #[.string yn,.int .u64 y1,.int .u64 y2] 52)).alloc (.cells #[.int .u64 y1,.int .u64 y2] 50))
    have aw:Below wr.heap.size wr W3:=by rw[<-Q];exact((af _ wr).alloc ai _).alloc (by simp) _
    have cJ:Hid (Bk W3 (wr.heap.size+1) 50 #[.int .u64 y1,.int .u64 y2]):=by rw[<-Q];exact(Bk.new _ _ _).at_ (by simp)
    have bt:=ah (fM HO.o aw);have aD:Hid (Below W.heap.size W W3):=A.o.trans (aw.mono zr);have cL:=ah Q;rw[hA];clear hc hy aw Q
    go_wp2_with (at_builtin;refine pW (.tmp 24) (.tmp 27) 47 rfl ?_)
    rw[cL.o];refine aF ?_;refine iM (base:=W.heap.size) (size:=2) _ rfl (.tmp 24) (.tmp 27) 47 rfl 50 i0 _ 16 Tryz.underlying47 Hi.o cF.o cG.o cH.o rfl (by decide) (.slice A' k c') k _ rfl bt.o _ _ 1 1 (flat dgC [(y1,y2)]) rfl (Sl.of_bk (n:=1) (size:=2) cJ.o rfl) (jl _) (by unfold maxLen;omega) (by omega) aD.o.size ?_;intro A4 c4 w4 ho hg bv bw;rw[<-bs.o]at ho;have cM:=ah ho;have C:Hid (Below W.heap.size W w4):=aD.o.grown hg aD.o.size (fun g e=>(bU bt.o e).1);clear ho hg x0 x1 x2;go_wp2_with fail;go_roundw
    case rel=>exact⟨k+1,A4,c4,hlt,by go_num,rfl,bv,bw,cM.o,C.o⟩
    case measure=>simp[intOf];omega
  . have cI:¬(k:Int)< (rn:Int):=by omega
    have cN:k=rn:=by omega
    subst cN;have cO:Hid ((rs.map (·.2)).take k=rs.map (·.2)):=ZW (by rw[List.length_map,au.o];exact Nat.le_refl _);rw[cO.o]at HO;obtain⟨wo,cP⟩:∃wo,wo=wr:=⟨_,rfl⟩
    subst cP;have aE:=ah (xV p s.pA pn s.pc (rs.map (·.2)) A' k c' wo.heap.size wo ((bp.o.below A.o (by omega)).more (by omega)) (Sl.of_own HO.o) ai j.o.pl (by omega) (fun d hd=>by obtain⟨x,hx,rfl⟩:=List.mem_map.1 hd;exact bq.o x hx) al);unfold ReE at aE;obtain⟨⟨k0,k1,k2,k3⟩,k4,k5,k6⟩:=(HK.o.below A.o (by omega)).seven;go_wp2_with fail;refine aE.o.mono ?_;rintro e w2 ⟨rl,rm,cQ,cR,mA,mc,rfl,hr,bx,E,bz,ca⟩;have G:Hid (Below W.heap.size W w2):=A.o.trans (ca.mono zr);have H:=ah (Gd s.pA pn s.pc w2.heap.size cQ rl.length cR p rl w2 ((bp.o.below G.o (by omega)).more (by have:=G.o.size;omega)) bx ai (by omega) (by omega) bz (fun i hi=>by rw[j.o.pl.dg i hi];exact eQ _));unfold KeE at H;rw[Iq j.o.pl hr]at H;obtain⟨F,hF⟩:=NX9 (fT p rs)
    rw[hF]at H;have cb:=ah hF;have cS:=G.o.size;clear hr bx E bz ca aE hF k0 k1 k2 k3 k4 k5 k6;obtain⟨⟨k0,k1,k2,k3⟩,k4,k5,k6⟩:=(HK.o.below G.o (by omega)).seven;go_wp2_with fail;refine H.o.mono ?_;rintro e w4 ⟨fA,fc,rfl,cc,cd,cT,ce⟩;have C:Hid (Below W.heap.size W w4):=G.o.trans (ce.mono cS);have ba:=ah cc;have cU:F.length<=pn:=by rw[<-cb.o,<-b.o];exact List.length_filter_le _ _
    have bd:Hid (pl=if F.length=pn then .keep else .rew (lg,aU F) F rs lg):=by
     show _=_;rw[<-cA.o];unfold fD;rw[cb.o,b.o]
    have ee:=C.o.size;have bf:=ah (HK.o.below C.o (by omega));have I:=ah (HZ.o.below C.o (by omega));have J:Hid (Below w.heap.size w w4):=an.o.trans (C.o.mono (by omega));clear cc ce H k0 k1 k2 k3 k4 k5 k6;obtain⟨⟨k0,k1,k2,k3⟩,k4,k5,k6⟩:=bf.o.seven;obtain⟨fn,bg⟩:=NX9 F.length
    have D:=ah bg;rw[bg]at bd cU ba cd ⊢;clear bg;by_cases hz:fn=pn
    . subst hz
      have cV:Hid (pl= .keep):=by show _=_;rw[bd.o,if_pos rfl]
      obtain⟨⟨z0,cf,z2,z3⟩,z4,z5,z6⟩:=I.o.seven;obtain⟨⟨f0,f1,f2,f3⟩,f4,f5,f6⟩:=I.o.free7;go_wp2_with fail;refine ZY (uG Tryz.results17 rfl (I.o.set7 _ _ _ _ _ _ _) rfl rfl) rfl ?_;rw[cV.o];have c:=cZ J.o (show w.heap.size<=w.heap.size+1 by omega) (.int .i64 d.sz) (.slice s.d.a1 dn s.d.c1) (.slice s.d.a2 0 s.d.c2) (.int .i64 d.lf) (.slice s.pA fn s.pc) (.slice s.rA k s.rc) (.slice s.lA ln s.lc);exact⟨s,by simp only[rpV,rpC,aq.o,ar.o,b.o,au.o,av.o];rfl,(HM.o.below c hB).more (by have:=c.size;omega),c⟩
    . have ef: ((pn:Int) - (fn:Int) == 0)=false:=by rw[beq_eq_false_iff_ne];omega
      have eg:=ah hz;have cW:Hid (pl= .rew (lg,aU F) F rs lg):=by show _=_;rw[bd.o,if_neg hz]
      have cX:Hid (GOk (lg,aU F)):=⟨gY j.o.rf,Cr j.o.rf,cD.o,by show(aU F).length<=_;unfold aU;rw[List.length_map,D.o];omega⟩
      have cg:Hid (Sl w4 w4.heap.size 5 s.lA ln (flat upC lg)):=by have:=(HM.o.l.below J.o hB).more (show B<=w4.heap.size by omega);simp only[av.o]at this;exact this
      have R:=ah (yg lg s.lA ln s.lc F fA fn fc w4.heap.size w4 cg.o ba.o ai cX.o (by omega));unfold vT at R;obtain⟨l,hl⟩:=NX9 (aM (lg,aU F))
      have ch:l≠ []:=by rw[<-hl];simp[aM]
      have eh:l.length<=200000:=by rw[<-hl];unfold aM aU;simp;have:=D.o;omega
      rw[hl]at R;have cY:=ah hl;have da:=ah ch;clear hl ch hz;go_wp2_with fail;refine R.o.mono ?_;rintro e w5 ⟨A5,m5,c5,rfl,ci,db,dy,dN,m⟩;have ei:=m.size;have cj:Hid (Below w.heap.size w w5):=J.o.trans (m.mono (by omega));have bh:=ah (bf.o.below m (by omega));have ck:=ah (I.o.below m (by omega));have ab:Hid (Sl w5 w5.heap.size 3 fA fn (flat itC F)):=(ba.o.below m ai).more m.size;have K:=ah (EP d s.d B a u (recs gs) l A5 m5 c5 w5.heap.size w5 HD.o cC.o HJ.o (HM.o.d.below cj.o hB) (by omega) ci ai (by unfold maxLen;omega) da.o);obtain⟨⟨dx,ex⟩,bi⟩:∃t,bZ d a l=t:=⟨_,rfl⟩
      rw[bi]at K;have dc:=ah bi;unfold aW at K;clear ci m R bi bf I db k0 k1 k2 k3 k4 k5 k6;obtain⟨⟨k0,k1,k2,k3⟩,k4,k5,k6⟩:=bh.o.seven;simp only[dkV,dkC,aq.o,ar.o]at K;go_wp2_with fail;refine K.o.mono ?_;rintro e w6 ⟨sq,rfl,cl,q⟩;have ej:=q.size;have cm:=ah cl;have cn:=ah (bh.o.below q (by omega));have cp:=ah (ck.o.below q (by omega));have cq:Hid (Below w.heap.size w w6):=cj.o.trans (q.mono (by omega));have ad:Hid (Sl w6 w6.heap.size 3 fA fn (flat itC F)):=(ab.o.below q ai).more q.size;clear cl q K k0 k1 k2 k3 k4 k5 k6 bh ck ab;obtain⟨xn,S⟩:=NX9 dx.ss.length
      obtain⟨xp,T⟩:=NX9 dx.pn.length
      have el:=ah S;have em:=ah T;simp only[S,T];obtain⟨W7,L⟩:=NX9 (w6.alloc (.cells #[.int .i64 dx.sz,.slice sq.a1 xn sq.c1,.slice sq.a2 xp sq.c2,.int .i64 dx.lf] 25))
      have f:Below w6.heap.size w6 W7:=by rw[<-L];exact(af _ w6).alloc ai _
      have bj:Hid (Bk W7 w6.heap.size 25 #[.int .i64 dx.sz,.slice sq.a1 xn sq.c1,.slice sq.a2 xp sq.c2,.int .i64 dx.lf]):=by rw[<-L];exact Bk.new w6 _ _
      have cr:=ah (cn.o.below f (by omega));have cs:=ah (cp.o.below f (by omega));have dd:Hid (Below w.heap.size w W7):=cq.o.trans (f.mono (by omega));have ct:Hid (DkM W7 W7.heap.size dx sq):=(cm.o.below f ai).more f.size;have cu:Hid (Sl W7 W7.heap.size 3 fA fn (flat itC F)):=(ad.o.below f ai).more f.size;have en:w6.heap.size<W7.heap.size:=bj.o.lt;have U:=ah (yj ⟨d,p,rs,lg⟩ ⟨zDk,F,rs,lg⟩ s ⟨⟨none,0,none,0⟩,fA,fc,s.rA,s.rc,s.lA,s.lc⟩ dx sq ex W7);have cv:Hid (∃(i0 i3:Int)(a1 a2 a4 a5 a6:OA)(l1 l2 l4 l5 l6 b1 b2 b4 b5 b6:Nat),(if ex=0 then rpV {(⟨zDk,F,rs,lg⟩:Rp) with d:=dx} {(⟨⟨none,0,none,0⟩,fA,fc,s.rA,s.rc,s.lA,s.lc⟩:Rsl) with d:=sq} else if ex=20 then rpV {(⟨d,p,rs,lg⟩:Rp) with d:=dx} {s with d:=sq} else rpV zRp zRs)= .agg #[.int .i64 i0,.slice a1 l1 b1,.slice a2 l2 b2,.int .i64 i3,.slice a4 l4 b4,.slice a5 l5 b5,.slice a6 l6 b6]):=by
       show ∃_,_;split
       . exact⟨_,_,_,_,_,_,_,_,_,_,_,_,_,_,_,_,_,rfl⟩
       . split
         . exact⟨_,_,_,_,_,_,_,_,_,_,_,_,_,_,_,_,_,rfl⟩
         . exact⟨_,_,_,_,_,_,_,_,_,_,_,_,_,_,_,_,_,rfl⟩
      obtain⟨V,i3,a1,a2,a4,a5,a6,l1,l2,l4,l5,l6,b1,b2,b4,b5,b6,bk⟩:=cv.o;rw[bk]at U;have de:=ah bk;simp only[rpV,rpC,dkV,dkC,zDk,List.length_nil,aq.o,ar.o,b.o,au.o,av.o,D.o,S,T,Int.cast_ofNat_Int]at U;obtain⟨d0,d1,d2,d3⟩:=bj.o.dk4;obtain⟨⟨k0,k1,k2,k3⟩,k4,k5,k6⟩:=cr.o.seven;rw[<-L]at d0 d1 d2 d3 k0 k1 k2 k3 k4 k5 k6;have dj:=ah L;clear f L S T bk cn cp cq cm ad;go_wp2_with fail;rw[dj.o];refine U.o.mono ?_;rintro e w8 ⟨rfl,z⟩;have dk:=ah (cs.o.below z (by omega));have dl:Hid (Below w.heap.size w w8):=dd.o.trans (z.mono (by omega));have cw:=ah (ct.o.below z ai);have cx:Hid (Sl w8 w8.heap.size 3 fA fn (flat itC F)):=(cu.o.below z ai).more z.size;have dp:=z.size;clear z U d0 d1 d2 d3 k0 k1 k2 k3 k4 k5 k6 cs cr bj;obtain⟨W9,M⟩:=NX9 (w8.alloc (.cells #[.int .i64 V,.slice a1 l1 b1,.slice a2 l2 b2,.int .i64 i3,.slice a4 l4 b4,.slice a5 l5 b5,.slice a6 l6 b6] 35))
      have N:Below w8.heap.size w8 W9:=by rw[<-M];exact(af _ w8).alloc ai _
      have dq:Hid (Bk W9 w8.heap.size 35 #[.int .i64 V,.slice a1 l1 b1,.slice a2 l2 b2,.int .i64 i3,.slice a4 l4 b4,.slice a5 l5 b5,.slice a6 l6 b6]):=by rw[<-M];exact Bk.new w8 _ _
      have O:=ah (dk.o.below N (by omega));have dr:Hid (Below w.heap.size w W9):=dl.o.trans (N.mono (by omega));have dT:w8.heap.size≠w.heap.size+1:=by omega
      have ds:Hid (RpM W9 W9.heap.size ⟨dx,F,[],[]⟩ ⟨sq,fA,fc,none,0,none,0⟩):=by
       have h8:RpM w8 w8.heap.size ⟨dx,F,[],[]⟩ ⟨sq,fA,fc,none,0,none,0⟩:=⟨cw.o.more dp,by show Sl _ _ _ _ F.length _;rw[D.o];exact cx.o,Sl.nil _ _ _ _,Sl.nil _ _ _ _,by show F.length<=_;rw[D.o];exact cd,cT⟩
       exact(h8.below N ai).more N.size
      obtain⟨⟨q0,q1,q2,q3⟩,q4,q5,q6⟩:=dq.o.seven;obtain⟨⟨z0,cf,z2,z3⟩,z4,z5,z6⟩:=O.o.seven;obtain⟨⟨f0,f1,f2,f3⟩,f4,f5,f6⟩:=O.o.free7;rw[<-M]at q0 q1 q2 q3 q4 q5 q6 z0 cf z2 z3 z4 z5 z6 f0 f1 f2 f3 f4 f5 f6;have cy:=ah M;have ag:Hid (∀wf n,wf= ((((((W9.setCell ⟨w.heap.size+1,0,none⟩ (.int .i64 V)).setCell ⟨w.heap.size+1,1,none⟩ (.slice a1 l1 b1)).setCell ⟨w.heap.size+1,2,none⟩ (.slice a2 l2 b2)).setCell ⟨w.heap.size+1,3,none⟩ (.int .i64 i3)).setCell ⟨w.heap.size+1,4,none⟩ (.slice a4 l4 b4)).setCell ⟨w.heap.size+1,5,none⟩ (.slice a5 l5 b5)).setCell ⟨w.heap.size+1,6,none⟩ (.slice a6 l6 b6) ->
        n= (if ex=0 then(pn:Int) - (fn:Int) else 0)->CoE ⟨d,p,rs,lg⟩ a pl w (.returned (.tuple #[.agg #[.int .i64 V,.slice a1 l1 b1,.slice a2 l2 b2,.int .i64 i3,.slice a4 l4 b4,.slice a5 l5 b5,.slice a6 l6 b6],.int .i64 n,.int .i64 ex])) wf):=by
       rintro wf n bm rfl;have c:Below w.heap.size w wf:=by rw[bm];exact cZ dr.o (by omega) _ _ _ _ _ _ _
       have dt:∀k,k≠w.heap.size+1->wf.heap[k]? =W9.heap[k]? :=fun k hk=>by rw[bm];exact gq _ _ _ _ _ _ _ _ _ k hk
       have zf:wf.heap.size=W9.heap.size:=by rw[bm];simp
       have h9:=(ds.o.box O.o (by simp[bxV]) dt).more (show W9.heap.size<=wf.heap.size by omega);have bn:=(HM.o.below c hB).more (show B<=wf.heap.size by have:=c.size;omega);have cz:=yT ⟨d,p,rs,lg⟩ s (dx,ex) sq F rs lg ⟨⟨none,0,none,0⟩,fA,fc,s.rA,s.rc,s.lA,s.lc⟩ w wf c bn ⟨⟨Sl.nil _ _ _ _,Sl.nil _ _ _ _⟩,h9.p,bn.rf,bn.l,h9.pc,h9.pm⟩ h9.d;rw[de.o]at cz;obtain⟨sf,he,du,_⟩:=cz;rw[cW.o];show lD _ _ _ _ _ _;rw[cY.o,dc.o];simp only[Ending.returned.injEq,Value.tuple.injEq,Array.mk.injEq,List.cons.injEq,Value.int.injEq,true_and,and_true]at he;refine⟨sf,?_,du,c⟩;rw[he.1,he.2,b.o,D.o]
       congr 3
       unfold after;by_cases h0:ex=0
       . simp[h0]
       . by_cases h2:ex=20 <;> simp[h0,h2]
      clear N M;by_cases h0:ex=0
      . subst h0
        go_wp2_with fail;rw[cy.o];refine ZY (uG Tryz.results17 rfl (O.o.set7 _ _ _ _ _ _ _) rfl rfl) rfl ?_;exact ag.o _ _ rfl (by simp)
      . have eo: (ex != 0)=true:=by simpa using h0
        have dv:=ah h0;clear h0;go_wp2_with fail;rw[cy.o];refine ZY (uG Tryz.results17 rfl (O.o.set7 _ _ _ _ _ _ _) rfl rfl) rfl ?_;exact ag.o _ _ rfl (by rw[if_neg dv.o])
theorem sS(hpck:iW)(r:Rp)(s:Rsl)(gs:List Gru)(a u:Nat)(q:List Itm)(A2:OA)(n2 c2:Nat)(us:List Upd)(A1:OA)(n1 c1:Nat)(B:Nat)(w:MZ)
  (hd:r.d.Ok) (hpn:r.d.pn= []) (hj:Jn r.d.sz r.d.ss a (recs gs) u) (hM:Mt gs r.p r.rs r.lg) (hpf:r.p.length<=49000) (hm:RpM w B r s) (hB:B<=w.heap.size)
  (h1:Sl w B 3 A2 n2 (flat itC q)) (h2:Sl w B 5 A1 n1 (flat upC us)) (hq:n2<=100000) (hqs:∀i∈q,i.2.size<=65536) (hqw:∀i∈q,WfD i.1) (hn1:n1<=1000) (hus:∀u∈us,u.1.size<=65536/\WfU u) :
  Calls Tryz.prog 35 #[rpV r s,.slice A2 n2 c2,.slice A1 n1 c1] w (ExE r a u (dh r.p r.rs r.lg q us) w):=by
 have cO:=gY hM.rf;have cP:=kR hM.rf;have bx:∀u∈r.lg,u.1.size<=65536:=fun u hu=>by
  rw[hM.lo]at hu;obtain⟨g,hg,hu⟩:=List.mem_flatMap.1 hu;exact((hM.ok g hg).us u hu).1
 obtain⟨d,p,rs,lg⟩:=r;simp only at hd hpn hj hM hpf cO cP bx ⊢;obtain⟨W,hW⟩:=NX9 ((w.alloc (.cells (rpC ⟨d,p,rs,lg⟩ s) 35)).alloc (.cells rzC 35))
 have bz:Hid (Below w.heap.size w W):=by rw[<-hW];exact((af _ w).alloc ai _).alloc (by simp) _
 have HK:Hid (Bk W w.heap.size 35 (rpC ⟨d,p,rs,lg⟩ s)):=by rw[<-hW];exact(Bk.new w _ _).alloc _
 have HZ:Hid (Bk W (w.heap.size+1) 35 rzC):=by rw[<-hW];exact(Bk.new _ _ _).at_ (by simp)
 have zW:W.heap.size=w.heap.size+2:=by rw[<-hW];simp
 have HC:=ah (hpck A2 n2 c2 B q W (h1.below bz.o hB) (by omega) (by omega) hqs hqw);obtain⟨pl,N⟩:=NX9 (dh p rs lg q us)
 rw[N];have T:=ah N;have ca:=ah hM;have HD:=ah hd;have ev:=ah hpn;have HJ:=ah hj;have HM:=ah hm;have H1:=ah h1;have H2:=ah h2;have cb:=ah hus;have ew:=ah bx;have cQ:=ah (h1.len bO (by omega));have au:=ah (h2.len eD (by omega));have ey:Hid (rpV ⟨d,p,rs,lg⟩ s= .agg (rpC ⟨d,p,rs,lg⟩ s)):=rfl;have HW:=ah hW;have cc:d.pn.length=0:=by rw[hpn];rfl
 obtain⟨dn,cd⟩:=NX9 d.ss.length
 obtain⟨pn,N⟩:=NX9 p.length
 obtain⟨rn,ce⟩:=NX9 rs.length
 obtain⟨ln,cf⟩:=NX9 lg.length
 have cg:=ah cd;have ch:=ah cc;have C:=ah N;have ci:=ah ce;have cj:=ah cf;simp only[rpV,rpC,cd,cc,N,ce,cf]at HK HW hpf cO cP ey ⊢;clear hd hpn hj hM hm h1 h2 hus bx hqs hqw hW cc cd N ce cf;have gh:w.heap.size+2=W.heap.size:=zW.symm
 go_enter Tryz.func35,Tryz.ntmps35
 go_wp2_with fail;rw[HW.o];refine HC.o.mono ?_;rintro e w1 ⟨x,rfl,hx,U,V⟩;have ck:=ah (HK.o.below V (by omega));have X:=ah (HZ.o.below V (by omega));have Y:Hid (Below w.heap.size w w1):=bz.o.trans (V.mono (by omega));have z1:w.heap.size+2<=w1.heap.size:=by have:=V.size;omega
 have HX:=ah hx;clear V HC HK HZ bz hx;by_cases h0:x=0
 case neg =>
  have ez: (x != 0)=true:=by simpa using h0
  have z:Hid (pl= .no):=by show _=_;rw[<-T.o];unfold dh;rw[if_neg (fun h=>h0 (HX.o.2 h.1))]
  have H0:=ah h0;have cl:=ah U;clear h0 U;obtain⟨⟨z0,Z,z2,z3⟩,z4,z5,z6⟩:=X.o.seven;obtain⟨⟨f0,f1,f2,f3⟩,f4,f5,f6⟩:=X.o.free7;go_wp2_with fail;refine ZY (dO Tryz.results35 rfl (X.o.set7 _ _ _ _ _ _ _) rfl) rfl ?_;rw[z.o];exact .err H0.o cl.o (cZ Y.o (by omega) _ _ _ _ _ _ _)
 subst h0;have cm:Hid (PlOk q):=HX.o.1 rfl;have cn:=ah (EZ s.pA A2 pn s.pc n2 c2 B p q w1 (by have:=HM.o.p.below Y.o hB;simp only[C.o]at this;exact this) (H1.o.below Y.o hB) (by omega) (by omega) (by omega) ca.o.pl.asc cm.o.asc);unfold UnE at cn;obtain⟨⟨k0,k1,k2,k3⟩,k4,k5,k6⟩:=ck.o.seven;clear U HX;go_wp2_with fail;refine cn.o.mono ?_;rintro e w2 ⟨eA,ab⟩;have co:=ah (ck.o.below ab (by omega));have ad:=ah (X.o.below ab (by omega));have O:Hid (Below w.heap.size w w2):=Y.o.trans (ab.mono (by omega));have gj:w.heap.size+2<=w2.heap.size:=by have:=ab.size;omega
 clear ab cn ck X Y k0 k1 k2 k3 k4 k5 k6;rcases eA with ⟨un,uA,uc,av,rfl,hus,eC,eE⟩ | ⟨hcl,rfl⟩
 case inr =>
  have z:Hid (pl= .no):=by show _=_;rw[<-T.o];unfold dh;rw[if_neg (fun h=>h.2.1 hcl)]
  obtain⟨⟨z0,Z,z2,z3⟩,z4,z5,z6⟩:=ad.o.seven;obtain⟨⟨f0,f1,f2,f3⟩,f4,f5,f6⟩:=ad.o.free7;clear hcl;go_wp2_with fail;refine ZY (dO Tryz.results35 rfl (ad.o.set7 _ _ _ _ _ _ _) rfl) rfl ?_;rw[z.o];exact .err (by decide) (by decide) (cZ O.o (by omega) _ _ _ _ _ _ _)
 have cp:=ah av;have bm:=ah hus;have gk:un.length<=149000:=by
  have h1:=AscI.nodup_len av.asc (l:=p++q) (fun i hi=>List.mem_append.2 ((av.mem i).1 hi));rw[ae,C.o,cQ.o]at h1;omega
 clear av hus;have ag:=ah (xI s.rA s.lA A1 rn s.rc ln s.lc n1 c1 B rs lg us w2 (by have:=HM.o.rf.below O.o hB;simp only[ci.o]at this;exact this) (by have:=HM.o.l.below O.o hB;simp only[cj.o]at this;exact this) (H2.o.below O.o hB) (by omega) (by unfold maxLen;omega) (by unfold maxLen;omega) (by omega) (fun u hu=>by have:=(cb.o u hu).1;unfold maxLen;omega) (fun u hu=>by have:=ew.o u hu;unfold maxLen;omega));unfold lh at ag;have al:=ah (GH rs lg us);have cq:=ah (@sN rs lg us);obtain⟨⟨rs',eI,x⟩,cr⟩:∃t,cK rs lg us=t:=⟨_,rfl⟩
 rw[cr]at ag al cq;have M:=ah cr;simp only at ag al cq;obtain⟨⟨k0,k1,k2,k3⟩,k4,k5,k6⟩:=co.o.seven;clear cr;go_wp2_with fail;refine ag.o.mono ?_;rintro e w3 ⟨rA,rm,rc,lA,lm,lc,rfl,cR,gb,gc,cS,gd,ge,b⟩;have H:=ah (co.o.below b (by omega));have cs:=ah (ad.o.below b (by omega));have o:Hid (Below w.heap.size w w3):=O.o.trans (b.mono (by omega));have gl:w.heap.size+2<=w3.heap.size:=by have:=b.size;omega
 have cT:=ah (bm.o.below b ai);have eJ:=b.size;have cU:=ah cR;have bn:=ah cS;clear b ag co ad O k0 k1 k2 k3 k4 k5 k6 cR cS bm;obtain⟨f,D⟩:=NX9 (w3.alloc (.cells #[.slice rA rm rc,.slice lA lm lc] 33))
 by_cases h0:x=0
 case neg =>
  have ez: (x != 0)=true:=by simpa using h0
  have z:Hid (pl= .no):=by show _=_;rw[<-T.o];unfold dh;rw[if_neg (fun h=>h0 (by have:=h.2.2.1;rw[M.o]at this;exact this))]
  have H0:=ah h0;have am:Below w3.heap.size w3 f:=by rw[<-D];exact(af _ w3).alloc ai _
  have I:=ah (cs.o.below am (by omega));have P:Hid (Below w.heap.size w f):=o.o.trans (am.mono (by omega));clear h0 am;obtain⟨⟨z0,Z,z2,z3⟩,z4,z5,z6⟩:=I.o.seven;obtain⟨⟨f0,f1,f2,f3⟩,f4,f5,f6⟩:=I.o.free7;go_wp2_with fail;refine ZY (dO Tryz.results35 rfl (I.o.set7 _ _ _ _ _ _ _) rfl) rfl ?_;rw[z.o];exact .err H0.o al.o (cZ P.o (by omega) _ _ _ _ _ _ _)
 subst h0;have aw:Hid (Dm rs lg us rs'):=cq.o rfl;have cV:eI=lg++us:=by have h1:=M.o;rw[aw.o.eq]at h1;cases h1;rfl
 subst cV;have cW:=aw.o.len;rw[au.o]at cW;have b:Below w3.heap.size w3 f:=by rw[<-D];exact(af _ w3).alloc ai _
 have cX:Hid (Bk f w3.heap.size 33 #[.slice rA rm rc,.slice lA lm lc]):=by rw[<-D];exact Bk.new w3 _ _
 have cY:=ah (H.o.below b (by omega));have I:=ah (cs.o.below b (by omega));have P:Hid (Below w.heap.size w f):=o.o.trans (b.mono (by omega));have ct:Hid (Sl f f.heap.size 3 uA un.length (flat itC un)):=((cT.o.more eJ).below b ai).more b.size;have da:Hid (Sl f f.heap.size 3 rA rm (flat rfC rs')):=(cU.o.below b ai).more b.size;have db:Hid (Sl f f.heap.size 5 lA lm (flat upC (lg++us))):=(bn.o.below b ai).more b.size;have zb:f.heap.size=w3.heap.size+1:=by rw[<-D];simp
 have eK:Hid (PlOk un):=cp.o.plOk ca.o.pl cm.o;have cu:=ah (uL cp.o);have eL:=ah (H2.o.below P.o hB);clear b cT cU bn H cs o;go_wp2_with fail;clear D
 go_loopw[50] (fun i wr=>∃k:Nat,k<=n1/\i= .int .i64 k/\Hid (Below f.heap.size f wr)/\Hid (∀j u,j<k->us[j]? =some u->u.2.2≠zD->dz un u.2.2=0)) (fun i _=>n1 - (intOf i).toNat)
 case atStart=>exact⟨0,ZZ _,rfl,af _ _,fun j u hj=>absurd hj (by omega)⟩
 case round =>
  obtain⟨k,hk,rfl,dc,hC⟩:=hrel;have c:=ah dc.o;have cw:=ah hC.o;have zr:=c.o.size;clear dc hC;by_cases hlt:k<n1
  . obtain⟨bb,eM,y,rfl,am,hy,hc⟩:=(eL.o.below c.o (by omega)).at_ eD (by omega) hlt
    have x0:=hc 0 _ rfl;have x1:=hc 1 _ rfl;have x2:=hc 2 _ rfl;have x3:=hc 3 _ rfl;have x4:=hc 4 _ rfl;have aD: (k:Int)< (n1:Int):=by omega
    have dd:Hid (WfD y.2.2):=(cb.o y (Z7 hy)).2.2;have de:=ah hy;obtain⟨yn,⟨o1,o2⟩,⟨m1,m2⟩⟩:=y;simp only[Nat.add_zero]at x0 x1 x2 x3 x4 dd;obtain⟨W3,v⟩:=NX9 (wr.alloc (.cells #[.string yn,.int .u64 o1,.int .u64 o2,.int .u64 m1,.int .u64 m2] 85))
    have b:Below wr.heap.size wr W3:=by rw[<-v];exact(af _ wr).alloc ai _
    have H:Hid (Bk W3 wr.heap.size 85 #[.string yn,.int .u64 o1,.int .u64 o2,.int .u64 m1,.int .u64 m2]):=by rw[<-v];exact Bk.new wr _ _
    have o:Hid (Below f.heap.size f W3):=c.o.trans (b.mono zr);have y3:=H.o.cell 3;have y4:=H.o.cell 4;simp at y3 y4;have cx:Hid (dz un (m1,m2)=0∨ ((m1,m2):Dig)=zD->∀j u,j<k+1->us[j]? =some u->u.2.2≠zD->dz un u.2.2=0):=fun h j u hj hu hz=>by
     rcases Nat.lt_or_ge j k with h1 | h1
     . exact cw.o j u h1 hu hz
     . have:j=k:=by omega
       subst this;rw[de.o]at hu;cases hu;exact h.resolve_right hz
    clear hc hy b;by_cases hz: ((m1,m2):Dig)=zD
    . have eN:m1=0:=congrArg Prod.fst hz
      have eR:m2=0:=congrArg Prod.snd hz;have cy:=ah (cx.o (.inr hz));rw[<-v]at y3 y4;have cz:=ah v;subst eN eR;clear hz v;go_wp2_with fail;rw[cz.o];go_roundw
      case rel=>exact⟨k+1,hlt,by go_num,o.o,cy.o⟩
      case measure=>simp[intOf];omega
    . have gn: (m1 == 0 && m2 == 0)=false:=by
        rw[Bool.eq_false_iff];intro h;rw[Bool.and_eq_true,beq_iff_eq,beq_iff_eq]at h;exact hz (Prod.ext h.1 h.2)
      have eS:=ah hz;have aE:=ah (xq un uA un.length uc f.heap.size (m1,m2) W3 (ct.o.below o.o ai) o.o.size (by omega) eK.o dd.o);obtain⟨cv,ba⟩:=NX9 (dz un (m1,m2))
      rw[ba]at aE cx;have eV:=ah ba;have bo:cv≠20:=by rw[<-ba];exact IG _ _
      simp only[aB]at aE;clear hz ba;go_wp2_with fail;refine aE.o.mono ?_;rintro e w4 ⟨rfl,J⟩;have Q:Hid (Below f.heap.size f w4):=o.o.trans (J.mono o.o.size);clear J aE x0 x1 x2 x3 x4 v y3 y4;by_cases hc0:cv=0
      . subst hc0
        have cy:=ah (cx.o (.inl rfl));go_wp2_with fail;go_roundw
        case rel=>exact⟨k+1,hlt,by go_num,Q.o,cy.o⟩
        case measure=>simp[intOf];omega
      . have gr: (cv != 0)=true:=by simpa using hc0
        have z:Hid (pl= .no):=by
         show _=_;rw[<-T.o];unfold dh;rw[if_neg (fun h=>hc0 (by have:=h.2.2.2 _ (Z7 de.o) eS.o;rw[cu.o,eV.o]at this;exact this))]
        have H0:=ah hc0;have cl:=ah bo;have cA:=ah (I.o.below Q.o (by omega));have dj:Hid (Below w.heap.size w w4):=P.o.trans (Q.o.mono (by omega));clear hc0 bo;obtain⟨⟨z0,Z,z2,z3⟩,z4,z5,z6⟩:=cA.o.seven;obtain⟨⟨f0,f1,f2,f3⟩,f4,f5,f6⟩:=cA.o.free7;go_wp2_with fail;refine ZY (dO Tryz.results35 rfl (cA.o.set7 _ _ _ _ _ _ _) rfl) rfl ?_;rw[z.o];exact .err H0.o cl.o (cZ dj.o (by omega) _ _ _ _ _ _ _)
  . have aD:¬(k:Int)< (n1:Int):=by omega
    have eW:k=n1:=by omega
    have dk:Hid (∀u∈us,u.2.2≠zD->dz un u.2.2=0):=fun u hu hz=>by
     obtain⟨j,hj⟩:=List.mem_iff_getElem?.1 hu;exact cw.o j u (by have:=(List.getElem?_eq_some_iff.1 hj).1;rw[au.o]at this;omega) hj hz
    have z:Hid (pl=if dC p q= []/\us= [] then .keep else .app (us,aU (dC p q)) un rs' (lg++us)):=by
     show _=_;rw[<-T.o];unfold dh;rw[if_pos ⟨cm.o,cp.o.clear,by rw[M.o],by rw[cu.o];exact dk.o⟩,cu.o,M.o]
    obtain⟨wo,fa⟩:∃wo,wo=wr:=⟨_,rfl⟩
    subst fa;have cC:Hid (Below w.heap.size w wo):=P.o.trans (c.o.mono (by omega));have fb:=ah (cY.o.below c.o (by omega));have fc:=ah (I.o.below c.o (by omega));have dl:=ah (cX.o.below c.o (by omega));have fd:Hid (Sl wo wo.heap.size 3 uA un.length (flat itC un)):=(ct.o.below c.o ai).more zr;have dp:Hid (Sl wo wo.heap.size 3 rA rm (flat rfC rs')):=(da.o.below c.o ai).more zr;have dq:Hid (Sl wo wo.heap.size 5 lA lm (flat upC (lg++us))):=(db.o.below c.o ai).more zr;have zo:w.heap.size+2<=wo.heap.size:=by omega
    have gt:w3.heap.size<wo.heap.size:=by omega
    clear cY I P ct da db cX c cw eW hlt hk;obtain⟨i0,hi,bp,bq,br⟩:=info_parts jS;have Hi:=ah hi;have ff:=ah bp;have fg:=ah bq;have fh:=ah br;have fi:Hid (Sl wo B 3 A2 n2 (flat itC q)):=H1.o.below cC.o hB;have fj:Hid (Sl wo B 3 s.pA pn (flat itC p)):=by have:=HM.o.p.below cC.o hB;simp only[C.o]at this;exact this
    clear hi bp bq br;go_wp2_with fail;clear aD
    go_loopw[15,69] (fun v15 i wr=>∃(j m:Nat)(A':OA)(c':Nat),j<=n2/\i= .int .i64 j/\v15= .slice A' m c'/\m<=c'/\c'<=maxLen/\m<=j/\Hid ((dC p (q.take j)).length=m)/\Hid (Apd wr wo.heap.size 118 3 A' m c' (flat itC (dC p (q.take j))))/\Hid (Below wo.heap.size wo wr)) (fun _ i _=>n2 - (intOf i).toNat)
    case atStart=>exact⟨0,0,none,0,ZZ _,rfl,rfl,Nat.le_refl _,ZZ _,Nat.le_refl _,rfl,.inr ⟨rfl,rfl,rfl⟩,af _ _⟩
    case round =>
     obtain⟨j,m,A',c',hj,rfl,rfl,fk,fl,gu,dr,hO,bs⟩:=hrel;have E:=ah dr.o;have HO:=ah hO.o;have c:=ah bs.o;have zr:wo.heap.size<=wr.heap.size:=c.o.size;have bd:=ah (fb.o.below c.o (by omega));clear dr hO bs;obtain⟨⟨k0,k1,k2,k3⟩,k4,k5,k6⟩:=bd.o.seven;by_cases hlt:j<n2
     . obtain⟨bb,eM,y,rfl,am,hy,y0,y1,y2⟩:=(fi.o.below c.o (by omega)).it hlt
       have aD: (j:Int)< (n2:Int):=by omega
       have cD:=ah (EE (p:=p) hy);obtain⟨⟨x1,x2⟩,xs⟩:=y;simp only at y0 y1 y2 cD;obtain⟨W3,v⟩:=NX9 (wr.alloc (.cells #[.int .u64 x1,.int .u64 x2,.string xs] 118))
       have b:Below wr.heap.size wr W3:=by rw[<-v];exact(af _ wr).alloc ai _
       have cE:Hid (Bk W3 wr.heap.size 118 #[.int .u64 x1,.int .u64 x2,.string xs]):=by rw[<-v];exact Bk.new wr _ _
       have o:Hid (Below wo.heap.size wo W3):=c.o.trans (b.mono zr);have fm:=ah (HO.o.below b);have H:=ah (bd.o.below b (by omega));have cF:=ah (IL s.pA pn s.pc B p (x1,x2) W3 (fj.o.below o.o (by omega)) (by have:=o.o.size;omega) (by omega) ca.o.pl.asc);obtain⟨r0,r1,r2⟩:=cE.o.three;clear k0 k1 k2 k3 k4 k5 k6;obtain⟨⟨k0,k1,k2,k3⟩,k4,k5,k6⟩:=H.o.seven;rw[<-v]at r0 r1 r2 k0 k1 k2 k3 k4 k5 k6;have cz:=ah v;simp only[aB]at cF;clear b hy v;go_wp2_with fail;rw[cz.o];refine cF.o.mono ?_;rintro e w4 ⟨rfl,J⟩;have fn:wr.heap.size<W3.heap.size:=cE.o.lt;have ds:=ah (cE.o.below J fn);have dt:=ah (fm.o.below J);have Q:Hid (Below wo.heap.size wo w4):=o.o.trans (J.mono o.o.size);clear J cF r0 r1 r2 k0 k1 k2 k3 k4 k5 k6 y0 y1 y2;obtain⟨r0,r1,r2⟩:=ds.o.three;have z4:wr.heap.size<w4.heap.size:=ds.o.lt;cases hfd: (bE p (x1,x2)).isSome with
       | true =>
         have an:Hid (dC p (q.take (j+1))=dC p (q.take j)):=by show _=_;rw[cD.o,if_pos hfd]
         clear hfd;go_wp2_with fail;go_roundw
         case rel=>exact⟨j+1,m,A',c',hlt,by go_num,rfl,fk,fl,by omega,by show _=_;rw[an.o];exact E.o,by show Apd _ _ _ _ _ _ _ _;rw[an.o];exact dt.o,Q.o⟩
         case measure=>simp[intOf];omega
       | false =>
         have an:Hid (dC p (q.take (j+1))=dC p (q.take j)++ [((x1,x2),xs)]):=by show _=_;rw[cD.o,if_neg (by rw[hfd];simp)]
         have fp:Hid (Bk (w4.alloc (.cells #[.int .u64 x1,.int .u64 x2,.string xs] 118)) w4.heap.size 118 #[.int .u64 x1,.int .u64 x2,.string xs]):=Bk.new w4 _ _;clear hfd
         go_wp2_with (at_builtin;refine pW (.tmp 79) (.tmp 81) 29 rfl ?_)
         refine aF ?_;refine dB (base:=wo.heap.size) (size:=3) _ rfl (.tmp 79) (.tmp 81) 29 rfl 118 i0 _ 32 Tryz.underlying29 Hi.o ff.o fg.o fh.o rfl (by decide) A' m c' _ rfl (Apd.below dt.o ((af _ _).alloc ai _)) _ _ 1 1 (flat itC [((x1,x2),xs)]) rfl (Sl.of_bk (n:=1) (size:=3) fp.o rfl) (gZ _) (by unfold maxLen;omega) (by omega) (by rw[Z9];omega) ?_;intro A4 c4 w5 cG A fr cH _;rw[<-bu,<-an.o]at cG;have fs:=ah cG;have bf:Hid (Below wo.heap.size wo w5):=(Below.alloc Q.o (by omega) _).trans A;have ft:Hid ((dC p (q.take (j+1))).length=m+1):=by show _=_;rw[an.o,ae,E.o];rfl
         clear cG A r0 r1 r2;go_wp2_with fail;go_roundw
         case rel=>exact⟨j+1,m+1,A4,c4,hlt,by go_num,rfl,fr,cH,by omega,ft.o,fs.o,bf.o⟩
         case measure=>simp[intOf];omega
     . have aD:¬(j:Int)< (n2:Int):=by omega
       have fv:Hid (q.take j=q):=ZW (by rw[cQ.o];omega);rw[fv.o]at E HO;obtain⟨F,hF⟩:=NX9 (dC p q)
       rw[hF]at E HO z;have cI:Hid (Below w.heap.size w wr):=cC.o.trans (c.o.mono (by omega));have ao:=ah (fc.o.below c.o (by omega));have gv:w.heap.size+2<=wr.heap.size:=by omega
       clear hF;by_cases hk0:m=0/\n1=0
       . obtain⟨rfl,rfl⟩:=hk0
         have fx:Hid (pl= .keep):=by show _=_;rw[z.o,if_pos ⟨List.eq_nil_of_length_eq_zero E.o,List.eq_nil_of_length_eq_zero au.o⟩]
         obtain⟨⟨z0,Z,z2,z3⟩,z4,z5,z6⟩:=ao.o.seven;obtain⟨⟨f0,f1,f2,f3⟩,f4,f5,f6⟩:=ao.o.free7;go_wp2_with fail;refine ZY (dO Tryz.results35 rfl (ao.o.set7 _ _ _ _ _ _ _) rfl) rfl ?_;rw[fx.o];have K:=cZ cI.o (show w.heap.size<=w.heap.size+1 by omega) (.int .i64 d.sz) (.slice s.d.a1 dn s.d.c1) (.slice s.d.a2 0 s.d.c2) (.int .i64 d.lf) (.slice s.pA pn s.pc) (.slice s.rA rn s.rc) (.slice s.lA ln s.lc);exact⟨s,by simp only[rpV,rpC,cg.o,ch.o,C.o,ci.o,cj.o];rfl,(HM.o.below K hB).more (by have:=K.size;omega),K⟩
       . have fy:Hid (pl= .app (us,aU F) un rs' (lg++us)):=by
           show _=_;rw[z.o,if_neg (fun h=>hk0 ⟨by rw[<-E.o,h.1];rfl,by rw[<-au.o,h.2];rfl⟩)]
         have fz:Hid (GOk (us,aU F)):=⟨aw.o.len,aw.o.pr,cb.o,by show(aU F).length<=_;unfold aU;rw[List.length_map,E.o];omega⟩
         have bg:=ah (yg us A1 n1 c1 F A' m c' wr.heap.size wr ((H2.o.below cI.o hB).more (by omega)) HO.o.sl ai fz.o (by omega));unfold vT at bg;obtain⟨l,hl⟩:=NX9 (aM (us,aU F))
         have du:l≠ []:=by rw[<-hl];simp[aM]
         have gw:l.length<=200000:=by rw[<-hl];unfold aM aU;simp;have:=E.o;omega
         rw[hl]at bg;have fA:=ah hl;have fL:=ah du;clear hl du k0 k1 k2 k3 k4 k5 k6;have dv:rm=rs'.length:=(dp.o.len gP (by omega)).symm;have dy:lm= (lg++us).length:=(dq.o.len eD (by omega)).symm;have bt:=ah dv;have bv:=ah dy;clear dv dy;rcases (show m≠0∨ (m=0/\n1≠0) by omega) with gx | ⟨rfl,hn0⟩
         all_goals
          go_wp2_with fail;refine bg.o.mono ?_;rintro e w5 ⟨A5,m5,c5,rfl,dN,cH,gf,gg,A⟩;have gA:=A.size;have bf:Hid (Below w.heap.size w w5):=cI.o.trans (A.mono (by omega));have cJ:=ah (bd.o.below A (by omega));have dT:=ah (ao.o.below A (by omega));have ea:=ah ((dl.o.below c.o (by omega)).below A (by omega));have eb:Hid (Below wo.heap.size wo w5):=c.o.trans (A.mono (by omega));have ap:=ah (Ga d s.d B a u (recs gs) l A5 m5 c5 w5.heap.size w5 HD.o ev.o HJ.o (HM.o.d.below bf.o hB) (by omega) dN ai (by unfold maxLen;omega) fL.o);obtain⟨⟨dx,ex⟩,cL⟩:∃t,bS d a u l=t:=⟨_,rfl⟩
          rw[cL]at ap;have fN:=ah cL;unfold aW at ap;clear dN A bg cL bd ao dl cH;obtain⟨⟨k0,k1,k2,k3⟩,k4,k5,k6⟩:=cJ.o.seven;simp only[dkV,dkC,cg.o,ch.o]at ap;go_wp2_with fail;refine ap.o.mono ?_;rintro e w6 ⟨sq,rfl,ec,L⟩;have gC:=L.size;have ed:=ah ec;have ee:=ah (cJ.o.below L (by omega));have ef:=ah (dT.o.below L (by omega));have eg:=ah (ea.o.below L (by omega));have eh:Hid (Below w.heap.size w w6):=bf.o.trans (L.mono (by omega));have bw:Hid (Below wo.heap.size wo w6):=eb.o.trans (L.mono (by omega));clear ec L ap k0 k1 k2 k3 k4 k5 k6 cJ dT ea;obtain⟨xn,bh⟩:=NX9 dx.ss.length
          obtain⟨xp,bi⟩:=NX9 dx.pn.length
          have gE:=ah bh;have gO:=ah bi;simp only[bh,bi];obtain⟨W7,aq⟩:=NX9 (w6.alloc (.cells #[.int .i64 dx.sz,.slice sq.a1 xn sq.c1,.slice sq.a2 xp sq.c2,.int .i64 dx.lf] 25))
          have G:Below w6.heap.size w6 W7:=by rw[<-aq];exact(af _ w6).alloc ai _
          have cM:Hid (Bk W7 w6.heap.size 25 #[.int .i64 dx.sz,.slice sq.a1 xn sq.c1,.slice sq.a2 xp sq.c2,.int .i64 dx.lf]):=by rw[<-aq];exact Bk.new w6 _ _
          have ei:=ah (ee.o.below G (by omega));have ej:=ah (ef.o.below G (by omega));have el:=ah (eg.o.below G (by omega));have fO:Hid (Below w.heap.size w W7):=eh.o.trans (G.mono (by omega));have em:Hid (Below wo.heap.size wo W7):=bw.o.trans (G.mono (by omega));have en:Hid (DkM W7 W7.heap.size dx sq):=(ed.o.below G ai).more G.size;have gR:w6.heap.size<W7.heap.size:=cM.o.lt;have bj:=ah (yj ⟨d,p,rs,lg⟩ ⟨zDk,un,rs',lg++us⟩ s ⟨⟨none,0,none,0⟩,uA,uc,rA,rc,lA,lc⟩ dx sq ex W7);have eo:Hid (∃(i0 i3:Int)(a1 a2 a4 a5 a6:OA)(l1 l2 l4 l5 l6 b1 b2 b4 b5 b6:Nat),(if ex=0 then rpV {(⟨zDk,un,rs',lg++us⟩:Rp) with d:=dx} {(⟨⟨none,0,none,0⟩,uA,uc,rA,rc,lA,lc⟩:Rsl) with d:=sq} else if ex=20 then rpV {(⟨d,p,rs,lg⟩:Rp) with d:=dx} {s with d:=sq} else rpV zRp zRs)= .agg #[.int .i64 i0,.slice a1 l1 b1,.slice a2 l2 b2,.int .i64 i3,.slice a4 l4 b4,.slice a5 l5 b5,.slice a6 l6 b6]):=by
           show ∃_,_;split
           . exact⟨_,_,_,_,_,_,_,_,_,_,_,_,_,_,_,_,_,rfl⟩
           . split
             . exact⟨_,_,_,_,_,_,_,_,_,_,_,_,_,_,_,_,_,rfl⟩
             . exact⟨_,_,_,_,_,_,_,_,_,_,_,_,_,_,_,_,_,rfl⟩
          obtain⟨fR,i3,a1,a2,a4,a5,a6,l1,l2,l4,l5,l6,b1,b2,b4,b5,b6,cN⟩:=eo.o;rw[cN]at bj;have fS:=ah cN;simp only[rpV,rpC,dkV,dkC,zDk,List.length_nil,cg.o,ch.o,C.o,ci.o,cj.o,bh,bi,<-bt.o,<-bv.o,Int.cast_ofNat_Int]at bj;obtain⟨d0,d1,d2,d3⟩:=cM.o.dk4;obtain⟨⟨k0,k1,k2,k3⟩,k4,k5,k6⟩:=ei.o.seven;obtain⟨g0,g1,_,_⟩:=el.o.two;rw[<-aq]at d0 d1 d2 d3 k0 k1 k2 k3 k4 k5 k6 g0 g1;have fU:=ah aq;clear G aq bh bi cN ee ef eg eh bw ed;go_wp2_with fail;rw[fU.o];refine bj.o.mono ?_;rintro e w8 ⟨rfl,R⟩;have ar:=ah (ej.o.below R (by omega));have fW:Hid (Below w.heap.size w w8):=fO.o.trans (R.mono (by omega));have ep:Hid (Below wo.heap.size wo w8):=em.o.trans (R.mono (by omega));have er:=ah (en.o.below R ai);have fX:=R.size;clear R bj d0 d1 d2 d3 k0 k1 k2 k3 k4 k5 k6 g0 g1 ej ei el cM;obtain⟨⟨z0,Z,z2,z3⟩,z4,z5,z6⟩:=ar.o.seven;obtain⟨⟨f0,f1,f2,f3⟩,f4,f5,f6⟩:=ar.o.free7;go_wp2_with fail;refine ZY (dO Tryz.results35 rfl (ar.o.set7 _ _ _ _ _ _ _) rfl) rfl ?_;rw[fy.o];show dw _ _ _ _ _;rw[fA.o,fN.o];obtain⟨w9,bk⟩:=NX9 (((((((w8.setCell ⟨w.heap.size+1,0,none⟩ (.int .i64 fR)).setCell ⟨w.heap.size+1,1,none⟩ (.slice a1 l1 b1)).setCell ⟨w.heap.size+1,2,none⟩ (.slice a2 l2 b2)).setCell ⟨w.heap.size+1,3,none⟩ (.int .i64 i3)).setCell ⟨w.heap.size+1,4,none⟩ (.slice a4 l4 b4)).setCell ⟨w.heap.size+1,5,none⟩ (.slice a5 l5 b5)).setCell ⟨w.heap.size+1,6,none⟩ (.slice a6 l6 b6))
          have K:Below w.heap.size w w9:=by rw[<-bk];exact cZ fW.o (by omega) _ _ _ _ _ _ _
          have es:∀k,k≠w.heap.size+1->w9.heap[k]? =w8.heap[k]? :=fun k hk=>by rw[<-bk];exact gq _ _ _ _ _ _ _ _ _ k hk
          have z9:w9.heap.size=w8.heap.size:=by rw[<-bk];simp
          have S:Below wo.heap.size wo w8:=ep.o;have fY:RpM w9 w9.heap.size ⟨zDk,un,rs',lg++us⟩ ⟨⟨none,0,none,0⟩,uA,uc,rA,rc,lA,lc⟩:=by
           have h8:RpM w8 w8.heap.size ⟨zDk,un,rs',lg++us⟩ ⟨⟨none,0,none,0⟩,uA,uc,rA,rc,lA,lc⟩ :=
            ⟨⟨Sl.nil _ _ _ _,Sl.nil _ _ _ _⟩,(fd.o.below S ai).more S.size,by have:=(dp.o.below S ai).more S.size;rw[bt.o]at this;exact this,by have:=(dq.o.below S ai).more S.size;rw[bv.o]at this;exact this,eC,eE⟩
           exact(h8.box ar.o (by simp[bxV]) es).more (by omega)
          have ga:DkM w9 w9.heap.size dx sq:=by
           have h8:RpM w8 w8.heap.size ⟨dx,[],[],[]⟩ ⟨sq,none,0,none,0,none,0⟩:=⟨er.o.more fX,Sl.nil _ _ _ _,Sl.nil _ _ _ _,Sl.nil _ _ _ _,Nat.le_refl _,ZZ _⟩
           exact((h8.box ar.o (by simp[bxV]) es).more (by omega)).d
          have et:=yT ⟨d,p,rs,lg⟩ s (dx,ex) sq un rs' (lg++us) ⟨⟨none,0,none,0⟩,uA,uc,rA,rc,lA,lc⟩ w w9 K ((HM.o.below K hB).more (by have:=K.size;omega)) fY ga;rw[fS.o]at et;rw[bk];exact et
