/-
  Lemmas of the card.
-/
import Derived.Test.YtknefelegjlgnaaGreatDoorCCCp14
set_option maxRecDepth 100000
set_option maxHeartbeats 32000000
namespace Go.Proofs.YtknefelegjlgnaaGreatDoor
open Go.RowKit
section
open Go.Maps
def ReE(p:List Itm)(rs:List Dig)(w:UW)(e:Ending)(w':UW):Prop :=
 ∃l m A1 c1 A2 c2,e= .returned (.tuple #[.slice A1 l.length c1,.slice A2 m.length c2])/\qp p rs l m/\Sl w' w'.heap.size 2 A1 l.length (flat dgC l)/\l.length<=42000000/\ (∀d∈l,WfD d)/\U0 w w'
theorem QT:ik zD:=kG lN
theorem JX{o:Ob}(h:OkO o):o.ents.length<=200:=by
 cases h.f with
 | blob _ e _ _=>rw[e];simp
 | tree _ _ _ e=>exact e.few
 | commit _ _ e _=>rw[e];simp
theorem xh{w w':UW}{B size n:Nat}{A:OA}{xs:List UY}{row:Option Nat}(h:Sl w B size A n xs)(hg:w.grownBy w' row)(hB:B<=w.heap.size)(hd:0<n->∀g,bkO A=some g->row≠some g):Sl w' B size A n xs:=by
 refine⟨h.1,fun h0=>?_⟩;obtain⟨b',off,rfl,hb',hc⟩:=h.2 h0;exact⟨b',off,rfl,hb',fun j u hu=>(World.cell?_of_block (hg.block b' (by omega) (fun e=>hd h0 b' rfl e.symm))).trans (hc j u hu)⟩
theorem yV{w:UW}{base n c mb N:Nat}{A:OA}{xs:List UY}{met:Dig->Bool}(h:w.ownsRow base 50 2 (.slice A n c) n xs)(hs:Sd w mb N met):∀g,bkO A=some g->g≠mb:=by
 intro g hg e;subst e;rcases h.2 with ⟨hv,_⟩ | ⟨g',cap,cur,hv,_,h2,_⟩
 . simp at hv;rw[hv.1]at hg;cases hg
 . simp at hv
   rw[hv.1]at hg;have:g'=g:=Option.some.inj hg;subst this;obtain⟨D,⟨es,clock,h3,_⟩,_⟩:=hs;rw[h3]at h2;cases h2
theorem OZ{p:List Itm}{rs:List Dig}(hp:PlOk p)(hn:p.length<=200000)(hr:rs.length<=1000): (reU p rs).length<=42000000:=by
 unfold reU;rw[af];have h:=BN (n:=209) (l:=p) (f:=fun i=>bW (qF i.2)) fun i hi=>by
  obtain⟨o,ho,e⟩:=hp.1 i hi;rw[e,rY ho];exact Dc ho
 have:=Nat.mul_le_mul_right 209 hn;omega
theorem vM(p:List Itm)(pA:OA)(pn pc:Nat)(rs:List Dig)(hA:OA)(hn hc:Nat)(B:Nat)(w:UW)
  (h0:Sl w B 3 pA pn (flat itC p)) (h1:Sl w B 2 hA hn (flat dgC rs)) (hB:B<=w.heap.size) (hpo:PlOk p) (hpn:pn<=200000) (hh:∀d∈rs,WfD d) (hhn:hn<=1000) :
  Calls Tryz.prog 18 #[.slice pA pn pc,.slice hA hn hc] w (ReE p rs w):=by
 have C:=ai hpo;have HH:=ai hh;have HP:=ai h0;have HR:=ai h1;have UM:=ai (h0.len di (by omega));have zf:=ai (h1.len ig (by omega));have kU:Hid ((reU p rs).length<=42000000):=OZ hpo (by rw[UM.o];omega) (by rw[zf.o];omega);obtain⟨i0,hi,hz0,hz1,hz2⟩:=info_parts lM;have Hi:=ai hi;have lg:=ai hz0;have lq:=ai hz1;have nz:=ai hz2;have hmm:=@run_makeMap Tryz.prog;obtain⟨W1,hput,hS1,hg1⟩:=(Sd.made w).put lT Tryz.underlying105 (by unfold maxLen;omega) QT (.bool true);have nO: (Instr.mapUpdate 105 (.map (some w.heap.size)) (.agg #[.int .u64 0,.int .u64 0]) (.bool true)).run Tryz.prog (w.alloc (.map #[] 0))= .ok () W1:=hput;have nU:Hid (Sd W1 w.heap.size 1 (setB (fun _=>false) zD)):=by
  show Gm _ _ _ _ _ _ _ (sv _);rw[<-Hw];exact hS1
 have HB1:U6 w W1:=((ah w.heap.size w).alloc aj _).grown hg1 (by simp) (fun g e=>by cases e;exact Nat.le_refl _);have HC:=ai (Lj hA hn hc W1.heap.size rs W1 ((h1.below HB1.o hB).more (by have:=HB1.o.size;omega)) aj (by omega));unfold IY at HC;clear hpo hh h0 h1 hi hz0 hz1 hz2 hput hS1 hg1
 go_enter Tryz.func18,Tryz.ntmps18
 go_wp2_with fail;refine HC.o.mono ?_;rintro e w2 ⟨A3,c3,rfl,ho3,hb2⟩;have zk:=ai (kW ho3 HB1.o.size);have HS2:=ai (nU.o.below hb2 nU.o.lt);have HB2:U6 w w2:=HB1.o.trans (hb2.mono HB1.o.size);have z2:w.heap.size<w2.heap.size:=HS2.o.lt;clear ho3 hb2 HC hmm nO nU HB1;go_wp2_with fail
 go_loopg [6,7,9] 200000000000 (fun gk v6 v7 v9 wr=>∃(met:Dig->Bool)(N n1 n2 n3:Nat)(rl rm op:List Dig)(A1 A2 A3:OA)(c1 c2 c3:Nat),v6= .slice A1 n1 c1/\v7= .slice A2 n2 c2/\v9= .slice A3 n3 c3/\Hid (ReI p rs met rl rm op)/\Hid (Sd wr w.heap.size N met)/\Hid (Rw3 wr w.heap.size 50 A1 n1 c1 A2 n2 c2 A3 n3 c3 rl rm op)/\U6 w wr/\Hid (rl.length=n1/\rm.length=n2/\op.length=n3)/\Hid (qy (reU p rs) met*1000+n3<=gk)/\gk<=200000000000/\N+gk<=400000000000)
 case atStart =>
  exact⟨_,1,0,0,hn,[],[],rs,none,none,A3,0,0,c3,rfl,rfl,rfl,ReI.start p rs,HS2.o,⟨⟨rfl,.inl ⟨rfl,rfl⟩⟩,⟨rfl,.inl ⟨rfl,rfl⟩⟩,zk.o,(fun g h=>by cases h),(fun g h=>by cases h),(fun g _ h=>by cases h)⟩,HB2.o,⟨rfl,rfl,zf.o⟩,by have:=PZ (reU p rs) (setB (fun _=>false) zD);have:=kU.o;show _<=_;omega,Nat.le_refl _,by omega⟩
 case round =>
  obtain⟨met,N,n1,n2,n3,rl,rm,op,A1,A2,A3,c1,c2,c3,rfl,rfl,rfl,hI,hS,O,hBw,Q,hU,hgk,Vm⟩:=hrel;have HI:=ai hI.o;have HS:=ai hS.o;have z:=ai O.o;have oO:=ai hBw.o;have f:=ai Q.o;have HU:=ai hU.o;have hl1:n1<=42000000:=by
   rw[<-f.o.1];exact ZY (rX HI.o.nl fun x hx=>yF C.o (HI.o.l x hx).2.1) kU.o
  have hl2:n2<=42000000:=by
   rw[<-f.o.2.1];exact ZY (rX HI.o.nm fun x hx=>yF C.o (HI.o.m x hx).2.1) kU.o
  have hl3:n3<=200000000000:=by have:=HU.o;omega
  have zr:w.heap.size<=wr.heap.size:=oO.o.size;have hms:w.heap.size<wr.heap.size:=HS.o.lt;clear hI hS O hBw Q hU HS2 HB2 zk;by_cases h30:n3=0
  . subst h30
    have hop:op= []:=List.eq_nil_of_length_eq_zero f.o.2.2;subst hop;obtain⟨wo,hwo⟩:∃wo,wo=wr:=⟨_,rfl⟩
    subst hwo;have zo:=ai (Be w.heap.size n1 c1 A1 rl wo z.o.a (by omega));go_wp2_with fail;refine zo.o.mono ?_;rintro e w4 ⟨rfl,us,hpe,_,hou,hgu⟩;rw[jd]at hgu;have zt:Hid (w4.ownsRow w.heap.size 50 2 (.slice A2 n2 c2) n2 (flat dgC rm)):=oL z.o.b hgu fun g h2 e=>z.o.ab g e h2;have UN:=ai hou;have bn:=ai hpe;have HB4:U6 w w4:=oO.o.grown hgu zr (fun g e=>(z.o.a.lt g (by rw[jd];exact e)).1);have zx:=ai (Be w.heap.size n2 c2 A2 rm w4 zt.o (by omega));clear hpe hou hgu zo;go_wp2_with fail;refine zx.o.mono ?_;rintro e w5 ⟨rfl,zT,fA,_,zW,hgu2⟩;rw[jd]at hgu2;have zX:Hid (w5.ownsRow w.heap.size 50 2 (.slice A1 n1 c1) n1 (flat dgC us)):=oL UN.o hgu2 fun g h2 e=>z.o.ab g h2 e;have UO:U6 w w5:=HB4.o.grown hgu2 HB4.o.size (fun g e=>(zt.o.lt g (by rw[jd];exact e)).1);have fO:=ai fA;clear fA zW hgu2 zx;go_wp2_with fail;go_ret2
    have e1:us.length=n1:=by rw[bn.o.length_eq];exact f.o.1
    have e2:zT.length=n2:=by rw[fO.o.length_eq];exact f.o.2.1
    refine⟨us,zT,A1,c1,A2,c2,by rw[e1,e2];rfl,HI.o.end_ C.o (fun d=>bn.o.mem_iff) (fun d=>fO.o.mem_iff) (bn.o.nodup_iff.2 HI.o.nl),by rw[e1];exact Sl.of_own zX.o,by rw[e1];exact hl1,fun d hd=>yA C.o HH.o (HI.o.l d (bn.o.mem_iff.1 hd)).2.1,UO.o⟩
  . obtain⟨m,rfl⟩:∃m,n3=m+1:=⟨n3 - 1,by omega⟩
    have hne:op≠ []:=by intro e;have:=f.o.2.2;rw[e]at this;simp at this
    obtain⟨l,d,hld⟩:∃l d,op=l++ [d]:=⟨_,_,(List.dropLast_concat_getLast hne).symm⟩
    subst hld;have hlm:l.length=m:=by have:=f.o.2.2;simpa using this
    obtain⟨bb,off,x,rfl,hbB,hx,y0,y1⟩:=(Sl.of_own z.o.c).dg (k:=m) (by omega);have hxd:x=d:=by rw[<-hlm,List.getElem?_append_right aj]at hx;simpa using hx.symm
    subst hxd;have Aj:x∈reU p rs:=yF C.o (HI.o.o x (List.mem_append_right _ (List.mem_singleton.2 rfl)));have UQ:=ai Aj;have Ak:Hid (WfD x):=yA C.o HH.o (HI.o.o x (List.mem_append_right _ (List.mem_singleton.2 rfl)));have hmc:=(Que.of_own z.o.c).le;have Aq:=ai (z.o.rot.rot.pop);have oU:=ai hlm;obtain⟨d1,d2⟩:=x;simp only at y0 y1;obtain⟨W,hW⟩:=NX9 (wr.alloc (.cells #[.int .u64 d1,.int .u64 d2] 50))
    have hbW:U0 wr W:=by rw[<-hW];exact(ah _ wr).alloc aj _
    have R:Hid (Bk W wr.heap.size 50 #[.int .u64 d1,.int .u64 d2]):=by rw[<-hW];exact Bk.new wr _ _
    have v:=ai (HS.o.below hbW hms);have HRW:=ai (Aq.o.upon hbW);have E:U6 w W:=oO.o.trans (hbW.mono zr);have hlk:=Sd.look (d:=(d1,d2)) v.o Tryz.underlying105 (kG Ak.o);have tk:=qU (P:=Tryz.prog) 47 i0 Tryz.underlying47 Hi.o (some ⟨bb,off,none⟩) (m+1) c3 m (by omega);have hw1:IntKind.i64.wrap (((m+1:Nat):Int) - 1)= (m:Int):=by rw[yf (by omega) (by omega)];omega
    have hj0: (0:Int)< ((m+1:Nat):Int):=by omega
    have hj1:¬(m:Int)<0:=by omega
    have hj2: (m:Int)< ((m+1:Nat):Int):=by omega
    obtain⟨r0,r1,_,_⟩:=R.o.two;rw[<-hW]at r0 r1 hlk;have t:=ai hW;simp only at hlk;clear hx hne hlm Aj hW hbW z h30 Aq;cases hmd:met (d1,d2) with
    | true =>
      rw[hmd]at hlk;have S:=ai (HI.o.skip hmd);clear hmd;go_wp2_with fail;rw[t.o]
      go_roundg (gk - 1)
      case rel=>exact⟨met,N,n1,n2,m,rl,rm,l,A1,A2,_,c1,c2,c3,rfl,rfl,rfl,S.o,v.o,HRW.o.rot,E.o,⟨f.o.1,f.o.2.1,oU.o⟩,by have:=HU.o;show _<=_;omega,by omega,by omega⟩
      case measure=>have:=HU.o;omega
    | false =>
      rw[hmd]at hlk;have Au:=ai hmd;have AP:=ai (Le (U:=reU p rs) (met:=met) UQ.o hmd);clear hmd
      go_wp2_with (at_mapUpdate;refine aN ?_)
      rw[t.o]
      go_wp2_with (at_mapUpdate;refine aN ?_)
      refine aH ?_;refine Am rfl _ _ _ 105 rfl Tryz.underlying105 w.heap.size N met rfl v.o (by unfold maxLen;omega) (d1,d2) (kG Ak.o) rfl rfl ?_;intro w3 hS3 hg3;have qc:=ai hS3;have HR3:=ai (HRW.o.grown hg3 fun cs e=>by obtain⟨D,⟨es,clock,h3,_⟩,_⟩:=v.o;rw[h3]at e;cases e);have HB3:U6 w w3:=E.o.grown hg3 E.o.size (fun g e=>by cases e;exact Nat.le_refl _);have BB:wr.heap.size≠w.heap.size:=by omega
      have bz:=ai (R.o.grown hg3 (fun e=>BB (Option.some.inj e)));have hs3:wr.heap.size<w3.heap.size:=bz.o.lt;clear hS3 hg3 r0 r1 hlk tk hw1 t v HRW E R hj0 hj1 hj2 y0 y1;have HG:=ai (mG pA pn pc B p (d1,d2) w3 (HP.o.below HB3.o hB) (by omega) (by omega) C.o);unfold GeE at HG;simp only[aA]at HG;obtain⟨r0,r1,_,_⟩:=bz.o.two;go_wp2_with fail;refine HG.o.mono ?_;rintro e w4 ⟨hq,hb4⟩;have T:=ai (qc.o.below hb4 qc.o.lt);have HR4:=ai (HR3.o.upon hb4);have HB4:U6 w w4:=HB3.o.trans (hb4.mono HB3.o.size);have cu:=ai (bz.o.below hb4 hs3);have z34:w3.heap.size<=w4.heap.size:=hb4.size;have UR:Hid (∀g,bkO A1=some g->g<w3.heap.size):=fun g h=>(HR3.o.b.lt g (by rw[jd];exact h)).2;clear hb4 HG r0 r1 qc HR3 HB3 bz;have hk4:wr.heap.size<w4.heap.size:=cu.o.lt;rcases hq with ⟨o,s,hg,hok,rfl,cO,hno,HY⟩ | ⟨hg,rfl⟩
      case inr =>
       have S:=ai (HI.o.miss Au.o hg);clear hg;simp only[obV,obC,zOb,zOs,zD];obtain⟨W5,r⟩:=NX9 (w4.alloc (.cells #[.int .i64 0,.string ⟨#[]⟩,.slice none 0 0,.int .u64 0,.int .u64 0,.slice none 0 0,.string ⟨#[]⟩,.int .i64 0,.string ⟨#[]⟩] 109))
       have hb5:U0 w4 W5:=by rw[<-r];exact(ah _ w4).alloc aj _
       have e5:W5.heap.size=w4.heap.size+1:=by rw[<-r];simp
       have dn:=ai (cu.o.below hb5 hk4);have G:Hid (Bk (W5.alloc (.cells #[.int .u64 d1,.int .u64 d2] 50)) (w4.heap.size+1) 50 #[.int .u64 d1,.int .u64 d2]):=by
        have e:=Bk.new W5 50 #[.int .u64 d1,.int .u64 d2]
        rwa[e5]at e
       have hb6:U0 w4 (W5.alloc (.cells #[.int .u64 d1,.int .u64 d2] 50)):=hb5.alloc (by omega) _;have y:=ai (HR4.o.upon hb6);have L:=ai (T.o.below hb6 T.o.lt);have F:Hid (U0 w (W5.alloc (.cells #[.int .u64 d1,.int .u64 d2] 50))):=HB4.o.trans (hb6.mono HB4.o.size);obtain⟨r0,r1,_,_⟩:=dn.o.two;rw[<-r]at r0 r1;have t:=ai r;clear r hb5 hb6 e5
       go_wp2_with (at_builtin;refine iL (.tmp 47) (.tmp 49) 47 rfl ?_)
       rw[t.o];refine aH ?_;refine uN (base:=w.heap.size) (size:=2) rfl (.tmp 47) (.tmp 49) 47 rfl 50 i0 _ 16 Tryz.underlying47 Hi.o lg.o lq.o nz.o rfl (by decide) A2 n2 c2 (flat dgC rm) rfl y.o.rot.rot.a _ _ 1 1 (flat dgC [(d1,d2)]) rfl (Sl.of_bk (n:=1) (size:=2) G.o rfl) (kH _) (by omega) (by unfold maxLen;omega) (by omega) F.o.size ?_;intro A6 c6 w6 H q _ _ hd6;rw[<-bI]at H;have V:=ai (y.o.rot.rot.app H q hd6);have X:=ai (L.o.kept q fun e=>yV y.o.rot.rot.a L.o _ e.symm rfl);have Y:U6 w w6:=F.o.grown q F.o.size (fun g e=>(y.o.rot.rot.a.lt g (by rw[jd];exact e)).1);clear H q hd6 r0 r1;go_wp2_with fail
       go_roundg (gk - 1)
       case rel=>exact⟨_,N+1,n1,n2+1,m,rl,rm++ [(d1,d2)],l,A1,A6,_,c1,c6,c3,rfl,rfl,rfl,S.o,X.o,V.o.rot.rot,Y.o,⟨f.o.1,by rw[af,f.o.2.1];rfl,oU.o⟩,by have:=HU.o;have:=AP.o;show _<=_;omega,by omega,by have:=HU.o;omega⟩
       case measure=>have:=HU.o;omega
      case inl =>
       have UT:Hid (Rchd p rs (d1,d2)):=HI.o.o _ (List.mem_append_right _ (List.mem_singleton.2 rfl));have KF:=ai (HI.o.got Au.o hg);have KR:=ai hg;have Nc:=ai hok;obtain⟨W5,r⟩:=NX9 (w4.alloc (.cells (obC o s) 109))
       have hb5:U0 w4 W5:=by rw[<-r];exact(ah _ w4).alloc aj _
       have e5:W5.heap.size=w4.heap.size+1:=by rw[<-r];simp
       have I:Hid (Bk W5 w4.heap.size 109 (obC o s)):=by rw[<-r];exact Bk.new w4 _ _
       have dn:=ai (cu.o.below hb5 hk4);obtain⟨W6,dN⟩:=NX9 (W5.alloc (.cells #[.int .u64 d1,.int .u64 d2] 50))
       have Z:U0 W5 W6:=by rw[<-dN];exact(ah _ W5).alloc aj _
       have G:Hid (Bk W6 (w4.heap.size+1) 50 #[.int .u64 d1,.int .u64 d2]):=by
        have e:=Bk.new W5 50 #[.int .u64 d1,.int .u64 d2];rw[e5,dN]at e;exact e
       have hb6:U0 w4 W6:=hb5.trans (Z.mono hb5.size);have y:=ai (HR4.o.upon hb6);have L:=ai (T.o.below hb6 T.o.lt);have F:U6 w W6:=HB4.o.trans (hb6.mono HB4.o.size);have ag:=ai (I.o.below Z I.o.lt);have u:=ai (cO.below hb6 aj);have z46:w4.heap.size+1<W6.heap.size:=G.o.lt;have hrow:∀g,bkO A1=some g->g<w3.heap.size:=UR.o;have J:Hid (∀g,bkO A1=some g-> (0<s.en->∀g',bkO s.eA=some g'->some g≠some g')/\ (0<s.pn->∀g',bkO s.pA=some g'->some g≠some g')/\g≠w4.heap.size):=fun g hgb=>by
        have h3:=hrow g hgb;refine⟨fun h0 g' hg' e=>?_,fun h0 g' hg' e=>?_,by omega⟩
        . cases e
          cases hA:s.eA with
          | none=>rw[hA]at hg';cases hg'
          | some a=>rw[hA]at hg';have:=(hno a h0 hA).1;have e2:a.block=g:=Option.some.inj hg';omega
        . cases e
          cases hA:s.pA with
          | none=>rw[hA]at hg';cases hg'
          | some a=>rw[hA]at hg';have:=(HY a h0 hA).1;have e2:a.block=g:=Option.some.inj hg';omega
       obtain⟨r0,r1,_,_⟩:=dn.o.two;rw[<-r]at r0 r1;have t:=ai r;have UU:=ai dN;have fU:Hid (s.en<=200/\s.pn<=8):=⟨by rw[<-cO.elen];exact JX hok,by rw[<-cO.plen];exact(DU hok).1⟩
       clear r dN hb5 hb6 Z e5 hrow hno HY cO hg hok;unfold obV;unfold obC at t I ag r0 r1 ⊢
       go_wp2_with (at_builtin;refine iL (.tmp 51) (.tmp 53) 47 rfl ?_)
       rw[t.o,UU.o];refine aH ?_;refine uN (base:=w.heap.size) (size:=2) rfl (.tmp 51) (.tmp 53) 47 rfl 50 i0 _ 16 Tryz.underlying47 Hi.o lg.o lq.o nz.o rfl (by decide) A1 n1 c1 (flat dgC rl) rfl y.o.rot.a _ _ 1 1 (flat dgC [(d1,d2)]) rfl (Sl.of_bk (n:=1) (size:=2) G.o rfl) (kH _) (by omega) (by unfold maxLen;omega) (by omega) F.o.size ?_;intro A6 c6 w7 H q _ _ hd6;rw[<-bI]at H;have V:=ai (y.o.rot.app H q hd6);have X:=ai (L.o.kept q fun e=>yV y.o.rot.a L.o _ e.symm rfl);have Y:U6 w w7:=F.o.grown q F.o.size (fun g e=>(y.o.rot.a.lt g (by rw[jd];exact e)).1);have z7:W6.heap.size<=w7.heap.size:=q.size;have gu:Hid (Bk w7 w4.heap.size 109 #[.int .i64 o.kind,.string o.data,.slice s.eA s.en s.ec,.int .u64 o.tree.1,.int .u64 o.tree.2,.slice s.pA s.pn s.pc,.string o.auth,.int .i64 o.time,.string o.msg]):=ag.o.grown q (fun e=>(J.o _ e.symm).2.2 rfl);have iU:Hid (ObM w7 w4.heap.size o s):=⟨xh u.o.e q (by omega) (fun h0 g hgb e=>(J.o g e).1 h0 g hgb rfl),xh u.o.p q (by omega) (fun h0 g hgb e=>(J.o g e).2.1 h0 g hgb rfl),u.o.ele,u.o.emx,u.o.ple,u.o.pmx⟩
       clear H q hd6 r0 r1 G y L F ag u dn J;have qx:=ai (Ox o s w4.heap.size w7 iU.o (by omega) Nc.o (by have:=fU.o.1;omega) (by have:=fU.o.2;omega));unfold obV obC LkE at qx;obtain⟨q0,q1,q2,q3,q4,q5,q6,q7,q8⟩:=gu.o.nine;go_wp2_with fail;refine qx.o.mono ?_;rintro e w8 ⟨A9,n9,c9,qA,rfl,rf,hb8⟩;have uw:=ai (V.o.upon hb8);have PR:=ai (X.o.below hb8 X.o.lt);have UB:U6 w w8:=Y.o.trans (hb8.mono Y.o.size);have ed:=ai rf.sl;have au:Hid (0<n9->∀g,bkO A9=some g->bkO (some (⟨bb,off,none⟩:Addr))≠some g):=fun h0 g hgb e=>by
        have h3:=(V.o.c.lt g (by rw[jd];exact e)).2;rcases rf with h4 | ⟨h4,_⟩
        . have:=(h4.lt g (by rw[jd];exact hgb)).1;omega
        . omega
       have Va:=ai qA;have Vl:n9<=209:=by rw[qA];exact Dc Nc.o
       have Vo:m<=200000000000:=by omega
       obtain⟨wo,hwo⟩:∃wo,wo=wr:=⟨_,rfl⟩
       subst hwo;clear qA rf hb8 qx q0 q1 q2 q3 q4 q5 q6 q7 q8 gu iU V X Y HR4 T HB4 cu I;obtain⟨Vp,hA3⟩:=NX9 ((some ⟨bb,off,none⟩:OA))
       rw[hA3]at uw au;rw[hA3];clear hA3;go_wp2_with fail
       go_loopw[9,58] (fun v9 i wi=>∃(j n c:Nat)(A:OA)(op':List Dig),v9= .slice A n c/\i= .int .i64 j/\j<=n9/\n<=m+j/\Hid (op'.length=n)/\Hid (ReJ p rs (setB met (d1,d2)) (rl++ [(d1,d2)]) rm op' (d1,d2) ((bW o).take j))/\Hid (Sd wi w.heap.size (N+1) (setB met (d1,d2)))/\Hid (Rw3 wi w.heap.size 50 A6 (n1+1) c6 A2 n2 c2 A n c (rl++ [(d1,d2)]) rm op')/\U6 w wi/\Hid (Sl wi w8.heap.size 2 A9 n9 (flat dgC (bW o)))/\Hid (0<n9->∀g,bkO A9=some g->bkO A≠some g)/\w8.heap.size<=wi.heap.size) (fun _ i _=>n9 - (intOf i).toNat)
       case atStart=>exact⟨0,m,c3,_,l,rfl,rfl,ZX _,Nat.le_refl _,oU.o,KF.o,PR.o,uw.o,UB.o,ed.o,au.o,Nat.le_refl _⟩
       case round =>
        obtain⟨j,n,c,A,op',rfl,rfl,hj,Vq,hol,hJ,hS,O,hBw,hSl,UE,Vb⟩:=hrel;have uA:=ai hol.o;have HJ:=ai hJ.o;have uD:=ai hS.o;have UF:=ai O.o;have UG:=ai hBw.o;have UH:=ai hSl.o;have wz:=ai UE.o;clear hol hJ hS O hBw hSl UE PR uw UB ed au KF;have Ve:w.heap.size<wr.heap.size:=uD.o.lt;by_cases hlt:j<n9
        . obtain⟨b9,o9,x,rfl,Vr,hx,y0,y1⟩:=UH.o.dg hlt
          have hlz: (j:Int)< (n9:Int):=by omega
          have UI:=ai (bJ hx);have UJ:Hid (Rchd p rs x):= .link UT.o KR.o (Z7 hx);have Vf:Hid (WfD x):=yA C.o HH.o UJ.o;obtain⟨x1,x2⟩:=x;simp only at y0 y1;obtain⟨W,hW⟩:=NX9 (wr.alloc (.cells #[.int .u64 x1,.int .u64 x2] 50))
          have hbW:U0 wr W:=by rw[<-hW];exact(ah _ wr).alloc aj _
          have eW:W.heap.size=wr.heap.size+1:=by rw[<-hW];simp
          have R:Hid (Bk W wr.heap.size 50 #[.int .u64 x1,.int .u64 x2]):=by rw[<-hW];exact Bk.new wr _ _
          have v:=ai (uD.o.below hbW Ve);have HRW:=ai (UF.o.upon hbW);have E:U6 w W:=UG.o.trans (hbW.mono (by omega));have UK:=ai (UH.o.below hbW Vb);have hlk:=Sd.look (d:=(x1,x2)) v.o Tryz.underlying105 (kG Vf.o);obtain⟨r0,r1,_,_⟩:=R.o.two;rw[<-hW]at r0 r1 hlk;simp only at hlk;have xe:w8.heap.size<=W.heap.size:=by omega
          have t:=ai hW;cases hsm:setB met (d1,d2) (x1,x2) with
          | true =>
            rw[hsm]at hlk;have bf:=ai (HJ.o.pass hsm);rw[<-UI.o]at bf;clear hW hbW eW hx hsm;go_wp2_with fail;rw[t.o];go_roundw
            case rel=>exact⟨j+1,n,c,A,op',rfl,by go_num,hlt,by omega,uA.o,bf.o,v.o,HRW.o,E.o,UK.o,wz.o,xe⟩
            case measure=>simp[intOf];omega
          | false =>
            rw[hsm]at hlk;have bf:=ai (HJ.o.push UJ.o);rw[<-UI.o]at bf;have G:Hid (Bk (W.alloc (.cells #[.int .u64 x1,.int .u64 x2] 50)) (wr.heap.size+1) 50 #[.int .u64 x1,.int .u64 x2]):=by
             have e:=Bk.new W 50 #[.int .u64 x1,.int .u64 x2]
             rwa[eW]at e
            have hbx:U0 W (W.alloc (.cells #[.int .u64 x1,.int .u64 x2] 50)):=(ah _ W).alloc aj _;have K:=ai (HRW.o.upon hbx);have ku:=ai (v.o.below hbx v.o.lt);have bg:Hid (U0 w (W.alloc (.cells #[.int .u64 x1,.int .u64 x2] 50))):=E.o.trans (hbx.mono E.o.size);have UL:=ai (UK.o.below hbx xe);have hzx:w8.heap.size<= (W.alloc (.cells #[.int .u64 x1,.int .u64 x2] 50)).heap.size:=ZY xe hbx.size;have xn:=ai hzx;clear hW hbW eW hx hsm hbx hzx
            go_wp2_with (at_builtin;refine iL (.tmp 66) (.tmp 68) 47 rfl ?_)
            rw[t.o];refine aH ?_;refine uN (base:=w.heap.size) (size:=2) rfl (.tmp 66) (.tmp 68) 47 rfl 50 i0 _ 16 Tryz.underlying47 Hi.o lg.o lq.o nz.o rfl (by decide) A n c (flat dgC op') rfl K.o.rot.rot.a _ _ 1 1 (flat dgC [(x1,x2)]) rfl (Sl.of_bk (n:=1) (size:=2) G.o rfl) (kH _) (by omega) (by unfold maxLen;omega) (by omega) bg.o.size ?_;intro A7 c7 w9 xA M _ _ hd9;rw[<-bI]at xA;have Vg:=ai (K.o.rot.rot.app xA M hd9);have Vh:=ai (ku.o.kept M fun e=>yV K.o.rot.rot.a ku.o _ e.symm rfl);have Vj:U6 w w9:=bg.o.grown M bg.o.size (fun g e=>(K.o.rot.rot.a.lt g (by rw[jd];exact e)).1);have ed:Hid (Sl w9 w8.heap.size 2 (some ⟨b9,o9,none⟩) n9 (flat dgC (bW o))):=xh UL.o M xn.o (fun h0 g hgb=>wz.o h0 g hgb);have au:Hid (0<n9->∀g,bkO (some (⟨b9,o9,none⟩:Addr))=some g->bkO A7≠some g):=fun h0 g hgb e=>by
             rcases hd9 g e with h | h
             . exact wz.o h0 g hgb h
             . have e2:b9=g:=Option.some.inj hgb
               have:=xn.o;omega
            have Vk:Hid (w8.heap.size<=w9.heap.size):=ZY xn.o M.size;clear xA M hd9 r0 r1;go_wp2_with fail;go_roundw
            case rel=>exact⟨j+1,n+1,c7,A7,op'++ [(x1,x2)],rfl,by go_num,hlt,by omega,by show _=_;rw[af,uA.o];rfl,bf.o,Vh.o,Vg.o.rot,Vj.o,ed.o,au.o,Vk.o⟩
            case measure=>simp[intOf];omega
        . have hlz:¬(j:Int)< (n9:Int):=by omega
          have HT:Hid ((bW o).take j=bW o):=ZU (by rw[<-Va.o];omega);rw[HT.o]at HJ;have S:=ai (HJ.o.fin KR.o);go_wp2_with fail
          go_roundg (gk - 1)
          case rel=>exact⟨_,N+1,n1+1,n2,n,rl++ [(d1,d2)],rm,op',A6,A2,A,c6,c2,c,rfl,rfl,rfl,S.o,uD.o,UF.o,UG.o,⟨by rw[af,f.o.1];rfl,f.o.2.1,uA.o⟩,by have:=HU.o;have:=AP.o;show _<=_;omega,by omega,by have:=HU.o;omega⟩
          case measure=>have:=HU.o;omega
end
theorem CY{p:List Itm}{ds l m:List Dig}(h:qp p ds l m):m= []↔¬Miss p ds:=by
 constructor
 . rintro rfl ⟨x,h1,h2,h3⟩
   cases (h.miss x).2 ⟨h1,h2,h3⟩
 . intro hn
   cases m with
   | nil=>rfl
   | cons x m=>exact absurd ⟨x,(h.miss x).1 (by simp)⟩ hn
theorem AL(p:List Itm)(A:OA)(n c B:Nat)(d:Dig)(w:UW)(h0:Sl w B 3 A n (flat itC p))(hB:B<=w.heap.size)(hn:n<=200000)(hp:PlOk p)(hd:WfD d) :
  Calls Tryz.prog 40 #[.slice A n c,aA d] w fun e w'=>e= .returned (.int .i64 (dL p d))/\U0 w w':=by
 obtain⟨d1,d2⟩:=d;obtain⟨W,hW⟩:=NX9 (w.alloc (.cells #[.int .u64 d1,.int .u64 d2] 50))
 have HB0:U6 w W:=by rw[<-hW];exact(ah _ w).alloc aj _
 have HK:Hid (Bk W w.heap.size 50 #[.int .u64 d1,.int .u64 d2]):=by rw[<-hW];exact Bk.new w _ _
 have r:w.heap.size<W.heap.size:=HK.o.lt;have HP:Hid (Sl W B 3 A n (flat itC p)):=h0.below HB0.o hB;have HG:=ai (mG A n c B p (d1,d2) W HP.o (by omega) (by omega) hp);unfold GeE at HG;have g:=ai hp;have HD:=ai hd;have HW:=ai hW;simp only[aA]at HG ⊢;obtain⟨cv,hcv⟩:=NX9 (dL p (d1,d2))
 rw[hcv];have a:=ai hcv;clear hcv;obtain⟨k0,k1,_,_⟩:=HK.o.two;rw[<-hW]at k0 k1;clear hp hd h0 hW
 go_enter Tryz.func40,Tryz.ntmps40
 go_wp2_with fail;rw[HW.o];refine HG.o.mono ?_;rintro e w1 ⟨hq,hb1⟩;have f:=ai (HK.o.below hb1 r);have HB1:U6 w w1:=HB0.o.trans (hb1.mono HB0.o.size);have h:=ai (HP.o.below hb1 (by omega));have z1:w.heap.size<w1.heap.size:=f.o.lt;clear hb1 HG k0 k1;rcases hq with ⟨o,s,hg,hok,rfl,i,_,_⟩ | ⟨hg,rfl⟩
 case inr =>
  have HC:Hid (dL p (d1,d2)=8):=by show _=_;unfold dL;rw[hg]
  rw[a.o]at HC;clear hg;simp only[obV,obC,zOb,zOs,zD]
  go_wp2
  go_ret
  exact⟨by rw[HC.o];rfl,HB1.o.alloc HB1.o.size _⟩
 case inl =>
  have b:=ai hg;simp only[obV,obC];obtain⟨W2,hW2⟩:=NX9 (w1.alloc (.cells #[.int .i64 o.kind,.string o.data,.slice s.eA s.en s.ec,.int .u64 o.tree.1,.int .u64 o.tree.2,.slice s.pA s.pn s.pc,.string o.auth,.int .i64 o.time,.string o.msg] 109))
  have hb2:U0 w1 W2:=by rw[<-hW2];exact(ah _ w1).alloc aj _
  have j:Hid (Bk W2 w1.heap.size 109 #[.int .i64 o.kind,.string o.data,.slice s.eA s.en s.ec,.int .u64 o.tree.1,.int .u64 o.tree.2,.slice s.pA s.pn s.pc,.string o.auth,.int .i64 o.time,.string o.msg]):=by rw[<-hW2];exact Bk.new w1 _ _
  have k:=ai (f.o.below hb2 z1);have HB2:U6 w W2:=HB1.o.trans (hb2.mono HB1.o.size);have HP2:=ai (h.o.below hb2 (by omega));have z2:W2.heap.size=w1.heap.size+1:=by rw[<-hW2];simp
  obtain⟨c0,_⟩:=j.o.nine;obtain⟨k0,k1,_,_⟩:=k.o.two;rw[<-hW2]at c0 k0 k1;have HW2:=ai hW2;have hne:w.heap.size≠w1.heap.size:=by omega
  obtain⟨W3,hW3⟩:=NX9 (W2.alloc (.cells #[.int .u64 d1,.int .u64 d2] 50))
  have hb3:U0 w1 W3:=by rw[<-hW3];exact hb2.alloc (by omega) _
  have q:Hid (Bk W3 (w1.heap.size+1) 50 #[.int .u64 d1,.int .u64 d2]):=by
   have e:=Bk.new W2 50 #[.int .u64 d1,.int .u64 d2]
   rwa[z2,hW3]at e
  have HR:=ai (vM p A n c [(d1,d2)] (some ⟨w1.heap.size+1,0,none⟩) 1 1 W3.heap.size W3 ((HP2.o.below (by rw[<-hW3];exact(ah _ W2).alloc aj _) (by omega)).more (by have:=hb3.size;omega)) (Sl.of_bk (n:=1) (size:=2) q.o rfl) aj g.o hn (fun d hd=>by rw[List.mem_singleton.1 hd];exact HD.o) (by omega));unfold ReE at HR;have HB3:U6 w W3:=HB1.o.trans (hb3.mono HB1.o.size);have HW3:=ai hW3;clear hW3;clear hb2 hb3 hW2 hg hok i;by_cases h3:o.kind=3
  . have H3:=ai h3
    have h3b: (o.kind != 3)=false:=by simp[h3]
    clear h3;go_wp2_with fail;rw[HW2.o,HW3.o];refine HR.o.mono ?_;rintro e w4 ⟨l,m,A1,c1,A2,c2,rfl,hr,_,_,_,hb4⟩;have HB4:U6 w w4:=HB3.o.trans (hb4.mono HB3.o.size);have hm:=CY hr;clear hr hb4 HR;by_cases hmi:m= []
    . have hx:=hm.1 hmi
      have HC:Hid (cv=0):=by show _=_;rw[<-a.o];unfold dL;rw[b.o];simp[H3.o,hx]
      subst hmi;clear hm hx
      go_wp2
      go_ret
      exact⟨by rw[HC.o];rfl,HB4.o⟩
    . have hx:Miss p [(d1,d2)]:=Classical.byContradiction fun hx=>hmi (hm.2 hx)
      have HC:Hid (cv=8):=by show _=_;rw[<-a.o];unfold dL;rw[b.o];simp[H3.o,hx]
      have hl:0<m.length:=List.length_pos_iff.2 hmi;have t: (0:Int)< (m.length:Int):=by omega
      clear hm hx hmi hl
      go_wp2
      go_ret
      exact⟨by rw[HC.o];rfl,HB4.o⟩
  . have HC:Hid (cv=9):=by show _=_;rw[<-a.o];unfold dL;rw[b.o];simp[h3]
    have h3b: (o.kind != 3)=true:=by simp[h3]
    clear h3
    go_wp2
    rw[HW2.o];go_ret
    exact⟨by rw[HC.o];rfl,HB2.o⟩
section
open Go.RowKit Go.Shelf
attribute [local go_sem] Oper.semAt_some
theorem vU{w:UW}{a:Array UY}{r:Nat}{x:Bool}(ha:a[2]?.getD undef= .pointer (some ⟨r,0,none⟩))(h:w.heap[r]? =some (.cells #[.bool x] 4 (0,0))) :
  (results Tryz.f122 a).run Tryz.prog w= .ok (.bool x) w:=by
 have hc:=cell_of_one h;simp[results,Tryz.results122,ha,go_sem,hc]
theorem AY(s:UX)(w:UW)(hs:s.size<=maxLen) :
  Calls Tryz.prog 122 #[.string s] w fun e w'=>e= .returned (.bool (bP s))/\U0 w w':=by
 refine(callsIn_wide (n:=6)).1 ?_;unfold maxLen at hs;have HL:=ai (iZ s);have a:Fence.wide.fn 194:=trivial;have b:Fence.wide.fn 195:=trivial;refine callsIn_of_wp_marks Tryz.func122 rfl trivial ?_ rfl;simp only[Tryz.ntmps122,List.size_toArray,Z4,List.length_nil,Nat.reduceAdd,Nat.reduceSub,Array.replicate_succ,Array.replicate_zero,List.push_toArray,List.append_toArray,List.nil_append,List.cons_append];by_cases c1:100< (s.size:Int)
 . have hv:Hid (bP s=false):=by
     show _=_;have:=HL.o;unfold bP bl;rw[decide_eq_false (by omega),Bool.false_and]
   gi_wp2_with fail
   refine⟨_,vU rfl (World.alloc_heap_new w _),?_⟩;exact⟨dD hv.o.symm,(ah _ _).alloc aj _⟩
 have c1': (s.size:Int)<=100:=by omega
 have HN:Hid (bP s= (bC (bl s)).all iQ):=by
  show _=_;have:=HL.o;unfold bP;rw[decide_eq_true (by unfold bl;omega),Bool.true_and]
 gi_wp2_with (gi_at_call 194;refine(callsIn_wide.2 (AV _ _)).mono ?_;rintro e w' ⟨rfl,rfl⟩)
 obtain⟨W0,hW0⟩:=NX9 ((((w.alloc (.cells #[.bool false] 4)).alloc (.cells #[.string s] 9)).alloc (.cells #[.string ⟨#[47]⟩] 9)).alloc (.cells #[.int .i64 0] 3))
 have hz:W0.heap.size=w.heap.size+4:=by rw[<-hW0];simp
 have g0:W0.heap[w.heap.size]? =some (.cells #[.bool false] 4 (0,0)):=by
  rw[<-hW0];exact(Below.heap_alloc _ _ _ (by simp;omega)).trans ((Below.heap_alloc _ _ _ (by simp;omega)).trans ((Below.heap_alloc _ _ _ (by simp)).trans (World.alloc_heap_new w _)))
 have g1:W0.heap[w.heap.size+1]? =some (.cells #[.string s] 9 (0,0)):=by
  rw[<-hW0];refine(Below.heap_alloc _ _ _ (by simp)).trans ((Below.heap_alloc _ _ _ (by simp)).trans ?_);have:=World.alloc_heap_new (w.alloc (.cells #[.bool false] 4)) (.cells #[.string s] 9);rwa[Z9]at this
 have g2:W0.heap[w.heap.size+1+1]? =some (.cells #[.string ⟨#[47]⟩] 9 (0,0)):=by
  rw[<-hW0];refine(Below.heap_alloc _ _ _ (by simp)).trans ?_;have:=World.alloc_heap_new ((w.alloc (.cells #[.bool false] 4)).alloc (.cells #[.string s] 9)) (.cells #[.string ⟨#[47]⟩] 9);rwa[Z9,Z9]at this
 have g3:W0.heap[w.heap.size+1+2]? =some (.cells #[.int .i64 0] 3 (0,0)):=by
  rw[<-hW0];have:=World.alloc_heap_new (((w.alloc (.cells #[.bool false] 4)).alloc (.cells #[.string s] 9)).alloc (.cells #[.string ⟨#[47]⟩] 9)) (.cells #[.int .i64 0] 3);rwa[Z9,Z9,Z9]at this
 have hb0:U0 w W0:=by
  rw[<-hW0];exact((((ah _ w).alloc aj _).alloc (by simp) _).alloc (by simp;omega) _).alloc (by simp;omega) _
 rw[hW0];refine vw (F:=Fence.wide) (n:=6) rfl (by omega) (gf:=297) (lb:=#[.pointer (some ⟨w.heap.size+1+1,0,none⟩),.pointer (some ⟨w.heap.size+1,0,none⟩),.pointer (some ⟨w.heap.size+1+2,0,none⟩)]) rfl trivial (enters_of Tryz.func297 (by kernel_rfl) rfl)
  (Dq 5 (w.heap.size+1) (by omega) s W0 (by omega) (by omega) g1 g2 g3) F8 (fun W l o hl=>C9 (m:=w.heap.size+4) (by omega) W l o (by omega)) (Cj) (ah _ _) (fun _=>rfl)
  (fun pre W=>W.heap[w.heap.size]? =some (.cells #[.bool false] 4 (0,0))/\Hid (∀x∈pre,nameB x=true)/\U0 w W/\w.heap.size+4<=W.heap.size)
  (fun c pre W=>c= .ret/\W.heap[w.heap.size]? =some (.cells #[.bool false] 4 (0,0))/\Hid (∃x∈pre,nameB x=false)/\U0 w W)
  ?hI ?hIx ?hIS ⟨g0,by simp[Hid],hb0,by omega⟩ ?a1 ?assign ?body ?done ?stop
 case assign =>
  intro l x W K hK;have HKK:=ai hK;clear hK
  gi_wp2
  exact HKK.o
 case hI =>
  rintro pre A B row ⟨h1,h2,h3,h4⟩ hg hr;refine⟨rC h1 hg (fun e=>?_),h2,h3.grown hg h3.size (fun k e=>?_),ZY h4 hg.size⟩
  . have:=(hr _ e.symm).1;omega
  . have:=(hr _ e).1;omega
 case hIx =>
  rintro c pre A B row ⟨h0,h1,h2,h3⟩ hg hr;refine⟨h0,rC h1 hg (fun e=>?_),h2,h3.grown hg h3.size (fun k e=>?_)⟩
  . have:=(hr _ e.symm).1;omega
  . have:=(hr _ e).1;omega
 case hIS =>
  rintro pre A B ⟨h1,h2,h3,h4⟩ ⟨v,rfl⟩;exact⟨(Z8 _ _ _ _ (by simp)).trans h1,h2,h3.setCell (p:=⟨w.heap.size+1,0,none⟩) (by simp) _,by simpa [World.setCell] using h4⟩
 case body =>
  rintro l pre x W ⟨r,hr⟩ ⟨h1,h2,h3,h4⟩;have hxs:x.size<=maxLen:=by
   have hm:bl x∈bC (bl s):=by rw[<-hr];simp
   have h5:=oG (bl s) _ hm;have h6:=iZ x;have h7:=HL.o;unfold bl at h5;unfold maxLen;omega
  have c0:=cell_of_one h1;have f0:=free_of_one h1;have H1:=ai h1;have H3:=ai h3;clear h1 h3 g0 g1 g2 g3 hb0 hW0 hr;cases hv:nameB x with
  | true =>
    have HV:=ai hv;clear hv
    gi_wp2_with (gi_at_call 195;refine(CallsIn.inRound l (callsIn_wide.2 (jC x _ hxs))).mono ?_;rintro e w' ⟨rfl,rfl⟩;rw[HV.o])
    refine⟨⟨Nat.le_refl _,fun k o hk _=>hk⟩,fun k h5 h6=>rfl,H1.o,?_,H3.o,h4⟩;intro y hy;rcases List.mem_append.1 hy with h | h
    . exact h2.o y h
    . simp at h;subst h;exact HV.o
  | false =>
    have HV:=ai hv;clear hv
    gi_wp2_with (gi_at_call 195;refine(CallsIn.inRound l (callsIn_wide.2 (jC x _ hxs))).mono ?_;rintro e w' ⟨rfl,rfl⟩;rw[HV.o])
    exact⟨KeepsOthers.setCell _ _ _,rfl,one_setCell H1.o,⟨x,by simp,HV.o⟩,H3.o.setCell (p:=⟨w.heap.size,0,none⟩) aj _⟩
 case done =>
  rintro D xs W hD hS ⟨h1,h2,h3,h4⟩ hK;have c0:=cell_of_one h1;have f0:=free_of_one h1;have H1:=ai h1;have H3:=ai h3;have HK:=ai hK;have HS:=ai hS;clear h1 h3 hK hS
  gi_wp2
  have hK2:=(KeepsOthers.setCell W ⟨w.heap.size,0,none⟩ (.bool true)).same D _ HK.o rfl;refine⟨by simp,.inl ⟨_,_,rfl,run_takeDeferred hK2,?_⟩⟩;refine⟨_,vU rfl ((World.putObj_heap_other (by omega)).trans (one_setCell H1.o)),dD ?_,?_⟩
  . rw[HN.o]
    symm
    rw[List.all_eq_true];intro y hy;have hy':y∈xs.map bl:=by rw[HS.o];exact hy
    obtain⟨x,hx,rfl⟩:=List.mem_map.1 hy';exact h2.o x hx
  . exact(H3.o.setCell (p:=⟨w.heap.size,0,none⟩) aj _).grown (grownBy_putObj' _ _ _) ((H3.o.setCell (p:=⟨w.heap.size,0,none⟩) aj _).size) (fun k e=>by cases e;omega)
 case stop =>
  rintro D c pre W hD hS ⟨rfl,h1,h2,h3⟩ hK;have H1:=ai h1;have H3:=ai h3;have HK:=ai hK;have HS:=ai hS;clear h1 h3 hK hS
  gi_wp2
  refine⟨by simp,.inl ⟨_,_,rfl,run_takeDeferred HK.o,?_⟩⟩;refine⟨_,vU rfl ((World.putObj_heap_other (by omega)).trans H1.o),dD ?_,?_⟩
  . rw[HN.o]
    symm
    rw[List.all_eq_false];obtain⟨x,hx,hxv⟩:=h2.o;obtain⟨r,hr⟩:=HS.o;refine⟨bl x,?_,by simpa [nameB] using hxv⟩;rw[<-hr];exact List.mem_append.2 (.inl (List.mem_map.2 ⟨x,hx,rfl⟩))
  . exact H3.o.grown (grownBy_putObj' _ _ _) H3.o.size (fun k e=>by cases e;omega)
end
section
open Go.Maps
@[go_sem] theorem UJ : Tryz.prog.eqGuardType Tryz.prog.depth 50 = false := by kernel_rfl
@[go_sem] theorem UK : Tryz.prog.eqGuardType Tryz.prog.depth 85 = false := by kernel_rfl
@[go_sem] theorem UG : Tryz.prog.eqGuardType Tryz.prog.depth 52 = false := by kernel_rfl
theorem zO(dd:Nat)(a b c d:Int)(w:UW): (Op.equalIn (dd+2) 50 (.agg #[.int .u64 a,.int .u64 b]) (.agg #[.int .u64 c,.int .u64 d])).run Tryz.prog w= .ok (a == c && b == d) w:=by
 have u3:=Tryz.underlying48;have a3:=Tryz.isAgg48;have z3:=Tryz.sizeOf48;rw[Op.equalIn];simp only[Sem.run_bind,run_underlying Tryz.underlying50,Result.andThen_ok];simp only[Std.Legacy.Range.forIn_eq_forIn_range',Std.Legacy.Range.size,Nat.sub_zero,Nat.add_sub_cancel,Nat.div_one,List.range'_succ,List.range'_zero,List.forIn_cons,List.forIn_nil]
 go_simp
 by_cases h1:a=c <;> by_cases h2:b=d <;> simp[h1,h2]
@[go_sem high] theorem UM (a b c d : Int) (w : UW) : (Op.equalIn 10000 50 (.agg #[.int .u64 a, .int .u64 b]) (.agg #[.int .u64 c, .int .u64 d])).run Tryz.prog w = .ok (a == c && b == d) w := zO 9998 a b c d w
theorem Si:Tryz.prog.stoodInHeld 52=false:=by kernel_rfl
theorem Sj:Tryz.prog.stoodInHeld 85=false:=by kernel_rfl
@[go_sem high] theorem UR (s t : UX) (a b c d : Int) (w : UW) : (Op.equalIn 10000 52 (.agg #[.string s, .int .u64 a, .int .u64 b]) (.agg #[.string t, .int .u64 c, .int .u64 d])).run Tryz.prog w = .ok (s.toList == t.toList && (a == c && b == d)) w := by
 have hS:Tryz.prog.underlying 52=some (.struct (Tryz.prog.fieldsOf 52)):=by kernel_rfl
 have a28:=Tryz.isAgg50;have z28:=Tryz.sizeOf50;have a9:=Tryz.isAgg9;have u9:=Tryz.underlying9;have e28:=fun w=>zO 9997 a b c d w;rw[show(10000:Nat)=9999+1 from rfl,run_equalIn_agg w 9999 52 _ _ hS Si];simp only[Program.fieldsOf,Tryz.underlying52]
 go_simp
 by_cases h1:s.toList=t.toList <;> by_cases h2:a=c <;> by_cases h3:b=d <;> simp[h1,h2,h3]
@[go_sem high] theorem UN (s t : UX) (a b c d a' b' c' d' : Int) (w : UW) :
  (Op.equalIn 10000 85 (.agg #[.string s,.int .u64 a,.int .u64 b,.int .u64 c,.int .u64 d]) (.agg #[.string t,.int .u64 a',.int .u64 b',.int .u64 c',.int .u64 d'])).run Tryz.prog w= .ok (s.toList == t.toList && (a == a' && b == b') && (c == c' && d == d')) w:=by
 have hS:Tryz.prog.underlying 85=some (.struct (Tryz.prog.fieldsOf 85)):=by kernel_rfl
 have a28:=Tryz.isAgg50;have z28:=Tryz.sizeOf50;have a9:=Tryz.isAgg9;have u9:=Tryz.underlying9;have e28:=fun a b c d w=>zO 9997 a b c d w;rw[show(10000:Nat)=9999+1 from rfl,run_equalIn_agg w 9999 85 _ _ hS Sj];simp only[Program.fieldsOf,Tryz.underlying85]
 go_simp
 by_cases h1:s.toList=t.toList <;> by_cases h2:a=a' <;> by_cases h3:b=b' <;> by_cases h4:c=c' <;> by_cases h5:d=d' <;> simp[h1,h2,h3,h4,h5]
theorem ve{d e:Dig}(h:d=e): (d.1 == e.1 && d.2 == e.2)=true:=by simp[h]
theorem uX{d e:Dig}(h:d≠e): (d.1 == e.1 && d.2 == e.2)=false:=by
 rw[Bool.eq_false_iff];intro hh;simp at hh;exact h (Prod.ext hh.1 hh.2)
theorem Ub{W w1:UW}{B:Nat}(hb:Below B W w1):∀b o,b<B->w1.cell? ⟨b,o,none⟩=W.cell? ⟨b,o,none⟩:=fun b o h=>hb.cell (p:=⟨b,o,none⟩) h
theorem uU(u:Upd)(w:UW)(hs:u.1.size<=maxLen) :
  Calls Tryz.prog 152 #[I7 u] w fun e w'=>e= .returned (.int .i64 (dG u))/\U0 w w':=by
 obtain⟨s,⟨a,b⟩,⟨c,d⟩⟩:=u;have hP:Hid (dG (s,(a,b),(c,d))=if bP s then(if(a,b)= (c,d) then 1 else 0) else 6):=rfl;generalize dG (s,(a,b),(c,d))=pe at *;show Calls Tryz.prog 152 #[.agg #[.string s,.int .u64 a,.int .u64 b,.int .u64 c,.int .u64 d]] w _;have HS:=ai hs;clear hs
 go_enter Tryz.func152,Tryz.ntmps152
 go_wp2_with fail;refine(AY s _ HS.o).mono ?_;rintro e w1 ⟨rfl,hb⟩;have hc:=Ub hb;have H1:=hc w.heap.size 1 (by simp);have H2:=hc w.heap.size 2 (by simp);have H3:=hc w.heap.size 3 (by simp);have H4:=hc w.heap.size 4 (by simp);have HB:=ai (((ah _ _).alloc aj _).trans (hb.mono (by simp)));clear hc hb;simp at H1 H2 H3 H4;cases hn:bP s with
 | false =>
   go_wp2
   go_ret
   exact⟨sS (by rw[hP.o,hn];rfl),HB.o⟩
 | true =>
   by_cases e: (a,b)= ((c,d):Dig)
   . have t1:=ve e
     simp only at t1;have HE:=ai e;clear e
     go_wp2
     go_ret
     exact⟨sS (by rw[hP.o,hn,if_pos HE.o];rfl),HB.o⟩
   . have t1:=uX e
     simp only at t1;have HE:=ai e;clear e
     go_wp2
     go_ret
     exact⟨sS (by rw[hP.o,hn,if_neg HE.o];rfl),HB.o⟩
def qw(us:List Upd):Bool:=us.any (fun u=>decide (150<u.1.size)) || decide (12<us.length)
theorem Sl.upd{w:UW}{B n k:Nat}{A:OA}{us:List Upd}(h:Sl w B 5 A n (flat upC us))(hk:k<n) :
  ∃b off u,A=some ⟨b,off,none⟩/\b<B/\us[k]? =some u/\w.cell? ⟨b,off+k*5,none⟩=some (.string u.1)/\w.cell? ⟨b,off+k*5+1,none⟩=some (.int .u64 u.2.1.1)
   /\w.cell? ⟨b,off+k*5+2,none⟩=some (.int .u64 u.2.1.2)/\w.cell? ⟨b,off+k*5+3,none⟩=some (.int .u64 u.2.2.1)/\w.cell? ⟨b,off+k*5+4,none⟩=some (.int .u64 u.2.2.2):=by
 obtain⟨b,off,u,rfl,hb,hu,hc⟩:=h.at_ gy (by omega) hk;exact⟨b,off,u,rfl,hb,hu,hc 0 _ rfl,hc 1 _ rfl,hc 2 _ rfl,hc 3 _ rfl,hc 4 _ rfl⟩
theorem Sl.ref{w:UW}{B n k:Nat}{A:OA}{rs:List Rf}(h:Sl w B 3 A n (flat rfC rs))(hk:k<n) :
  ∃b off r,A=some ⟨b,off,none⟩/\b<B/\rs[k]? =some r/\w.cell? ⟨b,off+k*3,none⟩=some (.string r.1)/\w.cell? ⟨b,off+k*3+1,none⟩=some (.int .u64 r.2.1)
   /\w.cell? ⟨b,off+k*3+2,none⟩=some (.int .u64 r.2.2):=by
 obtain⟨b,off,u,rfl,hb,hu,hc⟩:=h.at_ jm (by omega) hk;exact⟨b,off,u,rfl,hb,hu,hc 0 _ rfl,hc 1 _ rfl,hc 2 _ rfl⟩
theorem LM(A:OA)(n c B:Nat)(us:List Upd)(w:UW)(hS:Sl w B 5 A n (flat upC us))(hm:n<=maxLen) :
  Calls Tryz.prog 121 #[.slice A n c] w fun e w'=>e= .returned (.bool (qw us))/\w=w':=by
 unfold maxLen at hm;have HL:=ai (hS.len gy (by omega));have HS:=ai hS;clear hS;have hM:Hid (qw us= (us.any (fun u=>decide (150<u.1.size)) || decide (12<us.length))):=rfl;generalize qw us=mb at *
 go_enter Tryz.func121,Tryz.ntmps121
 go_wp2
 go_loop[3] (fun i=>∃k:Nat,k<=n/\i= .int .i64 k/\Hid ((us.take k).any (fun u=>decide (150<u.1.size))=false)) (fun i=>n - (intOf i).toNat)
 case atStart=>exact⟨0,ZX _,rfl,by simp[Hid]⟩
 case round =>
  obtain⟨k,hk,rfl,hno⟩:=hrel;by_cases hlt:k<n
  . obtain⟨b,off,u,rfl,hb,hu,h0,_,_,_,_⟩:=HS.o.upd hlt
    have HU:=ai hu;clear hu;by_cases hbig:150<u.1.size
    . go_wp2
      go_ret
      refine⟨dD ?_,rfl⟩;rw[hM.o];have:us.any (fun u=>decide (150<u.1.size))=true:=List.any_eq_true.2 ⟨u,Z7 HU.o,by simpa using hbig⟩;rw[this];rfl
    . have hn:Hid ((us.take (k+1)).any (fun u=>decide (150<u.1.size))=false):=by
        show _=false;rw[bJ HU.o,List.any_append,hno.o];simpa using hbig
      go_wp2
      go_round
      case rel=>exact⟨k+1,by omega,by go_num,hn⟩
      case measure=>simp[intOf];omega
  . have hall:Hid (us.any (fun u=>decide (150<u.1.size))=false):=by
      have:=hno.o
      rwa[ZU (by rw[HL.o];omega)]at this
    have hd:decide (12<n)=decide (12< (n:Int)):=by
     rw[decide_eq_decide];omega
    have HD:=ai hd;clear hd
    go_wp2
    go_ret
    refine⟨dD ?_,rfl⟩;rw[hM.o,hall.o,HL.o,HD.o];rfl
theorem uV{B:Nat}{a w:UW}(h:Below B a w)(n:Nat):Below B a (w.drewN n):=⟨h.os,h.tape,h.output,h.size,h.block⟩
end
section
open Go.Maps
theorem Ei{w:UW}{b n:Nat}{l:List Rf}(h:Rm w Tryz.prog 9 b n (gL l)){s:UX}(hs:s.size<=maxLen): (Instr.lookup 132 (.map (some b)) (.string s) false).run Tryz.prog w= .ok (aA (dI l s)) w:=by
 rw[<-FT];exact h.look Tryz.underlying9 Tryz.underlying132 (Tryz.zeroValue50 w) hs
theorem jA{w w':UW}(h:U0 w w')(row:Option Nat):w.grownBy w' row:=⟨h.os,h.tape,h.output,h.size,fun k hk _=>h.block k hk⟩
def yX(b n:Nat)(r:List Rf×Int)(w:UW)(e:Ending)(w':UW):Prop :=
 e= .returned (.int .i64 r.2)/\Rm w' Tryz.prog 9 b n (gL r.1)/\w.grownBy w' (some b)
theorem DC(b n:Nat)(l:List Rf)(u:Upd)(w:UW)(hown:Rm w Tryz.prog 9 b n (gL l))(hl:fE l)(hn:n<maxLen)(hs:u.1.size<=maxLen) :
  Calls Tryz.prog 85 #[.map (some b),I7 u] w (yX b (n+1) (stepG l u) w):=by
 obtain⟨s,⟨o0,o1⟩,⟨q0,q1⟩⟩:=u;show Calls Tryz.prog 85 #[.map (some b),.agg #[.string s,.int .u64 o0,.int .u64 o1,.int .u64 q0,.int .u64 q1]] w _;have HS:Hid (s.size<=maxLen):=hs;clear hs;have HN:=ai hn;have HL:=ai hl;have HO:=ai hown;have hblt:=hown.lt;clear hn hl hown;have HR:Hid (∀r,stepG l (s,(o0,o1),(q0,q1))=r->∀e w',yX b (n+1) r w e w'->yX b (n+1) (stepG l (s,(o0,o1),(q0,q1))) w e w'):=fun r h e w' hh=>by rw[h];exact hh
 go_enter Tryz.func85,Tryz.ntmps85
 go_wp2_with fail;refine(uU (s,(o0,o1),(q0,q1)) _ HS.o).mono ?_;rintro e w1 ⟨rfl,hb1⟩;have k1:Bk w1 w.heap.size 85 #[.string s,.int .u64 o0,.int .u64 o1,.int .u64 q0,.int .u64 q1]:=(Bk.new w 85 _).below hb1 (by simp);have HB1:U6 w w1:=((ah _ w).alloc aj _).trans (hb1.mono (by simp));clear hb1;have c:Hid (Rm w1 Tryz.prog 9 b n (gL l)):=HO.o.kept (jA HB1.o none) (by simp);have u0:=k1.cell 0;have u1:=k1.cell 1;have u2:=k1.cell 2;have u3:=k1.cell 3;have u4:=k1.cell 4;simp at u0 u1 u2 u3 u4;clear k1;by_cases hp:dG (s,(o0,o1),(q0,q1))=0
 . have HP:=ai hp
   rw[HP.o];clear hp;have hlk:=Ei c.o HS.o;obtain⟨⟨g0,g1⟩,hg⟩:∃g:Dig,dI l s=g:=⟨_,rfl⟩
   rw[hg]at hlk;have HG:=ai hg;clear hg;simp only[aA]at hlk;by_cases heq: ((g0,g1):Dig)= (o0,o1)
   . have t1:=ve heq
     simp only at t1;have herr:Hid (bD l (s,(o0,o1),(q0,q1))=0):=by
      show _=_;unfold bD;rw[if_neg (by rw[HP.o];simp),if_neg (by rw[show dI l (s,(o0,o1),(q0,q1)).1=dI l s from rfl,HG.o,heq];simp)]
     have hst:Hid (stepG l (s,(o0,o1),(q0,q1))= (dh l s (q0,q1),0)):=by
      show _=_;unfold stepG;rw[herr.o,if_neg (by simp)]
     clear heq;by_cases hz: ((q0,q1):Dig)= (0,0)
     . have t2:=ve hz
       simp only at t2;have HZ:=ai hz;clear hz
       go_wp2_with (at_delete;refine Jw rfl _ _ 132 9 rfl 50 Tryz.underlying9 Tryz.underlying132 b n (gL l) rfl c.o s HS.o rfl ?_;intro w2 hown2 a)
       rw[TK s HL.o,<-HZ.o]at hown2;have d:=ai (hown2.more (Nat.le_succ n));have HT2:=ai a;clear hown2 a
       go_wp2
       go_ret
       exact HR.o _ hst.o _ _ ⟨rfl,d.o,(jA HB1.o (some b)).trans HT2.o⟩
     . have t2:=uX hz
       simp only at t2;have HZ:=ai hz;clear hz
       go_wp2_with (at_mapUpdate;refine nZ rfl _ _ _ 132 rfl 9 50 Tryz.underlying9 Tryz.underlying132 b n (gL l) rfl c.o HN.o s HS.o (aA (q0,q1)) rfl rfl ?_;intro w2 hown2 a)
       rw[SS s HZ.o HL.o]at hown2;have d:=ai hown2;have HT2:=ai a;clear hown2 a
       go_wp2
       go_ret
       exact HR.o _ hst.o _ _ ⟨rfl,d.o,(jA HB1.o (some b)).trans HT2.o⟩
   . have t1:=uX heq
     simp only at t1;have hst:Hid (stepG l (s,(o0,o1),(q0,q1))= (l,17)):=by
      show _=_;have e1:bD l (s,(o0,o1),(q0,q1))=17:=by
       unfold bD;rw[if_neg (by rw[HP.o];simp),if_pos (by rw[show dI l (s,(o0,o1),(q0,q1)).1=dI l s from rfl,HG.o];exact heq)]
      unfold stepG;rw[e1,if_pos (by simp)]
     clear heq
     go_wp2
     go_ret
     exact HR.o _ hst.o _ _ ⟨rfl,c.o.more (Nat.le_succ n),jA HB1.o (some b)⟩
 . have hne: (dG (s,(o0,o1),(q0,q1)) != 0)=true:=by rw[bne_iff_ne];exact hp
   have hst:Hid (stepG l (s,(o0,o1),(q0,q1))= (l,dG (s,(o0,o1),(q0,q1)))):=by
    show _=_;have e1:bD l (s,(o0,o1),(q0,q1))=dG (s,(o0,o1),(q0,q1)):=if_pos hp;unfold stepG;rw[e1,if_pos hp]
   clear hp
   go_wp2
   go_ret
   exact HR.o _ hst.o _ _ ⟨rfl,c.o.more (Nat.le_succ n),jA HB1.o (some b)⟩
def zh(n:Nat)(r:List Rf×Int)(w:UW)(e:Ending)(w':UW):Prop :=
 ∃mb:Option Nat,e= .returned (.tuple #[.map mb,.int .i64 r.2])/\U0 w w'/\ (r.2=0->∃b,mb=some b/\w.heap.size<=b/\Rm w' Tryz.prog 9 b n (gL r.1))
theorem MM(A:OA)(n c B:Nat)(us:List Upd)(w:UW)(h:Sl w B 5 A n (flat upC us))(hB:B<=w.heap.size)(hn:n<=1000)(hs:∀u∈us,u.1.size<=maxLen) :
  Calls Tryz.prog 132 #[.slice A n c] w (zh n (aO [] us) w):=by
 have HL:=ai (h.len gy (by omega));have H:=ai h;have HS:=ai hs;clear h hs;have HR:Hid (∀r,aO [] us=r->∀e w',zh n r w e w'->zh n (aO [] us) w e w'):=fun r h e w' hh=>by rw[h];exact hh
 have hmax:1000<maxLen:=by unfold maxLen;omega
 have hmm:=@run_makeMap Tryz.prog
 go_enter Tryz.func132,Tryz.ntmps132
 go_wp2
 go_loopw[11] (fun i wr=>∃(k:Nat)(l:List Rf),k<=n/\i= .int .i64 k/\Hid (Rm wr Tryz.prog 9 w.heap.size k (gL l))/\Hid (fE l)/\U6 w wr/\w.heap.size+1<=wr.heap.size/\Hid (aO [] us=aO l (us.drop k))) (fun i _=>n - (intOf i).toNat)
 case atStart=>exact⟨0,[],ZX _,rfl,Rm.made w _ _,List.Pairwise.nil,(ah _ _).alloc aj _,by simp,rfl⟩
 case round =>
  obtain⟨k,l,hk,rfl,O,SR,hBel,hwz,hrun⟩:=hrel;by_cases hlt:k<n
  . obtain⟨b,off,u,rfl,hbB,hu,y0,y1,y2,y3,y4⟩:=(H.o.below hBel.o hB).upd hlt
    have f:=ai hu;have g:=ai (HS.o u (Z7 hu));clear hu;have hst2:Hid (aO [] us=if(stepG l u).2≠0 then stepG l u else aO (stepG l u).1 (us.drop (k+1))):=by
     show _=_;have hl:=List.getElem?_eq_some_iff.1 f.o;rw[hrun.o,List.drop_eq_getElem_cons hl.1,hl.2,Oy]
    obtain⟨s,⟨o0,o1⟩,⟨q0,q1⟩⟩:=u;have hlz: (k:Int)< (n:Int):=by omega
    go_wp2_with fail;refine(DC w.heap.size k l (s,(o0,o1),(q0,q1)) _ (by first | exact O.o.alloc _ | trace_state) SR.o (by omega) g.o).mono ?_;rintro e w2 ⟨rfl,hown2,hg2⟩;have hzz:wr.heap.size<=w2.heap.size:=by have:=hg2.size;simp at this;omega
    have a:=ai hown2;have HB2:U6 w w2:=(hBel.o.alloc (by omega) _).grown hg2 (by simp;omega) (fun k e=>by cases e;exact Nat.le_refl _);have d:Hid (fE (stepG l (s,(o0,o1),(q0,q1))).1):=CQ SR.o;clear hown2 hg2 y0 y1 y2 y3 y4;generalize hgg:stepG l (s,(o0,o1),(q0,q1))=r at *;obtain⟨l2,x⟩:=r;simp only at a d hst2 ⊢;by_cases hx:x=0
    . subst hx
      have hnx:Hid (aO [] us=aO l2 (us.drop (k+1))):=by
       show _=_;rw[hst2.o,if_neg (by simp)]
      go_wp2
      go_roundw
      case rel=>exact⟨k+1,l2,by omega,by go_num,a.o,d.o,HB2.o,by omega,hnx.o⟩
      case measure=>simp[intOf];omega
    . have hne: (x != 0)=true:=by rw[bne_iff_ne];exact hx
      have hfin:Hid (aO [] us= (l2,x)):=by
       show _=_;rw[hst2.o,if_pos hx]
      have HX:=ai hx;clear hx
      go_wp2
      go_ret2
      exact HR.o _ hfin.o _ _ ⟨none,rfl,HB2.o,fun h=>absurd h HX.o⟩
  . have hfin:Hid (aO [] us= (l,0)):=by
      show _=_;rw[hrun.o,List.drop_of_length_le (by rw[HL.o];omega)];rfl
    go_wp2
    go_ret2
    exact HR.o _ hfin.o _ _ ⟨some w.heap.size,rfl,hBel.o,fun _=>⟨_,rfl,Nat.le_refl _,O.o.more hk⟩⟩
end
section
open Go.RowKit Go.Maps Go.Sort Go.Shelf
attribute [local go_sem] Oper.semAt_some
theorem Oc(gf:Nat)(lb:Array UY)(eg:∀args w,(callFunc gf args).run Tryz.prog w= .ok (.enter gf args) w)(S Sp:List (List UInt8)->Prop)(N:Nat)(w:UW)(hn:N<=1000000)(hseq:SeqStops Fence.wide 5 Tryz.prog gf lb encStr S Sp N w) :
  Calls Tryz.prog 199 #[.func (.func gf) #[] lb] w fun e w' =>
   ∃A c ss,e= .returned (.slice A ss.length c)/\S ss/\w'.ownsRow w.heap.size 9 1 (.slice A ss.length c) ss.length (strs (ss.map ub))/\U0 w w':=by
 have HA:=ai (vJ gf lb eg S Sp N none 0 0 [] w w (World.ownsRow_nil _ _ _ _) (ah _ _) (by omega) hseq);clear hseq
 go_enter Tryz.func199,Tryz.ntmps199
 go_wp2_with (go_at_call 201;refine HA.o.mono ?_;rintro e w1 ⟨A,c,ss,rfl,h⟩;rw[Nat.zero_add,List.nil_append]at h;have HH:=ai h;clear h)
 go_ret
 exact⟨A,c,ss,rfl,HH.o⟩
theorem KH(gf:Nat)(lb:Array UY)(eg:∀args w,(callFunc gf args).run Tryz.prog w= .ok (.enter gf args) w)(S Sp:List (List UInt8)->Prop)(N:Nat)(w:UW)(hn:N<=1000000)(hS:∀ss,S ss->ss.length<=N)(hseq:SeqStops Fence.wide 5 Tryz.prog gf lb encStr S Sp N w) :
  Calls Tryz.prog 153 #[.func (.func gf) #[] lb] w fun e w' =>
   ∃A c ss,e= .returned (.slice A ss.length c)/\S ss/\w'.ownsRow w.heap.size 9 1 (.slice A ss.length c) ss.length (strs (iT (ss.map ub)))/\U0 w w':=by
 have HA:=ai (Oc gf lb eg S Sp N w (by omega) hseq);clear hseq
 go_enter Tryz.func153,Tryz.ntmps153
 go_wp2_with fail;refine HA.o.mono ?_;rintro e w1 ⟨A,c,ss,rfl,hs,hrow,hb⟩;have b:=ai hs;have HB:=ai hb;have a:=ai hrow;have hl:=hS ss hs;have HS:=ai (Ee w.heap.size ss.length c A (ss.map ub) w1 hrow (by omega));clear hs hb hrow HA;go_wp2_with fail;refine HS.o.mono ?_;rintro e w2 ⟨rfl,h1,h2⟩;have HB2:U6 w w2:=HB.o.grown h2 HB.o.size (fun k hk=>jy a.o k hk);have H1:=ai h1;clear h1 h2 HS;go_wp2_with fail;go_ret
 exact⟨A,c,ss,rfl,b.o,H1.o,HB2.o⟩
def SkE(g:UX->Option UY)(N:Nat)(w:UW)(e:Ending)(w':UW):Prop :=
 ∃A c ks,e= .returned (.slice A ks.length c)/\Asc ks/\ (∀x,x∈ks↔ (g x).isSome=true)/\ks.length<=N/\w'.ownsRow w.heap.size 9 1 (.slice A ks.length c) ks.length (strs ks)/\U0 w w'
theorem LG{gf:Nat}{lb:Array UY}{g:UX->Option UY}{N:Nat}{w:UW}(eg:∀args w,(callFunc gf args).run Tryz.prog w= .ok (.enter gf args) w)(hn:N<=1000000)
  (h:∃S Sp,SeqStops Fence.wide 5 Tryz.prog gf lb encStr S Sp N w/\∀ss,S ss->jT g N (ss.map ub)):Calls Tryz.prog 153 #[.func (.func gf) #[] lb] w (SkE g N w):=by
 obtain⟨S,Sp,h1,h2⟩:=h;refine(KH gf lb eg S Sp N w hn (fun ss hs=>by have:=(h2 ss hs).few;rwa[List.length_map]at this) h1).mono ?_;rintro e w' ⟨A,c,ss,rfl,hs,hr,hb⟩;have hk:=h2 ss hs;have hl: (iT (ss.map ub)).length=ss.length:=by rw[DX,List.length_map]
 exact⟨A,c,iT (ss.map ub),by rw[hl],Eo hk.nod,fun x=>by rw[EZ];exact hk.mem x,by rw[hl];have:=hk.few;rwa[List.length_map]at this,by rw[hl];exact hr,hb⟩
end
end Go.Proofs.YtknefelegjlgnaaGreatDoor
namespace Go.Proofs
open Go.Shelf
def Tryz.keysR_ren:Go.Shelf.Ren:=⟨fun | 7=>154 | 10=>233 | n=>n,fun | 23=>132 | 26=>9 | 3=>50 | 28=>240 | 0=>0 | 27=>239 | 33=>195 | 4=>4 | n=>n,fun | n=>n⟩
theorem Tryz.keysR:Go.Proofs.SlLaysZ.n7 Tryz.prog Tryz.keysR_ren:={
 mixed:=by kernel_rfl
 f7:=⟨Tryz.f154.name,by decide,Tryz.func154.trans (congrArg some (by kernel_rfl))⟩
 f10:=⟨Tryz.f233.name,by decide,Tryz.func233.trans (congrArg some (by kernel_rfl))⟩
 t0:=Tryz.underlying0
 a0:=Tryz.isAgg0
 z0:=Tryz.sizeOf0
 v0:=Tryz.zeroValue0
 t4:=Tryz.underlying4
 a4:=Tryz.isAgg4
 z4:=Tryz.sizeOf4
 v4:=Tryz.zeroValue4
 t23:=Tryz.underlying132
 a23:=Tryz.isAgg132
 z23:=Tryz.sizeOf132
 v23:=Tryz.zeroValue132
 t26:=Tryz.underlying9
 a26:=Tryz.isAgg9
 z26:=Tryz.sizeOf9
 v26:=Tryz.zeroValue9
 t27:=Tryz.underlying239
 a27:=Tryz.isAgg239
 z27:=Tryz.sizeOf239
 v27:=Tryz.zeroValue239
 t28:=Tryz.underlying240
 a28:=Tryz.isAgg240
 z28:=Tryz.sizeOf240
 v28:=Tryz.zeroValue240
 t33:=Tryz.underlying195
 a33:=Tryz.isAgg195
 z33:=Tryz.sizeOf195
 v33:=Tryz.zeroValue195}
end Go.Proofs
