/-
  Lemmas of the card.
-/
import Derived.Test.YtknefelegjlgnaaGreatDoorACAt14
set_option maxRecDepth 100000
set_option maxHeartbeats 32000000
namespace Go.Proofs.YtknefelegjlgnaaGreatDoor
open Go.RowKit
section
open Go.Maps
def ReE(p:List Itm)(rs:List Dig)(w:MZ)(e:Ending)(w':MZ):Prop :=
 ∃l m A1 c1 A2 c2,e= .returned (.tuple #[.slice A1 l.length c1,.slice A2 m.length c2])/\qI p rs l m/\Sl w' w'.heap.size 2 A1 l.length (flat dgC l)/\l.length<=42000000/\ (∀d∈l,WfD d)/\Below w.heap.size w w'
theorem J6:fK zD:=jo jT
theorem En{o:Ob}(h:OkO o):o.ents.length<=200:=by
 cases h.f with
 | blob _ e _ _=>rw[e];simp
 | tree _ _ _ e=>exact e.few
 | commit _ _ e _=>rw[e];simp
theorem uy{w w':MZ}{B size n:Nat}{A:OA}{xs:List M4}{row:Option Nat}(h:Sl w B size A n xs)(hg:w.grownBy w' row)(hB:B<=w.heap.size)(hd:0<n->∀g,bkO A=some g->row≠some g):Sl w' B size A n xs:=by
 refine⟨h.1,fun h0=>?_⟩;obtain⟨b',a,rfl,b,hc⟩:=h.2 h0;exact⟨b',a,rfl,b,fun j u hu=>(World.cell?_of_block (hg.block b' (by omega) (fun e=>hd h0 b' rfl e.symm))).trans (hc j u hu)⟩
theorem vC{w:MZ}{base n c mb N:Nat}{A:OA}{xs:List M4}{met:Dig->Bool}(h:w.ownsRow base 50 2 (.slice A n c) n xs)(hs:Sd w mb N met):∀g,bkO A=some g->g≠mb:=by
 intro g hg e;subst e;rcases h.2 with ⟨hv,_⟩ | ⟨g',cap,cur,hv,_,h2,_⟩
 . simp at hv;rw[hv.1]at hg;cases hg
 . simp at hv
   rw[hv.1]at hg;have:g'=g:=Option.some.inj hg;subst this;obtain⟨D,⟨es,a,h3,_⟩,_⟩:=hs;rw[h3]at h2;cases h2
theorem Jo{p:List Itm}{rs:List Dig}(hp:PlOk p)(hn:p.length<=200000)(hr:rs.length<=1000): (reU p rs).length<=42000000:=by
 unfold reU;rw[ae];have h:=yo (n:=209) (l:=p) (f:=fun i=>bQ (nI i.2)) fun i hi=>by
  obtain⟨o,ho,e⟩:=hp.1 i hi;rw[e,oZ ho];exact zm ho
 have:=Nat.mul_le_mul_right 209 hn;omega
theorem xV(p:List Itm)(pA:OA)(pn pc:Nat)(rs:List Dig)(hA:OA)(hn hc:Nat)(B:Nat)(w:MZ)
  (h0:Sl w B 3 pA pn (flat itC p)) (h1:Sl w B 2 hA hn (flat dgC rs)) (hB:B<=w.heap.size) (hpo:PlOk p) (hpn:pn<=200000) (hh:∀d∈rs,WfD d) (hhn:hn<=1000) :
  Calls Tryz.prog 18 #[.slice pA pn pc,.slice hA hn hc] w (ReE p rs w):=by
 have G:=ah hpo;have HH:=ah hh;have HP:=ah h0;have HR:=ah h1;have ei:=ah (h0.len bO (by omega));have cH:=ah (h1.len fI (by omega));have cc:Hid ((reU p rs).length<=42000000):=Jo hpo (by rw[ei.o];omega) (by rw[cH.o];omega);obtain⟨i0,hi,cI,cJ,cL⟩:=info_parts jw;have Hi:=ah hi;have cd:=ah cI;have ce:=ah cJ;have cf:=ah cL;have ej:=@run_makeMap Tryz.prog;obtain⟨W1,bs,cM,cN⟩:=(Sd.made w).put jV Tryz.underlying105 (by unfold maxLen;omega) J6 (.bool true);have cg: (Instr.mapUpdate 105 (.map (some w.heap.size)) (.agg #[.int .u64 0,.int .u64 0]) (.bool true)).run Tryz.prog (w.alloc (.map #[] 0))= .ok () W1:=bs;have ch:Hid (Sd W1 w.heap.size 1 (eP (fun _=>false) zD)):=by
  show Gm _ _ _ _ _ _ _ (sv _);rw[<-CB];exact cM
 have V:Hid (Below w.heap.size w W1):=((af w.heap.size w).alloc ai _).grown cN (by simp) (fun g e=>by cases e;exact Nat.le_refl _);have HC:=ah (F3 hA hn hc W1.heap.size rs W1 ((h1.below V.o hB).more (by have:=V.o.size;omega)) ai (by omega));unfold Dc at HC;clear hpo hh h0 h1 hi cI cJ cL bs cM cN
 go_enter Tryz.func18,Tryz.ntmps18
 go_wp2_with fail;refine HC.o.mono ?_;rintro e w2 ⟨A3,c3,rfl,cO,ci⟩;have cP:=ah (jY cO V.o.size);have cj:=ah (ch.o.below ci ch.o.lt);have cQ:Hid (Below w.heap.size w w2):=V.o.trans (ci.mono V.o.size);have z2:w.heap.size<w2.heap.size:=cj.o.lt;clear cO ci HC ej cg ch V;go_wp2_with fail
 go_loopg [6,7,9] 200000000000 (fun gk v6 v7 v9 wr=>∃(met:Dig->Bool)(N n1 n2 n3:Nat)(rl rm op:List Dig)(A1 A2 A3:OA)(c1 c2 c3:Nat),v6= .slice A1 n1 c1/\v7= .slice A2 n2 c2/\v9= .slice A3 n3 c3/\Hid (ReI p rs met rl rm op)/\Hid (Sd wr w.heap.size N met)/\Hid (Rw3 wr w.heap.size 50 A1 n1 c1 A2 n2 c2 A3 n3 c3 rl rm op)/\Hid (Below w.heap.size w wr)/\Hid (rl.length=n1/\rm.length=n2/\op.length=n3)/\Hid (nE (reU p rs) met*1000+n3<=gk)/\gk<=200000000000/\N+gk<=400000000000)
 case atStart =>
  exact⟨_,1,0,0,hn,[],[],rs,none,none,A3,0,0,c3,rfl,rfl,rfl,ReI.start p rs,cj.o,⟨⟨rfl,.inl ⟨rfl,rfl⟩⟩,⟨rfl,.inl ⟨rfl,rfl⟩⟩,cP.o,(fun g h=>by cases h),(fun g h=>by cases h),(fun g _ h=>by cases h)⟩,cQ.o,⟨rfl,rfl,cH.o⟩,by have:=IM (reU p rs) (eP (fun _=>false) zD);have:=cc.o;show _<=_;omega,Nat.le_refl _,by omega⟩
 case round =>
  obtain⟨met,N,n1,n2,n3,rl,rm,op,A1,A2,A3,c1,c2,c3,rfl,rfl,rfl,hI,hS,al,am,an,hU,fg,fh⟩:=hrel;have HI:=ah hI.o;have HS:=ah hS.o;have F:=ah al.o;have ck:=ah am.o;have f:=ah an.o;have HU:=ah hU.o;have el:n1<=42000000:=by
   rw[<-f.o.1];exact Z0 (oM HI.o.nl fun x hx=>uU G.o (HI.o.l x hx).2.1) cc.o
  have fi:n2<=42000000:=by
   rw[<-f.o.2.1];exact Z0 (oM HI.o.nm fun x hx=>uU G.o (HI.o.m x hx).2.1) cc.o
  have fj:n3<=200000000000:=by have:=HU.o;omega
  have zr:w.heap.size<=wr.heap.size:=ck.o.size;have em:w.heap.size<wr.heap.size:=HS.o.lt;clear hI hS al am an hU cj cQ cP;by_cases h30:n3=0
  . subst h30
    have eo:op= []:=List.eq_nil_of_length_eq_zero f.o.2.2;subst eo;obtain⟨wo,cl⟩:∃wo,wo=wr:=⟨_,rfl⟩
    subst cl;have cR:=ah (xL w.heap.size n1 c1 A1 rl wo F.o.a (by omega));go_wp2_with fail;refine cR.o.mono ?_;rintro e w4 ⟨rfl,us,cS,_,cT,bg⟩;rw[gQ]at bg;have cU:Hid (w4.ownsRow w.heap.size 50 2 (.slice A2 n2 c2) n2 (flat dgC rm)):=mq F.o.b bg fun g h2 e=>F.o.ab g e h2;have ep:=ah cT;have cm:=ah cS;have H:Hid (Below w.heap.size w w4):=ck.o.grown bg zr (fun g e=>(F.o.a.lt g (by rw[gQ];exact e)).1);have cV:=ah (xL w.heap.size n2 c2 A2 rm w4 cU.o (by omega));clear cS cT bg cR;go_wp2_with fail;refine cV.o.mono ?_;rintro e w5 ⟨rfl,cW,bt,_,cX,Q⟩;rw[gQ]at Q;have cY:Hid (w5.ownsRow w.heap.size 50 2 (.slice A1 n1 c1) n1 (flat dgC us)):=mq ep.o Q fun g h2 e=>F.o.ab g h2 e;have er:Hid (Below w.heap.size w w5):=H.o.grown Q H.o.size (fun g e=>(cU.o.lt g (by rw[gQ];exact e)).1);have bv:=ah bt;clear bt cX Q cV;go_wp2_with fail;go_ret2
    have e1:us.length=n1:=by rw[cm.o.length_eq];exact f.o.1
    have e2:cW.length=n2:=by rw[bv.o.length_eq];exact f.o.2.1
    refine⟨us,cW,A1,c1,A2,c2,by rw[e1,e2];rfl,HI.o.end_ G.o (fun d=>cm.o.mem_iff) (fun d=>bv.o.mem_iff),by rw[e1];exact Sl.of_own cY.o,by rw[e1];exact el,fun d hd=>uY G.o HH.o (HI.o.l d (cm.o.mem_iff.1 hd)).2.1,er.o⟩
  . obtain⟨m,rfl⟩:∃m,n3=m+1:=⟨n3 - 1,by omega⟩
    have da:op≠ []:=by intro e;have:=f.o.2.2;rw[e]at this;simp at this
    obtain⟨l,d,et⟩:∃l d,op=l++ [d]:=⟨_,_,(List.dropLast_concat_getLast da).symm⟩
    subst et;have cn:l.length=m:=by have:=f.o.2.2;simpa using this
    obtain⟨bb,co,x,rfl,fk,hx,y0,y1⟩:=(Sl.of_own F.o.c).dg (k:=m) (by omega);have ev:x=d:=by rw[<-cn,List.getElem?_append_right ai]at hx;simpa using hx.symm
    subst ev;have db:x∈reU p rs:=uU G.o (HI.o.o x (List.mem_append_right _ (List.mem_singleton.2 rfl)));have ew:=ah db;have dc:Hid (WfD x):=uY G.o HH.o (HI.o.o x (List.mem_append_right _ (List.mem_singleton.2 rfl)));have fl:=(Que.of_own F.o.c).le;have dd:=ah (F.o.rot.rot.pop);have cp:=ah cn;obtain⟨d1,d2⟩:=x;simp only at y0 y1;obtain⟨W,hW⟩:=NX9 (wr.alloc (.cells #[.int .u64 d1,.int .u64 d2] 50))
    have t:Below wr.heap.size wr W:=by rw[<-hW];exact(af _ wr).alloc ai _
    have ao:Hid (Bk W wr.heap.size 50 #[.int .u64 d1,.int .u64 d2]):=by rw[<-hW];exact Bk.new wr _ _
    have y:=ah (HS.o.below t em);have X:=ah (dd.o.upon t);have I:Hid (Below w.heap.size w W):=ck.o.trans (t.mono zr);have z:=Sd.look (d:=(d1,d2)) y.o Tryz.underlying105 (jo dc.o);have tk:=nT (P:=Tryz.prog) 47 i0 Tryz.underlying47 Hi.o (some ⟨bb,co,none⟩) (m+1) c3 m (by omega);have ex:IntKind.i64.wrap (((m+1:Nat):Int) - 1)= (m:Int):=by rw[pK (by omega) (by omega)];omega
    have ey: (0:Int)< ((m+1:Nat):Int):=by omega
    have ez:¬(m:Int)<0:=by omega
    have eC: (m:Int)< ((m+1:Nat):Int):=by omega
    obtain⟨r0,r1,_,_⟩:=ao.o.two;rw[<-hW]at r0 r1 z;have u:=ah hW;simp only at z;clear hx da cn db hW t F h30 dd;cases hmd:met (d1,d2) with
    | true =>
      rw[hmd]at z;have ap:=ah (HI.o.skip hmd);clear hmd;go_wp2_with fail;rw[u.o]
      go_roundg (gk - 1)
      case rel=>exact⟨met,N,n1,n2,m,rl,rm,l,A1,A2,_,c1,c2,c3,rfl,rfl,rfl,ap.o,y.o,X.o.rot,I.o,⟨f.o.1,f.o.2.1,cp.o⟩,by have:=HU.o;show _<=_;omega,by omega,by omega⟩
      case measure=>have:=HU.o;omega
    | false =>
      rw[hmd]at z;have de:=ah hmd;have dj:=ah (F7 (U:=reU p rs) (met:=met) ew.o hmd);clear hmd
      go_wp2_with (at_mapUpdate;refine aN ?_)
      rw[u.o]
      go_wp2_with (at_mapUpdate;refine aN ?_)
      refine aF ?_;refine wW rfl _ _ _ 105 rfl Tryz.underlying105 w.heap.size N met rfl y.o (by unfold maxLen;omega) (d1,d2) (jo dc.o) rfl rfl ?_;intro w3 dk bh;have cq:=ah dk;have cr:=ah (X.o.grown bh fun cs e=>by obtain⟨D,⟨es,eE,h3,_⟩,_⟩:=y.o;rw[h3]at e;cases e);have bi:Hid (Below w.heap.size w w3):=I.o.grown bh I.o.size (fun g e=>by cases e;exact Nat.le_refl _);have dl:wr.heap.size≠w.heap.size:=by omega
      have bj:=ah (ao.o.grown bh (fun e=>dl (Option.some.inj e)));have eI:wr.heap.size<w3.heap.size:=bj.o.lt;clear dk bh r0 r1 z tk ex u y X I ao ey ez eC y0 y1;have HG:=ah (tK pA pn pc B p (d1,d2) w3 (HP.o.below bi.o hB) (by omega) (by omega) G.o);unfold GeE at HG;simp only[aB]at HG;obtain⟨r0,r1,_,_⟩:=bj.o.two;go_wp2_with fail;refine HG.o.mono ?_;rintro e w4 ⟨hq,Y⟩;have aq:=ah (cq.o.below Y cq.o.lt);have ct:=ah (cr.o.upon Y);have H:Hid (Below w.heap.size w w4):=bi.o.trans (Y.mono bi.o.size);have bk:=ah (bj.o.below Y eI);have fm:w3.heap.size<=w4.heap.size:=Y.size;have eJ:Hid (∀g,bkO A1=some g->g<w3.heap.size):=fun g h=>(cr.o.b.lt g (by rw[gQ];exact h)).2;clear Y HG r0 r1 cq cr bi bj;have dn:wr.heap.size<w4.heap.size:=bk.o.lt;rcases hq with ⟨o,s,hg,bm,rfl,bn,dp,dq⟩ | ⟨hg,rfl⟩
      case inr =>
       have ap:=ah (HI.o.miss de.o hg);clear hg;simp only[obV,obC,zOb,zOs,zD];obtain⟨W5,r⟩:=NX9 (w4.alloc (.cells #[.int .i64 0,.string ⟨#[]⟩,.slice none 0 0,.int .u64 0,.int .u64 0,.slice none 0 0,.string ⟨#[]⟩,.int .i64 0,.string ⟨#[]⟩] 109))
       have J:Below w4.heap.size w4 W5:=by rw[<-r];exact(af _ w4).alloc ai _
       have e5:W5.heap.size=w4.heap.size+1:=by rw[<-r];simp
       have bo:=ah (bk.o.below J dn);have M:Hid (Bk (W5.alloc (.cells #[.int .u64 d1,.int .u64 d2] 50)) (w4.heap.size+1) 50 #[.int .u64 d1,.int .u64 d2]):=by
        have e:=Bk.new W5 50 #[.int .u64 d1,.int .u64 d2]
        rwa[e5]at e
       have C:Below w4.heap.size w4 (W5.alloc (.cells #[.int .u64 d1,.int .u64 d2] 50)):=J.alloc (by omega) _;have E:=ah (ct.o.upon C);have Z:=ah (aq.o.below C aq.o.lt);have K:Hid (Below w.heap.size w (W5.alloc (.cells #[.int .u64 d1,.int .u64 d2] 50))):=H.o.trans (C.mono H.o.size);obtain⟨r0,r1,_,_⟩:=bo.o.two;rw[<-r]at r0 r1;have u:=ah r;clear r J C e5
       go_wp2_with (at_builtin;refine gB (.tmp 47) (.tmp 49) 47 rfl ?_)
       rw[u.o];refine aF ?_;refine qY (base:=w.heap.size) (size:=2) rfl (.tmp 47) (.tmp 49) 47 rfl 50 i0 _ 16 Tryz.underlying47 Hi.o cd.o ce.o cf.o rfl (by decide) A2 n2 c2 (flat dgC rm) rfl E.o.rot.rot.a _ _ 1 1 (flat dgC [(d1,d2)]) rfl (Sl.of_bk (n:=1) (size:=2) M.o rfl) (jl _) (by omega) (by unfold maxLen;omega) (by omega) K.o.size ?_;intro A6 c6 w6 O q _ _ ar;rw[<-bu]at O;have au:=ah (E.o.rot.rot.app O q ar);have av:=ah (Z.o.kept q fun e=>vC E.o.rot.rot.a Z.o _ e.symm rfl);have aw:Hid (Below w.heap.size w w6):=K.o.grown q K.o.size (fun g e=>(E.o.rot.rot.a.lt g (by rw[gQ];exact e)).1);clear O q ar r0 r1;go_wp2_with fail
       go_roundg (gk - 1)
       case rel=>exact⟨_,N+1,n1,n2+1,m,rl,rm++ [(d1,d2)],l,A1,A6,_,c1,c6,c3,rfl,rfl,rfl,ap.o,av.o,au.o.rot.rot,aw.o,⟨f.o.1,by rw[ae,f.o.2.1];rfl,cp.o⟩,by have:=HU.o;have:=dj.o;show _<=_;omega,by omega,by have:=HU.o;omega⟩
       case measure=>have:=HU.o;omega
      case inl =>
       have eK:Hid (Rchd p rs (d1,d2)):=HI.o.o _ (List.mem_append_right _ (List.mem_singleton.2 rfl));have dr:=ah (HI.o.got de.o hg);have ds:=ah hg;have dt:=ah bm;obtain⟨W5,r⟩:=NX9 (w4.alloc (.cells (obC o s) 109))
       have J:Below w4.heap.size w4 W5:=by rw[<-r];exact(af _ w4).alloc ai _
       have e5:W5.heap.size=w4.heap.size+1:=by rw[<-r];simp
       have R:Hid (Bk W5 w4.heap.size 109 (obC o s)):=by rw[<-r];exact Bk.new w4 _ _
       have bo:=ah (bk.o.below J dn);obtain⟨W6,bp⟩:=NX9 (W5.alloc (.cells #[.int .u64 d1,.int .u64 d2] 50))
       have aD:Below W5.heap.size W5 W6:=by rw[<-bp];exact(af _ W5).alloc ai _
       have M:Hid (Bk W6 (w4.heap.size+1) 50 #[.int .u64 d1,.int .u64 d2]):=by
        have e:=Bk.new W5 50 #[.int .u64 d1,.int .u64 d2];rw[e5,bp]at e;exact e
       have C:Below w4.heap.size w4 W6:=J.trans (aD.mono J.size);have E:=ah (ct.o.upon C);have Z:=ah (aq.o.below C aq.o.lt);have K:Hid (Below w.heap.size w W6):=H.o.trans (C.mono H.o.size);have aE:=ah (R.o.below aD R.o.lt);have v:=ah (bn.below C ai);have fn:w4.heap.size+1<W6.heap.size:=M.o.lt;have bw:∀g,bkO A1=some g->g<w3.heap.size:=eJ.o;have S:Hid (∀g,bkO A1=some g-> (0<s.en->∀g',bkO s.eA=some g'->some g≠some g')/\ (0<s.pn->∀g',bkO s.pA=some g'->some g≠some g')/\g≠w4.heap.size):=fun g hgb=>by
        have h3:=bw g hgb;refine⟨fun h0 g' hg' e=>?_,fun h0 g' hg' e=>?_,by omega⟩
        . cases e
          cases hA:s.eA with
          | none=>rw[hA]at hg';cases hg'
          | some a=>rw[hA]at hg';have:=(dp a h0 hA).1;have e2:a.block=g:=Option.some.inj hg';omega
        . cases e
          cases hA:s.pA with
          | none=>rw[hA]at hg';cases hg'
          | some a=>rw[hA]at hg';have:=(dq a h0 hA).1;have e2:a.block=g:=Option.some.inj hg';omega
       obtain⟨r0,r1,_,_⟩:=bo.o.two;rw[<-r]at r0 r1;have u:=ah r;have eL:=ah bp;have bx:Hid (s.en<=200/\s.pn<=8):=⟨by rw[<-bn.elen];exact En bm,by rw[<-bn.plen];exact(zi bm).1⟩
       clear r bp J C aD e5 bw dp dq bn hg bm;unfold obV;unfold obC at u R aE r0 r1 ⊢
       go_wp2_with (at_builtin;refine gB (.tmp 51) (.tmp 53) 47 rfl ?_)
       rw[u.o,eL.o];refine aF ?_;refine qY (base:=w.heap.size) (size:=2) rfl (.tmp 51) (.tmp 53) 47 rfl 50 i0 _ 16 Tryz.underlying47 Hi.o cd.o ce.o cf.o rfl (by decide) A1 n1 c1 (flat dgC rl) rfl E.o.rot.a _ _ 1 1 (flat dgC [(d1,d2)]) rfl (Sl.of_bk (n:=1) (size:=2) M.o rfl) (jl _) (by omega) (by unfold maxLen;omega) (by omega) K.o.size ?_;intro A6 c6 w7 O q _ _ ar;rw[<-bu]at O;have au:=ah (E.o.rot.app O q ar);have av:=ah (Z.o.kept q fun e=>vC E.o.rot.a Z.o _ e.symm rfl);have aw:Hid (Below w.heap.size w w7):=K.o.grown q K.o.size (fun g e=>(E.o.rot.a.lt g (by rw[gQ];exact e)).1);have z7:W6.heap.size<=w7.heap.size:=q.size;have bz:Hid (Bk w7 w4.heap.size 109 #[.int .i64 o.kind,.string o.data,.slice s.eA s.en s.ec,.int .u64 o.tree.1,.int .u64 o.tree.2,.slice s.pA s.pn s.pc,.string o.auth,.int .i64 o.time,.string o.msg]):=aE.o.grown q (fun e=>(S.o _ e.symm).2.2 rfl);have ca:Hid (ObM w7 w4.heap.size o s):=⟨uy v.o.e q (by omega) (fun h0 g hgb e=>(S.o g e).1 h0 g hgb rfl),uy v.o.p q (by omega) (fun h0 g hgb e=>(S.o g e).2.1 h0 g hgb rfl),v.o.ele,v.o.emx,v.o.ple,v.o.pmx⟩
       clear O q ar r0 r1 M E Z K aE v bo S;have cu:=ah (Gp o s w4.heap.size w7 ca.o (by omega) dt.o (by have:=bx.o.1;omega) (by have:=bx.o.2;omega));unfold obV obC LkE at cu;obtain⟨q0,q1,q2,q3,q4,q5,q6,q7,q8⟩:=bz.o.nine;go_wp2_with fail;refine cu.o.mono ?_;rintro e w8 ⟨A9,n9,c9,cv,rfl,cw,bq⟩;have cx:=ah (au.o.upon bq);have du:=ah (av.o.below bq av.o.lt);have dv:Hid (Below w.heap.size w w8):=aw.o.trans (bq.mono aw.o.size);have br:=ah cw.sl;have ba:Hid (0<n9->∀g,bkO A9=some g->bkO (some (⟨bb,co,none⟩:Addr))≠some g):=fun h0 g hgb e=>by
        have h3:=(au.o.c.lt g (by rw[gQ];exact e)).2;rcases cw with h4 | ⟨h4,_⟩
        . have:=(h4.lt g (by rw[gQ];exact hgb)).1;omega
        . omega
       have eM:=ah cv;have ff:n9<=209:=by rw[cv];exact zm dt.o
       have fp:m<=200000000000:=by omega
       obtain⟨wo,cl⟩:∃wo,wo=wr:=⟨_,rfl⟩
       subst cl;clear cv cw bq cu q0 q1 q2 q3 q4 q5 q6 q7 q8 bz ca au av aw ct aq H bk R;obtain⟨fr,cy⟩:=NX9 ((some ⟨bb,co,none⟩:OA))
       rw[cy]at cx ba;rw[cy];clear cy;go_wp2_with fail
       go_loopw[9,58] (fun v9 i wi=>∃(j n c:Nat)(A:OA)(L:List Dig),v9= .slice A n c/\i= .int .i64 j/\j<=n9/\n<=m+j/\Hid (L.length=n)/\Hid (ReJ p rs (eP met (d1,d2)) (rl++ [(d1,d2)]) rm L (d1,d2) ((bQ o).take j))/\Hid (Sd wi w.heap.size (N+1) (eP met (d1,d2)))/\Hid (Rw3 wi w.heap.size 50 A6 (n1+1) c6 A2 n2 c2 A n c (rl++ [(d1,d2)]) rm L)/\Hid (Below w.heap.size w wi)/\Hid (Sl wi w8.heap.size 2 A9 n9 (flat dgC (bQ o)))/\Hid (0<n9->∀g,bkO A9=some g->bkO A≠some g)/\w8.heap.size<=wi.heap.size) (fun _ i _=>n9 - (intOf i).toNat)
       case atStart=>exact⟨0,m,c3,_,l,rfl,rfl,ZZ _,Nat.le_refl _,cp.o,dr.o,du.o,cx.o,dv.o,br.o,ba.o,Nat.le_refl _⟩
       case round =>
        obtain⟨j,n,c,A,L,rfl,rfl,hj,fs,dx,hJ,hS,al,am,dy,dN,eN⟩:=hrel;have cz:=ah dx.o;have HJ:=ah hJ.o;have cA:=ah hS.o;have dT:=ah al.o;have ea:=ah am.o;have eb:=ah dy.o;have cC:=ah dN.o;clear dx hJ hS al am dy dN du cx dv br ba dr;have eR:w.heap.size<wr.heap.size:=cA.o.lt;by_cases hlt:j<n9
        . obtain⟨b9,o9,x,rfl,ft,hx,y0,y1⟩:=eb.o.dg hlt
          have eS: (j:Int)< (n9:Int):=by omega
          have ed:=ah (aS hx);have ee:Hid (Rchd p rs x):= .link eK.o ds.o (Z7 hx);have eV:Hid (WfD x):=uY G.o HH.o ee.o;obtain⟨x1,x2⟩:=x;simp only at y0 y1;obtain⟨W,hW⟩:=NX9 (wr.alloc (.cells #[.int .u64 x1,.int .u64 x2] 50))
          have t:Below wr.heap.size wr W:=by rw[<-hW];exact(af _ wr).alloc ai _
          have eW:W.heap.size=wr.heap.size+1:=by rw[<-hW];simp
          have ao:Hid (Bk W wr.heap.size 50 #[.int .u64 x1,.int .u64 x2]):=by rw[<-hW];exact Bk.new wr _ _
          have y:=ah (cA.o.below t eR);have X:=ah (dT.o.upon t);have I:Hid (Below w.heap.size w W):=ea.o.trans (t.mono (by omega));have ef:=ah (eb.o.below t eN);have z:=Sd.look (d:=(x1,x2)) y.o Tryz.underlying105 (jo eV.o);obtain⟨r0,r1,_,_⟩:=ao.o.two;rw[<-hW]at r0 r1 z;simp only at z;have cD:w8.heap.size<=W.heap.size:=by omega
          have u:=ah hW;cases hsm:eP met (d1,d2) (x1,x2) with
          | true =>
            rw[hsm]at z;have bd:=ah (HJ.o.pass hsm);rw[<-ed.o]at bd;clear hW t eW hx hsm;go_wp2_with fail;rw[u.o];go_roundw
            case rel=>exact⟨j+1,n,c,A,L,rfl,by go_num,hlt,by omega,cz.o,bd.o,y.o,X.o,I.o,ef.o,cC.o,cD⟩
            case measure=>simp[intOf];omega
          | false =>
            rw[hsm]at z;have bd:=ah (HJ.o.push ee.o);rw[<-ed.o]at bd;have M:Hid (Bk (W.alloc (.cells #[.int .u64 x1,.int .u64 x2] 50)) (wr.heap.size+1) 50 #[.int .u64 x1,.int .u64 x2]):=by
             have e:=Bk.new W 50 #[.int .u64 x1,.int .u64 x2]
             rwa[eW]at e
            have ad:Below W.heap.size W (W.alloc (.cells #[.int .u64 x1,.int .u64 x2] 50)):=(af _ W).alloc ai _;have T:=ah (X.o.upon ad);have cb:=ah (y.o.below ad y.o.lt);have bf:Hid (Below w.heap.size w (W.alloc (.cells #[.int .u64 x1,.int .u64 x2] 50))):=I.o.trans (ad.mono I.o.size);have eg:=ah (ef.o.below ad cD);have eh:w8.heap.size<= (W.alloc (.cells #[.int .u64 x1,.int .u64 x2] 50)).heap.size:=Z0 cD ad.size;have cE:=ah eh;clear hW t eW hx hsm ad eh
            go_wp2_with (at_builtin;refine gB (.tmp 66) (.tmp 68) 47 rfl ?_)
            rw[u.o];refine aF ?_;refine qY (base:=w.heap.size) (size:=2) rfl (.tmp 66) (.tmp 68) 47 rfl 50 i0 _ 16 Tryz.underlying47 Hi.o cd.o ce.o cf.o rfl (by decide) A n c (flat dgC L) rfl T.o.rot.rot.a _ _ 1 1 (flat dgC [(x1,x2)]) rfl (Sl.of_bk (n:=1) (size:=2) M.o rfl) (jl _) (by omega) (by unfold maxLen;omega) (by omega) bf.o.size ?_;intro A7 c7 w9 cF ag _ _ cG;rw[<-bu]at cF;have fa:=ah (T.o.rot.rot.app cF ag cG);have fb:=ah (cb.o.kept ag fun e=>vC T.o.rot.rot.a cb.o _ e.symm rfl);have fc:Hid (Below w.heap.size w w9):=bf.o.grown ag bf.o.size (fun g e=>(T.o.rot.rot.a.lt g (by rw[gQ];exact e)).1);have br:Hid (Sl w9 w8.heap.size 2 (some ⟨b9,o9,none⟩) n9 (flat dgC (bQ o))):=uy eg.o ag cE.o (fun h0 g hgb=>cC.o h0 g hgb);have ba:Hid (0<n9->∀g,bkO (some (⟨b9,o9,none⟩:Addr))=some g->bkO A7≠some g):=fun h0 g hgb e=>by
             rcases cG g e with h | h
             . exact cC.o h0 g hgb h
             . have e2:b9=g:=Option.some.inj hgb
               have:=cE.o;omega
            have fd:Hid (w8.heap.size<=w9.heap.size):=Z0 cE.o ag.size;clear cF ag cG r0 r1;go_wp2_with fail;go_roundw
            case rel=>exact⟨j+1,n+1,c7,A7,L++ [(x1,x2)],rfl,by go_num,hlt,by omega,by show _=_;rw[ae,cz.o];rfl,bd.o,fb.o,fa.o.rot,fc.o,br.o,ba.o,fd.o⟩
            case measure=>simp[intOf];omega
        . have eS:¬(j:Int)< (n9:Int):=by omega
          have HT:Hid ((bQ o).take j=bQ o):=ZW (by rw[<-eM.o];omega);rw[HT.o]at HJ;have ap:=ah (HJ.o.fin ds.o);go_wp2_with fail
          go_roundg (gk - 1)
          case rel=>exact⟨_,N+1,n1+1,n2,n,rl++ [(d1,d2)],rm,L,A6,A2,A,c6,c2,c,rfl,rfl,rfl,ap.o,cA.o,dT.o,ea.o,⟨by rw[ae,f.o.1];rfl,f.o.2.1,cz.o⟩,by have:=HU.o;have:=dj.o;show _<=_;omega,by omega,by have:=HU.o;omega⟩
          case measure=>have:=HU.o;omega
end
theorem GX{p:List Itm}{ds l m:List Dig}(h:qI p ds l m):m= []↔¬Miss p ds:=by
 constructor
 . rintro rfl ⟨x,h1,h2,h3⟩
   cases (h.miss x).2 ⟨h1,h2,h3⟩
 . intro hn
   cases m with
   | nil=>rfl
   | cons x m=>exact absurd ⟨x,(h.miss x).1 (by simp)⟩ hn
theorem xq(p:List Itm)(A:OA)(n c B:Nat)(d:Dig)(w:MZ)(h0:Sl w B 3 A n (flat itC p))(hB:B<=w.heap.size)(hn:n<=200000)(hp:PlOk p)(hd:WfD d) :
  Calls Tryz.prog 40 #[.slice A n c,aB d] w fun e w'=>e= .returned (.int .i64 (dz p d))/\Below w.heap.size w w':=by
 obtain⟨d1,d2⟩:=d;obtain⟨W,hW⟩:=NX9 (w.alloc (.cells #[.int .u64 d1,.int .u64 d2] 50))
 have j:Hid (Below w.heap.size w W):=by rw[<-hW];exact(af _ w).alloc ai _
 have HK:Hid (Bk W w.heap.size 50 #[.int .u64 d1,.int .u64 d2]):=by rw[<-hW];exact Bk.new w _ _
 have zW:w.heap.size<W.heap.size:=HK.o.lt;have HP:Hid (Sl W B 3 A n (flat itC p)):=h0.below j.o hB;have HG:=ah (tK A n c B p (d1,d2) W HP.o (by omega) (by omega) hp);unfold GeE at HG;have z:=ah hp;have HD:=ah hd;have HW:=ah hW;simp only[aB]at HG ⊢;obtain⟨cv,k⟩:=NX9 (dz p (d1,d2))
 rw[k];have h:=ah k;clear k;obtain⟨k0,k1,_,_⟩:=HK.o.two;rw[<-hW]at k0 k1;clear hp hd h0 hW
 go_enter Tryz.func40,Tryz.ntmps40
 go_wp2_with fail;rw[HW.o];refine HG.o.mono ?_;rintro e w1 ⟨hq,i⟩;have t:=ah (HK.o.below i zW);have a:Hid (Below w.heap.size w w1):=j.o.trans (i.mono j.o.size);have C:=ah (HP.o.below i (by omega));have z1:w.heap.size<w1.heap.size:=t.o.lt;clear i HG k0 k1;rcases hq with ⟨o,s,hg,D,rfl,E,_,_⟩ | ⟨hg,rfl⟩
 case inr =>
  have HC:Hid (dz p (d1,d2)=8):=by show _=_;unfold dz;rw[hg]
  rw[h.o]at HC;clear hg;simp only[obV,obC,zOb,zOs,zD]
  go_wp2
  go_ret
  exact⟨by rw[HC.o];rfl,a.o.alloc a.o.size _⟩
 case inl =>
  have q:=ah hg;simp only[obV,obC];obtain⟨W2,b⟩:=NX9 (w1.alloc (.cells #[.int .i64 o.kind,.string o.data,.slice s.eA s.en s.ec,.int .u64 o.tree.1,.int .u64 o.tree.2,.slice s.pA s.pn s.pc,.string o.auth,.int .i64 o.time,.string o.msg] 109))
  have f:Below w1.heap.size w1 W2:=by rw[<-b];exact(af _ w1).alloc ai _
  have F:Hid (Bk W2 w1.heap.size 109 #[.int .i64 o.kind,.string o.data,.slice s.eA s.en s.ec,.int .u64 o.tree.1,.int .u64 o.tree.2,.slice s.pA s.pn s.pc,.string o.auth,.int .i64 o.time,.string o.msg]):=by rw[<-b];exact Bk.new w1 _ _
  have G:=ah (t.o.below f z1);have H:Hid (Below w.heap.size w W2):=a.o.trans (f.mono a.o.size);have I:=ah (C.o.below f (by omega));have z2:W2.heap.size=w1.heap.size+1:=by rw[<-b];simp
  obtain⟨c0,_⟩:=F.o.nine;obtain⟨k0,k1,_,_⟩:=G.o.two;rw[<-b]at c0 k0 k1;have u:=ah b;have M:w.heap.size≠w1.heap.size:=by omega
  obtain⟨W3,g⟩:=NX9 (W2.alloc (.cells #[.int .u64 d1,.int .u64 d2] 50))
  have r:Below w1.heap.size w1 W3:=by rw[<-g];exact f.alloc (by omega) _
  have J:Hid (Bk W3 (w1.heap.size+1) 50 #[.int .u64 d1,.int .u64 d2]):=by
   have e:=Bk.new W2 50 #[.int .u64 d1,.int .u64 d2]
   rwa[z2,g]at e
  have HR:=ah (xV p A n c [(d1,d2)] (some ⟨w1.heap.size+1,0,none⟩) 1 1 W3.heap.size W3 ((I.o.below (by rw[<-g];exact(af _ W2).alloc ai _) (by omega)).more (by have:=r.size;omega)) (Sl.of_bk (n:=1) (size:=2) J.o rfl) ai z.o hn (fun d hd=>by rw[List.mem_singleton.1 hd];exact HD.o) (by omega));unfold ReE at HR;have v:Hid (Below w.heap.size w W3):=a.o.trans (r.mono a.o.size);have K:=ah g;clear g;clear f r b hg D E;by_cases h3:o.kind=3
  . have H3:=ah h3
    have L: (o.kind != 3)=false:=by simp[h3]
    clear h3;go_wp2_with fail;rw[u.o,K.o];refine HR.o.mono ?_;rintro e w4 ⟨l,m,A1,c1,A2,c2,rfl,hr,_,_,_,x⟩;have y:Hid (Below w.heap.size w w4):=v.o.trans (x.mono v.o.size);have hm:=GX hr;clear hr x HR;by_cases hmi:m= []
    . have hx:=hm.1 hmi
      have HC:Hid (cv=0):=by show _=_;rw[<-h.o];unfold dz;rw[q.o];simp[H3.o,hx]
      subst hmi;clear hm hx
      go_wp2
      go_ret
      exact⟨by rw[HC.o];rfl,y.o⟩
    . have hx:Miss p [(d1,d2)]:=Classical.byContradiction fun hx=>hmi (hm.2 hx)
      have HC:Hid (cv=8):=by show _=_;rw[<-h.o];unfold dz;rw[q.o];simp[H3.o,hx]
      have hl:0<m.length:=List.length_pos_iff.2 hmi;have N: (0:Int)< (m.length:Int):=by omega
      clear hm hx hmi hl
      go_wp2
      go_ret
      exact⟨by rw[HC.o];rfl,y.o⟩
  . have HC:Hid (cv=9):=by show _=_;rw[<-h.o];unfold dz;rw[q.o];simp[h3]
    have L: (o.kind != 3)=true:=by simp[h3]
    clear h3
    go_wp2
    rw[u.o];go_ret
    exact⟨by rw[HC.o];rfl,H.o⟩
section
open Go.RowKit Go.Shelf
attribute [local go_sem] Oper.semAt_some
theorem su{w:MZ}{a:Array M4}{r:Nat}{x:Bool}(ha:a[2]?.getD undef= .pointer (some ⟨r,0,none⟩))(h:w.heap[r]? =some (.cells #[.bool x] 4 (0,0))) :
  (results Tryz.f122 a).run Tryz.prog w= .ok (.bool x) w:=by
 have hc:=cell_of_one h;simp[results,Tryz.results122,ha,go_sem,hc]
theorem wX(s:M3)(w:MZ)(hs:s.size<=maxLen) :
  Calls Tryz.prog 122 #[.string s] w fun e w'=>e= .returned (.bool (bL s))/\Below w.heap.size w w':=by
 refine(callsIn_wide (n:=6)).1 ?_;unfold maxLen at hs;have HL:=ah (gN s);have t:Fence.wide.fn 194:=trivial;have u:Fence.wide.fn 195:=trivial;refine callsIn_of_wp_marks Tryz.func122 rfl trivial ?_ rfl;simp only[Tryz.ntmps122,List.size_toArray,Z5,List.length_nil,Nat.reduceAdd,Nat.reduceSub,Array.replicate_succ,Array.replicate_zero,List.push_toArray,List.append_toArray,List.nil_append,List.cons_append];by_cases c1:100< (s.size:Int)
 . have hv:Hid (bL s=false):=by
     show _=_;have:=HL.o;unfold bL bl;rw[decide_eq_false (by omega),Bool.false_and]
   gi_wp2_with fail
   refine⟨_,su rfl (World.alloc_heap_new w _),?_⟩;exact⟨aY hv.o.symm,(af _ _).alloc ai _⟩
 have z: (s.size:Int)<=100:=by omega
 have HN:Hid (bL s= (aZ (bl s)).all gT):=by
  show _=_;have:=HL.o;unfold bL;rw[decide_eq_true (by unfold bl;omega),Bool.true_and]
 gi_wp2_with (gi_at_call 194;refine(callsIn_wide.2 (wY _ _)).mono ?_;rintro e w' ⟨rfl,rfl⟩)
 obtain⟨W0,a⟩:=NX9 ((((w.alloc (.cells #[.bool false] 4)).alloc (.cells #[.string s] 9)).alloc (.cells #[.string ⟨#[47]⟩] 9)).alloc (.cells #[.int .i64 0] 3))
 have hz:W0.heap.size=w.heap.size+4:=by rw[<-a];simp
 have g0:W0.heap[w.heap.size]? =some (.cells #[.bool false] 4 (0,0)):=by
  rw[<-a];exact(Below.heap_alloc _ _ _ (by simp;omega)).trans ((Below.heap_alloc _ _ _ (by simp;omega)).trans ((Below.heap_alloc _ _ _ (by simp)).trans (World.alloc_heap_new w _)))
 have g1:W0.heap[w.heap.size+1]? =some (.cells #[.string s] 9 (0,0)):=by
  rw[<-a];refine(Below.heap_alloc _ _ _ (by simp)).trans ((Below.heap_alloc _ _ _ (by simp)).trans ?_);have:=World.alloc_heap_new (w.alloc (.cells #[.bool false] 4)) (.cells #[.string s] 9);rwa[Z9]at this
 have g2:W0.heap[w.heap.size+1+1]? =some (.cells #[.string ⟨#[47]⟩] 9 (0,0)):=by
  rw[<-a];refine(Below.heap_alloc _ _ _ (by simp)).trans ?_;have:=World.alloc_heap_new ((w.alloc (.cells #[.bool false] 4)).alloc (.cells #[.string s] 9)) (.cells #[.string ⟨#[47]⟩] 9);rwa[Z9,Z9]at this
 have g3:W0.heap[w.heap.size+1+2]? =some (.cells #[.int .i64 0] 3 (0,0)):=by
  rw[<-a];have:=World.alloc_heap_new (((w.alloc (.cells #[.bool false] 4)).alloc (.cells #[.string s] 9)).alloc (.cells #[.string ⟨#[47]⟩] 9)) (.cells #[.int .i64 0] 3);rwa[Z9,Z9,Z9]at this
 have b:Below w.heap.size w W0:=by
  rw[<-a];exact((((af _ w).alloc ai _).alloc (by simp) _).alloc (by simp;omega) _).alloc (by simp;omega) _
 rw[a];refine rG (F:=Fence.wide) (n:=6) rfl (by omega) (gf:=297) (lb:=#[.pointer (some ⟨w.heap.size+1+1,0,none⟩),.pointer (some ⟨w.heap.size+1,0,none⟩),.pointer (some ⟨w.heap.size+1+2,0,none⟩)]) rfl trivial (enters_of Tryz.func297 (by kernel_rfl) rfl)
  (yO 5 (w.heap.size+1) (by omega) s W0 (by omega) (by omega) g1 g2 g3) Br (fun W l o hl=>yK (m:=w.heap.size+4) (by omega) W l o (by omega)) (yz) (af _ _) (fun _=>rfl)
  (fun pre W=>W.heap[w.heap.size]? =some (.cells #[.bool false] 4 (0,0))/\Hid (∀x∈pre,bI x=true)/\Below w.heap.size w W/\w.heap.size+4<=W.heap.size)
  (fun c pre W=>c= .ret/\W.heap[w.heap.size]? =some (.cells #[.bool false] 4 (0,0))/\Hid (∃x∈pre,bI x=false)/\Below w.heap.size w W)
  ?hI ?hIx ?hIS ⟨g0,by simp[Hid],b,by omega⟩ ?a1 ?assign ?body ?done ?stop
 case assign =>
  intro l x W K hK;have f:=ah hK;clear hK
  gi_wp2
  exact f.o
 case hI =>
  rintro pre A B g ⟨h1,h2,h3,h4⟩ hg hr;refine⟨oC h1 hg (fun e=>?_),h2,h3.grown hg h3.size (fun k e=>?_),Z0 h4 hg.size⟩
  . have:=(hr _ e.symm).1;omega
  . have:=(hr _ e).1;omega
 case hIx =>
  rintro c pre A B g ⟨h0,h1,h2,h3⟩ hg hr;refine⟨h0,oC h1 hg (fun e=>?_),h2,h3.grown hg h3.size (fun k e=>?_)⟩
  . have:=(hr _ e.symm).1;omega
  . have:=(hr _ e).1;omega
 case hIS =>
  rintro pre A B ⟨h1,h2,h3,h4⟩ ⟨v,rfl⟩;exact⟨(Z8 _ _ _ _ (by simp)).trans h1,h2,h3.setCell (p:=⟨w.heap.size+1,0,none⟩) (by simp) _,by simpa [World.setCell] using h4⟩
 case body =>
  rintro l pre x W ⟨r,hr⟩ ⟨h1,h2,h3,h4⟩;have d:x.size<=maxLen:=by
   have hm:bl x∈aZ (bl s):=by rw[<-hr];simp
   have h5:=lZ (bl s) _ hm;have h6:=gN x;have h7:=HL.o;unfold bl at h5;unfold maxLen;omega
  have c0:=cell_of_one h1;have f0:=free_of_one h1;have H1:=ah h1;have H3:=ah h3;clear h1 h3 g0 g1 g2 g3 b a hr;cases hv:bI x with
  | true =>
    have HV:=ah hv;clear hv
    gi_wp2_with (gi_at_call 195;refine(CallsIn.inRound l (callsIn_wide.2 (iC x _ d))).mono ?_;rintro e w' ⟨rfl,rfl⟩;rw[HV.o])
    refine⟨⟨Nat.le_refl _,fun k o hk _=>hk⟩,fun k h5 h6=>rfl,H1.o,?_,H3.o,h4⟩;intro y hy;rcases List.mem_append.1 hy with h | h
    . exact h2.o y h
    . simp at h;subst h;exact HV.o
  | false =>
    have HV:=ah hv;clear hv
    gi_wp2_with (gi_at_call 195;refine(CallsIn.inRound l (callsIn_wide.2 (iC x _ d))).mono ?_;rintro e w' ⟨rfl,rfl⟩;rw[HV.o])
    exact⟨KeepsOthers.setCell _ _ _,rfl,one_setCell H1.o,⟨x,by simp,HV.o⟩,H3.o.setCell (p:=⟨w.heap.size,0,none⟩) ai _⟩
 case done =>
  rintro D xs W hD hS ⟨h1,h2,h3,h4⟩ hK;have c0:=cell_of_one h1;have f0:=free_of_one h1;have H1:=ah h1;have H3:=ah h3;have HK:=ah hK;have HS:=ah hS;clear h1 h3 hK hS
  gi_wp2
  have i:=(KeepsOthers.setCell W ⟨w.heap.size,0,none⟩ (.bool true)).same D _ HK.o rfl;refine⟨by simp,.inl ⟨_,_,rfl,run_takeDeferred i,?_⟩⟩;refine⟨_,su rfl ((World.putObj_heap_other (by omega)).trans (one_setCell H1.o)),aY ?_,?_⟩
  . rw[HN.o]
    symm
    rw[List.all_eq_true];intro y hy;have j:y∈xs.map bl:=by rw[HS.o];exact hy
    obtain⟨x,hx,rfl⟩:=List.mem_map.1 j;exact h2.o x hx
  . exact(H3.o.setCell (p:=⟨w.heap.size,0,none⟩) ai _).grown (grownBy_putObj' _ _ _) ((H3.o.setCell (p:=⟨w.heap.size,0,none⟩) ai _).size) (fun k e=>by cases e;omega)
 case stop =>
  rintro D c pre W hD hS ⟨rfl,h1,h2,h3⟩ hK;have H1:=ah h1;have H3:=ah h3;have HK:=ah hK;have HS:=ah hS;clear h1 h3 hK hS
  gi_wp2
  refine⟨by simp,.inl ⟨_,_,rfl,run_takeDeferred HK.o,?_⟩⟩;refine⟨_,su rfl ((World.putObj_heap_other (by omega)).trans H1.o),aY ?_,?_⟩
  . rw[HN.o]
    symm
    rw[List.all_eq_false];obtain⟨x,hx,q⟩:=h2.o;obtain⟨r,hr⟩:=HS.o;refine⟨bl x,?_,by simpa [bI] using q⟩;rw[<-hr];exact List.mem_append.2 (.inl (List.mem_map.2 ⟨x,hx,rfl⟩))
  . exact H3.o.grown (grownBy_putObj' _ _ _) H3.o.size (fun k e=>by cases e;omega)
end
section
open Go.Maps
@[go_sem] theorem MN : Tryz.prog.eqGuardType Tryz.prog.depth 50 = false := by kernel_rfl
@[go_sem] theorem MM : Tryz.prog.eqGuardType Tryz.prog.depth 85 = false := by kernel_rfl
@[go_sem] theorem MO : Tryz.prog.eqGuardType Tryz.prog.depth 52 = false := by kernel_rfl
theorem wy(dd:Nat)(a b c d:Int)(w:MZ): (Op.equalIn (dd+2) 50 (.agg #[.int .u64 a,.int .u64 b]) (.agg #[.int .u64 c,.int .u64 d])).run Tryz.prog w= .ok (a == c && b == d) w:=by
 have u3:=Tryz.underlying48;have a3:=Tryz.isAgg48;have z3:=Tryz.sizeOf48;rw[Op.equalIn];simp only[Sem.run_bind,run_underlying Tryz.underlying50,Result.andThen_ok];simp only[Std.Legacy.Range.forIn_eq_forIn_range',Std.Legacy.Range.size,Nat.sub_zero,Nat.add_sub_cancel,Nat.div_one,List.range'_succ,List.range'_zero,List.forIn_cons,List.forIn_nil]
 go_simp
 by_cases h1:a=c <;> by_cases h2:b=d <;> simp[h1,h2]
@[go_sem high] theorem MR (a b c d : Int) (w : MZ) : (Op.equalIn 10000 50 (.agg #[.int .u64 a, .int .u64 b]) (.agg #[.int .u64 c, .int .u64 d])).run Tryz.prog w = .ok (a == c && b == d) w := wy 9998 a b c d w
theorem KT:Tryz.prog.stoodInHeld 52=false:=by kernel_rfl
theorem KP:Tryz.prog.stoodInHeld 85=false:=by kernel_rfl
@[go_sem high] theorem MV (s t : M3) (a b c d : Int) (w : MZ) : (Op.equalIn 10000 52 (.agg #[.string s, .int .u64 a, .int .u64 b]) (.agg #[.string t, .int .u64 c, .int .u64 d])).run Tryz.prog w = .ok (s.toList == t.toList && (a == c && b == d)) w := by
 have hS:Tryz.prog.underlying 52=some (.struct (Tryz.prog.fieldsOf 52)):=by kernel_rfl
 have a28:=Tryz.isAgg50;have z28:=Tryz.sizeOf50;have a9:=Tryz.isAgg9;have u9:=Tryz.underlying9;have e28:=fun w=>wy 9997 a b c d w;rw[show(10000:Nat)=9999+1 from rfl,run_equalIn_agg w 9999 52 _ _ hS KT];simp only[Program.fieldsOf,Tryz.underlying52]
 go_simp
 by_cases h1:s.toList=t.toList <;> by_cases h2:a=c <;> by_cases h3:b=d <;> simp[h1,h2,h3]
@[go_sem high] theorem MS (s t : M3) (a b c d a' b' c' d' : Int) (w : MZ) :
  (Op.equalIn 10000 85 (.agg #[.string s,.int .u64 a,.int .u64 b,.int .u64 c,.int .u64 d]) (.agg #[.string t,.int .u64 a',.int .u64 b',.int .u64 c',.int .u64 d'])).run Tryz.prog w= .ok (s.toList == t.toList && (a == a' && b == b') && (c == c' && d == d')) w:=by
 have hS:Tryz.prog.underlying 85=some (.struct (Tryz.prog.fieldsOf 85)):=by kernel_rfl
 have a28:=Tryz.isAgg50;have z28:=Tryz.sizeOf50;have a9:=Tryz.isAgg9;have u9:=Tryz.underlying9;have e28:=fun a b c d w=>wy 9997 a b c d w;rw[show(10000:Nat)=9999+1 from rfl,run_equalIn_agg w 9999 85 _ _ hS KP];simp only[Program.fieldsOf,Tryz.underlying85]
 go_simp
 by_cases h1:s.toList=t.toList <;> by_cases h2:a=a' <;> by_cases h3:b=b' <;> by_cases h4:c=c' <;> by_cases h5:d=d' <;> simp[h1,h2,h3,h4,h5]
theorem rQ{d e:Dig}(h:d=e): (d.1 == e.1 && d.2 == e.2)=true:=by simp[h]
theorem ru{d e:Dig}(h:d≠e): (d.1 == e.1 && d.2 == e.2)=false:=by
 rw[Bool.eq_false_iff];intro hh;simp at hh;exact h (Prod.ext hh.1 hh.2)
theorem Mk{W w1:MZ}{B:Nat}(hb:Below B W w1):∀b o,b<B->w1.cell? ⟨b,o,none⟩=W.cell? ⟨b,o,none⟩:=fun b o h=>hb.cell (p:=⟨b,o,none⟩) h
theorem rC(u:Upd)(w:MZ)(hs:u.1.size<=maxLen) :
  Calls Tryz.prog 152 #[Dh u] w fun e w'=>e= .returned (.int .i64 (di u))/\Below w.heap.size w w':=by
 obtain⟨s,⟨a,b⟩,⟨c,d⟩⟩:=u;have hP:Hid (di (s,(a,b),(c,d))=if bL s then(if(a,b)= (c,d) then 1 else 0) else 6):=rfl;generalize di (s,(a,b),(c,d))=pe at *;show Calls Tryz.prog 152 #[.agg #[.string s,.int .u64 a,.int .u64 b,.int .u64 c,.int .u64 d]] w _;have HS:=ah hs;clear hs
 go_enter Tryz.func152,Tryz.ntmps152
 go_wp2_with fail;refine(wX s _ HS.o).mono ?_;rintro e w1 ⟨rfl,hb⟩;have hc:=Mk hb;have H1:=hc w.heap.size 1 (by simp);have H2:=hc w.heap.size 2 (by simp);have H3:=hc w.heap.size 3 (by simp);have H4:=hc w.heap.size 4 (by simp);have HB:=ah (((af _ _).alloc ai _).trans (hb.mono (by simp)));clear hc hb;simp at H1 H2 H3 H4;cases hn:bL s with
 | false =>
   go_wp2
   go_ret
   exact⟨uT (by rw[hP.o,hn];rfl),HB.o⟩
 | true =>
   by_cases e: (a,b)= ((c,d):Dig)
   . have t1:=rQ e
     simp only at t1;have HE:=ah e;clear e
     go_wp2
     go_ret
     exact⟨uT (by rw[hP.o,hn,if_pos HE.o];rfl),HB.o⟩
   . have t1:=ru e
     simp only at t1;have HE:=ah e;clear e
     go_wp2
     go_ret
     exact⟨uT (by rw[hP.o,hn,if_neg HE.o];rfl),HB.o⟩
def nG(us:List Upd):Bool:=us.any (fun u=>decide (150<u.1.size)) || decide (12<us.length)
theorem Sl.upd{w:MZ}{B n k:Nat}{A:OA}{us:List Upd}(h:Sl w B 5 A n (flat upC us))(hk:k<n) :
  ∃b off u,A=some ⟨b,off,none⟩/\b<B/\us[k]? =some u/\w.cell? ⟨b,off+k*5,none⟩=some (.string u.1)/\w.cell? ⟨b,off+k*5+1,none⟩=some (.int .u64 u.2.1.1)
   /\w.cell? ⟨b,off+k*5+2,none⟩=some (.int .u64 u.2.1.2)/\w.cell? ⟨b,off+k*5+3,none⟩=some (.int .u64 u.2.2.1)/\w.cell? ⟨b,off+k*5+4,none⟩=some (.int .u64 u.2.2.2):=by
 obtain⟨b,off,u,rfl,hb,hu,hc⟩:=h.at_ eD (by omega) hk;exact⟨b,off,u,rfl,hb,hu,hc 0 _ rfl,hc 1 _ rfl,hc 2 _ rfl,hc 3 _ rfl,hc 4 _ rfl⟩
theorem Sl.ref{w:MZ}{B n k:Nat}{A:OA}{rs:List Rf}(h:Sl w B 3 A n (flat rfC rs))(hk:k<n) :
  ∃b off r,A=some ⟨b,off,none⟩/\b<B/\rs[k]? =some r/\w.cell? ⟨b,off+k*3,none⟩=some (.string r.1)/\w.cell? ⟨b,off+k*3+1,none⟩=some (.int .u64 r.2.1)
   /\w.cell? ⟨b,off+k*3+2,none⟩=some (.int .u64 r.2.2):=by
 obtain⟨b,off,u,rfl,hb,hu,hc⟩:=h.at_ gP (by omega) hk;exact⟨b,off,u,rfl,hb,hu,hc 0 _ rfl,hc 1 _ rfl,hc 2 _ rfl⟩
theorem FQ(A:OA)(n c B:Nat)(us:List Upd)(w:MZ)(hS:Sl w B 5 A n (flat upC us))(hm:n<=maxLen) :
  Calls Tryz.prog 121 #[.slice A n c] w fun e w'=>e= .returned (.bool (nG us))/\w=w':=by
 unfold maxLen at hm;have HL:=ah (hS.len eD (by omega));have HS:=ah hS;clear hS;have hM:Hid (nG us= (us.any (fun u=>decide (150<u.1.size)) || decide (12<us.length))):=rfl;generalize nG us=mb at *
 go_enter Tryz.func121,Tryz.ntmps121
 go_wp2
 go_loop[3] (fun i=>∃k:Nat,k<=n/\i= .int .i64 k/\Hid ((us.take k).any (fun u=>decide (150<u.1.size))=false)) (fun i=>n - (intOf i).toNat)
 case atStart=>exact⟨0,ZZ _,rfl,by simp[Hid]⟩
 case round =>
  obtain⟨k,hk,rfl,a⟩:=hrel;by_cases hlt:k<n
  . obtain⟨b,f,u,rfl,hb,hu,h0,_,_,_,_⟩:=HS.o.upd hlt
    have HU:=ah hu;clear hu;by_cases hbig:150<u.1.size
    . go_wp2
      go_ret
      refine⟨aY ?_,rfl⟩;rw[hM.o];have:us.any (fun u=>decide (150<u.1.size))=true:=List.any_eq_true.2 ⟨u,Z7 HU.o,by simpa using hbig⟩;rw[this];rfl
    . have hn:Hid ((us.take (k+1)).any (fun u=>decide (150<u.1.size))=false):=by
        show _=false;rw[aS HU.o,List.any_append,a.o];simpa using hbig
      go_wp2
      go_round
      case rel=>exact⟨k+1,by omega,by go_num,hn⟩
      case measure=>simp[intOf];omega
  . have d:Hid (us.any (fun u=>decide (150<u.1.size))=false):=by
      have:=a.o
      rwa[ZW (by rw[HL.o];omega)]at this
    have hd:decide (12<n)=decide (12< (n:Int)):=by
     rw[decide_eq_decide];omega
    have HD:=ah hd;clear hd
    go_wp2
    go_ret
    refine⟨aY ?_,rfl⟩;rw[hM.o,d.o,HL.o,HD.o];rfl
theorem D8(A0 A1:OA)(n0 c0 n1 c1 B:Nat)(rs qs:List Rf)(w:MZ)(h0:Sl w B 3 A0 n0 (flat rfC rs))(h1:Sl w B 3 A1 n1 (flat rfC qs))(m0:n0<=maxLen) :
  Calls Tryz.prog 56 #[.slice A0 n0 c0,.slice A1 n1 c1] w fun e w'=>e= .returned (.bool (decide (rs=qs)))/\∃k,w'=w.drewN k:=by
 unfold maxLen at m0;have a:=ah (h0.len gP (by omega));have b:=ah (h1.len gP (by omega));have H0:=ah h0;have H1:=ah h1;clear h0 h1;have hM:Hid (decide (rs=qs)=true↔rs=qs):=decide_eq_true_iff;generalize decide (rs=qs)=mb at *;by_cases hn:n0=n1
 . subst hn
   go_enter Tryz.func56,Tryz.ntmps56
   go_wp2
   go_loopw[5] (fun i wr=>∃k nq:Nat,k<=n0/\i= .int .i64 k/\wr=w.drewN nq/\Hid (rs.take k=qs.take k)) (fun i _=>n0 - (intOf i).toNat)
   case atStart=>exact⟨0,0,ZZ _,rfl,rfl,rfl⟩
   case round =>
    obtain⟨k,nq,hk,rfl,rfl,c⟩:=hrel;by_cases hlt:k<n0
    . obtain⟨b0,o0,r,rfl,_,hr,x0,x1,x2⟩:=H0.o.ref hlt
      obtain⟨b1,o1,q,rfl,_,hq,y0,y1,y2⟩:=H1.o.ref hlt;have HR:=ah hr;have HQ:=ah hq;clear hr hq;have g: (k:Int)< (n0:Int):=by omega
      by_cases e:r=q
      . have t1: (r.1.toList == q.1.toList && (r.2.1 == q.2.1 && r.2.2 == q.2.2))=true:=by rw[e];simp
        have HE:=ah e;clear e;have f:Hid (rs.take (k+1)=qs.take (k+1)):=by
         show _=_;rw[aS HR.o,aS HQ.o,c.o,HE.o]
        go_wp2
        go_quiet(fail)
        go_wp2
        go_roundw
        case rel=>exact⟨k+1,_,by omega,by go_num,rfl,f⟩
        case measure=>simp[intOf];omega
      . have t1: (r.1.toList == q.1.toList && (r.2.1 == q.2.1 && r.2.2 == q.2.2))=false:=by
          rw[Bool.eq_false_iff];intro hh;simp only[Bool.and_eq_true,beq_iff_eq,ByteArray.toList_eq]at hh;apply e
          exact Prod.ext (iQ hh.1) (Prod.ext hh.2.1 hh.2.2)
        have HE:=ah e;clear e
        go_wp2
        go_quiet(fail)
        go_wp2
        go_ret
        refine⟨aY ?_,⟨_,World.drewN_drewN _ _ _⟩⟩
        symm
        rw[Bool.eq_false_iff];intro hh;have:=hM.o.1 hh;subst this;exact HE.o (Option.some.inj (HR.o.symm.trans HQ.o))
    . have d:Hid (mb=true):=by
        have:=c.o;rw[ZW (by rw[a.o];omega),ZW (by rw[b.o];omega)]at this;exact hM.o.2 this
      go_wp2
      go_ret
      exact⟨aY d.o.symm,_,rfl⟩
 . have h: ((n0:Int) != (n1:Int))=true:=by rw[bne_iff_ne];omega
   go_enter Tryz.func56,Tryz.ntmps56
   go_wp2
   go_ret
   refine⟨aY ?_,0,rfl⟩
   symm
   rw[Bool.eq_false_iff];intro hh;have:=hM.o.1 hh;subst this;exact hn (a.o.symm.trans b.o)
theorem Eg(A0 A1:OA)(n0 c0 n1 c1 B:Nat)(rs qs:List Upd)(w:MZ)(h0:Sl w B 5 A0 n0 (flat upC rs))(h1:Sl w B 5 A1 n1 (flat upC qs))(m0:n0<=maxLen) :
  Calls Tryz.prog 57 #[.slice A0 n0 c0,.slice A1 n1 c1] w fun e w'=>e= .returned (.bool (decide (rs=qs)))/\∃k,w'=w.drewN k:=by
 unfold maxLen at m0;have a:=ah (h0.len eD (by omega));have b:=ah (h1.len eD (by omega));have H0:=ah h0;have H1:=ah h1;clear h0 h1;have hM:Hid (decide (rs=qs)=true↔rs=qs):=decide_eq_true_iff;generalize decide (rs=qs)=mb at *;by_cases hn:n0=n1
 . subst hn
   go_enter Tryz.func57,Tryz.ntmps57
   go_wp2
   go_loopw[5] (fun i wr=>∃k nq:Nat,k<=n0/\i= .int .i64 k/\wr=w.drewN nq/\Hid (rs.take k=qs.take k)) (fun i _=>n0 - (intOf i).toNat)
   case atStart=>exact⟨0,0,ZZ _,rfl,rfl,rfl⟩
   case round =>
    obtain⟨k,nq,hk,rfl,rfl,c⟩:=hrel;by_cases hlt:k<n0
    . obtain⟨b0,o0,r,rfl,_,hr,x0,x1,x2,x3,x4⟩:=H0.o.upd hlt
      obtain⟨b1,o1,q,rfl,_,hq,y0,y1,y2,y3,y4⟩:=H1.o.upd hlt;have HR:=ah hr;have HQ:=ah hq;clear hr hq;have g: (k:Int)< (n0:Int):=by omega
      by_cases e:r=q
      . have t1: (r.1.toList == q.1.toList && (r.2.1.1 == q.2.1.1 && r.2.1.2 == q.2.1.2) && (r.2.2.1 == q.2.2.1 && r.2.2.2 == q.2.2.2))=true:=by rw[e];simp
        have HE:=ah e;clear e;have f:Hid (rs.take (k+1)=qs.take (k+1)):=by
         show _=_;rw[aS HR.o,aS HQ.o,c.o,HE.o]
        go_wp2
        go_quiet(fail)
        go_wp2
        go_roundw
        case rel=>exact⟨k+1,_,by omega,by go_num,rfl,f⟩
        case measure=>simp[intOf];omega
      . have t1: (r.1.toList == q.1.toList && (r.2.1.1 == q.2.1.1 && r.2.1.2 == q.2.1.2) && (r.2.2.1 == q.2.2.1 && r.2.2.2 == q.2.2.2))=false:=by
          rw[Bool.eq_false_iff];intro hh;simp only[Bool.and_eq_true,beq_iff_eq,ByteArray.toList_eq]at hh;apply e
          exact Prod.ext (iQ hh.1.1) (Prod.ext (Prod.ext hh.1.2.1 hh.1.2.2) (Prod.ext hh.2.1 hh.2.2))
        have HE:=ah e;clear e
        go_wp2
        go_quiet(fail)
        go_wp2
        go_ret
        refine⟨aY ?_,⟨_,World.drewN_drewN _ _ _⟩⟩
        symm
        rw[Bool.eq_false_iff];intro hh;have:=hM.o.1 hh;subst this;exact HE.o (Option.some.inj (HR.o.symm.trans HQ.o))
    . have d:Hid (mb=true):=by
        have:=c.o;rw[ZW (by rw[a.o];omega),ZW (by rw[b.o];omega)]at this;exact hM.o.2 this
      go_wp2
      go_ret
      exact⟨aY d.o.symm,_,rfl⟩
 . have h: ((n0:Int) != (n1:Int))=true:=by rw[bne_iff_ne];omega
   go_enter Tryz.func57,Tryz.ntmps57
   go_wp2
   go_ret
   refine⟨aY ?_,0,rfl⟩
   symm
   rw[Bool.eq_false_iff];intro hh;have:=hM.o.1 hh;subst this;exact hn (a.o.symm.trans b.o)
theorem lM{B:Nat}{a w:MZ}(h:Below B a w)(n:Nat):Below B a (w.drewN n):=⟨h.os,h.tape,h.output,h.size,h.block⟩
theorem F9(A0 A1 A2 A3:OA)(n0 c0 n1 c1 n2 c2 n3 c3 B:Nat)(rs qs:List Rf)(us vs:List Upd)(w:MZ)(h0:Sl w B 3 A0 n0 (flat rfC rs))(h1:Sl w B 5 A1 n1 (flat upC us))(h2:Sl w B 3 A2 n2 (flat rfC qs))(h3:Sl w B 5 A3 n3 (flat upC vs))(hB:B<=w.heap.size)(m0:n0<=maxLen)(m1:n1<=maxLen) :
  Calls Tryz.prog 19 #[.agg #[.slice A0 n0 c0,.slice A1 n1 c1],.agg #[.slice A2 n2 c2,.slice A3 n3 c3]] w fun e w'=>e= .returned (.bool (decide (rs=qs) && decide (us=vs)))/\Below w.heap.size w w':=by
 have hz:B<= (w.alloc (.cells #[.slice A0 n0 c0,.slice A1 n1 c1] 33)).heap.size:=by simp;omega
 have HB:=ah (((af w.heap.size w).alloc ai (.cells #[.slice A0 n0 c0,.slice A1 n1 c1] 33)).alloc (by simp) (.cells #[.slice A2 n2 c2,.slice A3 n3 c3] 33));have H0:=ah ((h0.alloc hB (.cells #[.slice A0 n0 c0,.slice A1 n1 c1] 33)).alloc hz (.cells #[.slice A2 n2 c2,.slice A3 n3 c3] 33));have H1:=ah ((h1.alloc hB (.cells #[.slice A0 n0 c0,.slice A1 n1 c1] 33)).alloc hz (.cells #[.slice A2 n2 c2,.slice A3 n3 c3] 33));have H2:=ah ((h2.alloc hB (.cells #[.slice A0 n0 c0,.slice A1 n1 c1] 33)).alloc hz (.cells #[.slice A2 n2 c2,.slice A3 n3 c3] 33));have H3:=ah ((h3.alloc hB (.cells #[.slice A0 n0 c0,.slice A1 n1 c1] 33)).alloc hz (.cells #[.slice A2 n2 c2,.slice A3 n3 c3] 33));have M0:=ah m0;have M1:=ah m1;clear h0 h1 h2 h3 m0 m1 hz
 go_enter Tryz.func19,Tryz.ntmps19
 go_wp2_with fail;refine(D8 A0 A2 n0 c0 n2 c2 B rs qs _ H0.o H2.o M0.o).mono ?_;rintro e w1 ⟨rfl,k1,rfl⟩;cases hd:decide (rs=qs) with
 | false =>
   go_wp2_with fail;go_ret
   exact⟨aY (by rw[hd];rfl),lM HB.o _⟩
 | true =>
   go_wp2_with fail;refine(Eg A1 A3 n1 c1 n3 c3 B us vs _ (H1.o.drewN _) (H3.o.drewN _) M1.o).mono ?_;rintro e w2 ⟨rfl,k2,rfl⟩;go_wp2_with fail;go_ret
   exact⟨aY (by rw[hd,Bool.true_and]),lM HB.o _⟩
end
section
open Go.Maps
theorem zQ{w:MZ}{b n:Nat}{l:List Rf}(h:Rm w Tryz.prog 9 b n (gL l)){s:M3}(hs:s.size<=maxLen): (Instr.lookup 132 (.map (some b)) (.string s) false).run Tryz.prog w= .ok (aB (df l s)) w:=by
 rw[<-BA];exact h.look Tryz.underlying9 Tryz.underlying132 (Tryz.zeroValue50 w) hs
theorem iA{w w':MZ}(h:Below w.heap.size w w')(row:Option Nat):w.grownBy w' row:=⟨h.os,h.tape,h.output,h.size,fun k hk _=>h.block k hk⟩
def vJ(b n:Nat)(r:List Rf×Int)(w:MZ)(e:Ending)(w':MZ):Prop :=
 e= .returned (.int .i64 r.2)/\Rm w' Tryz.prog 9 b n (gL r.1)/\w.grownBy w' (some b)
theorem zn(b n:Nat)(l:List Rf)(u:Upd)(w:MZ)(hown:Rm w Tryz.prog 9 b n (gL l))(hl:d9 l)(hn:n<maxLen)(hs:u.1.size<=maxLen) :
  Calls Tryz.prog 85 #[.map (some b),Dh u] w (vJ b (n+1) (stepG l u) w):=by
 obtain⟨s,⟨o0,o1⟩,⟨q0,q1⟩⟩:=u;show Calls Tryz.prog 85 #[.map (some b),.agg #[.string s,.int .u64 o0,.int .u64 o1,.int .u64 q0,.int .u64 q1]] w _;have HS:Hid (s.size<=maxLen):=hs;clear hs;have HN:=ah hn;have HL:=ah hl;have HO:=ah hown;have q:=hown.lt;clear hn hl hown;have HR:Hid (∀r,stepG l (s,(o0,o1),(q0,q1))=r->∀e w',vJ b (n+1) r w e w'->vJ b (n+1) (stepG l (s,(o0,o1),(q0,q1))) w e w'):=fun r h e w' hh=>by rw[h];exact hh
 go_enter Tryz.func85,Tryz.ntmps85
 go_wp2_with fail;refine(rC (s,(o0,o1),(q0,q1)) _ HS.o).mono ?_;rintro e w1 ⟨rfl,j⟩;have k1:Bk w1 w.heap.size 85 #[.string s,.int .u64 o0,.int .u64 o1,.int .u64 q0,.int .u64 q1]:=(Bk.new w 85 _).below j (by simp);have f:Hid (Below w.heap.size w w1):=((af _ w).alloc ai _).trans (j.mono (by simp));clear j;have i:Hid (Rm w1 Tryz.prog 9 b n (gL l)):=HO.o.kept (iA f.o none) (by simp);have u0:=k1.cell 0;have u1:=k1.cell 1;have u2:=k1.cell 2;have u3:=k1.cell 3;have u4:=k1.cell 4;simp at u0 u1 u2 u3 u4;clear k1;by_cases hp:di (s,(o0,o1),(q0,q1))=0
 . have HP:=ah hp
   rw[HP.o];clear hp;have o:=zQ i.o HS.o;obtain⟨⟨g0,g1⟩,hg⟩:∃g:Dig,df l s=g:=⟨_,rfl⟩
   rw[hg]at o;have HG:=ah hg;clear hg;simp only[aB]at o;by_cases heq: ((g0,g1):Dig)= (o0,o1)
   . have t1:=rQ heq
     simp only at t1;have p:Hid (bD l (s,(o0,o1),(q0,q1))=0):=by
      show _=_;unfold bD;rw[if_neg (by rw[HP.o];simp),if_neg (by rw[show df l (s,(o0,o1),(q0,q1)).1=df l s from rfl,HG.o,heq];simp)]
     have d:Hid (stepG l (s,(o0,o1),(q0,q1))= (bV l s (q0,q1),0)):=by
      show _=_;unfold stepG;rw[p.o,if_neg (by simp)]
     clear heq;by_cases hz: ((q0,q1):Dig)= (0,0)
     . have t2:=rQ hz
       simp only at t2;have HZ:=ah hz;clear hz
       go_wp2_with (at_delete;refine DR rfl _ _ 132 9 rfl 50 Tryz.underlying9 Tryz.underlying132 b n (gL l) rfl i.o s HS.o rfl ?_;intro w2 a c)
       rw[K7 s HL.o,<-HZ.o]at a;have k:=ah (a.more (Nat.le_succ n));have m:=ah c;clear a c
       go_wp2
       go_ret
       exact HR.o _ d.o _ _ ⟨rfl,k.o,(iA f.o (some b)).trans m.o⟩
     . have t2:=ru hz
       simp only at t2;have HZ:=ah hz;clear hz
       go_wp2_with (at_mapUpdate;refine lL rfl _ _ _ 132 rfl 9 50 Tryz.underlying9 Tryz.underlying132 b n (gL l) rfl i.o HN.o s HS.o (aB (q0,q1)) rfl rfl ?_;intro w2 a c)
       rw[Lm s HZ.o HL.o]at a;have k:=ah a;have m:=ah c;clear a c
       go_wp2
       go_ret
       exact HR.o _ d.o _ _ ⟨rfl,k.o,(iA f.o (some b)).trans m.o⟩
   . have t1:=ru heq
     simp only at t1;have d:Hid (stepG l (s,(o0,o1),(q0,q1))= (l,17)):=by
      show _=_;have e1:bD l (s,(o0,o1),(q0,q1))=17:=by
       unfold bD;rw[if_neg (by rw[HP.o];simp),if_pos (by rw[show df l (s,(o0,o1),(q0,q1)).1=df l s from rfl,HG.o];exact heq)]
      unfold stepG;rw[e1,if_pos (by simp)]
     clear heq
     go_wp2
     go_ret
     exact HR.o _ d.o _ _ ⟨rfl,i.o.more (Nat.le_succ n),iA f.o (some b)⟩
 . have t: (di (s,(o0,o1),(q0,q1)) != 0)=true:=by rw[bne_iff_ne];exact hp
   have d:Hid (stepG l (s,(o0,o1),(q0,q1))= (l,di (s,(o0,o1),(q0,q1)))):=by
    show _=_;have e1:bD l (s,(o0,o1),(q0,q1))=di (s,(o0,o1),(q0,q1)):=if_pos hp;unfold stepG;rw[e1,if_pos hp]
   clear hp
   go_wp2
   go_ret
   exact HR.o _ d.o _ _ ⟨rfl,i.o.more (Nat.le_succ n),iA f.o (some b)⟩
def vD(n:Nat)(r:List Rf×Int)(w:MZ)(e:Ending)(w':MZ):Prop :=
 ∃mb:Option Nat,e= .returned (.tuple #[.map mb,.int .i64 r.2])/\Below w.heap.size w w'/\ (r.2=0->∃b,mb=some b/\w.heap.size<=b/\Rm w' Tryz.prog 9 b n (gL r.1))
theorem FO(A:OA)(n c B:Nat)(us:List Upd)(w:MZ)(h:Sl w B 5 A n (flat upC us))(hB:B<=w.heap.size)(hn:n<=1000)(hs:∀u∈us,u.1.size<=maxLen) :
  Calls Tryz.prog 132 #[.slice A n c] w (vD n (aO [] us) w):=by
 have HL:=ah (h.len eD (by omega));have H:=ah h;have HS:=ah hs;clear h hs;have HR:Hid (∀r,aO [] us=r->∀e w',vD n r w e w'->vD n (aO [] us) w e w'):=fun r h e w' hh=>by rw[h];exact hh
 have z:1000<maxLen:=by unfold maxLen;omega
 have C:=@run_makeMap Tryz.prog
 go_enter Tryz.func132,Tryz.ntmps132
 go_wp2
 go_loopw[11] (fun i wr=>∃(k:Nat)(l:List Rf),k<=n/\i= .int .i64 k/\Hid (Rm wr Tryz.prog 9 w.heap.size k (gL l))/\Hid (d9 l)/\Hid (Below w.heap.size w wr)/\w.heap.size+1<=wr.heap.size/\Hid (aO [] us=aO l (us.drop k))) (fun i _=>n - (intOf i).toNat)
 case atStart=>exact⟨0,[],ZZ _,rfl,Rm.made w _ _,List.Pairwise.nil,(af _ _).alloc ai _,by simp,rfl⟩
 case round =>
  obtain⟨k,l,hk,rfl,O,SR,a,D,j⟩:=hrel;by_cases hlt:k<n
  . obtain⟨b,E,u,rfl,F,hu,y0,y1,y2,y3,y4⟩:=(H.o.below a.o hB).upd hlt
    have t:=ah hu;have v:=ah (HS.o u (Z7 hu));clear hu;have d:Hid (aO [] us=if(stepG l u).2≠0 then stepG l u else aO (stepG l u).1 (us.drop (k+1))):=by
     show _=_;have hl:=List.getElem?_eq_some_iff.1 t.o;rw[j.o,List.drop_eq_getElem_cons hl.1,hl.2,Hm]
    obtain⟨s,⟨o0,o1⟩,⟨q0,q1⟩⟩:=u;have G: (k:Int)< (n:Int):=by omega
    go_wp2_with fail;refine(zn w.heap.size k l (s,(o0,o1),(q0,q1)) _ (by first | exact O.o.alloc _ | trace_state) SR.o (by omega) v.o).mono ?_;rintro e w2 ⟨rfl,f,m⟩;have I:wr.heap.size<=w2.heap.size:=by have:=m.size;simp at this;omega
    have o:=ah f;have p:Hid (Below w.heap.size w w2):=(a.o.alloc (by omega) _).grown m (by simp;omega) (fun k e=>by cases e;exact Nat.le_refl _);have q:Hid (d9 (stepG l (s,(o0,o1),(q0,q1))).1):=yP SR.o;clear f m y0 y1 y2 y3 y4;generalize hgg:stepG l (s,(o0,o1),(q0,q1))=r at *;obtain⟨l2,x⟩:=r;simp only at o q d ⊢;by_cases hx:x=0
    . subst hx
      have y:Hid (aO [] us=aO l2 (us.drop (k+1))):=by
       show _=_;rw[d.o,if_neg (by simp)]
      go_wp2
      go_roundw
      case rel=>exact⟨k+1,l2,by omega,by go_num,o.o,q.o,p.o,by omega,y.o⟩
      case measure=>simp[intOf];omega
    . have J: (x != 0)=true:=by rw[bne_iff_ne];exact hx
      have g:Hid (aO [] us= (l2,x)):=by
       show _=_;rw[d.o,if_pos hx]
      have HX:=ah hx;clear hx
      go_wp2
      go_ret2
      exact HR.o _ g.o _ _ ⟨none,rfl,p.o,fun h=>absurd h HX.o⟩
  . have g:Hid (aO [] us= (l,0)):=by
      show _=_;rw[j.o,List.drop_of_length_le (by rw[HL.o];omega)];rfl
    go_wp2
    go_ret2
    exact HR.o _ g.o _ _ ⟨some w.heap.size,rfl,a.o,fun _=>⟨_,rfl,Nat.le_refl _,O.o.more hk⟩⟩
end
section
open Go.RowKit Go.Maps Go.Sort Go.Shelf
attribute [local go_sem] Oper.semAt_some
theorem GL(gf:Nat)(lb:Array M4)(eg:∀args w,(callFunc gf args).run Tryz.prog w= .ok (.enter gf args) w)(S Sp:List (List UInt8)->Prop)(N:Nat)(w:MZ)(hn:N<=1000000)(hseq:SeqStops Fence.wide 5 Tryz.prog gf lb encStr S Sp N w) :
  Calls Tryz.prog 199 #[.func (.func gf) #[] lb] w fun e w' =>
   ∃A c ss,e= .returned (.slice A ss.length c)/\S ss/\w'.ownsRow w.heap.size 9 1 (.slice A ss.length c) ss.length (strs (ss.map ub))/\Below w.heap.size w w':=by
 have HA:=ah (rW gf lb eg S Sp N none 0 0 [] w w (World.ownsRow_nil _ _ _ _) (af _ _) (by omega) hseq);clear hseq
 go_enter Tryz.func199,Tryz.ntmps199
 go_wp2_with (go_at_call 201;refine HA.o.mono ?_;rintro e w1 ⟨A,c,ss,rfl,h⟩;rw[Nat.zero_add,List.nil_append]at h;have HH:=ah h;clear h)
 go_ret
 exact⟨A,c,ss,rfl,HH.o⟩
theorem EH(gf:Nat)(lb:Array M4)(eg:∀args w,(callFunc gf args).run Tryz.prog w= .ok (.enter gf args) w)(S Sp:List (List UInt8)->Prop)(N:Nat)(w:MZ)(hn:N<=1000000)(hS:∀ss,S ss->ss.length<=N)(hseq:SeqStops Fence.wide 5 Tryz.prog gf lb encStr S Sp N w) :
  Calls Tryz.prog 153 #[.func (.func gf) #[] lb] w fun e w' =>
   ∃A c ss,e= .returned (.slice A ss.length c)/\S ss/\w'.ownsRow w.heap.size 9 1 (.slice A ss.length c) ss.length (strs (gI (ss.map ub)))/\Below w.heap.size w w':=by
 have HA:=ah (GL gf lb eg S Sp N w (by omega) hseq);clear hseq
 go_enter Tryz.func153,Tryz.ntmps153
 go_wp2_with fail;refine HA.o.mono ?_;rintro e w1 ⟨A,c,ss,rfl,hs,a,hb⟩;have d:=ah hs;have HB:=ah hb;have b:=ah a;have hl:=hS ss hs;have HS:=ah (zU w.heap.size ss.length c A (ss.map ub) w1 a (by omega));clear hs hb a HA;go_wp2_with fail;refine HS.o.mono ?_;rintro e w2 ⟨rfl,h1,h2⟩;have f:Hid (Below w.heap.size w w2):=HB.o.grown h2 HB.o.size (fun k hk=>iy b.o k hk);have H1:=ah h1;clear h1 h2 HS;go_wp2_with fail;go_ret
 exact⟨A,c,ss,rfl,d.o,H1.o,f.o⟩
def SkE(g:M3->Option M4)(N:Nat)(w:MZ)(e:Ending)(w':MZ):Prop :=
 ∃A c ks,e= .returned (.slice A ks.length c)/\Asc ks/\ (∀x,x∈ks↔ (g x).isSome=true)/\ks.length<=N/\w'.ownsRow w.heap.size 9 1 (.slice A ks.length c) ks.length (strs ks)/\Below w.heap.size w w'
theorem FV{gf:Nat}{lb:Array M4}{g:M3->Option M4}{N:Nat}{w:MZ}(eg:∀args w,(callFunc gf args).run Tryz.prog w= .ok (.enter gf args) w)(hn:N<=1000000)
  (h:∃S Sp,SeqStops Fence.wide 5 Tryz.prog gf lb encStr S Sp N w/\∀ss,S ss->iX g N (ss.map ub)):Calls Tryz.prog 153 #[.func (.func gf) #[] lb] w (SkE g N w):=by
 obtain⟨S,Sp,h1,h2⟩:=h;refine(EH gf lb eg S Sp N w hn (fun ss hs=>by have:=(h2 ss hs).few;rwa[List.length_map]at this) h1).mono ?_;rintro e w' ⟨A,c,ss,rfl,hs,hr,hb⟩;have hk:=h2 ss hs;have hl: (gI (ss.map ub)).length=ss.length:=by rw[zO,List.length_map]
 exact⟨A,c,gI (ss.map ub),by rw[hl],Ae hk.nod,fun x=>by rw[Ag];exact hk.mem x,by rw[hl];have:=hk.few;rwa[List.length_map]at this,by rw[hl];exact hr,hb⟩
end
