/-
  Lemmas of the card.
-/
import Derived.Test.YtknefelegjlgnaaGreatDoorACAt28
set_option maxRecDepth 100000
set_option maxHeartbeats 32000000
namespace Go.Proofs.YtknefelegjlgnaaGreatDoor
open Go.RowKit
theorem lawAt_any(n z:Int)(l:List AcX)(A:OA)(m c:Nat)(x:AcX)(left:Int)(ps:List Int)(A2:OA)(n2 c2:Nat)(w:MZ)(h:AcsM w w.heap.size A m l)(hb:∀a∈l,AcB a.1)(hm:m<=maxLen)(hx:AcM w w.heap.size x)(hxb:AcB x.1)(hlf:0<=left/\left<=255)(h2:Sl w w.heap.size 1 A2 n2 (flat gW ps)) :
  Calls Tryz.prog 6 #[ja n z A m c,.agg (acA x),.int .u8 left,.slice A2 n2 c2] w (nK w):=by
 have cX:=Sl.len (enc:=gW) (s:=1) (fun _=>rfl) (by decide) h2;subst cX;obtain⟨W,hW⟩:=NX9 ((w.alloc (.cells #[.int .i64 n,.int .i64 z,.slice A m c] 42)).alloc (.cells (acA x) 65))
 have bi:Below w.heap.size w W:=by rw[<-hW];exact((af _ w).alloc ai _).alloc (by simp) _
 have bx:=ah bi;have bz:Hid (Bk W (w.heap.size+1) 65 (acA x)):=by rw[<-hW];exact(Bk.new _ _ _).at_ (by simp)
 have zW:W.heap.size=w.heap.size+2:=by rw[<-hW];simp
 have HR:=ah (Eu qm n z l A m c w.heap.size W (h.below bi ai) hb bi.size hm);have H2:=ah h2;have ca:=ah hx;have cY:=ah hxb;have J:=ah (fun W=>H9 qm W);have HW:=ah hW;clear hW bi h hb hm h2 hx hxb;unfold vV ja at HR;unfold nK ja;unfold nK at J;simp only[acA]at bz HW ⊢
 go_enter Tryz.func6,Tryz.ntmps6
 go_wp2_with fail;rw[HW.o];refine HR.o.mono ?_;rintro e w1 ⟨ok,r,s,rfl,cs,ct,P⟩;have an:Hid (Below w.heap.size w w1):=bx.o.trans (P.mono bx.o.size);have da:=ah cs;obtain⟨W2,ao⟩:=NX9 (w1.alloc (.cells (rpC r s) 35))
 have D:Below w1.heap.size w1 W2:=by rw[<-ao];exact(af _ _).alloc ai _
 have E:Hid (Below w.heap.size w W2):=an.o.trans (D.mono an.o.size);have cb:=ah ((bz.o.below P (by omega)).below D (by have:=P.size;omega));have bj:Hid (Bk W2 w1.heap.size 35 (rpC r s)):=by rw[<-ao];exact Bk.new _ _ _
 have cu:Hid (RpM W2 W2.heap.size r s):=(ct.below D ai).more D.size;have zk:w1.heap.size<W2.heap.size/\w.heap.size+2<=W2.heap.size:=by have:=P.size;rw[<-ao];simp;omega
 have cc:=ah ao;clear cs ct P D ao HR bx HW an bz;simp only[rpV,rpC]at cc bj ⊢;obtain⟨⟨k0,k1,k2,k3⟩,k4,k5,k6⟩:=bj.o.seven;obtain⟨⟨x0,x1,x2,x3⟩,x4,x5,x6⟩:=cb.o.seven
 go_upto_region 2 with fail
 rw[cc.o];clear cc;cases ok with
 | false =>
   go_wp2_with fail;refine(J.o _).mono ?_;rintro e wa ⟨rfl,k⟩;have o:Hid (Below w.heap.size w wa):=E.o.trans (k.mono E.o.size);clear k;go_wp2_with fail;go_ret
   exact⟨rfl,o.o⟩
 | true =>
   have R:=ah (da.o rfl);by_cases hc: (20:Int)< (ps.length:Int)
   focus
    go_wp2_with fail;refine(J.o _).mono ?_;rintro e wa ⟨rfl,k⟩;have o:Hid (Below w.heap.size w wa):=E.o.trans (k.mono E.o.size);clear k;go_wp2_with fail;go_ret
    exact⟨rfl,o.o⟩
   by_cases hl:r.d.lf= -1
   rotate_left
   focus
    have db: (r.d.lf != -1)=true:=by rw[bne_iff_ne];exact hl
    clear hl;go_wp2_with fail;refine(J.o _).mono ?_;rintro e wa ⟨rfl,k⟩;have o:Hid (Below w.heap.size w wa):=E.o.trans (k.mono E.o.size);clear k;go_wp2_with fail;go_ret
    exact⟨rfl,o.o⟩
   have db: (r.d.lf != -1)=false:=by rw[hl];rfl
   have cv:=ah hl;clear hl;by_cases v:x.1.kind<0
   focus
    go_wp2_with fail;refine(J.o _).mono ?_;rintro e wa ⟨rfl,k⟩;have o:Hid (Below w.heap.size w wa):=E.o.trans (k.mono E.o.size);clear k;go_wp2_with fail;go_ret
    exact⟨rfl,o.o⟩
   by_cases I:2<x.1.kind
   focus
    go_wp2_with fail;refine(J.o _).mono ?_;rintro e wa ⟨rfl,k⟩;have o:Hid (Below w.heap.size w wa):=E.o.trans (k.mono E.o.size);clear k;go_wp2_with fail;go_ret
    exact⟨rfl,o.o⟩
   have bk:=ah (AJ x W2.heap.size W2 ((ca.o.below E.o ai).more E.o.size) cY.o ai);unfold vY at bk;simp only[acA]at bk;go_wp2_with fail;refine bk.o.mono ?_;rintro e w3 ⟨g,rfl,hg,cd⟩;have HG:=ah hg;have U:Hid (Below w.heap.size w w3):=E.o.trans (cd.mono E.o.size);have S:=ah cd;clear hg cd bk k0 k1 k2 k3 k4 k5 k6 x0 x1 x2 x3 x4 x5 x6;cases g with
   | false =>
     go_wp2_with fail;refine(J.o _).mono ?_;rintro e wa ⟨rfl,k⟩;have o:Hid (Below w.heap.size w wa):=U.o.trans (k.mono U.o.size);clear k;go_wp2_with fail;go_ret
     exact⟨rfl,o.o⟩
   | true =>
     have bm:=ah (HG.o (by simp));obtain⟨gs,a,u,ce⟩:=R.o.lv (by rw[cv.o];decide);have ap:=ah ce;have dc:=S.o.size;have cf:=ah (cb.o.below S.o (by omega));have cg:=ah (bj.o.below S.o zk.1);have ch:Hid (RpM w3 w3.heap.size r s):=(cu.o.below S.o ai).more dc;have HC:=ah (vB qm r s gs a u x w3.heap.size w3 R.o (fun _=>ce) ch.o ((ca.o.below U.o ai).more U.o.size) bm.o ai);unfold dw at HC;simp only[rpV,rpC,acA]at HC;clear ce HG cb bj cu E;obtain⟨⟨k0,k1,k2,k3⟩,k4,k5,k6⟩:=cg.o.seven;obtain⟨⟨x0,x1,x2,x3⟩,x4,x5,x6⟩:=cf.o.seven;go_wp2_with fail;refine HC.o.mono ?_;rintro e w4 ⟨R1,y1,⟨s1,rfl,cw,bn⟩,cx⟩;have dd:=ah cx;obtain⟨W5,aq⟩:=NX9 (w4.alloc (.cells (rpC R1 s1) 35))
     have bo:Below w4.heap.size w4 W5:=by rw[<-aq];exact(af _ _).alloc ai _
     have O:Below w3.heap.size w3 W5:=bn.trans (bo.mono bn.size);have ar:Hid (Below w.heap.size w W5):=U.o.trans (O.mono U.o.size);have bp:=ah (cf.o.below O (by omega));have ci:=ah (cg.o.below O (by omega));have cy:Hid (Bk W5 w4.heap.size 35 (rpC R1 s1)):=by rw[<-aq];exact Bk.new _ _ _
     have cj:Hid (RpM W5 W5.heap.size r s):=(ch.o.below O ai).more O.size;have cz:Hid (RpM W5 W5.heap.size R1 s1):=(cw.below bo ai).more bo.size;have em:=bn.size;have de:W5.heap.size=w4.heap.size+1:=by rw[<-aq];simp
     have ck:=ah aq;clear aq bn bo O cw cx HC cf cg ch U S k0 k1 k2 k3 k4 k5 k6 x0 x1 x2 x3 x4 x5 x6;simp only[rpC]at ck
     go_upto_region 5 with fail
     rw[ck.o];clear ck;obtain⟨⟨k0,k1,k2,k3⟩,k4,k5,k6⟩:=ci.o.seven;obtain⟨⟨x0,x1,x2,x3⟩,x4,x5,x6⟩:=bp.o.seven
     go_cut[13,14] from 57 to 66 (fun p f wx=>∃(b:Nat)(R2:Rp)(s2:Rsl)(y2:Int),p= .pointer (some ⟨b,0,none⟩)/\f= .int .i64 y2/\Hid (DoP (dL r left) a u x.1 R2 y2)/\Hid (Bk wx b 35 (rpC R2 s2))/\Hid (RpM wx wx.heap.size R2 s2)/\Hid (Below W5.heap.size W5 wx))
     case first =>
      have q1:w1.heap.size<W5.heap.size:=by omega
      have q2:w.heap.size+1<W5.heap.size:=by omega
      clear de;obtain⟨ei,ej⟩:=hlf;have en:IntKind.i64.wrap left=left:=pK (by omega) (by omega);have bq:Hid (∀V,Below W5.heap.size W5 V->Calls Tryz.prog 27 #[rpV r s,.int .i64 left] V fun e w'=>e= .returned (rpV (dL r left) s)/\RpM w' w'.heap.size (dL r left) s/\Below V.heap.size V w'):=fun V hV=>yQ r s left V.heap.size V ((cj.o.below hV ai).more hV.size) ai;have ad:Hid (∀V,Below W5.heap.size W5 V->RpM V V.heap.size (dL r left) s->Calls Tryz.prog 26 #[rpV (dL r left) s,.agg (acA x)] V fun e w'=>∃r' y,dw r' y V e w'/\DoP (dL r left) a u x.1 r' y):=fun V hV hm=>by
       have hw:Below w.heap.size w V:=ar.o.trans (hV.mono ar.o.size);exact vB qm (dL r left) s gs a u x V.heap.size V (mX R.o) (fun _=>ap.o.pow R.o left) hm ((ca.o.below hw ai).more hw.size) bm.o ai
      unfold dw at ad;obtain⟨r2,K⟩:=NX9 (dL r left)
      have dj:=ah K;rw[K]at bq ad;simp only[rpV,rpC,acA]at bq ad;clear K
      go_region_law (first
       | (go_simp;go_at_call 27;(first
           | (refine(bq.o W5.drew ((af _ _).drew)).mono ?_
              rintro e v1 ⟨rfl,hm,ag⟩;have L:Hid (Below W5.heap.size W5 v1):=((af _ W5).drew).trans ag;have br:Hid (RpM v1 v1.heap.size r2 s):=hm;have zv:=L.o.size;have q3:w.heap.size+1<v1.heap.size:=Nat.lt_of_lt_of_le q2 zv;have au:=bp.o.below L.o q2;obtain⟨⟨y0,dk,dl,y3⟩,y4,y5,y6⟩:=au.seven;clear hm ag au)
           | (refine(bq.o (W5.drew.alloc (.cells #[.int .i64 0,.slice none 0 0,.slice none 0 0,.int .i64 0,.slice none 0 0,.slice none 0 0,.slice none 0 0] 35)) ((af _ _).drew.alloc ai _)).mono ?_
              rintro e v1 ⟨rfl,hm,ag⟩;have L:Hid (Below W5.heap.size W5 v1):=(((af _ W5).drew).alloc ai _).trans (ag.mono (by simp));have br:Hid (RpM v1 v1.heap.size r2 s):=hm;have dn:Hid (Bk v1 W5.heap.size 35 rzC):=(Bk.new W5.drew 35 rzC).below ag (by simp);have zv:=L.o.size;have q3:w.heap.size+1<v1.heap.size:=Nat.lt_of_lt_of_le q2 zv;have au:=bp.o.below L.o q2;obtain⟨⟨y0,dk,dl,y3⟩,y4,y5,y6⟩:=au.seven;clear hm ag au)))
       | (go_simp;go_at_call 26;(first
           | (have X:=dn.o
              refine(ad.o v1 L.o br.o).mono ?_;rintro e v2 ⟨R2,y2,⟨s2,rfl,T,D⟩,M⟩;have I:=X.below D X.lt;have Q:Below W5.heap.size W5 v2:=L.o.trans (D.mono zv);have es:=fP v2 W5.heap.size R2 s2;have av:Hid (Hid (DoP r2 a u x.1 R2 y2)/\Hid (Bk (stR v2 W5.heap.size R2 s2) W5.heap.size 35 (rpC R2 s2))/\Hid (RpM (stR v2 W5.heap.size R2 s2) (stR v2 W5.heap.size R2 s2).heap.size R2 s2)/\Hid (Below W5.heap.size W5 (stR v2 W5.heap.size R2 s2))):=⟨M,I.set7 _ _ _ _ _ _ _,(T.st (q:=zRp) (t:=zRs) I).more (Nat.le_of_eq es.symm),cZ Q ai _ _ _ _ _ _ _⟩
              obtain⟨⟨dp,dq,dr,ds⟩,dt,du,dv⟩:=I.seven;obtain⟨⟨f0,f1,f2,f3⟩,f4,f5,f6⟩:=I.free7;clear X I Q es T D M)
           | (refine(ad.o (v1.alloc (.cells #[.int .i64 0,.slice none 0 0,.slice none 0 0,.int .i64 0,.slice none 0 0,.slice none 0 0,.slice none 0 0] 35)) (L.o.alloc zv _) ((br.o.below ((af _ v1).alloc ai _) ai).more (by simp))).mono ?_
              rintro e v2 ⟨R2,y2,⟨s2,rfl,T,D⟩,M⟩;have X:Bk (v1.alloc (.cells #[.int .i64 0,.slice none 0 0,.slice none 0 0,.int .i64 0,.slice none 0 0,.slice none 0 0,.slice none 0 0] 35)) v1.heap.size 35 rzC:=Bk.new _ _ _;have I:=X.below D X.lt;have Q:Below W5.heap.size W5 v2:=(L.o.alloc zv _).trans (D.mono (by simp;omega));have es:=fP v2 v1.heap.size R2 s2;have av:Hid (Hid (DoP r2 a u x.1 R2 y2)/\Hid (Bk (stR v2 v1.heap.size R2 s2) v1.heap.size 35 (rpC R2 s2))/\Hid (RpM (stR v2 v1.heap.size R2 s2) (stR v2 v1.heap.size R2 s2).heap.size R2 s2)/\Hid (Below W5.heap.size W5 (stR v2 v1.heap.size R2 s2))):=⟨M,I.set7 _ _ _ _ _ _ _,(T.st (q:=zRp) (t:=zRs) I).more (Nat.le_of_eq es.symm),cZ Q zv _ _ _ _ _ _ _⟩
              obtain⟨⟨dp,dq,dr,ds⟩,dt,du,dv⟩:=I.seven;obtain⟨⟨f0,f1,f2,f3⟩,f4,f5,f6⟩:=I.free7;clear X I Q es T D M)
           | (refine(ad.o v1 L.o br.o).mono ?_
              rintro e v2 ⟨R2,y2,⟨s2,rfl,T,D⟩,M⟩;have Q:Below W5.heap.size W5 v2:=L.o.trans (D.mono zv);have k:Below v2.heap.size v2 (v2.alloc (.cells (rpC R2 s2) 35)):=(af _ v2).alloc ai _;have av:Hid (Hid (DoP r2 a u x.1 R2 y2)/\Hid (Bk (v2.alloc (.cells (rpC R2 s2) 35)) v2.heap.size 35 (rpC R2 s2))/\Hid (RpM (v2.alloc (.cells (rpC R2 s2) 35)) (v2.alloc (.cells (rpC R2 s2) 35)).heap.size R2 s2)/\Hid (Below W5.heap.size W5 (v2.alloc (.cells (rpC R2 s2) 35)))):=⟨M,Bk.new _ _ _,(T.below k ai).more k.size,Q.trans (k.mono Q.size)⟩
              clear k Q T D M))))
      all_goals
       simp only[Exit.then]
       go_step
       go_meet
       rw[dj.o];exact⟨_,R2,s2,y2,rfl,rfl,av.o⟩
     case rest =>
      obtain⟨b,R2,s2,y2,rfl,rfl,M,cA,cC,cD⟩:=hcut;have cE:=ah M.o;have cl:=ah cA.o;have cF:=ah cC.o;have al:=ah cD.o;clear M cA cC cD k0 k1 k2 k3 k4 k5 k6 x0 x1 x2 x3 x4 x5 x6;have aw:RI R2:=cE.o.ri (mX R.o) (fun _=>ap.o.pow R.o left) bm.o;have cG:LenB r:=LenB.of ap.o.m ap.o.j R.o.n;obtain⟨cH,p',cI,cJ,Y,aD,cL,e1,e2,e3⟩:=Lg (ps:=ps) R.o cv.o ap.o bm.o ⟨by omega,by omega⟩ hlf.1 dd.o cE.o;obtain⟨a',u',hj⟩:=Y.jn;obtain⟨r',aE⟩:=NX9 ((⟨ek R2.d ps,p',cI,cJ⟩:Rp))
      have g1:r'.d=ek R2.d ps:=by rw[<-aE]
      have g2:r'.p=p':=by rw[<-aE]
      have g3:r'.rs=cI:=by rw[<-aE]
      have g4:r'.lg=cJ:=by rw[<-aE]
      rw[<-g2,<-g3,<-g4]at e1 e2 aD;rw[<-g1]at hj Y;have bs:r'.d.ss.length<=100:=by rw[g1];show(bM _ _ _ _).length<=100;rw[jF];exact cL
      have bv:LenB r':=LenB.of aD hj bs;have E1:=ah e1;have E2:=ah e2;have E3:=ah e3;have cm:=ah cG;have cn:=ah bv;have z6:=al.o.size;have dx:b<wc.heap.size:=cl.o.lt;have ab:Hid (Below w.heap.size w wc):=ar.o.trans (al.o.mono ar.o.size);have dy:=ah (ci.o.below al.o (by omega));have dN:=ah (cy.o.below al.o (by omega));have dT:Hid (RpM wc wc.heap.size r s):=(cj.o.below al.o ai).more z6;have ea:Hid (RpM wc wc.heap.size R1 s1):=(cz.o.below al.o ai).more z6;have HC:=ah (Aa R2.d s2.d wc.heap.size ps A2 c2 w.heap.size wc aw.ok cF.o.d ai (by have:=aw.pn;omega) (H2.o.below ab.o ai) ab.o.size (by omega));rw[<-g1]at HC;have HO:=ah (fun(w4:MZ)(t:Dsl)(ht:DkM w4 w4.heap.size r'.d t)=>tu r' cH a' u' t w4.heap.size w4 Y.ok Y.pn hj aD ht ai bs);have co:=ah (fun(w4:MZ)(t:Rsl)(ht:RpM w4 w4.heap.size r' t)=>FP r' cH a' u' t w4.heap.size w4 Y.ok Y.pn hj aD ht ai bs);have am:=ah (fun(w4:MZ)(q1 q2:Rp)(t1 t2:Rsl)(h1:RpM w4 w4.heap.size q1 t1)(h2:RpM w4 w4.heap.size q2 t2)(hb:LenB q1)=>Hz q1 q2 t1 t2 w4.heap.size w4 h1 h2 ai hb.p hb.rs hb.lg);unfold dw at HO;simp only[dkV,dkC,rpV,rpC]at HC HO co am;have cp:=cl;simp only[rpC]at cp;obtain⟨⟨k0,k1,k2,k3⟩,k4,k5,k6⟩:=cp.o.seven;clear aw cG Y aD hj cL e1 e2 e3 aE g1 g2 g3 g4 bs bv ci cy cj cz ar bp cp;go_wp2_with fail;refine HC.o.mono ?_;rintro e w7 ⟨t7,rfl,cM,cN⟩;have cq:=ah cN;have cO:=ah (HO.o w7 t7 cM);clear cM cN HC HO k0 k1 k2 k3 k4 k5 k6;go_wp2_with fail;refine cO.o.mono ?_;rintro e w8 ⟨t,rfl,cP,cQ⟩;obtain⟨W9,ba⟩:=NX9 (w8.alloc (.cells (rpC r' t) 35))
      have bb:Below wc.heap.size wc w8:=cq.o.trans (cQ.mono cq.o.size);have bt:Below w8.heap.size w8 W9:=by rw[<-ba];exact(af _ _).alloc ai _
      have bw:Hid (Below wc.heap.size wc W9):=bb.trans (bt.mono bb.size);have eb:Hid (Bk W9 w8.heap.size 35 (rpC r' t)):=by rw[<-ba];exact Bk.new _ _ _
      have ec:Hid (RpM W9 W9.heap.size r' t):=(cP.below bt ai).more bt.size;have zt:w8.heap.size<W9.heap.size:=by rw[<-ba];simp
      have cr:=ah ba;clear ba bb bt cP cQ cO cq;simp only[rpC]at cr
      go_upto_region 7 with fail
      rw[cr.o];clear cr;have bd:∀W,Below W9.heap.size W9 W-> (Bk W w1.heap.size 35 (rpC r s)/\Bk W w4.heap.size 35 (rpC R1 s1))/\ (Bk W b 35 (rpC R2 s2)/\Bk W w8.heap.size 35 (rpC r' t))/\ (RpM W W.heap.size r s/\RpM W W.heap.size R1 s1)/\ (RpM W W.heap.size R2 s2/\RpM W W.heap.size r' t)/\Below w.heap.size w W:=fun W hW=>by
       have h6:Below wc.heap.size wc W:=bw.o.trans (hW.mono bw.o.size);exact⟨⟨dy.o.below h6 (by omega),dN.o.below h6 (by omega)⟩,⟨cl.o.below h6 dx,eb.o.below hW zt⟩,⟨(dT.o.below h6 ai).more h6.size,(ea.o.below h6 ai).more h6.size⟩,⟨(cF.o.below h6 ai).more h6.size,(ec.o.below hW ai).more hW.size⟩,ab.o.trans (h6.mono ab.o.size)⟩
      have i:=ah bd;clear bd;have B:=i.o W9 (af _ _);have v:=B.2.1.2;simp only[rpC]at v;obtain⟨⟨l0,l1,l2,l3⟩,l4,l5,l6⟩:=v.seven;clear B v;have HC:=ah (co.o W9 t (i.o W9 (af _ _)).2.2.2.1.2);go_wp2_with fail;refine HC.o.mono ?_;rintro e wA ⟨rfl,cR⟩;have o:=ah cR;clear cR HC co l0 l1 l2 l3 l4 l5 l6;by_cases hy:y2=0
      focus
       have ed: (y2 == 0)=true:=by rw[hy];rfl
       obtain⟨cS,hq⟩:=E1.o hy;have el: (y1 == 0)=true:=by rw[cS];rfl
       have bf: (decide (r'.p=R1.p) && (decide (r'.rs=R1.rs) && decide (r'.lg=R1.lg)))=true:=by obtain⟨i1,i2,i3⟩:=hq;rw[i1,i2,i3];simp
       have bg:=ah bf;clear hy cS hq bf;have B:=i.o wA o.o;have v:=B.2.1.2;have C:=B.1.2;simp only[rpC]at v C;obtain⟨⟨l0,l1,l2,l3⟩,l4,l5,l6⟩:=v.seven;obtain⟨⟨m0,m1,m2,m3⟩,m4,m5,m6⟩:=C.seven;clear B v C;have HC:=ah (am.o wA r' R1 t s1 (i.o wA o.o).2.2.2.1.2 (i.o wA o.o).2.2.1.2 cn.o);rw[bg.o]at HC;go_wp2_with fail;refine HC.o.mono ?_;rintro e wB ⟨rfl,F⟩;have G:Hid (Below W9.heap.size W9 wB):=o.o.trans (F.mono o.o.size);clear F HC;clear l0 l1 l2 l3 l4 l5 l6 m0 m1 m2 m3 m4 m5 m6;have N:=ah (i.o wB G.o).2.2.2.2;go_wp2_with fail;refine(J.o _).mono ?_;rintro e wa ⟨rfl,k⟩;have o:Hid (Below w.heap.size w wa):=N.o.trans (k.mono N.o.size);clear k;go_wp2_with fail;go_ret
       exact⟨rfl,o.o⟩
      have ed: (y2 == 0)=false:=by rw[beq_eq_false_iff_ne];exact hy
      have cT:=E2.o hy;have eo:=ah hy;clear hy;have cU:Hid (y2=20->LenB R2/\ (decide (R2.p=r.p) && (decide (R2.rs=r.rs) && decide (R2.lg=r.lg)))=true):=fun h=>by
       obtain⟨i1,i2,i3⟩:=E3.o h;exact⟨⟨by rw[i1];exact cm.o.p,by rw[i2];exact cm.o.rs,by rw[i3];exact cm.o.lg⟩,by rw[i1,i2,i3];simp⟩
      have ee:=ah cT;clear cT;have B:=i.o wA o.o;have v:=B.2.1.2;have C:=B.1.1;simp only[rpC]at v C;obtain⟨⟨l0,l1,l2,l3⟩,l4,l5,l6⟩:=v.seven;obtain⟨⟨m0,m1,m2,m3⟩,m4,m5,m6⟩:=C.seven;clear B v C;have HC:=ah (am.o wA r' r t s (i.o wA o.o).2.2.2.1.2 (i.o wA o.o).2.2.1.1 cn.o);obtain⟨b1,P⟩:=NX9 ((decide (r'.p=r.p) && (decide (r'.rs=r.rs) && decide (r'.lg=r.lg))))
      rw[P]at HC;have an:=ah P;clear P;go_wp2_with fail;refine HC.o.mono ?_;rintro e wB ⟨rfl,F⟩;have G:Hid (Below W9.heap.size W9 wB):=o.o.trans (F.mono o.o.size);clear F HC;clear l0 l1 l2 l3 l4 l5 l6 m0 m1 m2 m3 m4 m5 m6;cases b1 with
      | true =>
        by_cases H:y2=20
        focus
         have K:=cU.o H;have bh:=ah K.1;have bg:=ah K.2;have cV: (y2 != 20)=false:=by rw[H];rfl
         clear K H;have B:=i.o wB G.o;have v:=B.2.1.1;have C:=B.1.1;simp only[rpC]at v C;obtain⟨⟨l0,l1,l2,l3⟩,l4,l5,l6⟩:=v.seven;obtain⟨⟨m0,m1,m2,m3⟩,m4,m5,m6⟩:=C.seven;clear B v C;have HC:=ah (am.o wB R2 r s2 s (i.o wB G.o).2.2.2.1.1 (i.o wB G.o).2.2.1.1 bh.o);rw[bg.o]at HC;go_wp2_with fail;refine HC.o.mono ?_;rintro e wC ⟨rfl,F⟩;have Z:Hid (Below W9.heap.size W9 wC):=G.o.trans (F.mono G.o.size);clear F HC;clear l0 l1 l2 l3 l4 l5 l6 m0 m1 m2 m3 m4 m5 m6;have N:=ah (i.o wC Z.o).2.2.2.2;go_wp2_with fail;refine(J.o _).mono ?_;rintro e wa ⟨rfl,k⟩;have o:Hid (Below w.heap.size w wa):=N.o.trans (k.mono N.o.size);clear k;go_wp2_with fail;go_ret
         exact⟨rfl,o.o⟩
        have cV: (y2 != 20)=true:=by rw[bne_iff_ne];exact H
        clear H;have N:=ah (i.o wB G.o).2.2.2.2;go_wp2_with fail;refine(J.o _).mono ?_;rintro e wa ⟨rfl,k⟩;have o:Hid (Below w.heap.size w wa):=N.o.trans (k.mono N.o.size);clear k;go_wp2_with fail;go_ret
        exact⟨rfl,o.o⟩
      | false =>
        have ef:y2=20/\r'.p=R1.p/\r'.rs=R1.rs/\r'.lg=R1.lg:=by
         rcases ee.o with ⟨i1,i2,i3⟩ | h
         . have:=an.o;rw[i1,i2,i3]at this;simp at this
         . exact h
        obtain⟨H,hq⟩:=ef;have bf: (decide (r'.p=R1.p) && (decide (r'.rs=R1.rs) && decide (r'.lg=R1.lg)))=true:=by obtain⟨i1,i2,i3⟩:=hq;rw[i1,i2,i3];simp
        have cW:=ah bf;have ep: (y2 == 20)=true:=by rw[H];rfl
        have eg:=ah H;clear H hq bf;have B:=i.o wB G.o;have v:=B.2.1.2;have C:=B.1.2;simp only[rpC]at v C;obtain⟨⟨l0,l1,l2,l3⟩,l4,l5,l6⟩:=v.seven;obtain⟨⟨m0,m1,m2,m3⟩,m4,m5,m6⟩:=C.seven;clear B v C;have HC:=ah (am.o wB r' R1 t s1 (i.o wB G.o).2.2.2.1.2 (i.o wB G.o).2.2.1.2 cn.o);rw[cW.o]at HC;go_wp2_with fail;refine HC.o.mono ?_;rintro e wC ⟨rfl,F⟩;have Z:Hid (Below W9.heap.size W9 wC):=G.o.trans (F.mono G.o.size);clear F HC;clear l0 l1 l2 l3 l4 l5 l6 m0 m1 m2 m3 m4 m5 m6;have H:=eg.o;have K:=cU.o H;have bh:=ah K.1;have bg:=ah K.2;have cV: (y2 != 20)=false:=by rw[H];rfl
        clear K H;have B:=i.o wC Z.o;have v:=B.2.1.1;have C:=B.1.1;simp only[rpC]at v C;obtain⟨⟨l0,l1,l2,l3⟩,l4,l5,l6⟩:=v.seven;obtain⟨⟨m0,m1,m2,m3⟩,m4,m5,m6⟩:=C.seven;clear B v C;have HC:=ah (am.o wC R2 r s2 s (i.o wC Z.o).2.2.2.1.1 (i.o wC Z.o).2.2.1.1 bh.o);rw[bg.o]at HC;go_wp2_with fail;refine HC.o.mono ?_;rintro e wD ⟨rfl,F⟩;have eh:Hid (Below W9.heap.size W9 wD):=Z.o.trans (F.mono Z.o.size);clear F HC;clear l0 l1 l2 l3 l4 l5 l6 m0 m1 m2 m3 m4 m5 m6;have N:=ah (i.o wD eh.o).2.2.2.2;go_wp2_with fail;refine(J.o _).mono ?_;rintro e wa ⟨rfl,k⟩;have o:Hid (Below w.heap.size w wa):=N.o.trans (k.mono N.o.size);clear k;go_wp2_with fail;go_ret
        exact⟨rfl,o.o⟩
section
open Go.ChangeShapes Go.WideShapes Go.ChangeAt Go.RowKit Go.Joins Go.Deep
theorem Bd:Tryz.prog.cellsOf 48=1:=by kernel_rfl
theorem Ch:Tryz.prog.cellsOf 50=2:=by kernel_rfl
theorem Cg:Tryz.prog.cellsOf 118=3:=by kernel_rfl
theorem ME{α:Type}{l:List α}(h:l.length=5):∃a b c d e,l= [a,b,c,d,e]:=by
 match l,h with
 | [a,b,c,d,e],_=>exact⟨a,b,c,d,e,rfl⟩
section
variable {H : Type} {enc : TypeId × M4 -> H} {P : Program} {w : MZ} {base : Nat} {spare : Nat -> Bool} {held : Bool} {fuel : Nat} {cs : List M4} {x : DataW H × List MemPlace}
theorem uu{t s:TypeId}(ht:P.underlying t=some (.array 2 s))(hs:P.underlying s=some (.int .u64))
  (hC:P.cellsOf t=2) (hcs:P.cellsOf s=1) (h:DataW.trod enc P w base spare held fuel t cs=some x):∃d:Dig,cs=dgC d/\WfD d:=by
 obtain⟨xs,m,_,_,c,e,hf⟩:=DataW.trod_array ht h;rw[hC]at c;obtain⟨c0,c1,rfl⟩:=nN c;obtain⟨y0,y1,rfl⟩:=nN e;have h0:=hf 0 (by omega);have h1:=hf 1 (by omega);rw[hcs]at h0 h1;simp at h0 h1;obtain⟨a,ha,_,hz⟩:=DataW.trod_int hs h0;obtain⟨b,hb,_,f⟩:=DataW.trod_int hs h1;simp at ha hb;obtain⟨w1,w2⟩:=bounds_u64 hz;obtain⟨w3,w4⟩:=bounds_u64 f;exact⟨(a,b),by rw[ha,hb];rfl,⟨w1,by omega,w3,by omega⟩⟩
theorem I6{t e s u:TypeId}{f0 f1:Field}(ht:P.underlying t=some (.struct #[f0,f1]))(o0:f0.offset=0)(o1:f1.offset=2)(t0:f0.type=e)(t1:f1.type=s)
  (he:P.underlying e=some (.array 2 u)) (hu:P.underlying u=some (.int .u64)) (hs:P.underlying s=some .string)
  (hC:P.cellsOf t=3) (hce:P.cellsOf e=2) (hcu:P.cellsOf u=1) (hcs:P.cellsOf s=1) (h:DataW.trod enc P w base spare held fuel t cs=some x):∃i:Itm,cs=itC i/\WfD i.1/\i.2.size<=maxLen:=by
 obtain⟨xs,m,_,_,a,c,hf⟩:=DataW.trod_struct ht h;rw[hC]at a;obtain⟨c0,c1,c2,rfl⟩:=qX a;obtain⟨y0,y1,rfl⟩:=nN c;have h0:=hf 0 f0 rfl;have h1:=hf 1 f1 rfl;rw[o0,t0,hce]at h0;rw[o1,t1,hcs]at h1;simp at h0 h1;obtain⟨d,hd,hw⟩:=uu he hu hce hcu h0;obtain⟨b,hb,_,hz⟩:=DataW.trod_string hs h1;simp[dgC]at hd hb;exact⟨(d,b),by rw[hd.1,hd.2,hb];rfl,hw,hz⟩
end
section
variable {H : Type} {enc : TypeId × M4 -> H} {W : MZ} {base : Nat} {v : M4} {d : DataW H} {p : List MemPlace} {r : Reach} {b0 : Nat} {sp : Nat -> Bool} {held : Bool}
end
end
section
open Go.ChangeShapes Go.WideShapes Go.ChangeAt Go.RowKit Go.Joins Go.Deep
theorem Ci:Tryz.prog.cellsOf 85=5:=by kernel_rfl
theorem Cf:Tryz.prog.cellsOf 65=7:=by kernel_rfl
theorem KO:Tryz.prog.cellsOf 42=3:=by kernel_rfl
theorem KX:Tryz.prog.cellsOf 29=1:=by kernel_rfl
theorem KV:Tryz.prog.cellsOf 31=1:=by kernel_rfl
theorem KY:Tryz.prog.cellsOf 59=1:=by kernel_rfl
theorem KQ:Tryz.prog.cellsOf 40=1:=by kernel_rfl
theorem qf:Tryz.prog.cellsOf 3=1:=by kernel_rfl
theorem Db{α:Type}{l:List α}(h:l.length=7):∃a b c d e f g,l= [a,b,c,d,e,f,g]:=by
 match l,h with
 | [a,b,c,d,e,f,g],_=>exact⟨a,b,c,d,e,f,g,rfl⟩
section
variable {H : Type} {enc : TypeId × M4 -> H} {P : Program} {w : MZ} {base : Nat} {spare : Nat -> Bool} {held : Bool} {fuel : Nat} {cs : List M4} {x : DataW H × List MemPlace}
theorem IU{t e s u:TypeId}{f0 f1 f2:Field}(ht:P.underlying t=some (.struct #[f0,f1,f2]))(o0:f0.offset=0)(o1:f1.offset=1)(o2:f2.offset=3)(t0:f0.type=s)(t1:f1.type=e)(t2:f2.type=e)
  (he:P.underlying e=some (.array 2 u)) (hu:P.underlying u=some (.int .u64)) (hs:P.underlying s=some .string)
  (hC:P.cellsOf t=5) (hce:P.cellsOf e=2) (hcu:P.cellsOf u=1) (hcs:P.cellsOf s=1) (h:DataW.trod enc P w base spare held fuel t cs=some x):∃i:Upd,cs=upC i/\i.1.size<=maxLen/\WfU i:=by
 obtain⟨xs,m,_,_,a,c,hf⟩:=DataW.trod_struct ht h;rw[hC]at a;obtain⟨c0,c1,c2,c3,c4,rfl⟩:=ME a;obtain⟨y0,y1,y2,rfl⟩:=qX c;have h0:=hf 0 f0 rfl;have h1:=hf 1 f1 rfl;have h2:=hf 2 f2 rfl;rw[o0,t0,hcs]at h0;rw[o1,t1,hce]at h1;rw[o2,t2,hce]at h2;simp at h0 h1 h2;obtain⟨b,hb,_,hz⟩:=DataW.trod_string hs h0;obtain⟨d,hd,hw⟩:=uu he hu hce hcu h1;obtain⟨q,hq,hv⟩:=uu he hu hce hcu h2;simp[dgC]at hd hb hq;exact⟨(b,d,q),by rw[hd.1,hd.2,hb,hq.1,hq.2];rfl,hz,hw,hv⟩
theorem IV{t i s ft pt ut kt:TypeId}{f0 f1 f2 f3 f4 f5 f6:Field}(ht:P.underlying t=some (.struct #[f0,f1,f2,f3,f4,f5,f6]))
  (o0:f0.offset=0) (o1:f1.offset=1) (o2:f2.offset=2) (o3:f3.offset=3) (o4:f4.offset=4) (o5:f5.offset=5) (o6:f6.offset=6)
  (t0:f0.type=i) (t1:f1.type=s) (t2:f2.type=ft) (t3:f3.type=pt) (t4:f4.type=ut) (t5:f5.type=i) (t6:f6.type=kt)
  (hi:P.underlying i=some (.int .i64)) (hs:P.underlying s=some .string) (hC:P.cellsOf t=7) (hci:P.cellsOf i=1) (hcs:P.cellsOf s=1) (hcf:P.cellsOf ft=1) (hcp:P.cellsOf pt=1) (hcu:P.cellsOf ut=1) (hck:P.cellsOf kt=1)
  (kf:∀(fuel:Nat)(cs:List M4)(x:DataW H×List MemPlace),DataW.trod enc P w base spare held fuel ft cs=some x->∃A n c xs,cs= [.slice A n c]/\Sl w w.heap.size 2 A n (flat flC xs)/\n<=c/\c<=maxLen/\∀f∈xs,f.1.size<=maxLen/\f.2.size<=maxLen)
  (kp:∀(fuel:Nat)(cs:List M4)(x:DataW H×List MemPlace),DataW.trod enc P w base spare held fuel pt cs=some x->∃A n c xs,cs= [.slice A n c]/\Sl w w.heap.size 3 A n (flat itC xs)/\n<=c/\c<=maxLen/\∀i∈xs,WfD i.1/\i.2.size<=maxLen)
  (ku:∀(fuel:Nat)(cs:List M4)(x:DataW H×List MemPlace),DataW.trod enc P w base spare held fuel ut cs=some x->∃A n c xs,cs= [.slice A n c]/\Sl w w.heap.size 5 A n (flat upC xs)/\n<=c/\c<=maxLen/\∀u∈xs,u.1.size<=maxLen/\WfU u)
  (kk:∀(fuel:Nat)(cs:List M4)(x:DataW H×List MemPlace),DataW.trod enc P w base spare held fuel kt cs=some x->∃A n c xs,cs= [.slice A n c]/\Sl w w.heap.size 1 A n (flat gW xs)/\n<=c/\c<=maxLen/\∀q∈xs,(q:Int)<=9223372036854775807)
  (h:DataW.trod enc P w base spare held fuel t cs=some x):∃a:AcX,cs=acC a/\AcM w w.heap.size a/\AcB a.1:=by
 obtain⟨xs,m,_,_,d,g,hf⟩:=DataW.trod_struct ht h;rw[hC]at d;obtain⟨c0,c1,c2,c3,c4,c5,c6,rfl⟩:=Db d;obtain⟨y0,y1,y2,y3,y4,y5,y6,rfl⟩:=Db g;have h0:=hf 0 f0 rfl;have h1:=hf 1 f1 rfl;have h2:=hf 2 f2 rfl;have h3:=hf 3 f3 rfl;have h4:=hf 4 f4 rfl;have h5:=hf 5 f5 rfl;have h6:=hf 6 f6 rfl;rw[o0,t0,hci]at h0;rw[o1,t1,hcs]at h1;rw[o2,t2,hcf]at h2;rw[o3,t3,hcp]at h3;rw[o4,t4,hcu]at h4;rw[o5,t5,hci]at h5;rw[o6,t6,hck]at h6;simp at h0 h1 h2 h3 h4 h5 h6;obtain⟨k,hk,_,_⟩:=DataW.trod_int hi h0;obtain⟨b,hb,_,hz⟩:=DataW.trod_string hs h1;obtain⟨A2,n2,d2,l2,e2,s2,u2,v2,q2⟩:=kf _ _ _ h2;obtain⟨A3,n3,d3,l3,e3,s3,u3,v3,q3⟩:=kp _ _ _ h3;obtain⟨A4,n4,d4,l4,e4,s4,u4,v4,q4⟩:=ku _ _ _ h4;obtain⟨k5,e,_,j⟩:=DataW.trod_int hi h5;obtain⟨A6,n6,d6,l6,e6,s6,u6,v6,q6⟩:=kk _ _ _ h6;have m2:=s2.len kT (by omega);have m3:=s3.len bO (by omega);have m4:=s4.len eD (by omega);have m6:=Sl.len (enc:=gW) (s:=1) (fun _=>rfl) (by decide) s6;subst m2;subst m3;subst m4;subst m6;have w2:=(bounds_i64 j).2;simp at hk hb e2 e3 e4 e e6;exact⟨(⟨k,b,l2,l3,l4,k5,l6⟩,⟨A2,d2,A3,d3,A4,d4,A6,d6⟩),by rw[hk,hb,e2,e3,e4,e,e6];rfl,⟨s2,s3,s4,s6⟩,⟨Z0 u2 v2,q2,Z0 u3 v3,q3,Z0 u4 v4,q4,Z0 u6 v6,hz,w2⟩⟩
theorem Jk{t i l:TypeId}{f0 f1 f2:Field}(ht:P.underlying t=some (.struct #[f0,f1,f2]))(o0:f0.offset=0)(o1:f1.offset=1)(o2:f2.offset=2)(t0:f0.type=i)(t1:f1.type=i)(t2:f2.type=l)
  (hi:P.underlying i=some (.int .i64)) (hC:P.cellsOf t=3) (hci:P.cellsOf i=1) (hcl:P.cellsOf l=1)
  (kl:∀(fuel:Nat)(cs:List M4)(x:DataW H×List MemPlace),DataW.trod enc P w base spare held fuel l cs=some x->∃A n c xs,cs= [.slice A n c]/\Sl w w.heap.size 7 A n (flat acC xs)/\n<=c/\c<=maxLen/\∀a∈xs,AcM w w.heap.size a/\AcB a.1)
  (h:DataW.trod enc P w base spare held fuel t cs=some x):∃n z A m c l,cs= [.int .i64 n,.int .i64 z,.slice A m c]/\AcsM w w.heap.size A m l/\m<=maxLen/\∀a∈l,AcB a.1:=by
 obtain⟨xs,m,_,_,b,d,hf⟩:=DataW.trod_struct ht h;rw[hC]at b;obtain⟨c0,c1,c2,rfl⟩:=qX b;obtain⟨y0,y1,y2,rfl⟩:=qX d;have h0:=hf 0 f0 rfl;have h1:=hf 1 f1 rfl;have h2:=hf 2 f2 rfl;rw[o0,t0,hci]at h0;rw[o1,t1,hci]at h1;rw[o2,t2,hcl]at h2;simp at h0 h1 h2;obtain⟨k,hk,_⟩:=DataW.trod_int hi h0;obtain⟨z,hz,_⟩:=DataW.trod_int hi h1;obtain⟨A2,n2,d2,l2,e2,s2,u2,v2,q2⟩:=kl _ _ _ h2;simp at hk hz e2;exact⟨k,z,A2,n2,d2,l2,by rw[hk,hz,e2],⟨s2,fun x hx=>(q2 x hx).1⟩,Z0 u2 v2,fun x hx=>(q2 x hx).2⟩
end
section
variable {H : Type} {enc : TypeId × M4 -> H} {W : MZ} {base : Nat} {v : M4} {d : DataW H} {p : List MemPlace} {r : Reach} {b0 : Nat} {sp : Nat -> Bool} {held : Bool} {fuel : Nat} {cs : List M4} {x : DataW H × List MemPlace}
theorem Bz(h:DataW.trod enc Tryz.prog W base sp held fuel 65 cs=some x):∃a:AcX,cs=acC a/\AcM W W.heap.size a/\AcB a.1 :=
 IV Tryz.underlying65 rfl rfl rfl rfl rfl rfl rfl rfl rfl rfl rfl rfl rfl rfl Tryz.underlying3 Tryz.underlying9 Cf qf pJ JF KX KV KY
  (fun _ _ _ hh=>kI (encA:=flC) (Q:=fun f=>f.1.size<=maxLen/\f.2.size<=maxLen) Tryz.underlying63 Cj (by omega) kT (fun _ _ _ hh=>I4 Tryz.underlying82 rfl rfl rfl rfl Tryz.underlying9 Cj pJ hh) hh)
  (fun _ _ _ hh=>kI (encA:=itC) (Q:=fun i=>WfD i.1/\i.2.size<=maxLen) Tryz.underlying29 Cg (by omega) bO (fun _ _ _ hh=>I6 Tryz.underlying118 rfl rfl rfl rfl Tryz.underlying50 Tryz.underlying48 Tryz.underlying9 Cg Ch Bd pJ hh) hh)
  (fun _ _ _ hh=>kI (encA:=upC) (Q:=fun u=>u.1.size<=maxLen/\WfU u) Tryz.underlying31 Ci (by omega) eD (fun _ _ _ hh=>IU Tryz.underlying85 rfl rfl rfl rfl rfl rfl Tryz.underlying50 Tryz.underlying48 Tryz.underlying9 Ci Ch Bd pJ hh) hh)
  (fun _ _ _ hh=>kI (encA:=gW) (Q:=fun q=>q<=9223372036854775807) Tryz.underlying59 qf (by omega) (fun _=>rfl) (fun _ _ _ hh=>by
    obtain⟨k,hk,_,hz⟩:=DataW.trod_int Tryz.underlying3 hh;exact⟨k,hk,by have:=(bounds_i64 hz).2;omega⟩) hh) h
theorem open_u8(hv:Value.okWide Tryz.prog W r b0 5 v)(h:DataW.Trod enc Tryz.prog W base sp held 5 v d p):∃z:Nat,v= .int .u8 (z:Int)/\z<256:=by
 obtain⟨s,rfl⟩:=okWide_int Tryz.underlying5 hv;obtain⟨b,hf⟩:=h;obtain⟨a,ha,_,wa⟩:=DataW.trod_int Tryz.underlying5 hf;have e1: [Value.int .u8 s]= [Value.int .u8 a]:=ha;simp at e1;have h3:0<=a/\a<256:=by
  simp only[Lit.wf,Bool.and_eq_true,decide_eq_true_eq]at wa;have h1:IntKind.u8.min=0:=by decide
  have h2:IntKind.u8.max=255:=by decide
  rw[h1,h2]at wa;omega
 exact⟨s.toNat,by rw[Int.toNat_of_nonneg (by omega)],by omega⟩
theorem open_act(hv:Value.okWide Tryz.prog W r b0 65 v)(h:DataW.Trod enc Tryz.prog W base sp held 65 v d p):∃a:AcX,v= .agg (acA a)/\AcM W W.heap.size a/\AcB a.1:=by
 obtain⟨cs,rfl,c⟩:=okWide_struct Tryz.underlying65 hv;obtain⟨b,hf⟩:=h;obtain⟨a,he,k⟩:=Bz hf;refine⟨a,?_,k⟩;have:cs.toList=acC a:=he;rw[show cs=acA a by rw[<-Array.toArray_toList (xs:=cs),this];rfl]
theorem open_run(hv:Value.okWide Tryz.prog W r b0 42 v)(h:DataW.Trod enc Tryz.prog W base sp held 42 v d p):∃n z A m c l,v=ja n z A m c/\AcsM W W.heap.size A m l/\m<=maxLen/\∀a∈l,AcB a.1:=by
 obtain⟨cs,rfl,e⟩:=okWide_struct Tryz.underlying42 hv;obtain⟨b,hf⟩:=h;obtain⟨n,z,A,m,c,l,he,k⟩:=Jk Tryz.underlying42 rfl rfl rfl rfl rfl rfl Tryz.underlying3 KO qf KQ (fun _ _ _ hh=>kI (encA:=acC) (Q:=fun a=>AcM W W.heap.size a/\AcB a.1) Tryz.underlying40 Cf (by omega) pO (fun _ _ _ hh=>Bz hh) hh) hf;refine⟨n,z,A,m,c,l,?_,k⟩;have:cs.toList= [.int .i64 n,.int .i64 z,.slice A m c]:=he;unfold ja;rw[show cs= #[.int .i64 n,.int .i64 z,.slice A m c] by rw[<-Array.toArray_toList (xs:=cs),this]]
theorem open_ints(hv:Value.okWide Tryz.prog W r b0 59 v)(h:DataW.Trod enc Tryz.prog W base sp held 59 v d p):∃A n c l,v= .slice A n c/\Sl W W.heap.size 1 A n (flat gW l)/\n<=c/\c<=maxLen/\∀q∈l,q<=9223372036854775807:=by
 obtain⟨A,n,c,rfl⟩:=okWide_slice Tryz.underlying59 hv;obtain⟨a,hf⟩:=h;obtain⟨A',n',c',us,he,h1,h2,h3,h4⟩:=kI (encA:=gW) (Q:=fun q=>q<=9223372036854775807) Tryz.underlying59 qf (by omega) (fun _=>rfl) (fun _ _ _ hh=>by
  obtain⟨k,hk,_,hz⟩:=DataW.trod_int Tryz.underlying3 hh;exact⟨k,hk,by have:=(bounds_i64 hz).2;omega⟩) hf
 refine⟨A',n',c',us,?_,h1,h2,h3,h4⟩;have: [Value.slice A n c]= [Value.slice A' n' c']:=he
 simpa using this
end
end
