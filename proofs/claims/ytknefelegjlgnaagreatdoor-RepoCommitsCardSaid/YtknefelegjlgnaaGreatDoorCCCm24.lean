/-Lemmas.-/
import Derived.Test.YtknefelegjlgnaaGreatDoorCCCm23
set_option maxRecDepth 100000
set_option maxHeartbeats 16000000
namespace Go.Proofs.YtknefelegjlgnaaGreatDoor
open Go.RowKit
def oD:VB:=⟨#[98,111,98]⟩
def zK:VB:=⟨#[109,111,114,101]⟩
def Aa:VB:=⟨#[97,103,97,105,110]⟩
theorem I7:lC oD zK 9:=⟨by decide +kernel,by decide,by decide,by decide⟩
theorem UF:lC oD Aa 9:=⟨by decide +kernel,by decide,by decide,by decide⟩
theorem QT{p:List Itm}{d:Dig}{a b:List Fl}(ha:kY p d a)(hb:kY p d b):a=b :=
 AscF.ext ha.asc hb.asc (fun _=>(ha.perm.mem_iff).trans (hb.perm.mem_iff).symm)
theorem Rw{p:List Itm}{d:Dig}{a:List Fl}{err:Int}(ha:kY p d a)(h:mi p d err):False:=by
 rcases h with ⟨h,_⟩ | ⟨_,h,_⟩
 . have:=ha.few;omega
 . exact h ha.ok
theorem lawCm_any(n z:Int)(l:List AcX)(A:OA)(m c:Nat)(nm:VB)(fs:List Fl)(A2:OA)(n2 c2:Nat)(w:VA)(h:AcsM w w.heap.size A m l)(hb:∀a∈l,AcB a.1)(hm:m<=maxLen)(h2:Sl w w.heap.size 2 A2 n2 (flat flC fs))(m2:n2<=maxLen)(hfs:∀f∈fs,f.1.size<=maxLen/\f.2.size<=maxLen)(hnm:nm.size<=maxLen) :
  Calls Tryz.prog 7 #[kJ n z A m c,.string nm,.slice A2 n2 c2] w (qY w):=by
 have hnl:=h2.len iw (by decide);subst hnl;obtain⟨W,hW⟩:=NX9 (w.alloc (.cells #[.int .i64 n,.int .i64 z,.slice A m c] 42))
 have hb0:VE w W:=by rw[<-hW];exact(ah _ w).alloc aj _
 have HB0:=ai hb0;have HR:=ai (KI uO n z l A m c w.heap.size W (h.below hb0 aj) hb hb0.size hm);have H2:=ai h2;have cu:Hid (AcB ⟨0,nm,fs,[],[],0,[]⟩):=⟨m2,hfs,ZX _,(fun i hi=>by cases hi),ZX _,(fun i hi=>by cases hi),ZX _,hnm,(show(0:Int)<=9223372036854775807 by decide)⟩
 have Q:=ai (fun W=>N7 uO W);have HW:=ai hW;clear hW hb0 h hb hm h2 m2 hfs hnm;unfold Ad kJ at HR;unfold qY kJ;unfold qY at Q;have C:Hid (∀W,VE w W->Calls Tryz.prog 10 #[] W fun e w'=>e= .returned (.bool true)/\VE w w'):=fun W hW=>(Q.o W).mono fun e w' ⟨h1,h2⟩=>⟨h1,hW.trans (h2.mono hW.size)⟩
 clear Q
 go_enter Tryz.func7,Tryz.ntmps7
 go_wp2_with fail;rw[HW.o];refine HR.o.mono ?_;rintro e w1 ⟨ok,r,s,rfl,hok,hm1,hb1⟩;have HB1:VF w w1:=HB0.o.trans (hb1.mono HB0.o.size);have cO:=ai hok;obtain⟨W2,hW2⟩:=NX9 (w1.alloc (.cells (rpC r s) 35))
 have hb2:VE w1 W2:=by rw[<-hW2];exact(ah _ _).alloc aj _
 have HB2:VF w W2:=HB1.o.trans (hb2.mono HB1.o.size);have J:Hid (Bk W2 w1.heap.size 35 (rpC r s)):=by rw[<-hW2];exact Bk.new _ _ _
 have dn:Hid (RpM W2 W2.heap.size r s):=(hm1.below hb2 aj).more hb2.size;have zk:w1.heap.size<W2.heap.size:=by rw[<-hW2];simp
 have HW2:=ai hW2;clear hok hm1 hb1 hb2 hW2 HR HB0 HW HB1;simp only[rpV,rpC]at HW2 J ⊢;obtain⟨⟨k0,k1,k2,k3⟩,k4,k5,k6⟩:=J.o.seven;cases ok with
 | false =>
   go_upto_region 2 with fail
   rw[HW2.o];clear HW2;go_wp2_with fail;refine(C.o _ HB2.o).mono ?_;rintro e w3 ⟨rfl,hb3⟩;have HB3:=ai hb3;clear hb3;go_wp2_with fail;go_ret
   exact⟨rfl,HB3.o⟩
 | true =>
   have dN:=ai (cO.o rfl);by_cases hl:r.d.lf=0
   . have hlb: (r.d.lf == 0)=true:=by rw[hl];rfl
     clear hl
     go_upto_region 2 with fail
     rw[HW2.o];clear HW2;go_wp2_with fail;refine(C.o _ HB2.o).mono ?_;rintro e w3 ⟨rfl,hb3⟩;have HB3:=ai hb3;clear hb3;go_wp2_with fail;go_ret
     exact⟨rfl,HB3.o⟩
   have hlb: (r.d.lf == 0)=false:=by rw[beq_eq_false_iff_ne];exact hl
   obtain⟨gs,a,u,hL⟩:=dN.o.lv hl;have HL:=ai hL;have HF:=ai (EO (⟨0,nm,fs,[],[],0,[]⟩,⟨A2,c2,none,0,none,0,none,0⟩) W2.heap.size W2 ⟨(H2.o.below HB2.o aj).more HB2.o.size,Sl.nil _ _ _ _,Sl.nil _ _ _ _,Sl.nil _ _ _ _⟩ cu.o aj);unfold zV at HF;simp only[acA,List.length_nil]at HF;clear hl hL cO cu
   go_upto_region 2 with fail
   rw[HW2.o];clear HW2;go_wp2_with fail;refine HF.o.mono ?_;rintro e w3 ⟨g,rfl,hg,hb3⟩;have HG:=ai hg;have HB3:VF w w3:=HB2.o.trans (hb3.mono HB2.o.size);have R:=ai (J.o.below hb3 zk);have S:Hid (RpM w3 w3.heap.size r s):=(dn.o.below hb3 aj).more hb3.size;have ed:w1.heap.size<w3.heap.size:=by have:=hb3.size;omega
   clear hg hb3 HF HB2 J dn zk k0 k1 k2 k3 k4 k5 k6;cases g with
   | false =>
     go_wp2_with fail;refine(C.o _ HB3.o).mono ?_;rintro e w4 ⟨rfl,hb4⟩;have HB4:=ai hb4;clear hb4;go_wp2_with fail;go_ret
     exact⟨rfl,HB4.o⟩
   | true =>
     have hF:=HG.o rfl;have hnm:nm.size<=120:=hF.nm;have hfn:fs.length<=10:=hF.fn;have hfs:∀f∈fs,f.1.size<=120/\f.2.size<=200:=hF.fs;have T:Hid (∀f∈fs,f.1.size<=1000000/\f.2.size<=60000):=fun f hf=>by have:=hfs f hf;omega
     have HC:=ai (oV uO r s gs a u nm fs A2 fs.length c2 oD zK 9 w3.heap.size w3 HL.o.d.ok HL.o.d.pn HL.o.j HL.o.m HL.o.n S.o aj ((H2.o.below HB3.o aj).more HB3.o.size) (by omega) (by omega) T.o I7);simp only[rpV,rpC,oD,zK]at HC;clear hF hfs HG;obtain⟨⟨k0,k1,k2,k3⟩,k4,k5,k6⟩:=R.o.seven;go_wp2_with fail;refine HC.o.mono ?_;intro e w4 hst;obtain⟨q,d,y,⟨t,rfl,hm4,hb4⟩,hcase⟩:=CmtE.law dN.o HL.o (by omega) (fun f hf=>(T.o f hf).2) I7 hst;have U:=ai hcase;obtain⟨W5,D⟩:=NX9 ((w4.alloc (.cells (rpC q t) 35)).alloc (.cells #[.int .u64 d.1,.int .u64 d.2] 50))
     have hb5:VE w4 W5:=by rw[<-D];exact((ah _ _).alloc aj _).alloc (by simp) _
     have x:VE w3 W5:=hb4.trans (hb5.mono hb4.size);have F:VF w W5:=HB3.o.trans (x.mono HB3.o.size);have fA:=ai (R.o.below x ed);have K:Hid (Bk W5 w4.heap.size 35 (rpC q t)):=by rw[<-D];exact(Bk.new _ _ _).alloc _
     have HD5:Hid (Bk W5 (w4.heap.size+1) 50 #[.int .u64 d.1,.int .u64 d.2]):=by rw[<-D];exact(Bk.new _ _ _).at_ (by simp)
     have fO:Hid (RpM W5 W5.heap.size r s):=(S.o.below x aj).more x.size;have V:Hid (RpM W5 W5.heap.size q t):=(hm4.below hb5 aj).more hb5.size;have z5:w1.heap.size<w4.heap.size/\W5.heap.size=w4.heap.size+2:=by have:=hb4.size;rw[<-D];simp;omega
     have o:=ai D;clear hst hcase hm4 hb4 D hb5 x HC HB3 R S ed k0 k1 k2 k3 k4 k5 k6;simp only[rpV,rpC,az]at o K ⊢;obtain⟨⟨k0,k1,k2,k3⟩,k4,k5,k6⟩:=K.o.seven;obtain⟨d0,d1,_,_⟩:=HD5.o.two;rcases U.o with ⟨hy,hd,hyq⟩ | ⟨hy,hq⟩
     . subst hd
       have hyb: (y != 0)=true:=by rw[bne_iff_ne];exact hy
       clear hy U;by_cases h20:y=20
       . subst h20
         clear hyq hyb;simp only[zD]at d0 d1 o ⊢
         go_upto_region 5 with fail
         rw[o.o];clear o;go_wp2_with fail;refine(C.o _ F.o).mono ?_;rintro e w6 ⟨rfl,hb6⟩;have v:=ai hb6;clear hb6;go_wp2_with fail;go_ret
         exact⟨rfl,v.o⟩
       . have hq:=hyq.resolve_left h20
         subst hq;have xe: (y == 20)=false:=by rw[beq_eq_false_iff_ne];exact h20
         clear h20 hyq;have hz0: ((0:Nat):Int)=0:=rfl;simp only[zD,zRp,List.length_nil,hz0]at d0 d1 o k0 k1 k2 k3 k4 k5 k6 ⊢;clear hz0
         go_upto_region 5 with fail
         rw[o.o];clear o;go_wp2_with fail;refine(C.o _ F.o).mono ?_;rintro e w6 ⟨rfl,hb6⟩;have v:=ai hb6;clear hb6;go_wp2_with fail;go_ret
         exact⟨rfl,v.o⟩
     subst hy;have HQ:=ai hq;obtain⟨gs',a',u',hL'⟩:=hq.lv;obtain⟨d',o',hgr,hgo,hld⟩:=hq.get;have G:=ai hL';have fU:=ai hld;have hfew:=hL'.m.few hL'.j hq.n;have gu:q.p.length<=49000:=hL'.n;have uA:q.rs.length<=1000:=nK hL'.m.rf;have hqg:q.lg.length<=1000:=hfew.2.1;have xn:q.d.ss.length<=100:=hq.n;have hrl:r.rs.length<=1000:=nK HL.o.m.rf;have L:=ai (Pj q t nm d' o' W5.heap.size W5 V.o aj hL'.m.pl hgr hgo gu uA hqg (by omega) hfew.2.2);unfold I8 at L;simp only[rpV,rpC]at L;clear hq hL' hgr hgo hld hfew U
     go_upto_region 5 with fail
     rw[o.o];clear o;go_wp2_with fail;refine L.o.mono ?_;rintro e w6 ⟨hres,hb6⟩;have iU:=ai hres;have v:VF w w6:=F.o.trans (hb6.mono F.o.size);have ku:=ai (fA.o.below hb6 (by omega));have X:=ai (K.o.below hb6 (by omega));have kU:Hid (RpM w6 w6.heap.size r s):=(fO.o.below hb6 aj).more hb6.size;have Y:Hid (RpM w6 w6.heap.size q t):=(V.o.below hb6 aj).more hb6.size;have z6:W5.heap.size<=w6.heap.size:=hb6.size;clear hres hb6 L F fA K HD5 fO V k0 k1 k2 k3 k4 k5 k6 d0 d1;obtain⟨fs',A3,c3,hl3,rfl,hs3⟩:=iU.o.resolve_right (fun⟨_,h,_,_⟩=>Rw fU.o h);obtain rfl:=QT fU.o hl3;have lq:=ai hs3;have HC:=ai (oV uO q t gs' a' u' nm fs A2 fs.length c2 oD Aa 9 w6.heap.size w6 G.o.d.ok G.o.d.pn G.o.j G.o.m gu Y.o aj ((H2.o.below v.o aj).more v.o.size) (by omega) (by omega) T.o UF);rw[HQ.o.again]at HC;unfold CmtE jm at HC;simp only[rpV,rpC,oD,Aa,az,zD]at HC;obtain⟨⟨k0,k1,k2,k3⟩,k4,k5,k6⟩:=X.o.seven;clear hl3 hs3 iU;go_wp2_with fail;refine HC.o.mono ?_;rintro e w7 ⟨t',rfl,nz,hb7⟩;obtain⟨W8,E⟩:=NX9 ((w7.alloc (.cells (rpC q t') 35)).alloc (.cells #[.int .u64 0,.int .u64 0] 50))
     have hb8:VE w7 W8:=by rw[<-E];exact((ah _ _).alloc aj _).alloc (by simp) _
     have b:VE w6 W8:=hb7.trans (hb8.mono hb7.size);have H:VF w W8:=v.o.trans (b.mono v.o.size);have nO:=ai (ku.o.below b (by omega));have Z:=ai (X.o.below b (by omega));have ag:Hid (Bk W8 w7.heap.size 35 (rpC q t')):=by rw[<-E];exact(Bk.new _ _ _).alloc _
     have nU:Hid (Bk W8 (w7.heap.size+1) 50 #[.int .u64 0,.int .u64 0]):=by rw[<-E];exact(Bk.new _ _ _).at_ (by simp)
     have oO:Hid (RpM W8 W8.heap.size r s):=(kU.o.below b aj).more b.size;have au:Hid (RpM W8 W8.heap.size q t):=(Y.o.below b aj).more b.size;have oU:Hid (RpM W8 W8.heap.size q t'):=(nz.below hb8 aj).more hb8.size;have qc:Hid (Sl W8 W8.heap.size 2 A3 fs.length (flat flC fs)):=(lq.o.below b aj).more b.size;have z8:w6.heap.size<=w7.heap.size/\W8.heap.size=w7.heap.size+2:=⟨hb7.size,by rw[<-E];simp⟩
     have bf:=ai E;clear nz hb7 E hb8 b HC v ku X kU Y lq k0 k1 k2 k3 k4 k5 k6;have bg:=ai (O9 A3 A2 fs.length c3 fs.length c2 W8.heap.size fs fs W8 qc.o ((H2.o.below H.o aj).more H.o.size) (by unfold maxLen;omega));rw[decide_eq_true rfl]at bg;have bn:=ai (fun W (hR:VE W8 W)=>MW q t' t W8.heap.size W (oU.o.below hR aj) (au.o.below hR aj) hR.size G.o.d.pn (by unfold maxLen;omega) (by unfold maxLen;omega) (by unfold maxLen;omega) (by unfold maxLen;omega));simp only[rpC]at bf ag;simp only[rpV,rpC]at bn;obtain⟨⟨l0,l1,l2,l3⟩,l4,l5,l6⟩:=Z.o.seven;obtain⟨⟨j0,j1,j2,j3⟩,j4,j5,j6⟩:=ag.o.seven;obtain⟨d0,d1,_,_⟩:=nU.o.two
     go_upto_region 9 with fail
     rw[bf.o];clear bf;go_wp2_with fail;refine bg.o.mono ?_;rintro e w9 ⟨rfl,kk,rfl⟩;have hdr:VE W8 (W8.drewN kk):=cZ (ah _ _) kk;have N:=ai (bn.o _ hdr);clear hdr bg bn;go_wp2_with fail;refine N.o.mono ?_;rintro e w10 ⟨rfl,O⟩;have hb8:VE W8 w10:=(cZ (ah _ _) kk).trans (O.mono (by simp));have P:VF w w10:=H.o.trans (hb8.mono H.o.size);have qx:=ai (nO.o.below hb8 (by omega));have qA:=ai (Z.o.below hb8 (by omega));have HRR:Hid (Sl w10 w10.heap.size 3 s.rA r.rs.length (flat rfC r.rs)):=(oO.o.rf.below hb8 aj).more hb8.size;have uD:Hid (Sl w10 w10.heap.size 3 t.rA q.rs.length (flat rfC q.rs)):=(au.o.rf.below hb8 aj).more hb8.size;have z10:W8.heap.size<=w10.heap.size:=hb8.size;obtain⟨w0,hw0⟩:=NX9 w10
     subst hw0;clear hb8 O N H nO Z ag nU oO au oU qc l0 l1 l2 l3 l4 l5 l6 j0 j1 j2 j3 j4 j5 j6 d0 d1;obtain⟨rn,hrn⟩:=NX9 r.rs.length
     have xA:=ai hrn;obtain⟨_,_,k5,_⟩:=qx.o.seven;rw[hrn]at k5 HRR hrl;clear hrn;go_wp2_with fail
     go_loopw[117] (fun i wr=>∃k:Nat,k<=rn/\i= .int .i64 k/\VF w10 wr) (fun i _=>rn - (intOf i).toNat)
     case atStart=>exact⟨0,ZX _,rfl,ah _ _⟩
     case round =>
      obtain⟨k,hk,rfl,hBr⟩:=hrel;have M:=ai hBr.o;have zr:=M.o.size;clear hBr k5;by_cases hlt:k<rn
      . obtain⟨bb,off,y,hA,hbb,hy,hc⟩:=(HRR.o.below M.o aj).at_ jg (by omega) hlt
        have x0:=hc 0 _ rfl;have x1:=hc 1 _ rfl;have x2:=hc 2 _ rfl;have hlz: (k:Int)< (rn:Int):=by omega
        have HY:Hid (y.1≠nm->y∈q.rs):=fun hne=>HQ.o.keep y (Z7 hy) hne;simp only[Nat.add_zero]at x0 x1 x2;obtain⟨W3,hW3⟩:=NX9 (wr.alloc (.cells #[.string y.1,.int .u64 y.2.1,.int .u64 y.2.2] 52))
        have hb3:VE wr W3:=by rw[<-hW3];exact(ah _ wr).alloc aj _
        have bz:Hid (Bk W3 wr.heap.size 52 #[.string y.1,.int .u64 y.2.1,.int .u64 y.2.2]):=by rw[<-hW3];exact Bk.new _ _ _
        have HB3:VF w10 W3:=M.o.trans (hb3.mono zr);have n0:=bz.o.cell 0;have n1:=bz.o.cell 1;have n2:=bz.o.cell 2;simp at n0 n1 n2;obtain⟨_,_,g5,_⟩:=(qA.o.below HB3.o (by omega)).seven;have HW3:=ai hW3;rw[hA];clear hc hy hb3 hW3;by_cases hne:y.1=nm
        . have t1: (y.1.toList == nm.toList)=true:=by rw[hne];simp
          have t2: (y.1.toList != nm.toList)=false:=by rw[hne];simp
          clear hne
          go_upto_region 14 with fail
          rw[HW3.o];clear HW3;go_wp2_with fail;go_roundw
          case rel=>exact⟨k+1,by omega,by go_num,HB3.o⟩
          case measure=>simp[intOf];omega
        . have t1:=Ij hne
          have t2: (y.1.toList != nm.toList)=true:=by rw[bne,t1];rfl
          have wo:=ai (JW t.rA q.rs.length t.rc w10.heap.size q.rs y W3 (uD.o.below HB3.o aj) HB3.o.size (by omega) (HY.o hne));clear hne
          go_upto_region 14 with fail
          rw[HW3.o];clear HW3;go_wp2_with fail;refine wo.o.mono ?_;rintro e uw ⟨rfl,B⟩;have I:VF w10 uw:=HB3.o.trans (B.mono HB3.o.size);clear B n0 n1 n2 g5 x0 x1 x2;go_wp2_with fail;go_roundw
          case rel=>exact⟨k+1,by omega,by go_num,I.o⟩
          case measure=>simp[intOf];omega
      . have hlz:¬(k:Int)< (rn:Int):=by omega
        have wz:VF w wr:=P.o.trans (M.o.mono P.o.size);have HZ:=ai (C.o _ wz.o);go_wp2_with fail;refine HZ.o.mono ?_;rintro e uw ⟨rfl,B⟩;have I:=ai B;clear B;go_wp2_with fail;go_ret
        exact⟨rfl,I.o⟩
section
open Go.ChangeShapes Go.WideShapes Go.ChangeAt Go.RowKit Go.Joins Go.Deep
theorem FT:Tryz.prog.cellsOf 48=1:=by kernel_rfl
theorem Hu:Tryz.prog.cellsOf 50=2:=by kernel_rfl
theorem Hz:Tryz.prog.cellsOf 118=3:=by kernel_rfl
theorem Va{α:Type}{l:List α}(h:l.length=5):∃a b c d e,l= [a,b,c,d,e]:=by
 match l,h with
 | [a,b,c,d,e],_=>exact⟨a,b,c,d,e,rfl⟩
section
variable {H : Type} {enc : TypeId × VC -> H} {P : Program} {w : VA} {base : Nat} {spare : Nat -> Bool} {held : Bool} {fuel : Nat} {cs : List VC} {x : DataW H × List MemPlace}
theorem yf{t s:TypeId}(ht:P.underlying t=some (.array 2 s))(hs:P.underlying s=some (.int .u64))
  (hC:P.cellsOf t=2) (hcs:P.cellsOf s=1) (h:DataW.trod enc P w base spare held fuel t cs=some x):∃d:Dig,cs=dgC d/\WfD d:=by
 obtain⟨xs,m,_,_,hlen,hxl,hf⟩:=DataW.trod_array ht h;rw[hC]at hlen;obtain⟨c0,c1,rfl⟩:=qX hlen;obtain⟨y0,y1,rfl⟩:=qX hxl;have h0:=hf 0 (by omega);have h1:=hf 1 (by omega);rw[hcs]at h0 h1;simp at h0 h1;obtain⟨a,ha,_,hz⟩:=DataW.trod_int hs h0;obtain⟨b,hb,_,hz2⟩:=DataW.trod_int hs h1;simp at ha hb;obtain⟨w1,w2⟩:=bounds_u64 hz;obtain⟨w3,w4⟩:=bounds_u64 hz2;exact⟨(a,b),by rw[ha,hb];rfl,⟨w1,by omega,w3,by omega⟩⟩
theorem PO{t e s u:TypeId}{f0 f1:Field}(ht:P.underlying t=some (.struct #[f0,f1]))(o0:f0.offset=0)(o1:f1.offset=2)(t0:f0.type=e)(t1:f1.type=s)
  (he:P.underlying e=some (.array 2 u)) (hu:P.underlying u=some (.int .u64)) (hs:P.underlying s=some .string)
  (hC:P.cellsOf t=3) (hce:P.cellsOf e=2) (hcu:P.cellsOf u=1) (hcs:P.cellsOf s=1) (h:DataW.trod enc P w base spare held fuel t cs=some x):∃i:Itm,cs=itC i/\WfD i.1/\i.2.size<=maxLen:=by
 obtain⟨xs,m,_,_,hlen,hxl,hf⟩:=DataW.trod_struct ht h;rw[hC]at hlen;obtain⟨c0,c1,c2,rfl⟩:=ve hlen;obtain⟨y0,y1,rfl⟩:=qX hxl;have h0:=hf 0 f0 rfl;have h1:=hf 1 f1 rfl;rw[o0,t0,hce]at h0;rw[o1,t1,hcs]at h1;simp at h0 h1;obtain⟨d,hd,hw⟩:=yf he hu hce hcu h0;obtain⟨b,hb,_,hz⟩:=DataW.trod_string hs h1;simp[dgC]at hd hb;exact⟨(d,b),by rw[hd.1,hd.2,hb];rfl,hw,hz⟩
end
section
variable {H : Type} {enc : TypeId × VC -> H} {W : VA} {base : Nat} {v : VC} {d : DataW H} {p : List MemPlace} {r : Reach} {b0 : Nat} {sp : Nat -> Bool} {held : Bool}
end
end
section
open Go.ChangeShapes Go.WideShapes Go.ChangeAt Go.RowKit Go.Joins Go.Deep
theorem Ht:Tryz.prog.cellsOf 85=5:=by kernel_rfl
theorem Hw:Tryz.prog.cellsOf 65=7:=by kernel_rfl
theorem TD:Tryz.prog.cellsOf 42=3:=by kernel_rfl
theorem Tz:Tryz.prog.cellsOf 29=1:=by kernel_rfl
theorem TG:Tryz.prog.cellsOf 31=1:=by kernel_rfl
theorem TE:Tryz.prog.cellsOf 59=1:=by kernel_rfl
theorem TC:Tryz.prog.cellsOf 40=1:=by kernel_rfl
theorem yY:Tryz.prog.cellsOf 3=1:=by kernel_rfl
theorem Jb{α:Type}{l:List α}(h:l.length=7):∃a b c d e f g,l= [a,b,c,d,e,f,g]:=by
 match l,h with
 | [a,b,c,d,e,f,g],_=>exact⟨a,b,c,d,e,f,g,rfl⟩
section
variable {H : Type} {enc : TypeId × VC -> H} {P : Program} {w : VA} {base : Nat} {spare : Nat -> Bool} {held : Bool} {fuel : Nat} {cs : List VC} {x : DataW H × List MemPlace}
theorem QX{t e s u:TypeId}{f0 f1 f2:Field}(ht:P.underlying t=some (.struct #[f0,f1,f2]))(o0:f0.offset=0)(o1:f1.offset=1)(o2:f2.offset=3)(t0:f0.type=s)(t1:f1.type=e)(t2:f2.type=e)
  (he:P.underlying e=some (.array 2 u)) (hu:P.underlying u=some (.int .u64)) (hs:P.underlying s=some .string)
  (hC:P.cellsOf t=5) (hce:P.cellsOf e=2) (hcu:P.cellsOf u=1) (hcs:P.cellsOf s=1) (h:DataW.trod enc P w base spare held fuel t cs=some x):∃i:Upd,cs=upC i/\i.1.size<=maxLen/\WfU i:=by
 obtain⟨xs,m,_,_,hlen,hxl,hf⟩:=DataW.trod_struct ht h;rw[hC]at hlen;obtain⟨c0,c1,c2,c3,c4,rfl⟩:=Va hlen;obtain⟨y0,y1,y2,rfl⟩:=ve hxl;have h0:=hf 0 f0 rfl;have h1:=hf 1 f1 rfl;have h2:=hf 2 f2 rfl;rw[o0,t0,hcs]at h0;rw[o1,t1,hce]at h1;rw[o2,t2,hce]at h2;simp at h0 h1 h2;obtain⟨b,hb,_,hz⟩:=DataW.trod_string hs h0;obtain⟨d,hd,hw⟩:=yf he hu hce hcu h1;obtain⟨q,hq,hv⟩:=yf he hu hce hcu h2;simp[dgC]at hd hb hq;exact⟨(b,d,q),by rw[hd.1,hd.2,hb,hq.1,hq.2];rfl,hz,hw,hv⟩
theorem PY{t i s ft pt ut kt:TypeId}{f0 f1 f2 f3 f4 f5 f6:Field}(ht:P.underlying t=some (.struct #[f0,f1,f2,f3,f4,f5,f6]))
  (o0:f0.offset=0) (o1:f1.offset=1) (o2:f2.offset=2) (o3:f3.offset=3) (o4:f4.offset=4) (o5:f5.offset=5) (o6:f6.offset=6)
  (t0:f0.type=i) (t1:f1.type=s) (t2:f2.type=ft) (t3:f3.type=pt) (t4:f4.type=ut) (t5:f5.type=i) (t6:f6.type=kt)
  (hi:P.underlying i=some (.int .i64)) (hs:P.underlying s=some .string) (hC:P.cellsOf t=7) (hci:P.cellsOf i=1) (hcs:P.cellsOf s=1) (hcf:P.cellsOf ft=1) (hcp:P.cellsOf pt=1) (hcu:P.cellsOf ut=1) (hck:P.cellsOf kt=1)
  (kf:∀(fuel:Nat)(cs:List VC)(x:DataW H×List MemPlace),DataW.trod enc P w base spare held fuel ft cs=some x->∃A n c xs,cs= [.slice A n c]/\Sl w w.heap.size 2 A n (flat flC xs)/\n<=c/\c<=maxLen/\∀f∈xs,f.1.size<=maxLen/\f.2.size<=maxLen)
  (kp:∀(fuel:Nat)(cs:List VC)(x:DataW H×List MemPlace),DataW.trod enc P w base spare held fuel pt cs=some x->∃A n c xs,cs= [.slice A n c]/\Sl w w.heap.size 3 A n (flat itC xs)/\n<=c/\c<=maxLen/\∀i∈xs,WfD i.1/\i.2.size<=maxLen)
  (ku:∀(fuel:Nat)(cs:List VC)(x:DataW H×List MemPlace),DataW.trod enc P w base spare held fuel ut cs=some x->∃A n c xs,cs= [.slice A n c]/\Sl w w.heap.size 5 A n (flat upC xs)/\n<=c/\c<=maxLen/\∀u∈xs,u.1.size<=maxLen/\WfU u)
  (kk:∀(fuel:Nat)(cs:List VC)(x:DataW H×List MemPlace),DataW.trod enc P w base spare held fuel kt cs=some x->∃A n c xs,cs= [.slice A n c]/\Sl w w.heap.size 1 A n (flat lh xs)/\n<=c/\c<=maxLen/\∀q∈xs,(q:Int)<=9223372036854775807)
  (h:DataW.trod enc P w base spare held fuel t cs=some x):∃a:AcX,cs=acC a/\AcM w w.heap.size a/\AcB a.1:=by
 obtain⟨xs,m,_,_,hlen,hxl,hf⟩:=DataW.trod_struct ht h;rw[hC]at hlen;obtain⟨c0,c1,c2,c3,c4,c5,c6,rfl⟩:=Jb hlen;obtain⟨y0,y1,y2,y3,y4,e,y6,rfl⟩:=Jb hxl;have h0:=hf 0 f0 rfl;have h1:=hf 1 f1 rfl;have h2:=hf 2 f2 rfl;have h3:=hf 3 f3 rfl;have h4:=hf 4 f4 rfl;have h5:=hf 5 f5 rfl;have h6:=hf 6 f6 rfl;rw[o0,t0,hci]at h0;rw[o1,t1,hcs]at h1;rw[o2,t2,hcf]at h2;rw[o3,t3,hcp]at h3;rw[o4,t4,hcu]at h4;rw[o5,t5,hci]at h5;rw[o6,t6,hck]at h6;simp at h0 h1 h2 h3 h4 h5 h6;obtain⟨k,hk,_,_⟩:=DataW.trod_int hi h0;obtain⟨b,hb,_,hz⟩:=DataW.trod_string hs h1;obtain⟨A2,n2,d2,l2,e2,s2,u2,v2,q2⟩:=kf _ _ _ h2;obtain⟨A3,n3,d3,l3,e3,s3,u3,v3,q3⟩:=kp _ _ _ h3;obtain⟨A4,n4,d4,l4,e4,s4,u4,v4,q4⟩:=ku _ _ _ h4;obtain⟨k5,hk5,_,d⟩:=DataW.trod_int hi h5;obtain⟨A6,n6,d6,l6,e6,s6,u6,v6,q6⟩:=kk _ _ _ h6;have m2:=s2.len iw (by omega);have m3:=s3.len dD (by omega);have m4:=s4.len gz (by omega);have m6:=Sl.len (enc:=lh) (s:=1) (fun _=>rfl) (by decide) s6;subst m2;subst m3;subst m4;subst m6;have w2:=(bounds_i64 d).2;simp at hk hb e2 e3 e4 hk5 e6;exact⟨(⟨k,b,l2,l3,l4,k5,l6⟩,⟨A2,d2,A3,d3,A4,d4,A6,d6⟩),by rw[hk,hb,e2,e3,e4,hk5,e6];rfl,⟨s2,s3,s4,s6⟩,⟨ZY u2 v2,q2,ZY u3 v3,q3,ZY u4 v4,q4,ZY u6 v6,hz,w2⟩⟩
theorem Qh{t i l:TypeId}{f0 f1 f2:Field}(ht:P.underlying t=some (.struct #[f0,f1,f2]))(o0:f0.offset=0)(o1:f1.offset=1)(o2:f2.offset=2)(t0:f0.type=i)(t1:f1.type=i)(t2:f2.type=l)
  (hi:P.underlying i=some (.int .i64)) (hC:P.cellsOf t=3) (hci:P.cellsOf i=1) (hcl:P.cellsOf l=1)
  (kl:∀(fuel:Nat)(cs:List VC)(x:DataW H×List MemPlace),DataW.trod enc P w base spare held fuel l cs=some x->∃A n c xs,cs= [.slice A n c]/\Sl w w.heap.size 7 A n (flat acC xs)/\n<=c/\c<=maxLen/\∀a∈xs,AcM w w.heap.size a/\AcB a.1)
  (h:DataW.trod enc P w base spare held fuel t cs=some x):∃n z A m c l,cs= [.int .i64 n,.int .i64 z,.slice A m c]/\AcsM w w.heap.size A m l/\m<=maxLen/\∀a∈l,AcB a.1:=by
 obtain⟨xs,m,_,_,hlen,hxl,hf⟩:=DataW.trod_struct ht h;rw[hC]at hlen;obtain⟨c0,c1,c2,rfl⟩:=ve hlen;obtain⟨y0,y1,y2,rfl⟩:=ve hxl;have h0:=hf 0 f0 rfl;have h1:=hf 1 f1 rfl;have h2:=hf 2 f2 rfl;rw[o0,t0,hci]at h0;rw[o1,t1,hci]at h1;rw[o2,t2,hcl]at h2;simp at h0 h1 h2;obtain⟨k,hk,_⟩:=DataW.trod_int hi h0;obtain⟨z,hz,_⟩:=DataW.trod_int hi h1;obtain⟨A2,n2,d2,l2,e2,s2,u2,v2,q2⟩:=kl _ _ _ h2;simp at hk hz e2;exact⟨k,z,A2,n2,d2,l2,by rw[hk,hz,e2],⟨s2,fun x hx=>(q2 x hx).1⟩,ZY u2 v2,fun x hx=>(q2 x hx).2⟩
end
section
variable {H : Type} {enc : TypeId × VC -> H} {W : VA} {base : Nat} {v : VC} {d : DataW H} {p : List MemPlace} {r : Reach} {b0 : Nat} {sp : Nat -> Bool} {held : Bool} {fuel : Nat} {cs : List VC} {x : DataW H × List MemPlace}
theorem SL(h:DataW.trod enc Tryz.prog W base sp held fuel 65 cs=some x):∃a:AcX,cs=acC a/\AcM W W.heap.size a/\AcB a.1 :=
 PY Tryz.underlying65 rfl rfl rfl rfl rfl rfl rfl rfl rfl rfl rfl rfl rfl rfl Tryz.underlying3 Tryz.underlying9 Hw yY qg Q4 Tz TG TE
  (fun _ _ _ hh=>nH (encA:=flC) (Q:=fun f=>f.1.size<=maxLen/\f.2.size<=maxLen) Tryz.underlying63 uy (by omega) iw (fun _ _ _ hh=>EF Tryz.underlying82 rfl rfl rfl rfl Tryz.underlying9 uy qg hh) hh)
  (fun _ _ _ hh=>nH (encA:=itC) (Q:=fun i=>WfD i.1/\i.2.size<=maxLen) Tryz.underlying29 Hz (by omega) dD (fun _ _ _ hh=>PO Tryz.underlying118 rfl rfl rfl rfl Tryz.underlying50 Tryz.underlying48 Tryz.underlying9 Hz Hu FT qg hh) hh)
  (fun _ _ _ hh=>nH (encA:=upC) (Q:=fun u=>u.1.size<=maxLen/\WfU u) Tryz.underlying31 Ht (by omega) gz (fun _ _ _ hh=>QX Tryz.underlying85 rfl rfl rfl rfl rfl rfl Tryz.underlying50 Tryz.underlying48 Tryz.underlying9 Ht Hu FT qg hh) hh)
  (fun _ _ _ hh=>nH (encA:=lh) (Q:=fun q=>q<=9223372036854775807) Tryz.underlying59 yY (by omega) (fun _=>rfl) (fun _ _ _ hh=>by
    obtain⟨k,hk,_,hz⟩:=DataW.trod_int Tryz.underlying3 hh;exact⟨k,hk,by have:=(bounds_i64 hz).2;omega⟩) hh) h
theorem open_run(hv:Value.okWide Tryz.prog W r b0 42 v)(h:DataW.Trod enc Tryz.prog W base sp held 42 v d p):∃n z A m c l,v=kJ n z A m c/\AcsM W W.heap.size A m l/\m<=maxLen/\∀a∈l,AcB a.1:=by
 obtain⟨cs,rfl,hsz⟩:=okWide_struct Tryz.underlying42 hv;obtain⟨fuel,hf⟩:=h;obtain⟨n,z,A,m,c,l,he,k⟩:=Qh Tryz.underlying42 rfl rfl rfl rfl rfl rfl Tryz.underlying3 TD yY TC (fun _ _ _ hh=>nH (encA:=acC) (Q:=fun a=>AcM W W.heap.size a/\AcB a.1) Tryz.underlying40 Hw (by omega) um (fun _ _ _ hh=>SL hh) hh) hf;refine⟨n,z,A,m,c,l,?_,k⟩;have:cs.toList= [.int .i64 n,.int .i64 z,.slice A m c]:=he;unfold kJ;rw[show cs= #[.int .i64 n,.int .i64 z,.slice A m c] by rw[<-Array.toArray_toList (xs:=cs),this]]
end
end
