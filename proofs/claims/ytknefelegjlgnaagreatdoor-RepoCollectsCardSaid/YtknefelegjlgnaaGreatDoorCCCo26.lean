/-
  Lemmas of the card.
-/
import Derived.Test.YtknefelegjlgnaaGreatDoorCCCo25
set_option maxRecDepth 100000
set_option maxHeartbeats 16000000
namespace Go.Proofs.YtknefelegjlgnaaGreatDoor
open Go.RowKit
theorem Qj{l:List AcX}{k:Nat}{x:AcX}(hx:l[k]? =some x)(h:∀y∈l.take k,AcF y.1)(hf:AcF x.1):∀y∈l.take (k+1),AcF y.1:=fun y hy=>by
 rw[aW hx]at hy;rcases List.mem_append.1 hy with hy | hy
 . exact h y hy
 . rw[List.mem_singleton.1 hy];exact hf
def GX(n z:Int)(l:List AcX)(w:SX)(e:Ending)(w':SX):Prop:=∃r:Bool,e= .returned (.bool r)/\ (r=true->l.length<=8/\n<=100/\z<=128/\∀a∈l,AcF a.1)/\Tf w w'
theorem NV(n z:Int)(l:List AcX)(A:OA)(m c B:Nat)(w:SX)(h:AcsM w B A m l)(hb:∀a∈l,AcB a.1)(hB:B<=w.heap.size)(hm:m<=maxLen) :
  Calls Tryz.prog 47 #[jW n z A m c] w (GX n z l w):=by
 unfold maxLen at hm;have j:=ai (h.s.len tq (by omega));obtain⟨W,hW⟩:=NX9 (w.alloc (.cells #[.int .i64 n,.int .i64 z,.slice A m c] 42))
 have HB0:Ti w W:=by rw[<-hW];exact(ah _ w).alloc aj _
 have HK:Hid (Bk W w.heap.size 42 #[.int .i64 n,.int .i64 z,.slice A m c]):=by rw[<-hW];exact Bk.new w _ _
 have H:=ai h;have HAB:=ai hb;have o:=ai hB;have HW:=ai hW;clear hW h hb;unfold jW;obtain⟨k0,k1,k2⟩:=HK.o.three;by_cases c1: (8:Int)< (m:Int)
 . go_enter Tryz.func47,Tryz.ntmps47
   go_wp2_with fail;rw[HW.o];go_ret
   exact⟨false,rfl,(fun h=>by cases h),HB0.o⟩
 by_cases c2:100<n
 . go_enter Tryz.func47,Tryz.ntmps47
   go_wp2_with fail;rw[HW.o];go_ret
   exact⟨false,rfl,(fun h=>by cases h),HB0.o⟩
 by_cases c3:128<z
 . go_enter Tryz.func47,Tryz.ntmps47
   go_wp2_with fail;rw[HW.o];go_ret
   exact⟨false,rfl,(fun h=>by cases h),HB0.o⟩
 go_enter Tryz.func47,Tryz.ntmps47
 go_wp2_with fail;rw[HW.o]
 go_loopw[22] (fun i wr=>∃k:Nat,k<=m/\i= .int .i64 k/\Ti w wr/\Hid (∀y∈l.take k,AcF y.1)) (fun i _=>m - (intOf i).toNat)
 case atStart=>exact⟨0,ZX _,rfl,HB0.o,fun y hy=>by simp at hy⟩
 case round =>
  obtain⟨k,hk,rfl,hBr,hF⟩:=hrel;have d:=ai hBr.o;have HF:=ai hF.o;clear hBr hF k0 k1 k2;by_cases hlt:k<m
  . obtain⟨b,off,x,rfl,hbB,hx,⟨x0,x1,x2,x3⟩,x4,x5,x6⟩:=(H.o.below d.o o.o).s.ac hlt
    have hlz: (k:Int)< (m:Int):=by omega
    have HX:=ai hx;obtain⟨wx,hwx⟩:=NX9 (wr.alloc (.cells (acA x) 65))
    have hbx:Tf wr wx:=by rw[<-hwx];exact(ah _ wr).alloc aj _
    have p:Hid (Bk wx wr.heap.size 65 (acA x)):=by rw[<-hwx];exact Bk.new wr _ _
    have f:Ti w wx:=d.o.trans (hbx.mono d.o.size);have hmem:x∈l:=Z7 hx;have HC:=ai (Oz x B wx ((H.o.m x hmem).below f.o o.o) (HAB.o x hmem) (by have:=f.o.size;omega));have q:=ai hwx;clear hx hwx hbx hmem;unfold Ht at HC;simp only[acA]at p q HC;obtain⟨⟨y0,y1,y2,y3⟩,y4,u,y6⟩:=p.o.seven;go_wp2_with fail;rw[q.o];refine HC.o.mono ?_;rintro e w1 ⟨g,rfl,hg,hb1⟩;have HG:=ai hg;have HB1:Ti w w1:=f.o.trans (hb1.mono f.o.size);clear hg hb1 HC x0 x1 x2 x3 x4 x5 x6 y0 y1 y2 y3 y4 u y6;cases g with
    | false =>
      go_wp2_with fail;go_ret
      exact⟨false,rfl,(fun h=>by cases h),HB1.o⟩
    | true =>
      have r:=ai (Qj HX.o HF.o (HG.o (by simp)));go_wp2_with fail;go_roundw
      case rel=>exact⟨k+1,hlt,by go_num,HB1.o,r.o⟩
      case measure=>simp[intOf];omega
  . have hlz:¬(k:Int)< (m:Int):=by omega
    have t:Hid (∀y∈l,AcF y.1):=by
     have:=HF.o
     rwa[ZU (by rw[j.o];omega)]at this
    go_wp2_with fail;go_ret
    exact⟨true,rfl,fun _=>⟨by rw[j.o];omega,by omega,by omega,t.o⟩,d.o⟩
def zq(w:SX)(e:Ending)(w':SX):Prop:=∃(ok:Bool)(r':Rp)(s':Rsl),e= .returned (.tuple #[rpV r' s',.bool ok])/\ (ok=true->RI r')/\RpM w' w'.heap.size r' s'/\Tf w w'
theorem QT{n z:Int}(hr:jI n z=true)(hn:n<=100)(hz:z<=128)(h3:3<= (aX n.toNat z.toNat).ss.length) :
  RI ⟨(aK (aX n.toNat z.toNat) (bT (aX n.toNat z.toNat).sz (aX n.toNat z.toNat).ss)).1,[],[],[]⟩/\ (aK (aX n.toNat z.toNat) (bT (aX n.toNat z.toNat).sz (aX n.toNat z.toNat).ss)).2=0:=by
 unfold jI at hr;simp only[decide_eq_true_eq]at hr;have ho: (aX n.toNat z.toNat).Ok:=sZ (by omega) (by omega) (by omega) (by omega);obtain⟨h1,h2,_,_⟩:=EJ ho h3 rfl rfl;obtain⟨g1,g2⟩:=lD (bT (aX n.toNat z.toNat).sz (aX n.toNat z.toNat).ss) (aX n.toNat z.toNat);refine⟨⟨?_,?_,by show(aK _ _).1.pn.length<=1000;rw[h2.pn];exact ZX _,.inl ⟨[],h2,Mt.nil⟩⟩,h1⟩
 . show(aK _ _).1.ss.length<=100
   rw[g2];simp[aX];omega
 . show(aK _ _).1.sz<=128
   rw[g1];simp[aX];omega
theorem IU(hpck:jT)(n z:Int)(l:List AcX)(A:OA)(m c B:Nat)(w:SX)(h:AcsM w B A m l)(hb:∀a∈l,AcB a.1)(hB:B<=w.heap.size)(hm:m<=maxLen) :
  Calls Tryz.prog 16 #[jW n z A m c] w (zq w):=by
 obtain⟨W,hW⟩:=NX9 ((w.alloc (.cells #[.int .i64 n,.int .i64 z,.slice A m c] 42)).alloc (.cells rzC 35))
 have HB0:Ti w W:=by rw[<-hW];exact((ah _ w).alloc aj _).alloc (by simp) _
 have HK:Hid (Bk W w.heap.size 42 #[.int .i64 n,.int .i64 z,.slice A m c]):=by rw[<-hW];exact(Bk.new w _ _).alloc _
 have HZ:Hid (Bk W (w.heap.size+1) 35 rzC):=by rw[<-hW];exact(Bk.new _ _ _).at_ (by simp)
 have zW:W.heap.size=w.heap.size+2:=by rw[<-hW];simp
 have HF:=ai (NV n z l A m c B W (h.below HB0.o hB) hb (by omega) hm);have H:=ai h;have Q:=ai hB;have bz:=ai (h.s.len tq (by unfold maxLen at hm;omega));have HW:=ai hW;clear hW h hb hm;have J:Hid (∀w',Tf w w'->zq w (.returned (.tuple #[.agg rzC,.bool false])) w'):=fun w' hb=>⟨false,zRp,zRs,rfl,(fun h=>by cases h),RpM.zero _ _,hb⟩
 unfold GX at HF;unfold jW at HF ⊢;obtain⟨k0,k1,k2⟩:=HK.o.three
 go_enter Tryz.func16,Tryz.ntmps16
 go_wp2_with fail;rw[HW.o];refine HF.o.mono ?_;rintro e w1 ⟨g,rfl,hg,hb1⟩;have HG:=ai hg;have HB1:Ti w w1:=HB0.o.trans (hb1.mono HB0.o.size);have E:=ai (HK.o.below hb1 (by omega));have HZ1:=ai (HZ.o.below hb1 (by omega));have z1:w.heap.size+2<=w1.heap.size:=by have:=hb1.size;omega
 clear hg hb1 HF k0 k1 k2 HK HZ HB0;obtain⟨k0,k1,k2⟩:=E.o.three;cases g with
 | false =>
   obtain⟨⟨f0,f1,f2,f3⟩,f4,f5,f6⟩:=HZ1.o.free7;obtain⟨⟨z0,z1,z2,z3⟩,z4,z5,z6⟩:=HZ1.o.seven;go_wp2_with fail;exact ZW (eH Tryz.results16 rfl (HZ1.o.set7 _ _ _ _ _ _ _) rfl) rfl (J.o _ (dS HB1.o (by omega) _ _ _ _ _ _ _))
 | true =>
   obtain⟨iU,hn,hz,hfs⟩:=HG.o (by simp);have ku:m<=8:=by have:=bz.o;omega
   have R:=ai hfs;clear hfs HG;have HD:=ai (DW n z w1);unfold bu at HD;cases hr:jI n z with
   | false =>
     rw[hr]at HD;simp only[Bool.false_eq_true,if_false,zDk,dkV,dkC,List.length_nil]at HD;go_wp2_with fail;refine HD.o.mono ?_;rintro e w2 ⟨s',rfl,_,hb2⟩;have HB2:Ti w w2:=HB1.o.trans (hb2.mono (by omega));have HZ2:=ai (HZ1.o.below hb2 (by omega));have cu:=hb2.size;clear hb2 HD k0 k1 k2 E HZ1 HB1;obtain⟨w3,hw3⟩:=NX9 (w2.alloc (.cells #[.int .i64 0,.slice s'.a1 0 s'.c1,.slice s'.a2 0 s'.c2,.int .i64 0] 25))
     have HB3:Ti w w3:=by rw[<-hw3];exact HB2.o.alloc (by omega) _
     have HZ3:Hid (Bk w3 (w.heap.size+1) 35 rzC):=by rw[<-hw3];exact HZ2.o.alloc _
     have HW3:=ai hw3;clear hw3 HZ2 HB2;obtain⟨⟨f0,f1,f2,f3⟩,f4,f5,f6⟩:=HZ3.o.free7;obtain⟨⟨z0,z1,z2,z3⟩,z4,z5,z6⟩:=HZ3.o.seven
     go_upto_region 5 with fail
     rw[HW3.o];go_wp2_with fail;exact ZW (eH Tryz.results16 rfl (HZ3.o.set7 _ _ _ _ _ _ _) rfl) rfl (J.o _ (dS HB3.o (by omega) _ _ _ _ _ _ _))
   | true =>
     have hr':=hr;unfold jI at hr';simp only[decide_eq_true_eq]at hr';have K:Hid ((aX n.toNat z.toNat).Ok):=sZ (by omega) (by omega) (by omega) (by omega);have S:=ai (fun h3=>QT hr hn hz h3);have hlen: (aX n.toNat z.toNat).ss.length=n.toNat:=by simp[aX]
     have f: (aX n.toNat z.toNat).pn.length=0:=rfl;rw[hr]at HD;simp only[if_true]at HD;obtain⟨d,hd⟩:=NX9 (aX n.toNat z.toNat)
     rw[hd]at HD K S hlen f;clear hd hr';obtain⟨dn,hdn⟩:=NX9 d.ss.length
     simp only[dkV,dkC,f,hdn]at HD;go_wp2_with fail;refine HD.o.mono ?_;rintro e w2 ⟨s',rfl,hm2,hb2⟩;have HB2:Ti w w2:=HB1.o.trans (hb2.mono (by omega));have T:=ai (E.o.below hb2 (by omega));have HZ2:=ai (HZ1.o.below hb2 (by omega));have cu:=hb2.size;clear hb2 HD k0 k1 k2 E HZ1 HB1;obtain⟨w3,hw3⟩:=NX9 (w2.alloc (.cells #[.int .i64 d.sz,.slice s'.a1 dn s'.c1,.slice s'.a2 0 s'.c2,.int .i64 d.lf] 25))
     have hb3:Tf w2 w3:=by rw[<-hw3];exact(ah _ w2).alloc aj _
     have HB3:Ti w w3:=HB2.o.trans (hb3.mono (by omega));have L:=ai (T.o.below hb3 (by omega));have HZ3:=ai (HZ2.o.below hb3 (by omega));have HD3:Hid (Bk w3 w2.heap.size 25 #[.int .i64 d.sz,.slice s'.a1 dn s'.c1,.slice s'.a2 0 s'.c2,.int .i64 d.lf]):=by rw[<-hw3];exact Bk.new _ _ _
     have z3:=hb3.size;have F:=hm2.below hb3 aj;have HW3:=ai hw3;clear hw3 hb3 hm2 HZ2 T HB2;obtain⟨l0,l1,l2,l3⟩:=HD3.o.dk4;by_cases h3:3<=d.ss.length
     . obtain⟨p,hx0⟩:=S.o h3
       have HR0:=ai p;have HI:=ai (Eg d s' w2.heap.size w3 K.o h3 (by omega) F z3);unfold fH at HI;rw[hx0]at HI;obtain⟨r0,hr0⟩:=NX9 ((⟨(aK d (bT d.sz d.ss)).1,[],[],[]⟩:Rp))
       rw[hr0]at HI HR0;simp only[dkV,dkC,f,hdn,rpV,rpC]at HI;clear p hx0 hr0 F l0 l1 l2 l3;go_wp2_with fail;rw[HW3.o];refine HI.o.mono ?_;rintro e w4 ⟨s4,rfl,hm4,hb4⟩;have HB4:Ti w w4:=HB3.o.trans (hb4.mono (by omega));have U:=ai (L.o.below hb4 (by omega));have r:=ai (HZ3.o.below hb4 (by omega));have V:=hb4.size;clear hb4 HI L HZ3 HD3 HB3;obtain⟨w5,hw5⟩:=NX9 (w4.alloc (.cells (rpC r0 s4) 35))
       have hb5:Tf w4 w5:=by rw[<-hw5];exact(ah _ w4).alloc aj _
       have M:Ti w w5:=HB4.o.trans (hb5.mono (by omega));have cO:=ai (U.o.below hb5 (by omega));have v:=ai (r.o.below hb5 (by omega));have X:Hid (Bk w5 w4.heap.size 35 (rpC r0 s4)):=by rw[<-hw5];exact Bk.new _ _ _
       have dN:Hid (RpM w5 w5.heap.size r0 s4):=(hm4.below hb5 aj).more hb5.size;have z5:w5.heap.size=w4.heap.size+1:=by rw[<-hw5];simp
       have C:=ai hw5;clear hw5 hb5 hm4 U r HB4;simp only[rpC]at C;obtain⟨k0,k1,k2⟩:=cO.o.three;obtain⟨b6,hb6⟩:=NX9 w4.heap.size
       rw[hb6]at X z5 V
       go_upto_region 7 with fail
       rw[C.o];clear C
       try simp only[hb6]
       clear hb6;go_wp2_with fail
       go_loopw[36] (fun i wr=>∃(k:Nat)(r':Rp)(s':Rsl),k<=m/\i= .int .i64 k/\Hid (RI r')/\Hid (RpM wr wr.heap.size r' s')/\Hid (Bk wr b6 35 (rpC r' s'))/\Hid (Bk wr (w.heap.size+1) 35 rzC)/\Ti w wr/\b6<wr.heap.size) (fun i _=>m - (intOf i).toNat)
       case atStart=>exact⟨0,r0,s4,ZX _,rfl,HR0.o,dN.o,X.o,v.o,M.o,by omega⟩
       case round =>
        obtain⟨k,r1,s1,hk,rfl,p,hrm,hN,hZ,hBr,hbz⟩:=hrel;have j:=ai p.o;have N:=ai hrm.o;have HN:=ai hN.o;have o:=ai hZ.o;have G:=ai hBr.o;clear p hrm hN hZ hBr k0 k1 k2;by_cases hlt:k<m
        . obtain⟨b,off,x,rfl,hbB,hx,⟨x0,x1,x2,x3⟩,x4,x5,x6⟩:=(H.o.below G.o Q.o).s.ac hlt
          have hlz: (k:Int)< (m:Int):=by omega
          obtain⟨wx,hwx⟩:=NX9 (wr.alloc (.cells (acA x) 65))
          have hbx:Tf wr wx:=by rw[<-hwx];exact(ah _ wr).alloc aj _
          have Y:Hid (Bk wx wr.heap.size 65 (acA x)):=by rw[<-hwx];exact Bk.new wr _ _
          have D:Ti w wx:=G.o.trans (hbx.mono G.o.size);have zx:=hbx.size;have O:=ai (HN.o.below hbx hbz);have Z:=ai (o.o.below hbx (by omega));have hmem:x∈l:=Z7 hx;obtain⟨gs,a,u,hlv⟩:∃gs a u,r1.d.lf≠0->Lvs r1 gs a u:=by
           by_cases h0:r1.d.lf=0
           . exact⟨[],0,0,fun h=>absurd h0 h⟩
           . obtain⟨gs,a,u,h⟩:=j.o.lv h0
             exact⟨gs,a,u,fun _=>h⟩
          have ed:=ai hlv;have fA:=ai (R.o x hmem);have HC:=ai (QP hpck r1 s1 gs a u x wx.heap.size wx j.o hlv ((N.o.below hbx aj).more zx) (((H.o.m x hmem).below D.o Q.o).more (by have:=D.o.size;omega)) (R.o x hmem) aj);have P:=ai hwx;have hnr:=HN.o;simp only[rpC]at hnr;clear hx hwx hbx hmem hlv HN o N;unfold fH at HC;simp only[acA,rpV,rpC]at Y P HC O;obtain⟨⟨v0,v1,v2,v3⟩,v4,v5,v6⟩:=hnr.seven;clear hnr;go_wp2_with fail;rw[P.o];refine HC.o.mono ?_;rintro e w6 ⟨r2,y,⟨s2,rfl,ag,hb6⟩,hdo⟩;have HR2:=ai (hdo.ri j.o ed.o fA.o);have fO:=ai ag;have fU:Ti w w6:=D.o.trans (hb6.mono D.o.size);have I:=ai (O.o.below hb6 (by omega));have gu:=ai (Z.o.below hb6 (by omega));have z6:=hb6.size;clear hdo ag hb6 HC Y O Z D P x0 x1 x2 x3 x4 x5 x6 v0 v1 v2 v3 v4 v5 v6;obtain⟨⟨v0,v1,v2,v3⟩,v4,v5,v6⟩:=I.o.seven;obtain⟨⟨f0,f1,f2,f3⟩,f4,f5,f6⟩:=I.o.free7
          go_upto_region 13 with fail
          rw[jR w6 b6 r2 s2];have e7:=iP w6 b6 r2 s2;have au:Hid (RpM (stR w6 b6 r2 s2) (stR w6 b6 r2 s2).heap.size r2 s2):=(fO.o.st (q:=r1) (t:=s1) I.o).more (by omega);have bf:Hid (Bk (stR w6 b6 r2 s2) b6 35 (rpC r2 s2)):=I.o.set7 _ _ _ _ _ _ _;have bg:Hid (Bk (stR w6 b6 r2 s2) (w.heap.size+1) 35 rzC):=(iJ _ _ _ _ _ _ _ _ _ _ (by omega)).trans gu.o;have bn:Ti w (stR w6 b6 r2 s2):=dS fU.o (by omega) _ _ _ _ _ _ _;obtain⟨w7,hw7⟩:=NX9 (stR w6 b6 r2 s2)
          rw[hw7]at au bf bg bn e7 ⊢;clear hw7 v0 v1 v2 v3 v4 v5 v6 f0 f1 f2 f3 f4 f5 f6;go_wp2_with fail;go_roundw
          case rel=>exact⟨k+1,r2,s2,hlt,by go_num,HR2.o,au.o,bf.o,bg.o,bn.o,by omega⟩
          case measure=>simp[intOf];omega
        . have hlz:¬(k:Int)< (m:Int):=by omega
          simp only[rpC]at HN;obtain⟨⟨v0,v1,v2,v3⟩,v4,v5,v6⟩:=HN.o.seven;obtain⟨⟨f0,f1,f2,f3⟩,f4,f5,f6⟩:=o.o.free7;obtain⟨⟨z0,z1,z2,z3⟩,z4,z5,z6⟩:=o.o.seven;go_wp2_with fail;refine ZW (eH Tryz.results16 rfl (o.o.set7 _ _ _ _ _ _ _) rfl) rfl ⟨true,r1,s1,rfl,fun _=>j.o,?_,dS G.o (by omega) _ _ _ _ _ _ _⟩;exact(N.o.st (q:=zRp) (t:=zRs) (r0:=r1) (s0:=s1) o.o).more (by have:=iP wr (w.heap.size+1) r1 s1;unfold stR at this;omega)
     . have HI:=ai (LQ d s' w2.heap.size w3 K.o (by omega) (by omega) F z3)
       unfold fH at HI;simp only[dkV,dkC,f,hdn,rpV,rpC,zRp,List.length_nil]at HI;clear F l0 l1 l2 l3;go_wp2_with fail;rw[HW3.o];refine HI.o.mono ?_;rintro e w4 ⟨s4,rfl,hm4,hb4⟩;have HB4:Ti w w4:=HB3.o.trans (hb4.mono (by omega));have r:=ai (HZ3.o.below hb4 (by omega));have V:=hb4.size;clear hb4 hm4 HI L HZ3 HD3 HB3;obtain⟨w5,hw5⟩:=NX9 (w4.alloc (.cells #[.int .i64 0,.slice s4.d.a1 0 s4.d.c1,.slice s4.d.a2 0 s4.d.c2,.int .i64 0,.slice s4.pA 0 s4.pc,.slice s4.rA 0 s4.rc,.slice s4.lA 0 s4.lc] 35))
       have M:Ti w w5:=by rw[<-hw5];exact HB4.o.alloc (by omega) _
       have v:Hid (Bk w5 (w.heap.size+1) 35 rzC):=by rw[<-hw5];exact r.o.alloc _
       have C:=ai hw5;clear hw5 r HB4;obtain⟨⟨f0,f1,f2,f3⟩,f4,f5,f6⟩:=v.o.free7;obtain⟨⟨z0,z1,z2,z3⟩,z4,z5,z6⟩:=v.o.seven
       go_upto_region 8 with fail
       rw[C.o];go_wp2_with fail;exact ZW (eH Tryz.results16 rfl (v.o.set7 _ _ _ _ _ _ _) rfl) rfl (J.o _ (dS M.o (by omega) _ _ _ _ _ _ _))
section
theorem uj(s:SY)(h:s.size<128):ax (toL s)=UInt8.ofNat s.size::toL s:=by
 unfold ax;have: (toL s).length=s.size:=by simp[toL]
 rw[this,eG h];rfl
theorem EH(s:SY)(h:s.size<128):aJ (eX s)=1::UInt8.ofNat s.size::toL s:=by
 show ak 1++ax (toL s)=_;rw[eG (by omega),uj s h];rfl
theorem EP(n:SY)(d:Dig)(h:n.size<128):aJ (eF [⟨n,false,d⟩])=2::1::UInt8.ofNat n.size:: (toL n++0::ay d):=by
 show ak 2++ (ak 1++ ((ax (toL n)++ (ak 0++ay d))++ []))=_;rw[eG (n:=2) (by omega),eG (n:=1) (by omega),eG (n:=0) (by omega),uj n h];simp
theorem Fh(t:Dig)(ps:List Dig)(a m:SY)(n:Nat)(h:ps.length<128)(h1:a.size<128)(h2:m.size<128)(h3:n<128) :
  aJ ⟨3,⟨#[]⟩,[],t,ps,a,n,m⟩=3:: (ay t++ (UInt8.ofNat ps.length:: (ps.flatMap ay++ (UInt8.ofNat a.size:: (toL a++ (UInt8.ofNat n::UInt8.ofNat m.size::toL m)))))):=by
 show ak 3++ (ay t++ (ak ps.length++ (ps.flatMap ay++ (ax (toL a)++ (ak n++ax (toL m))))))=_;rw[eG (n:=3) (by omega),eG h,uj a h1,uj m h2,eG h3];simp
/-! ### pools in which nothing is missing -/
def Clo(p:List Itm):Prop:=PlOk p/\∀x o,aO p x=some o->∀y∈cZ o,y≠zD->aO p y≠none
theorem Clo.nil:Clo []:=⟨PlOk.nil,fun x o h=>by simp[aO,bM]at h⟩
theorem Clo.put{p q:List Itm}{o:Ob}(h:Clo p)(ho:OkO o)(hi:bI p o=some q)(hl:∀y∈cZ o,y≠zD->aO p y≠none):Clo q:=by
 have hq:=pM h.1 ho hi;have hs:=mQ h.1 hi;refine⟨hq,fun x o' hx y hy hz=>?_⟩;have hm:aO p y≠none:=by
  obtain⟨ho',hx'⟩:=(iy hq).1 hx;rcases (pK h.1.asc hi _).1 hx' with hx' | hx'
  . exact h.2 x o' ((iy h.1).2 ⟨ho',hx'⟩) y hy hz
  . have e:aJ o'=aJ o:=by
      have:=congrArg Prod.snd hx';have:=congrArg toL this
      simpa [bY] using this
    rw[DI e ho'.f ho.f]at hy;exact hl y hy hz
 obtain⟨z,hz'⟩:=Option.ne_none_iff_exists'.1 hm;rw[l9 h.1 hq hs hz'];simp
theorem Clo.whole{p:List Itm}(h:Clo p){ds:List Dig}(hd:∀d∈ds,aO p d≠none):¬Miss p ds:=by
 have hr:∀x,Rchd p ds x->x=zD∨aO p x≠none:=fun x hx=>by
  induction hx with
  | root h'=>exact .inr (hd _ h')
  | @link d x o _ g m _ =>
    by_cases hz:x=zD
    . exact .inl hz
    . exact .inr (h.2 _ _ g x m hz)
 rintro ⟨x,hx,h1,h2⟩;rcases hr x h1 with h3 | h3
 . exact hx h3
 . exact h3 h2
theorem Fp{p q:List Itm}(hq:AscI q)(h:subP p q):UniR p q q:=⟨hq,fun x=>⟨.inr,fun hx=>hx.elim (h x) id⟩⟩
theorem PI{p:List Itm}(hp:AscI p):UniR p [] p:=⟨hp,fun x=>by simp⟩
theorem xC{p q r:List Itm}{rs rs':List Rf}{lg us:List Upd}(hq:PlOk q)(hr:UniR p q r)(ha:dF rs lg us= (rs',lg++us,0))(hu:us≠ [])(hc:∀u∈us,u.2.2≠zD->dP r u.2.2=0) :
  dH p rs lg q us= .app (us,aY (dU p q)) r rs' (lg++us):=by
 unfold dH;rw[yj hr,if_pos ⟨hq,hr.clear,by rw[ha],hc⟩,if_neg (fun h=>hu h.2),ha]
theorem Qa(p:List Itm):dJ p []= []:=by
 have h:∀x,¬Rchd p [] x:=fun x hx=>by
  induction hx with
  | root h=>cases h
  | link _ _ _ ih=>exact ih
 unfold dJ;rw[List.filter_eq_nil_iff];intro i _
 simpa using h i.1
/-! ### the example -/
attribute [local irreducible] ofB ay
def zA:SY:=⟨#[97]⟩
def z1:SY:=⟨#[49]⟩
def z2:SY:=⟨#[50]⟩
def zTr:SY:=⟨#[116,114,117,110,107]⟩
def zFi:SY:=⟨#[102,105,114,115,116]⟩
def zSe:SY:=⟨#[115,101,99,111,110,100]⟩
def bB1:Td:= [1,1,49]
def bB2:Td:= [1,1,50]
def bT1:Td:= [2,1,1,97,0]++ay (ofB bB1)
def bT2:Td:= [2,1,1,97,0]++ay (ofB bB2)
def bC1:Td:=3:: (ay (ofB bT1)++ [0,3,97,110,110,1,5,102,105,114,115,116])
def bC2:Td:=3:: (ay (ofB bT2)++1:: (ay (ofB bC1)++ [3,97,110,110,2,6,115,101,99,111,110,100]))
def itZ(b:Td):Itm:=(ofB b,ofL b)
def k1:List Itm:=(dE [] (itZ bB1)).getD []
def k2:List Itm:=(dE k1 (itZ bT1)).getD []
def k3:List Itm:=(dE k2 (itZ bC1)).getD []
def k4:List Itm:=(dE k3 (itZ bB2)).getD []
def k5:List Itm:=(dE k4 (itZ bT2)).getD []
def k6:List Itm:=(dE k5 (itZ bC2)).getD []
theorem mF{α:Type}{o:Option (List α)}(h:o.isSome=true):o=some (o.getD []):=by cases o with | none=>cases h | some _=>rfl
theorem j1:dE [] (itZ bB1)=some k1:=mF (by decide +kernel)
theorem j2:dE k1 (itZ bT1)=some k2:=mF (by decide +kernel)
theorem j3:dE k2 (itZ bC1)=some k3:=mF (by decide +kernel)
theorem j4:dE k3 (itZ bB2)=some k4:=mF (by decide +kernel)
theorem j5:dE k4 (itZ bT2)=some k5:=mF (by decide +kernel)
theorem j6:dE k5 (itZ bC2)=some k6:=mF (by decide +kernel)
def oB1:Ob:=eX z1
def oB2:Ob:=eX z2
def oT1:Ob:=eF [⟨zA,false,ofB bB1⟩]
def oT2:Ob:=eF [⟨zA,false,ofB bB2⟩]
def oC1:Ob:=bP (ofB bT1) zD dY zFi 1
def oC2:Ob:=bP (ofB bT2) (ofB bC1) dY zSe 2
theorem eB1:aJ oB1=bB1:=EH z1 (by decide)
theorem eB2:aJ oB2=bB2:=EH z2 (by decide)
theorem eT1:aJ oT1=bT1:=EP zA _ (by decide)
theorem eT2:aJ oT2=bT2:=EP zA _ (by decide)
theorem eC1:aJ oC1=bC1:=by
 unfold oC1 bP;rw[if_pos rfl];exact Fh (ofB bT1) [] dY zFi 1 (by decide) (by decide) (by decide) (by decide)
theorem eC2:aJ oC2=bC2:=by
 unfold oC2 bP;rw[if_neg (kN _)];refine(Fh (ofB bT2) [ofB bC1] dY zSe 2 (by decide) (by decide) (by decide) (by decide)).trans ?_;rw[List.flatMap_cons,List.flatMap_nil,List.append_nil];rfl
theorem kB1:OkO oB1:=sK (by decide)
theorem kB2:OkO oB2:=sK (by decide)
theorem Hg{d:Dig}(h:WfD d)(h2:d≠zD):OkO (eF [⟨zA,false,d⟩]):=wO ⟨by simp,fun e he=>by rw[List.mem_singleton.1 he];exact⟨(by decide +kernel:nameB zA=true),h,h2⟩,fun j a b _ h=>by simp at h⟩
theorem kT1:OkO oT1:=Hg (fG _) (kN _)
theorem kT2:OkO oT2:=Hg (fG _) (kN _)
theorem G8:qK dY zFi 1:=⟨by decide +kernel,by decide,by decide,by decide⟩
theorem G6:qK dY zSe 2:=⟨by decide +kernel,by decide,by decide,by decide⟩
theorem kC1:OkO oC1:=uB G8 (fG _) (kN _) ⟨by decide,by decide,by decide,by decide⟩
theorem kC2:OkO oC2:=uB G6 (fG _) (kN _) (fG _)
theorem p1:bI [] oB1=some k1:=by unfold bI;rw[eB1];exact j1
theorem p2:bI k1 oT1=some k2:=by unfold bI;rw[eT1];exact j2
theorem p3:bI k2 oC1=some k3:=by unfold bI;rw[eC1];exact j3
theorem p4:bI k3 oB2=some k4:=by unfold bI;rw[eB2];exact j4
theorem p5:bI k4 oT2=some k5:=by unfold bI;rw[eT2];exact j5
theorem p6:bI k5 oC2=some k6:=by unfold bI;rw[eC2];exact j6
theorem dB1:dgO oB1=ofB bB1:=by unfold dgO;rw[eB1]
theorem dB2:dgO oB2=ofB bB2:=by unfold dgO;rw[eB2]
theorem dT1:dgO oT1=ofB bT1:=by unfold dgO;rw[eT1]
theorem dT2:dgO oT2=ofB bT2:=by unfold dgO;rw[eT2]
theorem dC1:dgO oC1=ofB bC1:=by unfold dgO;rw[eC1]
theorem dC2:dgO oC2=ofB bC2:=by unfold dgO;rw[eC2]
theorem c1:Clo k1:=Clo.nil.put kB1 p1 (fun y hy=>by simp[cZ,oB1,eX]at hy)
theorem g1B:aO k1 (ofB bB1)=some oB1:=dB1 ▸ mV Clo.nil.1 kB1 p1
theorem c2:Clo k2:=c1.put kT1 p2 (fun y hy _=>by
 simp[cZ,oT1,eF]at hy;rw[hy,g1B];simp)
theorem g2T:aO k2 (ofB bT1)=some oT1:=dT1 ▸ mV c1.1 kT1 p2
theorem c3:Clo k3:=c2.put kC1 p3 (fun y hy _=>by
 simp[cZ,oC1,bP]at hy;rw[hy,g2T];simp)
theorem g3C:aO k3 (ofB bC1)=some oC1:=dC1 ▸ mV c2.1 kC1 p3
theorem c4:Clo k4:=c3.put kB2 p4 (fun y hy=>by simp[cZ,oB2,eX]at hy)
theorem g4B:aO k4 (ofB bB2)=some oB2:=dB2 ▸ mV c3.1 kB2 p4
theorem c5:Clo k5:=c4.put kT2 p5 (fun y hy _=>by
 simp[cZ,oT2,eF]at hy;rw[hy,g4B];simp)
theorem g5T:aO k5 (ofB bT2)=some oT2:=dT2 ▸ mV c4.1 kT2 p5
theorem sub35:subP k3 k5:=(mQ c3.1 p4).trans (mQ c4.1 p5)
theorem Ru:subP k3 k6:=sub35.trans (mQ c5.1 p6)
theorem g5C:aO k5 (ofB bC1)=some oC1:=l9 c3.1 c5.1 sub35 g3C
theorem c6:Clo k6:=c5.put kC2 p6 (fun y hy _=>by
 simp[cZ,oC2,bP,kN]at hy;rcases hy with rfl | rfl
 . rw[g5T];simp
 . rw[g5C];simp)
theorem g6C:aO k6 (ofB bC2)=some oC2:=dC2 ▸ mV c5.1 kC2 p6
theorem m3:dP k3 (ofB bC1)=0:=compl_zero.2 ⟨⟨_,g3C,rfl⟩,c3.whole (fun d hd=>by rw[List.mem_singleton.1 hd,g3C];simp)⟩
theorem m6:dP k6 (ofB bC2)=0:=compl_zero.2 ⟨⟨_,g6C,rfl⟩,c6.whole (fun d hd=>by rw[List.mem_singleton.1 hd,g6C];simp)⟩
theorem ckz{s:SY}(h:s.size<=60000):TckR [(zA,s)] 0:=P6 ⟨fun f hf=>by rw[List.mem_singleton.1 hf];exact(by decide +kernel:bW zA=true),fun f hf=>by rw[List.mem_singleton.1 hf];exact h,by simp,by simp,fun f hf g hg=>by rw[List.mem_singleton.1 hf,List.mem_singleton.1 hg];exact(by decide +kernel:jJ zA zA=false)⟩ (by unfold AscF;simp)
theorem nmz(s:SY):dh [(zA,s)]= [zA]:=by
 show gz [] (fsN zA)= [zA]
 decide +kernel
theorem lkz(s:SY):eP [(zA,s)] zA=some s:=by unfold eP;simp
theorem Su:sto 101 [] [(zA,z1)]=some (k2,ofB bT1):=by
 rw[sto,nmz,vY (lkz z1) p1,fM,List.nil_append];have h:dgO (eX z1)=ofB bB1:=dB1;have h2:bI k1 (eF [⟨zA,false,ofB bB1⟩])=some k2:=p2;have h3:dgO (eF [⟨zA,false,ofB bB1⟩])=ofB bT1:=dT1;rw[h];simp only;rw[h2];simp only[h3]
theorem RV:sto 101 k3 [(zA,z2)]=some (k5,ofB bT2):=by
 rw[sto,nmz,vY (lkz z2) p4,fM,List.nil_append];have h:dgO (eX z2)=ofB bB2:=dB2;have h2:bI k4 (eF [⟨zA,false,ofB bB2⟩])=some k5:=p5;have h3:dgO (eF [⟨zA,false,ofB bB2⟩])=ofB bT2:=dT2;rw[h];simp only;rw[h2];simp only[h3]
def lg1:List Upd:= [(zTr,zD,ofB bC1)]
def rs1:List Rf:= [(zTr,ofB bC1)]
def lg2:List Upd:= [(zTr,zD,ofB bC1),(zTr,ofB bC1,ofB bC2)]
def rs2:List Rf:= [(zTr,ofB bC2)]
def lg3:List Upd:= [(zTr,zD,ofB bC1),(zTr,ofB bC1,ofB bC2),(zTr,ofB bC2,zD)]
theorem ap1:dF [] [] [(zTr,zD,ofB bC1)]= (rs1,[]++ [(zTr,zD,ofB bC1)],0):=by decide +kernel
theorem ap2:dF rs1 lg1 [(zTr,ofB bC1,ofB bC2)]= (rs2,lg1++ [(zTr,ofB bC1,ofB bC2)],0):=by decide +kernel
theorem ap3:dF rs2 lg2 [(zTr,ofB bC2,zD)]= ([],lg2++ [(zTr,ofB bC2,zD)],0):=by decide +kernel
theorem gt0:dB [] [] zTr= (zD,8):=by decide +kernel
theorem gt1:dB rs1 lg1 zTr= (ofB bC1,0):=by decide +kernel
theorem neT:ofB bT1≠ofB bT2:=by decide +kernel
theorem neC:ofB bC1≠ofB bC2:=by decide +kernel
def gr1:Gru:=([(zTr,zD,ofB bC1)],aY (dU [] k3))
def gr2:Gru:=([(zTr,ofB bC1,ofB bC2)],aY (dU k3 k6))
def gr3:Gru:=([(zTr,ofB bC2,zD)],[])
def gr4:Gru:=(lg3,[])
theorem pl1:iT [] [] [] zTr [(zA,z1)] dY zFi 1= (.app gr1 k3 rs1 lg1,ofB bC1):=by
 unfold iT;rw[gt0,if_neg (by simp),if_pos (ckz (by decide)),Su];simp only;rw[if_neg (fun h=>h.1 rfl)];have h1:bI k2 (bP (ofB bT1) zD dY zFi 1)=some k3:=p3;have h2:dgO (bP (ofB bT1) zD dY zFi 1)=ofB bC1:=dC1;rw[h1];simp only;rw[h2,xC c3.1 (Fp c3.1.asc (fun i h=>by cases h)) ap1 (by simp) (fun u hu _=>by rw[List.mem_singleton.1 hu];exact m3)];rfl
theorem pl2:iT k3 rs1 lg1 zTr [(zA,z2)] dY zSe 2= (.app gr2 k6 rs2 lg2,ofB bC2):=by
 unfold iT;rw[gt1,if_neg (by simp),if_pos (ckz (by decide)),RV];simp only;rw[if_neg (fun h=>by
  obtain⟨_,o,ho,he⟩:=h;rw[g3C]at ho;cases ho
  exact neT he)]
 have h1:bI k5 (bP (ofB bT2) (ofB bC1) dY zSe 2)=some k6:=p6;have h2:dgO (bP (ofB bT2) (ofB bC1) dY zSe 2)=ofB bC2:=dC2;rw[h1];simp only;rw[h2,xC c6.1 (Fp c6.1.asc Ru) ap2 (by simp) (fun u hu _=>by rw[List.mem_singleton.1 hu];exact m6)];rfl
theorem pl3:dH k6 rs2 lg2 [] [(zTr,ofB bC2,zD)]= .app gr3 k6 [] lg3:=by
 rw[xC PlOk.nil (PI c6.1.asc) ap3 (by simp) (fun u hu h=>by rw[List.mem_singleton.1 hu]at h;exact absurd rfl h)];rfl
theorem qj:k6.length=6:=by decide +kernel
theorem pl4:dW k6 [] lg3= .rew gr4 [] [] lg3:=by
 unfold dW;rw[Qa,if_neg (by rw[qj];decide)];rfl
/-! ### room on the disk -/
theorem EX(t:Td)(h:t.length<=65536): (ax t).length<=6+t.length:=by
 unfold ax;have:=fQ (n:=t.length) (by omega);simp only[af];omega
theorem Ep:∀l:List Td,(∀t∈l,t.length<=65536)-> (l.flatMap ax).length<=6*l.length+ (l.map List.length).sum
 | [],_=>by simp
 | t::l,h=>by
   have h1:=Ep l (fun x hx=>h x (by simp[hx]));have h2:=EX t (h t (by simp));simp only[List.flatMap_cons,af,Z4,List.map_cons,List.sum_cons];omega
theorem Qd{l:List Td}{N:Nat}(h:gm l)(hN:6*l.length+ (l.map List.length).sum<=N): (aC l).length<=N+13:=by
 have h1:=Ep l h.2;have h2:=fQ (n:=l.length) (by have:=h.1;omega);have h3:=oZ h;have h4:=fQ (n:=(bU l).length) (by omega);unfold aC;simp only[Z4,af];have: (bU l).length= (ak l.length).length+ (l.flatMap ax).length:=by unfold bU;rw[af]
 omega
theorem DT:∀us:List Upd,(∀u∈us,u.1.size<=5)-> (bH us).length<=43*us.length
 | [],_=>by simp[bH]
 | u::us,h=>by
   have h1:=DT us (fun x hx=>h x (by simp[hx]));have h0:=h u (by simp);rw[aT]at h0;have h2:=EX (toL u.1) (by omega);have h3: (gY u).length<=43:=by unfold gY;simp only[af,ig];omega
   unfold bH at h1 ⊢;rw[List.flatMap_cons,af,Z4];omega
theorem Oy{us:List Upd}{n:Nat}(hn:n<=1000)(h1:us.length<=1000)(h:∀u∈us,u.1.size<=5): (headB us n).length<=12+43*us.length:=by
 have h2:=DT us h;have h3:=fQ (n:=n) (by omega);have h4:=fQ (n:=us.length) (by omega);unfold headB encR;rw[if_neg (by omega)];split <;> simp only[af,List.length_nil] <;> omega
theorem tZ{g:Gru}{M S:Nat}(h1:g.1.length<=3)(hu:∀u∈g.1,u.1.size<=5)(h2:g.2.length<=3)(h3:∀t∈g.2,t.length<=65536)(h4: (g.2.map List.length).sum<=S)(hM:12+43*g.1.length<=M) :
  gm (aQ g)/\ (aC (aQ g)).length<=M+S+37:=by
 have h5:=Oy (us:=g.1) (n:=g.2.length) (by omega) (by omega) hu;have hf:gm (aQ g):=⟨by unfold aQ;rw[Z4];omega,fun t ht=>by
  rcases List.mem_cons.1 ht with rfl | ht
  . omega
  . exact h3 t ht⟩
 refine⟨hf,?_⟩;have:=Qd (N:=24+M+S) hf (by unfold aQ;simp only[Z4,List.map_cons,List.sum_cons];omega);omega
theorem ft1:gm (aQ gr1)/\ (aC (aQ gr1)).length<=192:=by
 have:=tZ (g:=gr1) (M:=55) (S:=100) (by decide) (by decide +kernel) (by decide +kernel) (by decide +kernel) (by decide +kernel) (by decide);exact this
theorem ft2:gm (aQ gr2)/\ (aC (aQ gr2)).length<=192:=by
 have:=tZ (g:=gr2) (M:=55) (S:=100) (by decide) (by decide +kernel) (by decide +kernel) (by decide +kernel) (by decide +kernel) (by decide);exact this
theorem ft3:gm (aQ gr3)/\ (aC (aQ gr3)).length<=192:=by
 have:=tZ (g:=gr3) (M:=55) (S:=100) (by decide) (by decide +kernel) (by decide) (by decide) (by decide) (by decide);exact this
theorem ft4:gm (aQ gr4)/\ (aC (aQ gr4)).length<=192:=by
 have:=tZ (g:=gr4) (M:=141) (S:=14) (by decide) (by decide +kernel) (by decide) (by decide) (by decide) (by decide);exact this
structure AwS(d:Dk)(gs:List Gru)(u:Nat):Prop where
 ok:d.Ok
 pn:d.pn= []
 lf:d.lf= -1
 n:d.ss.length=41
 z:d.sz=64
 jn:Jn d.sz d.ss 1 (recs gs) u
theorem AwS.sec3{d:Dk}{gs:List Gru}{u:Nat}(h:AwS d gs u){l:List Td}(hft:gm l/\ (aC l).length<=192):SecF d.sz l (secs d.sz (aC l))/\ (secs d.sz (aC l)).length<=3:=by
 refine⟨⟨hft.1,rfl⟩,?_⟩;rw[(lZ h.jn.sz0 _ _ aj).1,h.z];unfold nsec;have:=hft.2;omega
theorem AwS.app{d:Dk}{gs:List Gru}{u:Nat}{g:Gru}(h:AwS d gs u)(hft:gm (aQ g)/\ (aC (aQ g)).length<=192)(hu:u<=15): (dG d 1 u (aQ g)).2=0/\∃u',u'<=u+3/\AwS (dG d 1 u (aQ g)).1 (gs++ [g]) u':=by
 obtain⟨hS,hl⟩:=h.sec3 hft;have hh:hf d.ss=20:=by unfold Go.Proofs.YtknefelegjlgnaaGreatDoor.hf;rw[h.n]
 unfold dG;rw[if_neg (by simpa using fitB_iff.2 hft.1),if_neg (by omega)];have hk: (secs d.sz (aC (aQ g))).length<=Go.Proofs.YtknefelegjlgnaaGreatDoor.hf d.ss - u:=by omega
 obtain⟨hk',hfit⟩:=yl h.jn hS hk;obtain⟨r1,r2⟩:=rH (fV d.sz d.ss 1 u (secs d.sz (aC (aQ g)))) d h.lf;have he: (⟨d.sz,d.ss,[],d.lf⟩:Dk)=d:=by rw[<-h.pn]
 have hs:=(BN (lf:=d.lf) h.jn hS hk' (pre:=fV d.sz d.ss 1 u (secs d.sz (aC (aQ g)))) (suf:= []) (by simp) []).2 rfl;simp only[he]at hs;obtain⟨o1,o2,o3⟩:=tN _ d h.ok hfit;rw[r1];refine⟨rfl,u+ (secs d.sz (aC (aQ g))).length,by omega,o1,hs.1,r2,by show List.length _=41;rw[o3,h.n],by show Dk.sz _=64;rw[o2,h.z],?_⟩;show Jn (Dk.sz _) _ 1 (recs (gs++ [g])) _;rw[o2,Dp];exact hs.2
theorem AwS.rew{d:Dk}{gs:List Gru}{u:Nat}{g:Gru}(h:AwS d gs u)(hft:gm (aQ g)/\ (aC (aQ g)).length<=192): (dQ d 1 (aQ g)).2=0:=by
 obtain⟨hS,hl⟩:=h.sec3 hft;have hh:Go.Proofs.YtknefelegjlgnaaGreatDoor.hf d.ss=20:=by unfold Go.Proofs.YtknefelegjlgnaaGreatDoor.hf;rw[h.n]
 unfold dQ;rw[if_neg (by simpa using fitB_iff.2 hft.1),if_neg (by omega),(rH _ d h.lf).1]
theorem AwS.start:AwS (aK (aX 41 64) (bT 64 (aX 41 64).ss)).1 [] 0/\ (aK (aX 41 64) (bT 64 (aX 41 64).ss)).2=0:=by
 have ho: (aX 41 64).Ok:=sZ (by decide) (by decide) (by decide) (by decide);have hn: (aX 41 64).ss.length=41:=by simp[aX]
 obtain⟨h1,h2,h3,h4⟩:=EJ (d:=aX 41 64) ho (by rw[hn];decide) rfl rfl;exact⟨⟨h2.ok,h2.pn,h3,by rw[(lD _ _).2];exact hn,(lD _ _).1,h4⟩,h1⟩
theorem mt1:Mt [gr1] k3 rs1 lg1:=by
 have h:kQ [] (iT [] [] [] zTr [(zA,z1)] dY zFi 1).1:=xM Mt.nil (by decide);rw[pl1]at h;exact h (fitB_iff.2 ft1.1)
theorem mt2:Mt [gr1,gr2] k6 rs2 lg2:=by
 have h:kQ [gr1] (iT k3 rs1 lg1 zTr [(zA,z2)] dY zSe 2).1:=xM mt1 (by decide);rw[pl2]at h;exact h (fitB_iff.2 ft2.1)
theorem mt3:Mt [gr1,gr2,gr3] k6 [] lg3:=by
 have h:kQ [gr1,gr2] (dH k6 rs2 lg2 [] [(zTr,ofB bC2,zD)]):=wY mt2 (fun u hu=>by
  rw[List.mem_singleton.1 hu];exact⟨by decide,fG _,⟨by decide,by decide,by decide,by decide⟩⟩)
 rw[pl3]at h;exact h (fitB_iff.2 ft3.1)
end
section
set_option maxRecDepth 100000
set_option maxHeartbeats 2000000
attribute [local irreducible] ofB ay
def qG(w:SX)(e:Ending)(w':SX):Prop:=e= .returned (.bool true)/\Tf w w'
def St0(r:Rp):Prop:=∃d,AwS d [] 0/\r= ⟨d,[],[],[]⟩
def St1(r:Rp):Prop:=∃d u,AwS d [gr1] u/\u<=3/\r= ⟨d,k3,rs1,lg1⟩
def St2(r:Rp):Prop:=∃d u,AwS d [gr1,gr2] u/\u<=6/\r= ⟨d,k6,rs2,lg2⟩
def St3(r:Rp):Prop:=∃d u,AwS d [gr1,gr2,gr3] u/\u<=9/\r= ⟨d,k6,[],lg3⟩
theorem Gq{r:Rp}{a u:Nat}{g:Gru}{p:List Itm}{rs:List Rf}{lg:List Upd}{pd:Dig}{w w':SX}{e:Ending}(h:CmtE r a u (.app g p rs lg,pd) w e w')(h0: (dG r.d a u (aQ g)).2=0):jY ⟨(dG r.d a u (aQ g)).1,p,rs,lg⟩ pd 0 w e w':=by
 unfold CmtE after at h;simp only[h0,if_true]at h;exact h
theorem QY:k3.length<=49000:=by decide +kernel
variable {r : Rp} {s : Rsl} {B : Nat} {w : SX}
theorem PK:lg3.length=3:=rfl
attribute [local irreducible] k3 k6 rs1 rs2 lg1 lg2 lg3 gr1 gr2 gr3 gr4
theorem awI(s:Dsl)(hm:DkM w B (aX 41 64) s)(hB:B<=w.heap.size):Calls Tryz.prog 13 #[dkV (aX 41 64) s] w fun e w'=>∃r,St0 r/\fH r 0 w e w':=by
 obtain⟨h1,h2⟩:=AwS.start;have ho: (aX 41 64).Ok:=sZ (by decide) (by decide) (by decide) (by decide);have hn: (aX 41 64).ss.length=41:=by simp[aX]
 have:=Eg (aX 41 64) s B w ho (by rw[hn];decide) (ZX _) hm hB;have hz: (aX 41 64).sz=64:=rfl;rw[hz,h2]at this;exact this.mono fun e w' h=>⟨_,⟨_,h1,rfl⟩,h⟩
theorem RZ(hpck:jT)(A:OA)(c:Nat)(hr:St0 r)(hm:RpM w B r s)(hB:B<=w.heap.size)(h1:Sl w B 2 A 1 (flat flC [(zA,z1)])) :
  Calls Tryz.prog 28 #[rpV r s,.string zTr,.slice A 1 c,.string dY,.string zFi,.int .i64 1] w fun e w'=>∃r' d,St1 r'/\d=ofB bC1/\jY r' d 0 w e w':=by
 obtain⟨d,ha,rfl⟩:=hr;have:=vU hpck ⟨d,[],[],[]⟩ s [] 1 0 zTr [(zA,z1)] A 1 c dY zFi 1 B w ha.ok ha.pn ha.jn Mt.nil (ZX _) hm hB h1 (by decide) (by decide) (fun f hf=>by rw[List.mem_singleton.1 hf];exact⟨by decide,by decide⟩) G8;simp only[pl1]at this;obtain⟨h2,u',h3,h4⟩:=ha.app ft1 (by omega);exact this.mono fun e w' h=>⟨_,_,⟨_,u',h4,by omega,rfl⟩,rfl,Gq h h2⟩
theorem Sm(hpck:jT)(A:OA)(c:Nat)(hr:St1 r)(hm:RpM w B r s)(hB:B<=w.heap.size)(h1:Sl w B 2 A 1 (flat flC [(zA,z2)])) :
  Calls Tryz.prog 28 #[rpV r s,.string zTr,.slice A 1 c,.string dY,.string zSe,.int .i64 2] w fun e w'=>∃r' d,St2 r'/\d=ofB bC2/\jY r' d 0 w e w':=by
 obtain⟨d,u,ha,hu,rfl⟩:=hr;have:=vU hpck ⟨d,k3,rs1,lg1⟩ s [gr1] 1 u zTr [(zA,z2)] A 1 c dY zSe 2 B w ha.ok ha.pn ha.jn mt1 QY hm hB h1 (by decide) (by decide) (fun f hf=>by rw[List.mem_singleton.1 hf];exact⟨by decide,by decide⟩) G6;simp only[pl2]at this;obtain⟨h2,u',h3,h4⟩:=ha.app ft2 (by omega);exact this.mono fun e w' h=>⟨_,_,⟨_,u',h4,by omega,rfl⟩,rfl,Gq h h2⟩
theorem awW(hpck:jT)(A:OA)(c:Nat)(hr:St2 r)(hm:RpM w B r s)(hB:B<=w.heap.size)(h1:Sl w B 5 A 1 (flat upC [(zTr,ofB bC2,zD)])) :
  Calls Tryz.prog 35 #[rpV r s,.slice none 0 0,.slice A 1 c] w fun e w'=>∃r',St3 r'/\r'.p.length=6/\fH r' 0 w e w':=by
 obtain⟨d,u,ha,hu,rfl⟩:=hr;have:=wJ hpck ⟨d,k6,rs2,lg2⟩ s [gr1,gr2] 1 u [] none 0 0 [(zTr,ofB bC2,zD)] A 1 c B w ha.ok ha.pn ha.jn mt2 (by rw[qj];decide) hm hB (Sl.nil _ _ _ _) h1 (by decide) (fun i hi=>by cases hi) (fun i hi=>by cases hi) (by decide) (fun x hx=>by rw[List.mem_singleton.1 hx];exact⟨by decide,fG _,⟨by decide,by decide,by decide,by decide⟩⟩);simp only[pl3]at this;obtain⟨h2,u',h3,h4⟩:=ha.app ft3 (by omega);refine this.mono fun e w' h=>⟨_,⟨_,u',h4,by omega,rfl⟩,qj,?_⟩
 unfold ExE after at h;simp only[h2,if_true]at h;exact h
theorem awK(hr:St3 r)(hm:RpM w B r s)(hB:B<=w.heap.size) :
  Calls Tryz.prog 17 #[rpV r s] w fun e w'=>∃r',r'.p.length=0/\r'.lg.length=3/\kR r' 6 0 w e w':=by
 obtain⟨d,u,ha,hu,rfl⟩:=hr;have:=qZ ⟨d,k6,[],lg3⟩ s [gr1,gr2,gr3] 1 u B w ha.ok ha.pn ha.jn mt3 (by rw[qj];decide) hm hB;simp only[pl4]at this;have h2:=ha.rew ft4;refine this.mono fun e w' h=>?_;unfold CoE after at h;simp only[h2,if_true,qj]at h;exact⟨_,rfl,PK,h⟩
structure AwI(w:SX)(b:Nat)(r:Rp)(s:Rsl)(W:SX):Prop where
 n:Bk W b 35 (rpC r s)
 m:RpM W W.heap.size r s
 bl:Tf w W
 z:w.heap.size<=b/\b<W.heap.size
theorem AwI.up{w:SX}{b:Nat}{r:Rp}{s:Rsl}{W W':SX}(h:AwI w b r s W)(hb:Tf W W'):AwI w b r s W' :=
 ⟨h.n.below hb h.z.2,(h.m.below hb aj).more hb.size,h.bl.trans (hb.mono h.bl.size),h.z.1,Nat.lt_of_lt_of_le h.z.2 hb.size⟩
theorem AwI.sto{w:SX}{b:Nat}{r r':Rp}{s s':Rsl}{W w1:SX}(h:AwI w b r s W)(h1:RpM w1 w1.heap.size r' s')(hb:Tf W w1):AwI w b r' s' (stR w1 b r' s'):=by
 have h2:=h.up hb;have e:=iP w1 b r' s';exact⟨h2.n.set7 _ _ _ _ _ _ _,(h1.st h2.n).more (Nat.le_of_eq e.symm),dS h2.bl h2.z.1 _ _ _ _ _ _ _,h2.z.1,by rw[e];exact h2.z.2⟩
theorem AwI.dig{w:SX}{b:Nat}{r r':Rp}{s s':Rsl}{W w1 W2:SX}(h:AwI w b r s W)(h1:RpM w1 w1.heap.size r' s')(hb:Tf W w1)(x y:Int)
  (hW2: (stR w1 b r' s').alloc (.cells #[.int .u64 x,.int .u64 y] 50)=W2):AwI w b r' s' W2/\Bk W2 w1.heap.size 50 #[.int .u64 x,.int .u64 y]/\w1.heap.size<W2.heap.size:=by
 have h2:=h.sto h1 hb;have e:=iP w1 b r' s';rw[<-hW2];exact⟨h2.up ((ah _ _).alloc aj _),(Bk.new _ _ _).at_ e,by simp;omega⟩
theorem yJ{b c:Nat}{r':Rp}{s':Rsl}{w1:SX}{t:TypeId}{cs:Array Tc}(hk:Bk w1 c t cs)(hne:c≠b):Bk (stR w1 b r' s') c t cs:=(iJ _ _ _ _ _ _ _ _ _ _ hne).trans hk
end
section
set_option maxRecDepth 100000
attribute [local irreducible] ofB ay k3 k6 rs1 rs2 lg1 lg2 lg3 gr1 gr2 gr3 gr4
theorem Lh(hpck:jT)(w:SX):Calls Tryz.prog 10 #[] w (qG w):=by
 have HN:=ai (fun w=>DW 41 64 w);rw[show jI 41 64=true by decide]at HN;simp only[if_true]at HN;unfold bu at HN;have HI:Hid (∀(d:Dk)(s:Dsl)(w1:SX),d=aX 41 64->DkM w1 w1.heap.size d s->Calls Tryz.prog 13 #[dkV d s] w1 fun e w'=>∃r,St0 r/\fH r 0 w1 e w'):=fun d s w1 h hm=>by rw[h]at hm ⊢;exact awI s hm aj
 obtain⟨d,hd⟩:=NX9 (aX (41:Int).toNat (64:Int).toNat)
 have HD:Hid (d=aX 41 64):=hd.symm;rw[hd]at HN;clear hd;obtain⟨n1,h1⟩:=NX9 d.ss.length
 obtain⟨n2,h2⟩:=NX9 d.pn.length
 simp only[dkV,dkC,h1,h2]at HN HI;unfold fH at HI;have H1:=ai h1;have H2:=ai h2;clear h1 h2;unfold qG
 go_enter Tryz.func10,Tryz.ntmps10
 go_wp2_with fail;refine(HN.o _).mono ?_;rintro e w1 ⟨s1,rfl,hm1,hb1⟩;obtain⟨W2,hW2⟩:=NX9 (w1.alloc (.cells #[.int .i64 d.sz,.slice s1.a1 n1 s1.c1,.slice s1.a2 n2 s1.c2,.int .i64 d.lf] 25))
 have hb2:Tf w1 W2:=by rw[<-hW2];exact(ah _ w1).alloc aj _
 have HB2:Ti w W2:=hb1.trans (hb2.mono hb1.size);have HC:=HI.o d s1 W2 HD.o ((hm1.below hb2 aj).more hb2.size);simp only[H1.o,H2.o]at HC;have HC:=ai HC;have HW2:=ai hW2;clear hW2 hb1 hb2 hm1 HN HI;go_wp2_with fail;rw[HW2.o];refine HC.o.mono ?_;rintro e w3 ⟨r3,hr3,s3,rfl,E,hb3⟩;have HB3:Ti w w3:=HB2.o.trans (hb3.mono HB2.o.size);have F:=ai E;have z3:=HB3.o.size;clear hb3 E HC HB2 HW2 H1 H2 HD;obtain⟨b0,hb0⟩:=NX9 w3.heap.size
 obtain⟨W3,hW3⟩:=NX9 (w3.alloc (.cells (rpC r3 s3) 35))
 have hbW:Tf w3 W3:=by rw[<-hW3];exact(ah _ w3).alloc aj _
 have y:Hid (AwI w b0 r3 s3 W3):=⟨by rw[<-hW3,<-hb0];exact Bk.new _ _ _,(F.o.below hbW aj).more hbW.size,HB3.o.trans (hbW.mono z3),by rw[<-hb0];exact z3,by rw[<-hb0,<-hW3];simp⟩
 have A:=ai hW3;clear hW3 hbW F HB3 z3;simp only[rpV,rpC]at A ⊢
 go_upto_region 3 with fail
 rw[A.o];clear A hb0;have hn:=y.o.n;simp only[rpC]at hn;obtain⟨⟨v0,v1,v2,v3⟩,v4,v5,v6⟩:=hn.seven;obtain⟨Wf,hWf⟩:=NX9 (W3.alloc (.cells #[.string ⟨#[97]⟩,.string ⟨#[49]⟩] 82))
 have hbf:Tf W3 Wf:=by rw[<-hWf];exact(ah _ _).alloc aj _
 have b:=ai (y.o.up hbf);have hS:Sl Wf Wf.heap.size 2 (some ⟨W3.heap.size,0,none⟩) 1 (flat flC [(zA,z1)]):=by rw[<-hWf];exact Sl.of_bk (n:=1) (size:=2) (Bk.new W3 _ _) rfl
 have HC:=ai (RZ (w:=Wf) (s:=s3) hpck (some ⟨W3.heap.size,0,none⟩) 1 hr3 b.o.m aj hS);unfold jY zTr dY zFi at HC;simp only[rpV,rpC]at HC;have i:=ai hWf;clear hWf hbf hS hn y;go_wp2_with fail;rw[i.o];refine HC.o.mono ?_;rintro e w5 ⟨r5,⟨d1,d2⟩,K,hD,s5,rfl,hm,hb⟩;have HD1:=ai hD;clear hD i;have c:=ai (b.o.up hb);have HM:=ai hm;have HB:=ai hb;have hn:=c.o.n;have hzb:=c.o.z.2;simp only[rpC]at hn;clear hm hb HC v0 v1 v2 v3 v4 v5 v6;have hne:b0≠w5.heap.size:=by omega
 simp only[aG];obtain⟨⟨v0,v1,v2,v3⟩,v4,v5,v6⟩:=hn.seven;obtain⟨⟨f0,f1,f2,f3⟩,f4,f5,f6⟩:=hn.free7;clear hn
 go_upto_region 4 with fail
 rw[jR w5 b0 r5 s5];obtain⟨W5,j⟩:=NX9 ((stR w5 b0 r5 s5).alloc (.cells #[.int .u64 d1,.int .u64 d2] 50))
 obtain⟨ha,hk,hz⟩:=b.o.dig HM.o HB.o d1 d2 j;have B:=ai ha;obtain⟨c1,hc⟩:=NX9 w5.heap.size
 rw[hc]at hk hz;have g:=ai (And.intro hk hz);have hck1:c1≠b0:=by omega
 rw[j];simp only[hc];clear j ha hk hz hzb hne hc b HM HB c v0 v1 v2 v3 v4 v5 v6 f0 f1 f2 f3 f4 f5 f6;have hn:=B.o.n;simp only[rpC]at hn;obtain⟨⟨v0,v1,v2,v3⟩,v4,v5,v6⟩:=hn.seven;obtain⟨Wf,hWf⟩:=NX9 (W5.alloc (.cells #[.string ⟨#[97]⟩,.string ⟨#[50]⟩] 82))
 have hbf:Tf W5 Wf:=by rw[<-hWf];exact(ah _ _).alloc aj _
 have b:=ai (B.o.up hbf);have k:=ai (g.o.1.below hbf g.o.2);have a:=ai (Nat.lt_of_lt_of_le g.o.2 hbf.size);have hS:Sl Wf Wf.heap.size 2 (some ⟨W5.heap.size,0,none⟩) 1 (flat flC [(zA,z2)]):=by rw[<-hWf];exact Sl.of_bk (n:=1) (size:=2) (Bk.new W5 _ _) rfl
 have HC:=ai (Sm (w:=Wf) (s:=s5) hpck (some ⟨W5.heap.size,0,none⟩) 1 K b.o.m aj hS);unfold jY zTr dY zSe at HC;simp only[rpV,rpC]at HC;have i:=ai hWf;clear hWf hbf hS hn B;go_wp2_with fail;rw[i.o];refine HC.o.mono ?_;rintro e w7 ⟨r7,⟨e1,e2⟩,L,hD,s7,rfl,hm,hb⟩;have HD2:=ai hD;clear hD i;have c:=ai (b.o.up hb);have HM:=ai hm;have HB:=ai hb;have hn:=c.o.n;have hzb:=c.o.z.2;have l:=ai (k.o.below hb a.o);have f:=ai (Nat.lt_of_lt_of_le a.o hb.size);simp only[rpC]at hn;clear hm hb HC v0 v1 v2 v3 v4 v5 v6 g k a;have hne:b0≠w7.heap.size:=by omega
 simp only[aG];obtain⟨⟨v0,v1,v2,v3⟩,v4,v5,v6⟩:=hn.seven;obtain⟨⟨f0,f1,f2,f3⟩,f4,f5,f6⟩:=hn.free7;clear hn
 go_upto_region 5 with fail
 rw[jR w7 b0 r7 s7];obtain⟨W7,j⟩:=NX9 ((stR w7 b0 r7 s7).alloc (.cells #[.int .u64 e1,.int .u64 e2] 50))
 obtain⟨ha,hk,hz⟩:=b.o.dig HM.o HB.o e1 e2 j;have C:=ai ha;obtain⟨c2,hc⟩:=NX9 w7.heap.size
 rw[hc]at hk hz;have p:=ai (And.intro hk hz);have G:c2≠b0:=by omega
 have u:Hid (Bk W7 c1 50 #[.int .u64 d1,.int .u64 d2]/\c1<W7.heap.size):=by rw[<-j];exact⟨(yJ l.o hck1).alloc _,by have:=f.o;simp[iP];omega⟩
 rw[j];simp only[hc];clear j ha hk hz hzb hne hc b HM HB c v0 v1 v2 v3 v4 v5 v6 f0 f1 f2 f3 f4 f5 f6 l f;have g:=u;clear u;have hn:=C.o.n;simp only[rpC]at hn;obtain⟨⟨v0,v1,v2,v3⟩,v4,v5,v6⟩:=hn.seven;obtain⟨g0,g1,_,_⟩:=p.o.1.two;obtain⟨Wf,hWf⟩:=NX9 (W7.alloc (.cells #[.string ⟨#[116,114,117,110,107]⟩,.int .u64 e1,.int .u64 e2,.int .u64 0,.int .u64 0] 85))
 have hbf:Tf W7 Wf:=by rw[<-hWf];exact(ah _ _).alloc aj _
 have b:=ai (C.o.up hbf);have k:=ai (g.o.1.below hbf g.o.2);have a:=ai (Nat.lt_of_lt_of_le g.o.2 hbf.size);have v:=ai (p.o.1.below hbf p.o.2);have o:=ai (Nat.lt_of_lt_of_le p.o.2 hbf.size);have hS:Sl Wf Wf.heap.size 5 (some ⟨W7.heap.size,0,none⟩) 1 (flat upC [(zTr,ofB bC2,zD)]):=by rw[<-HD2.o,<-hWf];exact Sl.of_bk (n:=1) (size:=5) (Bk.new W7 _ _) rfl
 have HC:=ai (awW (w:=Wf) (s:=s7) hpck (some ⟨W7.heap.size,0,none⟩) 1 L b.o.m aj hS);unfold fH at HC;simp only[rpV,rpC]at HC;have i:=ai hWf;clear hWf hbf hS hn C;go_wp2_with fail;rw[i.o];refine HC.o.mono ?_;rintro e w9 ⟨r9,M,H,s9,rfl,hm,hb⟩;have N:=ai H;clear H i g0 g1;have c:=ai (b.o.up hb);have HM:=ai hm;have HB:=ai hb;have hn:=c.o.n;have hzb:=c.o.z.2;have l:=ai (k.o.below hb a.o);have f:=ai (Nat.lt_of_lt_of_le a.o hb.size);have x:=ai (v.o.below hb o.o);have q:=ai (Nat.lt_of_lt_of_le o.o hb.size);simp only[rpC]at hn;clear hm hb HC v0 v1 v2 v3 v4 v5 v6 g k a p v o;obtain⟨⟨v0,v1,v2,v3⟩,v4,v5,v6⟩:=hn.seven;obtain⟨⟨f0,f1,f2,f3⟩,f4,f5,f6⟩:=hn.free7;clear hn
 go_upto_region 6 with fail
 rw[jR w9 b0 r9 s9];have t:=ai (b.o.sto HM.o HB.o);have D:Hid (Bk (stR w9 b0 r9 s9) c1 50 #[.int .u64 d1,.int .u64 d2]/\c1< (stR w9 b0 r9 s9).heap.size):=⟨yJ l.o hck1,by rw[iP];exact f.o⟩
 have HC2:Hid (Bk (stR w9 b0 r9 s9) c2 50 #[.int .u64 e1,.int .u64 e2]/\c2< (stR w9 b0 r9 s9).heap.size):=⟨yJ x.o G,by rw[iP];exact q.o⟩
 obtain⟨O,I⟩:=NX9 (stR w9 b0 r9 s9)
 rw[I]at t D HC2 ⊢;clear I hzb b l f x q HM HB c v0 v1 v2 v3 v4 v5 v6 f0 f1 f2 f3 f4 f5 f6;have hn:=t.o.n;simp only[rpC]at hn;obtain⟨⟨v0,v1,v2,v3⟩,v4,v5,v6⟩:=hn.seven;have HC:=ai (awK (w:=O) (s:=s9) M t.o.m aj);unfold kR at HC;simp only[rpV,rpC]at HC;clear hn;go_wp2_with fail;refine HC.o.mono ?_;rintro e w10 ⟨r10,hp0,hl3,s10,rfl,hm,hb⟩;simp only[hp0,hl3];obtain⟨Wa,hWa⟩:=NX9 (w10.alloc (.cells #[.int .i64 r10.d.sz,.slice s10.d.a1 r10.d.ss.length s10.d.c1,.slice s10.d.a2 r10.d.pn.length s10.d.c2,.int .i64 r10.d.lf,.slice s10.pA 0 s10.pc,.slice s10.rA r10.rs.length s10.rc,.slice s10.lA 3 s10.lc] 35))
 have hba:Tf O Wa:=hb.trans (by rw[<-hWa];exact(ah _ w10).alloc hb.size _);have hna:=(t.o.up hba).n;have P:=ai (t.o.up hba).bl;obtain⟨g0,g1,_,_⟩:=(D.o.1.below hba D.o.2).two;obtain⟨q0,q1,_,_⟩:=(HC2.o.1.below hba HC2.o.2).two;have hka:Bk Wa w10.heap.size 35 #[.int .i64 r10.d.sz,.slice s10.d.a1 r10.d.ss.length s10.d.c1,.slice s10.d.a2 r10.d.pn.length s10.d.c2,.int .i64 r10.d.lf,.slice s10.pA 0 s10.pc,.slice s10.rA r10.rs.length s10.rc,.slice s10.lA 3 s10.lc]:=by rw[<-hWa];exact Bk.new _ _ _
 have J:=ai hWa;clear hWa hba hm hb hp0 hl3 HC v0 v1 v2 v3 v4 v5 v6
 go_upto_region 7 with fail
 rw[J.o];simp only[rpC,N.o]at hna;have v4:=hna.cell 4;have y4:=hka.cell 4;have y6:=hka.cell 6;simp at v4 y4 y6;have hnd: (d1 == e1 && d2 == e2)=false:=by
  rw[Bool.eq_false_iff];intro h;simp only[Bool.and_eq_true,beq_iff_eq]at h;exact neC (by rw[<-HD1.o,<-HD2.o,h.1,h.2])
 clear hna hka J;go_wp2_with fail;go_ret
 exact⟨rfl,P.o⟩
end
abbrev RS:=Td×Bool
def qN(s:RS):Nat×RS:=((aB s.1).1,s.1.drop (aB s.1).2.1,s.2 || decide ((aB s.1).2.2≠0))
def qT(s:RS):Td×RS:=((aN s.1).1,s.1.drop (aN s.1).2.1,s.2 || decide ((aN s.1).2.2≠0))
def qD(s:RS):Dig×RS:=if s.1.length<16 then(zD,s.1,true) else(dg s.1,s.1.drop 16,s.2)
def qE(s:RS):Ent×RS :=
 (⟨ofL (qT s).1,decide ((qN (qT s).2).1=1),(qD ((qN (qT s).2).2.1,(qN (qT s).2).2.2 || decide (1< (qN (qT s).2).1))).1⟩,(qD ((qN (qT s).2).2.1,(qN (qT s).2).2.2 || decide (1< (qN (qT s).2).1))).2)
def qL{α:Type}(g:RS->α×RS):Nat->RS->List α×RS
 | 0,s=>([],s)
 | n+1,s=>if s.2=true then([],s) else((g s).1:: (qL g n (g s).2).1,(qL g n (g s).2).2)
def qLs{α:Type}(g:RS->α×RS)(most:Nat)(s:RS):List α×RS:=qL g (qN s).1 ((qN s).2.1,(qN s).2.2 || decide (most< (qN s).1))
def qC(s:RS):Ob×RS :=
 (⟨3,⟨#[]⟩,[],(qD s).1,(qLs qD 8 (qD s).2).1,ofL (qT (qLs qD 8 (qD s).2).2).1,((qN (qT (qLs qD 8 (qD s).2).2).2).1:Nat),ofL (qT (qN (qT (qLs qD 8 (qD s).2).2).2).2).1⟩,(qT (qN (qT (qLs qD 8 (qD s).2).2).2).2).2)
def qO(b:Td):Ob×RS :=
 if(qN (b,false)).1=1∨ (qN (b,false)).1=4 then(⟨((qN (b,false)).1:Nat),ofL (qT (qN (b,false)).2).1,[],zD,[],⟨#[]⟩,0,⟨#[]⟩⟩,(qT (qN (b,false)).2).2)
 else if(qN (b,false)).1=2 then(⟨2,⟨#[]⟩,(qLs qE 200 (qN (b,false)).2).1,zD,[],⟨#[]⟩,0,⟨#[]⟩⟩,(qLs qE 200 (qN (b,false)).2).2)
 else if(qN (b,false)).1=3 then qC (qN (b,false)).2
 else(⟨((qN (b,false)).1:Nat),⟨#[]⟩,[],zD,[],⟨#[]⟩,0,⟨#[]⟩⟩,(qN (b,false)).2)
theorem nD{s:RS}{n:Nat}{r:Td}(h:qN s= (n,r,false)):s= (ak n++r,false)/\n<=1099511627776:=by
 obtain⟨b,bad⟩:=s;unfold qN at h;simp only[Prod.mk.injEq,Bool.or_eq_false_iff,decide_eq_false_iff_not,Decidable.not_not]at h;obtain⟨h1,h2,h3,h4⟩:=h;generalize hg:aB b=g at *;obtain⟨x,k,e⟩:=g;simp only at h1 h2 h4;subst h1 h4;obtain⟨r',rfl,rfl,hm⟩:=sU hg;rw[List.drop_left]at h2;subst h2 h3;exact⟨rfl,hm⟩
theorem kP{s:RS}{t r:Td}(h:qT s= (t,r,false)):s= (ax t++r,false)/\t.length<=65536:=by
 obtain⟨b,bad⟩:=s;unfold qT at h;simp only[Prod.mk.injEq,Bool.or_eq_false_iff,decide_eq_false_iff_not,Decidable.not_not]at h;obtain⟨h1,h2,h3,h4⟩:=h;generalize hg:aN b=g at *;obtain⟨x,k,e⟩:=g;simp only at h1 h2 h4;subst h1 h4;obtain⟨r',rfl,rfl,hm⟩:=EC hg;rw[List.drop_left]at h2;subst h2 h3;exact⟨rfl,hm⟩
theorem nG{s:RS}{d:Dig}{r:Td}(h:qD s= (d,r,false)):s= (ay d++r,false)/\WfD d:=by
 obtain⟨b,bad⟩:=s;unfold qD at h;simp only at h;split at h
 . simp at h
 . rename_i hl
   simp only[Prod.mk.injEq]at h;obtain⟨rfl,rfl,rfl⟩:=h;rw[Pm (by omega),List.take_append_drop];exact⟨rfl,Rk _⟩
theorem yI{s:RS}{e:Ent}{r:Td}(h:qE s= (e,r,false)):s= (aU e++r,false)/\WfD e.dg:=by
 unfold qE at h;simp only[Prod.mk.injEq]at h;obtain⟨rfl,h⟩:=h;obtain⟨x1,h1⟩:=NX9 (qT s)
 rw[h1]at h ⊢;obtain⟨x2,h2⟩:=NX9 (qN x1.2)
 rw[h2]at h ⊢;obtain⟨x3,h3⟩:=NX9 (qD (x2.2.1,x2.2.2 || decide (1<x2.1)))
 rw[h3]at h ⊢;obtain⟨d3,r3,b3⟩:=x3;simp only[Prod.mk.injEq]at h;obtain⟨rfl,rfl⟩:=h;obtain⟨e3,hw⟩:=nG h3;obtain⟨n2,r2,b2⟩:=x2;simp only[Prod.mk.injEq,Bool.or_eq_false_iff,decide_eq_false_iff_not,Nat.not_lt]at e3;obtain⟨rfl,rfl,hn⟩:=e3;obtain⟨e2,_⟩:=nD h2;obtain⟨t1,r1,b1⟩:=x1;simp only[Prod.mk.injEq]at e2;obtain⟨rfl,rfl⟩:=e2;obtain⟨e1,_⟩:=kP h1;refine⟨?_,hw⟩;rw[e1];unfold aU;simp only[bY,decide_eq_true_eq,ZZ];rw[show(if n2=1 then 1 else 0)=n2 by split <;> omega]
theorem Gl{α:Type}{g:RS->α×RS}{enc:α->Td}{P:α->Prop}(hg:∀s x r,g s= (x,r,false)->s= (enc x++r,false)/\P x):∀(n:Nat)(s:RS)(l:List α)(r:Td),qL g n s= (l,r,false)->s= (l.flatMap enc++r,false)/\l.length=n/\∀x∈l,P x
 | 0,s,l,r,h=>by
   simp only[qL,Prod.mk.injEq]at h;obtain⟨rfl,rfl⟩:=h;simp
 | n+1,s,l,r,h=>by
   rw[qL]at h;split at h
   . rename_i hb
     simp only[Prod.mk.injEq]at h;obtain⟨_,rfl⟩:=h;cases hb
   . simp only[Prod.mk.injEq]at h
     obtain⟨rfl,h⟩:=h;obtain⟨x,hx⟩:=NX9 (g s)
     rw[hx]at h ⊢;obtain⟨i1,i2,i3⟩:=Gl hg n x.2 (qL g n x.2).1 r (Prod.ext rfl h);obtain⟨l',hl'⟩:=NX9 ((qL g n x.2).1)
     rw[hl']at i1 i2 i3 ⊢;obtain⟨a,b⟩:=x;simp only at i1 i2 i3 ⊢;subst i1;obtain⟨j1,j2⟩:=hg s a _ hx;refine⟨by rw[j1,List.flatMap_cons,ZZ],by rw[Z4,i2],fun y hy=>?_⟩;rcases List.mem_cons.1 hy with rfl | hy
     . exact j2
     . exact i3 y hy
theorem tV{α:Type}{g:RS->α×RS}{enc:α->Td}{P:α->Prop}(hg:∀s x r,g s= (x,r,false)->s= (enc x++r,false)/\P x){most:Nat}{s:RS}{l:List α}{r:Td}(h:qLs g most s= (l,r,false)):s= (ak l.length++ (l.flatMap enc++r),false)/\l.length<=most/\∀x∈l,P x:=by
 unfold qLs at h;obtain⟨x,hx⟩:=NX9 (qN s)
 rw[hx]at h;obtain⟨h1,h2,h3⟩:=Gl hg _ _ _ _ h;obtain⟨n,r',b⟩:=x;simp only[Prod.mk.injEq,Bool.or_eq_false_iff,decide_eq_false_iff_not,Nat.not_lt]at h1 h2;obtain⟨rfl,rfl,h4⟩:=h1;subst h2;exact⟨(nD hx).1,h4,h3⟩
theorem QR{b:Td}{o:Ob}(h:qO b= (o,[],false))(ho:OkF o):b=aJ o:=by
 unfold qO at h;obtain⟨x,hx⟩:=NX9 (qN (b,false))
 rw[hx]at h;obtain⟨k,st⟩:=x;simp only at h;have key:∀{r:Td},st= (r,false)->k=o.kind.toNat->gX o=r->b=aJ o:=by
  rintro r rfl rfl rfl;obtain⟨e,_⟩:=nD hx;simp only[Prod.mk.injEq,and_true]at e;exact e
 split at h
 . rename_i hk
   simp only[Prod.mk.injEq]at h;obtain⟨rfl,h⟩:=h;obtain⟨e,_⟩:=kP (s:=st) (t:=(qT st).1) (r:= []) (Prod.ext rfl h);rw[List.append_nil]at e;exact key e rfl (by unfold gX;simp only;rw[if_neg (by omega),if_neg (by omega),bY])
 . split at h
   . rename_i hk
     simp only[Prod.mk.injEq]at h;obtain⟨rfl,h⟩:=h;obtain⟨e,_,_⟩:=tV (enc:=aU) (P:=fun e=>WfD e.dg) (fun s x r h=>yI h) (s:=st) (l:=(qLs qE 200 st).1) (r:= []) (Prod.ext rfl h);rw[List.append_nil]at e;exact key e hk (by unfold gX;simp only[if_true])
   . split at h
     . rename_i hk
       unfold qC at h;simp only[Prod.mk.injEq]at h;obtain⟨rfl,h⟩:=h;obtain⟨x1,h1⟩:=NX9 (qD st)
       rw[h1]at h ho key ⊢;obtain⟨x2,h2⟩:=NX9 (qLs qD 8 x1.2)
       rw[h2]at h ho key ⊢;obtain⟨x3,h3⟩:=NX9 (qT x2.2)
       rw[h3]at h ho key ⊢;obtain⟨x4,h4⟩:=NX9 (qN x3.2)
       rw[h4]at h ho key ⊢;obtain⟨e5,_⟩:=kP (s:=x4.2) (t:=(qT x4.2).1) (r:= []) (Prod.ext rfl h);obtain⟨n4,s4⟩:=x4;simp only at e5 h ho key ⊢;rw[List.append_nil]at e5;obtain⟨t5,a⟩:=NX9 ((qT s4).1)
       rw[a]at e5 ho key ⊢;subst e5;obtain⟨e4,_⟩:=nD h4;obtain⟨t3,s3⟩:=x3;simp only at e4 h ho key ⊢;subst e4;obtain⟨e3,_⟩:=kP h3;obtain⟨l2,s2⟩:=x2;simp only at e3 h ho key ⊢;subst e3;obtain⟨e2,_,_⟩:=tV (enc:=ay) (P:=WfD) (fun s x r h=>nG h) h2;obtain⟨d1,s1⟩:=x1;simp only at e2 h ho key ⊢;subst e2;obtain⟨e1,_⟩:=nG h1;exact key e1 hk (by unfold gX;simp only[if_true,bY,Int.toNat_natCast];rw[if_neg (by omega)])
     . simp only[Prod.mk.injEq]at h
       obtain⟨rfl,_⟩:=h;have:=ho.kind_le;simp only at this;omega
