/-
  Lemmas of the card.
-/
import Derived.Test.YtknefelegjlgnaaGreatDoorCCCp26
set_option maxRecDepth 100000
set_option maxHeartbeats 16000000
namespace Go.Proofs.YtknefelegjlgnaaGreatDoor
open Go.RowKit
theorem QZ{l:List AcX}{k:Nat}{x:AcX}(hx:l[k]? =some x)(h:∀y∈l.take k,AcF y.1)(hf:AcF x.1):∀y∈l.take (k+1),AcF y.1:=fun y hy=>by
 rw[bJ hx]at hy;rcases List.mem_append.1 hy with hy | hy
 . exact h y hy
 . rw[List.mem_singleton.1 hy];exact hf
def IX(n z:Int)(l:List AcX)(w:UW)(e:Ending)(w':UW):Prop:=∃r:Bool,e= .returned (.bool r)/\ (r=true->l.length<=8/\n<=100/\z<=128/\∀a∈l,AcF a.1)/\U0 w w'
theorem OH(n z:Int)(l:List AcX)(A:OA)(m c B:Nat)(w:UW)(h:AcsM w B A m l)(hb:∀a∈l,AcB a.1)(hB:B<=w.heap.size)(hm:m<=maxLen) :
  Calls Tryz.prog 47 #[jW n z A m c] w (IX n z l w):=by
 unfold maxLen at hm;have j:=ai (h.s.len tJ (by omega));obtain⟨W,hW⟩:=NX9 (w.alloc (.cells #[.int .i64 n,.int .i64 z,.slice A m c] 42))
 have HB0:U6 w W:=by rw[<-hW];exact(ah _ w).alloc aj _
 have HK:Hid (Bk W w.heap.size 42 #[.int .i64 n,.int .i64 z,.slice A m c]):=by rw[<-hW];exact Bk.new w _ _
 have H:=ai h;have HAB:=ai hb;have o:=ai hB;have HW:=ai hW;clear hW h hb;unfold jW;obtain⟨k0,k1,k2⟩:=HK.o.three;by_cases c1: (8:Int)< (m:Int)
 . go_enter Tryz.func47,Tryz.ntmps47
   go_wp2_with fail;rw[HW.o];go_ret
   exact⟨false,rfl,(fun h=>by cases h),HB0.o⟩
 by_cases c2:100<n
 . go_enter Tryz.func47,Tryz.ntmps47
   go_wp2_with fail;rw[HW.o];go_ret
   exact⟨false,rfl,(fun h=>by cases h),HB0.o⟩
 by_cases c3:128<z
 . go_enter Tryz.func47,Tryz.ntmps47
   go_wp2_with fail;rw[HW.o];go_ret
   exact⟨false,rfl,(fun h=>by cases h),HB0.o⟩
 go_enter Tryz.func47,Tryz.ntmps47
 go_wp2_with fail;rw[HW.o]
 go_loopw[22] (fun i wr=>∃k:Nat,k<=m/\i= .int .i64 k/\U6 w wr/\Hid (∀y∈l.take k,AcF y.1)) (fun i _=>m - (intOf i).toNat)
 case atStart=>exact⟨0,ZX _,rfl,HB0.o,fun y hy=>by simp at hy⟩
 case round =>
  obtain⟨k,hk,rfl,hBr,hF⟩:=hrel;have d:=ai hBr.o;have HF:=ai hF.o;clear hBr hF k0 k1 k2;by_cases hlt:k<m
  . obtain⟨b,off,x,rfl,hbB,hx,⟨x0,x1,x2,x3⟩,x4,x5,x6⟩:=(H.o.below d.o o.o).s.ac hlt
    have hlz: (k:Int)< (m:Int):=by omega
    have HX:=ai hx;obtain⟨wx,hwx⟩:=NX9 (wr.alloc (.cells (acA x) 65))
    have hbx:U0 wr wx:=by rw[<-hwx];exact(ah _ wr).alloc aj _
    have p:Hid (Bk wx wr.heap.size 65 (acA x)):=by rw[<-hwx];exact Bk.new wr _ _
    have f:U6 w wx:=d.o.trans (hbx.mono d.o.size);have hmem:x∈l:=Z7 hx;have HC:=ai (Oz x B wx ((H.o.m x hmem).below f.o o.o) (HAB.o x hmem) (by have:=f.o.size;omega));have q:=ai hwx;clear hx hwx hbx hmem;unfold IJ at HC;simp only[acA]at p q HC;obtain⟨⟨y0,y1,y2,y3⟩,y4,u,y6⟩:=p.o.seven;go_wp2_with fail;rw[q.o];refine HC.o.mono ?_;rintro e w1 ⟨g,rfl,hg,hb1⟩;have HG:=ai hg;have HB1:U6 w w1:=f.o.trans (hb1.mono f.o.size);clear hg hb1 HC x0 x1 x2 x3 x4 x5 x6 y0 y1 y2 y3 y4 u y6;cases g with
    | false =>
      go_wp2_with fail;go_ret
      exact⟨false,rfl,(fun h=>by cases h),HB1.o⟩
    | true =>
      have r:=ai (QZ HX.o HF.o (HG.o (by simp)));go_wp2_with fail;go_roundw
      case rel=>exact⟨k+1,hlt,by go_num,HB1.o,r.o⟩
      case measure=>simp[intOf];omega
  . have hlz:¬(k:Int)< (m:Int):=by omega
    have t:Hid (∀y∈l,AcF y.1):=by
     have:=HF.o
     rwa[ZU (by rw[j.o];omega)]at this
    go_wp2_with fail;go_ret
    exact⟨true,rfl,fun _=>⟨by rw[j.o];omega,by omega,by omega,t.o⟩,d.o⟩
def zK(w:UW)(e:Ending)(w':UW):Prop:=∃(ok:Bool)(r':Rp)(s':Rsl),e= .returned (.tuple #[rpV r' s',.bool ok])/\ (ok=true->RI r')/\RpM w' w'.heap.size r' s'/\U0 w w'
theorem Tj{n z:Int}(hr:jF n z=true)(hn:n<=100)(hz:z<=128)(h3:3<= (aV n.toNat z.toNat).ss.length) :
  RI ⟨(aJ (aV n.toNat z.toNat) (bU (aV n.toNat z.toNat).sz (aV n.toNat z.toNat).ss)).1,[],[],[]⟩/\ (aJ (aV n.toNat z.toNat) (bU (aV n.toNat z.toNat).sz (aV n.toNat z.toNat).ss)).2=0:=by
 unfold jF at hr;simp only[decide_eq_true_eq]at hr;have ho: (aV n.toNat z.toNat).Ok:=sZ (by omega) (by omega) (by omega) (by omega);obtain⟨h1,h2,_,_⟩:=Gy ho h3 rfl rfl;obtain⟨g1,g2⟩:=lD (bU (aV n.toNat z.toNat).sz (aV n.toNat z.toNat).ss) (aV n.toNat z.toNat);refine⟨⟨?_,?_,by show(aJ _ _).1.pn.length<=1000;rw[h2.pn];exact ZX _,.inl ⟨[],h2,Mt.nil⟩⟩,h1⟩
 . show(aJ _ _).1.ss.length<=100
   rw[g2];simp[aV];omega
 . show(aJ _ _).1.sz<=128
   rw[g1];simp[aV];omega
theorem J3(hpck:jR)(n z:Int)(l:List AcX)(A:OA)(m c B:Nat)(w:UW)(h:AcsM w B A m l)(hb:∀a∈l,AcB a.1)(hB:B<=w.heap.size)(hm:m<=maxLen) :
  Calls Tryz.prog 16 #[jW n z A m c] w (zK w):=by
 obtain⟨W,hW⟩:=NX9 ((w.alloc (.cells #[.int .i64 n,.int .i64 z,.slice A m c] 42)).alloc (.cells rzC 35))
 have HB0:U6 w W:=by rw[<-hW];exact((ah _ w).alloc aj _).alloc (by simp) _
 have HK:Hid (Bk W w.heap.size 42 #[.int .i64 n,.int .i64 z,.slice A m c]):=by rw[<-hW];exact(Bk.new w _ _).alloc _
 have HZ:Hid (Bk W (w.heap.size+1) 35 rzC):=by rw[<-hW];exact(Bk.new _ _ _).at_ (by simp)
 have zW:W.heap.size=w.heap.size+2:=by rw[<-hW];simp
 have HF:=ai (OH n z l A m c B W (h.below HB0.o hB) hb (by omega) hm);have H:=ai h;have Q:=ai hB;have bz:=ai (h.s.len tJ (by unfold maxLen at hm;omega));have HW:=ai hW;clear hW h hb hm;have J:Hid (∀w',U0 w w'->zK w (.returned (.tuple #[.agg rzC,.bool false])) w'):=fun w' hb=>⟨false,zRp,zRs,rfl,(fun h=>by cases h),RpM.zero _ _,hb⟩
 unfold IX at HF;unfold jW at HF ⊢;obtain⟨k0,k1,k2⟩:=HK.o.three
 go_enter Tryz.func16,Tryz.ntmps16
 go_wp2_with fail;rw[HW.o];refine HF.o.mono ?_;rintro e w1 ⟨g,rfl,hg,hb1⟩;have HG:=ai hg;have HB1:U6 w w1:=HB0.o.trans (hb1.mono HB0.o.size);have E:=ai (HK.o.below hb1 (by omega));have HZ1:=ai (HZ.o.below hb1 (by omega));have z1:w.heap.size+2<=w1.heap.size:=by have:=hb1.size;omega
 clear hg hb1 HF k0 k1 k2 HK HZ HB0;obtain⟨k0,k1,k2⟩:=E.o.three;cases g with
 | false =>
   obtain⟨⟨f0,f1,f2,f3⟩,f4,f5,f6⟩:=HZ1.o.free7;obtain⟨⟨z0,z1,z2,z3⟩,z4,z5,z6⟩:=HZ1.o.seven;go_wp2_with fail;exact ZW (eF Tryz.results16 rfl (HZ1.o.set7 _ _ _ _ _ _ _) rfl) rfl (J.o _ (dM HB1.o (by omega) _ _ _ _ _ _ _))
 | true =>
   obtain⟨iU,hn,hz,hfs⟩:=HG.o (by simp);have ku:m<=8:=by have:=bz.o;omega
   have R:=ai hfs;clear hfs HG;have HD:=ai (Ep n z w1);unfold aZ at HD;cases hr:jF n z with
   | false =>
     rw[hr]at HD;simp only[Bool.false_eq_true,if_false,zDk,dkV,dkC,List.length_nil]at HD;go_wp2_with fail;refine HD.o.mono ?_;rintro e w2 ⟨s',rfl,_,hb2⟩;have HB2:U6 w w2:=HB1.o.trans (hb2.mono (by omega));have HZ2:=ai (HZ1.o.below hb2 (by omega));have cu:=hb2.size;clear hb2 HD k0 k1 k2 E HZ1 HB1;obtain⟨w3,hw3⟩:=NX9 (w2.alloc (.cells #[.int .i64 0,.slice s'.a1 0 s'.c1,.slice s'.a2 0 s'.c2,.int .i64 0] 25))
     have HB3:U6 w w3:=by rw[<-hw3];exact HB2.o.alloc (by omega) _
     have HZ3:Hid (Bk w3 (w.heap.size+1) 35 rzC):=by rw[<-hw3];exact HZ2.o.alloc _
     have HW3:=ai hw3;clear hw3 HZ2 HB2;obtain⟨⟨f0,f1,f2,f3⟩,f4,f5,f6⟩:=HZ3.o.free7;obtain⟨⟨z0,z1,z2,z3⟩,z4,z5,z6⟩:=HZ3.o.seven
     go_upto_region 5 with fail
     rw[HW3.o];go_wp2_with fail;exact ZW (eF Tryz.results16 rfl (HZ3.o.set7 _ _ _ _ _ _ _) rfl) rfl (J.o _ (dM HB3.o (by omega) _ _ _ _ _ _ _))
   | true =>
     have hr':=hr;unfold jF at hr';simp only[decide_eq_true_eq]at hr';have K:Hid ((aV n.toNat z.toNat).Ok):=sZ (by omega) (by omega) (by omega) (by omega);have S:=ai (fun h3=>Tj hr hn hz h3);have hlen: (aV n.toNat z.toNat).ss.length=n.toNat:=by simp[aV]
     have f: (aV n.toNat z.toNat).pn.length=0:=rfl;rw[hr]at HD;simp only[if_true]at HD;obtain⟨d,hd⟩:=NX9 (aV n.toNat z.toNat)
     rw[hd]at HD K S hlen f;clear hd hr';obtain⟨dn,hdn⟩:=NX9 d.ss.length
     simp only[dkV,dkC,f,hdn]at HD;go_wp2_with fail;refine HD.o.mono ?_;rintro e w2 ⟨s',rfl,hm2,hb2⟩;have HB2:U6 w w2:=HB1.o.trans (hb2.mono (by omega));have T:=ai (E.o.below hb2 (by omega));have HZ2:=ai (HZ1.o.below hb2 (by omega));have cu:=hb2.size;clear hb2 HD k0 k1 k2 E HZ1 HB1;obtain⟨w3,hw3⟩:=NX9 (w2.alloc (.cells #[.int .i64 d.sz,.slice s'.a1 dn s'.c1,.slice s'.a2 0 s'.c2,.int .i64 d.lf] 25))
     have hb3:U0 w2 w3:=by rw[<-hw3];exact(ah _ w2).alloc aj _
     have HB3:U6 w w3:=HB2.o.trans (hb3.mono (by omega));have L:=ai (T.o.below hb3 (by omega));have HZ3:=ai (HZ2.o.below hb3 (by omega));have HD3:Hid (Bk w3 w2.heap.size 25 #[.int .i64 d.sz,.slice s'.a1 dn s'.c1,.slice s'.a2 0 s'.c2,.int .i64 d.lf]):=by rw[<-hw3];exact Bk.new _ _ _
     have z3:=hb3.size;have F:=hm2.below hb3 aj;have HW3:=ai hw3;clear hw3 hb3 hm2 HZ2 T HB2;obtain⟨l0,l1,l2,l3⟩:=HD3.o.dk4;by_cases h3:3<=d.ss.length
     . obtain⟨p,hx0⟩:=S.o h3
       have HR0:=ai p;have HI:=ai (Et d s' w2.heap.size w3 K.o h3 (by omega) F z3);unfold eQ at HI;rw[hx0]at HI;obtain⟨r0,hr0⟩:=NX9 ((⟨(aJ d (bU d.sz d.ss)).1,[],[],[]⟩:Rp))
       rw[hr0]at HI HR0;simp only[dkV,dkC,f,hdn,rpV,rpC]at HI;clear p hx0 hr0 F l0 l1 l2 l3;go_wp2_with fail;rw[HW3.o];refine HI.o.mono ?_;rintro e w4 ⟨s4,rfl,hm4,hb4⟩;have HB4:U6 w w4:=HB3.o.trans (hb4.mono (by omega));have U:=ai (L.o.below hb4 (by omega));have r:=ai (HZ3.o.below hb4 (by omega));have V:=hb4.size;clear hb4 HI L HZ3 HD3 HB3;obtain⟨w5,hw5⟩:=NX9 (w4.alloc (.cells (rpC r0 s4) 35))
       have hb5:U0 w4 w5:=by rw[<-hw5];exact(ah _ w4).alloc aj _
       have M:U6 w w5:=HB4.o.trans (hb5.mono (by omega));have cO:=ai (U.o.below hb5 (by omega));have v:=ai (r.o.below hb5 (by omega));have X:Hid (Bk w5 w4.heap.size 35 (rpC r0 s4)):=by rw[<-hw5];exact Bk.new _ _ _
       have dN:Hid (RpM w5 w5.heap.size r0 s4):=(hm4.below hb5 aj).more hb5.size;have z5:w5.heap.size=w4.heap.size+1:=by rw[<-hw5];simp
       have C:=ai hw5;clear hw5 hb5 hm4 U r HB4;simp only[rpC]at C;obtain⟨k0,k1,k2⟩:=cO.o.three;obtain⟨b6,hb6⟩:=NX9 w4.heap.size
       rw[hb6]at X z5 V
       go_upto_region 7 with fail
       rw[C.o];clear C
       try simp only[hb6]
       clear hb6;go_wp2_with fail
       go_loopw[36] (fun i wr=>∃(k:Nat)(r':Rp)(s':Rsl),k<=m/\i= .int .i64 k/\Hid (RI r')/\Hid (RpM wr wr.heap.size r' s')/\Hid (Bk wr b6 35 (rpC r' s'))/\Hid (Bk wr (w.heap.size+1) 35 rzC)/\U6 w wr/\b6<wr.heap.size) (fun i _=>m - (intOf i).toNat)
       case atStart=>exact⟨0,r0,s4,ZX _,rfl,HR0.o,dN.o,X.o,v.o,M.o,by omega⟩
       case round =>
        obtain⟨k,r1,s1,hk,rfl,p,hrm,hN,hZ,hBr,hbz⟩:=hrel;have j:=ai p.o;have N:=ai hrm.o;have HN:=ai hN.o;have o:=ai hZ.o;have G:=ai hBr.o;clear p hrm hN hZ hBr k0 k1 k2;by_cases hlt:k<m
        . obtain⟨b,off,x,rfl,hbB,hx,⟨x0,x1,x2,x3⟩,x4,x5,x6⟩:=(H.o.below G.o Q.o).s.ac hlt
          have hlz: (k:Int)< (m:Int):=by omega
          obtain⟨wx,hwx⟩:=NX9 (wr.alloc (.cells (acA x) 65))
          have hbx:U0 wr wx:=by rw[<-hwx];exact(ah _ wr).alloc aj _
          have Y:Hid (Bk wx wr.heap.size 65 (acA x)):=by rw[<-hwx];exact Bk.new wr _ _
          have D:U6 w wx:=G.o.trans (hbx.mono G.o.size);have zx:=hbx.size;have O:=ai (HN.o.below hbx hbz);have Z:=ai (o.o.below hbx (by omega));have hmem:x∈l:=Z7 hx;obtain⟨gs,a,u,hlv⟩:∃gs a u,r1.d.lf≠0->Lvs r1 gs a u:=by
           by_cases h0:r1.d.lf=0
           . exact⟨[],0,0,fun h=>absurd h0 h⟩
           . obtain⟨gs,a,u,h⟩:=j.o.lv h0
             exact⟨gs,a,u,fun _=>h⟩
          have ed:=ai hlv;have fA:=ai (R.o x hmem);have HC:=ai (SN hpck r1 s1 gs a u x wx.heap.size wx j.o hlv ((N.o.below hbx aj).more zx) (((H.o.m x hmem).below D.o Q.o).more (by have:=D.o.size;omega)) (R.o x hmem) aj);have P:=ai hwx;have hnr:=HN.o;simp only[rpC]at hnr;clear hx hwx hbx hmem hlv HN o N;unfold eQ at HC;simp only[acA,rpV,rpC]at Y P HC O;obtain⟨⟨v0,v1,v2,v3⟩,v4,v5,v6⟩:=hnr.seven;clear hnr;go_wp2_with fail;rw[P.o];refine HC.o.mono ?_;rintro e w6 ⟨r2,y,⟨s2,rfl,ag,hb6⟩,hdo⟩;have HR2:=ai (hdo.ri j.o ed.o fA.o);have fO:=ai ag;have fU:U6 w w6:=D.o.trans (hb6.mono D.o.size);have I:=ai (O.o.below hb6 (by omega));have gu:=ai (Z.o.below hb6 (by omega));have z6:=hb6.size;clear hdo ag hb6 HC Y O Z D P x0 x1 x2 x3 x4 x5 x6 v0 v1 v2 v3 v4 v5 v6;obtain⟨⟨v0,v1,v2,v3⟩,v4,v5,v6⟩:=I.o.seven;obtain⟨⟨f0,f1,f2,f3⟩,f4,f5,f6⟩:=I.o.free7
          go_upto_region 13 with fail
          rw[jQ w6 b6 r2 s2];have e7:=iO w6 b6 r2 s2;have au:Hid (RpM (stR w6 b6 r2 s2) (stR w6 b6 r2 s2).heap.size r2 s2):=(fO.o.st (q:=r1) (t:=s1) I.o).more (by omega);have bf:Hid (Bk (stR w6 b6 r2 s2) b6 35 (rpC r2 s2)):=I.o.set7 _ _ _ _ _ _ _;have bg:Hid (Bk (stR w6 b6 r2 s2) (w.heap.size+1) 35 rzC):=(iJ _ _ _ _ _ _ _ _ _ _ (by omega)).trans gu.o;have bn:U6 w (stR w6 b6 r2 s2):=dM fU.o (by omega) _ _ _ _ _ _ _;obtain⟨w7,hw7⟩:=NX9 (stR w6 b6 r2 s2)
          rw[hw7]at au bf bg bn e7 ⊢;clear hw7 v0 v1 v2 v3 v4 v5 v6 f0 f1 f2 f3 f4 f5 f6;go_wp2_with fail;go_roundw
          case rel=>exact⟨k+1,r2,s2,hlt,by go_num,HR2.o,au.o,bf.o,bg.o,bn.o,by omega⟩
          case measure=>simp[intOf];omega
        . have hlz:¬(k:Int)< (m:Int):=by omega
          simp only[rpC]at HN;obtain⟨⟨v0,v1,v2,v3⟩,v4,v5,v6⟩:=HN.o.seven;obtain⟨⟨f0,f1,f2,f3⟩,f4,f5,f6⟩:=o.o.free7;obtain⟨⟨z0,z1,z2,z3⟩,z4,z5,z6⟩:=o.o.seven;go_wp2_with fail;refine ZW (eF Tryz.results16 rfl (o.o.set7 _ _ _ _ _ _ _) rfl) rfl ⟨true,r1,s1,rfl,fun _=>j.o,?_,dM G.o (by omega) _ _ _ _ _ _ _⟩;exact(N.o.st (q:=zRp) (t:=zRs) (r0:=r1) (s0:=s1) o.o).more (by have:=iO wr (w.heap.size+1) r1 s1;unfold stR at this;omega)
     . have HI:=ai (Nl d s' w2.heap.size w3 K.o (by omega) (by omega) F z3)
       unfold eQ at HI;simp only[dkV,dkC,f,hdn,rpV,rpC,zRp,List.length_nil]at HI;clear F l0 l1 l2 l3;go_wp2_with fail;rw[HW3.o];refine HI.o.mono ?_;rintro e w4 ⟨s4,rfl,hm4,hb4⟩;have HB4:U6 w w4:=HB3.o.trans (hb4.mono (by omega));have r:=ai (HZ3.o.below hb4 (by omega));have V:=hb4.size;clear hb4 hm4 HI L HZ3 HD3 HB3;obtain⟨w5,hw5⟩:=NX9 (w4.alloc (.cells #[.int .i64 0,.slice s4.d.a1 0 s4.d.c1,.slice s4.d.a2 0 s4.d.c2,.int .i64 0,.slice s4.pA 0 s4.pc,.slice s4.rA 0 s4.rc,.slice s4.lA 0 s4.lc] 35))
       have M:U6 w w5:=by rw[<-hw5];exact HB4.o.alloc (by omega) _
       have v:Hid (Bk w5 (w.heap.size+1) 35 rzC):=by rw[<-hw5];exact r.o.alloc _
       have C:=ai hw5;clear hw5 r HB4;obtain⟨⟨f0,f1,f2,f3⟩,f4,f5,f6⟩:=v.o.free7;obtain⟨⟨z0,z1,z2,z3⟩,z4,z5,z6⟩:=v.o.seven
       go_upto_region 8 with fail
       rw[C.o];go_wp2_with fail;exact ZW (eF Tryz.results16 rfl (v.o.set7 _ _ _ _ _ _ _) rfl) rfl (J.o _ (dM M.o (by omega) _ _ _ _ _ _ _))
section
theorem tV(s:UX)(h:s.size<128):ax (toL s)=UInt8.ofNat s.size::toL s:=by
 unfold ax;have: (toL s).length=s.size:=by simp[toL]
 rw[this,eu h];rfl
theorem Gq(s:UX)(h:s.size<128):aI (eU s)=1::UInt8.ofNat s.size::toL s:=by
 show ak 1++ax (toL s)=_;rw[eu (by omega),tV s h];rfl
theorem GL(n:UX)(d:Dig)(h:n.size<128):aI (dY [⟨n,false,d⟩])=2::1::UInt8.ofNat n.size:: (toL n++0::ay d):=by
 show ak 2++ (ak 1++ ((ax (toL n)++ (ak 0++ay d))++ []))=_;rw[eu (n:=2) (by omega),eu (n:=1) (by omega),eu (n:=0) (by omega),tV n h];simp
theorem Gn(t:Dig)(ps:List Dig)(a m:UX)(n:Nat)(h:ps.length<128)(h1:a.size<128)(h2:m.size<128)(h3:n<128) :
  aI ⟨3,⟨#[]⟩,[],t,ps,a,n,m⟩=3:: (ay t++ (UInt8.ofNat ps.length:: (ps.flatMap ay++ (UInt8.ofNat a.size:: (toL a++ (UInt8.ofNat n::UInt8.ofNat m.size::toL m)))))):=by
 show ak 3++ (ay t++ (ak ps.length++ (ps.flatMap ay++ (ax (toL a)++ (ak n++ax (toL m))))))=_;rw[eu (n:=3) (by omega),eu h,tV a h1,tV m h2,eu h3];simp
/-! ### pools in which nothing is missing -/
def Clo(p:List Itm):Prop:=PlOk p/\∀x o,aG p x=some o->∀y∈bW o,y≠zD->aG p y≠none
theorem Clo.nil:Clo []:=⟨PlOk.nil,fun x o h=>by simp[aG,bM]at h⟩
theorem Clo.put{p q:List Itm}{o:Ob}(h:Clo p)(ho:OkO o)(hi:bH p o=some q)(hl:∀y∈bW o,y≠zD->aG p y≠none):Clo q:=by
 have hq:=pJ h.1 ho hi;have hs:=mZ h.1 hi;refine⟨hq,fun x o' hx y hy hz=>?_⟩;have hm:aG p y≠none:=by
  obtain⟨ho',hx'⟩:=(iw hq).1 hx;rcases (oN h.1.asc hi _).1 hx' with hx' | hx'
  . exact h.2 x o' ((iw h.1).2 ⟨ho',hx'⟩) y hy hz
  . have e:aI o'=aI o:=by
      have:=congrArg Prod.snd hx';have:=congrArg toL this
      simpa [dw] using this
    rw[En e ho'.f ho.f]at hy;exact hl y hy hz
 obtain⟨z,hz'⟩:=Option.ne_none_iff_exists'.1 hm;rw[mF h.1 hq hs hz'];simp
theorem Clo.whole{p:List Itm}(h:Clo p){ds:List Dig}(hd:∀d∈ds,aG p d≠none):¬Miss p ds:=by
 have hr:∀x,Rchd p ds x->x=zD∨aG p x≠none:=fun x hx=>by
  induction hx with
  | root h'=>exact .inr (hd _ h')
  | @link d x o _ g m _ =>
    by_cases hz:x=zD
    . exact .inl hz
    . exact .inr (h.2 _ _ g x m hz)
 rintro ⟨x,hx,h1,h2⟩;rcases hr x h1 with h3 | h3
 . exact hx h3
 . exact h3 h2
theorem FD{p q:List Itm}(hq:AscI q)(h:subP p q):UniR p q q:=⟨hq,fun x=>⟨.inr,fun hx=>hx.elim (h x) id⟩⟩
theorem RU{p:List Itm}(hp:AscI p):UniR p [] p:=⟨hp,fun x=>by simp⟩
theorem wV{p q r:List Itm}{rs rs':List Rf}{lg us:List Upd}(hq:PlOk q)(hr:UniR p q r)(ha:dE rs lg us= (rs',lg++us,0))(hu:us≠ [])(hc:∀u∈us,u.2.2≠zD->dL r u.2.2=0) :
  dH p rs lg q us= .app (us,aY (dO p q)) r rs' (lg++us):=by
 unfold dH;rw[yG hr,if_pos ⟨hq,hr.clear,by rw[ha],hc⟩,if_neg (fun h=>hu h.2),ha]
theorem Rq(p:List Itm):iD p []= []:=by
 have h:∀x,¬Rchd p [] x:=fun x hx=>by
  induction hx with
  | root h=>cases h
  | link _ _ _ ih=>exact ih
 unfold iD;rw[List.filter_eq_nil_iff];intro i _
 simpa using h i.1
/-! ### the example -/
attribute [local irreducible] ofB ay
def zA:UX:=⟨#[97]⟩
def z1:UX:=⟨#[49]⟩
def z2:UX:=⟨#[50]⟩
def zTr:UX:=⟨#[116,114,117,110,107]⟩
def zFi:UX:=⟨#[102,105,114,115,116]⟩
def zSe:UX:=⟨#[115,101,99,111,110,100]⟩
def bB1:UZ:= [1,1,49]
def bB2:UZ:= [1,1,50]
def bT1:UZ:= [2,1,1,97,0]++ay (ofB bB1)
def bT2:UZ:= [2,1,1,97,0]++ay (ofB bB2)
def bC1:UZ:=3:: (ay (ofB bT1)++ [0,3,97,110,110,1,5,102,105,114,115,116])
def bC2:UZ:=3:: (ay (ofB bT2)++1:: (ay (ofB bC1)++ [3,97,110,110,2,6,115,101,99,111,110,100]))
def itZ(b:UZ):Itm:=(ofB b,ofL b)
def k1:List Itm:=(dB [] (itZ bB1)).getD []
def k2:List Itm:=(dB k1 (itZ bT1)).getD []
def k3:List Itm:=(dB k2 (itZ bC1)).getD []
def k4:List Itm:=(dB k3 (itZ bB2)).getD []
def k5:List Itm:=(dB k4 (itZ bT2)).getD []
def k6:List Itm:=(dB k5 (itZ bC2)).getD []
theorem mJ{α:Type}{o:Option (List α)}(h:o.isSome=true):o=some (o.getD []):=by cases o with | none=>cases h | some _=>rfl
theorem j1:dB [] (itZ bB1)=some k1:=mJ (by decide +kernel)
theorem j2:dB k1 (itZ bT1)=some k2:=mJ (by decide +kernel)
theorem j3:dB k2 (itZ bC1)=some k3:=mJ (by decide +kernel)
theorem j4:dB k3 (itZ bB2)=some k4:=mJ (by decide +kernel)
theorem j5:dB k4 (itZ bT2)=some k5:=mJ (by decide +kernel)
theorem j6:dB k5 (itZ bC2)=some k6:=mJ (by decide +kernel)
def oB1:Ob:=eU z1
def oB2:Ob:=eU z2
def oT1:Ob:=dY [⟨zA,false,ofB bB1⟩]
def oT2:Ob:=dY [⟨zA,false,ofB bB2⟩]
def oC1:Ob:=bQ (ofB bT1) zD dS zFi 1
def oC2:Ob:=bQ (ofB bT2) (ofB bC1) dS zSe 2
theorem eB1:aI oB1=bB1:=Gq z1 (by decide)
theorem eB2:aI oB2=bB2:=Gq z2 (by decide)
theorem eT1:aI oT1=bT1:=GL zA _ (by decide)
theorem eT2:aI oT2=bT2:=GL zA _ (by decide)
theorem eC1:aI oC1=bC1:=by
 unfold oC1 bQ;rw[if_pos rfl];exact Gn (ofB bT1) [] dS zFi 1 (by decide) (by decide) (by decide) (by decide)
theorem eC2:aI oC2=bC2:=by
 unfold oC2 bQ;rw[if_neg (kL _)];refine(Gn (ofB bT2) [ofB bC1] dS zSe 2 (by decide) (by decide) (by decide) (by decide)).trans ?_;rw[List.flatMap_cons,List.flatMap_nil,List.append_nil];rfl
theorem kB1:OkO oB1:=sK (by decide)
theorem kB2:OkO oB2:=sK (by decide)
theorem IM{d:Dig}(h:WfD d)(h2:d≠zD):OkO (dY [⟨zA,false,d⟩]):=wQ ⟨by simp,fun e he=>by rw[List.mem_singleton.1 he];exact⟨(by decide +kernel:nameB zA=true),h,h2⟩,fun j a b _ h=>by simp at h⟩
theorem kT1:OkO oT1:=IM (fJ _) (kL _)
theorem kT2:OkO oT2:=IM (fJ _) (kL _)
theorem IV:qB dS zFi 1:=⟨by decide +kernel,by decide,by decide,by decide⟩
theorem I4:qB dS zSe 2:=⟨by decide +kernel,by decide,by decide,by decide⟩
theorem kC1:OkO oC1:=uu IV (fJ _) (kL _) ⟨by decide,by decide,by decide,by decide⟩
theorem kC2:OkO oC2:=uu I4 (fJ _) (kL _) (fJ _)
theorem p1:bH [] oB1=some k1:=by unfold bH;rw[eB1];exact j1
theorem p2:bH k1 oT1=some k2:=by unfold bH;rw[eT1];exact j2
theorem p3:bH k2 oC1=some k3:=by unfold bH;rw[eC1];exact j3
theorem p4:bH k3 oB2=some k4:=by unfold bH;rw[eB2];exact j4
theorem p5:bH k4 oT2=some k5:=by unfold bH;rw[eT2];exact j5
theorem p6:bH k5 oC2=some k6:=by unfold bH;rw[eC2];exact j6
theorem dB1:dgO oB1=ofB bB1:=by unfold dgO;rw[eB1]
theorem dB2:dgO oB2=ofB bB2:=by unfold dgO;rw[eB2]
theorem dT1:dgO oT1=ofB bT1:=by unfold dgO;rw[eT1]
theorem dT2:dgO oT2=ofB bT2:=by unfold dgO;rw[eT2]
theorem dC1:dgO oC1=ofB bC1:=by unfold dgO;rw[eC1]
theorem dC2:dgO oC2=ofB bC2:=by unfold dgO;rw[eC2]
theorem c1:Clo k1:=Clo.nil.put kB1 p1 (fun y hy=>by simp[bW,oB1,eU]at hy)
theorem g1B:aG k1 (ofB bB1)=some oB1:=dB1 ▸ mP Clo.nil.1 kB1 p1
theorem c2:Clo k2:=c1.put kT1 p2 (fun y hy _=>by
 simp[bW,oT1,dY]at hy;rw[hy,g1B];simp)
theorem g2T:aG k2 (ofB bT1)=some oT1:=dT1 ▸ mP c1.1 kT1 p2
theorem c3:Clo k3:=c2.put kC1 p3 (fun y hy _=>by
 simp[bW,oC1,bQ]at hy;rw[hy,g2T];simp)
theorem g3C:aG k3 (ofB bC1)=some oC1:=dC1 ▸ mP c2.1 kC1 p3
theorem c4:Clo k4:=c3.put kB2 p4 (fun y hy=>by simp[bW,oB2,eU]at hy)
theorem g4B:aG k4 (ofB bB2)=some oB2:=dB2 ▸ mP c3.1 kB2 p4
theorem c5:Clo k5:=c4.put kT2 p5 (fun y hy _=>by
 simp[bW,oT2,dY]at hy;rw[hy,g4B];simp)
theorem g5T:aG k5 (ofB bT2)=some oT2:=dT2 ▸ mP c4.1 kT2 p5
theorem sub35:subP k3 k5:=(mZ c3.1 p4).trans (mZ c4.1 p5)
theorem Ug:subP k3 k6:=sub35.trans (mZ c5.1 p6)
theorem g5C:aG k5 (ofB bC1)=some oC1:=mF c3.1 c5.1 sub35 g3C
theorem c6:Clo k6:=c5.put kC2 p6 (fun y hy _=>by
 simp[bW,oC2,bQ,kL]at hy;rcases hy with rfl | rfl
 . rw[g5T];simp
 . rw[g5C];simp)
theorem g6C:aG k6 (ofB bC2)=some oC2:=dC2 ▸ mP c5.1 kC2 p6
theorem m3:dL k3 (ofB bC1)=0:=compl_zero.2 ⟨⟨_,g3C,rfl⟩,c3.whole (fun d hd=>by rw[List.mem_singleton.1 hd,g3C];simp)⟩
theorem m6:dL k6 (ofB bC2)=0:=compl_zero.2 ⟨⟨_,g6C,rfl⟩,c6.whole (fun d hd=>by rw[List.mem_singleton.1 hd,g6C];simp)⟩
theorem ckz{s:UX}(h:s.size<=60000):TckR [(zA,s)] 0:=Q7 ⟨fun f hf=>by rw[List.mem_singleton.1 hf];exact(by decide +kernel:bP zA=true),fun f hf=>by rw[List.mem_singleton.1 hf];exact h,by simp,by simp,fun f hf g hg=>by rw[List.mem_singleton.1 hf,List.mem_singleton.1 hg];exact(by decide +kernel:jJ zA zA=false)⟩ (by unfold AscF;simp)
theorem nmz(s:UX):cZ [(zA,s)]= [zA]:=by
 show gp [] (fsN zA)= [zA]
 decide +kernel
theorem lkz(s:UX):eG [(zA,s)] zA=some s:=by unfold eG;simp
theorem Ut:sto 101 [] [(zA,z1)]=some (k2,ofB bT1):=by
 rw[sto,nmz,wM (lkz z1) p1,fF,List.nil_append];have h:dgO (eU z1)=ofB bB1:=dB1;have h2:bH k1 (dY [⟨zA,false,ofB bB1⟩])=some k2:=p2;have h3:dgO (dY [⟨zA,false,ofB bB1⟩])=ofB bT1:=dT1;rw[h];simp only;rw[h2];simp only[h3]
theorem UD:sto 101 k3 [(zA,z2)]=some (k5,ofB bT2):=by
 rw[sto,nmz,wM (lkz z2) p4,fF,List.nil_append];have h:dgO (eU z2)=ofB bB2:=dB2;have h2:bH k4 (dY [⟨zA,false,ofB bB2⟩])=some k5:=p5;have h3:dgO (dY [⟨zA,false,ofB bB2⟩])=ofB bT2:=dT2;rw[h];simp only;rw[h2];simp only[h3]
def lg1:List Upd:= [(zTr,zD,ofB bC1)]
def rs1:List Rf:= [(zTr,ofB bC1)]
def lg2:List Upd:= [(zTr,zD,ofB bC1),(zTr,ofB bC1,ofB bC2)]
def rs2:List Rf:= [(zTr,ofB bC2)]
def lg3:List Upd:= [(zTr,zD,ofB bC1),(zTr,ofB bC1,ofB bC2),(zTr,ofB bC2,zD)]
theorem ap1:dE [] [] [(zTr,zD,ofB bC1)]= (rs1,[]++ [(zTr,zD,ofB bC1)],0):=by decide +kernel
theorem ap2:dE rs1 lg1 [(zTr,ofB bC1,ofB bC2)]= (rs2,lg1++ [(zTr,ofB bC1,ofB bC2)],0):=by decide +kernel
theorem ap3:dE rs2 lg2 [(zTr,ofB bC2,zD)]= ([],lg2++ [(zTr,ofB bC2,zD)],0):=by decide +kernel
theorem gt0:bY [] [] zTr= (zD,8):=by decide +kernel
theorem gt1:bY rs1 lg1 zTr= (ofB bC1,0):=by decide +kernel
theorem neT:ofB bT1≠ofB bT2:=by decide +kernel
theorem neC:ofB bC1≠ofB bC2:=by decide +kernel
def gr1:Gru:=([(zTr,zD,ofB bC1)],aY (dO [] k3))
def gr2:Gru:=([(zTr,ofB bC1,ofB bC2)],aY (dO k3 k6))
def gr3:Gru:=([(zTr,ofB bC2,zD)],[])
def gr4:Gru:=(lg3,[])
theorem pl1:iR [] [] [] zTr [(zA,z1)] dS zFi 1= (.app gr1 k3 rs1 lg1,ofB bC1):=by
 unfold iR;rw[gt0,if_neg (by simp),if_pos (ckz (by decide)),Ut];simp only;rw[if_neg (fun h=>h.1 rfl)];have h1:bH k2 (bQ (ofB bT1) zD dS zFi 1)=some k3:=p3;have h2:dgO (bQ (ofB bT1) zD dS zFi 1)=ofB bC1:=dC1;rw[h1];simp only;rw[h2,wV c3.1 (FD c3.1.asc (fun i h=>by cases h)) ap1 (by simp) (fun u hu _=>by rw[List.mem_singleton.1 hu];exact m3)];rfl
theorem pl2:iR k3 rs1 lg1 zTr [(zA,z2)] dS zSe 2= (.app gr2 k6 rs2 lg2,ofB bC2):=by
 unfold iR;rw[gt1,if_neg (by simp),if_pos (ckz (by decide)),UD];simp only;rw[if_neg (fun h=>by
  obtain⟨_,o,ho,he⟩:=h;rw[g3C]at ho;cases ho
  exact neT he)]
 have h1:bH k5 (bQ (ofB bT2) (ofB bC1) dS zSe 2)=some k6:=p6;have h2:dgO (bQ (ofB bT2) (ofB bC1) dS zSe 2)=ofB bC2:=dC2;rw[h1];simp only;rw[h2,wV c6.1 (FD c6.1.asc Ug) ap2 (by simp) (fun u hu _=>by rw[List.mem_singleton.1 hu];exact m6)];rfl
theorem pl3:dH k6 rs2 lg2 [] [(zTr,ofB bC2,zD)]= .app gr3 k6 [] lg3:=by
 rw[wV PlOk.nil (RU c6.1.asc) ap3 (by simp) (fun u hu h=>by rw[List.mem_singleton.1 hu]at h;exact absurd rfl h)];rfl
theorem pX:k6.length=6:=by decide +kernel
theorem pl4:gV k6 [] lg3= .rew gr4 [] [] lg3:=by
 unfold gV;rw[Rq,if_neg (by rw[pX];decide)];rfl
/-! ### room on the disk -/
theorem GI(t:UZ)(h:t.length<=65536): (ax t).length<=6+t.length:=by
 unfold ax;have:=fH (n:=t.length) (by omega);simp only[af];omega
theorem Ec:∀l:List UZ,(∀t∈l,t.length<=65536)-> (l.flatMap ax).length<=6*l.length+ (l.map List.length).sum
 | [],_=>by simp
 | t::l,h=>by
   have h1:=Ec l (fun x hx=>h x (by simp[hx]));have h2:=GI t (h t (by simp));simp only[List.flatMap_cons,af,Z4,List.map_cons,List.sum_cons];omega
theorem QR{l:List UZ}{N:Nat}(h:fQ l)(hN:6*l.length+ (l.map List.length).sum<=N): (aB l).length<=N+13:=by
 have h1:=Ec l h.2;have h2:=fH (n:=l.length) (by have:=h.1;omega);have h3:=oW h;have h4:=fH (n:=(bV l).length) (by omega);unfold aB;simp only[Z4,af];have: (bV l).length= (ak l.length).length+ (l.flatMap ax).length:=by unfold bV;rw[af]
 omega
theorem EF:∀us:List Upd,(∀u∈us,u.1.size<=5)-> (bG us).length<=43*us.length
 | [],_=>by simp[bG]
 | u::us,h=>by
   have h1:=EF us (fun x hx=>h x (by simp[hx]));have h0:=h u (by simp);rw[aQ]at h0;have h2:=GI (toL u.1) (by omega);have h3: (gU u).length<=43:=by unfold gU;simp only[af,iy];omega
   unfold bG at h1 ⊢;rw[List.flatMap_cons,af,Z4];omega
theorem PN{us:List Upd}{n:Nat}(hn:n<=1000)(h1:us.length<=1000)(h:∀u∈us,u.1.size<=5): (headB us n).length<=12+43*us.length:=by
 have h2:=EF us h;have h3:=fH (n:=n) (by omega);have h4:=fH (n:=us.length) (by omega);unfold headB encR;rw[if_neg (by omega)];split <;> simp only[af,List.length_nil] <;> omega
theorem sV{g:Gru}{M S:Nat}(h1:g.1.length<=3)(hu:∀u∈g.1,u.1.size<=5)(h2:g.2.length<=3)(h3:∀t∈g.2,t.length<=65536)(h4: (g.2.map List.length).sum<=S)(hM:12+43*g.1.length<=M) :
  fQ (aP g)/\ (aB (aP g)).length<=M+S+37:=by
 have h5:=PN (us:=g.1) (n:=g.2.length) (by omega) (by omega) hu;have hf:fQ (aP g):=⟨by unfold aP;rw[Z4];omega,fun t ht=>by
  rcases List.mem_cons.1 ht with rfl | ht
  . omega
  . exact h3 t ht⟩
 refine⟨hf,?_⟩;have:=QR (N:=24+M+S) hf (by unfold aP;simp only[Z4,List.map_cons,List.sum_cons];omega);omega
theorem ft1:fQ (aP gr1)/\ (aB (aP gr1)).length<=192:=by
 have:=sV (g:=gr1) (M:=55) (S:=100) (by decide) (by decide +kernel) (by decide +kernel) (by decide +kernel) (by decide +kernel) (by decide);exact this
theorem ft2:fQ (aP gr2)/\ (aB (aP gr2)).length<=192:=by
 have:=sV (g:=gr2) (M:=55) (S:=100) (by decide) (by decide +kernel) (by decide +kernel) (by decide +kernel) (by decide +kernel) (by decide);exact this
theorem ft3:fQ (aP gr3)/\ (aB (aP gr3)).length<=192:=by
 have:=sV (g:=gr3) (M:=55) (S:=100) (by decide) (by decide +kernel) (by decide) (by decide) (by decide) (by decide);exact this
theorem ft4:fQ (aP gr4)/\ (aB (aP gr4)).length<=192:=by
 have:=sV (g:=gr4) (M:=141) (S:=14) (by decide) (by decide +kernel) (by decide) (by decide) (by decide) (by decide);exact this
structure AwS(d:Dk)(gs:List Gru)(u:Nat):Prop where
 ok:d.Ok
 pn:d.pn= []
 lf:d.lf= -1
 n:d.ss.length=41
 z:d.sz=64
 jn:Jn d.sz d.ss 1 (recs gs) u
theorem AwS.sec3{d:Dk}{gs:List Gru}{u:Nat}(h:AwS d gs u){l:List UZ}(hft:fQ l/\ (aB l).length<=192):SecF d.sz l (secs d.sz (aB l))/\ (secs d.sz (aB l)).length<=3:=by
 refine⟨⟨hft.1,rfl⟩,?_⟩;rw[(mg h.jn.sz0 _ _ aj).1,h.z];unfold nsec;have:=hft.2;omega
theorem AwS.app{d:Dk}{gs:List Gru}{u:Nat}{g:Gru}(h:AwS d gs u)(hft:fQ (aP g)/\ (aB (aP g)).length<=192)(hu:u<=15): (dF d 1 u (aP g)).2=0/\∃u',u'<=u+3/\AwS (dF d 1 u (aP g)).1 (gs++ [g]) u':=by
 obtain⟨hS,hl⟩:=h.sec3 hft;have hh:hf d.ss=20:=by unfold Go.Proofs.YtknefelegjlgnaaGreatDoor.hf;rw[h.n]
 unfold dF;rw[if_neg (by simpa using fitB_iff.2 hft.1),if_neg (by omega)];have hk: (secs d.sz (aB (aP g))).length<=Go.Proofs.YtknefelegjlgnaaGreatDoor.hf d.ss - u:=by omega
 obtain⟨hk',hfit⟩:=xZ h.jn hS hk;obtain⟨r1,r2⟩:=rE (fK d.sz d.ss 1 u (secs d.sz (aB (aP g)))) d h.lf;have he: (⟨d.sz,d.ss,[],d.lf⟩:Dk)=d:=by rw[<-h.pn]
 have hs:=(Cm (lf:=d.lf) h.jn hS hk' (pre:=fK d.sz d.ss 1 u (secs d.sz (aB (aP g)))) (suf:= []) (by simp) []).2 rfl;simp only[he]at hs;obtain⟨o1,o2,o3⟩:=tu _ d h.ok hfit;rw[r1];refine⟨rfl,u+ (secs d.sz (aB (aP g))).length,by omega,o1,hs.1,r2,by show List.length _=41;rw[o3,h.n],by show Dk.sz _=64;rw[o2,h.z],?_⟩;show Jn (Dk.sz _) _ 1 (recs (gs++ [g])) _;rw[o2,Dw];exact hs.2
theorem AwS.rew{d:Dk}{gs:List Gru}{u:Nat}{g:Gru}(h:AwS d gs u)(hft:fQ (aP g)/\ (aB (aP g)).length<=192): (dQ d 1 (aP g)).2=0:=by
 obtain⟨hS,hl⟩:=h.sec3 hft;have hh:Go.Proofs.YtknefelegjlgnaaGreatDoor.hf d.ss=20:=by unfold Go.Proofs.YtknefelegjlgnaaGreatDoor.hf;rw[h.n]
 unfold dQ;rw[if_neg (by simpa using fitB_iff.2 hft.1),if_neg (by omega),(rE _ d h.lf).1]
theorem AwS.start:AwS (aJ (aV 41 64) (bU 64 (aV 41 64).ss)).1 [] 0/\ (aJ (aV 41 64) (bU 64 (aV 41 64).ss)).2=0:=by
 have ho: (aV 41 64).Ok:=sZ (by decide) (by decide) (by decide) (by decide);have hn: (aV 41 64).ss.length=41:=by simp[aV]
 obtain⟨h1,h2,h3,h4⟩:=Gy (d:=aV 41 64) ho (by rw[hn];decide) rfl rfl;exact⟨⟨h2.ok,h2.pn,h3,by rw[(lD _ _).2];exact hn,(lD _ _).1,h4⟩,h1⟩
theorem mt1:Mt [gr1] k3 rs1 lg1:=by
 have h:kN [] (iR [] [] [] zTr [(zA,z1)] dS zFi 1).1:=xq Mt.nil (by decide);rw[pl1]at h;exact h (fitB_iff.2 ft1.1)
theorem mt2:Mt [gr1,gr2] k6 rs2 lg2:=by
 have h:kN [gr1] (iR k3 rs1 lg1 zTr [(zA,z2)] dS zSe 2).1:=xq mt1 (by decide);rw[pl2]at h;exact h (fitB_iff.2 ft2.1)
theorem mt3:Mt [gr1,gr2,gr3] k6 [] lg3:=by
 have h:kN [gr1,gr2] (dH k6 rs2 lg2 [] [(zTr,ofB bC2,zD)]):=xJ mt2 (fun u hu=>by
  rw[List.mem_singleton.1 hu];exact⟨by decide,fJ _,⟨by decide,by decide,by decide,by decide⟩⟩)
 rw[pl3]at h;exact h (fitB_iff.2 ft3.1)
end
section
set_option maxRecDepth 100000
set_option maxHeartbeats 2000000
attribute [local irreducible] ofB ay
def qI(w:UW)(e:Ending)(w':UW):Prop:=e= .returned (.bool true)/\U0 w w'
def St0(r:Rp):Prop:=∃d,AwS d [] 0/\r= ⟨d,[],[],[]⟩
def St1(r:Rp):Prop:=∃d u,AwS d [gr1] u/\u<=3/\r= ⟨d,k3,rs1,lg1⟩
def St2(r:Rp):Prop:=∃d u,AwS d [gr1,gr2] u/\u<=6/\r= ⟨d,k6,rs2,lg2⟩
def St3(r:Rp):Prop:=∃d u,AwS d [gr1,gr2,gr3] u/\u<=9/\r= ⟨d,k6,[],lg3⟩
theorem GZ{r:Rp}{a u:Nat}{g:Gru}{p:List Itm}{rs:List Rf}{lg:List Upd}{pd:Dig}{w w':UW}{e:Ending}(h:CmtE r a u (.app g p rs lg,pd) w e w')(h0: (dF r.d a u (aP g)).2=0):jU ⟨(dF r.d a u (aP g)).1,p,rs,lg⟩ pd 0 w e w':=by
 unfold CmtE after at h;simp only[h0,if_true]at h;exact h
theorem SH:k3.length<=49000:=by decide +kernel
variable {r : Rp} {s : Rsl} {B : Nat} {w : UW}
theorem QH:lg3.length=3:=rfl
attribute [local irreducible] k3 k6 rs1 rs2 lg1 lg2 lg3 gr1 gr2 gr3 gr4
theorem awI(s:Dsl)(hm:DkM w B (aV 41 64) s)(hB:B<=w.heap.size):Calls Tryz.prog 13 #[dkV (aV 41 64) s] w fun e w'=>∃r,St0 r/\eQ r 0 w e w':=by
 obtain⟨h1,h2⟩:=AwS.start;have ho: (aV 41 64).Ok:=sZ (by decide) (by decide) (by decide) (by decide);have hn: (aV 41 64).ss.length=41:=by simp[aV]
 have:=Et (aV 41 64) s B w ho (by rw[hn];decide) (ZX _) hm hB;have hz: (aV 41 64).sz=64:=rfl;rw[hz,h2]at this;exact this.mono fun e w' h=>⟨_,⟨_,h1,rfl⟩,h⟩
theorem Um(hpck:jR)(A:OA)(c:Nat)(hr:St0 r)(hm:RpM w B r s)(hB:B<=w.heap.size)(h1:Sl w B 2 A 1 (flat flC [(zA,z1)])) :
  Calls Tryz.prog 28 #[rpV r s,.string zTr,.slice A 1 c,.string dS,.string zFi,.int .i64 1] w fun e w'=>∃r' d,St1 r'/\d=ofB bC1/\jU r' d 0 w e w':=by
 obtain⟨d,ha,rfl⟩:=hr;have:=vP hpck ⟨d,[],[],[]⟩ s [] 1 0 zTr [(zA,z1)] A 1 c dS zFi 1 B w ha.ok ha.pn ha.jn Mt.nil (ZX _) hm hB h1 (by decide) (by decide) (fun f hf=>by rw[List.mem_singleton.1 hf];exact⟨by decide,by decide⟩) IV;simp only[pl1]at this;obtain⟨h2,u',h3,h4⟩:=ha.app ft1 (by omega);exact this.mono fun e w' h=>⟨_,_,⟨_,u',h4,by omega,rfl⟩,rfl,GZ h h2⟩
theorem Uu(hpck:jR)(A:OA)(c:Nat)(hr:St1 r)(hm:RpM w B r s)(hB:B<=w.heap.size)(h1:Sl w B 2 A 1 (flat flC [(zA,z2)])) :
  Calls Tryz.prog 28 #[rpV r s,.string zTr,.slice A 1 c,.string dS,.string zSe,.int .i64 2] w fun e w'=>∃r' d,St2 r'/\d=ofB bC2/\jU r' d 0 w e w':=by
 obtain⟨d,u,ha,hu,rfl⟩:=hr;have:=vP hpck ⟨d,k3,rs1,lg1⟩ s [gr1] 1 u zTr [(zA,z2)] A 1 c dS zSe 2 B w ha.ok ha.pn ha.jn mt1 SH hm hB h1 (by decide) (by decide) (fun f hf=>by rw[List.mem_singleton.1 hf];exact⟨by decide,by decide⟩) I4;simp only[pl2]at this;obtain⟨h2,u',h3,h4⟩:=ha.app ft2 (by omega);exact this.mono fun e w' h=>⟨_,_,⟨_,u',h4,by omega,rfl⟩,rfl,GZ h h2⟩
theorem awW(hpck:jR)(A:OA)(c:Nat)(hr:St2 r)(hm:RpM w B r s)(hB:B<=w.heap.size)(h1:Sl w B 5 A 1 (flat upC [(zTr,ofB bC2,zD)])) :
  Calls Tryz.prog 35 #[rpV r s,.slice none 0 0,.slice A 1 c] w fun e w'=>∃r',St3 r'/\r'.p.length=6/\eQ r' 0 w e w':=by
 obtain⟨d,u,ha,hu,rfl⟩:=hr;have:=wB hpck ⟨d,k6,rs2,lg2⟩ s [gr1,gr2] 1 u [] none 0 0 [(zTr,ofB bC2,zD)] A 1 c B w ha.ok ha.pn ha.jn mt2 (by rw[pX];decide) hm hB (Sl.nil _ _ _ _) h1 (by decide) (fun i hi=>by cases hi) (fun i hi=>by cases hi) (by decide) (fun x hx=>by rw[List.mem_singleton.1 hx];exact⟨by decide,fJ _,⟨by decide,by decide,by decide,by decide⟩⟩);simp only[pl3]at this;obtain⟨h2,u',h3,h4⟩:=ha.app ft3 (by omega);refine this.mono fun e w' h=>⟨_,⟨_,u',h4,by omega,rfl⟩,pX,?_⟩
 unfold ExE after at h;simp only[h2,if_true]at h;exact h
theorem awK(hr:St3 r)(hm:RpM w B r s)(hB:B<=w.heap.size) :
  Calls Tryz.prog 17 #[rpV r s] w fun e w'=>∃r',r'.p.length=0/\r'.lg.length=3/\nR r' 6 0 w e w':=by
 obtain⟨d,u,ha,hu,rfl⟩:=hr;have:=Bi ⟨d,k6,[],lg3⟩ s [gr1,gr2,gr3] 1 u B w ha.ok ha.pn ha.jn mt3 (by rw[pX];decide) hm hB;simp only[pl4]at this;have h2:=ha.rew ft4;refine this.mono fun e w' h=>?_;unfold CoE after at h;simp only[h2,if_true,pX]at h;exact⟨_,rfl,QH,h⟩
structure AwI(w:UW)(b:Nat)(r:Rp)(s:Rsl)(W:UW):Prop where
 n:Bk W b 35 (rpC r s)
 m:RpM W W.heap.size r s
 bl:U0 w W
 z:w.heap.size<=b/\b<W.heap.size
theorem AwI.up{w:UW}{b:Nat}{r:Rp}{s:Rsl}{W W':UW}(h:AwI w b r s W)(hb:U0 W W'):AwI w b r s W' :=
 ⟨h.n.below hb h.z.2,(h.m.below hb aj).more hb.size,h.bl.trans (hb.mono h.bl.size),h.z.1,Nat.lt_of_lt_of_le h.z.2 hb.size⟩
theorem AwI.sto{w:UW}{b:Nat}{r r':Rp}{s s':Rsl}{W w1:UW}(h:AwI w b r s W)(h1:RpM w1 w1.heap.size r' s')(hb:U0 W w1):AwI w b r' s' (stR w1 b r' s'):=by
 have h2:=h.up hb;have e:=iO w1 b r' s';exact⟨h2.n.set7 _ _ _ _ _ _ _,(h1.st h2.n).more (Nat.le_of_eq e.symm),dM h2.bl h2.z.1 _ _ _ _ _ _ _,h2.z.1,by rw[e];exact h2.z.2⟩
theorem AwI.dig{w:UW}{b:Nat}{r r':Rp}{s s':Rsl}{W w1 W2:UW}(h:AwI w b r s W)(h1:RpM w1 w1.heap.size r' s')(hb:U0 W w1)(x y:Int)
  (hW2: (stR w1 b r' s').alloc (.cells #[.int .u64 x,.int .u64 y] 50)=W2):AwI w b r' s' W2/\Bk W2 w1.heap.size 50 #[.int .u64 x,.int .u64 y]/\w1.heap.size<W2.heap.size:=by
 have h2:=h.sto h1 hb;have e:=iO w1 b r' s';rw[<-hW2];exact⟨h2.up ((ah _ _).alloc aj _),(Bk.new _ _ _).at_ e,by simp;omega⟩
theorem yQ{b c:Nat}{r':Rp}{s':Rsl}{w1:UW}{t:TypeId}{cs:Array UY}(hk:Bk w1 c t cs)(hne:c≠b):Bk (stR w1 b r' s') c t cs:=(iJ _ _ _ _ _ _ _ _ _ _ hne).trans hk
end
section
set_option maxRecDepth 100000
attribute [local irreducible] ofB ay k3 k6 rs1 rs2 lg1 lg2 lg3 gr1 gr2 gr3 gr4
theorem Ny(hpck:jR)(w:UW):Calls Tryz.prog 10 #[] w (qI w):=by
 have HN:=ai (fun w=>Ep 41 64 w);rw[show jF 41 64=true by decide]at HN;simp only[if_true]at HN;unfold aZ at HN;have HI:Hid (∀(d:Dk)(s:Dsl)(w1:UW),d=aV 41 64->DkM w1 w1.heap.size d s->Calls Tryz.prog 13 #[dkV d s] w1 fun e w'=>∃r,St0 r/\eQ r 0 w1 e w'):=fun d s w1 h hm=>by rw[h]at hm ⊢;exact awI s hm aj
 obtain⟨d,hd⟩:=NX9 (aV (41:Int).toNat (64:Int).toNat)
 have HD:Hid (d=aV 41 64):=hd.symm;rw[hd]at HN;clear hd;obtain⟨n1,h1⟩:=NX9 d.ss.length
 obtain⟨n2,h2⟩:=NX9 d.pn.length
 simp only[dkV,dkC,h1,h2]at HN HI;unfold eQ at HI;have H1:=ai h1;have H2:=ai h2;clear h1 h2;unfold qI
 go_enter Tryz.func10,Tryz.ntmps10
 go_wp2_with fail;refine(HN.o _).mono ?_;rintro e w1 ⟨s1,rfl,hm1,hb1⟩;obtain⟨W2,hW2⟩:=NX9 (w1.alloc (.cells #[.int .i64 d.sz,.slice s1.a1 n1 s1.c1,.slice s1.a2 n2 s1.c2,.int .i64 d.lf] 25))
 have hb2:U0 w1 W2:=by rw[<-hW2];exact(ah _ w1).alloc aj _
 have HB2:U6 w W2:=hb1.trans (hb2.mono hb1.size);have HC:=HI.o d s1 W2 HD.o ((hm1.below hb2 aj).more hb2.size);simp only[H1.o,H2.o]at HC;have HC:=ai HC;have HW2:=ai hW2;clear hW2 hb1 hb2 hm1 HN HI;go_wp2_with fail;rw[HW2.o];refine HC.o.mono ?_;rintro e w3 ⟨r3,hr3,s3,rfl,E,hb3⟩;have HB3:U6 w w3:=HB2.o.trans (hb3.mono HB2.o.size);have F:=ai E;have z3:=HB3.o.size;clear hb3 E HC HB2 HW2 H1 H2 HD;obtain⟨b0,hb0⟩:=NX9 w3.heap.size
 obtain⟨W3,hW3⟩:=NX9 (w3.alloc (.cells (rpC r3 s3) 35))
 have hbW:U0 w3 W3:=by rw[<-hW3];exact(ah _ w3).alloc aj _
 have y:Hid (AwI w b0 r3 s3 W3):=⟨by rw[<-hW3,<-hb0];exact Bk.new _ _ _,(F.o.below hbW aj).more hbW.size,HB3.o.trans (hbW.mono z3),by rw[<-hb0];exact z3,by rw[<-hb0,<-hW3];simp⟩
 have A:=ai hW3;clear hW3 hbW F HB3 z3;simp only[rpV,rpC]at A ⊢
 go_upto_region 3 with fail
 rw[A.o];clear A hb0;have hn:=y.o.n;simp only[rpC]at hn;obtain⟨⟨v0,v1,v2,v3⟩,v4,v5,v6⟩:=hn.seven;obtain⟨Wf,hWf⟩:=NX9 (W3.alloc (.cells #[.string ⟨#[97]⟩,.string ⟨#[49]⟩] 82))
 have hbf:U0 W3 Wf:=by rw[<-hWf];exact(ah _ _).alloc aj _
 have b:=ai (y.o.up hbf);have hS:Sl Wf Wf.heap.size 2 (some ⟨W3.heap.size,0,none⟩) 1 (flat flC [(zA,z1)]):=by rw[<-hWf];exact Sl.of_bk (n:=1) (size:=2) (Bk.new W3 _ _) rfl
 have HC:=ai (Um (w:=Wf) (s:=s3) hpck (some ⟨W3.heap.size,0,none⟩) 1 hr3 b.o.m aj hS);unfold jU zTr dS zFi at HC;simp only[rpV,rpC]at HC;have i:=ai hWf;clear hWf hbf hS hn y;go_wp2_with fail;rw[i.o];refine HC.o.mono ?_;rintro e w5 ⟨r5,⟨d1,d2⟩,K,hD,s5,rfl,hm,hb⟩;have HD1:=ai hD;clear hD i;have c:=ai (b.o.up hb);have HM:=ai hm;have HB:=ai hb;have hn:=c.o.n;have hzb:=c.o.z.2;simp only[rpC]at hn;clear hm hb HC v0 v1 v2 v3 v4 v5 v6;have hne:b0≠w5.heap.size:=by omega
 simp only[aA];obtain⟨⟨v0,v1,v2,v3⟩,v4,v5,v6⟩:=hn.seven;obtain⟨⟨f0,f1,f2,f3⟩,f4,f5,f6⟩:=hn.free7;clear hn
 go_upto_region 4 with fail
 rw[jQ w5 b0 r5 s5];obtain⟨W5,j⟩:=NX9 ((stR w5 b0 r5 s5).alloc (.cells #[.int .u64 d1,.int .u64 d2] 50))
 obtain⟨ha,hk,hz⟩:=b.o.dig HM.o HB.o d1 d2 j;have B:=ai ha;obtain⟨c1,hc⟩:=NX9 w5.heap.size
 rw[hc]at hk hz;have g:=ai (And.intro hk hz);have hck1:c1≠b0:=by omega
 rw[j];simp only[hc];clear j ha hk hz hzb hne hc b HM HB c v0 v1 v2 v3 v4 v5 v6 f0 f1 f2 f3 f4 f5 f6;have hn:=B.o.n;simp only[rpC]at hn;obtain⟨⟨v0,v1,v2,v3⟩,v4,v5,v6⟩:=hn.seven;obtain⟨Wf,hWf⟩:=NX9 (W5.alloc (.cells #[.string ⟨#[97]⟩,.string ⟨#[50]⟩] 82))
 have hbf:U0 W5 Wf:=by rw[<-hWf];exact(ah _ _).alloc aj _
 have b:=ai (B.o.up hbf);have k:=ai (g.o.1.below hbf g.o.2);have a:=ai (Nat.lt_of_lt_of_le g.o.2 hbf.size);have hS:Sl Wf Wf.heap.size 2 (some ⟨W5.heap.size,0,none⟩) 1 (flat flC [(zA,z2)]):=by rw[<-hWf];exact Sl.of_bk (n:=1) (size:=2) (Bk.new W5 _ _) rfl
 have HC:=ai (Uu (w:=Wf) (s:=s5) hpck (some ⟨W5.heap.size,0,none⟩) 1 K b.o.m aj hS);unfold jU zTr dS zSe at HC;simp only[rpV,rpC]at HC;have i:=ai hWf;clear hWf hbf hS hn B;go_wp2_with fail;rw[i.o];refine HC.o.mono ?_;rintro e w7 ⟨r7,⟨e1,e2⟩,L,hD,s7,rfl,hm,hb⟩;have HD2:=ai hD;clear hD i;have c:=ai (b.o.up hb);have HM:=ai hm;have HB:=ai hb;have hn:=c.o.n;have hzb:=c.o.z.2;have l:=ai (k.o.below hb a.o);have f:=ai (Nat.lt_of_lt_of_le a.o hb.size);simp only[rpC]at hn;clear hm hb HC v0 v1 v2 v3 v4 v5 v6 g k a;have hne:b0≠w7.heap.size:=by omega
 simp only[aA];obtain⟨⟨v0,v1,v2,v3⟩,v4,v5,v6⟩:=hn.seven;obtain⟨⟨f0,f1,f2,f3⟩,f4,f5,f6⟩:=hn.free7;clear hn
 go_upto_region 5 with fail
 rw[jQ w7 b0 r7 s7];obtain⟨W7,j⟩:=NX9 ((stR w7 b0 r7 s7).alloc (.cells #[.int .u64 e1,.int .u64 e2] 50))
 obtain⟨ha,hk,hz⟩:=b.o.dig HM.o HB.o e1 e2 j;have C:=ai ha;obtain⟨c2,hc⟩:=NX9 w7.heap.size
 rw[hc]at hk hz;have p:=ai (And.intro hk hz);have G:c2≠b0:=by omega
 have u:Hid (Bk W7 c1 50 #[.int .u64 d1,.int .u64 d2]/\c1<W7.heap.size):=by rw[<-j];exact⟨(yQ l.o hck1).alloc _,by have:=f.o;simp[iO];omega⟩
 rw[j];simp only[hc];clear j ha hk hz hzb hne hc b HM HB c v0 v1 v2 v3 v4 v5 v6 f0 f1 f2 f3 f4 f5 f6 l f;have g:=u;clear u;have hn:=C.o.n;simp only[rpC]at hn;obtain⟨⟨v0,v1,v2,v3⟩,v4,v5,v6⟩:=hn.seven;obtain⟨g0,g1,_,_⟩:=p.o.1.two;obtain⟨Wf,hWf⟩:=NX9 (W7.alloc (.cells #[.string ⟨#[116,114,117,110,107]⟩,.int .u64 e1,.int .u64 e2,.int .u64 0,.int .u64 0] 85))
 have hbf:U0 W7 Wf:=by rw[<-hWf];exact(ah _ _).alloc aj _
 have b:=ai (C.o.up hbf);have k:=ai (g.o.1.below hbf g.o.2);have a:=ai (Nat.lt_of_lt_of_le g.o.2 hbf.size);have v:=ai (p.o.1.below hbf p.o.2);have o:=ai (Nat.lt_of_lt_of_le p.o.2 hbf.size);have hS:Sl Wf Wf.heap.size 5 (some ⟨W7.heap.size,0,none⟩) 1 (flat upC [(zTr,ofB bC2,zD)]):=by rw[<-HD2.o,<-hWf];exact Sl.of_bk (n:=1) (size:=5) (Bk.new W7 _ _) rfl
 have HC:=ai (awW (w:=Wf) (s:=s7) hpck (some ⟨W7.heap.size,0,none⟩) 1 L b.o.m aj hS);unfold eQ at HC;simp only[rpV,rpC]at HC;have i:=ai hWf;clear hWf hbf hS hn C;go_wp2_with fail;rw[i.o];refine HC.o.mono ?_;rintro e w9 ⟨r9,M,H,s9,rfl,hm,hb⟩;have N:=ai H;clear H i g0 g1;have c:=ai (b.o.up hb);have HM:=ai hm;have HB:=ai hb;have hn:=c.o.n;have hzb:=c.o.z.2;have l:=ai (k.o.below hb a.o);have f:=ai (Nat.lt_of_lt_of_le a.o hb.size);have x:=ai (v.o.below hb o.o);have q:=ai (Nat.lt_of_lt_of_le o.o hb.size);simp only[rpC]at hn;clear hm hb HC v0 v1 v2 v3 v4 v5 v6 g k a p v o;obtain⟨⟨v0,v1,v2,v3⟩,v4,v5,v6⟩:=hn.seven;obtain⟨⟨f0,f1,f2,f3⟩,f4,f5,f6⟩:=hn.free7;clear hn
 go_upto_region 6 with fail
 rw[jQ w9 b0 r9 s9];have t:=ai (b.o.sto HM.o HB.o);have D:Hid (Bk (stR w9 b0 r9 s9) c1 50 #[.int .u64 d1,.int .u64 d2]/\c1< (stR w9 b0 r9 s9).heap.size):=⟨yQ l.o hck1,by rw[iO];exact f.o⟩
 have HC2:Hid (Bk (stR w9 b0 r9 s9) c2 50 #[.int .u64 e1,.int .u64 e2]/\c2< (stR w9 b0 r9 s9).heap.size):=⟨yQ x.o G,by rw[iO];exact q.o⟩
 obtain⟨O,I⟩:=NX9 (stR w9 b0 r9 s9)
 rw[I]at t D HC2 ⊢;clear I hzb b l f x q HM HB c v0 v1 v2 v3 v4 v5 v6 f0 f1 f2 f3 f4 f5 f6;have hn:=t.o.n;simp only[rpC]at hn;obtain⟨⟨v0,v1,v2,v3⟩,v4,v5,v6⟩:=hn.seven;have HC:=ai (awK (w:=O) (s:=s9) M t.o.m aj);unfold nR at HC;simp only[rpV,rpC]at HC;clear hn;go_wp2_with fail;refine HC.o.mono ?_;rintro e w10 ⟨r10,hp0,hl3,s10,rfl,hm,hb⟩;simp only[hp0,hl3];obtain⟨Wa,hWa⟩:=NX9 (w10.alloc (.cells #[.int .i64 r10.d.sz,.slice s10.d.a1 r10.d.ss.length s10.d.c1,.slice s10.d.a2 r10.d.pn.length s10.d.c2,.int .i64 r10.d.lf,.slice s10.pA 0 s10.pc,.slice s10.rA r10.rs.length s10.rc,.slice s10.lA 3 s10.lc] 35))
 have hba:U0 O Wa:=hb.trans (by rw[<-hWa];exact(ah _ w10).alloc hb.size _);have hna:=(t.o.up hba).n;have P:=ai (t.o.up hba).bl;obtain⟨g0,g1,_,_⟩:=(D.o.1.below hba D.o.2).two;obtain⟨q0,q1,_,_⟩:=(HC2.o.1.below hba HC2.o.2).two;have hka:Bk Wa w10.heap.size 35 #[.int .i64 r10.d.sz,.slice s10.d.a1 r10.d.ss.length s10.d.c1,.slice s10.d.a2 r10.d.pn.length s10.d.c2,.int .i64 r10.d.lf,.slice s10.pA 0 s10.pc,.slice s10.rA r10.rs.length s10.rc,.slice s10.lA 3 s10.lc]:=by rw[<-hWa];exact Bk.new _ _ _
 have J:=ai hWa;clear hWa hba hm hb hp0 hl3 HC v0 v1 v2 v3 v4 v5 v6
 go_upto_region 7 with fail
 rw[J.o];simp only[rpC,N.o]at hna;have v4:=hna.cell 4;have y4:=hka.cell 4;have y6:=hka.cell 6;simp at v4 y4 y6;have hnd: (d1 == e1 && d2 == e2)=false:=by
  rw[Bool.eq_false_iff];intro h;simp only[Bool.and_eq_true,beq_iff_eq]at h;exact neC (by rw[<-HD1.o,<-HD2.o,h.1,h.2])
 clear hna hka J;go_wp2_with fail;go_ret
 exact⟨rfl,P.o⟩
end
