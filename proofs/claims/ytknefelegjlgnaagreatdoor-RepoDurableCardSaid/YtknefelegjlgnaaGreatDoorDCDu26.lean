/-
  Lemmas of the card.
-/
import Derived.Test.YtknefelegjlgnaaGreatDoorDCDu25
set_option maxRecDepth 100000
set_option maxHeartbeats 16000000
namespace Go.Proofs.YtknefelegjlgnaaGreatDoor
open Go.RowKit
theorem JJ{l:List AcX}{k:Nat}{x:AcX}(hx:l[k]? =some x)(h:∀y∈l.take k,AcF y.1)(hf:AcF x.1):∀y∈l.take (k+1),AcF y.1:=fun y hy=>by
 rw[aS hx]at hy;rcases List.mem_append.1 hy with hy | hy
 . exact h y hy
 . rw[List.mem_singleton.1 hy];exact hf
def CV(n z:Int)(l:List AcX)(w:MQ)(e:Ending)(w':MQ):Prop:=∃r:Bool,e= .returned (.bool r)/\ (r=true->l.length<=8/\n<=100/\z<=128/\∀a∈l,AcF a.1)/\Below w.heap.size w w'
theorem Ir(n z:Int)(l:List AcX)(A:OA)(m c B:Nat)(w:MQ)(h:AcsM w B A m l)(hb:∀a∈l,AcB a.1)(hB:B<=w.heap.size)(hm:m<=maxLen) :
  Calls Tryz.prog 47 #[jb n z A m c] w (CV n z l w):=by
 unfold maxLen at hm;have HLN:=ah (h.s.len pJ (by omega));obtain⟨W,hW⟩:∃W,w.alloc (.cells #[.int .i64 n,.int .i64 z,.slice A m c] 42)=W:=⟨_,rfl⟩
 have HB0:Hid (Below w.heap.size w W):=by rw[<-hW];exact(af _ w).alloc ai _
 have HK:Hid (Bk W w.heap.size 42 #[.int .i64 n,.int .i64 z,.slice A m c]):=by rw[<-hW];exact Bk.new w _ _
 have H:=ah h;have HAB:=ah hb;have HBB:=ah hB;have HW:=ah hW;clear hW h hb;unfold jb;obtain⟨k0,k1,k2⟩:=HK.out.three;by_cases c1: (8:Int)< (m:Int)
 . go_enter Tryz.func47,Tryz.ntmps47
   go_wp2_with fail;rw[HW.out];go_ret
   exact⟨false,rfl,(fun h=>by cases h),HB0.out⟩
 by_cases c2:100<n
 . go_enter Tryz.func47,Tryz.ntmps47
   go_wp2_with fail;rw[HW.out];go_ret
   exact⟨false,rfl,(fun h=>by cases h),HB0.out⟩
 by_cases c3:128<z
 . go_enter Tryz.func47,Tryz.ntmps47
   go_wp2_with fail;rw[HW.out];go_ret
   exact⟨false,rfl,(fun h=>by cases h),HB0.out⟩
 go_enter Tryz.func47,Tryz.ntmps47
 go_wp2_with fail;rw[HW.out]
 go_loopw[22] (fun i wr=>∃k:Nat,k<=m/\i= .int .i64 k/\Hid (Below w.heap.size w wr)/\Hid (∀y∈l.take k,AcF y.1)) (fun i _=>m - (intOf i).toNat)
 case atStart=>exact⟨0,ZZ _,rfl,HB0.out,fun y hy=>by simp at hy⟩
 case round =>
  obtain⟨k,hk,rfl,hBr,hF⟩:=hrel;have HBr:=ah hBr.out;have HF:=ah hF.out;clear hBr hF k0 k1 k2;by_cases hlt:k<m
  . obtain⟨b,off,x,rfl,hbB,hx,⟨x0,x1,x2,x3⟩,x4,x5,x6⟩:=(H.out.below HBr.out HBB.out).s.ac hlt
    have hlz: (k:Int)< (m:Int):=by omega
    have HX:=ah hx;obtain⟨wx,hwx⟩:∃W,wr.alloc (.cells (acA x) 65)=W:=⟨_,rfl⟩
    have hbx:Below wr.heap.size wr wx:=by rw[<-hwx];exact(af _ wr).alloc ai _
    have HKX:Hid (Bk wx wr.heap.size 65 (acA x)):=by rw[<-hwx];exact Bk.new wr _ _
    have HBx:Hid (Below w.heap.size w wx):=HBr.out.trans (hbx.mono HBr.out.size);have hmem:x∈l:=Z7 hx;have HC:=ah (Ii x B wx ((H.out.m x hmem).below HBx.out HBB.out) (HAB.out x hmem) (by have:=HBx.out.size;omega));have HWX:=ah hwx;clear hx hwx hbx hmem;unfold CP at HC;simp only[acA]at HKX HWX HC;obtain⟨⟨y0,y1,y2,y3⟩,y4,y5,y6⟩:=HKX.out.seven;go_wp2_with fail;rw[HWX.out];refine HC.out.mono ?_;rintro e w1 ⟨g,rfl,hg,hb1⟩;have HG:=ah hg;have HB1:Hid (Below w.heap.size w w1):=HBx.out.trans (hb1.mono HBx.out.size);clear hg hb1 HC x0 x1 x2 x3 x4 x5 x6 y0 y1 y2 y3 y4 y5 y6;cases g with
    | false =>
      go_wp2_with fail;go_ret
      exact⟨false,rfl,(fun h=>by cases h),HB1.out⟩
    | true =>
      have HF1:=ah (JJ HX.out HF.out (HG.out (by simp)));go_wp2_with fail;go_roundw
      case rel=>exact⟨k+1,hlt,by go_num,HB1.out,HF1.out⟩
      case measure=>simp[intOf];omega
  . have hlz:¬(k:Int)< (m:Int):=by omega
    have HFA:Hid (∀y∈l,AcF y.1):=by
     have:=HF.out
     rwa[ZW (by rw[HLN.out];omega)]at this
    go_wp2_with fail;go_ret
    exact⟨true,rfl,fun _=>⟨by rw[HLN.out];omega,by omega,by omega,HFA.out⟩,HBr.out⟩
def vT(w:MQ)(e:Ending)(w':MQ):Prop:=∃(ok:Bool)(r':Rp)(s':Rsl),e= .returned (.tuple #[rpV r' s',.bool ok])/\ (ok=true->RI r')/\RpM w' w'.heap.size r' s'/\Below w.heap.size w w'
theorem KX{n z:Int}(hr:iJ n z=true)(hn:n<=100)(hz:z<=128)(h3:3<= (aT n.toNat z.toNat).ss.length) :
  RI ⟨(aH (aT n.toNat z.toNat) (bH (aT n.toNat z.toNat).sz (aT n.toNat z.toNat).ss)).1,[],[],[]⟩/\ (aH (aT n.toNat z.toNat) (bH (aT n.toNat z.toNat).sz (aT n.toNat z.toNat).ss)).2=0:=by
 unfold iJ at hr;simp only[decide_eq_true_eq]at hr;have ho: (aT n.toNat z.toNat).Ok:=pR (by omega) (by omega) (by omega) (by omega);obtain⟨h1,h2,_,_⟩:=Bl ho h3 rfl rfl;obtain⟨g1,g2⟩:=jJ (bH (aT n.toNat z.toNat).sz (aT n.toNat z.toNat).ss) (aT n.toNat z.toNat);refine⟨⟨?_,?_,by show(aH _ _).1.pn.length<=1000;rw[h2.pn];exact ZZ _,.inl ⟨[],h2,Mt.nil⟩⟩,h1⟩
 . show(aH _ _).1.ss.length<=100
   rw[g2];simp[aT];omega
 . show(aH _ _).1.sz<=128
   rw[g1];simp[aT];omega
theorem Es(hpck:iV)(n z:Int)(l:List AcX)(A:OA)(m c B:Nat)(w:MQ)(h:AcsM w B A m l)(hb:∀a∈l,AcB a.1)(hB:B<=w.heap.size)(hm:m<=maxLen) :
  Calls Tryz.prog 16 #[jb n z A m c] w (vT w):=by
 obtain⟨W,hW⟩:∃W,(w.alloc (.cells #[.int .i64 n,.int .i64 z,.slice A m c] 42)).alloc (.cells rzC 35)=W:=⟨_,rfl⟩
 have HB0:Hid (Below w.heap.size w W):=by rw[<-hW];exact((af _ w).alloc ai _).alloc (by simp) _
 have HK:Hid (Bk W w.heap.size 42 #[.int .i64 n,.int .i64 z,.slice A m c]):=by rw[<-hW];exact(Bk.new w _ _).alloc _
 have HZ:Hid (Bk W (w.heap.size+1) 35 rzC):=by rw[<-hW];exact(Bk.new _ _ _).at_ (by simp)
 have zW:W.heap.size=w.heap.size+2:=by rw[<-hW];simp
 have HF:=ah (Ir n z l A m c B W (h.below HB0.out hB) hb (by omega) hm);have H:=ah h;have HBB:=ah hB;have HLN:=ah (h.s.len pJ (by unfold maxLen at hm;omega));have HW:=ah hW;clear hW h hb hm;have HNO:Hid (∀w',Below w.heap.size w w'->vT w (.returned (.tuple #[.agg rzC,.bool false])) w'):=fun w' hb=>⟨false,zRp,zRs,rfl,(fun h=>by cases h),RpM.zero _ _,hb⟩
 unfold CV at HF;unfold jb at HF ⊢;obtain⟨k0,k1,k2⟩:=HK.out.three
 go_enter Tryz.func16,Tryz.ntmps16
 go_wp2_with fail;rw[HW.out];refine HF.out.mono ?_;rintro e w1 ⟨g,rfl,hg,hb1⟩;have HG:=ah hg;have HB1:Hid (Below w.heap.size w w1):=HB0.out.trans (hb1.mono HB0.out.size);have HK1:=ah (HK.out.below hb1 (by omega));have HZ1:=ah (HZ.out.below hb1 (by omega));have z1:w.heap.size+2<=w1.heap.size:=by have:=hb1.size;omega
 clear hg hb1 HF k0 k1 k2 HK HZ HB0;obtain⟨k0,k1,k2⟩:=HK1.out.three;cases g with
 | false =>
   obtain⟨⟨f0,f1,f2,f3⟩,f4,f5,f6⟩:=HZ1.out.free7;obtain⟨⟨z0,z1,z2,z3⟩,z4,z5,z6⟩:=HZ1.out.seven;go_wp2_with fail;exact ZY (dL Tryz.results16 rfl (HZ1.out.set7 _ _ _ _ _ _ _) rfl) rfl (HNO.out _ (dz HB1.out (by omega) _ _ _ _ _ _ _))
 | true =>
   obtain⟨hl8,hn,hz,hfs⟩:=HG.out (by simp);have hm8:m<=8:=by have:=HLN.out;omega
   have HFS:=ah hfs;clear hfs HG;have HD:=ah (Ae n z w1);unfold aW at HD;cases hr:iJ n z with
   | false =>
     rw[hr]at HD;simp only[Bool.false_eq_true,if_false,zDk,dkV,dkC,List.length_nil]at HD;go_wp2_with fail;refine HD.out.mono ?_;rintro e w2 ⟨s',rfl,_,hb2⟩;have HB2:Hid (Below w.heap.size w w2):=HB1.out.trans (hb2.mono (by omega));have HZ2:=ah (HZ1.out.below hb2 (by omega));have z2s:=hb2.size;clear hb2 HD k0 k1 k2 HK1 HZ1 HB1;obtain⟨w3,hw3⟩:∃W,w2.alloc (.cells #[.int .i64 0,.slice s'.a1 0 s'.c1,.slice s'.a2 0 s'.c2,.int .i64 0] 25)=W:=⟨_,rfl⟩
     have HB3:Hid (Below w.heap.size w w3):=by rw[<-hw3];exact HB2.out.alloc (by omega) _
     have HZ3:Hid (Bk w3 (w.heap.size+1) 35 rzC):=by rw[<-hw3];exact HZ2.out.alloc _
     have HW3:=ah hw3;clear hw3 HZ2 HB2;obtain⟨⟨f0,f1,f2,f3⟩,f4,f5,f6⟩:=HZ3.out.free7;obtain⟨⟨z0,z1,z2,z3⟩,z4,z5,z6⟩:=HZ3.out.seven
     go_upto_region 5 with fail
     rw[HW3.out];go_wp2_with fail;exact ZY (dL Tryz.results16 rfl (HZ3.out.set7 _ _ _ _ _ _ _) rfl) rfl (HNO.out _ (dz HB3.out (by omega) _ _ _ _ _ _ _))
   | true =>
     have hr':=hr;unfold iJ at hr';simp only[decide_eq_true_eq]at hr';have HOK:Hid ((aT n.toNat z.toNat).Ok):=pR (by omega) (by omega) (by omega) (by omega);have HRI:=ah (fun h3=>KX hr hn hz h3);have hlen: (aT n.toNat z.toNat).ss.length=n.toNat:=by simp[aT]
     have hpn0: (aT n.toNat z.toNat).pn.length=0:=rfl;rw[hr]at HD;simp only[if_true]at HD;obtain⟨d,hd⟩:∃d,aT n.toNat z.toNat=d:=⟨_,rfl⟩
     rw[hd]at HD HOK HRI hlen hpn0;clear hd hr';obtain⟨dn,hdn⟩:∃x,d.ss.length=x:=⟨_,rfl⟩
     simp only[dkV,dkC,hpn0,hdn]at HD;go_wp2_with fail;refine HD.out.mono ?_;rintro e w2 ⟨s',rfl,hm2,hb2⟩;have HB2:Hid (Below w.heap.size w w2):=HB1.out.trans (hb2.mono (by omega));have HK2:=ah (HK1.out.below hb2 (by omega));have HZ2:=ah (HZ1.out.below hb2 (by omega));have z2s:=hb2.size;clear hb2 HD k0 k1 k2 HK1 HZ1 HB1;obtain⟨w3,hw3⟩:∃W,w2.alloc (.cells #[.int .i64 d.sz,.slice s'.a1 dn s'.c1,.slice s'.a2 0 s'.c2,.int .i64 d.lf] 25)=W:=⟨_,rfl⟩
     have hb3:Below w2.heap.size w2 w3:=by rw[<-hw3];exact(af _ w2).alloc ai _
     have HB3:Hid (Below w.heap.size w w3):=HB2.out.trans (hb3.mono (by omega));have HK3:=ah (HK2.out.below hb3 (by omega));have HZ3:=ah (HZ2.out.below hb3 (by omega));have HD3:Hid (Bk w3 w2.heap.size 25 #[.int .i64 d.sz,.slice s'.a1 dn s'.c1,.slice s'.a2 0 s'.c2,.int .i64 d.lf]):=by rw[<-hw3];exact Bk.new _ _ _
     have z3:=hb3.size;have HM3:=hm2.below hb3 ai;have HW3:=ah hw3;clear hw3 hb3 hm2 HZ2 HK2 HB2;obtain⟨l0,l1,l2,l3⟩:=HD3.out.dk4;by_cases h3:3<=d.ss.length
     . obtain⟨hri,hx0⟩:=HRI.out h3
       have HR0:=ah hri;have HI:=ah (zm d s' w2.heap.size w3 HOK.out h3 (by omega) HM3 z3);unfold dO at HI;rw[hx0]at HI;obtain⟨r0,hr0⟩:∃r,(⟨(aH d (bH d.sz d.ss)).1,[],[],[]⟩:Rp)=r:=⟨_,rfl⟩
       rw[hr0]at HI HR0;simp only[dkV,dkC,hpn0,hdn,rpV,rpC]at HI;clear hri hx0 hr0 HM3 l0 l1 l2 l3;go_wp2_with fail;rw[HW3.out];refine HI.out.mono ?_;rintro e w4 ⟨s4,rfl,hm4,hb4⟩;have HB4:Hid (Below w.heap.size w w4):=HB3.out.trans (hb4.mono (by omega));have HK4:=ah (HK3.out.below hb4 (by omega));have HZ4:=ah (HZ3.out.below hb4 (by omega));have z4s:=hb4.size;clear hb4 HI HK3 HZ3 HD3 HB3;obtain⟨w5,hw5⟩:∃W,w4.alloc (.cells (rpC r0 s4) 35)=W:=⟨_,rfl⟩
       have hb5:Below w4.heap.size w4 w5:=by rw[<-hw5];exact(af _ w4).alloc ai _
       have HB5:Hid (Below w.heap.size w w5):=HB4.out.trans (hb5.mono (by omega));have HK5:=ah (HK4.out.below hb5 (by omega));have HZ5:=ah (HZ4.out.below hb5 (by omega));have HN5:Hid (Bk w5 w4.heap.size 35 (rpC r0 s4)):=by rw[<-hw5];exact Bk.new _ _ _
       have HM5:Hid (RpM w5 w5.heap.size r0 s4):=(hm4.below hb5 ai).more hb5.size;have z5:w5.heap.size=w4.heap.size+1:=by rw[<-hw5];simp
       have HW5:=ah hw5;clear hw5 hb5 hm4 HK4 HZ4 HB4;simp only[rpC]at HW5;obtain⟨k0,k1,k2⟩:=HK5.out.three;obtain⟨b6,hb6⟩:∃b,w4.heap.size=b:=⟨_,rfl⟩
       rw[hb6]at HN5 z5 z4s
       go_upto_region 7 with fail
       rw[HW5.out];clear HW5
       try simp only[hb6]
       clear hb6;go_wp2_with fail
       go_loopw[36] (fun i wr=>∃(k:Nat)(r':Rp)(s':Rsl),k<=m/\i= .int .i64 k/\Hid (RI r')/\Hid (RpM wr wr.heap.size r' s')/\Hid (Bk wr b6 35 (rpC r' s'))/\Hid (Bk wr (w.heap.size+1) 35 rzC)/\Hid (Below w.heap.size w wr)/\b6<wr.heap.size) (fun i _=>m - (intOf i).toNat)
       case atStart=>exact⟨0,r0,s4,ZZ _,rfl,HR0.out,HM5.out,HN5.out,HZ5.out,HB5.out,by omega⟩
       case round =>
        obtain⟨k,r1,s1,hk,rfl,hri,hrm,hN,hZ,hBr,hbz⟩:=hrel;have HRI1:=ah hri.out;have HRM:=ah hrm.out;have HN:=ah hN.out;have HZr:=ah hZ.out;have HBr:=ah hBr.out;clear hri hrm hN hZ hBr k0 k1 k2;by_cases hlt:k<m
        . obtain⟨b,off,x,rfl,hbB,hx,⟨x0,x1,x2,x3⟩,x4,x5,x6⟩:=(H.out.below HBr.out HBB.out).s.ac hlt
          have hlz: (k:Int)< (m:Int):=by omega
          obtain⟨wx,hwx⟩:∃W,wr.alloc (.cells (acA x) 65)=W:=⟨_,rfl⟩
          have hbx:Below wr.heap.size wr wx:=by rw[<-hwx];exact(af _ wr).alloc ai _
          have HKX:Hid (Bk wx wr.heap.size 65 (acA x)):=by rw[<-hwx];exact Bk.new wr _ _
          have HBx:Hid (Below w.heap.size w wx):=HBr.out.trans (hbx.mono HBr.out.size);have zx:=hbx.size;have HNx:=ah (HN.out.below hbx hbz);have HZx:=ah (HZr.out.below hbx (by omega));have hmem:x∈l:=Z7 hx;obtain⟨gs,a,u,hlv⟩:∃gs a u,r1.d.lf≠0->Lvs r1 gs a u:=by
           by_cases h0:r1.d.lf=0
           . exact⟨[],0,0,fun h=>absurd h0 h⟩
           . obtain⟨gs,a,u,h⟩:=HRI1.out.lv h0
             exact⟨gs,a,u,fun _=>h⟩
          have HLV:=ah hlv;have HAF:=ah (HFS.out x hmem);have HC:=ah (Ls hpck r1 s1 gs a u x wx.heap.size wx HRI1.out hlv ((HRM.out.below hbx ai).more zx) (((H.out.m x hmem).below HBx.out HBB.out).more (by have:=HBx.out.size;omega)) (HFS.out x hmem) ai);have HWX:=ah hwx;have hnr:=HN.out;simp only[rpC]at hnr;clear hx hwx hbx hmem hlv HN HZr HRM;unfold dO at HC;simp only[acA,rpV,rpC]at HKX HWX HC HNx;obtain⟨⟨v0,v1,v2,v3⟩,v4,v5,v6⟩:=hnr.seven;clear hnr;go_wp2_with fail;rw[HWX.out];refine HC.out.mono ?_;rintro e w6 ⟨r2,y,⟨s2,rfl,hm6,hb6⟩,hdo⟩;have HR2:=ah (hdo.ri HRI1.out HLV.out HAF.out);have HM6:=ah hm6;have HB6:Hid (Below w.heap.size w w6):=HBx.out.trans (hb6.mono HBx.out.size);have HN6:=ah (HNx.out.below hb6 (by omega));have HZ6:=ah (HZx.out.below hb6 (by omega));have z6:=hb6.size;clear hdo hm6 hb6 HC HKX HNx HZx HBx HWX x0 x1 x2 x3 x4 x5 x6 v0 v1 v2 v3 v4 v5 v6;obtain⟨⟨v0,v1,v2,v3⟩,v4,v5,v6⟩:=HN6.out.seven;obtain⟨⟨f0,f1,f2,f3⟩,f4,f5,f6⟩:=HN6.out.free7
          go_upto_region 13 with fail
          rw[iT w6 b6 r2 s2];have e7:=gB w6 b6 r2 s2;have HM7:Hid (RpM (stR w6 b6 r2 s2) (stR w6 b6 r2 s2).heap.size r2 s2):=(HM6.out.st (q:=r1) (t:=s1) HN6.out).more (by omega);have HN7:Hid (Bk (stR w6 b6 r2 s2) b6 35 (rpC r2 s2)):=HN6.out.set7 _ _ _ _ _ _ _;have HZ7:Hid (Bk (stR w6 b6 r2 s2) (w.heap.size+1) 35 rzC):=(fZ _ _ _ _ _ _ _ _ _ _ (by omega)).trans HZ6.out;have HB7:Hid (Below w.heap.size w (stR w6 b6 r2 s2)):=dz HB6.out (by omega) _ _ _ _ _ _ _;obtain⟨w7,hw7⟩:∃W,stR w6 b6 r2 s2=W:=⟨_,rfl⟩
          rw[hw7]at HM7 HN7 HZ7 HB7 e7 ⊢;clear hw7 v0 v1 v2 v3 v4 v5 v6 f0 f1 f2 f3 f4 f5 f6;go_wp2_with fail;go_roundw
          case rel=>exact⟨k+1,r2,s2,hlt,by go_num,HR2.out,HM7.out,HN7.out,HZ7.out,HB7.out,by omega⟩
          case measure=>simp[intOf];omega
        . have hlz:¬(k:Int)< (m:Int):=by omega
          simp only[rpC]at HN;obtain⟨⟨v0,v1,v2,v3⟩,v4,v5,v6⟩:=HN.out.seven;obtain⟨⟨f0,f1,f2,f3⟩,f4,f5,f6⟩:=HZr.out.free7;obtain⟨⟨z0,z1,z2,z3⟩,z4,z5,z6⟩:=HZr.out.seven;go_wp2_with fail;refine ZY (dL Tryz.results16 rfl (HZr.out.set7 _ _ _ _ _ _ _) rfl) rfl ⟨true,r1,s1,rfl,fun _=>HRI1.out,?_,dz HBr.out (by omega) _ _ _ _ _ _ _⟩;exact(HRM.out.st (q:=zRp) (t:=zRs) (r0:=r1) (s0:=s1) HZr.out).more (by have:=gB wr (w.heap.size+1) r1 s1;unfold stR at this;omega)
     . have HI:=ah (Gv d s' w2.heap.size w3 HOK.out (by omega) (by omega) HM3 z3)
       unfold dO at HI;simp only[dkV,dkC,hpn0,hdn,rpV,rpC,zRp,List.length_nil]at HI;clear HM3 l0 l1 l2 l3;go_wp2_with fail;rw[HW3.out];refine HI.out.mono ?_;rintro e w4 ⟨s4,rfl,hm4,hb4⟩;have HB4:Hid (Below w.heap.size w w4):=HB3.out.trans (hb4.mono (by omega));have HZ4:=ah (HZ3.out.below hb4 (by omega));have z4s:=hb4.size;clear hb4 hm4 HI HK3 HZ3 HD3 HB3;obtain⟨w5,hw5⟩:∃W,w4.alloc (.cells #[.int .i64 0,.slice s4.d.a1 0 s4.d.c1,.slice s4.d.a2 0 s4.d.c2,.int .i64 0,.slice s4.pA 0 s4.pc,.slice s4.rA 0 s4.rc,.slice s4.lA 0 s4.lc] 35)=W:=⟨_,rfl⟩
       have HB5:Hid (Below w.heap.size w w5):=by rw[<-hw5];exact HB4.out.alloc (by omega) _
       have HZ5:Hid (Bk w5 (w.heap.size+1) 35 rzC):=by rw[<-hw5];exact HZ4.out.alloc _
       have HW5:=ah hw5;clear hw5 HZ4 HB4;obtain⟨⟨f0,f1,f2,f3⟩,f4,f5,f6⟩:=HZ5.out.free7;obtain⟨⟨z0,z1,z2,z3⟩,z4,z5,z6⟩:=HZ5.out.seven
       go_upto_region 8 with fail
       rw[HW5.out];go_wp2_with fail;exact ZY (dL Tryz.results16 rfl (HZ5.out.set7 _ _ _ _ _ _ _) rfl) rfl (HNO.out _ (dz HB5.out (by omega) _ _ _ _ _ _ _))
section
theorem qd(s:MR)(h:s.size<128):ak (toL s)=UInt8.ofNat s.size::toL s:=by
 unfold ak;have: (toL s).length=s.size:=by simp[toL]
 rw[this,dK h];rfl
theorem AV(s:MR)(h:s.size<128):aG (dR s)=1::UInt8.ofNat s.size::toL s:=by
 show aj 1++ak (toL s)=_;rw[dK (by omega),qd s h];rfl
theorem AR(n:MR)(d:Dig)(h:n.size<128):aG (dI [⟨n,false,d⟩])=2::1::UInt8.ofNat n.size:: (toL n++0::ax d):=by
 show aj 2++ (aj 1++ ((ak (toL n)++ (aj 0++ax d))++ []))=_;rw[dK (n:=2) (by omega),dK (n:=1) (by omega),dK (n:=0) (by omega),qd n h];simp
theorem Bo(t:Dig)(ps:List Dig)(a m:MR)(n:Nat)(h:ps.length<128)(h1:a.size<128)(h2:m.size<128)(h3:n<128) :
  aG ⟨3,⟨#[]⟩,[],t,ps,a,n,m⟩=3:: (ax t++ (UInt8.ofNat ps.length:: (ps.flatMap ax++ (UInt8.ofNat a.size:: (toL a++ (UInt8.ofNat n::UInt8.ofNat m.size::toL m)))))):=by
 show aj 3++ (ax t++ (aj ps.length++ (ps.flatMap ax++ (ak (toL a)++ (aj n++ak (toL m))))))=_;rw[dK (n:=3) (by omega),dK h,qd a h1,qd m h2,dK h3];simp
/-! ### pools in which nothing is missing -/
def Clo(p:List Itm):Prop:=PlOk p/\∀x o,aL p x=some o->∀y∈bQ o,y≠zD->aL p y≠none
theorem Clo.nil:Clo []:=⟨PlOk.nil,fun x o h=>by simp[aL,bE]at h⟩
theorem Clo.put{p q:List Itm}{o:Ob}(h:Clo p)(ho:OkO o)(hi:bC p o=some q)(hl:∀y∈bQ o,y≠zD->aL p y≠none):Clo q:=by
 have hq:=mV h.1 ho hi;have hs:=kr h.1 hi;refine⟨hq,fun x o' hx y hy hz=>?_⟩;have hm:aL p y≠none:=by
  obtain⟨ho',hx'⟩:=(gp hq).1 hx;rcases (mK h.1.asc hi _).1 hx' with hx' | hx'
  . exact h.2 x o' ((gp h.1).2 ⟨ho',hx'⟩) y hy hz
  . have e:aG o'=aG o:=by
      have:=congrArg Prod.snd hx';have:=congrArg toL this
      simpa [bO] using this
    rw[zY e ho'.f ho.f]at hy;exact hl y hy hz
 obtain⟨z,hz'⟩:=Option.ne_none_iff_exists'.1 hm;rw[ko h.1 hq hs hz'];simp
theorem Clo.whole{p:List Itm}(h:Clo p){ds:List Dig}(hd:∀d∈ds,aL p d≠none):¬Miss p ds:=by
 have hr:∀x,Rchd p ds x->x=zD∨aL p x≠none:=fun x hx=>by
  induction hx with
  | root h'=>exact .inr (hd _ h')
  | @link d x o _ g m _ =>
    by_cases hz:x=zD
    . exact .inl hz
    . exact .inr (h.2 _ _ g x m hz)
 rintro ⟨x,hx,h1,h2⟩;rcases hr x h1 with h3 | h3
 . exact hx h3
 . exact h3 h2
theorem Bj{p q:List Itm}(hq:AscI q)(h:subP p q):UniR p q q:=⟨hq,fun x=>⟨.inr,fun hx=>hx.elim (h x) id⟩⟩
theorem Kl{p:List Itm}(hp:AscI p):UniR p [] p:=⟨hp,fun x=>by simp⟩
theorem tY{p q r:List Itm}{rs rs':List Rf}{lg us:List Upd}(hq:PlOk q)(hr:UniR p q r)(ha:bZ rs lg us= (rs',lg++us,0))(hu:us≠ [])(hc:∀u∈us,u.2.2≠zD->dm r u.2.2=0) :
  cK p rs lg q us= .app (us,aU (dA p q)) r rs' (lg++us):=by
 unfold cK;rw[uL hr,if_pos ⟨hq,hr.clear,by rw[ha],hc⟩,if_neg (fun h=>hu h.2),ha]
theorem JK(p:List Itm):fP p []= []:=by
 have h:∀x,¬Rchd p [] x:=fun x hx=>by
  induction hx with
  | root h=>cases h
  | link _ _ _ ih=>exact ih
 unfold fP;rw[List.filter_eq_nil_iff];intro i _
 simpa using h i.1
/-! ### the example -/
attribute [local irreducible] ofB ax
def zA:MR:=⟨#[97]⟩
def z1:MR:=⟨#[49]⟩
def z2:MR:=⟨#[50]⟩
def zTr:MR:=⟨#[116,114,117,110,107]⟩
def zFi:MR:=⟨#[102,105,114,115,116]⟩
def zSe:MR:=⟨#[115,101,99,111,110,100]⟩
def bB1:MU:= [1,1,49]
def bB2:MU:= [1,1,50]
def bT1:MU:= [2,1,1,97,0]++ax (ofB bB1)
def bT2:MU:= [2,1,1,97,0]++ax (ofB bB2)
def bC1:MU:=3:: (ax (ofB bT1)++ [0,3,97,110,110,1,5,102,105,114,115,116])
def bC2:MU:=3:: (ax (ofB bT2)++1:: (ax (ofB bC1)++ [3,97,110,110,2,6,115,101,99,111,110,100]))
def itZ(b:MU):Itm:=(ofB b,ofL b)
def k1:List Itm:=(bY [] (itZ bB1)).getD []
def k2:List Itm:=(bY k1 (itZ bT1)).getD []
def k3:List Itm:=(bY k2 (itZ bC1)).getD []
def k4:List Itm:=(bY k3 (itZ bB2)).getD []
def k5:List Itm:=(bY k4 (itZ bT2)).getD []
def k6:List Itm:=(bY k5 (itZ bC2)).getD []
theorem kz{α:Type}{o:Option (List α)}(h:o.isSome=true):o=some (o.getD []):=by cases o with | none=>cases h | some _=>rfl
theorem j1:bY [] (itZ bB1)=some k1:=kz (by decide +kernel)
theorem j2:bY k1 (itZ bT1)=some k2:=kz (by decide +kernel)
theorem j3:bY k2 (itZ bC1)=some k3:=kz (by decide +kernel)
theorem j4:bY k3 (itZ bB2)=some k4:=kz (by decide +kernel)
theorem j5:bY k4 (itZ bT2)=some k5:=kz (by decide +kernel)
theorem j6:bY k5 (itZ bC2)=some k6:=kz (by decide +kernel)
def oB1:Ob:=dR z1
def oB2:Ob:=dR z2
def oT1:Ob:=dI [⟨zA,false,ofB bB1⟩]
def oT2:Ob:=dI [⟨zA,false,ofB bB2⟩]
def oC1:Ob:=bF (ofB bT1) zD dB zFi 1
def oC2:Ob:=bF (ofB bT2) (ofB bC1) dB zSe 2
theorem eB1:aG oB1=bB1:=AV z1 (by decide)
theorem eB2:aG oB2=bB2:=AV z2 (by decide)
theorem eT1:aG oT1=bT1:=AR zA _ (by decide)
theorem eT2:aG oT2=bT2:=AR zA _ (by decide)
theorem eC1:aG oC1=bC1:=by
 unfold oC1 bF;rw[if_pos rfl];exact Bo (ofB bT1) [] dB zFi 1 (by decide) (by decide) (by decide) (by decide)
theorem eC2:aG oC2=bC2:=by
 unfold oC2 bF;rw[if_neg (jr _)];refine(Bo (ofB bT2) [ofB bC1] dB zSe 2 (by decide) (by decide) (by decide) (by decide)).trans ?_;rw[List.flatMap_cons,List.flatMap_nil,List.append_nil];rfl
theorem kB1:OkO oB1:=pE (by decide)
theorem kB2:OkO oB2:=pE (by decide)
theorem CZ{d:Dig}(h:WfD d)(h2:d≠zD):OkO (dI [⟨zA,false,d⟩]):=sD ⟨by simp,fun e he=>by rw[List.mem_singleton.1 he];exact⟨(by decide +kernel:bI zA=true),h,h2⟩,fun j a b _ h=>by simp at h⟩
theorem kT1:OkO oT1:=CZ (eP _) (jr _)
theorem kT2:OkO oT2:=CZ (eP _) (jr _)
theorem CY:nH dB zFi 1:=⟨by decide +kernel,by decide,by decide,by decide⟩
theorem CL:nH dB zSe 2:=⟨by decide +kernel,by decide,by decide,by decide⟩
theorem kC1:OkO oC1:=qw CY (eP _) (jr _) ⟨by decide,by decide,by decide,by decide⟩
theorem kC2:OkO oC2:=qw CL (eP _) (jr _) (eP _)
theorem p1:bC [] oB1=some k1:=by unfold bC;rw[eB1];exact j1
theorem p2:bC k1 oT1=some k2:=by unfold bC;rw[eT1];exact j2
theorem p3:bC k2 oC1=some k3:=by unfold bC;rw[eC1];exact j3
theorem p4:bC k3 oB2=some k4:=by unfold bC;rw[eB2];exact j4
theorem p5:bC k4 oT2=some k5:=by unfold bC;rw[eT2];exact j5
theorem p6:bC k5 oC2=some k6:=by unfold bC;rw[eC2];exact j6
theorem dB1:dgO oB1=ofB bB1:=by unfold dgO;rw[eB1]
theorem dB2:dgO oB2=ofB bB2:=by unfold dgO;rw[eB2]
theorem dT1:dgO oT1=ofB bT1:=by unfold dgO;rw[eT1]
theorem dT2:dgO oT2=ofB bT2:=by unfold dgO;rw[eT2]
theorem dC1:dgO oC1=ofB bC1:=by unfold dgO;rw[eC1]
theorem dC2:dgO oC2=ofB bC2:=by unfold dgO;rw[eC2]
theorem c1:Clo k1:=Clo.nil.put kB1 p1 (fun y hy=>by simp[bQ,oB1,dR]at hy)
theorem g1B:aL k1 (ofB bB1)=some oB1:=dB1 ▸ kJ Clo.nil.1 kB1 p1
theorem c2:Clo k2:=c1.put kT1 p2 (fun y hy _=>by
 simp[bQ,oT1,dI]at hy;rw[hy,g1B];simp)
theorem g2T:aL k2 (ofB bT1)=some oT1:=dT1 ▸ kJ c1.1 kT1 p2
theorem c3:Clo k3:=c2.put kC1 p3 (fun y hy _=>by
 simp[bQ,oC1,bF]at hy;rw[hy,g2T];simp)
theorem g3C:aL k3 (ofB bC1)=some oC1:=dC1 ▸ kJ c2.1 kC1 p3
theorem c4:Clo k4:=c3.put kB2 p4 (fun y hy=>by simp[bQ,oB2,dR]at hy)
theorem g4B:aL k4 (ofB bB2)=some oB2:=dB2 ▸ kJ c3.1 kB2 p4
theorem c5:Clo k5:=c4.put kT2 p5 (fun y hy _=>by
 simp[bQ,oT2,dI]at hy;rw[hy,g4B];simp)
theorem g5T:aL k5 (ofB bT2)=some oT2:=dT2 ▸ kJ c4.1 kT2 p5
theorem sub35:subP k3 k5:=(kr c3.1 p4).trans (kr c4.1 p5)
theorem LY:subP k3 k6:=sub35.trans (kr c5.1 p6)
theorem g5C:aL k5 (ofB bC1)=some oC1:=ko c3.1 c5.1 sub35 g3C
theorem c6:Clo k6:=c5.put kC2 p6 (fun y hy _=>by
 simp[bQ,oC2,bF,jr]at hy;rcases hy with rfl | rfl
 . rw[g5T];simp
 . rw[g5C];simp)
theorem g6C:aL k6 (ofB bC2)=some oC2:=dC2 ▸ kJ c5.1 kC2 p6
theorem m3:dm k3 (ofB bC1)=0:=compl_zero.2 ⟨⟨_,g3C,rfl⟩,c3.whole (fun d hd=>by rw[List.mem_singleton.1 hd,g3C];simp)⟩
theorem m6:dm k6 (ofB bC2)=0:=compl_zero.2 ⟨⟨_,g6C,rfl⟩,c6.whole (fun d hd=>by rw[List.mem_singleton.1 hd,g6C];simp)⟩
theorem ckz{s:MR}(h:s.size<=60000):TckR [(zA,s)] 0:=JQ ⟨fun f hf=>by rw[List.mem_singleton.1 hf];exact(by decide +kernel:bL zA=true),fun f hf=>by rw[List.mem_singleton.1 hf];exact h,by simp,by simp,fun f hf g hg=>by rw[List.mem_singleton.1 hf,List.mem_singleton.1 hg];exact(by decide +kernel:iH zA zA=false)⟩ (by unfold AscF;simp)
theorem nmz(s:MR):bR [(zA,s)]= [zA]:=by
 show eX [] (fsN zA)= [zA]
 decide +kernel
theorem lkz(s:MR):dM [(zA,s)] zA=some s:=by unfold dM;simp
theorem Mv:sto 101 [] [(zA,z1)]=some (k2,ofB bT1):=by
 rw[sto,nmz,sN (lkz z1) p1,d9,List.nil_append];have h:dgO (dR z1)=ofB bB1:=dB1;have h2:bC k1 (dI [⟨zA,false,ofB bB1⟩])=some k2:=p2;have h3:dgO (dI [⟨zA,false,ofB bB1⟩])=ofB bT1:=dT1;rw[h];simp only;rw[h2];simp only[h3]
theorem Ms:sto 101 k3 [(zA,z2)]=some (k5,ofB bT2):=by
 rw[sto,nmz,sN (lkz z2) p4,d9,List.nil_append];have h:dgO (dR z2)=ofB bB2:=dB2;have h2:bC k4 (dI [⟨zA,false,ofB bB2⟩])=some k5:=p5;have h3:dgO (dI [⟨zA,false,ofB bB2⟩])=ofB bT2:=dT2;rw[h];simp only;rw[h2];simp only[h3]
def lg1:List Upd:= [(zTr,zD,ofB bC1)]
def rs1:List Rf:= [(zTr,ofB bC1)]
def lg2:List Upd:= [(zTr,zD,ofB bC1),(zTr,ofB bC1,ofB bC2)]
def rs2:List Rf:= [(zTr,ofB bC2)]
def lg3:List Upd:= [(zTr,zD,ofB bC1),(zTr,ofB bC1,ofB bC2),(zTr,ofB bC2,zD)]
theorem ap1:bZ [] [] [(zTr,zD,ofB bC1)]= (rs1,[]++ [(zTr,zD,ofB bC1)],0):=by decide +kernel
theorem ap2:bZ rs1 lg1 [(zTr,ofB bC1,ofB bC2)]= (rs2,lg1++ [(zTr,ofB bC1,ofB bC2)],0):=by decide +kernel
theorem ap3:bZ rs2 lg2 [(zTr,ofB bC2,zD)]= ([],lg2++ [(zTr,ofB bC2,zD)],0):=by decide +kernel
theorem gt0:bV [] [] zTr= (zD,8):=by decide +kernel
theorem gt1:bV rs1 lg1 zTr= (ofB bC1,0):=by decide +kernel
theorem neT:ofB bT1≠ofB bT2:=by decide +kernel
theorem neC:ofB bC1≠ofB bC2:=by decide +kernel
def gr1:Gru:=([(zTr,zD,ofB bC1)],aU (dA [] k3))
def gr2:Gru:=([(zTr,ofB bC1,ofB bC2)],aU (dA k3 k6))
def gr3:Gru:=([(zTr,ofB bC2,zD)],[])
def gr4:Gru:=(lg3,[])
theorem pl1:gH [] [] [] zTr [(zA,z1)] dB zFi 1= (.app gr1 k3 rs1 lg1,ofB bC1):=by
 unfold gH;rw[gt0,if_neg (by simp),if_pos (ckz (by decide)),Mv];simp only;rw[if_neg (fun h=>h.1 rfl)];have h1:bC k2 (bF (ofB bT1) zD dB zFi 1)=some k3:=p3;have h2:dgO (bF (ofB bT1) zD dB zFi 1)=ofB bC1:=dC1;rw[h1];simp only;rw[h2,tY c3.1 (Bj c3.1.asc (fun i h=>by cases h)) ap1 (by simp) (fun u hu _=>by rw[List.mem_singleton.1 hu];exact m3)];rfl
theorem pl2:gH k3 rs1 lg1 zTr [(zA,z2)] dB zSe 2= (.app gr2 k6 rs2 lg2,ofB bC2):=by
 unfold gH;rw[gt1,if_neg (by simp),if_pos (ckz (by decide)),Ms];simp only;rw[if_neg (fun h=>by
  obtain⟨_,o,ho,he⟩:=h;rw[g3C]at ho;cases ho
  exact neT he)]
 have h1:bC k5 (bF (ofB bT2) (ofB bC1) dB zSe 2)=some k6:=p6;have h2:dgO (bF (ofB bT2) (ofB bC1) dB zSe 2)=ofB bC2:=dC2;rw[h1];simp only;rw[h2,tY c6.1 (Bj c6.1.asc LY) ap2 (by simp) (fun u hu _=>by rw[List.mem_singleton.1 hu];exact m6)];rfl
theorem pl3:cK k6 rs2 lg2 [] [(zTr,ofB bC2,zD)]= .app gr3 k6 [] lg3:=by
 rw[tY PlOk.nil (Kl c6.1.asc) ap3 (by simp) (fun u hu h=>by rw[List.mem_singleton.1 hu]at h;exact absurd rfl h)];rfl
theorem mY:k6.length=6:=by decide +kernel
theorem pl4:fB k6 [] lg3= .rew gr4 [] [] lg3:=by
 unfold fB;rw[JK,if_neg (by rw[mY];decide)];rfl
/-! ### room on the disk -/
theorem Bh(t:MU)(h:t.length<=65536): (ak t).length<=6+t.length:=by
 unfold ak;have:=ek (n:=t.length) (by omega);simp only[ae];omega
theorem zR:∀l:List MU,(∀t∈l,t.length<=65536)-> (l.flatMap ak).length<=6*l.length+ (l.map List.length).sum
 | [],_=>by simp
 | t::l,h=>by
   have h1:=zR l (fun x hx=>h x (by simp[hx]));have h2:=Bh t (h t (by simp));simp only[List.flatMap_cons,ae,Z5,List.map_cons,List.sum_cons];omega
theorem JI{l:List MU}{N:Nat}(h:eH l)(hN:6*l.length+ (l.map List.length).sum<=N): (az l).length<=N+13:=by
 have h1:=zR l h.2;have h2:=ek (n:=l.length) (by have:=h.1;omega);have h3:=mG h;have h4:=ek (n:=(bJ l).length) (by omega);unfold az;simp only[Z5,ae];have: (bJ l).length= (aj l.length).length+ (l.flatMap ak).length:=by unfold bJ;rw[ae]
 omega
theorem zV:∀us:List Upd,(∀u∈us,u.1.size<=5)-> (bA us).length<=43*us.length
 | [],_=>by simp[bA]
 | u::us,h=>by
   have h1:=zV us (fun x hx=>h x (by simp[hx]));have h0:=h u (by simp);rw[aP]at h0;have h2:=Bh (toL u.1) (by omega);have h3: (fD u).length<=43:=by unfold fD;simp only[ae,fF];omega
   unfold bA at h1 ⊢;rw[List.flatMap_cons,ae,Z5];omega
theorem IU{us:List Upd}{n:Nat}(hn:n<=1000)(h1:us.length<=1000)(h:∀u∈us,u.1.size<=5): (fe us n).length<=12+43*us.length:=by
 have h2:=zV us h;have h3:=ek (n:=n) (by omega);have h4:=ek (n:=us.length) (by omega);unfold fe encR;rw[if_neg (by omega)];split <;> simp only[ae,List.length_nil] <;> omega
theorem p9{g:Gru}{M S:Nat}(h1:g.1.length<=3)(hu:∀u∈g.1,u.1.size<=5)(h2:g.2.length<=3)(h3:∀t∈g.2,t.length<=65536)(h4: (g.2.map List.length).sum<=S)(hM:12+43*g.1.length<=M) :
  eH (aN g)/\ (az (aN g)).length<=M+S+37:=by
 have h5:=IU (us:=g.1) (n:=g.2.length) (by omega) (by omega) hu;have hf:eH (aN g):=⟨by unfold aN;rw[Z5];omega,fun t ht=>by
  rcases List.mem_cons.1 ht with rfl | ht
  . omega
  . exact h3 t ht⟩
 refine⟨hf,?_⟩;have:=JI (N:=24+M+S) hf (by unfold aN;simp only[Z5,List.map_cons,List.sum_cons];omega);omega
theorem ft1:eH (aN gr1)/\ (az (aN gr1)).length<=192:=by
 have:=p9 (g:=gr1) (M:=55) (S:=100) (by decide) (by decide +kernel) (by decide +kernel) (by decide +kernel) (by decide +kernel) (by decide);exact this
theorem ft2:eH (aN gr2)/\ (az (aN gr2)).length<=192:=by
 have:=p9 (g:=gr2) (M:=55) (S:=100) (by decide) (by decide +kernel) (by decide +kernel) (by decide +kernel) (by decide +kernel) (by decide);exact this
theorem ft3:eH (aN gr3)/\ (az (aN gr3)).length<=192:=by
 have:=p9 (g:=gr3) (M:=55) (S:=100) (by decide) (by decide +kernel) (by decide) (by decide) (by decide) (by decide);exact this
theorem ft4:eH (aN gr4)/\ (az (aN gr4)).length<=192:=by
 have:=p9 (g:=gr4) (M:=141) (S:=14) (by decide) (by decide +kernel) (by decide) (by decide) (by decide) (by decide);exact this
structure AwS(d:Dk)(gs:List Gru)(u:Nat):Prop where
 ok:d.Ok
 pn:d.pn= []
 lf:d.lf= -1
 n:d.ss.length=41
 z:d.sz=64
 jn:Jn d.sz d.ss 1 (recs gs) u
theorem AwS.sec3{d:Dk}{gs:List Gru}{u:Nat}(h:AwS d gs u){l:List MU}(hft:eH l/\ (az l).length<=192):SecF d.sz l (secs d.sz (az l))/\ (secs d.sz (az l)).length<=3:=by
 refine⟨⟨hft.1,rfl⟩,?_⟩;rw[(jY h.jn.sz0 _ _ ai).1,h.z];unfold nsec;have:=hft.2;omega
theorem AwS.app{d:Dk}{gs:List Gru}{u:Nat}{g:Gru}(h:AwS d gs u)(hft:eH (aN g)/\ (az (aN g)).length<=192)(hu:u<=15): (cB d 1 u (aN g)).2=0/\∃u',u'<=u+3/\AwS (cB d 1 u (aN g)).1 (gs++ [g]) u':=by
 obtain⟨hS,hl⟩:=h.sec3 hft;have hh:hf d.ss=20:=by unfold Go.Proofs.YtknefelegjlgnaaGreatDoor.hf;rw[h.n]
 unfold cB;rw[if_neg (by simpa using fitB_iff.2 hft.1),if_neg (by omega)];have hk: (secs d.sz (az (aN g))).length<=Go.Proofs.YtknefelegjlgnaaGreatDoor.hf d.ss - u:=by omega
 obtain⟨hk',hfit⟩:=uQ h.jn hS hk;obtain⟨r1,r2⟩:=ow (eD d.sz d.ss 1 u (secs d.sz (az (aN g)))) d h.lf;have he: (⟨d.sz,d.ss,[],d.lf⟩:Dk)=d:=by rw[<-h.pn]
 have hs:=(yf (lf:=d.lf) h.jn hS hk' (pre:=eD d.sz d.ss 1 u (secs d.sz (az (aN g)))) (suf:= []) (by simp) []).2 rfl;simp only[he]at hs;obtain⟨o1,o2,o3⟩:=pM _ d h.ok hfit;rw[r1];refine⟨rfl,u+ (secs d.sz (az (aN g))).length,by omega,o1,hs.1,r2,by show List.length _=41;rw[o3,h.n],by show Dk.sz _=64;rw[o2,h.z],?_⟩;show Jn (Dk.sz _) _ 1 (recs (gs++ [g])) _;rw[o2,yj];exact hs.2
theorem AwS.rew{d:Dk}{gs:List Gru}{u:Nat}{g:Gru}(h:AwS d gs u)(hft:eH (aN g)/\ (az (aN g)).length<=192): (dC d 1 (aN g)).2=0:=by
 obtain⟨hS,hl⟩:=h.sec3 hft;have hh:Go.Proofs.YtknefelegjlgnaaGreatDoor.hf d.ss=20:=by unfold Go.Proofs.YtknefelegjlgnaaGreatDoor.hf;rw[h.n]
 unfold dC;rw[if_neg (by simpa using fitB_iff.2 hft.1),if_neg (by omega),(ow _ d h.lf).1]
theorem AwS.start:AwS (aH (aT 41 64) (bH 64 (aT 41 64).ss)).1 [] 0/\ (aH (aT 41 64) (bH 64 (aT 41 64).ss)).2=0:=by
 have ho: (aT 41 64).Ok:=pR (by decide) (by decide) (by decide) (by decide);have hn: (aT 41 64).ss.length=41:=by simp[aT]
 obtain⟨h1,h2,h3,h4⟩:=Bl (d:=aT 41 64) ho (by rw[hn];decide) rfl rfl;exact⟨⟨h2.ok,h2.pn,h3,by rw[(jJ _ _).2];exact hn,(jJ _ _).1,h4⟩,h1⟩
theorem mt1:Mt [gr1] k3 rs1 lg1:=by
 have h:jw [] (gH [] [] [] zTr [(zA,z1)] dB zFi 1).1:=uu Mt.nil (by decide);rw[pl1]at h;exact h (fitB_iff.2 ft1.1)
theorem mt2:Mt [gr1,gr2] k6 rs2 lg2:=by
 have h:jw [gr1] (gH k3 rs1 lg1 zTr [(zA,z2)] dB zSe 2).1:=uu mt1 (by decide);rw[pl2]at h;exact h (fitB_iff.2 ft2.1)
theorem mt3:Mt [gr1,gr2,gr3] k6 [] lg3:=by
 have h:jw [gr1,gr2] (cK k6 rs2 lg2 [] [(zTr,ofB bC2,zD)]):=tN mt2 (fun u hu=>by
  rw[List.mem_singleton.1 hu];exact⟨by decide,eP _,⟨by decide,by decide,by decide,by decide⟩⟩)
 rw[pl3]at h;exact h (fitB_iff.2 ft3.1)
end
section
set_option maxRecDepth 100000
set_option maxHeartbeats 2000000
attribute [local irreducible] ofB ax
def nI(w:MQ)(e:Ending)(w':MQ):Prop:=e= .returned (.bool true)/\Below w.heap.size w w'
def St0(r:Rp):Prop:=∃d,AwS d [] 0/\r= ⟨d,[],[],[]⟩
def St1(r:Rp):Prop:=∃d u,AwS d [gr1] u/\u<=3/\r= ⟨d,k3,rs1,lg1⟩
def St2(r:Rp):Prop:=∃d u,AwS d [gr1,gr2] u/\u<=6/\r= ⟨d,k6,rs2,lg2⟩
def St3(r:Rp):Prop:=∃d u,AwS d [gr1,gr2,gr3] u/\u<=9/\r= ⟨d,k6,[],lg3⟩
theorem Cf{r:Rp}{a u:Nat}{g:Gru}{p:List Itm}{rs:List Rf}{lg:List Upd}{pd:Dig}{w w':MQ}{e:Ending}(h:CmtE r a u (.app g p rs lg,pd) w e w')(h0: (cB r.d a u (aN g)).2=0):iZ ⟨(cB r.d a u (aN g)).1,p,rs,lg⟩ pd 0 w e w':=by
 unfold CmtE after at h;simp only[h0,if_true]at h;exact h
theorem La:k3.length<=49000:=by decide +kernel
variable {r : Rp} {s : Rsl} {B : Nat} {w : MQ}
theorem Kv:lg3.length=3:=rfl
attribute [local irreducible] k3 k6 rs1 rs2 lg1 lg2 lg3 gr1 gr2 gr3 gr4
theorem awI(s:Dsl)(hm:DkM w B (aT 41 64) s)(hB:B<=w.heap.size):Calls Tryz.prog 13 #[dkV (aT 41 64) s] w fun e w'=>∃r,St0 r/\dO r 0 w e w':=by
 obtain⟨h1,h2⟩:=AwS.start;have ho: (aT 41 64).Ok:=pR (by decide) (by decide) (by decide) (by decide);have hn: (aT 41 64).ss.length=41:=by simp[aT]
 have:=zm (aT 41 64) s B w ho (by rw[hn];decide) (ZZ _) hm hB;have hz: (aT 41 64).sz=64:=rfl;rw[hz,h2]at this;exact this.mono fun e w' h=>⟨_,⟨_,h1,rfl⟩,h⟩
theorem Mw(hpck:iV)(A:OA)(c:Nat)(hr:St0 r)(hm:RpM w B r s)(hB:B<=w.heap.size)(h1:Sl w B 2 A 1 (flat flC [(zA,z1)])) :
  Calls Tryz.prog 28 #[rpV r s,.string zTr,.slice A 1 c,.string dB,.string zFi,.int .i64 1] w fun e w'=>∃r' d,St1 r'/\d=ofB bC1/\iZ r' d 0 w e w':=by
 obtain⟨d,ha,rfl⟩:=hr;have:=rV hpck ⟨d,[],[],[]⟩ s [] 1 0 zTr [(zA,z1)] A 1 c dB zFi 1 B w ha.ok ha.pn ha.jn Mt.nil (ZZ _) hm hB h1 (by decide) (by decide) (fun f hf=>by rw[List.mem_singleton.1 hf];exact⟨by decide,by decide⟩) CY;simp only[pl1]at this;obtain⟨h2,u',h3,h4⟩:=ha.app ft1 (by omega);exact this.mono fun e w' h=>⟨_,_,⟨_,u',h4,by omega,rfl⟩,rfl,Cf h h2⟩
theorem Mq(hpck:iV)(A:OA)(c:Nat)(hr:St1 r)(hm:RpM w B r s)(hB:B<=w.heap.size)(h1:Sl w B 2 A 1 (flat flC [(zA,z2)])) :
  Calls Tryz.prog 28 #[rpV r s,.string zTr,.slice A 1 c,.string dB,.string zSe,.int .i64 2] w fun e w'=>∃r' d,St2 r'/\d=ofB bC2/\iZ r' d 0 w e w':=by
 obtain⟨d,u,ha,hu,rfl⟩:=hr;have:=rV hpck ⟨d,k3,rs1,lg1⟩ s [gr1] 1 u zTr [(zA,z2)] A 1 c dB zSe 2 B w ha.ok ha.pn ha.jn mt1 La hm hB h1 (by decide) (by decide) (fun f hf=>by rw[List.mem_singleton.1 hf];exact⟨by decide,by decide⟩) CL;simp only[pl2]at this;obtain⟨h2,u',h3,h4⟩:=ha.app ft2 (by omega);exact this.mono fun e w' h=>⟨_,_,⟨_,u',h4,by omega,rfl⟩,rfl,Cf h h2⟩
theorem awW(hpck:iV)(A:OA)(c:Nat)(hr:St2 r)(hm:RpM w B r s)(hB:B<=w.heap.size)(h1:Sl w B 5 A 1 (flat upC [(zTr,ofB bC2,zD)])) :
  Calls Tryz.prog 35 #[rpV r s,.slice none 0 0,.slice A 1 c] w fun e w'=>∃r',St3 r'/\r'.p.length=6/\dO r' 0 w e w':=by
 obtain⟨d,u,ha,hu,rfl⟩:=hr;have:=sI hpck ⟨d,k6,rs2,lg2⟩ s [gr1,gr2] 1 u [] none 0 0 [(zTr,ofB bC2,zD)] A 1 c B w ha.ok ha.pn ha.jn mt2 (by rw[mY];decide) hm hB (Sl.nil _ _ _ _) h1 (by decide) (fun i hi=>by cases hi) (fun i hi=>by cases hi) (by decide) (fun x hx=>by rw[List.mem_singleton.1 hx];exact⟨by decide,eP _,⟨by decide,by decide,by decide,by decide⟩⟩);simp only[pl3]at this;obtain⟨h2,u',h3,h4⟩:=ha.app ft3 (by omega);refine this.mono fun e w' h=>⟨_,⟨_,u',h4,by omega,rfl⟩,mY,?_⟩
 unfold ExE after at h;simp only[h2,if_true]at h;exact h
theorem awK(hr:St3 r)(hm:RpM w B r s)(hB:B<=w.heap.size) :
  Calls Tryz.prog 17 #[rpV r s] w fun e w'=>∃r',r'.p.length=0/\r'.lg.length=3/\lC r' 6 0 w e w':=by
 obtain⟨d,u,ha,hu,rfl⟩:=hr;have:=xC ⟨d,k6,[],lg3⟩ s [gr1,gr2,gr3] 1 u B w ha.ok ha.pn ha.jn mt3 (by rw[mY];decide) hm hB;simp only[pl4]at this;have h2:=ha.rew ft4;refine this.mono fun e w' h=>?_;unfold CoE after at h;simp only[h2,if_true,mY]at h;exact⟨_,rfl,Kv,h⟩
structure AwI(w:MQ)(b:Nat)(r:Rp)(s:Rsl)(W:MQ):Prop where
 n:Bk W b 35 (rpC r s)
 m:RpM W W.heap.size r s
 bl:Below w.heap.size w W
 z:w.heap.size<=b/\b<W.heap.size
theorem AwI.up{w:MQ}{b:Nat}{r:Rp}{s:Rsl}{W W':MQ}(h:AwI w b r s W)(hb:Below W.heap.size W W'):AwI w b r s W' :=
 ⟨h.n.below hb h.z.2,(h.m.below hb ai).more hb.size,h.bl.trans (hb.mono h.bl.size),h.z.1,Nat.lt_of_lt_of_le h.z.2 hb.size⟩
theorem AwI.sto{w:MQ}{b:Nat}{r r':Rp}{s s':Rsl}{W w1:MQ}(h:AwI w b r s W)(h1:RpM w1 w1.heap.size r' s')(hb:Below W.heap.size W w1):AwI w b r' s' (stR w1 b r' s'):=by
 have h2:=h.up hb;have e:=gB w1 b r' s';exact⟨h2.n.set7 _ _ _ _ _ _ _,(h1.st h2.n).more (Nat.le_of_eq e.symm),dz h2.bl h2.z.1 _ _ _ _ _ _ _,h2.z.1,by rw[e];exact h2.z.2⟩
theorem AwI.dig{w:MQ}{b:Nat}{r r':Rp}{s s':Rsl}{W w1 W2:MQ}(h:AwI w b r s W)(h1:RpM w1 w1.heap.size r' s')(hb:Below W.heap.size W w1)(x y:Int)
  (hW2: (stR w1 b r' s').alloc (.cells #[.int .u64 x,.int .u64 y] 50)=W2):AwI w b r' s' W2/\Bk W2 w1.heap.size 50 #[.int .u64 x,.int .u64 y]/\w1.heap.size<W2.heap.size:=by
 have h2:=h.sto h1 hb;have e:=gB w1 b r' s';rw[<-hW2];exact⟨h2.up ((af _ _).alloc ai _),(Bk.new _ _ _).at_ e,by simp;omega⟩
theorem uX{b c:Nat}{r':Rp}{s':Rsl}{w1:MQ}{t:TypeId}{cs:Array MS}(hk:Bk w1 c t cs)(hne:c≠b):Bk (stR w1 b r' s') c t cs:=(fZ _ _ _ _ _ _ _ _ _ _ hne).trans hk
end
section
set_option maxRecDepth 100000
attribute [local irreducible] ofB ax k3 k6 rs1 rs2 lg1 lg2 lg3 gr1 gr2 gr3 gr4
theorem GI(hpck:iV)(w:MQ):Calls Tryz.prog 10 #[] w (nI w):=by
 have HN:=ah (fun w=>Ae 41 64 w);rw[show iJ 41 64=true by decide]at HN;simp only[if_true]at HN;unfold aW at HN;have HI:Hid (∀(d:Dk)(s:Dsl)(w1:MQ),d=aT 41 64->DkM w1 w1.heap.size d s->Calls Tryz.prog 13 #[dkV d s] w1 fun e w'=>∃r,St0 r/\dO r 0 w1 e w'):=fun d s w1 h hm=>by rw[h]at hm ⊢;exact awI s hm ai
 obtain⟨d,hd⟩:∃d,aT (41:Int).toNat (64:Int).toNat=d:=⟨_,rfl⟩
 have HD:Hid (d=aT 41 64):=hd.symm;rw[hd]at HN;clear hd;obtain⟨n1,h1⟩:∃n,d.ss.length=n:=⟨_,rfl⟩
 obtain⟨n2,h2⟩:∃n,d.pn.length=n:=⟨_,rfl⟩
 simp only[dkV,dkC,h1,h2]at HN HI;unfold dO at HI;have H1:=ah h1;have H2:=ah h2;clear h1 h2;unfold nI
 go_enter Tryz.func10,Tryz.ntmps10
 go_wp2_with fail;refine(HN.out _).mono ?_;rintro e w1 ⟨s1,rfl,hm1,hb1⟩;obtain⟨W2,hW2⟩:∃W2,w1.alloc (.cells #[.int .i64 d.sz,.slice s1.a1 n1 s1.c1,.slice s1.a2 n2 s1.c2,.int .i64 d.lf] 25)=W2:=⟨_,rfl⟩
 have hb2:Below w1.heap.size w1 W2:=by rw[<-hW2];exact(af _ w1).alloc ai _
 have HB2:Hid (Below w.heap.size w W2):=hb1.trans (hb2.mono hb1.size);have HC:=HI.out d s1 W2 HD.out ((hm1.below hb2 ai).more hb2.size);simp only[H1.out,H2.out]at HC;have HC:=ah HC;have HW2:=ah hW2;clear hW2 hb1 hb2 hm1 HN HI;go_wp2_with fail;rw[HW2.out];refine HC.out.mono ?_;rintro e w3 ⟨r3,hr3,s3,rfl,hm3,hb3⟩;have HB3:Hid (Below w.heap.size w w3):=HB2.out.trans (hb3.mono HB2.out.size);have HM3:=ah hm3;have z3:=HB3.out.size;clear hb3 hm3 HC HB2 HW2 H1 H2 HD;obtain⟨b0,hb0⟩:∃b,w3.heap.size=b:=⟨_,rfl⟩
 obtain⟨W3,hW3⟩:∃W,w3.alloc (.cells (rpC r3 s3) 35)=W:=⟨_,rfl⟩
 have hbW:Below w3.heap.size w3 W3:=by rw[<-hW3];exact(af _ w3).alloc ai _
 have HA3:Hid (AwI w b0 r3 s3 W3):=⟨by rw[<-hW3,<-hb0];exact Bk.new _ _ _,(HM3.out.below hbW ai).more hbW.size,HB3.out.trans (hbW.mono z3),by rw[<-hb0];exact z3,by rw[<-hb0,<-hW3];simp⟩
 have HWW:=ah hW3;clear hW3 hbW HM3 HB3 z3;simp only[rpV,rpC]at HWW ⊢
 go_upto_region 3 with fail
 rw[HWW.out];clear HWW hb0;have hn:=HA3.out.n;simp only[rpC]at hn;obtain⟨⟨v0,v1,v2,v3⟩,v4,v5,v6⟩:=hn.seven;obtain⟨Wf,hWf⟩:∃W,W3.alloc (.cells #[.string ⟨#[97]⟩,.string ⟨#[49]⟩] 82)=W:=⟨_,rfl⟩
 have hbf:Below W3.heap.size W3 Wf:=by rw[<-hWf];exact(af _ _).alloc ai _
 have HAf:=ah (HA3.out.up hbf);have hS:Sl Wf Wf.heap.size 2 (some ⟨W3.heap.size,0,none⟩) 1 (flat flC [(zA,z1)]):=by rw[<-hWf];exact Sl.of_bk (n:=1) (size:=2) (Bk.new W3 _ _) rfl
 have HC:=ah (Mw (w:=Wf) (s:=s3) hpck (some ⟨W3.heap.size,0,none⟩) 1 hr3 HAf.out.m ai hS);unfold iZ zTr dB zFi at HC;simp only[rpV,rpC]at HC;have HWf:=ah hWf;clear hWf hbf hS hn HA3;go_wp2_with fail;rw[HWf.out];refine HC.out.mono ?_;rintro e w5 ⟨r5,⟨d1,d2⟩,hr5,hD,s5,rfl,hm,hb⟩;have HD1:=ah hD;clear hD HWf;have HNw:=ah (HAf.out.up hb);have HM:=ah hm;have HB:=ah hb;have hn:=HNw.out.n;have hzb:=HNw.out.z.2;simp only[rpC]at hn;clear hm hb HC v0 v1 v2 v3 v4 v5 v6;have hne:b0≠w5.heap.size:=by omega
 simp only[aB];obtain⟨⟨v0,v1,v2,v3⟩,v4,v5,v6⟩:=hn.seven;obtain⟨⟨f0,f1,f2,f3⟩,f4,f5,f6⟩:=hn.free7;clear hn
 go_upto_region 4 with fail
 rw[iT w5 b0 r5 s5];obtain⟨W5,hWn⟩:∃W,(stR w5 b0 r5 s5).alloc (.cells #[.int .u64 d1,.int .u64 d2] 50)=W:=⟨_,rfl⟩
 obtain⟨ha,hk,hz⟩:=HAf.out.dig HM.out HB.out d1 d2 hWn;have HA5:=ah ha;obtain⟨c1,hc⟩:∃c,w5.heap.size=c:=⟨_,rfl⟩
 rw[hc]at hk hz;have HK1:=ah (And.intro hk hz);have hck1:c1≠b0:=by omega
 rw[hWn];simp only[hc];clear hWn ha hk hz hzb hne hc HAf HM HB HNw v0 v1 v2 v3 v4 v5 v6 f0 f1 f2 f3 f4 f5 f6;have hn:=HA5.out.n;simp only[rpC]at hn;obtain⟨⟨v0,v1,v2,v3⟩,v4,v5,v6⟩:=hn.seven;obtain⟨Wf,hWf⟩:∃W,W5.alloc (.cells #[.string ⟨#[97]⟩,.string ⟨#[50]⟩] 82)=W:=⟨_,rfl⟩
 have hbf:Below W5.heap.size W5 Wf:=by rw[<-hWf];exact(af _ _).alloc ai _
 have HAf:=ah (HA5.out.up hbf);have HK1f:=ah (HK1.out.1.below hbf HK1.out.2);have HK1fz:=ah (Nat.lt_of_lt_of_le HK1.out.2 hbf.size);have hS:Sl Wf Wf.heap.size 2 (some ⟨W5.heap.size,0,none⟩) 1 (flat flC [(zA,z2)]):=by rw[<-hWf];exact Sl.of_bk (n:=1) (size:=2) (Bk.new W5 _ _) rfl
 have HC:=ah (Mq (w:=Wf) (s:=s5) hpck (some ⟨W5.heap.size,0,none⟩) 1 hr5 HAf.out.m ai hS);unfold iZ zTr dB zSe at HC;simp only[rpV,rpC]at HC;have HWf:=ah hWf;clear hWf hbf hS hn HA5;go_wp2_with fail;rw[HWf.out];refine HC.out.mono ?_;rintro e w7 ⟨r7,⟨e1,e2⟩,hr7,hD,s7,rfl,hm,hb⟩;have HD2:=ah hD;clear hD HWf;have HNw:=ah (HAf.out.up hb);have HM:=ah hm;have HB:=ah hb;have hn:=HNw.out.n;have hzb:=HNw.out.z.2;have HK1g:=ah (HK1f.out.below hb HK1fz.out);have HK1gz:=ah (Nat.lt_of_lt_of_le HK1fz.out hb.size);simp only[rpC]at hn;clear hm hb HC v0 v1 v2 v3 v4 v5 v6 HK1 HK1f HK1fz;have hne:b0≠w7.heap.size:=by omega
 simp only[aB];obtain⟨⟨v0,v1,v2,v3⟩,v4,v5,v6⟩:=hn.seven;obtain⟨⟨f0,f1,f2,f3⟩,f4,f5,f6⟩:=hn.free7;clear hn
 go_upto_region 5 with fail
 rw[iT w7 b0 r7 s7];obtain⟨W7,hWn⟩:∃W,(stR w7 b0 r7 s7).alloc (.cells #[.int .u64 e1,.int .u64 e2] 50)=W:=⟨_,rfl⟩
 obtain⟨ha,hk,hz⟩:=HAf.out.dig HM.out HB.out e1 e2 hWn;have HA7:=ah ha;obtain⟨c2,hc⟩:∃c,w7.heap.size=c:=⟨_,rfl⟩
 rw[hc]at hk hz;have HK2:=ah (And.intro hk hz);have hck2:c2≠b0:=by omega
 have HCK1:Hid (Bk W7 c1 50 #[.int .u64 d1,.int .u64 d2]/\c1<W7.heap.size):=by rw[<-hWn];exact⟨(uX HK1g.out hck1).alloc _,by have:=HK1gz.out;simp[gB];omega⟩
 rw[hWn];simp only[hc];clear hWn ha hk hz hzb hne hc HAf HM HB HNw v0 v1 v2 v3 v4 v5 v6 f0 f1 f2 f3 f4 f5 f6 HK1g HK1gz;have HK1:=HCK1;clear HCK1;have hn:=HA7.out.n;simp only[rpC]at hn;obtain⟨⟨v0,v1,v2,v3⟩,v4,v5,v6⟩:=hn.seven;obtain⟨g0,g1,_,_⟩:=HK2.out.1.two;obtain⟨Wf,hWf⟩:∃W,W7.alloc (.cells #[.string ⟨#[116,114,117,110,107]⟩,.int .u64 e1,.int .u64 e2,.int .u64 0,.int .u64 0] 85)=W:=⟨_,rfl⟩
 have hbf:Below W7.heap.size W7 Wf:=by rw[<-hWf];exact(af _ _).alloc ai _
 have HAf:=ah (HA7.out.up hbf);have HK1f:=ah (HK1.out.1.below hbf HK1.out.2);have HK1fz:=ah (Nat.lt_of_lt_of_le HK1.out.2 hbf.size);have HK2f:=ah (HK2.out.1.below hbf HK2.out.2);have HK2fz:=ah (Nat.lt_of_lt_of_le HK2.out.2 hbf.size);have hS:Sl Wf Wf.heap.size 5 (some ⟨W7.heap.size,0,none⟩) 1 (flat upC [(zTr,ofB bC2,zD)]):=by rw[<-HD2.out,<-hWf];exact Sl.of_bk (n:=1) (size:=5) (Bk.new W7 _ _) rfl
 have HC:=ah (awW (w:=Wf) (s:=s7) hpck (some ⟨W7.heap.size,0,none⟩) 1 hr7 HAf.out.m ai hS);unfold dO at HC;simp only[rpV,rpC]at HC;have HWf:=ah hWf;clear hWf hbf hS hn HA7;go_wp2_with fail;rw[HWf.out];refine HC.out.mono ?_;rintro e w9 ⟨r9,hr9,hp6,s9,rfl,hm,hb⟩;have HP6:=ah hp6;clear hp6 HWf g0 g1;have HNw:=ah (HAf.out.up hb);have HM:=ah hm;have HB:=ah hb;have hn:=HNw.out.n;have hzb:=HNw.out.z.2;have HK1g:=ah (HK1f.out.below hb HK1fz.out);have HK1gz:=ah (Nat.lt_of_lt_of_le HK1fz.out hb.size);have HK2g:=ah (HK2f.out.below hb HK2fz.out);have HK2gz:=ah (Nat.lt_of_lt_of_le HK2fz.out hb.size);simp only[rpC]at hn;clear hm hb HC v0 v1 v2 v3 v4 v5 v6 HK1 HK1f HK1fz HK2 HK2f HK2fz;obtain⟨⟨v0,v1,v2,v3⟩,v4,v5,v6⟩:=hn.seven;obtain⟨⟨f0,f1,f2,f3⟩,f4,f5,f6⟩:=hn.free7;clear hn
 go_upto_region 6 with fail
 rw[iT w9 b0 r9 s9];have HA9:=ah (HAf.out.sto HM.out HB.out);have HC1:Hid (Bk (stR w9 b0 r9 s9) c1 50 #[.int .u64 d1,.int .u64 d2]/\c1< (stR w9 b0 r9 s9).heap.size):=⟨uX HK1g.out hck1,by rw[gB];exact HK1gz.out⟩
 have HC2:Hid (Bk (stR w9 b0 r9 s9) c2 50 #[.int .u64 e1,.int .u64 e2]/\c2< (stR w9 b0 r9 s9).heap.size):=⟨uX HK2g.out hck2,by rw[gB];exact HK2gz.out⟩
 obtain⟨W9,hW9⟩:∃W,stR w9 b0 r9 s9=W:=⟨_,rfl⟩
 rw[hW9]at HA9 HC1 HC2 ⊢;clear hW9 hzb HAf HK1g HK1gz HK2g HK2gz HM HB HNw v0 v1 v2 v3 v4 v5 v6 f0 f1 f2 f3 f4 f5 f6;have hn:=HA9.out.n;simp only[rpC]at hn;obtain⟨⟨v0,v1,v2,v3⟩,v4,v5,v6⟩:=hn.seven;have HC:=ah (awK (w:=W9) (s:=s9) hr9 HA9.out.m ai);unfold lC at HC;simp only[rpV,rpC]at HC;clear hn;go_wp2_with fail;refine HC.out.mono ?_;rintro e w10 ⟨r10,hp0,hl3,s10,rfl,hm,hb⟩;simp only[hp0,hl3];obtain⟨Wa,hWa⟩:∃W,w10.alloc (.cells #[.int .i64 r10.d.sz,.slice s10.d.a1 r10.d.ss.length s10.d.c1,.slice s10.d.a2 r10.d.pn.length s10.d.c2,.int .i64 r10.d.lf,.slice s10.pA 0 s10.pc,.slice s10.rA r10.rs.length s10.rc,.slice s10.lA 3 s10.lc] 35)=W:=⟨_,rfl⟩
 have hba:Below W9.heap.size W9 Wa:=hb.trans (by rw[<-hWa];exact(af _ w10).alloc hb.size _);have hna:=(HA9.out.up hba).n;have HBA:=ah (HA9.out.up hba).bl;obtain⟨g0,g1,_,_⟩:=(HC1.out.1.below hba HC1.out.2).two;obtain⟨q0,q1,_,_⟩:=(HC2.out.1.below hba HC2.out.2).two;have hka:Bk Wa w10.heap.size 35 #[.int .i64 r10.d.sz,.slice s10.d.a1 r10.d.ss.length s10.d.c1,.slice s10.d.a2 r10.d.pn.length s10.d.c2,.int .i64 r10.d.lf,.slice s10.pA 0 s10.pc,.slice s10.rA r10.rs.length s10.rc,.slice s10.lA 3 s10.lc]:=by rw[<-hWa];exact Bk.new _ _ _
 have HWa:=ah hWa;clear hWa hba hm hb hp0 hl3 HC v0 v1 v2 v3 v4 v5 v6
 go_upto_region 7 with fail
 rw[HWa.out];simp only[rpC,HP6.out]at hna;have v4:=hna.cell 4;have y4:=hka.cell 4;have y6:=hka.cell 6;simp at v4 y4 y6;have hnd: (d1 == e1 && d2 == e2)=false:=by
  rw[Bool.eq_false_iff];intro h;simp only[Bool.and_eq_true,beq_iff_eq]at h;exact neC (by rw[<-HD1.out,<-HD2.out,h.1,h.2])
 clear hna hka HWa;go_wp2_with fail;go_ret
 exact⟨rfl,HBA.out⟩
end
abbrev RS:=MU×Bool
def qN(s:RS):Nat×RS:=((ay s.1).1,s.1.drop (ay s.1).2.1,s.2 || decide ((ay s.1).2.2≠0))
def qT(s:RS):MU×RS:=((aK s.1).1,s.1.drop (aK s.1).2.1,s.2 || decide ((aK s.1).2.2≠0))
def qD(s:RS):Dig×RS:=if s.1.length<16 then(zD,s.1,true) else(dg s.1,s.1.drop 16,s.2)
def qE(s:RS):Ent×RS :=
 (⟨ofL (qT s).1,decide ((qN (qT s).2).1=1),(qD ((qN (qT s).2).2.1,(qN (qT s).2).2.2 || decide (1< (qN (qT s).2).1))).1⟩,(qD ((qN (qT s).2).2.1,(qN (qT s).2).2.2 || decide (1< (qN (qT s).2).1))).2)
def qL{α:Type}(g:RS->α×RS):Nat->RS->List α×RS
 | 0,s=>([],s)
 | n+1,s=>if s.2=true then([],s) else((g s).1:: (qL g n (g s).2).1,(qL g n (g s).2).2)
def qLs{α:Type}(g:RS->α×RS)(most:Nat)(s:RS):List α×RS:=qL g (qN s).1 ((qN s).2.1,(qN s).2.2 || decide (most< (qN s).1))
def qC(s:RS):Ob×RS :=
 (⟨3,⟨#[]⟩,[],(qD s).1,(qLs qD 8 (qD s).2).1,ofL (qT (qLs qD 8 (qD s).2).2).1,((qN (qT (qLs qD 8 (qD s).2).2).2).1:Nat),ofL (qT (qN (qT (qLs qD 8 (qD s).2).2).2).2).1⟩,(qT (qN (qT (qLs qD 8 (qD s).2).2).2).2).2)
def qO(b:MU):Ob×RS :=
 if(qN (b,false)).1=1∨ (qN (b,false)).1=4 then(⟨((qN (b,false)).1:Nat),ofL (qT (qN (b,false)).2).1,[],zD,[],⟨#[]⟩,0,⟨#[]⟩⟩,(qT (qN (b,false)).2).2)
 else if(qN (b,false)).1=2 then(⟨2,⟨#[]⟩,(qLs qE 200 (qN (b,false)).2).1,zD,[],⟨#[]⟩,0,⟨#[]⟩⟩,(qLs qE 200 (qN (b,false)).2).2)
 else if(qN (b,false)).1=3 then qC (qN (b,false)).2
 else(⟨((qN (b,false)).1:Nat),⟨#[]⟩,[],zD,[],⟨#[]⟩,0,⟨#[]⟩⟩,(qN (b,false)).2)
theorem kY{s:RS}{n:Nat}{r:MU}(h:qN s= (n,r,false)):s= (aj n++r,false)/\n<=1099511627776:=by
 obtain⟨b,bad⟩:=s;unfold qN at h;simp only[Prod.mk.injEq,Bool.or_eq_false_iff,decide_eq_false_iff_not,Decidable.not_not]at h;obtain⟨h1,h2,h3,h4⟩:=h;generalize hg:ay b=g at *;obtain⟨x,k,e⟩:=g;simp only at h1 h2 h4;subst h1 h4;obtain⟨r',rfl,rfl,hm⟩:=oP hg;rw[List.drop_left]at h2;subst h2 h3;exact⟨rfl,hm⟩
theorem jq{s:RS}{t r:MU}(h:qT s= (t,r,false)):s= (ak t++r,false)/\t.length<=65536:=by
 obtain⟨b,bad⟩:=s;unfold qT at h;simp only[Prod.mk.injEq,Bool.or_eq_false_iff,decide_eq_false_iff_not,Decidable.not_not]at h;obtain⟨h1,h2,h3,h4⟩:=h;generalize hg:aK b=g at *;obtain⟨x,k,e⟩:=g;simp only at h1 h2 h4;subst h1 h4;obtain⟨r',rfl,rfl,hm⟩:=Ad hg;rw[List.drop_left]at h2;subst h2 h3;exact⟨rfl,hm⟩
theorem kX{s:RS}{d:Dig}{r:MU}(h:qD s= (d,r,false)):s= (ax d++r,false)/\WfD d:=by
 obtain⟨b,bad⟩:=s;unfold qD at h;simp only at h;split at h
 . simp at h
 . rename_i hl
   simp only[Prod.mk.injEq]at h;obtain⟨rfl,rfl,rfl⟩:=h;rw[JW (by omega),List.take_append_drop];exact⟨rfl,LM _⟩
theorem uZ{s:RS}{e:Ent}{r:MU}(h:qE s= (e,r,false)):s= (aQ e++r,false)/\WfD e.dg:=by
 unfold qE at h;simp only[Prod.mk.injEq]at h;obtain⟨rfl,h⟩:=h;obtain⟨x1,h1⟩:∃x,qT s=x:=⟨_,rfl⟩
 rw[h1]at h ⊢;obtain⟨x2,h2⟩:∃x,qN x1.2=x:=⟨_,rfl⟩
 rw[h2]at h ⊢;obtain⟨x3,h3⟩:∃x,qD (x2.2.1,x2.2.2 || decide (1<x2.1))=x:=⟨_,rfl⟩
 rw[h3]at h ⊢;obtain⟨d3,r3,b3⟩:=x3;simp only[Prod.mk.injEq]at h;obtain⟨rfl,rfl⟩:=h;obtain⟨e3,hw⟩:=kX h3;obtain⟨n2,r2,b2⟩:=x2;simp only[Prod.mk.injEq,Bool.or_eq_false_iff,decide_eq_false_iff_not,Nat.not_lt]at e3;obtain⟨rfl,rfl,hn⟩:=e3;obtain⟨e2,_⟩:=kY h2;obtain⟨t1,r1,b1⟩:=x1;simp only[Prod.mk.injEq]at e2;obtain⟨rfl,rfl⟩:=e2;obtain⟨e1,_⟩:=jq h1;refine⟨?_,hw⟩;rw[e1];unfold aQ;simp only[bO,decide_eq_true_eq,Z4];rw[show(if n2=1 then 1 else 0)=n2 by split <;> omega]
theorem BU{α:Type}{g:RS->α×RS}{enc:α->MU}{P:α->Prop}(hg:∀s x r,g s= (x,r,false)->s= (enc x++r,false)/\P x):∀(n:Nat)(s:RS)(l:List α)(r:MU),qL g n s= (l,r,false)->s= (l.flatMap enc++r,false)/\l.length=n/\∀x∈l,P x
 | 0,s,l,r,h=>by
   simp only[qL,Prod.mk.injEq]at h;obtain⟨rfl,rfl⟩:=h;simp
 | n+1,s,l,r,h=>by
   rw[qL]at h;split at h
   . rename_i hb
     simp only[Prod.mk.injEq]at h;obtain⟨_,rfl⟩:=h;cases hb
   . simp only[Prod.mk.injEq]at h
     obtain⟨rfl,h⟩:=h;obtain⟨x,hx⟩:∃x,g s=x:=⟨_,rfl⟩
     rw[hx]at h ⊢;obtain⟨i1,i2,i3⟩:=BU hg n x.2 (qL g n x.2).1 r (Prod.ext rfl h);obtain⟨l',hl'⟩:∃l',(qL g n x.2).1=l':=⟨_,rfl⟩
     rw[hl']at i1 i2 i3 ⊢;obtain⟨a,b⟩:=x;simp only at i1 i2 i3 ⊢;subst i1;obtain⟨j1,j2⟩:=hg s a _ hx;refine⟨by rw[j1,List.flatMap_cons,Z4],by rw[Z5,i2],fun y hy=>?_⟩;rcases List.mem_cons.1 hy with rfl | hy
     . exact j2
     . exact i3 y hy
theorem pK{α:Type}{g:RS->α×RS}{enc:α->MU}{P:α->Prop}(hg:∀s x r,g s= (x,r,false)->s= (enc x++r,false)/\P x){most:Nat}{s:RS}{l:List α}{r:MU}(h:qLs g most s= (l,r,false)):s= (aj l.length++ (l.flatMap enc++r),false)/\l.length<=most/\∀x∈l,P x:=by
 unfold qLs at h;obtain⟨x,hx⟩:∃x,qN s=x:=⟨_,rfl⟩
 rw[hx]at h;obtain⟨h1,h2,h3⟩:=BU hg _ _ _ _ h;obtain⟨n,r',b⟩:=x;simp only[Prod.mk.injEq,Bool.or_eq_false_iff,decide_eq_false_iff_not,Nat.not_lt]at h1 h2;obtain⟨rfl,rfl,h4⟩:=h1;subst h2;exact⟨(kY hx).1,h4,h3⟩
theorem Lf{b:MU}{o:Ob}(h:qO b= (o,[],false))(ho:OkF o):b=aG o:=by
 unfold qO at h;obtain⟨x,hx⟩:∃x,qN (b,false)=x:=⟨_,rfl⟩
 rw[hx]at h;obtain⟨k,st⟩:=x;simp only at h;have key:∀{r:MU},st= (r,false)->k=o.kind.toNat->fE o=r->b=aG o:=by
  rintro r rfl rfl rfl;obtain⟨e,_⟩:=kY hx;simp only[Prod.mk.injEq,and_true]at e;exact e
 split at h
 . rename_i hk
   simp only[Prod.mk.injEq]at h;obtain⟨rfl,h⟩:=h;obtain⟨e,_⟩:=jq (s:=st) (t:=(qT st).1) (r:= []) (Prod.ext rfl h);rw[List.append_nil]at e;exact key e rfl (by unfold fE;simp only;rw[if_neg (by omega),if_neg (by omega),bO])
 . split at h
   . rename_i hk
     simp only[Prod.mk.injEq]at h;obtain⟨rfl,h⟩:=h;obtain⟨e,_,_⟩:=pK (enc:=aQ) (P:=fun e=>WfD e.dg) (fun s x r h=>uZ h) (s:=st) (l:=(qLs qE 200 st).1) (r:= []) (Prod.ext rfl h);rw[List.append_nil]at e;exact key e hk (by unfold fE;simp only[if_true])
   . split at h
     . rename_i hk
       unfold qC at h;simp only[Prod.mk.injEq]at h;obtain⟨rfl,h⟩:=h;obtain⟨x1,h1⟩:∃x,qD st=x:=⟨_,rfl⟩
       rw[h1]at h ho key ⊢;obtain⟨x2,h2⟩:∃x,qLs qD 8 x1.2=x:=⟨_,rfl⟩
       rw[h2]at h ho key ⊢;obtain⟨x3,h3⟩:∃x,qT x2.2=x:=⟨_,rfl⟩
       rw[h3]at h ho key ⊢;obtain⟨x4,h4⟩:∃x,qN x3.2=x:=⟨_,rfl⟩
       rw[h4]at h ho key ⊢;obtain⟨e5,_⟩:=jq (s:=x4.2) (t:=(qT x4.2).1) (r:= []) (Prod.ext rfl h);obtain⟨n4,s4⟩:=x4;simp only at e5 h ho key ⊢;rw[List.append_nil]at e5;obtain⟨t5,ht5⟩:∃t,(qT s4).1=t:=⟨_,rfl⟩
       rw[ht5]at e5 ho key ⊢;subst e5;obtain⟨e4,_⟩:=kY h4;obtain⟨t3,s3⟩:=x3;simp only at e4 h ho key ⊢;subst e4;obtain⟨e3,_⟩:=jq h3;obtain⟨l2,s2⟩:=x2;simp only at e3 h ho key ⊢;subst e3;obtain⟨e2,_,_⟩:=pK (enc:=ax) (P:=WfD) (fun s x r h=>kX h) h2;obtain⟨d1,s1⟩:=x1;simp only at e2 h ho key ⊢;subst e2;obtain⟨e1,_⟩:=kX h1;exact key e1 hk (by unfold fE;simp only[if_true,bO,Int.toNat_natCast];rw[if_neg (by omega)])
     . simp only[Prod.mk.injEq]at h
       obtain⟨rfl,_⟩:=h;have:=ho.kind_le;simp only at this;omega
end Go.Proofs.YtknefelegjlgnaaGreatDoor
