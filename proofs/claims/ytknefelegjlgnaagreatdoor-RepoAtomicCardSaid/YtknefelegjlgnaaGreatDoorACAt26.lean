/-
  Lemmas of the card.
-/
import Derived.Test.YtknefelegjlgnaaGreatDoorACAt25
set_option maxRecDepth 100000
set_option maxHeartbeats 16000000
namespace Go.Proofs.YtknefelegjlgnaaGreatDoor
open Go.RowKit
theorem JY{l:List AcX}{k:Nat}{x:AcX}(hx:l[k]? =some x)(h:∀y∈l.take k,AcF y.1)(hf:AcF x.1):∀y∈l.take (k+1),AcF y.1:=fun y hy=>by
 rw[aS hx]at hy;rcases List.mem_append.1 hy with hy | hy
 . exact h y hy
 . rw[List.mem_singleton.1 hy];exact hf
def C9(n z:Int)(l:List AcX)(w:MZ)(e:Ending)(w':MZ):Prop:=∃r:Bool,e= .returned (.bool r)/\ (r=true->l.length<=8/\n<=100/\z<=128/\∀a∈l,AcF a.1)/\Below w.heap.size w w'
theorem IK(n z:Int)(l:List AcX)(A:OA)(m c B:Nat)(w:MZ)(h:AcsM w B A m l)(hb:∀a∈l,AcB a.1)(hB:B<=w.heap.size)(hm:m<=maxLen) :
  Calls Tryz.prog 47 #[ja n z A m c] w (C9 n z l w):=by
 unfold maxLen at hm;have q:=ah (h.s.len pO (by omega));obtain⟨W,hW⟩:=NX9 (w.alloc (.cells #[.int .i64 n,.int .i64 z,.slice A m c] 42))
 have f:Hid (Below w.heap.size w W):=by rw[<-hW];exact(af _ w).alloc ai _
 have HK:Hid (Bk W w.heap.size 42 #[.int .i64 n,.int .i64 z,.slice A m c]):=by rw[<-hW];exact Bk.new w _ _
 have H:=ah h;have F:=ah hb;have r:=ah hB;have HW:=ah hW;clear hW h hb;unfold ja;obtain⟨k0,k1,k2⟩:=HK.o.three;by_cases c1: (8:Int)< (m:Int)
 . go_enter Tryz.func47,Tryz.ntmps47
   go_wp2_with fail;rw[HW.o];go_ret
   exact⟨false,rfl,(fun h=>by cases h),f.o⟩
 by_cases c2:100<n
 . go_enter Tryz.func47,Tryz.ntmps47
   go_wp2_with fail;rw[HW.o];go_ret
   exact⟨false,rfl,(fun h=>by cases h),f.o⟩
 by_cases c3:128<z
 . go_enter Tryz.func47,Tryz.ntmps47
   go_wp2_with fail;rw[HW.o];go_ret
   exact⟨false,rfl,(fun h=>by cases h),f.o⟩
 go_enter Tryz.func47,Tryz.ntmps47
 go_wp2_with fail;rw[HW.o]
 go_loopw[22] (fun i wr=>∃k:Nat,k<=m/\i= .int .i64 k/\Hid (Below w.heap.size w wr)/\Hid (∀y∈l.take k,AcF y.1)) (fun i _=>m - (intOf i).toNat)
 case atStart=>exact⟨0,ZZ _,rfl,f.o,fun y hy=>by simp at hy⟩
 case round =>
  obtain⟨k,hk,rfl,t,hF⟩:=hrel;have j:=ah t.o;have HF:=ah hF.o;clear t hF k0 k1 k2;by_cases hlt:k<m
  . obtain⟨b,K,x,rfl,L,hx,⟨x0,x1,x2,x3⟩,x4,x5,x6⟩:=(H.o.below j.o r.o).s.ac hlt
    have G: (k:Int)< (m:Int):=by omega
    have HX:=ah hx;obtain⟨wx,o⟩:=NX9 (wr.alloc (.cells (acA x) 65))
    have u:Below wr.heap.size wr wx:=by rw[<-o];exact(af _ wr).alloc ai _
    have v:Hid (Bk wx wr.heap.size 65 (acA x)):=by rw[<-o];exact Bk.new wr _ _
    have p:Hid (Below w.heap.size w wx):=j.o.trans (u.mono j.o.size);have d:x∈l:=Z7 hx;have HC:=ah (AJ x B wx ((H.o.m x d).below p.o r.o) (F.o x d) (by have:=p.o.size;omega));have C:=ah o;clear hx o u d;unfold vY at HC;simp only[acA]at v C HC;obtain⟨⟨y0,y1,y2,y3⟩,y4,y5,y6⟩:=v.o.seven;go_wp2_with fail;rw[C.o];refine HC.o.mono ?_;rintro e w1 ⟨g,rfl,hg,D⟩;have HG:=ah hg;have E:Hid (Below w.heap.size w w1):=p.o.trans (D.mono p.o.size);clear hg D HC x0 x1 x2 x3 x4 x5 x6 y0 y1 y2 y3 y4 y5 y6;cases g with
    | false =>
      go_wp2_with fail;go_ret
      exact⟨false,rfl,(fun h=>by cases h),E.o⟩
    | true =>
      have I:=ah (JY HX.o HF.o (HG.o (by simp)));go_wp2_with fail;go_roundw
      case rel=>exact⟨k+1,hlt,by go_num,E.o,I.o⟩
      case measure=>simp[intOf];omega
  . have G:¬(k:Int)< (m:Int):=by omega
    have J:Hid (∀y∈l,AcF y.1):=by
     have:=HF.o
     rwa[ZW (by rw[q.o];omega)]at this
    go_wp2_with fail;go_ret
    exact⟨true,rfl,fun _=>⟨by rw[q.o];omega,by omega,by omega,J.o⟩,j.o⟩
def vV(w:MZ)(e:Ending)(w':MZ):Prop:=∃(ok:Bool)(r':Rp)(s':Rsl),e= .returned (.tuple #[rpV r' s',.bool ok])/\ (ok=true->RI r')/\RpM w' w'.heap.size r' s'/\Below w.heap.size w w'
theorem LB{n z:Int}(hr:iJ n z=true)(hn:n<=100)(hz:z<=128)(h3:3<= (aT n.toNat z.toNat).ss.length) :
  RI ⟨(aH (aT n.toNat z.toNat) (bH (aT n.toNat z.toNat).sz (aT n.toNat z.toNat).ss)).1,[],[],[]⟩/\ (aH (aT n.toNat z.toNat) (bH (aT n.toNat z.toNat).sz (aT n.toNat z.toNat).ss)).2=0:=by
 unfold iJ at hr;simp only[decide_eq_true_eq]at hr;have ho: (aT n.toNat z.toNat).Ok:=qd (by omega) (by omega) (by omega) (by omega);obtain⟨h1,h2,_,_⟩:=Cb ho h3 rfl rfl;obtain⟨g1,g2⟩:=jL (bH (aT n.toNat z.toNat).sz (aT n.toNat z.toNat).ss) (aT n.toNat z.toNat);refine⟨⟨?_,?_,by show(aH _ _).1.pn.length<=1000;rw[h2.pn];exact ZZ _,.inl ⟨[],h2,Mt.nil⟩⟩,h1⟩
 . show(aH _ _).1.ss.length<=100
   rw[g2];simp[aT];omega
 . show(aH _ _).1.sz<=128
   rw[g1];simp[aT];omega
theorem Eu(hpck:iW)(n z:Int)(l:List AcX)(A:OA)(m c B:Nat)(w:MZ)(h:AcsM w B A m l)(hb:∀a∈l,AcB a.1)(hB:B<=w.heap.size)(hm:m<=maxLen) :
  Calls Tryz.prog 16 #[ja n z A m c] w (vV w):=by
 obtain⟨W,hW⟩:=NX9 ((w.alloc (.cells #[.int .i64 n,.int .i64 z,.slice A m c] 42)).alloc (.cells rzC 35))
 have X:Hid (Below w.heap.size w W):=by rw[<-hW];exact((af _ w).alloc ai _).alloc (by simp) _
 have HK:Hid (Bk W w.heap.size 42 #[.int .i64 n,.int .i64 z,.slice A m c]):=by rw[<-hW];exact(Bk.new w _ _).alloc _
 have HZ:Hid (Bk W (w.heap.size+1) 35 rzC):=by rw[<-hW];exact(Bk.new _ _ _).at_ (by simp)
 have zW:W.heap.size=w.heap.size+2:=by rw[<-hW];simp
 have HF:=ah (IK n z l A m c B W (h.below X.o hB) hb (by omega) hm);have H:=ah h;have bd:=ah hB;have cf:=ah (h.s.len pO (by unfold maxLen at hm;omega));have HW:=ah hW;clear hW h hb hm;have an:Hid (∀w',Below w.heap.size w w'->vV w (.returned (.tuple #[.agg rzC,.bool false])) w'):=fun w' hb=>⟨false,zRp,zRs,rfl,(fun h=>by cases h),RpM.zero _ _,hb⟩
 unfold C9 at HF;unfold ja at HF ⊢;obtain⟨k0,k1,k2⟩:=HK.o.three
 go_enter Tryz.func16,Tryz.ntmps16
 go_wp2_with fail;rw[HW.o];refine HF.o.mono ?_;rintro e w1 ⟨g,rfl,hg,M⟩;have HG:=ah hg;have N:Hid (Below w.heap.size w w1):=X.o.trans (M.mono X.o.size);have Y:=ah (HK.o.below M (by omega));have C:=ah (HZ.o.below M (by omega));have z1:w.heap.size+2<=w1.heap.size:=by have:=M.size;omega
 clear hg M HF k0 k1 k2 HK HZ X;obtain⟨k0,k1,k2⟩:=Y.o.three;cases g with
 | false =>
   obtain⟨⟨f0,f1,f2,f3⟩,f4,f5,f6⟩:=C.o.free7;obtain⟨⟨z0,z1,z2,z3⟩,z4,z5,z6⟩:=C.o.seven;go_wp2_with fail;exact ZY (dO Tryz.results16 rfl (C.o.set7 _ _ _ _ _ _ _) rfl) rfl (an.o _ (cZ N.o (by omega) _ _ _ _ _ _ _))
 | true =>
   obtain⟨cr,hn,hz,bf⟩:=HG.o (by simp);have cs:m<=8:=by have:=cf.o;omega
   have bg:=ah bf;clear bf HG;have HD:=ah (Ar n z w1);unfold aW at HD;cases hr:iJ n z with
   | false =>
     rw[hr]at HD;simp only[Bool.false_eq_true,if_false,zDk,dkV,dkC,List.length_nil]at HD;go_wp2_with fail;refine HD.o.mono ?_;rintro e w2 ⟨s',rfl,_,f⟩;have O:Hid (Below w.heap.size w w2):=N.o.trans (f.mono (by omega));have P:=ah (C.o.below f (by omega));have cg:=f.size;clear f HD k0 k1 k2 Y C N;obtain⟨w3,p⟩:=NX9 (w2.alloc (.cells #[.int .i64 0,.slice s'.a1 0 s'.c1,.slice s'.a2 0 s'.c2,.int .i64 0] 25))
     have G:Hid (Below w.heap.size w w3):=by rw[<-p];exact O.o.alloc (by omega) _
     have v:Hid (Bk w3 (w.heap.size+1) 35 rzC):=by rw[<-p];exact P.o.alloc _
     have Z:=ah p;clear p P O;obtain⟨⟨f0,f1,f2,f3⟩,f4,f5,f6⟩:=v.o.free7;obtain⟨⟨z0,z1,z2,z3⟩,z4,z5,z6⟩:=v.o.seven
     go_upto_region 5 with fail
     rw[Z.o];go_wp2_with fail;exact ZY (dO Tryz.results16 rfl (v.o.set7 _ _ _ _ _ _ _) rfl) rfl (an.o _ (cZ G.o (by omega) _ _ _ _ _ _ _))
   | true =>
     have ao:=hr;unfold iJ at ao;simp only[decide_eq_true_eq]at ao;have ap:Hid ((aT n.toNat z.toNat).Ok):=qd (by omega) (by omega) (by omega) (by omega);have bh:=ah (fun h3=>LB hr hn hz h3);have bi: (aT n.toNat z.toNat).ss.length=n.toNat:=by simp[aT]
     have D: (aT n.toNat z.toNat).pn.length=0:=rfl;rw[hr]at HD;simp only[if_true]at HD;obtain⟨d,hd⟩:=NX9 (aT n.toNat z.toNat)
     rw[hd]at HD ap bh bi D;clear hd ao;obtain⟨dn,aq⟩:=NX9 d.ss.length
     simp only[dkV,dkC,D,aq]at HD;go_wp2_with fail;refine HD.o.mono ?_;rintro e w2 ⟨s',rfl,bj,f⟩;have O:Hid (Below w.heap.size w w2):=N.o.trans (f.mono (by omega));have bk:=ah (Y.o.below f (by omega));have P:=ah (C.o.below f (by omega));have cg:=f.size;clear f HD k0 k1 k2 Y C N;obtain⟨w3,p⟩:=NX9 (w2.alloc (.cells #[.int .i64 d.sz,.slice s'.a1 dn s'.c1,.slice s'.a2 0 s'.c2,.int .i64 d.lf] 25))
     have I:Below w2.heap.size w2 w3:=by rw[<-p];exact(af _ w2).alloc ai _
     have G:Hid (Below w.heap.size w w3):=O.o.trans (I.mono (by omega));have ar:=ah (bk.o.below I (by omega));have v:=ah (P.o.below I (by omega));have au:Hid (Bk w3 w2.heap.size 25 #[.int .i64 d.sz,.slice s'.a1 dn s'.c1,.slice s'.a2 0 s'.c2,.int .i64 d.lf]):=by rw[<-p];exact Bk.new _ _ _
     have z3:=I.size;have ab:=bj.below I ai;have Z:=ah p;clear p I bj P bk O;obtain⟨l0,l1,l2,l3⟩:=au.o.dk4;by_cases h3:3<=d.ss.length
     . obtain⟨Q,bm⟩:=bh.o h3
       have bn:=ah Q;have HI:=ah (AZ d s' w2.heap.size w3 ap.o h3 (by omega) ab z3);unfold dw at HI;rw[bm]at HI;obtain⟨r0,bo⟩:=NX9 ((⟨(aH d (bH d.sz d.ss)).1,[],[],[]⟩:Rp))
       rw[bo]at HI bn;simp only[dkV,dkC,D,aq,rpV,rpC]at HI;clear Q bm bo ab l0 l1 l2 l3;go_wp2_with fail;rw[Z.o];refine HI.o.mono ?_;rintro e w4 ⟨s4,rfl,ad,j⟩;have R:Hid (Below w.heap.size w w4):=G.o.trans (j.mono (by omega));have bp:=ah (ar.o.below j (by omega));have S:=ah (v.o.below j (by omega));have bq:=j.size;clear j HI ar v au G;obtain⟨w5,o⟩:=NX9 (w4.alloc (.cells (rpC r0 s4) 35))
       have J:Below w4.heap.size w4 w5:=by rw[<-o];exact(af _ w4).alloc ai _
       have av:Hid (Below w.heap.size w w5):=R.o.trans (J.mono (by omega));have ch:=ah (bp.o.below J (by omega));have T:=ah (S.o.below J (by omega));have br:Hid (Bk w5 w4.heap.size 35 (rpC r0 s4)):=by rw[<-o];exact Bk.new _ _ _
       have ci:Hid (RpM w5 w5.heap.size r0 s4):=(ad.below J ai).more J.size;have z5:w5.heap.size=w4.heap.size+1:=by rw[<-o];simp
       have U:=ah o;clear o J ad bp S R;simp only[rpC]at U;obtain⟨k0,k1,k2⟩:=ch.o.three;obtain⟨b6,r⟩:=NX9 w4.heap.size
       rw[r]at br z5 bq
       go_upto_region 7 with fail
       rw[U.o];clear U
       try simp only[r]
       clear r;go_wp2_with fail
       go_loopw[36] (fun i wr=>∃(k:Nat)(r':Rp)(s':Rsl),k<=m/\i= .int .i64 k/\Hid (RI r')/\Hid (RpM wr wr.heap.size r' s')/\Hid (Bk wr b6 35 (rpC r' s'))/\Hid (Bk wr (w.heap.size+1) 35 rzC)/\Hid (Below w.heap.size w wr)/\b6<wr.heap.size) (fun i _=>m - (intOf i).toNat)
       case atStart=>exact⟨0,r0,s4,ZZ _,rfl,bn.o,ci.o,br.o,T.o,av.o,by omega⟩
       case round =>
        obtain⟨k,r1,s1,hk,rfl,Q,bs,hN,hZ,bt,cj⟩:=hrel;have E:=ah Q.o;have aw:=ah bs.o;have HN:=ah hN.o;have K:=ah hZ.o;have ag:=ah bt.o;clear Q bs hN hZ bt k0 k1 k2;by_cases hlt:k<m
        . obtain⟨b,ct,x,rfl,cu,hx,⟨x0,x1,x2,x3⟩,x4,x5,x6⟩:=(H.o.below ag.o bd.o).s.ac hlt
          have ck: (k:Int)< (m:Int):=by omega
          obtain⟨wx,al⟩:=NX9 (wr.alloc (.cells (acA x) 65))
          have L:Below wr.heap.size wr wx:=by rw[<-al];exact(af _ wr).alloc ai _
          have bv:Hid (Bk wx wr.heap.size 65 (acA x)):=by rw[<-al];exact Bk.new wr _ _
          have V:Hid (Below w.heap.size w wx):=ag.o.trans (L.mono ag.o.size);have zx:=L.size;have aD:=ah (HN.o.below L cj);have bw:=ah (K.o.below L (by omega));have F:x∈l:=Z7 hx;obtain⟨gs,a,u,aE⟩:∃gs a u,r1.d.lf≠0->Lvs r1 gs a u:=by
           by_cases h0:r1.d.lf=0
           . exact⟨[],0,0,fun h=>absurd h0 h⟩
           . obtain⟨gs,a,u,h⟩:=E.o.lv h0
             exact⟨gs,a,u,fun _=>h⟩
          have cl:=ah aE;have cm:=ah (bg.o x F);have HC:=ah (vB hpck r1 s1 gs a u x wx.heap.size wx E.o aE ((aw.o.below L ai).more zx) (((H.o.m x F).below V.o bd.o).more (by have:=V.o.size;omega)) (bg.o x F) ai);have ba:=ah al;have bb:=HN.o;simp only[rpC]at bb;clear hx al L F aE HN K aw;unfold dw at HC;simp only[acA,rpV,rpC]at bv ba HC aD;obtain⟨⟨v0,v1,v2,v3⟩,v4,v5,v6⟩:=bb.seven;clear bb;go_wp2_with fail;rw[ba.o];refine HC.o.mono ?_;rintro e w6 ⟨r2,y,⟨s2,rfl,bx,r⟩,bz⟩;have cn:=ah (bz.ri E.o cl.o cm.o);have co:=ah bx;have cp:Hid (Below w.heap.size w w6):=V.o.trans (r.mono V.o.size);have am:=ah (aD.o.below r (by omega));have cq:=ah (bw.o.below r (by omega));have z6:=r.size;clear bz bx r HC bv aD bw V ba x0 x1 x2 x3 x4 x5 x6 v0 v1 v2 v3 v4 v5 v6;obtain⟨⟨v0,v1,v2,v3⟩,v4,v5,v6⟩:=am.o.seven;obtain⟨⟨f0,f1,f2,f3⟩,f4,f5,f6⟩:=am.o.free7
          go_upto_region 13 with fail
          rw[iV w6 b6 r2 s2];have e7:=fP w6 b6 r2 s2;have ca:Hid (RpM (stR w6 b6 r2 s2) (stR w6 b6 r2 s2).heap.size r2 s2):=(co.o.st (q:=r1) (t:=s1) am.o).more (by omega);have cb:Hid (Bk (stR w6 b6 r2 s2) b6 35 (rpC r2 s2)):=am.o.set7 _ _ _ _ _ _ _;have cc:Hid (Bk (stR w6 b6 r2 s2) (w.heap.size+1) 35 rzC):=(gq _ _ _ _ _ _ _ _ _ _ (by omega)).trans cq.o;have cd:Hid (Below w.heap.size w (stR w6 b6 r2 s2)):=cZ cp.o (by omega) _ _ _ _ _ _ _;obtain⟨w7,ce⟩:=NX9 (stR w6 b6 r2 s2)
          rw[ce]at ca cb cc cd e7 ⊢;clear ce v0 v1 v2 v3 v4 v5 v6 f0 f1 f2 f3 f4 f5 f6;go_wp2_with fail;go_roundw
          case rel=>exact⟨k+1,r2,s2,hlt,by go_num,cn.o,ca.o,cb.o,cc.o,cd.o,by omega⟩
          case measure=>simp[intOf];omega
        . have ck:¬(k:Int)< (m:Int):=by omega
          simp only[rpC]at HN;obtain⟨⟨v0,v1,v2,v3⟩,v4,v5,v6⟩:=HN.o.seven;obtain⟨⟨f0,f1,f2,f3⟩,f4,f5,f6⟩:=K.o.free7;obtain⟨⟨z0,z1,z2,z3⟩,z4,z5,z6⟩:=K.o.seven;go_wp2_with fail;refine ZY (dO Tryz.results16 rfl (K.o.set7 _ _ _ _ _ _ _) rfl) rfl ⟨true,r1,s1,rfl,fun _=>E.o,?_,cZ ag.o (by omega) _ _ _ _ _ _ _⟩;exact(aw.o.st (q:=zRp) (t:=zRs) (r0:=r1) (s0:=s1) K.o).more (by have:=fP wr (w.heap.size+1) r1 s1;unfold stR at this;omega)
     . have HI:=ah (Hy d s' w2.heap.size w3 ap.o (by omega) (by omega) ab z3)
       unfold dw at HI;simp only[dkV,dkC,D,aq,rpV,rpC,zRp,List.length_nil]at HI;clear ab l0 l1 l2 l3;go_wp2_with fail;rw[Z.o];refine HI.o.mono ?_;rintro e w4 ⟨s4,rfl,ad,j⟩;have R:Hid (Below w.heap.size w w4):=G.o.trans (j.mono (by omega));have S:=ah (v.o.below j (by omega));have bq:=j.size;clear j ad HI ar v au G;obtain⟨w5,o⟩:=NX9 (w4.alloc (.cells #[.int .i64 0,.slice s4.d.a1 0 s4.d.c1,.slice s4.d.a2 0 s4.d.c2,.int .i64 0,.slice s4.pA 0 s4.pc,.slice s4.rA 0 s4.rc,.slice s4.lA 0 s4.lc] 35))
       have av:Hid (Below w.heap.size w w5):=by rw[<-o];exact R.o.alloc (by omega) _
       have T:Hid (Bk w5 (w.heap.size+1) 35 rzC):=by rw[<-o];exact S.o.alloc _
       have U:=ah o;clear o S R;obtain⟨⟨f0,f1,f2,f3⟩,f4,f5,f6⟩:=T.o.free7;obtain⟨⟨z0,z1,z2,z3⟩,z4,z5,z6⟩:=T.o.seven
       go_upto_region 8 with fail
       rw[U.o];go_wp2_with fail;exact ZY (dO Tryz.results16 rfl (T.o.set7 _ _ _ _ _ _ _) rfl) rfl (an.o _ (cZ av.o (by omega) _ _ _ _ _ _ _))
section
theorem qi(s:M3)(h:s.size<128):ak (toL s)=UInt8.ofNat s.size::toL s:=by
 unfold ak;have: (toL s).length=s.size:=by simp[toL]
 rw[this,dM h];rfl
theorem Bn(s:M3)(h:s.size<128):aG (dS s)=1::UInt8.ofNat s.size::toL s:=by
 show aj 1++ak (toL s)=_;rw[dM (by omega),qi s h];rfl
theorem Bu(n:M3)(d:Dig)(h:n.size<128):aG (dK [⟨n,false,d⟩])=2::1::UInt8.ofNat n.size:: (toL n++0::ax d):=by
 show aj 2++ (aj 1++ ((ak (toL n)++ (aj 0++ax d))++ []))=_;rw[dM (n:=2) (by omega),dM (n:=1) (by omega),dM (n:=0) (by omega),qi n h];simp
theorem Ca(t:Dig)(ps:List Dig)(a m:M3)(n:Nat)(h:ps.length<128)(h1:a.size<128)(h2:m.size<128)(h3:n<128) :
  aG ⟨3,⟨#[]⟩,[],t,ps,a,n,m⟩=3:: (ax t++ (UInt8.ofNat ps.length:: (ps.flatMap ax++ (UInt8.ofNat a.size:: (toL a++ (UInt8.ofNat n::UInt8.ofNat m.size::toL m)))))):=by
 show aj 3++ (ax t++ (aj ps.length++ (ps.flatMap ax++ (ak (toL a)++ (aj n++ak (toL m))))))=_;rw[dM (n:=3) (by omega),dM h,qi a h1,qi m h2,dM h3];simp
/-! ### pools in which nothing is missing -/
def Clo(p:List Itm):Prop:=PlOk p/\∀x o,aL p x=some o->∀y∈bQ o,y≠zD->aL p y≠none
theorem Clo.nil:Clo []:=⟨PlOk.nil,fun x o h=>by simp[aL,bE]at h⟩
theorem Clo.put{p q:List Itm}{o:Ob}(h:Clo p)(ho:OkO o)(hi:bA p o=some q)(hl:∀y∈bQ o,y≠zD->aL p y≠none):Clo q:=by
 have hq:=mW h.1 ho hi;have hs:=kC h.1 hi;refine⟨hq,fun x o' hx y hy hz=>?_⟩;have hm:aL p y≠none:=by
  obtain⟨b,a⟩:=(gz hq).1 hx;rcases (mH h.1.asc hi _).1 a with a | a
  . exact h.2 x o' ((gz h.1).2 ⟨b,a⟩) y hy hz
  . have e:aG o'=aG o:=by
      have:=congrArg Prod.snd a;have:=congrArg toL this
      simpa [bP] using this
    rw[Ap e b.f ho.f]at hy;exact hl y hy hz
 obtain⟨z,c⟩:=Option.ne_none_iff_exists'.1 hm;rw[kv h.1 hq hs c];simp
theorem Clo.whole{p:List Itm}(h:Clo p){ds:List Dig}(hd:∀d∈ds,aL p d≠none):¬Miss p ds:=by
 have hr:∀x,Rchd p ds x->x=zD∨aL p x≠none:=fun x hx=>by
  induction hx with
  | root h'=>exact .inr (hd _ h')
  | @link d x o _ g m _ =>
    by_cases hz:x=zD
    . exact .inl hz
    . exact .inr (h.2 _ _ g x m hz)
 rintro ⟨x,hx,h1,h2⟩;rcases hr x h1 with h3 | h3
 . exact hx h3
 . exact h3 h2
theorem Bl{p q:List Itm}(hq:AscI q)(h:subP p q):UniR p q q:=⟨hq,fun x=>⟨.inr,fun hx=>hx.elim (h x) id⟩⟩
theorem KE{p:List Itm}(hp:AscI p):UniR p [] p:=⟨hp,fun x=>by simp⟩
theorem um{p q r:List Itm}{rs rs':List Rf}{lg us:List Upd}(hq:PlOk q)(hr:UniR p q r)(ha:cK rs lg us= (rs',lg++us,0))(hu:us≠ [])(hc:∀u∈us,u.2.2≠zD->dz r u.2.2=0) :
  dh p rs lg q us= .app (us,aU (dC p q)) r rs' (lg++us):=by
 unfold dh;rw[uL hr,if_pos ⟨hq,hr.clear,by rw[ha],hc⟩,if_neg (fun h=>hu h.2),ha]
theorem KM(p:List Itm):fT p []= []:=by
 have h:∀x,¬Rchd p [] x:=fun x hx=>by
  induction hx with
  | root h=>cases h
  | link _ _ _ ih=>exact ih
 unfold fT;rw[List.filter_eq_nil_iff];intro i _
 simpa using h i.1
/-! ### the example -/
attribute [local irreducible] ofB ax
def zA:M3:=⟨#[97]⟩
def z1:M3:=⟨#[49]⟩
def z2:M3:=⟨#[50]⟩
def zTr:M3:=⟨#[116,114,117,110,107]⟩
def zFi:M3:=⟨#[102,105,114,115,116]⟩
def zSe:M3:=⟨#[115,101,99,111,110,100]⟩
def bB1:M5:= [1,1,49]
def bB2:M5:= [1,1,50]
def bT1:M5:= [2,1,1,97,0]++ax (ofB bB1)
def bT2:M5:= [2,1,1,97,0]++ax (ofB bB2)
def bC1:M5:=3:: (ax (ofB bT1)++ [0,3,97,110,110,1,5,102,105,114,115,116])
def bC2:M5:=3:: (ax (ofB bT2)++1:: (ax (ofB bC1)++ [3,97,110,110,2,6,115,101,99,111,110,100]))
def itZ(b:M5):Itm:=(ofB b,ofL b)
def k1:List Itm:=(cB [] (itZ bB1)).getD []
def k2:List Itm:=(cB k1 (itZ bT1)).getD []
def k3:List Itm:=(cB k2 (itZ bC1)).getD []
def k4:List Itm:=(cB k3 (itZ bB2)).getD []
def k5:List Itm:=(cB k4 (itZ bT2)).getD []
def k6:List Itm:=(cB k5 (itZ bC2)).getD []
theorem ky{α:Type}{o:Option (List α)}(h:o.isSome=true):o=some (o.getD []):=by cases o with | none=>cases h | some _=>rfl
theorem j1:cB [] (itZ bB1)=some k1:=ky (by decide +kernel)
theorem j2:cB k1 (itZ bT1)=some k2:=ky (by decide +kernel)
theorem j3:cB k2 (itZ bC1)=some k3:=ky (by decide +kernel)
theorem j4:cB k3 (itZ bB2)=some k4:=ky (by decide +kernel)
theorem j5:cB k4 (itZ bT2)=some k5:=ky (by decide +kernel)
theorem j6:cB k5 (itZ bC2)=some k6:=ky (by decide +kernel)
def oB1:Ob:=dS z1
def oB2:Ob:=dS z2
def oT1:Ob:=dK [⟨zA,false,ofB bB1⟩]
def oT2:Ob:=dK [⟨zA,false,ofB bB2⟩]
def oC1:Ob:=bF (ofB bT1) zD dG zFi 1
def oC2:Ob:=bF (ofB bT2) (ofB bC1) dG zSe 2
theorem eB1:aG oB1=bB1:=Bn z1 (by decide)
theorem eB2:aG oB2=bB2:=Bn z2 (by decide)
theorem eT1:aG oT1=bT1:=Bu zA _ (by decide)
theorem eT2:aG oT2=bT2:=Bu zA _ (by decide)
theorem eC1:aG oC1=bC1:=by
 unfold oC1 bF;rw[if_pos rfl];exact Ca (ofB bT1) [] dG zFi 1 (by decide) (by decide) (by decide) (by decide)
theorem eC2:aG oC2=bC2:=by
 unfold oC2 bF;rw[if_neg (jr _)];refine(Ca (ofB bT2) [ofB bC1] dG zSe 2 (by decide) (by decide) (by decide) (by decide)).trans ?_;rw[List.flatMap_cons,List.flatMap_nil,List.append_nil];rfl
theorem kB1:OkO oB1:=pg (by decide)
theorem kB2:OkO oB2:=pg (by decide)
theorem Dr{d:Dig}(h:WfD d)(h2:d≠zD):OkO (dK [⟨zA,false,d⟩]):=sI ⟨by simp,fun e he=>by rw[List.mem_singleton.1 he];exact⟨(by decide +kernel:bI zA=true),h,h2⟩,fun j a b _ h=>by simp at h⟩
theorem kT1:OkO oT1:=Dr (eQ _) (jr _)
theorem kT2:OkO oT2:=Dr (eQ _) (jr _)
theorem Dp:nM dG zFi 1:=⟨by decide +kernel,by decide,by decide,by decide⟩
theorem De:nM dG zSe 2:=⟨by decide +kernel,by decide,by decide,by decide⟩
theorem kC1:OkO oC1:=qG Dp (eQ _) (jr _) ⟨by decide,by decide,by decide,by decide⟩
theorem kC2:OkO oC2:=qG De (eQ _) (jr _) (eQ _)
theorem p1:bA [] oB1=some k1:=by unfold bA;rw[eB1];exact j1
theorem p2:bA k1 oT1=some k2:=by unfold bA;rw[eT1];exact j2
theorem p3:bA k2 oC1=some k3:=by unfold bA;rw[eC1];exact j3
theorem p4:bA k3 oB2=some k4:=by unfold bA;rw[eB2];exact j4
theorem p5:bA k4 oT2=some k5:=by unfold bA;rw[eT2];exact j5
theorem p6:bA k5 oC2=some k6:=by unfold bA;rw[eC2];exact j6
theorem dB1:dgO oB1=ofB bB1:=by unfold dgO;rw[eB1]
theorem dB2:dgO oB2=ofB bB2:=by unfold dgO;rw[eB2]
theorem dT1:dgO oT1=ofB bT1:=by unfold dgO;rw[eT1]
theorem dT2:dgO oT2=ofB bT2:=by unfold dgO;rw[eT2]
theorem dC1:dgO oC1=ofB bC1:=by unfold dgO;rw[eC1]
theorem dC2:dgO oC2=ofB bC2:=by unfold dgO;rw[eC2]
theorem c1:Clo k1:=Clo.nil.put kB1 p1 (fun y hy=>by simp[bQ,oB1,dS]at hy)
theorem g1B:aL k1 (ofB bB1)=some oB1:=dB1 ▸ kE Clo.nil.1 kB1 p1
theorem c2:Clo k2:=c1.put kT1 p2 (fun y hy _=>by
 simp[bQ,oT1,dK]at hy;rw[hy,g1B];simp)
theorem g2T:aL k2 (ofB bT1)=some oT1:=dT1 ▸ kE c1.1 kT1 p2
theorem c3:Clo k3:=c2.put kC1 p3 (fun y hy _=>by
 simp[bQ,oC1,bF]at hy;rw[hy,g2T];simp)
theorem g3C:aL k3 (ofB bC1)=some oC1:=dC1 ▸ kE c2.1 kC1 p3
theorem c4:Clo k4:=c3.put kB2 p4 (fun y hy=>by simp[bQ,oB2,dS]at hy)
theorem g4B:aL k4 (ofB bB2)=some oB2:=dB2 ▸ kE c3.1 kB2 p4
theorem c5:Clo k5:=c4.put kT2 p5 (fun y hy _=>by
 simp[bQ,oT2,dK]at hy;rw[hy,g4B];simp)
theorem g5T:aL k5 (ofB bT2)=some oT2:=dT2 ▸ kE c4.1 kT2 p5
theorem sub35:subP k3 k5:=(kC c3.1 p4).trans (kC c4.1 p5)
theorem Mg:subP k3 k6:=sub35.trans (kC c5.1 p6)
theorem g5C:aL k5 (ofB bC1)=some oC1:=kv c3.1 c5.1 sub35 g3C
theorem c6:Clo k6:=c5.put kC2 p6 (fun y hy _=>by
 simp[bQ,oC2,bF,jr]at hy;rcases hy with rfl | rfl
 . rw[g5T];simp
 . rw[g5C];simp)
theorem g6C:aL k6 (ofB bC2)=some oC2:=dC2 ▸ kE c5.1 kC2 p6
theorem m3:dz k3 (ofB bC1)=0:=compl_zero.2 ⟨⟨_,g3C,rfl⟩,c3.whole (fun d hd=>by rw[List.mem_singleton.1 hd,g3C];simp)⟩
theorem m6:dz k6 (ofB bC2)=0:=compl_zero.2 ⟨⟨_,g6C,rfl⟩,c6.whole (fun d hd=>by rw[List.mem_singleton.1 hd,g6C];simp)⟩
theorem ckz{s:M3}(h:s.size<=60000):TckR [(zA,s)] 0:=KL ⟨fun f hf=>by rw[List.mem_singleton.1 hf];exact(by decide +kernel:bL zA=true),fun f hf=>by rw[List.mem_singleton.1 hf];exact h,by simp,by simp,fun f hf g hg=>by rw[List.mem_singleton.1 hf,List.mem_singleton.1 hg];exact(by decide +kernel:iK zA zA=false)⟩ (by unfold AscF;simp)
theorem nmz(s:M3):bT [(zA,s)]= [zA]:=by
 show eZ [] (fsN zA)= [zA]
 decide +kernel
theorem lkz(s:M3):dP [(zA,s)] zA=some s:=by unfold dP;simp
theorem MG:sto 101 [] [(zA,z1)]=some (k2,ofB bT1):=by
 rw[sto,nmz,sD (lkz z1) p1,dY,List.nil_append];have h:dgO (dS z1)=ofB bB1:=dB1;have h2:bA k1 (dK [⟨zA,false,ofB bB1⟩])=some k2:=p2;have h3:dgO (dK [⟨zA,false,ofB bB1⟩])=ofB bT1:=dT1;rw[h];simp only;rw[h2];simp only[h3]
theorem Mw:sto 101 k3 [(zA,z2)]=some (k5,ofB bT2):=by
 rw[sto,nmz,sD (lkz z2) p4,dY,List.nil_append];have h:dgO (dS z2)=ofB bB2:=dB2;have h2:bA k4 (dK [⟨zA,false,ofB bB2⟩])=some k5:=p5;have h3:dgO (dK [⟨zA,false,ofB bB2⟩])=ofB bT2:=dT2;rw[h];simp only;rw[h2];simp only[h3]
def lg1:List Upd:= [(zTr,zD,ofB bC1)]
def rs1:List Rf:= [(zTr,ofB bC1)]
def lg2:List Upd:= [(zTr,zD,ofB bC1),(zTr,ofB bC1,ofB bC2)]
def rs2:List Rf:= [(zTr,ofB bC2)]
def lg3:List Upd:= [(zTr,zD,ofB bC1),(zTr,ofB bC1,ofB bC2),(zTr,ofB bC2,zD)]
theorem ap1:cK [] [] [(zTr,zD,ofB bC1)]= (rs1,[]++ [(zTr,zD,ofB bC1)],0):=by decide +kernel
theorem ap2:cK rs1 lg1 [(zTr,ofB bC1,ofB bC2)]= (rs2,lg1++ [(zTr,ofB bC1,ofB bC2)],0):=by decide +kernel
theorem ap3:cK rs2 lg2 [(zTr,ofB bC2,zD)]= ([],lg2++ [(zTr,ofB bC2,zD)],0):=by decide +kernel
theorem gt0:bW [] [] zTr= (zD,8):=by decide +kernel
theorem gt1:bW rs1 lg1 zTr= (ofB bC1,0):=by decide +kernel
theorem neT:ofB bT1≠ofB bT2:=by decide +kernel
theorem neC:ofB bC1≠ofB bC2:=by decide +kernel
def gr1:Gru:=([(zTr,zD,ofB bC1)],aU (dC [] k3))
def gr2:Gru:=([(zTr,ofB bC1,ofB bC2)],aU (dC k3 k6))
def gr3:Gru:=([(zTr,ofB bC2,zD)],[])
def gr4:Gru:=(lg3,[])
theorem pl1:gJ [] [] [] zTr [(zA,z1)] dG zFi 1= (.app gr1 k3 rs1 lg1,ofB bC1):=by
 unfold gJ;rw[gt0,if_neg (by simp),if_pos (ckz (by decide)),MG];simp only;rw[if_neg (fun h=>h.1 rfl)];have h1:bA k2 (bF (ofB bT1) zD dG zFi 1)=some k3:=p3;have h2:dgO (bF (ofB bT1) zD dG zFi 1)=ofB bC1:=dC1;rw[h1];simp only;rw[h2,um c3.1 (Bl c3.1.asc (fun i h=>by cases h)) ap1 (by simp) (fun u hu _=>by rw[List.mem_singleton.1 hu];exact m3)];rfl
theorem pl2:gJ k3 rs1 lg1 zTr [(zA,z2)] dG zSe 2= (.app gr2 k6 rs2 lg2,ofB bC2):=by
 unfold gJ;rw[gt1,if_neg (by simp),if_pos (ckz (by decide)),Mw];simp only;rw[if_neg (fun h=>by
  obtain⟨_,o,ho,he⟩:=h;rw[g3C]at ho;cases ho
  exact neT he)]
 have h1:bA k5 (bF (ofB bT2) (ofB bC1) dG zSe 2)=some k6:=p6;have h2:dgO (bF (ofB bT2) (ofB bC1) dG zSe 2)=ofB bC2:=dC2;rw[h1];simp only;rw[h2,um c6.1 (Bl c6.1.asc Mg) ap2 (by simp) (fun u hu _=>by rw[List.mem_singleton.1 hu];exact m6)];rfl
theorem pl3:dh k6 rs2 lg2 [] [(zTr,ofB bC2,zD)]= .app gr3 k6 [] lg3:=by
 rw[um PlOk.nil (KE c6.1.asc) ap3 (by simp) (fun u hu h=>by rw[List.mem_singleton.1 hu]at h;exact absurd rfl h)];rfl
theorem ng:k6.length=6:=by decide +kernel
theorem pl4:fD k6 [] lg3= .rew gr4 [] [] lg3:=by
 unfold fD;rw[KM,if_neg (by rw[ng];decide)];rfl
/-! ### room on the disk -/
theorem Ce(t:M5)(h:t.length<=65536): (ak t).length<=6+t.length:=by
 unfold ak;have:=eB (n:=t.length) (by omega);simp only[ae];omega
theorem AB:∀l:List M5,(∀t∈l,t.length<=65536)-> (l.flatMap ak).length<=6*l.length+ (l.map List.length).sum
 | [],_=>by simp
 | t::l,h=>by
   have h1:=AB l (fun x hx=>h x (by simp[hx]));have h2:=Ce t (h t (by simp));simp only[List.flatMap_cons,ae,Z5,List.map_cons,List.sum_cons];omega
theorem Kg{l:List M5}{N:Nat}(h:eO l)(hN:6*l.length+ (l.map List.length).sum<=N): (az l).length<=N+13:=by
 have h1:=AB l h.2;have h2:=eB (n:=l.length) (by have:=h.1;omega);have h3:=mE h;have h4:=eB (n:=(bJ l).length) (by omega);unfold az;simp only[Z5,ae];have: (bJ l).length= (aj l.length).length+ (l.flatMap ak).length:=by unfold bJ;rw[ae]
 omega
theorem Am:∀us:List Upd,(∀u∈us,u.1.size<=5)-> (bC us).length<=43*us.length
 | [],_=>by simp[bC]
 | u::us,h=>by
   have h1:=Am us (fun x hx=>h x (by simp[hx]));have h0:=h u (by simp);rw[aP]at h0;have h2:=Ce (toL u.1) (by omega);have h3: (fG u).length<=43:=by unfold fG;simp only[ae,fH];omega
   unfold bC at h1 ⊢;rw[List.flatMap_cons,ae,Z5];omega
theorem II{us:List Upd}{n:Nat}(hn:n<=1000)(h1:us.length<=1000)(h:∀u∈us,u.1.size<=5): (fq us n).length<=12+43*us.length:=by
 have h2:=Am us h;have h3:=eB (n:=n) (by omega);have h4:=eB (n:=us.length) (by omega);unfold fq encR;rw[if_neg (by omega)];split <;> simp only[ae,List.length_nil] <;> omega
theorem pY{g:Gru}{M S:Nat}(h1:g.1.length<=3)(hu:∀u∈g.1,u.1.size<=5)(h2:g.2.length<=3)(h3:∀t∈g.2,t.length<=65536)(h4: (g.2.map List.length).sum<=S)(hM:12+43*g.1.length<=M) :
  eO (aM g)/\ (az (aM g)).length<=M+S+37:=by
 have h5:=II (us:=g.1) (n:=g.2.length) (by omega) (by omega) hu;have hf:eO (aM g):=⟨by unfold aM;rw[Z5];omega,fun t ht=>by
  rcases List.mem_cons.1 ht with rfl | ht
  . omega
  . exact h3 t ht⟩
 refine⟨hf,?_⟩;have:=Kg (N:=24+M+S) hf (by unfold aM;simp only[Z5,List.map_cons,List.sum_cons];omega);omega
theorem ft1:eO (aM gr1)/\ (az (aM gr1)).length<=192:=by
 have:=pY (g:=gr1) (M:=55) (S:=100) (by decide) (by decide +kernel) (by decide +kernel) (by decide +kernel) (by decide +kernel) (by decide);exact this
theorem ft2:eO (aM gr2)/\ (az (aM gr2)).length<=192:=by
 have:=pY (g:=gr2) (M:=55) (S:=100) (by decide) (by decide +kernel) (by decide +kernel) (by decide +kernel) (by decide +kernel) (by decide);exact this
theorem ft3:eO (aM gr3)/\ (az (aM gr3)).length<=192:=by
 have:=pY (g:=gr3) (M:=55) (S:=100) (by decide) (by decide +kernel) (by decide) (by decide) (by decide) (by decide);exact this
theorem ft4:eO (aM gr4)/\ (az (aM gr4)).length<=192:=by
 have:=pY (g:=gr4) (M:=141) (S:=14) (by decide) (by decide +kernel) (by decide) (by decide) (by decide) (by decide);exact this
structure AwS(d:Dk)(gs:List Gru)(u:Nat):Prop where
 ok:d.Ok
 pn:d.pn= []
 lf:d.lf= -1
 n:d.ss.length=41
 z:d.sz=64
 jn:Jn d.sz d.ss 1 (recs gs) u
theorem AwS.sec3{d:Dk}{gs:List Gru}{u:Nat}(h:AwS d gs u){l:List M5}(hft:eO l/\ (az l).length<=192):SecF d.sz l (secs d.sz (az l))/\ (secs d.sz (az l)).length<=3:=by
 refine⟨⟨hft.1,rfl⟩,?_⟩;rw[(kg h.jn.sz0 _ _ ai).1,h.z];unfold nsec;have:=hft.2;omega
theorem AwS.app{d:Dk}{gs:List Gru}{u:Nat}{g:Gru}(h:AwS d gs u)(hft:eO (aM g)/\ (az (aM g)).length<=192)(hu:u<=15): (bS d 1 u (aM g)).2=0/\∃u',u'<=u+3/\AwS (bS d 1 u (aM g)).1 (gs++ [g]) u':=by
 obtain⟨hS,hl⟩:=h.sec3 hft;have hh:hf d.ss=20:=by unfold Go.Proofs.YtknefelegjlgnaaGreatDoor.hf;rw[h.n]
 unfold bS;rw[if_neg (by simpa using fitB_iff.2 hft.1),if_neg (by omega)];have hk: (secs d.sz (az (aM g))).length<=Go.Proofs.YtknefelegjlgnaaGreatDoor.hf d.ss - u:=by omega
 obtain⟨b,a⟩:=uH h.jn hS hk;obtain⟨r1,r2⟩:=ko (eF d.sz d.ss 1 u (secs d.sz (az (aM g)))) d h.lf;have he: (⟨d.sz,d.ss,[],d.lf⟩:Dk)=d:=by rw[<-h.pn]
 have hs:=(yt (lf:=d.lf) h.jn hS b (pre:=eF d.sz d.ss 1 u (secs d.sz (az (aM g)))) (suf:= []) (by simp) []).2 rfl;simp only[he]at hs;obtain⟨o1,o2,o3⟩:=qb _ d h.ok a;rw[r1];refine⟨rfl,u+ (secs d.sz (az (aM g))).length,by omega,o1,hs.1,r2,by show List.length _=41;rw[o3,h.n],by show Dk.sz _=64;rw[o2,h.z],?_⟩;show Jn (Dk.sz _) _ 1 (recs (gs++ [g])) _;rw[o2,sV];exact hs.2
theorem AwS.rew{d:Dk}{gs:List Gru}{u:Nat}{g:Gru}(h:AwS d gs u)(hft:eO (aM g)/\ (az (aM g)).length<=192): (bZ d 1 (aM g)).2=0:=by
 obtain⟨hS,hl⟩:=h.sec3 hft;have hh:Go.Proofs.YtknefelegjlgnaaGreatDoor.hf d.ss=20:=by unfold Go.Proofs.YtknefelegjlgnaaGreatDoor.hf;rw[h.n]
 unfold bZ;rw[if_neg (by simpa using fitB_iff.2 hft.1),if_neg (by omega),(ko _ d h.lf).1]
theorem AwS.start:AwS (aH (aT 41 64) (bH 64 (aT 41 64).ss)).1 [] 0/\ (aH (aT 41 64) (bH 64 (aT 41 64).ss)).2=0:=by
 have ho: (aT 41 64).Ok:=qd (by decide) (by decide) (by decide) (by decide);have hn: (aT 41 64).ss.length=41:=by simp[aT]
 obtain⟨h1,h2,h3,h4⟩:=Cb (d:=aT 41 64) ho (by rw[hn];decide) rfl rfl;exact⟨⟨h2.ok,h2.pn,h3,by rw[(jL _ _).2];exact hn,(jL _ _).1,h4⟩,h1⟩
theorem mt1:Mt [gr1] k3 rs1 lg1:=by
 have h:jy [] (gJ [] [] [] zTr [(zA,z1)] dG zFi 1).1:=tY Mt.nil (by decide);rw[pl1]at h;exact h (fitB_iff.2 ft1.1)
theorem mt2:Mt [gr1,gr2] k6 rs2 lg2:=by
 have h:jy [gr1] (gJ k3 rs1 lg1 zTr [(zA,z2)] dG zSe 2).1:=tY mt1 (by decide);rw[pl2]at h;exact h (fitB_iff.2 ft2.1)
theorem mt3:Mt [gr1,gr2,gr3] k6 [] lg3:=by
 have h:jy [gr1,gr2] (dh k6 rs2 lg2 [] [(zTr,ofB bC2,zD)]):=uB mt2 (fun u hu=>by
  rw[List.mem_singleton.1 hu];exact⟨by decide,eQ _,⟨by decide,by decide,by decide,by decide⟩⟩)
 rw[pl3]at h;exact h (fitB_iff.2 ft3.1)
end
section
set_option maxRecDepth 100000
set_option maxHeartbeats 2000000
attribute [local irreducible] ofB ax
def nK(w:MZ)(e:Ending)(w':MZ):Prop:=e= .returned (.bool true)/\Below w.heap.size w w'
def St0(r:Rp):Prop:=∃d,AwS d [] 0/\r= ⟨d,[],[],[]⟩
def St1(r:Rp):Prop:=∃d u,AwS d [gr1] u/\u<=3/\r= ⟨d,k3,rs1,lg1⟩
def St2(r:Rp):Prop:=∃d u,AwS d [gr1,gr2] u/\u<=6/\r= ⟨d,k6,rs2,lg2⟩
def St3(r:Rp):Prop:=∃d u,AwS d [gr1,gr2,gr3] u/\u<=9/\r= ⟨d,k6,[],lg3⟩
theorem Ct{r:Rp}{a u:Nat}{g:Gru}{p:List Itm}{rs:List Rf}{lg:List Upd}{pd:Dig}{w w':MZ}{e:Ending}(h:CmtE r a u (.app g p rs lg,pd) w e w')(h0: (bS r.d a u (aM g)).2=0):jb ⟨(bS r.d a u (aM g)).1,p,rs,lg⟩ pd 0 w e w':=by
 unfold CmtE after at h;simp only[h0,if_true]at h;exact h
theorem Lp:k3.length<=49000:=by decide +kernel
variable {r : Rp} {s : Rsl} {B : Nat} {w : MZ}
theorem Ko:lg3.length=3:=rfl
attribute [local irreducible] k3 k6 rs1 rs2 lg1 lg2 lg3 gr1 gr2 gr3 gr4
theorem awI(s:Dsl)(hm:DkM w B (aT 41 64) s)(hB:B<=w.heap.size):Calls Tryz.prog 13 #[dkV (aT 41 64) s] w fun e w'=>∃r,St0 r/\dw r 0 w e w':=by
 obtain⟨h1,h2⟩:=AwS.start;have ho: (aT 41 64).Ok:=qd (by decide) (by decide) (by decide) (by decide);have hn: (aT 41 64).ss.length=41:=by simp[aT]
 have:=AZ (aT 41 64) s B w ho (by rw[hn];decide) (ZZ _) hm hB;have hz: (aT 41 64).sz=64:=rfl;rw[hz,h2]at this;exact this.mono fun e w' h=>⟨_,⟨_,h1,rfl⟩,h⟩
theorem Mv(hpck:iW)(A:OA)(c:Nat)(hr:St0 r)(hm:RpM w B r s)(hB:B<=w.heap.size)(h1:Sl w B 2 A 1 (flat flC [(zA,z1)])) :
  Calls Tryz.prog 28 #[rpV r s,.string zTr,.slice A 1 c,.string dG,.string zFi,.int .i64 1] w fun e w'=>∃r' d,St1 r'/\d=ofB bC1/\jb r' d 0 w e w':=by
 obtain⟨d,ha,rfl⟩:=hr;have:=rX hpck ⟨d,[],[],[]⟩ s [] 1 0 zTr [(zA,z1)] A 1 c dG zFi 1 B w ha.ok ha.pn ha.jn Mt.nil (ZZ _) hm hB h1 (by decide) (by decide) (fun f hf=>by rw[List.mem_singleton.1 hf];exact⟨by decide,by decide⟩) Dp;simp only[pl1]at this;obtain⟨h2,u',h3,h4⟩:=ha.app ft1 (by omega);exact this.mono fun e w' h=>⟨_,_,⟨_,u',h4,by omega,rfl⟩,rfl,Ct h h2⟩
theorem Ms(hpck:iW)(A:OA)(c:Nat)(hr:St1 r)(hm:RpM w B r s)(hB:B<=w.heap.size)(h1:Sl w B 2 A 1 (flat flC [(zA,z2)])) :
  Calls Tryz.prog 28 #[rpV r s,.string zTr,.slice A 1 c,.string dG,.string zSe,.int .i64 2] w fun e w'=>∃r' d,St2 r'/\d=ofB bC2/\jb r' d 0 w e w':=by
 obtain⟨d,u,ha,hu,rfl⟩:=hr;have:=rX hpck ⟨d,k3,rs1,lg1⟩ s [gr1] 1 u zTr [(zA,z2)] A 1 c dG zSe 2 B w ha.ok ha.pn ha.jn mt1 Lp hm hB h1 (by decide) (by decide) (fun f hf=>by rw[List.mem_singleton.1 hf];exact⟨by decide,by decide⟩) De;simp only[pl2]at this;obtain⟨h2,u',h3,h4⟩:=ha.app ft2 (by omega);exact this.mono fun e w' h=>⟨_,_,⟨_,u',h4,by omega,rfl⟩,rfl,Ct h h2⟩
theorem awW(hpck:iW)(A:OA)(c:Nat)(hr:St2 r)(hm:RpM w B r s)(hB:B<=w.heap.size)(h1:Sl w B 5 A 1 (flat upC [(zTr,ofB bC2,zD)])) :
  Calls Tryz.prog 35 #[rpV r s,.slice none 0 0,.slice A 1 c] w fun e w'=>∃r',St3 r'/\r'.p.length=6/\dw r' 0 w e w':=by
 obtain⟨d,u,ha,hu,rfl⟩:=hr;have:=sS hpck ⟨d,k6,rs2,lg2⟩ s [gr1,gr2] 1 u [] none 0 0 [(zTr,ofB bC2,zD)] A 1 c B w ha.ok ha.pn ha.jn mt2 (by rw[ng];decide) hm hB (Sl.nil _ _ _ _) h1 (by decide) (fun i hi=>by cases hi) (fun i hi=>by cases hi) (by decide) (fun x hx=>by rw[List.mem_singleton.1 hx];exact⟨by decide,eQ _,⟨by decide,by decide,by decide,by decide⟩⟩);simp only[pl3]at this;obtain⟨h2,u',h3,h4⟩:=ha.app ft3 (by omega);refine this.mono fun e w' h=>⟨_,⟨_,u',h4,by omega,rfl⟩,ng,?_⟩
 unfold ExE after at h;simp only[h2,if_true]at h;exact h
theorem awK(hr:St3 r)(hm:RpM w B r s)(hB:B<=w.heap.size) :
  Calls Tryz.prog 17 #[rpV r s] w fun e w'=>∃r',r'.p.length=0/\r'.lg.length=3/\lD r' 6 0 w e w':=by
 obtain⟨d,u,ha,hu,rfl⟩:=hr;have:=xx ⟨d,k6,[],lg3⟩ s [gr1,gr2,gr3] 1 u B w ha.ok ha.pn ha.jn mt3 (by rw[ng];decide) hm hB;simp only[pl4]at this;have h2:=ha.rew ft4;refine this.mono fun e w' h=>?_;unfold CoE after at h;simp only[h2,if_true,ng]at h;exact⟨_,rfl,Ko,h⟩
structure AwI(w:MZ)(b:Nat)(r:Rp)(s:Rsl)(W:MZ):Prop where
 n:Bk W b 35 (rpC r s)
 m:RpM W W.heap.size r s
 bl:Below w.heap.size w W
 z:w.heap.size<=b/\b<W.heap.size
theorem AwI.up{w:MZ}{b:Nat}{r:Rp}{s:Rsl}{W W':MZ}(h:AwI w b r s W)(hb:Below W.heap.size W W'):AwI w b r s W' :=
 ⟨h.n.below hb h.z.2,(h.m.below hb ai).more hb.size,h.bl.trans (hb.mono h.bl.size),h.z.1,Nat.lt_of_lt_of_le h.z.2 hb.size⟩
theorem AwI.sto{w:MZ}{b:Nat}{r r':Rp}{s s':Rsl}{W w1:MZ}(h:AwI w b r s W)(h1:RpM w1 w1.heap.size r' s')(hb:Below W.heap.size W w1):AwI w b r' s' (stR w1 b r' s'):=by
 have h2:=h.up hb;have e:=fP w1 b r' s';exact⟨h2.n.set7 _ _ _ _ _ _ _,(h1.st h2.n).more (Nat.le_of_eq e.symm),cZ h2.bl h2.z.1 _ _ _ _ _ _ _,h2.z.1,by rw[e];exact h2.z.2⟩
theorem AwI.dig{w:MZ}{b:Nat}{r r':Rp}{s s':Rsl}{W w1 W2:MZ}(h:AwI w b r s W)(h1:RpM w1 w1.heap.size r' s')(hb:Below W.heap.size W w1)(x y:Int)
  (hW2: (stR w1 b r' s').alloc (.cells #[.int .u64 x,.int .u64 y] 50)=W2):AwI w b r' s' W2/\Bk W2 w1.heap.size 50 #[.int .u64 x,.int .u64 y]/\w1.heap.size<W2.heap.size:=by
 have h2:=h.sto h1 hb;have e:=fP w1 b r' s';rw[<-hW2];exact⟨h2.up ((af _ _).alloc ai _),(Bk.new _ _ _).at_ e,by simp;omega⟩
theorem vz{b c:Nat}{r':Rp}{s':Rsl}{w1:MZ}{t:TypeId}{cs:Array M4}(hk:Bk w1 c t cs)(hne:c≠b):Bk (stR w1 b r' s') c t cs:=(gq _ _ _ _ _ _ _ _ _ _ hne).trans hk
end
section
set_option maxRecDepth 100000
attribute [local irreducible] ofB ax k3 k6 rs1 rs2 lg1 lg2 lg3 gr1 gr2 gr3 gr4
theorem H9(hpck:iW)(w:MZ):Calls Tryz.prog 10 #[] w (nK w):=by
 have HN:=ah (fun w=>Ar 41 64 w);rw[show iJ 41 64=true by decide]at HN;simp only[if_true]at HN;unfold aW at HN;have HI:Hid (∀(d:Dk)(s:Dsl)(w1:MZ),d=aT 41 64->DkM w1 w1.heap.size d s->Calls Tryz.prog 13 #[dkV d s] w1 fun e w'=>∃r,St0 r/\dw r 0 w1 e w'):=fun d s w1 h hm=>by rw[h]at hm ⊢;exact awI s hm ai
 obtain⟨d,hd⟩:=NX9 (aT (41:Int).toNat (64:Int).toNat)
 have HD:Hid (d=aT 41 64):=hd.symm;rw[hd]at HN;clear hd;obtain⟨n1,h1⟩:=NX9 d.ss.length
 obtain⟨n2,h2⟩:=NX9 d.pn.length
 simp only[dkV,dkC,h1,h2]at HN HI;unfold dw at HI;have H1:=ah h1;have H2:=ah h2;clear h1 h2;unfold nK
 go_enter Tryz.func10,Tryz.ntmps10
 go_wp2_with fail;refine(HN.o _).mono ?_;rintro e w1 ⟨s1,rfl,Z,L⟩;obtain⟨W2,M⟩:=NX9 (w1.alloc (.cells #[.int .i64 d.sz,.slice s1.a1 n1 s1.c1,.slice s1.a2 n2 s1.c2,.int .i64 d.lf] 25))
 have D:Below w1.heap.size w1 W2:=by rw[<-M];exact(af _ w1).alloc ai _
 have N:Hid (Below w.heap.size w W2):=L.trans (D.mono L.size);have HC:=HI.o d s1 W2 HD.o ((Z.below D ai).more D.size);simp only[H1.o,H2.o]at HC;have HC:=ah HC;have ab:=ah M;clear M L D Z HN HI;go_wp2_with fail;rw[ab.o];refine HC.o.mono ?_;rintro e w3 ⟨r3,av,s3,rfl,ad,ag⟩;have O:Hid (Below w.heap.size w w3):=N.o.trans (ag.mono N.o.size);have al:=ah ad;have z3:=O.o.size;clear ag ad HC N ab H1 H2 HD;obtain⟨b0,E⟩:=NX9 w3.heap.size
 obtain⟨W3,v⟩:=NX9 (w3.alloc (.cells (rpC r3 s3) 35))
 have F:Below w3.heap.size w3 W3:=by rw[<-v];exact(af _ w3).alloc ai _
 have P:Hid (AwI w b0 r3 s3 W3):=⟨by rw[<-v,<-E];exact Bk.new _ _ _,(al.o.below F ai).more F.size,O.o.trans (F.mono z3),by rw[<-E];exact z3,by rw[<-E,<-v];simp⟩
 have Q:=ah v;clear v F al O z3;simp only[rpV,rpC]at Q ⊢
 go_upto_region 3 with fail
 rw[Q.o];clear Q E;have hn:=P.o.n;simp only[rpC]at hn;obtain⟨⟨v0,v1,v2,v3⟩,v4,v5,v6⟩:=hn.seven;obtain⟨Wf,c⟩:=NX9 (W3.alloc (.cells #[.string ⟨#[97]⟩,.string ⟨#[49]⟩] 82))
 have f:Below W3.heap.size W3 Wf:=by rw[<-c];exact(af _ _).alloc ai _
 have g:=ah (P.o.up f);have hS:Sl Wf Wf.heap.size 2 (some ⟨W3.heap.size,0,none⟩) 1 (flat flC [(zA,z1)]):=by rw[<-c];exact Sl.of_bk (n:=1) (size:=2) (Bk.new W3 _ _) rfl
 have HC:=ah (Mv (w:=Wf) (s:=s3) hpck (some ⟨W3.heap.size,0,none⟩) 1 av g.o.m ai hS);unfold jb zTr dG zFi at HC;simp only[rpV,rpC]at HC;have o:=ah c;clear c f hS hn P;go_wp2_with fail;rw[o.o];refine HC.o.mono ?_;rintro e w5 ⟨r5,⟨d1,d2⟩,aw,hD,s5,rfl,hm,hb⟩;have aD:=ah hD;clear hD o;have i:=ah (g.o.up hb);have HM:=ah hm;have HB:=ah hb;have hn:=i.o.n;have x:=i.o.z.2;simp only[rpC]at hn;clear hm hb HC v0 v1 v2 v3 v4 v5 v6;have R:b0≠w5.heap.size:=by omega
 simp only[aB];obtain⟨⟨v0,v1,v2,v3⟩,v4,v5,v6⟩:=hn.seven;obtain⟨⟨f0,f1,f2,f3⟩,f4,f5,f6⟩:=hn.free7;clear hn
 go_upto_region 4 with fail
 rw[iV w5 b0 r5 s5];obtain⟨W5,p⟩:=NX9 ((stR w5 b0 r5 s5).alloc (.cells #[.int .u64 d1,.int .u64 d2] 50))
 obtain⟨ha,hk,hz⟩:=g.o.dig HM.o HB.o d1 d2 p;have S:=ah ha;obtain⟨c1,hc⟩:=NX9 w5.heap.size
 rw[hc]at hk hz;have l:=ah (And.intro hk hz);have H:c1≠b0:=by omega
 rw[p];simp only[hc];clear p ha hk hz x R hc g HM HB i v0 v1 v2 v3 v4 v5 v6 f0 f1 f2 f3 f4 f5 f6;have hn:=S.o.n;simp only[rpC]at hn;obtain⟨⟨v0,v1,v2,v3⟩,v4,v5,v6⟩:=hn.seven;obtain⟨Wf,c⟩:=NX9 (W5.alloc (.cells #[.string ⟨#[97]⟩,.string ⟨#[50]⟩] 82))
 have f:Below W5.heap.size W5 Wf:=by rw[<-c];exact(af _ _).alloc ai _
 have g:=ah (S.o.up f);have q:=ah (l.o.1.below f l.o.2);have b:=ah (Nat.lt_of_lt_of_le l.o.2 f.size);have hS:Sl Wf Wf.heap.size 2 (some ⟨W5.heap.size,0,none⟩) 1 (flat flC [(zA,z2)]):=by rw[<-c];exact Sl.of_bk (n:=1) (size:=2) (Bk.new W5 _ _) rfl
 have HC:=ah (Ms (w:=Wf) (s:=s5) hpck (some ⟨W5.heap.size,0,none⟩) 1 aw g.o.m ai hS);unfold jb zTr dG zSe at HC;simp only[rpV,rpC]at HC;have o:=ah c;clear c f hS hn S;go_wp2_with fail;rw[o.o];refine HC.o.mono ?_;rintro e w7 ⟨r7,⟨e1,e2⟩,aE,hD,s7,rfl,hm,hb⟩;have am:=ah hD;clear hD o;have i:=ah (g.o.up hb);have HM:=ah hm;have HB:=ah hb;have hn:=i.o.n;have x:=i.o.z.2;have t:=ah (q.o.below hb b.o);have j:=ah (Nat.lt_of_lt_of_le b.o hb.size);simp only[rpC]at hn;clear hm hb HC v0 v1 v2 v3 v4 v5 v6 l q b;have R:b0≠w7.heap.size:=by omega
 simp only[aB];obtain⟨⟨v0,v1,v2,v3⟩,v4,v5,v6⟩:=hn.seven;obtain⟨⟨f0,f1,f2,f3⟩,f4,f5,f6⟩:=hn.free7;clear hn
 go_upto_region 5 with fail
 rw[iV w7 b0 r7 s7];obtain⟨W7,p⟩:=NX9 ((stR w7 b0 r7 s7).alloc (.cells #[.int .u64 e1,.int .u64 e2] 50))
 obtain⟨ha,hk,hz⟩:=g.o.dig HM.o HB.o e1 e2 p;have T:=ah ha;obtain⟨c2,hc⟩:=NX9 w7.heap.size
 rw[hc]at hk hz;have y:=ah (And.intro hk hz);have an:c2≠b0:=by omega
 have I:Hid (Bk W7 c1 50 #[.int .u64 d1,.int .u64 d2]/\c1<W7.heap.size):=by rw[<-p];exact⟨(vz t.o H).alloc _,by have:=j.o;simp[fP];omega⟩
 rw[p];simp only[hc];clear p ha hk hz x R hc g HM HB i v0 v1 v2 v3 v4 v5 v6 f0 f1 f2 f3 f4 f5 f6 t j;have l:=I;clear I;have hn:=T.o.n;simp only[rpC]at hn;obtain⟨⟨v0,v1,v2,v3⟩,v4,v5,v6⟩:=hn.seven;obtain⟨g0,g1,_,_⟩:=y.o.1.two;obtain⟨Wf,c⟩:=NX9 (W7.alloc (.cells #[.string ⟨#[116,114,117,110,107]⟩,.int .u64 e1,.int .u64 e2,.int .u64 0,.int .u64 0] 85))
 have f:Below W7.heap.size W7 Wf:=by rw[<-c];exact(af _ _).alloc ai _
 have g:=ah (T.o.up f);have q:=ah (l.o.1.below f l.o.2);have b:=ah (Nat.lt_of_lt_of_le l.o.2 f.size);have J:=ah (y.o.1.below f y.o.2);have u:=ah (Nat.lt_of_lt_of_le y.o.2 f.size);have hS:Sl Wf Wf.heap.size 5 (some ⟨W7.heap.size,0,none⟩) 1 (flat upC [(zTr,ofB bC2,zD)]):=by rw[<-am.o,<-c];exact Sl.of_bk (n:=1) (size:=5) (Bk.new W7 _ _) rfl
 have HC:=ah (awW (w:=Wf) (s:=s7) hpck (some ⟨W7.heap.size,0,none⟩) 1 aE g.o.m ai hS);unfold dw at HC;simp only[rpV,rpC]at HC;have o:=ah c;clear c f hS hn T;go_wp2_with fail;rw[o.o];refine HC.o.mono ?_;rintro e w9 ⟨r9,ba,ao,s9,rfl,hm,hb⟩;have bb:=ah ao;clear ao o g0 g1;have i:=ah (g.o.up hb);have HM:=ah hm;have HB:=ah hb;have hn:=i.o.n;have x:=i.o.z.2;have t:=ah (q.o.below hb b.o);have j:=ah (Nat.lt_of_lt_of_le b.o hb.size);have K:=ah (J.o.below hb u.o);have A:=ah (Nat.lt_of_lt_of_le u.o hb.size);simp only[rpC]at hn;clear hm hb HC v0 v1 v2 v3 v4 v5 v6 l q b y J u;obtain⟨⟨v0,v1,v2,v3⟩,v4,v5,v6⟩:=hn.seven;obtain⟨⟨f0,f1,f2,f3⟩,f4,f5,f6⟩:=hn.free7;clear hn
 go_upto_region 6 with fail
 rw[iV w9 b0 r9 s9];have B:=ah (g.o.sto HM.o HB.o);have U:Hid (Bk (stR w9 b0 r9 s9) c1 50 #[.int .u64 d1,.int .u64 d2]/\c1< (stR w9 b0 r9 s9).heap.size):=⟨vz t.o H,by rw[fP];exact j.o⟩
 have V:Hid (Bk (stR w9 b0 r9 s9) c2 50 #[.int .u64 e1,.int .u64 e2]/\c2< (stR w9 b0 r9 s9).heap.size):=⟨vz K.o an,by rw[fP];exact A.o⟩
 obtain⟨W9,ap⟩:=NX9 (stR w9 b0 r9 s9)
 rw[ap]at B U V ⊢;clear ap x g t j K A HM HB i v0 v1 v2 v3 v4 v5 v6 f0 f1 f2 f3 f4 f5 f6;have hn:=B.o.n;simp only[rpC]at hn;obtain⟨⟨v0,v1,v2,v3⟩,v4,v5,v6⟩:=hn.seven;have HC:=ah (awK (w:=W9) (s:=s9) ba B.o.m ai);unfold lD at HC;simp only[rpV,rpC]at HC;clear hn;go_wp2_with fail;refine HC.o.mono ?_;rintro e W ⟨k,aq,ar,a,rfl,hm,hb⟩;simp only[aq,ar];obtain⟨Wa,G⟩:=NX9 (W.alloc (.cells #[.int .i64 k.d.sz,.slice a.d.a1 k.d.ss.length a.d.c1,.slice a.d.a2 k.d.pn.length a.d.c2,.int .i64 k.d.lf,.slice a.pA 0 a.pc,.slice a.rA k.rs.length a.rc,.slice a.lA 3 a.lc] 35))
 have C:Below W9.heap.size W9 Wa:=hb.trans (by rw[<-G];exact(af _ W).alloc hb.size _);have X:=(B.o.up C).n;have bd:=ah (B.o.up C).bl;obtain⟨g0,g1,_,_⟩:=(U.o.1.below C U.o.2).two;obtain⟨q0,q1,_,_⟩:=(V.o.1.below C V.o.2).two;have Y:Bk Wa W.heap.size 35 #[.int .i64 k.d.sz,.slice a.d.a1 k.d.ss.length a.d.c1,.slice a.d.a2 k.d.pn.length a.d.c2,.int .i64 k.d.lf,.slice a.pA 0 a.pc,.slice a.rA k.rs.length a.rc,.slice a.lA 3 a.lc]:=by rw[<-G];exact Bk.new _ _ _
 have au:=ah G;clear G C hm hb aq ar HC v0 v1 v2 v3 v4 v5 v6
 go_upto_region 7 with fail
 rw[au.o];simp only[rpC,bb.o]at X;have v4:=X.cell 4;have y4:=Y.cell 4;have y6:=Y.cell 6;simp at v4 y4 y6;have bf: (d1 == e1 && d2 == e2)=false:=by
  rw[Bool.eq_false_iff];intro h;simp only[Bool.and_eq_true,beq_iff_eq]at h;exact neC (by rw[<-aD.o,<-am.o,h.1,h.2])
 clear X Y au;go_wp2_with fail;go_ret
 exact⟨rfl,bd.o⟩
end
abbrev RS:=M5×Bool
def qN(s:RS):Nat×RS:=((ay s.1).1,s.1.drop (ay s.1).2.1,s.2 || decide ((ay s.1).2.2≠0))
def qT(s:RS):M5×RS:=((aK s.1).1,s.1.drop (aK s.1).2.1,s.2 || decide ((aK s.1).2.2≠0))
def qD(s:RS):Dig×RS:=if s.1.length<16 then(zD,s.1,true) else(dg s.1,s.1.drop 16,s.2)
def qE(s:RS):Ent×RS :=
 (⟨ofL (qT s).1,decide ((qN (qT s).2).1=1),(qD ((qN (qT s).2).2.1,(qN (qT s).2).2.2 || decide (1< (qN (qT s).2).1))).1⟩,(qD ((qN (qT s).2).2.1,(qN (qT s).2).2.2 || decide (1< (qN (qT s).2).1))).2)
def qL{α:Type}(g:RS->α×RS):Nat->RS->List α×RS
 | 0,s=>([],s)
 | n+1,s=>if s.2=true then([],s) else((g s).1:: (qL g n (g s).2).1,(qL g n (g s).2).2)
def qLs{α:Type}(g:RS->α×RS)(most:Nat)(s:RS):List α×RS:=qL g (qN s).1 ((qN s).2.1,(qN s).2.2 || decide (most< (qN s).1))
def qC(s:RS):Ob×RS :=
 (⟨3,⟨#[]⟩,[],(qD s).1,(qLs qD 8 (qD s).2).1,ofL (qT (qLs qD 8 (qD s).2).2).1,((qN (qT (qLs qD 8 (qD s).2).2).2).1:Nat),ofL (qT (qN (qT (qLs qD 8 (qD s).2).2).2).2).1⟩,(qT (qN (qT (qLs qD 8 (qD s).2).2).2).2).2)
def qO(b:M5):Ob×RS :=
 if(qN (b,false)).1=1∨ (qN (b,false)).1=4 then(⟨((qN (b,false)).1:Nat),ofL (qT (qN (b,false)).2).1,[],zD,[],⟨#[]⟩,0,⟨#[]⟩⟩,(qT (qN (b,false)).2).2)
 else if(qN (b,false)).1=2 then(⟨2,⟨#[]⟩,(qLs qE 200 (qN (b,false)).2).1,zD,[],⟨#[]⟩,0,⟨#[]⟩⟩,(qLs qE 200 (qN (b,false)).2).2)
 else if(qN (b,false)).1=3 then qC (qN (b,false)).2
 else(⟨((qN (b,false)).1:Nat),⟨#[]⟩,[],zD,[],⟨#[]⟩,0,⟨#[]⟩⟩,(qN (b,false)).2)
theorem kZ{s:RS}{n:Nat}{r:M5}(h:qN s= (n,r,false)):s= (aj n++r,false)/\n<=1099511627776:=by
 obtain⟨b,a⟩:=s;unfold qN at h;simp only[Prod.mk.injEq,Bool.or_eq_false_iff,decide_eq_false_iff_not,Decidable.not_not]at h;obtain⟨h1,h2,h3,h4⟩:=h;generalize hg:ay b=g at *;obtain⟨x,k,e⟩:=g;simp only at h1 h2 h4;subst h1 h4;obtain⟨r',rfl,rfl,hm⟩:=pI hg;rw[List.drop_left]at h2;subst h2 h3;exact⟨rfl,hm⟩
theorem jv{s:RS}{t r:M5}(h:qT s= (t,r,false)):s= (ak t++r,false)/\t.length<=65536:=by
 obtain⟨b,a⟩:=s;unfold qT at h;simp only[Prod.mk.injEq,Bool.or_eq_false_iff,decide_eq_false_iff_not,Decidable.not_not]at h;obtain⟨h1,h2,h3,h4⟩:=h;generalize hg:aK b=g at *;obtain⟨x,k,e⟩:=g;simp only at h1 h2 h4;subst h1 h4;obtain⟨r',rfl,rfl,hm⟩:=zN hg;rw[List.drop_left]at h2;subst h2 h3;exact⟨rfl,hm⟩
theorem kY{s:RS}{d:Dig}{r:M5}(h:qD s= (d,r,false)):s= (ax d++r,false)/\WfD d:=by
 obtain⟨b,a⟩:=s;unfold qD at h;simp only at h;split at h
 . simp at h
 . rename_i hl
   simp only[Prod.mk.injEq]at h;obtain⟨rfl,rfl,rfl⟩:=h;rw[Kb (by omega),List.take_append_drop];exact⟨rfl,LY _⟩
theorem vg{s:RS}{e:Ent}{r:M5}(h:qE s= (e,r,false)):s= (aQ e++r,false)/\WfD e.dg:=by
 unfold qE at h;simp only[Prod.mk.injEq]at h;obtain⟨rfl,h⟩:=h;obtain⟨x1,h1⟩:=NX9 (qT s)
 rw[h1]at h ⊢;obtain⟨x2,h2⟩:=NX9 (qN x1.2)
 rw[h2]at h ⊢;obtain⟨x3,h3⟩:=NX9 (qD (x2.2.1,x2.2.2 || decide (1<x2.1)))
 rw[h3]at h ⊢;obtain⟨d3,r3,b3⟩:=x3;simp only[Prod.mk.injEq]at h;obtain⟨rfl,rfl⟩:=h;obtain⟨e3,hw⟩:=kY h3;obtain⟨n2,r2,b2⟩:=x2;simp only[Prod.mk.injEq,Bool.or_eq_false_iff,decide_eq_false_iff_not,Nat.not_lt]at e3;obtain⟨rfl,rfl,hn⟩:=e3;obtain⟨e2,_⟩:=kZ h2;obtain⟨t1,r1,b1⟩:=x1;simp only[Prod.mk.injEq]at e2;obtain⟨rfl,rfl⟩:=e2;obtain⟨e1,_⟩:=jv h1;refine⟨?_,hw⟩;rw[e1];unfold aQ;simp only[bP,decide_eq_true_eq,Z4];rw[show(if n2=1 then 1 else 0)=n2 by split <;> omega]
theorem Cx{α:Type}{g:RS->α×RS}{enc:α->M5}{P:α->Prop}(hg:∀s x r,g s= (x,r,false)->s= (enc x++r,false)/\P x):∀(n:Nat)(s:RS)(l:List α)(r:M5),qL g n s= (l,r,false)->s= (l.flatMap enc++r,false)/\l.length=n/\∀x∈l,P x
 | 0,s,l,r,h=>by
   simp only[qL,Prod.mk.injEq]at h;obtain⟨rfl,rfl⟩:=h;simp
 | n+1,s,l,r,h=>by
   rw[qL]at h;split at h
   . rename_i hb
     simp only[Prod.mk.injEq]at h;obtain⟨_,rfl⟩:=h;cases hb
   . simp only[Prod.mk.injEq]at h
     obtain⟨rfl,h⟩:=h;obtain⟨x,hx⟩:=NX9 (g s)
     rw[hx]at h ⊢;obtain⟨i1,i2,i3⟩:=Cx hg n x.2 (qL g n x.2).1 r (Prod.ext rfl h);obtain⟨l',hl'⟩:=NX9 ((qL g n x.2).1)
     rw[hl']at i1 i2 i3 ⊢;obtain⟨a,b⟩:=x;simp only at i1 i2 i3 ⊢;subst i1;obtain⟨j1,j2⟩:=hg s a _ hx;refine⟨by rw[j1,List.flatMap_cons,Z4],by rw[Z5,i2],fun y hy=>?_⟩;rcases List.mem_cons.1 hy with rfl | hy
     . exact j2
     . exact i3 y hy
theorem pQ{α:Type}{g:RS->α×RS}{enc:α->M5}{P:α->Prop}(hg:∀s x r,g s= (x,r,false)->s= (enc x++r,false)/\P x){most:Nat}{s:RS}{l:List α}{r:M5}(h:qLs g most s= (l,r,false)):s= (aj l.length++ (l.flatMap enc++r),false)/\l.length<=most/\∀x∈l,P x:=by
 unfold qLs at h;obtain⟨x,hx⟩:=NX9 (qN s)
 rw[hx]at h;obtain⟨h1,h2,h3⟩:=Cx hg _ _ _ _ h;obtain⟨n,r',b⟩:=x;simp only[Prod.mk.injEq,Bool.or_eq_false_iff,decide_eq_false_iff_not,Nat.not_lt]at h1 h2;obtain⟨rfl,rfl,h4⟩:=h1;subst h2;exact⟨(kZ hx).1,h4,h3⟩
theorem LC{b:M5}{o:Ob}(h:qO b= (o,[],false))(ho:OkF o):b=aG o:=by
 unfold qO at h;obtain⟨x,hx⟩:=NX9 (qN (b,false))
 rw[hx]at h;obtain⟨k,st⟩:=x;simp only at h;have a:∀{r:M5},st= (r,false)->k=o.kind.toNat->fF o=r->b=aG o:=by
  rintro r rfl rfl rfl;obtain⟨e,_⟩:=kZ hx;simp only[Prod.mk.injEq,and_true]at e;exact e
 split at h
 . rename_i hk
   simp only[Prod.mk.injEq]at h;obtain⟨rfl,h⟩:=h;obtain⟨e,_⟩:=jv (s:=st) (t:=(qT st).1) (r:= []) (Prod.ext rfl h);rw[List.append_nil]at e;exact a e rfl (by unfold fF;simp only;rw[if_neg (by omega),if_neg (by omega),bP])
 . split at h
   . rename_i hk
     simp only[Prod.mk.injEq]at h;obtain⟨rfl,h⟩:=h;obtain⟨e,_,_⟩:=pQ (enc:=aQ) (P:=fun e=>WfD e.dg) (fun s x r h=>vg h) (s:=st) (l:=(qLs qE 200 st).1) (r:= []) (Prod.ext rfl h);rw[List.append_nil]at e;exact a e hk (by unfold fF;simp only[if_true])
   . split at h
     . rename_i hk
       unfold qC at h;simp only[Prod.mk.injEq]at h;obtain⟨rfl,h⟩:=h;obtain⟨x1,h1⟩:=NX9 (qD st)
       rw[h1]at h ho a ⊢;obtain⟨x2,h2⟩:=NX9 (qLs qD 8 x1.2)
       rw[h2]at h ho a ⊢;obtain⟨x3,h3⟩:=NX9 (qT x2.2)
       rw[h3]at h ho a ⊢;obtain⟨x4,h4⟩:=NX9 (qN x3.2)
       rw[h4]at h ho a ⊢;obtain⟨e5,_⟩:=jv (s:=x4.2) (t:=(qT x4.2).1) (r:= []) (Prod.ext rfl h);obtain⟨n4,s4⟩:=x4;simp only at e5 h ho a ⊢;rw[List.append_nil]at e5;obtain⟨t5,c⟩:=NX9 ((qT s4).1)
       rw[c]at e5 ho a ⊢;subst e5;obtain⟨e4,_⟩:=kZ h4;obtain⟨t3,s3⟩:=x3;simp only at e4 h ho a ⊢;subst e4;obtain⟨e3,_⟩:=jv h3;obtain⟨l2,s2⟩:=x2;simp only at e3 h ho a ⊢;subst e3;obtain⟨e2,_,_⟩:=pQ (enc:=ax) (P:=WfD) (fun s x r h=>kY h) h2;obtain⟨d1,s1⟩:=x1;simp only at e2 h ho a ⊢;subst e2;obtain⟨e1,_⟩:=kY h1;exact a e1 hk (by unfold fF;simp only[if_true,bP,Int.toNat_natCast];rw[if_neg (by omega)])
     . simp only[Prod.mk.injEq]at h
       obtain⟨rfl,_⟩:=h;have:=ho.kind_le;simp only at this;omega
