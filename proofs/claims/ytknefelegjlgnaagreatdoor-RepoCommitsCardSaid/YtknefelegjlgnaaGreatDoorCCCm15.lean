/-Lemmas.-/
import Derived.Test.YtknefelegjlgnaaGreatDoorCCCm14
set_option maxRecDepth 100000
set_option maxHeartbeats 8000000
namespace Go.Proofs.YtknefelegjlgnaaGreatDoor
open Go.RowKit
def zDk:Dk:=⟨0,[],[],0⟩
def dG(d:Dk)(a u:Nat)(l:List VD):Dk×Int :=
 if ¬fC l=true then(zDk,4) else if hf d.ss - u< (secs d.sz (aB l)).length then(zDk,19) else aJ d (fM d.sz d.ss a u (secs d.sz (aB l)))
theorem qJ(w:VA):DkM w w.heap.size zDk ⟨none,0,none,0⟩:=⟨Sl.nil _ _ _ _,Sl.nil _ _ _ _⟩
theorem LX(d:Dk)(s:Dsl)(B a u:Nat)(rs l:List VD)(A:OA)(n c B2:Nat)(w:VA)(hd:d.Ok)(hpn:d.pn= [])(hj:Jn d.sz d.ss a rs u)(hm:DkM w B d s)(hB:B<=w.heap.size)
  (hs:Sl w B2 1 A n (flat aF l)) (hB2:B2<=w.heap.size) (hn:n<=maxLen) (hl0:l≠ []) :
  Calls Tryz.prog 77 #[dkV d s,.slice A n c] w (bG (dG d a u l).1 (dG d a u l).2 w):=by
 obtain⟨W,hW⟩:=NX9 ((w.alloc (.cells (dkC d s) 25)).alloc (.cells #[.int .i64 0,.slice none 0 0,.slice none 0 0,.int .i64 0] 25))
 have HB0:VF w W:=by rw[<-hW];exact((ah _ w).alloc aj _).alloc (by simp) _
 have HK:Hid (Bk W w.heap.size 25 (dkC d s)):=by rw[<-hW];exact(Bk.new w _ _).alloc _
 have HZ:Hid (Bk W (w.heap.size+1) 25 #[.int .i64 0,.slice none 0 0,.slice none 0 0,.int .i64 0]):=by
  rw[<-hW];have:=Bk.new (w.alloc (.cells (dkC d s) 25)) 25 #[.int .i64 0,.slice none 0 0,.slice none 0 0,.int .i64 0]
  rwa[Z9]at this
 have zW:W.heap.size=w.heap.size+2:=by rw[<-hW];simp
 have HM:Hid (DkM W B d s):=hm.below HB0.o hB;have HO:=ai (xh d s B a u rs W hd hpn hj HM.o (by omega));have HE:=ai (fun w' (hb:VE W w')=>AA A n c B2 d.sz l w' (hs.below (HB0.o.trans (hb.mono (by omega))) hB2) (by have:=hb.size;omega) hn hd.sz0 hd.sz1);have bf:=ai (fun w'=>oZ d s a w' (by have:=hj.n3;omega) hd.n1 hj.act);have L:=ai (fun w'=>sK d s w' (by have:=hj.n3;omega) hd.n1);have HR1:Hid (¬fC l=true->∀e w',bG zDk 4 w e w'->bG (dG d a u l).1 (dG d a u l).2 w e w'):=fun h e w' hh=>by rw[dG,if_pos h];exact hh
 have HR2:Hid (fC l=true->hf d.ss - u< (secs d.sz (aB l)).length->∀e w',bG zDk 19 w e w'->bG (dG d a u l).1 (dG d a u l).2 w e w'):=fun h h2 e w' hh=>by rw[dG,if_neg (by simp[h]),if_pos h2];exact hh
 have HR3:Hid (fC l=true->¬hf d.ss - u< (secs d.sz (aB l)).length->∀e w',bG (aJ d (fM d.sz d.ss a u (secs d.sz (aB l)))).1 (aJ d (fM d.sz d.ss a u (secs d.sz (aB l)))).2 w e w'->bG (dG d a u l).1 (dG d a u l).2 w e w'):=fun h h2 e w' hh=>by rw[dG,if_neg (by simp[h]),if_neg h2];exact hh
 have zf:=hj.u_le;have HD:=ai hd;have HJ:=ai hj;have HW:=ai hW;have zk:=ai hl0;have zo:=ai hpn;generalize bG (dG d a u l).1 (dG d a u l).2 w=RR at *;clear hd hj hm hs hl0 hW hpn;obtain⟨ns,hns⟩:=NX9 d.ss.length
 obtain⟨np,bg⟩:=NX9 d.pn.length
 have M:=ai hns;have zt:=ai bg;simp only[dkV,dkC,hns,bg]at HO bf L HK HW ⊢;clear hns bg;obtain⟨k0,k1,k2,k3⟩:=HK.o.dk4;obtain⟨z0,z1,z2,z3⟩:=HZ.o.dk4
 go_enter Tryz.func77,Tryz.ntmps77
 go_wp2_with fail;rw[HW.o];refine HO.o.mono ?_;rintro e w1 ⟨A1,c1,rfl,hs1,hc1,hc2,hb1⟩;obtain⟨W2,hW2⟩:=NX9 (w1.alloc (.cells #[.int .i64 a,.slice A1 rs.length c1,.int .i64 u] 142))
 have HB2:VF W W2:=by rw[<-hW2];exact hb1.alloc hb1.size _
 have HC2:Hid (Bk W2 w1.heap.size 142 #[.int .i64 a,.slice A1 rs.length c1,.int .i64 u]):=by rw[<-hW2];exact Bk.new w1 _ _
 have Vm:=hb1.size;have Vo:W2.heap.size=w1.heap.size+1:=by rw[<-hW2];simp
 have bn:Hid (Bk W2 w.heap.size 25 #[.int .i64 d.sz,.slice s.a1 ns s.c1,.slice s.a2 np s.c2,.int .i64 d.lf]):=HK.o.below HB2.o (by omega);have HZ2:Hid (Bk W2 (w.heap.size+1) 25 #[.int .i64 0,.slice none 0 0,.slice none 0 0,.int .i64 0]):=HZ.o.below HB2.o (by omega);obtain⟨q0,q1,q2,q3⟩:=bn.o.dk4;have HW2:=ai hW2;rw[<-hW2]at q0 q1 q2 q3;clear hs1 hc1 hc2 hb1 hW2 HO k0 k1 k2 k3 z0 z1 z2 z3;go_wp2_with fail;rw[HW2.o];refine(HE.o _ HB2.o).mono ?_;rintro e w3 ⟨hb3,h3⟩;have HB3:VF W w3:=HB2.o.trans (hb3.mono (by omega));have D:=ai (bn.o.below hb3 bn.o.lt);have HZ3:=ai (HZ2.o.below hb3 HZ2.o.lt);have E:=ai (HC2.o.below hb3 HC2.o.lt);have Vp:=hb3.size;obtain⟨q0,q1,q2,q3⟩:=D.o.dk4;obtain⟨z0,z1,z2,z3⟩:=HZ3.o.dk4;obtain⟨f0,f1,f2,f3⟩:=fr4 HZ3.o;obtain⟨g0,g1,g2⟩:=E.o.three;clear hb3;by_cases hf:fC l=true
 . rw[if_pos ⟨hf,zk.o⟩]at h3
   obtain⟨A3,c3,rfl,ho3,hcc,hcm⟩:=h3;have bz:=ai ho3;have gu:=ai hcc;have HCM:=ai hcm;have HF:=ai hf;have hsf:SecF d.sz l (secs d.sz (aB l)):=⟨fitB_iff.1 hf,rfl⟩
   obtain⟨S,hS⟩:=NX9 (secs d.sz (aB l))
   rw[hS]at hsf ho3 bz gu;have Vq:=ai hS;rw[hS]at HR2 HR3 ⊢;obtain⟨t,S1,cu,htl⟩:=hsf.cons HD.o.sz0;obtain⟨m,hm⟩:=NX9 S.length
   have hm1:0<m:=by rw[<-hm,cu];simp
   rw[hm]at ho3 bz gu HR2 HR3 ⊢;have zx:=ai hm;obtain⟨gb,rfl⟩:∃gb,A3=some ⟨gb,0,none⟩:=by
    rcases ho3.2 with ⟨_,h⟩ | ⟨g,cap,cur,hv,_⟩
    . omega
    . cases hv;exact⟨g,rfl⟩
   have zT:=ai hsf;have cO:=ai cu;have zX:=ai htl;have Vr:¬((m:Int)=0):=by omega
   obtain⟨h,hh⟩:=NX9 (Go.Proofs.YtknefelegjlgnaaGreatDoor.hf d.ss)
   rw[hh]at HR2 HR3 L zf;have Vf:m<=65600000:=by rw[<-hm,<-hS];exact ZY (BH HD.o.sz0 _) (by have:=pR (fitB_iff.1 hf);have:=fK (n:=(bY l).length) (by omega);simp only[aB,Z4,af];omega)
   have Vj:h<=1000:=by rw[<-hh];unfold Go.Proofs.YtknefelegjlgnaaGreatDoor.hf;have:=M.o;have:=HD.o.n1;omega
   have dn:=ai hh;clear ho3 hcc hcm hsf hS cu htl hm hh hf;go_wp2_with fail
   go_region_held3 (fun w'=>w'.cell? ⟨w.heap.size,0,none⟩=some (.int .i64 d.sz)/\w'.cell? ⟨w.heap.size,1,none⟩=some (.slice s.a1 ns s.c1)/\w'.cell? ⟨w.heap.size,2,none⟩=some (.slice s.a2 np s.c2)/\w'.cell? ⟨w.heap.size,3,none⟩=some (.int .i64 d.lf)/\w'.cell? ⟨w1.heap.size,2,none⟩=some (.int .i64 u))
    (first | exact⟨q0,q1,q2,q3,g2⟩ | exact⟨m0.o,m1.o,m2.o,m3.o,m4.o⟩)
    (first
      | (go_at_call 110;refine(L.o _).mono ?_;rintro e w4 ⟨rfl,hb4⟩
         have HB4:VF w3 w4:=((ah _ w3).drew).trans hb4;obtain⟨u0,u1,u2,u3⟩:=(D.o.below HB4.o D.o.lt).dk4;obtain⟨_,_,u4⟩:=(E.o.below HB4.o E.o.lt).three;have m0:=ai u0;have m1:=ai u1;have m2:=ai u2;have m3:=ai u3;have m4:=ai u4;clear hb4 u0 u1 u2 u3 u4))
   clear q0 q1 q2 q3 g0 g1 g2 f0 f1 f2 f3 z0 z1 z2 z3 m0 m1 m2 m3 m4;have Vs:=HB4.o.size;have N:VF W w4:=HB3.o.trans (HB4.o.mono (by omega));have dN:=ai (D.o.below HB4.o D.o.lt);have F:=ai (HZ3.o.below HB4.o HZ3.o.lt);have ed:=ai (E.o.below HB4.o E.o.lt);have Aj:Hid (w4.ownsRow W2.heap.size 9 1 (.slice (some ⟨gb,0,none⟩) m c3) m (flat aF S)):=gQ bz.o HB4.o;obtain⟨q0,q1,q2,q3⟩:=dN.o.dk4;obtain⟨z0,z1,z2,z3⟩:=F.o.dk4;obtain⟨f0,f1,f2,f3⟩:=fr4 F.o;obtain⟨g0,g1,g2⟩:=ed.o.three;have hwr:IntKind.i64.wrap ((h:Int) - (u:Int))= (h:Int) - (u:Int):=by rw[IntKind.wrap_i64];omega
   by_cases hfull:h - u<m
   . have Ak: (h:Int) - (u:Int)< (m:Int):=by omega
     have fA:=ai hfull;clear hfull;go_wp2_with fail;refine ZW (gU Tryz.results77 rfl (F.o.set4 _ _ _ _) rfl) rfl ?_;exact HR2.o HF.o fA.o _ _ ⟨⟨none,0,none,0⟩,rfl,qJ _,eu (HB0.o.trans (N.o.mono (by omega))) (by omega) _ _ _ _⟩
   . have Ak:¬(h:Int) - (u:Int)< (m:Int):=by omega
     have fA:=ai hfull;clear hfull HR2;obtain⟨st,hst⟩:=NX9 (aG d.ss a)
     rw[hst]at bf;have hfa:=iO (ss:=d.ss) HJ.o.act HJ.o.n3;rw[hst,dn.o,M.o]at hfa;have hns:=HD.o.n1;rw[M.o]at hns;have HST:=ai hst;clear hst;go_wp2_with fail;refine(bf.o _).mono ?_;rintro e w5 ⟨rfl,hb5⟩;have Vt:=hb5.size;have iU:VF W w5:=N.o.trans (hb5.mono (by omega));have ku:=ai (dN.o.below hb5 dN.o.lt);have Aq:=ai (F.o.below hb5 F.o.lt);have Au:=ai (ed.o.below hb5 ed.o.lt);have kU:Hid (w5.ownsRow W2.heap.size 9 1 (.slice (some ⟨gb,0,none⟩) m c3) m (flat aF S)):=gQ Aj.o hb5;obtain⟨hgb,cur,k,lg⟩:=qB kU.o;obtain⟨fs,hfs⟩:=NX9 (ofL (1::t))
     have hS0:S[0]? =some (1::t):=by rw[cO.o];rfl
     have x0:w5.cell? ⟨gb,0,none⟩=some (.string fs):=by
      rw[k.cell,lg 0 _ (by have:=iJ (enc:=aF) dJ S 0 0 _ hS0 (by omega);simpa [aF] using this),hfs]
     have xf:=k.free 0;have hfz:fs.size=t.length+1:=by rw[<-hfs,bU];rfl
     have hfz1: (1:Int)<= (fs.size:Int):=by omega
     have HF2:Hid ((⟨#[0]⟩:VB)++fs.extract 1 fs.size=ofL (0::t)):=by
      show _=_;have h1:fs.extract 1 fs.size=ofL t:=by rw[<-hfs,<-jd ((ofL (1::t)).extract 1 (ofL (1::t)).size),pY,dE];rfl
      rw[h1,show(⟨#[0]⟩:VB)=ofL [0] from rfl,qo];rfl
     have Vk:t.length<=512:=by have:=zX.o;have:=HD.o.sz1;rw[Z4]at *;omega
     have hbig:¬(9223372036854775807<1+t.length):=by omega
     have AP:=ai hfs;rw[hfz]at HF2;obtain⟨Vu,G⟩:=NX9 ((⟨#[0]⟩:VB)++fs.extract 1 (t.length+1))
     rw[G]at HF2;have lq:=ai G;have hgl:=k.lt;clear hb5 k lg hfs hS0 q0 q1 q2 q3 z0 z1 z2 z3 f0 f1 f2 f3 g0 g1 g2 G;obtain⟨q0,q1,q2,q3⟩:=ku.o.dk4;obtain⟨g0,g1,g2⟩:=Au.o.three;go_wp2_with fail;rw[lq.o,HF2.o];obtain⟨w6,hw6⟩:=NX9 (w5.setCell ⟨gb,0,none⟩ (.string (ofL (0::t))))
     have O:VF W w6:=by rw[<-hw6];exact iU.o.setCell (p:=⟨gb,0,none⟩) (by show W.heap.size<=gb;omega) _
     have Vw:w6.heap.size=w5.heap.size:=by rw[<-hw6];simp
     have j:Hid (Bk w6 w.heap.size 25 #[.int .i64 d.sz,.slice s.a1 ns s.c1,.slice s.a2 np s.c2,.int .i64 d.lf]):=by rw[<-hw6];exact ku.o.far (p:=⟨gb,0,none⟩) (by show w.heap.size≠gb;omega) _
     have nz:Hid (Bk w6 (w.heap.size+1) 25 #[.int .i64 0,.slice none 0 0,.slice none 0 0,.int .i64 0]):=by rw[<-hw6];exact Aq.o.far (p:=⟨gb,0,none⟩) (by show w.heap.size+1≠gb;omega) _
     have BB:Hid (w6.ownsRow W2.heap.size 9 1 (.slice (some ⟨gb,0,none⟩) m c3) m (flat aF (jw S))):=by
      have h:=vH (i:=0) kU.o (.string (ofL (0::t)));rw[AZ]at h;have e:jw S=S.set 0 (0::t):=by rw[cO.o];rfl
      rw[<-hw6,e];exact h
     rw[hw6];clear hw6 x0 xf hbig hfz hfz1 q0 q1 q2 q3 g0 g1 g2;obtain⟨q0,q1,q2,q3⟩:=j.o.dk4;have nO:=ai (fun w' (hb:VE w6 w')=>EP (st+u) (st+h) d.sz (some ⟨gb,0,none⟩) m c3 w6.heap.size (jw S) w' ((Sl.of_own BB.o).below hb aj) hb.size (by omega) (by omega) HD.o.sz1);rw[Int.natCast_add,Int.natCast_add]at nO;have Vl:IntKind.i64.wrap ((st:Int)+ (h:Int))= (st:Int)+ (h:Int):=by rw[IntKind.wrap_i64];omega
     go_region_held3 (fun w'=>w'.cell? ⟨w.heap.size,0,none⟩=some (.int .i64 d.sz)/\w'.cell? ⟨w.heap.size,1,none⟩=some (.slice s.a1 ns s.c1)/\w'.cell? ⟨w.heap.size,2,none⟩=some (.slice s.a2 np s.c2)/\w'.cell? ⟨w.heap.size,3,none⟩=some (.int .i64 d.lf))
      (first | exact⟨q0,q1,q2,q3⟩ | exact⟨m0.o,m1.o,m2.o,m3.o⟩ | exact⟨n0.o,n1.o,n2.o,n3.o⟩)
      (first
        | (go_at_call 110;refine(L.o _).mono ?_;rintro e w7 ⟨rfl,hb7⟩
           have H:VF w6 w7:=((ah _ w6).drew).trans hb7;obtain⟨u0,u1,u2,u3⟩:=(j.o.below H.o j.o.lt).dk4;have m0:=ai u0;have m1:=ai u1;have m2:=ai u2;have m3:=ai u3;clear hb7 u0 u1 u2 u3)
        | (go_at_call 111;refine(nO.o _ H.o).mono ?_;rintro e w8 ⟨A8,n8,c8,vs,rfl,nU,hb8,oO,hc8,oU⟩
           have C:VF w6 w8:=H.o.trans (hb8.mono H.o.size);obtain⟨u0,u1,u2,u3⟩:=(j.o.below C.o j.o.lt).dk4;have n0:=ai u0;have n1:=ai u1;have n2:=ai u2;have n3:=ai u3;have fO:=ai nU;have fU:=ai oO;have Vx:=ai hc8;have Vy:=ai oU;have z78:=H.o.size;have qc:=hb8.size;clear hb8 nU oO hc8 oU u0 u1 u2 u3))
     obtain⟨HY,hfit⟩:=yG HJ.o zT.o (by rw[zx.o,dn.o];omega);have qx:=ai hfit;have P:Hid ((dL (st+u) (jw S) (st+h) d.sz).map some++ [none,some (st+u,1::t),none]=fM d.sz d.ss a u S):=by
      show _=_;unfold fM;rw[HST.o,dn.o,show S.headD []=1::t by rw[cO.o];rfl]
     have q: ((dL (st+u) (jw S) (st+h) d.sz).map some).length=n8:=fO.o.len;have qA:=ai q;obtain⟨os,hos⟩:=NX9 ((dL (st+u) (jw S) (st+h) d.sz).map some)
     rw[hos]at fO P qA;have Q:=ai (fun w'=>mP (st+u) (1::t) w');rw[AP.o,Int.natCast_add]at Q;have KF:Hid (DkM w8 W.heap.size d s):=(HM.o.more hB |>.more (by omega)).below (O.o.trans (C.o.mono (by omega))) aj;clear hfit q hos n0 n1 n2 n3 m0 m1 m2 m3 q0 q1 q2 q3;obtain⟨i0,hi,R,T,U⟩:=info_parts zB;have Hi:=ai hi;have KR:=ai R;have Nc:=ai T;have PR:=ai U;clear hi R T U;have b:=ai (j.o.below C.o j.o.lt);have UB:=ai (nz.o.below C.o nz.o.lt);obtain⟨q0,q1,q2,q3⟩:=b.o.dk4;have Vz:=C.o.size;have rf:w7.heap.size<=w8.heap.size:=qc;obtain⟨d12,V⟩:=NX9 ((aJ d (fM d.sz d.ss a u S)).1)
     obtain⟨x12,X⟩:=NX9 ((aJ d (fM d.sz d.ss a u S)).2)
     have r:=ai (fun w' A' c' vs' (ho:OpsM w' w'.heap.size A' (n8+3) vs' (fM d.sz d.ss a u S)) (hm:DkM w' w'.heap.size d s)=>yH d s w'.heap.size A' (n8+3) c' vs' (fM d.sz d.ss a u S) w' HD.o hm aj ho qx.o (by rw[zo.o,ho.len];have:=fU.o;simp;omega));unfold bG at r;rw[V,X]at r HR3;simp only[dkV,dkC,M.o,zt.o]at r;clear V X;go_wp2_with fail
     go_region_held3 (fun w'=>w'.cell? ⟨w.heap.size,0,none⟩=some (.int .i64 d.sz)/\w'.cell? ⟨w.heap.size,1,none⟩=some (.slice s.a1 ns s.c1)/\w'.cell? ⟨w.heap.size,2,none⟩=some (.slice s.a2 np s.c2)/\w'.cell? ⟨w.heap.size,3,none⟩=some (.int .i64 d.lf))
      (first | exact⟨y0.o,y1.o,y2.o,y3.o⟩ | exact⟨r0.o,r1.o,r2.o,r3.o⟩ | exact⟨n0.o,n1.o,n2.o,n3.o⟩ | exact⟨t0.o,t1.o,t2.o,t3.o⟩ | exact⟨m0.o,m1.o,m2.o,m3.o⟩ | exact⟨q0,q1,q2,q3⟩)
      (first
        | (go_at_call 98;refine(Q.o _).mono ?_;rintro e w9 ⟨v,rfl,hv,uw⟩;obtain⟨p1,p2,rfl⟩:=hv.fn
           have I:VF w8 w9:=((ah _ w8).drew).trans uw;have HV:=ai hv;have VG:=I.o.size;have hbl:VE w9 (w9.alloc (.cells #[.func (.func 100) #[] #[],.func (.func 169) #[] #[p1,p2],.func (.func 100) #[] #[]] 166)):=(ah _ w9).alloc aj _;have J:Hid (OpsO (w9.alloc (.cells #[.func (.func 100) #[] #[],.func (.func 169) #[] #[p1,p2],.func (.func 100) #[] #[]] 166)) w7.heap.size A8 n8 c8 vs os):=(fO.o.below I.o).below hbl;have uA:=ai hbl;obtain⟨u0,u1,u2,u3⟩:=(b.o.below I.o b.o.lt).dk4;have m0:=ai u0;have m1:=ai u1;have m2:=ai u2;have m3:=ai u3;obtain⟨v0,v1,v2,v3⟩:=((b.o.below I.o b.o.lt).below hbl (by have:=b.o.lt;omega)).dk4;have t0:=ai v0;have t1:=ai v1;have t2:=ai v2;have t3:=ai v3;clear hv uw hbl u0 u1 u2 u3 v0 v1 v2 v3)
        | (go_at_call 97;refine(r.o _ uD c11 _ Y.o.m (KF.o.below f.o (by omega) |>.more (by have:=f.o.size;omega))).mono ?_
           rintro e w12 ⟨s12,rfl,Z,ag⟩;have wo:=ai Z;have y:Hid (Below w7.heap.size w8 w12):=f.o.trans (ag.mono (by have:=f.o.size;omega));have z:=ai (UB.o.below y.o (by omega));obtain⟨e0,e1,e2,e3⟩:=z.o.dk4;obtain⟨u0,u1,u2,u3⟩:=(b.o.below y.o (by omega)).dk4;have r0:=ai u0;have r1:=ai u1;have r2:=ai u2;have r3:=ai u3;have hne1:w.heap.size≠w.heap.size+1:=by omega
           obtain⟨v0,v1,v2,v3⟩:=(((((b.o.below y.o (by omega)).far (p:=⟨w.heap.size+1,0,none⟩) hne1 (.int .i64 d12.sz)).far (p:=⟨w.heap.size+1,1,none⟩) hne1 (.slice s12.a1 d12.ss.length s12.c1)).far (p:=⟨w.heap.size+1,2,none⟩) hne1 (.slice s12.a2 d12.pn.length s12.c2)).far (p:=⟨w.heap.size+1,3,none⟩) hne1 (.int .i64 d12.lf)).dk4;have y0:=ai v0;have y1:=ai v1;have y2:=ai v2;have y3:=ai v3;clear u0 u1 u2 u3 v0 v1 v2 v3;obtain⟨f0,f1,f2,f3⟩:=fr4 z.o;clear Z ag)
        | (refine AQ (by rfl) (.tmp 72) (.tmp 76) 169 (by rfl) w7.heap.size 166 i0 _ 1 8 Tryz.underlying169 Hi.o KR.o Nc.o PR.o rfl (by decide) (.slice A8 n8 c8) n8 vs (by rfl) J.o.own (w9.heap.size+1) (some ⟨w9.heap.size,0,none⟩) 3 3 [.func (.func 100) #[] #[],.func (.func 169) #[] #[p1,p2],.func (.func 100) #[] #[]] (by rfl) (Sl.new w9 _ _ 3 rfl) (fun x hx=>by simp at hx;rcases hx with rfl | rfl | rfl <;> rfl) (by have:=fU.o;unfold maxLen;omega) (by have:=fU.o;omega) (by simp;omega) ?_
           intro uD c11 wz au K xe xn;have Y:Hid (OpsO wz w7.heap.size uD (n8+3) c11 (vs++ [.func (.func 100) #[] #[],.func (.func 169) #[] #[p1,p2],.func (.func 100) #[] #[]]) (os++ [none,some (st+u,1::t),none])):=J.o.app rfl (fun i x o hx ho=>by
            match i,hx,ho with
            | 0,hx,ho=>cases hx;cases ho;rfl
            | 1,hx,ho=>cases hx;cases ho;exact(HV.o.below uA.o aj).more (by simp)
            | 2,hx,ho=>cases hx;cases ho;rfl) au K
           rw[P.o]at Y;have f:Hid (Below w7.heap.size w8 wz):=(((I.o.trans (uA.o.mono (by omega))).mono rf).grown K (by simp;omega) (fun g hg=>jF J.o.own g hg))
           obtain⟨u0,u1,u2,u3⟩:=(b.o.below f.o (by omega)).dk4;have n0:=ai u0;have n1:=ai u1;have n2:=ai u2;have n3:=ai u3;clear u0 u1 u2 u3 au K xe xn))
     go_wp2_with fail;refine ZW (gU Tryz.results77 rfl (z.o.set4 _ _ _ _) rfl) rfl ?_;exact HR3.o HF.o fA.o _ _ ⟨s12,rfl,(wo.o.box z.o _ _ _ _).more (by simp),eu (HB0.o.trans ((O.o.trans ((C.o.mono (by omega)).trans (y.o.mono (by omega)))).mono (by omega))) (by omega) _ _ _ _⟩
 . rw[if_neg (fun h=>hf h.1)]at h3
   have xA: (gm l).2=4:=by rw[gm,if_neg hf]
   rw[xA]at h3;subst h3;have HF:=ai hf;clear hf xA
   go_wp2
   refine ZW (gU Tryz.results77 rfl (HZ3.o.set4 _ _ _ _) rfl) rfl ?_;exact HR1.o HF.o _ _ ⟨⟨none,0,none,0⟩,rfl,qJ _,eu (HB0.o.trans (HB3.o.mono (by omega))) (by omega) _ _ _ _⟩
def dV(d:Dk)(a:Nat)(l:List VD):Dk×Int :=
 if ¬fC l=true then(zDk,4) else if hf d.ss< (secs d.sz (aB l)).length then(zDk,19) else aJ d (gB d.sz d.ss a (secs d.sz (aB l)))
theorem KL(d:Dk)(s:Dsl)(B a u:Nat)(rs l:List VD)(A:OA)(n c B2:Nat)(w:VA)(hd:d.Ok)(hpn:d.pn= [])(hj:Jn d.sz d.ss a rs u)(hm:DkM w B d s)(hB:B<=w.heap.size)
  (hs:Sl w B2 1 A n (flat aF l)) (hB2:B2<=w.heap.size) (hn:n<=maxLen) (hl0:l≠ []) :
  Calls Tryz.prog 49 #[dkV d s,.slice A n c] w (bG (dV d a l).1 (dV d a l).2 w):=by
 obtain⟨W,hW⟩:=NX9 ((w.alloc (.cells (dkC d s) 25)).alloc (.cells #[.int .i64 0,.slice none 0 0,.slice none 0 0,.int .i64 0] 25))
 have HB0:VF w W:=by rw[<-hW];exact((ah _ w).alloc aj _).alloc (by simp) _
 have HK:Hid (Bk W w.heap.size 25 (dkC d s)):=by rw[<-hW];exact(Bk.new w _ _).alloc _
 have HZ:Hid (Bk W (w.heap.size+1) 25 #[.int .i64 0,.slice none 0 0,.slice none 0 0,.int .i64 0]):=by
  rw[<-hW];have:=Bk.new (w.alloc (.cells (dkC d s) 25)) 25 #[.int .i64 0,.slice none 0 0,.slice none 0 0,.int .i64 0]
  rwa[Z9]at this
 have zW:W.heap.size=w.heap.size+2:=by rw[<-hW];simp
 have HM:Hid (DkM W B d s):=hm.below HB0.o hB;have HO:=ai (xh d s B a u rs W hd hpn hj HM.o (by omega));have HE:=ai (fun w' (hb:VE W w')=>AA A n c B2 d.sz l w' (hs.below (HB0.o.trans (hb.mono (by omega))) hB2) (by have:=hb.size;omega) hn hd.sz0 hd.sz1);obtain⟨b,hb,hab⟩:∃b:Nat,3 - a=b/\ (3:Int) - (a:Int)= (b:Int):=⟨3 - a,rfl,by have:=hj.act;omega⟩
 have q:b=1∨b=2:=by have:=hj.act;omega
 have bf:=ai (fun w'=>oZ d s b w' (by have:=hj.n3;omega) hd.n1 q);have xn:=ai hb;clear hb;have K:=ai (fun w'=>sK d s w' (by have:=hj.n3;omega) hd.n1);have HR1:Hid (¬fC l=true->∀e w',bG zDk 4 w e w'->bG (dV d a l).1 (dV d a l).2 w e w'):=fun h e w' hh=>by rw[dV,if_pos h];exact hh
 have HR2:Hid (fC l=true->hf d.ss< (secs d.sz (aB l)).length->∀e w',bG zDk 19 w e w'->bG (dV d a l).1 (dV d a l).2 w e w'):=fun h h2 e w' hh=>by rw[dV,if_neg (by simp[h]),if_pos h2];exact hh
 have HR3:Hid (fC l=true->¬hf d.ss< (secs d.sz (aB l)).length->∀e w',bG (aJ d (gB d.sz d.ss a (secs d.sz (aB l)))).1 (aJ d (gB d.sz d.ss a (secs d.sz (aB l)))).2 w e w'->bG (dV d a l).1 (dV d a l).2 w e w'):=fun h h2 e w' hh=>by rw[dV,if_neg (by simp[h]),if_neg h2];exact hh
 have xA:=hj.u_le;have HD:=ai hd;have HJ:=ai hj;have HW:=ai hW;have zf:=ai hl0;have zk:=ai hpn;generalize bG (dV d a l).1 (dV d a l).2 w=RR at *;clear hd hj hm hs hl0 hW hpn;obtain⟨ns,hns⟩:=NX9 d.ss.length
 obtain⟨np,bg⟩:=NX9 d.pn.length
 have L:=ai hns;have zo:=ai bg;simp only[dkV,dkC,hns,bg]at HO bf K HK HW ⊢;clear hns bg;obtain⟨k0,k1,k2,k3⟩:=HK.o.dk4;obtain⟨z0,z1,z2,z3⟩:=HZ.o.dk4
 go_enter Tryz.func49,Tryz.ntmps49
 go_wp2_with fail;rw[HW.o];refine HO.o.mono ?_;rintro e w1 ⟨A1,c1,rfl,hs1,hc1,hc2,hb1⟩;obtain⟨W2,hW2⟩:=NX9 (w1.alloc (.cells #[.int .i64 a,.slice A1 rs.length c1,.int .i64 u] 142))
 have HB2:VF W W2:=by rw[<-hW2];exact hb1.alloc hb1.size _
 have HC2:Hid (Bk W2 w1.heap.size 142 #[.int .i64 a,.slice A1 rs.length c1,.int .i64 u]):=by rw[<-hW2];exact Bk.new w1 _ _
 have UB:=hb1.size;have Vf:W2.heap.size=w1.heap.size+1:=by rw[<-hW2];simp
 have bn:Hid (Bk W2 w.heap.size 25 #[.int .i64 d.sz,.slice s.a1 ns s.c1,.slice s.a2 np s.c2,.int .i64 d.lf]):=HK.o.below HB2.o (by omega);have HZ2:Hid (Bk W2 (w.heap.size+1) 25 #[.int .i64 0,.slice none 0 0,.slice none 0 0,.int .i64 0]):=HZ.o.below HB2.o (by omega);obtain⟨q0,q1,q2,q3⟩:=bn.o.dk4;have HW2:=ai hW2;rw[<-hW2]at q0 q1 q2 q3;clear hs1 hc1 hc2 hb1 hW2 HO k0 k1 k2 k3 z0 z1 z2 z3;go_wp2_with fail;rw[HW2.o];refine(HE.o _ HB2.o).mono ?_;rintro e w3 ⟨hb3,h3⟩;have HB3:VF W w3:=HB2.o.trans (hb3.mono (by omega));have bz:=ai (bn.o.below hb3 bn.o.lt);have HZ3:=ai (HZ2.o.below hb3 HZ2.o.lt);have cu:=ai (HC2.o.below hb3 HC2.o.lt);have Vj:=hb3.size;obtain⟨q0,q1,q2,q3⟩:=bz.o.dk4;obtain⟨z0,z1,z2,z3⟩:=HZ3.o.dk4;obtain⟨f0,f1,f2,f3⟩:=fr4 HZ3.o;obtain⟨g0,g1,g2⟩:=cu.o.three;clear hb3;by_cases hf:fC l=true
 . rw[if_pos ⟨hf,zf.o⟩]at h3
   obtain⟨A3,c3,rfl,ho3,hcc,hcm⟩:=h3;have cO:=ai ho3;have ku:=ai hcc;have HCM:=ai hcm;have HF:=ai hf;have hsf:SecF d.sz l (secs d.sz (aB l)):=⟨fitB_iff.1 hf,rfl⟩
   obtain⟨S,hS⟩:=NX9 (secs d.sz (aB l))
   rw[hS]at hsf ho3 cO ku;have Vk:=ai hS;rw[hS]at HR2 HR3 ⊢;obtain⟨t,S1,dn,htl⟩:=hsf.cons HD.o.sz0;obtain⟨m,hm⟩:=NX9 S.length
   have hm1:0<m:=by rw[<-hm,dn];simp
   rw[hm]at ho3 cO ku HR2 HR3 ⊢;have zt:=ai hm;obtain⟨gb,rfl⟩:∃gb,A3=some ⟨gb,0,none⟩:=by
    rcases ho3.2 with ⟨_,h⟩ | ⟨g,cap,cur,hv,_⟩
    . omega
    . cases hv;exact⟨g,rfl⟩
   have zx:=ai hsf;have Vl:=ai dn;have Vm:=ai htl;have Vo:¬((m:Int)=0):=by omega
   obtain⟨h,hh⟩:=NX9 (Go.Proofs.YtknefelegjlgnaaGreatDoor.hf d.ss)
   rw[hh]at HR2 HR3 K xA;have KR:m<=65600000:=by rw[<-hm,<-hS];exact ZY (BH HD.o.sz0 _) (by have:=pR (fitB_iff.1 hf);have:=fK (n:=(bY l).length) (by omega);simp only[aB,Z4,af];omega)
   have Nc:h<=1000:=by rw[<-hh];unfold Go.Proofs.YtknefelegjlgnaaGreatDoor.hf;have:=L.o;have:=HD.o.n1;omega
   have dN:=ai hh;clear ho3 hcc hcm hsf hS dn htl hm hh hf;go_wp2_with fail;refine(K.o _).mono ?_;rintro e w4 ⟨rfl,hb4⟩;have HB4:=ai hb4;clear hb4 q0 q1 q2 q3 g0 g1 g2 f0 f1 f2 f3 z0 z1 z2 z3;have Vp:=HB4.o.size;have M:VF W w4:=HB3.o.trans (HB4.o.mono (by omega));have ed:=ai (bz.o.below HB4.o bz.o.lt);have E:=ai (HZ3.o.below HB4.o HZ3.o.lt);have fA:=ai (cu.o.below HB4.o cu.o.lt);have zT:Hid (w4.ownsRow W2.heap.size 9 1 (.slice (some ⟨gb,0,none⟩) m c3) m (flat aF S)):=gQ cO.o HB4.o;obtain⟨q0,q1,q2,q3⟩:=ed.o.dk4;obtain⟨z0,z1,z2,z3⟩:=E.o.dk4;obtain⟨f0,f1,f2,f3⟩:=fr4 E.o;obtain⟨g0,g1,g2⟩:=fA.o.three;by_cases hfull:h<m
   . have zX: (h:Int)< (m:Int):=by omega
     have fO:=ai hfull;clear hfull;go_wp2_with fail;refine ZW (gU Tryz.results49 rfl (E.o.set4 _ _ _ _) rfl) rfl ?_;exact HR2.o HF.o fO.o _ _ ⟨⟨none,0,none,0⟩,rfl,qJ _,eu (HB0.o.trans (M.o.mono (by omega))) (by omega) _ _ _ _⟩
   . have zX:¬(h:Int)< (m:Int):=by omega
     have fO:=ai hfull;clear hfull HR2;obtain⟨st,hst⟩:=NX9 (aG d.ss b)
     rw[hst]at bf;have hfa:=iO (ss:=d.ss) q HJ.o.n3;rw[hst,dN.o,L.o]at hfa;have hns:=HD.o.n1;rw[L.o]at hns;have HST:=ai hst;clear hst;go_wp2_with fail;refine(bf.o _).mono ?_;rintro e w5 ⟨rfl,hb5⟩;have Vq:=hb5.size;have N:VF W w5:=M.o.trans (hb5.mono (by omega));have f:=ai (ed.o.below hb5 ed.o.lt);have kU:=ai (E.o.below hb5 E.o.lt);have Vr:=ai (fA.o.below hb5 fA.o.lt);have Aj:Hid (w5.ownsRow W2.heap.size 9 1 (.slice (some ⟨gb,0,none⟩) m c3) m (flat aF S)):=gQ zT.o hb5;clear hb5 q0 q1 q2 q3 z0 z1 z2 z3 f0 f1 f2 f3 g0 g1 g2;obtain⟨q0,q1,q2,q3⟩:=f.o.dk4;go_wp2_with fail;have lg:=ai (fun w' (hb:VE w5 w')=>EP st (st+h) d.sz (some ⟨gb,0,none⟩) m c3 w5.heap.size S w' ((Sl.of_own Aj.o).below hb aj) hb.size (by omega) (by omega) HD.o.sz1);rw[Int.natCast_add]at lg;have PR:IntKind.i64.wrap ((st:Int)+ (h:Int))= (st:Int)+ (h:Int):=by rw[IntKind.wrap_i64];omega
     go_region_held3 (fun w'=>w'.cell? ⟨w.heap.size,0,none⟩=some (.int .i64 d.sz)/\w'.cell? ⟨w.heap.size,1,none⟩=some (.slice s.a1 ns s.c1)/\w'.cell? ⟨w.heap.size,2,none⟩=some (.slice s.a2 np s.c2)/\w'.cell? ⟨w.heap.size,3,none⟩=some (.int .i64 d.lf))
      (first | exact⟨q0,q1,q2,q3⟩ | exact⟨m0.o,m1.o,m2.o,m3.o⟩ | exact⟨n0.o,n1.o,n2.o,n3.o⟩)
      (first
        | (go_at_call 110;refine(K.o _).mono ?_;rintro e w7 ⟨rfl,hb7⟩
           have F:VF w5 w7:=((ah _ w5).drew).trans hb7;obtain⟨u0,u1,u2,u3⟩:=(f.o.below F.o f.o.lt).dk4;have m0:=ai u0;have m1:=ai u1;have m2:=ai u2;have m3:=ai u3;clear hb7 u0 u1 u2 u3)
        | (go_at_call 111;refine(lg.o _ F.o).mono ?_;rintro e Ak ⟨A8,n8,c8,vs,rfl,lq,hb8,nz,hc8,nO⟩
           have r:VF w5 Ak:=F.o.trans (hb8.mono F.o.size);obtain⟨u0,u1,u2,u3⟩:=(f.o.below r.o f.o.lt).dk4;have n0:=ai u0;have n1:=ai u1;have n2:=ai u2;have n3:=ai u3;have O:=ai lq;have fU:=ai nz;have Vs:=ai hc8;have Vt:=ai nO;have z78:=F.o.size;have nU:=hb8.size;clear hb8 lq nz hc8 nO u0 u1 u2 u3))
     have hut:Utf8.encode (b:Int)=ofL [UInt8.ofNat b]:=by rcases q with rfl | rfl <;> rfl
     have gu:=ai (fun w'=>oW [UInt8.ofNat b] d.sz w' (by have:=HD.o.sz0;simp;omega) HD.o.sz1);obtain⟨mk,hmk⟩:=NX9 (ofL (dF d.sz b))
     rw[show ofL (bK d.sz [UInt8.ofNat b])=mk from hmk,<-hut]at gu;have Aq:=ai hmk;clear hmk hut n0 n1 n2 n3 m0 m1 m2 m3 q0 q1 q2 q3;obtain⟨q0,q1,q2,q3⟩:=(f.o.below r.o f.o.lt).dk4;go_wp2_with fail;refine(gu.o _).mono ?_;rintro e w8 ⟨rfl,hb8⟩;have G:VF w5 w8:=r.o.trans (hb8.mono r.o.size);have iU:=ai (O.o.below hb8);have oO:w7.heap.size<=w8.heap.size:=ZY nU hb8.size;clear hb8 O gu q0 q1 q2 q3;have hfit:=Gq HD.o HJ.o zx.o (by rw[zt.o,dN.o];omega);have oU:=ai hfit;have P:Hid ((dL st S (st+h) d.sz).map some++ [none,some (0,dF d.sz b),none]=gB d.sz d.ss a S):=by
      show _=_;unfold gB;rw[xn.o,HST.o,dN.o]
     have y: ((dL st S (st+h) d.sz).map some).length=n8:=iU.o.len;have qc:=ai y;obtain⟨os,hos⟩:=NX9 ((dL st S (st+h) d.sz).map some)
     rw[hos]at iU P qc;have Q:=ai (fun w'=>mP 0 (dF d.sz b) w');rw[Aq.o]at Q;have Au:Hid (DkM w8 W.heap.size d s):=(HM.o.more hB |>.more (by omega)).below (N.o.trans (G.o.mono (by omega))) aj;clear hfit y hos;obtain⟨i0,hi,R,T,U⟩:=info_parts zB;have Hi:=ai hi;have AP:=ai R;have BB:=ai T;have HY:=ai U;clear hi R T U;have j:=ai (f.o.below G.o f.o.lt);have KF:=ai (kU.o.below G.o kU.o.lt);obtain⟨q0,q1,q2,q3⟩:=j.o.dk4;have Vu:=G.o.size;have qx:w7.heap.size<=w8.heap.size:=oO;obtain⟨d12,V⟩:=NX9 ((aJ d (gB d.sz d.ss a S)).1)
     obtain⟨x12,X⟩:=NX9 ((aJ d (gB d.sz d.ss a S)).2)
     have z:=ai (fun w' A' c' vs' (ho:OpsM w' w'.heap.size A' (n8+3) vs' (gB d.sz d.ss a S)) (hm:DkM w' w'.heap.size d s)=>yH d s w'.heap.size A' (n8+3) c' vs' (gB d.sz d.ss a S) w' HD.o hm aj ho oU.o (by rw[zk.o,ho.len];have:=fU.o;simp;omega));unfold bG at z;rw[V,X]at z HR3;simp only[dkV,dkC,L.o,zo.o]at z;clear V X;go_wp2_with fail
     go_region_held3 (fun w'=>w'.cell? ⟨w.heap.size,0,none⟩=some (.int .i64 d.sz)/\w'.cell? ⟨w.heap.size,1,none⟩=some (.slice s.a1 ns s.c1)/\w'.cell? ⟨w.heap.size,2,none⟩=some (.slice s.a2 np s.c2)/\w'.cell? ⟨w.heap.size,3,none⟩=some (.int .i64 d.lf))
      (first | exact⟨y0.o,y1.o,y2.o,y3.o⟩ | exact⟨r0.o,r1.o,r2.o,r3.o⟩ | exact⟨n0.o,n1.o,n2.o,n3.o⟩ | exact⟨t0.o,t1.o,t2.o,t3.o⟩ | exact⟨m0.o,m1.o,m2.o,m3.o⟩ | exact⟨q0,q1,q2,q3⟩)
      (first
        | (go_at_call 98;refine(Q.o _).mono ?_;rintro e w9 ⟨v,rfl,hv,qA⟩;obtain⟨p1,p2,rfl⟩:=hv.fn
           have H:VF w8 w9:=((ah _ w8).drew).trans qA;have HV:=ai hv;have Vw:=H.o.size;have hbl:VE w9 (w9.alloc (.cells #[.func (.func 100) #[] #[],.func (.func 169) #[] #[p1,p2],.func (.func 100) #[] #[]] 166)):=(ah _ w9).alloc aj _;have I:Hid (OpsO (w9.alloc (.cells #[.func (.func 100) #[] #[],.func (.func 169) #[] #[p1,p2],.func (.func 100) #[] #[]] 166)) w7.heap.size A8 n8 c8 vs os):=(iU.o.below H.o).below hbl;have rf:=ai hbl;obtain⟨u0,u1,u2,u3⟩:=(j.o.below H.o j.o.lt).dk4;have m0:=ai u0;have m1:=ai u1;have m2:=ai u2;have m3:=ai u3;obtain⟨v0,v1,v2,v3⟩:=((j.o.below H.o j.o.lt).below hbl (by have:=j.o.lt;omega)).dk4;have t0:=ai v0;have t1:=ai v1;have t2:=ai v2;have t3:=ai v3;clear hv qA hbl u0 u1 u2 u3 v0 v1 v2 v3)
        | (go_at_call 97;refine(z.o _ uw c11 _ Y.o.m (Au.o.below k.o (by omega) |>.more (by have:=k.o.size;omega))).mono ?_
           rintro e w12 ⟨s12,rfl,Z,ag⟩;have uA:=ai Z;have C:Hid (Below w7.heap.size w8 w12):=k.o.trans (ag.mono (by have:=k.o.size;omega));have D:=ai (KF.o.below C.o (by omega));obtain⟨e0,e1,e2,e3⟩:=D.o.dk4;obtain⟨u0,u1,u2,u3⟩:=(j.o.below C.o (by omega)).dk4;have r0:=ai u0;have r1:=ai u1;have r2:=ai u2;have r3:=ai u3;have hne1:w.heap.size≠w.heap.size+1:=by omega
           obtain⟨v0,v1,v2,v3⟩:=(((((j.o.below C.o (by omega)).far (p:=⟨w.heap.size+1,0,none⟩) hne1 (.int .i64 d12.sz)).far (p:=⟨w.heap.size+1,1,none⟩) hne1 (.slice s12.a1 d12.ss.length s12.c1)).far (p:=⟨w.heap.size+1,2,none⟩) hne1 (.slice s12.a2 d12.pn.length s12.c2)).far (p:=⟨w.heap.size+1,3,none⟩) hne1 (.int .i64 d12.lf)).dk4;have y0:=ai v0;have y1:=ai v1;have y2:=ai v2;have y3:=ai v3;clear u0 u1 u2 u3 v0 v1 v2 v3;obtain⟨f0,f1,f2,f3⟩:=fr4 D.o;clear Z ag)
        | (refine AQ (by rfl) (.tmp 61) (.tmp 64) 169 (by rfl) w7.heap.size 166 i0 _ 1 8 Tryz.underlying169 Hi.o AP.o BB.o HY.o rfl (by decide) (.slice A8 n8 c8) n8 vs (by rfl) I.o.own (w9.heap.size+1) (some ⟨w9.heap.size,0,none⟩) 3 3 [.func (.func 100) #[] #[],.func (.func 169) #[] #[p1,p2],.func (.func 100) #[] #[]] (by rfl) (Sl.new w9 _ _ 3 rfl) (fun x hx=>by simp at hx;rcases hx with rfl | rfl | rfl <;> rfl) (by have:=fU.o;unfold maxLen;omega) (by have:=fU.o;omega) (by simp;omega) ?_
           intro uw c11 uD au J wo wz;have Y:Hid (OpsO uD w7.heap.size uw (n8+3) c11 (vs++ [.func (.func 100) #[] #[],.func (.func 169) #[] #[p1,p2],.func (.func 100) #[] #[]]) (os++ [none,some (0,dF d.sz b),none])):=I.o.app rfl (fun i x o hx ho=>by
            match i,hx,ho with
            | 0,hx,ho=>cases hx;cases ho;rfl
            | 1,hx,ho=>cases hx;cases ho;exact(HV.o.below rf.o aj).more (by simp)
            | 2,hx,ho=>cases hx;cases ho;rfl) au J
           rw[P.o]at Y;have k:Hid (Below w7.heap.size w8 uD):=(((H.o.trans (rf.o.mono (by omega))).mono qx).grown J (by simp;omega) (fun g hg=>jF I.o.own g hg))
           obtain⟨u0,u1,u2,u3⟩:=(j.o.below k.o (by omega)).dk4;have n0:=ai u0;have n1:=ai u1;have n2:=ai u2;have n3:=ai u3;clear u0 u1 u2 u3 au J wo wz))
     go_wp2_with fail;refine ZW (gU Tryz.results49 rfl (D.o.set4 _ _ _ _) rfl) rfl ?_;exact HR3.o HF.o fO.o _ _ ⟨s12,rfl,(uA.o.box D.o _ _ _ _).more (by simp),eu (HB0.o.trans ((N.o.trans ((G.o.mono (by omega)).trans (C.o.mono (by omega)))).mono (by omega))) (by omega) _ _ _ _⟩
 . rw[if_neg (fun h=>hf h.1)]at h3
   have xe: (gm l).2=4:=by rw[gm,if_neg hf]
   rw[xe]at h3;subst h3;have HF:=ai hf;clear hf xe
   go_wp2
   refine ZW (gU Tryz.results49 rfl (HZ3.o.set4 _ _ _ _) rfl) rfl ?_;exact HR1.o HF.o _ _ ⟨⟨none,0,none,0⟩,rfl,qJ _,eu (HB0.o.trans (HB3.o.mono (by omega))) (by omega) _ _ _ _⟩
theorem F8(l:List Rf)(u:Upd):bM l u≠20:=by
 unfold bM dI
 repeat' split
 all_goals decide
theorem Ef:∀(us:List Upd)(l:List Rf)(lg:List Upd),(dR l lg us).2.2≠20
 | [],_,_=>by simp[dR]
 | u::us,l,lg=>by
   rw[rM];unfold gV;by_cases h1:bM l u≠0
   . rw[if_pos h1];simp only[ne_eq,h1,not_false_iff,if_true];exact F8 l u
   . rw[if_neg h1]
     by_cases h2:1000<=lg.length
     . rw[if_pos h2];simp
     . rw[if_neg h2];simp only[ne_eq,not_true,if_false];exact Ef us _ _
theorem yD:∀(us:List Upd)(l:List Rf),(aP l us).2≠20
 | [],_=>by simp[aP]
 | u::us,l=>by
   rw[aP];by_cases h1:bM l u≠0
   . rw[if_pos h1];exact F8 l u
   . rw[if_neg h1];exact yD us _
theorem Ox(rs:List Rf)(lg us:List Upd): (di rs lg us).2.2≠20:=by
 show(if bu rs lg≠0 then([],[],bu rs lg) else dR rs lg us:List Rf×List Upd×Int).2.2≠20;split
 . simp only
   unfold bu
   repeat' split
   . decide
   . exact yD lg []
   . decide
   . decide
 . exact Ef us rs lg
theorem QY(p:List Itm)(d:Dig):dO p d≠20:=by
 unfold dO;split
 . decide
 . split
   . split <;> decide
   . decide
theorem AscI.nodup_len{p l:List Itm}(h:AscI p)(hs:∀i∈p,i∈l):p.length<=l.length :=
 tH (h.imp (fun {a b} hl e=>by rw[e]at hl;exact ja _ hl)) hs
def ExE(r:Rp)(a u:Nat)(pl:gI)(w:VA)(e:Ending)(w':VA):Prop:=match pl with
 | .no=>∃x:Int,x≠0/\x≠20/\fG zRp x w e w'
 | .keep=>fG r 0 w e w'
 | .app g p rs lg=>fG (after r (dG r.d a u (aN g)) p rs lg).1 (after r (dG r.d a u (aN g)) p rs lg).2 w e w'
 | .rew g p rs lg=>fG (after r (dV r.d a (aN g)) p rs lg).1 (after r (dV r.d a (aN g)) p rs lg).2 w e w'
theorem Lc{p q:List Itm}{k:Nat}{x:Itm}(h:q[k]? =some x):dS p (q.take (k+1))=if(bT p x.1).isSome=true then dS p (q.take k) else dS p (q.take k)++ [x]:=by
 rw[aV h];unfold dS;rw[List.filter_append];cases hf:bT p x.1 with
 | none=>simp[hf]
 | some b=>simp[hf]
theorem ExE.err{r:Rp}{a u:Nat}{w w':VA}{x:Int}(h1:x≠0)(h2:x≠20)(hb:VE w w'):ExE r a u .no w (.returned (.tuple #[.agg rzC,.int .i64 x])) w':=⟨x,h1,h2,zRs,rfl,RpM.zero _ _,hb⟩
theorem DK(r:Rp)(s:Rsl)(x:Dk×Int)(q:Dsl)(p:List Itm)(rs:List Rf)(lg:List Upd)(t:Rsl)(w w':VA)(hb:VE w w')(hr:RpM w' w'.heap.size r s)(hp:RpM w' w'.heap.size ⟨zDk,p,rs,lg⟩ t)(hx:DkM w' w'.heap.size x.1 q) :
  fG (after r x p rs lg).1 (after r x p rs lg).2 w (.returned (.tuple #[if x.2=0 then rpV {(⟨zDk,p,rs,lg⟩:Rp) with d:=x.1} {t with d:=q} else if x.2=20 then rpV {r with d:=x.1} {s with d:=q} else rpV zRp zRs,.int .i64 x.2])) w':=by
 unfold after;by_cases h0:x.2=0
 . rw[if_pos h0,if_pos h0,h0]
   exact⟨{t with d:=q},rfl,⟨hx,hp.p,hp.rf,hp.l,hp.pc,hp.pm⟩,hb⟩
 . rw[if_neg h0,if_neg h0]
   by_cases h2:x.2=20
   . rw[if_pos h2,if_pos h2,h2]
     exact⟨{s with d:=q},rfl,⟨hx,hr.p,hr.rf,hr.l,hr.pc,hr.pm⟩,hb⟩
   . rw[if_neg h2,if_neg h2]
     exact⟨zRs,rfl,RpM.zero _ _,hb⟩
def kF:Prop:=∀(A:OA)(n c B:Nat)(q:List Itm)(w:VA),Sl w B 3 A n (flat itC q)->B<=w.heap.size->n<=200000-> (∀i∈q,i.2.size<=65536)-> (∀i∈q,WfD i.1) ->
 Calls Tryz.prog 33 #[.slice A n c] w fun e w'=>∃x:Int,e= .returned (.int .i64 x)/\ (x=0↔PlOk q)/\x≠20/\VE w w'
section
open Go.Maps
def aW(rs:List Rf)(log:List Upd)(s:VB):Dig×Int :=
 if bu rs log≠0 then((0,0),bu rs log) else if dh s then(if dB rs s= (0,0) then((0,0),8) else(dB rs s,0)) else((0,0),6)
def qG(r:Dig×Int)(w:VA)(e:Ending)(w':VA):Prop:=e= .returned (.tuple #[.agg #[.int .u64 r.1.1,.int .u64 r.1.2],.int .i64 r.2])/\VE w w'
theorem oN{fn:Func}{c i:Tmp}(h:fn.results= #[.cell c 50,.tmp i]){w:VA}{a:Array VC}{b:Nat}{x y v:VC}(ha:a[c]?.getD undef= .pointer (some ⟨b,0,none⟩))(hk:Bk w b 50 #[x,y])(hv:a[i]?.getD undef=v) :
  (results fn a).run Tryz.prog w= .ok (.tuple #[.agg #[x,y],v]) w:=by
 have h0:=hk.cell 0;have h1:=hk.cell 1;simp at h0 h1;simp[results,h,ha,hv,go_sem,h0,h1]
theorem TY(l:List Rf)(s:VB)(h:OkR l): (gL l s).isSome=!decide (dB l s= (0,0)):=by
 rw[wV];unfold gL;cases hf:fZ l s with
 | none=>simp
 | some r =>
   have:=h.2 r (List.mem_of_find?_eq_some hf);simp[this]
theorem Lt{w:VA}{b n:Nat}{l:List Rf}(h:Rm w Tryz.prog 9 b n (gL l))(hl:OkR l){s:VB}(hs:s.size<=maxLen): (Instr.lookup 132 (.map (some b)) (.string s) true).run Tryz.prog w= .ok (.tuple #[az (dB l s),.bool (!decide (dB l s= (0,0)))]) w:=by
 rw[<-GX,<-TY l s hl];exact h.look_ok Tryz.underlying9 Tryz.underlying132 (Tryz.zeroValue50 w) hs
theorem D5(A0 A1:OA)(n0 c0 n1 c1 B:Nat)(rs:List Rf)(log:List Upd)(s:VB)(w:VA)(h0:Sl w B 3 A0 n0 (flat rfC rs))(h1:Sl w B 5 A1 n1 (flat upC log))(hB:B<=w.heap.size)
  (hn0:n0<=maxLen) (hn1:n1<=maxLen) (hs:s.size<=maxLen) (hs2:∀u∈log,u.1.size<=maxLen) :
  Calls Tryz.prog 66 #[.agg #[.slice A0 n0 c0,.slice A1 n1 c1],.string s] w (qG (aW rs log s) w):=by
 have H0:=ai h0;have H1:=ai h1;clear h0 h1;have HS:=ai hs;have HS2:=ai hs2;have d:=ai hn0;have f:=ai hn1;clear hs hs2 hn0 hn1;have HR:Hid (∀r,aW rs log s=r->∀e w',qG r w e w'->qG (aW rs log s) w e w'):=fun r h e w' hh=>by rw[h];exact hh
 have HG:Hid (aW rs log s=if bu rs log≠0 then((0,0),bu rs log) else if dh s then(if dB rs s= (0,0) then((0,0),8) else(dB rs s,0)) else((0,0),6)):=rfl
 go_enter Tryz.func66,Tryz.ntmps66
 go_wp2_with fail;have hbel:VE w ((w.alloc (.cells #[.slice A0 n0 c0,.slice A1 n1 c1] 33)).alloc (.cells #[.int .u64 0,.int .u64 0] 50)):=((ah _ w).alloc aj _).alloc (by simp) _;refine(Di A0 A1 n0 c0 n1 c1 B rs log _ (H0.o.below hbel hB) (H1.o.below hbel hB) (by simp;omega) d.o f.o HS2.o).mono ?_;rintro e w1 ⟨mb,rfl,hb1,hm⟩;have k1:Bk w1 (w.heap.size+1) 50 #[.int .u64 0,.int .u64 0]:=by
  have:=Bk.new (w.alloc (.cells #[.slice A0 n0 c0,.slice A1 n1 c1] 33)) 50 #[.int .u64 0,.int .u64 0];rw[Z9]at this;exact this.below hb1 (by simp)
 have HB1:VF w w1:=hbel.trans (hb1.mono (by simp;omega));have hz1:w.heap.size+2<=w1.heap.size:=by have:=hb1.size;simp at this;omega
 have HM:=ai hm;clear hb1 hbel hm;have K1:=ai k1;obtain⟨r0,r1,f0,f1⟩:=k1.agg;clear k1;by_cases hc:bu rs log=0
 . have a:=ai hc
   have i:=ai (Ud hc);obtain⟨b,rfl,c,hown⟩:=HM.o hc;have HO:=ai hown;have hbl:=hown.lt;clear hown c HM;rw[a.o];clear hc;go_wp2_with fail;refine(Bj s _ HS.o).mono ?_;rintro e w2 ⟨rfl,hb2⟩;have hz2:=hb2.size;have K2:=ai (K1.o.below hb2 (by omega));have HB2:=ai (HB1.o.trans (hb2.mono (by omega)));have j:=ai (HO.o.kept (jE hb2 none) (by simp));clear hb2 r0 r1 f0 f1;obtain⟨r0,r1,f0,f1⟩:=K2.o.agg;cases hn:dh s with
   | false =>
     have hst:Hid (aW rs log s= ((0,0),6)):=by show _=_;rw[HG.o,a.o,hn];simp
     clear hn
     go_wp2
     exact ZW (oN Tryz.results66 rfl (K2.o.set2 _ _) rfl) rfl (HR.o _ hst.o _ _ ⟨rfl,eX HB2.o (by omega) _ _⟩)
   | true =>
     have hst:Hid (aW rs log s=if dB rs s= (0,0) then((0,0),8) else(dB rs s,0)):=by show _=_;rw[HG.o,a.o,hn];simp
     clear hn;have hlk:=Lt j.o i.o HS.o;obtain⟨⟨g0,g1⟩,hg⟩:∃g:Dig,dB rs s=g:=⟨_,rfl⟩
     rw[hg]at hst hlk;have k:=ai hg;clear hg;simp only[az]at hlk;have J1:=ai (K2.o.alloc (.cells #[.int .u64 g0,.int .u64 g1] 50));have HB3:Hid (VE w (w2.alloc (.cells #[.int .u64 g0,.int .u64 g1] 50))):=HB2.o.alloc (by omega) _;obtain⟨q0,q1,e0,e1⟩:=J1.o.agg;by_cases hz: ((g0,g1):Dig)= (0,0)
     . rw[decide_eq_true hz]at hlk
       simp only[Bool.not_true]at hlk;have hfin:Hid (aW rs log s= ((0,0),8)):=by show _=_;rw[hst.o,if_pos hz]
       clear hz
       go_wp2
       exact ZW (oN Tryz.results66 rfl (J1.o.set2 _ _) rfl) rfl (HR.o _ hfin.o _ _ ⟨rfl,eX HB3.o (by omega) _ _⟩)
     . rw[decide_eq_false hz]at hlk
       simp only[Bool.not_false]at hlk;have hfin:Hid (aW rs log s= ((g0,g1),0)):=by show _=_;rw[hst.o,if_neg hz]
       clear hz
       go_wp2
       exact ZW (oN Tryz.results66 rfl (J1.o.set2 _ _) rfl) rfl (HR.o _ hfin.o _ _ ⟨rfl,eX HB3.o (by omega) _ _⟩)
 . have hne: (bu rs log != 0)=true:=by rw[bne_iff_ne];exact hc
   have hst:Hid (aW rs log s= ((0,0),bu rs log)):=by show _=_;rw[HG.o,if_pos hc]
   clear hc HM
   go_wp2
   exact ZW (oN Tryz.results66 rfl (K1.o.set2 _ _) rfl) rfl (HR.o _ hst.o _ _ ⟨rfl,eX HB1.o (by omega) _ _⟩)
end
