/-Lemmas.-/
import Derived.Test.YtknefelegjlgnaaGreatDoorCCCm22
set_option maxRecDepth 100000
set_option maxHeartbeats 8000000
namespace Go.Proofs.YtknefelegjlgnaaGreatDoor
open Go.RowKit
theorem Il{α:Type}{g:RS->α×RS}(hg:∀s,(g s).2.1.length<=s.1.length):∀(n:Nat)(s:RS),(qL g n s).2.1.length<=s.1.length
 | 0,s=>Nat.le_refl _
 | n+1,s=>by
   rw[qL];split
   . exact Nat.le_refl _
   . exact ZY (Il hg n _) (hg s)
theorem Rj{α:Type}{g:RS->α×RS}{m:Nat}(hg:∀s,(g s).2.1.length<=s.1.length)(s:RS): (qLs g m s).2.1.length<=s.1.length:=ZY (Il hg _ _) (lW s)
def KdE(w:VA)(e:Ending)(w':VA):Prop:=e= .returned (.tuple #[.agg #[.int .i64 0,.string ⟨#[]⟩,.slice none 0 0,.int .u64 0,.int .u64 0,.slice none 0 0,.string ⟨#[]⟩,.int .i64 0,.string ⟨#[]⟩],.int .i64 13])/\VE w w'
theorem KG(b:VD)(w:VA)(hb:b.length<=65536)(hn:¬∃o,OkO o/\b=aI o):Calls Tryz.prog 81 #[.string (ofL b)] w (KdE w):=by
 have HQ:=ai (TI hb hn);have i:Hid ((qO b).2.2=false->RdO (qO b).1):=fun h=>UD (o:=(qO b).1) (r:=(qO b).2) rfl h;obtain⟨s,hs⟩:=NX9 (ofL b)
 rw[hs];obtain⟨W1,hW1⟩:=NX9 ((w.alloc (.cells #[.int .i64 0,.string ⟨#[]⟩,.slice none 0 0,.int .u64 0,.int .u64 0,.slice none 0 0,.string ⟨#[]⟩,.int .i64 0,.string ⟨#[]⟩] 109)).alloc (.cells #[.string s,.bool false] 229))
 have HZ1:Hid (Bk W1 w.heap.size 109 zrC):=by rw[<-hW1];exact(Bk.new w _ _).alloc _
 have HR1:Hid (Rds W1 (w.heap.size+1) (b,false)):=by
  show Bk _ _ _ #[.string (ofL b),.bool false];rw[hs,<-hW1];have:=Bk.new (w.alloc (.cells #[.int .i64 0,.string ⟨#[]⟩,.slice none 0 0,.int .u64 0,.int .u64 0,.slice none 0 0,.string ⟨#[]⟩,.int .i64 0,.string ⟨#[]⟩] 109)) 229 #[.string s,.bool false]
  rwa[Z9]at this
 have HB1:VF w W1:=by rw[<-hW1];exact((ah _ w).alloc aj _).alloc (by simp) _
 have kU:W1.heap.size=w.heap.size+2:=by rw[<-hW1];simp
 have N:=ai (mO (w.heap.size+1) (b,false) W1 HR1.o (by show b.length<=_;omega));have hl1:=lW (b,false);obtain⟨⟨k,st⟩,hx⟩:∃x,qN (b,false)=x:=⟨_,rfl⟩
 have HX:=ai hx;rw[hx]at N hl1;simp only at N hl1;have hst:st.1.length<=1000000:=by omega
 have HST:=ai hst;clear hs hb hn hx hl1 hst
 go_enter Tryz.func81,Tryz.ntmps81
 go_wp2_with fail;refine N.o.mono ?_;rintro e w2 ⟨rfl,hr,hg⟩;have HR2:=ai hr;have HG2:VF w w2:=HB1.o.trans (hg.below (by omega) (fun q hq e=>by omega));have HZ2:=ai (hg.bk HZ1.o (by show ¬w.heap.size=w.heap.size+1;omega));have z2:w.heap.size+2<=w2.heap.size:=by have:=hg.size;omega
 clear hr hg hW1 N HB1 HZ1 HR1;obtain⟨W3,hW3⟩:=NX9 (w2.alloc (.cells #[.int .i64 (k:Nat),.string ⟨#[]⟩,.slice none 0 0,.int .u64 0,.int .u64 0,.slice none 0 0,.string ⟨#[]⟩,.int .i64 0,.string ⟨#[]⟩] 109))
 have hb3:VE w2 W3:=by rw[<-hW3];exact(ah _ w2).alloc aj _
 have u:Hid (Bk W3 w2.heap.size 109 #[.int .i64 (k:Nat),.string ⟨#[]⟩,.slice none 0 0,.int .u64 0,.int .u64 0,.slice none 0 0,.string ⟨#[]⟩,.int .i64 0,.string ⟨#[]⟩]):=by rw[<-hW3];exact Bk.new w2 _ _
 have HR3:Hid (Rds W3 (w.heap.size+1) st):=Bk.below HR2.o hb3 (by omega);have HZ3:=ai (HZ2.o.below hb3 (by omega));have HB3:VF w W3:=HG2.o.trans (hb3.mono (by omega));have z3:W3.heap.size=w2.heap.size+1:=by rw[<-hW3];simp
 have c0:=u.o.nine.1;rw[<-hW3]at c0;have HW3:=ai hW3;clear hb3 hW3 HR2 HZ2 HG2;rcases (show k=1∨k=4∨k=2∨k=3∨ (k≠1/\k≠2/\k≠3/\k≠4) by omega) with rfl | rfl | rfl | rfl | hk
 . have HE:Hid (qO b= (⟨1,ofL (qT st).1,[],zD,[],⟨#[]⟩,0,⟨#[]⟩⟩,(qT st).2)):=by
     show _=_;unfold qO;rw[HX.o];rfl
   have HW3:Hid (w2.alloc (.cells #[.int .i64 1,.string ⟨#[]⟩,.slice none 0 0,.int .u64 0,.int .u64 0,.slice none 0 0,.string ⟨#[]⟩,.int .i64 0,.string ⟨#[]⟩] 109)=W3):=HW3.o;have u:Hid (Bk W3 w2.heap.size 109 #[.int .i64 1,.string ⟨#[]⟩,.slice none 0 0,.int .u64 0,.int .u64 0,.slice none 0 0,.string ⟨#[]⟩,.int .i64 0,.string ⟨#[]⟩]):=u.o;have c0: (w2.alloc (.cells #[.int .i64 1,.string ⟨#[]⟩,.slice none 0 0,.int .u64 0,.int .u64 0,.slice none 0 0,.string ⟨#[]⟩,.int .i64 0,.string ⟨#[]⟩] 109)).cell? ⟨w2.heap.size,0,none⟩=some (.int .i64 1):=c0;have v:=ai (mM (w.heap.size+1) st W3 HR3.o HST.o);obtain⟨⟨t,q4⟩,hq⟩:∃x,qT st=x:=⟨_,rfl⟩
   rw[hq]at v HE;simp only at v HE;rw[HE.o]at HQ i;simp only at HQ i;clear hq;go_wp2_with fail;rw[HW3.o];refine v.o.mono ?_;rintro e v4 ⟨rfl,hr,hg⟩;have j:=ai hr;have c:=ai (hg.bk u.o (by show ¬w2.heap.size=w.heap.size+1;omega));have l:=ai (hg.bk HZ3.o (by show ¬w.heap.size=w.heap.size+1;omega));have n:VF w v4:=HB3.o.trans (hg.below (by have:=HB3.o.size;omega) (fun q hq e=>by omega));have S:=hg.size;clear c0 hr hg v HB3 HZ3 u HR3;obtain⟨c0,c1,c2,c3,c4,c5,c6,c7,c8⟩:=c.o.nine;have f1:=c.o.free 1;obtain⟨W4,d⟩:=NX9 ((v4.setCell ⟨w2.heap.size,1,none⟩ (.string (ofL t))))
   have z:Hid (Bk W4 w2.heap.size 109 (obC ⟨1,ofL t,[],zD,[],⟨#[]⟩,0,⟨#[]⟩⟩ ⟨none,0,0,none,0,0⟩)):=by rw[<-d];have:=(c.o.set 1 (.string (ofL t)));show Bk _ _ _ _;simpa [obC,zD] using this
   have HR4:Hid (Rds W4 (w.heap.size+1) q4):=by rw[<-d];exact(Bk.far j.o (p:=⟨w2.heap.size,1,none⟩) (by show w.heap.size+1≠w2.heap.size;omega) _)
   have f:Hid (Bk W4 w.heap.size 109 zrC):=by rw[<-d];exact(Bk.far l.o (p:=⟨w2.heap.size,1,none⟩) (by show w.heap.size≠w2.heap.size;omega) _)
   have HB4:VF w W4:=by rw[<-d];exact(Below.setCell n.o (p:=⟨w2.heap.size,1,none⟩) (by show w.heap.size<=w2.heap.size;omega) _)
   have M:w2.heap.size<W4.heap.size:=z.o.lt;have C:Hid (ObM W4 W4.heap.size ⟨1,ofL t,[],zD,[],⟨#[]⟩,0,⟨#[]⟩⟩ ⟨none,0,0,none,0,0⟩):=⟨Sl.nil _ _ _ _,Sl.nil _ _ _ _,Nat.le_refl _,ZX _,Nat.le_refl _,ZX _⟩
   clear j c l n HE
   go_upto_region 15 with fail
   try rw[d]
   clear d c0 c1 c2 c3 c4 c5 c6 c7 c8 f1;obtain⟨bs,bad⟩:=q4;simp only at HQ i;obtain⟨q0,q1,_,_⟩:=Bk.two (show Bk W4 (w.heap.size+1) 229 #[.string (ofL bs),.bool bad] from HR4.o);obtain⟨d0,d1,d2,d3,d4,d5,d6,d7,d8⟩:=f.o.nine;obtain⟨f0,f1,f2,f3,f4,f5,f6,f7,f8⟩:=fr9 f.o;cases bad with
   | true =>
     go_wp2_with fail;refine ZW (fE Tryz.results81 rfl (fF f.o _ _ _ _ _ _ _ _ _) rfl) rfl ⟨rfl,fD HB4.o aj _ _ _ _ _ _ _ _ _⟩
   | false =>
     by_cases hbs:bs= []
     . subst hbs
       have D:Hid (¬OkF _):=HQ.o.resolve_left (by simp) |>.resolve_left (by simp);have y:=ai (qf _ _ W4.heap.size W4 C.o aj (i.o rfl) D.o);simp only[obV,obC,zD]at y z;obtain⟨k0,k1,k2,k3,k4,k5,k6,k7,k8⟩:=z.o.nine;have q0':W4.cell? ⟨w.heap.size+1,0,none⟩=some (.string ⟨#[]⟩):=q0;clear q0;go_wp2_with fail;refine y.o.mono ?_;rintro e w8 ⟨⟨x,rfl,hx⟩,hb8⟩;have hxb: (x != 0)=true:=by simpa using hx
       have g:=ai (f.o.below hb8 f.o.lt);have A:VF w w8:=HB4.o.trans (hb8.mono HB4.o.size);clear k0 k1 k2 k3 k4 k5 k6 k7 k8 q0' q1 d0 d1 d2 d3 d4 d5 d6 d7 d8 f0 f1 f2 f3 f4 f5 f6 f7 f8 hb8 y hx;obtain⟨d0,d1,d2,d3,d4,d5,d6,d7,d8⟩:=g.o.nine;obtain⟨f0,f1,f2,f3,f4,f5,f6,f7,f8⟩:=fr9 g.o;go_wp2_with fail;refine ZW (fE Tryz.results81 rfl (fF g.o _ _ _ _ _ _ _ _ _) rfl) rfl ⟨rfl,fD A.o aj _ _ _ _ _ _ _ _ _⟩
     . have hs1: ((ofL bs).toList == ([]:List UInt8))=false:=by
         rw[qp];exact decide_eq_false fun h=>hbs (by have:=congrArg toL h;rw[dE]at this;exact this)
       clear hbs;go_wp2_with fail;refine ZW (fE Tryz.results81 rfl (fF f.o _ _ _ _ _ _ _ _ _) rfl) rfl ⟨rfl,fD HB4.o aj _ _ _ _ _ _ _ _ _⟩
 . have HE:Hid (qO b= (⟨4,ofL (qT st).1,[],zD,[],⟨#[]⟩,0,⟨#[]⟩⟩,(qT st).2)):=by
     show _=_;unfold qO;rw[HX.o];rfl
   have HW3:Hid (w2.alloc (.cells #[.int .i64 4,.string ⟨#[]⟩,.slice none 0 0,.int .u64 0,.int .u64 0,.slice none 0 0,.string ⟨#[]⟩,.int .i64 0,.string ⟨#[]⟩] 109)=W3):=HW3.o;have u:Hid (Bk W3 w2.heap.size 109 #[.int .i64 4,.string ⟨#[]⟩,.slice none 0 0,.int .u64 0,.int .u64 0,.slice none 0 0,.string ⟨#[]⟩,.int .i64 0,.string ⟨#[]⟩]):=u.o;have c0: (w2.alloc (.cells #[.int .i64 4,.string ⟨#[]⟩,.slice none 0 0,.int .u64 0,.int .u64 0,.slice none 0 0,.string ⟨#[]⟩,.int .i64 0,.string ⟨#[]⟩] 109)).cell? ⟨w2.heap.size,0,none⟩=some (.int .i64 4):=c0;have v:=ai (mM (w.heap.size+1) st W3 HR3.o HST.o);obtain⟨⟨t,q4⟩,hq⟩:∃x,qT st=x:=⟨_,rfl⟩
   rw[hq]at v HE;simp only at v HE;rw[HE.o]at HQ i;simp only at HQ i;clear hq;go_wp2_with fail;rw[HW3.o];refine v.o.mono ?_;rintro e v4 ⟨rfl,hr,hg⟩;have j:=ai hr;have c:=ai (hg.bk u.o (by show ¬w2.heap.size=w.heap.size+1;omega));have l:=ai (hg.bk HZ3.o (by show ¬w.heap.size=w.heap.size+1;omega));have n:VF w v4:=HB3.o.trans (hg.below (by have:=HB3.o.size;omega) (fun q hq e=>by omega));have S:=hg.size;clear c0 hr hg v HB3 HZ3 u HR3;obtain⟨c0,c1,c2,c3,c4,c5,c6,c7,c8⟩:=c.o.nine;have f1:=c.o.free 1;obtain⟨W4,d⟩:=NX9 ((v4.setCell ⟨w2.heap.size,1,none⟩ (.string (ofL t))))
   have z:Hid (Bk W4 w2.heap.size 109 (obC ⟨4,ofL t,[],zD,[],⟨#[]⟩,0,⟨#[]⟩⟩ ⟨none,0,0,none,0,0⟩)):=by rw[<-d];have:=(c.o.set 1 (.string (ofL t)));show Bk _ _ _ _;simpa [obC,zD] using this
   have HR4:Hid (Rds W4 (w.heap.size+1) q4):=by rw[<-d];exact(Bk.far j.o (p:=⟨w2.heap.size,1,none⟩) (by show w.heap.size+1≠w2.heap.size;omega) _)
   have f:Hid (Bk W4 w.heap.size 109 zrC):=by rw[<-d];exact(Bk.far l.o (p:=⟨w2.heap.size,1,none⟩) (by show w.heap.size≠w2.heap.size;omega) _)
   have HB4:VF w W4:=by rw[<-d];exact(Below.setCell n.o (p:=⟨w2.heap.size,1,none⟩) (by show w.heap.size<=w2.heap.size;omega) _)
   have M:w2.heap.size<W4.heap.size:=z.o.lt;have C:Hid (ObM W4 W4.heap.size ⟨4,ofL t,[],zD,[],⟨#[]⟩,0,⟨#[]⟩⟩ ⟨none,0,0,none,0,0⟩):=⟨Sl.nil _ _ _ _,Sl.nil _ _ _ _,Nat.le_refl _,ZX _,Nat.le_refl _,ZX _⟩
   clear j c l n HE
   go_upto_region 15 with fail
   try rw[d]
   clear d c0 c1 c2 c3 c4 c5 c6 c7 c8 f1;obtain⟨bs,bad⟩:=q4;simp only at HQ i;obtain⟨q0,q1,_,_⟩:=Bk.two (show Bk W4 (w.heap.size+1) 229 #[.string (ofL bs),.bool bad] from HR4.o);obtain⟨d0,d1,d2,d3,d4,d5,d6,d7,d8⟩:=f.o.nine;obtain⟨f0,f1,f2,f3,f4,f5,f6,f7,f8⟩:=fr9 f.o;cases bad with
   | true =>
     go_wp2_with fail;refine ZW (fE Tryz.results81 rfl (fF f.o _ _ _ _ _ _ _ _ _) rfl) rfl ⟨rfl,fD HB4.o aj _ _ _ _ _ _ _ _ _⟩
   | false =>
     by_cases hbs:bs= []
     . subst hbs
       have D:Hid (¬OkF _):=HQ.o.resolve_left (by simp) |>.resolve_left (by simp);have y:=ai (qf _ _ W4.heap.size W4 C.o aj (i.o rfl) D.o);simp only[obV,obC,zD]at y z;obtain⟨k0,k1,k2,k3,k4,k5,k6,k7,k8⟩:=z.o.nine;have q0':W4.cell? ⟨w.heap.size+1,0,none⟩=some (.string ⟨#[]⟩):=q0;clear q0;go_wp2_with fail;refine y.o.mono ?_;rintro e w8 ⟨⟨x,rfl,hx⟩,hb8⟩;have hxb: (x != 0)=true:=by simpa using hx
       have g:=ai (f.o.below hb8 f.o.lt);have A:VF w w8:=HB4.o.trans (hb8.mono HB4.o.size);clear k0 k1 k2 k3 k4 k5 k6 k7 k8 q0' q1 d0 d1 d2 d3 d4 d5 d6 d7 d8 f0 f1 f2 f3 f4 f5 f6 f7 f8 hb8 y hx;obtain⟨d0,d1,d2,d3,d4,d5,d6,d7,d8⟩:=g.o.nine;obtain⟨f0,f1,f2,f3,f4,f5,f6,f7,f8⟩:=fr9 g.o;go_wp2_with fail;refine ZW (fE Tryz.results81 rfl (fF g.o _ _ _ _ _ _ _ _ _) rfl) rfl ⟨rfl,fD A.o aj _ _ _ _ _ _ _ _ _⟩
     . have hs1: ((ofL bs).toList == ([]:List UInt8))=false:=by
         rw[qp];exact decide_eq_false fun h=>hbs (by have:=congrArg toL h;rw[dE]at this;exact this)
       clear hbs;go_wp2_with fail;refine ZW (fE Tryz.results81 rfl (fF f.o _ _ _ _ _ _ _ _ _) rfl) rfl ⟨rfl,fD HB4.o aj _ _ _ _ _ _ _ _ _⟩
 . have HW3:Hid (w2.alloc (.cells #[.int .i64 2,.string ⟨#[]⟩,.slice none 0 0,.int .u64 0,.int .u64 0,.slice none 0 0,.string ⟨#[]⟩,.int .i64 0,.string ⟨#[]⟩] 109)=W3):=HW3.o
   have u:Hid (Bk W3 w2.heap.size 109 #[.int .i64 2,.string ⟨#[]⟩,.slice none 0 0,.int .u64 0,.int .u64 0,.slice none 0 0,.string ⟨#[]⟩,.int .i64 0,.string ⟨#[]⟩]):=u.o;have c0: (w2.alloc (.cells #[.int .i64 2,.string ⟨#[]⟩,.slice none 0 0,.int .u64 0,.int .u64 0,.slice none 0 0,.string ⟨#[]⟩,.int .i64 0,.string ⟨#[]⟩] 109)).cell? ⟨w2.heap.size,0,none⟩=some (.int .i64 2):=c0;obtain⟨⟨L,q4⟩,h4⟩:∃x,qLs qE 200 st=x:=⟨_,rfl⟩
   have HE:Hid (qO b= (⟨2,⟨#[]⟩,L,zD,[],⟨#[]⟩,0,⟨#[]⟩⟩,q4)):=by
    show _=_;unfold qO;rw[HX.o];show(_,(qLs qE 200 st).2)=_;rw[h4]
   have H4:=ai h4;rw[HE.o]at HQ i;simp only at HQ i;clear h4 HE;have v:=ai (CW (w.heap.size+1) st W3 HR3.o HST.o);rw[H4.o]at v;simp only at v;go_wp2_with fail;rw[HW3.o];refine v.o.mono ?_;rintro e v4 ⟨A4,K,rfl,hn4,hm4,hap,hr,hg⟩;have j:=ai hr;have c:=ai (hg.bk u.o (by show ¬w2.heap.size=w.heap.size+1;omega));have l:=ai (hg.bk HZ3.o (by show ¬w.heap.size=w.heap.size+1;omega));have n:VF w v4:=HB3.o.trans (hg.below (by have:=HB3.o.size;omega) (fun q hq e=>by omega));have S:=hg.size;have B:=ai hap;clear c0 hr hg hap v HB3 HZ3 u HR3;obtain⟨c0,c1,c2,c3,c4,c5,c6,c7,c8⟩:=c.o.nine;have f2:=c.o.free 2;obtain⟨W4,d⟩:=NX9 ((v4.setCell ⟨w2.heap.size,2,none⟩ (.slice A4 L.length K)))
   have z:Hid (Bk W4 w2.heap.size 109 #[.int .i64 2,.string ⟨#[]⟩,.slice A4 L.length K,.int .u64 0,.int .u64 0,.slice none 0 0,.string ⟨#[]⟩,.int .i64 0,.string ⟨#[]⟩]):=by rw[<-d];have:=(c.o.set 2 (.slice A4 L.length K));show Bk _ _ _ _;simpa using this
   have HR4:Hid (Rds W4 (w.heap.size+1) q4):=by rw[<-d];exact(Bk.far j.o (p:=⟨w2.heap.size,2,none⟩) (by show w.heap.size+1≠w2.heap.size;omega) _)
   have f:Hid (Bk W4 w.heap.size 109 zrC):=by rw[<-d];exact(Bk.far l.o (p:=⟨w2.heap.size,2,none⟩) (by show w.heap.size≠w2.heap.size;omega) _)
   have HB4:VF w W4:=by rw[<-d];exact(Below.setCell n.o (p:=⟨w2.heap.size,2,none⟩) (by show w.heap.size<=w2.heap.size;omega) _)
   have M:v4.heap.size<=W4.heap.size:=by rw[<-d];simp[World.setCell]
   have W:=ai ((Apd.setCell B.o (a:=⟨w2.heap.size,2,none⟩) (by show w2.heap.size<_;omega) (.slice A4 L.length K)));rw[d]at W;clear j c l n B;have X:=i;have fU:=HQ;have C:Hid (ObM W4 W4.heap.size ⟨2,⟨#[]⟩,L,zD,[],⟨#[]⟩,0,⟨#[]⟩⟩ ⟨A4,L.length,K,none,0,0⟩):=⟨W.o.sl,Sl.nil _ _ _ _,hn4,hm4,Nat.le_refl _,ZX _⟩
   have F:Hid (Bk W4 w2.heap.size 109 (obC ⟨2,⟨#[]⟩,L,zD,[],⟨#[]⟩,0,⟨#[]⟩⟩ ⟨A4,L.length,K,none,0,0⟩)):=z.o;have Y:w2.heap.size<W4.heap.size:=z.o.lt
   go_upto_region 15 with fail
   try rw[d]
   clear d c0 c1 c2 c3 c4 c5 c6 c7 c8 f2;obtain⟨bs,bad⟩:=q4;simp only at HQ i;obtain⟨q0,q1,_,_⟩:=Bk.two (show Bk W4 (w.heap.size+1) 229 #[.string (ofL bs),.bool bad] from HR4.o);obtain⟨d0,d1,d2,d3,d4,d5,d6,d7,d8⟩:=f.o.nine;obtain⟨f0,f1,f2,f3,f4,f5,f6,f7,f8⟩:=fr9 f.o;cases bad with
   | true =>
     go_wp2_with fail;refine ZW (fE Tryz.results81 rfl (fF f.o _ _ _ _ _ _ _ _ _) rfl) rfl ⟨rfl,fD HB4.o aj _ _ _ _ _ _ _ _ _⟩
   | false =>
     by_cases hbs:bs= []
     . subst hbs
       have D:Hid (¬OkF _):=HQ.o.resolve_left (by simp) |>.resolve_left (by simp);have y:=ai (qf _ _ W4.heap.size W4 C.o aj (i.o rfl) D.o);simp only[obV,obC,zD]at y F;obtain⟨k0,k1,k2,k3,k4,k5,k6,k7,k8⟩:=F.o.nine;have q0':W4.cell? ⟨w.heap.size+1,0,none⟩=some (.string ⟨#[]⟩):=q0;clear q0;go_wp2_with fail;refine y.o.mono ?_;rintro e w8 ⟨⟨x,rfl,hx⟩,hb8⟩;have hxb: (x != 0)=true:=by simpa using hx
       have g:=ai (f.o.below hb8 f.o.lt);have A:VF w w8:=HB4.o.trans (hb8.mono HB4.o.size);clear k0 k1 k2 k3 k4 k5 k6 k7 k8 q0' q1 d0 d1 d2 d3 d4 d5 d6 d7 d8 f0 f1 f2 f3 f4 f5 f6 f7 f8 hb8 y hx;obtain⟨d0,d1,d2,d3,d4,d5,d6,d7,d8⟩:=g.o.nine;obtain⟨f0,f1,f2,f3,f4,f5,f6,f7,f8⟩:=fr9 g.o;go_wp2_with fail;refine ZW (fE Tryz.results81 rfl (fF g.o _ _ _ _ _ _ _ _ _) rfl) rfl ⟨rfl,fD A.o aj _ _ _ _ _ _ _ _ _⟩
     . have hs1: ((ofL bs).toList == ([]:List UInt8))=false:=by
         rw[qp];exact decide_eq_false fun h=>hbs (by have:=congrArg toL h;rw[dE]at this;exact this)
       clear hbs;go_wp2_with fail;refine ZW (fE Tryz.results81 rfl (fF f.o _ _ _ _ _ _ _ _ _) rfl) rfl ⟨rfl,fD HB4.o aj _ _ _ _ _ _ _ _ _⟩
 . have HW3:Hid (w2.alloc (.cells #[.int .i64 3,.string ⟨#[]⟩,.slice none 0 0,.int .u64 0,.int .u64 0,.slice none 0 0,.string ⟨#[]⟩,.int .i64 0,.string ⟨#[]⟩] 109)=W3):=HW3.o
   have u:Hid (Bk W3 w2.heap.size 109 #[.int .i64 3,.string ⟨#[]⟩,.slice none 0 0,.int .u64 0,.int .u64 0,.slice none 0 0,.string ⟨#[]⟩,.int .i64 0,.string ⟨#[]⟩]):=u.o;have c0: (w2.alloc (.cells #[.int .i64 3,.string ⟨#[]⟩,.slice none 0 0,.int .u64 0,.int .u64 0,.slice none 0 0,.string ⟨#[]⟩,.int .i64 0,.string ⟨#[]⟩] 109)).cell? ⟨w2.heap.size,0,none⟩=some (.int .i64 3):=c0;have l1:=uG st;obtain⟨⟨⟨d1,d2⟩,s1⟩,h4⟩:∃x,qD st=x:=⟨_,rfl⟩
   have l2:=Rj (m:=8) uG s1;obtain⟨⟨L,s2⟩,h5⟩:∃x,qLs qD 8 s1=x:=⟨_,rfl⟩
   have l3:=zn s2;obtain⟨⟨t,s3⟩,h6⟩:∃x,qT s2=x:=⟨_,rfl⟩
   have l4:=lW s3;obtain⟨⟨k4,s4⟩,h7⟩:∃x,qN s3=x:=⟨_,rfl⟩
   obtain⟨⟨t5,s5⟩,h8⟩:∃x,qT s4=x:=⟨_,rfl⟩
   have HE:Hid (qO b= (⟨3,⟨#[]⟩,[],(d1,d2),L,ofL t,(k4:Nat),ofL t5⟩,s5)):=by
    show _=_;unfold qO;rw[HX.o];show qC st=_;unfold qC;simp only[h4,h5,h6,h7,h8]
   rw[h4]at l1;rw[h5]at l2;rw[h6]at l3;rw[h7]at l4;simp only at l1 l2 l3 l4;have hst:=HST.o;have m1:Hid (s1.1.length<=1000000):=by show _<=_;omega
   have m2:Hid (s2.1.length<=1000000):=by show _<=_;omega
   have m3:Hid (s3.1.length<=1000000):=by show _<=_;omega
   have m4:Hid (s4.1.length<=1000000):=by show _<=_;omega
   have H4:=ai h4;have H5:=ai h5;have H6:=ai h6;have H7:=ai h7;have H8:=ai h8;rw[HE.o]at HQ i;simp only at HQ i;clear h4 h5 h6 h7 h8 l1 l2 l3 l4 hst HE;have v:=ai (mJ (w.heap.size+1) st W3 HR3.o HST.o);rw[H4.o]at v;simp only at v;go_wp2_with fail;rw[HW3.o];refine v.o.mono ?_;rintro e v4 ⟨rfl,hr,hg⟩;simp only[az];have j:=ai hr;have c:=ai (hg.bk u.o (by show ¬w2.heap.size=w.heap.size+1;omega));have l:=ai (hg.bk HZ3.o (by show ¬w.heap.size=w.heap.size+1;omega));have n:VF w v4:=HB3.o.trans (hg.below (by have:=HB3.o.size;omega) (fun q hq e=>by omega));have S:=hg.size;clear c0 hr hg v HB3 HZ3 u HR3;obtain⟨c0,c1,c2,c3,c4,c5,c6,c7,c8⟩:=c.o.nine;have f3:=c.o.free 3;have f4:=c.o.free 4;obtain⟨W4,d⟩:=NX9 (((v4.setCell ⟨w2.heap.size,3,none⟩ (.int .u64 d1)).setCell ⟨w2.heap.size,4,none⟩ (.int .u64 d2)))
   have z:Hid (Bk W4 w2.heap.size 109 #[.int .i64 3,.string ⟨#[]⟩,.slice none 0 0,.int .u64 d1,.int .u64 d2,.slice none 0 0,.string ⟨#[]⟩,.int .i64 0,.string ⟨#[]⟩]):=by rw[<-d];have:=((c.o.set 3 (.int .u64 d1)).set 4 (.int .u64 d2));show Bk _ _ _ _;simpa using this
   have HR4:Hid (Rds W4 (w.heap.size+1) s1):=by rw[<-d];exact(Bk.far (Bk.far j.o (p:=⟨w2.heap.size,3,none⟩) (by show w.heap.size+1≠w2.heap.size;omega) _) (p:=⟨w2.heap.size,4,none⟩) (by show w.heap.size+1≠w2.heap.size;omega) _)
   have f:Hid (Bk W4 w.heap.size 109 zrC):=by rw[<-d];exact(Bk.far (Bk.far l.o (p:=⟨w2.heap.size,3,none⟩) (by show w.heap.size≠w2.heap.size;omega) _) (p:=⟨w2.heap.size,4,none⟩) (by show w.heap.size≠w2.heap.size;omega) _)
   have HB4:VF w W4:=by rw[<-d];exact(Below.setCell (Below.setCell n.o (p:=⟨w2.heap.size,3,none⟩) (by show w.heap.size<=w2.heap.size;omega) _) (p:=⟨w2.heap.size,4,none⟩) (by show w.heap.size<=w2.heap.size;omega) _)
   have M:v4.heap.size<=W4.heap.size:=by rw[<-d];simp[World.setCell]
   clear j c l n;have O:=ai (CO (w.heap.size+1) s1 W4 HR4.o m1.o);rw[H5.o]at O;simp only at O;go_wp2_with fail;refine O.o.mono ?_;rintro e v5 ⟨A5,E,rfl,gu,iU,hap,hr,hg⟩;have j:=ai hr;have c:=ai (hg.bk z.o (by show ¬w2.heap.size=w.heap.size+1;omega));have l:=ai (hg.bk f.o (by show ¬w.heap.size=w.heap.size+1;omega));have n:VF w v5:=HB4.o.trans (hg.below (by have:=HB4.o.size;omega) (fun q hq e=>by omega));have lg:=hg.size;have B:=ai hap;clear c0 c1 c2 c3 c4 c5 c6 c7 c8;clear hr hg hap O HB4 f z HR4 d;obtain⟨c0,c1,c2,c3,c4,c5,c6,c7,c8⟩:=c.o.nine;have f5:=c.o.free 5;obtain⟨W5,H⟩:=NX9 ((v5.setCell ⟨w2.heap.size,5,none⟩ (.slice A5 L.length E)))
   have Z:Hid (Bk W5 w2.heap.size 109 #[.int .i64 3,.string ⟨#[]⟩,.slice none 0 0,.int .u64 d1,.int .u64 d2,.slice A5 L.length E,.string ⟨#[]⟩,.int .i64 0,.string ⟨#[]⟩]):=by rw[<-H];have:=(c.o.set 5 (.slice A5 L.length E));show Bk _ _ _ _;simpa using this
   have ag:Hid (Rds W5 (w.heap.size+1) s2):=by rw[<-H];exact(Bk.far j.o (p:=⟨w2.heap.size,5,none⟩) (by show w.heap.size+1≠w2.heap.size;omega) _)
   have au:Hid (Bk W5 w.heap.size 109 zrC):=by rw[<-H];exact(Bk.far l.o (p:=⟨w2.heap.size,5,none⟩) (by show w.heap.size≠w2.heap.size;omega) _)
   have T:VF w W5:=by rw[<-H];exact(Below.setCell n.o (p:=⟨w2.heap.size,5,none⟩) (by show w.heap.size<=w2.heap.size;omega) _)
   have lq:v5.heap.size<=W5.heap.size:=by rw[<-H];simp[World.setCell]
   have bf:=ai ((Apd.setCell B.o (a:=⟨w2.heap.size,5,none⟩) (by show w2.heap.size<_;omega) (.slice A5 L.length E)));rw[H]at bf;clear j c l n B;have P:=ai (mM (w.heap.size+1) s2 W5 ag.o m2.o);rw[H6.o]at P;simp only at P;go_wp2_with fail;refine P.o.mono ?_;rintro e v6 ⟨rfl,hr,hg⟩;have j:=ai hr;have c:=ai (hg.bk Z.o (by show ¬w2.heap.size=w.heap.size+1;omega));have l:=ai (hg.bk au.o (by show ¬w.heap.size=w.heap.size+1;omega));have n:VF w v6:=T.o.trans (hg.below (by have:=T.o.size;omega) (fun q hq e=>by omega));have nz:=hg.size;have B:=ai (bf.o.gb hg (by omega));clear c0 c1 c2 c3 c4 c5 c6 c7 c8;clear hr hg P T au Z ag H;obtain⟨c0,c1,c2,c3,c4,c5,c6,c7,c8⟩:=c.o.nine;have f6:=c.o.free 6;obtain⟨W6,I⟩:=NX9 ((v6.setCell ⟨w2.heap.size,6,none⟩ (.string (ofL t))))
   have bg:Hid (Bk W6 w2.heap.size 109 #[.int .i64 3,.string ⟨#[]⟩,.slice none 0 0,.int .u64 d1,.int .u64 d2,.slice A5 L.length E,.string (ofL t),.int .i64 0,.string ⟨#[]⟩]):=by rw[<-I];have:=(c.o.set 6 (.string (ofL t)));show Bk _ _ _ _;simpa using this
   have bn:Hid (Rds W6 (w.heap.size+1) s3):=by rw[<-I];exact(Bk.far j.o (p:=⟨w2.heap.size,6,none⟩) (by show w.heap.size+1≠w2.heap.size;omega) _)
   have bz:Hid (Bk W6 w.heap.size 109 zrC):=by rw[<-I];exact(Bk.far l.o (p:=⟨w2.heap.size,6,none⟩) (by show w.heap.size≠w2.heap.size;omega) _)
   have U:VF w W6:=by rw[<-I];exact(Below.setCell n.o (p:=⟨w2.heap.size,6,none⟩) (by show w.heap.size<=w2.heap.size;omega) _)
   have nO:v6.heap.size<=W6.heap.size:=by rw[<-I];simp[World.setCell]
   have cu:=ai ((Apd.setCell B.o (a:=⟨w2.heap.size,6,none⟩) (by show w2.heap.size<_;omega) (.string (ofL t))));rw[I]at cu;clear j c l n B;have Q:=ai (mO (w.heap.size+1) s3 W6 bn.o m3.o);rw[H7.o]at Q;simp only at Q;go_wp2_with fail;refine Q.o.mono ?_;rintro e v7 ⟨rfl,hr,hg⟩;have j:=ai hr;have c:=ai (hg.bk bg.o (by show ¬w2.heap.size=w.heap.size+1;omega));have l:=ai (hg.bk bz.o (by show ¬w.heap.size=w.heap.size+1;omega));have n:VF w v7:=U.o.trans (hg.below (by have:=U.o.size;omega) (fun q hq e=>by omega));have nU:=hg.size;have B:=ai (cu.o.gb hg (by omega));clear c0 c1 c2 c3 c4 c5 c6 c7 c8;clear hr hg Q U bz bg bn I;obtain⟨c0,c1,c2,c3,c4,c5,c6,c7,c8⟩:=c.o.nine;have f7:=c.o.free 7;obtain⟨W7,J⟩:=NX9 ((v7.setCell ⟨w2.heap.size,7,none⟩ (.int .i64 (k4:Nat))))
   have cO:Hid (Bk W7 w2.heap.size 109 #[.int .i64 3,.string ⟨#[]⟩,.slice none 0 0,.int .u64 d1,.int .u64 d2,.slice A5 L.length E,.string (ofL t),.int .i64 (k4:Nat),.string ⟨#[]⟩]):=by rw[<-J];have:=(c.o.set 7 (.int .i64 (k4:Nat)));show Bk _ _ _ _;simpa using this
   have dn:Hid (Rds W7 (w.heap.size+1) s4):=by rw[<-J];exact(Bk.far j.o (p:=⟨w2.heap.size,7,none⟩) (by show w.heap.size+1≠w2.heap.size;omega) _)
   have dN:Hid (Bk W7 w.heap.size 109 zrC):=by rw[<-J];exact(Bk.far l.o (p:=⟨w2.heap.size,7,none⟩) (by show w.heap.size≠w2.heap.size;omega) _)
   have V:VF w W7:=by rw[<-J];exact(Below.setCell n.o (p:=⟨w2.heap.size,7,none⟩) (by show w.heap.size<=w2.heap.size;omega) _)
   have oO:v7.heap.size<=W7.heap.size:=by rw[<-J];simp[World.setCell]
   have ed:=ai ((Apd.setCell B.o (a:=⟨w2.heap.size,7,none⟩) (by show w2.heap.size<_;omega) (.int .i64 (k4:Nat))));rw[J]at ed;clear j c l n B;have R:=ai (mM (w.heap.size+1) s4 W7 dn.o m4.o);rw[H8.o]at R;simp only at R;go_wp2_with fail;refine R.o.mono ?_;rintro e v8 ⟨rfl,hr,hg⟩;have j:=ai hr;have c:=ai (hg.bk cO.o (by show ¬w2.heap.size=w.heap.size+1;omega));have l:=ai (hg.bk dN.o (by show ¬w.heap.size=w.heap.size+1;omega));have n:VF w v8:=V.o.trans (hg.below (by have:=V.o.size;omega) (fun q hq e=>by omega));have oU:=hg.size;have B:=ai (ed.o.gb hg (by omega));clear c0 c1 c2 c3 c4 c5 c6 c7 c8;clear hr hg R V dN cO dn J;obtain⟨c0,c1,c2,c3,c4,c5,c6,c7,c8⟩:=c.o.nine;have f8:=c.o.free 8;obtain⟨W8,G⟩:=NX9 ((v8.setCell ⟨w2.heap.size,8,none⟩ (.string (ofL t5))))
   have fA:Hid (Bk W8 w2.heap.size 109 #[.int .i64 3,.string ⟨#[]⟩,.slice none 0 0,.int .u64 d1,.int .u64 d2,.slice A5 L.length E,.string (ofL t),.int .i64 (k4:Nat),.string (ofL t5)]):=by rw[<-G];have:=(c.o.set 8 (.string (ofL t5)));show Bk _ _ _ _;simpa using this
   have ku:Hid (Rds W8 (w.heap.size+1) s5):=by rw[<-G];exact(Bk.far j.o (p:=⟨w2.heap.size,8,none⟩) (by show w.heap.size+1≠w2.heap.size;omega) _)
   have g:Hid (Bk W8 w.heap.size 109 zrC):=by rw[<-G];exact(Bk.far l.o (p:=⟨w2.heap.size,8,none⟩) (by show w.heap.size≠w2.heap.size;omega) _)
   have A:VF w W8:=by rw[<-G];exact(Below.setCell n.o (p:=⟨w2.heap.size,8,none⟩) (by show w.heap.size<=w2.heap.size;omega) _)
   have qc:v8.heap.size<=W8.heap.size:=by rw[<-G];simp[World.setCell]
   have fO:=ai ((Apd.setCell B.o (a:=⟨w2.heap.size,8,none⟩) (by show w2.heap.size<_;omega) (.string (ofL t5))));rw[G]at fO;clear j c l n B;have X:=i;have fU:=HQ;have C:Hid (ObM W8 W8.heap.size ⟨3,⟨#[]⟩,[],(d1,d2),L,ofL t,(k4:Nat),ofL t5⟩ ⟨none,0,0,A5,L.length,E⟩):=⟨Sl.nil _ _ _ _,fO.o.sl,Nat.le_refl _,ZX _,gu,iU⟩
   have F:Hid (Bk W8 w2.heap.size 109 (obC ⟨3,⟨#[]⟩,[],(d1,d2),L,ofL t,(k4:Nat),ofL t5⟩ ⟨none,0,0,A5,L.length,E⟩)):=fA.o;have Y:w2.heap.size<W8.heap.size:=fA.o.lt
   go_upto_region 15 with fail
   try rw[G]
   clear G c0 c1 c2 c3 c4 c5 c6 c7 c8 f8;obtain⟨bs,bad⟩:=s5;simp only at HQ i;obtain⟨q0,q1,_,_⟩:=Bk.two (show Bk W8 (w.heap.size+1) 229 #[.string (ofL bs),.bool bad] from ku.o);obtain⟨d0,d1,d2,d3,d4,d5,d6,d7,d8⟩:=g.o.nine;obtain⟨f0,f1,f2,f3,f4,f5,f6,f7,f8⟩:=fr9 g.o;cases bad with
   | true =>
     go_wp2_with fail;refine ZW (fE Tryz.results81 rfl (fF g.o _ _ _ _ _ _ _ _ _) rfl) rfl ⟨rfl,fD A.o aj _ _ _ _ _ _ _ _ _⟩
   | false =>
     by_cases hbs:bs= []
     . subst hbs
       have D:Hid (¬OkF _):=HQ.o.resolve_left (by simp) |>.resolve_left (by simp);have y:=ai (qf _ _ W8.heap.size W8 C.o aj (i.o rfl) D.o);simp only[obV,obC]at y F;obtain⟨k0,k1,k2,k3,k4,k5,k6,k7,k8⟩:=F.o.nine;have q0':W8.cell? ⟨w.heap.size+1,0,none⟩=some (.string ⟨#[]⟩):=q0;clear q0;go_wp2_with fail;refine y.o.mono ?_;rintro e w8 ⟨⟨x,rfl,hx⟩,hb8⟩;have hxb: (x != 0)=true:=by simpa using hx
       have g:=ai (g.o.below hb8 g.o.lt);have A:VF w w8:=A.o.trans (hb8.mono A.o.size);clear k0 k1 k2 k3 k4 k5 k6 k7 k8 q0' q1 d0 d1 d2 d3 d4 d5 d6 d7 d8 f0 f1 f2 f3 f4 f5 f6 f7 f8 hb8 y hx;obtain⟨d0,d1,d2,d3,d4,d5,d6,d7,d8⟩:=g.o.nine;obtain⟨f0,f1,f2,f3,f4,f5,f6,f7,f8⟩:=fr9 g.o;go_wp2_with fail;refine ZW (fE Tryz.results81 rfl (fF g.o _ _ _ _ _ _ _ _ _) rfl) rfl ⟨rfl,fD A.o aj _ _ _ _ _ _ _ _ _⟩
     . have hs1: ((ofL bs).toList == ([]:List UInt8))=false:=by
         rw[qp];exact decide_eq_false fun h=>hbs (by have:=congrArg toL h;rw[dE]at this;exact this)
       clear hbs;go_wp2_with fail;refine ZW (fE Tryz.results81 rfl (fF g.o _ _ _ _ _ _ _ _ _) rfl) rfl ⟨rfl,fD A.o aj _ _ _ _ _ _ _ _ _⟩
 . have HE:Hid (qO b= (⟨(k:Nat),⟨#[]⟩,[],zD,[],⟨#[]⟩,0,⟨#[]⟩⟩,st)):=by
     show _=_;unfold qO;rw[HX.o];simp only;rw[if_neg (by omega),if_neg (by omega),if_neg (by omega)]
   rw[HE.o]at HQ i;simp only at HQ i;have k1: (((k:Nat):Int) == 1)=false:=by rw[beq_eq_false_iff_ne];omega
   have k2: (((k:Nat):Int) == 2)=false:=by rw[beq_eq_false_iff_ne];omega
   have k3: (((k:Nat):Int) == 3)=false:=by rw[beq_eq_false_iff_ne];omega
   have k4: (((k:Nat):Int) == 4)=false:=by rw[beq_eq_false_iff_ne];omega
   have HR4:=HR3;have f:=HZ3;have HB4:=HB3;have M:w2.heap.size<W3.heap.size:=u.o.lt;have z:Hid (Bk W3 w2.heap.size 109 (obC ⟨(k:Nat),⟨#[]⟩,[],zD,[],⟨#[]⟩,0,⟨#[]⟩⟩ ⟨none,0,0,none,0,0⟩)):=u.o;have C:Hid (ObM W3 W3.heap.size ⟨(k:Nat),⟨#[]⟩,[],zD,[],⟨#[]⟩,0,⟨#[]⟩⟩ ⟨none,0,0,none,0,0⟩):=⟨Sl.nil _ _ _ _,Sl.nil _ _ _ _,Nat.le_refl _,ZX _,Nat.le_refl _,ZX _⟩
   go_upto_region 15 with fail
   rw[HW3.o];obtain⟨W4,d⟩:=NX9 W3
   rw[d]at HR4 f HB4 z C M ⊢;obtain⟨q4,hq4⟩:=NX9 st
   rw[hq4]at HR4 HQ i;clear d c0 k1 k2 k3 k4 HR3 HZ3 HB3 u HE HST hq4;obtain⟨bs,bad⟩:=q4;simp only at HQ i;obtain⟨q0,q1,_,_⟩:=Bk.two (show Bk W4 (w.heap.size+1) 229 #[.string (ofL bs),.bool bad] from HR4.o);obtain⟨d0,d1,d2,d3,d4,d5,d6,d7,d8⟩:=f.o.nine;obtain⟨f0,f1,f2,f3,f4,f5,f6,f7,f8⟩:=fr9 f.o;cases bad with
   | true =>
     go_wp2_with fail;refine ZW (fE Tryz.results81 rfl (fF f.o _ _ _ _ _ _ _ _ _) rfl) rfl ⟨rfl,fD HB4.o aj _ _ _ _ _ _ _ _ _⟩
   | false =>
     by_cases hbs:bs= []
     . subst hbs
       have D:Hid (¬OkF _):=HQ.o.resolve_left (by simp) |>.resolve_left (by simp);have y:=ai (qf _ _ W4.heap.size W4 C.o aj (i.o rfl) D.o);simp only[obV,obC,zD]at y z;obtain⟨k0,k1,k2,k3,k4,k5,k6,k7,k8⟩:=z.o.nine;have q0':W4.cell? ⟨w.heap.size+1,0,none⟩=some (.string ⟨#[]⟩):=q0;clear q0;go_wp2_with fail;refine y.o.mono ?_;rintro e w8 ⟨⟨x,rfl,hx⟩,hb8⟩;have hxb: (x != 0)=true:=by simpa using hx
       have g:=ai (f.o.below hb8 f.o.lt);have A:VF w w8:=HB4.o.trans (hb8.mono HB4.o.size);clear k0 k1 k2 k3 k4 k5 k6 k7 k8 q0' q1 d0 d1 d2 d3 d4 d5 d6 d7 d8 f0 f1 f2 f3 f4 f5 f6 f7 f8 hb8 y hx;obtain⟨d0,d1,d2,d3,d4,d5,d6,d7,d8⟩:=g.o.nine;obtain⟨f0,f1,f2,f3,f4,f5,f6,f7,f8⟩:=fr9 g.o;go_wp2_with fail;refine ZW (fE Tryz.results81 rfl (fF g.o _ _ _ _ _ _ _ _ _) rfl) rfl ⟨rfl,fD A.o aj _ _ _ _ _ _ _ _ _⟩
     . have hs1: ((ofL bs).toList == ([]:List UInt8))=false:=by
         rw[qp];exact decide_eq_false fun h=>hbs (by have:=congrArg toL h;rw[dE]at this;exact this)
       clear hbs;go_wp2_with fail;refine ZW (fE Tryz.results81 rfl (fF f.o _ _ _ _ _ _ _ _ _) rfl) rfl ⟨rfl,fD HB4.o aj _ _ _ _ _ _ _ _ _⟩
theorem Oz(x:Itm)(w:VA)(hx:∃o,OkO o/\x.2=ofL (aI o))(hd:x.1=ofB (toL x.2)) :
  Calls Tryz.prog 72 #[itV x] w fun e w'=>e= .returned (.int .i64 0)/\VE w w':=by
 obtain⟨⟨d1,d2⟩,s⟩:=x;obtain⟨o,ho,hs⟩:=hx;simp only at hs hd;have hsz:s.size<=maxLen:=by rw[hs,bU];have:=ho.len;unfold maxLen;omega
 have a:=ai (fun W=>uC s W hsz);unfold og at a;rw[<-hd]at a;obtain⟨W,hW⟩:=NX9 (w.alloc (.cells #[.int .u64 d1,.int .u64 d2,.string s] 118))
 have HB0:VF w W:=by rw[<-hW];exact(ah _ w).alloc aj _
 have HK:Hid (Bk W w.heap.size 118 #[.int .u64 d1,.int .u64 d2,.string s]):=by rw[<-hW];exact Bk.new w _ _
 have f:w.heap.size<W.heap.size:=HK.o.lt;have HD:=ai (rH o W ho);rw[<-hs]at HD;unfold OdE at HD;simp only[az,itV]at a ⊢;obtain⟨x0,x1,x2⟩:=HK.o.three;have HW:=ai hW;rw[<-hW]at x0 x1 x2;clear hs hd hsz hW ho
 go_enter Tryz.func72,Tryz.ntmps72
 go_wp2_with fail;rw[HW.o];refine HD.o.mono ?_;rintro e w2 ⟨sl,rfl,_,hb,_⟩;have b:=ai (HK.o.below hb f);have HB2:VF w w2:=HB0.o.trans (hb.mono HB0.o.size);clear hb HD x0 x1 x2 HW;simp only[obV,obC];obtain⟨W3,hW3⟩:=NX9 (w2.alloc (.cells #[.int .i64 o.kind,.string o.data,.slice sl.eA sl.en sl.ec,.int .u64 o.tree.1,.int .u64 o.tree.2,.slice sl.pA sl.pn sl.pc,.string o.auth,.int .i64 o.time,.string o.msg] 109))
 have hb3:VE w2 W3:=by rw[<-hW3];exact(ah _ w2).alloc aj _
 have HB3:VF w W3:=HB2.o.trans (hb3.mono HB2.o.size);have c:=ai (b.o.below hb3 b.o.lt);have g:w.heap.size<W3.heap.size:=c.o.lt;obtain⟨k0,k1,k2⟩:=c.o.three;have hdd: (d1 != d1 || d2 != d2)=false:=by simp
 have hde: (d1 == d1 && d2 == d2)=true:=by simp
 clear hb3 HB2 b;go_wp2_with fail;clear hW3
 go_region_held3 (fun w'=>w'.cell? ⟨w.heap.size,0,none⟩=some (.int .u64 d1)/\w'.cell? ⟨w.heap.size,1,none⟩=some (.int .u64 d2)/\w'.cell? ⟨w.heap.size,2,none⟩=some (.string s))
  (first | exact⟨k0,k1,k2⟩ | exact⟨m0.o,m1.o,m2.o⟩)
  (first
    | (go_at_call 126;refine(a.o _).mono ?_;rintro e w7 ⟨rfl,hb2⟩
       have m0:=ai ((hb2.cell (p:=⟨w.heap.size,0,none⟩) (by show w.heap.size<_;simp;omega)).trans k0);have m1:=ai ((hb2.cell (p:=⟨w.heap.size,1,none⟩) (by show w.heap.size<_;simp;omega)).trans k1);have m2:=ai ((hb2.cell (p:=⟨w.heap.size,2,none⟩) (by show w.heap.size<_;simp;omega)).trans k2);have hR:VF W3 w7:=(ah _ W3).drew.trans hb2;clear hb2))
 have d:VF w w7:=HB3.o.trans (hR.o.mono HB3.o.size);clear m0 m1 m2 k0 k1 k2 hR HB3;go_wp2_with fail;go_ret
 exact⟨rfl,d.o⟩
theorem QW(x:Itm)(w:VA)(hx:∃o,OkO o/\x.2=ofL (aI o))(hd:x.1≠ofB (toL x.2)) :
  Calls Tryz.prog 72 #[itV x] w fun e w'=>e= .returned (.int .i64 15)/\VE w w':=by
 obtain⟨⟨d1,d2⟩,s⟩:=x;obtain⟨o,ho,hs⟩:=hx;simp only at hs hd;obtain⟨⟨r1,r2⟩,hrr⟩:∃r,ofB (toL s)=r:=⟨_,rfl⟩
 rw[hrr]at hd;have hsz:s.size<=maxLen:=by rw[hs,bU];have:=ho.len;unfold maxLen;omega
 have a:=ai (fun W=>uC s W hsz);unfold og at a;rw[hrr]at a;have hdf: (r1 == d1 && r2 == d2)=false:=by
  rw[Bool.eq_false_iff];intro h;rw[Bool.and_eq_true,beq_iff_eq,beq_iff_eq]at h;exact hd (Prod.ext h.1.symm h.2.symm)
 have hdt: (r1 != d1 || r2 != d2)=true:=by
  rw[Bool.or_eq_true,bne_iff_ne,bne_iff_ne];refine Classical.byContradiction fun h=>?_;rw[not_or,ne_eq,ne_eq,Decidable.not_not,Decidable.not_not]at h;exact hd (Prod.ext h.1.symm h.2.symm)
 obtain⟨W,hW⟩:=NX9 (w.alloc (.cells #[.int .u64 d1,.int .u64 d2,.string s] 118))
 have HB0:VF w W:=by rw[<-hW];exact(ah _ w).alloc aj _
 have HK:Hid (Bk W w.heap.size 118 #[.int .u64 d1,.int .u64 d2,.string s]):=by rw[<-hW];exact Bk.new w _ _
 have f:w.heap.size<W.heap.size:=HK.o.lt;have HD:=ai (rH o W ho);rw[<-hs]at HD;unfold OdE at HD;simp only[az,itV]at a ⊢;obtain⟨x0,x1,x2⟩:=HK.o.three;have HW:=ai hW;rw[<-hW]at x0 x1 x2;clear hs hd hsz hW ho hrr
 go_enter Tryz.func72,Tryz.ntmps72
 go_wp2_with fail;rw[HW.o];refine HD.o.mono ?_;rintro e w2 ⟨sl,rfl,_,hb,_⟩;have b:=ai (HK.o.below hb f);have HB2:VF w w2:=HB0.o.trans (hb.mono HB0.o.size);clear hb HD x0 x1 x2 HW;simp only[obV,obC];obtain⟨W3,hW3⟩:=NX9 (w2.alloc (.cells #[.int .i64 o.kind,.string o.data,.slice sl.eA sl.en sl.ec,.int .u64 o.tree.1,.int .u64 o.tree.2,.slice sl.pA sl.pn sl.pc,.string o.auth,.int .i64 o.time,.string o.msg] 109))
 have hb3:VE w2 W3:=by rw[<-hW3];exact(ah _ w2).alloc aj _
 have HB3:VF w W3:=HB2.o.trans (hb3.mono HB2.o.size);have c:=ai (b.o.below hb3 b.o.lt);have g:w.heap.size<W3.heap.size:=c.o.lt;obtain⟨k0,k1,k2⟩:=c.o.three;clear hb3 HB2 b;go_wp2_with fail;clear hW3
 go_region_held3 (fun w'=>w'.cell? ⟨w.heap.size,0,none⟩=some (.int .u64 d1)/\w'.cell? ⟨w.heap.size,1,none⟩=some (.int .u64 d2)/\w'.cell? ⟨w.heap.size,2,none⟩=some (.string s))
  (first | exact⟨k0,k1,k2⟩ | exact⟨m0.o,m1.o,m2.o⟩)
  (first
    | (go_at_call 126;refine(a.o _).mono ?_;rintro e w7 ⟨rfl,hb2⟩
       have m0:=ai ((hb2.cell (p:=⟨w.heap.size,0,none⟩) (by show w.heap.size<_;simp;omega)).trans k0);have m1:=ai ((hb2.cell (p:=⟨w.heap.size,1,none⟩) (by show w.heap.size<_;simp;omega)).trans k1);have m2:=ai ((hb2.cell (p:=⟨w.heap.size,2,none⟩) (by show w.heap.size<_;simp;omega)).trans k2);have hR:VF W3 w7:=(ah _ W3).drew.trans hb2;clear hb2))
 have d:VF w w7:=HB3.o.trans (hR.o.mono HB3.o.size);clear m0 m1 m2 k0 k1 k2 hR HB3;go_wp2_with fail;go_ret
 exact⟨rfl,d.o⟩
theorem O8(x:Itm)(w:VA)(hs:x.2.size<=65536)(hx:¬∃o,OkO o/\x.2=ofL (aI o)) :
  Calls Tryz.prog 72 #[itV x] w fun e w'=>e= .returned (.int .i64 13)/\VE w w':=by
 obtain⟨⟨d1,d2⟩,s⟩:=x;simp only at hs hx;obtain⟨W,hW⟩:=NX9 (w.alloc (.cells #[.int .u64 d1,.int .u64 d2,.string s] 118))
 have HB0:VF w W:=by rw[<-hW];exact(ah _ w).alloc aj _
 have HK:Hid (Bk W w.heap.size 118 #[.int .u64 d1,.int .u64 d2,.string s]):=by rw[<-hW];exact Bk.new w _ _
 have HD:=ai (KG (toL s) W (by rw[<-aQ];exact hs) (fun⟨o,ho,he⟩=>hx ⟨o,ho,by rw[<-he,jd]⟩));rw[jd]at HD;unfold KdE at HD;obtain⟨x0,x1,x2⟩:=HK.o.three;have HW:=ai hW;rw[<-hW]at x0 x1 x2;simp only[itV];clear hs hx hW
 go_enter Tryz.func72,Tryz.ntmps72
 go_wp2_with fail;rw[HW.o];refine HD.o.mono ?_;rintro e w2 ⟨rfl,hb⟩;have HB2:Hid (VE w (w2.alloc (.cells #[.int .i64 0,.string ⟨#[]⟩,.slice none 0 0,.int .u64 0,.int .u64 0,.slice none 0 0,.string ⟨#[]⟩,.int .i64 0,.string ⟨#[]⟩] 109))):=(HB0.o.trans (hb.mono HB0.o.size)).alloc (by have:=hb.size;have:=HB0.o.size;omega) _;clear hb HD x0 x1 x2 HW;go_wp2_with fail;go_ret
 exact⟨rfl,HB2.o⟩
theorem OG(x:Itm)(w:VA)(hs:x.2.size<=65536) :
  Calls Tryz.prog 72 #[itV x] w fun e w'=>(∃z:Int,e= .returned (.int .i64 z)/\ (z=0↔ (∃o,OkO o/\x.2=ofL (aI o))/\x.1=ofB (toL x.2))/\z≠20)/\VE w w':=by
 by_cases he:∃o,OkO o/\x.2=ofL (aI o)
 . by_cases hd:x.1=ofB (toL x.2)
   . exact(Oz x w he hd).mono (by rintro e w' ⟨rfl,hb⟩;exact⟨⟨0,rfl,⟨fun _=>⟨he,hd⟩,fun _=>rfl⟩,by decide⟩,hb⟩)
   . exact(QW x w he hd).mono (by rintro e w' ⟨rfl,hb⟩;exact⟨⟨15,rfl,⟨fun h=>absurd h (by decide),fun h=>absurd h.2 hd⟩,by decide⟩,hb⟩)
 . exact(O8 x w hs he).mono (by rintro e w' ⟨rfl,hb⟩;exact⟨⟨13,rfl,⟨fun h=>absurd h (by decide),fun h=>absurd h.1 he⟩,by decide⟩,hb⟩)
theorem CX{p:List Itm}{k:Nat}{x:Itm}(h:PlOk (p.take k))(hx:p[k]? =some x)(he:∃o,OkO o/\x.2=ofL (aI o))(hd:x.1=ofB (toL x.2))(hp:∀y,0<k->p[k - 1]? =some y->ltD y.1 x.1):PlOk (p.take (k+1)):=by
 rw[aV hx];refine⟨fun i hi=>?_,fun i hi=>?_,?_⟩
 . rcases List.mem_append.1 hi with hi | hi
   . exact h.enc i hi
   . rw[List.mem_singleton.1 hi];exact he
 . rcases List.mem_append.1 hi with hi | hi
   . exact h.dg i hi
   . rw[List.mem_singleton.1 hi];exact hd
 . rw[List.pairwise_append]
   refine⟨h.asc,List.pairwise_singleton _ _,fun a ha b hb=>?_⟩;rw[List.mem_singleton.1 hb];have hk0:0<k:=by
    rcases Nat.eq_zero_or_pos k with h0 | h0
    . subst h0;simp at ha
    . exact h0
   have hkl:=(List.getElem?_eq_some_iff.1 hx).1;have hy:p[k - 1]? =some (p[k - 1]'(by omega)):=Z5 _;have hlast:=hp _ hk0 hy;obtain⟨j,hj,e⟩:=List.getElem_of_mem ha;rw[List.length_take]at hj;rw[List.getElem_take]at e;rcases Nat.lt_or_ge j (k - 1) with h1 | h1
   . have hasc:=h.asc
     rw[List.pairwise_iff_getElem]at hasc;have h2:=hasc j (k - 1) (by rw[List.length_take];omega) (by rw[List.length_take];omega) h1;rw[List.getElem_take,List.getElem_take,e]at h2;exact jY h2 hlast
   . have:j=k - 1:=by omega
     subst this;rw[<-e];exact hlast
theorem LJ(A:OA)(n c B:Nat)(p:List Itm)(w:VA)(h0:Sl w B 3 A n (flat itC p))(hB:B<=w.heap.size)(hn:n<=1000000)(hsz:∀i∈p,i.2.size<=65536) :
  Calls Tryz.prog 33 #[.slice A n c] w fun e w'=>∃x:Int,e= .returned (.int .i64 x)/\ (x=0↔PlOk p)/\x≠20/\VE w w':=by
 have HL:=ai (h0.len dD (by omega));have H0:=ai h0;have L:=ai hsz;clear h0 hsz
 go_enter Tryz.func33,Tryz.ntmps33
 go_wp2_with fail
 go_loopw[8] (fun i wr=>∃k:Nat,k<=n/\i= .int .i64 (k:Int)/\VF w wr/\Hid (PlOk (p.take k))) (fun i _=>n - (intOf i).toNat)
 case atStart=>exact⟨0,ZX _,rfl,ah _ _,PlOk.nil⟩
 case round =>
  obtain⟨k,hk,rfl,hBel,D⟩:=hrel;have o:=ai D.o;clear D;by_cases hlt:k<n
  . have hlz: (k:Int)< (n:Int):=by omega
    obtain⟨b,off,x,rfl,hb,hx,y0,y1,y2⟩:=(H0.o.below hBel.o hB).it hlt;have HX:=ai hx;have hmem:=Z7 hx;have s:=ai hmem;have M:=ai (L.o x hmem);have f:=ai hBel.o;clear hx hmem hBel;obtain⟨⟨x1,x2⟩,xs⟩:=x;simp only at y0 y1 y2;obtain⟨W6,g⟩:=NX9 (wr.alloc (.cells #[.int .u64 x1,.int .u64 x2,.string xs] 118))
    have hb6:VE wr W6:=by rw[<-g];exact(ah _ wr).alloc aj _
    have u:VF w W6:=f.o.trans (hb6.mono f.o.size);have q:Hid (Bk W6 wr.heap.size 118 #[.int .u64 x1,.int .u64 x2,.string xs]):=by rw[<-g];exact Bk.new wr _ _
    have HC:=ai (OG ((x1,x2),xs) W6 M.o);simp only[itV]at HC;have Q:wr.heap.size<W6.heap.size:=q.o.lt;have zr:w.heap.size<=wr.heap.size:=f.o.size;obtain⟨E,F,G⟩:=q.o.three;have H:=ai g;rw[<-g]at E F G;clear hb6 g f;go_wp2_with fail;rw[H.o];refine HC.o.mono ?_;rintro e w7 ⟨⟨z,rfl,hz,l⟩,hb7⟩;have HZ:=ai hz;have t:=ai l;have a:VF w w7:=u.o.trans (hb7.mono u.o.size);have I:=ai (q.o.below hb7 Q);have R:wr.heap.size<w7.heap.size:=I.o.lt;obtain⟨k0,k1,k2⟩:=I.o.three;clear hb7 HC u q H E F G y0 y1 y2;by_cases hz0:z=0
    case neg =>
     have hzb: (z != 0)=true:=by simpa using hz0
     have J:=ai hz0;clear hz0 hz l;go_wp2_with fail;go_ret
     exact⟨z,rfl,⟨fun h=>absurd h J.o,fun h=>absurd (HZ.o.2 ⟨h.enc _ s.o,h.dg _ s.o⟩) J.o⟩,t.o,a.o⟩
    subst hz0;have r:=ai (HZ.o.1 rfl);clear hz l HZ t;by_cases hk0:k=0
    . subst hk0
      go_wp2_with fail
      go_quiet(fail)
      go_wp2_with fail;go_roundw
      case rel=>exact⟨0+1,hlt,by go_num,cZ a.o _,CX o.o HX.o r.o.1 r.o.2 (fun y h=>absurd h (by omega))⟩
      case measure=>simp[intOf];omega
    . obtain⟨j,rfl⟩:∃j,k=j+1:=⟨k - 1,by omega⟩
      obtain⟨b3,O,y,hA3,hb3,hy,z0,z1,z2⟩:=(H0.o.below a.o hB).it (k:=j) (by omega);injection hA3 with hA3;injection hA3 with hA3 hA4;subst hA3;subst hA4;have hcs: (dH (x1,x2) y.1=1/\ltD y.1 (x1,x2))∨ (dH (x1,x2) y.1=0/\¬ltD y.1 (x1,x2))∨ (dH (x1,x2) y.1= -1/\¬ltD y.1 (x1,x2)):=by
       unfold dH;by_cases e1: (x1,x2)=y.1
       . rw[if_pos e1];exact .inr (.inl ⟨rfl,fun h=>ja _ (by rw[e1]at h;exact h)⟩)
       . rw[if_neg e1]
         by_cases e2:ltD (x1,x2) y.1
         . rw[if_pos e2];exact .inr (.inr ⟨rfl,fun h=>ja _ (jY h e2)⟩)
         . rw[if_neg e2]
           refine .inl ⟨rfl,Classical.byContradiction fun h=>e1 (nC e2 h)⟩
      have P:=ai hy;have v:Hid (¬ltD y.1 (x1,x2)->¬PlOk p):=fun hn hp=>hn (by
       have h1:=hp.asc;rw[List.pairwise_iff_getElem]at h1;obtain⟨l1,e1⟩:=List.getElem?_eq_some_iff.1 P.o;obtain⟨l2,e2⟩:=List.getElem?_eq_some_iff.1 HX.o;have h2:=h1 j (j+1) l1 l2 (by omega);rw[e1,e2]at h2;exact h2)
      have K:Hid (ltD y.1 (x1,x2)->PlOk (p.take (j+1+1))):=fun hn=>CX o.o HX.o r.o.1 r.o.2 (fun y' _ h=>by
       have h:p[j]? =some y':=h;rw[P.o]at h;cases h;exact hn)
      clear hy;obtain⟨⟨y1',y2'⟩,ys⟩:=y;simp only at z0 z1 z2 hcs v K;have hj1:IntKind.i64.wrap (j:Int)= (j:Int):=by rw[IntKind.wrap_i64];omega
      have hjn:j<n:=by omega
      have hj2: (j:Int)+1< (n:Int):=by omega
      have hj3: (0:Int)<= (j:Int)+1:=by omega
      have S: ((j:Int)+1).toNat=j+1:=by omega
      have T: (0:Int)< (j:Int)+1:=by omega
      have HCM:=ai (fun W=>xC (x1,x2) (y1',y2') W);rcases hcs with ⟨hcz,hlt2⟩ | ⟨hcz,hlt2⟩ | ⟨hcz,hlt2⟩
      . unfold CmE at HCM
        rw[hcz]at HCM;simp only[az]at HCM;have zb:b<w7.heap.size:=by omega
        clear hcz;go_wp2_with fail
        go_region_held3 (fun w'=>w'.cell? ⟨b,off+j*3,none⟩=some (.int .u64 y1')/\w'.cell? ⟨b,off+j*3+1,none⟩=some (.int .u64 y2')/\w'.cell? ⟨wr.heap.size,0,none⟩=some (.int .u64 x1)/\w'.cell? ⟨wr.heap.size,1,none⟩=some (.int .u64 x2))
         (first | exact⟨z0,z1,k0,k1⟩ | exact⟨n0.o,n1.o,n2.o,n3.o⟩)
         (first
           | (go_at_call 55;refine(HCM.o _).mono ?_;rintro e w8 ⟨rfl,hb8⟩
              have n0:=ai ((hb8.cell (p:=⟨b,off+j*3,none⟩) (by show b<_;simp;omega)).trans z0);have n1:=ai ((hb8.cell (p:=⟨b,off+j*3+1,none⟩) (by show b<_;simp;omega)).trans z1);have n2:=ai ((hb8.cell (p:=⟨wr.heap.size,0,none⟩) (by show wr.heap.size<_;simp;omega)).trans k0);have n3:=ai ((hb8.cell (p:=⟨wr.heap.size,1,none⟩) (by show wr.heap.size<_;simp;omega)).trans k1);have d:VF w7 w8:=(ah _ w7).drew.trans hb8;clear hb8))
        have m:VF w w8:=a.o.trans (d.o.mono a.o.size);clear n0 n1 n2 n3 z0 z1 z2 k0 k1 k2 d;have HS2:=ai (K.o hlt2);go_wp2_with fail;go_roundw
        case rel=>exact⟨j+1+1,hlt,by go_num,m.o,HS2.o⟩
        case measure=>simp[intOf];omega
      . unfold CmE at HCM
        rw[hcz]at HCM;simp only[az]at HCM;have zb:b<w7.heap.size:=by omega
        clear hcz;go_wp2_with fail
        go_region_held3 (fun w'=>w'.cell? ⟨b,off+j*3,none⟩=some (.int .u64 y1')/\w'.cell? ⟨b,off+j*3+1,none⟩=some (.int .u64 y2')/\w'.cell? ⟨wr.heap.size,0,none⟩=some (.int .u64 x1)/\w'.cell? ⟨wr.heap.size,1,none⟩=some (.int .u64 x2))
         (first | exact⟨z0,z1,k0,k1⟩ | exact⟨n0.o,n1.o,n2.o,n3.o⟩)
         (first
           | (go_at_call 55;refine(HCM.o _).mono ?_;rintro e w8 ⟨rfl,hb8⟩
              have n0:=ai ((hb8.cell (p:=⟨b,off+j*3,none⟩) (by show b<_;simp;omega)).trans z0);have n1:=ai ((hb8.cell (p:=⟨b,off+j*3+1,none⟩) (by show b<_;simp;omega)).trans z1);have n2:=ai ((hb8.cell (p:=⟨wr.heap.size,0,none⟩) (by show wr.heap.size<_;simp;omega)).trans k0);have n3:=ai ((hb8.cell (p:=⟨wr.heap.size,1,none⟩) (by show wr.heap.size<_;simp;omega)).trans k1);have d:VF w7 w8:=(ah _ w7).drew.trans hb8;clear hb8))
        have m:VF w w8:=a.o.trans (d.o.mono a.o.size);clear n0 n1 n2 n3 z0 z1 z2 k0 k1 k2 d;have C:=ai (v.o hlt2);go_wp2_with fail;go_ret
        exact⟨10,rfl,⟨fun h=>absurd h (by decide),fun h=>absurd h C.o⟩,by decide,m.o⟩
      . unfold CmE at HCM
        rw[hcz]at HCM;simp only[az]at HCM;have zb:b<w7.heap.size:=by omega
        clear hcz;go_wp2_with fail
        go_region_held3 (fun w'=>w'.cell? ⟨b,off+j*3,none⟩=some (.int .u64 y1')/\w'.cell? ⟨b,off+j*3+1,none⟩=some (.int .u64 y2')/\w'.cell? ⟨wr.heap.size,0,none⟩=some (.int .u64 x1)/\w'.cell? ⟨wr.heap.size,1,none⟩=some (.int .u64 x2))
         (first | exact⟨z0,z1,k0,k1⟩ | exact⟨n0.o,n1.o,n2.o,n3.o⟩)
         (first
           | (go_at_call 55;refine(HCM.o _).mono ?_;rintro e w8 ⟨rfl,hb8⟩
              have n0:=ai ((hb8.cell (p:=⟨b,off+j*3,none⟩) (by show b<_;simp;omega)).trans z0);have n1:=ai ((hb8.cell (p:=⟨b,off+j*3+1,none⟩) (by show b<_;simp;omega)).trans z1);have n2:=ai ((hb8.cell (p:=⟨wr.heap.size,0,none⟩) (by show wr.heap.size<_;simp;omega)).trans k0);have n3:=ai ((hb8.cell (p:=⟨wr.heap.size,1,none⟩) (by show wr.heap.size<_;simp;omega)).trans k1);have d:VF w7 w8:=(ah _ w7).drew.trans hb8;clear hb8))
        have m:VF w w8:=a.o.trans (d.o.mono a.o.size);clear n0 n1 n2 n3 z0 z1 z2 k0 k1 k2 d;have C:=ai (v.o hlt2);go_wp2_with fail;go_ret
        exact⟨10,rfl,⟨fun h=>absurd h (by decide),fun h=>absurd h C.o⟩,by decide,m.o⟩
  . have hlz:¬(k:Int)< (n:Int):=by omega
    have f:=ai hBel.o;clear hBel;have hkn:k=n:=by omega
    have N:Hid (p.take k=p):=ZU (by rw[HL.o];omega);rw[N.o]at o;clear hkn;go_wp2_with fail;go_ret
    exact⟨0,rfl,⟨fun _=>o.o,fun _=>rfl⟩,by decide,f.o⟩
theorem uO:kF:=fun A n c B q w h0 hB hn hsz _=>LJ A n c B q w h0 hB (by omega) hsz
theorem DV{s:VB}{d:Dig}{x:Rf}(hn:x.1≠s):∀{l:List Rf},x∈l->x∈bZ l s d
 | [],h=>by cases h
 | r::l,h=>by
   rw[bZ];split
   . rcases List.mem_cons.1 h with rfl | h
     . exact List.mem_cons_self
     . exact List.mem_cons_of_mem _ (DV hn h)
   . refine List.mem_append_right _ ?_
     split
     . rename_i he
       rcases List.mem_cons.1 h with rfl | h
       . exact absurd he hn
       . exact h
     . exact h
theorem ES{p q:List Itm}(hp:PlOk p)(hq:PlOk q)(hs:subP p q){x:Dig}{o:Ob}(hm:¬Miss p [x])(h:aC q x=some o):aC p x=some o:=by
 cases hg:aC p x with
 | none=>exact absurd ⟨x,qi hq h,.root (List.mem_singleton.2 rfl),hg⟩ hm
 | some o'=>rw[<-h,EM hq hp hs hg]
theorem Gh{p:List Itm}{d x:Dig}{o:Ob}(hd:aC p d=some o)(hx:x∈df o)(hm:¬Miss p [d]):¬Miss p [x]:=by
 rintro ⟨y,h1,h2,h3⟩;refine hm ⟨y,h1,?_,h3⟩;clear h1 h3
 induction h2 with
 | root h=>rw[List.mem_singleton.1 h];exact .link (.root (List.mem_singleton.2 rfl)) hd hx
 | link _ g m ih=>exact .link ih g m
theorem Std.down{p q:List Itm}(hp:PlOk p)(hq:PlOk q)(hs:subP p q):∀(k:Nat)(d:Dig)(l:List Fl),¬Miss p [d]->Std q k d l->Std p k d l
 | 0,_,_,_,h=>h
 | k+1,d,l,hm,h=>by
   obtain⟨es,h1,h2,h3⟩:=h;have hd:=ES hp hq hs hm h1;refine⟨es,hd,h2,fun e he=>?_⟩;have hme:¬Miss p [e.dg]:=Gh hd (List.mem_append_left _ (List.mem_map.2 ⟨e,he,rfl⟩)) hm;rcases h3 e he with ⟨a,s,b,c⟩ | ⟨a,b,c,f⟩
   . exact .inl ⟨a,s,b,ES hp hq hs hme c⟩
   . exact .inr ⟨a,b,c,Std.down hp hq hs k _ _ hme f⟩
structure CmQ(r q:Rp)(nm:VB)(l:List Fl):Prop where
 n:q.d.ss.length<=100
 lv:∃gs a u,Lvs q gs a u
 again:∀au ms tm,eU q.p q.rs q.lg nm l au ms tm= (.keep,zD)
 get:∃d o,aW q.rs q.lg nm= (d,0)/\aC q.p d=some o/\kY q.p o.tree l
 keep:∀x∈r.rs,x.1≠nm->x∈q.rs
theorem SV{p q p':List Itm}{rs rs':List Rf}{lg lg' us:List Upd}{g:Gru}(h:dm p rs lg q us= .app g p' rs' lg'):PlOk q/\¬jM p q/\ (di rs lg us).2.2=0/\p'=oq p q/\rs'= (di rs lg us).1/\lg'=lg++us:=by
 unfold dm at h;split at h
 . rename_i hc
   split at h
   . cases h
   . injection h with h1 h2 h3 h4
     exact⟨hc.1,hc.2.1,hc.2.2.1,h2.symm,h3.symm,h4.symm⟩
 . cases h
theorem Rt{p q:List Itm}{rs:List Rf}{lg:List Upd}{u:Upd}:dm p rs lg q [u]= .no∨∃g p' rs' lg',dm p rs lg q [u]= .app g p' rs' lg':=by
 unfold dm;split
 . rw[if_neg (fun h=>by cases h.2)]
   exact .inr ⟨_,_,_,_,rfl⟩
 . exact .inl rfl
theorem F9{rs:List Rf}{lg:List Upd}{nm:VB}(h: (aW rs lg nm).1≠zD): (aW rs lg nm).2=0/\ (aW rs lg nm).1=dB rs nm:=by
 unfold aW at h ⊢;split
 . rename_i h1;rw[if_pos h1]at h;exact absurd rfl h
 . rename_i h1;rw[if_neg h1]at h
   split
   . rename_i h2;rw[if_pos h2]at h
     split
     . rename_i h3;rw[if_pos h3]at h;exact absurd rfl h
     . exact⟨rfl,rfl⟩
   . rename_i h2;rw[if_neg h2]at h;exact absurd rfl h
theorem Gf{nm:VB}:∀{l:List Rf},dB l nm≠zD-> (nm,dB l nm)∈l
 | [],h=>absurd rfl h
 | r::l,h=>by
   rw[dB]at h ⊢;split
   . rename_i he;exact List.mem_cons.2 (.inl (by rw[<-he]))
   . rename_i he;rw[if_neg he]at h;exact List.mem_cons_of_mem _ (Gf h)
theorem O6{rs:List Rf}{lg:List Upd}{u:Upd}(hc:bu rs lg=0)(h: (di rs lg [u]).2.2=0): (di rs lg [u]).1=bZ rs u.1 u.2.2/\dh u.1=true:=by
 unfold di at h ⊢;rw[if_neg (by simp[hc])]at h ⊢;unfold dR at h ⊢;split
 . rename_i h1;rw[if_pos h1]at h;exact absurd h h1
 . rename_i h1;rw[if_neg h1]at h
   have h1:=Decidable.not_not.1 h1;split
   . rename_i h2;rw[if_pos h2]at h;simp at h
   . refine⟨rfl,?_⟩
     unfold bM at h1;split at h1
     . rename_i h3;exact absurd h1 h3
     . rename_i h3
       have h3:=Decidable.not_not.1 h3;unfold dI at h3;split at h3
       . assumption
       . simp at h3
theorem Gj{p:List Itm}{rs:List Rf}{lg:List Upd}{nm:VB}{l:List Fl}{au ms:VB}{tm:Int}{root:Dig}{q:List Itm}{o:Ob}(ht:TckR l 0)(hs:sto 101 p l=some (q,root))(hz: (aW rs lg nm).1≠zD)(hg:aC p (aW rs lg nm).1=some o)(ho:o.tree=root):eU p rs lg nm l au ms tm= (.keep,zD):=by
 unfold eU;rw[if_neg (fun h=>h.1 (F9 hz).1),if_pos ht,hs];exact if_pos ⟨hz,o,hg,ho⟩
theorem CmtE.law{r:Rp}{gs:List Gru}{a u:Nat}{nm:VB}{l:List Fl}{au ms:VB}{tm:Int}{w w':VA}{e:Ending}(hr:RI r)(hL:Lvs r gs a u)(hnm:nm.size<=65536)(hfs:∀f∈l,f.2.size<=60000)(hcm:lC au ms tm)(h:CmtE r a u (eU r.p r.rs r.lg nm l au ms tm) w e w') :
  ∃q d y,jm q d y w e w'/\ ((y≠0/\d=zD/\ (y=20∨q=zRp))∨ (y=0/\CmQ r q nm l)):=by
 have hno:∀{t:gI×Dig},t.1= .no->CmtE r a u t w e w'->∃q d y,jm q d y w e w'/\ ((y≠0/\d=zD/\ (y=20∨q=zRp))∨ (y=0/\CmQ r q nm l)):=by
  rintro ⟨pl,d⟩ hpl hh;simp only at hpl;subst hpl;obtain⟨x,h1,h2,h3⟩:=hh;exact⟨_,_,_,h3,.inl ⟨h1,rfl,.inr rfl⟩⟩
 have b:=tC (au:=au) (ms:=ms) (l:=l) (tm:=tm) hL.m hnm;have hwf:WfD (aW r.rs r.lg nm).1:=yC (fun x hx=>by
  obtain⟨⟨o,ho,_⟩,_⟩:=compl_zero.1 (hL.m.co x hx);rw[jK hL.m.pl ho];exact eY _)
 by_cases h1: (aW r.rs r.lg nm).2≠0/\ (aW r.rs r.lg nm).2≠8
 . exact hno (by unfold eU;rw[if_pos h1]) h
 by_cases ht:¬TckR l 0
 . exact hno (by unfold eU;rw[if_neg h1,if_neg ht]) h
 have ht:=Classical.not_not.1 ht;obtain⟨hl,hasc⟩:=zI ht hfs;cases hs:sto 101 r.p l with
 | none=>exact hno (by unfold eU;rw[if_neg h1,if_pos ht,hs]) h
 | some qr =>
   obtain⟨q,root⟩:=qr;obtain⟨hst,hqo,hsub⟩:=Ry 101 r.p l q root hl hL.m.pl hs;by_cases hk: (aW r.rs r.lg nm).1≠zD/\∃o,aC r.p (aW r.rs r.lg nm).1=some o/\o.tree=root
   . obtain⟨hz,o,hg,ho⟩:=hk
     have hkp:∀au ms tm,eU r.p r.rs r.lg nm l au ms tm= (.keep,zD):=fun au ms tm=>Gj ht hs hz hg ho;rw[hkp]at h;obtain⟨g1,g2⟩:=F9 hz;have hin:=Gf (l:=r.rs) (nm:=nm) (by rw[<-g2];exact hz);obtain⟨⟨o',hg',hk3⟩,hms⟩:=compl_zero.1 (hL.m.co _ hin);simp only at hg' hms;rw[<-g2]at hg' hms;rw[hg]at hg';cases hg'
     have hmr:¬Miss r.p [root]:=Gh hg (by unfold df;rw[if_pos hk3,<-ho];exact List.mem_append_right _ List.mem_cons_self) hms;refine⟨r,zD,0,h,.inr ⟨rfl,⟨hr.n,⟨gs,a,u,hL⟩,hkp,⟨_,o,Prod.ext rfl g1,hg,?_⟩,fun x hx _=>hx⟩⟩⟩;rw[ho];exact EX hL.m.pl hl (hst.down hL.m.pl hqo hsub 101 _ _ hmr) hasc
   . obtain⟨old,hold⟩:=NX9 ((aW r.rs r.lg nm).1)
     have c:∀au ms tm,eU r.p r.rs r.lg nm l au ms tm=match bC q (aY root old au ms tm) with
      | none=>(.no,zD)
      | some q2=>(dm r.p r.rs r.lg q2 [(nm,old,dgO (aY root old au ms tm))],dgO (aY root old au ms tm)):=by
      intro au ms tm;unfold eU;rw[if_neg h1,if_pos ht,hs];simp only;rw[if_neg hk,hold];cases bC q (aY root old au ms tm) <;> rfl
     cases hpp:bC q (aY root old au ms tm) with
     | none=>exact hno (by rw[c,hpp]) h
     | some q2 =>
       obtain⟨new,hnew⟩:=NX9 (dgO (aY root old au ms tm))
       have hc2:=c au ms tm;rw[hpp]at hc2;simp only at hc2;rw[hnew]at hc2;rw[hc2]at h b;rcases Rt (p:=r.p) (q:=q2) (rs:=r.rs) (lg:=r.lg) (u:=(nm,old,new)) with hw | ⟨g,p',rs',lg',hw⟩
       . exact hno hw h
       . rw[hw]at h b
         obtain⟨w1,w2,w3,w4,w5,w6⟩:=SV hw;obtain⟨hset,s⟩:=O6 hL.m.rf w3;have w5:rs'=bZ r.rs nm new:=w5.trans hset;obtain⟨hrt,hrz⟩:=Ig hqo hst;have hob:OkO (aY root old au ms tm):=qI hcm hrt hrz (by rw[<-hold];exact hwf);have ho:=Hr hL.d hL.j (l:=aN g);rw[<-wW]at ho;obtain⟨Y,hY⟩:=NX9 (dG r.d a u (aN g))
         simp only[CmtE]at h;rw[hY]at h ho;by_cases hy:Y.2=0
         . have ha:after r Y p' rs' lg'= (⟨Y.1,p',rs',lg'⟩,0):=if_pos hy
           rw[ha]at h;rcases ho with ⟨hf,_,hn,_,⟨_,hd⟩ | ⟨h20,_⟩⟩ | ⟨hne,_⟩
           . have hM:Mt (gs++ [g]) p' rs' lg':=b hf
             obtain⟨a',u',hj⟩:=hd.jn;have hnn:Y.1.ss.length<=100:=by rw[hn];exact hr.n
             obtain⟨t,k⟩:∃t,UniR r.p q2 t:=Ih hL.m.pl w1 w2;have v:UniR r.p q2 p':=by
              rw[w4];unfold oq;rw[dif_pos ⟨t,k⟩];exact Exists.choose_spec (p:=fun t=>UniR r.p q2 t) ⟨t,k⟩
             have hs2:subP q2 p':=fun i hi=>(v.mem i).2 (.inr hi);have z:subP q p':=(kz hqo hpp).trans hs2;have hgn:aC p' new=some (aY root old au ms tm):=by
              rw[<-hnew];exact EM hM.pl w1 hs2 (jZ hqo hob hpp)
             have hnz:new≠zD:=qi hM.pl hgn;have hgr:aW rs' lg' nm= (new,0):=by
              unfold aW;have hgl:dB rs' nm=new:=by
               rw[wV,w5,wR _ _ (Gz hL.m.rf),if_pos rfl,if_neg (show ¬new= ((0,0):Dig) from hnz)];rfl
              rw[if_neg (by simp[hM.rf]),if_pos s,hgl,if_neg (show ¬new= ((0,0):Dig) from hnz)]
             refine⟨_,_,_,h,.inr ⟨rfl,⟨hnn,⟨gs++ [g],a',u',hd,hj,hM,(hM.few hj hnn).1⟩,fun au ms tm=>?_,⟨new,_,hgr,hgn,?_⟩,fun x hx hxn=>?_⟩⟩⟩
             . refine Gj ht (RV hM.pl 101 root l hl (hst.mono hqo hM.pl z)) (o:=aY root old _ _ _) (by rw[hgr];exact hnz) (by rw[hgr];exact hgn) rfl
             . exact EX hM.pl hl (hst.mono hqo hM.pl z) hasc
             . show x∈rs'
               rw[w5];exact DV hxn hx
           . omega
           . exact absurd hy hne
         . have h5:¬(after r Y p' rs' lg').2=0:=fun e=>hy (after_done.1.symm.trans e)
           rw[if_neg h5]at h;refine⟨_,_,_,h,.inl ⟨h5,rfl,?_⟩⟩;unfold after;rw[if_neg hy];by_cases h20:Y.2=20
           . rw[if_pos h20];exact .inl rfl
           . rw[if_neg h20];exact .inr rfl
theorem Oq(d:Dk)(s t:Dsl)(B:Nat)(w:VA)(h0:DkM w B d s)(h1:DkM w B d t)(hB:B<=w.heap.size)(hp:d.pn= [])(hm:d.ss.length<=maxLen) :
  Calls Tryz.prog 46 #[dkV d s,dkV d t] w fun e w'=>e= .returned (.bool true)/\VE w w':=by
 obtain⟨W,hW⟩:=NX9 ((w.alloc (.cells (dkC d s) 25)).alloc (.cells (dkC d t) 25))
 have HB0:VF w W:=by rw[<-hW];exact((ah _ w).alloc aj _).alloc (by simp) _
 have HK:Hid (Bk W w.heap.size 25 (dkC d s)):=by rw[<-hW];exact(Bk.new w _ _).alloc _
 have HZ:Hid (Bk W (w.heap.size+1) 25 (dkC d t)):=by rw[<-hW];exact(Bk.new _ _ _).at_ (by simp)
 have H0:=ai (h0.ss.below HB0.o hB);have H1:=ai (h1.ss.below HB0.o hB);have hdp:d.pn.length=0:=by rw[hp];rfl
 obtain⟨n,hdn⟩:=NX9 d.ss.length
 rw[hdn]at H0 H1 hm;have a:=ai hdn;unfold maxLen at hm;have HW:=ai hW;simp only[dkV,dkC,hdn,hdp]at HK HZ HW ⊢;clear hW h0 h1 hB hp hdp hdn;obtain⟨k0,k1,k2,k3⟩:=HK.o.dk4;obtain⟨z0,z1,z2,z3⟩:=HZ.o.dk4
 go_enter Tryz.func46,Tryz.ntmps46
 go_wp2_with fail;rw[HW.o]
 go_loopw[5] (fun i wr=>∃k nq:Nat,k<=n/\i= .int .i64 k/\wr=W.drewN nq) (fun i _=>n - (intOf i).toNat)
 case atStart=>exact⟨0,0,ZX _,rfl,rfl⟩
 case round =>
  obtain⟨k,nq,hk,rfl,rfl⟩:=hrel;by_cases hlt:k<n
  . obtain⟨b0,o0,x,hA,_,hx,hc⟩:=H0.o.at_ dJ (by omega) hlt
    obtain⟨b1,o1,y,hA2,_,hy,hc2⟩:=H1.o.at_ dJ (by omega) hlt;obtain rfl:=Option.some.inj (hx.symm.trans hy);have x0:=hc 0 _ rfl;have y0:=hc2 0 _ rfl;simp only[Nat.mul_one,Nat.add_zero]at x0 y0;have hlz: (k:Int)< (n:Int):=by omega
    rw[hA]at k1;rw[hA2]at z1;clear hc hc2 hx hy hA hA2
    go_wp2
    go_quiet(fail)
    go_wp2
    go_roundw
    case rel=>exact⟨k+1,_,by omega,by go_num,rfl⟩
    case measure=>simp[intOf];omega
  . have hlz:¬(k:Int)< (n:Int):=by omega
    go_wp2_with fail
    go_loopw[6] (fun i wr=>i= .int .i64 0/\wr=W.drewN nq) (fun _ _=>0)
    case atStart=>exact⟨rfl,rfl⟩
    case round =>
     obtain⟨rfl,rfl⟩:=hrel;go_wp2_with fail;go_ret
     exact⟨rfl,cZ HB0.o _⟩
theorem MW(r:Rp)(s t:Rsl)(B:Nat)(w:VA)(h0:RpM w B r s)(h1:RpM w B r t)(hB:B<=w.heap.size)(hp:r.d.pn= [])(m:r.d.ss.length<=maxLen)(m0:r.p.length<=maxLen)(m1:r.rs.length<=maxLen)(m2:r.lg.length<=maxLen) :
  Calls Tryz.prog 15 #[rpV r s,rpV r t] w fun e w'=>e= .returned (.bool true)/\VE w w':=by
 obtain⟨W,hW⟩:=NX9 ((w.alloc (.cells (rpC r s) 35)).alloc (.cells (rpC r t) 35))
 have HB0:VF w W:=by rw[<-hW];exact((ah _ w).alloc aj _).alloc (by simp) _
 have HK:Hid (Bk W w.heap.size 35 (rpC r s)):=by rw[<-hW];exact(Bk.new w _ _).alloc _
 have HZ:Hid (Bk W (w.heap.size+1) 35 (rpC r t)):=by rw[<-hW];exact(Bk.new _ _ _).at_ (by simp)
 have b:W.heap.size=w.heap.size+2:=by rw[<-hW];simp
 have HS:=ai (Oq r.d s.d t.d B W (h0.d.below HB0.o hB) (h1.d.below HB0.o hB) (by omega) hp m);have HA:=ai (fun W' (hb:VE W W')=>NR r r s t B W' ((h0.below HB0.o hB).below hb (by omega)) ((h1.below HB0.o hB).below hb (by omega)) (by have:=hb.size;omega) m0 m1 m2);simp only[decide_true,Bool.and_self]at HA;have HW:=ai hW;simp only[rpV,rpC,dkV,dkC]at HK HZ HW HS HA ⊢;clear hW h0 h1 hB hp m m0 m1 m2;obtain⟨⟨k0,k1,k2,k3⟩,k4,k5,k6⟩:=HK.o.seven;obtain⟨⟨z0,z1,z2,z3⟩,z4,z5,z6⟩:=HZ.o.seven
 go_enter Tryz.func15,Tryz.ntmps15
 go_wp2_with fail;rw[HW.o];refine HS.o.mono ?_;rintro e w1 ⟨rfl,hb⟩;have HB1:VF w w1:=HB0.o.trans (hb.mono (by omega));have a:=ai (HK.o.below hb (by omega));have HZ1:=ai (HZ.o.below hb (by omega));have HA1:=ai (HA.o w1 hb);clear hb k0 k1 k2 k3 k4 k5 k6 z0 z1 z2 z3 z4 z5 z6 HS HA;obtain⟨⟨k0,k1,k2,k3⟩,k4,k5,k6⟩:=a.o.seven;obtain⟨⟨z0,z1,z2,z3⟩,z4,z5,z6⟩:=HZ1.o.seven;go_wp2_with fail;refine HA1.o.mono ?_;rintro e w2 ⟨rfl,hb⟩;have HB2:VF w w2:=HB1.o.trans (hb.mono HB1.o.size);clear hb;go_wp2_with fail;go_ret
 exact⟨rfl,HB2.o⟩
def I8(p:List Itm)(d:Dig)(w:VA)(e:Ending)(w':VA):Prop :=
 ((∃fs A c,kY p d fs/\e= .returned (.tuple #[.slice A fs.length c,.int .i64 0])/\Sl w' w'.heap.size 2 A fs.length (flat flC fs))∨ (∃err,mi p d err/\err≠0/\e= .returned (.tuple #[.slice none 0 0,.int .i64 err])))/\VE w w'
theorem Pj(r:Rp)(s:Rsl)(nm:VB)(d:Dig)(o:Ob)(B:Nat)(w:VA)(hm:RpM w B r s)(hB:B<=w.heap.size)(hp:PlOk r.p)(hg:aW r.rs r.lg nm= (d,0))(ho:aC r.p d=some o)
  (hpl:r.p.length<=49000) (hrs:r.rs.length<=1000) (hlg:r.lg.length<=1000) (hnm:nm.size<=65536) (hlw:∀u∈r.lg,u.1.size<=65536/\WfU u) :
  Calls Tryz.prog 29 #[rpV r s,.string nm] w (I8 r.p o.tree w):=by
 obtain⟨W,hW⟩:=NX9 (w.alloc (.cells (rpC r s) 35))
 have HB0:VF w W:=by rw[<-hW];exact(ah _ w).alloc aj _
 have HK:Hid (Bk W w.heap.size 35 (rpC r s)):=by rw[<-hW];exact Bk.new w _ _
 have HM:=ai hm;have a:=ai (D5 s.rA s.lA r.rs.length s.rc r.lg.length s.lc B r.rs r.lg nm W (hm.rf.below HB0.o hB) (hm.l.below HB0.o hB) (ZY hB HB0.o.size) (by unfold maxLen;omega) (by unfold maxLen;omega) (by unfold maxLen;omega) (fun u hu=>by have:=hlw u hu;unfold maxLen;omega));unfold qG at a;rw[hg]at a;simp only at a;have h:=ai hp;have i:=ai ho;have y:W.heap.size=w.heap.size+1:=by rw[<-hW];simp
 have HW:=ai hW;simp only[rpV,rpC]at HK HW ⊢;obtain⟨⟨k0,k1,k2,k3⟩,k4,k5,k6⟩:=HK.o.seven;clear hm hp hg ho hlw hW
 go_enter Tryz.func29,Tryz.ntmps29
 go_wp2_with fail;rw[HW.o];refine a.o.mono ?_;rintro e w1 ⟨rfl,hb1⟩;obtain⟨W2,hW2⟩:=NX9 (w1.alloc (.cells #[.int .u64 d.1,.int .u64 d.2] 50))
 have hb2:VE w1 W2:=by rw[<-hW2];exact(ah _ w1).alloc aj _
 have HD2:Hid (Bk W2 w1.heap.size 50 #[.int .u64 d.1,.int .u64 d.2]):=by rw[<-hW2];exact Bk.new w1 _ _
 have hbb:VE W W2:=hb1.trans (hb2.mono hb1.size);have b:=ai (HK.o.below hbb (by omega));have HB2:VF w W2:=HB0.o.trans (hbb.mono (by omega));have z2:w.heap.size<W2.heap.size:=b.o.lt;have HC:=ai (nI s.pA r.p.length s.pc B r.p d W2 (HM.o.p.below HB2.o hB) (by have:=HB2.o.size;omega) (by omega) h.o);unfold GeE az at HC;have HW2:=ai hW2;clear hb1 hb2 hbb hW2 a HK HB0 HW k0 k1 k2 k3 k4 k5 k6;obtain⟨⟨k0,k1,k2,k3⟩,k4,k5,k6⟩:=b.o.seven;obtain⟨y0,y1,_,_⟩:=HD2.o.two
 go_upto_region 2 with fail
 rw[HW2.o];go_wp2_with fail;refine HC.o.mono ?_;rintro e w3 ⟨hq,hb3⟩;have HB3:VF w w3:=HB2.o.trans (hb3.mono (by omega));have g:=ai (b.o.below hb3 (by omega));rcases hq with ⟨o',s',hgo,_,rfl,_,_,_⟩ | ⟨hgo,_⟩
 . obtain rfl:=Option.some.inj (i.o.symm.trans hgo)
   obtain⟨W4,f⟩:=NX9 (w3.alloc (.cells (obC o s') 109))
   have hb4:VE w3 W4:=by rw[<-f];exact(ah _ w3).alloc aj _
   have j:Hid (Bk W4 w3.heap.size 109 (obC o s')):=by rw[<-f];exact Bk.new w3 _ _
   have n:=ai (g.o.below hb4 g.o.lt);have HB4:VF w W4:=HB3.o.trans (hb4.mono HB3.o.size);have HL:=ai (OU s.pA r.p.length s.pc B r.p o.tree W4 (HM.o.p.below HB4.o hB) (by have:=HB4.o.size;omega) (by omega) h.o);unfold Jj az at HL;have k:=ai f;simp only[obV,obC]at j k ⊢;clear hb3 hb4 f hgo HC b HB2 g HB3 HD2 HW2 k0 k1 k2 k3 k4 k5 k6 y0 y1;obtain⟨⟨k0,k1,k2,k3⟩,k4,k5,k6⟩:=n.o.seven;obtain⟨o0,o1,o2,o3,o4,q,t,v,x⟩:=j.o.nine
   go_upto_region 5 with fail
   rw[k.o];go_wp2_with fail;refine HL.o.mono ?_;rintro e w5 ⟨hq,hb5⟩;have m:VF w w5:=HB4.o.trans (hb5.mono HB4.o.size);clear hb5 HL k0 k1 k2 k3 k4 k5 k6 o0 o1 o2 o3 o4 q t v x;rcases hq with ⟨fs,A,c,hl,rfl,ho⟩ | ⟨err,hl,he,rfl⟩
   . have HF:=ai hl;have HO:=ai (Sl.of_own ho)
     clear hl ho;go_wp2_with fail;go_ret2
     exact⟨.inl ⟨fs,A,c,HF.o,rfl,HO.o.more (by have:=HO.o;omega)⟩,m.o⟩
   . have HF:=ai hl;have HE:=ai he
     clear hl he;go_wp2_with fail;go_ret2
     exact⟨.inr ⟨err,HF.o,HE.o,rfl⟩,m.o⟩
 . have:=i.o.symm.trans hgo;cases this
theorem LG{x y:Rf}(h:x≠y): (x.1.toList == y.1.toList && (x.2.1 == y.2.1 && x.2.2 == y.2.2))=false:=by
 rw[Bool.eq_false_iff];intro hh;simp only[Bool.and_eq_true,beq_iff_eq,ByteArray.toList_eq]at hh;exact h (Prod.ext (iR hh.1) (Prod.ext hh.2.1 hh.2.2))
theorem MR(A:OA)(n c B:Nat)(l:List Rf)(x:Rf)(w:VA)(h0:Sl w B 3 A n (flat rfC l))(hB:B<=w.heap.size)(hn:n<=1000000)(hx:x∈l) :
  Calls Tryz.prog 70 #[.slice A n c,.agg #[.string x.1,.int .u64 x.2.1,.int .u64 x.2.2]] w fun e w'=>(∃z:Int,e= .returned (.int .i64 z)/\0<=z)/\VE w w':=by
 have HL:=ai (h0.len jg (by omega));have H0:=ai h0;have HX:=ai hx;clear h0 hx;obtain⟨W,hW⟩:=NX9 (w.alloc (.cells #[.string x.1,.int .u64 x.2.1,.int .u64 x.2.2] 52))
 have HB0:VF w W:=by rw[<-hW];exact(ah _ w).alloc aj _
 have HK:Hid (Bk W w.heap.size 52 #[.string x.1,.int .u64 x.2.1,.int .u64 x.2.2]):=by rw[<-hW];exact Bk.new w _ _
 have d:w.heap.size<W.heap.size:=HK.o.lt
 go_enter Tryz.func70,Tryz.ntmps70
 go_wp2_with fail;clear hW
 go_loopw[8] (fun i wr=>∃k:Nat,k<=n/\i= .int .i64 k/\Hid (x∉l.take k)/\VF W wr) (fun i _=>n - (intOf i).toNat)
 case atStart=>exact⟨0,ZX _,rfl,(fun h=>by simp at h),ah _ _⟩
 case round =>
  obtain⟨k,hk,rfl,hN,hBel⟩:=hrel;have b:VF w wr:=HB0.o.trans (hBel.o.mono HB0.o.size);by_cases hlt:k<n
  . obtain⟨bb,off,y,rfl,hbB,hy,y0,y1,y2⟩:=(H0.o.below b.o hB).ref hlt
    have hlz: (k:Int)< (n:Int):=by omega
    have a:=ai (HK.o.below hBel.o d);have x0:=a.o.cell 0;have x1:=a.o.cell 1;have x2:=a.o.cell 2;simp at x0 x1 x2;have f:=ai hy;clear hy;by_cases e:x=y
    . subst e
      go_wp2_with fail
      go_quiet(fail)
      go_wp2_with fail;go_ret
      exact⟨⟨_,rfl,by omega⟩,cZ b.o _⟩
    . have t1:=LG e
      have HN:Hid (x∉l.take (k+1)):=fun hm=>by
       rw[aV f.o]at hm;rcases List.mem_append.1 hm with hm | hm
       . exact hN.o hm
       . exact e (List.mem_singleton.1 hm)
      clear e;go_wp2_with fail
      go_quiet(fail)
      go_wp2_with fail;go_roundw
      case rel=>exact⟨k+1,by omega,by go_num,HN.o,cZ hBel.o _⟩
      case measure=>simp[intOf];omega
  . have:=hN.o
    rw[ZU (by rw[HL.o];omega)]at this;exact absurd HX.o this
theorem JW(A:OA)(n c B:Nat)(l:List Rf)(x:Rf)(w:VA)(h0:Sl w B 3 A n (flat rfC l))(hB:B<=w.heap.size)(hn:n<=1000000)(hx:x∈l) :
  Calls Tryz.prog 31 #[.slice A n c,.agg #[.string x.1,.int .u64 x.2.1,.int .u64 x.2.2]] w fun e w'=>e= .returned (.bool true)/\VE w w':=by
 obtain⟨W,hW⟩:=NX9 (w.alloc (.cells #[.string x.1,.int .u64 x.2.1,.int .u64 x.2.2] 52))
 have HB0:VF w W:=by rw[<-hW];exact(ah _ w).alloc aj _
 have HK:Hid (Bk W w.heap.size 52 #[.string x.1,.int .u64 x.2.1,.int .u64 x.2.2]):=by rw[<-hW];exact Bk.new w _ _
 have x0:=HK.o.cell 0;have x1:=HK.o.cell 1;have x2:=HK.o.cell 2;simp at x0 x1 x2;have HI:=ai (MR A n c B l x W (h0.below (HB0.o.mono hB) aj) (by have:=HB0.o.size;omega) hn hx);have HW:=ai hW;clear h0 hx hW
 go_enter Tryz.func31,Tryz.ntmps31
 go_wp2_with fail;rw[HW.o];refine HI.o.mono ?_;rintro e w1 ⟨⟨z,rfl,hz⟩,hb⟩;have HB1:VF w w1:=HB0.o.trans (hb.mono HB0.o.size);clear hb;go_wp2_with fail;go_ret
 exact⟨rfl,HB1.o⟩
