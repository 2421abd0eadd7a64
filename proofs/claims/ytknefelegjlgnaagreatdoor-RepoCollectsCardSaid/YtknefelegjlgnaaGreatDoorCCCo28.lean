/-
  Lemmas of the card.
-/
import Derived.Test.YtknefelegjlgnaaGreatDoorCCCo27
set_option maxRecDepth 100000
set_option maxHeartbeats 8000000
namespace Go.Proofs.YtknefelegjlgnaaGreatDoor
open Go.RowKit
theorem F6{α:Type}{g:RS->α×RS}(hg:∀s,(g s).2.1.length<=s.1.length):∀(n:Nat)(s:RS),(qL g n s).2.1.length<=s.1.length
 | 0,s=>Nat.le_refl _
 | n+1,s=>by
   rw[qL];split
   . exact Nat.le_refl _
   . exact ZY (F6 hg n _) (hg s)
theorem O6{α:Type}{g:RS->α×RS}{m:Nat}(hg:∀s,(g s).2.1.length<=s.1.length)(s:RS): (qLs g m s).2.1.length<=s.1.length:=ZY (F6 hg _ _) (lI s)
def KdE(w:SX)(e:Ending)(w':SX):Prop:=e= .returned (.tuple #[.agg #[.int .i64 0,.string ⟨#[]⟩,.slice none 0 0,.int .u64 0,.int .u64 0,.slice none 0 0,.string ⟨#[]⟩,.int .i64 0,.string ⟨#[]⟩],.int .i64 13])/\Tf w w'
theorem IW(b:Td)(w:SX)(hb:b.length<=65536)(hn:¬∃o,OkO o/\b=aJ o):Calls Tryz.prog 81 #[.string (ofL b)] w (KdE w):=by
 have HQ:=ai (QF hb hn);have i:Hid ((qO b).2.2=false->RdO (qO b).1):=fun h=>Rl (o:=(qO b).1) (r:=(qO b).2) rfl h;obtain⟨s,hs⟩:=NX9 (ofL b)
 rw[hs];obtain⟨W1,hW1⟩:=NX9 ((w.alloc (.cells #[.int .i64 0,.string ⟨#[]⟩,.slice none 0 0,.int .u64 0,.int .u64 0,.slice none 0 0,.string ⟨#[]⟩,.int .i64 0,.string ⟨#[]⟩] 109)).alloc (.cells #[.string s,.bool false] 229))
 have HZ1:Hid (Bk W1 w.heap.size 109 zrC):=by rw[<-hW1];exact(Bk.new w _ _).alloc _
 have HR1:Hid (Rds W1 (w.heap.size+1) (b,false)):=by
  show Bk _ _ _ #[.string (ofL b),.bool false];rw[hs,<-hW1];have:=Bk.new (w.alloc (.cells #[.int .i64 0,.string ⟨#[]⟩,.slice none 0 0,.int .u64 0,.int .u64 0,.slice none 0 0,.string ⟨#[]⟩,.int .i64 0,.string ⟨#[]⟩] 109)) 229 #[.string s,.bool false]
  rwa[Z9]at this
 have HB1:Ti w W1:=by rw[<-hW1];exact((ah _ w).alloc aj _).alloc (by simp) _
 have kU:W1.heap.size=w.heap.size+2:=by rw[<-hW1];simp
 have N:=ai (oz (w.heap.size+1) (b,false) W1 HR1.o (by show b.length<=_;omega));have hl1:=lI (b,false);obtain⟨⟨k,st⟩,hx⟩:∃x,qN (b,false)=x:=⟨_,rfl⟩
 have HX:=ai hx;rw[hx]at N hl1;simp only at N hl1;have hst:st.1.length<=1000000:=by omega
 have HST:=ai hst;clear hs hb hn hx hl1 hst
 go_enter Tryz.func81,Tryz.ntmps81
 go_wp2_with fail;refine N.o.mono ?_;rintro e w2 ⟨rfl,hr,hg⟩;have HR2:=ai hr;have HG2:Ti w w2:=HB1.o.trans (hg.below (by omega) (fun q hq e=>by omega));have HZ2:=ai (hg.bk HZ1.o (by show ¬w.heap.size=w.heap.size+1;omega));have z2:w.heap.size+2<=w2.heap.size:=by have:=hg.size;omega
 clear hr hg hW1 N HB1 HZ1 HR1;obtain⟨W3,hW3⟩:=NX9 (w2.alloc (.cells #[.int .i64 (k:Nat),.string ⟨#[]⟩,.slice none 0 0,.int .u64 0,.int .u64 0,.slice none 0 0,.string ⟨#[]⟩,.int .i64 0,.string ⟨#[]⟩] 109))
 have hb3:Tf w2 W3:=by rw[<-hW3];exact(ah _ w2).alloc aj _
 have u:Hid (Bk W3 w2.heap.size 109 #[.int .i64 (k:Nat),.string ⟨#[]⟩,.slice none 0 0,.int .u64 0,.int .u64 0,.slice none 0 0,.string ⟨#[]⟩,.int .i64 0,.string ⟨#[]⟩]):=by rw[<-hW3];exact Bk.new w2 _ _
 have HR3:Hid (Rds W3 (w.heap.size+1) st):=Bk.below HR2.o hb3 (by omega);have HZ3:=ai (HZ2.o.below hb3 (by omega));have HB3:Ti w W3:=HG2.o.trans (hb3.mono (by omega));have z3:W3.heap.size=w2.heap.size+1:=by rw[<-hW3];simp
 have c0:=u.o.nine.1;rw[<-hW3]at c0;have HW3:=ai hW3;clear hb3 hW3 HR2 HZ2 HG2;rcases (show k=1∨k=4∨k=2∨k=3∨ (k≠1/\k≠2/\k≠3/\k≠4) by omega) with rfl | rfl | rfl | rfl | hk
 . have HE:Hid (qO b= (⟨1,ofL (qT st).1,[],zD,[],⟨#[]⟩,0,⟨#[]⟩⟩,(qT st).2)):=by
     show _=_;unfold qO;rw[HX.o];rfl
   have HW3:Hid (w2.alloc (.cells #[.int .i64 1,.string ⟨#[]⟩,.slice none 0 0,.int .u64 0,.int .u64 0,.slice none 0 0,.string ⟨#[]⟩,.int .i64 0,.string ⟨#[]⟩] 109)=W3):=HW3.o;have u:Hid (Bk W3 w2.heap.size 109 #[.int .i64 1,.string ⟨#[]⟩,.slice none 0 0,.int .u64 0,.int .u64 0,.slice none 0 0,.string ⟨#[]⟩,.int .i64 0,.string ⟨#[]⟩]):=u.o;have c0: (w2.alloc (.cells #[.int .i64 1,.string ⟨#[]⟩,.slice none 0 0,.int .u64 0,.int .u64 0,.slice none 0 0,.string ⟨#[]⟩,.int .i64 0,.string ⟨#[]⟩] 109)).cell? ⟨w2.heap.size,0,none⟩=some (.int .i64 1):=c0;have v:=ai (ou (w.heap.size+1) st W3 HR3.o HST.o);obtain⟨⟨t,q4⟩,hq⟩:∃x,qT st=x:=⟨_,rfl⟩
   rw[hq]at v HE;simp only at v HE;rw[HE.o]at HQ i;simp only at HQ i;clear hq;go_wp2_with fail;rw[HW3.o];refine v.o.mono ?_;rintro e v4 ⟨rfl,hr,hg⟩;have j:=ai hr;have c:=ai (hg.bk u.o (by show ¬w2.heap.size=w.heap.size+1;omega));have l:=ai (hg.bk HZ3.o (by show ¬w.heap.size=w.heap.size+1;omega));have n:Ti w v4:=HB3.o.trans (hg.below (by have:=HB3.o.size;omega) (fun q hq e=>by omega));have S:=hg.size;clear c0 hr hg v HB3 HZ3 u HR3;obtain⟨c0,c1,c2,c3,c4,c5,c6,c7,c8⟩:=c.o.nine;have f1:=c.o.free 1;obtain⟨W4,d⟩:=NX9 ((v4.setCell ⟨w2.heap.size,1,none⟩ (.string (ofL t))))
   have z:Hid (Bk W4 w2.heap.size 109 (obC ⟨1,ofL t,[],zD,[],⟨#[]⟩,0,⟨#[]⟩⟩ ⟨none,0,0,none,0,0⟩)):=by rw[<-d];have:=(c.o.set 1 (.string (ofL t)));show Bk _ _ _ _;simpa [obC,zD] using this
   have HR4:Hid (Rds W4 (w.heap.size+1) q4):=by rw[<-d];exact(Bk.far j.o (p:=⟨w2.heap.size,1,none⟩) (by show w.heap.size+1≠w2.heap.size;omega) _)
   have f:Hid (Bk W4 w.heap.size 109 zrC):=by rw[<-d];exact(Bk.far l.o (p:=⟨w2.heap.size,1,none⟩) (by show w.heap.size≠w2.heap.size;omega) _)
   have HB4:Ti w W4:=by rw[<-d];exact(Below.setCell n.o (p:=⟨w2.heap.size,1,none⟩) (by show w.heap.size<=w2.heap.size;omega) _)
   have M:w2.heap.size<W4.heap.size:=z.o.lt;have C:Hid (ObM W4 W4.heap.size ⟨1,ofL t,[],zD,[],⟨#[]⟩,0,⟨#[]⟩⟩ ⟨none,0,0,none,0,0⟩):=⟨Sl.nil _ _ _ _,Sl.nil _ _ _ _,Nat.le_refl _,ZX _,Nat.le_refl _,ZX _⟩
   clear j c l n HE
   go_upto_region 15 with fail
   try rw[d]
   clear d c0 c1 c2 c3 c4 c5 c6 c7 c8 f1;obtain⟨bs,bad⟩:=q4;simp only at HQ i;obtain⟨q0,q1,_,_⟩:=Bk.two (show Bk W4 (w.heap.size+1) 229 #[.string (ofL bs),.bool bad] from HR4.o);obtain⟨d0,d1,d2,d3,d4,d5,d6,d7,d8⟩:=f.o.nine;obtain⟨f0,f1,f2,f3,f4,f5,f6,f7,f8⟩:=fr9 f.o;cases bad with
   | true =>
     go_wp2_with fail;refine ZW (fE Tryz.results81 rfl (fF f.o _ _ _ _ _ _ _ _ _) rfl) rfl ⟨rfl,fD HB4.o aj _ _ _ _ _ _ _ _ _⟩
   | false =>
     by_cases hbs:bs= []
     . subst hbs
       have D:Hid (¬OkF _):=HQ.o.resolve_left (by simp) |>.resolve_left (by simp);have y:=ai (oV _ _ W4.heap.size W4 C.o aj (i.o rfl) D.o);simp only[obV,obC,zD]at y z;obtain⟨k0,k1,k2,k3,k4,k5,k6,k7,k8⟩:=z.o.nine;have q0':W4.cell? ⟨w.heap.size+1,0,none⟩=some (.string ⟨#[]⟩):=q0;clear q0;go_wp2_with fail;refine y.o.mono ?_;rintro e w8 ⟨⟨x,rfl,hx⟩,hb8⟩;have hxb: (x != 0)=true:=by simpa using hx
       have g:=ai (f.o.below hb8 f.o.lt);have A:Ti w w8:=HB4.o.trans (hb8.mono HB4.o.size);clear k0 k1 k2 k3 k4 k5 k6 k7 k8 q0' q1 d0 d1 d2 d3 d4 d5 d6 d7 d8 f0 f1 f2 f3 f4 f5 f6 f7 f8 hb8 y hx;obtain⟨d0,d1,d2,d3,d4,d5,d6,d7,d8⟩:=g.o.nine;obtain⟨f0,f1,f2,f3,f4,f5,f6,f7,f8⟩:=fr9 g.o;go_wp2_with fail;refine ZW (fE Tryz.results81 rfl (fF g.o _ _ _ _ _ _ _ _ _) rfl) rfl ⟨rfl,fD A.o aj _ _ _ _ _ _ _ _ _⟩
     . have hs1: ((ofL bs).toList == ([]:List UInt8))=false:=by
         rw[pX];exact decide_eq_false fun h=>hbs (by have:=congrArg toL h;rw[bY]at this;exact this)
       clear hbs;go_wp2_with fail;refine ZW (fE Tryz.results81 rfl (fF f.o _ _ _ _ _ _ _ _ _) rfl) rfl ⟨rfl,fD HB4.o aj _ _ _ _ _ _ _ _ _⟩
 . have HE:Hid (qO b= (⟨4,ofL (qT st).1,[],zD,[],⟨#[]⟩,0,⟨#[]⟩⟩,(qT st).2)):=by
     show _=_;unfold qO;rw[HX.o];rfl
   have HW3:Hid (w2.alloc (.cells #[.int .i64 4,.string ⟨#[]⟩,.slice none 0 0,.int .u64 0,.int .u64 0,.slice none 0 0,.string ⟨#[]⟩,.int .i64 0,.string ⟨#[]⟩] 109)=W3):=HW3.o;have u:Hid (Bk W3 w2.heap.size 109 #[.int .i64 4,.string ⟨#[]⟩,.slice none 0 0,.int .u64 0,.int .u64 0,.slice none 0 0,.string ⟨#[]⟩,.int .i64 0,.string ⟨#[]⟩]):=u.o;have c0: (w2.alloc (.cells #[.int .i64 4,.string ⟨#[]⟩,.slice none 0 0,.int .u64 0,.int .u64 0,.slice none 0 0,.string ⟨#[]⟩,.int .i64 0,.string ⟨#[]⟩] 109)).cell? ⟨w2.heap.size,0,none⟩=some (.int .i64 4):=c0;have v:=ai (ou (w.heap.size+1) st W3 HR3.o HST.o);obtain⟨⟨t,q4⟩,hq⟩:∃x,qT st=x:=⟨_,rfl⟩
   rw[hq]at v HE;simp only at v HE;rw[HE.o]at HQ i;simp only at HQ i;clear hq;go_wp2_with fail;rw[HW3.o];refine v.o.mono ?_;rintro e v4 ⟨rfl,hr,hg⟩;have j:=ai hr;have c:=ai (hg.bk u.o (by show ¬w2.heap.size=w.heap.size+1;omega));have l:=ai (hg.bk HZ3.o (by show ¬w.heap.size=w.heap.size+1;omega));have n:Ti w v4:=HB3.o.trans (hg.below (by have:=HB3.o.size;omega) (fun q hq e=>by omega));have S:=hg.size;clear c0 hr hg v HB3 HZ3 u HR3;obtain⟨c0,c1,c2,c3,c4,c5,c6,c7,c8⟩:=c.o.nine;have f1:=c.o.free 1;obtain⟨W4,d⟩:=NX9 ((v4.setCell ⟨w2.heap.size,1,none⟩ (.string (ofL t))))
   have z:Hid (Bk W4 w2.heap.size 109 (obC ⟨4,ofL t,[],zD,[],⟨#[]⟩,0,⟨#[]⟩⟩ ⟨none,0,0,none,0,0⟩)):=by rw[<-d];have:=(c.o.set 1 (.string (ofL t)));show Bk _ _ _ _;simpa [obC,zD] using this
   have HR4:Hid (Rds W4 (w.heap.size+1) q4):=by rw[<-d];exact(Bk.far j.o (p:=⟨w2.heap.size,1,none⟩) (by show w.heap.size+1≠w2.heap.size;omega) _)
   have f:Hid (Bk W4 w.heap.size 109 zrC):=by rw[<-d];exact(Bk.far l.o (p:=⟨w2.heap.size,1,none⟩) (by show w.heap.size≠w2.heap.size;omega) _)
   have HB4:Ti w W4:=by rw[<-d];exact(Below.setCell n.o (p:=⟨w2.heap.size,1,none⟩) (by show w.heap.size<=w2.heap.size;omega) _)
   have M:w2.heap.size<W4.heap.size:=z.o.lt;have C:Hid (ObM W4 W4.heap.size ⟨4,ofL t,[],zD,[],⟨#[]⟩,0,⟨#[]⟩⟩ ⟨none,0,0,none,0,0⟩):=⟨Sl.nil _ _ _ _,Sl.nil _ _ _ _,Nat.le_refl _,ZX _,Nat.le_refl _,ZX _⟩
   clear j c l n HE
   go_upto_region 15 with fail
   try rw[d]
   clear d c0 c1 c2 c3 c4 c5 c6 c7 c8 f1;obtain⟨bs,bad⟩:=q4;simp only at HQ i;obtain⟨q0,q1,_,_⟩:=Bk.two (show Bk W4 (w.heap.size+1) 229 #[.string (ofL bs),.bool bad] from HR4.o);obtain⟨d0,d1,d2,d3,d4,d5,d6,d7,d8⟩:=f.o.nine;obtain⟨f0,f1,f2,f3,f4,f5,f6,f7,f8⟩:=fr9 f.o;cases bad with
   | true =>
     go_wp2_with fail;refine ZW (fE Tryz.results81 rfl (fF f.o _ _ _ _ _ _ _ _ _) rfl) rfl ⟨rfl,fD HB4.o aj _ _ _ _ _ _ _ _ _⟩
   | false =>
     by_cases hbs:bs= []
     . subst hbs
       have D:Hid (¬OkF _):=HQ.o.resolve_left (by simp) |>.resolve_left (by simp);have y:=ai (oV _ _ W4.heap.size W4 C.o aj (i.o rfl) D.o);simp only[obV,obC,zD]at y z;obtain⟨k0,k1,k2,k3,k4,k5,k6,k7,k8⟩:=z.o.nine;have q0':W4.cell? ⟨w.heap.size+1,0,none⟩=some (.string ⟨#[]⟩):=q0;clear q0;go_wp2_with fail;refine y.o.mono ?_;rintro e w8 ⟨⟨x,rfl,hx⟩,hb8⟩;have hxb: (x != 0)=true:=by simpa using hx
       have g:=ai (f.o.below hb8 f.o.lt);have A:Ti w w8:=HB4.o.trans (hb8.mono HB4.o.size);clear k0 k1 k2 k3 k4 k5 k6 k7 k8 q0' q1 d0 d1 d2 d3 d4 d5 d6 d7 d8 f0 f1 f2 f3 f4 f5 f6 f7 f8 hb8 y hx;obtain⟨d0,d1,d2,d3,d4,d5,d6,d7,d8⟩:=g.o.nine;obtain⟨f0,f1,f2,f3,f4,f5,f6,f7,f8⟩:=fr9 g.o;go_wp2_with fail;refine ZW (fE Tryz.results81 rfl (fF g.o _ _ _ _ _ _ _ _ _) rfl) rfl ⟨rfl,fD A.o aj _ _ _ _ _ _ _ _ _⟩
     . have hs1: ((ofL bs).toList == ([]:List UInt8))=false:=by
         rw[pX];exact decide_eq_false fun h=>hbs (by have:=congrArg toL h;rw[bY]at this;exact this)
       clear hbs;go_wp2_with fail;refine ZW (fE Tryz.results81 rfl (fF f.o _ _ _ _ _ _ _ _ _) rfl) rfl ⟨rfl,fD HB4.o aj _ _ _ _ _ _ _ _ _⟩
 . have HW3:Hid (w2.alloc (.cells #[.int .i64 2,.string ⟨#[]⟩,.slice none 0 0,.int .u64 0,.int .u64 0,.slice none 0 0,.string ⟨#[]⟩,.int .i64 0,.string ⟨#[]⟩] 109)=W3):=HW3.o
   have u:Hid (Bk W3 w2.heap.size 109 #[.int .i64 2,.string ⟨#[]⟩,.slice none 0 0,.int .u64 0,.int .u64 0,.slice none 0 0,.string ⟨#[]⟩,.int .i64 0,.string ⟨#[]⟩]):=u.o;have c0: (w2.alloc (.cells #[.int .i64 2,.string ⟨#[]⟩,.slice none 0 0,.int .u64 0,.int .u64 0,.slice none 0 0,.string ⟨#[]⟩,.int .i64 0,.string ⟨#[]⟩] 109)).cell? ⟨w2.heap.size,0,none⟩=some (.int .i64 2):=c0;obtain⟨⟨L,q4⟩,h4⟩:∃x,qLs qE 200 st=x:=⟨_,rfl⟩
   have HE:Hid (qO b= (⟨2,⟨#[]⟩,L,zD,[],⟨#[]⟩,0,⟨#[]⟩⟩,q4)):=by
    show _=_;unfold qO;rw[HX.o];show(_,(qLs qE 200 st).2)=_;rw[h4]
   have H4:=ai h4;rw[HE.o]at HQ i;simp only at HQ i;clear h4 HE;have v:=ai (Jy (w.heap.size+1) st W3 HR3.o HST.o);rw[H4.o]at v;simp only at v;go_wp2_with fail;rw[HW3.o];refine v.o.mono ?_;rintro e v4 ⟨A4,K,rfl,hn4,hm4,hap,hr,hg⟩;have j:=ai hr;have c:=ai (hg.bk u.o (by show ¬w2.heap.size=w.heap.size+1;omega));have l:=ai (hg.bk HZ3.o (by show ¬w.heap.size=w.heap.size+1;omega));have n:Ti w v4:=HB3.o.trans (hg.below (by have:=HB3.o.size;omega) (fun q hq e=>by omega));have S:=hg.size;have B:=ai hap;clear c0 hr hg hap v HB3 HZ3 u HR3;obtain⟨c0,c1,c2,c3,c4,c5,c6,c7,c8⟩:=c.o.nine;have f2:=c.o.free 2;obtain⟨W4,d⟩:=NX9 ((v4.setCell ⟨w2.heap.size,2,none⟩ (.slice A4 L.length K)))
   have z:Hid (Bk W4 w2.heap.size 109 #[.int .i64 2,.string ⟨#[]⟩,.slice A4 L.length K,.int .u64 0,.int .u64 0,.slice none 0 0,.string ⟨#[]⟩,.int .i64 0,.string ⟨#[]⟩]):=by rw[<-d];have:=(c.o.set 2 (.slice A4 L.length K));show Bk _ _ _ _;simpa using this
   have HR4:Hid (Rds W4 (w.heap.size+1) q4):=by rw[<-d];exact(Bk.far j.o (p:=⟨w2.heap.size,2,none⟩) (by show w.heap.size+1≠w2.heap.size;omega) _)
   have f:Hid (Bk W4 w.heap.size 109 zrC):=by rw[<-d];exact(Bk.far l.o (p:=⟨w2.heap.size,2,none⟩) (by show w.heap.size≠w2.heap.size;omega) _)
   have HB4:Ti w W4:=by rw[<-d];exact(Below.setCell n.o (p:=⟨w2.heap.size,2,none⟩) (by show w.heap.size<=w2.heap.size;omega) _)
   have M:v4.heap.size<=W4.heap.size:=by rw[<-d];simp[World.setCell]
   have W:=ai ((Apd.setCell B.o (a:=⟨w2.heap.size,2,none⟩) (by show w2.heap.size<_;omega) (.slice A4 L.length K)));rw[d]at W;clear j c l n B;have X:=i;have fU:=HQ;have C:Hid (ObM W4 W4.heap.size ⟨2,⟨#[]⟩,L,zD,[],⟨#[]⟩,0,⟨#[]⟩⟩ ⟨A4,L.length,K,none,0,0⟩):=⟨W.o.sl,Sl.nil _ _ _ _,hn4,hm4,Nat.le_refl _,ZX _⟩
   have F:Hid (Bk W4 w2.heap.size 109 (obC ⟨2,⟨#[]⟩,L,zD,[],⟨#[]⟩,0,⟨#[]⟩⟩ ⟨A4,L.length,K,none,0,0⟩)):=z.o;have Y:w2.heap.size<W4.heap.size:=z.o.lt
   go_upto_region 15 with fail
   try rw[d]
   clear d c0 c1 c2 c3 c4 c5 c6 c7 c8 f2;obtain⟨bs,bad⟩:=q4;simp only at HQ i;obtain⟨q0,q1,_,_⟩:=Bk.two (show Bk W4 (w.heap.size+1) 229 #[.string (ofL bs),.bool bad] from HR4.o);obtain⟨d0,d1,d2,d3,d4,d5,d6,d7,d8⟩:=f.o.nine;obtain⟨f0,f1,f2,f3,f4,f5,f6,f7,f8⟩:=fr9 f.o;cases bad with
   | true =>
     go_wp2_with fail;refine ZW (fE Tryz.results81 rfl (fF f.o _ _ _ _ _ _ _ _ _) rfl) rfl ⟨rfl,fD HB4.o aj _ _ _ _ _ _ _ _ _⟩
   | false =>
     by_cases hbs:bs= []
     . subst hbs
       have D:Hid (¬OkF _):=HQ.o.resolve_left (by simp) |>.resolve_left (by simp);have y:=ai (oV _ _ W4.heap.size W4 C.o aj (i.o rfl) D.o);simp only[obV,obC,zD]at y F;obtain⟨k0,k1,k2,k3,k4,k5,k6,k7,k8⟩:=F.o.nine;have q0':W4.cell? ⟨w.heap.size+1,0,none⟩=some (.string ⟨#[]⟩):=q0;clear q0;go_wp2_with fail;refine y.o.mono ?_;rintro e w8 ⟨⟨x,rfl,hx⟩,hb8⟩;have hxb: (x != 0)=true:=by simpa using hx
       have g:=ai (f.o.below hb8 f.o.lt);have A:Ti w w8:=HB4.o.trans (hb8.mono HB4.o.size);clear k0 k1 k2 k3 k4 k5 k6 k7 k8 q0' q1 d0 d1 d2 d3 d4 d5 d6 d7 d8 f0 f1 f2 f3 f4 f5 f6 f7 f8 hb8 y hx;obtain⟨d0,d1,d2,d3,d4,d5,d6,d7,d8⟩:=g.o.nine;obtain⟨f0,f1,f2,f3,f4,f5,f6,f7,f8⟩:=fr9 g.o;go_wp2_with fail;refine ZW (fE Tryz.results81 rfl (fF g.o _ _ _ _ _ _ _ _ _) rfl) rfl ⟨rfl,fD A.o aj _ _ _ _ _ _ _ _ _⟩
     . have hs1: ((ofL bs).toList == ([]:List UInt8))=false:=by
         rw[pX];exact decide_eq_false fun h=>hbs (by have:=congrArg toL h;rw[bY]at this;exact this)
       clear hbs;go_wp2_with fail;refine ZW (fE Tryz.results81 rfl (fF f.o _ _ _ _ _ _ _ _ _) rfl) rfl ⟨rfl,fD HB4.o aj _ _ _ _ _ _ _ _ _⟩
 . have HW3:Hid (w2.alloc (.cells #[.int .i64 3,.string ⟨#[]⟩,.slice none 0 0,.int .u64 0,.int .u64 0,.slice none 0 0,.string ⟨#[]⟩,.int .i64 0,.string ⟨#[]⟩] 109)=W3):=HW3.o
   have u:Hid (Bk W3 w2.heap.size 109 #[.int .i64 3,.string ⟨#[]⟩,.slice none 0 0,.int .u64 0,.int .u64 0,.slice none 0 0,.string ⟨#[]⟩,.int .i64 0,.string ⟨#[]⟩]):=u.o;have c0: (w2.alloc (.cells #[.int .i64 3,.string ⟨#[]⟩,.slice none 0 0,.int .u64 0,.int .u64 0,.slice none 0 0,.string ⟨#[]⟩,.int .i64 0,.string ⟨#[]⟩] 109)).cell? ⟨w2.heap.size,0,none⟩=some (.int .i64 3):=c0;have l1:=uh st;obtain⟨⟨⟨d1,d2⟩,s1⟩,h4⟩:∃x,qD st=x:=⟨_,rfl⟩
   have l2:=O6 (m:=8) uh s1;obtain⟨⟨L,s2⟩,h5⟩:∃x,qLs qD 8 s1=x:=⟨_,rfl⟩
   have l3:=yG s2;obtain⟨⟨t,s3⟩,h6⟩:∃x,qT s2=x:=⟨_,rfl⟩
   have l4:=lI s3;obtain⟨⟨k4,s4⟩,h7⟩:∃x,qN s3=x:=⟨_,rfl⟩
   obtain⟨⟨t5,s5⟩,h8⟩:∃x,qT s4=x:=⟨_,rfl⟩
   have HE:Hid (qO b= (⟨3,⟨#[]⟩,[],(d1,d2),L,ofL t,(k4:Nat),ofL t5⟩,s5)):=by
    show _=_;unfold qO;rw[HX.o];show qC st=_;unfold qC;simp only[h4,h5,h6,h7,h8]
   rw[h4]at l1;rw[h5]at l2;rw[h6]at l3;rw[h7]at l4;simp only at l1 l2 l3 l4;have hst:=HST.o;have m1:Hid (s1.1.length<=1000000):=by show _<=_;omega
   have m2:Hid (s2.1.length<=1000000):=by show _<=_;omega
   have m3:Hid (s3.1.length<=1000000):=by show _<=_;omega
   have m4:Hid (s4.1.length<=1000000):=by show _<=_;omega
   have H4:=ai h4;have H5:=ai h5;have H6:=ai h6;have H7:=ai h7;have H8:=ai h8;rw[HE.o]at HQ i;simp only at HQ i;clear h4 h5 h6 h7 h8 l1 l2 l3 l4 hst HE;have v:=ai (nX (w.heap.size+1) st W3 HR3.o HST.o);rw[H4.o]at v;simp only at v;go_wp2_with fail;rw[HW3.o];refine v.o.mono ?_;rintro e v4 ⟨rfl,hr,hg⟩;simp only[aG];have j:=ai hr;have c:=ai (hg.bk u.o (by show ¬w2.heap.size=w.heap.size+1;omega));have l:=ai (hg.bk HZ3.o (by show ¬w.heap.size=w.heap.size+1;omega));have n:Ti w v4:=HB3.o.trans (hg.below (by have:=HB3.o.size;omega) (fun q hq e=>by omega));have S:=hg.size;clear c0 hr hg v HB3 HZ3 u HR3;obtain⟨c0,c1,c2,c3,c4,c5,c6,c7,c8⟩:=c.o.nine;have f3:=c.o.free 3;have f4:=c.o.free 4;obtain⟨W4,d⟩:=NX9 (((v4.setCell ⟨w2.heap.size,3,none⟩ (.int .u64 d1)).setCell ⟨w2.heap.size,4,none⟩ (.int .u64 d2)))
   have z:Hid (Bk W4 w2.heap.size 109 #[.int .i64 3,.string ⟨#[]⟩,.slice none 0 0,.int .u64 d1,.int .u64 d2,.slice none 0 0,.string ⟨#[]⟩,.int .i64 0,.string ⟨#[]⟩]):=by rw[<-d];have:=((c.o.set 3 (.int .u64 d1)).set 4 (.int .u64 d2));show Bk _ _ _ _;simpa using this
   have HR4:Hid (Rds W4 (w.heap.size+1) s1):=by rw[<-d];exact(Bk.far (Bk.far j.o (p:=⟨w2.heap.size,3,none⟩) (by show w.heap.size+1≠w2.heap.size;omega) _) (p:=⟨w2.heap.size,4,none⟩) (by show w.heap.size+1≠w2.heap.size;omega) _)
   have f:Hid (Bk W4 w.heap.size 109 zrC):=by rw[<-d];exact(Bk.far (Bk.far l.o (p:=⟨w2.heap.size,3,none⟩) (by show w.heap.size≠w2.heap.size;omega) _) (p:=⟨w2.heap.size,4,none⟩) (by show w.heap.size≠w2.heap.size;omega) _)
   have HB4:Ti w W4:=by rw[<-d];exact(Below.setCell (Below.setCell n.o (p:=⟨w2.heap.size,3,none⟩) (by show w.heap.size<=w2.heap.size;omega) _) (p:=⟨w2.heap.size,4,none⟩) (by show w.heap.size<=w2.heap.size;omega) _)
   have M:v4.heap.size<=W4.heap.size:=by rw[<-d];simp[World.setCell]
   clear j c l n;have O:=ai (KG (w.heap.size+1) s1 W4 HR4.o m1.o);rw[H5.o]at O;simp only at O;go_wp2_with fail;refine O.o.mono ?_;rintro e v5 ⟨A5,E,rfl,gu,iU,hap,hr,hg⟩;have j:=ai hr;have c:=ai (hg.bk z.o (by show ¬w2.heap.size=w.heap.size+1;omega));have l:=ai (hg.bk f.o (by show ¬w.heap.size=w.heap.size+1;omega));have n:Ti w v5:=HB4.o.trans (hg.below (by have:=HB4.o.size;omega) (fun q hq e=>by omega));have lg:=hg.size;have B:=ai hap;clear c0 c1 c2 c3 c4 c5 c6 c7 c8;clear hr hg hap O HB4 f z HR4 d;obtain⟨c0,c1,c2,c3,c4,c5,c6,c7,c8⟩:=c.o.nine;have f5:=c.o.free 5;obtain⟨W5,H⟩:=NX9 ((v5.setCell ⟨w2.heap.size,5,none⟩ (.slice A5 L.length E)))
   have Z:Hid (Bk W5 w2.heap.size 109 #[.int .i64 3,.string ⟨#[]⟩,.slice none 0 0,.int .u64 d1,.int .u64 d2,.slice A5 L.length E,.string ⟨#[]⟩,.int .i64 0,.string ⟨#[]⟩]):=by rw[<-H];have:=(c.o.set 5 (.slice A5 L.length E));show Bk _ _ _ _;simpa using this
   have ag:Hid (Rds W5 (w.heap.size+1) s2):=by rw[<-H];exact(Bk.far j.o (p:=⟨w2.heap.size,5,none⟩) (by show w.heap.size+1≠w2.heap.size;omega) _)
   have au:Hid (Bk W5 w.heap.size 109 zrC):=by rw[<-H];exact(Bk.far l.o (p:=⟨w2.heap.size,5,none⟩) (by show w.heap.size≠w2.heap.size;omega) _)
   have T:Ti w W5:=by rw[<-H];exact(Below.setCell n.o (p:=⟨w2.heap.size,5,none⟩) (by show w.heap.size<=w2.heap.size;omega) _)
   have lq:v5.heap.size<=W5.heap.size:=by rw[<-H];simp[World.setCell]
   have bf:=ai ((Apd.setCell B.o (a:=⟨w2.heap.size,5,none⟩) (by show w2.heap.size<_;omega) (.slice A5 L.length E)));rw[H]at bf;clear j c l n B;have P:=ai (ou (w.heap.size+1) s2 W5 ag.o m2.o);rw[H6.o]at P;simp only at P;go_wp2_with fail;refine P.o.mono ?_;rintro e v6 ⟨rfl,hr,hg⟩;have j:=ai hr;have c:=ai (hg.bk Z.o (by show ¬w2.heap.size=w.heap.size+1;omega));have l:=ai (hg.bk au.o (by show ¬w.heap.size=w.heap.size+1;omega));have n:Ti w v6:=T.o.trans (hg.below (by have:=T.o.size;omega) (fun q hq e=>by omega));have nz:=hg.size;have B:=ai (bf.o.gb hg (by omega));clear c0 c1 c2 c3 c4 c5 c6 c7 c8;clear hr hg P T au Z ag H;obtain⟨c0,c1,c2,c3,c4,c5,c6,c7,c8⟩:=c.o.nine;have f6:=c.o.free 6;obtain⟨W6,I⟩:=NX9 ((v6.setCell ⟨w2.heap.size,6,none⟩ (.string (ofL t))))
   have bg:Hid (Bk W6 w2.heap.size 109 #[.int .i64 3,.string ⟨#[]⟩,.slice none 0 0,.int .u64 d1,.int .u64 d2,.slice A5 L.length E,.string (ofL t),.int .i64 0,.string ⟨#[]⟩]):=by rw[<-I];have:=(c.o.set 6 (.string (ofL t)));show Bk _ _ _ _;simpa using this
   have bn:Hid (Rds W6 (w.heap.size+1) s3):=by rw[<-I];exact(Bk.far j.o (p:=⟨w2.heap.size,6,none⟩) (by show w.heap.size+1≠w2.heap.size;omega) _)
   have bz:Hid (Bk W6 w.heap.size 109 zrC):=by rw[<-I];exact(Bk.far l.o (p:=⟨w2.heap.size,6,none⟩) (by show w.heap.size≠w2.heap.size;omega) _)
   have U:Ti w W6:=by rw[<-I];exact(Below.setCell n.o (p:=⟨w2.heap.size,6,none⟩) (by show w.heap.size<=w2.heap.size;omega) _)
   have nO:v6.heap.size<=W6.heap.size:=by rw[<-I];simp[World.setCell]
   have cu:=ai ((Apd.setCell B.o (a:=⟨w2.heap.size,6,none⟩) (by show w2.heap.size<_;omega) (.string (ofL t))));rw[I]at cu;clear j c l n B;have Q:=ai (oz (w.heap.size+1) s3 W6 bn.o m3.o);rw[H7.o]at Q;simp only at Q;go_wp2_with fail;refine Q.o.mono ?_;rintro e v7 ⟨rfl,hr,hg⟩;have j:=ai hr;have c:=ai (hg.bk bg.o (by show ¬w2.heap.size=w.heap.size+1;omega));have l:=ai (hg.bk bz.o (by show ¬w.heap.size=w.heap.size+1;omega));have n:Ti w v7:=U.o.trans (hg.below (by have:=U.o.size;omega) (fun q hq e=>by omega));have nU:=hg.size;have B:=ai (cu.o.gb hg (by omega));clear c0 c1 c2 c3 c4 c5 c6 c7 c8;clear hr hg Q U bz bg bn I;obtain⟨c0,c1,c2,c3,c4,c5,c6,c7,c8⟩:=c.o.nine;have f7:=c.o.free 7;obtain⟨W7,J⟩:=NX9 ((v7.setCell ⟨w2.heap.size,7,none⟩ (.int .i64 (k4:Nat))))
   have cO:Hid (Bk W7 w2.heap.size 109 #[.int .i64 3,.string ⟨#[]⟩,.slice none 0 0,.int .u64 d1,.int .u64 d2,.slice A5 L.length E,.string (ofL t),.int .i64 (k4:Nat),.string ⟨#[]⟩]):=by rw[<-J];have:=(c.o.set 7 (.int .i64 (k4:Nat)));show Bk _ _ _ _;simpa using this
   have dn:Hid (Rds W7 (w.heap.size+1) s4):=by rw[<-J];exact(Bk.far j.o (p:=⟨w2.heap.size,7,none⟩) (by show w.heap.size+1≠w2.heap.size;omega) _)
   have dN:Hid (Bk W7 w.heap.size 109 zrC):=by rw[<-J];exact(Bk.far l.o (p:=⟨w2.heap.size,7,none⟩) (by show w.heap.size≠w2.heap.size;omega) _)
   have V:Ti w W7:=by rw[<-J];exact(Below.setCell n.o (p:=⟨w2.heap.size,7,none⟩) (by show w.heap.size<=w2.heap.size;omega) _)
   have oO:v7.heap.size<=W7.heap.size:=by rw[<-J];simp[World.setCell]
   have ed:=ai ((Apd.setCell B.o (a:=⟨w2.heap.size,7,none⟩) (by show w2.heap.size<_;omega) (.int .i64 (k4:Nat))));rw[J]at ed;clear j c l n B;have R:=ai (ou (w.heap.size+1) s4 W7 dn.o m4.o);rw[H8.o]at R;simp only at R;go_wp2_with fail;refine R.o.mono ?_;rintro e v8 ⟨rfl,hr,hg⟩;have j:=ai hr;have c:=ai (hg.bk cO.o (by show ¬w2.heap.size=w.heap.size+1;omega));have l:=ai (hg.bk dN.o (by show ¬w.heap.size=w.heap.size+1;omega));have n:Ti w v8:=V.o.trans (hg.below (by have:=V.o.size;omega) (fun q hq e=>by omega));have oU:=hg.size;have B:=ai (ed.o.gb hg (by omega));clear c0 c1 c2 c3 c4 c5 c6 c7 c8;clear hr hg R V dN cO dn J;obtain⟨c0,c1,c2,c3,c4,c5,c6,c7,c8⟩:=c.o.nine;have f8:=c.o.free 8;obtain⟨W8,G⟩:=NX9 ((v8.setCell ⟨w2.heap.size,8,none⟩ (.string (ofL t5))))
   have fA:Hid (Bk W8 w2.heap.size 109 #[.int .i64 3,.string ⟨#[]⟩,.slice none 0 0,.int .u64 d1,.int .u64 d2,.slice A5 L.length E,.string (ofL t),.int .i64 (k4:Nat),.string (ofL t5)]):=by rw[<-G];have:=(c.o.set 8 (.string (ofL t5)));show Bk _ _ _ _;simpa using this
   have ku:Hid (Rds W8 (w.heap.size+1) s5):=by rw[<-G];exact(Bk.far j.o (p:=⟨w2.heap.size,8,none⟩) (by show w.heap.size+1≠w2.heap.size;omega) _)
   have g:Hid (Bk W8 w.heap.size 109 zrC):=by rw[<-G];exact(Bk.far l.o (p:=⟨w2.heap.size,8,none⟩) (by show w.heap.size≠w2.heap.size;omega) _)
   have A:Ti w W8:=by rw[<-G];exact(Below.setCell n.o (p:=⟨w2.heap.size,8,none⟩) (by show w.heap.size<=w2.heap.size;omega) _)
   have qc:v8.heap.size<=W8.heap.size:=by rw[<-G];simp[World.setCell]
   have fO:=ai ((Apd.setCell B.o (a:=⟨w2.heap.size,8,none⟩) (by show w2.heap.size<_;omega) (.string (ofL t5))));rw[G]at fO;clear j c l n B;have X:=i;have fU:=HQ;have C:Hid (ObM W8 W8.heap.size ⟨3,⟨#[]⟩,[],(d1,d2),L,ofL t,(k4:Nat),ofL t5⟩ ⟨none,0,0,A5,L.length,E⟩):=⟨Sl.nil _ _ _ _,fO.o.sl,Nat.le_refl _,ZX _,gu,iU⟩
   have F:Hid (Bk W8 w2.heap.size 109 (obC ⟨3,⟨#[]⟩,[],(d1,d2),L,ofL t,(k4:Nat),ofL t5⟩ ⟨none,0,0,A5,L.length,E⟩)):=fA.o;have Y:w2.heap.size<W8.heap.size:=fA.o.lt
   go_upto_region 15 with fail
   try rw[G]
   clear G c0 c1 c2 c3 c4 c5 c6 c7 c8 f8;obtain⟨bs,bad⟩:=s5;simp only at HQ i;obtain⟨q0,q1,_,_⟩:=Bk.two (show Bk W8 (w.heap.size+1) 229 #[.string (ofL bs),.bool bad] from ku.o);obtain⟨d0,d1,d2,d3,d4,d5,d6,d7,d8⟩:=g.o.nine;obtain⟨f0,f1,f2,f3,f4,f5,f6,f7,f8⟩:=fr9 g.o;cases bad with
   | true =>
     go_wp2_with fail;refine ZW (fE Tryz.results81 rfl (fF g.o _ _ _ _ _ _ _ _ _) rfl) rfl ⟨rfl,fD A.o aj _ _ _ _ _ _ _ _ _⟩
   | false =>
     by_cases hbs:bs= []
     . subst hbs
       have D:Hid (¬OkF _):=HQ.o.resolve_left (by simp) |>.resolve_left (by simp);have y:=ai (oV _ _ W8.heap.size W8 C.o aj (i.o rfl) D.o);simp only[obV,obC]at y F;obtain⟨k0,k1,k2,k3,k4,k5,k6,k7,k8⟩:=F.o.nine;have q0':W8.cell? ⟨w.heap.size+1,0,none⟩=some (.string ⟨#[]⟩):=q0;clear q0;go_wp2_with fail;refine y.o.mono ?_;rintro e w8 ⟨⟨x,rfl,hx⟩,hb8⟩;have hxb: (x != 0)=true:=by simpa using hx
       have g:=ai (g.o.below hb8 g.o.lt);have A:Ti w w8:=A.o.trans (hb8.mono A.o.size);clear k0 k1 k2 k3 k4 k5 k6 k7 k8 q0' q1 d0 d1 d2 d3 d4 d5 d6 d7 d8 f0 f1 f2 f3 f4 f5 f6 f7 f8 hb8 y hx;obtain⟨d0,d1,d2,d3,d4,d5,d6,d7,d8⟩:=g.o.nine;obtain⟨f0,f1,f2,f3,f4,f5,f6,f7,f8⟩:=fr9 g.o;go_wp2_with fail;refine ZW (fE Tryz.results81 rfl (fF g.o _ _ _ _ _ _ _ _ _) rfl) rfl ⟨rfl,fD A.o aj _ _ _ _ _ _ _ _ _⟩
     . have hs1: ((ofL bs).toList == ([]:List UInt8))=false:=by
         rw[pX];exact decide_eq_false fun h=>hbs (by have:=congrArg toL h;rw[bY]at this;exact this)
       clear hbs;go_wp2_with fail;refine ZW (fE Tryz.results81 rfl (fF g.o _ _ _ _ _ _ _ _ _) rfl) rfl ⟨rfl,fD A.o aj _ _ _ _ _ _ _ _ _⟩
 . have HE:Hid (qO b= (⟨(k:Nat),⟨#[]⟩,[],zD,[],⟨#[]⟩,0,⟨#[]⟩⟩,st)):=by
     show _=_;unfold qO;rw[HX.o];simp only;rw[if_neg (by omega),if_neg (by omega),if_neg (by omega)]
   rw[HE.o]at HQ i;simp only at HQ i;have k1: (((k:Nat):Int) == 1)=false:=by rw[beq_eq_false_iff_ne];omega
   have k2: (((k:Nat):Int) == 2)=false:=by rw[beq_eq_false_iff_ne];omega
   have k3: (((k:Nat):Int) == 3)=false:=by rw[beq_eq_false_iff_ne];omega
   have k4: (((k:Nat):Int) == 4)=false:=by rw[beq_eq_false_iff_ne];omega
   have HR4:=HR3;have f:=HZ3;have HB4:=HB3;have M:w2.heap.size<W3.heap.size:=u.o.lt;have z:Hid (Bk W3 w2.heap.size 109 (obC ⟨(k:Nat),⟨#[]⟩,[],zD,[],⟨#[]⟩,0,⟨#[]⟩⟩ ⟨none,0,0,none,0,0⟩)):=u.o;have C:Hid (ObM W3 W3.heap.size ⟨(k:Nat),⟨#[]⟩,[],zD,[],⟨#[]⟩,0,⟨#[]⟩⟩ ⟨none,0,0,none,0,0⟩):=⟨Sl.nil _ _ _ _,Sl.nil _ _ _ _,Nat.le_refl _,ZX _,Nat.le_refl _,ZX _⟩
   go_upto_region 15 with fail
   rw[HW3.o];obtain⟨W4,d⟩:=NX9 W3
   rw[d]at HR4 f HB4 z C M ⊢;obtain⟨q4,hq4⟩:=NX9 st
   rw[hq4]at HR4 HQ i;clear d c0 k1 k2 k3 k4 HR3 HZ3 HB3 u HE HST hq4;obtain⟨bs,bad⟩:=q4;simp only at HQ i;obtain⟨q0,q1,_,_⟩:=Bk.two (show Bk W4 (w.heap.size+1) 229 #[.string (ofL bs),.bool bad] from HR4.o);obtain⟨d0,d1,d2,d3,d4,d5,d6,d7,d8⟩:=f.o.nine;obtain⟨f0,f1,f2,f3,f4,f5,f6,f7,f8⟩:=fr9 f.o;cases bad with
   | true =>
     go_wp2_with fail;refine ZW (fE Tryz.results81 rfl (fF f.o _ _ _ _ _ _ _ _ _) rfl) rfl ⟨rfl,fD HB4.o aj _ _ _ _ _ _ _ _ _⟩
   | false =>
     by_cases hbs:bs= []
     . subst hbs
       have D:Hid (¬OkF _):=HQ.o.resolve_left (by simp) |>.resolve_left (by simp);have y:=ai (oV _ _ W4.heap.size W4 C.o aj (i.o rfl) D.o);simp only[obV,obC,zD]at y z;obtain⟨k0,k1,k2,k3,k4,k5,k6,k7,k8⟩:=z.o.nine;have q0':W4.cell? ⟨w.heap.size+1,0,none⟩=some (.string ⟨#[]⟩):=q0;clear q0;go_wp2_with fail;refine y.o.mono ?_;rintro e w8 ⟨⟨x,rfl,hx⟩,hb8⟩;have hxb: (x != 0)=true:=by simpa using hx
       have g:=ai (f.o.below hb8 f.o.lt);have A:Ti w w8:=HB4.o.trans (hb8.mono HB4.o.size);clear k0 k1 k2 k3 k4 k5 k6 k7 k8 q0' q1 d0 d1 d2 d3 d4 d5 d6 d7 d8 f0 f1 f2 f3 f4 f5 f6 f7 f8 hb8 y hx;obtain⟨d0,d1,d2,d3,d4,d5,d6,d7,d8⟩:=g.o.nine;obtain⟨f0,f1,f2,f3,f4,f5,f6,f7,f8⟩:=fr9 g.o;go_wp2_with fail;refine ZW (fE Tryz.results81 rfl (fF g.o _ _ _ _ _ _ _ _ _) rfl) rfl ⟨rfl,fD A.o aj _ _ _ _ _ _ _ _ _⟩
     . have hs1: ((ofL bs).toList == ([]:List UInt8))=false:=by
         rw[pX];exact decide_eq_false fun h=>hbs (by have:=congrArg toL h;rw[bY]at this;exact this)
       clear hbs;go_wp2_with fail;refine ZW (fE Tryz.results81 rfl (fF f.o _ _ _ _ _ _ _ _ _) rfl) rfl ⟨rfl,fD HB4.o aj _ _ _ _ _ _ _ _ _⟩
theorem Mc(x:Itm)(w:SX)(hx:∃o,OkO o/\x.2=ofL (aJ o))(hd:x.1=ofB (toL x.2)) :
  Calls Tryz.prog 72 #[itV x] w fun e w'=>e= .returned (.int .i64 0)/\Tf w w':=by
 obtain⟨⟨d1,d2⟩,s⟩:=x;obtain⟨o,ho,hs⟩:=hx;simp only at hs hd;have hsz:s.size<=maxLen:=by rw[hs,bQ];have:=ho.len;unfold maxLen;omega
 have a:=ai (fun W=>ug s W hsz);unfold nK at a;rw[<-hd]at a;obtain⟨W,hW⟩:=NX9 (w.alloc (.cells #[.int .u64 d1,.int .u64 d2,.string s] 118))
 have HB0:Ti w W:=by rw[<-hW];exact(ah _ w).alloc aj _
 have HK:Hid (Bk W w.heap.size 118 #[.int .u64 d1,.int .u64 d2,.string s]):=by rw[<-hW];exact Bk.new w _ _
 have f:w.heap.size<W.heap.size:=HK.o.lt;have HD:=ai (rC o W ho);rw[<-hs]at HD;unfold OdE at HD;simp only[aG,itV]at a ⊢;obtain⟨x0,x1,x2⟩:=HK.o.three;have HW:=ai hW;rw[<-hW]at x0 x1 x2;clear hs hd hsz hW ho
 go_enter Tryz.func72,Tryz.ntmps72
 go_wp2_with fail;rw[HW.o];refine HD.o.mono ?_;rintro e w2 ⟨sl,rfl,_,hb,_⟩;have b:=ai (HK.o.below hb f);have HB2:Ti w w2:=HB0.o.trans (hb.mono HB0.o.size);clear hb HD x0 x1 x2 HW;simp only[obV,obC];obtain⟨W3,hW3⟩:=NX9 (w2.alloc (.cells #[.int .i64 o.kind,.string o.data,.slice sl.eA sl.en sl.ec,.int .u64 o.tree.1,.int .u64 o.tree.2,.slice sl.pA sl.pn sl.pc,.string o.auth,.int .i64 o.time,.string o.msg] 109))
 have hb3:Tf w2 W3:=by rw[<-hW3];exact(ah _ w2).alloc aj _
 have HB3:Ti w W3:=HB2.o.trans (hb3.mono HB2.o.size);have c:=ai (b.o.below hb3 b.o.lt);have g:w.heap.size<W3.heap.size:=c.o.lt;obtain⟨k0,k1,k2⟩:=c.o.three;have hdd: (d1 != d1 || d2 != d2)=false:=by simp
 have hde: (d1 == d1 && d2 == d2)=true:=by simp
 clear hb3 HB2 b;go_wp2_with fail;clear hW3
 go_region_held3 (fun w'=>w'.cell? ⟨w.heap.size,0,none⟩=some (.int .u64 d1)/\w'.cell? ⟨w.heap.size,1,none⟩=some (.int .u64 d2)/\w'.cell? ⟨w.heap.size,2,none⟩=some (.string s))
  (first | exact⟨k0,k1,k2⟩ | exact⟨m0.o,m1.o,m2.o⟩)
  (first
    | (go_at_call 126;refine(a.o _).mono ?_;rintro e w7 ⟨rfl,hb2⟩
       have m0:=ai ((hb2.cell (p:=⟨w.heap.size,0,none⟩) (by show w.heap.size<_;simp;omega)).trans k0);have m1:=ai ((hb2.cell (p:=⟨w.heap.size,1,none⟩) (by show w.heap.size<_;simp;omega)).trans k1);have m2:=ai ((hb2.cell (p:=⟨w.heap.size,2,none⟩) (by show w.heap.size<_;simp;omega)).trans k2);have hR:Ti W3 w7:=(ah _ W3).drew.trans hb2;clear hb2))
 have d:Ti w w7:=HB3.o.trans (hR.o.mono HB3.o.size);clear m0 m1 m2 k0 k1 k2 hR HB3;go_wp2_with fail;go_ret
 exact⟨rfl,d.o⟩
theorem Nq(x:Itm)(w:SX)(hx:∃o,OkO o/\x.2=ofL (aJ o))(hd:x.1≠ofB (toL x.2)) :
  Calls Tryz.prog 72 #[itV x] w fun e w'=>e= .returned (.int .i64 15)/\Tf w w':=by
 obtain⟨⟨d1,d2⟩,s⟩:=x;obtain⟨o,ho,hs⟩:=hx;simp only at hs hd;obtain⟨⟨r1,r2⟩,hrr⟩:∃r,ofB (toL s)=r:=⟨_,rfl⟩
 rw[hrr]at hd;have hsz:s.size<=maxLen:=by rw[hs,bQ];have:=ho.len;unfold maxLen;omega
 have a:=ai (fun W=>ug s W hsz);unfold nK at a;rw[hrr]at a;have hdf: (r1 == d1 && r2 == d2)=false:=by
  rw[Bool.eq_false_iff];intro h;rw[Bool.and_eq_true,beq_iff_eq,beq_iff_eq]at h;exact hd (Prod.ext h.1.symm h.2.symm)
 have hdt: (r1 != d1 || r2 != d2)=true:=by
  rw[Bool.or_eq_true,bne_iff_ne,bne_iff_ne];refine Classical.byContradiction fun h=>?_;rw[not_or,ne_eq,ne_eq,Decidable.not_not,Decidable.not_not]at h;exact hd (Prod.ext h.1.symm h.2.symm)
 obtain⟨W,hW⟩:=NX9 (w.alloc (.cells #[.int .u64 d1,.int .u64 d2,.string s] 118))
 have HB0:Ti w W:=by rw[<-hW];exact(ah _ w).alloc aj _
 have HK:Hid (Bk W w.heap.size 118 #[.int .u64 d1,.int .u64 d2,.string s]):=by rw[<-hW];exact Bk.new w _ _
 have f:w.heap.size<W.heap.size:=HK.o.lt;have HD:=ai (rC o W ho);rw[<-hs]at HD;unfold OdE at HD;simp only[aG,itV]at a ⊢;obtain⟨x0,x1,x2⟩:=HK.o.three;have HW:=ai hW;rw[<-hW]at x0 x1 x2;clear hs hd hsz hW ho hrr
 go_enter Tryz.func72,Tryz.ntmps72
 go_wp2_with fail;rw[HW.o];refine HD.o.mono ?_;rintro e w2 ⟨sl,rfl,_,hb,_⟩;have b:=ai (HK.o.below hb f);have HB2:Ti w w2:=HB0.o.trans (hb.mono HB0.o.size);clear hb HD x0 x1 x2 HW;simp only[obV,obC];obtain⟨W3,hW3⟩:=NX9 (w2.alloc (.cells #[.int .i64 o.kind,.string o.data,.slice sl.eA sl.en sl.ec,.int .u64 o.tree.1,.int .u64 o.tree.2,.slice sl.pA sl.pn sl.pc,.string o.auth,.int .i64 o.time,.string o.msg] 109))
 have hb3:Tf w2 W3:=by rw[<-hW3];exact(ah _ w2).alloc aj _
 have HB3:Ti w W3:=HB2.o.trans (hb3.mono HB2.o.size);have c:=ai (b.o.below hb3 b.o.lt);have g:w.heap.size<W3.heap.size:=c.o.lt;obtain⟨k0,k1,k2⟩:=c.o.three;clear hb3 HB2 b;go_wp2_with fail;clear hW3
 go_region_held3 (fun w'=>w'.cell? ⟨w.heap.size,0,none⟩=some (.int .u64 d1)/\w'.cell? ⟨w.heap.size,1,none⟩=some (.int .u64 d2)/\w'.cell? ⟨w.heap.size,2,none⟩=some (.string s))
  (first | exact⟨k0,k1,k2⟩ | exact⟨m0.o,m1.o,m2.o⟩)
  (first
    | (go_at_call 126;refine(a.o _).mono ?_;rintro e w7 ⟨rfl,hb2⟩
       have m0:=ai ((hb2.cell (p:=⟨w.heap.size,0,none⟩) (by show w.heap.size<_;simp;omega)).trans k0);have m1:=ai ((hb2.cell (p:=⟨w.heap.size,1,none⟩) (by show w.heap.size<_;simp;omega)).trans k1);have m2:=ai ((hb2.cell (p:=⟨w.heap.size,2,none⟩) (by show w.heap.size<_;simp;omega)).trans k2);have hR:Ti W3 w7:=(ah _ W3).drew.trans hb2;clear hb2))
 have d:Ti w w7:=HB3.o.trans (hR.o.mono HB3.o.size);clear m0 m1 m2 k0 k1 k2 hR HB3;go_wp2_with fail;go_ret
 exact⟨rfl,d.o⟩
theorem Lu(x:Itm)(w:SX)(hs:x.2.size<=65536)(hx:¬∃o,OkO o/\x.2=ofL (aJ o)) :
  Calls Tryz.prog 72 #[itV x] w fun e w'=>e= .returned (.int .i64 13)/\Tf w w':=by
 obtain⟨⟨d1,d2⟩,s⟩:=x;simp only at hs hx;obtain⟨W,hW⟩:=NX9 (w.alloc (.cells #[.int .u64 d1,.int .u64 d2,.string s] 118))
 have HB0:Ti w W:=by rw[<-hW];exact(ah _ w).alloc aj _
 have HK:Hid (Bk W w.heap.size 118 #[.int .u64 d1,.int .u64 d2,.string s]):=by rw[<-hW];exact Bk.new w _ _
 have HD:=ai (IW (toL s) W (by rw[<-aT];exact hs) (fun⟨o,ho,he⟩=>hx ⟨o,ho,by rw[<-he,jC]⟩));rw[jC]at HD;unfold KdE at HD;obtain⟨x0,x1,x2⟩:=HK.o.three;have HW:=ai hW;rw[<-hW]at x0 x1 x2;simp only[itV];clear hs hx hW
 go_enter Tryz.func72,Tryz.ntmps72
 go_wp2_with fail;rw[HW.o];refine HD.o.mono ?_;rintro e w2 ⟨rfl,hb⟩;have HB2:Hid (Tf w (w2.alloc (.cells #[.int .i64 0,.string ⟨#[]⟩,.slice none 0 0,.int .u64 0,.int .u64 0,.slice none 0 0,.string ⟨#[]⟩,.int .i64 0,.string ⟨#[]⟩] 109))):=(HB0.o.trans (hb.mono HB0.o.size)).alloc (by have:=hb.size;have:=HB0.o.size;omega) _;clear hb HD x0 x1 x2 HW;go_wp2_with fail;go_ret
 exact⟨rfl,HB2.o⟩
theorem MF(x:Itm)(w:SX)(hs:x.2.size<=65536) :
  Calls Tryz.prog 72 #[itV x] w fun e w'=>(∃z:Int,e= .returned (.int .i64 z)/\ (z=0↔ (∃o,OkO o/\x.2=ofL (aJ o))/\x.1=ofB (toL x.2))/\z≠20)/\Tf w w':=by
 by_cases he:∃o,OkO o/\x.2=ofL (aJ o)
 . by_cases hd:x.1=ofB (toL x.2)
   . exact(Mc x w he hd).mono (by rintro e w' ⟨rfl,hb⟩;exact⟨⟨0,rfl,⟨fun _=>⟨he,hd⟩,fun _=>rfl⟩,by decide⟩,hb⟩)
   . exact(Nq x w he hd).mono (by rintro e w' ⟨rfl,hb⟩;exact⟨⟨15,rfl,⟨fun h=>absurd h (by decide),fun h=>absurd h.2 hd⟩,by decide⟩,hb⟩)
 . exact(Lu x w hs he).mono (by rintro e w' ⟨rfl,hb⟩;exact⟨⟨13,rfl,⟨fun h=>absurd h (by decide),fun h=>absurd h.1 he⟩,by decide⟩,hb⟩)
theorem BH{p:List Itm}{k:Nat}{x:Itm}(h:PlOk (p.take k))(hx:p[k]? =some x)(he:∃o,OkO o/\x.2=ofL (aJ o))(hd:x.1=ofB (toL x.2))(hp:∀y,0<k->p[k - 1]? =some y->ltD y.1 x.1):PlOk (p.take (k+1)):=by
 rw[aW hx];refine⟨fun i hi=>?_,fun i hi=>?_,?_⟩
 . rcases List.mem_append.1 hi with hi | hi
   . exact h.enc i hi
   . rw[List.mem_singleton.1 hi];exact he
 . rcases List.mem_append.1 hi with hi | hi
   . exact h.dg i hi
   . rw[List.mem_singleton.1 hi];exact hd
 . rw[List.pairwise_append]
   refine⟨h.asc,List.pairwise_singleton _ _,fun a ha b hb=>?_⟩;rw[List.mem_singleton.1 hb];have hk0:0<k:=by
    rcases Nat.eq_zero_or_pos k with h0 | h0
    . subst h0;simp at ha
    . exact h0
   have hkl:=(List.getElem?_eq_some_iff.1 hx).1;have hy:p[k - 1]? =some (p[k - 1]'(by omega)):=Z5 _;have hlast:=hp _ hk0 hy;obtain⟨j,hj,e⟩:=List.getElem_of_mem ha;rw[List.length_take]at hj;rw[List.getElem_take]at e;rcases Nat.lt_or_ge j (k - 1) with h1 | h1
   . have hasc:=h.asc
     rw[List.pairwise_iff_getElem]at hasc;have h2:=hasc j (k - 1) (by rw[List.length_take];omega) (by rw[List.length_take];omega) h1;rw[List.getElem_take,List.getElem_take,e]at h2;exact jL h2 hlast
   . have:j=k - 1:=by omega
     subst this;rw[<-e];exact hlast
theorem Jt(A:OA)(n c B:Nat)(p:List Itm)(w:SX)(h0:Sl w B 3 A n (flat itC p))(hB:B<=w.heap.size)(hn:n<=1000000)(hsz:∀i∈p,i.2.size<=65536) :
  Calls Tryz.prog 33 #[.slice A n c] w fun e w'=>∃x:Int,e= .returned (.int .i64 x)/\ (x=0↔PlOk p)/\x≠20/\Tf w w':=by
 have HL:=ai (h0.len dA (by omega));have H0:=ai h0;have L:=ai hsz;clear h0 hsz
 go_enter Tryz.func33,Tryz.ntmps33
 go_wp2_with fail
 go_loopw[8] (fun i wr=>∃k:Nat,k<=n/\i= .int .i64 (k:Int)/\Ti w wr/\Hid (PlOk (p.take k))) (fun i _=>n - (intOf i).toNat)
 case atStart=>exact⟨0,ZX _,rfl,ah _ _,PlOk.nil⟩
 case round =>
  obtain⟨k,hk,rfl,hBel,D⟩:=hrel;have o:=ai D.o;clear D;by_cases hlt:k<n
  . have hlz: (k:Int)< (n:Int):=by omega
    obtain⟨b,off,x,rfl,hb,hx,y0,y1,y2⟩:=(H0.o.below hBel.o hB).it hlt;have HX:=ai hx;have hmem:=Z7 hx;have s:=ai hmem;have M:=ai (L.o x hmem);have f:=ai hBel.o;clear hx hmem hBel;obtain⟨⟨x1,x2⟩,xs⟩:=x;simp only at y0 y1 y2;obtain⟨W6,g⟩:=NX9 (wr.alloc (.cells #[.int .u64 x1,.int .u64 x2,.string xs] 118))
    have hb6:Tf wr W6:=by rw[<-g];exact(ah _ wr).alloc aj _
    have u:Ti w W6:=f.o.trans (hb6.mono f.o.size);have q:Hid (Bk W6 wr.heap.size 118 #[.int .u64 x1,.int .u64 x2,.string xs]):=by rw[<-g];exact Bk.new wr _ _
    have HC:=ai (MF ((x1,x2),xs) W6 M.o);simp only[itV]at HC;have Q:wr.heap.size<W6.heap.size:=q.o.lt;have zr:w.heap.size<=wr.heap.size:=f.o.size;obtain⟨E,F,G⟩:=q.o.three;have H:=ai g;rw[<-g]at E F G;clear hb6 g f;go_wp2_with fail;rw[H.o];refine HC.o.mono ?_;rintro e w7 ⟨⟨z,rfl,hz,l⟩,hb7⟩;have HZ:=ai hz;have t:=ai l;have a:Ti w w7:=u.o.trans (hb7.mono u.o.size);have I:=ai (q.o.below hb7 Q);have R:wr.heap.size<w7.heap.size:=I.o.lt;obtain⟨k0,k1,k2⟩:=I.o.three;clear hb7 HC u q H E F G y0 y1 y2;by_cases hz0:z=0
    case neg =>
     have hzb: (z != 0)=true:=by simpa using hz0
     have J:=ai hz0;clear hz0 hz l;go_wp2_with fail;go_ret
     exact⟨z,rfl,⟨fun h=>absurd h J.o,fun h=>absurd (HZ.o.2 ⟨h.enc _ s.o,h.dg _ s.o⟩) J.o⟩,t.o,a.o⟩
    subst hz0;have r:=ai (HZ.o.1 rfl);clear hz l HZ t;by_cases hk0:k=0
    . subst hk0
      go_wp2_with fail
      go_quiet(fail)
      go_wp2_with fail;go_roundw
      case rel=>exact⟨0+1,hlt,by go_num,dm a.o _,BH o.o HX.o r.o.1 r.o.2 (fun y h=>absurd h (by omega))⟩
      case measure=>simp[intOf];omega
    . obtain⟨j,rfl⟩:∃j,k=j+1:=⟨k - 1,by omega⟩
      obtain⟨b3,O,y,hA3,hb3,hy,z0,z1,z2⟩:=(H0.o.below a.o hB).it (k:=j) (by omega);injection hA3 with hA3;injection hA3 with hA3 hA4;subst hA3;subst hA4;have hcs: (dC (x1,x2) y.1=1/\ltD y.1 (x1,x2))∨ (dC (x1,x2) y.1=0/\¬ltD y.1 (x1,x2))∨ (dC (x1,x2) y.1= -1/\¬ltD y.1 (x1,x2)):=by
       unfold dC;by_cases e1: (x1,x2)=y.1
       . rw[if_pos e1];exact .inr (.inl ⟨rfl,fun h=>iI _ (by rw[e1]at h;exact h)⟩)
       . rw[if_neg e1]
         by_cases e2:ltD (x1,x2) y.1
         . rw[if_pos e2];exact .inr (.inr ⟨rfl,fun h=>iI _ (jL h e2)⟩)
         . rw[if_neg e2]
           refine .inl ⟨rfl,Classical.byContradiction fun h=>e1 (mM e2 h)⟩
      have P:=ai hy;have v:Hid (¬ltD y.1 (x1,x2)->¬PlOk p):=fun hn hp=>hn (by
       have h1:=hp.asc;rw[List.pairwise_iff_getElem]at h1;obtain⟨l1,e1⟩:=List.getElem?_eq_some_iff.1 P.o;obtain⟨l2,e2⟩:=List.getElem?_eq_some_iff.1 HX.o;have h2:=h1 j (j+1) l1 l2 (by omega);rw[e1,e2]at h2;exact h2)
      have K:Hid (ltD y.1 (x1,x2)->PlOk (p.take (j+1+1))):=fun hn=>BH o.o HX.o r.o.1 r.o.2 (fun y' _ h=>by
       have h:p[j]? =some y':=h;rw[P.o]at h;cases h;exact hn)
      clear hy;obtain⟨⟨y1',y2'⟩,ys⟩:=y;simp only at z0 z1 z2 hcs v K;have hj1:IntKind.i64.wrap (j:Int)= (j:Int):=by rw[IntKind.wrap_i64];omega
      have hjn:j<n:=by omega
      have hj2: (j:Int)+1< (n:Int):=by omega
      have hj3: (0:Int)<= (j:Int)+1:=by omega
      have S: ((j:Int)+1).toNat=j+1:=by omega
      have T: (0:Int)< (j:Int)+1:=by omega
      have HCM:=ai (fun W=>wW (x1,x2) (y1',y2') W);rcases hcs with ⟨hcz,hlt2⟩ | ⟨hcz,hlt2⟩ | ⟨hcz,hlt2⟩
      . unfold CmE at HCM
        rw[hcz]at HCM;simp only[aG]at HCM;have zb:b<w7.heap.size:=by omega
        clear hcz;go_wp2_with fail
        go_region_held3 (fun w'=>w'.cell? ⟨b,off+j*3,none⟩=some (.int .u64 y1')/\w'.cell? ⟨b,off+j*3+1,none⟩=some (.int .u64 y2')/\w'.cell? ⟨wr.heap.size,0,none⟩=some (.int .u64 x1)/\w'.cell? ⟨wr.heap.size,1,none⟩=some (.int .u64 x2))
         (first | exact⟨z0,z1,k0,k1⟩ | exact⟨n0.o,n1.o,n2.o,n3.o⟩)
         (first
           | (go_at_call 55;refine(HCM.o _).mono ?_;rintro e w8 ⟨rfl,hb8⟩
              have n0:=ai ((hb8.cell (p:=⟨b,off+j*3,none⟩) (by show b<_;simp;omega)).trans z0);have n1:=ai ((hb8.cell (p:=⟨b,off+j*3+1,none⟩) (by show b<_;simp;omega)).trans z1);have n2:=ai ((hb8.cell (p:=⟨wr.heap.size,0,none⟩) (by show wr.heap.size<_;simp;omega)).trans k0);have n3:=ai ((hb8.cell (p:=⟨wr.heap.size,1,none⟩) (by show wr.heap.size<_;simp;omega)).trans k1);have d:Ti w7 w8:=(ah _ w7).drew.trans hb8;clear hb8))
        have m:Ti w w8:=a.o.trans (d.o.mono a.o.size);clear n0 n1 n2 n3 z0 z1 z2 k0 k1 k2 d;have HS2:=ai (K.o hlt2);go_wp2_with fail;go_roundw
        case rel=>exact⟨j+1+1,hlt,by go_num,m.o,HS2.o⟩
        case measure=>simp[intOf];omega
      . unfold CmE at HCM
        rw[hcz]at HCM;simp only[aG]at HCM;have zb:b<w7.heap.size:=by omega
        clear hcz;go_wp2_with fail
        go_region_held3 (fun w'=>w'.cell? ⟨b,off+j*3,none⟩=some (.int .u64 y1')/\w'.cell? ⟨b,off+j*3+1,none⟩=some (.int .u64 y2')/\w'.cell? ⟨wr.heap.size,0,none⟩=some (.int .u64 x1)/\w'.cell? ⟨wr.heap.size,1,none⟩=some (.int .u64 x2))
         (first | exact⟨z0,z1,k0,k1⟩ | exact⟨n0.o,n1.o,n2.o,n3.o⟩)
         (first
           | (go_at_call 55;refine(HCM.o _).mono ?_;rintro e w8 ⟨rfl,hb8⟩
              have n0:=ai ((hb8.cell (p:=⟨b,off+j*3,none⟩) (by show b<_;simp;omega)).trans z0);have n1:=ai ((hb8.cell (p:=⟨b,off+j*3+1,none⟩) (by show b<_;simp;omega)).trans z1);have n2:=ai ((hb8.cell (p:=⟨wr.heap.size,0,none⟩) (by show wr.heap.size<_;simp;omega)).trans k0);have n3:=ai ((hb8.cell (p:=⟨wr.heap.size,1,none⟩) (by show wr.heap.size<_;simp;omega)).trans k1);have d:Ti w7 w8:=(ah _ w7).drew.trans hb8;clear hb8))
        have m:Ti w w8:=a.o.trans (d.o.mono a.o.size);clear n0 n1 n2 n3 z0 z1 z2 k0 k1 k2 d;have C:=ai (v.o hlt2);go_wp2_with fail;go_ret
        exact⟨10,rfl,⟨fun h=>absurd h (by decide),fun h=>absurd h C.o⟩,by decide,m.o⟩
      . unfold CmE at HCM
        rw[hcz]at HCM;simp only[aG]at HCM;have zb:b<w7.heap.size:=by omega
        clear hcz;go_wp2_with fail
        go_region_held3 (fun w'=>w'.cell? ⟨b,off+j*3,none⟩=some (.int .u64 y1')/\w'.cell? ⟨b,off+j*3+1,none⟩=some (.int .u64 y2')/\w'.cell? ⟨wr.heap.size,0,none⟩=some (.int .u64 x1)/\w'.cell? ⟨wr.heap.size,1,none⟩=some (.int .u64 x2))
         (first | exact⟨z0,z1,k0,k1⟩ | exact⟨n0.o,n1.o,n2.o,n3.o⟩)
         (first
           | (go_at_call 55;refine(HCM.o _).mono ?_;rintro e w8 ⟨rfl,hb8⟩
              have n0:=ai ((hb8.cell (p:=⟨b,off+j*3,none⟩) (by show b<_;simp;omega)).trans z0);have n1:=ai ((hb8.cell (p:=⟨b,off+j*3+1,none⟩) (by show b<_;simp;omega)).trans z1);have n2:=ai ((hb8.cell (p:=⟨wr.heap.size,0,none⟩) (by show wr.heap.size<_;simp;omega)).trans k0);have n3:=ai ((hb8.cell (p:=⟨wr.heap.size,1,none⟩) (by show wr.heap.size<_;simp;omega)).trans k1);have d:Ti w7 w8:=(ah _ w7).drew.trans hb8;clear hb8))
        have m:Ti w w8:=a.o.trans (d.o.mono a.o.size);clear n0 n1 n2 n3 z0 z1 z2 k0 k1 k2 d;have C:=ai (v.o hlt2);go_wp2_with fail;go_ret
        exact⟨10,rfl,⟨fun h=>absurd h (by decide),fun h=>absurd h C.o⟩,by decide,m.o⟩
  . have hlz:¬(k:Int)< (n:Int):=by omega
    have f:=ai hBel.o;clear hBel;have hkn:k=n:=by omega
    have N:Hid (p.take k=p):=ZU (by rw[HL.o];omega);rw[N.o]at o;clear hkn;go_wp2_with fail;go_ret
    exact⟨0,rfl,⟨fun _=>o.o,fun _=>rfl⟩,by decide,f.o⟩
theorem Gs:jT:=fun A n c B q w h0 hB hn hsz _=>Jt A n c B q w h0 hB (by omega) hsz
section
open Go.RowKit Classical
structure CoQ(r q:Rp):Prop where
 p:q.p=dJ r.p r.rs
 rs:q.rs=r.rs
 lg:q.lg=r.lg
 n:q.d.ss.length<=100
 lv:∃gs a u,Lvs q gs a u
theorem CoE.law{r:Rp}{gs:List Gru}{a u:Nat}{w w':SX}{e:Ending}(hr:RI r)(hL:Lvs r gs a u)(h:CoE r a (dW r.p r.rs r.lg) w e w'):∃q n y,kR q n y w e w'/\ ((y≠0/\n=0)∨ (y=0/\n= (r.p.length:Int) - (q.p.length:Int)/\CoQ r q)):=by
 cases hpl:dW r.p r.rs r.lg with
 | no=>unfold dW at hpl;split at hpl <;> cases hpl
 | app g p rs lg=>unfold dW at hpl;split at hpl <;> cases hpl
 | keep =>
   rw[hpl]at h;have hlen: (dJ r.p r.rs).length=r.p.length:=by
    unfold dW at hpl;split at hpl
    . assumption
    . cases hpl
   have hp:dJ r.p r.rs=r.p:=List.filter_sublist.eq_of_length hlen;exact⟨r,0,0,h,.inr ⟨rfl,by omega,⟨hp.symm,rfl,rfl,hr.n,gs,a,u,hL⟩⟩⟩
 | rew g p rs lg =>
   rw[hpl]at h;have hh:=hpl;unfold dW at hh;split at hh
   . cases hh
   injection hh with h1 h2 h3 h4;have hm:=hL.m.rew (by have:=hL.n;omega) hpl;have ho:=Fj hL.d hL.j (l:=aQ g);obtain⟨Y,hY⟩:=NX9 (dQ r.d a (aQ g))
   simp only[CoE]at h;rw[hY]at h ho;by_cases hy:Y.2=0
   . have ha:after r Y p rs lg= (⟨Y.1,p,rs,lg⟩,0):=if_pos hy
     rw[ha]at h;rcases ho with ⟨_,_,hn,_,⟨_,hd⟩ | ⟨h20,_⟩⟩ | ⟨hne,_⟩
     . obtain⟨a',u',hj⟩:=hd.jn
       refine⟨_,_,_,h,.inr ⟨rfl,if_pos rfl,⟨h2.symm,h3.symm,h4.symm,by show Y.1.ss.length<=100;rw[hn];exact hr.n,[g],a',u',?_⟩⟩⟩;refine⟨by rw[xH];exact hd,by rw[xH];exact hj,hm.2,?_⟩;show p.length<=49000;rw[<-h2];exact ZY (List.length_filter_le _ _) hL.n
     . omega
     . exact absurd hy hne
   . have h5:¬(after r Y p rs lg).2=0:=fun e=>hy (after_done.1.symm.trans e)
     exact⟨_,_,_,h,.inl ⟨h5,if_neg h5⟩⟩
theorem CoQ.again{r q:Rp}(hp:PlOk r.p)(h:CoQ r q):dW q.p q.rs q.lg= .keep:=by
 unfold dW;rw[if_pos];rw[h.p,h.rs,J7 hp]
theorem CoQ.there{r q:Rp}(hp:PlOk r.p)(h:CoQ r q){l m:List Dig}(hr:qw q.p (q.rs.map (·.2)) l m):l.length=q.p.length/\eY r.p l=q.p:=by
 have hq:PlOk q.p:=by rw[h.p];exact tu hp _
 have hmem:∀d,d∈l↔d∈q.p.map (·.1):=by
  intro d;rw[hr.there];constructor
  . rintro ⟨h1,h2,h3⟩
    obtain⟨o,ho⟩:=Option.ne_none_iff_exists'.1 h3;exact List.mem_map.2 ⟨_,((iy hq).1 ho).2,rfl⟩
  . intro hd
    obtain⟨i,hi,rfl⟩:=List.mem_map.1 hd;have h4:i∈dJ r.p r.rs:=by rw[<-h.p];exact hi
    obtain⟨hi2,hR⟩:=List.mem_filter.1 h4;have hR:=of_decide_eq_true hR;obtain⟨o,ho,e⟩:=hq.enc i hi;have hg:aO q.p i.1=some o:=(iy hq).2 ⟨ho,by rw[<-e];exact hi⟩;refine⟨uf hq hg,?_,by rw[hg];simp⟩;rw[h.p,h.rs];exact(BZ hp).2 hR
 constructor
 . have hnd: (q.p.map (·.1)).Nodup:=by
     rw[List.Nodup,List.pairwise_map];exact hq.asc.imp fun {a b} hl e=>by rw[e]at hl;exact iI _ hl
   have h1:=mi hr.nd (fun d hd=>(hmem d).1 hd);have h2:=mi hnd (fun d hd=>(hmem d).2 hd);rw[List.length_map]at h1 h2;omega
 . rw[h.p]
   unfold eY dJ;refine List.filter_congr fun i hi=>?_;rw[decide_eq_decide,hmem,h.p];constructor
   . intro hd
     obtain⟨j,hj,e⟩:=List.mem_map.1 hd;have:=of_decide_eq_true (List.mem_filter.1 hj).2;rw[e]at this;exact this
   . intro hR
     exact List.mem_map.2 ⟨i,List.mem_filter.2 ⟨hi,decide_eq_true hR⟩,rfl⟩
end
theorem MW(d:Dk)(s t:Dsl)(B:Nat)(w:SX)(h0:DkM w B d s)(h1:DkM w B d t)(hB:B<=w.heap.size)(hp:d.pn= [])(hm:d.ss.length<=maxLen) :
  Calls Tryz.prog 46 #[dkV d s,dkV d t] w fun e w'=>e= .returned (.bool true)/\Tf w w':=by
 obtain⟨W,hW⟩:=NX9 ((w.alloc (.cells (dkC d s) 25)).alloc (.cells (dkC d t) 25))
 have HB0:Ti w W:=by rw[<-hW];exact((ah _ w).alloc aj _).alloc (by simp) _
 have HK:Hid (Bk W w.heap.size 25 (dkC d s)):=by rw[<-hW];exact(Bk.new w _ _).alloc _
 have HZ:Hid (Bk W (w.heap.size+1) 25 (dkC d t)):=by rw[<-hW];exact(Bk.new _ _ _).at_ (by simp)
 have H0:=ai (h0.ss.below HB0.o hB);have H1:=ai (h1.ss.below HB0.o hB);have hdp:d.pn.length=0:=by rw[hp];rfl
 obtain⟨n,hdn⟩:=NX9 d.ss.length
 rw[hdn]at H0 H1 hm;have a:=ai hdn;unfold maxLen at hm;have HW:=ai hW;simp only[dkV,dkC,hdn,hdp]at HK HZ HW ⊢;clear hW h0 h1 hB hp hdp hdn;obtain⟨k0,k1,k2,k3⟩:=HK.o.dk4;obtain⟨z0,z1,z2,z3⟩:=HZ.o.dk4
 go_enter Tryz.func46,Tryz.ntmps46
 go_wp2_with fail;rw[HW.o]
 go_loopw[5] (fun i wr=>∃k nq:Nat,k<=n/\i= .int .i64 k/\wr=W.drewN nq) (fun i _=>n - (intOf i).toNat)
 case atStart=>exact⟨0,0,ZX _,rfl,rfl⟩
 case round =>
  obtain⟨k,nq,hk,rfl,rfl⟩:=hrel;by_cases hlt:k<n
  . obtain⟨b0,o0,x,hA,_,hx,hc⟩:=H0.o.at_ dK (by omega) hlt
    obtain⟨b1,o1,y,hA2,_,hy,hc2⟩:=H1.o.at_ dK (by omega) hlt;obtain rfl:=Option.some.inj (hx.symm.trans hy);have x0:=hc 0 _ rfl;have y0:=hc2 0 _ rfl;simp only[Nat.mul_one,Nat.add_zero]at x0 y0;have hlz: (k:Int)< (n:Int):=by omega
    rw[hA]at k1;rw[hA2]at z1;clear hc hc2 hx hy hA hA2
    go_wp2
    go_quiet(fail)
    go_wp2
    go_roundw
    case rel=>exact⟨k+1,_,by omega,by go_num,rfl⟩
    case measure=>simp[intOf];omega
  . have hlz:¬(k:Int)< (n:Int):=by omega
    go_wp2_with fail
    go_loopw[6] (fun i wr=>i= .int .i64 0/\wr=W.drewN nq) (fun _ _=>0)
    case atStart=>exact⟨rfl,rfl⟩
    case round =>
     obtain⟨rfl,rfl⟩:=hrel;go_wp2_with fail;go_ret
     exact⟨rfl,dm HB0.o _⟩
theorem JC(r:Rp)(s t:Rsl)(B:Nat)(w:SX)(h0:RpM w B r s)(h1:RpM w B r t)(hB:B<=w.heap.size)(hp:r.d.pn= [])(m:r.d.ss.length<=maxLen)(m0:r.p.length<=maxLen)(m1:r.rs.length<=maxLen)(m2:r.lg.length<=maxLen) :
  Calls Tryz.prog 15 #[rpV r s,rpV r t] w fun e w'=>e= .returned (.bool true)/\Tf w w':=by
 obtain⟨W,hW⟩:=NX9 ((w.alloc (.cells (rpC r s) 35)).alloc (.cells (rpC r t) 35))
 have HB0:Ti w W:=by rw[<-hW];exact((ah _ w).alloc aj _).alloc (by simp) _
 have HK:Hid (Bk W w.heap.size 35 (rpC r s)):=by rw[<-hW];exact(Bk.new w _ _).alloc _
 have HZ:Hid (Bk W (w.heap.size+1) 35 (rpC r t)):=by rw[<-hW];exact(Bk.new _ _ _).at_ (by simp)
 have b:W.heap.size=w.heap.size+2:=by rw[<-hW];simp
 have HS:=ai (MW r.d s.d t.d B W (h0.d.below HB0.o hB) (h1.d.below HB0.o hB) (by omega) hp m);have HA:=ai (fun W' (hb:Tf W W')=>Lp r r s t B W' ((h0.below HB0.o hB).below hb (by omega)) ((h1.below HB0.o hB).below hb (by omega)) (by have:=hb.size;omega) m0 m1 m2);simp only[decide_true,Bool.and_self]at HA;have HW:=ai hW;simp only[rpV,rpC,dkV,dkC]at HK HZ HW HS HA ⊢;clear hW h0 h1 hB hp m m0 m1 m2;obtain⟨⟨k0,k1,k2,k3⟩,k4,k5,k6⟩:=HK.o.seven;obtain⟨⟨z0,z1,z2,z3⟩,z4,z5,z6⟩:=HZ.o.seven
 go_enter Tryz.func15,Tryz.ntmps15
 go_wp2_with fail;rw[HW.o];refine HS.o.mono ?_;rintro e w1 ⟨rfl,hb⟩;have HB1:Ti w w1:=HB0.o.trans (hb.mono (by omega));have a:=ai (HK.o.below hb (by omega));have HZ1:=ai (HZ.o.below hb (by omega));have HA1:=ai (HA.o w1 hb);clear hb k0 k1 k2 k3 k4 k5 k6 z0 z1 z2 z3 z4 z5 z6 HS HA;obtain⟨⟨k0,k1,k2,k3⟩,k4,k5,k6⟩:=a.o.seven;obtain⟨⟨z0,z1,z2,z3⟩,z4,z5,z6⟩:=HZ1.o.seven;go_wp2_with fail;refine HA1.o.mono ?_;rintro e w2 ⟨rfl,hb⟩;have HB2:Ti w w2:=HB1.o.trans (hb.mono HB1.o.size);clear hb;go_wp2_with fail;go_ret
 exact⟨rfl,HB2.o⟩
