/-
  Lemmas of the card.
-/
import Derived.Test.YtknefelegjlgnaaGreatDoorACAt27
set_option maxRecDepth 100000
set_option maxHeartbeats 8000000
namespace Go.Proofs.YtknefelegjlgnaaGreatDoor
open Go.RowKit
theorem Co{α:Type}{g:RS->α×RS}(hg:∀s,(g s).2.1.length<=s.1.length):∀(n:Nat)(s:RS),(qL g n s).2.1.length<=s.1.length
 | 0,s=>Nat.le_refl _
 | n+1,s=>by
   rw[qL];split
   . exact Nat.le_refl _
   . exact Z0 (Co hg n _) (hg s)
theorem KG{α:Type}{g:RS->α×RS}{m:Nat}(hg:∀s,(g s).2.1.length<=s.1.length)(s:RS): (qLs g m s).2.1.length<=s.1.length:=Z0 (Co hg _ _) (jP s)
def KdE(w:MZ)(e:Ending)(w':MZ):Prop:=e= .returned (.tuple #[.agg #[.int .i64 0,.string ⟨#[]⟩,.slice none 0 0,.int .u64 0,.int .u64 0,.slice none 0 0,.string ⟨#[]⟩,.int .i64 0,.string ⟨#[]⟩],.int .i64 13])/\Below w.heap.size w w'
theorem Et(b:M5)(w:MZ)(hb:b.length<=65536)(hn:¬∃o,OkO o/\b=aG o):Calls Tryz.prog 81 #[.string (ofL b)] w (KdE w):=by
 have HQ:=ah (Ll hb hn);have j:Hid ((qO b).2.2=false->RdO (qO b).1):=fun h=>L6 (o:=(qO b).1) (r:=(qO b).2) rfl h;obtain⟨s,hs⟩:=NX9 (ofL b)
 rw[hs];obtain⟨W1,X⟩:=NX9 ((w.alloc (.cells #[.int .i64 0,.string ⟨#[]⟩,.slice none 0 0,.int .u64 0,.int .u64 0,.slice none 0 0,.string ⟨#[]⟩,.int .i64 0,.string ⟨#[]⟩] 109)).alloc (.cells #[.string s,.bool false] 229))
 have aE:Hid (Bk W1 w.heap.size 109 zrC):=by rw[<-X];exact(Bk.new w _ _).alloc _
 have ba:Hid (Rds W1 (w.heap.size+1) (b,false)):=by
  show Bk _ _ _ #[.string (ofL b),.bool false];rw[hs,<-X];have:=Bk.new (w.alloc (.cells #[.int .i64 0,.string ⟨#[]⟩,.slice none 0 0,.int .u64 0,.int .u64 0,.slice none 0 0,.string ⟨#[]⟩,.int .i64 0,.string ⟨#[]⟩] 109)) 229 #[.string s,.bool false]
  rwa[Z9]at this
 have bb:Hid (Below w.heap.size w W1):=by rw[<-X];exact((af _ w).alloc ai _).alloc (by simp) _
 have ck:W1.heap.size=w.heap.size+2:=by rw[<-X];simp
 have ab:=ah (lW (w.heap.size+1) (b,false) W1 ba.o (by show b.length<=_;omega));have ar:=jP (b,false);obtain⟨⟨k,st⟩,hx⟩:∃x,qN (b,false)=x:=⟨_,rfl⟩
 have HX:=ah hx;rw[hx]at ab ar;simp only at ab ar;have ad:st.1.length<=1000000:=by omega
 have U:=ah ad;clear hs hb hn hx ar ad
 go_enter Tryz.func81,Tryz.ntmps81
 go_wp2_with fail;refine ab.o.mono ?_;rintro e w2 ⟨rfl,hr,hg⟩;have bd:=ah hr;have bf:Hid (Below w.heap.size w w2):=bb.o.trans (hg.below (by omega) (fun q hq e=>by omega));have bg:=ah (hg.bk aE.o (by show ¬w.heap.size=w.heap.size+1;omega));have z2:w.heap.size+2<=w2.heap.size:=by have:=hg.size;omega
 clear hr hg X ab bb aE ba;obtain⟨W3,V⟩:=NX9 (w2.alloc (.cells #[.int .i64 (k:Nat),.string ⟨#[]⟩,.slice none 0 0,.int .u64 0,.int .u64 0,.slice none 0 0,.string ⟨#[]⟩,.int .i64 0,.string ⟨#[]⟩] 109))
 have ag:Below w2.heap.size w2 W3:=by rw[<-V];exact(af _ w2).alloc ai _
 have v:Hid (Bk W3 w2.heap.size 109 #[.int .i64 (k:Nat),.string ⟨#[]⟩,.slice none 0 0,.int .u64 0,.int .u64 0,.slice none 0 0,.string ⟨#[]⟩,.int .i64 0,.string ⟨#[]⟩]):=by rw[<-V];exact Bk.new w2 _ _
 have I:Hid (Rds W3 (w.heap.size+1) st):=Bk.below bd.o ag (by omega);have J:=ah (bg.o.below ag (by omega));have C:Hid (Below w.heap.size w W3):=bf.o.trans (ag.mono (by omega));have z3:W3.heap.size=w2.heap.size+1:=by rw[<-V];simp
 have c0:=v.o.nine.1;rw[<-V]at c0;have G:=ah V;clear ag V bd bg bf;rcases (show k=1∨k=4∨k=2∨k=3∨ (k≠1/\k≠2/\k≠3/\k≠4) by omega) with rfl | rfl | rfl | rfl | hk
 . have HE:Hid (qO b= (⟨1,ofL (qT st).1,[],zD,[],⟨#[]⟩,0,⟨#[]⟩⟩,(qT st).2)):=by
     show _=_;unfold qO;rw[HX.o];rfl
   have G:Hid (w2.alloc (.cells #[.int .i64 1,.string ⟨#[]⟩,.slice none 0 0,.int .u64 0,.int .u64 0,.slice none 0 0,.string ⟨#[]⟩,.int .i64 0,.string ⟨#[]⟩] 109)=W3):=G.o;have v:Hid (Bk W3 w2.heap.size 109 #[.int .i64 1,.string ⟨#[]⟩,.slice none 0 0,.int .u64 0,.int .u64 0,.slice none 0 0,.string ⟨#[]⟩,.int .i64 0,.string ⟨#[]⟩]):=v.o;have c0: (w2.alloc (.cells #[.int .i64 1,.string ⟨#[]⟩,.slice none 0 0,.int .u64 0,.int .u64 0,.slice none 0 0,.string ⟨#[]⟩,.int .i64 0,.string ⟨#[]⟩] 109)).cell? ⟨w2.heap.size,0,none⟩=some (.int .i64 1):=c0;have y:=ah (lX (w.heap.size+1) st W3 I.o U.o);obtain⟨⟨t,q4⟩,hq⟩:∃x,qT st=x:=⟨_,rfl⟩
   rw[hq]at y HE;simp only at y HE;rw[HE.o]at HQ j;simp only at HQ j;clear hq;go_wp2_with fail;rw[G.o];refine y.o.mono ?_;rintro e v4 ⟨rfl,hr,hg⟩;have l:=ah hr;have c:=ah (hg.bk v.o (by show ¬w2.heap.size=w.heap.size+1;omega));have n:=ah (hg.bk J.o (by show ¬w.heap.size=w.heap.size+1;omega));have u:Hid (Below w.heap.size w v4):=C.o.trans (hg.below (by have:=C.o.size;omega) (fun q hq e=>by omega));have au:=hg.size;clear c0 hr hg y C J v I;obtain⟨c0,c1,c2,c3,c4,c5,c6,c7,c8⟩:=c.o.nine;have f1:=c.o.free 1;obtain⟨W4,d⟩:=NX9 ((v4.setCell ⟨w2.heap.size,1,none⟩ (.string (ofL t))))
   have B:Hid (Bk W4 w2.heap.size 109 (obC ⟨1,ofL t,[],zD,[],⟨#[]⟩,0,⟨#[]⟩⟩ ⟨none,0,0,none,0,0⟩)):=by rw[<-d];have:=(c.o.set 1 (.string (ofL t)));show Bk _ _ _ _;simpa [obC,zD] using this
   have H:Hid (Rds W4 (w.heap.size+1) q4):=by rw[<-d];exact(Bk.far l.o (p:=⟨w2.heap.size,1,none⟩) (by show w.heap.size+1≠w2.heap.size;omega) _)
   have f:Hid (Bk W4 w.heap.size 109 zrC):=by rw[<-d];exact(Bk.far n.o (p:=⟨w2.heap.size,1,none⟩) (by show w.heap.size≠w2.heap.size;omega) _)
   have i:Hid (Below w.heap.size w W4):=by rw[<-d];exact(Below.setCell u.o (p:=⟨w2.heap.size,1,none⟩) (by show w.heap.size<=w2.heap.size;omega) _)
   have Y:w2.heap.size<W4.heap.size:=B.o.lt;have K:Hid (ObM W4 W4.heap.size ⟨1,ofL t,[],zD,[],⟨#[]⟩,0,⟨#[]⟩⟩ ⟨none,0,0,none,0,0⟩):=⟨Sl.nil _ _ _ _,Sl.nil _ _ _ _,Nat.le_refl _,ZZ _,Nat.le_refl _,ZZ _⟩
   clear l c n u HE
   go_upto_region 15 with fail
   try rw[d]
   clear d c0 c1 c2 c3 c4 c5 c6 c7 c8 f1;obtain⟨bs,D⟩:=q4;simp only at HQ j;obtain⟨q0,q1,_,_⟩:=Bk.two (show Bk W4 (w.heap.size+1) 229 #[.string (ofL bs),.bool D] from H.o);obtain⟨d0,d1,d2,d3,d4,d5,d6,d7,d8⟩:=f.o.nine;obtain⟨f0,f1,f2,f3,f4,f5,f6,f7,f8⟩:=fr9 f.o;cases D with
   | true =>
     go_wp2_with fail;refine ZY (dW Tryz.results81 rfl (dX f.o _ _ _ _ _ _ _ _ _) rfl) rfl ⟨rfl,dV i.o ai _ _ _ _ _ _ _ _ _⟩
   | false =>
     by_cases hbs:bs= []
     . subst hbs
       have M:Hid (¬OkF _):=HQ.o.resolve_left (by simp) |>.resolve_left (by simp);have z:=ah (mM _ _ W4.heap.size W4 K.o ai (j.o rfl) M.o);simp only[obV,obC,zD]at z B;obtain⟨k0,k1,k2,k3,k4,k5,k6,k7,k8⟩:=B.o.nine;have N:W4.cell? ⟨w.heap.size+1,0,none⟩=some (.string ⟨#[]⟩):=q0;clear q0;go_wp2_with fail;refine z.o.mono ?_;rintro e w8 ⟨⟨x,rfl,hx⟩,A⟩;have al: (x != 0)=true:=by simpa using hx
       have g:=ah (f.o.below A f.o.lt);have E:Hid (Below w.heap.size w w8):=i.o.trans (A.mono i.o.size);clear k0 k1 k2 k3 k4 k5 k6 k7 k8 N q1 d0 d1 d2 d3 d4 d5 d6 d7 d8 f0 f1 f2 f3 f4 f5 f6 f7 f8 A z hx;obtain⟨d0,d1,d2,d3,d4,d5,d6,d7,d8⟩:=g.o.nine;obtain⟨f0,f1,f2,f3,f4,f5,f6,f7,f8⟩:=fr9 g.o;go_wp2_with fail;refine ZY (dW Tryz.results81 rfl (dX g.o _ _ _ _ _ _ _ _ _) rfl) rfl ⟨rfl,dV E.o ai _ _ _ _ _ _ _ _ _⟩
     . have am: ((ofL bs).toList == ([]:List UInt8))=false:=by
         rw[mV];exact decide_eq_false fun h=>hbs (by have:=congrArg toL h;rw[bP]at this;exact this)
       clear hbs;go_wp2_with fail;refine ZY (dW Tryz.results81 rfl (dX f.o _ _ _ _ _ _ _ _ _) rfl) rfl ⟨rfl,dV i.o ai _ _ _ _ _ _ _ _ _⟩
 . have HE:Hid (qO b= (⟨4,ofL (qT st).1,[],zD,[],⟨#[]⟩,0,⟨#[]⟩⟩,(qT st).2)):=by
     show _=_;unfold qO;rw[HX.o];rfl
   have G:Hid (w2.alloc (.cells #[.int .i64 4,.string ⟨#[]⟩,.slice none 0 0,.int .u64 0,.int .u64 0,.slice none 0 0,.string ⟨#[]⟩,.int .i64 0,.string ⟨#[]⟩] 109)=W3):=G.o;have v:Hid (Bk W3 w2.heap.size 109 #[.int .i64 4,.string ⟨#[]⟩,.slice none 0 0,.int .u64 0,.int .u64 0,.slice none 0 0,.string ⟨#[]⟩,.int .i64 0,.string ⟨#[]⟩]):=v.o;have c0: (w2.alloc (.cells #[.int .i64 4,.string ⟨#[]⟩,.slice none 0 0,.int .u64 0,.int .u64 0,.slice none 0 0,.string ⟨#[]⟩,.int .i64 0,.string ⟨#[]⟩] 109)).cell? ⟨w2.heap.size,0,none⟩=some (.int .i64 4):=c0;have y:=ah (lX (w.heap.size+1) st W3 I.o U.o);obtain⟨⟨t,q4⟩,hq⟩:∃x,qT st=x:=⟨_,rfl⟩
   rw[hq]at y HE;simp only at y HE;rw[HE.o]at HQ j;simp only at HQ j;clear hq;go_wp2_with fail;rw[G.o];refine y.o.mono ?_;rintro e v4 ⟨rfl,hr,hg⟩;have l:=ah hr;have c:=ah (hg.bk v.o (by show ¬w2.heap.size=w.heap.size+1;omega));have n:=ah (hg.bk J.o (by show ¬w.heap.size=w.heap.size+1;omega));have u:Hid (Below w.heap.size w v4):=C.o.trans (hg.below (by have:=C.o.size;omega) (fun q hq e=>by omega));have au:=hg.size;clear c0 hr hg y C J v I;obtain⟨c0,c1,c2,c3,c4,c5,c6,c7,c8⟩:=c.o.nine;have f1:=c.o.free 1;obtain⟨W4,d⟩:=NX9 ((v4.setCell ⟨w2.heap.size,1,none⟩ (.string (ofL t))))
   have B:Hid (Bk W4 w2.heap.size 109 (obC ⟨4,ofL t,[],zD,[],⟨#[]⟩,0,⟨#[]⟩⟩ ⟨none,0,0,none,0,0⟩)):=by rw[<-d];have:=(c.o.set 1 (.string (ofL t)));show Bk _ _ _ _;simpa [obC,zD] using this
   have H:Hid (Rds W4 (w.heap.size+1) q4):=by rw[<-d];exact(Bk.far l.o (p:=⟨w2.heap.size,1,none⟩) (by show w.heap.size+1≠w2.heap.size;omega) _)
   have f:Hid (Bk W4 w.heap.size 109 zrC):=by rw[<-d];exact(Bk.far n.o (p:=⟨w2.heap.size,1,none⟩) (by show w.heap.size≠w2.heap.size;omega) _)
   have i:Hid (Below w.heap.size w W4):=by rw[<-d];exact(Below.setCell u.o (p:=⟨w2.heap.size,1,none⟩) (by show w.heap.size<=w2.heap.size;omega) _)
   have Y:w2.heap.size<W4.heap.size:=B.o.lt;have K:Hid (ObM W4 W4.heap.size ⟨4,ofL t,[],zD,[],⟨#[]⟩,0,⟨#[]⟩⟩ ⟨none,0,0,none,0,0⟩):=⟨Sl.nil _ _ _ _,Sl.nil _ _ _ _,Nat.le_refl _,ZZ _,Nat.le_refl _,ZZ _⟩
   clear l c n u HE
   go_upto_region 15 with fail
   try rw[d]
   clear d c0 c1 c2 c3 c4 c5 c6 c7 c8 f1;obtain⟨bs,D⟩:=q4;simp only at HQ j;obtain⟨q0,q1,_,_⟩:=Bk.two (show Bk W4 (w.heap.size+1) 229 #[.string (ofL bs),.bool D] from H.o);obtain⟨d0,d1,d2,d3,d4,d5,d6,d7,d8⟩:=f.o.nine;obtain⟨f0,f1,f2,f3,f4,f5,f6,f7,f8⟩:=fr9 f.o;cases D with
   | true =>
     go_wp2_with fail;refine ZY (dW Tryz.results81 rfl (dX f.o _ _ _ _ _ _ _ _ _) rfl) rfl ⟨rfl,dV i.o ai _ _ _ _ _ _ _ _ _⟩
   | false =>
     by_cases hbs:bs= []
     . subst hbs
       have M:Hid (¬OkF _):=HQ.o.resolve_left (by simp) |>.resolve_left (by simp);have z:=ah (mM _ _ W4.heap.size W4 K.o ai (j.o rfl) M.o);simp only[obV,obC,zD]at z B;obtain⟨k0,k1,k2,k3,k4,k5,k6,k7,k8⟩:=B.o.nine;have N:W4.cell? ⟨w.heap.size+1,0,none⟩=some (.string ⟨#[]⟩):=q0;clear q0;go_wp2_with fail;refine z.o.mono ?_;rintro e w8 ⟨⟨x,rfl,hx⟩,A⟩;have al: (x != 0)=true:=by simpa using hx
       have g:=ah (f.o.below A f.o.lt);have E:Hid (Below w.heap.size w w8):=i.o.trans (A.mono i.o.size);clear k0 k1 k2 k3 k4 k5 k6 k7 k8 N q1 d0 d1 d2 d3 d4 d5 d6 d7 d8 f0 f1 f2 f3 f4 f5 f6 f7 f8 A z hx;obtain⟨d0,d1,d2,d3,d4,d5,d6,d7,d8⟩:=g.o.nine;obtain⟨f0,f1,f2,f3,f4,f5,f6,f7,f8⟩:=fr9 g.o;go_wp2_with fail;refine ZY (dW Tryz.results81 rfl (dX g.o _ _ _ _ _ _ _ _ _) rfl) rfl ⟨rfl,dV E.o ai _ _ _ _ _ _ _ _ _⟩
     . have am: ((ofL bs).toList == ([]:List UInt8))=false:=by
         rw[mV];exact decide_eq_false fun h=>hbs (by have:=congrArg toL h;rw[bP]at this;exact this)
       clear hbs;go_wp2_with fail;refine ZY (dW Tryz.results81 rfl (dX f.o _ _ _ _ _ _ _ _ _) rfl) rfl ⟨rfl,dV i.o ai _ _ _ _ _ _ _ _ _⟩
 . have G:Hid (w2.alloc (.cells #[.int .i64 2,.string ⟨#[]⟩,.slice none 0 0,.int .u64 0,.int .u64 0,.slice none 0 0,.string ⟨#[]⟩,.int .i64 0,.string ⟨#[]⟩] 109)=W3):=G.o
   have v:Hid (Bk W3 w2.heap.size 109 #[.int .i64 2,.string ⟨#[]⟩,.slice none 0 0,.int .u64 0,.int .u64 0,.slice none 0 0,.string ⟨#[]⟩,.int .i64 0,.string ⟨#[]⟩]):=v.o;have c0: (w2.alloc (.cells #[.int .i64 2,.string ⟨#[]⟩,.slice none 0 0,.int .u64 0,.int .u64 0,.slice none 0 0,.string ⟨#[]⟩,.int .i64 0,.string ⟨#[]⟩] 109)).cell? ⟨w2.heap.size,0,none⟩=some (.int .i64 2):=c0;obtain⟨⟨L,q4⟩,h4⟩:∃x,qLs qE 200 st=x:=⟨_,rfl⟩
   have HE:Hid (qO b= (⟨2,⟨#[]⟩,L,zD,[],⟨#[]⟩,0,⟨#[]⟩⟩,q4)):=by
    show _=_;unfold qO;rw[HX.o];show(_,(qLs qE 200 st).2)=_;rw[h4]
   have H4:=ah h4;rw[HE.o]at HQ j;simp only at HQ j;clear h4 HE;have y:=ah (F8 (w.heap.size+1) st W3 I.o U.o);rw[H4.o]at y;simp only at y;go_wp2_with fail;rw[G.o];refine y.o.mono ?_;rintro e v4 ⟨A4,W,rfl,ce,cf,Z,hr,hg⟩;have l:=ah hr;have c:=ah (hg.bk v.o (by show ¬w2.heap.size=w.heap.size+1;omega));have n:=ah (hg.bk J.o (by show ¬w.heap.size=w.heap.size+1;omega));have u:Hid (Below w.heap.size w v4):=C.o.trans (hg.below (by have:=C.o.size;omega) (fun q hq e=>by omega));have au:=hg.size;have F:=ah Z;clear c0 hr hg Z y C J v I;obtain⟨c0,c1,c2,c3,c4,c5,c6,c7,c8⟩:=c.o.nine;have f2:=c.o.free 2;obtain⟨W4,d⟩:=NX9 ((v4.setCell ⟨w2.heap.size,2,none⟩ (.slice A4 L.length W)))
   have B:Hid (Bk W4 w2.heap.size 109 #[.int .i64 2,.string ⟨#[]⟩,.slice A4 L.length W,.int .u64 0,.int .u64 0,.slice none 0 0,.string ⟨#[]⟩,.int .i64 0,.string ⟨#[]⟩]):=by rw[<-d];have:=(c.o.set 2 (.slice A4 L.length W));show Bk _ _ _ _;simpa using this
   have H:Hid (Rds W4 (w.heap.size+1) q4):=by rw[<-d];exact(Bk.far l.o (p:=⟨w2.heap.size,2,none⟩) (by show w.heap.size+1≠w2.heap.size;omega) _)
   have f:Hid (Bk W4 w.heap.size 109 zrC):=by rw[<-d];exact(Bk.far n.o (p:=⟨w2.heap.size,2,none⟩) (by show w.heap.size≠w2.heap.size;omega) _)
   have i:Hid (Below w.heap.size w W4):=by rw[<-d];exact(Below.setCell u.o (p:=⟨w2.heap.size,2,none⟩) (by show w.heap.size<=w2.heap.size;omega) _)
   have Y:v4.heap.size<=W4.heap.size:=by rw[<-d];simp[World.setCell]
   have bh:=ah ((Apd.setCell F.o (a:=⟨w2.heap.size,2,none⟩) (by show w2.heap.size<_;omega) (.slice A4 L.length W)));rw[d]at bh;clear l c n u F;have bi:=j;have cg:=HQ;have K:Hid (ObM W4 W4.heap.size ⟨2,⟨#[]⟩,L,zD,[],⟨#[]⟩,0,⟨#[]⟩⟩ ⟨A4,L.length,W,none,0,0⟩):=⟨bh.o.sl,Sl.nil _ _ _ _,ce,cf,Nat.le_refl _,ZZ _⟩
   have P:Hid (Bk W4 w2.heap.size 109 (obC ⟨2,⟨#[]⟩,L,zD,[],⟨#[]⟩,0,⟨#[]⟩⟩ ⟨A4,L.length,W,none,0,0⟩)):=B.o;have bj:w2.heap.size<W4.heap.size:=B.o.lt
   go_upto_region 15 with fail
   try rw[d]
   clear d c0 c1 c2 c3 c4 c5 c6 c7 c8 f2;obtain⟨bs,D⟩:=q4;simp only at HQ j;obtain⟨q0,q1,_,_⟩:=Bk.two (show Bk W4 (w.heap.size+1) 229 #[.string (ofL bs),.bool D] from H.o);obtain⟨d0,d1,d2,d3,d4,d5,d6,d7,d8⟩:=f.o.nine;obtain⟨f0,f1,f2,f3,f4,f5,f6,f7,f8⟩:=fr9 f.o;cases D with
   | true =>
     go_wp2_with fail;refine ZY (dW Tryz.results81 rfl (dX f.o _ _ _ _ _ _ _ _ _) rfl) rfl ⟨rfl,dV i.o ai _ _ _ _ _ _ _ _ _⟩
   | false =>
     by_cases hbs:bs= []
     . subst hbs
       have M:Hid (¬OkF _):=HQ.o.resolve_left (by simp) |>.resolve_left (by simp);have z:=ah (mM _ _ W4.heap.size W4 K.o ai (j.o rfl) M.o);simp only[obV,obC,zD]at z P;obtain⟨k0,k1,k2,k3,k4,k5,k6,k7,k8⟩:=P.o.nine;have N:W4.cell? ⟨w.heap.size+1,0,none⟩=some (.string ⟨#[]⟩):=q0;clear q0;go_wp2_with fail;refine z.o.mono ?_;rintro e w8 ⟨⟨x,rfl,hx⟩,A⟩;have al: (x != 0)=true:=by simpa using hx
       have g:=ah (f.o.below A f.o.lt);have E:Hid (Below w.heap.size w w8):=i.o.trans (A.mono i.o.size);clear k0 k1 k2 k3 k4 k5 k6 k7 k8 N q1 d0 d1 d2 d3 d4 d5 d6 d7 d8 f0 f1 f2 f3 f4 f5 f6 f7 f8 A z hx;obtain⟨d0,d1,d2,d3,d4,d5,d6,d7,d8⟩:=g.o.nine;obtain⟨f0,f1,f2,f3,f4,f5,f6,f7,f8⟩:=fr9 g.o;go_wp2_with fail;refine ZY (dW Tryz.results81 rfl (dX g.o _ _ _ _ _ _ _ _ _) rfl) rfl ⟨rfl,dV E.o ai _ _ _ _ _ _ _ _ _⟩
     . have am: ((ofL bs).toList == ([]:List UInt8))=false:=by
         rw[mV];exact decide_eq_false fun h=>hbs (by have:=congrArg toL h;rw[bP]at this;exact this)
       clear hbs;go_wp2_with fail;refine ZY (dW Tryz.results81 rfl (dX f.o _ _ _ _ _ _ _ _ _) rfl) rfl ⟨rfl,dV i.o ai _ _ _ _ _ _ _ _ _⟩
 . have G:Hid (w2.alloc (.cells #[.int .i64 3,.string ⟨#[]⟩,.slice none 0 0,.int .u64 0,.int .u64 0,.slice none 0 0,.string ⟨#[]⟩,.int .i64 0,.string ⟨#[]⟩] 109)=W3):=G.o
   have v:Hid (Bk W3 w2.heap.size 109 #[.int .i64 3,.string ⟨#[]⟩,.slice none 0 0,.int .u64 0,.int .u64 0,.slice none 0 0,.string ⟨#[]⟩,.int .i64 0,.string ⟨#[]⟩]):=v.o;have c0: (w2.alloc (.cells #[.int .i64 3,.string ⟨#[]⟩,.slice none 0 0,.int .u64 0,.int .u64 0,.slice none 0 0,.string ⟨#[]⟩,.int .i64 0,.string ⟨#[]⟩] 109)).cell? ⟨w2.heap.size,0,none⟩=some (.int .i64 3):=c0;have l1:=qj st;obtain⟨⟨⟨d1,d2⟩,s1⟩,h4⟩:∃x,qD st=x:=⟨_,rfl⟩
   have l2:=KG (m:=8) qj s1;obtain⟨⟨L,s2⟩,h5⟩:∃x,qLs qD 8 s1=x:=⟨_,rfl⟩
   have l3:=vv s2;obtain⟨⟨t,s3⟩,h6⟩:∃x,qT s2=x:=⟨_,rfl⟩
   have l4:=jP s3;obtain⟨⟨k4,s4⟩,h7⟩:∃x,qN s3=x:=⟨_,rfl⟩
   obtain⟨⟨t5,s5⟩,h8⟩:∃x,qT s4=x:=⟨_,rfl⟩
   have HE:Hid (qO b= (⟨3,⟨#[]⟩,[],(d1,d2),L,ofL t,(k4:Nat),ofL t5⟩,s5)):=by
    show _=_;unfold qO;rw[HX.o];show qC st=_;unfold qC;simp only[h4,h5,h6,h7,h8]
   rw[h4]at l1;rw[h5]at l2;rw[h6]at l3;rw[h7]at l4;simp only at l1 l2 l3 l4;have ad:=U.o;have m1:Hid (s1.1.length<=1000000):=by show _<=_;omega
   have m2:Hid (s2.1.length<=1000000):=by show _<=_;omega
   have m3:Hid (s3.1.length<=1000000):=by show _<=_;omega
   have m4:Hid (s4.1.length<=1000000):=by show _<=_;omega
   have H4:=ah h4;have H5:=ah h5;have H6:=ah h6;have H7:=ah h7;have H8:=ah h8;rw[HE.o]at HQ j;simp only at HQ j;clear h4 h5 h6 h7 h8 l1 l2 l3 l4 ad HE;have y:=ah (lS (w.heap.size+1) st W3 I.o U.o);rw[H4.o]at y;simp only at y;go_wp2_with fail;rw[G.o];refine y.o.mono ?_;rintro e v4 ⟨rfl,hr,hg⟩;simp only[aB];have l:=ah hr;have c:=ah (hg.bk v.o (by show ¬w2.heap.size=w.heap.size+1;omega));have n:=ah (hg.bk J.o (by show ¬w.heap.size=w.heap.size+1;omega));have u:Hid (Below w.heap.size w v4):=C.o.trans (hg.below (by have:=C.o.size;omega) (fun q hq e=>by omega));have au:=hg.size;clear c0 hr hg y C J v I;obtain⟨c0,c1,c2,c3,c4,c5,c6,c7,c8⟩:=c.o.nine;have f3:=c.o.free 3;have f4:=c.o.free 4;obtain⟨W4,d⟩:=NX9 (((v4.setCell ⟨w2.heap.size,3,none⟩ (.int .u64 d1)).setCell ⟨w2.heap.size,4,none⟩ (.int .u64 d2)))
   have B:Hid (Bk W4 w2.heap.size 109 #[.int .i64 3,.string ⟨#[]⟩,.slice none 0 0,.int .u64 d1,.int .u64 d2,.slice none 0 0,.string ⟨#[]⟩,.int .i64 0,.string ⟨#[]⟩]):=by rw[<-d];have:=((c.o.set 3 (.int .u64 d1)).set 4 (.int .u64 d2));show Bk _ _ _ _;simpa using this
   have H:Hid (Rds W4 (w.heap.size+1) s1):=by rw[<-d];exact(Bk.far (Bk.far l.o (p:=⟨w2.heap.size,3,none⟩) (by show w.heap.size+1≠w2.heap.size;omega) _) (p:=⟨w2.heap.size,4,none⟩) (by show w.heap.size+1≠w2.heap.size;omega) _)
   have f:Hid (Bk W4 w.heap.size 109 zrC):=by rw[<-d];exact(Bk.far (Bk.far n.o (p:=⟨w2.heap.size,3,none⟩) (by show w.heap.size≠w2.heap.size;omega) _) (p:=⟨w2.heap.size,4,none⟩) (by show w.heap.size≠w2.heap.size;omega) _)
   have i:Hid (Below w.heap.size w W4):=by rw[<-d];exact(Below.setCell (Below.setCell u.o (p:=⟨w2.heap.size,3,none⟩) (by show w.heap.size<=w2.heap.size;omega) _) (p:=⟨w2.heap.size,4,none⟩) (by show w.heap.size<=w2.heap.size;omega) _)
   have Y:v4.heap.size<=W4.heap.size:=by rw[<-d];simp[World.setCell]
   clear l c n u;have an:=ah (Fx (w.heap.size+1) s1 W4 H.o m1.o);rw[H5.o]at an;simp only at an;go_wp2_with fail;refine an.o.mono ?_;rintro e v5 ⟨A5,O,rfl,ch,ci,Z,hr,hg⟩;have l:=ah hr;have c:=ah (hg.bk B.o (by show ¬w2.heap.size=w.heap.size+1;omega));have n:=ah (hg.bk f.o (by show ¬w.heap.size=w.heap.size+1;omega));have u:Hid (Below w.heap.size w v5):=i.o.trans (hg.below (by have:=i.o.size;omega) (fun q hq e=>by omega));have cl:=hg.size;have F:=ah Z;clear c0 c1 c2 c3 c4 c5 c6 c7 c8;clear hr hg Z an i f B H d;obtain⟨c0,c1,c2,c3,c4,c5,c6,c7,c8⟩:=c.o.nine;have f5:=c.o.free 5;obtain⟨W5,R⟩:=NX9 ((v5.setCell ⟨w2.heap.size,5,none⟩ (.slice A5 L.length O)))
   have bm:Hid (Bk W5 w2.heap.size 109 #[.int .i64 3,.string ⟨#[]⟩,.slice none 0 0,.int .u64 d1,.int .u64 d2,.slice A5 L.length O,.string ⟨#[]⟩,.int .i64 0,.string ⟨#[]⟩]):=by rw[<-R];have:=(c.o.set 5 (.slice A5 L.length O));show Bk _ _ _ _;simpa using this
   have bn:Hid (Rds W5 (w.heap.size+1) s2):=by rw[<-R];exact(Bk.far l.o (p:=⟨w2.heap.size,5,none⟩) (by show w.heap.size+1≠w2.heap.size;omega) _)
   have bo:Hid (Bk W5 w.heap.size 109 zrC):=by rw[<-R];exact(Bk.far n.o (p:=⟨w2.heap.size,5,none⟩) (by show w.heap.size≠w2.heap.size;omega) _)
   have av:Hid (Below w.heap.size w W5):=by rw[<-R];exact(Below.setCell u.o (p:=⟨w2.heap.size,5,none⟩) (by show w.heap.size<=w2.heap.size;omega) _)
   have cm:v5.heap.size<=W5.heap.size:=by rw[<-R];simp[World.setCell]
   have bp:=ah ((Apd.setCell F.o (a:=⟨w2.heap.size,5,none⟩) (by show w2.heap.size<_;omega) (.slice A5 L.length O)));rw[R]at bp;clear l c n u F;have ao:=ah (lX (w.heap.size+1) s2 W5 bn.o m2.o);rw[H6.o]at ao;simp only at ao;go_wp2_with fail;refine ao.o.mono ?_;rintro e v6 ⟨rfl,hr,hg⟩;have l:=ah hr;have c:=ah (hg.bk bm.o (by show ¬w2.heap.size=w.heap.size+1;omega));have n:=ah (hg.bk bo.o (by show ¬w.heap.size=w.heap.size+1;omega));have u:Hid (Below w.heap.size w v6):=av.o.trans (hg.below (by have:=av.o.size;omega) (fun q hq e=>by omega));have cn:=hg.size;have F:=ah (bp.o.gb hg (by omega));clear c0 c1 c2 c3 c4 c5 c6 c7 c8;clear hr hg ao av bo bm bn R;obtain⟨c0,c1,c2,c3,c4,c5,c6,c7,c8⟩:=c.o.nine;have f6:=c.o.free 6;obtain⟨W6,S⟩:=NX9 ((v6.setCell ⟨w2.heap.size,6,none⟩ (.string (ofL t))))
   have bq:Hid (Bk W6 w2.heap.size 109 #[.int .i64 3,.string ⟨#[]⟩,.slice none 0 0,.int .u64 d1,.int .u64 d2,.slice A5 L.length O,.string (ofL t),.int .i64 0,.string ⟨#[]⟩]):=by rw[<-S];have:=(c.o.set 6 (.string (ofL t)));show Bk _ _ _ _;simpa using this
   have br:Hid (Rds W6 (w.heap.size+1) s3):=by rw[<-S];exact(Bk.far l.o (p:=⟨w2.heap.size,6,none⟩) (by show w.heap.size+1≠w2.heap.size;omega) _)
   have bt:Hid (Bk W6 w.heap.size 109 zrC):=by rw[<-S];exact(Bk.far n.o (p:=⟨w2.heap.size,6,none⟩) (by show w.heap.size≠w2.heap.size;omega) _)
   have aw:Hid (Below w.heap.size w W6):=by rw[<-S];exact(Below.setCell u.o (p:=⟨w2.heap.size,6,none⟩) (by show w.heap.size<=w2.heap.size;omega) _)
   have co:v6.heap.size<=W6.heap.size:=by rw[<-S];simp[World.setCell]
   have bv:=ah ((Apd.setCell F.o (a:=⟨w2.heap.size,6,none⟩) (by show w2.heap.size<_;omega) (.string (ofL t))));rw[S]at bv;clear l c n u F;have ap:=ah (lW (w.heap.size+1) s3 W6 br.o m3.o);rw[H7.o]at ap;simp only at ap;go_wp2_with fail;refine ap.o.mono ?_;rintro e v7 ⟨rfl,hr,hg⟩;have l:=ah hr;have c:=ah (hg.bk bq.o (by show ¬w2.heap.size=w.heap.size+1;omega));have n:=ah (hg.bk bt.o (by show ¬w.heap.size=w.heap.size+1;omega));have u:Hid (Below w.heap.size w v7):=aw.o.trans (hg.below (by have:=aw.o.size;omega) (fun q hq e=>by omega));have cp:=hg.size;have F:=ah (bv.o.gb hg (by omega));clear c0 c1 c2 c3 c4 c5 c6 c7 c8;clear hr hg ap aw bt bq br S;obtain⟨c0,c1,c2,c3,c4,c5,c6,c7,c8⟩:=c.o.nine;have f7:=c.o.free 7;obtain⟨W7,T⟩:=NX9 ((v7.setCell ⟨w2.heap.size,7,none⟩ (.int .i64 (k4:Nat))))
   have bw:Hid (Bk W7 w2.heap.size 109 #[.int .i64 3,.string ⟨#[]⟩,.slice none 0 0,.int .u64 d1,.int .u64 d2,.slice A5 L.length O,.string (ofL t),.int .i64 (k4:Nat),.string ⟨#[]⟩]):=by rw[<-T];have:=(c.o.set 7 (.int .i64 (k4:Nat)));show Bk _ _ _ _;simpa using this
   have bx:Hid (Rds W7 (w.heap.size+1) s4):=by rw[<-T];exact(Bk.far l.o (p:=⟨w2.heap.size,7,none⟩) (by show w.heap.size+1≠w2.heap.size;omega) _)
   have bz:Hid (Bk W7 w.heap.size 109 zrC):=by rw[<-T];exact(Bk.far n.o (p:=⟨w2.heap.size,7,none⟩) (by show w.heap.size≠w2.heap.size;omega) _)
   have aD:Hid (Below w.heap.size w W7):=by rw[<-T];exact(Below.setCell u.o (p:=⟨w2.heap.size,7,none⟩) (by show w.heap.size<=w2.heap.size;omega) _)
   have cq:v7.heap.size<=W7.heap.size:=by rw[<-T];simp[World.setCell]
   have ca:=ah ((Apd.setCell F.o (a:=⟨w2.heap.size,7,none⟩) (by show w2.heap.size<_;omega) (.int .i64 (k4:Nat))));rw[T]at ca;clear l c n u F;have aq:=ah (lX (w.heap.size+1) s4 W7 bx.o m4.o);rw[H8.o]at aq;simp only at aq;go_wp2_with fail;refine aq.o.mono ?_;rintro e v8 ⟨rfl,hr,hg⟩;have l:=ah hr;have c:=ah (hg.bk bw.o (by show ¬w2.heap.size=w.heap.size+1;omega));have n:=ah (hg.bk bz.o (by show ¬w.heap.size=w.heap.size+1;omega));have u:Hid (Below w.heap.size w v8):=aD.o.trans (hg.below (by have:=aD.o.size;omega) (fun q hq e=>by omega));have cr:=hg.size;have F:=ah (ca.o.gb hg (by omega));clear c0 c1 c2 c3 c4 c5 c6 c7 c8;clear hr hg aq aD bz bw bx T;obtain⟨c0,c1,c2,c3,c4,c5,c6,c7,c8⟩:=c.o.nine;have f8:=c.o.free 8;obtain⟨W8,Q⟩:=NX9 ((v8.setCell ⟨w2.heap.size,8,none⟩ (.string (ofL t5))))
   have cb:Hid (Bk W8 w2.heap.size 109 #[.int .i64 3,.string ⟨#[]⟩,.slice none 0 0,.int .u64 d1,.int .u64 d2,.slice A5 L.length O,.string (ofL t),.int .i64 (k4:Nat),.string (ofL t5)]):=by rw[<-Q];have:=(c.o.set 8 (.string (ofL t5)));show Bk _ _ _ _;simpa using this
   have cj:Hid (Rds W8 (w.heap.size+1) s5):=by rw[<-Q];exact(Bk.far l.o (p:=⟨w2.heap.size,8,none⟩) (by show w.heap.size+1≠w2.heap.size;omega) _)
   have g:Hid (Bk W8 w.heap.size 109 zrC):=by rw[<-Q];exact(Bk.far n.o (p:=⟨w2.heap.size,8,none⟩) (by show w.heap.size≠w2.heap.size;omega) _)
   have E:Hid (Below w.heap.size w W8):=by rw[<-Q];exact(Below.setCell u.o (p:=⟨w2.heap.size,8,none⟩) (by show w.heap.size<=w2.heap.size;omega) _)
   have cs:v8.heap.size<=W8.heap.size:=by rw[<-Q];simp[World.setCell]
   have cc:=ah ((Apd.setCell F.o (a:=⟨w2.heap.size,8,none⟩) (by show w2.heap.size<_;omega) (.string (ofL t5))));rw[Q]at cc;clear l c n u F;have bi:=j;have cg:=HQ;have K:Hid (ObM W8 W8.heap.size ⟨3,⟨#[]⟩,[],(d1,d2),L,ofL t,(k4:Nat),ofL t5⟩ ⟨none,0,0,A5,L.length,O⟩):=⟨Sl.nil _ _ _ _,cc.o.sl,Nat.le_refl _,ZZ _,ch,ci⟩
   have P:Hid (Bk W8 w2.heap.size 109 (obC ⟨3,⟨#[]⟩,[],(d1,d2),L,ofL t,(k4:Nat),ofL t5⟩ ⟨none,0,0,A5,L.length,O⟩)):=cb.o;have bj:w2.heap.size<W8.heap.size:=cb.o.lt
   go_upto_region 15 with fail
   try rw[Q]
   clear Q c0 c1 c2 c3 c4 c5 c6 c7 c8 f8;obtain⟨bs,D⟩:=s5;simp only at HQ j;obtain⟨q0,q1,_,_⟩:=Bk.two (show Bk W8 (w.heap.size+1) 229 #[.string (ofL bs),.bool D] from cj.o);obtain⟨d0,d1,d2,d3,d4,d5,d6,d7,d8⟩:=g.o.nine;obtain⟨f0,f1,f2,f3,f4,f5,f6,f7,f8⟩:=fr9 g.o;cases D with
   | true =>
     go_wp2_with fail;refine ZY (dW Tryz.results81 rfl (dX g.o _ _ _ _ _ _ _ _ _) rfl) rfl ⟨rfl,dV E.o ai _ _ _ _ _ _ _ _ _⟩
   | false =>
     by_cases hbs:bs= []
     . subst hbs
       have M:Hid (¬OkF _):=HQ.o.resolve_left (by simp) |>.resolve_left (by simp);have z:=ah (mM _ _ W8.heap.size W8 K.o ai (j.o rfl) M.o);simp only[obV,obC]at z P;obtain⟨k0,k1,k2,k3,k4,k5,k6,k7,k8⟩:=P.o.nine;have N:W8.cell? ⟨w.heap.size+1,0,none⟩=some (.string ⟨#[]⟩):=q0;clear q0;go_wp2_with fail;refine z.o.mono ?_;rintro e w8 ⟨⟨x,rfl,hx⟩,A⟩;have al: (x != 0)=true:=by simpa using hx
       have g:=ah (g.o.below A g.o.lt);have E:Hid (Below w.heap.size w w8):=E.o.trans (A.mono E.o.size);clear k0 k1 k2 k3 k4 k5 k6 k7 k8 N q1 d0 d1 d2 d3 d4 d5 d6 d7 d8 f0 f1 f2 f3 f4 f5 f6 f7 f8 A z hx;obtain⟨d0,d1,d2,d3,d4,d5,d6,d7,d8⟩:=g.o.nine;obtain⟨f0,f1,f2,f3,f4,f5,f6,f7,f8⟩:=fr9 g.o;go_wp2_with fail;refine ZY (dW Tryz.results81 rfl (dX g.o _ _ _ _ _ _ _ _ _) rfl) rfl ⟨rfl,dV E.o ai _ _ _ _ _ _ _ _ _⟩
     . have am: ((ofL bs).toList == ([]:List UInt8))=false:=by
         rw[mV];exact decide_eq_false fun h=>hbs (by have:=congrArg toL h;rw[bP]at this;exact this)
       clear hbs;go_wp2_with fail;refine ZY (dW Tryz.results81 rfl (dX g.o _ _ _ _ _ _ _ _ _) rfl) rfl ⟨rfl,dV E.o ai _ _ _ _ _ _ _ _ _⟩
 . have HE:Hid (qO b= (⟨(k:Nat),⟨#[]⟩,[],zD,[],⟨#[]⟩,0,⟨#[]⟩⟩,st)):=by
     show _=_;unfold qO;rw[HX.o];simp only;rw[if_neg (by omega),if_neg (by omega),if_neg (by omega)]
   rw[HE.o]at HQ j;simp only at HQ j;have k1: (((k:Nat):Int) == 1)=false:=by rw[beq_eq_false_iff_ne];omega
   have k2: (((k:Nat):Int) == 2)=false:=by rw[beq_eq_false_iff_ne];omega
   have k3: (((k:Nat):Int) == 3)=false:=by rw[beq_eq_false_iff_ne];omega
   have k4: (((k:Nat):Int) == 4)=false:=by rw[beq_eq_false_iff_ne];omega
   have H:=I;have f:=J;have i:=C;have Y:w2.heap.size<W3.heap.size:=v.o.lt;have B:Hid (Bk W3 w2.heap.size 109 (obC ⟨(k:Nat),⟨#[]⟩,[],zD,[],⟨#[]⟩,0,⟨#[]⟩⟩ ⟨none,0,0,none,0,0⟩)):=v.o;have K:Hid (ObM W3 W3.heap.size ⟨(k:Nat),⟨#[]⟩,[],zD,[],⟨#[]⟩,0,⟨#[]⟩⟩ ⟨none,0,0,none,0,0⟩):=⟨Sl.nil _ _ _ _,Sl.nil _ _ _ _,Nat.le_refl _,ZZ _,Nat.le_refl _,ZZ _⟩
   go_upto_region 15 with fail
   rw[G.o];obtain⟨W4,d⟩:=NX9 W3
   rw[d]at H f i B K Y ⊢;obtain⟨q4,cd⟩:=NX9 st
   rw[cd]at H HQ j;clear d c0 k1 k2 k3 k4 I J C v HE U cd;obtain⟨bs,D⟩:=q4;simp only at HQ j;obtain⟨q0,q1,_,_⟩:=Bk.two (show Bk W4 (w.heap.size+1) 229 #[.string (ofL bs),.bool D] from H.o);obtain⟨d0,d1,d2,d3,d4,d5,d6,d7,d8⟩:=f.o.nine;obtain⟨f0,f1,f2,f3,f4,f5,f6,f7,f8⟩:=fr9 f.o;cases D with
   | true =>
     go_wp2_with fail;refine ZY (dW Tryz.results81 rfl (dX f.o _ _ _ _ _ _ _ _ _) rfl) rfl ⟨rfl,dV i.o ai _ _ _ _ _ _ _ _ _⟩
   | false =>
     by_cases hbs:bs= []
     . subst hbs
       have M:Hid (¬OkF _):=HQ.o.resolve_left (by simp) |>.resolve_left (by simp);have z:=ah (mM _ _ W4.heap.size W4 K.o ai (j.o rfl) M.o);simp only[obV,obC,zD]at z B;obtain⟨k0,k1,k2,k3,k4,k5,k6,k7,k8⟩:=B.o.nine;have N:W4.cell? ⟨w.heap.size+1,0,none⟩=some (.string ⟨#[]⟩):=q0;clear q0;go_wp2_with fail;refine z.o.mono ?_;rintro e w8 ⟨⟨x,rfl,hx⟩,A⟩;have al: (x != 0)=true:=by simpa using hx
       have g:=ah (f.o.below A f.o.lt);have E:Hid (Below w.heap.size w w8):=i.o.trans (A.mono i.o.size);clear k0 k1 k2 k3 k4 k5 k6 k7 k8 N q1 d0 d1 d2 d3 d4 d5 d6 d7 d8 f0 f1 f2 f3 f4 f5 f6 f7 f8 A z hx;obtain⟨d0,d1,d2,d3,d4,d5,d6,d7,d8⟩:=g.o.nine;obtain⟨f0,f1,f2,f3,f4,f5,f6,f7,f8⟩:=fr9 g.o;go_wp2_with fail;refine ZY (dW Tryz.results81 rfl (dX g.o _ _ _ _ _ _ _ _ _) rfl) rfl ⟨rfl,dV E.o ai _ _ _ _ _ _ _ _ _⟩
     . have am: ((ofL bs).toList == ([]:List UInt8))=false:=by
         rw[mV];exact decide_eq_false fun h=>hbs (by have:=congrArg toL h;rw[bP]at this;exact this)
       clear hbs;go_wp2_with fail;refine ZY (dW Tryz.results81 rfl (dX f.o _ _ _ _ _ _ _ _ _) rfl) rfl ⟨rfl,dV i.o ai _ _ _ _ _ _ _ _ _⟩
theorem Gg(x:Itm)(w:MZ)(hx:∃o,OkO o/\x.2=ofL (aG o))(hd:x.1=ofB (toL x.2)) :
  Calls Tryz.prog 72 #[itV x] w fun e w'=>e= .returned (.int .i64 0)/\Below w.heap.size w w':=by
 obtain⟨⟨d1,d2⟩,s⟩:=x;obtain⟨o,ho,hs⟩:=hx;simp only at hs hd;have h:s.size<=maxLen:=by rw[hs,bG];have:=ho.len;unfold maxLen;omega
 have b:=ah (fun W=>qh s W h);unfold lC at b;rw[<-hd]at b;obtain⟨W,hW⟩:=NX9 (w.alloc (.cells #[.int .u64 d1,.int .u64 d2,.string s] 118))
 have i:Hid (Below w.heap.size w W):=by rw[<-hW];exact(af _ w).alloc ai _
 have HK:Hid (Bk W w.heap.size 118 #[.int .u64 d1,.int .u64 d2,.string s]):=by rw[<-hW];exact Bk.new w _ _
 have zk:w.heap.size<W.heap.size:=HK.o.lt;have HD:=ah (oq o W ho);rw[<-hs]at HD;unfold OdE at HD;simp only[aB,itV]at b ⊢;obtain⟨x0,x1,x2⟩:=HK.o.three;have HW:=ah hW;rw[<-hW]at x0 x1 x2;clear hs hd h hW ho
 go_enter Tryz.func72,Tryz.ntmps72
 go_wp2_with fail;rw[HW.o];refine HD.o.mono ?_;rintro e w2 ⟨sl,rfl,_,hb,_⟩;have c:=ah (HK.o.below hb zk);have d:Hid (Below w.heap.size w w2):=i.o.trans (hb.mono i.o.size);clear hb HD x0 x1 x2 HW;simp only[obV,obC];obtain⟨W3,j⟩:=NX9 (w2.alloc (.cells #[.int .i64 o.kind,.string o.data,.slice sl.eA sl.en sl.ec,.int .u64 o.tree.1,.int .u64 o.tree.2,.slice sl.pA sl.pn sl.pc,.string o.auth,.int .i64 o.time,.string o.msg] 109))
 have f:Below w2.heap.size w2 W3:=by rw[<-j];exact(af _ w2).alloc ai _
 have g:Hid (Below w.heap.size w W3):=d.o.trans (f.mono d.o.size);have k:=ah (c.o.below f c.o.lt);have m:w.heap.size<W3.heap.size:=k.o.lt;obtain⟨k0,k1,k2⟩:=k.o.three;have n: (d1 != d1 || d2 != d2)=false:=by simp
 have q: (d1 == d1 && d2 == d2)=true:=by simp
 clear f d c;go_wp2_with fail;clear j
 go_region_held3 (fun w'=>w'.cell? ⟨w.heap.size,0,none⟩=some (.int .u64 d1)/\w'.cell? ⟨w.heap.size,1,none⟩=some (.int .u64 d2)/\w'.cell? ⟨w.heap.size,2,none⟩=some (.string s))
  (first | exact⟨k0,k1,k2⟩ | exact⟨m0.o,m1.o,m2.o⟩)
  (first
    | (go_at_call 126;refine(b.o _).mono ?_;rintro e w7 ⟨rfl,a⟩
       have m0:=ah ((a.cell (p:=⟨w.heap.size,0,none⟩) (by show w.heap.size<_;simp;omega)).trans k0);have m1:=ah ((a.cell (p:=⟨w.heap.size,1,none⟩) (by show w.heap.size<_;simp;omega)).trans k1);have m2:=ah ((a.cell (p:=⟨w.heap.size,2,none⟩) (by show w.heap.size<_;simp;omega)).trans k2);have hR:Hid (Below W3.heap.size W3 w7):=(af _ W3).drew.trans a;clear a))
 have l:Hid (Below w.heap.size w w7):=g.o.trans (hR.o.mono g.o.size);clear m0 m1 m2 k0 k1 k2 hR g;go_wp2_with fail;go_ret
 exact⟨rfl,l.o⟩
theorem JB(x:Itm)(w:MZ)(hx:∃o,OkO o/\x.2=ofL (aG o))(hd:x.1≠ofB (toL x.2)) :
  Calls Tryz.prog 72 #[itV x] w fun e w'=>e= .returned (.int .i64 15)/\Below w.heap.size w w':=by
 obtain⟨⟨d1,d2⟩,s⟩:=x;obtain⟨o,ho,hs⟩:=hx;simp only at hs hd;obtain⟨⟨r1,r2⟩,c⟩:∃r,ofB (toL s)=r:=⟨_,rfl⟩
 rw[c]at hd;have j:s.size<=maxLen:=by rw[hs,bG];have:=ho.len;unfold maxLen;omega
 have b:=ah (fun W=>qh s W j);unfold lC at b;rw[c]at b;have q: (r1 == d1 && r2 == d2)=false:=by
  rw[Bool.eq_false_iff];intro h;rw[Bool.and_eq_true,beq_iff_eq,beq_iff_eq]at h;exact hd (Prod.ext h.1.symm h.2.symm)
 have t: (r1 != d1 || r2 != d2)=true:=by
  rw[Bool.or_eq_true,bne_iff_ne,bne_iff_ne];refine Classical.byContradiction fun h=>?_;rw[not_or,ne_eq,ne_eq,Decidable.not_not,Decidable.not_not]at h;exact hd (Prod.ext h.1.symm h.2.symm)
 obtain⟨W,hW⟩:=NX9 (w.alloc (.cells #[.int .u64 d1,.int .u64 d2,.string s] 118))
 have k:Hid (Below w.heap.size w W):=by rw[<-hW];exact(af _ w).alloc ai _
 have HK:Hid (Bk W w.heap.size 118 #[.int .u64 d1,.int .u64 d2,.string s]):=by rw[<-hW];exact Bk.new w _ _
 have zk:w.heap.size<W.heap.size:=HK.o.lt;have HD:=ah (oq o W ho);rw[<-hs]at HD;unfold OdE at HD;simp only[aB,itV]at b ⊢;obtain⟨x0,x1,x2⟩:=HK.o.three;have HW:=ah hW;rw[<-hW]at x0 x1 x2;clear hs hd j hW ho c
 go_enter Tryz.func72,Tryz.ntmps72
 go_wp2_with fail;rw[HW.o];refine HD.o.mono ?_;rintro e w2 ⟨sl,rfl,_,hb,_⟩;have d:=ah (HK.o.below hb zk);have f:Hid (Below w.heap.size w w2):=k.o.trans (hb.mono k.o.size);clear hb HD x0 x1 x2 HW;simp only[obV,obC];obtain⟨W3,l⟩:=NX9 (w2.alloc (.cells #[.int .i64 o.kind,.string o.data,.slice sl.eA sl.en sl.ec,.int .u64 o.tree.1,.int .u64 o.tree.2,.slice sl.pA sl.pn sl.pc,.string o.auth,.int .i64 o.time,.string o.msg] 109))
 have g:Below w2.heap.size w2 W3:=by rw[<-l];exact(af _ w2).alloc ai _
 have i:Hid (Below w.heap.size w W3):=f.o.trans (g.mono f.o.size);have m:=ah (d.o.below g d.o.lt);have u:w.heap.size<W3.heap.size:=m.o.lt;obtain⟨k0,k1,k2⟩:=m.o.three;clear g f d;go_wp2_with fail;clear l
 go_region_held3 (fun w'=>w'.cell? ⟨w.heap.size,0,none⟩=some (.int .u64 d1)/\w'.cell? ⟨w.heap.size,1,none⟩=some (.int .u64 d2)/\w'.cell? ⟨w.heap.size,2,none⟩=some (.string s))
  (first | exact⟨k0,k1,k2⟩ | exact⟨m0.o,m1.o,m2.o⟩)
  (first
    | (go_at_call 126;refine(b.o _).mono ?_;rintro e w7 ⟨rfl,a⟩
       have m0:=ah ((a.cell (p:=⟨w.heap.size,0,none⟩) (by show w.heap.size<_;simp;omega)).trans k0);have m1:=ah ((a.cell (p:=⟨w.heap.size,1,none⟩) (by show w.heap.size<_;simp;omega)).trans k1);have m2:=ah ((a.cell (p:=⟨w.heap.size,2,none⟩) (by show w.heap.size<_;simp;omega)).trans k2);have hR:Hid (Below W3.heap.size W3 w7):=(af _ W3).drew.trans a;clear a))
 have n:Hid (Below w.heap.size w w7):=i.o.trans (hR.o.mono i.o.size);clear m0 m1 m2 k0 k1 k2 hR i;go_wp2_with fail;go_ret
 exact⟨rfl,n.o⟩
theorem GV(x:Itm)(w:MZ)(hs:x.2.size<=65536)(hx:¬∃o,OkO o/\x.2=ofL (aG o)) :
  Calls Tryz.prog 72 #[itV x] w fun e w'=>e= .returned (.int .i64 13)/\Below w.heap.size w w':=by
 obtain⟨⟨d1,d2⟩,s⟩:=x;simp only at hs hx;obtain⟨W,hW⟩:=NX9 (w.alloc (.cells #[.int .u64 d1,.int .u64 d2,.string s] 118))
 have a:Hid (Below w.heap.size w W):=by rw[<-hW];exact(af _ w).alloc ai _
 have HK:Hid (Bk W w.heap.size 118 #[.int .u64 d1,.int .u64 d2,.string s]):=by rw[<-hW];exact Bk.new w _ _
 have HD:=ah (Et (toL s) W (by rw[<-aP];exact hs) (fun⟨o,ho,he⟩=>hx ⟨o,ho,by rw[<-he,iF]⟩));rw[iF]at HD;unfold KdE at HD;obtain⟨x0,x1,x2⟩:=HK.o.three;have HW:=ah hW;rw[<-hW]at x0 x1 x2;simp only[itV];clear hs hx hW
 go_enter Tryz.func72,Tryz.ntmps72
 go_wp2_with fail;rw[HW.o];refine HD.o.mono ?_;rintro e w2 ⟨rfl,hb⟩;have b:Hid (Below w.heap.size w (w2.alloc (.cells #[.int .i64 0,.string ⟨#[]⟩,.slice none 0 0,.int .u64 0,.int .u64 0,.slice none 0 0,.string ⟨#[]⟩,.int .i64 0,.string ⟨#[]⟩] 109))):=(a.o.trans (hb.mono a.o.size)).alloc (by have:=hb.size;have:=a.o.size;omega) _;clear hb HD x0 x1 x2 HW;go_wp2_with fail;go_ret
 exact⟨rfl,b.o⟩
theorem Hf(x:Itm)(w:MZ)(hs:x.2.size<=65536) :
  Calls Tryz.prog 72 #[itV x] w fun e w'=>(∃z:Int,e= .returned (.int .i64 z)/\ (z=0↔ (∃o,OkO o/\x.2=ofL (aG o))/\x.1=ofB (toL x.2))/\z≠20)/\Below w.heap.size w w':=by
 by_cases he:∃o,OkO o/\x.2=ofL (aG o)
 . by_cases hd:x.1=ofB (toL x.2)
   . exact(Gg x w he hd).mono (by rintro e w' ⟨rfl,hb⟩;exact⟨⟨0,rfl,⟨fun _=>⟨he,hd⟩,fun _=>rfl⟩,by decide⟩,hb⟩)
   . exact(JB x w he hd).mono (by rintro e w' ⟨rfl,hb⟩;exact⟨⟨15,rfl,⟨fun h=>absurd h (by decide),fun h=>absurd h.2 hd⟩,by decide⟩,hb⟩)
 . exact(GV x w hs he).mono (by rintro e w' ⟨rfl,hb⟩;exact⟨⟨13,rfl,⟨fun h=>absurd h (by decide),fun h=>absurd h.1 he⟩,by decide⟩,hb⟩)
theorem yx{p:List Itm}{k:Nat}{x:Itm}(h:PlOk (p.take k))(hx:p[k]? =some x)(he:∃o,OkO o/\x.2=ofL (aG o))(hd:x.1=ofB (toL x.2))(hp:∀y,0<k->p[k - 1]? =some y->ltD y.1 x.1):PlOk (p.take (k+1)):=by
 rw[aS hx];refine⟨fun i hi=>?_,fun i hi=>?_,?_⟩
 . rcases List.mem_append.1 hi with hi | hi
   . exact h.enc i hi
   . rw[List.mem_singleton.1 hi];exact he
 . rcases List.mem_append.1 hi with hi | hi
   . exact h.dg i hi
   . rw[List.mem_singleton.1 hi];exact hd
 . rw[List.pairwise_append]
   refine⟨h.asc,List.pairwise_singleton _ _,fun a ha b hb=>?_⟩;rw[List.mem_singleton.1 hb];have f:0<k:=by
    rcases Nat.eq_zero_or_pos k with h0 | h0
    . subst h0;simp at ha
    . exact h0
   have g:=(List.getElem?_eq_some_iff.1 hx).1;have hy:p[k - 1]? =some (p[k - 1]'(by omega)):=Z6 _;have c:=hp _ f hy;obtain⟨j,hj,e⟩:=List.getElem_of_mem ha;rw[List.length_take]at hj;rw[List.getElem_take]at e;rcases Nat.lt_or_ge j (k - 1) with h1 | h1
   . have d:=h.asc
     rw[List.pairwise_iff_getElem]at d;have h2:=d j (k - 1) (by rw[List.length_take];omega) (by rw[List.length_take];omega) h1;rw[List.getElem_take,List.getElem_take,e]at h2;exact iP h2 c
   . have:j=k - 1:=by omega
     subst this;rw[<-e];exact c
theorem Ev(A:OA)(n c B:Nat)(p:List Itm)(w:MZ)(h0:Sl w B 3 A n (flat itC p))(hB:B<=w.heap.size)(hn:n<=1000000)(hsz:∀i∈p,i.2.size<=65536) :
  Calls Tryz.prog 33 #[.slice A n c] w fun e w'=>∃x:Int,e= .returned (.int .i64 x)/\ (x=0↔PlOk p)/\x≠20/\Below w.heap.size w w':=by
 have HL:=ah (h0.len bO (by omega));have H0:=ah h0;have Z:=ah hsz;clear h0 hsz
 go_enter Tryz.func33,Tryz.ntmps33
 go_wp2_with fail
 go_loopw[8] (fun i wr=>∃k:Nat,k<=n/\i= .int .i64 (k:Int)/\Hid (Below w.heap.size w wr)/\Hid (PlOk (p.take k))) (fun i _=>n - (intOf i).toNat)
 case atStart=>exact⟨0,ZZ _,rfl,af _ _,PlOk.nil⟩
 case round =>
  obtain⟨k,hk,rfl,l,O⟩:=hrel;have D:=ah O.o;clear O;by_cases hlt:k<n
  . have ab: (k:Int)< (n:Int):=by omega
    obtain⟨b,d,x,rfl,hb,hx,y0,y1,y2⟩:=(H0.o.below l.o hB).it hlt;have HX:=ah hx;have s:=Z7 hx;have I:=ah s;have ad:=ah (Z.o x s);have r:=ah l.o;clear hx s l;obtain⟨⟨x1,x2⟩,xs⟩:=x;simp only at y0 y1 y2;obtain⟨W6,t⟩:=NX9 (wr.alloc (.cells #[.int .u64 x1,.int .u64 x2,.string xs] 118))
    have P:Below wr.heap.size wr W6:=by rw[<-t];exact(af _ wr).alloc ai _
    have K:Hid (Below w.heap.size w W6):=r.o.trans (P.mono r.o.size);have E:Hid (Bk W6 wr.heap.size 118 #[.int .u64 x1,.int .u64 x2,.string xs]):=by rw[<-t];exact Bk.new wr _ _
    have HC:=ah (Hf ((x1,x2),xs) W6 ad.o);simp only[itV]at HC;have zk:wr.heap.size<W6.heap.size:=E.o.lt;have zr:w.heap.size<=wr.heap.size:=r.o.size;obtain⟨Q,R,S⟩:=E.o.three;have T:=ah t;rw[<-t]at Q R S;clear P t r;go_wp2_with fail;rw[T.o];refine HC.o.mono ?_;rintro e w7 ⟨⟨z,rfl,hz,u⟩,L⟩;have HZ:=ah hz;have J:=ah u;have g:Hid (Below w.heap.size w w7):=K.o.trans (L.mono K.o.size);have U:=ah (E.o.below L zk);have ao:wr.heap.size<w7.heap.size:=U.o.lt;obtain⟨k0,k1,k2⟩:=U.o.three;clear L HC K E T Q R S y0 y1 y2;by_cases hz0:z=0
    case neg =>
     have ap: (z != 0)=true:=by simpa using hz0
     have V:=ah hz0;clear hz0 hz u;go_wp2_with fail;go_ret
     exact⟨z,rfl,⟨fun h=>absurd h V.o,fun h=>absurd (HZ.o.2 ⟨h.enc _ I.o,h.dg _ I.o⟩) V.o⟩,J.o,g.o⟩
    subst hz0;have F:=ah (HZ.o.1 rfl);clear hz u HZ J;by_cases hk0:k=0
    . subst hk0
      go_wp2_with fail
      go_quiet(fail)
      go_wp2_with fail;go_roundw
      case rel=>exact⟨0+1,hlt,by go_num,bN g.o _,yx D.o HX.o F.o.1 F.o.2 (fun y h=>absurd h (by omega))⟩
      case measure=>simp[intOf];omega
    . obtain⟨j,rfl⟩:∃j,k=j+1:=⟨k - 1,by omega⟩
      obtain⟨b3,an,y,v,aq,hy,z0,z1,z2⟩:=(H0.o.below g.o hB).it (k:=j) (by omega);injection v with v;injection v with v hA4;subst v;subst hA4;have X: (bX (x1,x2) y.1=1/\ltD y.1 (x1,x2))∨ (bX (x1,x2) y.1=0/\¬ltD y.1 (x1,x2))∨ (bX (x1,x2) y.1= -1/\¬ltD y.1 (x1,x2)):=by
       unfold bX;by_cases e1: (x1,x2)=y.1
       . rw[if_pos e1];exact .inr (.inl ⟨rfl,fun h=>gK _ (by rw[e1]at h;exact h)⟩)
       . rw[if_neg e1]
         by_cases e2:ltD (x1,x2) y.1
         . rw[if_pos e2];exact .inr (.inr ⟨rfl,fun h=>gK _ (iP h e2)⟩)
         . rw[if_neg e2]
           refine .inl ⟨rfl,Classical.byContradiction fun h=>e1 (kG e2 h)⟩
      have HY:=ah hy;have M:Hid (¬ltD y.1 (x1,x2)->¬PlOk p):=fun hn hp=>hn (by
       have h1:=hp.asc;rw[List.pairwise_iff_getElem]at h1;obtain⟨l1,e1⟩:=List.getElem?_eq_some_iff.1 HY.o;obtain⟨l2,e2⟩:=List.getElem?_eq_some_iff.1 HX.o;have h2:=h1 j (j+1) l1 l2 (by omega);rw[e1,e2]at h2;exact h2)
      have Y:Hid (ltD y.1 (x1,x2)->PlOk (p.take (j+1+1))):=fun hn=>yx D.o HX.o F.o.1 F.o.2 (fun y' _ h=>by
       have h:p[j]? =some y':=h;rw[HY.o]at h;cases h;exact hn)
      clear hy;obtain⟨⟨G,H⟩,ys⟩:=y;simp only at z0 z1 z2 X M Y;have ar:IntKind.i64.wrap (j:Int)= (j:Int):=by rw[IntKind.wrap_i64];omega
      have au:j<n:=by omega
      have av: (j:Int)+1< (n:Int):=by omega
      have aw: (0:Int)<= (j:Int)+1:=by omega
      have aD: ((j:Int)+1).toNat=j+1:=by omega
      have aE: (0:Int)< (j:Int)+1:=by omega
      have f:=ah (fun W=>tC (x1,x2) (G,H) W);rcases X with ⟨m,o⟩ | ⟨m,o⟩ | ⟨m,o⟩
      . unfold CmE at f
        rw[m]at f;simp only[aB]at f;have zb:b<w7.heap.size:=by omega
        clear m;go_wp2_with fail
        go_region_held3 (fun w'=>w'.cell? ⟨b,d+j*3,none⟩=some (.int .u64 G)/\w'.cell? ⟨b,d+j*3+1,none⟩=some (.int .u64 H)/\w'.cell? ⟨wr.heap.size,0,none⟩=some (.int .u64 x1)/\w'.cell? ⟨wr.heap.size,1,none⟩=some (.int .u64 x2))
         (first | exact⟨z0,z1,k0,k1⟩ | exact⟨n0.o,n1.o,n2.o,n3.o⟩)
         (first
           | (go_at_call 55;refine(f.o _).mono ?_;rintro e w8 ⟨rfl,a⟩
              have n0:=ah ((a.cell (p:=⟨b,d+j*3,none⟩) (by show b<_;simp;omega)).trans z0);have n1:=ah ((a.cell (p:=⟨b,d+j*3+1,none⟩) (by show b<_;simp;omega)).trans z1);have n2:=ah ((a.cell (p:=⟨wr.heap.size,0,none⟩) (by show wr.heap.size<_;simp;omega)).trans k0);have n3:=ah ((a.cell (p:=⟨wr.heap.size,1,none⟩) (by show wr.heap.size<_;simp;omega)).trans k1);have q:Hid (Below w7.heap.size w7 w8):=(af _ w7).drew.trans a;clear a))
        have C:Hid (Below w.heap.size w w8):=g.o.trans (q.o.mono g.o.size);clear n0 n1 n2 n3 z0 z1 z2 k0 k1 k2 q;have ag:=ah (Y.o o);go_wp2_with fail;go_roundw
        case rel=>exact⟨j+1+1,hlt,by go_num,C.o,ag.o⟩
        case measure=>simp[intOf];omega
      . unfold CmE at f
        rw[m]at f;simp only[aB]at f;have zb:b<w7.heap.size:=by omega
        clear m;go_wp2_with fail
        go_region_held3 (fun w'=>w'.cell? ⟨b,d+j*3,none⟩=some (.int .u64 G)/\w'.cell? ⟨b,d+j*3+1,none⟩=some (.int .u64 H)/\w'.cell? ⟨wr.heap.size,0,none⟩=some (.int .u64 x1)/\w'.cell? ⟨wr.heap.size,1,none⟩=some (.int .u64 x2))
         (first | exact⟨z0,z1,k0,k1⟩ | exact⟨n0.o,n1.o,n2.o,n3.o⟩)
         (first
           | (go_at_call 55;refine(f.o _).mono ?_;rintro e w8 ⟨rfl,a⟩
              have n0:=ah ((a.cell (p:=⟨b,d+j*3,none⟩) (by show b<_;simp;omega)).trans z0);have n1:=ah ((a.cell (p:=⟨b,d+j*3+1,none⟩) (by show b<_;simp;omega)).trans z1);have n2:=ah ((a.cell (p:=⟨wr.heap.size,0,none⟩) (by show wr.heap.size<_;simp;omega)).trans k0);have n3:=ah ((a.cell (p:=⟨wr.heap.size,1,none⟩) (by show wr.heap.size<_;simp;omega)).trans k1);have q:Hid (Below w7.heap.size w7 w8):=(af _ w7).drew.trans a;clear a))
        have C:Hid (Below w.heap.size w w8):=g.o.trans (q.o.mono g.o.size);clear n0 n1 n2 n3 z0 z1 z2 k0 k1 k2 q;have N:=ah (M.o o);go_wp2_with fail;go_ret
        exact⟨10,rfl,⟨fun h=>absurd h (by decide),fun h=>absurd h N.o⟩,by decide,C.o⟩
      . unfold CmE at f
        rw[m]at f;simp only[aB]at f;have zb:b<w7.heap.size:=by omega
        clear m;go_wp2_with fail
        go_region_held3 (fun w'=>w'.cell? ⟨b,d+j*3,none⟩=some (.int .u64 G)/\w'.cell? ⟨b,d+j*3+1,none⟩=some (.int .u64 H)/\w'.cell? ⟨wr.heap.size,0,none⟩=some (.int .u64 x1)/\w'.cell? ⟨wr.heap.size,1,none⟩=some (.int .u64 x2))
         (first | exact⟨z0,z1,k0,k1⟩ | exact⟨n0.o,n1.o,n2.o,n3.o⟩)
         (first
           | (go_at_call 55;refine(f.o _).mono ?_;rintro e w8 ⟨rfl,a⟩
              have n0:=ah ((a.cell (p:=⟨b,d+j*3,none⟩) (by show b<_;simp;omega)).trans z0);have n1:=ah ((a.cell (p:=⟨b,d+j*3+1,none⟩) (by show b<_;simp;omega)).trans z1);have n2:=ah ((a.cell (p:=⟨wr.heap.size,0,none⟩) (by show wr.heap.size<_;simp;omega)).trans k0);have n3:=ah ((a.cell (p:=⟨wr.heap.size,1,none⟩) (by show wr.heap.size<_;simp;omega)).trans k1);have q:Hid (Below w7.heap.size w7 w8):=(af _ w7).drew.trans a;clear a))
        have C:Hid (Below w.heap.size w w8):=g.o.trans (q.o.mono g.o.size);clear n0 n1 n2 n3 z0 z1 z2 k0 k1 k2 q;have N:=ah (M.o o);go_wp2_with fail;go_ret
        exact⟨10,rfl,⟨fun h=>absurd h (by decide),fun h=>absurd h N.o⟩,by decide,C.o⟩
  . have ab:¬(k:Int)< (n:Int):=by omega
    have r:=ah l.o;clear l;have al:k=n:=by omega
    have am:Hid (p.take k=p):=ZW (by rw[HL.o];omega);rw[am.o]at D;clear al;go_wp2_with fail;go_ret
    exact⟨0,rfl,⟨fun _=>D.o,fun _=>rfl⟩,by decide,r.o⟩
theorem qm:iW:=fun A n c B q w h0 hB hn hsz _=>Ev A n c B q w h0 hB (by omega) hsz
def AtP(r R1:Rp)(y1:Int)(R2:Rp)(y2:Int)(ps:List Int):Prop:=∃gs p rs lg,Dur (ek R2.d ps) (recs gs)/\Mt gs p rs lg/\R2.d.ss.length<=100/\ (y2=0->y1=0/\p=R1.p/\rs=R1.rs/\lg=R1.lg) ∧
 (y2≠0-> (p=r.p/\rs=r.rs/\lg=r.lg)∨ (y2=20/\p=R1.p/\rs=R1.rs/\lg=R1.lg))/\ (y2=20->R2.p=r.p/\R2.rs=r.rs/\R2.lg=r.lg)
theorem IC{d:Dk}(hl:d.lf= -1)(m:Int)(a u:Nat)(l:List M5)(h: (bS {d with lf:=m} a u l).2=0∨ (bS {d with lf:=m} a u l).2=20): (bS d a u l).2=0:=by
 unfold bS at h ⊢;by_cases h1:dF l=true
 . rw[if_neg (by simpa using h1)]at h ⊢
   by_cases h2:hf d.ss - u< (secs d.sz (az l)).length
   . rw[if_pos h2]at h;simp at h
   . rw[if_neg h2,(ko _ d hl).1]
 . rw[if_pos (by simpa using h1)]at h;simp at h
theorem Jy{d:Dk}(hl:d.lf= -1)(m:Int)(a:Nat)(l:List M5)(h: (bZ {d with lf:=m} a l).2=0∨ (bZ {d with lf:=m} a l).2=20): (bZ d a l).2=0:=by
 unfold bZ at h ⊢;by_cases h1:dF l=true
 . rw[if_neg (by simpa using h1)]at h ⊢
   by_cases h2:hf d.ss< (secs d.sz (az l)).length
   . rw[if_pos h2]at h;simp at h
   . rw[if_neg h2,(ko _ d hl).1]
 . rw[if_pos (by simpa using h1)]at h;simp at h
theorem pM{r r' R1:Rp}{y1 y2:Int}{gs:List Gru}{ps:List Int}(hn:r'.d.ss.length<=100)(e:r'.p=r.p/\r'.rs=r.rs/\r'.lg=r.lg)(hD:Dur r'.d (recs gs))(hM:Mt gs r.p r.rs r.lg)(h0:y2=0->y1=0/\R1.p=r.p/\R1.rs=r.rs/\R1.lg=r.lg):AtP r R1 y1 r' y2 ps :=
 ⟨gs,r.p,r.rs,r.lg,hD.cut ps,hM,hn,fun h=>⟨(h0 h).1,(h0 h).2.1.symm,(h0 h).2.2.1.symm,(h0 h).2.2.2.symm⟩,fun _=> .inl ⟨rfl,rfl,rfl⟩,fun _=>e⟩
theorem Cm{r r':Rp}{gs gs':List Gru}{l:List M5}{p:List Itm}{rs:List Rf}{lg:List Upd}{Y Y1:Dk×Int}{ps:List Int}(hn:r'.d.ss.length<=100)(e:r'.p=r.p/\r'.rs=r.rs/\r'.lg=r.lg)(hD:Dur r'.d (recs gs))(hM:Mt gs r.p r.rs r.lg)
  (ho:Out r'.d (recs gs) l (recs gs') Y) (hM':dF l=true->Mt gs' p rs lg) (hs:Y.2=0∨Y.2=20->Y1.2=0):AtP r (eX r Y1 p rs lg).1 Y1.2 (eX r' Y p rs lg).1 Y.2 ps:=by
 rcases ho with ⟨hf,h1,h2,_,⟨h3,h4⟩ | ⟨h3,h4⟩⟩ | ⟨h3,h4⟩
 . have h5:=hs (.inl h3)
   have e1: (eX r Y1 p rs lg).1= ⟨Y1.1,p,rs,lg⟩:=by unfold eX;rw[if_pos h5]
   have e2: (eX r' Y p rs lg).1= ⟨Y.1,p,rs,lg⟩:=by unfold eX;rw[if_pos h3]
   rw[e1,e2];exact⟨gs',p,rs,lg,h4.cut ps,hM' hf,by show Y.1.ss.length<=100;rw[h2];exact hn,fun _=>⟨h5,rfl,rfl,rfl⟩,fun h=>absurd h3 h,fun h=>by rw[h3]at h;exact absurd h (by decide)⟩
 . have h5:=hs (.inr h3)
   have e1: (eX r Y1 p rs lg).1= ⟨Y1.1,p,rs,lg⟩:=by unfold eX;rw[if_pos h5]
   have e2: (eX r' Y p rs lg).1={r' with d:=Y.1}:=by unfold eX;rw[if_neg (by rw[h3];decide),if_pos h3]
   rw[e1,e2];have a:Y.1.ss.length<=100:=by rw[h2];exact hn
   rcases h4.cut ps with h6 | h6
   . exact⟨gs,r.p,r.rs,r.lg,h6,hM,a,fun h=>by rw[h3]at h;exact absurd h (by decide),fun _=> .inl ⟨rfl,rfl,rfl⟩,fun _=>e⟩
   . exact⟨gs',p,rs,lg,h6,hM' hf,a,fun h=>by rw[h3]at h;exact absurd h (by decide),fun _=> .inr ⟨h3,rfl,rfl,rfl⟩,fun _=>e⟩
 . have hd: (eX r' Y p rs lg).1=r':=by unfold eX;rw[if_neg h3,if_neg h4]
   rw[hd];exact pM hn e hD hM (fun h=>absurd h h3)
theorem Lg{r R1 R2:Rp}{gs:List Gru}{a u:Nat}{x:Ac}{y1 y2 left:Int}{ps:List Int}(hr:RI r)(hl:r.d.lf= -1)(h:Lvs r gs a u)(hx:AcF x)(hk:0<=x.kind/\x.kind<=2)(h0:0<=left)
  (h1:DoP r a u x R1 y1) (h2:DoP (dL r left) a u x R2 y2):AtP r R1 y1 R2 y2 ps:=by
 have hp:dL r left={r with d:={r.d with lf:=left % 40}}:=if_pos ⟨hl,h0⟩;have b:=mX hr (left:=left);rw[hp]at h2 b;have hD:Dur {r.d with lf:=left % 40} (recs gs):=⟨b.ok,h.d.pn,a,u,h.j⟩
 have c:=zP (x:=x) h.m h.n hx;rcases h1 with ⟨_,h3,_⟩ | ⟨_,_,h1⟩ | ⟨h3,_⟩
 . rw[hl]at h3;exact absurd h3 (by decide)
 . rcases h2 with ⟨_,_,h3,h4⟩ | ⟨_,_,h2⟩ | ⟨h3,_⟩
   . rw[h3]
     exact pM b.n ⟨rfl,rfl,rfl⟩ hD h.m (fun h=>by rw[h4]at h;exact absurd h (by decide))
   . generalize iw x r.p r.rs r.lg=pl at c h1 h2
     cases pl with
     | no=>rw[h2.1];exact pM b.n ⟨rfl,rfl,rfl⟩ hD h.m (fun h=>absurd h h2.2.1)
     | keep=>rw[h2.1];exact pM b.n ⟨rfl,rfl,rfl⟩ hD h.m (fun _=>⟨h1.2,by rw[h1.1],by rw[h1.1],by rw[h1.1]⟩)
     | app g p rs lg =>
       rw[h1.1,h1.2,h2.1,h2.2];have ho:=BV hD h.j (l:=aM g);rw[<-sV]at ho;exact Cm (r':={r with d:={r.d with lf:=left % 40}}) b.n ⟨rfl,rfl,rfl⟩ hD h.m ho c (IC hl _ a u _)
     | rew g p rs lg =>
       rw[h1.1,h1.2,h2.1,h2.2];have ho:=BJ hD h.j (l:=aM g);refine Cm (r':={r with d:={r.d with lf:=left % 40}}) (gs':= [g]) (l:=aM g) b.n ⟨rfl,rfl,rfl⟩ hD h.m ?_ (fun _=>c) (Jy hl _ a _);rw[Aw];exact ho
   . exact absurd hk h3
 . exact absurd hk h3
theorem Lvs.pow{r:Rp}{gs:List Gru}{a u:Nat}(hr:RI r)(h:Lvs r gs a u)(left:Int):Lvs (dL r left) gs a u:=by
 have b:=mX hr (left:=left);unfold dL at b ⊢;split
 . rename_i hc
   rw[if_pos hc]at b;exact⟨⟨b.ok,h.d.pn,a,u,h.j⟩,h.j,h.m,h.n⟩
 . exact h
structure LenB(r:Rp):Prop where
 p:r.p.length<=maxLen
 rs:r.rs.length<=maxLen
 lg:r.lg.length<=maxLen
theorem LenB.of{r:Rp}{gs:List Gru}(h:Mt gs r.p r.rs r.lg){sz a u:Nat}{ss:List M5}(hj:Jn sz ss a (recs gs) u)(hn:ss.length<=100):LenB r:=by
 have h1:=h.few hj hn;have h2:=kR h.rf;exact⟨by unfold maxLen;omega,by unfold maxLen;omega,by unfold maxLen;omega⟩
