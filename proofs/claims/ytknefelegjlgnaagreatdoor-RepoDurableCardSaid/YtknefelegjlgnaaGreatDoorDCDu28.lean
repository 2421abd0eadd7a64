/-
  Lemmas of the card.
-/
import Derived.Test.YtknefelegjlgnaaGreatDoorDCDu27
set_option maxRecDepth 100000
set_option maxHeartbeats 16000000
namespace Go.Proofs.YtknefelegjlgnaaGreatDoor
open Go.RowKit
theorem Ca{α:Type}{g:RS->α×RS}(hg:∀s,(g s).2.1.length<=s.1.length):∀(n:Nat)(s:RS),(qL g n s).2.1.length<=s.1.length
 | 0,s=>Nat.le_refl _
 | n+1,s=>by
   rw[qL];split
   . exact Nat.le_refl _
   . exact Z0 (Ca hg n _) (hg s)
theorem JC{α:Type}{g:RS->α×RS}{m:Nat}(hg:∀s,(g s).2.1.length<=s.1.length)(s:RS): (qLs g m s).2.1.length<=s.1.length:=Z0 (Ca hg _ _) (jO s)
def KdE(w:MQ)(e:Ending)(w':MQ):Prop:=e= .returned (.tuple #[.agg #[.int .i64 0,.string ⟨#[]⟩,.slice none 0 0,.int .u64 0,.int .u64 0,.slice none 0 0,.string ⟨#[]⟩,.int .i64 0,.string ⟨#[]⟩],.int .i64 13])/\Below w.heap.size w w'
theorem Er(b:MU)(w:MQ)(hb:b.length<=65536)(hn:¬∃o,OkO o/\b=aG o):Calls Tryz.prog 81 #[.string (ofL b)] w (KdE w):=by
 have HQ:=ah (KU hb hn);have HRD:Hid ((qO b).2.2=false->RdO (qO b).1):=fun h=>LP (o:=(qO b).1) (r:=(qO b).2) rfl h;obtain⟨s,hs⟩:∃s,ofL b=s:=⟨_,rfl⟩
 rw[hs];obtain⟨W1,hW1⟩:∃W,(w.alloc (.cells #[.int .i64 0,.string ⟨#[]⟩,.slice none 0 0,.int .u64 0,.int .u64 0,.slice none 0 0,.string ⟨#[]⟩,.int .i64 0,.string ⟨#[]⟩] 109)).alloc (.cells #[.string s,.bool false] 229)=W:=⟨_,rfl⟩
 have HZ1:Hid (Bk W1 w.heap.size 109 zrC):=by rw[<-hW1];exact(Bk.new w _ _).alloc _
 have HR1:Hid (Rds W1 (w.heap.size+1) (b,false)):=by
  show Bk _ _ _ #[.string (ofL b),.bool false];rw[hs,<-hW1];have:=Bk.new (w.alloc (.cells #[.int .i64 0,.string ⟨#[]⟩,.slice none 0 0,.int .u64 0,.int .u64 0,.slice none 0 0,.string ⟨#[]⟩,.int .i64 0,.string ⟨#[]⟩] 109)) 229 #[.string s,.bool false]
  rwa[Z9]at this
 have HB1:Hid (Below w.heap.size w W1):=by rw[<-hW1];exact((af _ w).alloc ai _).alloc (by simp) _
 have zW1:W1.heap.size=w.heap.size+2:=by rw[<-hW1];simp
 have HC1:=ah (lT (w.heap.size+1) (b,false) W1 HR1.out (by show b.length<=_;omega));have hl1:=jO (b,false);obtain⟨⟨k,st⟩,hx⟩:∃x,qN (b,false)=x:=⟨_,rfl⟩
 have HX:=ah hx;rw[hx]at HC1 hl1;simp only at HC1 hl1;have hst:st.1.length<=1000000:=by omega
 have HST:=ah hst;clear hs hb hn hx hl1 hst
 go_enter Tryz.func81,Tryz.ntmps81
 go_wp2_with fail;refine HC1.out.mono ?_;rintro e w2 ⟨rfl,hr,hg⟩;have HR2:=ah hr;have HG2:Hid (Below w.heap.size w w2):=HB1.out.trans (hg.below (by omega) (fun q hq e=>by omega));have HZ2:=ah (hg.bk HZ1.out (by show ¬w.heap.size=w.heap.size+1;omega));have z2:w.heap.size+2<=w2.heap.size:=by have:=hg.size;omega
 clear hr hg hW1 HC1 HB1 HZ1 HR1;obtain⟨W3,hW3⟩:∃W,w2.alloc (.cells #[.int .i64 (k:Nat),.string ⟨#[]⟩,.slice none 0 0,.int .u64 0,.int .u64 0,.slice none 0 0,.string ⟨#[]⟩,.int .i64 0,.string ⟨#[]⟩] 109)=W:=⟨_,rfl⟩
 have hb3:Below w2.heap.size w2 W3:=by rw[<-hW3];exact(af _ w2).alloc ai _
 have HY3:Hid (Bk W3 w2.heap.size 109 #[.int .i64 (k:Nat),.string ⟨#[]⟩,.slice none 0 0,.int .u64 0,.int .u64 0,.slice none 0 0,.string ⟨#[]⟩,.int .i64 0,.string ⟨#[]⟩]):=by rw[<-hW3];exact Bk.new w2 _ _
 have HR3:Hid (Rds W3 (w.heap.size+1) st):=Bk.below HR2.out hb3 (by omega);have HZ3:=ah (HZ2.out.below hb3 (by omega));have HB3:Hid (Below w.heap.size w W3):=HG2.out.trans (hb3.mono (by omega));have z3:W3.heap.size=w2.heap.size+1:=by rw[<-hW3];simp
 have c0:=HY3.out.nine.1;rw[<-hW3]at c0;have HW3:=ah hW3;clear hb3 hW3 HR2 HZ2 HG2;rcases (show k=1∨k=4∨k=2∨k=3∨ (k≠1/\k≠2/\k≠3/\k≠4) by omega) with rfl | rfl | rfl | rfl | hk
 . have HE:Hid (qO b= (⟨1,ofL (qT st).1,[],zD,[],⟨#[]⟩,0,⟨#[]⟩⟩,(qT st).2)):=by
     show _=_;unfold qO;rw[HX.out];rfl
   have HW3:Hid (w2.alloc (.cells #[.int .i64 1,.string ⟨#[]⟩,.slice none 0 0,.int .u64 0,.int .u64 0,.slice none 0 0,.string ⟨#[]⟩,.int .i64 0,.string ⟨#[]⟩] 109)=W3):=HW3.out;have HY3:Hid (Bk W3 w2.heap.size 109 #[.int .i64 1,.string ⟨#[]⟩,.slice none 0 0,.int .u64 0,.int .u64 0,.slice none 0 0,.string ⟨#[]⟩,.int .i64 0,.string ⟨#[]⟩]):=HY3.out;have c0: (w2.alloc (.cells #[.int .i64 1,.string ⟨#[]⟩,.slice none 0 0,.int .u64 0,.int .u64 0,.slice none 0 0,.string ⟨#[]⟩,.int .i64 0,.string ⟨#[]⟩] 109)).cell? ⟨w2.heap.size,0,none⟩=some (.int .i64 1):=c0;have HC4:=ah (lS (w.heap.size+1) st W3 HR3.out HST.out);obtain⟨⟨t,q4⟩,hq⟩:∃x,qT st=x:=⟨_,rfl⟩
   rw[hq]at HC4 HE;simp only at HC4 HE;rw[HE.out]at HQ HRD;simp only at HQ HRD;clear hq;go_wp2_with fail;rw[HW3.out];refine HC4.out.mono ?_;rintro e v4 ⟨rfl,hr,hg⟩;have HRv:=ah hr;have HYv:=ah (hg.bk HY3.out (by show ¬w2.heap.size=w.heap.size+1;omega));have HZv:=ah (hg.bk HZ3.out (by show ¬w.heap.size=w.heap.size+1;omega));have HBv:Hid (Below w.heap.size w v4):=HB3.out.trans (hg.below (by have:=HB3.out.size;omega) (fun q hq e=>by omega));have zs4:=hg.size;clear c0 hr hg HC4 HB3 HZ3 HY3 HR3;obtain⟨c0,c1,c2,c3,c4,c5,c6,c7,c8⟩:=HYv.out.nine;have f1:=HYv.out.free 1;obtain⟨W4,hW4⟩:∃W,(v4.setCell ⟨w2.heap.size,1,none⟩ (.string (ofL t)))=W:=⟨_,rfl⟩
   have HY4:Hid (Bk W4 w2.heap.size 109 (obC ⟨1,ofL t,[],zD,[],⟨#[]⟩,0,⟨#[]⟩⟩ ⟨none,0,0,none,0,0⟩)):=by rw[<-hW4];have:=(HYv.out.set 1 (.string (ofL t)));show Bk _ _ _ _;simpa [obC,zD] using this
   have HR4:Hid (Rds W4 (w.heap.size+1) q4):=by rw[<-hW4];exact(Bk.far HRv.out (p:=⟨w2.heap.size,1,none⟩) (by show w.heap.size+1≠w2.heap.size;omega) _)
   have HZ4:Hid (Bk W4 w.heap.size 109 zrC):=by rw[<-hW4];exact(Bk.far HZv.out (p:=⟨w2.heap.size,1,none⟩) (by show w.heap.size≠w2.heap.size;omega) _)
   have HB4:Hid (Below w.heap.size w W4):=by rw[<-hW4];exact(Below.setCell HBv.out (p:=⟨w2.heap.size,1,none⟩) (by show w.heap.size<=w2.heap.size;omega) _)
   have zz4:w2.heap.size<W4.heap.size:=HY4.out.lt;have HM4:Hid (ObM W4 W4.heap.size ⟨1,ofL t,[],zD,[],⟨#[]⟩,0,⟨#[]⟩⟩ ⟨none,0,0,none,0,0⟩):=⟨Sl.nil _ _ _ _,Sl.nil _ _ _ _,Nat.le_refl _,ZZ _,Nat.le_refl _,ZZ _⟩
   clear HRv HYv HZv HBv HE
   go_upto_region 15 with fail
   try rw[hW4]
   clear hW4 c0 c1 c2 c3 c4 c5 c6 c7 c8 f1;obtain⟨bs,bad⟩:=q4;simp only at HQ HRD;obtain⟨q0,q1,_,_⟩:=Bk.two (show Bk W4 (w.heap.size+1) 229 #[.string (ofL bs),.bool bad] from HR4.out);obtain⟨d0,d1,d2,d3,d4,d5,d6,d7,d8⟩:=HZ4.out.nine;obtain⟨f0,f1,f2,f3,f4,f5,f6,f7,f8⟩:=fr9 HZ4.out;cases bad with
   | true =>
     go_wp2_with fail;refine ZY (dW Tryz.results81 rfl (dX HZ4.out _ _ _ _ _ _ _ _ _) rfl) rfl ⟨rfl,dV HB4.out ai _ _ _ _ _ _ _ _ _⟩
   | false =>
     by_cases hbs:bs= []
     . subst hbs
       have HNF:Hid (¬OkF _):=HQ.out.resolve_left (by simp) |>.resolve_left (by simp);have HCK:=ah (mE _ _ W4.heap.size W4 HM4.out ai (HRD.out rfl) HNF.out);simp only[obV,obC,zD]at HCK HY4;obtain⟨k0,k1,k2,k3,k4,k5,k6,k7,k8⟩:=HY4.out.nine;have q0':W4.cell? ⟨w.heap.size+1,0,none⟩=some (.string ⟨#[]⟩):=q0;clear q0;go_wp2_with fail;refine HCK.out.mono ?_;rintro e w8 ⟨⟨x,rfl,hx⟩,hb8⟩;have hxb: (x != 0)=true:=by simpa using hx
       have HZ8:=ah (HZ4.out.below hb8 HZ4.out.lt);have HB8:Hid (Below w.heap.size w w8):=HB4.out.trans (hb8.mono HB4.out.size);clear k0 k1 k2 k3 k4 k5 k6 k7 k8 q0' q1 d0 d1 d2 d3 d4 d5 d6 d7 d8 f0 f1 f2 f3 f4 f5 f6 f7 f8 hb8 HCK hx;obtain⟨d0,d1,d2,d3,d4,d5,d6,d7,d8⟩:=HZ8.out.nine;obtain⟨f0,f1,f2,f3,f4,f5,f6,f7,f8⟩:=fr9 HZ8.out;go_wp2_with fail;refine ZY (dW Tryz.results81 rfl (dX HZ8.out _ _ _ _ _ _ _ _ _) rfl) rfl ⟨rfl,dV HB8.out ai _ _ _ _ _ _ _ _ _⟩
     . have hs1: ((ofL bs).toList == ([]:List UInt8))=false:=by
         rw[mP];exact decide_eq_false fun h=>hbs (by have:=congrArg toL h;rw[bO]at this;exact this)
       clear hbs;go_wp2_with fail;refine ZY (dW Tryz.results81 rfl (dX HZ4.out _ _ _ _ _ _ _ _ _) rfl) rfl ⟨rfl,dV HB4.out ai _ _ _ _ _ _ _ _ _⟩
 . have HE:Hid (qO b= (⟨4,ofL (qT st).1,[],zD,[],⟨#[]⟩,0,⟨#[]⟩⟩,(qT st).2)):=by
     show _=_;unfold qO;rw[HX.out];rfl
   have HW3:Hid (w2.alloc (.cells #[.int .i64 4,.string ⟨#[]⟩,.slice none 0 0,.int .u64 0,.int .u64 0,.slice none 0 0,.string ⟨#[]⟩,.int .i64 0,.string ⟨#[]⟩] 109)=W3):=HW3.out;have HY3:Hid (Bk W3 w2.heap.size 109 #[.int .i64 4,.string ⟨#[]⟩,.slice none 0 0,.int .u64 0,.int .u64 0,.slice none 0 0,.string ⟨#[]⟩,.int .i64 0,.string ⟨#[]⟩]):=HY3.out;have c0: (w2.alloc (.cells #[.int .i64 4,.string ⟨#[]⟩,.slice none 0 0,.int .u64 0,.int .u64 0,.slice none 0 0,.string ⟨#[]⟩,.int .i64 0,.string ⟨#[]⟩] 109)).cell? ⟨w2.heap.size,0,none⟩=some (.int .i64 4):=c0;have HC4:=ah (lS (w.heap.size+1) st W3 HR3.out HST.out);obtain⟨⟨t,q4⟩,hq⟩:∃x,qT st=x:=⟨_,rfl⟩
   rw[hq]at HC4 HE;simp only at HC4 HE;rw[HE.out]at HQ HRD;simp only at HQ HRD;clear hq;go_wp2_with fail;rw[HW3.out];refine HC4.out.mono ?_;rintro e v4 ⟨rfl,hr,hg⟩;have HRv:=ah hr;have HYv:=ah (hg.bk HY3.out (by show ¬w2.heap.size=w.heap.size+1;omega));have HZv:=ah (hg.bk HZ3.out (by show ¬w.heap.size=w.heap.size+1;omega));have HBv:Hid (Below w.heap.size w v4):=HB3.out.trans (hg.below (by have:=HB3.out.size;omega) (fun q hq e=>by omega));have zs4:=hg.size;clear c0 hr hg HC4 HB3 HZ3 HY3 HR3;obtain⟨c0,c1,c2,c3,c4,c5,c6,c7,c8⟩:=HYv.out.nine;have f1:=HYv.out.free 1;obtain⟨W4,hW4⟩:∃W,(v4.setCell ⟨w2.heap.size,1,none⟩ (.string (ofL t)))=W:=⟨_,rfl⟩
   have HY4:Hid (Bk W4 w2.heap.size 109 (obC ⟨4,ofL t,[],zD,[],⟨#[]⟩,0,⟨#[]⟩⟩ ⟨none,0,0,none,0,0⟩)):=by rw[<-hW4];have:=(HYv.out.set 1 (.string (ofL t)));show Bk _ _ _ _;simpa [obC,zD] using this
   have HR4:Hid (Rds W4 (w.heap.size+1) q4):=by rw[<-hW4];exact(Bk.far HRv.out (p:=⟨w2.heap.size,1,none⟩) (by show w.heap.size+1≠w2.heap.size;omega) _)
   have HZ4:Hid (Bk W4 w.heap.size 109 zrC):=by rw[<-hW4];exact(Bk.far HZv.out (p:=⟨w2.heap.size,1,none⟩) (by show w.heap.size≠w2.heap.size;omega) _)
   have HB4:Hid (Below w.heap.size w W4):=by rw[<-hW4];exact(Below.setCell HBv.out (p:=⟨w2.heap.size,1,none⟩) (by show w.heap.size<=w2.heap.size;omega) _)
   have zz4:w2.heap.size<W4.heap.size:=HY4.out.lt;have HM4:Hid (ObM W4 W4.heap.size ⟨4,ofL t,[],zD,[],⟨#[]⟩,0,⟨#[]⟩⟩ ⟨none,0,0,none,0,0⟩):=⟨Sl.nil _ _ _ _,Sl.nil _ _ _ _,Nat.le_refl _,ZZ _,Nat.le_refl _,ZZ _⟩
   clear HRv HYv HZv HBv HE
   go_upto_region 15 with fail
   try rw[hW4]
   clear hW4 c0 c1 c2 c3 c4 c5 c6 c7 c8 f1;obtain⟨bs,bad⟩:=q4;simp only at HQ HRD;obtain⟨q0,q1,_,_⟩:=Bk.two (show Bk W4 (w.heap.size+1) 229 #[.string (ofL bs),.bool bad] from HR4.out);obtain⟨d0,d1,d2,d3,d4,d5,d6,d7,d8⟩:=HZ4.out.nine;obtain⟨f0,f1,f2,f3,f4,f5,f6,f7,f8⟩:=fr9 HZ4.out;cases bad with
   | true =>
     go_wp2_with fail;refine ZY (dW Tryz.results81 rfl (dX HZ4.out _ _ _ _ _ _ _ _ _) rfl) rfl ⟨rfl,dV HB4.out ai _ _ _ _ _ _ _ _ _⟩
   | false =>
     by_cases hbs:bs= []
     . subst hbs
       have HNF:Hid (¬OkF _):=HQ.out.resolve_left (by simp) |>.resolve_left (by simp);have HCK:=ah (mE _ _ W4.heap.size W4 HM4.out ai (HRD.out rfl) HNF.out);simp only[obV,obC,zD]at HCK HY4;obtain⟨k0,k1,k2,k3,k4,k5,k6,k7,k8⟩:=HY4.out.nine;have q0':W4.cell? ⟨w.heap.size+1,0,none⟩=some (.string ⟨#[]⟩):=q0;clear q0;go_wp2_with fail;refine HCK.out.mono ?_;rintro e w8 ⟨⟨x,rfl,hx⟩,hb8⟩;have hxb: (x != 0)=true:=by simpa using hx
       have HZ8:=ah (HZ4.out.below hb8 HZ4.out.lt);have HB8:Hid (Below w.heap.size w w8):=HB4.out.trans (hb8.mono HB4.out.size);clear k0 k1 k2 k3 k4 k5 k6 k7 k8 q0' q1 d0 d1 d2 d3 d4 d5 d6 d7 d8 f0 f1 f2 f3 f4 f5 f6 f7 f8 hb8 HCK hx;obtain⟨d0,d1,d2,d3,d4,d5,d6,d7,d8⟩:=HZ8.out.nine;obtain⟨f0,f1,f2,f3,f4,f5,f6,f7,f8⟩:=fr9 HZ8.out;go_wp2_with fail;refine ZY (dW Tryz.results81 rfl (dX HZ8.out _ _ _ _ _ _ _ _ _) rfl) rfl ⟨rfl,dV HB8.out ai _ _ _ _ _ _ _ _ _⟩
     . have hs1: ((ofL bs).toList == ([]:List UInt8))=false:=by
         rw[mP];exact decide_eq_false fun h=>hbs (by have:=congrArg toL h;rw[bO]at this;exact this)
       clear hbs;go_wp2_with fail;refine ZY (dW Tryz.results81 rfl (dX HZ4.out _ _ _ _ _ _ _ _ _) rfl) rfl ⟨rfl,dV HB4.out ai _ _ _ _ _ _ _ _ _⟩
 . have HW3:Hid (w2.alloc (.cells #[.int .i64 2,.string ⟨#[]⟩,.slice none 0 0,.int .u64 0,.int .u64 0,.slice none 0 0,.string ⟨#[]⟩,.int .i64 0,.string ⟨#[]⟩] 109)=W3):=HW3.out
   have HY3:Hid (Bk W3 w2.heap.size 109 #[.int .i64 2,.string ⟨#[]⟩,.slice none 0 0,.int .u64 0,.int .u64 0,.slice none 0 0,.string ⟨#[]⟩,.int .i64 0,.string ⟨#[]⟩]):=HY3.out;have c0: (w2.alloc (.cells #[.int .i64 2,.string ⟨#[]⟩,.slice none 0 0,.int .u64 0,.int .u64 0,.slice none 0 0,.string ⟨#[]⟩,.int .i64 0,.string ⟨#[]⟩] 109)).cell? ⟨w2.heap.size,0,none⟩=some (.int .i64 2):=c0;obtain⟨⟨L,q4⟩,h4⟩:∃x,qLs qE 200 st=x:=⟨_,rfl⟩
   have HE:Hid (qO b= (⟨2,⟨#[]⟩,L,zD,[],⟨#[]⟩,0,⟨#[]⟩⟩,q4)):=by
    show _=_;unfold qO;rw[HX.out];show(_,(qLs qE 200 st).2)=_;rw[h4]
   have H4:=ah h4;rw[HE.out]at HQ HRD;simp only at HQ HRD;clear h4 HE;have HC4:=ah (Fp (w.heap.size+1) st W3 HR3.out HST.out);rw[H4.out]at HC4;simp only at HC4;go_wp2_with fail;rw[HW3.out];refine HC4.out.mono ?_;rintro e v4 ⟨A4,c4x,rfl,hn4,hm4,hap,hr,hg⟩;have HRv:=ah hr;have HYv:=ah (hg.bk HY3.out (by show ¬w2.heap.size=w.heap.size+1;omega));have HZv:=ah (hg.bk HZ3.out (by show ¬w.heap.size=w.heap.size+1;omega));have HBv:Hid (Below w.heap.size w v4):=HB3.out.trans (hg.below (by have:=HB3.out.size;omega) (fun q hq e=>by omega));have zs4:=hg.size;have HAv:=ah hap;clear c0 hr hg hap HC4 HB3 HZ3 HY3 HR3;obtain⟨c0,c1,c2,c3,c4,c5,c6,c7,c8⟩:=HYv.out.nine;have f2:=HYv.out.free 2;obtain⟨W4,hW4⟩:∃W,(v4.setCell ⟨w2.heap.size,2,none⟩ (.slice A4 L.length c4x))=W:=⟨_,rfl⟩
   have HY4:Hid (Bk W4 w2.heap.size 109 #[.int .i64 2,.string ⟨#[]⟩,.slice A4 L.length c4x,.int .u64 0,.int .u64 0,.slice none 0 0,.string ⟨#[]⟩,.int .i64 0,.string ⟨#[]⟩]):=by rw[<-hW4];have:=(HYv.out.set 2 (.slice A4 L.length c4x));show Bk _ _ _ _;simpa using this
   have HR4:Hid (Rds W4 (w.heap.size+1) q4):=by rw[<-hW4];exact(Bk.far HRv.out (p:=⟨w2.heap.size,2,none⟩) (by show w.heap.size+1≠w2.heap.size;omega) _)
   have HZ4:Hid (Bk W4 w.heap.size 109 zrC):=by rw[<-hW4];exact(Bk.far HZv.out (p:=⟨w2.heap.size,2,none⟩) (by show w.heap.size≠w2.heap.size;omega) _)
   have HB4:Hid (Below w.heap.size w W4):=by rw[<-hW4];exact(Below.setCell HBv.out (p:=⟨w2.heap.size,2,none⟩) (by show w.heap.size<=w2.heap.size;omega) _)
   have zz4:v4.heap.size<=W4.heap.size:=by rw[<-hW4];simp[World.setCell]
   have HA4:=ah ((Apd.setCell HAv.out (a:=⟨w2.heap.size,2,none⟩) (by show w2.heap.size<_;omega) (.slice A4 L.length c4x)));rw[hW4]at HA4;clear HRv HYv HZv HBv HAv;have HRD4:=HRD;have HQ4:=HQ;have HM4:Hid (ObM W4 W4.heap.size ⟨2,⟨#[]⟩,L,zD,[],⟨#[]⟩,0,⟨#[]⟩⟩ ⟨A4,L.length,c4x,none,0,0⟩):=⟨HA4.out.sl,Sl.nil _ _ _ _,hn4,hm4,Nat.le_refl _,ZZ _⟩
   have HY4':Hid (Bk W4 w2.heap.size 109 (obC ⟨2,⟨#[]⟩,L,zD,[],⟨#[]⟩,0,⟨#[]⟩⟩ ⟨A4,L.length,c4x,none,0,0⟩)):=HY4.out;have zz4':w2.heap.size<W4.heap.size:=HY4.out.lt
   go_upto_region 15 with fail
   try rw[hW4]
   clear hW4 c0 c1 c2 c3 c4 c5 c6 c7 c8 f2;obtain⟨bs,bad⟩:=q4;simp only at HQ HRD;obtain⟨q0,q1,_,_⟩:=Bk.two (show Bk W4 (w.heap.size+1) 229 #[.string (ofL bs),.bool bad] from HR4.out);obtain⟨d0,d1,d2,d3,d4,d5,d6,d7,d8⟩:=HZ4.out.nine;obtain⟨f0,f1,f2,f3,f4,f5,f6,f7,f8⟩:=fr9 HZ4.out;cases bad with
   | true =>
     go_wp2_with fail;refine ZY (dW Tryz.results81 rfl (dX HZ4.out _ _ _ _ _ _ _ _ _) rfl) rfl ⟨rfl,dV HB4.out ai _ _ _ _ _ _ _ _ _⟩
   | false =>
     by_cases hbs:bs= []
     . subst hbs
       have HNF:Hid (¬OkF _):=HQ.out.resolve_left (by simp) |>.resolve_left (by simp);have HCK:=ah (mE _ _ W4.heap.size W4 HM4.out ai (HRD.out rfl) HNF.out);simp only[obV,obC,zD]at HCK HY4';obtain⟨k0,k1,k2,k3,k4,k5,k6,k7,k8⟩:=HY4'.out.nine;have q0':W4.cell? ⟨w.heap.size+1,0,none⟩=some (.string ⟨#[]⟩):=q0;clear q0;go_wp2_with fail;refine HCK.out.mono ?_;rintro e w8 ⟨⟨x,rfl,hx⟩,hb8⟩;have hxb: (x != 0)=true:=by simpa using hx
       have HZ8:=ah (HZ4.out.below hb8 HZ4.out.lt);have HB8:Hid (Below w.heap.size w w8):=HB4.out.trans (hb8.mono HB4.out.size);clear k0 k1 k2 k3 k4 k5 k6 k7 k8 q0' q1 d0 d1 d2 d3 d4 d5 d6 d7 d8 f0 f1 f2 f3 f4 f5 f6 f7 f8 hb8 HCK hx;obtain⟨d0,d1,d2,d3,d4,d5,d6,d7,d8⟩:=HZ8.out.nine;obtain⟨f0,f1,f2,f3,f4,f5,f6,f7,f8⟩:=fr9 HZ8.out;go_wp2_with fail;refine ZY (dW Tryz.results81 rfl (dX HZ8.out _ _ _ _ _ _ _ _ _) rfl) rfl ⟨rfl,dV HB8.out ai _ _ _ _ _ _ _ _ _⟩
     . have hs1: ((ofL bs).toList == ([]:List UInt8))=false:=by
         rw[mP];exact decide_eq_false fun h=>hbs (by have:=congrArg toL h;rw[bO]at this;exact this)
       clear hbs;go_wp2_with fail;refine ZY (dW Tryz.results81 rfl (dX HZ4.out _ _ _ _ _ _ _ _ _) rfl) rfl ⟨rfl,dV HB4.out ai _ _ _ _ _ _ _ _ _⟩
 . have HW3:Hid (w2.alloc (.cells #[.int .i64 3,.string ⟨#[]⟩,.slice none 0 0,.int .u64 0,.int .u64 0,.slice none 0 0,.string ⟨#[]⟩,.int .i64 0,.string ⟨#[]⟩] 109)=W3):=HW3.out
   have HY3:Hid (Bk W3 w2.heap.size 109 #[.int .i64 3,.string ⟨#[]⟩,.slice none 0 0,.int .u64 0,.int .u64 0,.slice none 0 0,.string ⟨#[]⟩,.int .i64 0,.string ⟨#[]⟩]):=HY3.out;have c0: (w2.alloc (.cells #[.int .i64 3,.string ⟨#[]⟩,.slice none 0 0,.int .u64 0,.int .u64 0,.slice none 0 0,.string ⟨#[]⟩,.int .i64 0,.string ⟨#[]⟩] 109)).cell? ⟨w2.heap.size,0,none⟩=some (.int .i64 3):=c0;have l1:=qb st;obtain⟨⟨⟨d1,d2⟩,s1⟩,h4⟩:∃x,qD st=x:=⟨_,rfl⟩
   have l2:=JC (m:=8) qb s1;obtain⟨⟨L,s2⟩,h5⟩:∃x,qLs qD 8 s1=x:=⟨_,rfl⟩
   have l3:=ve s2;obtain⟨⟨t,s3⟩,h6⟩:∃x,qT s2=x:=⟨_,rfl⟩
   have l4:=jO s3;obtain⟨⟨k4,s4⟩,h7⟩:∃x,qN s3=x:=⟨_,rfl⟩
   obtain⟨⟨t5,s5⟩,h8⟩:∃x,qT s4=x:=⟨_,rfl⟩
   have HE:Hid (qO b= (⟨3,⟨#[]⟩,[],(d1,d2),L,ofL t,(k4:Nat),ofL t5⟩,s5)):=by
    show _=_;unfold qO;rw[HX.out];show qC st=_;unfold qC;simp only[h4,h5,h6,h7,h8]
   rw[h4]at l1;rw[h5]at l2;rw[h6]at l3;rw[h7]at l4;simp only at l1 l2 l3 l4;have hst:=HST.out;have m1:Hid (s1.1.length<=1000000):=by show _<=_;omega
   have m2:Hid (s2.1.length<=1000000):=by show _<=_;omega
   have m3:Hid (s3.1.length<=1000000):=by show _<=_;omega
   have m4:Hid (s4.1.length<=1000000):=by show _<=_;omega
   have H4:=ah h4;have H5:=ah h5;have H6:=ah h6;have H7:=ah h7;have H8:=ah h8;rw[HE.out]at HQ HRD;simp only at HQ HRD;clear h4 h5 h6 h7 h8 l1 l2 l3 l4 hst HE;have HC4:=ah (lV (w.heap.size+1) st W3 HR3.out HST.out);rw[H4.out]at HC4;simp only at HC4;go_wp2_with fail;rw[HW3.out];refine HC4.out.mono ?_;rintro e v4 ⟨rfl,hr,hg⟩;simp only[aB];have HRv:=ah hr;have HYv:=ah (hg.bk HY3.out (by show ¬w2.heap.size=w.heap.size+1;omega));have HZv:=ah (hg.bk HZ3.out (by show ¬w.heap.size=w.heap.size+1;omega));have HBv:Hid (Below w.heap.size w v4):=HB3.out.trans (hg.below (by have:=HB3.out.size;omega) (fun q hq e=>by omega));have zs4:=hg.size;clear c0 hr hg HC4 HB3 HZ3 HY3 HR3;obtain⟨c0,c1,c2,c3,c4,c5,c6,c7,c8⟩:=HYv.out.nine;have f3:=HYv.out.free 3;have f4:=HYv.out.free 4;obtain⟨W4,hW4⟩:∃W,((v4.setCell ⟨w2.heap.size,3,none⟩ (.int .u64 d1)).setCell ⟨w2.heap.size,4,none⟩ (.int .u64 d2))=W:=⟨_,rfl⟩
   have HY4:Hid (Bk W4 w2.heap.size 109 #[.int .i64 3,.string ⟨#[]⟩,.slice none 0 0,.int .u64 d1,.int .u64 d2,.slice none 0 0,.string ⟨#[]⟩,.int .i64 0,.string ⟨#[]⟩]):=by rw[<-hW4];have:=((HYv.out.set 3 (.int .u64 d1)).set 4 (.int .u64 d2));show Bk _ _ _ _;simpa using this
   have HR4:Hid (Rds W4 (w.heap.size+1) s1):=by rw[<-hW4];exact(Bk.far (Bk.far HRv.out (p:=⟨w2.heap.size,3,none⟩) (by show w.heap.size+1≠w2.heap.size;omega) _) (p:=⟨w2.heap.size,4,none⟩) (by show w.heap.size+1≠w2.heap.size;omega) _)
   have HZ4:Hid (Bk W4 w.heap.size 109 zrC):=by rw[<-hW4];exact(Bk.far (Bk.far HZv.out (p:=⟨w2.heap.size,3,none⟩) (by show w.heap.size≠w2.heap.size;omega) _) (p:=⟨w2.heap.size,4,none⟩) (by show w.heap.size≠w2.heap.size;omega) _)
   have HB4:Hid (Below w.heap.size w W4):=by rw[<-hW4];exact(Below.setCell (Below.setCell HBv.out (p:=⟨w2.heap.size,3,none⟩) (by show w.heap.size<=w2.heap.size;omega) _) (p:=⟨w2.heap.size,4,none⟩) (by show w.heap.size<=w2.heap.size;omega) _)
   have zz4:v4.heap.size<=W4.heap.size:=by rw[<-hW4];simp[World.setCell]
   clear HRv HYv HZv HBv;have HC5:=ah (EM (w.heap.size+1) s1 W4 HR4.out m1.out);rw[H5.out]at HC5;simp only at HC5;go_wp2_with fail;refine HC5.out.mono ?_;rintro e v5 ⟨A5,c5x,rfl,hn5,hm5,hap,hr,hg⟩;have HRv:=ah hr;have HYv:=ah (hg.bk HY4.out (by show ¬w2.heap.size=w.heap.size+1;omega));have HZv:=ah (hg.bk HZ4.out (by show ¬w.heap.size=w.heap.size+1;omega));have HBv:Hid (Below w.heap.size w v5):=HB4.out.trans (hg.below (by have:=HB4.out.size;omega) (fun q hq e=>by omega));have zs5:=hg.size;have HAv:=ah hap;clear c0 c1 c2 c3 c4 c5 c6 c7 c8;clear hr hg hap HC5 HB4 HZ4 HY4 HR4 hW4;obtain⟨c0,c1,c2,c3,c4,c5,c6,c7,c8⟩:=HYv.out.nine;have f5:=HYv.out.free 5;obtain⟨W5,hW5⟩:∃W,(v5.setCell ⟨w2.heap.size,5,none⟩ (.slice A5 L.length c5x))=W:=⟨_,rfl⟩
   have HY5:Hid (Bk W5 w2.heap.size 109 #[.int .i64 3,.string ⟨#[]⟩,.slice none 0 0,.int .u64 d1,.int .u64 d2,.slice A5 L.length c5x,.string ⟨#[]⟩,.int .i64 0,.string ⟨#[]⟩]):=by rw[<-hW5];have:=(HYv.out.set 5 (.slice A5 L.length c5x));show Bk _ _ _ _;simpa using this
   have HR5:Hid (Rds W5 (w.heap.size+1) s2):=by rw[<-hW5];exact(Bk.far HRv.out (p:=⟨w2.heap.size,5,none⟩) (by show w.heap.size+1≠w2.heap.size;omega) _)
   have HZ5:Hid (Bk W5 w.heap.size 109 zrC):=by rw[<-hW5];exact(Bk.far HZv.out (p:=⟨w2.heap.size,5,none⟩) (by show w.heap.size≠w2.heap.size;omega) _)
   have HB5:Hid (Below w.heap.size w W5):=by rw[<-hW5];exact(Below.setCell HBv.out (p:=⟨w2.heap.size,5,none⟩) (by show w.heap.size<=w2.heap.size;omega) _)
   have zz5:v5.heap.size<=W5.heap.size:=by rw[<-hW5];simp[World.setCell]
   have HA5:=ah ((Apd.setCell HAv.out (a:=⟨w2.heap.size,5,none⟩) (by show w2.heap.size<_;omega) (.slice A5 L.length c5x)));rw[hW5]at HA5;clear HRv HYv HZv HBv HAv;have HC6:=ah (lS (w.heap.size+1) s2 W5 HR5.out m2.out);rw[H6.out]at HC6;simp only at HC6;go_wp2_with fail;refine HC6.out.mono ?_;rintro e v6 ⟨rfl,hr,hg⟩;have HRv:=ah hr;have HYv:=ah (hg.bk HY5.out (by show ¬w2.heap.size=w.heap.size+1;omega));have HZv:=ah (hg.bk HZ5.out (by show ¬w.heap.size=w.heap.size+1;omega));have HBv:Hid (Below w.heap.size w v6):=HB5.out.trans (hg.below (by have:=HB5.out.size;omega) (fun q hq e=>by omega));have zs6:=hg.size;have HAv:=ah (HA5.out.gb hg (by omega));clear c0 c1 c2 c3 c4 c5 c6 c7 c8;clear hr hg HC6 HB5 HZ5 HY5 HR5 hW5;obtain⟨c0,c1,c2,c3,c4,c5,c6,c7,c8⟩:=HYv.out.nine;have f6:=HYv.out.free 6;obtain⟨W6,hW6⟩:∃W,(v6.setCell ⟨w2.heap.size,6,none⟩ (.string (ofL t)))=W:=⟨_,rfl⟩
   have HY6:Hid (Bk W6 w2.heap.size 109 #[.int .i64 3,.string ⟨#[]⟩,.slice none 0 0,.int .u64 d1,.int .u64 d2,.slice A5 L.length c5x,.string (ofL t),.int .i64 0,.string ⟨#[]⟩]):=by rw[<-hW6];have:=(HYv.out.set 6 (.string (ofL t)));show Bk _ _ _ _;simpa using this
   have HR6:Hid (Rds W6 (w.heap.size+1) s3):=by rw[<-hW6];exact(Bk.far HRv.out (p:=⟨w2.heap.size,6,none⟩) (by show w.heap.size+1≠w2.heap.size;omega) _)
   have HZ6:Hid (Bk W6 w.heap.size 109 zrC):=by rw[<-hW6];exact(Bk.far HZv.out (p:=⟨w2.heap.size,6,none⟩) (by show w.heap.size≠w2.heap.size;omega) _)
   have HB6:Hid (Below w.heap.size w W6):=by rw[<-hW6];exact(Below.setCell HBv.out (p:=⟨w2.heap.size,6,none⟩) (by show w.heap.size<=w2.heap.size;omega) _)
   have zz6:v6.heap.size<=W6.heap.size:=by rw[<-hW6];simp[World.setCell]
   have HA6:=ah ((Apd.setCell HAv.out (a:=⟨w2.heap.size,6,none⟩) (by show w2.heap.size<_;omega) (.string (ofL t))));rw[hW6]at HA6;clear HRv HYv HZv HBv HAv;have HC7:=ah (lT (w.heap.size+1) s3 W6 HR6.out m3.out);rw[H7.out]at HC7;simp only at HC7;go_wp2_with fail;refine HC7.out.mono ?_;rintro e v7 ⟨rfl,hr,hg⟩;have HRv:=ah hr;have HYv:=ah (hg.bk HY6.out (by show ¬w2.heap.size=w.heap.size+1;omega));have HZv:=ah (hg.bk HZ6.out (by show ¬w.heap.size=w.heap.size+1;omega));have HBv:Hid (Below w.heap.size w v7):=HB6.out.trans (hg.below (by have:=HB6.out.size;omega) (fun q hq e=>by omega));have zs7:=hg.size;have HAv:=ah (HA6.out.gb hg (by omega));clear c0 c1 c2 c3 c4 c5 c6 c7 c8;clear hr hg HC7 HB6 HZ6 HY6 HR6 hW6;obtain⟨c0,c1,c2,c3,c4,c5,c6,c7,c8⟩:=HYv.out.nine;have f7:=HYv.out.free 7;obtain⟨W7,hW7⟩:∃W,(v7.setCell ⟨w2.heap.size,7,none⟩ (.int .i64 (k4:Nat)))=W:=⟨_,rfl⟩
   have HY7:Hid (Bk W7 w2.heap.size 109 #[.int .i64 3,.string ⟨#[]⟩,.slice none 0 0,.int .u64 d1,.int .u64 d2,.slice A5 L.length c5x,.string (ofL t),.int .i64 (k4:Nat),.string ⟨#[]⟩]):=by rw[<-hW7];have:=(HYv.out.set 7 (.int .i64 (k4:Nat)));show Bk _ _ _ _;simpa using this
   have HR7:Hid (Rds W7 (w.heap.size+1) s4):=by rw[<-hW7];exact(Bk.far HRv.out (p:=⟨w2.heap.size,7,none⟩) (by show w.heap.size+1≠w2.heap.size;omega) _)
   have HZ7:Hid (Bk W7 w.heap.size 109 zrC):=by rw[<-hW7];exact(Bk.far HZv.out (p:=⟨w2.heap.size,7,none⟩) (by show w.heap.size≠w2.heap.size;omega) _)
   have HB7:Hid (Below w.heap.size w W7):=by rw[<-hW7];exact(Below.setCell HBv.out (p:=⟨w2.heap.size,7,none⟩) (by show w.heap.size<=w2.heap.size;omega) _)
   have zz7:v7.heap.size<=W7.heap.size:=by rw[<-hW7];simp[World.setCell]
   have HA7:=ah ((Apd.setCell HAv.out (a:=⟨w2.heap.size,7,none⟩) (by show w2.heap.size<_;omega) (.int .i64 (k4:Nat))));rw[hW7]at HA7;clear HRv HYv HZv HBv HAv;have HC8:=ah (lS (w.heap.size+1) s4 W7 HR7.out m4.out);rw[H8.out]at HC8;simp only at HC8;go_wp2_with fail;refine HC8.out.mono ?_;rintro e v8 ⟨rfl,hr,hg⟩;have HRv:=ah hr;have HYv:=ah (hg.bk HY7.out (by show ¬w2.heap.size=w.heap.size+1;omega));have HZv:=ah (hg.bk HZ7.out (by show ¬w.heap.size=w.heap.size+1;omega));have HBv:Hid (Below w.heap.size w v8):=HB7.out.trans (hg.below (by have:=HB7.out.size;omega) (fun q hq e=>by omega));have zs8:=hg.size;have HAv:=ah (HA7.out.gb hg (by omega));clear c0 c1 c2 c3 c4 c5 c6 c7 c8;clear hr hg HC8 HB7 HZ7 HY7 HR7 hW7;obtain⟨c0,c1,c2,c3,c4,c5,c6,c7,c8⟩:=HYv.out.nine;have f8:=HYv.out.free 8;obtain⟨W8,hW8⟩:∃W,(v8.setCell ⟨w2.heap.size,8,none⟩ (.string (ofL t5)))=W:=⟨_,rfl⟩
   have HY8:Hid (Bk W8 w2.heap.size 109 #[.int .i64 3,.string ⟨#[]⟩,.slice none 0 0,.int .u64 d1,.int .u64 d2,.slice A5 L.length c5x,.string (ofL t),.int .i64 (k4:Nat),.string (ofL t5)]):=by rw[<-hW8];have:=(HYv.out.set 8 (.string (ofL t5)));show Bk _ _ _ _;simpa using this
   have HR8:Hid (Rds W8 (w.heap.size+1) s5):=by rw[<-hW8];exact(Bk.far HRv.out (p:=⟨w2.heap.size,8,none⟩) (by show w.heap.size+1≠w2.heap.size;omega) _)
   have HZ8:Hid (Bk W8 w.heap.size 109 zrC):=by rw[<-hW8];exact(Bk.far HZv.out (p:=⟨w2.heap.size,8,none⟩) (by show w.heap.size≠w2.heap.size;omega) _)
   have HB8:Hid (Below w.heap.size w W8):=by rw[<-hW8];exact(Below.setCell HBv.out (p:=⟨w2.heap.size,8,none⟩) (by show w.heap.size<=w2.heap.size;omega) _)
   have zz8:v8.heap.size<=W8.heap.size:=by rw[<-hW8];simp[World.setCell]
   have HA8:=ah ((Apd.setCell HAv.out (a:=⟨w2.heap.size,8,none⟩) (by show w2.heap.size<_;omega) (.string (ofL t5))));rw[hW8]at HA8;clear HRv HYv HZv HBv HAv;have HRD4:=HRD;have HQ4:=HQ;have HM4:Hid (ObM W8 W8.heap.size ⟨3,⟨#[]⟩,[],(d1,d2),L,ofL t,(k4:Nat),ofL t5⟩ ⟨none,0,0,A5,L.length,c5x⟩):=⟨Sl.nil _ _ _ _,HA8.out.sl,Nat.le_refl _,ZZ _,hn5,hm5⟩
   have HY4':Hid (Bk W8 w2.heap.size 109 (obC ⟨3,⟨#[]⟩,[],(d1,d2),L,ofL t,(k4:Nat),ofL t5⟩ ⟨none,0,0,A5,L.length,c5x⟩)):=HY8.out;have zz4':w2.heap.size<W8.heap.size:=HY8.out.lt
   go_upto_region 15 with fail
   try rw[hW8]
   clear hW8 c0 c1 c2 c3 c4 c5 c6 c7 c8 f8;obtain⟨bs,bad⟩:=s5;simp only at HQ HRD;obtain⟨q0,q1,_,_⟩:=Bk.two (show Bk W8 (w.heap.size+1) 229 #[.string (ofL bs),.bool bad] from HR8.out);obtain⟨d0,d1,d2,d3,d4,d5,d6,d7,d8⟩:=HZ8.out.nine;obtain⟨f0,f1,f2,f3,f4,f5,f6,f7,f8⟩:=fr9 HZ8.out;cases bad with
   | true =>
     go_wp2_with fail;refine ZY (dW Tryz.results81 rfl (dX HZ8.out _ _ _ _ _ _ _ _ _) rfl) rfl ⟨rfl,dV HB8.out ai _ _ _ _ _ _ _ _ _⟩
   | false =>
     by_cases hbs:bs= []
     . subst hbs
       have HNF:Hid (¬OkF _):=HQ.out.resolve_left (by simp) |>.resolve_left (by simp);have HCK:=ah (mE _ _ W8.heap.size W8 HM4.out ai (HRD.out rfl) HNF.out);simp only[obV,obC,zD]at HCK HY4';obtain⟨k0,k1,k2,k3,k4,k5,k6,k7,k8⟩:=HY4'.out.nine;have q0':W8.cell? ⟨w.heap.size+1,0,none⟩=some (.string ⟨#[]⟩):=q0;clear q0;go_wp2_with fail;refine HCK.out.mono ?_;rintro e w8 ⟨⟨x,rfl,hx⟩,hb8⟩;have hxb: (x != 0)=true:=by simpa using hx
       have HZ8:=ah (HZ8.out.below hb8 HZ8.out.lt);have HB8:Hid (Below w.heap.size w w8):=HB8.out.trans (hb8.mono HB8.out.size);clear k0 k1 k2 k3 k4 k5 k6 k7 k8 q0' q1 d0 d1 d2 d3 d4 d5 d6 d7 d8 f0 f1 f2 f3 f4 f5 f6 f7 f8 hb8 HCK hx;obtain⟨d0,d1,d2,d3,d4,d5,d6,d7,d8⟩:=HZ8.out.nine;obtain⟨f0,f1,f2,f3,f4,f5,f6,f7,f8⟩:=fr9 HZ8.out;go_wp2_with fail;refine ZY (dW Tryz.results81 rfl (dX HZ8.out _ _ _ _ _ _ _ _ _) rfl) rfl ⟨rfl,dV HB8.out ai _ _ _ _ _ _ _ _ _⟩
     . have hs1: ((ofL bs).toList == ([]:List UInt8))=false:=by
         rw[mP];exact decide_eq_false fun h=>hbs (by have:=congrArg toL h;rw[bO]at this;exact this)
       clear hbs;go_wp2_with fail;refine ZY (dW Tryz.results81 rfl (dX HZ8.out _ _ _ _ _ _ _ _ _) rfl) rfl ⟨rfl,dV HB8.out ai _ _ _ _ _ _ _ _ _⟩
 . have HE:Hid (qO b= (⟨(k:Nat),⟨#[]⟩,[],zD,[],⟨#[]⟩,0,⟨#[]⟩⟩,st)):=by
     show _=_;unfold qO;rw[HX.out];simp only;rw[if_neg (by omega),if_neg (by omega),if_neg (by omega)]
   rw[HE.out]at HQ HRD;simp only at HQ HRD;have k1: (((k:Nat):Int) == 1)=false:=by rw[beq_eq_false_iff_ne];omega
   have k2: (((k:Nat):Int) == 2)=false:=by rw[beq_eq_false_iff_ne];omega
   have k3: (((k:Nat):Int) == 3)=false:=by rw[beq_eq_false_iff_ne];omega
   have k4: (((k:Nat):Int) == 4)=false:=by rw[beq_eq_false_iff_ne];omega
   have HR4:=HR3;have HZ4:=HZ3;have HB4:=HB3;have zz4:w2.heap.size<W3.heap.size:=HY3.out.lt;have HY4:Hid (Bk W3 w2.heap.size 109 (obC ⟨(k:Nat),⟨#[]⟩,[],zD,[],⟨#[]⟩,0,⟨#[]⟩⟩ ⟨none,0,0,none,0,0⟩)):=HY3.out;have HM4:Hid (ObM W3 W3.heap.size ⟨(k:Nat),⟨#[]⟩,[],zD,[],⟨#[]⟩,0,⟨#[]⟩⟩ ⟨none,0,0,none,0,0⟩):=⟨Sl.nil _ _ _ _,Sl.nil _ _ _ _,Nat.le_refl _,ZZ _,Nat.le_refl _,ZZ _⟩
   go_upto_region 15 with fail
   rw[HW3.out];obtain⟨W4,hW4⟩:∃W4,W3=W4:=⟨_,rfl⟩
   rw[hW4]at HR4 HZ4 HB4 HY4 HM4 zz4 ⊢;obtain⟨q4,hq4⟩:∃q4,st=q4:=⟨_,rfl⟩
   rw[hq4]at HR4 HQ HRD;clear hW4 c0 k1 k2 k3 k4 HR3 HZ3 HB3 HY3 HE HST hq4;obtain⟨bs,bad⟩:=q4;simp only at HQ HRD;obtain⟨q0,q1,_,_⟩:=Bk.two (show Bk W4 (w.heap.size+1) 229 #[.string (ofL bs),.bool bad] from HR4.out);obtain⟨d0,d1,d2,d3,d4,d5,d6,d7,d8⟩:=HZ4.out.nine;obtain⟨f0,f1,f2,f3,f4,f5,f6,f7,f8⟩:=fr9 HZ4.out;cases bad with
   | true =>
     go_wp2_with fail;refine ZY (dW Tryz.results81 rfl (dX HZ4.out _ _ _ _ _ _ _ _ _) rfl) rfl ⟨rfl,dV HB4.out ai _ _ _ _ _ _ _ _ _⟩
   | false =>
     by_cases hbs:bs= []
     . subst hbs
       have HNF:Hid (¬OkF _):=HQ.out.resolve_left (by simp) |>.resolve_left (by simp);have HCK:=ah (mE _ _ W4.heap.size W4 HM4.out ai (HRD.out rfl) HNF.out);simp only[obV,obC,zD]at HCK HY4;obtain⟨k0,k1,k2,k3,k4,k5,k6,k7,k8⟩:=HY4.out.nine;have q0':W4.cell? ⟨w.heap.size+1,0,none⟩=some (.string ⟨#[]⟩):=q0;clear q0;go_wp2_with fail;refine HCK.out.mono ?_;rintro e w8 ⟨⟨x,rfl,hx⟩,hb8⟩;have hxb: (x != 0)=true:=by simpa using hx
       have HZ8:=ah (HZ4.out.below hb8 HZ4.out.lt);have HB8:Hid (Below w.heap.size w w8):=HB4.out.trans (hb8.mono HB4.out.size);clear k0 k1 k2 k3 k4 k5 k6 k7 k8 q0' q1 d0 d1 d2 d3 d4 d5 d6 d7 d8 f0 f1 f2 f3 f4 f5 f6 f7 f8 hb8 HCK hx;obtain⟨d0,d1,d2,d3,d4,d5,d6,d7,d8⟩:=HZ8.out.nine;obtain⟨f0,f1,f2,f3,f4,f5,f6,f7,f8⟩:=fr9 HZ8.out;go_wp2_with fail;refine ZY (dW Tryz.results81 rfl (dX HZ8.out _ _ _ _ _ _ _ _ _) rfl) rfl ⟨rfl,dV HB8.out ai _ _ _ _ _ _ _ _ _⟩
     . have hs1: ((ofL bs).toList == ([]:List UInt8))=false:=by
         rw[mP];exact decide_eq_false fun h=>hbs (by have:=congrArg toL h;rw[bO]at this;exact this)
       clear hbs;go_wp2_with fail;refine ZY (dW Tryz.results81 rfl (dX HZ4.out _ _ _ _ _ _ _ _ _) rfl) rfl ⟨rfl,dV HB4.out ai _ _ _ _ _ _ _ _ _⟩
theorem Gc(x:Itm)(w:MQ)(hx:∃o,OkO o/\x.2=ofL (aG o))(hd:x.1=ofB (toL x.2)) :
  Calls Tryz.prog 72 #[itV x] w fun e w'=>e= .returned (.int .i64 0)/\Below w.heap.size w w':=by
 obtain⟨⟨d1,d2⟩,s⟩:=x;obtain⟨o,ho,hs⟩:=hx;simp only at hs hd;have hsz:s.size<=maxLen:=by rw[hs,bG];have:=ho.len;unfold maxLen;omega
 have HOF:=ah (fun W=>qf s W hsz);unfold lD at HOF;rw[<-hd]at HOF;obtain⟨W,hW⟩:∃W,w.alloc (.cells #[.int .u64 d1,.int .u64 d2,.string s] 118)=W:=⟨_,rfl⟩
 have HB0:Hid (Below w.heap.size w W):=by rw[<-hW];exact(af _ w).alloc ai _
 have HK:Hid (Bk W w.heap.size 118 #[.int .u64 d1,.int .u64 d2,.string s]):=by rw[<-hW];exact Bk.new w _ _
 have zk:w.heap.size<W.heap.size:=HK.out.lt;have HD:=ah (og o W ho);rw[<-hs]at HD;unfold OdE at HD;simp only[aB,itV]at HOF ⊢;obtain⟨x0,x1,x2⟩:=HK.out.three;have HW:=ah hW;rw[<-hW]at x0 x1 x2;clear hs hd hsz hW ho
 go_enter Tryz.func72,Tryz.ntmps72
 go_wp2_with fail;rw[HW.out];refine HD.out.mono ?_;rintro e w2 ⟨sl,rfl,_,hb,_⟩;have HK2:=ah (HK.out.below hb zk);have HB2:Hid (Below w.heap.size w w2):=HB0.out.trans (hb.mono HB0.out.size);clear hb HD x0 x1 x2 HW;simp only[obV,obC];obtain⟨W3,hW3⟩:∃W3,w2.alloc (.cells #[.int .i64 o.kind,.string o.data,.slice sl.eA sl.en sl.ec,.int .u64 o.tree.1,.int .u64 o.tree.2,.slice sl.pA sl.pn sl.pc,.string o.auth,.int .i64 o.time,.string o.msg] 109)=W3:=⟨_,rfl⟩
 have hb3:Below w2.heap.size w2 W3:=by rw[<-hW3];exact(af _ w2).alloc ai _
 have HB3:Hid (Below w.heap.size w W3):=HB2.out.trans (hb3.mono HB2.out.size);have HK3:=ah (HK2.out.below hb3 HK2.out.lt);have zk3:w.heap.size<W3.heap.size:=HK3.out.lt;obtain⟨k0,k1,k2⟩:=HK3.out.three;have hdd: (d1 != d1 || d2 != d2)=false:=by simp
 have hde: (d1 == d1 && d2 == d2)=true:=by simp
 clear hb3 HB2 HK2;go_wp2_with fail;clear hW3
 go_region_held3 (fun w'=>w'.cell? ⟨w.heap.size,0,none⟩=some (.int .u64 d1)/\w'.cell? ⟨w.heap.size,1,none⟩=some (.int .u64 d2)/\w'.cell? ⟨w.heap.size,2,none⟩=some (.string s))
  (first | exact⟨k0,k1,k2⟩ | exact⟨m0.out,m1.out,m2.out⟩)
  (first
    | (go_at_call 126;refine(HOF.out _).mono ?_;rintro e w7 ⟨rfl,hb2⟩
       have m0:=ah ((hb2.cell (p:=⟨w.heap.size,0,none⟩) (by show w.heap.size<_;simp;omega)).trans k0);have m1:=ah ((hb2.cell (p:=⟨w.heap.size,1,none⟩) (by show w.heap.size<_;simp;omega)).trans k1);have m2:=ah ((hb2.cell (p:=⟨w.heap.size,2,none⟩) (by show w.heap.size<_;simp;omega)).trans k2);have hR:Hid (Below W3.heap.size W3 w7):=(af _ W3).drew.trans hb2;clear hb2))
 have HB8:Hid (Below w.heap.size w w7):=HB3.out.trans (hR.out.mono HB3.out.size);clear m0 m1 m2 k0 k1 k2 hR HB3;go_wp2_with fail;go_ret
 exact⟨rfl,HB8.out⟩
theorem IJ(x:Itm)(w:MQ)(hx:∃o,OkO o/\x.2=ofL (aG o))(hd:x.1≠ofB (toL x.2)) :
  Calls Tryz.prog 72 #[itV x] w fun e w'=>e= .returned (.int .i64 15)/\Below w.heap.size w w':=by
 obtain⟨⟨d1,d2⟩,s⟩:=x;obtain⟨o,ho,hs⟩:=hx;simp only at hs hd;obtain⟨⟨r1,r2⟩,hrr⟩:∃r,ofB (toL s)=r:=⟨_,rfl⟩
 rw[hrr]at hd;have hsz:s.size<=maxLen:=by rw[hs,bG];have:=ho.len;unfold maxLen;omega
 have HOF:=ah (fun W=>qf s W hsz);unfold lD at HOF;rw[hrr]at HOF;have hdf: (r1 == d1 && r2 == d2)=false:=by
  rw[Bool.eq_false_iff];intro h;rw[Bool.and_eq_true,beq_iff_eq,beq_iff_eq]at h;exact hd (Prod.ext h.1.symm h.2.symm)
 have hdt: (r1 != d1 || r2 != d2)=true:=by
  rw[Bool.or_eq_true,bne_iff_ne,bne_iff_ne];refine Classical.byContradiction fun h=>?_;rw[not_or,ne_eq,ne_eq,Decidable.not_not,Decidable.not_not]at h;exact hd (Prod.ext h.1.symm h.2.symm)
 obtain⟨W,hW⟩:∃W,w.alloc (.cells #[.int .u64 d1,.int .u64 d2,.string s] 118)=W:=⟨_,rfl⟩
 have HB0:Hid (Below w.heap.size w W):=by rw[<-hW];exact(af _ w).alloc ai _
 have HK:Hid (Bk W w.heap.size 118 #[.int .u64 d1,.int .u64 d2,.string s]):=by rw[<-hW];exact Bk.new w _ _
 have zk:w.heap.size<W.heap.size:=HK.out.lt;have HD:=ah (og o W ho);rw[<-hs]at HD;unfold OdE at HD;simp only[aB,itV]at HOF ⊢;obtain⟨x0,x1,x2⟩:=HK.out.three;have HW:=ah hW;rw[<-hW]at x0 x1 x2;clear hs hd hsz hW ho hrr
 go_enter Tryz.func72,Tryz.ntmps72
 go_wp2_with fail;rw[HW.out];refine HD.out.mono ?_;rintro e w2 ⟨sl,rfl,_,hb,_⟩;have HK2:=ah (HK.out.below hb zk);have HB2:Hid (Below w.heap.size w w2):=HB0.out.trans (hb.mono HB0.out.size);clear hb HD x0 x1 x2 HW;simp only[obV,obC];obtain⟨W3,hW3⟩:∃W3,w2.alloc (.cells #[.int .i64 o.kind,.string o.data,.slice sl.eA sl.en sl.ec,.int .u64 o.tree.1,.int .u64 o.tree.2,.slice sl.pA sl.pn sl.pc,.string o.auth,.int .i64 o.time,.string o.msg] 109)=W3:=⟨_,rfl⟩
 have hb3:Below w2.heap.size w2 W3:=by rw[<-hW3];exact(af _ w2).alloc ai _
 have HB3:Hid (Below w.heap.size w W3):=HB2.out.trans (hb3.mono HB2.out.size);have HK3:=ah (HK2.out.below hb3 HK2.out.lt);have zk3:w.heap.size<W3.heap.size:=HK3.out.lt;obtain⟨k0,k1,k2⟩:=HK3.out.three;clear hb3 HB2 HK2;go_wp2_with fail;clear hW3
 go_region_held3 (fun w'=>w'.cell? ⟨w.heap.size,0,none⟩=some (.int .u64 d1)/\w'.cell? ⟨w.heap.size,1,none⟩=some (.int .u64 d2)/\w'.cell? ⟨w.heap.size,2,none⟩=some (.string s))
  (first | exact⟨k0,k1,k2⟩ | exact⟨m0.out,m1.out,m2.out⟩)
  (first
    | (go_at_call 126;refine(HOF.out _).mono ?_;rintro e w7 ⟨rfl,hb2⟩
       have m0:=ah ((hb2.cell (p:=⟨w.heap.size,0,none⟩) (by show w.heap.size<_;simp;omega)).trans k0);have m1:=ah ((hb2.cell (p:=⟨w.heap.size,1,none⟩) (by show w.heap.size<_;simp;omega)).trans k1);have m2:=ah ((hb2.cell (p:=⟨w.heap.size,2,none⟩) (by show w.heap.size<_;simp;omega)).trans k2);have hR:Hid (Below W3.heap.size W3 w7):=(af _ W3).drew.trans hb2;clear hb2))
 have HB8:Hid (Below w.heap.size w w7):=HB3.out.trans (hR.out.mono HB3.out.size);clear m0 m1 m2 k0 k1 k2 hR HB3;go_wp2_with fail;go_ret
 exact⟨rfl,HB8.out⟩
theorem Hf(x:Itm)(w:MQ)(hs:x.2.size<=65536)(hx:¬∃o,OkO o/\x.2=ofL (aG o)) :
  Calls Tryz.prog 72 #[itV x] w fun e w'=>e= .returned (.int .i64 13)/\Below w.heap.size w w':=by
 obtain⟨⟨d1,d2⟩,s⟩:=x;simp only at hs hx;obtain⟨W,hW⟩:∃W,w.alloc (.cells #[.int .u64 d1,.int .u64 d2,.string s] 118)=W:=⟨_,rfl⟩
 have HB0:Hid (Below w.heap.size w W):=by rw[<-hW];exact(af _ w).alloc ai _
 have HK:Hid (Bk W w.heap.size 118 #[.int .u64 d1,.int .u64 d2,.string s]):=by rw[<-hW];exact Bk.new w _ _
 have HD:=ah (Er (toL s) W (by rw[<-aP];exact hs) (fun⟨o,ho,he⟩=>hx ⟨o,ho,by rw[<-he,iE]⟩));rw[iE]at HD;unfold KdE at HD;obtain⟨x0,x1,x2⟩:=HK.out.three;have HW:=ah hW;rw[<-hW]at x0 x1 x2;simp only[itV];clear hs hx hW
 go_enter Tryz.func72,Tryz.ntmps72
 go_wp2_with fail;rw[HW.out];refine HD.out.mono ?_;rintro e w2 ⟨rfl,hb⟩;have HB2:Hid (Below w.heap.size w (w2.alloc (.cells #[.int .i64 0,.string ⟨#[]⟩,.slice none 0 0,.int .u64 0,.int .u64 0,.slice none 0 0,.string ⟨#[]⟩,.int .i64 0,.string ⟨#[]⟩] 109))):=(HB0.out.trans (hb.mono HB0.out.size)).alloc (by have:=hb.size;have:=HB0.out.size;omega) _;clear hb HD x0 x1 x2 HW;go_wp2_with fail;go_ret
 exact⟨rfl,HB2.out⟩
theorem Gy(x:Itm)(w:MQ)(hs:x.2.size<=65536) :
  Calls Tryz.prog 72 #[itV x] w fun e w'=>(∃z:Int,e= .returned (.int .i64 z)/\ (z=0↔ (∃o,OkO o/\x.2=ofL (aG o))/\x.1=ofB (toL x.2))/\z≠20)/\Below w.heap.size w w':=by
 by_cases he:∃o,OkO o/\x.2=ofL (aG o)
 . by_cases hd:x.1=ofB (toL x.2)
   . exact(Gc x w he hd).mono (by rintro e w' ⟨rfl,hb⟩;exact⟨⟨0,rfl,⟨fun _=>⟨he,hd⟩,fun _=>rfl⟩,by decide⟩,hb⟩)
   . exact(IJ x w he hd).mono (by rintro e w' ⟨rfl,hb⟩;exact⟨⟨15,rfl,⟨fun h=>absurd h (by decide),fun h=>absurd h.2 hd⟩,by decide⟩,hb⟩)
 . exact(Hf x w hs he).mono (by rintro e w' ⟨rfl,hb⟩;exact⟨⟨13,rfl,⟨fun h=>absurd h (by decide),fun h=>absurd h.1 he⟩,by decide⟩,hb⟩)
theorem xN{p:List Itm}{k:Nat}{x:Itm}(h:PlOk (p.take k))(hx:p[k]? =some x)(he:∃o,OkO o/\x.2=ofL (aG o))(hd:x.1=ofB (toL x.2))(hp:∀y,0<k->p[k - 1]? =some y->ltD y.1 x.1):PlOk (p.take (k+1)):=by
 rw[aS hx];refine⟨fun i hi=>?_,fun i hi=>?_,?_⟩
 . rcases List.mem_append.1 hi with hi | hi
   . exact h.enc i hi
   . rw[List.mem_singleton.1 hi];exact he
 . rcases List.mem_append.1 hi with hi | hi
   . exact h.dg i hi
   . rw[List.mem_singleton.1 hi];exact hd
 . rw[List.pairwise_append]
   refine⟨h.asc,List.pairwise_singleton _ _,fun a ha b hb=>?_⟩;rw[List.mem_singleton.1 hb];have hk0:0<k:=by
    rcases Nat.eq_zero_or_pos k with h0 | h0
    . subst h0;simp at ha
    . exact h0
   have hkl:=(List.getElem?_eq_some_iff.1 hx).1;have hy:p[k - 1]? =some (p[k - 1]'(by omega)):=Z6 _;have hlast:=hp _ hk0 hy;obtain⟨j,hj,e⟩:=List.getElem_of_mem ha;rw[List.length_take]at hj;rw[List.getElem_take]at e;rcases Nat.lt_or_ge j (k - 1) with h1 | h1
   . have hasc:=h.asc
     rw[List.pairwise_iff_getElem]at hasc;have h2:=hasc j (k - 1) (by rw[List.length_take];omega) (by rw[List.length_take];omega) h1;rw[List.getElem_take,List.getElem_take,e]at h2;exact iO h2 hlast
   . have:j=k - 1:=by omega
     subst this;rw[<-e];exact hlast
theorem Eg(A:OA)(n c B:Nat)(p:List Itm)(w:MQ)(h0:Sl w B 3 A n (flat itC p))(hB:B<=w.heap.size)(hn:n<=1000000)(hsz:∀i∈p,i.2.size<=65536) :
  Calls Tryz.prog 33 #[.slice A n c] w fun e w'=>∃x:Int,e= .returned (.int .i64 x)/\ (x=0↔PlOk p)/\x≠20/\Below w.heap.size w w':=by
 have HL:=ah (h0.len bN (by omega));have H0:=ah h0;have HSZ:=ah hsz;clear h0 hsz
 go_enter Tryz.func33,Tryz.ntmps33
 go_wp2_with fail
 go_loopw[8] (fun i wr=>∃k:Nat,k<=n/\i= .int .i64 (k:Int)/\Hid (Below w.heap.size w wr)/\Hid (PlOk (p.take k))) (fun i _=>n - (intOf i).toNat)
 case atStart=>exact⟨0,ZZ _,rfl,af _ _,PlOk.nil⟩
 case round =>
  obtain⟨k,hk,rfl,hBel,hPL⟩:=hrel;have HPL:=ah hPL.out;clear hPL;by_cases hlt:k<n
  . have hlz: (k:Int)< (n:Int):=by omega
    obtain⟨b,off,x,rfl,hb,hx,y0,y1,y2⟩:=(H0.out.below hBel.out hB).it hlt;have HX:=ah hx;have hmem:=Z7 hx;have HMEM:=ah hmem;have HSX:=ah (HSZ.out x hmem);have HBE:=ah hBel.out;clear hx hmem hBel;obtain⟨⟨x1,x2⟩,xs⟩:=x;simp only at y0 y1 y2;obtain⟨W6,hW6⟩:∃W6,wr.alloc (.cells #[.int .u64 x1,.int .u64 x2,.string xs] 118)=W6:=⟨_,rfl⟩
    have hb6:Below wr.heap.size wr W6:=by rw[<-hW6];exact(af _ wr).alloc ai _
    have HB6:Hid (Below w.heap.size w W6):=HBE.out.trans (hb6.mono HBE.out.size);have HK6:Hid (Bk W6 wr.heap.size 118 #[.int .u64 x1,.int .u64 x2,.string xs]):=by rw[<-hW6];exact Bk.new wr _ _
    have HC:=ah (Gy ((x1,x2),xs) W6 HSX.out);simp only[itV]at HC;have zk:wr.heap.size<W6.heap.size:=HK6.out.lt;have zr:w.heap.size<=wr.heap.size:=HBE.out.size;obtain⟨x0',x1',x2'⟩:=HK6.out.three;have HW6:=ah hW6;rw[<-hW6]at x0' x1' x2';clear hb6 hW6 HBE;go_wp2_with fail;rw[HW6.out];refine HC.out.mono ?_;rintro e w7 ⟨⟨z,rfl,hz,hz20⟩,hb7⟩;have HZ:=ah hz;have HZ20:=ah hz20;have HB7:Hid (Below w.heap.size w w7):=HB6.out.trans (hb7.mono HB6.out.size);have HK7:=ah (HK6.out.below hb7 zk);have zk7:wr.heap.size<w7.heap.size:=HK7.out.lt;obtain⟨k0,k1,k2⟩:=HK7.out.three;clear hb7 HC HB6 HK6 HW6 x0' x1' x2' y0 y1 y2;by_cases hz0:z=0
    case neg =>
     have hzb: (z != 0)=true:=by simpa using hz0
     have HZN:=ah hz0;clear hz0 hz hz20;go_wp2_with fail;go_ret
     exact⟨z,rfl,⟨fun h=>absurd h HZN.out,fun h=>absurd (HZ.out.2 ⟨h.enc _ HMEM.out,h.dg _ HMEM.out⟩) HZN.out⟩,HZ20.out,HB7.out⟩
    subst hz0;have HEN:=ah (HZ.out.1 rfl);clear hz hz20 HZ HZ20;by_cases hk0:k=0
    . subst hk0
      go_wp2_with fail
      go_quiet(fail)
      go_wp2_with fail;go_roundw
      case rel=>exact⟨0+1,hlt,by go_num,bM HB7.out _,xN HPL.out HX.out HEN.out.1 HEN.out.2 (fun y h=>absurd h (by omega))⟩
      case measure=>simp[intOf];omega
    . obtain⟨j,rfl⟩:∃j,k=j+1:=⟨k - 1,by omega⟩
      obtain⟨b3,off3,y,hA3,hb3,hy,z0,z1,z2⟩:=(H0.out.below HB7.out hB).it (k:=j) (by omega);injection hA3 with hA3;injection hA3 with hA3 hA4;subst hA3;subst hA4;have hcs: (bW (x1,x2) y.1=1/\ltD y.1 (x1,x2))∨ (bW (x1,x2) y.1=0/\¬ltD y.1 (x1,x2))∨ (bW (x1,x2) y.1= -1/\¬ltD y.1 (x1,x2)):=by
       unfold bW;by_cases e1: (x1,x2)=y.1
       . rw[if_pos e1];exact .inr (.inl ⟨rfl,fun h=>gI _ (by rw[e1]at h;exact h)⟩)
       . rw[if_neg e1]
         by_cases e2:ltD (x1,x2) y.1
         . rw[if_pos e2];exact .inr (.inr ⟨rfl,fun h=>gI _ (iO h e2)⟩)
         . rw[if_neg e2]
           refine .inl ⟨rfl,Classical.byContradiction fun h=>e1 (kI e2 h)⟩
      have HY:=ah hy;have HNO:Hid (¬ltD y.1 (x1,x2)->¬PlOk p):=fun hn hp=>hn (by
       have h1:=hp.asc;rw[List.pairwise_iff_getElem]at h1;obtain⟨l1,e1⟩:=List.getElem?_eq_some_iff.1 HY.out;obtain⟨l2,e2⟩:=List.getElem?_eq_some_iff.1 HX.out;have h2:=h1 j (j+1) l1 l2 (by omega);rw[e1,e2]at h2;exact h2)
      have HSN:Hid (ltD y.1 (x1,x2)->PlOk (p.take (j+1+1))):=fun hn=>xN HPL.out HX.out HEN.out.1 HEN.out.2 (fun y' _ h=>by
       have h:p[j]? =some y':=h;rw[HY.out]at h;cases h;exact hn)
      clear hy;obtain⟨⟨y1',y2'⟩,ys⟩:=y;simp only at z0 z1 z2 hcs HNO HSN;have hj1:IntKind.i64.wrap (j:Int)= (j:Int):=by rw[IntKind.wrap_i64];omega
      have hjn:j<n:=by omega
      have hj2: (j:Int)+1< (n:Int):=by omega
      have hj3: (0:Int)<= (j:Int)+1:=by omega
      have hj4: ((j:Int)+1).toNat=j+1:=by omega
      have hj5: (0:Int)< (j:Int)+1:=by omega
      have HCM:=ah (fun W=>sU (x1,x2) (y1',y2') W);rcases hcs with ⟨hcz,hlt2⟩ | ⟨hcz,hlt2⟩ | ⟨hcz,hlt2⟩
      . unfold CmE at HCM
        rw[hcz]at HCM;simp only[aB]at HCM;have zb:b<w7.heap.size:=by omega
        clear hcz;go_wp2_with fail
        go_region_held3 (fun w'=>w'.cell? ⟨b,off+j*3,none⟩=some (.int .u64 y1')/\w'.cell? ⟨b,off+j*3+1,none⟩=some (.int .u64 y2')/\w'.cell? ⟨wr.heap.size,0,none⟩=some (.int .u64 x1)/\w'.cell? ⟨wr.heap.size,1,none⟩=some (.int .u64 x2))
         (first | exact⟨z0,z1,k0,k1⟩ | exact⟨n0.out,n1.out,n2.out,n3.out⟩)
         (first
           | (go_at_call 55;refine(HCM.out _).mono ?_;rintro e w8 ⟨rfl,hb8⟩
              have n0:=ah ((hb8.cell (p:=⟨b,off+j*3,none⟩) (by show b<_;simp;omega)).trans z0);have n1:=ah ((hb8.cell (p:=⟨b,off+j*3+1,none⟩) (by show b<_;simp;omega)).trans z1);have n2:=ah ((hb8.cell (p:=⟨wr.heap.size,0,none⟩) (by show wr.heap.size<_;simp;omega)).trans k0);have n3:=ah ((hb8.cell (p:=⟨wr.heap.size,1,none⟩) (by show wr.heap.size<_;simp;omega)).trans k1);have hR8:Hid (Below w7.heap.size w7 w8):=(af _ w7).drew.trans hb8;clear hb8))
        have HB9:Hid (Below w.heap.size w w8):=HB7.out.trans (hR8.out.mono HB7.out.size);clear n0 n1 n2 n3 z0 z1 z2 k0 k1 k2 hR8;have HS2:=ah (HSN.out hlt2);go_wp2_with fail;go_roundw
        case rel=>exact⟨j+1+1,hlt,by go_num,HB9.out,HS2.out⟩
        case measure=>simp[intOf];omega
      . unfold CmE at HCM
        rw[hcz]at HCM;simp only[aB]at HCM;have zb:b<w7.heap.size:=by omega
        clear hcz;go_wp2_with fail
        go_region_held3 (fun w'=>w'.cell? ⟨b,off+j*3,none⟩=some (.int .u64 y1')/\w'.cell? ⟨b,off+j*3+1,none⟩=some (.int .u64 y2')/\w'.cell? ⟨wr.heap.size,0,none⟩=some (.int .u64 x1)/\w'.cell? ⟨wr.heap.size,1,none⟩=some (.int .u64 x2))
         (first | exact⟨z0,z1,k0,k1⟩ | exact⟨n0.out,n1.out,n2.out,n3.out⟩)
         (first
           | (go_at_call 55;refine(HCM.out _).mono ?_;rintro e w8 ⟨rfl,hb8⟩
              have n0:=ah ((hb8.cell (p:=⟨b,off+j*3,none⟩) (by show b<_;simp;omega)).trans z0);have n1:=ah ((hb8.cell (p:=⟨b,off+j*3+1,none⟩) (by show b<_;simp;omega)).trans z1);have n2:=ah ((hb8.cell (p:=⟨wr.heap.size,0,none⟩) (by show wr.heap.size<_;simp;omega)).trans k0);have n3:=ah ((hb8.cell (p:=⟨wr.heap.size,1,none⟩) (by show wr.heap.size<_;simp;omega)).trans k1);have hR8:Hid (Below w7.heap.size w7 w8):=(af _ w7).drew.trans hb8;clear hb8))
        have HB9:Hid (Below w.heap.size w w8):=HB7.out.trans (hR8.out.mono HB7.out.size);clear n0 n1 n2 n3 z0 z1 z2 k0 k1 k2 hR8;have HN2:=ah (HNO.out hlt2);go_wp2_with fail;go_ret
        exact⟨10,rfl,⟨fun h=>absurd h (by decide),fun h=>absurd h HN2.out⟩,by decide,HB9.out⟩
      . unfold CmE at HCM
        rw[hcz]at HCM;simp only[aB]at HCM;have zb:b<w7.heap.size:=by omega
        clear hcz;go_wp2_with fail
        go_region_held3 (fun w'=>w'.cell? ⟨b,off+j*3,none⟩=some (.int .u64 y1')/\w'.cell? ⟨b,off+j*3+1,none⟩=some (.int .u64 y2')/\w'.cell? ⟨wr.heap.size,0,none⟩=some (.int .u64 x1)/\w'.cell? ⟨wr.heap.size,1,none⟩=some (.int .u64 x2))
         (first | exact⟨z0,z1,k0,k1⟩ | exact⟨n0.out,n1.out,n2.out,n3.out⟩)
         (first
           | (go_at_call 55;refine(HCM.out _).mono ?_;rintro e w8 ⟨rfl,hb8⟩
              have n0:=ah ((hb8.cell (p:=⟨b,off+j*3,none⟩) (by show b<_;simp;omega)).trans z0);have n1:=ah ((hb8.cell (p:=⟨b,off+j*3+1,none⟩) (by show b<_;simp;omega)).trans z1);have n2:=ah ((hb8.cell (p:=⟨wr.heap.size,0,none⟩) (by show wr.heap.size<_;simp;omega)).trans k0);have n3:=ah ((hb8.cell (p:=⟨wr.heap.size,1,none⟩) (by show wr.heap.size<_;simp;omega)).trans k1);have hR8:Hid (Below w7.heap.size w7 w8):=(af _ w7).drew.trans hb8;clear hb8))
        have HB9:Hid (Below w.heap.size w w8):=HB7.out.trans (hR8.out.mono HB7.out.size);clear n0 n1 n2 n3 z0 z1 z2 k0 k1 k2 hR8;have HN2:=ah (HNO.out hlt2);go_wp2_with fail;go_ret
        exact⟨10,rfl,⟨fun h=>absurd h (by decide),fun h=>absurd h HN2.out⟩,by decide,HB9.out⟩
  . have hlz:¬(k:Int)< (n:Int):=by omega
    have HBE:=ah hBel.out;clear hBel;have hkn:k=n:=by omega
    have HTK:Hid (p.take k=p):=ZW (by rw[HL.out];omega);rw[HTK.out]at HPL;clear hkn;go_wp2_with fail;go_ret
    exact⟨0,rfl,⟨fun _=>HPL.out,fun _=>rfl⟩,by decide,HBE.out⟩
theorem Cr:iV:=fun A n c B q w h0 hB hn hsz _=>Eg A n c B q w h0 hB (by omega) hsz
theorem RI.again{r:Rp}(h:RI r)(hl:r.d.lf≠0)(ps:List Int):∃gs a u,Jn (dJ r.d ps).sz (dJ r.d ps).ss a (recs gs) u/\Mt gs r.p r.rs r.lg/\Dur (dJ r.d ps) (recs gs)/\RI ⟨dJ r.d ps,r.p,r.rs,r.lg⟩:=by
 obtain⟨gs,p,rs,lg,h1,h2,h3,h4⟩:=h.cut ps;obtain⟨rfl,rfl,rfl⟩:=h4 hl;obtain⟨a,u,hj⟩:=h1.jn;exact⟨gs,a,u,hj,h2,h1,h3⟩
theorem lawDu_any(n z:Int)(l:List AcX)(A:OA)(m c:Nat)(ps:List Int)(A2:OA)(n2 c2:Nat)(w:MQ)(h:AcsM w w.heap.size A m l)(hb:∀a∈l,AcB a.1)(hm:m<=maxLen)(h2:Sl w w.heap.size 1 A2 n2 (flat gT ps)) :
  Calls Tryz.prog 5 #[jb n z A m c,.slice A2 n2 c2] w (nI w):=by
 have hnl:=Sl.len (enc:=gT) (s:=1) (fun _=>rfl) (by decide) h2;subst hnl;obtain⟨W,hW⟩:∃W,w.alloc (.cells #[.int .i64 n,.int .i64 z,.slice A m c] 42)=W:=⟨_,rfl⟩
 have hb0:Below w.heap.size w W:=by rw[<-hW];exact(af _ w).alloc ai _
 have HB0:=ah hb0;have HR:=ah (Es Cr n z l A m c w.heap.size W (h.below hb0 ai) hb hb0.size hm);have H2:=ah h2;have HAW:=ah (fun W=>GI Cr W);have HW:=ah hW;clear hW hb0 h hb hm h2;unfold vT jb at HR;unfold nI jb;unfold nI at HAW
 go_enter Tryz.func5,Tryz.ntmps5
 go_wp2_with fail;rw[HW.out];refine HR.out.mono ?_;rintro e w1 ⟨ok,r,s,rfl,hok,hm1,hb1⟩;have HB1:Hid (Below w.heap.size w w1):=HB0.out.trans (hb1.mono HB0.out.size);have HOK:=ah hok;obtain⟨W2,hW2⟩:∃W,w1.alloc (.cells (rpC r s) 35)=W:=⟨_,rfl⟩
 have hb2:Below w1.heap.size w1 W2:=by rw[<-hW2];exact(af _ _).alloc ai _
 have HB2:Hid (Below w.heap.size w W2):=HB1.out.trans (hb2.mono HB1.out.size);have HK2:Hid (Bk W2 w1.heap.size 35 (rpC r s)):=by rw[<-hW2];exact Bk.new _ _ _
 have HM2:Hid (RpM W2 W2.heap.size r s):=(hm1.below hb2 ai).more hb2.size;have zk:w1.heap.size<W2.heap.size:=by rw[<-hW2];simp
 have HW2:=ah hW2;clear hok hm1 hb1 hb2 hW2 HR HB0 HW HB1;simp only[rpV,rpC]at HW2 HK2 ⊢;obtain⟨⟨k0,k1,k2,k3⟩,k4,k5,k6⟩:=HK2.out.seven;cases ok with
 | false =>
   go_upto_region 2 with fail
   rw[HW2.out];clear HW2;go_wp2_with fail;refine(HAW.out _).mono ?_;rintro e w3 ⟨rfl,hb3⟩;have HB3:Hid (Below w.heap.size w w3):=HB2.out.trans (hb3.mono HB2.out.size);clear hb3;go_wp2_with fail;go_ret
   exact⟨rfl,HB3.out⟩
 | true =>
   have HRI:=ah (HOK.out rfl);by_cases hc: (20:Int)< (ps.length:Int)
   . go_upto_region 2 with fail
     rw[HW2.out];clear HW2;go_wp2_with fail;refine(HAW.out _).mono ?_;rintro e w3 ⟨rfl,hb3⟩;have HB3:Hid (Below w.heap.size w w3):=HB2.out.trans (hb3.mono HB2.out.size);clear hb3;go_wp2_with fail;go_ret
     exact⟨rfl,HB3.out⟩
   by_cases hl:r.d.lf=0
   . have hlb: (r.d.lf == 0)=true:=by rw[hl];rfl
     clear hl
     go_upto_region 2 with fail
     rw[HW2.out];clear HW2;go_wp2_with fail;refine(HAW.out _).mono ?_;rintro e w3 ⟨rfl,hb3⟩;have HB3:Hid (Below w.heap.size w w3):=HB2.out.trans (hb3.mono HB2.out.size);clear hb3;go_wp2_with fail;go_ret
     exact⟨rfl,HB3.out⟩
   have hlb: (r.d.lf == 0)=false:=by rw[beq_eq_false_iff_ne];exact hl
   obtain⟨gs,a,u,hj,hmt,hdu,hri⟩:=HRI.out.again hl ps;obtain⟨r',hr'⟩:∃q,(⟨dJ r.d ps,r.p,r.rs,r.lg⟩:Rp)=q:=⟨_,rfl⟩
   have e1:r'.d=dJ r.d ps:=by rw[<-hr']
   have e2:r'.p=r.p:=by rw[<-hr']
   have e3:r'.rs=r.rs:=by rw[<-hr']
   have e4:r'.lg=r.lg:=by rw[<-hr']
   rw[hr']at hri;rw[<-e1]at hj hdu;rw[<-e2,<-e3,<-e4]at hmt;have hfew:=hmt.few hj hri.n;have hrf:=kS hmt.rf;have HC:=ah (Av r.d s.d W2.heap.size ps A2 c2 w.heap.size W2 HRI.out.ok HM2.out.d ai (by have:=HRI.out.pn;omega) (H2.out.below HB2.out ai) HB2.out.size (by omega));rw[<-e1]at HC;have HO:=ah (fun(w4:MQ)(t:Dsl)(ht:DkM w4 w4.heap.size r'.d t)=>uq r' gs a u t w4.heap.size w4 hdu.ok hdu.pn hj hmt ht ai hri.n);have HCK:=ah (fun(w4:MQ)(t:Rsl)(ht:RpM w4 w4.heap.size r' t)=>EX r' gs a u t w4.heap.size w4 hdu.ok hdu.pn hj hmt ht ai hri.n);have HAL:=ah (fun(w4:MQ)(t:Rsl)(h1:RpM w4 w4.heap.size r s)(h2:RpM w4 w4.heap.size r' t)=>GN r r' s t w4.heap.size w4 h1 h2 ai (by rw[<-e2];unfold maxLen;omega) (by rw[<-e3];unfold maxLen;omega) (by rw[<-e4];unfold maxLen;omega));have HEQ:Hid ((decide (r.p=r'.p) && (decide (r.rs=r'.rs) && decide (r.lg=r'.lg)))=true):=by show _=_;rw[e2,e3,e4];simp
   rw[HEQ.out]at HAL;unfold dO at HO;simp only[dkV,dkC,rpV,rpC]at HC HO HCK HAL;clear hl hj hmt hdu hri hr' e1 e2 e3 e4 hfew hrf
   go_upto_region 2 with fail
   rw[HW2.out];clear HW2;go_wp2_with fail;refine HC.out.mono ?_;rintro e w4 ⟨t4,rfl,hd4,hb4⟩;have HB4:=ah hb4;have HO4:=ah (HO.out w4 t4 hd4);clear hd4 hb4 HC HO k0 k1 k2 k3 k4 k5 k6;go_wp2_with fail;refine HO4.out.mono ?_;rintro e w5 ⟨t,rfl,hm5,hb5⟩;obtain⟨W6,hW6⟩:∃W,w5.alloc (.cells (rpC r' t) 35)=W:=⟨_,rfl⟩
   have hb25:Below W2.heap.size W2 w5:=HB4.out.trans (hb5.mono HB4.out.size);have hb6:Below w5.heap.size w5 W6:=by rw[<-hW6];exact(af _ _).alloc ai _
   have HB26:Hid (Below W2.heap.size W2 W6):=hb25.trans (hb6.mono hb25.size);have HK6:=ah (HK2.out.below HB26.out zk);have HL6:Hid (Bk W6 w5.heap.size 35 (rpC r' t)):=by rw[<-hW6];exact Bk.new _ _ _
   have HM6:Hid (RpM W6 W6.heap.size r s):=(HM2.out.below HB26.out ai).more HB26.out.size;have HT6:Hid (RpM W6 W6.heap.size r' t):=(hm5.below hb6 ai).more hb6.size;have zl:w5.heap.size<W6.heap.size:=by rw[<-hW6];simp
   have HB6:Hid (Below w.heap.size w W6):=HB2.out.trans (HB26.out.mono HB2.out.size);have HC:=ah (HAL.out W6 t HM6.out HT6.out);have HW6:=ah hW6;clear hW6 hb25 hb6 hm5 hb5 HO4 HB4 HAL HM6 HB26 HB2 HM2;simp only[rpC]at HW6 HL6;obtain⟨⟨k0,k1,k2,k3⟩,k4,k5,k6⟩:=HK6.out.seven;obtain⟨⟨l0,l1,l2,l3⟩,l4,l5,l6⟩:=HL6.out.seven
   go_upto_region 5 with fail
   rw[HW6.out];clear HW6;go_wp2_with fail;refine HC.out.mono ?_;rintro e w7 ⟨rfl,hb7⟩;have HB7:Hid (Below w.heap.size w w7):=HB6.out.trans (hb7.mono HB6.out.size);have HL7:=ah (HL6.out.below hb7 zl);have HC:=ah (HCK.out w7 t ((HT6.out.below hb7 ai).more hb7.size));clear hb7 HB6 HL6 HT6 HCK k0 k1 k2 k3 k4 k5 k6 l0 l1 l2 l3 l4 l5 l6;obtain⟨⟨l0,l1,l2,l3⟩,l4,l5,l6⟩:=HL7.out.seven;go_wp2_with fail;refine HC.out.mono ?_;rintro e w8 ⟨rfl,hb8⟩;have HB8:Hid (Below w.heap.size w w8):=HB7.out.trans (hb8.mono HB7.out.size);clear hb8 HB7 HL7 HC l0 l1 l2 l3 l4 l5 l6;go_wp2_with fail;refine(HAW.out _).mono ?_;rintro e w9 ⟨rfl,hb9⟩;have HB9:Hid (Below w.heap.size w w9):=HB8.out.trans (hb9.mono HB8.out.size);clear hb9;go_wp2_with fail;go_ret
   exact⟨rfl,HB9.out⟩
end Go.Proofs.YtknefelegjlgnaaGreatDoor
