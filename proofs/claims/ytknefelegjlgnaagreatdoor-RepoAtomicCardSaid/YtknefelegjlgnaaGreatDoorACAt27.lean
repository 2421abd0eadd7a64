/-
  Lemmas of the card.
-/
import Derived.Test.YtknefelegjlgnaaGreatDoorACAt26
set_option maxRecDepth 100000
set_option maxHeartbeats 16000000
namespace Go.Proofs.YtknefelegjlgnaaGreatDoor
open Go.RowKit
theorem tQ(s:M3)(m:Nat):s.extract m s.size=ofL ((toL s).drop m):=by
 apply kS
 rw[bP];show(s.extract m s.size).data.toList=s.data.toList.drop m;rw[ByteArray.data_extract,Array.toList_extract,List.extract_eq_take_drop,ZW];rw[List.length_drop];exact Nat.le_refl _
def Rds(w:MZ)(b:Nat)(s:RS):Prop:=Bk w b 229 #[.string (ofL s.1),.bool s.2]
def RsE(v:M4)(b:Nat)(s:RS)(w:MZ)(e:Ending)(w':MZ):Prop:=e= .returned v/\Rds w' b s/\Gb (fun g=>g=b) w w'
theorem lW(b:Nat)(q:RS)(w:MZ)(hk:Rds w b q)(hl:q.1.length<=1000000) :
  Calls Tryz.prog 143 #[.pointer (some ⟨b,0,none⟩)] w (RsE (.int .i64 ((qN q).1:Nat)) b (qN q).2 w):=by
 unfold Rds at hk;obtain⟨l,a⟩:=q;obtain⟨s,hs⟩:=NX9 (ofL l)
 have h:l=toL s:=by rw[<-hs,bP]
 subst h;simp only[hs]at hk hl;have i:s.size= (toL s).length:=aP s;have d:=kN (toL s);have HG:=ah (jD s w);unfold qN;simp only;obtain⟨⟨v,m,x⟩,hg⟩:∃g,ay (toL s)=g:=⟨_,rfl⟩
 rw[hg]at HG d ⊢;simp only at d ⊢;have HX:=ah (tQ s m);have j: (m:Int)<= (s.size:Int):=by omega
 have k: (s.size:Int)<=1000000:=by omega
 have HK:=ah hk;obtain⟨x0,x1,f0,f1⟩:=hk.two;clear hk hs i d hg hl;have fin:∀c:Bool,c= (a || decide (x≠0))->RsE (.int .i64 (v:Nat)) b ((toL s).drop m,a || decide (x≠0)) w (.returned (.int .i64 v)) ((w.setCell ⟨b,1,none⟩ (.bool c)).setCell ⟨b,0,none⟩ (.string (s.extract m s.size))):=by
  rintro c rfl;refine⟨rfl,?_,iD _ _ _ _⟩;show Bk _ _ _ #[.string (ofL ((toL s).drop m)),.bool _];rw[<-HX.o];exact iE HK.o _ _
 have f:=ah fin;clear fin
 go_enter Tryz.func143,Tryz.ntmps143
 go_wp2_with fail;refine HG.o.mono ?_;rintro e w' ⟨rfl,rfl⟩;cases a
 . by_cases hx:x=0
   . subst hx
     go_wp2_with fail;go_ret
     exact f.o false (by simp)
   . have n: (x != 0)=true:=by simpa using hx
     go_wp2_with fail;go_ret
     exact f.o true (by simp[hx])
 . go_wp2_with fail
   go_ret
   exact f.o true (by simp)
theorem lX(b:Nat)(q:RS)(w:MZ)(hk:Rds w b q)(hl:q.1.length<=1000000) :
  Calls Tryz.prog 144 #[.pointer (some ⟨b,0,none⟩)] w (RsE (.string (ofL (qT q).1)) b (qT q).2 w):=by
 unfold Rds at hk;obtain⟨l,a⟩:=q;obtain⟨s,hs⟩:=NX9 (ofL l)
 have h:l=toL s:=by rw[<-hs,bP]
 subst h;simp only[hs]at hk hl;have i:s.size= (toL s).length:=aP s;have d:=pU (toL s);have HG:=ah (nY s (by unfold maxLen;omega) w);unfold qT;simp only;obtain⟨⟨v,m,x⟩,hg⟩:∃g,aK (toL s)=g:=⟨_,rfl⟩
 rw[hg]at HG d ⊢;simp only at d ⊢;unfold nJ at HG;simp only at HG;have HX:=ah (tQ s m);have j: (m:Int)<= (s.size:Int):=by omega
 have k: (s.size:Int)<=1000000:=by omega
 have HK:=ah hk;obtain⟨x0,x1,f0,f1⟩:=hk.two;clear hk hs i d hg hl;have fin:∀c:Bool,c= (a || decide (x≠0))->RsE (.string (ofL v)) b ((toL s).drop m,a || decide (x≠0)) w (.returned (.string (ofL v))) ((w.setCell ⟨b,1,none⟩ (.bool c)).setCell ⟨b,0,none⟩ (.string (s.extract m s.size))):=by
  rintro c rfl;refine⟨rfl,?_,iD _ _ _ _⟩;show Bk _ _ _ #[.string (ofL ((toL s).drop m)),.bool _];rw[<-HX.o];exact iE HK.o _ _
 have f:=ah fin;clear fin
 go_enter Tryz.func144,Tryz.ntmps144
 go_wp2_with fail;refine HG.o.mono ?_;rintro e w' ⟨rfl,rfl⟩;cases a
 . by_cases hx:x=0
   . subst hx
     go_wp2_with fail;go_ret
     exact f.o false (by simp)
   . have n: (x != 0)=true:=by simpa using hx
     go_wp2_with fail;go_ret
     exact f.o true (by simp[hx])
 . go_wp2_with fail
   go_ret
   exact f.o true (by simp)
theorem lS(b:Nat)(q:RS)(w:MZ)(hk:Rds w b q)(hl:q.1.length<=1000000) :
  Calls Tryz.prog 147 #[.pointer (some ⟨b,0,none⟩)] w (RsE (aB (qD q).1) b (qD q).2 w):=by
 unfold Rds at hk;obtain⟨l,u⟩:=q;obtain⟨s,hs⟩:=NX9 (ofL l)
 have v:l=toL s:=by rw[<-hs,bP]
 subst v;simp only[hs]at hk hl;have c:s.size= (toL s).length:=aP s;have HX:=ah (tQ s 16);rw[<-c]at hl;have HE:=ah (vL (toL s));have e:=hk.lt;obtain⟨W0,a⟩:=NX9 ((w.alloc (.cells #[.int .u64 0,.int .u64 0] 50)).alloc (.cells #[.int .u64 0,.int .u64 0] 50))
 have j:Hid (Bk W0 w.heap.size 50 #[.int .u64 0,.int .u64 0]):=by rw[<-a];exact(Bk.new w _ _).alloc _
 have m:Hid (Bk W0 (w.heap.size+1) 50 #[.int .u64 0,.int .u64 0]):=by
  rw[<-a];have:=Bk.new (w.alloc (.cells #[.int .u64 0,.int .u64 0] 50)) 50 #[.int .u64 0,.int .u64 0]
  rwa[Z9]at this
 have HB:Hid (Below w.heap.size w W0):=by rw[<-a];exact((af _ w).alloc ai _).alloc (by simp) _
 have HR:=ah hk;obtain⟨x0,x1,_,_⟩:=(hk.below HB.o e).two;clear hk hs;unfold qD;simp only;rw[<-c];clear c;have n:b≠w.heap.size:=by omega
 have o:b≠w.heap.size+1:=by omega
 by_cases hsh:s.size<16
 . have r: (s.size:Int)<16:=by omega
   rw[if_pos hsh];obtain⟨_,_,g0,g1⟩:=(HR.o.below HB.o e).two;obtain⟨u0,u1,e0,e1⟩:=j.o.two;obtain⟨v0,v1,_,_⟩:=m.o.two;rw[<-a]at x0 x1 g0 g1 u0 u1 e0 e1 v0 v1;have H:=ah a;clear a
   go_enter Tryz.func147,Tryz.ntmps147
   go_wp2_with fail;have z: (w.setCell ⟨b,1,none⟩ (.bool true)).heap.size=w.heap.size:=by simp
   have t:=Bk.new (w.setCell ⟨b,1,none⟩ (.bool true)) 50 #[.int .u64 0,.int .u64 0];rw[z]at t;refine ZY (mi Tryz.results147 rfl (t.alloc _)) rfl ⟨rfl,?_,?_⟩
   . show Bk _ _ _ #[.string (ofL (toL s)),.bool true]
     rw[iF];have:=((HR.o.set 1 (.bool true)).alloc (.cells #[.int .u64 0,.int .u64 0] 50)).alloc (.cells #[.int .u64 0,.int .u64 0] 50)
     simpa using this
   . exact(Gb.set (p:=fun g=>g=b) (x:=b) rfl 1 _).trans (Gb.of_below (((af _ _).alloc ai _).alloc (by simp) _))
 have I:16<=s.size:=by omega
 have r:¬(s.size:Int)<16:=by omega
 have F: (16:Int)<= (s.size:Int):=by omega
 rw[if_neg hsh];clear hsh
 go_enter Tryz.func147,Tryz.ntmps147
 go_wp2_with fail;clear a
 go_loopw[15] (fun i wr=>∃k:Nat,k<=16/\i= .int .i64 k/\Hid (Bk wr w.heap.size 50 #[.int .u64 0,.int .u64 0])/\Hid (Bk wr (w.heap.size+1) 50 #[.int .u64 (wd1 (toL s) k),.int .u64 (wd2 (toL s) k)])/\Hid (Below w.heap.size w wr)) (fun i _=>16 - (intOf i).toNat)
 case atStart=>exact⟨0,by omega,rfl,j.o,m.o,HB.o⟩
 case round =>
  obtain⟨k,hk,rfl,J0,J1,hB⟩:=hrel;clear x0 x1;obtain⟨x0,x1,xf,_⟩:=(HR.o.below hB.o e).two;by_cases hlt:k<16
  . have c:k<s.size:=by omega
    have hd:s[k].toNat<256:=s[k].toNat_lt;have A: (k:Int)<16:=by omega
    by_cases h8:k<8
    . have hx:=vw (l:=toL s) h8
      obtain⟨e1,e2⟩:=tZ (kz c) h8;have f:=ah e1;have h:=ah e2;have y0:=J1.o.cell 0;have y1:=J1.o.cell 1;have f0:=J1.o.free 0;simp at y0 y1;clear e1 e2 HX;have hq: (k:Int) / 8=0:=by omega
      generalize wd1 (toL s) k=x at *;generalize wd2 (toL s) k=y at *;have B:=kQ (x:=x) (y:=s[k].toNat) (by omega) (by omega);go_wp2_with fail
      go_region
      go_wp2_with fail;go_roundw
      case rel=>exact⟨k+1,by omega,by go_num,J0.o.far (p:=⟨w.heap.size+1,0,none⟩) (by simp) _,by show Bk _ _ _ _;rw[f.o,h.o];exact J1.o.set 0 _,(hB.o.setCell (p:=⟨w.heap.size+1,0,none⟩) (by simp) _).drew⟩
      case measure=>simp[intOf];omega
    . have hx:=vo (l:=toL s) hlt
      obtain⟨e1,e2⟩:=tL (kz c) (by omega);have f:=ah e1;have h:=ah e2;have y0:=J1.o.cell 0;have y1:=J1.o.cell 1;have f1:=J1.o.free 1;simp at y0 y1;clear e1 e2 HX;have hq: (k:Int) / 8=1:=by omega
      generalize wd1 (toL s) k=x at *;generalize wd2 (toL s) k=y at *;have B:=kQ (x:=y) (y:=s[k].toNat) (by omega) (by omega);go_wp2_with fail
      go_region
      go_wp2_with fail;go_roundw
      case rel=>exact⟨k+1,by omega,by go_num,J0.o.far (p:=⟨w.heap.size+1,1,none⟩) (by simp) _,by show Bk _ _ _ _;rw[f.o,h.o];exact J1.o.set 1 _,(hB.o.setCell (p:=⟨w.heap.size+1,1,none⟩) (by simp) _).drew⟩
      case measure=>simp[intOf];omega
  . have C:Hid (k=16):=by show _=_;omega
    have A:¬(k:Int)<16:=by omega
    have D:Hid (dg (toL s)= ((wd1 (toL s) k:Int),(wd2 (toL s) k:Int))):=by show _=_;rw[C.o];exact HE.o
    have E:=ah (HR.o.below hB.o e);obtain⟨y0,y1,_,_⟩:=J1.o.two;obtain⟨z0,z1,f0,f1⟩:=J0.o.two;generalize wd1 (toL s) k=x at *;generalize wd2 (toL s) k=y at *;clear hlt;have d:=n;have G:=o;go_wp2_with fail;refine ZY (mi Tryz.results147 rfl ((J0.o.far (p:=⟨b,0,none⟩) d.symm _).set2 _ _)) rfl ⟨by rw[D.o];rfl,?_,?_⟩
    . show Bk _ _ _ #[.string (ofL ((toL s).drop 16)),.bool u]
      rw[<-HX.o];have:=(((E.o.set 0 (.string (s.extract 16 s.size))).far (p:=⟨w.heap.size,0,none⟩) d (.int .u64 x)).far (p:=⟨w.heap.size,1,none⟩) d (.int .u64 y))
      simpa using this
    . exact((((Gb.of_below hB.o).trans (Gb.set (p:=fun g=>g=b) (x:=b) rfl 0 _)).after ai 0 _).after ai 1 _)
theorem vv(q:RS): (qT q).2.1.length<=q.1.length:=by unfold qT;simp only[List.length_drop];omega
theorem jP(q:RS): (qN q).2.1.length<=q.1.length:=by unfold qN;simp only[List.length_drop];omega
theorem qj(q:RS): (qD q).2.1.length<=q.1.length:=by
 unfold qD;split
 . exact Nat.le_refl _
 . simp only[List.length_drop];omega
theorem LP(q:RS): (qE q).2.1.length<=q.1.length:=by
 unfold qE;simp only;exact Z0 (qj _) (Z0 (jP _) (vv _))
theorem FZ(b:Nat)(q:RS)(w:MZ)(hk:Rds w b q)(hl:q.1.length<=1000000) :
  Calls Tryz.prog 146 #[.pointer (some ⟨b,0,none⟩)] w (RsE (qR (qE q).1) b (qE q).2 w):=by
 have T:=Bk.lt hk;have J:=vv q;obtain⟨W1,D⟩:=NX9 (w.alloc (.cells #[.string ⟨#[]⟩,.bool false,.int .u64 0,.int .u64 0] 185))
 have U:Hid (Bk W1 w.heap.size 185 #[.string ⟨#[]⟩,.bool false,.int .u64 0,.int .u64 0]):=by rw[<-D];exact Bk.new w _ _
 have K:Below w.heap.size w W1:=by rw[<-D];exact(af _ w).alloc ai _
 have am:W1.heap.size=w.heap.size+1:=by rw[<-D];simp
 have V:Hid (Gb (fun g=>g=b) w W1):=Gb.of_below K;have HS:=ah (lX b q W1 (Bk.below hk K T) hl);unfold qE;obtain⟨⟨t,q1⟩,h1⟩:∃x,qT q=x:=⟨_,rfl⟩
 rw[h1]at HS J ⊢;simp only at HS J ⊢;have L:=jP q1;obtain⟨⟨k,r2,b2⟩,h2⟩:∃x,qN q1=x:=⟨_,rfl⟩
 have H2:=ah h2;rw[h2]at L ⊢;simp only at L ⊢;obtain⟨B,hB⟩:=NX9 ((b2 || decide (1<k)))
 rw[hB];obtain⟨⟨⟨d1,d2⟩,q4⟩,h4⟩:∃x,qD (r2,B)=x:=⟨_,rfl⟩
 have H4:=ah h4;rw[h4];simp only;have H:q1.1.length<=1000000:=by omega
 have I:r2.length<=1000000:=by omega
 have W:=ah H;have M:=ah I;have X: (b2=true/\B=true)∨ (b2=false/\decide ((1:Int)< (k:Int))=true/\B=true)∨ (b2=false/\decide ((1:Int)< (k:Int))=false/\B=false):=by
  rw[<-hB];cases b2
  . by_cases h:1<k
    . have: (1:Int)< (k:Int):=by omega
      simp[h];omega
    . have:¬(1:Int)< (k:Int):=by omega
      simp[h];omega
  . simp
 clear hk hl K h1 h2 h4 J L H I hB
 go_enter Tryz.func146,Tryz.ntmps146
 go_wp2_with fail;refine HS.o.mono ?_;rintro e w2 ⟨rfl,Q,E⟩;have Y:=ah Q;have z2:=E.size;have Z:Hid (Gb (fun g=>g=b) w w2):=V.o.trans E;have ab:=ah (E.bk U.o (by show ¬w.heap.size=b;omega));clear Q E D HS;obtain⟨W3,s⟩:=NX9 (w2.alloc (.cells #[.string (ofL t),.bool false,.int .u64 0,.int .u64 0] 185))
 have ad:Hid (Bk W3 w2.heap.size 185 #[.string (ofL t),.bool false,.int .u64 0,.int .u64 0]):=by rw[<-s];exact Bk.new w2 _ _
 have F:Below w2.heap.size w2 W3:=by rw[<-s];exact(af _ w2).alloc ai _
 have an:W3.heap.size=w2.heap.size+1:=by rw[<-s];simp
 have ag:Hid (Gb (fun g=>g=b) w W3):=Z.o.trans (Gb.of_below F);have al:=ah (ab.o.below F (by omega));have HN:=ah (lW b q1 W3 (Bk.below Y.o F (by omega)) W.o);rw[H2.o]at HN;simp only at HN;have G:=ah s;clear F s;go_wp2_with fail;rw[G.o];refine HN.o.mono ?_;rintro e w4 ⟨rfl,o,r⟩;have z4:=r.size;have N:Hid (Gb (fun g=>g=b) w w4):=ag.o.trans r;have O:=ah (r.bk al.o (by show ¬w.heap.size=b;omega));have l:=ah (r.bk ad.o (by show ¬w2.heap.size=b;omega));have P:=ah o;have d:b≠w2.heap.size:=by omega
 have a:b≠w.heap.size:=by omega
 have ao: ((k:Int) == 1)=decide (k=1):=by
  rw[Bool.eq_iff_iff];simp;omega
 rcases X with ⟨rfl,rfl⟩ | ⟨rfl,hkz,rfl⟩ | ⟨rfl,hkz,rfl⟩
 . obtain⟨x0,x1,f0,f1⟩:=Bk.two o
   obtain⟨y0,y1,y2,y3⟩:=l.o.four;have g1:=l.o.free 1;obtain⟨W5,c⟩:=NX9 ((w4.setCell ⟨b,1,none⟩ (.bool true)).setCell ⟨w2.heap.size,1,none⟩ (.bool (decide (k=1))))
   have u:Hid (Rds W5 b (r2,true)):=by
    rw[<-c];have:=(P.o.set 1 (.bool true)).far (p:=⟨w2.heap.size,1,none⟩) d (.bool (decide (k=1)));show Bk _ _ _ _;simpa using this
   have v:Hid (Bk W5 w2.heap.size 185 #[.string (ofL t),.bool (decide (k=1)),.int .u64 0,.int .u64 0]):=by
    rw[<-c];have:=(l.o.far (p:=⟨b,1,none⟩) d.symm (.bool true)).set 1 (.bool (decide (k=1)));show Bk _ _ _ _;simpa using this
   have y:Hid (Bk W5 w.heap.size 185 #[.string ⟨#[]⟩,.bool false,.int .u64 0,.int .u64 0]):=by
    rw[<-c];exact(O.o.far (p:=⟨b,1,none⟩) a.symm _).far (p:=⟨w2.heap.size,1,none⟩) (by show w.heap.size≠w2.heap.size;omega) _
   have R:W5.heap.size=w4.heap.size:=by rw[<-c];simp[World.setCell]
   have z:Hid (Gb (fun g=>g=b) w W5):=by
    rw[<-c];exact(N.o.trans (Gb.set (p:=fun g=>g=b) (x:=b) rfl 1 _)).after (by omega) 1 _
   have HD:=ah (lS b (r2,true) W5 u.o M.o);rw[H4.o]at HD;simp only at HD;clear o r HN G;go_wp2_with fail;refine HD.o.mono ?_;rintro e w6 ⟨rfl,m,f⟩;have i:=ah (f.bk v.o (by show ¬w2.heap.size=b;omega));have j:=ah (f.bk y.o (by show ¬w.heap.size=b;omega));have A:=ah m;have C:Hid (Gb (fun g=>g=b) w w6):=z.o.trans f;clear x0 x1 f0 f1 y0 y1 y2 y3 g1 m f c HD;simp only[aB];obtain⟨y0,y1,y2,y3⟩:=i.o.four;have g2:=i.o.free 2;have g3:=i.o.free 3;obtain⟨z0,z1,S,z3⟩:=j.o.four;obtain⟨e0,e1,e2,e3⟩:=fr4 j.o;have n:w.heap.size≠w2.heap.size:=by omega
   go_wp2_with fail;refine ZY (oF Tryz.results146 rfl (pX ((j.o.far (p:=⟨w2.heap.size,2,none⟩) n _).far (p:=⟨w2.heap.size,3,none⟩) n _) _ _ _ _)) rfl ⟨rfl,?_,?_⟩
   . exact(((((A.o.far (p:=⟨w2.heap.size,2,none⟩) d _).far (p:=⟨w2.heap.size,3,none⟩) d _).far (p:=⟨w.heap.size,0,none⟩) a _).far (p:=⟨w.heap.size,1,none⟩) a _).far (p:=⟨w.heap.size,2,none⟩) a _).far (p:=⟨w.heap.size,3,none⟩) a _
   . exact(((((C.o.after (by omega) 2 _).after (by omega) 3 _).after ai 0 _).after ai 1 _).after ai 2 _).after ai 3 _
 . obtain⟨x0,x1,f0,f1⟩:=Bk.two o
   obtain⟨y0,y1,y2,y3⟩:=l.o.four;have g1:=l.o.free 1;obtain⟨W5,c⟩:=NX9 ((w4.setCell ⟨b,1,none⟩ (.bool true)).setCell ⟨w2.heap.size,1,none⟩ (.bool (decide (k=1))))
   have u:Hid (Rds W5 b (r2,true)):=by
    rw[<-c];have:=(P.o.set 1 (.bool true)).far (p:=⟨w2.heap.size,1,none⟩) d (.bool (decide (k=1)));show Bk _ _ _ _;simpa using this
   have v:Hid (Bk W5 w2.heap.size 185 #[.string (ofL t),.bool (decide (k=1)),.int .u64 0,.int .u64 0]):=by
    rw[<-c];have:=(l.o.far (p:=⟨b,1,none⟩) d.symm (.bool true)).set 1 (.bool (decide (k=1)));show Bk _ _ _ _;simpa using this
   have y:Hid (Bk W5 w.heap.size 185 #[.string ⟨#[]⟩,.bool false,.int .u64 0,.int .u64 0]):=by
    rw[<-c];exact(O.o.far (p:=⟨b,1,none⟩) a.symm _).far (p:=⟨w2.heap.size,1,none⟩) (by show w.heap.size≠w2.heap.size;omega) _
   have R:W5.heap.size=w4.heap.size:=by rw[<-c];simp[World.setCell]
   have z:Hid (Gb (fun g=>g=b) w W5):=by
    rw[<-c];exact(N.o.trans (Gb.set (p:=fun g=>g=b) (x:=b) rfl 1 _)).after (by omega) 1 _
   have HD:=ah (lS b (r2,true) W5 u.o M.o);rw[H4.o]at HD;simp only at HD;clear o r HN G;go_wp2_with fail;refine HD.o.mono ?_;rintro e w6 ⟨rfl,m,f⟩;have i:=ah (f.bk v.o (by show ¬w2.heap.size=b;omega));have j:=ah (f.bk y.o (by show ¬w.heap.size=b;omega));have A:=ah m;have C:Hid (Gb (fun g=>g=b) w w6):=z.o.trans f;clear x0 x1 f0 f1 y0 y1 y2 y3 g1 m f c HD;simp only[aB];obtain⟨y0,y1,y2,y3⟩:=i.o.four;have g2:=i.o.free 2;have g3:=i.o.free 3;obtain⟨z0,z1,S,z3⟩:=j.o.four;obtain⟨e0,e1,e2,e3⟩:=fr4 j.o;have n:w.heap.size≠w2.heap.size:=by omega
   go_wp2_with fail;refine ZY (oF Tryz.results146 rfl (pX ((j.o.far (p:=⟨w2.heap.size,2,none⟩) n _).far (p:=⟨w2.heap.size,3,none⟩) n _) _ _ _ _)) rfl ⟨rfl,?_,?_⟩
   . exact(((((A.o.far (p:=⟨w2.heap.size,2,none⟩) d _).far (p:=⟨w2.heap.size,3,none⟩) d _).far (p:=⟨w.heap.size,0,none⟩) a _).far (p:=⟨w.heap.size,1,none⟩) a _).far (p:=⟨w.heap.size,2,none⟩) a _).far (p:=⟨w.heap.size,3,none⟩) a _
   . exact(((((C.o.after (by omega) 2 _).after (by omega) 3 _).after ai 0 _).after ai 1 _).after ai 2 _).after ai 3 _
 . obtain⟨x0,x1,f0,f1⟩:=Bk.two o
   obtain⟨y0,y1,y2,y3⟩:=l.o.four;have g1:=l.o.free 1;obtain⟨W5,c⟩:=NX9 ((w4.setCell ⟨b,1,none⟩ (.bool false)).setCell ⟨w2.heap.size,1,none⟩ (.bool (decide (k=1))))
   have u:Hid (Rds W5 b (r2,false)):=by
    rw[<-c];have:=(P.o.set 1 (.bool false)).far (p:=⟨w2.heap.size,1,none⟩) d (.bool (decide (k=1)));show Bk _ _ _ _;simpa using this
   have v:Hid (Bk W5 w2.heap.size 185 #[.string (ofL t),.bool (decide (k=1)),.int .u64 0,.int .u64 0]):=by
    rw[<-c];have:=(l.o.far (p:=⟨b,1,none⟩) d.symm (.bool false)).set 1 (.bool (decide (k=1)));show Bk _ _ _ _;simpa using this
   have y:Hid (Bk W5 w.heap.size 185 #[.string ⟨#[]⟩,.bool false,.int .u64 0,.int .u64 0]):=by
    rw[<-c];exact(O.o.far (p:=⟨b,1,none⟩) a.symm _).far (p:=⟨w2.heap.size,1,none⟩) (by show w.heap.size≠w2.heap.size;omega) _
   have R:W5.heap.size=w4.heap.size:=by rw[<-c];simp[World.setCell]
   have z:Hid (Gb (fun g=>g=b) w W5):=by
    rw[<-c];exact(N.o.trans (Gb.set (p:=fun g=>g=b) (x:=b) rfl 1 _)).after (by omega) 1 _
   have HD:=ah (lS b (r2,false) W5 u.o M.o);rw[H4.o]at HD;simp only at HD;clear o r HN G;go_wp2_with fail;refine HD.o.mono ?_;rintro e w6 ⟨rfl,m,f⟩;have i:=ah (f.bk v.o (by show ¬w2.heap.size=b;omega));have j:=ah (f.bk y.o (by show ¬w.heap.size=b;omega));have A:=ah m;have C:Hid (Gb (fun g=>g=b) w w6):=z.o.trans f;clear x0 x1 f0 f1 y0 y1 y2 y3 g1 m f c HD;simp only[aB];obtain⟨y0,y1,y2,y3⟩:=i.o.four;have g2:=i.o.free 2;have g3:=i.o.free 3;obtain⟨z0,z1,S,z3⟩:=j.o.four;obtain⟨e0,e1,e2,e3⟩:=fr4 j.o;have n:w.heap.size≠w2.heap.size:=by omega
   go_wp2_with fail;refine ZY (oF Tryz.results146 rfl (pX ((j.o.far (p:=⟨w2.heap.size,2,none⟩) n _).far (p:=⟨w2.heap.size,3,none⟩) n _) _ _ _ _)) rfl ⟨rfl,?_,?_⟩
   . exact(((((A.o.far (p:=⟨w2.heap.size,2,none⟩) d _).far (p:=⟨w2.heap.size,3,none⟩) d _).far (p:=⟨w.heap.size,0,none⟩) a _).far (p:=⟨w.heap.size,1,none⟩) a _).far (p:=⟨w.heap.size,2,none⟩) a _).far (p:=⟨w.heap.size,3,none⟩) a _
   . exact(((((C.o.after (by omega) 2 _).after (by omega) 3 _).after ai 0 _).after ai 1 _).after ai 2 _).after ai 3 _
def QlE(t:TypeId)(sz:Nat)(xs:List M4)(n b:Nat)(s:RS)(w:MZ)(e:Ending)(w':MZ):Prop :=
 ∃A c,e= .returned (.slice A n c)/\n<=c/\c<=maxLen/\Apd w' w.heap.size t sz A n c xs/\Rds w' b s/\Gb (fun g=>g=b) w w'
theorem Ck{α:Type}{g:RS->α×RS}{n:Nat}{s:RS}(h:n=0∨s.2=true):qL g n s= ([],s):=by
 cases n with
 | zero=>rfl
 | succ n =>
   rcases h with h | h
   . cases h
   . rw[qL,if_pos h]
theorem CV{α:Type}{g:RS->α×RS}{n:Nat}{s:RS}{L:List α}{S:RS}{pre:List α}(h: (pre++ (qL g (n+1) s).1,(qL g (n+1) s).2)= (L,S))(hb:s.2=false): (pre++ [(g s).1]++ (qL g n (g s).2).1,(qL g n (g s).2).2)= (L,S):=by
 rw[<-h];have e:qL g (n+1) s= ((g s).1:: (qL g n (g s).2).1,(qL g n (g s).2).2):=by rw[qL,if_neg (by rw[hb];simp)]
 rw[e,Z4];rfl
theorem F8(b:Nat)(q:RS)(w:MZ)(hk:Rds w b q)(hl:q.1.length<=1000000) :
  Calls Tryz.prog 145 #[.pointer (some ⟨b,0,none⟩),.int .i64 200,.func (.func 146) #[.pointer (some ⟨b,0,none⟩)] #[]] w (QlE 185 4 (flat enC (qLs qE 200 q).1) (qLs qE 200 q).1.length b (qLs qE 200 q).2 w):=by
 have A:=Bk.lt hk;have HN:=ah (lW b q w hk hl);have k:=jP q;unfold qLs;obtain⟨⟨n,r,bd⟩,hq⟩:∃x,qN q=x:=⟨_,rfl⟩
 rw[hq]at HN k ⊢;simp only at HN k ⊢;have C:r.length<=1000000:=by omega
 obtain⟨B,hB⟩:=NX9 ((bd || decide (200<n)))
 rw[hB];obtain⟨⟨L,S⟩,m⟩:∃x,qL qE n (r,B)=x:=⟨_,rfl⟩
 have ad:=ah m;rw[m];simp only;have ag:Hid (n<=200∨B=true):=by
  show _∨_;rw[<-hB];by_cases h:200<n
  . right;simp[h]
  . left;omega
 have al: (bd=true/\B=true)∨ (bd=false/\decide ((200:Int)< (n:Int))=true/\B=true)∨ (bd=false/\decide ((200:Int)< (n:Int))=false/\B=false):=by
  rw[<-hB];cases bd
  . by_cases h:200<n
    . have: (200:Int)< (n:Int):=by omega
      simp[h];omega
    . have:¬(200:Int)< (n:Int):=by omega
      simp[h];omega
  . simp
 have am:=ah C;obtain⟨i0,hi,D,E,F⟩:=info_parts u7;have Hi:=ah hi;have an:=ah D;have ao:=ah E;have ap:=ah F;clear hk hl k C hi D E F hq m hB
 go_enter Tryz.func145,Tryz.ntmps145
 go_wp2_with fail;refine HN.o.mono ?_;rintro e w1 ⟨rfl,o,t⟩;have aq:=ah o;obtain⟨x0,x1,f0,f1⟩:=Bk.two o;have z1:=t.size;obtain⟨W2,d⟩:=NX9 (w1.setCell ⟨b,1,none⟩ (.bool B))
 have ar:Hid (Rds W2 b (r,B)):=by
  rw[<-d];have:=aq.o.set 1 (.bool B);show Bk _ _ _ _;simpa using this
 have au:Hid (Gb (fun g=>g=b) w W2):=by rw[<-d];exact t.trans (Gb.set (p:=fun g=>g=b) (x:=b) rfl 1 _)
 clear o t HN;have a:∀B',B=B'->w1.setCell ⟨b,1,none⟩ (.bool B')=W2:=fun B' h=>by rw[<-h];exact d
 rcases al with ⟨rfl,c⟩ | ⟨rfl,hmz,c⟩ | ⟨rfl,hmz,c⟩
 all_goals
  have G:=a _ c;have bk:=ah c;clear c a d;go_wp2_with fail;clear G x0 x1 f0 f1
  go_loopw[8,9] (fun l i wr=>∃(j:Nat)(Aj:OA)(cj:Nat)(pre:List Ent)(st:RS),l= .slice Aj j cj/\i= .int .i64 (j:Int)/\j<=n/\j<=cj/\cj<=maxLen/\Hid (pre.length=j)/\Hid ((pre++ (qL qE (n - j) st).1,(qL qE (n - j) st).2)= (L,S))/\Hid (n<=200∨st.2=true)/\Hid (st.1.length<=1000000)/\Hid (Apd wr w.heap.size 185 4 Aj j cj (flat enC pre))/\Hid (Rds wr b st)/\Hid (Gb (fun g=>g=b) w wr)) (fun _ i _=>n - (intOf i).toNat)
  case atStart=>exact⟨0,none,0,[],(r,B),rfl,rfl,ZZ _,Nat.le_refl _,ZZ _,rfl,by show _=_;rw[Nat.sub_zero,ad.o];rfl,ag.o,am.o,.inr ⟨rfl,rfl,rfl⟩,ar.o,au.o⟩
  case round =>
   obtain⟨j,Aj,cj,pre,st,rfl,rfl,hj,H,I,J,K,M,N,hA,hR,hG⟩:=hrel;have u:=ah J.o;have O:=ah K.o;have P:=ah M.o;have Q:=ah N.o;obtain⟨sr,sb⟩:=st;have R:Bk wr b _ _:=hR.o;obtain⟨x0,x1,_,_⟩:=Bk.two R;have zr:=hG.o.size;simp only at x0 x1;clear J K M N R;by_cases hend:n - j=0∨sb=true
   . have HE:=ah (Ck (g:=qE) (n:=n - j) (s:=(sr,sb)) hend)
     have HQ:Hid ((pre,(sr,sb))= (L,S)):=by show _=_;have h:=O.o;rw[HE.o]at h;simpa using h
     have T:Hid (pre=L):=congrArg Prod.fst HQ.o;have U:Hid ((sr,sb)=S):=congrArg Prod.snd HQ.o;rcases hend with h0 | rfl
     . have V:¬(j:Int)< (n:Int):=by omega
       go_wp2_with fail;go_ret
       rw[<-T.o,<-U.o,u.o];exact⟨Aj,cj,rfl,H,I,hA.o,hR.o,hG.o⟩
     . by_cases V: (j:Int)< (n:Int)
       all_goals
        go_wp2_with fail;go_ret
        rw[<-T.o,<-U.o,u.o];exact⟨Aj,cj,rfl,H,I,hA.o,hR.o,hG.o⟩
   . have av:j<n:=by omega
     have aw:sb=false:=by cases sb <;> simp_all
     subst aw;have V: (j:Int)< (n:Int):=by omega
     have aD:n<=200:=by have h:=P.o;simpa using h
     have HC:=ah (FZ b (sr,false) wr hR.o Q.o);have v:=ah (LP (sr,false));have y:Hid ((pre++ [(qE (sr,false)).1]++ (qL qE (n - (j+1)) (qE (sr,false)).2).1,(qL qE (n - (j+1)) (qE (sr,false)).2).2)= (L,S)):=by
      have h:=O.o;rw[show n - j=n - (j+1)+1 by omega]at h;exact CV h rfl
     obtain⟨⟨en,s4⟩,W⟩:∃x,qE (sr,false)=x:=⟨_,rfl⟩
     rw[W]at HC v y;simp only at HC v y;clear hend W
     go_wp2_with (first | (go_at_call 146;refine HC.o.mono ?_;rintro e w3 ⟨rfl,X,f⟩;simp only[qR]) | (at_builtin;refine pq (.tmp 36) (.tmp 39) 107 rfl ?_))
     refine aF ?_;have z3:=f.size;refine dB (base:=w.heap.size) (size:=4) _ rfl (.tmp 36) (.tmp 39) 107 rfl 185 i0 _ 40 Tryz.underlying107 Hi.o an.o ao.o ap.o rfl (by decide) Aj j cj (flat enC pre) rfl ?own_1 (w3.heap.size+1) _ 1 _ (enC en) rfl ?nw_1 (by simp[enC,Value.oneCell']) ?m1_1 ?m2_1 ?m3_1 ?_
     case own_1=>exact(hA.o.gb f A).below ((af _ w3).alloc ai _)
     case nw_1 =>
      have:=Sl.of_bk (n:=1) (size:=4) (Bk.new w3 185 #[.string en.nm,.bool en.dir,.int .u64 en.dg.1,.int .u64 en.dg.2]) rfl;rw[Z9]at this;exact this
     case m1_1=>unfold maxLen;omega
     case m2_1=>omega
     case m3_1=>simp;omega
     intro A4 c4 w4 Y Z aE ba ab;have bb:Hid (Apd w4 w.heap.size 185 4 A4 (j+1) c4 (flat enC (pre++ [en]))):=by
      show Apd _ _ _ _ _ _ _ _;rw[bu]
      simpa [flat] using Y
     have z:Below w.heap.size w3 w4:=((af w.heap.size w3).alloc (by omega) _).trans Z;have bf:Hid (Gb (fun g=>g=b) w w4):=(hG.o.trans f).onto z;have bg:Hid (Rds w4 b s4):=Bk.below X z A;have bh:Hid ((pre++ [en]).length=j+1):=by show _=_;rw[ae,u.o];rfl
     have bi:Hid (s4.1.length<=1000000):=Z0 v.o Q.o;have bj:Hid (n<=200∨s4.2=true):= .inl aD;clear Y Z ab X f z HC x0 x1;go_wp2_with fail;go_roundw
     case rel=>exact⟨j+1,A4,c4,pre++ [en],s4,rfl,by go_num,av,aE,ba,bh.o,y.o,bj.o,bi.o,bb.o,bg.o,bf.o⟩
     case measure=>simp[intOf];omega
theorem Fx(b:Nat)(q:RS)(w:MZ)(hk:Rds w b q)(hl:q.1.length<=1000000) :
  Calls Tryz.prog 148 #[.pointer (some ⟨b,0,none⟩),.int .i64 8,.func (.func 147) #[.pointer (some ⟨b,0,none⟩)] #[]] w (QlE 50 2 (flat dgC (qLs qD 8 q).1) (qLs qD 8 q).1.length b (qLs qD 8 q).2 w):=by
 have A:=Bk.lt hk;have HN:=ah (lW b q w hk hl);have k:=jP q;unfold qLs;obtain⟨⟨n,r,bd⟩,hq⟩:∃x,qN q=x:=⟨_,rfl⟩
 rw[hq]at HN k ⊢;simp only at HN k ⊢;have C:r.length<=1000000:=by omega
 obtain⟨B,hB⟩:=NX9 ((bd || decide (8<n)))
 rw[hB];obtain⟨⟨L,S⟩,m⟩:∃x,qL qD n (r,B)=x:=⟨_,rfl⟩
 have ad:=ah m;rw[m];simp only;have ag:Hid (n<=8∨B=true):=by
  show _∨_;rw[<-hB];by_cases h:8<n
  . right;simp[h]
  . left;omega
 have al: (bd=true/\B=true)∨ (bd=false/\decide ((8:Int)< (n:Int))=true/\B=true)∨ (bd=false/\decide ((8:Int)< (n:Int))=false/\B=false):=by
  rw[<-hB];cases bd
  . by_cases h:8<n
    . have: (8:Int)< (n:Int):=by omega
      simp[h];omega
    . have:¬(8:Int)< (n:Int):=by omega
      simp[h];omega
  . simp
 have am:=ah C;obtain⟨i0,hi,D,E,F⟩:=info_parts jw;have Hi:=ah hi;have an:=ah D;have ao:=ah E;have ap:=ah F;clear hk hl k C hi D E F hq m hB
 go_enter Tryz.func148,Tryz.ntmps148
 go_wp2_with fail;refine HN.o.mono ?_;rintro e w1 ⟨rfl,o,t⟩;have aq:=ah o;obtain⟨x0,x1,f0,f1⟩:=Bk.two o;have z1:=t.size;obtain⟨W2,d⟩:=NX9 (w1.setCell ⟨b,1,none⟩ (.bool B))
 have ar:Hid (Rds W2 b (r,B)):=by
  rw[<-d];have:=aq.o.set 1 (.bool B);show Bk _ _ _ _;simpa using this
 have au:Hid (Gb (fun g=>g=b) w W2):=by rw[<-d];exact t.trans (Gb.set (p:=fun g=>g=b) (x:=b) rfl 1 _)
 clear o t HN;have a:∀B',B=B'->w1.setCell ⟨b,1,none⟩ (.bool B')=W2:=fun B' h=>by rw[<-h];exact d
 rcases al with ⟨rfl,c⟩ | ⟨rfl,hmz,c⟩ | ⟨rfl,hmz,c⟩
 all_goals
  have G:=a _ c;have bk:=ah c;clear c a d;go_wp2_with fail;clear G x0 x1 f0 f1
  go_loopw[8,9] (fun l i wr=>∃(j:Nat)(Aj:OA)(cj:Nat)(pre:List Dig)(st:RS),l= .slice Aj j cj/\i= .int .i64 (j:Int)/\j<=n/\j<=cj/\cj<=maxLen/\Hid (pre.length=j)/\Hid ((pre++ (qL qD (n - j) st).1,(qL qD (n - j) st).2)= (L,S))/\Hid (n<=8∨st.2=true)/\Hid (st.1.length<=1000000)/\Hid (Apd wr w.heap.size 50 2 Aj j cj (flat dgC pre))/\Hid (Rds wr b st)/\Hid (Gb (fun g=>g=b) w wr)) (fun _ i _=>n - (intOf i).toNat)
  case atStart=>exact⟨0,none,0,[],(r,B),rfl,rfl,ZZ _,Nat.le_refl _,ZZ _,rfl,by show _=_;rw[Nat.sub_zero,ad.o];rfl,ag.o,am.o,.inr ⟨rfl,rfl,rfl⟩,ar.o,au.o⟩
  case round =>
   obtain⟨j,Aj,cj,pre,st,rfl,rfl,hj,H,I,J,K,M,N,hA,hR,hG⟩:=hrel;have u:=ah J.o;have O:=ah K.o;have P:=ah M.o;have Q:=ah N.o;obtain⟨sr,sb⟩:=st;have R:Bk wr b _ _:=hR.o;obtain⟨x0,x1,_,_⟩:=Bk.two R;have zr:=hG.o.size;simp only at x0 x1;clear J K M N R;by_cases hend:n - j=0∨sb=true
   . have HE:=ah (Ck (g:=qD) (n:=n - j) (s:=(sr,sb)) hend)
     have HQ:Hid ((pre,(sr,sb))= (L,S)):=by show _=_;have h:=O.o;rw[HE.o]at h;simpa using h
     have T:Hid (pre=L):=congrArg Prod.fst HQ.o;have U:Hid ((sr,sb)=S):=congrArg Prod.snd HQ.o;rcases hend with h0 | rfl
     . have V:¬(j:Int)< (n:Int):=by omega
       go_wp2_with fail;go_ret
       rw[<-T.o,<-U.o,u.o];exact⟨Aj,cj,rfl,H,I,hA.o,hR.o,hG.o⟩
     . by_cases V: (j:Int)< (n:Int)
       all_goals
        go_wp2_with fail;go_ret
        rw[<-T.o,<-U.o,u.o];exact⟨Aj,cj,rfl,H,I,hA.o,hR.o,hG.o⟩
   . have av:j<n:=by omega
     have aw:sb=false:=by cases sb <;> simp_all
     subst aw;have V: (j:Int)< (n:Int):=by omega
     have aD:n<=8:=by have h:=P.o;simpa using h
     have HC:=ah (lS b (sr,false) wr hR.o Q.o);have v:=ah (qj (sr,false));have y:Hid ((pre++ [(qD (sr,false)).1]++ (qL qD (n - (j+1)) (qD (sr,false)).2).1,(qL qD (n - (j+1)) (qD (sr,false)).2).2)= (L,S)):=by
      have h:=O.o;rw[show n - j=n - (j+1)+1 by omega]at h;exact CV h rfl
     obtain⟨⟨en,s4⟩,W⟩:∃x,qD (sr,false)=x:=⟨_,rfl⟩
     rw[W]at HC v y;simp only at HC v y;clear hend W
     go_wp2_with (first | (go_at_call 147;refine HC.o.mono ?_;rintro e w3 ⟨rfl,X,f⟩;simp only[aB]) | (at_builtin;refine pq (.tmp 36) (.tmp 39) 47 rfl ?_))
     refine aF ?_;have z3:=f.size;refine dB (base:=w.heap.size) (size:=2) _ rfl (.tmp 36) (.tmp 39) 47 rfl 50 i0 _ 16 Tryz.underlying47 Hi.o an.o ao.o ap.o rfl (by decide) Aj j cj (flat dgC pre) rfl ?own_1 (w3.heap.size+1) _ 1 _ (dgC en) rfl ?nw_1 (by simp[dgC,Value.oneCell']) ?m1_1 ?m2_1 ?m3_1 ?_
     case own_1=>exact(hA.o.gb f A).below ((af _ w3).alloc ai _)
     case nw_1 =>
      have:=Sl.of_bk (n:=1) (size:=2) (Bk.new w3 50 #[.int .u64 en.1,.int .u64 en.2]) rfl;rw[Z9]at this;exact this
     case m1_1=>unfold maxLen;omega
     case m2_1=>omega
     case m3_1=>simp;omega
     intro A4 c4 w4 Y Z aE ba ab;have bb:Hid (Apd w4 w.heap.size 50 2 A4 (j+1) c4 (flat dgC (pre++ [en]))):=by
      show Apd _ _ _ _ _ _ _ _;rw[bu]
      simpa [flat] using Y
     have z:Below w.heap.size w3 w4:=((af w.heap.size w3).alloc (by omega) _).trans Z;have bf:Hid (Gb (fun g=>g=b) w w4):=(hG.o.trans f).onto z;have bg:Hid (Rds w4 b s4):=Bk.below X z A;have bh:Hid ((pre++ [en]).length=j+1):=by show _=_;rw[ae,u.o];rfl
     have bi:Hid (s4.1.length<=1000000):=Z0 v.o Q.o;have bj:Hid (n<=8∨s4.2=true):= .inl aD;clear Y Z ab X f z HC x0 x1;go_wp2_with fail;go_roundw
     case rel=>exact⟨j+1,A4,c4,pre++ [en],s4,rfl,by go_num,av,aE,ba,bh.o,y.o,bj.o,bi.o,bb.o,bg.o,bf.o⟩
     case measure=>simp[intOf];omega
theorem D9(A:OA)(n c B:Nat)(l:List Ent)(w:MZ)(h0:Sl w B 4 A n (flat enC l))(hB:B<=w.heap.size)(hwf:∀e∈l,WfD e.dg)(hs:∀e∈l,e.nm.size<=65536)(hn2:n<=200) :
  Calls Tryz.prog 264 #[.slice A n c] w fun e w'=>(∃x:Int,e= .returned (.int .i64 x)/\ (x=0->jU l))/\Below w.heap.size w w':=by
 have HL:=ah (h0.len p9 (by omega));have H0:=ah h0;have J:=ah hwf;have K:=ah hs;clear h0 hwf hs;have X:¬(200:Int)< (n:Int):=by omega
 go_enter Tryz.func264,Tryz.ntmps264
 go_wp2_with fail
 go_loopw[10] (fun i wr=>∃k:Nat,i= .int .i64 (k:Int)/\k<=n/\Hid (Below w.heap.size w wr)/\Hid (∀j e,j<k->l[j]? =some e->gU e)/\Hid (∀(j:Nat) a b,j+1<k->l[j]? =some a->l[j+1]? =some b->less a.nm b.nm=true)) (fun i _=>n - (intOf i).toNat)
 case atStart=>exact⟨0,rfl,ZZ _,af _ _,fun j e h=>absurd h (by omega),fun j a b h=>absurd h (by omega)⟩
 case round =>
  obtain⟨k,rfl,hk,q,C,D⟩:=hrel;have t:=ah C.o;have u:=ah D.o;clear C D;have L:=q.o.size;by_cases hlt:k<n
  . have M: (k:Int)< (n:Int):=by omega
    obtain⟨bb,N,en,rfl,Y,he,y0,y1,y2,y3⟩:=(H0.o.below q.o hB).en hlt;have HE:=ah he;have E:=ah (J.o en (Z7 he));have O:=K.o en (Z7 he);obtain⟨wb,d⟩:=NX9 (wr.alloc (.cells #[.string en.nm,.bool en.dir,.int .u64 en.dg.1,.int .u64 en.dg.2] 185))
    have P:Hid (Below wr.heap.size wr wb):=by rw[<-d];exact(af _ wr).alloc ai _
    have g:Hid (Bk wb wr.heap.size 185 #[.string en.nm,.bool en.dir,.int .u64 en.dg.1,.int .u64 en.dg.2]):=by rw[<-d];exact Bk.new wr _ _
    have r:Hid (Below w.heap.size w wb):=q.o.trans (P.o.mono L);have Z:wb.heap.size=wr.heap.size+1:=by rw[<-d];simp
    have F:Hid (∀j,k=j+1->∃p,Hid (∃pe:Ent,l[j]? =some pe/\pe.nm=p)/\wb.cell? ⟨bb,N+j*4,none⟩=some (.string p)):=by
     intro j hj;obtain⟨ab,W,p,s,_,hp,z0,_⟩:=(H0.o.below r.o hB).en (k:=j) (by omega);cases s
     exact⟨p.nm,⟨p,hp,rfl⟩,z0⟩
    have x0:=g.o.cell 0;have x2:=g.o.cell 2;have x3:=g.o.cell 3;simp at x0 x2 x3;have y:=x0;rw[<-d]at y;have z:=ah d;clear d he;obtain⟨nm,dir,d1,d2⟩:=en;simp only at O y0 y1 y2 y3 x0 x2 x3 y z g F E;by_cases hnm:bI nm=true
    case neg =>
     have Q:bI nm=false:=by simpa using hnm
     clear hnm
     go_wp2_with (first | (go_at_call 195;refine(iC nm _ (by unfold maxLen;omega)).mono ?_;rintro e w1 ⟨rfl,rfl⟩;rw[Q]))
     try rw[z.o]
     go_ret
     exact⟨⟨_,rfl,fun h=>by simp at h⟩,r.o⟩
    have R:=ah hnm
    go_upto_region 8 with (first | (go_at_call 195;refine(iC nm _ (by unfold maxLen;omega)).mono ?_;rintro e w1 ⟨rfl,rfl⟩;rw[hnm]))
    rw[z.o];clear y
    go_cut[20] from 21 to 33 (fun f wx=>∃v:Bool,f= .bool v/\Hid (v=false->∀j pe,k=j+1->l[j]? =some pe->less pe.nm nm=true)/\Hid (Below wb.heap.size wb wx))
    case first =>
     cases k with
     | zero =>
       go_quiet(fail)
       simp only[Exit.then]
       go_step
       go_meet
       exact⟨false,rfl,fun _ j pe h=>by omega,bN (af _ _) _⟩
     | succ j =>
       obtain⟨p,HP,z0⟩:=F.o j rfl;have ad: (0:Int)< ((j+1:Nat):Int):=by omega
       have ag:IntKind.i64.wrap (((j+1:Nat):Int) - 1)= (j:Int):=by rw[pK (by omega) (by omega)];omega
       have al:¬(j:Int)<0:=by omega
       have am: (j:Int)< (n:Int):=by omega
       have m:Hid (∀v:Bool,(v=false->less p nm=true)-> (v=false->∀j' pe,j+1=j'+1->l[j']? =some pe->less pe.nm nm=true)):=fun v hv h j' pe hj' s=>by
        have:j=j':=by omega
        subst this;obtain⟨an,h1,rfl⟩:=HP.o;rw[h1]at s;cases s;exact hv h
       cases hb1:Op.bytesLess nm.toList p.toList with
       | true =>
         go_quiet(fail)
         simp only[Exit.then]
         go_step
         go_meet
         exact⟨true,rfl,m.o true (fun h=>by cases h),bN (af _ _) _⟩
       | false =>
         cases hb2: (nm.toList == p.toList) with
         | true =>
           go_quiet(fail)
           simp only[Exit.then]
           go_step
           go_meet
           exact⟨true,rfl,m.o true (fun h=>by cases h),bN (af _ _) _⟩
         | false =>
           have S:Hid (less p nm=true):=by
            show _=_;rw[uj]at hb1;cases hx:less p nm with
            | true=>rfl
            | false=>have:=ou hb1 hx;rw[this,Ls]at hb2;cases hb2
           go_quiet(fail)
           simp only[Exit.then]
           go_step
           go_meet
           exact⟨false,rfl,m.o false (fun _=>S.o),bN (af _ _) _⟩
    case rest =>
     obtain⟨v,rfl,G,H⟩:=hcut;have T:=ah G.o;have o:Hid (Below w.heap.size w wc):=r.o.trans (H.o.mono r.o.size);have I:=ah (g.o.below H.o g.o.lt);clear x0 x2 x3 y0 y1 y2 y3 G hnm;have x2:=I.o.cell 2;have x3:=I.o.cell 3;simp at x2 x3;cases v with
     | true =>
       go_wp2_with fail;go_ret
       exact⟨⟨_,rfl,fun h=>by simp at h⟩,o.o⟩
     | false =>
       by_cases hz: ((d1,d2):Dig)=zD
       . have e1:d1=0:=congrArg Prod.fst hz
         have e2:d2=0:=congrArg Prod.snd hz;subst e1 e2;clear hz;go_wp2_with fail;go_ret
         exact⟨⟨_,rfl,fun h=>by simp at h⟩,o.o⟩
       . have U:=jM hz
         simp only at U;have V:Hid (gU ⟨nm,dir,(d1,d2)⟩):=⟨R.o,E.o,hz⟩
         clear hz;go_wp2_with fail;go_roundw
         case rel =>
          refine⟨k+1,by go_num,hlt,o.o,fun j e hj hje=>?_,fun j a b hj hja hjb=>?_⟩
          . rcases Nat.lt_or_ge j k with h | h
            . exact t.o j e h hje
            . have:j=k:=by omega
              subst this;rw[HE.o]at hje;cases hje;exact V.o
          . rcases Nat.lt_or_ge (j+1) k with h | h
            . exact u.o j a b h hja hjb
            . have:k=j+1:=by omega
              rw[this]at HE;rw[HE.o]at hjb;cases hjb;exact T.o rfl j a this hja
         case measure=>simp[intOf];omega
  . have M:¬(k:Int)< (n:Int):=by omega
    go_wp2_with fail;go_ret
    refine⟨⟨_,rfl,fun _=>⟨by rw[HL.o];omega,fun e he=>?_,fun j a b ha hb=>?_⟩⟩,q.o⟩
    . obtain⟨j,hj⟩:=List.mem_iff_getElem?.1 he
      exact t.o j e (by have:=(List.getElem?_eq_some_iff.1 hj).1;rw[HL.o]at this;omega) hj
    . exact u.o j a b (by have:=(List.getElem?_eq_some_iff.1 hb).1;rw[HL.o]at this;omega) ha hb
theorem El(o:Ob)(s:Osl)(B:Nat)(w:MZ)(hm:ObM w B o s)(hB:B<=w.heap.size)(hwt:WfD o.tree)(hwp:∀d∈o.pars,WfD d)(hn8:o.pars.length<=8)(has:o.auth.size<=65536)(hmz:o.msg.size<=65536) :
  Calls Tryz.prog 265 #[obV o s] w fun e w'=>(∃x:Int,e= .returned (.int .i64 x)/\ (x=0->OkC o))/\Below w.heap.size w w':=by
 have HL:=ah hm.plen;have HP:=ah hm.p;have hn:s.pn<=8:=by rw[HL.o]at hn8;exact hn8
 have ab:=hm.ple;have ad:=hm.pmx;have K:=ah hwt;have L:=ah hwp;have M:=ah hn8;obtain⟨t,data,E,⟨t1,t2⟩,pars,auth,l,msg⟩:=o;obtain⟨eA,en,ec,pA,n,pc⟩:=s;simp only at HL HP hn ab ad K L M has hmz;have F:Hid (((t1,t2):Dig)≠zD-> (∀d∈pars,d≠zD)->pars.Nodup->bI auth=true->0<=l->l<=1099511627776->msg.size<=200->OkC ⟨t,data,E,(t1,t2),pars,auth,l,msg⟩):=fun a b c d e f g=>⟨K.o,a,⟨M.o,L.o,b,c⟩,d,e,f,g⟩
 obtain⟨P,hP⟩:∃P:Prop,OkC ⟨t,data,E,(t1,t2),pars,auth,l,msg⟩=P:=⟨_,rfl⟩
 rw[hP]at F ⊢;simp only[obV,obC];have bf:n<=9223372036854775807:=by omega
 have bg:¬(8:Int)< (n:Int):=by omega
 obtain⟨W0,hW⟩:=NX9 (w.alloc (.cells #[.int .i64 t,.string data,.slice eA en ec,.int .u64 t1,.int .u64 t2,.slice pA n pc,.string auth,.int .i64 l,.string msg] 109))
 have r:Hid (Below w.heap.size w W0):=by rw[<-hW];exact(af _ w).alloc ai _
 have HK:Hid (Bk W0 w.heap.size 109 #[.int .i64 t,.string data,.slice eA en ec,.int .u64 t1,.int .u64 t2,.slice pA n pc,.string auth,.int .i64 l,.string msg]):=by rw[<-hW];exact Bk.new w _ _
 have zk:w.heap.size<W0.heap.size:=HK.o.lt;obtain⟨c0,c1,c2,c3,c4,c5,c6,c7,c8⟩:=HK.o.nine;clear hm hwt hwp hn8 hP;by_cases htz0: ((t1,t2):Dig)=zD
 . have e1:t1=0:=congrArg Prod.fst htz0
   have e2:t2=0:=congrArg Prod.snd htz0;subst e1 e2;clear htz0
   go_enter Tryz.func265,Tryz.ntmps265
   go_wp2_with fail;go_ret
   exact⟨⟨_,rfl,fun h=>by simp at h⟩,r.o⟩
 have ag:=ah htz0;have al:=jM htz0;simp only at al;clear htz0
 go_enter Tryz.func265,Tryz.ntmps265
 go_wp2_with fail;clear hW
 go_loopw[16] (fun i wr=>∃k:Nat,i= .int .i64 (k:Int)/\k<=n/\Hid (Below W0.heap.size W0 wr)/\Hid (∀d∈pars.take k,d≠zD)/\Hid ((pars.take k).Nodup)) (fun i _=>n - (intOf i).toNat)
 case atStart=>exact⟨0,rfl,ZZ _,af _ _,fun d hd=>by simp at hd,List.nodup_nil⟩
 case round =>
  obtain⟨k,rfl,hk,y,N,O⟩:=hrel;have G:=ah N.o;have H:=ah O.o;clear N O;have I:=y.o.size;have C:Hid (Below w.heap.size w wr):=r.o.trans (y.o.mono r.o.size);clear c0 c1 c2 c3 c4 c5 c6 c7 c8;obtain⟨c0,c1,c2,c3,c4,c5,c6,c7,c8⟩:=(HK.o.below y.o zk).nine;by_cases hlt:k<n
  . have am: (k:Int)< (n:Int):=by omega
    obtain⟨bb,q,d,rfl,bh,hd,y0,y1⟩:=(HP.o.below C.o hB).dg hlt;have HD:=ah hd;obtain⟨d1,d2⟩:=d;simp only at y0 y1;by_cases hz: ((d1,d2):Dig)=zD
    . have e1:d1=0:=congrArg Prod.fst hz
      have e2:d2=0:=congrArg Prod.snd hz;subst e1 e2;have Q:Below W0.heap.size W0 (wr.alloc (.cells #[.int .u64 0,.int .u64 0] 50)):=y.o.trans ((af _ wr).alloc I _);have an:Hid (Below w.heap.size w (wr.alloc (.cells #[.int .u64 0,.int .u64 0] 50))):=r.o.trans (Q.mono r.o.size);clear hz hd Q;go_wp2_with fail;go_ret
      exact⟨⟨_,rfl,fun h=>by simp at h⟩,an.o⟩
    have ao:=jM hz;simp only at ao;have ap:=ah hz;obtain⟨v,hv⟩:=NX9 (decide ((d1,d2)∈pars.take k))
    have HV:=ah hv;clear hz hv;obtain⟨wb,z⟩:=NX9 (wr.alloc (.cells #[.int .u64 d1,.int .u64 d2] 50))
    have J:Hid (Below wr.heap.size wr wb):=by rw[<-z];exact(af _ wr).alloc ai _
    have R:Hid (Bk wb wr.heap.size 50 #[.int .u64 d1,.int .u64 d2]):=by rw[<-z];exact Bk.new wr _ _
    have bi:wb.heap.size=wr.heap.size+1:=by rw[<-z];simp
    have A:Hid (Below w.heap.size w wb):=C.o.trans (J.o.mono (by omega));have aq:Hid (∀Z,Below wb.heap.size wb Z->Calls Tryz.prog 310 #[.slice (some ⟨bb,q,none⟩) k pc,.agg #[.int .u64 d1,.int .u64 d2]] Z fun e w'=>e= .returned (.bool v)/\Below Z.heap.size Z w'):=fun Z hZ=>by
     have hs:Sl Z B 2 (some ⟨bb,q,none⟩) k (flat dgC (pars.take k)):=by
      have h1:=(HP.o.below A.o hB).below hZ (by have:=A.o.size;omega);refine⟨by rw[gF fI,List.length_take,HL.o];rw[Nat.min_eq_left (by omega)],fun h0=>?_⟩;obtain⟨b',o',e1,e2,e3⟩:=h1.2 (by omega);refine⟨b',o',e1,e2,fun j u hu=>e3 j u ?_⟩;rw[oI fI]at hu;have ar:=(List.getElem?_eq_some_iff.1 hu).1;rw[List.getElem?_take,if_pos (by rw[List.length_take]at ar;omega)]at hu;exact hu
     have h:=wV (some ⟨bb,q,none⟩) k pc B (pars.take k) (d1,d2) Z hs (by have:=hZ.size;have:=A.o.size;omega) (by omega);rw[HV.o]at h;exact h
    have b0:=R.o.cell 0;have b1:=R.o.cell 1;simp at b0 b1;have e5:=(HK.o.below (y.o.trans (J.o.mono I)) zk).nine.2.2.2.2.2.1;have bj:∀Z:MZ,(Instr.sliceAt 47 (.slice (some ⟨bb,q,none⟩) n pc) none (some (.int .i64 k)) none).run Tryz.prog Z= .ok (.slice (some ⟨bb,q,none⟩) k pc) Z:=fun Z=>by
     obtain⟨i0,au,_⟩:=info_parts jw;exact nT 47 i0 Tryz.underlying47 au _ n pc k (by omega) Z
    have av:=ah z;clear hd z
    go_upto_region 10 with fail
    rw[av.o];refine jC 5 (24::25::26::27::28:: []) (by kernel_rfl) (by kernel_rfl) (by kernel_rfl) (fun W=>Below wb.heap.size wb W) (fun W W'=>Below W.heap.size W W')
     (lJ ((.pointer (some ⟨w.heap.size,5,none⟩)):: (.slice (some ⟨bb,q,none⟩) n pc):: (.int .i64 (k:Int)):: (.slice (some ⟨bb,q,none⟩) k pc):: (.agg #[.int .u64 d1,.int .u64 d2]):: [])) (fun W W' h1 h2=>h1.trans (h2.mono h1.size)) (fun i v W W' h _=>h) (af _ _).drew ?stepC ?tailC
    case stepC =>
     intro i o vs W hi ho hv hR m;obtain⟨v0,v1,v2,v3,v4,rfl⟩:=ls5 hv;simp only[List.zip,List.zipWith,aR,Act.put,List.setIfInBounds_toArray,List.set];have bk:=hR.size;have g5:=(hR.cell (p:=⟨w.heap.size,5,none⟩) (by show w.heap.size<_;omega)).trans e5;have g0:=(hR.cell (p:=⟨wr.heap.size,0,none⟩) (by show wr.heap.size<_;omega)).trans b0;have g1:=(hR.cell (p:=⟨wr.heap.size,1,none⟩) (by show wr.heap.size<_;omega)).trans b1
     match i,hi,ho with
     | 0,_,rfl =>
       exact .inl ⟨rfl,aJ (v:= .pointer (some ⟨w.heap.size,5,none⟩)) (w':=W) (by go_simp) ⟨af _ _,fun _=>aI⟩⟩
     | 1,_,rfl =>
       have e0:v0=_:=m ⟨0,.data⟩ (by simp) rfl v0 rfl _ rfl;subst e0;exact .inl ⟨rfl,aJ (v:= .slice (some ⟨bb,q,none⟩) n pc) (w':=W) (by go_simp) ⟨af _ _,fun _=>aI⟩⟩
     | 2,_,rfl =>
       exact .inl ⟨rfl,aJ (v:= .int .i64 (k:Int)) (w':=W) (by go_simp) ⟨af _ _,fun _=>aI⟩⟩
     | 3,_,rfl =>
       have e1:v1=_:=m ⟨1,.data⟩ (by simp) rfl v1 rfl _ rfl;have e2:v2=_:=m ⟨2,.data⟩ (by simp) rfl v2 rfl _ rfl;subst e1 e2;exact .inl ⟨rfl,aJ (v:= .slice (some ⟨bb,q,none⟩) k pc) (w':=W) (by go_simp) ⟨af _ _,fun _=>aI⟩⟩
     | 4,_,rfl =>
       exact .inl ⟨rfl,aJ (v:= .agg #[.int .u64 d1,.int .u64 d2]) (w':=W) (by go_simp) ⟨af _ _,fun _=>aI⟩⟩
     | i+5,hi,_=>exact absurd hi (by omega)
    case tailC =>
     intro vs W hv hR m;obtain⟨v0,v1,v2,v3,v4,rfl⟩:=ls5 hv;simp only[List.zip,List.zipWith,aR,Act.put,List.setIfInBounds_toArray,List.set,List.drop];have e0:v0=_:=m 0 v0 rfl _ rfl;have e1:v1=_:=m 1 v1 rfl _ rfl;have e2:v2=_:=m 2 v2 rfl _ rfl;have e3:v3=_:=m 3 v3 rfl _ rfl;have e4:v4=_:=m 4 v4 rfl _ rfl;subst e0 e1 e2 e3 e4;clear m hv;have S:Hid (Below W0.heap.size W0 W):=y.o.trans ((J.o.trans (hR.mono (by omega))).mono I);have HR:=ah hR;clear hR
     go_wp2_with (first | (go_at_call 310;refine(aq.o _ HR.o).mono ?_;rintro e w3 ⟨rfl,T⟩;refine aN ?_))
     refine aF ?_;have U:Hid (Below W0.heap.size W0 w3):=S.o.trans (T.mono S.o.size);have V:Hid (Below w.heap.size w w3):=r.o.trans (U.o.mono r.o.size);clear T;cases v with
     | true =>
       go_wp2_with fail;go_ret
       exact⟨⟨_,rfl,fun h=>by simp at h⟩,V.o⟩
     | false =>
       have X:=ah (aS HD.o);have aw:Hid ((d1,d2)∉pars.take k):=of_decide_eq_false HV.o;go_wp2_with fail;go_roundw
       case rel =>
        refine⟨k+1,by go_num,hlt,U.o,fun d hd=>?_,?_⟩
        . rw[X.o,List.mem_append,aa]at hd
          rcases hd with hd | rfl
          . exact G.o d hd
          . exact ap.o
        . show List.Nodup _
          rw[X.o,List.nodup_append];exact⟨H.o,by simp,fun a ha b hb e=>by rw[List.mem_singleton.1 hb]at e;exact aw.o (e ▸ ha)⟩
       case measure=>simp[intOf];omega
  . have am:¬(k:Int)< (n:Int):=by omega
    have aD:Hid (pars.take k=pars):=ZW (by rw[HL.o];omega);rw[aD.o]at G H;have aE:bI auth=false∨ (bI auth=true/\ (l<0∨ (0<=l/\ ((1099511627776:Int)<l∨ (l<=1099511627776/\ ((200:Int)< (msg.size:Int)∨msg.size<=200)))))):=by
     cases bI auth
     . exact .inl rfl
     . right;refine⟨rfl,?_⟩;omega
    rcases aE with D | ⟨D,ht | ⟨ht0,ht | ⟨ht1,hms | hms⟩⟩⟩
    case inr.inr.inr.inr =>
     have ba:¬l<0:=by omega
     have bd:¬(1099511627776:Int)<l:=by omega
     have bm:¬(200:Int)< (msg.size:Int):=by omega
     have Y:=ah (F.o ag.o G.o H.o D ht0 ht1 hms)
     go_wp2_with (first | (go_at_call 195;refine(iC auth _ (by unfold maxLen;omega)).mono ?_;rintro e w1 ⟨rfl,rfl⟩;rw[D]))
     go_ret
     exact⟨⟨_,rfl,fun _=>Y.o⟩,C.o⟩
    all_goals
     try have ba:¬l<0:=by omega
     try have bd:¬(1099511627776:Int)<l:=by omega
     go_wp2_with (first | (go_at_call 195;refine(iC auth _ (by unfold maxLen;omega)).mono ?_;rintro e w1 ⟨rfl,rfl⟩;rw[D]))
     go_ret
     exact⟨⟨_,rfl,fun h=>by simp at h⟩,C.o⟩
inductive RdO(o:Ob):Prop
 | blob (k:o.kind=1∨o.kind=4) (e:o.ents= []) (c:NoC o) (d:o.data.size<=65536)
 | tree (k:o.kind=2) (d:o.data= ⟨#[]⟩) (c:NoC o) (few:o.ents.length<=200) (wf:∀e∈o.ents,WfD e.dg) (sz:∀e∈o.ents,e.nm.size<=65536)
 | commit (k:o.kind=3) (d:o.data= ⟨#[]⟩) (e:o.ents= []) (wt:WfD o.tree) (wp:∀d∈o.pars,WfD d) (few:o.pars.length<=8) (au:o.auth.size<=65536) (ms:o.msg.size<=65536)
 | other (k:o.kind≠1/\o.kind≠2/\o.kind≠3/\o.kind≠4) (d:o.data= ⟨#[]⟩) (e:o.ents= []) (c:NoC o)
theorem EX(o:Ob)(s:Osl)(B:Nat)(w:MZ)(hm:ObM w B o s)(hB:B<=w.heap.size)(hr:RdO o)(hf:¬OkF o) :
  Calls Tryz.prog 204 #[obV o s] w fun e w'=>(∃x:Int,e= .returned (.int .i64 x)/\x≠0)/\Below w.heap.size w w':=by
 obtain⟨W0,hW⟩:=NX9 (w.alloc (.cells (obC o s) 109))
 have g:Hid (Below w.heap.size w W0):=by rw[<-hW];exact(af _ w).alloc ai _
 have HK:Hid (Bk W0 w.heap.size 109 (obC o s)):=by rw[<-hW];exact Bk.new w _ _
 have l:=hm.below (g.o.mono hB) ai;have i:=hm.elen;have m:=hm.plen;cases hr with
 | blob k e c d=>exact absurd (.blob k e c d) hf
 | tree k d c few wf sz =>
   obtain⟨h1,h2,h3,h4,h5⟩:=c.flds;have p:s.pn=0:=by rw[<-m];exact h2
   have q:¬jU o.ents:=fun h=>hf (.tree k d c h);have r:=ah q;have HE:=ah (D9 s.eA s.en s.ec B o.ents W0 l.e (by have:=g.o.size;omega) wf sz (by rw[<-i];exact few));obtain⟨a,v,ents,tree,t,b,f,j⟩:=o;obtain⟨eA,en,ec,pA,n,pc⟩:=s;simp only at h1 h3 h4 h5 p k d HE r;subst h1 h3 h4 h5 p k d;simp only[obV,obC]at hW HK ⊢;obtain⟨c0,c1,c2,c3,c4,c5,c6,c7,c8⟩:=HK.o.nine;clear hm l i m c h2 hf q few wf sz
   go_enter Tryz.func204,Tryz.ntmps204
   go_wp2_with (first | (go_at_call 264;refine HE.o.mono ?_;rintro e w1 ⟨⟨x,rfl,hx⟩,hb⟩))
   all_goals
    go_ret
    exact⟨⟨x,rfl,fun h=>r.o (hx h)⟩,g.o.trans (hb.mono g.o.size)⟩
 | commit k d e wt wp few au ms =>
   have u:s.en=0:=by rw[<-i,e];rfl
   have q:¬OkC o:=fun h=>hf (.commit k d e h);have r:=ah q;have HC:=ah (El o s B W0 l (by have:=g.o.size;omega) wt wp few au ms);obtain⟨a,v,ents,⟨t1,t2⟩,t,b,f,j⟩:=o;obtain⟨eA,en,ec,pA,n,pc⟩:=s;simp only at u k d;subst u k d;simp only[obV,obC]at hW HK HC ⊢;obtain⟨c0,c1,c2,c3,c4,c5,c6,c7,c8⟩:=HK.o.nine;clear hm l i m e hf q wt wp few au ms;have fin:∀(x:Int)(w1:MZ),(x=0->OkC ⟨3,⟨#[]⟩,ents,(t1,t2),t,b,f,j⟩)->Below W0.heap.size W0 w1-> (∃y:Int,Ending.returned (.int .i64 x)= .returned (.int .i64 y)/\y≠0)/\Below w.heap.size w w1:=fun x w1 hx hb=>⟨⟨x,rfl,fun h=>r.o (hx h)⟩,g.o.trans (hb.mono g.o.size)⟩
   have z:=ah fin;have A: ((t1 == 0 && t2 == 0)=false)∨ ((t1=0/\t2=0)/\ ((0:Int)< (n:Int)∨ (n=0/\ ((b.toList == ([]:List UInt8))=false∨ ((b.toList == ([]:List UInt8))=true/\ ((f != 0)=true∨ (f=0/\ ((j.toList == ([]:List UInt8))=false∨ (j.toList == ([]:List UInt8))=true)))))))):=by
    by_cases h1:t1=0/\t2=0
    . refine .inr ⟨h1,?_⟩
      rcases Nat.eq_zero_or_pos n with h | h
      . refine .inr ⟨h,?_⟩
        cases (b.toList == ([]:List UInt8)) with
        | false=>exact .inl rfl
        | true =>
          refine .inr ⟨rfl,?_⟩;by_cases ht:f=0
          . refine .inr ⟨ht,?_⟩
            cases (j.toList == ([]:List UInt8)) with
            | false=>exact .inl rfl
            | true=>exact .inr rfl
          . exact .inl (by simpa using ht)
      . exact .inl (by omega)
    . left
      rw[Bool.eq_false_iff];intro h;rw[Bool.and_eq_true,beq_iff_eq,beq_iff_eq]at h;exact h1 h
   clear fin r;rcases A with C | ⟨⟨rfl,rfl⟩,hn | ⟨rfl,ha | ⟨ha,ht | ⟨rfl,hm | hm⟩⟩⟩⟩
   all_goals
    go_enter Tryz.func204,Tryz.ntmps204
    go_wp2_with (first | (go_at_call 265;refine HC.o.mono ?_;rintro e w1 ⟨⟨x,rfl,hx⟩,hb⟩))
    go_ret
    exact z.o x _ hx hb
 | other k d e c =>
   obtain⟨h1,h2,h3,h4,h5⟩:=c.flds;have u:s.en=0:=by rw[<-i,e];rfl
   have p:s.pn=0:=by rw[<-m];exact h2
   obtain⟨a,v,ents,tree,t,b,f,j⟩:=o;obtain⟨eA,en,ec,pA,n,pc⟩:=s;simp only at h1 h3 h4 h5 u p k d;subst h1 h3 h4 h5 u p d;simp only[obV,obC]at hW HK ⊢;obtain⟨c0,c1,c2,c3,c4,c5,c6,c7,c8⟩:=HK.o.nine;have k1: (a == 1)=false:=by simpa using k.1
   have k2: (a == 2)=false:=by simpa using k.2.1
   have k3: (a == 3)=false:=by simpa using k.2.2.1
   have k4: (a == 4)=false:=by simpa using k.2.2.2
   clear hm l i m e c h2 hf k
   go_enter Tryz.func204,Tryz.ntmps204
   go_wp2_with fail;go_ret
   exact⟨⟨9,rfl,by decide⟩,g.o⟩
def MB(w:MZ)(e:Ending)(w':MZ):Prop:=(∃x:Int,e= .returned (.tuple #[.string ⟨#[]⟩,.int .i64 x])/\x≠0)/\Below w.heap.size w w'
theorem mM(o:Ob)(s:Osl)(B:Nat)(w:MZ)(hm:ObM w B o s)(hB:B<=w.heap.size)(hr:RdO o)(hf:¬OkF o) :
  Calls Tryz.prog 113 #[obV o s] w fun e w'=>(∃x:Int,e= .returned (.int .i64 x)/\x≠0)/\Below w.heap.size w w':=by
 have f:∀W:MZ,Below w.heap.size w W->Calls Tryz.prog 125 #[obV o s] W (MB W):=fun W hW=>by
  obtain⟨W0,b⟩:=NX9 (W.alloc (.cells (obC o s) 109))
  have a:Hid (Below W.heap.size W W0):=by rw[<-b];exact(af _ W).alloc ai _
  have c:Hid (Bk W0 W.heap.size 109 (obC o s)):=by rw[<-b];exact Bk.new W _ _
  have HC:=ah (EX o s B W0 (hm.below (hW.trans (a.o.mono hW.size)) hB) (by have:=hW.size;have:=a.o.size;omega) hr hf);obtain⟨g,h,i,⟨t1,t2⟩,j,k,l,m⟩:=o;obtain⟨eA,en,ec,pA,pn,pc⟩:=s;simp only[obV,obC]at b c HC ⊢;obtain⟨c0,c1,c2,c3,c4,c5,c6,c7,c8⟩:=c.o.nine;clear hm hr hf hW hB
  go_enter Tryz.func125,Tryz.ntmps125
  go_wp2_with fail;refine HC.o.mono ?_;rintro e w1 ⟨⟨x,rfl,hx⟩,d⟩;have n: (x != 0)=true:=by simpa using hx
  have HX:=ah hx;clear hx;go_wp2_with fail;go_ret2
  exact⟨⟨x,rfl,HX.o⟩,a.o.trans (d.mono a.o.size)⟩
 obtain⟨W0,b⟩:=NX9 (w.alloc (.cells (obC o s) 109))
 have a:Hid (Below w.heap.size w W0):=by rw[<-b];exact(af _ w).alloc ai _
 have c:Hid (Bk W0 w.heap.size 109 (obC o s)):=by rw[<-b];exact Bk.new w _ _
 have HC:=ah (f W0 a.o);clear f hm hr hf;obtain⟨g,h,i,⟨t1,t2⟩,j,k,l,m⟩:=o;obtain⟨eA,en,ec,pA,pn,pc⟩:=s;simp only[obV,obC]at b c HC ⊢;obtain⟨c0,c1,c2,c3,c4,c5,c6,c7,c8⟩:=c.o.nine
 go_enter Tryz.func113,Tryz.ntmps113
 go_wp2_with (first | (go_at_call 125;refine HC.o.mono ?_;rintro e w1 ⟨⟨x,rfl,hx⟩,d⟩))
 go_ret
 exact⟨⟨x,rfl,hx⟩,a.o.trans (d.mono a.o.size)⟩
theorem L6{b:M5}{o:Ob}{r:RS}(h:qO b= (o,r))(hb:r.2=false):RdO o:=by
 obtain⟨r1,r2⟩:=r;simp only at hb;subst hb;unfold qO at h;obtain⟨x,hx⟩:=NX9 (qN (b,false))
 rw[hx]at h;obtain⟨k,st⟩:=x;simp only at h;split at h
 . rename_i hk
   simp only[Prod.mk.injEq]at h;obtain⟨rfl,h⟩:=h;have e:=jv (s:=st) (t:=(qT st).1) (r:=r1) (Prod.ext rfl h);refine .blob (by simp only;omega) rfl ⟨rfl,rfl,rfl,rfl,rfl⟩ e.2
 . split at h
   . rename_i hk
     simp only[Prod.mk.injEq]at h;obtain⟨rfl,h⟩:=h;obtain⟨e1,e2,e3⟩:=pQ (enc:=aQ) (P:=fun e=>WfD e.dg/\e.nm.size<=65536) (fun s x r h=>⟨(vg h).1,(vg h).2,by
      unfold qE at h;simp only[Prod.mk.injEq]at h;obtain⟨rfl,h⟩:=h;have h3:=kY (Prod.ext rfl h:qD _= (_,r,false));have h4:=congrArg Prod.snd h3.1;simp only[Bool.or_eq_false_iff]at h4;have h2:=kZ (Prod.ext rfl (Prod.ext rfl h4.1):qN _= (_,_,false));have h5:=congrArg Prod.snd h2.1;exact(jv (Prod.ext rfl (Prod.ext rfl h5):qT _= (_,_,false))).2⟩) (s:=st) (l:=(qLs qE 200 st).1) (r:=r1) (Prod.ext rfl h)
     exact .tree rfl rfl ⟨rfl,rfl,rfl,rfl,rfl⟩ e2 (fun e he=>(e3 e he).1) (fun e he=>(e3 e he).2)
   . split at h
     . unfold qC at h
       simp only[Prod.mk.injEq]at h;obtain⟨rfl,h⟩:=h;have e1:=jv (Prod.ext rfl h:qT _= (_,r1,false));have e2:=kZ (Prod.ext rfl (Prod.ext rfl (by rw[e1.1])):qN _= (_,_,false));have e3:=jv (Prod.ext rfl (Prod.ext rfl (by rw[e2.1])):qT _= (_,_,false));obtain⟨f1,f2,f3⟩:=pQ (enc:=ax) (P:=WfD) (fun s x r h=>kY h) (Prod.ext rfl (Prod.ext rfl (by rw[e3.1])):qLs qD 8 _= (_,_,false));have e5:=kY (Prod.ext rfl (Prod.ext rfl (by rw[f1])):qD _= (_,_,false));exact .commit rfl rfl rfl e5.2 f3 f2 e3.2 e1.2
     . rename_i h1 h2 h3
       simp only[Prod.mk.injEq]at h;obtain⟨rfl,_⟩:=h;refine .other ?_ rfl rfl ⟨rfl,rfl,rfl,rfl,rfl⟩;simp only;omega
theorem Ll{b:M5}(hb:b.length<=65536)(hn:¬∃o,OkO o/\b=aG o): (qO b).2.2=true∨ (qO b).2.1≠ []∨¬OkF (qO b).1:=by
 refine Classical.byContradiction fun h=>hn ?_;simp only[not_or,Classical.not_not,ne_eq,Bool.not_eq_true]at h;obtain⟨h1,h2,h3⟩:=h;have e:b=aG (qO b).1:=LC (Prod.ext rfl (Prod.ext h2 h1)) h3;exact⟨_,⟨h3,by rw[<-e];exact hb⟩,e⟩
