/-
  Lemmas of the card.
-/
import Derived.Test.YtknefelegjlgnaaGreatDoorCCCp9
set_option maxRecDepth 100000
set_option maxHeartbeats 4000000
namespace Go.Proofs.YtknefelegjlgnaaGreatDoor
open Go.RowKit
theorem xy(s:UX)(m:Nat):s.extract m s.size=ofL ((toL s).drop m):=by
 apply ny
 rw[dw];show(s.extract m s.size).data.toList=s.data.toList.drop m;rw[ByteArray.data_extract,Array.toList_extract,List.extract_eq_take_drop,ZU];rw[List.length_drop];exact Nat.le_refl _
def Rds(w:UW)(b:Nat)(s:RS):Prop:=Bk w b 229 #[.string (ofL s.1),.bool s.2]
def RsE(v:UY)(b:Nat)(s:RS)(w:UW)(e:Ending)(w':UW):Prop:=e= .returned v/\Rds w' b s/\Gb (fun g=>g=b) w w'
theorem l7(b:Nat)(q:RS)(w:UW)(hk:Rds w b q)(hl:q.1.length<=1000000) :
  Calls Tryz.prog 143 #[.pointer (some ⟨b,0,none⟩)] w (RsE (.int .i64 ((qN q).1:Nat)) b (qN q).2 w):=by
 unfold Rds at hk;obtain⟨l,bad⟩:=q;obtain⟨s,hs⟩:=NX9 (ofL l)
 have hls:l=toL s:=by rw[<-hs,dw]
 subst hls;simp only[hs]at hk hl;have hsz:s.size= (toL s).length:=aQ s;have hle:=ni (toL s);have HG:=ai (mr s w);unfold qN;simp only;obtain⟨⟨v,m,x⟩,hg⟩:∃g,az (toL s)=g:=⟨_,rfl⟩
 rw[hg]at HG hle ⊢;simp only at hle ⊢;have HX:=ai (xy s m);have a: (m:Int)<= (s.size:Int):=by omega
 have hsm: (s.size:Int)<=1000000:=by omega
 have HK:=ai hk;obtain⟨x0,x1,f0,f1⟩:=hk.two;clear hk hs hsz hle hg hl;have fin:∀c:Bool,c= (bad || decide (x≠0))->RsE (.int .i64 (v:Nat)) b ((toL s).drop m,bad || decide (x≠0)) w (.returned (.int .i64 v)) ((w.setCell ⟨b,1,none⟩ (.bool c)).setCell ⟨b,0,none⟩ (.string (s.extract m s.size))):=by
  rintro c rfl;refine⟨rfl,?_,kC _ _ _ _⟩;show Bk _ _ _ #[.string (ofL ((toL s).drop m)),.bool _];rw[<-HX.o];exact kD HK.o _ _
 have FIN:=ai fin;clear fin
 go_enter Tryz.func143,Tryz.ntmps143
 go_wp2_with fail;refine HG.o.mono ?_;rintro e w' ⟨rfl,rfl⟩;cases bad
 . by_cases hx:x=0
   . subst hx
     go_wp2_with fail;go_ret
     exact FIN.o false (by simp)
   . have hxb: (x != 0)=true:=by simpa using hx
     go_wp2_with fail;go_ret
     exact FIN.o true (by simp[hx])
 . go_wp2_with fail
   go_ret
   exact FIN.o true (by simp)
theorem lZ(b:Nat)(q:RS)(w:UW)(hk:Rds w b q)(hl:q.1.length<=1000000) :
  Calls Tryz.prog 144 #[.pointer (some ⟨b,0,none⟩)] w (RsE (.string (ofL (qT q).1)) b (qT q).2 w):=by
 unfold Rds at hk;obtain⟨l,bad⟩:=q;obtain⟨s,hs⟩:=NX9 (ofL l)
 have hls:l=toL s:=by rw[<-hs,dw]
 subst hls;simp only[hs]at hk hl;have hsz:s.size= (toL s).length:=aQ s;have hle:=tH (toL s);have HG:=ai (uY s (by unfold maxLen;omega) w);unfold qT;simp only;obtain⟨⟨v,m,x⟩,hg⟩:∃g,aK (toL s)=g:=⟨_,rfl⟩
 rw[hg]at HG hle ⊢;simp only at hle ⊢;unfold uJ at HG;simp only at HG;have HX:=ai (xy s m);have a: (m:Int)<= (s.size:Int):=by omega
 have hsm: (s.size:Int)<=1000000:=by omega
 have HK:=ai hk;obtain⟨x0,x1,f0,f1⟩:=hk.two;clear hk hs hsz hle hg hl;have fin:∀c:Bool,c= (bad || decide (x≠0))->RsE (.string (ofL v)) b ((toL s).drop m,bad || decide (x≠0)) w (.returned (.string (ofL v))) ((w.setCell ⟨b,1,none⟩ (.bool c)).setCell ⟨b,0,none⟩ (.string (s.extract m s.size))):=by
  rintro c rfl;refine⟨rfl,?_,kC _ _ _ _⟩;show Bk _ _ _ #[.string (ofL ((toL s).drop m)),.bool _];rw[<-HX.o];exact kD HK.o _ _
 have FIN:=ai fin;clear fin
 go_enter Tryz.func144,Tryz.ntmps144
 go_wp2_with fail;refine HG.o.mono ?_;rintro e w' ⟨rfl,rfl⟩;cases bad
 . by_cases hx:x=0
   . subst hx
     go_wp2_with fail;go_ret
     exact FIN.o false (by simp)
   . have hxb: (x != 0)=true:=by simpa using hx
     go_wp2_with fail;go_ret
     exact FIN.o true (by simp[hx])
 . go_wp2_with fail
   go_ret
   exact FIN.o true (by simp)
theorem lY(b:Nat)(q:RS)(w:UW)(hk:Rds w b q)(hl:q.1.length<=1000000) :
  Calls Tryz.prog 147 #[.pointer (some ⟨b,0,none⟩)] w (RsE (aA (qD q).1) b (qD q).2 w):=by
 unfold Rds at hk;obtain⟨l,bad⟩:=q;obtain⟨s,hs⟩:=NX9 (ofL l)
 have hls:l=toL s:=by rw[<-hs,dw]
 subst hls;simp only[hs]at hk hl;have hsz:s.size= (toL s).length:=aQ s;have HX:=ai (xy s 16);rw[<-hsz]at hl;have HE:=ai (Iw (toL s));have hbw:=hk.lt;obtain⟨W0,hW0⟩:=NX9 ((w.alloc (.cells #[.int .u64 0,.int .u64 0] 50)).alloc (.cells #[.int .u64 0,.int .u64 0] 50))
 have c:Hid (Bk W0 w.heap.size 50 #[.int .u64 0,.int .u64 0]):=by rw[<-hW0];exact(Bk.new w _ _).alloc _
 have d:Hid (Bk W0 (w.heap.size+1) 50 #[.int .u64 0,.int .u64 0]):=by
  rw[<-hW0];have:=Bk.new (w.alloc (.cells #[.int .u64 0,.int .u64 0] 50)) 50 #[.int .u64 0,.int .u64 0]
  rwa[Z9]at this
 have HB:U6 w W0:=by rw[<-hW0];exact((ah _ w).alloc aj _).alloc (by simp) _
 have HR:=ai hk;obtain⟨x0,x1,_,_⟩:=(hk.below HB.o hbw).two;clear hk hs;unfold qD;simp only;rw[<-hsz];clear hsz;have e:b≠w.heap.size:=by omega
 have f:b≠w.heap.size+1:=by omega
 by_cases hsh:s.size<16
 . have h: (s.size:Int)<16:=by omega
   rw[if_pos hsh];obtain⟨_,_,g0,g1⟩:=(HR.o.below HB.o hbw).two;obtain⟨u0,u1,e0,e1⟩:=c.o.two;obtain⟨v0,v1,_,_⟩:=d.o.two;rw[<-hW0]at x0 x1 g0 g1 u0 u1 e0 e1 v0 v1;have HW0:=ai hW0;clear hW0
   go_enter Tryz.func147,Tryz.ntmps147
   go_wp2_with fail;have hz1: (w.setCell ⟨b,1,none⟩ (.bool true)).heap.size=w.heap.size:=by simp
   have hbn:=Bk.new (w.setCell ⟨b,1,none⟩ (.bool true)) 50 #[.int .u64 0,.int .u64 0];rw[hz1]at hbn;refine ZW (rJ Tryz.results147 rfl (hbn.alloc _)) rfl ⟨rfl,?_,?_⟩
   . show Bk _ _ _ #[.string (ofL (toL s)),.bool true]
     rw[ja];have:=((HR.o.set 1 (.bool true)).alloc (.cells #[.int .u64 0,.int .u64 0] 50)).alloc (.cells #[.int .u64 0,.int .u64 0] 50)
     simpa using this
   . exact(Gb.set (p:=fun g=>g=b) (x:=b) rfl 1 _).trans (Gb.of_below (((ah _ _).alloc aj _).alloc (by simp) _))
 have h16:16<=s.size:=by omega
 have h:¬(s.size:Int)<16:=by omega
 have n: (16:Int)<= (s.size:Int):=by omega
 rw[if_neg hsh];clear hsh
 go_enter Tryz.func147,Tryz.ntmps147
 go_wp2_with fail;clear hW0
 go_loopw[15] (fun i wr=>∃k:Nat,k<=16/\i= .int .i64 k/\Hid (Bk wr w.heap.size 50 #[.int .u64 0,.int .u64 0])/\Hid (Bk wr (w.heap.size+1) 50 #[.int .u64 (wd1 (toL s) k),.int .u64 (wd2 (toL s) k)])/\U6 w wr) (fun i _=>16 - (intOf i).toNat)
 case atStart=>exact⟨0,by omega,rfl,c.o,d.o,HB.o⟩
 case round =>
  obtain⟨k,hk,rfl,J0,J1,hB⟩:=hrel;clear x0 x1;obtain⟨x0,x1,xf,_⟩:=(HR.o.below hB.o hbw).two;by_cases hlt:k<16
  . have hsz:k<s.size:=by omega
    have hd:s[k].toNat<256:=s[k].toNat_lt;have hki: (k:Int)<16:=by omega
    by_cases h8:k<8
    . have hx:=G8 (l:=toL s) h8
      obtain⟨e1,e2⟩:=Ew (rW hsz) h8;have a:=ai e1;have HE2:=ai e2;have y0:=J1.o.cell 0;have y1:=J1.o.cell 1;have f0:=J1.o.free 0;simp at y0 y1;clear e1 e2 HX;have hq: (k:Int) / 8=0:=by omega
      generalize wd1 (toL s) k=x at *;generalize wd2 (toL s) k=y at *;have hor:=sU (x:=x) (y:=s[k].toNat) (by omega) (by omega);go_wp2_with fail
      go_region
      go_wp2_with fail;go_roundw
      case rel=>exact⟨k+1,by omega,by go_num,J0.o.far (p:=⟨w.heap.size+1,0,none⟩) (by simp) _,by show Bk _ _ _ _;rw[a.o,HE2.o];exact J1.o.set 0 _,(hB.o.setCell (p:=⟨w.heap.size+1,0,none⟩) (by simp) _).drew⟩
      case measure=>simp[intOf];omega
    . have hx:=Ib (l:=toL s) hlt
      obtain⟨e1,e2⟩:=EP (rW hsz) (by omega);have a:=ai e1;have HE2:=ai e2;have y0:=J1.o.cell 0;have y1:=J1.o.cell 1;have f1:=J1.o.free 1;simp at y0 y1;clear e1 e2 HX;have hq: (k:Int) / 8=1:=by omega
      generalize wd1 (toL s) k=x at *;generalize wd2 (toL s) k=y at *;have hor:=sU (x:=y) (y:=s[k].toNat) (by omega) (by omega);go_wp2_with fail
      go_region
      go_wp2_with fail;go_roundw
      case rel=>exact⟨k+1,by omega,by go_num,J0.o.far (p:=⟨w.heap.size+1,1,none⟩) (by simp) _,by show Bk _ _ _ _;rw[a.o,HE2.o];exact J1.o.set 1 _,(hB.o.setCell (p:=⟨w.heap.size+1,1,none⟩) (by simp) _).drew⟩
      case measure=>simp[intOf];omega
  . have hke:Hid (k=16):=by show _=_;omega
    have hki:¬(k:Int)<16:=by omega
    have j:Hid (dg (toL s)= ((wd1 (toL s) k:Int),(wd2 (toL s) k:Int))):=by show _=_;rw[hke.o];exact HE.o
    have m:=ai (HR.o.below hB.o hbw);obtain⟨y0,y1,_,_⟩:=J1.o.two;obtain⟨z0,z1,f0,f1⟩:=J0.o.two;generalize wd1 (toL s) k=x at *;generalize wd2 (toL s) k=y at *;clear hlt;have hne1:=e;have hne2:=f;go_wp2_with fail;refine ZW (rJ Tryz.results147 rfl ((J0.o.far (p:=⟨b,0,none⟩) hne1.symm _).set2 _ _)) rfl ⟨by rw[j.o];rfl,?_,?_⟩
    . show Bk _ _ _ #[.string (ofL ((toL s).drop 16)),.bool bad]
      rw[<-HX.o];have:=(((m.o.set 0 (.string (s.extract 16 s.size))).far (p:=⟨w.heap.size,0,none⟩) hne1 (.int .u64 x)).far (p:=⟨w.heap.size,1,none⟩) hne1 (.int .u64 y))
      simpa using this
    . exact((((Gb.of_below hB.o).trans (Gb.set (p:=fun g=>g=b) (x:=b) rfl 0 _)).after aj 0 _).after aj 1 _)
theorem yR(q:RS): (qT q).2.1.length<=q.1.length:=by unfold qT;simp only[List.length_drop];omega
theorem lG(q:RS): (qN q).2.1.length<=q.1.length:=by unfold qN;simp only[List.length_drop];omega
theorem tX(q:RS): (qD q).2.1.length<=q.1.length:=by
 unfold qD;split
 . exact Nat.le_refl _
 . simp only[List.length_drop];omega
theorem SQ(q:RS): (qE q).2.1.length<=q.1.length:=by
 unfold qE;simp only;exact ZY (tX _) (ZY (lG _) (yR _))
theorem Lp(b:Nat)(q:RS)(w:UW)(hk:Rds w b q)(hl:q.1.length<=1000000) :
  Calls Tryz.prog 146 #[.pointer (some ⟨b,0,none⟩)] w (RsE (Jc (qE q).1) b (qE q).2 w):=by
 have hbw:=Bk.lt hk;have hl1:=yR q;obtain⟨W1,hW1⟩:=NX9 (w.alloc (.cells #[.string ⟨#[]⟩,.bool false,.int .u64 0,.int .u64 0] 185))
 have HZ1:Hid (Bk W1 w.heap.size 185 #[.string ⟨#[]⟩,.bool false,.int .u64 0,.int .u64 0]):=by rw[<-hW1];exact Bk.new w _ _
 have hb1:U0 w W1:=by rw[<-hW1];exact(ah _ w).alloc aj _
 have H:W1.heap.size=w.heap.size+1:=by rw[<-hW1];simp
 have D:Hid (Gb (fun g=>g=b) w W1):=Gb.of_below hb1;have HS:=ai (lZ b q W1 (Bk.below hk hb1 hbw) hl);unfold qE;obtain⟨⟨t,q1⟩,h1⟩:∃x,qT q=x:=⟨_,rfl⟩
 rw[h1]at HS hl1 ⊢;simp only at HS hl1 ⊢;have hl2:=lG q1;obtain⟨⟨k,r2,b2⟩,h2⟩:∃x,qN q1=x:=⟨_,rfl⟩
 have H2:=ai h2;rw[h2]at hl2 ⊢;simp only at hl2 ⊢;obtain⟨B,hB⟩:=NX9 ((b2 || decide (1<k)))
 rw[hB];obtain⟨⟨⟨d1,d2⟩,q4⟩,h4⟩:∃x,qD (r2,B)=x:=⟨_,rfl⟩
 have H4:=ai h4;rw[h4];simp only;have v:q1.1.length<=1000000:=by omega
 have y:r2.length<=1000000:=by omega
 have E:=ai v;have HL2:=ai y;have hcs: (b2=true/\B=true)∨ (b2=false/\decide ((1:Int)< (k:Int))=true/\B=true)∨ (b2=false/\decide ((1:Int)< (k:Int))=false/\B=false):=by
  rw[<-hB];cases b2
  . by_cases h:1<k
    . have: (1:Int)< (k:Int):=by omega
      simp[h];omega
    . have:¬(1:Int)< (k:Int):=by omega
      simp[h];omega
  . simp
 clear hk hl hb1 h1 h2 h4 hl1 hl2 v y hB
 go_enter Tryz.func146,Tryz.ntmps146
 go_wp2_with fail;refine HS.o.mono ?_;rintro e w2 ⟨rfl,hr2,hg2⟩;have HR2:=ai hr2;have z2:=hg2.size;have HG2:Hid (Gb (fun g=>g=b) w w2):=D.o.trans hg2;have HZ2:=ai (hg2.bk HZ1.o (by show ¬w.heap.size=b;omega));clear hr2 hg2 hW1 HS;obtain⟨W3,hW3⟩:=NX9 (w2.alloc (.cells #[.string (ofL t),.bool false,.int .u64 0,.int .u64 0] 185))
 have F:Hid (Bk W3 w2.heap.size 185 #[.string (ofL t),.bool false,.int .u64 0,.int .u64 0]):=by rw[<-hW3];exact Bk.new w2 _ _
 have hb3:U0 w2 W3:=by rw[<-hW3];exact(ah _ w2).alloc aj _
 have I:W3.heap.size=w2.heap.size+1:=by rw[<-hW3];simp
 have G:Hid (Gb (fun g=>g=b) w W3):=HG2.o.trans (Gb.of_below hb3);have HZ3:=ai (HZ2.o.below hb3 (by omega));have HN:=ai (l7 b q1 W3 (Bk.below HR2.o hb3 (by omega)) E.o);rw[H2.o]at HN;simp only at HN;have HW3:=ai hW3;clear hb3 hW3;go_wp2_with fail;rw[HW3.o];refine HN.o.mono ?_;rintro e w4 ⟨rfl,hr4,hg4⟩;have z4:=hg4.size;have z:Hid (Gb (fun g=>g=b) w w4):=G.o.trans hg4;have A:=ai (hg4.bk HZ3.o (by show ¬w.heap.size=b;omega));have i:=ai (hg4.bk F.o (by show ¬w2.heap.size=b;omega));have HR4:=ai hr4;have hne1:b≠w2.heap.size:=by omega
 have hne2:b≠w.heap.size:=by omega
 have hkd: ((k:Int) == 1)=decide (k=1):=by
  rw[Bool.eq_iff_iff];simp;omega
 rcases hcs with ⟨rfl,rfl⟩ | ⟨rfl,hkz,rfl⟩ | ⟨rfl,hkz,rfl⟩
 . obtain⟨x0,x1,f0,f1⟩:=Bk.two hr4
   obtain⟨y0,y1,y2,y3⟩:=i.o.four;have g1:=i.o.free 1;obtain⟨W5,a⟩:=NX9 ((w4.setCell ⟨b,1,none⟩ (.bool true)).setCell ⟨w2.heap.size,1,none⟩ (.bool (decide (k=1))))
   have m:Hid (Rds W5 b (r2,true)):=by
    rw[<-a];have:=(HR4.o.set 1 (.bool true)).far (p:=⟨w2.heap.size,1,none⟩) hne1 (.bool (decide (k=1)));show Bk _ _ _ _;simpa using this
   have n:Hid (Bk W5 w2.heap.size 185 #[.string (ofL t),.bool (decide (k=1)),.int .u64 0,.int .u64 0]):=by
    rw[<-a];have:=(i.o.far (p:=⟨b,1,none⟩) hne1.symm (.bool true)).set 1 (.bool (decide (k=1)));show Bk _ _ _ _;simpa using this
   have o:Hid (Bk W5 w.heap.size 185 #[.string ⟨#[]⟩,.bool false,.int .u64 0,.int .u64 0]):=by
    rw[<-a];exact(A.o.far (p:=⟨b,1,none⟩) hne2.symm _).far (p:=⟨w2.heap.size,1,none⟩) (by show w.heap.size≠w2.heap.size;omega) _
   have C:W5.heap.size=w4.heap.size:=by rw[<-a];simp[World.setCell]
   have r:Hid (Gb (fun g=>g=b) w W5):=by
    rw[<-a];exact(z.o.trans (Gb.set (p:=fun g=>g=b) (x:=b) rfl 1 _)).after (by omega) 1 _
   have HD:=ai (lY b (r2,true) W5 m.o HL2.o);rw[H4.o]at HD;simp only at HD;clear hr4 hg4 HN HW3;go_wp2_with fail;refine HD.o.mono ?_;rintro e w6 ⟨rfl,j,c⟩;have d:=ai (c.bk n.o (by show ¬w2.heap.size=b;omega));have f:=ai (c.bk o.o (by show ¬w.heap.size=b;omega));have s:=ai j;have u:Hid (Gb (fun g=>g=b) w w6):=r.o.trans c;clear x0 x1 f0 f1 y0 y1 y2 y3 g1 j c a HD;simp only[aA];obtain⟨y0,y1,y2,y3⟩:=d.o.four;have g2:=d.o.free 2;have g3:=d.o.free 3;obtain⟨z0,z1,z2',z3⟩:=f.o.four;obtain⟨e0,e1,e2,e3⟩:=fr4 f.o;have l:w.heap.size≠w2.heap.size:=by omega
   go_wp2_with fail;refine ZW (wF Tryz.results146 rfl (yE ((f.o.far (p:=⟨w2.heap.size,2,none⟩) l _).far (p:=⟨w2.heap.size,3,none⟩) l _) _ _ _ _)) rfl ⟨rfl,?_,?_⟩
   . exact(((((s.o.far (p:=⟨w2.heap.size,2,none⟩) hne1 _).far (p:=⟨w2.heap.size,3,none⟩) hne1 _).far (p:=⟨w.heap.size,0,none⟩) hne2 _).far (p:=⟨w.heap.size,1,none⟩) hne2 _).far (p:=⟨w.heap.size,2,none⟩) hne2 _).far (p:=⟨w.heap.size,3,none⟩) hne2 _
   . exact(((((u.o.after (by omega) 2 _).after (by omega) 3 _).after aj 0 _).after aj 1 _).after aj 2 _).after aj 3 _
 . obtain⟨x0,x1,f0,f1⟩:=Bk.two hr4
   obtain⟨y0,y1,y2,y3⟩:=i.o.four;have g1:=i.o.free 1;obtain⟨W5,a⟩:=NX9 ((w4.setCell ⟨b,1,none⟩ (.bool true)).setCell ⟨w2.heap.size,1,none⟩ (.bool (decide (k=1))))
   have m:Hid (Rds W5 b (r2,true)):=by
    rw[<-a];have:=(HR4.o.set 1 (.bool true)).far (p:=⟨w2.heap.size,1,none⟩) hne1 (.bool (decide (k=1)));show Bk _ _ _ _;simpa using this
   have n:Hid (Bk W5 w2.heap.size 185 #[.string (ofL t),.bool (decide (k=1)),.int .u64 0,.int .u64 0]):=by
    rw[<-a];have:=(i.o.far (p:=⟨b,1,none⟩) hne1.symm (.bool true)).set 1 (.bool (decide (k=1)));show Bk _ _ _ _;simpa using this
   have o:Hid (Bk W5 w.heap.size 185 #[.string ⟨#[]⟩,.bool false,.int .u64 0,.int .u64 0]):=by
    rw[<-a];exact(A.o.far (p:=⟨b,1,none⟩) hne2.symm _).far (p:=⟨w2.heap.size,1,none⟩) (by show w.heap.size≠w2.heap.size;omega) _
   have C:W5.heap.size=w4.heap.size:=by rw[<-a];simp[World.setCell]
   have r:Hid (Gb (fun g=>g=b) w W5):=by
    rw[<-a];exact(z.o.trans (Gb.set (p:=fun g=>g=b) (x:=b) rfl 1 _)).after (by omega) 1 _
   have HD:=ai (lY b (r2,true) W5 m.o HL2.o);rw[H4.o]at HD;simp only at HD;clear hr4 hg4 HN HW3;go_wp2_with fail;refine HD.o.mono ?_;rintro e w6 ⟨rfl,j,c⟩;have d:=ai (c.bk n.o (by show ¬w2.heap.size=b;omega));have f:=ai (c.bk o.o (by show ¬w.heap.size=b;omega));have s:=ai j;have u:Hid (Gb (fun g=>g=b) w w6):=r.o.trans c;clear x0 x1 f0 f1 y0 y1 y2 y3 g1 j c a HD;simp only[aA];obtain⟨y0,y1,y2,y3⟩:=d.o.four;have g2:=d.o.free 2;have g3:=d.o.free 3;obtain⟨z0,z1,z2',z3⟩:=f.o.four;obtain⟨e0,e1,e2,e3⟩:=fr4 f.o;have l:w.heap.size≠w2.heap.size:=by omega
   go_wp2_with fail;refine ZW (wF Tryz.results146 rfl (yE ((f.o.far (p:=⟨w2.heap.size,2,none⟩) l _).far (p:=⟨w2.heap.size,3,none⟩) l _) _ _ _ _)) rfl ⟨rfl,?_,?_⟩
   . exact(((((s.o.far (p:=⟨w2.heap.size,2,none⟩) hne1 _).far (p:=⟨w2.heap.size,3,none⟩) hne1 _).far (p:=⟨w.heap.size,0,none⟩) hne2 _).far (p:=⟨w.heap.size,1,none⟩) hne2 _).far (p:=⟨w.heap.size,2,none⟩) hne2 _).far (p:=⟨w.heap.size,3,none⟩) hne2 _
   . exact(((((u.o.after (by omega) 2 _).after (by omega) 3 _).after aj 0 _).after aj 1 _).after aj 2 _).after aj 3 _
 . obtain⟨x0,x1,f0,f1⟩:=Bk.two hr4
   obtain⟨y0,y1,y2,y3⟩:=i.o.four;have g1:=i.o.free 1;obtain⟨W5,a⟩:=NX9 ((w4.setCell ⟨b,1,none⟩ (.bool false)).setCell ⟨w2.heap.size,1,none⟩ (.bool (decide (k=1))))
   have m:Hid (Rds W5 b (r2,false)):=by
    rw[<-a];have:=(HR4.o.set 1 (.bool false)).far (p:=⟨w2.heap.size,1,none⟩) hne1 (.bool (decide (k=1)));show Bk _ _ _ _;simpa using this
   have n:Hid (Bk W5 w2.heap.size 185 #[.string (ofL t),.bool (decide (k=1)),.int .u64 0,.int .u64 0]):=by
    rw[<-a];have:=(i.o.far (p:=⟨b,1,none⟩) hne1.symm (.bool false)).set 1 (.bool (decide (k=1)));show Bk _ _ _ _;simpa using this
   have o:Hid (Bk W5 w.heap.size 185 #[.string ⟨#[]⟩,.bool false,.int .u64 0,.int .u64 0]):=by
    rw[<-a];exact(A.o.far (p:=⟨b,1,none⟩) hne2.symm _).far (p:=⟨w2.heap.size,1,none⟩) (by show w.heap.size≠w2.heap.size;omega) _
   have C:W5.heap.size=w4.heap.size:=by rw[<-a];simp[World.setCell]
   have r:Hid (Gb (fun g=>g=b) w W5):=by
    rw[<-a];exact(z.o.trans (Gb.set (p:=fun g=>g=b) (x:=b) rfl 1 _)).after (by omega) 1 _
   have HD:=ai (lY b (r2,false) W5 m.o HL2.o);rw[H4.o]at HD;simp only at HD;clear hr4 hg4 HN HW3;go_wp2_with fail;refine HD.o.mono ?_;rintro e w6 ⟨rfl,j,c⟩;have d:=ai (c.bk n.o (by show ¬w2.heap.size=b;omega));have f:=ai (c.bk o.o (by show ¬w.heap.size=b;omega));have s:=ai j;have u:Hid (Gb (fun g=>g=b) w w6):=r.o.trans c;clear x0 x1 f0 f1 y0 y1 y2 y3 g1 j c a HD;simp only[aA];obtain⟨y0,y1,y2,y3⟩:=d.o.four;have g2:=d.o.free 2;have g3:=d.o.free 3;obtain⟨z0,z1,z2',z3⟩:=f.o.four;obtain⟨e0,e1,e2,e3⟩:=fr4 f.o;have l:w.heap.size≠w2.heap.size:=by omega
   go_wp2_with fail;refine ZW (wF Tryz.results146 rfl (yE ((f.o.far (p:=⟨w2.heap.size,2,none⟩) l _).far (p:=⟨w2.heap.size,3,none⟩) l _) _ _ _ _)) rfl ⟨rfl,?_,?_⟩
   . exact(((((s.o.far (p:=⟨w2.heap.size,2,none⟩) hne1 _).far (p:=⟨w2.heap.size,3,none⟩) hne1 _).far (p:=⟨w.heap.size,0,none⟩) hne2 _).far (p:=⟨w.heap.size,1,none⟩) hne2 _).far (p:=⟨w.heap.size,2,none⟩) hne2 _).far (p:=⟨w.heap.size,3,none⟩) hne2 _
   . exact(((((u.o.after (by omega) 2 _).after (by omega) 3 _).after aj 0 _).after aj 1 _).after aj 2 _).after aj 3 _
def QlE(t:TypeId)(sz:Nat)(xs:List UY)(n b:Nat)(s:RS)(w:UW)(e:Ending)(w':UW):Prop :=
 ∃A c,e= .returned (.slice A n c)/\n<=c/\c<=maxLen/\Apd w' w.heap.size t sz A n c xs/\Rds w' b s/\Gb (fun g=>g=b) w w'
theorem Ha{α:Type}{g:RS->α×RS}{n:Nat}{s:RS}(h:n=0∨s.2=true):qL g n s= ([],s):=by
 cases n with
 | zero=>rfl
 | succ n =>
   rcases h with h | h
   . cases h
   . rw[qL,if_pos h]
theorem Ir{α:Type}{g:RS->α×RS}{n:Nat}{s:RS}{L:List α}{S:RS}{pre:List α}(h: (pre++ (qL g (n+1) s).1,(qL g (n+1) s).2)= (L,S))(hb:s.2=false): (pre++ [(g s).1]++ (qL g n (g s).2).1,(qL g n (g s).2).2)= (L,S):=by
 rw[<-h];have e:qL g (n+1) s= ((g s).1:: (qL g n (g s).2).1,(qL g n (g s).2).2):=by rw[qL,if_neg (by rw[hb];simp)]
 rw[e,ZZ];rfl
theorem Ci(b:Nat)(q:RS)(w:UW)(hk:Rds w b q)(hl:q.1.length<=1000000) :
  Calls Tryz.prog 145 #[.pointer (some ⟨b,0,none⟩),.int .i64 200,.func (.func 146) #[.pointer (some ⟨b,0,none⟩)] #[]] w (QlE 185 4 (flat enC (qLs qE 200 q).1) (qLs qE 200 q).1.length b (qLs qE 200 q).2 w):=by
 have hbw:=Bk.lt hk;have HN:=ai (l7 b q w hk hl);have hl2:=lG q;unfold qLs;obtain⟨⟨n,r,bd⟩,hq⟩:∃x,qN q=x:=⟨_,rfl⟩
 rw[hq]at HN hl2 ⊢;simp only at HN hl2 ⊢;have hl3:r.length<=1000000:=by omega
 obtain⟨B,hB⟩:=NX9 ((bd || decide (200<n)))
 rw[hB];obtain⟨⟨L,S⟩,c⟩:∃x,qL qE n (r,B)=x:=⟨_,rfl⟩
 have G:=ai c;rw[c];simp only;have H:Hid (n<=200∨B=true):=by
  show _∨_;rw[<-hB];by_cases h:200<n
  . right;simp[h]
  . left;omega
 have hcs: (bd=true/\B=true)∨ (bd=false/\decide ((200:Int)< (n:Int))=true/\B=true)∨ (bd=false/\decide ((200:Int)< (n:Int))=false/\B=false):=by
  rw[<-hB];cases bd
  . by_cases h:200<n
    . have: (200:Int)< (n:Int):=by omega
      simp[h];omega
    . have:¬(200:Int)< (n:Int):=by omega
      simp[h];omega
  . simp
 have I:=ai hl3;obtain⟨i0,hi,hz0,hz1,hz2⟩:=info_parts GX;have Hi:=ai hi;have J:=ai hz0;have K:=ai hz1;have M:=ai hz2;clear hk hl hl2 hl3 hi hz0 hz1 hz2 hq c hB
 go_enter Tryz.func145,Tryz.ntmps145
 go_wp2_with fail;refine HN.o.mono ?_;rintro e w1 ⟨rfl,hr1,hg1⟩;have HR1:=ai hr1;obtain⟨x0,x1,f0,f1⟩:=Bk.two hr1;have z1:=hg1.size;obtain⟨W2,hW2⟩:=NX9 (w1.setCell ⟨b,1,none⟩ (.bool B))
 have HR2:Hid (Rds W2 b (r,B)):=by
  rw[<-hW2];have:=HR1.o.set 1 (.bool B);show Bk _ _ _ _;simpa using this
 have HG2:Hid (Gb (fun g=>g=b) w W2):=by rw[<-hW2];exact hg1.trans (Gb.set (p:=fun g=>g=b) (x:=b) rfl 1 _)
 clear hr1 hg1 HN;have hcell:∀B',B=B'->w1.setCell ⟨b,1,none⟩ (.bool B')=W2:=fun B' h=>by rw[<-h];exact hW2
 rcases hcs with ⟨rfl,a⟩ | ⟨rfl,hmz,a⟩ | ⟨rfl,hmz,a⟩
 all_goals
  have t:=hcell _ a;have T:=ai a;clear a hcell hW2;go_wp2_with fail;clear t x0 x1 f0 f1
  go_loopw[8,9] (fun l i wr=>∃(j:Nat)(o:OA)(cj:Nat)(pre:List Ent)(st:RS),l= .slice o j cj/\i= .int .i64 (j:Int)/\j<=n/\j<=cj/\cj<=maxLen/\Hid (pre.length=j)/\Hid ((pre++ (qL qE (n - j) st).1,(qL qE (n - j) st).2)= (L,S))/\Hid (n<=200∨st.2=true)/\Hid (st.1.length<=1000000)/\Hid (Apd wr w.heap.size 185 4 o j cj (flat enC pre))/\Hid (Rds wr b st)/\Hid (Gb (fun g=>g=b) w wr)) (fun _ i _=>n - (intOf i).toNat)
  case atStart=>exact⟨0,none,0,[],(r,B),rfl,rfl,ZX _,Nat.le_refl _,ZX _,rfl,by show _=_;rw[Nat.sub_zero,G.o];rfl,H.o,I.o,.inr ⟨rfl,rfl,rfl⟩,HR2.o,HG2.o⟩
  case round =>
   obtain⟨j,o,cj,pre,st,rfl,rfl,hj,hjc,hcm,u,v,y,hST,hA,hR,hG⟩:=hrel;have d:=ai u.o;have z:=ai v.o;have A:=ai y.o;have HST:=ai hST.o;obtain⟨sr,sb⟩:=st;have hR':Bk wr b _ _:=hR.o;obtain⟨x0,x1,_,_⟩:=Bk.two hR';have zr:=hG.o.size;simp only at x0 x1;clear u v y hST hR';by_cases hend:n - j=0∨sb=true
   . have HE:=ai (Ha (g:=qE) (n:=n - j) (s:=(sr,sb)) hend)
     have HQ:Hid ((pre,(sr,sb))= (L,S)):=by show _=_;have h:=z.o;rw[HE.o]at h;simpa using h
     have C:Hid (pre=L):=congrArg Prod.fst HQ.o;have D:Hid ((sr,sb)=S):=congrArg Prod.snd HQ.o;rcases hend with h0 | rfl
     . have hjz:¬(j:Int)< (n:Int):=by omega
       go_wp2_with fail;go_ret
       rw[<-C.o,<-D.o,d.o];exact⟨o,cj,rfl,hjc,hcm,hA.o,hR.o,hG.o⟩
     . by_cases hjz: (j:Int)< (n:Int)
       all_goals
        go_wp2_with fail;go_ret
        rw[<-C.o,<-D.o,d.o];exact⟨o,cj,rfl,hjc,hcm,hA.o,hR.o,hG.o⟩
   . have hlt:j<n:=by omega
     have hsb:sb=false:=by cases sb <;> simp_all
     subst hsb;have hjz: (j:Int)< (n:Int):=by omega
     have hn2:n<=200:=by have h:=A.o;simpa using h
     have HC:=ai (Lp b (sr,false) wr hR.o HST.o);have f:=ai (SQ (sr,false));have k:Hid ((pre++ [(qE (sr,false)).1]++ (qL qE (n - (j+1)) (qE (sr,false)).2).1,(qL qE (n - (j+1)) (qE (sr,false)).2).2)= (L,S)):=by
      have h:=z.o;rw[show n - j=n - (j+1)+1 by omega]at h;exact Ir h rfl
     obtain⟨⟨en,s4⟩,hge⟩:∃x,qE (sr,false)=x:=⟨_,rfl⟩
     rw[hge]at HC f k;simp only at HC f k;clear hend hge
     go_wp2_with (first | (go_at_call 146;refine HC.o.mono ?_;rintro e w3 ⟨rfl,hr3,hg3⟩;simp only[Jc]) | (at_builtin;refine Es (.tmp 36) (.tmp 39) 107 rfl ?_))
     refine aH ?_;have z3:=hg3.size;refine dZ (base:=w.heap.size) (size:=4) _ rfl (.tmp 36) (.tmp 39) 107 rfl 185 i0 _ 40 Tryz.underlying107 Hi.o J.o K.o M.o rfl (by decide) o j cj (flat enC pre) rfl ?own_1 (w3.heap.size+1) _ 1 _ (enC en) rfl ?nw_1 (by simp[enC,Value.oneCell']) ?m1_1 ?m2_1 ?m3_1 ?_
     case own_1=>exact(hA.o.gb hg3 hbw).below ((ah _ w3).alloc aj _)
     case nw_1 =>
      have:=Sl.of_bk (n:=1) (size:=4) (Bk.new w3 185 #[.string en.nm,.bool en.dir,.int .u64 en.dg.1,.int .u64 en.dg.2]) rfl;rw[Z9]at this;exact this
     case m1_1=>unfold maxLen;omega
     case m2_1=>omega
     case m3_1=>simp;omega
     intro A4 c4 w4 E hb4 hn4 hm4 F;have N:Hid (Apd w4 w.heap.size 185 4 A4 (j+1) c4 (flat enC (pre++ [en]))):=by
      show Apd _ _ _ _ _ _ _ _;rw[bI]
      simpa [flat] using E
     have m:Below w.heap.size w3 w4:=((ah w.heap.size w3).alloc (by omega) _).trans hb4;have O:Hid (Gb (fun g=>g=b) w w4):=(hG.o.trans hg3).onto m;have HR4:Hid (Rds w4 b s4):=Bk.below hr3 m hbw;have P:Hid ((pre++ [en]).length=j+1):=by show _=_;rw[af,d.o];rfl
     have Q:Hid (s4.1.length<=1000000):=ZY f.o HST.o;have R:Hid (n<=200∨s4.2=true):= .inl hn2;clear E hb4 F hr3 hg3 m HC x0 x1;go_wp2_with fail;go_roundw
     case rel=>exact⟨j+1,A4,c4,pre++ [en],s4,rfl,by go_num,hlt,hn4,hm4,P.o,k.o,R.o,Q.o,N.o,HR4.o,O.o⟩
     case measure=>simp[intOf];omega
theorem Cf(b:Nat)(q:RS)(w:UW)(hk:Rds w b q)(hl:q.1.length<=1000000) :
  Calls Tryz.prog 148 #[.pointer (some ⟨b,0,none⟩),.int .i64 8,.func (.func 147) #[.pointer (some ⟨b,0,none⟩)] #[]] w (QlE 50 2 (flat dgC (qLs qD 8 q).1) (qLs qD 8 q).1.length b (qLs qD 8 q).2 w):=by
 have hbw:=Bk.lt hk;have HN:=ai (l7 b q w hk hl);have hl2:=lG q;unfold qLs;obtain⟨⟨n,r,bd⟩,hq⟩:∃x,qN q=x:=⟨_,rfl⟩
 rw[hq]at HN hl2 ⊢;simp only at HN hl2 ⊢;have hl3:r.length<=1000000:=by omega
 obtain⟨B,hB⟩:=NX9 ((bd || decide (8<n)))
 rw[hB];obtain⟨⟨L,S⟩,c⟩:∃x,qL qD n (r,B)=x:=⟨_,rfl⟩
 have G:=ai c;rw[c];simp only;have H:Hid (n<=8∨B=true):=by
  show _∨_;rw[<-hB];by_cases h:8<n
  . right;simp[h]
  . left;omega
 have hcs: (bd=true/\B=true)∨ (bd=false/\decide ((8:Int)< (n:Int))=true/\B=true)∨ (bd=false/\decide ((8:Int)< (n:Int))=false/\B=false):=by
  rw[<-hB];cases bd
  . by_cases h:8<n
    . have: (8:Int)< (n:Int):=by omega
      simp[h];omega
    . have:¬(8:Int)< (n:Int):=by omega
      simp[h];omega
  . simp
 have I:=ai hl3;obtain⟨i0,hi,hz0,hz1,hz2⟩:=info_parts lM;have Hi:=ai hi;have J:=ai hz0;have K:=ai hz1;have M:=ai hz2;clear hk hl hl2 hl3 hi hz0 hz1 hz2 hq c hB
 go_enter Tryz.func148,Tryz.ntmps148
 go_wp2_with fail;refine HN.o.mono ?_;rintro e w1 ⟨rfl,hr1,hg1⟩;have HR1:=ai hr1;obtain⟨x0,x1,f0,f1⟩:=Bk.two hr1;have z1:=hg1.size;obtain⟨W2,hW2⟩:=NX9 (w1.setCell ⟨b,1,none⟩ (.bool B))
 have HR2:Hid (Rds W2 b (r,B)):=by
  rw[<-hW2];have:=HR1.o.set 1 (.bool B);show Bk _ _ _ _;simpa using this
 have HG2:Hid (Gb (fun g=>g=b) w W2):=by rw[<-hW2];exact hg1.trans (Gb.set (p:=fun g=>g=b) (x:=b) rfl 1 _)
 clear hr1 hg1 HN;have hcell:∀B',B=B'->w1.setCell ⟨b,1,none⟩ (.bool B')=W2:=fun B' h=>by rw[<-h];exact hW2
 rcases hcs with ⟨rfl,a⟩ | ⟨rfl,hmz,a⟩ | ⟨rfl,hmz,a⟩
 all_goals
  have t:=hcell _ a;have T:=ai a;clear a hcell hW2;go_wp2_with fail;clear t x0 x1 f0 f1
  go_loopw[8,9] (fun l i wr=>∃(j:Nat)(o:OA)(cj:Nat)(pre:List Dig)(st:RS),l= .slice o j cj/\i= .int .i64 (j:Int)/\j<=n/\j<=cj/\cj<=maxLen/\Hid (pre.length=j)/\Hid ((pre++ (qL qD (n - j) st).1,(qL qD (n - j) st).2)= (L,S))/\Hid (n<=8∨st.2=true)/\Hid (st.1.length<=1000000)/\Hid (Apd wr w.heap.size 50 2 o j cj (flat dgC pre))/\Hid (Rds wr b st)/\Hid (Gb (fun g=>g=b) w wr)) (fun _ i _=>n - (intOf i).toNat)
  case atStart=>exact⟨0,none,0,[],(r,B),rfl,rfl,ZX _,Nat.le_refl _,ZX _,rfl,by show _=_;rw[Nat.sub_zero,G.o];rfl,H.o,I.o,.inr ⟨rfl,rfl,rfl⟩,HR2.o,HG2.o⟩
  case round =>
   obtain⟨j,o,cj,pre,st,rfl,rfl,hj,hjc,hcm,u,v,y,hST,hA,hR,hG⟩:=hrel;have d:=ai u.o;have z:=ai v.o;have A:=ai y.o;have HST:=ai hST.o;obtain⟨sr,sb⟩:=st;have hR':Bk wr b _ _:=hR.o;obtain⟨x0,x1,_,_⟩:=Bk.two hR';have zr:=hG.o.size;simp only at x0 x1;clear u v y hST hR';by_cases hend:n - j=0∨sb=true
   . have HE:=ai (Ha (g:=qD) (n:=n - j) (s:=(sr,sb)) hend)
     have HQ:Hid ((pre,(sr,sb))= (L,S)):=by show _=_;have h:=z.o;rw[HE.o]at h;simpa using h
     have C:Hid (pre=L):=congrArg Prod.fst HQ.o;have D:Hid ((sr,sb)=S):=congrArg Prod.snd HQ.o;rcases hend with h0 | rfl
     . have hjz:¬(j:Int)< (n:Int):=by omega
       go_wp2_with fail;go_ret
       rw[<-C.o,<-D.o,d.o];exact⟨o,cj,rfl,hjc,hcm,hA.o,hR.o,hG.o⟩
     . by_cases hjz: (j:Int)< (n:Int)
       all_goals
        go_wp2_with fail;go_ret
        rw[<-C.o,<-D.o,d.o];exact⟨o,cj,rfl,hjc,hcm,hA.o,hR.o,hG.o⟩
   . have hlt:j<n:=by omega
     have hsb:sb=false:=by cases sb <;> simp_all
     subst hsb;have hjz: (j:Int)< (n:Int):=by omega
     have hn2:n<=8:=by have h:=A.o;simpa using h
     have HC:=ai (lY b (sr,false) wr hR.o HST.o);have f:=ai (tX (sr,false));have k:Hid ((pre++ [(qD (sr,false)).1]++ (qL qD (n - (j+1)) (qD (sr,false)).2).1,(qL qD (n - (j+1)) (qD (sr,false)).2).2)= (L,S)):=by
      have h:=z.o;rw[show n - j=n - (j+1)+1 by omega]at h;exact Ir h rfl
     obtain⟨⟨en,s4⟩,hge⟩:∃x,qD (sr,false)=x:=⟨_,rfl⟩
     rw[hge]at HC f k;simp only at HC f k;clear hend hge
     go_wp2_with (first | (go_at_call 147;refine HC.o.mono ?_;rintro e w3 ⟨rfl,hr3,hg3⟩;simp only[aA]) | (at_builtin;refine Es (.tmp 36) (.tmp 39) 47 rfl ?_))
     refine aH ?_;have z3:=hg3.size;refine dZ (base:=w.heap.size) (size:=2) _ rfl (.tmp 36) (.tmp 39) 47 rfl 50 i0 _ 16 Tryz.underlying47 Hi.o J.o K.o M.o rfl (by decide) o j cj (flat dgC pre) rfl ?own_1 (w3.heap.size+1) _ 1 _ (dgC en) rfl ?nw_1 (by simp[dgC,Value.oneCell']) ?m1_1 ?m2_1 ?m3_1 ?_
     case own_1=>exact(hA.o.gb hg3 hbw).below ((ah _ w3).alloc aj _)
     case nw_1 =>
      have:=Sl.of_bk (n:=1) (size:=2) (Bk.new w3 50 #[.int .u64 en.1,.int .u64 en.2]) rfl;rw[Z9]at this;exact this
     case m1_1=>unfold maxLen;omega
     case m2_1=>omega
     case m3_1=>simp;omega
     intro A4 c4 w4 E hb4 hn4 hm4 F;have N:Hid (Apd w4 w.heap.size 50 2 A4 (j+1) c4 (flat dgC (pre++ [en]))):=by
      show Apd _ _ _ _ _ _ _ _;rw[bI]
      simpa [flat] using E
     have m:Below w.heap.size w3 w4:=((ah w.heap.size w3).alloc (by omega) _).trans hb4;have O:Hid (Gb (fun g=>g=b) w w4):=(hG.o.trans hg3).onto m;have HR4:Hid (Rds w4 b s4):=Bk.below hr3 m hbw;have P:Hid ((pre++ [en]).length=j+1):=by show _=_;rw[af,d.o];rfl
     have Q:Hid (s4.1.length<=1000000):=ZY f.o HST.o;have R:Hid (n<=8∨s4.2=true):= .inl hn2;clear E hb4 F hr3 hg3 m HC x0 x1;go_wp2_with fail;go_roundw
     case rel=>exact⟨j+1,A4,c4,pre++ [en],s4,rfl,by go_num,hlt,hn4,hm4,P.o,k.o,R.o,Q.o,N.o,HR4.o,O.o⟩
     case measure=>simp[intOf];omega
theorem ou(b k:Nat)(r:UZ)(w:UW)(hk:Rdr w b (ak k++r))(hm:k<=1099511627776)(hl: (ak k++r).length<=1000000) :
  Calls Tryz.prog 143 #[.pointer (some ⟨b,0,none⟩)] w (RdE (.int .i64 k) b r w):=by
 have h:=l7 b (ak k++r,false) w hk hl;rw[yO hm]at h;exact h
theorem qZ(b:Nat)(x:UX)(r:UZ)(w:UW)(hk:Rdr w b (ax (toL x)++r))(hm:x.size<=65536)(hl: (ax (toL x)++r).length<=1000000) :
  Calls Tryz.prog 144 #[.pointer (some ⟨b,0,none⟩)] w (RdE (.string x) b r w):=by
 have h:=lZ b (ax (toL x)++r,false) w hk hl;rw[Ht (by rw[<-aQ];exact hm),ja]at h;exact h
theorem JW(b:Nat)(d:Dig)(r:UZ)(w:UW)(hk:Rdr w b (ay d++r))(hd:WfD d)(hl: (ay d++r).length<=1000000) :
  Calls Tryz.prog 147 #[.pointer (some ⟨b,0,none⟩)] w (RdE (aA d) b r w):=by
 have h:=lY b (ay d++r,false) w hk hl;rw[ug hd]at h;exact h
theorem MK(b:Nat)(es:List Ent)(r:UZ)(w:UW)(hk:Rdr w b (ak es.length++ (es.flatMap aU++r)))(hok:∀e∈es,je e)(hn:es.length<=200)(hl: (ak es.length++ (es.flatMap aU++r)).length<=1000000) :
  Calls Tryz.prog 145 #[.pointer (some ⟨b,0,none⟩),.int .i64 200,.func (.func 146) #[.pointer (some ⟨b,0,none⟩)] #[]] w (RlE 185 4 (flat enC es) es.length b r w):=by
 have h:=Ci b (ak es.length++ (es.flatMap aU++r),false) w hk hl;rw[Gs (enc:=aU) hn (by omega) r (fun e he r=>Tt (hok e he) r)]at h;exact h
theorem KT(b:Nat)(es:List Dig)(r:UZ)(w:UW)(hk:Rdr w b (ak es.length++ (es.flatMap ay++r)))(hok:∀e∈es,WfD e)(hn:es.length<=8)(hl: (ak es.length++ (es.flatMap ay++r)).length<=1000000) :
  Calls Tryz.prog 148 #[.pointer (some ⟨b,0,none⟩),.int .i64 8,.func (.func 147) #[.pointer (some ⟨b,0,none⟩)] #[]] w (RlE 50 2 (flat dgC es) es.length b r w):=by
 have h:=Cf b (ak es.length++ (es.flatMap ay++r),false) w hk hl;rw[Gs (enc:=ay) hn (by omega) r (fun e he r=>ug (hok e he) r)]at h;exact h
