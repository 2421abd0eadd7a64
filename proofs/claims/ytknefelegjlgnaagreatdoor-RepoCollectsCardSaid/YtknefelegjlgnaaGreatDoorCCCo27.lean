/-
  Lemmas of the card.
-/
import Derived.Test.YtknefelegjlgnaaGreatDoorCCCo26
set_option maxRecDepth 100000
set_option maxHeartbeats 16000000
namespace Go.Proofs.YtknefelegjlgnaaGreatDoor
open Go.RowKit
theorem wR(s:SY)(m:Nat):s.extract m s.size=ofL ((toL s).drop m):=by
 apply mY
 rw[bY];show(s.extract m s.size).data.toList=s.data.toList.drop m;rw[ByteArray.data_extract,Array.toList_extract,List.extract_eq_take_drop,ZU];rw[List.length_drop];exact Nat.le_refl _
def Rds(w:SX)(b:Nat)(s:RS):Prop:=Bk w b 229 #[.string (ofL s.1),.bool s.2]
def RsE(v:Tc)(b:Nat)(s:RS)(w:SX)(e:Ending)(w':SX):Prop:=e= .returned v/\Rds w' b s/\Gb (fun g=>g=b) w w'
theorem oz(b:Nat)(q:RS)(w:SX)(hk:Rds w b q)(hl:q.1.length<=1000000) :
  Calls Tryz.prog 143 #[.pointer (some ⟨b,0,none⟩)] w (RsE (.int .i64 ((qN q).1:Nat)) b (qN q).2 w):=by
 unfold Rds at hk;obtain⟨l,bad⟩:=q;obtain⟨s,hs⟩:=NX9 (ofL l)
 have hls:l=toL s:=by rw[<-hs,bY]
 subst hls;simp only[hs]at hk hl;have hsz:s.size= (toL s).length:=aT s;have hle:=ny (toL s);have HG:=ai (kX s w);unfold qN;simp only;obtain⟨⟨v,m,x⟩,hg⟩:∃g,aB (toL s)=g:=⟨_,rfl⟩
 rw[hg]at HG hle ⊢;simp only at hle ⊢;have HX:=ai (wR s m);have a: (m:Int)<= (s.size:Int):=by omega
 have hsm: (s.size:Int)<=1000000:=by omega
 have HK:=ai hk;obtain⟨x0,x1,f0,f1⟩:=hk.two;clear hk hs hsz hle hg hl;have fin:∀c:Bool,c= (bad || decide (x≠0))->RsE (.int .i64 (v:Nat)) b ((toL s).drop m,bad || decide (x≠0)) w (.returned (.int .i64 v)) ((w.setCell ⟨b,1,none⟩ (.bool c)).setCell ⟨b,0,none⟩ (.string (s.extract m s.size))):=by
  rintro c rfl;refine⟨rfl,?_,jB _ _ _ _⟩;show Bk _ _ _ #[.string (ofL ((toL s).drop m)),.bool _];rw[<-HX.o];exact jA HK.o _ _
 have FIN:=ai fin;clear fin
 go_enter Tryz.func143,Tryz.ntmps143
 go_wp2_with fail;refine HG.o.mono ?_;rintro e w' ⟨rfl,rfl⟩;cases bad
 . by_cases hx:x=0
   . subst hx
     go_wp2_with fail;go_ret
     exact FIN.o false (by simp)
   . have hxb: (x != 0)=true:=by simpa using hx
     go_wp2_with fail;go_ret
     exact FIN.o true (by simp[hx])
 . go_wp2_with fail
   go_ret
   exact FIN.o true (by simp)
theorem ou(b:Nat)(q:RS)(w:SX)(hk:Rds w b q)(hl:q.1.length<=1000000) :
  Calls Tryz.prog 144 #[.pointer (some ⟨b,0,none⟩)] w (RsE (.string (ofL (qT q).1)) b (qT q).2 w):=by
 unfold Rds at hk;obtain⟨l,bad⟩:=q;obtain⟨s,hs⟩:=NX9 (ofL l)
 have hls:l=toL s:=by rw[<-hs,bY]
 subst hls;simp only[hs]at hk hl;have hsz:s.size= (toL s).length:=aT s;have hle:=tC (toL s);have HG:=ai (ry s (by unfold maxLen;omega) w);unfold qT;simp only;obtain⟨⟨v,m,x⟩,hg⟩:∃g,aN (toL s)=g:=⟨_,rfl⟩
 rw[hg]at HG hle ⊢;simp only at hle ⊢;unfold qI at HG;simp only at HG;have HX:=ai (wR s m);have a: (m:Int)<= (s.size:Int):=by omega
 have hsm: (s.size:Int)<=1000000:=by omega
 have HK:=ai hk;obtain⟨x0,x1,f0,f1⟩:=hk.two;clear hk hs hsz hle hg hl;have fin:∀c:Bool,c= (bad || decide (x≠0))->RsE (.string (ofL v)) b ((toL s).drop m,bad || decide (x≠0)) w (.returned (.string (ofL v))) ((w.setCell ⟨b,1,none⟩ (.bool c)).setCell ⟨b,0,none⟩ (.string (s.extract m s.size))):=by
  rintro c rfl;refine⟨rfl,?_,jB _ _ _ _⟩;show Bk _ _ _ #[.string (ofL ((toL s).drop m)),.bool _];rw[<-HX.o];exact jA HK.o _ _
 have FIN:=ai fin;clear fin
 go_enter Tryz.func144,Tryz.ntmps144
 go_wp2_with fail;refine HG.o.mono ?_;rintro e w' ⟨rfl,rfl⟩;cases bad
 . by_cases hx:x=0
   . subst hx
     go_wp2_with fail;go_ret
     exact FIN.o false (by simp)
   . have hxb: (x != 0)=true:=by simpa using hx
     go_wp2_with fail;go_ret
     exact FIN.o true (by simp[hx])
 . go_wp2_with fail
   go_ret
   exact FIN.o true (by simp)
theorem nX(b:Nat)(q:RS)(w:SX)(hk:Rds w b q)(hl:q.1.length<=1000000) :
  Calls Tryz.prog 147 #[.pointer (some ⟨b,0,none⟩)] w (RsE (aG (qD q).1) b (qD q).2 w):=by
 unfold Rds at hk;obtain⟨l,bad⟩:=q;obtain⟨s,hs⟩:=NX9 (ofL l)
 have hls:l=toL s:=by rw[<-hs,bY]
 subst hls;simp only[hs]at hk hl;have hsz:s.size= (toL s).length:=aT s;have HX:=ai (wR s 16);rw[<-hsz]at hl;have HE:=ai (yT (toL s));have hbw:=hk.lt;obtain⟨W0,hW0⟩:=NX9 ((w.alloc (.cells #[.int .u64 0,.int .u64 0] 50)).alloc (.cells #[.int .u64 0,.int .u64 0] 50))
 have c:Hid (Bk W0 w.heap.size 50 #[.int .u64 0,.int .u64 0]):=by rw[<-hW0];exact(Bk.new w _ _).alloc _
 have d:Hid (Bk W0 (w.heap.size+1) 50 #[.int .u64 0,.int .u64 0]):=by
  rw[<-hW0];have:=Bk.new (w.alloc (.cells #[.int .u64 0,.int .u64 0] 50)) 50 #[.int .u64 0,.int .u64 0]
  rwa[Z9]at this
 have HB:Ti w W0:=by rw[<-hW0];exact((ah _ w).alloc aj _).alloc (by simp) _
 have HR:=ai hk;obtain⟨x0,x1,_,_⟩:=(hk.below HB.o hbw).two;clear hk hs;unfold qD;simp only;rw[<-hsz];clear hsz;have e:b≠w.heap.size:=by omega
 have f:b≠w.heap.size+1:=by omega
 by_cases hsh:s.size<16
 . have h: (s.size:Int)<16:=by omega
   rw[if_pos hsh];obtain⟨_,_,g0,g1⟩:=(HR.o.below HB.o hbw).two;obtain⟨u0,u1,e0,e1⟩:=c.o.two;obtain⟨v0,v1,_,_⟩:=d.o.two;rw[<-hW0]at x0 x1 g0 g1 u0 u1 e0 e1 v0 v1;have HW0:=ai hW0;clear hW0
   go_enter Tryz.func147,Tryz.ntmps147
   go_wp2_with fail;have hz1: (w.setCell ⟨b,1,none⟩ (.bool true)).heap.size=w.heap.size:=by simp
   have hbn:=Bk.new (w.setCell ⟨b,1,none⟩ (.bool true)) 50 #[.int .u64 0,.int .u64 0];rw[hz1]at hbn;refine ZW (oQ Tryz.results147 rfl (hbn.alloc _)) rfl ⟨rfl,?_,?_⟩
   . show Bk _ _ _ #[.string (ofL (toL s)),.bool true]
     rw[jC];have:=((HR.o.set 1 (.bool true)).alloc (.cells #[.int .u64 0,.int .u64 0] 50)).alloc (.cells #[.int .u64 0,.int .u64 0] 50)
     simpa using this
   . exact(Gb.set (p:=fun g=>g=b) (x:=b) rfl 1 _).trans (Gb.of_below (((ah _ _).alloc aj _).alloc (by simp) _))
 have h16:16<=s.size:=by omega
 have h:¬(s.size:Int)<16:=by omega
 have n: (16:Int)<= (s.size:Int):=by omega
 rw[if_neg hsh];clear hsh
 go_enter Tryz.func147,Tryz.ntmps147
 go_wp2_with fail;clear hW0
 go_loopw[15] (fun i wr=>∃k:Nat,k<=16/\i= .int .i64 k/\Hid (Bk wr w.heap.size 50 #[.int .u64 0,.int .u64 0])/\Hid (Bk wr (w.heap.size+1) 50 #[.int .u64 (wd1 (toL s) k),.int .u64 (wd2 (toL s) k)])/\Ti w wr) (fun i _=>16 - (intOf i).toNat)
 case atStart=>exact⟨0,by omega,rfl,c.o,d.o,HB.o⟩
 case round =>
  obtain⟨k,hk,rfl,J0,J1,hB⟩:=hrel;clear x0 x1;obtain⟨x0,x1,xf,_⟩:=(HR.o.below hB.o hbw).two;by_cases hlt:k<16
  . have hsz:k<s.size:=by omega
    have hd:s[k].toNat<256:=s[k].toNat_lt;have hki: (k:Int)<16:=by omega
    by_cases h8:k<8
    . have hx:=yE (l:=toL s) h8
      obtain⟨e1,e2⟩:=xE (mD hsz) h8;have a:=ai e1;have HE2:=ai e2;have y0:=J1.o.cell 0;have y1:=J1.o.cell 1;have f0:=J1.o.free 0;simp at y0 y1;clear e1 e2 HX;have hq: (k:Int) / 8=0:=by omega
      generalize wd1 (toL s) k=x at *;generalize wd2 (toL s) k=y at *;have hor:=mX (x:=x) (y:=s[k].toNat) (by omega) (by omega);go_wp2_with fail
      go_region
      go_wp2_with fail;go_roundw
      case rel=>exact⟨k+1,by omega,by go_num,J0.o.far (p:=⟨w.heap.size+1,0,none⟩) (by simp) _,by show Bk _ _ _ _;rw[a.o,HE2.o];exact J1.o.set 0 _,(hB.o.setCell (p:=⟨w.heap.size+1,0,none⟩) (by simp) _).drew⟩
      case measure=>simp[intOf];omega
    . have hx:=yL (l:=toL s) hlt
      obtain⟨e1,e2⟩:=wV (mD hsz) (by omega);have a:=ai e1;have HE2:=ai e2;have y0:=J1.o.cell 0;have y1:=J1.o.cell 1;have f1:=J1.o.free 1;simp at y0 y1;clear e1 e2 HX;have hq: (k:Int) / 8=1:=by omega
      generalize wd1 (toL s) k=x at *;generalize wd2 (toL s) k=y at *;have hor:=mX (x:=y) (y:=s[k].toNat) (by omega) (by omega);go_wp2_with fail
      go_region
      go_wp2_with fail;go_roundw
      case rel=>exact⟨k+1,by omega,by go_num,J0.o.far (p:=⟨w.heap.size+1,1,none⟩) (by simp) _,by show Bk _ _ _ _;rw[a.o,HE2.o];exact J1.o.set 1 _,(hB.o.setCell (p:=⟨w.heap.size+1,1,none⟩) (by simp) _).drew⟩
      case measure=>simp[intOf];omega
  . have hke:Hid (k=16):=by show _=_;omega
    have hki:¬(k:Int)<16:=by omega
    have j:Hid (dg (toL s)= ((wd1 (toL s) k:Int),(wd2 (toL s) k:Int))):=by show _=_;rw[hke.o];exact HE.o
    have m:=ai (HR.o.below hB.o hbw);obtain⟨y0,y1,_,_⟩:=J1.o.two;obtain⟨z0,z1,f0,f1⟩:=J0.o.two;generalize wd1 (toL s) k=x at *;generalize wd2 (toL s) k=y at *;clear hlt;have hne1:=e;have hne2:=f;go_wp2_with fail;refine ZW (oQ Tryz.results147 rfl ((J0.o.far (p:=⟨b,0,none⟩) hne1.symm _).set2 _ _)) rfl ⟨by rw[j.o];rfl,?_,?_⟩
    . show Bk _ _ _ #[.string (ofL ((toL s).drop 16)),.bool bad]
      rw[<-HX.o];have:=(((m.o.set 0 (.string (s.extract 16 s.size))).far (p:=⟨w.heap.size,0,none⟩) hne1 (.int .u64 x)).far (p:=⟨w.heap.size,1,none⟩) hne1 (.int .u64 y))
      simpa using this
    . exact((((Gb.of_below hB.o).trans (Gb.set (p:=fun g=>g=b) (x:=b) rfl 0 _)).after aj 0 _).after aj 1 _)
theorem yG(q:RS): (qT q).2.1.length<=q.1.length:=by unfold qT;simp only[List.length_drop];omega
theorem lI(q:RS): (qN q).2.1.length<=q.1.length:=by unfold qN;simp only[List.length_drop];omega
theorem uh(q:RS): (qD q).2.1.length<=q.1.length:=by
 unfold qD;split
 . exact Nat.le_refl _
 . simp only[List.length_drop];omega
theorem QA(q:RS): (qE q).2.1.length<=q.1.length:=by
 unfold qE;simp only;exact ZY (uh _) (ZY (lI _) (yG _))
theorem JZ(b:Nat)(q:RS)(w:SX)(hk:Rds w b q)(hl:q.1.length<=1000000) :
  Calls Tryz.prog 146 #[.pointer (some ⟨b,0,none⟩)] w (RsE (uI (qE q).1) b (qE q).2 w):=by
 have hbw:=Bk.lt hk;have hl1:=yG q;obtain⟨W1,hW1⟩:=NX9 (w.alloc (.cells #[.string ⟨#[]⟩,.bool false,.int .u64 0,.int .u64 0] 185))
 have HZ1:Hid (Bk W1 w.heap.size 185 #[.string ⟨#[]⟩,.bool false,.int .u64 0,.int .u64 0]):=by rw[<-hW1];exact Bk.new w _ _
 have hb1:Tf w W1:=by rw[<-hW1];exact(ah _ w).alloc aj _
 have H:W1.heap.size=w.heap.size+1:=by rw[<-hW1];simp
 have D:Hid (Gb (fun g=>g=b) w W1):=Gb.of_below hb1;have HS:=ai (ou b q W1 (Bk.below hk hb1 hbw) hl);unfold qE;obtain⟨⟨t,q1⟩,h1⟩:∃x,qT q=x:=⟨_,rfl⟩
 rw[h1]at HS hl1 ⊢;simp only at HS hl1 ⊢;have hl2:=lI q1;obtain⟨⟨k,r2,b2⟩,h2⟩:∃x,qN q1=x:=⟨_,rfl⟩
 have H2:=ai h2;rw[h2]at hl2 ⊢;simp only at hl2 ⊢;obtain⟨B,hB⟩:=NX9 ((b2 || decide (1<k)))
 rw[hB];obtain⟨⟨⟨d1,d2⟩,q4⟩,h4⟩:∃x,qD (r2,B)=x:=⟨_,rfl⟩
 have H4:=ai h4;rw[h4];simp only;have v:q1.1.length<=1000000:=by omega
 have y:r2.length<=1000000:=by omega
 have E:=ai v;have HL2:=ai y;have hcs: (b2=true/\B=true)∨ (b2=false/\decide ((1:Int)< (k:Int))=true/\B=true)∨ (b2=false/\decide ((1:Int)< (k:Int))=false/\B=false):=by
  rw[<-hB];cases b2
  . by_cases h:1<k
    . have: (1:Int)< (k:Int):=by omega
      simp[h];omega
    . have:¬(1:Int)< (k:Int):=by omega
      simp[h];omega
  . simp
 clear hk hl hb1 h1 h2 h4 hl1 hl2 v y hB
 go_enter Tryz.func146,Tryz.ntmps146
 go_wp2_with fail;refine HS.o.mono ?_;rintro e w2 ⟨rfl,hr2,hg2⟩;have HR2:=ai hr2;have z2:=hg2.size;have HG2:Hid (Gb (fun g=>g=b) w w2):=D.o.trans hg2;have HZ2:=ai (hg2.bk HZ1.o (by show ¬w.heap.size=b;omega));clear hr2 hg2 hW1 HS;obtain⟨W3,hW3⟩:=NX9 (w2.alloc (.cells #[.string (ofL t),.bool false,.int .u64 0,.int .u64 0] 185))
 have F:Hid (Bk W3 w2.heap.size 185 #[.string (ofL t),.bool false,.int .u64 0,.int .u64 0]):=by rw[<-hW3];exact Bk.new w2 _ _
 have hb3:Tf w2 W3:=by rw[<-hW3];exact(ah _ w2).alloc aj _
 have I:W3.heap.size=w2.heap.size+1:=by rw[<-hW3];simp
 have G:Hid (Gb (fun g=>g=b) w W3):=HG2.o.trans (Gb.of_below hb3);have HZ3:=ai (HZ2.o.below hb3 (by omega));have HN:=ai (oz b q1 W3 (Bk.below HR2.o hb3 (by omega)) E.o);rw[H2.o]at HN;simp only at HN;have HW3:=ai hW3;clear hb3 hW3;go_wp2_with fail;rw[HW3.o];refine HN.o.mono ?_;rintro e w4 ⟨rfl,hr4,hg4⟩;have z4:=hg4.size;have z:Hid (Gb (fun g=>g=b) w w4):=G.o.trans hg4;have A:=ai (hg4.bk HZ3.o (by show ¬w.heap.size=b;omega));have i:=ai (hg4.bk F.o (by show ¬w2.heap.size=b;omega));have HR4:=ai hr4;have hne1:b≠w2.heap.size:=by omega
 have hne2:b≠w.heap.size:=by omega
 have hkd: ((k:Int) == 1)=decide (k=1):=by
  rw[Bool.eq_iff_iff];simp;omega
 rcases hcs with ⟨rfl,rfl⟩ | ⟨rfl,hkz,rfl⟩ | ⟨rfl,hkz,rfl⟩
 . obtain⟨x0,x1,f0,f1⟩:=Bk.two hr4
   obtain⟨y0,y1,y2,y3⟩:=i.o.four;have g1:=i.o.free 1;obtain⟨W5,a⟩:=NX9 ((w4.setCell ⟨b,1,none⟩ (.bool true)).setCell ⟨w2.heap.size,1,none⟩ (.bool (decide (k=1))))
   have m:Hid (Rds W5 b (r2,true)):=by
    rw[<-a];have:=(HR4.o.set 1 (.bool true)).far (p:=⟨w2.heap.size,1,none⟩) hne1 (.bool (decide (k=1)));show Bk _ _ _ _;simpa using this
   have n:Hid (Bk W5 w2.heap.size 185 #[.string (ofL t),.bool (decide (k=1)),.int .u64 0,.int .u64 0]):=by
    rw[<-a];have:=(i.o.far (p:=⟨b,1,none⟩) hne1.symm (.bool true)).set 1 (.bool (decide (k=1)));show Bk _ _ _ _;simpa using this
   have o:Hid (Bk W5 w.heap.size 185 #[.string ⟨#[]⟩,.bool false,.int .u64 0,.int .u64 0]):=by
    rw[<-a];exact(A.o.far (p:=⟨b,1,none⟩) hne2.symm _).far (p:=⟨w2.heap.size,1,none⟩) (by show w.heap.size≠w2.heap.size;omega) _
   have C:W5.heap.size=w4.heap.size:=by rw[<-a];simp[World.setCell]
   have r:Hid (Gb (fun g=>g=b) w W5):=by
    rw[<-a];exact(z.o.trans (Gb.set (p:=fun g=>g=b) (x:=b) rfl 1 _)).after (by omega) 1 _
   have HD:=ai (nX b (r2,true) W5 m.o HL2.o);rw[H4.o]at HD;simp only at HD;clear hr4 hg4 HN HW3;go_wp2_with fail;refine HD.o.mono ?_;rintro e w6 ⟨rfl,j,c⟩;have d:=ai (c.bk n.o (by show ¬w2.heap.size=b;omega));have f:=ai (c.bk o.o (by show ¬w.heap.size=b;omega));have s:=ai j;have u:Hid (Gb (fun g=>g=b) w w6):=r.o.trans c;clear x0 x1 f0 f1 y0 y1 y2 y3 g1 j c a HD;simp only[aG];obtain⟨y0,y1,y2,y3⟩:=d.o.four;have g2:=d.o.free 2;have g3:=d.o.free 3;obtain⟨z0,z1,z2',z3⟩:=f.o.four;obtain⟨e0,e1,e2,e3⟩:=fr4 f.o;have l:w.heap.size≠w2.heap.size:=by omega
   go_wp2_with fail;refine ZW (rX Tryz.results146 rfl (tX ((f.o.far (p:=⟨w2.heap.size,2,none⟩) l _).far (p:=⟨w2.heap.size,3,none⟩) l _) _ _ _ _)) rfl ⟨rfl,?_,?_⟩
   . exact(((((s.o.far (p:=⟨w2.heap.size,2,none⟩) hne1 _).far (p:=⟨w2.heap.size,3,none⟩) hne1 _).far (p:=⟨w.heap.size,0,none⟩) hne2 _).far (p:=⟨w.heap.size,1,none⟩) hne2 _).far (p:=⟨w.heap.size,2,none⟩) hne2 _).far (p:=⟨w.heap.size,3,none⟩) hne2 _
   . exact(((((u.o.after (by omega) 2 _).after (by omega) 3 _).after aj 0 _).after aj 1 _).after aj 2 _).after aj 3 _
 . obtain⟨x0,x1,f0,f1⟩:=Bk.two hr4
   obtain⟨y0,y1,y2,y3⟩:=i.o.four;have g1:=i.o.free 1;obtain⟨W5,a⟩:=NX9 ((w4.setCell ⟨b,1,none⟩ (.bool true)).setCell ⟨w2.heap.size,1,none⟩ (.bool (decide (k=1))))
   have m:Hid (Rds W5 b (r2,true)):=by
    rw[<-a];have:=(HR4.o.set 1 (.bool true)).far (p:=⟨w2.heap.size,1,none⟩) hne1 (.bool (decide (k=1)));show Bk _ _ _ _;simpa using this
   have n:Hid (Bk W5 w2.heap.size 185 #[.string (ofL t),.bool (decide (k=1)),.int .u64 0,.int .u64 0]):=by
    rw[<-a];have:=(i.o.far (p:=⟨b,1,none⟩) hne1.symm (.bool true)).set 1 (.bool (decide (k=1)));show Bk _ _ _ _;simpa using this
   have o:Hid (Bk W5 w.heap.size 185 #[.string ⟨#[]⟩,.bool false,.int .u64 0,.int .u64 0]):=by
    rw[<-a];exact(A.o.far (p:=⟨b,1,none⟩) hne2.symm _).far (p:=⟨w2.heap.size,1,none⟩) (by show w.heap.size≠w2.heap.size;omega) _
   have C:W5.heap.size=w4.heap.size:=by rw[<-a];simp[World.setCell]
   have r:Hid (Gb (fun g=>g=b) w W5):=by
    rw[<-a];exact(z.o.trans (Gb.set (p:=fun g=>g=b) (x:=b) rfl 1 _)).after (by omega) 1 _
   have HD:=ai (nX b (r2,true) W5 m.o HL2.o);rw[H4.o]at HD;simp only at HD;clear hr4 hg4 HN HW3;go_wp2_with fail;refine HD.o.mono ?_;rintro e w6 ⟨rfl,j,c⟩;have d:=ai (c.bk n.o (by show ¬w2.heap.size=b;omega));have f:=ai (c.bk o.o (by show ¬w.heap.size=b;omega));have s:=ai j;have u:Hid (Gb (fun g=>g=b) w w6):=r.o.trans c;clear x0 x1 f0 f1 y0 y1 y2 y3 g1 j c a HD;simp only[aG];obtain⟨y0,y1,y2,y3⟩:=d.o.four;have g2:=d.o.free 2;have g3:=d.o.free 3;obtain⟨z0,z1,z2',z3⟩:=f.o.four;obtain⟨e0,e1,e2,e3⟩:=fr4 f.o;have l:w.heap.size≠w2.heap.size:=by omega
   go_wp2_with fail;refine ZW (rX Tryz.results146 rfl (tX ((f.o.far (p:=⟨w2.heap.size,2,none⟩) l _).far (p:=⟨w2.heap.size,3,none⟩) l _) _ _ _ _)) rfl ⟨rfl,?_,?_⟩
   . exact(((((s.o.far (p:=⟨w2.heap.size,2,none⟩) hne1 _).far (p:=⟨w2.heap.size,3,none⟩) hne1 _).far (p:=⟨w.heap.size,0,none⟩) hne2 _).far (p:=⟨w.heap.size,1,none⟩) hne2 _).far (p:=⟨w.heap.size,2,none⟩) hne2 _).far (p:=⟨w.heap.size,3,none⟩) hne2 _
   . exact(((((u.o.after (by omega) 2 _).after (by omega) 3 _).after aj 0 _).after aj 1 _).after aj 2 _).after aj 3 _
 . obtain⟨x0,x1,f0,f1⟩:=Bk.two hr4
   obtain⟨y0,y1,y2,y3⟩:=i.o.four;have g1:=i.o.free 1;obtain⟨W5,a⟩:=NX9 ((w4.setCell ⟨b,1,none⟩ (.bool false)).setCell ⟨w2.heap.size,1,none⟩ (.bool (decide (k=1))))
   have m:Hid (Rds W5 b (r2,false)):=by
    rw[<-a];have:=(HR4.o.set 1 (.bool false)).far (p:=⟨w2.heap.size,1,none⟩) hne1 (.bool (decide (k=1)));show Bk _ _ _ _;simpa using this
   have n:Hid (Bk W5 w2.heap.size 185 #[.string (ofL t),.bool (decide (k=1)),.int .u64 0,.int .u64 0]):=by
    rw[<-a];have:=(i.o.far (p:=⟨b,1,none⟩) hne1.symm (.bool false)).set 1 (.bool (decide (k=1)));show Bk _ _ _ _;simpa using this
   have o:Hid (Bk W5 w.heap.size 185 #[.string ⟨#[]⟩,.bool false,.int .u64 0,.int .u64 0]):=by
    rw[<-a];exact(A.o.far (p:=⟨b,1,none⟩) hne2.symm _).far (p:=⟨w2.heap.size,1,none⟩) (by show w.heap.size≠w2.heap.size;omega) _
   have C:W5.heap.size=w4.heap.size:=by rw[<-a];simp[World.setCell]
   have r:Hid (Gb (fun g=>g=b) w W5):=by
    rw[<-a];exact(z.o.trans (Gb.set (p:=fun g=>g=b) (x:=b) rfl 1 _)).after (by omega) 1 _
   have HD:=ai (nX b (r2,false) W5 m.o HL2.o);rw[H4.o]at HD;simp only at HD;clear hr4 hg4 HN HW3;go_wp2_with fail;refine HD.o.mono ?_;rintro e w6 ⟨rfl,j,c⟩;have d:=ai (c.bk n.o (by show ¬w2.heap.size=b;omega));have f:=ai (c.bk o.o (by show ¬w.heap.size=b;omega));have s:=ai j;have u:Hid (Gb (fun g=>g=b) w w6):=r.o.trans c;clear x0 x1 f0 f1 y0 y1 y2 y3 g1 j c a HD;simp only[aG];obtain⟨y0,y1,y2,y3⟩:=d.o.four;have g2:=d.o.free 2;have g3:=d.o.free 3;obtain⟨z0,z1,z2',z3⟩:=f.o.four;obtain⟨e0,e1,e2,e3⟩:=fr4 f.o;have l:w.heap.size≠w2.heap.size:=by omega
   go_wp2_with fail;refine ZW (rX Tryz.results146 rfl (tX ((f.o.far (p:=⟨w2.heap.size,2,none⟩) l _).far (p:=⟨w2.heap.size,3,none⟩) l _) _ _ _ _)) rfl ⟨rfl,?_,?_⟩
   . exact(((((s.o.far (p:=⟨w2.heap.size,2,none⟩) hne1 _).far (p:=⟨w2.heap.size,3,none⟩) hne1 _).far (p:=⟨w.heap.size,0,none⟩) hne2 _).far (p:=⟨w.heap.size,1,none⟩) hne2 _).far (p:=⟨w.heap.size,2,none⟩) hne2 _).far (p:=⟨w.heap.size,3,none⟩) hne2 _
   . exact(((((u.o.after (by omega) 2 _).after (by omega) 3 _).after aj 0 _).after aj 1 _).after aj 2 _).after aj 3 _
def QlE(t:TypeId)(sz:Nat)(xs:List Tc)(n b:Nat)(s:RS)(w:SX)(e:Ending)(w':SX):Prop :=
 ∃A c,e= .returned (.slice A n c)/\n<=c/\c<=maxLen/\Apd w' w.heap.size t sz A n c xs/\Rds w' b s/\Gb (fun g=>g=b) w w'
theorem FZ{α:Type}{g:RS->α×RS}{n:Nat}{s:RS}(h:n=0∨s.2=true):qL g n s= ([],s):=by
 cases n with
 | zero=>rfl
 | succ n =>
   rcases h with h | h
   . cases h
   . rw[qL,if_pos h]
theorem GH{α:Type}{g:RS->α×RS}{n:Nat}{s:RS}{L:List α}{S:RS}{pre:List α}(h: (pre++ (qL g (n+1) s).1,(qL g (n+1) s).2)= (L,S))(hb:s.2=false): (pre++ [(g s).1]++ (qL g n (g s).2).1,(qL g n (g s).2).2)= (L,S):=by
 rw[<-h];have e:qL g (n+1) s= ((g s).1:: (qL g n (g s).2).1,(qL g n (g s).2).2):=by rw[qL,if_neg (by rw[hb];simp)]
 rw[e,ZZ];rfl
theorem Jy(b:Nat)(q:RS)(w:SX)(hk:Rds w b q)(hl:q.1.length<=1000000) :
  Calls Tryz.prog 145 #[.pointer (some ⟨b,0,none⟩),.int .i64 200,.func (.func 146) #[.pointer (some ⟨b,0,none⟩)] #[]] w (QlE 185 4 (flat enC (qLs qE 200 q).1) (qLs qE 200 q).1.length b (qLs qE 200 q).2 w):=by
 have hbw:=Bk.lt hk;have HN:=ai (oz b q w hk hl);have hl2:=lI q;unfold qLs;obtain⟨⟨n,r,bd⟩,hq⟩:∃x,qN q=x:=⟨_,rfl⟩
 rw[hq]at HN hl2 ⊢;simp only at HN hl2 ⊢;have hl3:r.length<=1000000:=by omega
 obtain⟨B,hB⟩:=NX9 ((bd || decide (200<n)))
 rw[hB];obtain⟨⟨L,S⟩,c⟩:∃x,qL qE n (r,B)=x:=⟨_,rfl⟩
 have G:=ai c;rw[c];simp only;have H:Hid (n<=200∨B=true):=by
  show _∨_;rw[<-hB];by_cases h:200<n
  . right;simp[h]
  . left;omega
 have hcs: (bd=true/\B=true)∨ (bd=false/\decide ((200:Int)< (n:Int))=true/\B=true)∨ (bd=false/\decide ((200:Int)< (n:Int))=false/\B=false):=by
  rw[<-hB];cases bd
  . by_cases h:200<n
    . have: (200:Int)< (n:Int):=by omega
      simp[h];omega
    . have:¬(200:Int)< (n:Int):=by omega
      simp[h];omega
  . simp
 have I:=ai hl3;obtain⟨i0,hi,hz0,hz1,hz2⟩:=info_parts yC;have Hi:=ai hi;have J:=ai hz0;have K:=ai hz1;have M:=ai hz2;clear hk hl hl2 hl3 hi hz0 hz1 hz2 hq c hB
 go_enter Tryz.func145,Tryz.ntmps145
 go_wp2_with fail;refine HN.o.mono ?_;rintro e w1 ⟨rfl,hr1,hg1⟩;have HR1:=ai hr1;obtain⟨x0,x1,f0,f1⟩:=Bk.two hr1;have z1:=hg1.size;obtain⟨W2,hW2⟩:=NX9 (w1.setCell ⟨b,1,none⟩ (.bool B))
 have HR2:Hid (Rds W2 b (r,B)):=by
  rw[<-hW2];have:=HR1.o.set 1 (.bool B);show Bk _ _ _ _;simpa using this
 have HG2:Hid (Gb (fun g=>g=b) w W2):=by rw[<-hW2];exact hg1.trans (Gb.set (p:=fun g=>g=b) (x:=b) rfl 1 _)
 clear hr1 hg1 HN;have hcell:∀B',B=B'->w1.setCell ⟨b,1,none⟩ (.bool B')=W2:=fun B' h=>by rw[<-h];exact hW2
 rcases hcs with ⟨rfl,a⟩ | ⟨rfl,hmz,a⟩ | ⟨rfl,hmz,a⟩
 all_goals
  have t:=hcell _ a;have T:=ai a;clear a hcell hW2;go_wp2_with fail;clear t x0 x1 f0 f1
  go_loopw[8,9] (fun l i wr=>∃(j:Nat)(o:OA)(cj:Nat)(pre:List Ent)(st:RS),l= .slice o j cj/\i= .int .i64 (j:Int)/\j<=n/\j<=cj/\cj<=maxLen/\Hid (pre.length=j)/\Hid ((pre++ (qL qE (n - j) st).1,(qL qE (n - j) st).2)= (L,S))/\Hid (n<=200∨st.2=true)/\Hid (st.1.length<=1000000)/\Hid (Apd wr w.heap.size 185 4 o j cj (flat enC pre))/\Hid (Rds wr b st)/\Hid (Gb (fun g=>g=b) w wr)) (fun _ i _=>n - (intOf i).toNat)
  case atStart=>exact⟨0,none,0,[],(r,B),rfl,rfl,ZX _,Nat.le_refl _,ZX _,rfl,by show _=_;rw[Nat.sub_zero,G.o];rfl,H.o,I.o,.inr ⟨rfl,rfl,rfl⟩,HR2.o,HG2.o⟩
  case round =>
   obtain⟨j,o,cj,pre,st,rfl,rfl,hj,hjc,hcm,u,v,y,hST,hA,hR,hG⟩:=hrel;have d:=ai u.o;have z:=ai v.o;have A:=ai y.o;have HST:=ai hST.o;obtain⟨sr,sb⟩:=st;have hR':Bk wr b _ _:=hR.o;obtain⟨x0,x1,_,_⟩:=Bk.two hR';have zr:=hG.o.size;simp only at x0 x1;clear u v y hST hR';by_cases hend:n - j=0∨sb=true
   . have HE:=ai (FZ (g:=qE) (n:=n - j) (s:=(sr,sb)) hend)
     have HQ:Hid ((pre,(sr,sb))= (L,S)):=by show _=_;have h:=z.o;rw[HE.o]at h;simpa using h
     have C:Hid (pre=L):=congrArg Prod.fst HQ.o;have D:Hid ((sr,sb)=S):=congrArg Prod.snd HQ.o;rcases hend with h0 | rfl
     . have hjz:¬(j:Int)< (n:Int):=by omega
       go_wp2_with fail;go_ret
       rw[<-C.o,<-D.o,d.o];exact⟨o,cj,rfl,hjc,hcm,hA.o,hR.o,hG.o⟩
     . by_cases hjz: (j:Int)< (n:Int)
       all_goals
        go_wp2_with fail;go_ret
        rw[<-C.o,<-D.o,d.o];exact⟨o,cj,rfl,hjc,hcm,hA.o,hR.o,hG.o⟩
   . have hlt:j<n:=by omega
     have hsb:sb=false:=by cases sb <;> simp_all
     subst hsb;have hjz: (j:Int)< (n:Int):=by omega
     have hn2:n<=200:=by have h:=A.o;simpa using h
     have HC:=ai (JZ b (sr,false) wr hR.o HST.o);have f:=ai (QA (sr,false));have k:Hid ((pre++ [(qE (sr,false)).1]++ (qL qE (n - (j+1)) (qE (sr,false)).2).1,(qL qE (n - (j+1)) (qE (sr,false)).2).2)= (L,S)):=by
      have h:=z.o;rw[show n - j=n - (j+1)+1 by omega]at h;exact GH h rfl
     obtain⟨⟨en,s4⟩,hge⟩:∃x,qE (sr,false)=x:=⟨_,rfl⟩
     rw[hge]at HC f k;simp only at HC f k;clear hend hge
     go_wp2_with (first | (go_at_call 146;refine HC.o.mono ?_;rintro e w3 ⟨rfl,hr3,hg3⟩;simp only[uI]) | (at_builtin;refine sG (.tmp 36) (.tmp 39) 107 rfl ?_))
     refine aI ?_;have z3:=hg3.size;refine dR (base:=w.heap.size) (size:=4) _ rfl (.tmp 36) (.tmp 39) 107 rfl 185 i0 _ 40 Tryz.underlying107 Hi.o J.o K.o M.o rfl (by decide) o j cj (flat enC pre) rfl ?own_1 (w3.heap.size+1) _ 1 _ (enC en) rfl ?nw_1 (by simp[enC,Value.oneCell']) ?m1_1 ?m2_1 ?m3_1 ?_
     case own_1=>exact(hA.o.gb hg3 hbw).below ((ah _ w3).alloc aj _)
     case nw_1 =>
      have:=Sl.of_bk (n:=1) (size:=4) (Bk.new w3 185 #[.string en.nm,.bool en.dir,.int .u64 en.dg.1,.int .u64 en.dg.2]) rfl;rw[Z9]at this;exact this
     case m1_1=>unfold maxLen;omega
     case m2_1=>omega
     case m3_1=>simp;omega
     intro A4 c4 w4 E hb4 hn4 hm4 F;have N:Hid (Apd w4 w.heap.size 185 4 A4 (j+1) c4 (flat enC (pre++ [en]))):=by
      show Apd _ _ _ _ _ _ _ _;rw[bD]
      simpa [flat] using E
     have m:Below w.heap.size w3 w4:=((ah w.heap.size w3).alloc (by omega) _).trans hb4;have O:Hid (Gb (fun g=>g=b) w w4):=(hG.o.trans hg3).onto m;have HR4:Hid (Rds w4 b s4):=Bk.below hr3 m hbw;have P:Hid ((pre++ [en]).length=j+1):=by show _=_;rw[af,d.o];rfl
     have Q:Hid (s4.1.length<=1000000):=ZY f.o HST.o;have R:Hid (n<=200∨s4.2=true):= .inl hn2;clear E hb4 F hr3 hg3 m HC x0 x1;go_wp2_with fail;go_roundw
     case rel=>exact⟨j+1,A4,c4,pre++ [en],s4,rfl,by go_num,hlt,hn4,hm4,P.o,k.o,R.o,Q.o,N.o,HR4.o,O.o⟩
     case measure=>simp[intOf];omega
theorem KG(b:Nat)(q:RS)(w:SX)(hk:Rds w b q)(hl:q.1.length<=1000000) :
  Calls Tryz.prog 148 #[.pointer (some ⟨b,0,none⟩),.int .i64 8,.func (.func 147) #[.pointer (some ⟨b,0,none⟩)] #[]] w (QlE 50 2 (flat dgC (qLs qD 8 q).1) (qLs qD 8 q).1.length b (qLs qD 8 q).2 w):=by
 have hbw:=Bk.lt hk;have HN:=ai (oz b q w hk hl);have hl2:=lI q;unfold qLs;obtain⟨⟨n,r,bd⟩,hq⟩:∃x,qN q=x:=⟨_,rfl⟩
 rw[hq]at HN hl2 ⊢;simp only at HN hl2 ⊢;have hl3:r.length<=1000000:=by omega
 obtain⟨B,hB⟩:=NX9 ((bd || decide (8<n)))
 rw[hB];obtain⟨⟨L,S⟩,c⟩:∃x,qL qD n (r,B)=x:=⟨_,rfl⟩
 have G:=ai c;rw[c];simp only;have H:Hid (n<=8∨B=true):=by
  show _∨_;rw[<-hB];by_cases h:8<n
  . right;simp[h]
  . left;omega
 have hcs: (bd=true/\B=true)∨ (bd=false/\decide ((8:Int)< (n:Int))=true/\B=true)∨ (bd=false/\decide ((8:Int)< (n:Int))=false/\B=false):=by
  rw[<-hB];cases bd
  . by_cases h:8<n
    . have: (8:Int)< (n:Int):=by omega
      simp[h];omega
    . have:¬(8:Int)< (n:Int):=by omega
      simp[h];omega
  . simp
 have I:=ai hl3;obtain⟨i0,hi,hz0,hz1,hz2⟩:=info_parts jS;have Hi:=ai hi;have J:=ai hz0;have K:=ai hz1;have M:=ai hz2;clear hk hl hl2 hl3 hi hz0 hz1 hz2 hq c hB
 go_enter Tryz.func148,Tryz.ntmps148
 go_wp2_with fail;refine HN.o.mono ?_;rintro e w1 ⟨rfl,hr1,hg1⟩;have HR1:=ai hr1;obtain⟨x0,x1,f0,f1⟩:=Bk.two hr1;have z1:=hg1.size;obtain⟨W2,hW2⟩:=NX9 (w1.setCell ⟨b,1,none⟩ (.bool B))
 have HR2:Hid (Rds W2 b (r,B)):=by
  rw[<-hW2];have:=HR1.o.set 1 (.bool B);show Bk _ _ _ _;simpa using this
 have HG2:Hid (Gb (fun g=>g=b) w W2):=by rw[<-hW2];exact hg1.trans (Gb.set (p:=fun g=>g=b) (x:=b) rfl 1 _)
 clear hr1 hg1 HN;have hcell:∀B',B=B'->w1.setCell ⟨b,1,none⟩ (.bool B')=W2:=fun B' h=>by rw[<-h];exact hW2
 rcases hcs with ⟨rfl,a⟩ | ⟨rfl,hmz,a⟩ | ⟨rfl,hmz,a⟩
 all_goals
  have t:=hcell _ a;have T:=ai a;clear a hcell hW2;go_wp2_with fail;clear t x0 x1 f0 f1
  go_loopw[8,9] (fun l i wr=>∃(j:Nat)(o:OA)(cj:Nat)(pre:List Dig)(st:RS),l= .slice o j cj/\i= .int .i64 (j:Int)/\j<=n/\j<=cj/\cj<=maxLen/\Hid (pre.length=j)/\Hid ((pre++ (qL qD (n - j) st).1,(qL qD (n - j) st).2)= (L,S))/\Hid (n<=8∨st.2=true)/\Hid (st.1.length<=1000000)/\Hid (Apd wr w.heap.size 50 2 o j cj (flat dgC pre))/\Hid (Rds wr b st)/\Hid (Gb (fun g=>g=b) w wr)) (fun _ i _=>n - (intOf i).toNat)
  case atStart=>exact⟨0,none,0,[],(r,B),rfl,rfl,ZX _,Nat.le_refl _,ZX _,rfl,by show _=_;rw[Nat.sub_zero,G.o];rfl,H.o,I.o,.inr ⟨rfl,rfl,rfl⟩,HR2.o,HG2.o⟩
  case round =>
   obtain⟨j,o,cj,pre,st,rfl,rfl,hj,hjc,hcm,u,v,y,hST,hA,hR,hG⟩:=hrel;have d:=ai u.o;have z:=ai v.o;have A:=ai y.o;have HST:=ai hST.o;obtain⟨sr,sb⟩:=st;have hR':Bk wr b _ _:=hR.o;obtain⟨x0,x1,_,_⟩:=Bk.two hR';have zr:=hG.o.size;simp only at x0 x1;clear u v y hST hR';by_cases hend:n - j=0∨sb=true
   . have HE:=ai (FZ (g:=qD) (n:=n - j) (s:=(sr,sb)) hend)
     have HQ:Hid ((pre,(sr,sb))= (L,S)):=by show _=_;have h:=z.o;rw[HE.o]at h;simpa using h
     have C:Hid (pre=L):=congrArg Prod.fst HQ.o;have D:Hid ((sr,sb)=S):=congrArg Prod.snd HQ.o;rcases hend with h0 | rfl
     . have hjz:¬(j:Int)< (n:Int):=by omega
       go_wp2_with fail;go_ret
       rw[<-C.o,<-D.o,d.o];exact⟨o,cj,rfl,hjc,hcm,hA.o,hR.o,hG.o⟩
     . by_cases hjz: (j:Int)< (n:Int)
       all_goals
        go_wp2_with fail;go_ret
        rw[<-C.o,<-D.o,d.o];exact⟨o,cj,rfl,hjc,hcm,hA.o,hR.o,hG.o⟩
   . have hlt:j<n:=by omega
     have hsb:sb=false:=by cases sb <;> simp_all
     subst hsb;have hjz: (j:Int)< (n:Int):=by omega
     have hn2:n<=8:=by have h:=A.o;simpa using h
     have HC:=ai (nX b (sr,false) wr hR.o HST.o);have f:=ai (uh (sr,false));have k:Hid ((pre++ [(qD (sr,false)).1]++ (qL qD (n - (j+1)) (qD (sr,false)).2).1,(qL qD (n - (j+1)) (qD (sr,false)).2).2)= (L,S)):=by
      have h:=z.o;rw[show n - j=n - (j+1)+1 by omega]at h;exact GH h rfl
     obtain⟨⟨en,s4⟩,hge⟩:∃x,qD (sr,false)=x:=⟨_,rfl⟩
     rw[hge]at HC f k;simp only at HC f k;clear hend hge
     go_wp2_with (first | (go_at_call 147;refine HC.o.mono ?_;rintro e w3 ⟨rfl,hr3,hg3⟩;simp only[aG]) | (at_builtin;refine sG (.tmp 36) (.tmp 39) 47 rfl ?_))
     refine aI ?_;have z3:=hg3.size;refine dR (base:=w.heap.size) (size:=2) _ rfl (.tmp 36) (.tmp 39) 47 rfl 50 i0 _ 16 Tryz.underlying47 Hi.o J.o K.o M.o rfl (by decide) o j cj (flat dgC pre) rfl ?own_1 (w3.heap.size+1) _ 1 _ (dgC en) rfl ?nw_1 (by simp[dgC,Value.oneCell']) ?m1_1 ?m2_1 ?m3_1 ?_
     case own_1=>exact(hA.o.gb hg3 hbw).below ((ah _ w3).alloc aj _)
     case nw_1 =>
      have:=Sl.of_bk (n:=1) (size:=2) (Bk.new w3 50 #[.int .u64 en.1,.int .u64 en.2]) rfl;rw[Z9]at this;exact this
     case m1_1=>unfold maxLen;omega
     case m2_1=>omega
     case m3_1=>simp;omega
     intro A4 c4 w4 E hb4 hn4 hm4 F;have N:Hid (Apd w4 w.heap.size 50 2 A4 (j+1) c4 (flat dgC (pre++ [en]))):=by
      show Apd _ _ _ _ _ _ _ _;rw[bD]
      simpa [flat] using E
     have m:Below w.heap.size w3 w4:=((ah w.heap.size w3).alloc (by omega) _).trans hb4;have O:Hid (Gb (fun g=>g=b) w w4):=(hG.o.trans hg3).onto m;have HR4:Hid (Rds w4 b s4):=Bk.below hr3 m hbw;have P:Hid ((pre++ [en]).length=j+1):=by show _=_;rw[af,d.o];rfl
     have Q:Hid (s4.1.length<=1000000):=ZY f.o HST.o;have R:Hid (n<=8∨s4.2=true):= .inl hn2;clear E hb4 F hr3 hg3 m HC x0 x1;go_wp2_with fail;go_roundw
     case rel=>exact⟨j+1,A4,c4,pre++ [en],s4,rfl,by go_num,hlt,hn4,hm4,P.o,k.o,R.o,Q.o,N.o,HR4.o,O.o⟩
     case measure=>simp[intOf];omega
theorem Iz(A:OA)(n c B:Nat)(l:List Ent)(w:SX)(h0:Sl w B 4 A n (flat enC l))(hB:B<=w.heap.size)(hwf:∀e∈l,WfD e.dg)(hs:∀e∈l,e.nm.size<=65536)(hn2:n<=200) :
  Calls Tryz.prog 264 #[.slice A n c] w fun e w'=>(∃x:Int,e= .returned (.int .i64 x)/\ (x=0->lT l))/\Tf w w':=by
 have HL:=ai (h0.len tK (by omega));have H0:=ai h0;have E:=ai hwf;have F:=ai hs;clear h0 hwf hs;have hnz:¬(200:Int)< (n:Int):=by omega
 go_enter Tryz.func264,Tryz.ntmps264
 go_wp2_with fail
 go_loopw[10] (fun i wr=>∃k:Nat,i= .int .i64 (k:Int)/\k<=n/\Ti w wr/\Hid (∀j e,j<k->l[j]? =some e->jc e)/\Hid (∀(j:Nat) a b,j+1<k->l[j]? =some a->l[j+1]? =some b->less a.nm b.nm=true)) (fun i _=>n - (intOf i).toNat)
 case atStart=>exact⟨0,rfl,ZX _,ah _ _,fun j e h=>absurd h (by omega),fun j a b h=>absurd h (by omega)⟩
 case round =>
  obtain⟨k,rfl,hk,hbw,u,y⟩:=hrel;have q:=ai u.o;have r:=ai y.o;clear u y;have G:=hbw.o.size;by_cases hlt:k<n
  . have hlz: (k:Int)< (n:Int):=by omega
    obtain⟨bb,off,en,rfl,hbB,he,y0,y1,y2,y3⟩:=(H0.o.below hbw.o hB).en hlt;have HE:=ai he;have z:=ai (E.o en (Z7 he));have hns:=F.o en (Z7 he);obtain⟨wb,hwb⟩:=NX9 (wr.alloc (.cells #[.string en.nm,.bool en.dir,.int .u64 en.dg.1,.int .u64 en.dg.2] 185))
    have H:Ti wr wb:=by rw[<-hwb];exact(ah _ wr).alloc aj _
    have d:Hid (Bk wb wr.heap.size 185 #[.string en.nm,.bool en.dir,.int .u64 en.dg.1,.int .u64 en.dg.2]):=by rw[<-hwb];exact Bk.new wr _ _
    have o:Ti w wb:=hbw.o.trans (H.o.mono G);have L:wb.heap.size=wr.heap.size+1:=by rw[<-hwb];simp
    have C:Hid (∀j,k=j+1->∃p,Hid (∃pe:Ent,l[j]? =some pe/\pe.nm=p)/\wb.cell? ⟨bb,off+j*4,none⟩=some (.string p)):=by
     intro j hj;obtain⟨bb',off',p,hpe,_,hp,z0,_⟩:=(H0.o.below o.o hB).en (k:=j) (by omega);cases hpe
     exact⟨p.nm,⟨p,hp,rfl⟩,z0⟩
    have x0:=d.o.cell 0;have x2:=d.o.cell 2;have x3:=d.o.cell 3;simp at x0 x2 x3;have s:=x0;rw[<-hwb]at s;have t:=ai hwb;clear hwb he;obtain⟨nm,dir,d1,d2⟩:=en;simp only at hns y0 y1 y2 y3 x0 x2 x3 s t d C z;by_cases hnm:nameB nm=true
    case neg =>
     have hnf:nameB nm=false:=by simpa using hnm
     clear hnm
     go_wp2_with (first | (go_at_call 195;refine(jy nm _ (by unfold maxLen;omega)).mono ?_;rintro e w1 ⟨rfl,rfl⟩;rw[hnf]))
     try rw[t.o]
     go_ret
     exact⟨⟨_,rfl,fun h=>by simp at h⟩,o.o⟩
    have I:=ai hnm
    go_upto_region 8 with (first | (go_at_call 195;refine(jy nm _ (by unfold maxLen;omega)).mono ?_;rintro e w1 ⟨rfl,rfl⟩;rw[hnm]))
    rw[t.o];clear s
    go_cut[20] from 21 to 33 (fun f wx=>∃v:Bool,f= .bool v/\Hid (v=false->∀j pe,k=j+1->l[j]? =some pe->less pe.nm nm=true)/\Ti wb wx)
    case first =>
     cases k with
     | zero =>
       go_quiet(fail)
       simp only[Exit.then]
       go_step
       go_meet
       exact⟨false,rfl,fun _ j pe h=>by omega,dm (ah _ _) _⟩
     | succ j =>
       obtain⟨p,HP,z0⟩:=C.o j rfl;have hkp: (0:Int)< ((j+1:Nat):Int):=by omega
       have hw1:IntKind.i64.wrap (((j+1:Nat):Int) - 1)= (j:Int):=by rw[tJ (by omega) (by omega)];omega
       have hj1:¬(j:Int)<0:=by omega
       have hj2: (j:Int)< (n:Int):=by omega
       have g:Hid (∀v:Bool,(v=false->less p nm=true)-> (v=false->∀j' pe,j+1=j'+1->l[j']? =some pe->less pe.nm nm=true)):=fun v hv h j' pe hj' hpe=>by
        have:j=j':=by omega
        subst this;obtain⟨M,h1,rfl⟩:=HP.o;rw[h1]at hpe;cases hpe;exact hv h
       cases hb1:Op.bytesLess nm.toList p.toList with
       | true =>
         go_quiet(fail)
         simp only[Exit.then]
         go_step
         go_meet
         exact⟨true,rfl,g.o true (fun h=>by cases h),dm (ah _ _) _⟩
       | false =>
         cases hb2: (nm.toList == p.toList) with
         | true =>
           go_quiet(fail)
           simp only[Exit.then]
           go_step
           go_meet
           exact⟨true,rfl,g.o true (fun h=>by cases h),dm (ah _ _) _⟩
         | false =>
           have J:Hid (less p nm=true):=by
            show _=_;rw[xK]at hb1;cases hx:less p nm with
            | true=>rfl
            | false=>have:=rJ hb1 hx;rw[this,QE]at hb2;cases hb2
           go_quiet(fail)
           simp only[Exit.then]
           go_step
           go_meet
           exact⟨false,rfl,g.o false (fun _=>J.o),dm (ah _ _) _⟩
    case rest =>
     obtain⟨v,rfl,hvv,HBc⟩:=hcut;have HVV:=ai hvv.o;have m:Ti w wc:=o.o.trans (HBc.o.mono o.o.size);have D:=ai (d.o.below HBc.o d.o.lt);clear x0 x2 x3 y0 y1 y2 y3 hvv hnm;have x2:=D.o.cell 2;have x3:=D.o.cell 3;simp at x2 x3;cases v with
     | true =>
       go_wp2_with fail;go_ret
       exact⟨⟨_,rfl,fun h=>by simp at h⟩,m.o⟩
     | false =>
       by_cases hz: ((d1,d2):Dig)=zD
       . have e1:d1=0:=congrArg Prod.fst hz
         have e2:d2=0:=congrArg Prod.snd hz;subst e1 e2;clear hz;go_wp2_with fail;go_ret
         exact⟨⟨_,rfl,fun h=>by simp at h⟩,m.o⟩
       . have hdz:=lG hz
         simp only at hdz;have K:Hid (jc ⟨nm,dir,(d1,d2)⟩):=⟨I.o,z.o,hz⟩
         clear hz;go_wp2_with fail;go_roundw
         case rel =>
          refine⟨k+1,by go_num,hlt,m.o,fun j e hj hje=>?_,fun j a b hj hja hjb=>?_⟩
          . rcases Nat.lt_or_ge j k with h | h
            . exact q.o j e h hje
            . have:j=k:=by omega
              subst this;rw[HE.o]at hje;cases hje;exact K.o
          . rcases Nat.lt_or_ge (j+1) k with h | h
            . exact r.o j a b h hja hjb
            . have:k=j+1:=by omega
              rw[this]at HE;rw[HE.o]at hjb;cases hjb;exact HVV.o rfl j a this hja
         case measure=>simp[intOf];omega
  . have hlz:¬(k:Int)< (n:Int):=by omega
    go_wp2_with fail;go_ret
    refine⟨⟨_,rfl,fun _=>⟨by rw[HL.o];omega,fun e he=>?_,fun j a b ha hb=>?_⟩⟩,hbw.o⟩
    . obtain⟨j,hj⟩:=List.mem_iff_getElem?.1 he
      exact q.o j e (by have:=(List.getElem?_eq_some_iff.1 hj).1;rw[HL.o]at this;omega) hj
    . exact r.o j a b (by have:=(List.getElem?_eq_some_iff.1 hb).1;rw[HL.o]at this;omega) ha hb
theorem Jp(o:Ob)(s:Osl)(B:Nat)(w:SX)(hm:ObM w B o s)(hB:B<=w.heap.size)(hwt:WfD o.tree)(hwp:∀d∈o.pars,WfD d)(hn8:o.pars.length<=8)(has:o.auth.size<=65536)(hmz:o.msg.size<=65536) :
  Calls Tryz.prog 265 #[obV o s] w fun e w'=>(∃x:Int,e= .returned (.int .i64 x)/\ (x=0->OkC o))/\Tf w w':=by
 have HL:=ai hm.plen;have HP:=ai hm.p;have hn:s.pn<=8:=by rw[HL.o]at hn8;exact hn8
 have hpc:=hm.ple;have hpm:=hm.pmx;have E:=ai hwt;have F:=ai hwp;have G:=ai hn8;obtain⟨kind,data,t,⟨t1,t2⟩,pars,auth,time,msg⟩:=o;obtain⟨eA,en,ec,pA,n,pc⟩:=s;simp only at HL HP hn hpc hpm E F G has hmz;have y:Hid (((t1,t2):Dig)≠zD-> (∀d∈pars,d≠zD)->pars.Nodup->nameB auth=true->0<=time->time<=1099511627776->msg.size<=200->OkC ⟨kind,data,t,(t1,t2),pars,auth,time,msg⟩):=fun a b c d e f g=>⟨E.o,a,⟨G.o,F.o,b,c⟩,d,e,f,g⟩
 obtain⟨P,hP⟩:∃P:Prop,OkC ⟨kind,data,t,(t1,t2),pars,auth,time,msg⟩=P:=⟨_,rfl⟩
 rw[hP]at y ⊢;simp only[obV,obC];have hnm:n<=9223372036854775807:=by omega
 have hnz:¬(8:Int)< (n:Int):=by omega
 obtain⟨W0,hW⟩:=NX9 (w.alloc (.cells #[.int .i64 kind,.string data,.slice eA en ec,.int .u64 t1,.int .u64 t2,.slice pA n pc,.string auth,.int .i64 time,.string msg] 109))
 have HB0:Ti w W0:=by rw[<-hW];exact(ah _ w).alloc aj _
 have HK:Hid (Bk W0 w.heap.size 109 #[.int .i64 kind,.string data,.slice eA en ec,.int .u64 t1,.int .u64 t2,.slice pA n pc,.string auth,.int .i64 time,.string msg]):=by rw[<-hW];exact Bk.new w _ _
 have V:w.heap.size<W0.heap.size:=HK.o.lt;obtain⟨c0,c1,c2,c3,c4,c5,c6,c7,c8⟩:=HK.o.nine;clear hm hwt hwp hn8 hP;by_cases htz0: ((t1,t2):Dig)=zD
 . have e1:t1=0:=congrArg Prod.fst htz0
   have e2:t2=0:=congrArg Prod.snd htz0;subst e1 e2;clear htz0
   go_enter Tryz.func265,Tryz.ntmps265
   go_wp2_with fail;go_ret
   exact⟨⟨_,rfl,fun h=>by simp at h⟩,HB0.o⟩
 have N:=ai htz0;have htz:=lG htz0;simp only at htz;clear htz0
 go_enter Tryz.func265,Tryz.ntmps265
 go_wp2_with fail;clear hW
 go_loopw[16] (fun i wr=>∃k:Nat,i= .int .i64 (k:Int)/\k<=n/\Ti W0 wr/\Hid (∀d∈pars.take k,d≠zD)/\Hid ((pars.take k).Nodup)) (fun i _=>n - (intOf i).toNat)
 case atStart=>exact⟨0,rfl,ZX _,ah _ _,fun d hd=>by simp at hd,List.nodup_nil⟩
 case round =>
  obtain⟨k,rfl,hk,hbw,H,I⟩:=hrel;have z:=ai H.o;have A:=ai I.o;clear H I;have C:=hbw.o.size;have q:Ti w wr:=HB0.o.trans (hbw.o.mono HB0.o.size);clear c0 c1 c2 c3 c4 c5 c6 c7 c8;obtain⟨c0,c1,c2,c3,c4,c5,c6,c7,c8⟩:=(HK.o.below hbw.o V).nine;by_cases hlt:k<n
  . have hlz: (k:Int)< (n:Int):=by omega
    obtain⟨bb,off,d,rfl,hbB,hd,y0,y1⟩:=(HP.o.below q.o hB).dg hlt;have HD:=ai hd;obtain⟨d1,d2⟩:=d;simp only at y0 y1;by_cases hz: ((d1,d2):Dig)=zD
    . have e1:d1=0:=congrArg Prod.fst hz
      have e2:d2=0:=congrArg Prod.snd hz;subst e1 e2;have hbx:Tf W0 (wr.alloc (.cells #[.int .u64 0,.int .u64 0] 50)):=hbw.o.trans ((ah _ wr).alloc C _);have O:Hid (Tf w (wr.alloc (.cells #[.int .u64 0,.int .u64 0] 50))):=HB0.o.trans (hbx.mono HB0.o.size);clear hz hd hbx;go_wp2_with fail;go_ret
      exact⟨⟨_,rfl,fun h=>by simp at h⟩,O.o⟩
    have hdz:=lG hz;simp only at hdz;have Q:=ai hz;obtain⟨v,hv⟩:=NX9 (decide ((d1,d2)∈pars.take k))
    have HV:=ai hv;clear hz hv;obtain⟨wb,hwb⟩:=NX9 (wr.alloc (.cells #[.int .u64 d1,.int .u64 d2] 50))
    have D:Ti wr wb:=by rw[<-hwb];exact(ah _ wr).alloc aj _
    have J:Hid (Bk wb wr.heap.size 50 #[.int .u64 d1,.int .u64 d2]):=by rw[<-hwb];exact Bk.new wr _ _
    have X:wb.heap.size=wr.heap.size+1:=by rw[<-hwb];simp
    have m:Ti w wb:=q.o.trans (D.o.mono (by omega));have R:Hid (∀Z,Tf wb Z->Calls Tryz.prog 310 #[.slice (some ⟨bb,off,none⟩) k pc,.agg #[.int .u64 d1,.int .u64 d2]] Z fun e w'=>e= .returned (.bool v)/\Tf Z w'):=fun Z hZ=>by
     have hs:Sl Z B 2 (some ⟨bb,off,none⟩) k (flat dgC (pars.take k)):=by
      have h1:=(HP.o.below m.o hB).below hZ (by have:=m.o.size;omega);refine⟨by rw[iQ ik,List.length_take,HL.o];rw[Nat.min_eq_left (by omega)],fun h0=>?_⟩;obtain⟨b',o',e1,e2,e3⟩:=h1.2 (by omega);refine⟨b',o',e1,e2,fun j u hu=>e3 j u ?_⟩;rw[rU ik]at hu;have hjl:=(List.getElem?_eq_some_iff.1 hu).1;rw[List.getElem?_take,if_pos (by rw[List.length_take]at hjl;omega)]at hu;exact hu
     have h:=zZ (some ⟨bb,off,none⟩) k pc B (pars.take k) (d1,d2) Z hs (by have:=hZ.size;have:=m.o.size;omega) (by omega);rw[HV.o]at h;exact h
    have b0:=J.o.cell 0;have b1:=J.o.cell 1;simp at b0 b1;have e5:=(HK.o.below (hbw.o.trans (D.o.mono C)) V).nine.2.2.2.2.2.1;have hsl:∀Z:SX,(Instr.sliceAt 47 (.slice (some ⟨bb,off,none⟩) n pc) none (some (.int .i64 k)) none).run Tryz.prog Z= .ok (.slice (some ⟨bb,off,none⟩) k pc) Z:=fun Z=>by
     obtain⟨i0,hi0,_⟩:=info_parts jS;exact qW 47 i0 Tryz.underlying47 hi0 _ n pc k (by omega) Z
    have S:=ai hwb;clear hd hwb
    go_upto_region 10 with fail
    rw[S.o];refine kz 5 (24::25::26::27::28:: []) (by kernel_rfl) (by kernel_rfl) (by kernel_rfl) (fun W=>Tf wb W) (fun W W'=>Tf W W')
     (nP ((.pointer (some ⟨w.heap.size,5,none⟩)):: (.slice (some ⟨bb,off,none⟩) n pc):: (.int .i64 (k:Int)):: (.slice (some ⟨bb,off,none⟩) k pc):: (.agg #[.int .u64 d1,.int .u64 d2]):: [])) (fun W W' h1 h2=>h1.trans (h2.mono h1.size)) (fun i v W W' h _=>h) (ah _ _).drew ?stepC ?tailC
    case stepC =>
     intro i o vs W hi ho hv hR l;obtain⟨v0,v1,v2,v3,v4,rfl⟩:=ls5 hv;simp only[List.zip,List.zipWith,aV,Act.put,List.setIfInBounds_toArray,List.set];have Y:=hR.size;have g5:=(hR.cell (p:=⟨w.heap.size,5,none⟩) (by show w.heap.size<_;omega)).trans e5;have g0:=(hR.cell (p:=⟨wr.heap.size,0,none⟩) (by show wr.heap.size<_;omega)).trans b0;have g1:=(hR.cell (p:=⟨wr.heap.size,1,none⟩) (by show wr.heap.size<_;omega)).trans b1
     match i,hi,ho with
     | 0,_,rfl =>
       exact .inl ⟨rfl,aA (v:= .pointer (some ⟨w.heap.size,5,none⟩)) (w':=W) (by go_simp) ⟨ah _ _,fun _=>az⟩⟩
     | 1,_,rfl =>
       have e0:v0=_:=l ⟨0,.data⟩ (by simp) rfl v0 rfl _ rfl;subst e0;exact .inl ⟨rfl,aA (v:= .slice (some ⟨bb,off,none⟩) n pc) (w':=W) (by go_simp) ⟨ah _ _,fun _=>az⟩⟩
     | 2,_,rfl =>
       exact .inl ⟨rfl,aA (v:= .int .i64 (k:Int)) (w':=W) (by go_simp) ⟨ah _ _,fun _=>az⟩⟩
     | 3,_,rfl =>
       have e1:v1=_:=l ⟨1,.data⟩ (by simp) rfl v1 rfl _ rfl;have e2:v2=_:=l ⟨2,.data⟩ (by simp) rfl v2 rfl _ rfl;subst e1 e2;exact .inl ⟨rfl,aA (v:= .slice (some ⟨bb,off,none⟩) k pc) (w':=W) (by go_simp) ⟨ah _ _,fun _=>az⟩⟩
     | 4,_,rfl =>
       exact .inl ⟨rfl,aA (v:= .agg #[.int .u64 d1,.int .u64 d2]) (w':=W) (by go_simp) ⟨ah _ _,fun _=>az⟩⟩
     | i+5,hi,_=>exact absurd hi (by omega)
    case tailC =>
     intro vs W hv hR l;obtain⟨v0,v1,v2,v3,v4,rfl⟩:=ls5 hv;simp only[List.zip,List.zipWith,aV,Act.put,List.setIfInBounds_toArray,List.set,List.drop];have e0:v0=_:=l 0 v0 rfl _ rfl;have e1:v1=_:=l 1 v1 rfl _ rfl;have e2:v2=_:=l 2 v2 rfl _ rfl;have e3:v3=_:=l 3 v3 rfl _ rfl;have e4:v4=_:=l 4 v4 rfl _ rfl;subst e0 e1 e2 e3 e4;clear l hv;have K:Ti W0 W:=hbw.o.trans ((D.o.trans (hR.mono (by omega))).mono C);have HR:=ai hR;clear hR
     go_wp2_with (first | (go_at_call 310;refine(R.o _ HR.o).mono ?_;rintro e w3 ⟨rfl,hb3⟩;refine aP ?_))
     refine aI ?_;have HB3:Ti W0 w3:=K.o.trans (hb3.mono K.o.size);have L:Ti w w3:=HB0.o.trans (HB3.o.mono HB0.o.size);clear hb3;cases v with
     | true =>
       go_wp2_with fail;go_ret
       exact⟨⟨_,rfl,fun h=>by simp at h⟩,L.o⟩
     | false =>
       have HT1:=ai (aW HD.o);have T:Hid ((d1,d2)∉pars.take k):=of_decide_eq_false HV.o;go_wp2_with fail;go_roundw
       case rel =>
        refine⟨k+1,by go_num,hlt,HB3.o,fun d hd=>?_,?_⟩
        . rw[HT1.o,List.mem_append,ae]at hd
          rcases hd with hd | rfl
          . exact z.o d hd
          . exact Q.o
        . show List.Nodup _
          rw[HT1.o,List.nodup_append];exact⟨A.o,by simp,fun a ha b hb e=>by rw[List.mem_singleton.1 hb]at e;exact T.o (e ▸ ha)⟩
       case measure=>simp[intOf];omega
  . have hlz:¬(k:Int)< (n:Int):=by omega
    have U:Hid (pars.take k=pars):=ZU (by rw[HL.o];omega);rw[U.o]at z A;have hcs:nameB auth=false∨ (nameB auth=true/\ (time<0∨ (0<=time/\ ((1099511627776:Int)<time∨ (time<=1099511627776/\ ((200:Int)< (msg.size:Int)∨msg.size<=200)))))):=by
     cases nameB auth
     . exact .inl rfl
     . right;refine⟨rfl,?_⟩;omega
    rcases hcs with r | ⟨r,ht | ⟨ht0,ht | ⟨ht1,hms | hms⟩⟩⟩
    case inr.inr.inr.inr =>
     have hq1:¬time<0:=by omega
     have hq2:¬(1099511627776:Int)<time:=by omega
     have hq3:¬(200:Int)< (msg.size:Int):=by omega
     have M:=ai (y.o N.o z.o A.o r ht0 ht1 hms)
     go_wp2_with (first | (go_at_call 195;refine(jy auth _ (by unfold maxLen;omega)).mono ?_;rintro e w1 ⟨rfl,rfl⟩;rw[r]))
     go_ret
     exact⟨⟨_,rfl,fun _=>M.o⟩,q.o⟩
    all_goals
     try have hq1:¬time<0:=by omega
     try have hq2:¬(1099511627776:Int)<time:=by omega
     go_wp2_with (first | (go_at_call 195;refine(jy auth _ (by unfold maxLen;omega)).mono ?_;rintro e w1 ⟨rfl,rfl⟩;rw[r]))
     go_ret
     exact⟨⟨_,rfl,fun h=>by simp at h⟩,q.o⟩
inductive RdO(o:Ob):Prop
 | blob (k:o.kind=1∨o.kind=4) (e:o.ents= []) (c:NoC o) (d:o.data.size<=65536)
 | tree (k:o.kind=2) (d:o.data= ⟨#[]⟩) (c:NoC o) (few:o.ents.length<=200) (wf:∀e∈o.ents,WfD e.dg) (sz:∀e∈o.ents,e.nm.size<=65536)
 | commit (k:o.kind=3) (d:o.data= ⟨#[]⟩) (e:o.ents= []) (wt:WfD o.tree) (wp:∀d∈o.pars,WfD d) (few:o.pars.length<=8) (au:o.auth.size<=65536) (ms:o.msg.size<=65536)
 | other (k:o.kind≠1/\o.kind≠2/\o.kind≠3/\o.kind≠4) (d:o.data= ⟨#[]⟩) (e:o.ents= []) (c:NoC o)
theorem KT(o:Ob)(s:Osl)(B:Nat)(w:SX)(hm:ObM w B o s)(hB:B<=w.heap.size)(hr:RdO o)(hf:¬OkF o) :
  Calls Tryz.prog 204 #[obV o s] w fun e w'=>(∃x:Int,e= .returned (.int .i64 x)/\x≠0)/\Tf w w':=by
 obtain⟨W0,hW⟩:=NX9 (w.alloc (.cells (obC o s) 109))
 have HB0:Ti w W0:=by rw[<-hW];exact(ah _ w).alloc aj _
 have HK:Hid (Bk W0 w.heap.size 109 (obC o s)):=by rw[<-hW];exact Bk.new w _ _
 have hm0:=hm.below (HB0.o.mono hB) aj;have hel:=hm.elen;have hpl:=hm.plen;cases hr with
 | blob k e c d=>exact absurd (.blob k e c d) hf
 | tree k d c few wf sz =>
   obtain⟨h1,h2,h3,h4,h5⟩:=c.flds;have hp0:s.pn=0:=by rw[<-hpl];exact h2
   have hnf:¬lT o.ents:=fun h=>hf (.tree k d c h);have b:=ai hnf;have HE:=ai (Iz s.eA s.en s.ec B o.ents W0 hm0.e (by have:=HB0.o.size;omega) wf sz (by rw[<-hel];exact few));obtain⟨kind,data,ents,tree,f,a,time,msg⟩:=o;obtain⟨eA,en,ec,pA,n,pc⟩:=s;simp only at h1 h3 h4 h5 hp0 k d HE b;subst h1 h3 h4 h5 hp0 k d;simp only[obV,obC]at hW HK ⊢;obtain⟨c0,c1,c2,c3,c4,c5,c6,c7,c8⟩:=HK.o.nine;clear hm hm0 hel hpl c h2 hf hnf few wf sz
   go_enter Tryz.func204,Tryz.ntmps204
   go_wp2_with (first | (go_at_call 264;refine HE.o.mono ?_;rintro e w1 ⟨⟨x,rfl,hx⟩,hb⟩))
   all_goals
    go_ret
    exact⟨⟨x,rfl,fun h=>b.o (hx h)⟩,HB0.o.trans (hb.mono HB0.o.size)⟩
 | commit k d e wt wp few au ms =>
   have he0:s.en=0:=by rw[<-hel,e];rfl
   have hnf:¬OkC o:=fun h=>hf (.commit k d e h);have b:=ai hnf;have HC:=ai (Jp o s B W0 hm0 (by have:=HB0.o.size;omega) wt wp few au ms);obtain⟨kind,data,ents,⟨t1,t2⟩,f,a,time,msg⟩:=o;obtain⟨eA,en,ec,pA,n,pc⟩:=s;simp only at he0 k d;subst he0 k d;simp only[obV,obC]at hW HK HC ⊢;obtain⟨c0,c1,c2,c3,c4,c5,c6,c7,c8⟩:=HK.o.nine;clear hm hm0 hel hpl e hf hnf wt wp few au ms;have fin:∀(x:Int)(w1:SX),(x=0->OkC ⟨3,⟨#[]⟩,ents,(t1,t2),f,a,time,msg⟩)->Tf W0 w1-> (∃y:Int,Ending.returned (.int .i64 x)= .returned (.int .i64 y)/\y≠0)/\Tf w w1:=fun x w1 hx hb=>⟨⟨x,rfl,fun h=>b.o (hx h)⟩,HB0.o.trans (hb.mono HB0.o.size)⟩
   have FIN:=ai fin;have hcs: ((t1 == 0 && t2 == 0)=false)∨ ((t1=0/\t2=0)/\ ((0:Int)< (n:Int)∨ (n=0/\ ((a.toList == ([]:List UInt8))=false∨ ((a.toList == ([]:List UInt8))=true/\ ((time != 0)=true∨ (time=0/\ ((msg.toList == ([]:List UInt8))=false∨ (msg.toList == ([]:List UInt8))=true)))))))):=by
    by_cases h1:t1=0/\t2=0
    . refine .inr ⟨h1,?_⟩
      rcases Nat.eq_zero_or_pos n with h | h
      . refine .inr ⟨h,?_⟩
        cases (a.toList == ([]:List UInt8)) with
        | false=>exact .inl rfl
        | true =>
          refine .inr ⟨rfl,?_⟩;by_cases ht:time=0
          . refine .inr ⟨ht,?_⟩
            cases (msg.toList == ([]:List UInt8)) with
            | false=>exact .inl rfl
            | true=>exact .inr rfl
          . exact .inl (by simpa using ht)
      . exact .inl (by omega)
    . left
      rw[Bool.eq_false_iff];intro h;rw[Bool.and_eq_true,beq_iff_eq,beq_iff_eq]at h;exact h1 h
   clear fin b;rcases hcs with htz | ⟨⟨rfl,rfl⟩,hn | ⟨rfl,ha | ⟨ha,ht | ⟨rfl,hm | hm⟩⟩⟩⟩
   all_goals
    go_enter Tryz.func204,Tryz.ntmps204
    go_wp2_with (first | (go_at_call 265;refine HC.o.mono ?_;rintro e w1 ⟨⟨x,rfl,hx⟩,hb⟩))
    go_ret
    exact FIN.o x _ hx hb
 | other k d e c =>
   obtain⟨h1,h2,h3,h4,h5⟩:=c.flds;have he0:s.en=0:=by rw[<-hel,e];rfl
   have hp0:s.pn=0:=by rw[<-hpl];exact h2
   obtain⟨kind,data,ents,tree,f,a,time,msg⟩:=o;obtain⟨eA,en,ec,pA,n,pc⟩:=s;simp only at h1 h3 h4 h5 he0 hp0 k d;subst h1 h3 h4 h5 he0 hp0 d;simp only[obV,obC]at hW HK ⊢;obtain⟨c0,c1,c2,c3,c4,c5,c6,c7,c8⟩:=HK.o.nine;have k1: (kind == 1)=false:=by simpa using k.1
   have k2: (kind == 2)=false:=by simpa using k.2.1
   have k3: (kind == 3)=false:=by simpa using k.2.2.1
   have k4: (kind == 4)=false:=by simpa using k.2.2.2
   clear hm hm0 hel hpl e c h2 hf k
   go_enter Tryz.func204,Tryz.ntmps204
   go_wp2_with fail;go_ret
   exact⟨⟨9,rfl,by decide⟩,HB0.o⟩
def Sj(w:SX)(e:Ending)(w':SX):Prop:=(∃x:Int,e= .returned (.tuple #[.string ⟨#[]⟩,.int .i64 x])/\x≠0)/\Tf w w'
theorem oV(o:Ob)(s:Osl)(B:Nat)(w:SX)(hm:ObM w B o s)(hB:B<=w.heap.size)(hr:RdO o)(hf:¬OkF o) :
  Calls Tryz.prog 113 #[obV o s] w fun e w'=>(∃x:Int,e= .returned (.int .i64 x)/\x≠0)/\Tf w w':=by
 have enc:∀W:SX,Tf w W->Calls Tryz.prog 125 #[obV o s] W (Sj W):=fun W hW=>by
  obtain⟨W0,hW0⟩:=NX9 (W.alloc (.cells (obC o s) 109))
  have HB0:Ti W W0:=by rw[<-hW0];exact(ah _ W).alloc aj _
  have a:Hid (Bk W0 W.heap.size 109 (obC o s)):=by rw[<-hW0];exact Bk.new W _ _
  have HC:=ai (KT o s B W0 (hm.below (hW.trans (HB0.o.mono hW.size)) hB) (by have:=hW.size;have:=HB0.o.size;omega) hr hf);obtain⟨kind,data,b,⟨t1,t2⟩,c,d,time,msg⟩:=o;obtain⟨eA,en,ec,pA,pn,pc⟩:=s;simp only[obV,obC]at hW0 a HC ⊢;obtain⟨c0,c1,c2,c3,c4,c5,c6,c7,c8⟩:=a.o.nine;clear hm hr hf hW hB
  go_enter Tryz.func125,Tryz.ntmps125
  go_wp2_with fail;refine HC.o.mono ?_;rintro e w1 ⟨⟨x,rfl,hx⟩,hb1⟩;have hxb: (x != 0)=true:=by simpa using hx
  have HX:=ai hx;clear hx;go_wp2_with fail;go_ret2
  exact⟨⟨x,rfl,HX.o⟩,HB0.o.trans (hb1.mono HB0.o.size)⟩
 obtain⟨W0,hW0⟩:=NX9 (w.alloc (.cells (obC o s) 109))
 have HB0:Ti w W0:=by rw[<-hW0];exact(ah _ w).alloc aj _
 have a:Hid (Bk W0 w.heap.size 109 (obC o s)):=by rw[<-hW0];exact Bk.new w _ _
 have HC:=ai (enc W0 HB0.o);clear enc hm hr hf;obtain⟨kind,data,b,⟨t1,t2⟩,c,d,time,msg⟩:=o;obtain⟨eA,en,ec,pA,pn,pc⟩:=s;simp only[obV,obC]at hW0 a HC ⊢;obtain⟨c0,c1,c2,c3,c4,c5,c6,c7,c8⟩:=a.o.nine
 go_enter Tryz.func113,Tryz.ntmps113
 go_wp2_with (first | (go_at_call 125;refine HC.o.mono ?_;rintro e w1 ⟨⟨x,rfl,hx⟩,hb1⟩))
 go_ret
 exact⟨⟨x,rfl,hx⟩,HB0.o.trans (hb1.mono HB0.o.size)⟩
theorem Rl{b:Td}{o:Ob}{r:RS}(h:qO b= (o,r))(hb:r.2=false):RdO o:=by
 obtain⟨r1,r2⟩:=r;simp only at hb;subst hb;unfold qO at h;obtain⟨x,hx⟩:=NX9 (qN (b,false))
 rw[hx]at h;obtain⟨k,st⟩:=x;simp only at h;split at h
 . rename_i hk
   simp only[Prod.mk.injEq]at h;obtain⟨rfl,h⟩:=h;have e:=kP (s:=st) (t:=(qT st).1) (r:=r1) (Prod.ext rfl h);refine .blob (by simp only;omega) rfl ⟨rfl,rfl,rfl,rfl,rfl⟩ e.2
 . split at h
   . rename_i hk
     simp only[Prod.mk.injEq]at h;obtain⟨rfl,h⟩:=h;obtain⟨e1,e2,e3⟩:=tV (enc:=aU) (P:=fun e=>WfD e.dg/\e.nm.size<=65536) (fun s x r h=>⟨(yI h).1,(yI h).2,by
      unfold qE at h;simp only[Prod.mk.injEq]at h;obtain⟨rfl,h⟩:=h;have h3:=nG (Prod.ext rfl h:qD _= (_,r,false));have h4:=congrArg Prod.snd h3.1;simp only[Bool.or_eq_false_iff]at h4;have h2:=nD (Prod.ext rfl (Prod.ext rfl h4.1):qN _= (_,_,false));have h5:=congrArg Prod.snd h2.1;exact(kP (Prod.ext rfl (Prod.ext rfl h5):qT _= (_,_,false))).2⟩) (s:=st) (l:=(qLs qE 200 st).1) (r:=r1) (Prod.ext rfl h)
     exact .tree rfl rfl ⟨rfl,rfl,rfl,rfl,rfl⟩ e2 (fun e he=>(e3 e he).1) (fun e he=>(e3 e he).2)
   . split at h
     . unfold qC at h
       simp only[Prod.mk.injEq]at h;obtain⟨rfl,h⟩:=h;have e1:=kP (Prod.ext rfl h:qT _= (_,r1,false));have e2:=nD (Prod.ext rfl (Prod.ext rfl (by rw[e1.1])):qN _= (_,_,false));have e3:=kP (Prod.ext rfl (Prod.ext rfl (by rw[e2.1])):qT _= (_,_,false));obtain⟨f1,f2,f3⟩:=tV (enc:=ay) (P:=WfD) (fun s x r h=>nG h) (Prod.ext rfl (Prod.ext rfl (by rw[e3.1])):qLs qD 8 _= (_,_,false));have e5:=nG (Prod.ext rfl (Prod.ext rfl (by rw[f1])):qD _= (_,_,false));exact .commit rfl rfl rfl e5.2 f3 f2 e3.2 e1.2
     . rename_i h1 h2 h3
       simp only[Prod.mk.injEq]at h;obtain⟨rfl,_⟩:=h;refine .other ?_ rfl rfl ⟨rfl,rfl,rfl,rfl,rfl⟩;simp only;omega
theorem QF{b:Td}(hb:b.length<=65536)(hn:¬∃o,OkO o/\b=aJ o): (qO b).2.2=true∨ (qO b).2.1≠ []∨¬OkF (qO b).1:=by
 refine Classical.byContradiction fun h=>hn ?_;simp only[not_or,Classical.not_not,ne_eq,Bool.not_eq_true]at h;obtain⟨h1,h2,h3⟩:=h;have e:b=aJ (qO b).1:=QR (Prod.ext rfl (Prod.ext h2 h1)) h3;exact⟨_,⟨h3,by rw[<-e];exact hb⟩,e⟩
