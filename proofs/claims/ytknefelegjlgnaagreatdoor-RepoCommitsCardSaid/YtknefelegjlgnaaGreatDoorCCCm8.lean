/-Lemmas.-/
import Derived.Test.YtknefelegjlgnaaGreatDoorCCCm7
set_option maxRecDepth 100000
set_option maxHeartbeats 8000000
namespace Go.Proofs.YtknefelegjlgnaaGreatDoor
open Go.RowKit
theorem x9(s:VB)(m:Nat):s.extract m s.size=ofL ((toL s).drop m):=by
 apply nP
 rw[dE];show(s.extract m s.size).data.toList=s.data.toList.drop m;rw[ByteArray.data_extract,Array.toList_extract,List.extract_eq_take_drop,ZU];rw[List.length_drop];exact Nat.le_refl _
def Rds(w:VA)(b:Nat)(s:RS):Prop:=Bk w b 229 #[.string (ofL s.1),.bool s.2]
def RsE(v:VC)(b:Nat)(s:RS)(w:VA)(e:Ending)(w':VA):Prop:=e= .returned v/\Rds w' b s/\Gb (fun g=>g=b) w w'
theorem mO(b:Nat)(q:RS)(w:VA)(hk:Rds w b q)(hl:q.1.length<=1000000) :
  Calls Tryz.prog 143 #[.pointer (some ⟨b,0,none⟩)] w (RsE (.int .i64 ((qN q).1:Nat)) b (qN q).2 w):=by
 unfold Rds at hk;obtain⟨l,bad⟩:=q;obtain⟨s,hs⟩:=NX9 (ofL l)
 have hls:l=toL s:=by rw[<-hs,dE]
 subst hls;simp only[hs]at hk hl;have hsz:s.size= (toL s).length:=aQ s;have hle:=nM (toL s);have HG:=ai (mX s w);unfold qN;simp only;obtain⟨⟨v,m,x⟩,hg⟩:∃g,aA (toL s)=g:=⟨_,rfl⟩
 rw[hg]at HG hle ⊢;simp only at hle ⊢;have HX:=ai (x9 s m);have a: (m:Int)<= (s.size:Int):=by omega
 have hsm: (s.size:Int)<=1000000:=by omega
 have HK:=ai hk;obtain⟨x0,x1,f0,f1⟩:=hk.two;clear hk hs hsz hle hg hl;have fin:∀c:Bool,c= (bad || decide (x≠0))->RsE (.int .i64 (v:Nat)) b ((toL s).drop m,bad || decide (x≠0)) w (.returned (.int .i64 v)) ((w.setCell ⟨b,1,none⟩ (.bool c)).setCell ⟨b,0,none⟩ (.string (s.extract m s.size))):=by
  rintro c rfl;refine⟨rfl,?_,kM _ _ _ _⟩;show Bk _ _ _ #[.string (ofL ((toL s).drop m)),.bool _];rw[<-HX.o];exact kN HK.o _ _
 have FIN:=ai fin;clear fin
 go_enter Tryz.func143,Tryz.ntmps143
 go_wp2_with fail;refine HG.o.mono ?_;rintro e w' ⟨rfl,rfl⟩;cases bad
 . by_cases hx:x=0
   . subst hx
     go_wp2_with fail;go_ret
     exact FIN.o false (by simp)
   . have hxb: (x != 0)=true:=by simpa using hx
     go_wp2_with fail;go_ret
     exact FIN.o true (by simp[hx])
 . go_wp2_with fail
   go_ret
   exact FIN.o true (by simp)
theorem mM(b:Nat)(q:RS)(w:VA)(hk:Rds w b q)(hl:q.1.length<=1000000) :
  Calls Tryz.prog 144 #[.pointer (some ⟨b,0,none⟩)] w (RsE (.string (ofL (qT q).1)) b (qT q).2 w):=by
 unfold Rds at hk;obtain⟨l,bad⟩:=q;obtain⟨s,hs⟩:=NX9 (ofL l)
 have hls:l=toL s:=by rw[<-hs,dE]
 subst hls;simp only[hs]at hk hl;have hsz:s.size= (toL s).length:=aQ s;have hle:=uf (toL s);have HG:=ai (vM s (by unfold maxLen;omega) w);unfold qT;simp only;obtain⟨⟨v,m,x⟩,hg⟩:∃g,aK (toL s)=g:=⟨_,rfl⟩
 rw[hg]at HG hle ⊢;simp only at hle ⊢;unfold uV at HG;simp only at HG;have HX:=ai (x9 s m);have a: (m:Int)<= (s.size:Int):=by omega
 have hsm: (s.size:Int)<=1000000:=by omega
 have HK:=ai hk;obtain⟨x0,x1,f0,f1⟩:=hk.two;clear hk hs hsz hle hg hl;have fin:∀c:Bool,c= (bad || decide (x≠0))->RsE (.string (ofL v)) b ((toL s).drop m,bad || decide (x≠0)) w (.returned (.string (ofL v))) ((w.setCell ⟨b,1,none⟩ (.bool c)).setCell ⟨b,0,none⟩ (.string (s.extract m s.size))):=by
  rintro c rfl;refine⟨rfl,?_,kM _ _ _ _⟩;show Bk _ _ _ #[.string (ofL ((toL s).drop m)),.bool _];rw[<-HX.o];exact kN HK.o _ _
 have FIN:=ai fin;clear fin
 go_enter Tryz.func144,Tryz.ntmps144
 go_wp2_with fail;refine HG.o.mono ?_;rintro e w' ⟨rfl,rfl⟩;cases bad
 . by_cases hx:x=0
   . subst hx
     go_wp2_with fail;go_ret
     exact FIN.o false (by simp)
   . have hxb: (x != 0)=true:=by simpa using hx
     go_wp2_with fail;go_ret
     exact FIN.o true (by simp[hx])
 . go_wp2_with fail
   go_ret
   exact FIN.o true (by simp)
theorem mJ(b:Nat)(q:RS)(w:VA)(hk:Rds w b q)(hl:q.1.length<=1000000) :
  Calls Tryz.prog 147 #[.pointer (some ⟨b,0,none⟩)] w (RsE (az (qD q).1) b (qD q).2 w):=by
 unfold Rds at hk;obtain⟨l,bad⟩:=q;obtain⟨s,hs⟩:=NX9 (ofL l)
 have hls:l=toL s:=by rw[<-hs,dE]
 subst hls;simp only[hs]at hk hl;have hsz:s.size= (toL s).length:=aQ s;have HX:=ai (x9 s 16);rw[<-hsz]at hl;have HE:=ai (IY (toL s));have hbw:=hk.lt;obtain⟨W0,hW0⟩:=NX9 ((w.alloc (.cells #[.int .u64 0,.int .u64 0] 50)).alloc (.cells #[.int .u64 0,.int .u64 0] 50))
 have c:Hid (Bk W0 w.heap.size 50 #[.int .u64 0,.int .u64 0]):=by rw[<-hW0];exact(Bk.new w _ _).alloc _
 have d:Hid (Bk W0 (w.heap.size+1) 50 #[.int .u64 0,.int .u64 0]):=by
  rw[<-hW0];have:=Bk.new (w.alloc (.cells #[.int .u64 0,.int .u64 0] 50)) 50 #[.int .u64 0,.int .u64 0]
  rwa[Z9]at this
 have HB:VF w W0:=by rw[<-hW0];exact((ah _ w).alloc aj _).alloc (by simp) _
 have HR:=ai hk;obtain⟨x0,x1,_,_⟩:=(hk.below HB.o hbw).two;clear hk hs;unfold qD;simp only;rw[<-hsz];clear hsz;have e:b≠w.heap.size:=by omega
 have f:b≠w.heap.size+1:=by omega
 by_cases hsh:s.size<16
 . have h: (s.size:Int)<16:=by omega
   rw[if_pos hsh];obtain⟨_,_,g0,g1⟩:=(HR.o.below HB.o hbw).two;obtain⟨u0,u1,e0,e1⟩:=c.o.two;obtain⟨v0,v1,_,_⟩:=d.o.two;rw[<-hW0]at x0 x1 g0 g1 u0 u1 e0 e1 v0 v1;have HW0:=ai hW0;clear hW0
   go_enter Tryz.func147,Tryz.ntmps147
   go_wp2_with fail;have hz1: (w.setCell ⟨b,1,none⟩ (.bool true)).heap.size=w.heap.size:=by simp
   have hbn:=Bk.new (w.setCell ⟨b,1,none⟩ (.bool true)) 50 #[.int .u64 0,.int .u64 0];rw[hz1]at hbn;refine ZW (sJ Tryz.results147 rfl (hbn.alloc _)) rfl ⟨rfl,?_,?_⟩
   . show Bk _ _ _ #[.string (ofL (toL s)),.bool true]
     rw[jd];have:=((HR.o.set 1 (.bool true)).alloc (.cells #[.int .u64 0,.int .u64 0] 50)).alloc (.cells #[.int .u64 0,.int .u64 0] 50)
     simpa using this
   . exact(Gb.set (p:=fun g=>g=b) (x:=b) rfl 1 _).trans (Gb.of_below (((ah _ _).alloc aj _).alloc (by simp) _))
 have h16:16<=s.size:=by omega
 have h:¬(s.size:Int)<16:=by omega
 have n: (16:Int)<= (s.size:Int):=by omega
 rw[if_neg hsh];clear hsh
 go_enter Tryz.func147,Tryz.ntmps147
 go_wp2_with fail;clear hW0
 go_loopw[15] (fun i wr=>∃k:Nat,k<=16/\i= .int .i64 k/\Hid (Bk wr w.heap.size 50 #[.int .u64 0,.int .u64 0])/\Hid (Bk wr (w.heap.size+1) 50 #[.int .u64 (wd1 (toL s) k),.int .u64 (wd2 (toL s) k)])/\VF w wr) (fun i _=>16 - (intOf i).toNat)
 case atStart=>exact⟨0,by omega,rfl,c.o,d.o,HB.o⟩
 case round =>
  obtain⟨k,hk,rfl,J0,J1,hB⟩:=hrel;clear x0 x1;obtain⟨x0,x1,xf,_⟩:=(HR.o.below hB.o hbw).two;by_cases hlt:k<16
  . have hsz:k<s.size:=by omega
    have hd:s[k].toNat<256:=s[k].toNat_lt;have hki: (k:Int)<16:=by omega
    by_cases h8:k<8
    . have hx:=Iy (l:=toL s) h8
      obtain⟨e1,e2⟩:=FI (tX hsz) h8;have a:=ai e1;have HE2:=ai e2;have y0:=J1.o.cell 0;have y1:=J1.o.cell 1;have f0:=J1.o.free 0;simp at y0 y1;clear e1 e2 HX;have hq: (k:Int) / 8=0:=by omega
      generalize wd1 (toL s) k=x at *;generalize wd2 (toL s) k=y at *;have hor:=tY (x:=x) (y:=s[k].toNat) (by omega) (by omega);go_wp2_with fail
      go_region
      go_wp2_with fail;go_roundw
      case rel=>exact⟨k+1,by omega,by go_num,J0.o.far (p:=⟨w.heap.size+1,0,none⟩) (by simp) _,by show Bk _ _ _ _;rw[a.o,HE2.o];exact J1.o.set 0 _,(hB.o.setCell (p:=⟨w.heap.size+1,0,none⟩) (by simp) _).drew⟩
      case measure=>simp[intOf];omega
    . have hx:=H9 (l:=toL s) hlt
      obtain⟨e1,e2⟩:=Fj (tX hsz) (by omega);have a:=ai e1;have HE2:=ai e2;have y0:=J1.o.cell 0;have y1:=J1.o.cell 1;have f1:=J1.o.free 1;simp at y0 y1;clear e1 e2 HX;have hq: (k:Int) / 8=1:=by omega
      generalize wd1 (toL s) k=x at *;generalize wd2 (toL s) k=y at *;have hor:=tY (x:=y) (y:=s[k].toNat) (by omega) (by omega);go_wp2_with fail
      go_region
      go_wp2_with fail;go_roundw
      case rel=>exact⟨k+1,by omega,by go_num,J0.o.far (p:=⟨w.heap.size+1,1,none⟩) (by simp) _,by show Bk _ _ _ _;rw[a.o,HE2.o];exact J1.o.set 1 _,(hB.o.setCell (p:=⟨w.heap.size+1,1,none⟩) (by simp) _).drew⟩
      case measure=>simp[intOf];omega
  . have hke:Hid (k=16):=by show _=_;omega
    have hki:¬(k:Int)<16:=by omega
    have j:Hid (dg (toL s)= ((wd1 (toL s) k:Int),(wd2 (toL s) k:Int))):=by show _=_;rw[hke.o];exact HE.o
    have m:=ai (HR.o.below hB.o hbw);obtain⟨y0,y1,_,_⟩:=J1.o.two;obtain⟨z0,z1,f0,f1⟩:=J0.o.two;generalize wd1 (toL s) k=x at *;generalize wd2 (toL s) k=y at *;clear hlt;have hne1:=e;have hne2:=f;go_wp2_with fail;refine ZW (sJ Tryz.results147 rfl ((J0.o.far (p:=⟨b,0,none⟩) hne1.symm _).set2 _ _)) rfl ⟨by rw[j.o];rfl,?_,?_⟩
    . show Bk _ _ _ #[.string (ofL ((toL s).drop 16)),.bool bad]
      rw[<-HX.o];have:=(((m.o.set 0 (.string (s.extract 16 s.size))).far (p:=⟨w.heap.size,0,none⟩) hne1 (.int .u64 x)).far (p:=⟨w.heap.size,1,none⟩) hne1 (.int .u64 y))
      simpa using this
    . exact((((Gb.of_below hB.o).trans (Gb.set (p:=fun g=>g=b) (x:=b) rfl 0 _)).after aj 0 _).after aj 1 _)
theorem zn(q:RS): (qT q).2.1.length<=q.1.length:=by unfold qT;simp only[List.length_drop];omega
theorem lW(q:RS): (qN q).2.1.length<=q.1.length:=by unfold qN;simp only[List.length_drop];omega
theorem uG(q:RS): (qD q).2.1.length<=q.1.length:=by
 unfold qD;split
 . exact Nat.le_refl _
 . simp only[List.length_drop];omega
theorem Uh(q:RS): (qE q).2.1.length<=q.1.length:=by
 unfold qE;simp only;exact ZY (uG _) (ZY (lW _) (zn _))
theorem Nj(b:Nat)(q:RS)(w:VA)(hk:Rds w b q)(hl:q.1.length<=1000000) :
  Calls Tryz.prog 146 #[.pointer (some ⟨b,0,none⟩)] w (RsE (Jr (qE q).1) b (qE q).2 w):=by
 have hbw:=Bk.lt hk;have hl1:=zn q;obtain⟨W1,hW1⟩:=NX9 (w.alloc (.cells #[.string ⟨#[]⟩,.bool false,.int .u64 0,.int .u64 0] 185))
 have HZ1:Hid (Bk W1 w.heap.size 185 #[.string ⟨#[]⟩,.bool false,.int .u64 0,.int .u64 0]):=by rw[<-hW1];exact Bk.new w _ _
 have hb1:VE w W1:=by rw[<-hW1];exact(ah _ w).alloc aj _
 have H:W1.heap.size=w.heap.size+1:=by rw[<-hW1];simp
 have D:Hid (Gb (fun g=>g=b) w W1):=Gb.of_below hb1;have HS:=ai (mM b q W1 (Bk.below hk hb1 hbw) hl);unfold qE;obtain⟨⟨t,q1⟩,h1⟩:∃x,qT q=x:=⟨_,rfl⟩
 rw[h1]at HS hl1 ⊢;simp only at HS hl1 ⊢;have hl2:=lW q1;obtain⟨⟨k,r2,b2⟩,h2⟩:∃x,qN q1=x:=⟨_,rfl⟩
 have H2:=ai h2;rw[h2]at hl2 ⊢;simp only at hl2 ⊢;obtain⟨B,hB⟩:=NX9 ((b2 || decide (1<k)))
 rw[hB];obtain⟨⟨⟨d1,d2⟩,q4⟩,h4⟩:∃x,qD (r2,B)=x:=⟨_,rfl⟩
 have H4:=ai h4;rw[h4];simp only;have v:q1.1.length<=1000000:=by omega
 have y:r2.length<=1000000:=by omega
 have E:=ai v;have HL2:=ai y;have hcs: (b2=true/\B=true)∨ (b2=false/\decide ((1:Int)< (k:Int))=true/\B=true)∨ (b2=false/\decide ((1:Int)< (k:Int))=false/\B=false):=by
  rw[<-hB];cases b2
  . by_cases h:1<k
    . have: (1:Int)< (k:Int):=by omega
      simp[h];omega
    . have:¬(1:Int)< (k:Int):=by omega
      simp[h];omega
  . simp
 clear hk hl hb1 h1 h2 h4 hl1 hl2 v y hB
 go_enter Tryz.func146,Tryz.ntmps146
 go_wp2_with fail;refine HS.o.mono ?_;rintro e w2 ⟨rfl,hr2,hg2⟩;have HR2:=ai hr2;have z2:=hg2.size;have HG2:Hid (Gb (fun g=>g=b) w w2):=D.o.trans hg2;have HZ2:=ai (hg2.bk HZ1.o (by show ¬w.heap.size=b;omega));clear hr2 hg2 hW1 HS;obtain⟨W3,hW3⟩:=NX9 (w2.alloc (.cells #[.string (ofL t),.bool false,.int .u64 0,.int .u64 0] 185))
 have F:Hid (Bk W3 w2.heap.size 185 #[.string (ofL t),.bool false,.int .u64 0,.int .u64 0]):=by rw[<-hW3];exact Bk.new w2 _ _
 have hb3:VE w2 W3:=by rw[<-hW3];exact(ah _ w2).alloc aj _
 have I:W3.heap.size=w2.heap.size+1:=by rw[<-hW3];simp
 have G:Hid (Gb (fun g=>g=b) w W3):=HG2.o.trans (Gb.of_below hb3);have HZ3:=ai (HZ2.o.below hb3 (by omega));have HN:=ai (mO b q1 W3 (Bk.below HR2.o hb3 (by omega)) E.o);rw[H2.o]at HN;simp only at HN;have HW3:=ai hW3;clear hb3 hW3;go_wp2_with fail;rw[HW3.o];refine HN.o.mono ?_;rintro e w4 ⟨rfl,hr4,hg4⟩;have z4:=hg4.size;have z:Hid (Gb (fun g=>g=b) w w4):=G.o.trans hg4;have A:=ai (hg4.bk HZ3.o (by show ¬w.heap.size=b;omega));have i:=ai (hg4.bk F.o (by show ¬w2.heap.size=b;omega));have HR4:=ai hr4;have hne1:b≠w2.heap.size:=by omega
 have hne2:b≠w.heap.size:=by omega
 have hkd: ((k:Int) == 1)=decide (k=1):=by
  rw[Bool.eq_iff_iff];simp;omega
 rcases hcs with ⟨rfl,rfl⟩ | ⟨rfl,hkz,rfl⟩ | ⟨rfl,hkz,rfl⟩
 . obtain⟨x0,x1,f0,f1⟩:=Bk.two hr4
   obtain⟨y0,y1,y2,y3⟩:=i.o.four;have g1:=i.o.free 1;obtain⟨W5,a⟩:=NX9 ((w4.setCell ⟨b,1,none⟩ (.bool true)).setCell ⟨w2.heap.size,1,none⟩ (.bool (decide (k=1))))
   have m:Hid (Rds W5 b (r2,true)):=by
    rw[<-a];have:=(HR4.o.set 1 (.bool true)).far (p:=⟨w2.heap.size,1,none⟩) hne1 (.bool (decide (k=1)));show Bk _ _ _ _;simpa using this
   have n:Hid (Bk W5 w2.heap.size 185 #[.string (ofL t),.bool (decide (k=1)),.int .u64 0,.int .u64 0]):=by
    rw[<-a];have:=(i.o.far (p:=⟨b,1,none⟩) hne1.symm (.bool true)).set 1 (.bool (decide (k=1)));show Bk _ _ _ _;simpa using this
   have o:Hid (Bk W5 w.heap.size 185 #[.string ⟨#[]⟩,.bool false,.int .u64 0,.int .u64 0]):=by
    rw[<-a];exact(A.o.far (p:=⟨b,1,none⟩) hne2.symm _).far (p:=⟨w2.heap.size,1,none⟩) (by show w.heap.size≠w2.heap.size;omega) _
   have C:W5.heap.size=w4.heap.size:=by rw[<-a];simp[World.setCell]
   have r:Hid (Gb (fun g=>g=b) w W5):=by
    rw[<-a];exact(z.o.trans (Gb.set (p:=fun g=>g=b) (x:=b) rfl 1 _)).after (by omega) 1 _
   have HD:=ai (mJ b (r2,true) W5 m.o HL2.o);rw[H4.o]at HD;simp only at HD;clear hr4 hg4 HN HW3;go_wp2_with fail;refine HD.o.mono ?_;rintro e w6 ⟨rfl,j,c⟩;have d:=ai (c.bk n.o (by show ¬w2.heap.size=b;omega));have f:=ai (c.bk o.o (by show ¬w.heap.size=b;omega));have s:=ai j;have u:Hid (Gb (fun g=>g=b) w w6):=r.o.trans c;clear x0 x1 f0 f1 y0 y1 y2 y3 g1 j c a HD;simp only[az];obtain⟨y0,y1,y2,y3⟩:=d.o.four;have g2:=d.o.free 2;have g3:=d.o.free 3;obtain⟨z0,z1,z2',z3⟩:=f.o.four;obtain⟨e0,e1,e2,e3⟩:=fr4 f.o;have l:w.heap.size≠w2.heap.size:=by omega
   go_wp2_with fail;refine ZW (wP Tryz.results146 rfl (yI ((f.o.far (p:=⟨w2.heap.size,2,none⟩) l _).far (p:=⟨w2.heap.size,3,none⟩) l _) _ _ _ _)) rfl ⟨rfl,?_,?_⟩
   . exact(((((s.o.far (p:=⟨w2.heap.size,2,none⟩) hne1 _).far (p:=⟨w2.heap.size,3,none⟩) hne1 _).far (p:=⟨w.heap.size,0,none⟩) hne2 _).far (p:=⟨w.heap.size,1,none⟩) hne2 _).far (p:=⟨w.heap.size,2,none⟩) hne2 _).far (p:=⟨w.heap.size,3,none⟩) hne2 _
   . exact(((((u.o.after (by omega) 2 _).after (by omega) 3 _).after aj 0 _).after aj 1 _).after aj 2 _).after aj 3 _
 . obtain⟨x0,x1,f0,f1⟩:=Bk.two hr4
   obtain⟨y0,y1,y2,y3⟩:=i.o.four;have g1:=i.o.free 1;obtain⟨W5,a⟩:=NX9 ((w4.setCell ⟨b,1,none⟩ (.bool true)).setCell ⟨w2.heap.size,1,none⟩ (.bool (decide (k=1))))
   have m:Hid (Rds W5 b (r2,true)):=by
    rw[<-a];have:=(HR4.o.set 1 (.bool true)).far (p:=⟨w2.heap.size,1,none⟩) hne1 (.bool (decide (k=1)));show Bk _ _ _ _;simpa using this
   have n:Hid (Bk W5 w2.heap.size 185 #[.string (ofL t),.bool (decide (k=1)),.int .u64 0,.int .u64 0]):=by
    rw[<-a];have:=(i.o.far (p:=⟨b,1,none⟩) hne1.symm (.bool true)).set 1 (.bool (decide (k=1)));show Bk _ _ _ _;simpa using this
   have o:Hid (Bk W5 w.heap.size 185 #[.string ⟨#[]⟩,.bool false,.int .u64 0,.int .u64 0]):=by
    rw[<-a];exact(A.o.far (p:=⟨b,1,none⟩) hne2.symm _).far (p:=⟨w2.heap.size,1,none⟩) (by show w.heap.size≠w2.heap.size;omega) _
   have C:W5.heap.size=w4.heap.size:=by rw[<-a];simp[World.setCell]
   have r:Hid (Gb (fun g=>g=b) w W5):=by
    rw[<-a];exact(z.o.trans (Gb.set (p:=fun g=>g=b) (x:=b) rfl 1 _)).after (by omega) 1 _
   have HD:=ai (mJ b (r2,true) W5 m.o HL2.o);rw[H4.o]at HD;simp only at HD;clear hr4 hg4 HN HW3;go_wp2_with fail;refine HD.o.mono ?_;rintro e w6 ⟨rfl,j,c⟩;have d:=ai (c.bk n.o (by show ¬w2.heap.size=b;omega));have f:=ai (c.bk o.o (by show ¬w.heap.size=b;omega));have s:=ai j;have u:Hid (Gb (fun g=>g=b) w w6):=r.o.trans c;clear x0 x1 f0 f1 y0 y1 y2 y3 g1 j c a HD;simp only[az];obtain⟨y0,y1,y2,y3⟩:=d.o.four;have g2:=d.o.free 2;have g3:=d.o.free 3;obtain⟨z0,z1,z2',z3⟩:=f.o.four;obtain⟨e0,e1,e2,e3⟩:=fr4 f.o;have l:w.heap.size≠w2.heap.size:=by omega
   go_wp2_with fail;refine ZW (wP Tryz.results146 rfl (yI ((f.o.far (p:=⟨w2.heap.size,2,none⟩) l _).far (p:=⟨w2.heap.size,3,none⟩) l _) _ _ _ _)) rfl ⟨rfl,?_,?_⟩
   . exact(((((s.o.far (p:=⟨w2.heap.size,2,none⟩) hne1 _).far (p:=⟨w2.heap.size,3,none⟩) hne1 _).far (p:=⟨w.heap.size,0,none⟩) hne2 _).far (p:=⟨w.heap.size,1,none⟩) hne2 _).far (p:=⟨w.heap.size,2,none⟩) hne2 _).far (p:=⟨w.heap.size,3,none⟩) hne2 _
   . exact(((((u.o.after (by omega) 2 _).after (by omega) 3 _).after aj 0 _).after aj 1 _).after aj 2 _).after aj 3 _
 . obtain⟨x0,x1,f0,f1⟩:=Bk.two hr4
   obtain⟨y0,y1,y2,y3⟩:=i.o.four;have g1:=i.o.free 1;obtain⟨W5,a⟩:=NX9 ((w4.setCell ⟨b,1,none⟩ (.bool false)).setCell ⟨w2.heap.size,1,none⟩ (.bool (decide (k=1))))
   have m:Hid (Rds W5 b (r2,false)):=by
    rw[<-a];have:=(HR4.o.set 1 (.bool false)).far (p:=⟨w2.heap.size,1,none⟩) hne1 (.bool (decide (k=1)));show Bk _ _ _ _;simpa using this
   have n:Hid (Bk W5 w2.heap.size 185 #[.string (ofL t),.bool (decide (k=1)),.int .u64 0,.int .u64 0]):=by
    rw[<-a];have:=(i.o.far (p:=⟨b,1,none⟩) hne1.symm (.bool false)).set 1 (.bool (decide (k=1)));show Bk _ _ _ _;simpa using this
   have o:Hid (Bk W5 w.heap.size 185 #[.string ⟨#[]⟩,.bool false,.int .u64 0,.int .u64 0]):=by
    rw[<-a];exact(A.o.far (p:=⟨b,1,none⟩) hne2.symm _).far (p:=⟨w2.heap.size,1,none⟩) (by show w.heap.size≠w2.heap.size;omega) _
   have C:W5.heap.size=w4.heap.size:=by rw[<-a];simp[World.setCell]
   have r:Hid (Gb (fun g=>g=b) w W5):=by
    rw[<-a];exact(z.o.trans (Gb.set (p:=fun g=>g=b) (x:=b) rfl 1 _)).after (by omega) 1 _
   have HD:=ai (mJ b (r2,false) W5 m.o HL2.o);rw[H4.o]at HD;simp only at HD;clear hr4 hg4 HN HW3;go_wp2_with fail;refine HD.o.mono ?_;rintro e w6 ⟨rfl,j,c⟩;have d:=ai (c.bk n.o (by show ¬w2.heap.size=b;omega));have f:=ai (c.bk o.o (by show ¬w.heap.size=b;omega));have s:=ai j;have u:Hid (Gb (fun g=>g=b) w w6):=r.o.trans c;clear x0 x1 f0 f1 y0 y1 y2 y3 g1 j c a HD;simp only[az];obtain⟨y0,y1,y2,y3⟩:=d.o.four;have g2:=d.o.free 2;have g3:=d.o.free 3;obtain⟨z0,z1,z2',z3⟩:=f.o.four;obtain⟨e0,e1,e2,e3⟩:=fr4 f.o;have l:w.heap.size≠w2.heap.size:=by omega
   go_wp2_with fail;refine ZW (wP Tryz.results146 rfl (yI ((f.o.far (p:=⟨w2.heap.size,2,none⟩) l _).far (p:=⟨w2.heap.size,3,none⟩) l _) _ _ _ _)) rfl ⟨rfl,?_,?_⟩
   . exact(((((s.o.far (p:=⟨w2.heap.size,2,none⟩) hne1 _).far (p:=⟨w2.heap.size,3,none⟩) hne1 _).far (p:=⟨w.heap.size,0,none⟩) hne2 _).far (p:=⟨w.heap.size,1,none⟩) hne2 _).far (p:=⟨w.heap.size,2,none⟩) hne2 _).far (p:=⟨w.heap.size,3,none⟩) hne2 _
   . exact(((((u.o.after (by omega) 2 _).after (by omega) 3 _).after aj 0 _).after aj 1 _).after aj 2 _).after aj 3 _
def QlE(t:TypeId)(sz:Nat)(xs:List VC)(n b:Nat)(s:RS)(w:VA)(e:Ending)(w':VA):Prop :=
 ∃A c,e= .returned (.slice A n c)/\n<=c/\c<=maxLen/\Apd w' w.heap.size t sz A n c xs/\Rds w' b s/\Gb (fun g=>g=b) w w'
theorem Iu{α:Type}{g:RS->α×RS}{n:Nat}{s:RS}(h:n=0∨s.2=true):qL g n s= ([],s):=by
 cases n with
 | zero=>rfl
 | succ n =>
   rcases h with h | h
   . cases h
   . rw[qL,if_pos h]
theorem IV{α:Type}{g:RS->α×RS}{n:Nat}{s:RS}{L:List α}{S:RS}{pre:List α}(h: (pre++ (qL g (n+1) s).1,(qL g (n+1) s).2)= (L,S))(hb:s.2=false): (pre++ [(g s).1]++ (qL g n (g s).2).1,(qL g n (g s).2).2)= (L,S):=by
 rw[<-h];have e:qL g (n+1) s= ((g s).1:: (qL g n (g s).2).1,(qL g n (g s).2).2):=by rw[qL,if_neg (by rw[hb];simp)]
 rw[e,ZZ];rfl
theorem CW(b:Nat)(q:RS)(w:VA)(hk:Rds w b q)(hl:q.1.length<=1000000) :
  Calls Tryz.prog 145 #[.pointer (some ⟨b,0,none⟩),.int .i64 200,.func (.func 146) #[.pointer (some ⟨b,0,none⟩)] #[]] w (QlE 185 4 (flat enC (qLs qE 200 q).1) (qLs qE 200 q).1.length b (qLs qE 200 q).2 w):=by
 have hbw:=Bk.lt hk;have HN:=ai (mO b q w hk hl);have hl2:=lW q;unfold qLs;obtain⟨⟨n,r,bd⟩,hq⟩:∃x,qN q=x:=⟨_,rfl⟩
 rw[hq]at HN hl2 ⊢;simp only at HN hl2 ⊢;have hl3:r.length<=1000000:=by omega
 obtain⟨B,hB⟩:=NX9 ((bd || decide (200<n)))
 rw[hB];obtain⟨⟨L,S⟩,c⟩:∃x,qL qE n (r,B)=x:=⟨_,rfl⟩
 have G:=ai c;rw[c];simp only;have H:Hid (n<=200∨B=true):=by
  show _∨_;rw[<-hB];by_cases h:200<n
  . right;simp[h]
  . left;omega
 have hcs: (bd=true/\B=true)∨ (bd=false/\decide ((200:Int)< (n:Int))=true/\B=true)∨ (bd=false/\decide ((200:Int)< (n:Int))=false/\B=false):=by
  rw[<-hB];cases bd
  . by_cases h:200<n
    . have: (200:Int)< (n:Int):=by omega
      simp[h];omega
    . have:¬(200:Int)< (n:Int):=by omega
      simp[h];omega
  . simp
 have I:=ai hl3;obtain⟨i0,hi,hz0,hz1,hz2⟩:=info_parts Hy;have Hi:=ai hi;have J:=ai hz0;have K:=ai hz1;have M:=ai hz2;clear hk hl hl2 hl3 hi hz0 hz1 hz2 hq c hB
 go_enter Tryz.func145,Tryz.ntmps145
 go_wp2_with fail;refine HN.o.mono ?_;rintro e w1 ⟨rfl,hr1,hg1⟩;have HR1:=ai hr1;obtain⟨x0,x1,f0,f1⟩:=Bk.two hr1;have z1:=hg1.size;obtain⟨W2,hW2⟩:=NX9 (w1.setCell ⟨b,1,none⟩ (.bool B))
 have HR2:Hid (Rds W2 b (r,B)):=by
  rw[<-hW2];have:=HR1.o.set 1 (.bool B);show Bk _ _ _ _;simpa using this
 have HG2:Hid (Gb (fun g=>g=b) w W2):=by rw[<-hW2];exact hg1.trans (Gb.set (p:=fun g=>g=b) (x:=b) rfl 1 _)
 clear hr1 hg1 HN;have hcell:∀B',B=B'->w1.setCell ⟨b,1,none⟩ (.bool B')=W2:=fun B' h=>by rw[<-h];exact hW2
 rcases hcs with ⟨rfl,a⟩ | ⟨rfl,hmz,a⟩ | ⟨rfl,hmz,a⟩
 all_goals
  have t:=hcell _ a;have T:=ai a;clear a hcell hW2;go_wp2_with fail;clear t x0 x1 f0 f1
  go_loopw[8,9] (fun l i wr=>∃(j:Nat)(o:OA)(cj:Nat)(pre:List Ent)(st:RS),l= .slice o j cj/\i= .int .i64 (j:Int)/\j<=n/\j<=cj/\cj<=maxLen/\Hid (pre.length=j)/\Hid ((pre++ (qL qE (n - j) st).1,(qL qE (n - j) st).2)= (L,S))/\Hid (n<=200∨st.2=true)/\Hid (st.1.length<=1000000)/\Hid (Apd wr w.heap.size 185 4 o j cj (flat enC pre))/\Hid (Rds wr b st)/\Hid (Gb (fun g=>g=b) w wr)) (fun _ i _=>n - (intOf i).toNat)
  case atStart=>exact⟨0,none,0,[],(r,B),rfl,rfl,ZX _,Nat.le_refl _,ZX _,rfl,by show _=_;rw[Nat.sub_zero,G.o];rfl,H.o,I.o,.inr ⟨rfl,rfl,rfl⟩,HR2.o,HG2.o⟩
  case round =>
   obtain⟨j,o,cj,pre,st,rfl,rfl,hj,hjc,hcm,u,v,y,hST,hA,hR,hG⟩:=hrel;have d:=ai u.o;have z:=ai v.o;have A:=ai y.o;have HST:=ai hST.o;obtain⟨sr,sb⟩:=st;have hR':Bk wr b _ _:=hR.o;obtain⟨x0,x1,_,_⟩:=Bk.two hR';have zr:=hG.o.size;simp only at x0 x1;clear u v y hST hR';by_cases hend:n - j=0∨sb=true
   . have HE:=ai (Iu (g:=qE) (n:=n - j) (s:=(sr,sb)) hend)
     have HQ:Hid ((pre,(sr,sb))= (L,S)):=by show _=_;have h:=z.o;rw[HE.o]at h;simpa using h
     have C:Hid (pre=L):=congrArg Prod.fst HQ.o;have D:Hid ((sr,sb)=S):=congrArg Prod.snd HQ.o;rcases hend with h0 | rfl
     . have hjz:¬(j:Int)< (n:Int):=by omega
       go_wp2_with fail;go_ret
       rw[<-C.o,<-D.o,d.o];exact⟨o,cj,rfl,hjc,hcm,hA.o,hR.o,hG.o⟩
     . by_cases hjz: (j:Int)< (n:Int)
       all_goals
        go_wp2_with fail;go_ret
        rw[<-C.o,<-D.o,d.o];exact⟨o,cj,rfl,hjc,hcm,hA.o,hR.o,hG.o⟩
   . have hlt:j<n:=by omega
     have hsb:sb=false:=by cases sb <;> simp_all
     subst hsb;have hjz: (j:Int)< (n:Int):=by omega
     have hn2:n<=200:=by have h:=A.o;simpa using h
     have HC:=ai (Nj b (sr,false) wr hR.o HST.o);have f:=ai (Uh (sr,false));have k:Hid ((pre++ [(qE (sr,false)).1]++ (qL qE (n - (j+1)) (qE (sr,false)).2).1,(qL qE (n - (j+1)) (qE (sr,false)).2).2)= (L,S)):=by
      have h:=z.o;rw[show n - j=n - (j+1)+1 by omega]at h;exact IV h rfl
     obtain⟨⟨en,s4⟩,hge⟩:∃x,qE (sr,false)=x:=⟨_,rfl⟩
     rw[hge]at HC f k;simp only at HC f k;clear hend hge
     go_wp2_with (first | (go_at_call 146;refine HC.o.mono ?_;rintro e w3 ⟨rfl,hr3,hg3⟩;simp only[Jr]) | (at_builtin;refine Ep (.tmp 36) (.tmp 39) 107 rfl ?_))
     refine aH ?_;have z3:=hg3.size;refine eG (base:=w.heap.size) (size:=4) _ rfl (.tmp 36) (.tmp 39) 107 rfl 185 i0 _ 40 Tryz.underlying107 Hi.o J.o K.o M.o rfl (by decide) o j cj (flat enC pre) rfl ?own_1 (w3.heap.size+1) _ 1 _ (enC en) rfl ?nw_1 (by simp[enC,Value.oneCell']) ?m1_1 ?m2_1 ?m3_1 ?_
     case own_1=>exact(hA.o.gb hg3 hbw).below ((ah _ w3).alloc aj _)
     case nw_1 =>
      have:=Sl.of_bk (n:=1) (size:=4) (Bk.new w3 185 #[.string en.nm,.bool en.dir,.int .u64 en.dg.1,.int .u64 en.dg.2]) rfl;rw[Z9]at this;exact this
     case m1_1=>unfold maxLen;omega
     case m2_1=>omega
     case m3_1=>simp;omega
     intro A4 c4 w4 E hb4 hn4 hm4 F;have N:Hid (Apd w4 w.heap.size 185 4 A4 (j+1) c4 (flat enC (pre++ [en]))):=by
      show Apd _ _ _ _ _ _ _ _;rw[bQ]
      simpa [flat] using E
     have m:Below w.heap.size w3 w4:=((ah w.heap.size w3).alloc (by omega) _).trans hb4;have O:Hid (Gb (fun g=>g=b) w w4):=(hG.o.trans hg3).onto m;have HR4:Hid (Rds w4 b s4):=Bk.below hr3 m hbw;have P:Hid ((pre++ [en]).length=j+1):=by show _=_;rw[af,d.o];rfl
     have Q:Hid (s4.1.length<=1000000):=ZY f.o HST.o;have R:Hid (n<=200∨s4.2=true):= .inl hn2;clear E hb4 F hr3 hg3 m HC x0 x1;go_wp2_with fail;go_roundw
     case rel=>exact⟨j+1,A4,c4,pre++ [en],s4,rfl,by go_num,hlt,hn4,hm4,P.o,k.o,R.o,Q.o,N.o,HR4.o,O.o⟩
     case measure=>simp[intOf];omega
theorem CO(b:Nat)(q:RS)(w:VA)(hk:Rds w b q)(hl:q.1.length<=1000000) :
  Calls Tryz.prog 148 #[.pointer (some ⟨b,0,none⟩),.int .i64 8,.func (.func 147) #[.pointer (some ⟨b,0,none⟩)] #[]] w (QlE 50 2 (flat dgC (qLs qD 8 q).1) (qLs qD 8 q).1.length b (qLs qD 8 q).2 w):=by
 have hbw:=Bk.lt hk;have HN:=ai (mO b q w hk hl);have hl2:=lW q;unfold qLs;obtain⟨⟨n,r,bd⟩,hq⟩:∃x,qN q=x:=⟨_,rfl⟩
 rw[hq]at HN hl2 ⊢;simp only at HN hl2 ⊢;have hl3:r.length<=1000000:=by omega
 obtain⟨B,hB⟩:=NX9 ((bd || decide (8<n)))
 rw[hB];obtain⟨⟨L,S⟩,c⟩:∃x,qL qD n (r,B)=x:=⟨_,rfl⟩
 have G:=ai c;rw[c];simp only;have H:Hid (n<=8∨B=true):=by
  show _∨_;rw[<-hB];by_cases h:8<n
  . right;simp[h]
  . left;omega
 have hcs: (bd=true/\B=true)∨ (bd=false/\decide ((8:Int)< (n:Int))=true/\B=true)∨ (bd=false/\decide ((8:Int)< (n:Int))=false/\B=false):=by
  rw[<-hB];cases bd
  . by_cases h:8<n
    . have: (8:Int)< (n:Int):=by omega
      simp[h];omega
    . have:¬(8:Int)< (n:Int):=by omega
      simp[h];omega
  . simp
 have I:=ai hl3;obtain⟨i0,hi,hz0,hz1,hz2⟩:=info_parts lZ;have Hi:=ai hi;have J:=ai hz0;have K:=ai hz1;have M:=ai hz2;clear hk hl hl2 hl3 hi hz0 hz1 hz2 hq c hB
 go_enter Tryz.func148,Tryz.ntmps148
 go_wp2_with fail;refine HN.o.mono ?_;rintro e w1 ⟨rfl,hr1,hg1⟩;have HR1:=ai hr1;obtain⟨x0,x1,f0,f1⟩:=Bk.two hr1;have z1:=hg1.size;obtain⟨W2,hW2⟩:=NX9 (w1.setCell ⟨b,1,none⟩ (.bool B))
 have HR2:Hid (Rds W2 b (r,B)):=by
  rw[<-hW2];have:=HR1.o.set 1 (.bool B);show Bk _ _ _ _;simpa using this
 have HG2:Hid (Gb (fun g=>g=b) w W2):=by rw[<-hW2];exact hg1.trans (Gb.set (p:=fun g=>g=b) (x:=b) rfl 1 _)
 clear hr1 hg1 HN;have hcell:∀B',B=B'->w1.setCell ⟨b,1,none⟩ (.bool B')=W2:=fun B' h=>by rw[<-h];exact hW2
 rcases hcs with ⟨rfl,a⟩ | ⟨rfl,hmz,a⟩ | ⟨rfl,hmz,a⟩
 all_goals
  have t:=hcell _ a;have T:=ai a;clear a hcell hW2;go_wp2_with fail;clear t x0 x1 f0 f1
  go_loopw[8,9] (fun l i wr=>∃(j:Nat)(o:OA)(cj:Nat)(pre:List Dig)(st:RS),l= .slice o j cj/\i= .int .i64 (j:Int)/\j<=n/\j<=cj/\cj<=maxLen/\Hid (pre.length=j)/\Hid ((pre++ (qL qD (n - j) st).1,(qL qD (n - j) st).2)= (L,S))/\Hid (n<=8∨st.2=true)/\Hid (st.1.length<=1000000)/\Hid (Apd wr w.heap.size 50 2 o j cj (flat dgC pre))/\Hid (Rds wr b st)/\Hid (Gb (fun g=>g=b) w wr)) (fun _ i _=>n - (intOf i).toNat)
  case atStart=>exact⟨0,none,0,[],(r,B),rfl,rfl,ZX _,Nat.le_refl _,ZX _,rfl,by show _=_;rw[Nat.sub_zero,G.o];rfl,H.o,I.o,.inr ⟨rfl,rfl,rfl⟩,HR2.o,HG2.o⟩
  case round =>
   obtain⟨j,o,cj,pre,st,rfl,rfl,hj,hjc,hcm,u,v,y,hST,hA,hR,hG⟩:=hrel;have d:=ai u.o;have z:=ai v.o;have A:=ai y.o;have HST:=ai hST.o;obtain⟨sr,sb⟩:=st;have hR':Bk wr b _ _:=hR.o;obtain⟨x0,x1,_,_⟩:=Bk.two hR';have zr:=hG.o.size;simp only at x0 x1;clear u v y hST hR';by_cases hend:n - j=0∨sb=true
   . have HE:=ai (Iu (g:=qD) (n:=n - j) (s:=(sr,sb)) hend)
     have HQ:Hid ((pre,(sr,sb))= (L,S)):=by show _=_;have h:=z.o;rw[HE.o]at h;simpa using h
     have C:Hid (pre=L):=congrArg Prod.fst HQ.o;have D:Hid ((sr,sb)=S):=congrArg Prod.snd HQ.o;rcases hend with h0 | rfl
     . have hjz:¬(j:Int)< (n:Int):=by omega
       go_wp2_with fail;go_ret
       rw[<-C.o,<-D.o,d.o];exact⟨o,cj,rfl,hjc,hcm,hA.o,hR.o,hG.o⟩
     . by_cases hjz: (j:Int)< (n:Int)
       all_goals
        go_wp2_with fail;go_ret
        rw[<-C.o,<-D.o,d.o];exact⟨o,cj,rfl,hjc,hcm,hA.o,hR.o,hG.o⟩
   . have hlt:j<n:=by omega
     have hsb:sb=false:=by cases sb <;> simp_all
     subst hsb;have hjz: (j:Int)< (n:Int):=by omega
     have hn2:n<=8:=by have h:=A.o;simpa using h
     have HC:=ai (mJ b (sr,false) wr hR.o HST.o);have f:=ai (uG (sr,false));have k:Hid ((pre++ [(qD (sr,false)).1]++ (qL qD (n - (j+1)) (qD (sr,false)).2).1,(qL qD (n - (j+1)) (qD (sr,false)).2).2)= (L,S)):=by
      have h:=z.o;rw[show n - j=n - (j+1)+1 by omega]at h;exact IV h rfl
     obtain⟨⟨en,s4⟩,hge⟩:∃x,qD (sr,false)=x:=⟨_,rfl⟩
     rw[hge]at HC f k;simp only at HC f k;clear hend hge
     go_wp2_with (first | (go_at_call 147;refine HC.o.mono ?_;rintro e w3 ⟨rfl,hr3,hg3⟩;simp only[az]) | (at_builtin;refine Ep (.tmp 36) (.tmp 39) 47 rfl ?_))
     refine aH ?_;have z3:=hg3.size;refine eG (base:=w.heap.size) (size:=2) _ rfl (.tmp 36) (.tmp 39) 47 rfl 50 i0 _ 16 Tryz.underlying47 Hi.o J.o K.o M.o rfl (by decide) o j cj (flat dgC pre) rfl ?own_1 (w3.heap.size+1) _ 1 _ (dgC en) rfl ?nw_1 (by simp[dgC,Value.oneCell']) ?m1_1 ?m2_1 ?m3_1 ?_
     case own_1=>exact(hA.o.gb hg3 hbw).below ((ah _ w3).alloc aj _)
     case nw_1 =>
      have:=Sl.of_bk (n:=1) (size:=2) (Bk.new w3 50 #[.int .u64 en.1,.int .u64 en.2]) rfl;rw[Z9]at this;exact this
     case m1_1=>unfold maxLen;omega
     case m2_1=>omega
     case m3_1=>simp;omega
     intro A4 c4 w4 E hb4 hn4 hm4 F;have N:Hid (Apd w4 w.heap.size 50 2 A4 (j+1) c4 (flat dgC (pre++ [en]))):=by
      show Apd _ _ _ _ _ _ _ _;rw[bQ]
      simpa [flat] using E
     have m:Below w.heap.size w3 w4:=((ah w.heap.size w3).alloc (by omega) _).trans hb4;have O:Hid (Gb (fun g=>g=b) w w4):=(hG.o.trans hg3).onto m;have HR4:Hid (Rds w4 b s4):=Bk.below hr3 m hbw;have P:Hid ((pre++ [en]).length=j+1):=by show _=_;rw[af,d.o];rfl
     have Q:Hid (s4.1.length<=1000000):=ZY f.o HST.o;have R:Hid (n<=8∨s4.2=true):= .inl hn2;clear E hb4 F hr3 hg3 m HC x0 x1;go_wp2_with fail;go_roundw
     case rel=>exact⟨j+1,A4,c4,pre++ [en],s4,rfl,by go_num,hlt,hn4,hm4,P.o,k.o,R.o,Q.o,N.o,HR4.o,O.o⟩
     case measure=>simp[intOf];omega
theorem oK(b k:Nat)(r:VD)(w:VA)(hk:Rdr w b (ak k++r))(hm:k<=1099511627776)(hl: (ak k++r).length<=1000000) :
  Calls Tryz.prog 143 #[.pointer (some ⟨b,0,none⟩)] w (RdE (.int .i64 k) b r w):=by
 have h:=mO b (ak k++r,false) w hk hl;rw[zu hm]at h;exact h
theorem rJ(b:Nat)(x:VB)(r:VD)(w:VA)(hk:Rdr w b (ax (toL x)++r))(hm:x.size<=65536)(hl: (ax (toL x)++r).length<=1000000) :
  Calls Tryz.prog 144 #[.pointer (some ⟨b,0,none⟩)] w (RdE (.string x) b r w):=by
 have h:=mM b (ax (toL x)++r,false) w hk hl;rw[IK (by rw[<-aQ];exact hm),jd]at h;exact h
theorem KW(b:Nat)(d:Dig)(r:VD)(w:VA)(hk:Rdr w b (ay d++r))(hd:WfD d)(hl: (ay d++r).length<=1000000) :
  Calls Tryz.prog 147 #[.pointer (some ⟨b,0,none⟩)] w (RdE (az d) b r w):=by
 have h:=mJ b (ay d++r,false) w hk hl;rw[uF hd]at h;exact h
theorem MC(b:Nat)(es:List Ent)(r:VD)(w:VA)(hk:Rdr w b (ak es.length++ (es.flatMap aU++r)))(hok:∀e∈es,jh e)(hn:es.length<=200)(hl: (ak es.length++ (es.flatMap aU++r)).length<=1000000) :
  Calls Tryz.prog 145 #[.pointer (some ⟨b,0,none⟩),.int .i64 200,.func (.func 146) #[.pointer (some ⟨b,0,none⟩)] #[]] w (RlE 185 4 (flat enC es) es.length b r w):=by
 have h:=CW b (ak es.length++ (es.flatMap aU++r),false) w hk hl;rw[G9 (enc:=aU) hn (by omega) r (fun e he r=>TM (hok e he) r)]at h;exact h
theorem MK(b:Nat)(es:List Dig)(r:VD)(w:VA)(hk:Rdr w b (ak es.length++ (es.flatMap ay++r)))(hok:∀e∈es,WfD e)(hn:es.length<=8)(hl: (ak es.length++ (es.flatMap ay++r)).length<=1000000) :
  Calls Tryz.prog 148 #[.pointer (some ⟨b,0,none⟩),.int .i64 8,.func (.func 147) #[.pointer (some ⟨b,0,none⟩)] #[]] w (RlE 50 2 (flat dgC es) es.length b r w):=by
 have h:=CO b (ak es.length++ (es.flatMap ay++r),false) w hk hl;rw[G9 (enc:=ay) hn (by omega) r (fun e he r=>uF (hok e he) r)]at h;exact h
theorem fF{w:VA}{b:Nat}{t:TypeId}{x0 x1 x2 x3 x4 x5 x6 x7 x8:VC}(h:Bk w b t #[x0,x1,x2,x3,x4,x5,x6,x7,x8])(y0 y1 y2 y3 y4 y5 y6 y7 y8:VC):Bk (((((((((w.setCell ⟨b,0,none⟩ y0).setCell ⟨b,1,none⟩ y1).setCell ⟨b,2,none⟩ y2).setCell ⟨b,3,none⟩ y3).setCell ⟨b,4,none⟩ y4).setCell ⟨b,5,none⟩ y5).setCell ⟨b,6,none⟩ y6).setCell ⟨b,7,none⟩ y7).setCell ⟨b,8,none⟩ y8) b t #[y0,y1,y2,y3,y4,y5,y6,y7,y8]:=by
 have:=(((((((((h.set 0 y0).set 1 y1).set 2 y2).set 3 y3).set 4 y4).set 5 y5).set 6 y6).set 7 y7).set 8 y8)
 simpa using this
theorem fD{B b:Nat}{w0 w:VA}(h:Below B w0 w)(hb:B<=b)(y0 y1 y2 y3 y4 y5 y6 y7 y8:VC):Below B w0 (((((((((w.setCell ⟨b,0,none⟩ y0).setCell ⟨b,1,none⟩ y1).setCell ⟨b,2,none⟩ y2).setCell ⟨b,3,none⟩ y3).setCell ⟨b,4,none⟩ y4).setCell ⟨b,5,none⟩ y5).setCell ⟨b,6,none⟩ y6).setCell ⟨b,7,none⟩ y7).setCell ⟨b,8,none⟩ y8) :=
 ((((((((h.setCell (p:=⟨b,0,none⟩) hb y0).setCell (p:=⟨b,1,none⟩) hb y1).setCell (p:=⟨b,2,none⟩) hb y2).setCell (p:=⟨b,3,none⟩) hb y3).setCell (p:=⟨b,4,none⟩) hb y4).setCell (p:=⟨b,5,none⟩) hb y5).setCell (p:=⟨b,6,none⟩) hb y6).setCell (p:=⟨b,7,none⟩) hb y7).setCell (p:=⟨b,8,none⟩) hb y8
theorem Apd.set9{w:VA}{base size n c b:Nat}{e:TypeId}{A:OA}{xs:List VC}(h:Apd w base e size A n c xs)(hb:b<base)(y0 y1 y2 y3 y4 y5 y6 y7 y8:VC):Apd (((((((((w.setCell ⟨b,0,none⟩ y0).setCell ⟨b,1,none⟩ y1).setCell ⟨b,2,none⟩ y2).setCell ⟨b,3,none⟩ y3).setCell ⟨b,4,none⟩ y4).setCell ⟨b,5,none⟩ y5).setCell ⟨b,6,none⟩ y6).setCell ⟨b,7,none⟩ y7).setCell ⟨b,8,none⟩ y8) base e size A n c xs :=
 ((((((((h.setCell (a:=⟨b,0,none⟩) hb y0).setCell (a:=⟨b,1,none⟩) hb y1).setCell (a:=⟨b,2,none⟩) hb y2).setCell (a:=⟨b,3,none⟩) hb y3).setCell (a:=⟨b,4,none⟩) hb y4).setCell (a:=⟨b,5,none⟩) hb y5).setCell (a:=⟨b,6,none⟩) hb y6).setCell (a:=⟨b,7,none⟩) hb y7).setCell (a:=⟨b,8,none⟩) hb y8
theorem fE{fn:Func}{c i:Tmp}(h:fn.results= #[.cell c 109,.tmp i]){w:VA}{a:Array VC}{b:Nat}{x0 x1 x2 x3 x4 x5 x6 x7 x8 v:VC}(ha:a[c]?.getD undef= .pointer (some ⟨b,0,none⟩))(hk:Bk w b 109 #[x0,x1,x2,x3,x4,x5,x6,x7,x8])(hv:a[i]?.getD undef=v) :
  (results fn a).run Tryz.prog w= .ok (.tuple #[.agg #[x0,x1,x2,x3,x4,x5,x6,x7,x8],v]) w:=by
 obtain⟨h0,h1,h2,h3,h4,h5,h6,h7,h8⟩:=hk.nine;simp[results,h,ha,hv,go_sem,h0,h1,h2,h3,h4,h5,h6,h7,h8]
def NewO(w:VA)(b:Nat)(s:Osl):Prop:=∀a,0<s.en->s.eA=some a->b<=a.block/\∃cur,w.heap[a.block]? =some (.cells cur 185 (0,0))
theorem NewO.none(w:VA)(b:Nat){s:Osl}(h:s.en=0):NewO w b s:=fun _ h0=>absurd h0 (by rw[h];exact Nat.lt_irrefl 0)
theorem NewO.mono{w:VA}{b b':Nat}{s:Osl}(h:NewO w b s)(hb:b'<=b):NewO w b' s:=fun a h1 h2=>⟨ZY hb (h a h1 h2).1,(h a h1 h2).2⟩
theorem NewO.keep{w w':VA}{b bx:Nat}{t:TypeId}{cs:Array VC}{s:Osl}(h:NewO w b s)(hz:Bk w bx t cs)(ht:t≠185)(hk:∀k,k≠bx->w'.heap[k]? =w.heap[k]?):NewO w' b s:=fun a h1 h2=>by
 obtain⟨h3,cur,h4⟩:=h a h1 h2;refine⟨h3,cur,(hk a.block (fun e=>?_)).trans h4⟩;rw[e]at h4;have h5:w.heap[bx]? =some (.cells cs t (0,0)):=hz;rw[h4]at h5;injection h5 with h5;injection h5 with _ h6;exact ht h6.symm
theorem Apd.newO{w:VA}{base n c c2:Nat}{A:OA}{xs:List VC}(h:Apd w base 185 4 A n c xs){b:Nat}(hb:b<=base){s:Osl}(hs:s.eA=A/\s.en=n/\s.ec=c2):NewO w b s:=by
 obtain⟨h1,h2,_⟩:=hs;rintro a hn hA;rw[h1]at hA;rw[h2]at hn;subst hA;rcases h with ⟨_,⟨_,h0⟩ | ⟨g,cap,cur,hv,h5,h3,_⟩⟩ | ⟨h0,_⟩
 . omega
 . injection hv with hA
   cases hA
   exact⟨ZY hb h5,cur,h3⟩
 . omega
def NewP(w:VA)(b:Nat)(s:Osl):Prop:=∀a,0<s.pn->s.pA=some a->b<=a.block/\∃cur,w.heap[a.block]? =some (.cells cur 50 (0,0))
theorem NewP.none(w:VA)(b:Nat){s:Osl}(h:s.pn=0):NewP w b s:=fun _ h0=>absurd h0 (by rw[h];exact Nat.lt_irrefl 0)
theorem NewP.mono{w:VA}{b b':Nat}{s:Osl}(h:NewP w b s)(hb:b'<=b):NewP w b' s:=fun a h1 h2=>⟨ZY hb (h a h1 h2).1,(h a h1 h2).2⟩
theorem NewP.keep{w w':VA}{b bx:Nat}{t:TypeId}{cs:Array VC}{s:Osl}(h:NewP w b s)(hz:Bk w bx t cs)(ht:t≠50)(hk:∀k,k≠bx->w'.heap[k]? =w.heap[k]?):NewP w' b s:=fun a h1 h2=>by
 obtain⟨h3,cur,h4⟩:=h a h1 h2;refine⟨h3,cur,(hk a.block (fun e=>?_)).trans h4⟩;rw[e]at h4;have h5:w.heap[bx]? =some (.cells cs t (0,0)):=hz;rw[h4]at h5;injection h5 with h5;injection h5 with _ h6;exact ht h6.symm
theorem Apd.newP{w:VA}{base n c c2:Nat}{A:OA}{xs:List VC}(h:Apd w base 50 2 A n c xs){b:Nat}(hb:b<=base){s:Osl}(hs:s.pA=A/\s.pn=n/\s.pc=c2):NewP w b s:=by
 obtain⟨h1,h2,_⟩:=hs;rintro a hn hA;rw[h1]at hA;rw[h2]at hn;subst hA;rcases h with ⟨_,⟨_,h0⟩ | ⟨g,cap,cur,hv,h5,h3,_⟩⟩ | ⟨h0,_⟩
 . omega
 . injection hv with hA
   cases hA
   exact⟨ZY hb h5,cur,h3⟩
 . omega
def OdE(o:Ob)(w:VA)(e:Ending)(w':VA):Prop:=∃s,e= .returned (.tuple #[obV o s,.int .i64 0])/\ObM w' w'.heap.size o s/\VE w w'/\NewO w' w.heap.size s/\NewP w' w.heap.size s
theorem rH(o:Ob)(w:VA)(ho:OkO o):Calls Tryz.prog 81 #[.string (ofL (aI o))] w (OdE o w):=by
 have HO:=ai ho;have hlen:=ho.len;cases ho.f with
 | blob k e c d =>
   have g:aI o=ak o.kind.toNat++ (ax (toL o.data)++ []):=by unfold aI gX;rw[if_neg (by omega),if_neg (by omega),List.append_nil]
   obtain⟨h1,h2,h3,h4,h5⟩:=c;obtain⟨kind,data,ents,tree,pars,auth,time,msg⟩:=o;simp only at k e h1 h2 h3 h4 h5 d g;subst e h1 h2 h3 h4 h5;rcases k with rfl | rfl
   . have g:aI _=ak 1++ (ax (toL data)++ []):=g
     obtain⟨s,hs⟩:=NX9 (ofL (aI (⟨1,data,[],zD,[],⟨#[]⟩,0,⟨#[]⟩⟩:Ob)))
     rw[hs];have hlr: (ak 1++ (ax (toL data)++ [])).length<=1000000:=by rw[<-g];omega
     have hle: (ax (toL data)++ []).length<=1000000:=by rw[af]at hlr;omega
     obtain⟨W1,hW1⟩:=NX9 ((w.alloc (.cells #[.int .i64 0,.string ⟨#[]⟩,.slice none 0 0,.int .u64 0,.int .u64 0,.slice none 0 0,.string ⟨#[]⟩,.int .i64 0,.string ⟨#[]⟩] 109)).alloc (.cells #[.string s,.bool false] 229))
     have HZ1:Hid (Bk W1 w.heap.size 109 #[.int .i64 0,.string ⟨#[]⟩,.slice none 0 0,.int .u64 0,.int .u64 0,.slice none 0 0,.string ⟨#[]⟩,.int .i64 0,.string ⟨#[]⟩]):=by rw[<-hW1];exact(Bk.new w _ _).alloc _
     have HR1:Hid (Rdr W1 (w.heap.size+1) (ak 1++ (ax (toL data)++ []))):=by
      show Bk _ _ _ _;rw[<-g,hs,<-hW1];have:=Bk.new (w.alloc (.cells #[.int .i64 0,.string ⟨#[]⟩,.slice none 0 0,.int .u64 0,.int .u64 0,.slice none 0 0,.string ⟨#[]⟩,.int .i64 0,.string ⟨#[]⟩] 109)) 229 #[.string s,.bool false]
      rwa[Z9]at this
     have HB1:VF w W1:=by rw[<-hW1];exact((ah _ w).alloc aj _).alloc (by simp) _
     have M:W1.heap.size=w.heap.size+2:=by rw[<-hW1];simp
     have x:=ai (oK (w.heap.size+1) 1 (ax (toL data)++ []) W1 HR1.o (by omega) hlr);clear hs g hlr
     go_enter Tryz.func81,Tryz.ntmps81
     go_wp2_with fail;refine x.o.mono ?_;rintro e w2 ⟨rfl,hr,hg⟩;have HR2:=ai hr;have HG2:VF w w2:=HB1.o.trans (hg.below (by omega) (fun q hq e=>by omega));have HZ2:=ai (hg.bk HZ1.o (by show ¬w.heap.size=w.heap.size+1;omega));have z2:w.heap.size+2<=w2.heap.size:=by have:=hg.size;omega
     clear hr hg hW1 x HB1 HZ1 HR1;obtain⟨W3,hW3⟩:=NX9 (w2.alloc (.cells #[.int .i64 1,.string ⟨#[]⟩,.slice none 0 0,.int .u64 0,.int .u64 0,.slice none 0 0,.string ⟨#[]⟩,.int .i64 0,.string ⟨#[]⟩] 109))
     have hb3:VE w2 W3:=by rw[<-hW3];exact(ah _ w2).alloc aj _
     have r:Hid (Bk W3 w2.heap.size 109 #[.int .i64 1,.string ⟨#[]⟩,.slice none 0 0,.int .u64 0,.int .u64 0,.slice none 0 0,.string ⟨#[]⟩,.int .i64 0,.string ⟨#[]⟩]):=by rw[<-hW3];exact Bk.new w2 _ _
     have HR3:Hid (Rdr W3 (w.heap.size+1) (ax (toL data)++ [])):=Bk.below HR2.o hb3 (by omega);have HZ3:=ai (HZ2.o.below hb3 (by omega));have HB3:VF w W3:=HG2.o.trans (hb3.mono (by omega));have z3:W3.heap.size=w2.heap.size+1:=by rw[<-hW3];simp
     have c0:=r.o.nine.1;rw[<-hW3]at c0;have HW3:=ai hW3;clear hb3 hW3 HR2 HZ2 HG2;have y:=ai (rJ (w.heap.size+1) data [] W3 HR3.o d hle);go_wp2_with fail;rw[HW3.o];refine y.o.mono ?_;rintro e v4 ⟨rfl,hr,hg⟩;have j:=ai hr;have b:=ai (hg.bk r.o (by show ¬w2.heap.size=w.heap.size+1;omega));have l:=ai (hg.bk HZ3.o (by show ¬w.heap.size=w.heap.size+1;omega));have m:VF w v4:=HB3.o.trans (hg.below (by have:=HB3.o.size;omega) (fun q hq e=>by omega));have N:=hg.size;clear c0 hr hg y HB3 HZ3 r HR3;obtain⟨c0,c1,c2,c3,c4,c5,c6,c7,c8⟩:=b.o.nine;have f1:=b.o.free 1;obtain⟨W4,i⟩:=NX9 ((v4.setCell ⟨w2.heap.size,1,none⟩ (.string data)))
     have u:Hid (Bk W4 w2.heap.size 109 #[.int .i64 1,.string data,.slice none 0 0,.int .u64 0,.int .u64 0,.slice none 0 0,.string ⟨#[]⟩,.int .i64 0,.string ⟨#[]⟩]):=by rw[<-i];have:=(b.o.set 1 (.string data));show Bk _ _ _ _;simpa using this
     have HR4:Hid (Rdr W4 (w.heap.size+1) ([])):=by rw[<-i];exact(Bk.far j.o (p:=⟨w2.heap.size,1,none⟩) (by show w.heap.size+1≠w2.heap.size;omega) _)
     have z:Hid (Bk W4 w.heap.size 109 #[.int .i64 0,.string ⟨#[]⟩,.slice none 0 0,.int .u64 0,.int .u64 0,.slice none 0 0,.string ⟨#[]⟩,.int .i64 0,.string ⟨#[]⟩]):=by rw[<-i];exact(Bk.far l.o (p:=⟨w2.heap.size,1,none⟩) (by show w.heap.size≠w2.heap.size;omega) _)
     have HB4:VF w W4:=by rw[<-i];exact(Below.setCell m.o (p:=⟨w2.heap.size,1,none⟩) (by show w.heap.size<=w2.heap.size;omega) _)
     have O:v4.heap.size<=W4.heap.size:=by rw[<-i];simp[World.setCell]
     clear j b l m;have A:Bk W4 (w.heap.size+1) 229 #[.string ⟨#[]⟩,.bool false]:=HR4.o;obtain⟨q0,q1,_,_⟩:=A.two;have C:Hid (ObM W4 W4.heap.size ⟨1,data,[],zD,[],⟨#[]⟩,0,⟨#[]⟩⟩ ⟨none,0,0,none,0,0⟩):=⟨Sl.nil _ _ _ _,Sl.nil _ _ _ _,Nat.le_refl _,ZX _,Nat.le_refl _,ZX _⟩
     have t:=ai (pM ⟨1,data,[],zD,[],⟨#[]⟩,0,⟨#[]⟩⟩ ⟨none,0,0,none,0,0⟩ W4.heap.size W4 C.o aj HO.o);simp only[obV,obC]at t;obtain⟨k0,k1,k2,k3,k4,k5,k6,k7,k8⟩:=u.o.nine;go_wp2_with fail;refine t.o.mono ?_;rintro e w8 ⟨rfl,hb8⟩;have D:=ai (u.o.below hb8 u.o.lt);have n:=ai (z.o.below hb8 z.o.lt);have E:VF w w8:=HB4.o.trans (hb8.mono HB4.o.size);have P:=ai ((C.o.below hb8 aj).more hb8.size);have z8:w.heap.size<w8.heap.size:=n.o.lt;clear c0 c1 c2 c3 c4 c5 c6 c7 c8 k0 k1 k2 k3 k4 k5 k6 k7 k8 q0 q1 A hb8 t i;obtain⟨c0,c1,c2,c3,c4,c5,c6,c7,c8⟩:=D.o.nine;obtain⟨d0,d1,d2,d3,d4,d5,d6,d7,d8⟩:=n.o.nine;obtain⟨f0,f1,f2,f3,f4,f5,f6,f7,f8⟩:=fr9 n.o;have hne:w.heap.size≠w2.heap.size:=by omega
     go_wp2_with fail;refine ZW (fE Tryz.results81 rfl (fF n.o _ _ _ _ _ _ _ _ _) rfl) rfl ⟨⟨none,0,0,none,0,0⟩,rfl,?_,fD E.o aj _ _ _ _ _ _ _ _ _,NewO.none _ _ rfl,NewP.none _ _ rfl⟩;exact⟨Sl.nil _ _ _ _,Sl.nil _ _ _ _,Nat.le_refl _,ZX _,Nat.le_refl _,ZX _⟩
   . have g:aI _=ak 4++ (ax (toL data)++ []):=g
     obtain⟨s,hs⟩:=NX9 (ofL (aI (⟨4,data,[],zD,[],⟨#[]⟩,0,⟨#[]⟩⟩:Ob)))
     rw[hs];have hlr: (ak 4++ (ax (toL data)++ [])).length<=1000000:=by rw[<-g];omega
     have hle: (ax (toL data)++ []).length<=1000000:=by rw[af]at hlr;omega
     obtain⟨W1,hW1⟩:=NX9 ((w.alloc (.cells #[.int .i64 0,.string ⟨#[]⟩,.slice none 0 0,.int .u64 0,.int .u64 0,.slice none 0 0,.string ⟨#[]⟩,.int .i64 0,.string ⟨#[]⟩] 109)).alloc (.cells #[.string s,.bool false] 229))
     have HZ1:Hid (Bk W1 w.heap.size 109 #[.int .i64 0,.string ⟨#[]⟩,.slice none 0 0,.int .u64 0,.int .u64 0,.slice none 0 0,.string ⟨#[]⟩,.int .i64 0,.string ⟨#[]⟩]):=by rw[<-hW1];exact(Bk.new w _ _).alloc _
     have HR1:Hid (Rdr W1 (w.heap.size+1) (ak 4++ (ax (toL data)++ []))):=by
      show Bk _ _ _ _;rw[<-g,hs,<-hW1];have:=Bk.new (w.alloc (.cells #[.int .i64 0,.string ⟨#[]⟩,.slice none 0 0,.int .u64 0,.int .u64 0,.slice none 0 0,.string ⟨#[]⟩,.int .i64 0,.string ⟨#[]⟩] 109)) 229 #[.string s,.bool false]
      rwa[Z9]at this
     have HB1:VF w W1:=by rw[<-hW1];exact((ah _ w).alloc aj _).alloc (by simp) _
     have M:W1.heap.size=w.heap.size+2:=by rw[<-hW1];simp
     have x:=ai (oK (w.heap.size+1) 4 (ax (toL data)++ []) W1 HR1.o (by omega) hlr);clear hs g hlr
     go_enter Tryz.func81,Tryz.ntmps81
     go_wp2_with fail;refine x.o.mono ?_;rintro e w2 ⟨rfl,hr,hg⟩;have HR2:=ai hr;have HG2:VF w w2:=HB1.o.trans (hg.below (by omega) (fun q hq e=>by omega));have HZ2:=ai (hg.bk HZ1.o (by show ¬w.heap.size=w.heap.size+1;omega));have z2:w.heap.size+2<=w2.heap.size:=by have:=hg.size;omega
     clear hr hg hW1 x HB1 HZ1 HR1;obtain⟨W3,hW3⟩:=NX9 (w2.alloc (.cells #[.int .i64 4,.string ⟨#[]⟩,.slice none 0 0,.int .u64 0,.int .u64 0,.slice none 0 0,.string ⟨#[]⟩,.int .i64 0,.string ⟨#[]⟩] 109))
     have hb3:VE w2 W3:=by rw[<-hW3];exact(ah _ w2).alloc aj _
     have r:Hid (Bk W3 w2.heap.size 109 #[.int .i64 4,.string ⟨#[]⟩,.slice none 0 0,.int .u64 0,.int .u64 0,.slice none 0 0,.string ⟨#[]⟩,.int .i64 0,.string ⟨#[]⟩]):=by rw[<-hW3];exact Bk.new w2 _ _
     have HR3:Hid (Rdr W3 (w.heap.size+1) (ax (toL data)++ [])):=Bk.below HR2.o hb3 (by omega);have HZ3:=ai (HZ2.o.below hb3 (by omega));have HB3:VF w W3:=HG2.o.trans (hb3.mono (by omega));have z3:W3.heap.size=w2.heap.size+1:=by rw[<-hW3];simp
     have c0:=r.o.nine.1;rw[<-hW3]at c0;have HW3:=ai hW3;clear hb3 hW3 HR2 HZ2 HG2;have y:=ai (rJ (w.heap.size+1) data [] W3 HR3.o d hle);go_wp2_with fail;rw[HW3.o];refine y.o.mono ?_;rintro e v4 ⟨rfl,hr,hg⟩;have j:=ai hr;have b:=ai (hg.bk r.o (by show ¬w2.heap.size=w.heap.size+1;omega));have l:=ai (hg.bk HZ3.o (by show ¬w.heap.size=w.heap.size+1;omega));have m:VF w v4:=HB3.o.trans (hg.below (by have:=HB3.o.size;omega) (fun q hq e=>by omega));have N:=hg.size;clear c0 hr hg y HB3 HZ3 r HR3;obtain⟨c0,c1,c2,c3,c4,c5,c6,c7,c8⟩:=b.o.nine;have f1:=b.o.free 1;obtain⟨W4,i⟩:=NX9 ((v4.setCell ⟨w2.heap.size,1,none⟩ (.string data)))
     have u:Hid (Bk W4 w2.heap.size 109 #[.int .i64 4,.string data,.slice none 0 0,.int .u64 0,.int .u64 0,.slice none 0 0,.string ⟨#[]⟩,.int .i64 0,.string ⟨#[]⟩]):=by rw[<-i];have:=(b.o.set 1 (.string data));show Bk _ _ _ _;simpa using this
     have HR4:Hid (Rdr W4 (w.heap.size+1) ([])):=by rw[<-i];exact(Bk.far j.o (p:=⟨w2.heap.size,1,none⟩) (by show w.heap.size+1≠w2.heap.size;omega) _)
     have z:Hid (Bk W4 w.heap.size 109 #[.int .i64 0,.string ⟨#[]⟩,.slice none 0 0,.int .u64 0,.int .u64 0,.slice none 0 0,.string ⟨#[]⟩,.int .i64 0,.string ⟨#[]⟩]):=by rw[<-i];exact(Bk.far l.o (p:=⟨w2.heap.size,1,none⟩) (by show w.heap.size≠w2.heap.size;omega) _)
     have HB4:VF w W4:=by rw[<-i];exact(Below.setCell m.o (p:=⟨w2.heap.size,1,none⟩) (by show w.heap.size<=w2.heap.size;omega) _)
     have O:v4.heap.size<=W4.heap.size:=by rw[<-i];simp[World.setCell]
     clear j b l m;have A:Bk W4 (w.heap.size+1) 229 #[.string ⟨#[]⟩,.bool false]:=HR4.o;obtain⟨q0,q1,_,_⟩:=A.two;have C:Hid (ObM W4 W4.heap.size ⟨4,data,[],zD,[],⟨#[]⟩,0,⟨#[]⟩⟩ ⟨none,0,0,none,0,0⟩):=⟨Sl.nil _ _ _ _,Sl.nil _ _ _ _,Nat.le_refl _,ZX _,Nat.le_refl _,ZX _⟩
     have t:=ai (pM ⟨4,data,[],zD,[],⟨#[]⟩,0,⟨#[]⟩⟩ ⟨none,0,0,none,0,0⟩ W4.heap.size W4 C.o aj HO.o);simp only[obV,obC]at t;obtain⟨k0,k1,k2,k3,k4,k5,k6,k7,k8⟩:=u.o.nine;go_wp2_with fail;refine t.o.mono ?_;rintro e w8 ⟨rfl,hb8⟩;have D:=ai (u.o.below hb8 u.o.lt);have n:=ai (z.o.below hb8 z.o.lt);have E:VF w w8:=HB4.o.trans (hb8.mono HB4.o.size);have P:=ai ((C.o.below hb8 aj).more hb8.size);have z8:w.heap.size<w8.heap.size:=n.o.lt;clear c0 c1 c2 c3 c4 c5 c6 c7 c8 k0 k1 k2 k3 k4 k5 k6 k7 k8 q0 q1 A hb8 t i;obtain⟨c0,c1,c2,c3,c4,c5,c6,c7,c8⟩:=D.o.nine;obtain⟨d0,d1,d2,d3,d4,d5,d6,d7,d8⟩:=n.o.nine;obtain⟨f0,f1,f2,f3,f4,f5,f6,f7,f8⟩:=fr9 n.o;have hne:w.heap.size≠w2.heap.size:=by omega
     go_wp2_with fail;refine ZW (fE Tryz.results81 rfl (fF n.o _ _ _ _ _ _ _ _ _) rfl) rfl ⟨⟨none,0,0,none,0,0⟩,rfl,?_,fD E.o aj _ _ _ _ _ _ _ _ _,NewO.none _ _ rfl,NewP.none _ _ rfl⟩;exact⟨Sl.nil _ _ _ _,Sl.nil _ _ _ _,Nat.le_refl _,ZX _,Nat.le_refl _,ZX _⟩
 | tree k d c e =>
   have g:aI o=ak 2++ (ak o.ents.length++ (o.ents.flatMap aU++ [])):=by unfold aI gX;rw[if_pos k,k,List.append_nil];rfl
   obtain⟨h1,h2,h3,h4,h5⟩:=c;obtain⟨kind,data,ents,tree,pars,auth,time,msg⟩:=o;simp only at k e h1 h2 h3 h4 h5 d g;subst k d h1 h2 h3 h4 h5;obtain⟨s,hs⟩:=NX9 (ofL (aI (⟨2,⟨#[]⟩,ents,zD,[],⟨#[]⟩,0,⟨#[]⟩⟩:Ob)))
   rw[hs];have hlr: (ak 2++ (ak ents.length++ (ents.flatMap aU++ []))).length<=1000000:=by rw[<-g];omega
   have hle: (ak ents.length++ (ents.flatMap aU++ [])).length<=1000000:=by rw[af]at hlr;omega
   obtain⟨W1,hW1⟩:=NX9 ((w.alloc (.cells #[.int .i64 0,.string ⟨#[]⟩,.slice none 0 0,.int .u64 0,.int .u64 0,.slice none 0 0,.string ⟨#[]⟩,.int .i64 0,.string ⟨#[]⟩] 109)).alloc (.cells #[.string s,.bool false] 229))
   have HZ1:Hid (Bk W1 w.heap.size 109 #[.int .i64 0,.string ⟨#[]⟩,.slice none 0 0,.int .u64 0,.int .u64 0,.slice none 0 0,.string ⟨#[]⟩,.int .i64 0,.string ⟨#[]⟩]):=by rw[<-hW1];exact(Bk.new w _ _).alloc _
   have HR1:Hid (Rdr W1 (w.heap.size+1) (ak 2++ (ak ents.length++ (ents.flatMap aU++ [])))):=by
    show Bk _ _ _ _;rw[<-g,hs,<-hW1];have:=Bk.new (w.alloc (.cells #[.int .i64 0,.string ⟨#[]⟩,.slice none 0 0,.int .u64 0,.int .u64 0,.slice none 0 0,.string ⟨#[]⟩,.int .i64 0,.string ⟨#[]⟩] 109)) 229 #[.string s,.bool false]
    rwa[Z9]at this
   have HB1:VF w W1:=by rw[<-hW1];exact((ah _ w).alloc aj _).alloc (by simp) _
   have M:W1.heap.size=w.heap.size+2:=by rw[<-hW1];simp
   have x:=ai (oK (w.heap.size+1) 2 (ak ents.length++ (ents.flatMap aU++ [])) W1 HR1.o (by omega) hlr);clear hs g hlr
   go_enter Tryz.func81,Tryz.ntmps81
   go_wp2_with fail;refine x.o.mono ?_;rintro e w2 ⟨rfl,hr,hg⟩;have HR2:=ai hr;have HG2:VF w w2:=HB1.o.trans (hg.below (by omega) (fun q hq e=>by omega));have HZ2:=ai (hg.bk HZ1.o (by show ¬w.heap.size=w.heap.size+1;omega));have z2:w.heap.size+2<=w2.heap.size:=by have:=hg.size;omega
   clear hr hg hW1 x HB1 HZ1 HR1;obtain⟨W3,hW3⟩:=NX9 (w2.alloc (.cells #[.int .i64 2,.string ⟨#[]⟩,.slice none 0 0,.int .u64 0,.int .u64 0,.slice none 0 0,.string ⟨#[]⟩,.int .i64 0,.string ⟨#[]⟩] 109))
   have hb3:VE w2 W3:=by rw[<-hW3];exact(ah _ w2).alloc aj _
   have r:Hid (Bk W3 w2.heap.size 109 #[.int .i64 2,.string ⟨#[]⟩,.slice none 0 0,.int .u64 0,.int .u64 0,.slice none 0 0,.string ⟨#[]⟩,.int .i64 0,.string ⟨#[]⟩]):=by rw[<-hW3];exact Bk.new w2 _ _
   have HR3:Hid (Rdr W3 (w.heap.size+1) (ak ents.length++ (ents.flatMap aU++ []))):=Bk.below HR2.o hb3 (by omega);have HZ3:=ai (HZ2.o.below hb3 (by omega));have HB3:VF w W3:=HG2.o.trans (hb3.mono (by omega));have z3:W3.heap.size=w2.heap.size+1:=by rw[<-hW3];simp
   have c0:=r.o.nine.1;rw[<-hW3]at c0;have HW3:=ai hW3;clear hb3 hW3 HR2 HZ2 HG2;have y:=ai (MC (w.heap.size+1) ents [] W3 HR3.o e.all e.few hle);go_wp2_with fail;rw[HW3.o];refine y.o.mono ?_;rintro e v4 ⟨A4,F,rfl,hn4,hm4,hap,hr,hg⟩;have j:=ai hr;have b:=ai (hg.bk r.o (by show ¬w2.heap.size=w.heap.size+1;omega));have l:=ai (hg.bk HZ3.o (by show ¬w.heap.size=w.heap.size+1;omega));have m:VF w v4:=HB3.o.trans (hg.below (by have:=HB3.o.size;omega) (fun q hq e=>by omega));have N:=hg.size;have v:=ai hap;clear c0 hr hg hap y HB3 HZ3 r HR3;obtain⟨c0,c1,c2,c3,c4,c5,c6,c7,c8⟩:=b.o.nine;have f2:=b.o.free 2;obtain⟨W4,i⟩:=NX9 ((v4.setCell ⟨w2.heap.size,2,none⟩ (.slice A4 ents.length F)))
   have u:Hid (Bk W4 w2.heap.size 109 #[.int .i64 2,.string ⟨#[]⟩,.slice A4 ents.length F,.int .u64 0,.int .u64 0,.slice none 0 0,.string ⟨#[]⟩,.int .i64 0,.string ⟨#[]⟩]):=by rw[<-i];have:=(b.o.set 2 (.slice A4 ents.length F));show Bk _ _ _ _;simpa using this
   have HR4:Hid (Rdr W4 (w.heap.size+1) ([])):=by rw[<-i];exact(Bk.far j.o (p:=⟨w2.heap.size,2,none⟩) (by show w.heap.size+1≠w2.heap.size;omega) _)
   have z:Hid (Bk W4 w.heap.size 109 #[.int .i64 0,.string ⟨#[]⟩,.slice none 0 0,.int .u64 0,.int .u64 0,.slice none 0 0,.string ⟨#[]⟩,.int .i64 0,.string ⟨#[]⟩]):=by rw[<-i];exact(Bk.far l.o (p:=⟨w2.heap.size,2,none⟩) (by show w.heap.size≠w2.heap.size;omega) _)
   have HB4:VF w W4:=by rw[<-i];exact(Below.setCell m.o (p:=⟨w2.heap.size,2,none⟩) (by show w.heap.size<=w2.heap.size;omega) _)
   have O:v4.heap.size<=W4.heap.size:=by rw[<-i];simp[World.setCell]
   have Q:=ai ((Apd.setCell v.o (a:=⟨w2.heap.size,2,none⟩) (by show w2.heap.size<_;omega) (.slice A4 ents.length F)));rw[i]at Q;clear j b l m v;have A:Bk W4 (w.heap.size+1) 229 #[.string ⟨#[]⟩,.bool false]:=HR4.o;obtain⟨q0,q1,_,_⟩:=A.two;have C:Hid (ObM W4 W4.heap.size ⟨2,⟨#[]⟩,ents,zD,[],⟨#[]⟩,0,⟨#[]⟩⟩ ⟨A4,ents.length,F,none,0,0⟩):=⟨Q.o.sl,Sl.nil _ _ _ _,hn4,hm4,Nat.le_refl _,ZX _⟩
   have t:=ai (pM ⟨2,⟨#[]⟩,ents,zD,[],⟨#[]⟩,0,⟨#[]⟩⟩ ⟨A4,ents.length,F,none,0,0⟩ W4.heap.size W4 C.o aj HO.o);simp only[obV,obC]at t;obtain⟨k0,k1,k2,k3,k4,k5,k6,k7,k8⟩:=u.o.nine;go_wp2_with fail;refine t.o.mono ?_;rintro e w8 ⟨rfl,hb8⟩;have D:=ai (u.o.below hb8 u.o.lt);have n:=ai (z.o.below hb8 z.o.lt);have E:VF w w8:=HB4.o.trans (hb8.mono HB4.o.size);have P:=ai ((C.o.below hb8 aj).more hb8.size);have z8:w.heap.size<w8.heap.size:=n.o.lt;have K:=ai (Q.o.below hb8);clear c0 c1 c2 c3 c4 c5 c6 c7 c8 k0 k1 k2 k3 k4 k5 k6 k7 k8 q0 q1 A hb8 t i;obtain⟨c0,c1,c2,c3,c4,c5,c6,c7,c8⟩:=D.o.nine;obtain⟨d0,d1,d2,d3,d4,d5,d6,d7,d8⟩:=n.o.nine;obtain⟨f0,f1,f2,f3,f4,f5,f6,f7,f8⟩:=fr9 n.o;have hne:w.heap.size≠w2.heap.size:=by omega
   go_wp2_with fail;refine ZW (fE Tryz.results81 rfl (fF n.o _ _ _ _ _ _ _ _ _) rfl) rfl ⟨⟨A4,ents.length,F,none,0,0⟩,rfl,?_,fD E.o aj _ _ _ _ _ _ _ _ _,(K.o.set9 (by omega) _ _ _ _ _ _ _ _ _).newO (by omega) ⟨rfl,rfl,rfl⟩,NewP.none _ _ rfl⟩;exact⟨(K.o.set9 (by omega) _ _ _ _ _ _ _ _ _).sl,Sl.nil _ _ _ _,hn4,hm4,Nat.le_refl _,ZX _⟩
 | commit k d e c =>
   have g:aI o=ak 3++ (ay o.tree++ (ak o.pars.length++ (o.pars.flatMap ay++ (ax (toL o.auth)++ (ak o.time.toNat++ (ax (toL o.msg)++ [])))))):=by unfold aI gX;rw[if_neg (by omega),if_pos k,k,List.append_nil];rfl
   obtain⟨kind,data,ents,⟨t1,t2⟩,pars,auth,time,msg⟩:=o;simp only at k e d g;subst k d e;have ht0:0<=time:=c.t0;obtain⟨tn,htn⟩:=Int.eq_ofNat_of_zero_le ht0;subst htn;have ht1: (tn:Int)<=1099511627776:=c.t1;have htn:tn<=1099511627776:=by omega
   have lq:auth.size<=24:=iZ c.auth;have nz:msg.size<=200:=c.msg;have hwt:WfD (t1,t2):=c.wf;have W:Hid (Ae pars):=c.pars;simp only[Int.toNat_natCast]at g;clear c ht0 ht1;obtain⟨s,hs⟩:=NX9 (ofL (aI (⟨3,⟨#[]⟩,[],(t1,t2),pars,auth,(tn:Int),msg⟩:Ob)))
   rw[hs];have hlr: (ak 3++ (ay (t1,t2)++ (ak pars.length++ (pars.flatMap ay++ (ax (toL auth)++ (ak tn++ (ax (toL msg)++ []))))))).length<=1000000:=by rw[<-g];omega
   have hle: (ay (t1,t2)++ (ak pars.length++ (pars.flatMap ay++ (ax (toL auth)++ (ak tn++ (ax (toL msg)++ [])))))).length<=1000000:=by rw[af]at hlr;omega
   obtain⟨W1,hW1⟩:=NX9 ((w.alloc (.cells #[.int .i64 0,.string ⟨#[]⟩,.slice none 0 0,.int .u64 0,.int .u64 0,.slice none 0 0,.string ⟨#[]⟩,.int .i64 0,.string ⟨#[]⟩] 109)).alloc (.cells #[.string s,.bool false] 229))
   have HZ1:Hid (Bk W1 w.heap.size 109 #[.int .i64 0,.string ⟨#[]⟩,.slice none 0 0,.int .u64 0,.int .u64 0,.slice none 0 0,.string ⟨#[]⟩,.int .i64 0,.string ⟨#[]⟩]):=by rw[<-hW1];exact(Bk.new w _ _).alloc _
   have HR1:Hid (Rdr W1 (w.heap.size+1) (ak 3++ (ay (t1,t2)++ (ak pars.length++ (pars.flatMap ay++ (ax (toL auth)++ (ak tn++ (ax (toL msg)++ [])))))))):=by
    show Bk _ _ _ _;rw[<-g,hs,<-hW1];have:=Bk.new (w.alloc (.cells #[.int .i64 0,.string ⟨#[]⟩,.slice none 0 0,.int .u64 0,.int .u64 0,.slice none 0 0,.string ⟨#[]⟩,.int .i64 0,.string ⟨#[]⟩] 109)) 229 #[.string s,.bool false]
    rwa[Z9]at this
   have HB1:VF w W1:=by rw[<-hW1];exact((ah _ w).alloc aj _).alloc (by simp) _
   have M:W1.heap.size=w.heap.size+2:=by rw[<-hW1];simp
   have x:=ai (oK (w.heap.size+1) 3 (ay (t1,t2)++ (ak pars.length++ (pars.flatMap ay++ (ax (toL auth)++ (ak tn++ (ax (toL msg)++ [])))))) W1 HR1.o (by omega) hlr);clear hs g hlr
   go_enter Tryz.func81,Tryz.ntmps81
   go_wp2_with fail;refine x.o.mono ?_;rintro e w2 ⟨rfl,hr,hg⟩;have HR2:=ai hr;have HG2:VF w w2:=HB1.o.trans (hg.below (by omega) (fun q hq e=>by omega));have HZ2:=ai (hg.bk HZ1.o (by show ¬w.heap.size=w.heap.size+1;omega));have z2:w.heap.size+2<=w2.heap.size:=by have:=hg.size;omega
   clear hr hg hW1 x HB1 HZ1 HR1;obtain⟨W3,hW3⟩:=NX9 (w2.alloc (.cells #[.int .i64 3,.string ⟨#[]⟩,.slice none 0 0,.int .u64 0,.int .u64 0,.slice none 0 0,.string ⟨#[]⟩,.int .i64 0,.string ⟨#[]⟩] 109))
   have hb3:VE w2 W3:=by rw[<-hW3];exact(ah _ w2).alloc aj _
   have r:Hid (Bk W3 w2.heap.size 109 #[.int .i64 3,.string ⟨#[]⟩,.slice none 0 0,.int .u64 0,.int .u64 0,.slice none 0 0,.string ⟨#[]⟩,.int .i64 0,.string ⟨#[]⟩]):=by rw[<-hW3];exact Bk.new w2 _ _
   have HR3:Hid (Rdr W3 (w.heap.size+1) (ay (t1,t2)++ (ak pars.length++ (pars.flatMap ay++ (ax (toL auth)++ (ak tn++ (ax (toL msg)++ []))))))):=Bk.below HR2.o hb3 (by omega);have HZ3:=ai (HZ2.o.below hb3 (by omega));have HB3:VF w W3:=HG2.o.trans (hb3.mono (by omega));have z3:W3.heap.size=w2.heap.size+1:=by rw[<-hW3];simp
   have c0:=r.o.nine.1;rw[<-hW3]at c0;have HW3:=ai hW3;clear hb3 hW3 HR2 HZ2 HG2;have hl3: (ak pars.length++ (pars.flatMap ay++ (ax (toL auth)++ (ak tn++ (ax (toL msg)++ []))))).length<=1000000:=by
    have h:=hle;simp only[af]at h ⊢;omega
   have hl2: (ax (toL auth)++ (ak tn++ (ax (toL msg)++ []))).length<=1000000:=by
    have h:=hle;simp only[af]at h ⊢;omega
   have hl1: (ak tn++ (ax (toL msg)++ [])).length<=1000000:=by
    have h:=hle;simp only[af]at h ⊢;omega
   have hl0: (ax (toL msg)++ []).length<=1000000:=by
    have h:=hle;simp only[af]at h ⊢;omega
   have y:=ai (KW (w.heap.size+1) (t1,t2) (ak pars.length++ (pars.flatMap ay++ (ax (toL auth)++ (ak tn++ (ax (toL msg)++ []))))) W3 HR3.o hwt hle);go_wp2_with fail;rw[HW3.o];refine y.o.mono ?_;rintro e v4 ⟨rfl,hr,hg⟩;simp only[az];have j:=ai hr;have b:=ai (hg.bk r.o (by show ¬w2.heap.size=w.heap.size+1;omega));have l:=ai (hg.bk HZ3.o (by show ¬w.heap.size=w.heap.size+1;omega));have m:VF w v4:=HB3.o.trans (hg.below (by have:=HB3.o.size;omega) (fun q hq e=>by omega));have N:=hg.size;clear c0 hr hg y HB3 HZ3 r HR3;obtain⟨c0,c1,c2,c3,c4,c5,c6,c7,c8⟩:=b.o.nine;have f3:=b.o.free 3;have f4:=b.o.free 4;obtain⟨W4,i⟩:=NX9 (((v4.setCell ⟨w2.heap.size,3,none⟩ (.int .u64 t1)).setCell ⟨w2.heap.size,4,none⟩ (.int .u64 t2)))
   have u:Hid (Bk W4 w2.heap.size 109 #[.int .i64 3,.string ⟨#[]⟩,.slice none 0 0,.int .u64 t1,.int .u64 t2,.slice none 0 0,.string ⟨#[]⟩,.int .i64 0,.string ⟨#[]⟩]):=by rw[<-i];have:=((b.o.set 3 (.int .u64 t1)).set 4 (.int .u64 t2));show Bk _ _ _ _;simpa using this
   have HR4:Hid (Rdr W4 (w.heap.size+1) (ak pars.length++ (pars.flatMap ay++ (ax (toL auth)++ (ak tn++ (ax (toL msg)++ [])))))):=by rw[<-i];exact(Bk.far (Bk.far j.o (p:=⟨w2.heap.size,3,none⟩) (by show w.heap.size+1≠w2.heap.size;omega) _) (p:=⟨w2.heap.size,4,none⟩) (by show w.heap.size+1≠w2.heap.size;omega) _)
   have z:Hid (Bk W4 w.heap.size 109 #[.int .i64 0,.string ⟨#[]⟩,.slice none 0 0,.int .u64 0,.int .u64 0,.slice none 0 0,.string ⟨#[]⟩,.int .i64 0,.string ⟨#[]⟩]):=by rw[<-i];exact(Bk.far (Bk.far l.o (p:=⟨w2.heap.size,3,none⟩) (by show w.heap.size≠w2.heap.size;omega) _) (p:=⟨w2.heap.size,4,none⟩) (by show w.heap.size≠w2.heap.size;omega) _)
   have HB4:VF w W4:=by rw[<-i];exact(Below.setCell (Below.setCell m.o (p:=⟨w2.heap.size,3,none⟩) (by show w.heap.size<=w2.heap.size;omega) _) (p:=⟨w2.heap.size,4,none⟩) (by show w.heap.size<=w2.heap.size;omega) _)
   have O:v4.heap.size<=W4.heap.size:=by rw[<-i];simp[World.setCell]
   clear j b l m;have X:=ai (MK (w.heap.size+1) pars (ax (toL auth)++ (ak tn++ (ax (toL msg)++ []))) W4 HR4.o W.o.wf W.o.few hl3);go_wp2_with fail;refine X.o.mono ?_;rintro e v5 ⟨A5,B,rfl,Y,Z,hap,hr,hg⟩;have j:=ai hr;have b:=ai (hg.bk u.o (by show ¬w2.heap.size=w.heap.size+1;omega));have l:=ai (hg.bk z.o (by show ¬w.heap.size=w.heap.size+1;omega));have m:VF w v5:=HB4.o.trans (hg.below (by have:=HB4.o.size;omega) (fun q hq e=>by omega));have nO:=hg.size;have v:=ai hap;clear hr hg hap X HB4 z u HR4 i;obtain⟨c0,c1,c2,c3,c4,c5,c6,c7,c8⟩:=b.o.nine;have f5:=b.o.free 5;obtain⟨W5,G⟩:=NX9 ((v5.setCell ⟨w2.heap.size,5,none⟩ (.slice A5 pars.length B)))
   have ag:Hid (Bk W5 w2.heap.size 109 #[.int .i64 3,.string ⟨#[]⟩,.slice none 0 0,.int .u64 t1,.int .u64 t2,.slice A5 pars.length B,.string ⟨#[]⟩,.int .i64 0,.string ⟨#[]⟩]):=by rw[<-G];have:=(b.o.set 5 (.slice A5 pars.length B));show Bk _ _ _ _;simpa using this
   have au:Hid (Rdr W5 (w.heap.size+1) (ax (toL auth)++ (ak tn++ (ax (toL msg)++ [])))):=by rw[<-G];exact(Bk.far j.o (p:=⟨w2.heap.size,5,none⟩) (by show w.heap.size+1≠w2.heap.size;omega) _)
   have bf:Hid (Bk W5 w.heap.size 109 #[.int .i64 0,.string ⟨#[]⟩,.slice none 0 0,.int .u64 0,.int .u64 0,.slice none 0 0,.string ⟨#[]⟩,.int .i64 0,.string ⟨#[]⟩]):=by rw[<-G];exact(Bk.far l.o (p:=⟨w2.heap.size,5,none⟩) (by show w.heap.size≠w2.heap.size;omega) _)
   have R:VF w W5:=by rw[<-G];exact(Below.setCell m.o (p:=⟨w2.heap.size,5,none⟩) (by show w.heap.size<=w2.heap.size;omega) _)
   have nU:v5.heap.size<=W5.heap.size:=by rw[<-G];simp[World.setCell]
   have bg:=ai ((Apd.setCell v.o (a:=⟨w2.heap.size,5,none⟩) (by show w2.heap.size<_;omega) (.slice A5 pars.length B)));rw[G]at bg;clear j b l m v;have bn:=ai (rJ (w.heap.size+1) auth (ak tn++ (ax (toL msg)++ [])) W5 au.o (by omega) hl2);go_wp2_with fail;refine bn.o.mono ?_;rintro e v6 ⟨rfl,hr,hg⟩;have j:=ai hr;have b:=ai (hg.bk ag.o (by show ¬w2.heap.size=w.heap.size+1;omega));have l:=ai (hg.bk bf.o (by show ¬w.heap.size=w.heap.size+1;omega));have m:VF w v6:=R.o.trans (hg.below (by have:=R.o.size;omega) (fun q hq e=>by omega));have oO:=hg.size;have v:=ai (bg.o.gb hg (by omega));clear hr hg bn R bf ag au G;obtain⟨c0,c1,c2,c3,c4,c5,c6,c7,c8⟩:=b.o.nine;have f6:=b.o.free 6;obtain⟨W6,H⟩:=NX9 ((v6.setCell ⟨w2.heap.size,6,none⟩ (.string auth)))
   have bz:Hid (Bk W6 w2.heap.size 109 #[.int .i64 3,.string ⟨#[]⟩,.slice none 0 0,.int .u64 t1,.int .u64 t2,.slice A5 pars.length B,.string auth,.int .i64 0,.string ⟨#[]⟩]):=by rw[<-H];have:=(b.o.set 6 (.string auth));show Bk _ _ _ _;simpa using this
   have cu:Hid (Rdr W6 (w.heap.size+1) (ak tn++ (ax (toL msg)++ []))):=by rw[<-H];exact(Bk.far j.o (p:=⟨w2.heap.size,6,none⟩) (by show w.heap.size+1≠w2.heap.size;omega) _)
   have cO:Hid (Bk W6 w.heap.size 109 #[.int .i64 0,.string ⟨#[]⟩,.slice none 0 0,.int .u64 0,.int .u64 0,.slice none 0 0,.string ⟨#[]⟩,.int .i64 0,.string ⟨#[]⟩]):=by rw[<-H];exact(Bk.far l.o (p:=⟨w2.heap.size,6,none⟩) (by show w.heap.size≠w2.heap.size;omega) _)
   have S:VF w W6:=by rw[<-H];exact(Below.setCell m.o (p:=⟨w2.heap.size,6,none⟩) (by show w.heap.size<=w2.heap.size;omega) _)
   have oU:v6.heap.size<=W6.heap.size:=by rw[<-H];simp[World.setCell]
   have dn:=ai ((Apd.setCell v.o (a:=⟨w2.heap.size,6,none⟩) (by show w2.heap.size<_;omega) (.string auth)));rw[H]at dn;clear j b l m v;have dN:=ai (oK (w.heap.size+1) tn (ax (toL msg)++ []) W6 cu.o htn hl1);go_wp2_with fail;refine dN.o.mono ?_;rintro e v7 ⟨rfl,hr,hg⟩;have j:=ai hr;have b:=ai (hg.bk bz.o (by show ¬w2.heap.size=w.heap.size+1;omega));have l:=ai (hg.bk cO.o (by show ¬w.heap.size=w.heap.size+1;omega));have m:VF w v7:=S.o.trans (hg.below (by have:=S.o.size;omega) (fun q hq e=>by omega));have qc:=hg.size;have v:=ai (dn.o.gb hg (by omega));clear hr hg dN S cO bz cu H;obtain⟨c0,c1,c2,c3,c4,c5,c6,c7,c8⟩:=b.o.nine;have f7:=b.o.free 7;obtain⟨W7,I⟩:=NX9 ((v7.setCell ⟨w2.heap.size,7,none⟩ (.int .i64 (tn:Int))))
   have ed:Hid (Bk W7 w2.heap.size 109 #[.int .i64 3,.string ⟨#[]⟩,.slice none 0 0,.int .u64 t1,.int .u64 t2,.slice A5 pars.length B,.string auth,.int .i64 (tn:Int),.string ⟨#[]⟩]):=by rw[<-I];have:=(b.o.set 7 (.int .i64 (tn:Int)));show Bk _ _ _ _;simpa using this
   have fA:Hid (Rdr W7 (w.heap.size+1) (ax (toL msg)++ [])):=by rw[<-I];exact(Bk.far j.o (p:=⟨w2.heap.size,7,none⟩) (by show w.heap.size+1≠w2.heap.size;omega) _)
   have fO:Hid (Bk W7 w.heap.size 109 #[.int .i64 0,.string ⟨#[]⟩,.slice none 0 0,.int .u64 0,.int .u64 0,.slice none 0 0,.string ⟨#[]⟩,.int .i64 0,.string ⟨#[]⟩]):=by rw[<-I];exact(Bk.far l.o (p:=⟨w2.heap.size,7,none⟩) (by show w.heap.size≠w2.heap.size;omega) _)
   have T:VF w W7:=by rw[<-I];exact(Below.setCell m.o (p:=⟨w2.heap.size,7,none⟩) (by show w.heap.size<=w2.heap.size;omega) _)
   have qx:v7.heap.size<=W7.heap.size:=by rw[<-I];simp[World.setCell]
   have fU:=ai ((Apd.setCell v.o (a:=⟨w2.heap.size,7,none⟩) (by show w2.heap.size<_;omega) (.int .i64 (tn:Int))));rw[I]at fU;clear j b l m v;have gu:=ai (rJ (w.heap.size+1) msg [] W7 fA.o (by omega) hl0);go_wp2_with fail;refine gu.o.mono ?_;rintro e v9 ⟨rfl,hr,hg⟩;have j:=ai hr;have b:=ai (hg.bk ed.o (by show ¬w2.heap.size=w.heap.size+1;omega));have l:=ai (hg.bk fO.o (by show ¬w.heap.size=w.heap.size+1;omega));have m:VF w v9:=T.o.trans (hg.below (by have:=T.o.size;omega) (fun q hq e=>by omega));have qA:=hg.size;have v:=ai (fU.o.gb hg (by omega));clear hr hg gu T fO ed fA I;obtain⟨c0,c1,c2,c3,c4,c5,c6,c7,c8⟩:=b.o.nine;have f8:=b.o.free 8;obtain⟨L,J⟩:=NX9 ((v9.setCell ⟨w2.heap.size,8,none⟩ (.string msg)))
   have U:Hid (Bk L w2.heap.size 109 #[.int .i64 3,.string ⟨#[]⟩,.slice none 0 0,.int .u64 t1,.int .u64 t2,.slice A5 pars.length B,.string auth,.int .i64 (tn:Int),.string msg]):=by rw[<-J];have:=(b.o.set 8 (.string msg));show Bk _ _ _ _;simpa using this
   have lg:Hid (Rdr L (w.heap.size+1) ([])):=by rw[<-J];exact(Bk.far j.o (p:=⟨w2.heap.size,8,none⟩) (by show w.heap.size+1≠w2.heap.size;omega) _)
   have iU:Hid (Bk L w.heap.size 109 #[.int .i64 0,.string ⟨#[]⟩,.slice none 0 0,.int .u64 0,.int .u64 0,.slice none 0 0,.string ⟨#[]⟩,.int .i64 0,.string ⟨#[]⟩]):=by rw[<-J];exact(Bk.far l.o (p:=⟨w2.heap.size,8,none⟩) (by show w.heap.size≠w2.heap.size;omega) _)
   have ku:VF w L:=by rw[<-J];exact(Below.setCell m.o (p:=⟨w2.heap.size,8,none⟩) (by show w.heap.size<=w2.heap.size;omega) _)
   have rf:v9.heap.size<=L.heap.size:=by rw[<-J];simp[World.setCell]
   have V:=ai ((Apd.setCell v.o (a:=⟨w2.heap.size,8,none⟩) (by show w2.heap.size<_;omega) (.string msg)));rw[J]at V;clear j b l m v;have A:Bk L (w.heap.size+1) 229 #[.string ⟨#[]⟩,.bool false]:=lg.o;obtain⟨q0,q1,_,_⟩:=A.two;have kU:Hid (ObM L L.heap.size ⟨3,⟨#[]⟩,[],(t1,t2),pars,auth,(tn:Int),msg⟩ ⟨none,0,0,A5,pars.length,B⟩):=⟨Sl.nil _ _ _ _,V.o.sl,Nat.le_refl _,ZX _,Y,Z⟩
   have t:=ai (pM ⟨3,⟨#[]⟩,[],(t1,t2),pars,auth,(tn:Int),msg⟩ ⟨none,0,0,A5,pars.length,B⟩ L.heap.size L kU.o aj HO.o);simp only[obV,obC]at t;obtain⟨k0,k1,k2,k3,k4,k5,k6,k7,k8⟩:=U.o.nine;go_wp2_with fail;refine t.o.mono ?_;rintro e w8 ⟨rfl,hb8⟩;have D:=ai (U.o.below hb8 U.o.lt);have n:=ai (iU.o.below hb8 iU.o.lt);have E:VF w w8:=ku.o.trans (hb8.mono ku.o.size);have P:=ai ((kU.o.below hb8 aj).more hb8.size);have z8:w.heap.size<w8.heap.size:=n.o.lt;have K:=ai (V.o.below hb8);clear c0 c1 c2 c3 c4 c5 c6 c7 c8 k0 k1 k2 k3 k4 k5 k6 k7 k8 q0 q1 A hb8 t J;obtain⟨c0,c1,c2,c3,c4,c5,c6,c7,c8⟩:=D.o.nine;obtain⟨d0,d1,d2,d3,d4,d5,d6,d7,d8⟩:=n.o.nine;obtain⟨f0,f1,f2,f3,f4,f5,f6,f7,f8⟩:=fr9 n.o;have hne:w.heap.size≠w2.heap.size:=by omega
   go_wp2_with fail;refine ZW (fE Tryz.results81 rfl (fF n.o _ _ _ _ _ _ _ _ _) rfl) rfl ⟨⟨none,0,0,A5,pars.length,B⟩,rfl,?_,fD E.o aj _ _ _ _ _ _ _ _ _,NewO.none _ _ rfl,(K.o.set9 (by omega) _ _ _ _ _ _ _ _ _).newP (by omega) ⟨rfl,rfl,rfl⟩⟩;exact⟨Sl.nil _ _ _ _,(K.o.set9 (by omega) _ _ _ _ _ _ _ _ _).sl,Nat.le_refl _,ZX _,Y,Z⟩
