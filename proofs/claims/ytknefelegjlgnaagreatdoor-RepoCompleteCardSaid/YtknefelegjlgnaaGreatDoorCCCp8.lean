/-
  Lemmas of the card.
-/
import Derived.Deep.RegionHeld3
import Derived.Test.YtknefelegjlgnaaGreatDoorCCCp7
set_option maxRecDepth 100000
set_option maxHeartbeats 4000000
namespace Go.Proofs.YtknefelegjlgnaaGreatDoor
open Go.RowKit
theorem Sl.en{w:UW}{B n k:Nat}{A:OA}{l:List Ent}(h:Sl w B 4 A n (flat enC l))(hk:k<n) :
  ∃b off e,A=some ⟨b,off,none⟩/\b<B/\l[k]? =some e/\w.cell? ⟨b,off+k*4,none⟩=some (.string e.nm)/\w.cell? ⟨b,off+k*4+1,none⟩=some (.bool e.dir)/\w.cell? ⟨b,off+k*4+2,none⟩=some (.int .u64 e.dg.1)/\w.cell? ⟨b,off+k*4+3,none⟩=some (.int .u64 e.dg.2):=by
 obtain⟨b,off,x,e,hb,hx,hc⟩:=h.at_ tN (by omega) hk;exact⟨b,off,x,e,hb,hx,hc 0 _ rfl,hc 1 _ rfl,hc 2 _ rfl,hc 3 _ rfl⟩
theorem Sl.dg{w:UW}{B n k:Nat}{A:OA}{l:List Dig}(h:Sl w B 2 A n (flat dgC l))(hk:k<n) :
  ∃b off d,A=some ⟨b,off,none⟩/\b<B/\l[k]? =some d/\w.cell? ⟨b,off+k*2,none⟩=some (.int .u64 d.1)/\w.cell? ⟨b,off+k*2+1,none⟩=some (.int .u64 d.2):=by
 obtain⟨b,off,x,e,hb,hx,hc⟩:=h.at_ ig (by omega) hk;exact⟨b,off,x,e,hb,hx,hc 0 _ rfl,hc 1 _ rfl⟩
theorem G9(x y:Dig): (x.1 == y.1 && x.2 == y.2)=decide (x=y):=by
 obtain⟨a,b⟩:=x;obtain⟨c,d⟩:=y;rw[Bool.eq_iff_iff];simp
theorem lJ{x:Dig}(h:x≠zD): (x.1 == 0 && x.2 == 0)=false:=by
 have:=G9 x zD;rw[decide_eq_false h]at this;exact this
theorem JC(A:OA)(n c B:Nat)(l:List Ent)(w:UW)(h0:Sl w B 4 A n (flat enC l))(hB:B<=w.heap.size)(hok:jV l) :
  Calls Tryz.prog 264 #[.slice A n c] w fun e w'=>e= .returned (.int .i64 0)/\U0 w w':=by
 have HL:=ai (h0.len tN (by omega));have H0:=ai h0;have hn:n<=200:=by rw[<-HL.o];exact hok.few
 have HA:=ai hok.all;have HS:=ai hok.asc;clear h0 hok;have hnz:¬(200:Int)< (n:Int):=by omega
 go_enter Tryz.func264,Tryz.ntmps264
 go_wp2_with fail
 go_loopw[10] (fun i wr=>∃k:Nat,i= .int .i64 (k:Int)/\k<=n/\U6 w wr) (fun i _=>n - (intOf i).toNat)
 case atStart=>exact⟨0,rfl,ZX _,ah _ _⟩
 case round =>
  obtain⟨k,rfl,hk,hbw⟩:=hrel;have r:=hbw.o.size;by_cases hlt:k<n
  . have hlz: (k:Int)< (n:Int):=by omega
    obtain⟨bb,off,en,rfl,hbB,he,y0,y1,y2,y3⟩:=(H0.o.below hbw.o hB).en hlt;have HE:=ai he;have b:=ai (HA.o en (Z7 he));obtain⟨wb,hwb⟩:=NX9 (wr.alloc (.cells #[.string en.nm,.bool en.dir,.int .u64 en.dg.1,.int .u64 en.dg.2] 185))
    have s:U6 wr wb:=by rw[<-hwb];exact(ah _ wr).alloc aj _
    have a:Hid (Bk wb wr.heap.size 185 #[.string en.nm,.bool en.dir,.int .u64 en.dg.1,.int .u64 en.dg.2]):=by rw[<-hwb];exact Bk.new wr _ _
    have d:U6 w wb:=hbw.o.trans (s.o.mono r);have hns:=iV b.o.nm;have hnm:=b.o.nm;have hdz:=lJ b.o.nz;have t:wb.heap.size=wr.heap.size+1:=by rw[<-hwb];simp
    have h:Hid (∀j,k=j+1->∃p,Hid (Op.bytesLess en.nm.toList p.toList=false/\ (en.nm.toList == p.toList)=false)/\wb.cell? ⟨bb,off+j*4,none⟩=some (.string p)):=by
     intro j hj;obtain⟨bb',off',p,hpe,_,hp,z0,_⟩:=(H0.o.below d.o hB).en (k:=j) (by omega);cases hpe
     have hl:=HS.o j p en hp (by rw[<-hj];exact HE.o);refine⟨p.nm,⟨(xQ _ _).trans ?_,Tz fun e=>?_⟩,z0⟩
     . cases hx:less en.nm p.nm with
       | false=>rfl
       | true=>have:=jZ hl hx;rw[jL]at this;cases this
     . rw[e,jL]at hl;cases hl
    have x0:=a.o.cell 0;have x2:=a.o.cell 2;have x3:=a.o.cell 3;simp at x0 x2 x3;have g:=x0;rw[<-hwb]at g;have m:=ai hwb;clear hwb he;obtain⟨nm,dir,d1,d2⟩:=en;simp only at hns hnm hdz y0 y1 y2 y3 x0 x2 x3 g m a h
    go_upto_region 8 with (first | (go_at_call 195;refine(jC nm _ (by unfold maxLen;omega)).mono ?_;rintro e w1 ⟨rfl,rfl⟩;rw[hnm]))
    rw[m.o];clear g
    go_cut[20] from 21 to 33 (fun f wx=>f= .bool false/\U6 wb wx)
    case first =>
     cases k with
     | zero =>
       go_quiet(fail)
       simp only[Exit.then]
       go_step
       go_meet
       exact⟨rfl,dm (ah _ _) _⟩
     | succ j =>
       obtain⟨p,HP,z0⟩:=h.o j rfl;have hkp: (0:Int)< ((j+1:Nat):Int):=by omega
       have hw1:IntKind.i64.wrap (((j+1:Nat):Int) - 1)= (j:Int):=by rw[yf (by omega) (by omega)];omega
       have hj1:¬(j:Int)<0:=by omega
       have hj2: (j:Int)< (n:Int):=by omega
       obtain⟨hp,hp'⟩:=HP.o
       go_quiet(fail)
       simp only[Exit.then]
       go_step
       go_meet
       exact⟨rfl,dm (ah _ _) _⟩
    case rest =>
     obtain⟨rfl,HBc⟩:=hcut;have o:U6 w wc:=d.o.trans (HBc.o.mono d.o.size);have q:=ai (a.o.below HBc.o a.o.lt);clear x0 x2 x3 y0 y1 y2 y3;have x2:=q.o.cell 2;have x3:=q.o.cell 3;simp at x2 x3;go_wp2_with fail;go_roundw
     case rel=>exact⟨k+1,by go_num,hlt,o.o⟩
     case measure=>simp[intOf];omega
  . have hlz:¬(k:Int)< (n:Int):=by omega
    go_wp2_with fail;go_ret
    exact⟨rfl,hbw.o⟩
theorem L9(A:OA)(n c B:Nat)(l:List Dig)(d:Dig)(w:UW)(h0:Sl w B 2 A n (flat dgC l))(hB:B<=w.heap.size)(hn:n<=1000000) :
  Calls Tryz.prog 334 #[.slice A n c,aA d] w fun e w'=>(∃z:Int,e= .returned (.int .i64 z)/\ ((0<=z)↔d∈l))/\U0 w w':=by
 have HL:=ai (h0.len ig (by omega));have H0:=ai h0;clear h0;obtain⟨a,b⟩:=d;unfold aA;obtain⟨W,hW⟩:=NX9 (w.alloc (.cells #[.int .u64 a,.int .u64 b] 50))
 have HB0:U6 w W:=by rw[<-hW];exact(ah _ w).alloc aj _
 have HK:Hid (Bk W w.heap.size 50 #[.int .u64 a,.int .u64 b]):=by rw[<-hW];exact Bk.new w _ _
 have m:w.heap.size<W.heap.size:=HK.o.lt;simp only
 go_enter Tryz.func334,Tryz.ntmps334
 go_wp2_with fail;clear hW
 go_loopw[8] (fun i wr=>∃k:Nat,k<=n/\i= .int .i64 k/\Hid ((a,b)∉l.take k)/\U6 W wr) (fun i _=>n - (intOf i).toNat)
 case atStart=>exact⟨0,ZX _,rfl,(fun h=>by simp at h),ah _ _⟩
 case round =>
  obtain⟨k,hk,rfl,hN,hBel⟩:=hrel;have f:U6 w wr:=HB0.o.trans (hBel.o.mono HB0.o.size);by_cases hlt:k<n
  . obtain⟨bb,off,x,rfl,hbB,hx,y0,y1⟩:=(H0.o.below f.o hB).dg hlt
    have hlz: (k:Int)< (n:Int):=by omega
    obtain⟨x0,x1,_,_⟩:=(HK.o.below hBel.o m).two;have HX:=ai hx;clear hx;have hde:=G9 (a,b) x;simp only at hde;by_cases e: (a,b)=x
    . rw[decide_eq_true e]at hde
      have HM:Hid ((a,b)∈l):=by show _∈_;rw[e];exact Z7 HX.o
      clear e;obtain⟨g,j⟩:=x;simp only at y0 y1 hde;go_wp2_with fail
      go_quiet(fail)
      go_wp2_with fail;go_ret
      exact⟨⟨_,rfl,fun _=>HM.o,fun _=>by omega⟩,dm f.o _⟩
    . rw[decide_eq_false e]at hde
      have HN:Hid ((a,b)∉l.take (k+1)):=fun hm=>by
       rw[bJ HX.o]at hm;rcases List.mem_append.1 hm with hm | hm
       . exact hN.o hm
       . exact e (List.mem_singleton.1 hm)
      clear e;obtain⟨g,j⟩:=x;simp only at y0 y1 hde;go_wp2_with fail
      go_quiet(fail)
      go_wp2_with fail;go_roundw
      case rel=>exact⟨k+1,by omega,by go_num,HN.o,dm hBel.o _⟩
      case measure=>simp[intOf];omega
  . have hlz:¬(k:Int)< (n:Int):=by omega
    have HN:Hid ((a,b)∉l):=by
     have:=hN.o
     rwa[ZU (by rw[HL.o];omega)]at this
    go_wp2_with fail;go_ret
    exact⟨⟨_,rfl,fun h=>absurd h (by decide),fun h=>absurd h HN.o⟩,f.o⟩
theorem Az(A:OA)(n c B:Nat)(l:List Dig)(d:Dig)(w:UW)(h0:Sl w B 2 A n (flat dgC l))(hB:B<=w.heap.size)(hn:n<=1000000) :
  Calls Tryz.prog 310 #[.slice A n c,aA d] w fun e w'=>e= .returned (.bool (decide (d∈l)))/\U0 w w':=by
 obtain⟨W,hW⟩:=NX9 (w.alloc (.cells #[.int .u64 d.1,.int .u64 d.2] 50))
 have HB0:U6 w W:=by rw[<-hW];exact(ah _ w).alloc aj _
 have HK:Hid (Bk W w.heap.size 50 #[.int .u64 d.1,.int .u64 d.2]):=by rw[<-hW];exact Bk.new w _ _
 obtain⟨x0,x1,_,_⟩:=HK.o.two;have HI:=ai (L9 A n c B l d W (h0.below (HB0.o.mono hB) aj) (by have:=HB0.o.size;omega) hn);unfold aA at HI ⊢;clear h0
 go_enter Tryz.func310,Tryz.ntmps310
 go_wp2_with fail;refine HI.o.mono ?_;rintro e w1 ⟨⟨z,rfl,hz⟩,hb⟩;have HZ:=ai hz;have HB1:U6 w w1:=HB0.o.trans (hb.mono HB0.o.size);clear hz hb;by_cases h:0<=z
 . have HM:Hid (d∈l):=HZ.o.1 h
   go_wp2_with fail;go_ret
   exact⟨dD (by rw[decide_eq_true HM.o]),HB1.o⟩
 . have HM:Hid (d∉l):=fun hm=>h (HZ.o.2 hm)
   go_wp2_with fail;go_ret
   exact⟨dD (by rw[decide_eq_false HM.o];simp;omega),HB1.o⟩
structure Osl where
 eA:OA
 en:Nat
 ec:Nat
 pA:OA
 pn:Nat
 pc:Nat
def obC(o:Ob)(s:Osl):Array UY:=#[.int .i64 o.kind,.string o.data,.slice s.eA s.en s.ec,.int .u64 o.tree.1,.int .u64 o.tree.2,.slice s.pA s.pn s.pc,.string o.auth,.int .i64 o.time,.string o.msg]
def obV(o:Ob)(s:Osl):UY:= .agg (obC o s)
structure ObM(w:UW)(B:Nat)(o:Ob)(s:Osl):Prop where
 e:Sl w B 4 s.eA s.en (flat enC o.ents)
 p:Sl w B 2 s.pA s.pn (flat dgC o.pars)
 ele:s.en<=s.ec
 emx:s.ec<=maxLen
 ple:s.pn<=s.pc
 pmx:s.pc<=maxLen
theorem ObM.below{w w':UW}{B B':Nat}{o:Ob}{s:Osl}(h:ObM w B o s)(hb:Below B' w w')(hB:B<=B'):ObM w' B o s:=⟨h.e.below hb hB,h.p.below hb hB,h.ele,h.emx,h.ple,h.pmx⟩
theorem ObM.more{w:UW}{B B':Nat}{o:Ob}{s:Osl}(h:ObM w B o s)(hB:B<=B'):ObM w B' o s:=⟨h.e.more hB,h.p.more hB,h.ele,h.emx,h.ple,h.pmx⟩
theorem ObM.elen{w:UW}{B:Nat}{o:Ob}{s:Osl}(h:ObM w B o s):o.ents.length=s.en:=h.e.len tN (by omega)
theorem ObM.plen{w:UW}{B:Nat}{o:Ob}{s:Osl}(h:ObM w B o s):o.pars.length=s.pn:=h.p.len ig (by omega)
theorem Bk.nine{w:UW}{b:Nat}{t:TypeId}{x0 x1 x2 x3 x4 x5 x6 x7 x8:UY}(h:Bk w b t #[x0,x1,x2,x3,x4,x5,x6,x7,x8]):w.cell? ⟨b,0,none⟩=some x0/\w.cell? ⟨b,1,none⟩=some x1/\w.cell? ⟨b,2,none⟩=some x2/\w.cell? ⟨b,3,none⟩=some x3/\w.cell? ⟨b,4,none⟩=some x4/\w.cell? ⟨b,5,none⟩=some x5/\w.cell? ⟨b,6,none⟩=some x6/\w.cell? ⟨b,7,none⟩=some x7/\w.cell? ⟨b,8,none⟩=some x8:=by
 have c0:=h.cell 0;have c1:=h.cell 1;have c2:=h.cell 2;have c3:=h.cell 3;have c4:=h.cell 4;have c5:=h.cell 5;have c6:=h.cell 6;have c7:=h.cell 7;have c8:=h.cell 8;simp at c0 c1 c2 c3 c4 c5 c6 c7 c8;exact⟨c0,c1,c2,c3,c4,c5,c6,c7,c8⟩
theorem Kq(o:Ob)(s:Osl)(B:Nat)(w:UW)(hm:ObM w B o s)(hB:B<=w.heap.size)(hc:OkC o) :
  Calls Tryz.prog 265 #[obV o s] w fun e w'=>e= .returned (.int .i64 0)/\U0 w w':=by
 have HL:=ai hm.plen;have HP:=ai hm.p;have hn:s.pn<=8:=by have:=hc.pars.few;rw[HL.o]at this;exact this
 have c:=ai hc.pars;have hpc:=hm.ple;have hpm:=hm.pmx;have htz:=lJ hc.nz;have l:=hc.auth;have hns:=iV hc.auth;have ht0:=hc.t0;have ht1:=hc.t1;have hms:=hc.msg;obtain⟨kind,data,z,⟨t1,t2⟩,pars,auth,time,msg⟩:=o;obtain⟨eA,en,ec,pA,n,pc⟩:=s;simp only at HL HP hn c hpc hpm htz l hns ht0 ht1 hms;simp only[obV,obC];have hnm:n<=9223372036854775807:=by omega
 have hnz:¬(8:Int)< (n:Int):=by omega
 have hq1:¬time<0:=by omega
 have hq2:¬(1099511627776:Int)<time:=by omega
 have hq3:¬(200:Int)< (msg.size:Int):=by omega
 obtain⟨W0,hW⟩:=NX9 (w.alloc (.cells #[.int .i64 kind,.string data,.slice eA en ec,.int .u64 t1,.int .u64 t2,.slice pA n pc,.string auth,.int .i64 time,.string msg] 109))
 have HB0:U6 w W0:=by rw[<-hW];exact(ah _ w).alloc aj _
 have HK:Hid (Bk W0 w.heap.size 109 #[.int .i64 kind,.string data,.slice eA en ec,.int .u64 t1,.int .u64 t2,.slice pA n pc,.string auth,.int .i64 time,.string msg]):=by rw[<-hW];exact Bk.new w _ _
 have A:w.heap.size<W0.heap.size:=HK.o.lt;obtain⟨c0,c1,c2,c3,c4,c5,c6,c7,c8⟩:=HK.o.nine;clear hm hc
 go_enter Tryz.func265,Tryz.ntmps265
 go_wp2_with fail;clear hW
 go_loopw[16] (fun i wr=>∃k:Nat,i= .int .i64 (k:Int)/\k<=n/\U6 W0 wr) (fun i _=>n - (intOf i).toNat)
 case atStart=>exact⟨0,rfl,ZX _,ah _ _⟩
 case round =>
  obtain⟨k,rfl,hk,hbw⟩:=hrel;have m:=hbw.o.size;have f:U6 w wr:=HB0.o.trans (hbw.o.mono HB0.o.size);clear c0 c1 c2 c3 c4 c5 c6 c7 c8;obtain⟨c0,c1,c2,c3,c4,c5,c6,c7,c8⟩:=(HK.o.below hbw.o A).nine;by_cases hlt:k<n
  . have hlz: (k:Int)< (n:Int):=by omega
    obtain⟨bb,off,d,rfl,hbB,hd,y0,y1⟩:=(HP.o.below f.o hB).dg hlt;have HD:=ai hd;have hdz:=lJ (c.o.nz d (Z7 hd));have t:Hid (d∉pars.take k):=fun hm=>by
     obtain⟨j,hj,e⟩:=List.getElem_of_mem hm;rw[List.getElem_take]at e;have h1:=List.getElem?_eq_some_iff.1 HD.o;rw[List.length_take]at hj;have:=(List.getElem_inj (h₀:=by omega) (h₁:=h1.1) c.o.nod).1 (e.trans h1.2.symm);omega
    obtain⟨d1,d2⟩:=d;simp only at y0 y1 hdz;obtain⟨wb,hwb⟩:=NX9 (wr.alloc (.cells #[.int .u64 d1,.int .u64 d2] 50))
    have g:U6 wr wb:=by rw[<-hwb];exact(ah _ wr).alloc aj _
    have q:Hid (Bk wb wr.heap.size 50 #[.int .u64 d1,.int .u64 d2]):=by rw[<-hwb];exact Bk.new wr _ _
    have C:wb.heap.size=wr.heap.size+1:=by rw[<-hwb];simp
    have b:U6 w wb:=f.o.trans (g.o.mono (by omega));have x:Hid (∀Z,U0 wb Z->Calls Tryz.prog 310 #[.slice (some ⟨bb,off,none⟩) k pc,.agg #[.int .u64 d1,.int .u64 d2]] Z fun e w'=>e= .returned (.bool false)/\U0 Z w'):=fun Z hZ=>by
     have hs:Sl Z B 2 (some ⟨bb,off,none⟩) k (flat dgC (pars.take k)):=by
      have h1:=(HP.o.below b.o hB).below hZ (by have:=b.o.size;omega);refine⟨by rw[gZ ig,List.length_take,HL.o];rw[Nat.min_eq_left (by omega)],fun h0=>?_⟩;obtain⟨b',o',e1,e2,e3⟩:=h1.2 (by omega);refine⟨b',o',e1,e2,fun j u hu=>e3 j u ?_⟩;rw[rO ig]at hu;have hjl:=(List.getElem?_eq_some_iff.1 hu).1;rw[List.getElem?_take,if_pos (by rw[List.length_take]at hjl;omega)]at hu;exact hu
     have h:=Az (some ⟨bb,off,none⟩) k pc B (pars.take k) (d1,d2) Z hs (by have:=hZ.size;have:=b.o.size;omega) (by omega);rw[decide_eq_false t.o]at h;exact h
    have b0:=q.o.cell 0;have b1:=q.o.cell 1;simp at b0 b1;have e5:=(HK.o.below (hbw.o.trans (g.o.mono m)) A).nine.2.2.2.2.2.1;have hsl:∀Z:UW,(Instr.sliceAt 47 (.slice (some ⟨bb,off,none⟩) n pc) none (some (.int .i64 k)) none).run Tryz.prog Z= .ok (.slice (some ⟨bb,off,none⟩) k pc) Z:=fun Z=>by
     obtain⟨i0,hi0,_⟩:=info_parts lM;exact qU 47 i0 Tryz.underlying47 hi0 _ n pc k (by omega) Z
    have y:=ai hwb;clear hd hwb
    go_upto_region 10 with fail
    rw[y.o];refine lV 5 (24::25::26::27::28:: []) (by kernel_rfl) (by kernel_rfl) (by kernel_rfl) (fun W=>U0 wb W) (fun W W'=>U0 W W')
     (nX ((.pointer (some ⟨w.heap.size,5,none⟩)):: (.slice (some ⟨bb,off,none⟩) n pc):: (.int .i64 (k:Int)):: (.slice (some ⟨bb,off,none⟩) k pc):: (.agg #[.int .u64 d1,.int .u64 d2]):: [])) (fun W W' h1 h2=>h1.trans (h2.mono h1.size)) (fun i v W W' h _=>h) (ah _ _).drew ?stepC ?tailC
    case stepC =>
     intro i o vs W hi ho hv hR a;obtain⟨v0,v1,v2,v3,v4,rfl⟩:=ls5 hv;simp only[List.zip,List.zipWith,aX,Act.put,List.setIfInBounds_toArray,List.set];have D:=hR.size;have g5:=(hR.cell (p:=⟨w.heap.size,5,none⟩) (by show w.heap.size<_;omega)).trans e5;have g0:=(hR.cell (p:=⟨wr.heap.size,0,none⟩) (by show wr.heap.size<_;omega)).trans b0;have g1:=(hR.cell (p:=⟨wr.heap.size,1,none⟩) (by show wr.heap.size<_;omega)).trans b1
     match i,hi,ho with
     | 0,_,rfl =>
       exact .inl ⟨rfl,aS (v:= .pointer (some ⟨w.heap.size,5,none⟩)) (w':=W) (by go_simp) ⟨ah _ _,fun _=>aT⟩⟩
     | 1,_,rfl =>
       have e0:v0=_:=a ⟨0,.data⟩ (by simp) rfl v0 rfl _ rfl;subst e0;exact .inl ⟨rfl,aS (v:= .slice (some ⟨bb,off,none⟩) n pc) (w':=W) (by go_simp) ⟨ah _ _,fun _=>aT⟩⟩
     | 2,_,rfl =>
       exact .inl ⟨rfl,aS (v:= .int .i64 (k:Int)) (w':=W) (by go_simp) ⟨ah _ _,fun _=>aT⟩⟩
     | 3,_,rfl =>
       have e1:v1=_:=a ⟨1,.data⟩ (by simp) rfl v1 rfl _ rfl;have e2:v2=_:=a ⟨2,.data⟩ (by simp) rfl v2 rfl _ rfl;subst e1 e2;exact .inl ⟨rfl,aS (v:= .slice (some ⟨bb,off,none⟩) k pc) (w':=W) (by go_simp) ⟨ah _ _,fun _=>aT⟩⟩
     | 4,_,rfl =>
       exact .inl ⟨rfl,aS (v:= .agg #[.int .u64 d1,.int .u64 d2]) (w':=W) (by go_simp) ⟨ah _ _,fun _=>aT⟩⟩
     | i+5,hi,_=>exact absurd hi (by omega)
    case tailC =>
     intro vs W hv hR a;obtain⟨v0,v1,v2,v3,v4,rfl⟩:=ls5 hv;simp only[List.zip,List.zipWith,aX,Act.put,List.setIfInBounds_toArray,List.set,List.drop];have e0:v0=_:=a 0 v0 rfl _ rfl;have e1:v1=_:=a 1 v1 rfl _ rfl;have e2:v2=_:=a 2 v2 rfl _ rfl;have e3:v3=_:=a 3 v3 rfl _ rfl;have e4:v4=_:=a 4 v4 rfl _ rfl;subst e0 e1 e2 e3 e4;clear a hv;have r:U6 W0 W:=hbw.o.trans ((g.o.trans (hR.mono (by omega))).mono m);have HR:=ai hR;clear hR
     go_wp2_with (first | (go_at_call 310;refine(x.o _ HR.o).mono ?_;rintro e w3 ⟨rfl,hb3⟩;refine aN ?_))
     refine aH ?_;have HB3:U6 W0 w3:=r.o.trans (hb3.mono r.o.size);clear hb3;go_wp2_with fail;go_roundw
     case rel=>exact⟨k+1,by go_num,hlt,HB3.o⟩
     case measure=>simp[intOf];omega
  . have hlz:¬(k:Int)< (n:Int):=by omega
    go_wp2_with (first | (go_at_call 195;refine(jC auth _ (by unfold maxLen;omega)).mono ?_;rintro e w1 ⟨rfl,rfl⟩;rw[l]))
    go_ret
    exact⟨rfl,f.o⟩
theorem NoC.flds{o:Ob}(h:NoC o):o.tree= (0,0)/\o.pars.length=0/\o.auth= ⟨#[]⟩/\o.time=0/\o.msg= ⟨#[]⟩:=⟨h.tree,by rw[h.pars];rfl,h.auth,h.time,h.msg⟩
theorem JS(o:Ob)(s:Osl)(B:Nat)(w:UW)(hm:ObM w B o s)(hB:B<=w.heap.size)(hf:OkF o) :
  Calls Tryz.prog 204 #[obV o s] w fun e w'=>e= .returned (.int .i64 0)/\U0 w w':=by
 obtain⟨W0,hW⟩:=NX9 (w.alloc (.cells (obC o s) 109))
 have HB0:U6 w W0:=by rw[<-hW];exact(ah _ w).alloc aj _
 have HK:Hid (Bk W0 w.heap.size 109 (obC o s)):=by rw[<-hW];exact Bk.new w _ _
 have hm0:=hm.below (HB0.o.mono hB) aj;have hel:=hm.elen;have hpl:=hm.plen;cases hf with
 | blob k e c d =>
   obtain⟨h1,h2,h3,h4,h5⟩:=c.flds;have he0:s.en=0:=by rw[<-hel,e];rfl
   have hp0:s.pn=0:=by rw[<-hpl];exact h2
   obtain⟨kind,data,ents,tree,a,b,time,msg⟩:=o;obtain⟨eA,en,ec,pA,n,pc⟩:=s;simp only at h1 h3 h4 h5 he0 hp0 k;subst h1 h3 h4 h5 he0 hp0;simp only[obV,obC]at hW HK ⊢;obtain⟨c0,c1,c2,c3,c4,c5,c6,c7,c8⟩:=HK.o.nine;clear hm hm0 hel hpl e c d h2;rcases k with rfl | rfl
   all_goals
    go_enter Tryz.func204,Tryz.ntmps204
    go_wp2
    go_ret
    exact⟨rfl,HB0.o⟩
 | tree k d c e =>
   obtain⟨h1,h2,h3,h4,h5⟩:=c.flds;have hp0:s.pn=0:=by rw[<-hpl];exact h2
   have HE:=ai (JC s.eA s.en s.ec B o.ents W0 hm0.e (by have:=HB0.o.size;omega) e);obtain⟨kind,data,ents,tree,a,b,time,msg⟩:=o;obtain⟨eA,en,ec,pA,n,pc⟩:=s;simp only at h1 h3 h4 h5 hp0 k d HE;subst h1 h3 h4 h5 hp0 k d;simp only[obV,obC]at hW HK ⊢;obtain⟨c0,c1,c2,c3,c4,c5,c6,c7,c8⟩:=HK.o.nine;clear hm hm0 hel hpl e c h2
   go_enter Tryz.func204,Tryz.ntmps204
   go_wp2_with (first | (go_at_call 264;refine HE.o.mono ?_;rintro e w1 ⟨rfl,hb⟩))
   all_goals
    go_ret
    exact⟨rfl,HB0.o.trans (hb.mono HB0.o.size)⟩
 | commit k d e c =>
   have he0:s.en=0:=by rw[<-hel,e];rfl
   have HC:=ai (Kq o s B W0 hm0 (by have:=HB0.o.size;omega) c);have htz:=lJ c.nz;obtain⟨kind,data,ents,⟨t1,t2⟩,a,b,time,msg⟩:=o;obtain⟨eA,en,ec,pA,n,pc⟩:=s;simp only at he0 k d htz;subst he0 k d;simp only[obV,obC]at hW HK HC ⊢;obtain⟨c0,c1,c2,c3,c4,c5,c6,c7,c8⟩:=HK.o.nine;clear hm hm0 hel hpl e c
   go_enter Tryz.func204,Tryz.ntmps204
   go_wp2_with (first | (go_at_call 265;refine HC.o.mono ?_;rintro e w1 ⟨rfl,hb⟩))
   all_goals
    go_ret
    exact⟨rfl,HB0.o.trans (hb.mono HB0.o.size)⟩
def dU(x y:Int):Int:=if x<y then -1 else if y<x then 1 else 0
def orI:List Int->Int
 | []=>0
 | a::r=>if a=0 then orI r else a
theorem F5(a b:Dig)(h:a≠b):dC a b=orI [dU a.1 b.1,dU a.2 b.2]:=by
 unfold dC;rw[if_neg h];obtain⟨a1,a2⟩:=a;obtain⟨b1,b2⟩:=b;rw[ne_eq,Prod.mk.injEq]at h;simp only[orI,dU,ltD]
 repeat' split
 all_goals first | rfl | omega
theorem CG(x:Int)(w:UW):Calls Tryz.prog 193 #[.int .u64 x] w fun e w'=>e= .returned (.bool false)/\w=w':=by
 go_enter Tryz.func193,Tryz.ntmps193
 have h: (x != x)=false:=by simp
 go_wp2
 go_ret
 exact⟨rfl,rfl⟩
theorem rU(x y:Int)(w:UW):Calls Tryz.prog 117 #[.int .u64 x,.int .u64 y] w fun e w'=>e= .returned (.int .i64 (dU x y))/\w=w':=by
 have H1:=ai (CG x w);have H2:=ai (CG y w);obtain⟨z,hz⟩:=NX9 (dU x y)
 have HZ:=ai hz;clear hz;rw[HZ.o]
 go_enter Tryz.func117,Tryz.ntmps117
 go_wp2_with fail;refine H1.o.mono ?_;rintro e w1 ⟨rfl,rfl⟩;go_wp2_with fail;refine H2.o.mono ?_;rintro e w1 ⟨rfl,rfl⟩;by_cases h:x<y
 . have hz:Hid (z= -1):=by show _=_;rw[<-HZ.o];exact if_pos h
   go_wp2_with fail;go_ret
   exact⟨by rw[hz.o];rfl,rfl⟩
 . by_cases g:y<x
   . have hz:Hid (z=1):=by show _=_;rw[<-HZ.o];unfold dU;rw[if_neg h,if_pos g]
     go_wp2_with fail;go_ret
     exact⟨by rw[hz.o];rfl,rfl⟩
   . have hz:Hid (z=0):=by show _=_;rw[<-HZ.o];unfold dU;rw[if_neg h,if_neg g]
     go_wp2_with fail;go_ret
     exact⟨by rw[hz.o];rfl,rfl⟩
theorem QF(b:Nat)(t:TypeId)(x y:Int)(w:UW)(h:Bk w b t #[.int .i64 x,.int .i64 y]) :
  Calls Tryz.prog 116 #[.slice (some ⟨b,0,none⟩) 2 2] w fun e w'=>e= .returned (.int .i64 (orI [x,y]))/\w=w':=by
 obtain⟨c0,c1,_,_⟩:=h.two;have H:=ai h;clear h
 go_enter Tryz.func116,Tryz.ntmps116
 by_cases hx:x=0
 . have a: (x != 0)=false:=by simp[hx]
   have HX:=ai hx;clear hx;by_cases hy:y=0
   . have hyn: (y != 0)=false:=by simp[hy]
     have c:=ai hy;clear hy;go_wp2_with fail
     go_loopw[8] (fun i wr=>∃k:Nat,k<=2/\i= .int .i64 k/\wr=w) (fun i _=>2 - (intOf i).toNat)
     case atStart=>exact⟨0,by omega,rfl,rfl⟩
     case round =>
      obtain⟨k,hk,rfl,rfl⟩:=hrel;rcases (by omega:k=0∨k=1∨k=2) with rfl | rfl | rfl
      . go_wp2_with fail
        go_roundw
        case rel=>exact⟨1,by omega,by go_num,trivial⟩
        case measure=>simp[intOf]
      . go_wp2_with fail
        go_roundw
        case rel=>exact⟨2,by omega,by go_num,trivial⟩
        case measure=>simp[intOf]
      . go_wp2_with fail
        go_ret
        exact⟨by rw[HX.o,c.o];rfl,rfl⟩
   . have hyn: (y != 0)=true:=by simp[hy]
     have HE:Hid (orI [x,y]=y):=by show _=_;simp only[orI,HX.o,if_true];split <;> simp_all
     clear hy;go_wp2_with fail
     go_loopw[8] (fun i wr=>∃k:Nat,k<=1/\i= .int .i64 k/\wr=w) (fun i _=>2 - (intOf i).toNat)
     case atStart=>exact⟨0,by omega,rfl,rfl⟩
     case round =>
      obtain⟨k,hk,rfl,rfl⟩:=hrel;rcases (by omega:k=0∨k=1) with rfl | rfl
      . go_wp2_with fail
        go_roundw
        case rel=>exact⟨1,by omega,by go_num,trivial⟩
        case measure=>simp[intOf]
      . go_wp2_with fail
        go_ret
        exact⟨by rw[HE.o];rfl,rfl⟩
 . have a: (x != 0)=true:=by simp[hx]
   have HE:Hid (orI [x,y]=x):=by show _=_;simp[orI,hx]
   clear hx;go_wp2_with fail
   go_loopw[8] (fun i wr=>i= .int .i64 0/\wr=w) (fun i _=>0)
   case atStart=>exact⟨rfl,rfl⟩
   case round =>
    obtain⟨rfl,rfl⟩:=hrel;go_wp2_with fail;go_ret
    exact⟨by rw[HE.o];rfl,rfl⟩
def SlP(a1 a2 b1 b2:Int)(v:UY)(W:UW):Prop:=∃b0,v= .slice (some ⟨b0,0,none⟩) 2 2/\Bk W b0 3 #[.int .i64 (dU a1 b1),.int .i64 (dU a2 b2)]
def CmE(a b:Dig)(w:UW)(e:Ending)(w':UW):Prop:=e= .returned (.int .i64 (dC a b))/\U0 w w'
def CmG(a b:Dig)(w:UW)(e:Ending)(w':UW):Prop:=e= .returned (.int .i64 (dC a b))/\Gro w w'
theorem Di(a b:Dig)(w:UW):Calls Tryz.prog 55 #[aA a,aA b] w (CmG a b w):=by
 obtain⟨a1,a2⟩:=a;obtain⟨b1,b2⟩:=b;obtain⟨z,hz⟩:=NX9 (dC (a1,a2) (b1,b2))
 have HZ:=ai hz;have HN:Hid (((a1,a2):Dig)≠ (b1,b2)->z=orI [dU a1 b1,dU a2 b2]):=fun h=>by rw[<-hz];exact F5 _ _ h
 clear hz;unfold CmG;rw[HZ.o];have HD:Hid ((a1 == b1 && a2 == b2)=decide (((a1,a2):Dig)= (b1,b2))):=by
  show _=_;rw[Bool.eq_iff_iff];simp
 simp only[aA];obtain⟨d,hW⟩:=NX9 ((w.alloc (.cells #[.int .u64 a1,.int .u64 a2] 50)).alloc (.cells #[.int .u64 b1,.int .u64 b2] 50))
 have HA:Hid (Bk d w.heap.size 50 #[.int .u64 a1,.int .u64 a2]):=by rw[<-hW];exact(Bk.new w _ _).alloc _
 have HB:Hid (Bk d (w.heap.size+1) 50 #[.int .u64 b1,.int .u64 b2]):=by
  rw[<-hW];have:=Bk.new (w.alloc (.cells #[.int .u64 a1,.int .u64 a2] 50)) 50 #[.int .u64 b1,.int .u64 b2];rw[Z9]at this;exact this
 have HL:Hid (Gro w d):=by rw[<-hW];exact((Gro.refl w).alloc _).alloc _
 have k:w.heap.size+2=d.heap.size:=by rw[<-hW];simp
 obtain⟨c0,c1,_,_⟩:=HA.o.two;obtain⟨c2,c3,_,_⟩:=HB.o.two;have g:=ai (fun w=>rU a1 b1 w);have HC2:=ai (fun w=>rU a2 b2 w);by_cases h: ((a1,a2):Dig)= (b1,b2)
 . have hd:=HD.o
   rw[decide_eq_true h]at hd;have H0:Hid (z=0):=by show _=_;rw[<-HZ.o];exact(rM _ _).2 h
   clear h
   go_enter Tryz.func55,Tryz.ntmps55
   go_wp2_with fail;go_ret
   exact⟨by rw[H0.o];rfl,HL.o⟩
 . have hd:=HD.o
   rw[decide_eq_false h]at hd;have H0:Hid (z=orI [dU a1 b1,dU a2 b2]):=HN.o h;clear h
   go_enter Tryz.func55,Tryz.ntmps55
   go_wp2_with fail;have j:Hid (∀x∈ [(10,SlP a1 a2 b1 b2)],∀v W W',x.2 v W->U0 W W'->x.2 v W'):=fun x hx v W W' h hb=>by
    simp only[ae]at hx;subst hx;obtain⟨b0,h1,h2⟩:=h;exact⟨b0,h1,h2.below hb h2.lt⟩
   have k0:=c0;have k1:=c1;have k2:=c2;have k3:=c3;refine lV 12 (8::9::10::11::12::13::14::15::16::17::18::19:: []) (by kernel_rfl) (by kernel_rfl) (by kernel_rfl) (fun W=>Gro d W) (fun W W'=>Gro W W')
    (qK [(10,SlP a1 a2 b1 b2)] ((.pointer (some ⟨w.heap.size,0,none⟩)):: (.int .u64 a1):: (.pointer (some ⟨w.heap.size+1,0,none⟩)):: (.int .u64 b1):: (.int .i64 (dU a1 b1)):: (.pointer (some ⟨w.heap.size,1,none⟩)):: (.int .u64 a2):: (.pointer (some ⟨w.heap.size+1,1,none⟩)):: (.int .u64 b2):: (.int .i64 (dU a2 b2)):: (undef):: (.int .i64 (orI [dU a1 b1,dU a2 b2])):: [])) (fun W W' h1 h2=>h1.trans h2) (fun i v W W' h hb=>DI j.o i v W W' h hb.bel) (Gro.refl _).drew ?stepA ?tailA
   case stepA =>
    intro i o vs W hi ho hv hR c;obtain⟨v0,v1,v2,v3,v4,v5,v6,v7,v8,v9,v10,v11,rfl⟩:=Jb hv;simp only[List.zip,List.zipWith,aX,Act.put,List.setIfInBounds_toArray,List.set];have l:=hR.bel.size;have c0:=(hR.bel.cell (p:=⟨w.heap.size,0,none⟩) (by show w.heap.size<_;omega)).trans k0;have c1:=(hR.bel.cell (p:=⟨w.heap.size,1,none⟩) (by show w.heap.size<_;omega)).trans k1;have c2:=(hR.bel.cell (p:=⟨w.heap.size+1,0,none⟩) (by show w.heap.size+1<_;omega)).trans k2;have c3:=(hR.bel.cell (p:=⟨w.heap.size+1,1,none⟩) (by show w.heap.size+1<_;omega)).trans k3
    match i,hi,ho with
    | 0,_,rfl =>
      exact .inl ⟨rfl,aS (v:= .pointer (some ⟨w.heap.size,0,none⟩)) (w':=W) (by go_simp) ⟨Gro.refl _,fun _=>aT⟩⟩
    | 1,_,rfl =>
      have e0:v0=_:=c ⟨0,.data⟩ (by simp) rfl v0 rfl _ rfl;subst e0;exact .inl ⟨rfl,aS (v:= .int .u64 a1) (w':=W) (by go_simp) ⟨Gro.refl _,fun _=>aT⟩⟩
    | 2,_,rfl =>
      exact .inl ⟨rfl,aS (v:= .pointer (some ⟨w.heap.size+1,0,none⟩)) (w':=W) (by go_simp) ⟨Gro.refl _,fun _=>aT⟩⟩
    | 3,_,rfl =>
      have e2:v2=_:=c ⟨2,.data⟩ (by simp) rfl v2 rfl _ rfl;subst e2;exact .inl ⟨rfl,aS (v:= .int .u64 b1) (w':=W) (by go_simp) ⟨Gro.refl _,fun _=>aT⟩⟩
    | 4,_,rfl =>
      have e1:v1=_:=c ⟨1,.data⟩ (by simp) rfl v1 rfl _ rfl;have e3:v3=_:=c ⟨3,.data⟩ (by simp) rfl v3 rfl _ rfl;subst e1 e3;refine .inl ⟨rfl,mi (f:=117) (args:=#[.int .u64 a1,.int .u64 b1]) (by go_simp) ((g.o W).mono ?_)⟩;rintro e W' ⟨rfl,rfl⟩;exact⟨_,rfl,Gro.refl _,fun _=>aT⟩
    | 5,_,rfl =>
      exact .inl ⟨rfl,aS (v:= .pointer (some ⟨w.heap.size,1,none⟩)) (w':=W) (by go_simp) ⟨Gro.refl _,fun _=>aT⟩⟩
    | 6,_,rfl =>
      have e5:v5=_:=c ⟨5,.data⟩ (by simp) rfl v5 rfl _ rfl;subst e5;exact .inl ⟨rfl,aS (v:= .int .u64 a2) (w':=W) (by go_simp) ⟨Gro.refl _,fun _=>aT⟩⟩
    | 7,_,rfl =>
      exact .inl ⟨rfl,aS (v:= .pointer (some ⟨w.heap.size+1,1,none⟩)) (w':=W) (by go_simp) ⟨Gro.refl _,fun _=>aT⟩⟩
    | 8,_,rfl =>
      have e7:v7=_:=c ⟨7,.data⟩ (by simp) rfl v7 rfl _ rfl;subst e7;exact .inl ⟨rfl,aS (v:= .int .u64 b2) (w':=W) (by go_simp) ⟨Gro.refl _,fun _=>aT⟩⟩
    | 9,_,rfl =>
      have e6:v6=_:=c ⟨6,.data⟩ (by simp) rfl v6 rfl _ rfl;have e8:v8=_:=c ⟨8,.data⟩ (by simp) rfl v8 rfl _ rfl;subst e6 e8;refine .inl ⟨rfl,mi (f:=117) (args:=#[.int .u64 a2,.int .u64 b2]) (by go_simp) ((HC2.o W).mono ?_)⟩;rintro e W' ⟨rfl,rfl⟩;exact⟨_,rfl,Gro.refl _,fun _=>aT⟩
    | 10,_,rfl =>
      have e4:v4=_:=c ⟨4,.data⟩ (by simp) rfl v4 rfl _ rfl;have e9:v9=_:=c ⟨9,.data⟩ (by simp) rfl v9 rfl _ rfl;subst e4 e9;exact .inl ⟨rfl,aS (v:= .slice (some ⟨W.heap.size,0,none⟩) 2 2) (w':=W.alloc (.cells #[.int .i64 (dU a1 b1),.int .i64 (dU a2 b2)] 3)) (by go_simp) ⟨(Gro.refl W).alloc _,W.heap.size,rfl,Bk.new W _ _⟩⟩
    | 11,_,rfl =>
      obtain⟨b0,rfl,hbk⟩: (SlP a1 a2 b1 b2) v10 W:=c ⟨10,.data⟩ (by simp) rfl v10 rfl;refine .inl ⟨rfl,mi (f:=116) (args:=#[.slice (some ⟨b0,0,none⟩) 2 2]) (by go_simp) ((QF b0 3 _ _ W hbk).mono ?_)⟩;rintro e W' ⟨rfl,rfl⟩;exact⟨_,rfl,Gro.refl _,fun _=>aT⟩
    | i+12,hi,_=>exact absurd hi (by omega)
   case tailA =>
    intro vs W hv hR c;obtain⟨v0,v1,v2,v3,v4,v5,v6,v7,v8,v9,v10,v11,rfl⟩:=Jb hv;simp only[List.zip,List.zipWith,aX,Act.put,List.setIfInBounds_toArray,List.set,List.drop];have e0:v0=_:=c 0 v0 rfl _ rfl;have e1:v1=_:=c 1 v1 rfl _ rfl;have e2:v2=_:=c 2 v2 rfl _ rfl;have e3:v3=_:=c 3 v3 rfl _ rfl;have e4:v4=_:=c 4 v4 rfl _ rfl;have e5:v5=_:=c 5 v5 rfl _ rfl;have e6:v6=_:=c 6 v6 rfl _ rfl;have e7:v7=_:=c 7 v7 rfl _ rfl;have e8:v8=_:=c 8 v8 rfl _ rfl;have e9:v9=_:=c 9 v9 rfl _ rfl;have e10: (SlP a1 a2 b1 b2) v10 W:=c 10 v10 rfl;have e11:v11=_:=c 11 v11 rfl _ rfl;subst e0 e1 e2 e3 e4 e5 e6 e7 e8 e9 e11;clear c hv;obtain⟨b0,rfl,_⟩:=e10;go_wp2_with fail;go_ret
    exact⟨by rw[H0.o];rfl,HL.o.trans hR⟩
theorem wS(a b:Dig)(w:UW):Calls Tryz.prog 55 #[aA a,aA b] w (CmE a b w):=(Di a b w).mono fun _ _ h=>⟨h.1,h.2.bel⟩
def itC(i:Itm):List UY:= [.int .u64 i.1.1,.int .u64 i.1.2,.string i.2]
def itV(i:Itm):UY:= .agg #[.int .u64 i.1.1,.int .u64 i.1.2,.string i.2]
theorem di(i:Itm): (itC i).length=3:=rfl
theorem Sl.it{w:UW}{B n k:Nat}{A:OA}{l:List Itm}(h:Sl w B 3 A n (flat itC l))(hk:k<n) :
  ∃b off i,A=some ⟨b,off,none⟩/\b<B/\l[k]? =some i/\w.cell? ⟨b,off+k*3,none⟩=some (.int .u64 i.1.1)/\w.cell? ⟨b,off+k*3+1,none⟩=some (.int .u64 i.1.2)/\w.cell? ⟨b,off+k*3+2,none⟩=some (.string i.2):=by
 obtain⟨b,off,x,e,hb,hx,hc⟩:=h.at_ di (by omega) hk;exact⟨b,off,x,e,hb,hx,hc 0 _ rfl,hc 1 _ rfl,hc 2 _ rfl⟩
theorem Bk.three{w:UW}{b:Nat}{t:TypeId}{x y z:UY}(h:Bk w b t #[x,y,z]):w.cell? ⟨b,0,none⟩=some x/\w.cell? ⟨b,1,none⟩=some y/\w.cell? ⟨b,2,none⟩=some z:=by
 have c0:=h.cell 0;have c1:=h.cell 1;have c2:=h.cell 2;simp at c0 c1 c2;exact⟨c0,c1,c2⟩
theorem Dv(i:Itm)(d:Dig)(w:UW):Calls Tryz.prog 182 #[itV i,aA d] w (CmE i.1 d w):=by
 obtain⟨⟨i1,i2⟩,s⟩:=i;obtain⟨d1,d2⟩:=d;obtain⟨z,hz⟩:=NX9 (dC (i1,i2) (d1,d2))
 obtain⟨W,hW⟩:=NX9 ((w.alloc (.cells #[.int .u64 i1,.int .u64 i2,.string s] 118)).alloc (.cells #[.int .u64 d1,.int .u64 d2] 50))
 have HA:Hid (Bk W w.heap.size 118 #[.int .u64 i1,.int .u64 i2,.string s]):=by rw[<-hW];exact(Bk.new w _ _).alloc _
 have HB:Hid (Bk W (w.heap.size+1) 50 #[.int .u64 d1,.int .u64 d2]):=by
  rw[<-hW];have:=Bk.new (w.alloc (.cells #[.int .u64 i1,.int .u64 i2,.string s] 118)) 50 #[.int .u64 d1,.int .u64 d2];rw[Z9]at this;exact this
 have HL:U6 w W:=by rw[<-hW];exact((ah _ w).alloc aj _).alloc (by simp) _
 have a:w.heap.size<=W.heap.size:=HL.o.size;have HC:=ai (wS (i1,i2) (d1,d2) W);unfold CmE at HC ⊢;simp only;rw[hz]at HC ⊢;simp only[aA,itV]at HC ⊢;clear hz;obtain⟨c0,c1,_⟩:=HA.o.three;obtain⟨c2,c3,_,_⟩:=HB.o.two
 go_enter Tryz.func182,Tryz.ntmps182
 go_wp2_with fail;refine HC.o.mono ?_;rintro e w2 ⟨rfl,hb⟩;go_wp2_with fail;go_ret
 exact⟨rfl,HL.o.trans (hb.mono a)⟩
theorem O1{p:List Itm}{d:Dig}{i:Itm}(h:p[atD p d]? =some i): (bM p d).isSome=decide (dC i.1 d=0):=by
 unfold bM;rw[h];simp only;by_cases e:i.1=d
 . rw[if_pos e,decide_eq_true ((rM _ _).2 e)];rfl
 . rw[if_neg e,decide_eq_false (fun h=>e ((rM _ _).1 h))];rfl
theorem Nb{p:List Itm}{d:Dig}(h:p.length<=atD p d): (bM p d).isSome=false:=by
 unfold bM;rw[List.getElem?_eq_none h];rfl
def BsE(p:List Itm)(d:Dig)(w:UW)(e:Ending)(w':UW):Prop:=e= .returned (.tuple #[.int .i64 (atD p d:Nat),.bool (bM p d).isSome])/\U0 w w'
theorem RH(A:OA)(n c B:Nat)(p:List Itm)(d:Dig)(w:UW)(h0:Sl w B 3 A n (flat itC p))(hB:B<=w.heap.size)(hn:n<=1000000)(ha:AscI p) :
  Calls Tryz.prog 181 #[.slice A n c,aA d,.func (.func 182) #[] #[]] w (BsE p d w):=by
 have HL:=ai (h0.len di (by omega));have H0:=ai h0;have HA:=ai ha;clear h0 ha;obtain⟨d1,d2⟩:=d;obtain⟨m,hm⟩:=NX9 (atD p (d1,d2))
 have hmn:m<=n:=by rw[<-hm,<-HL.o];exact Hf _ _
 have HM:=ai hm;obtain⟨q,hq⟩:=NX9 ((bM p (d1,d2)).isSome)
 have HQ:=ai hq;unfold BsE;rw[hm,hq];clear hm hq;obtain⟨W,hW⟩:=NX9 (w.alloc (.cells #[.int .u64 d1,.int .u64 d2] 50))
 have HB0:U6 w W:=by rw[<-hW];exact(ah _ w).alloc aj _
 have HK:Hid (Bk W w.heap.size 50 #[.int .u64 d1,.int .u64 d2]):=by rw[<-hW];exact Bk.new w _ _
 have r:w.heap.size<W.heap.size:=HK.o.lt;simp only[aA]
 go_enter Tryz.func181,Tryz.ntmps181
 go_wp2_with fail;clear hW
 go_loopw[9,10] (fun i j wr=>∃a b:Nat,i= .int .i64 (a:Int)/\j= .int .i64 (b:Int)/\a<=m/\m<=b/\b<=n/\U6 W wr) (fun i j _=>(intOf j).toNat - (intOf i).toNat)
 case atStart=>exact⟨0,n,rfl,rfl,ZX _,hmn,Nat.le_refl _,ah _ _⟩
 case round =>
  obtain⟨a,b,rfl,rfl,ham,hmb,hbn,hBel⟩:=hrel;have l:U6 w wr:=HB0.o.trans (hBel.o.mono HB0.o.size);obtain⟨x0,x1,_,_⟩:=(HK.o.below hBel.o r).two;by_cases hlt:a<b
  . have hlz: (a:Int)< (b:Int):=by omega
    obtain⟨h,hh⟩:=NX9 ((a+b) / 2)
    have hah:a<=h:=by omega
    have hhb:h<b:=by omega
    obtain⟨bb,off,i,rfl,hbB,hx,y0,y1,y2⟩:=(H0.o.below l.o hB).it (k:=h) (by omega);have HX:=ai hx;clear hx;obtain⟨⟨i1,i2⟩,s⟩:=i;simp only at y0 y1 y2;obtain⟨z,hz⟩:=NX9 (dC (i1,i2) (d1,d2))
    have HZ:=ai hz;have HC2:Hid (∀w,Calls Tryz.prog 182 #[.agg #[.int .u64 i1,.int .u64 i2,.string s],.agg #[.int .u64 d1,.int .u64 d2]] w fun e w'=>e= .returned (.int .i64 z)/\U0 w w'):=fun w=>by
     have:=Dv ((i1,i2),s) (d1,d2) w;unfold CmE at this;simp only[hz]at this;exact this
    have hh': ((a:Int)+ (b:Int)) / 2= (h:Int):=by omega
    have t:w.heap.size<wr.heap.size:=Nat.lt_of_lt_of_le r hBel.o.size;have hhn:h<n:=by omega
    clear hz;by_cases hl:ltD (i1,i2) (d1,d2)
    . have hzn:z<0:=by rw[<-HZ.o];exact(yl _ _).2 hl
      have hhm:h<m:=by
       rcases Nat.lt_or_ge h m with h1 | h1
       . exact h1
       . exact absurd hl (Dn HA.o HX.o (by rw[HM.o];exact h1))
      clear hl;go_wp2_with fail;have k0:=y0;have k1:=y1;have k2:=y2;have g0:=x0;have g1:=x1;refine lV 7 (24::25::26::27::28::29::30:: []) (by kernel_rfl) (by kernel_rfl) (by kernel_rfl) (fun W=>U0 wr W) (fun W W'=>U0 W W')
       (nX ((.func (.func 182) #[] #[]):: (.slice (some ⟨bb,off,none⟩) n c):: (.int .i64 h):: (.pointer (some ⟨bb,off+h*3,none⟩)):: (.agg #[.int .u64 i1,.int .u64 i2,.string s]):: (.agg #[.int .u64 d1,.int .u64 d2]):: (.int .i64 z):: [])) (fun W W' h1 h2=>h1.trans (h2.mono h1.size)) (fun i v W W' h _=>h) (ah _ _).drew ?stepA ?tailA
      case stepA =>
       intro i o vs W hi ho hv hR g;obtain⟨v0,v1,v2,v3,v4,v5,v6,rfl⟩:=ls7 hv;simp only[List.zip,List.zipWith,aX,Act.put,List.setIfInBounds_toArray,List.set];have u:=hR.size;have y0:=(hR.cell (p:=⟨bb,off+h*3,none⟩) (by show bb<_;omega)).trans k0;have y1:=(hR.cell (p:=⟨bb,off+h*3+1,none⟩) (by show bb<_;omega)).trans k1;have y2:=(hR.cell (p:=⟨bb,off+h*3+2,none⟩) (by show bb<_;omega)).trans k2;have x0:=(hR.cell (p:=⟨w.heap.size,0,none⟩) (by show w.heap.size<_;omega)).trans g0;have x1:=(hR.cell (p:=⟨w.heap.size,1,none⟩) (by show w.heap.size<_;omega)).trans g1
       match i,hi,ho with
       | 0,_,rfl =>
         exact .inl ⟨rfl,aS (v:= .func (.func 182) #[] #[]) (w':=W) (by go_simp) ⟨ah _ _,fun _=>aT⟩⟩
       | 1,_,rfl =>
         exact .inl ⟨rfl,aS (v:= .slice (some ⟨bb,off,none⟩) n c) (w':=W) (by go_simp) ⟨ah _ _,fun _=>aT⟩⟩
       | 2,_,rfl =>
         exact .inl ⟨rfl,aS (v:= .int .i64 h) (w':=W) (by go_simp) ⟨ah _ _,fun _=>aT⟩⟩
       | 3,_,rfl =>
         have e1:v1=_:=g ⟨1,.data⟩ (by simp) rfl v1 rfl _ rfl;have e2:v2=_:=g ⟨2,.data⟩ (by simp) rfl v2 rfl _ rfl;subst e1 e2;exact .inl ⟨rfl,aS (v:= .pointer (some ⟨bb,off+h*3,none⟩)) (w':=W) (by go_simp) ⟨ah _ _,fun _=>aT⟩⟩
       | 4,_,rfl =>
         have e3:v3=_:=g ⟨3,.data⟩ (by simp) rfl v3 rfl _ rfl;subst e3;exact .inl ⟨rfl,aS (v:= .agg #[.int .u64 i1,.int .u64 i2,.string s]) (w':=W) (by go_simp) ⟨ah _ _,fun _=>aT⟩⟩
       | 5,_,rfl =>
         exact .inl ⟨rfl,aS (v:= .agg #[.int .u64 d1,.int .u64 d2]) (w':=W) (by go_simp) ⟨ah _ _,fun _=>aT⟩⟩
       | 6,_,rfl =>
         have e0:v0=_:=g ⟨0,.data⟩ (by simp) rfl v0 rfl _ rfl;have e4:v4=_:=g ⟨4,.data⟩ (by simp) rfl v4 rfl _ rfl;have e5:v5=_:=g ⟨5,.data⟩ (by simp) rfl v5 rfl _ rfl;subst e0 e4 e5;refine .inl ⟨rfl,mi (f:=182) (args:=#[.agg #[.int .u64 i1,.int .u64 i2,.string s],.agg #[.int .u64 d1,.int .u64 d2]]) (by go_simp) ((HC2.o W).mono ?_)⟩;rintro e W' ⟨rfl,hb⟩;exact⟨_,rfl,hb,fun _=>aT⟩
       | i+7,hi,_=>exact absurd hi (by omega)
      case tailA =>
       intro vs W hv hR g;obtain⟨v0,v1,v2,v3,v4,v5,v6,rfl⟩:=ls7 hv;simp only[List.zip,List.zipWith,aX,Act.put,List.setIfInBounds_toArray,List.set,List.drop];have e0:v0=_:=g 0 v0 rfl _ rfl;have e1:v1=_:=g 1 v1 rfl _ rfl;have e2:v2=_:=g 2 v2 rfl _ rfl;have e3:v3=_:=g 3 v3 rfl _ rfl;have e4:v4=_:=g 4 v4 rfl _ rfl;have e5:v5=_:=g 5 v5 rfl _ rfl;have e6:v6=_:=g 6 v6 rfl _ rfl;subst e0 e1 e2 e3 e4 e5 e6;clear g hv;go_wp2_with fail;go_roundw
       case rel=>exact⟨h+1,b,by go_num,rfl,by omega,hmb,hbn,hBel.o.trans (hR.mono hBel.o.size)⟩
       case measure=>simp[intOf];omega
    . have hzn:¬z<0:=by rw[<-HZ.o];exact fun h=>hl ((yl _ _).1 h)
      have hhm:m<=h:=by
       rcases Nat.lt_or_ge h m with h1 | h1
       . exact absurd (Du HA.o HX.o (by rw[HM.o];exact h1)) hl
       . exact h1
      clear hl;go_wp2_with fail;have k0:=y0;have k1:=y1;have k2:=y2;have g0:=x0;have g1:=x1;refine lV 7 (24::25::26::27::28::29::30:: []) (by kernel_rfl) (by kernel_rfl) (by kernel_rfl) (fun W=>U0 wr W) (fun W W'=>U0 W W')
       (nX ((.func (.func 182) #[] #[]):: (.slice (some ⟨bb,off,none⟩) n c):: (.int .i64 h):: (.pointer (some ⟨bb,off+h*3,none⟩)):: (.agg #[.int .u64 i1,.int .u64 i2,.string s]):: (.agg #[.int .u64 d1,.int .u64 d2]):: (.int .i64 z):: [])) (fun W W' h1 h2=>h1.trans (h2.mono h1.size)) (fun i v W W' h _=>h) (ah _ _).drew ?stepB ?tailB
      case stepB =>
       intro i o vs W hi ho hv hR g;obtain⟨v0,v1,v2,v3,v4,v5,v6,rfl⟩:=ls7 hv;simp only[List.zip,List.zipWith,aX,Act.put,List.setIfInBounds_toArray,List.set];have u:=hR.size;have y0:=(hR.cell (p:=⟨bb,off+h*3,none⟩) (by show bb<_;omega)).trans k0;have y1:=(hR.cell (p:=⟨bb,off+h*3+1,none⟩) (by show bb<_;omega)).trans k1;have y2:=(hR.cell (p:=⟨bb,off+h*3+2,none⟩) (by show bb<_;omega)).trans k2;have x0:=(hR.cell (p:=⟨w.heap.size,0,none⟩) (by show w.heap.size<_;omega)).trans g0;have x1:=(hR.cell (p:=⟨w.heap.size,1,none⟩) (by show w.heap.size<_;omega)).trans g1
       match i,hi,ho with
       | 0,_,rfl =>
         exact .inl ⟨rfl,aS (v:= .func (.func 182) #[] #[]) (w':=W) (by go_simp) ⟨ah _ _,fun _=>aT⟩⟩
       | 1,_,rfl =>
         exact .inl ⟨rfl,aS (v:= .slice (some ⟨bb,off,none⟩) n c) (w':=W) (by go_simp) ⟨ah _ _,fun _=>aT⟩⟩
       | 2,_,rfl =>
         exact .inl ⟨rfl,aS (v:= .int .i64 h) (w':=W) (by go_simp) ⟨ah _ _,fun _=>aT⟩⟩
       | 3,_,rfl =>
         have e1:v1=_:=g ⟨1,.data⟩ (by simp) rfl v1 rfl _ rfl;have e2:v2=_:=g ⟨2,.data⟩ (by simp) rfl v2 rfl _ rfl;subst e1 e2;exact .inl ⟨rfl,aS (v:= .pointer (some ⟨bb,off+h*3,none⟩)) (w':=W) (by go_simp) ⟨ah _ _,fun _=>aT⟩⟩
       | 4,_,rfl =>
         have e3:v3=_:=g ⟨3,.data⟩ (by simp) rfl v3 rfl _ rfl;subst e3;exact .inl ⟨rfl,aS (v:= .agg #[.int .u64 i1,.int .u64 i2,.string s]) (w':=W) (by go_simp) ⟨ah _ _,fun _=>aT⟩⟩
       | 5,_,rfl =>
         exact .inl ⟨rfl,aS (v:= .agg #[.int .u64 d1,.int .u64 d2]) (w':=W) (by go_simp) ⟨ah _ _,fun _=>aT⟩⟩
       | 6,_,rfl =>
         have e0:v0=_:=g ⟨0,.data⟩ (by simp) rfl v0 rfl _ rfl;have e4:v4=_:=g ⟨4,.data⟩ (by simp) rfl v4 rfl _ rfl;have e5:v5=_:=g ⟨5,.data⟩ (by simp) rfl v5 rfl _ rfl;subst e0 e4 e5;refine .inl ⟨rfl,mi (f:=182) (args:=#[.agg #[.int .u64 i1,.int .u64 i2,.string s],.agg #[.int .u64 d1,.int .u64 d2]]) (by go_simp) ((HC2.o W).mono ?_)⟩;rintro e W' ⟨rfl,hb⟩;exact⟨_,rfl,hb,fun _=>aT⟩
       | i+7,hi,_=>exact absurd hi (by omega)
      case tailB =>
       intro vs W hv hR g;obtain⟨v0,v1,v2,v3,v4,v5,v6,rfl⟩:=ls7 hv;simp only[List.zip,List.zipWith,aX,Act.put,List.setIfInBounds_toArray,List.set,List.drop];have e0:v0=_:=g 0 v0 rfl _ rfl;have e1:v1=_:=g 1 v1 rfl _ rfl;have e2:v2=_:=g 2 v2 rfl _ rfl;have e3:v3=_:=g 3 v3 rfl _ rfl;have e4:v4=_:=g 4 v4 rfl _ rfl;have e5:v5=_:=g 5 v5 rfl _ rfl;have e6:v6=_:=g 6 v6 rfl _ rfl;subst e0 e1 e2 e3 e4 e5 e6;clear g hv;go_wp2_with fail;go_roundw
       case rel=>exact⟨a,h,rfl,by go_num,ham,hhm,by omega,hBel.o.trans (hR.mono hBel.o.size)⟩
       case measure=>simp[intOf];omega
  . have hlz:¬(a:Int)< (b:Int):=by omega
    obtain rfl:a=m:=by omega
    obtain rfl:b=a:=by omega
    by_cases hbn':b<n
    . obtain⟨bb,off,i,rfl,hbB,hx,y0,y1,y2⟩:=(H0.o.below l.o hB).it (k:=b) hbn'
      have HF:=ai (O1 (d:=(d1,d2)) (i:=i) (by rw[HM.o];exact hx));clear hx;rw[HQ.o]at HF;obtain⟨⟨i1,i2⟩,s⟩:=i;simp only at y0 y1 y2 HF;obtain⟨z,hz⟩:=NX9 (dC (i1,i2) (d1,d2))
      have HC2:Hid (∀w,Calls Tryz.prog 182 #[.agg #[.int .u64 i1,.int .u64 i2,.string s],.agg #[.int .u64 d1,.int .u64 d2]] w fun e w'=>e= .returned (.int .i64 z)/\U0 w w'):=fun w=>by
       have:=Dv ((i1,i2),s) (d1,d2) w;unfold CmE at this;simp only[hz]at this;exact this
      rw[hz]at HF;have hlz': (b:Int)< (n:Int):=by omega
      have t:w.heap.size<wr.heap.size:=Nat.lt_of_lt_of_le r hBel.o.size;clear hz;go_wp2_with fail
      go_region_held3 (fun w'=>w'.cell? ⟨bb,off+b*3,none⟩=some (.int .u64 i1)/\w'.cell? ⟨bb,off+b*3+1,none⟩=some (.int .u64 i2)/\w'.cell? ⟨bb,off+b*3+2,none⟩=some (.string s)/\w'.cell? ⟨w.heap.size,0,none⟩=some (.int .u64 d1)/\w'.cell? ⟨w.heap.size,1,none⟩=some (.int .u64 d2))
       (first | exact⟨y0,y1,y2,x0,x1⟩ | exact⟨m0.o,m1.o,m2.o,m3.o,m4.o⟩)
       (first
         | (go_at_call 182;refine(HC2.o _).mono ?_;rintro e w2 ⟨rfl,hb2⟩
            have m0:=ai ((hb2.cell (p:=⟨bb,off+b*3,none⟩) (by show bb<_;simp;omega)).trans y0);have m1:=ai ((hb2.cell (p:=⟨bb,off+b*3+1,none⟩) (by show bb<_;simp;omega)).trans y1);have m2:=ai ((hb2.cell (p:=⟨bb,off+b*3+2,none⟩) (by show bb<_;simp;omega)).trans y2);have m3:=ai ((hb2.cell (p:=⟨w.heap.size,0,none⟩) (by show w.heap.size<_;simp;omega)).trans x0);have m4:=ai ((hb2.cell (p:=⟨w.heap.size,1,none⟩) (by show w.heap.size<_;simp;omega)).trans x1);have hR:U6 wr w2:=(ah _ wr).drew.trans hb2;clear hb2))
      go_wp2_with fail;go_ret2
      exact⟨by rw[HF.o];rfl,l.o.trans (hR.o.mono l.o.size)⟩
    . have HF:Hid (q=false):=by
        show _=_;rw[<-HQ.o];exact Nb (by rw[HM.o,HL.o];omega)
      have hlz':¬(b:Int)< (n:Int):=by omega
      go_wp2_with fail
      go_quiet(fail)
      go_wp2_with fail;go_ret2
      exact⟨by rw[HF.o];rfl,dm l.o _⟩
theorem wP(A:OA)(n c B:Nat)(p:List Itm)(d:Dig)(w:UW)(h0:Sl w B 3 A n (flat itC p))(hB:B<=w.heap.size)(hn:n<=1000000)(ha:AscI p) :
  Calls Tryz.prog 112 #[.slice A n c,aA d] w (BsE p d w):=by
 obtain⟨d1,d2⟩:=d;obtain⟨W,hW⟩:=NX9 (w.alloc (.cells #[.int .u64 d1,.int .u64 d2] 50))
 have HB0:U6 w W:=by rw[<-hW];exact(ah _ w).alloc aj _
 have HK:Hid (Bk W w.heap.size 50 #[.int .u64 d1,.int .u64 d2]):=by rw[<-hW];exact Bk.new w _ _
 have HC:=ai (RH A n c B p (d1,d2) W (h0.below HB0.o hB) (ZY hB HB0.o.size) hn ha);clear h0;unfold BsE at HC ⊢;simp only[aA]at HC ⊢;obtain⟨x0,x1,_,_⟩:=HK.o.two
 go_enter Tryz.func112,Tryz.ntmps112
 go_wp2_with fail;refine HC.o.mono ?_;rintro e w2 ⟨rfl,hb⟩;have HB2:=ai hb;clear hb;go_wp2_with fail;go_ret2
 exact⟨rfl,HB0.o.trans (HB2.o.mono HB0.o.size)⟩
theorem Qs(A:OA)(n c B:Nat)(p:List Itm)(d:Dig)(w:UW)(h0:Sl w B 3 A n (flat itC p))(hB:B<=w.heap.size)(hn:n<=1000000)(ha:AscI p) :
  Calls Tryz.prog 76 #[.slice A n c,aA d] w fun e w'=>e= .returned (.bool (bM p d).isSome)/\U0 w w':=by
 obtain⟨d1,d2⟩:=d;obtain⟨W,hW⟩:=NX9 (w.alloc (.cells #[.int .u64 d1,.int .u64 d2] 50))
 have HB0:U6 w W:=by rw[<-hW];exact(ah _ w).alloc aj _
 have HK:Hid (Bk W w.heap.size 50 #[.int .u64 d1,.int .u64 d2]):=by rw[<-hW];exact Bk.new w _ _
 have HC:=ai (wP A n c B p (d1,d2) W (h0.below HB0.o hB) (ZY hB HB0.o.size) hn ha);clear h0;unfold BsE at HC;simp only[aA]at HC ⊢;obtain⟨x0,x1,_,_⟩:=HK.o.two
 go_enter Tryz.func76,Tryz.ntmps76
 go_wp2_with fail;refine HC.o.mono ?_;rintro e w2 ⟨rfl,hb⟩;have HB2:=ai hb;clear hb;go_wp2_with fail;go_ret
 exact⟨rfl,HB0.o.trans (HB2.o.mono HB0.o.size)⟩
