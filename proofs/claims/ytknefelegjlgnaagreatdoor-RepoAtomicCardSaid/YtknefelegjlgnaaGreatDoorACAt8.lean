/-
  Lemmas of the card.
-/
import Derived.Deep.RegionHeld3
import Derived.Test.YtknefelegjlgnaaGreatDoorACAt7
set_option maxRecDepth 100000
set_option maxHeartbeats 4000000
namespace Go.Proofs.YtknefelegjlgnaaGreatDoor
open Go.RowKit
theorem Sl.en{w:MZ}{B n k:Nat}{A:OA}{l:List Ent}(h:Sl w B 4 A n (flat enC l))(hk:k<n) :
  ∃b off e,A=some ⟨b,off,none⟩/\b<B/\l[k]? =some e/\w.cell? ⟨b,off+k*4,none⟩=some (.string e.nm)/\w.cell? ⟨b,off+k*4+1,none⟩=some (.bool e.dir)/\w.cell? ⟨b,off+k*4+2,none⟩=some (.int .u64 e.dg.1)/\w.cell? ⟨b,off+k*4+3,none⟩=some (.int .u64 e.dg.2):=by
 obtain⟨b,off,x,e,hb,hx,hc⟩:=h.at_ p9 (by omega) hk;exact⟨b,off,x,e,hb,hx,hc 0 _ rfl,hc 1 _ rfl,hc 2 _ rfl,hc 3 _ rfl⟩
theorem Sl.dg{w:MZ}{B n k:Nat}{A:OA}{l:List Dig}(h:Sl w B 2 A n (flat dgC l))(hk:k<n) :
  ∃b off d,A=some ⟨b,off,none⟩/\b<B/\l[k]? =some d/\w.cell? ⟨b,off+k*2,none⟩=some (.int .u64 d.1)/\w.cell? ⟨b,off+k*2+1,none⟩=some (.int .u64 d.2):=by
 obtain⟨b,off,x,e,hb,hx,hc⟩:=h.at_ fI (by omega) hk;exact⟨b,off,x,e,hb,hx,hc 0 _ rfl,hc 1 _ rfl⟩
theorem Cu(x y:Dig): (x.1 == y.1 && x.2 == y.2)=decide (x=y):=by
 obtain⟨a,b⟩:=x;obtain⟨c,d⟩:=y;rw[Bool.eq_iff_iff];simp
theorem jM{x:Dig}(h:x≠zD): (x.1 == 0 && x.2 == 0)=false:=by
 have:=Cu x zD;rw[decide_eq_false h]at this;exact this
theorem D5(A:OA)(n c B:Nat)(l:List Ent)(w:MZ)(h0:Sl w B 4 A n (flat enC l))(hB:B<=w.heap.size)(hok:jU l) :
  Calls Tryz.prog 264 #[.slice A n c] w fun e w'=>e= .returned (.int .i64 0)/\Below w.heap.size w w':=by
 have HL:=ah (h0.len p9 (by omega));have H0:=ah h0;have hn:n<=200:=by rw[<-HL.o];exact hok.few
 have HA:=ah hok.all;have HS:=ah hok.asc;clear h0 hok;have G:¬(200:Int)< (n:Int):=by omega
 go_enter Tryz.func264,Tryz.ntmps264
 go_wp2_with fail
 go_loopw[10] (fun i wr=>∃k:Nat,i= .int .i64 (k:Int)/\k<=n/\Hid (Below w.heap.size w wr)) (fun i _=>n - (intOf i).toNat)
 case atStart=>exact⟨0,rfl,ZZ _,af _ _⟩
 case round =>
  obtain⟨k,rfl,hk,d⟩:=hrel;have v:=d.o.size;by_cases hlt:k<n
  . have x: (k:Int)< (n:Int):=by omega
    obtain⟨bb,y,en,rfl,H,he,y0,y1,y2,y3⟩:=(H0.o.below d.o hB).en hlt;have HE:=ah he;have g:=ah (HA.o en (Z7 he));obtain⟨wb,a⟩:=NX9 (wr.alloc (.cells #[.string en.nm,.bool en.dir,.int .u64 en.dg.1,.int .u64 en.dg.2] 185))
    have z:Hid (Below wr.heap.size wr wb):=by rw[<-a];exact(af _ wr).alloc ai _
    have b:Hid (Bk wb wr.heap.size 185 #[.string en.nm,.bool en.dir,.int .u64 en.dg.1,.int .u64 en.dg.2]):=by rw[<-a];exact Bk.new wr _ _
    have h:Hid (Below w.heap.size w wb):=d.o.trans (z.o.mono v);have C:=gM g.o.nm;have o:=g.o.nm;have D:=jM g.o.nz;have I:wb.heap.size=wr.heap.size+1:=by rw[<-a];simp
    have q:Hid (∀j,k=j+1->∃p,Hid (Op.bytesLess en.nm.toList p.toList=false/\ (en.nm.toList == p.toList)=false)/\wb.cell? ⟨bb,y+j*4,none⟩=some (.string p)):=by
     intro j hj;obtain⟨J,F,p,E,_,hp,z0,_⟩:=(H0.o.below h.o hB).en (k:=j) (by omega);cases E
     have hl:=HS.o j p en hp (by rw[<-hj];exact HE.o);refine⟨p.nm,⟨(uj _ _).trans ?_,La fun e=>?_⟩,z0⟩
     . cases hx:less en.nm p.nm with
       | false=>rfl
       | true=>have:=lN hl hx;rw[jd]at this;cases this
     . rw[e,jd]at hl;cases hl
    have x0:=b.o.cell 0;have x2:=b.o.cell 2;have x3:=b.o.cell 3;simp at x0 x2 x3;have m:=x0;rw[<-a]at m;have r:=ah a;clear a he;obtain⟨nm,dir,d1,d2⟩:=en;simp only at C o D y0 y1 y2 y3 x0 x2 x3 m r b q
    go_upto_region 8 with (first | (go_at_call 195;refine(iC nm _ (by unfold maxLen;omega)).mono ?_;rintro e w1 ⟨rfl,rfl⟩;rw[o]))
    rw[r.o];clear m
    go_cut[20] from 21 to 33 (fun f wx=>f= .bool false/\Hid (Below wb.heap.size wb wx))
    case first =>
     cases k with
     | zero =>
       go_quiet(fail)
       simp only[Exit.then]
       go_step
       go_meet
       exact⟨rfl,bN (af _ _) _⟩
     | succ j =>
       obtain⟨p,HP,z0⟩:=q.o j rfl;have K: (0:Int)< ((j+1:Nat):Int):=by omega
       have L:IntKind.i64.wrap (((j+1:Nat):Int) - 1)= (j:Int):=by rw[pK (by omega) (by omega)];omega
       have M:¬(j:Int)<0:=by omega
       have N: (j:Int)< (n:Int):=by omega
       obtain⟨hp,O⟩:=HP.o
       go_quiet(fail)
       simp only[Exit.then]
       go_step
       go_meet
       exact⟨rfl,bN (af _ _) _⟩
    case rest =>
     obtain⟨rfl,s⟩:=hcut;have t:Hid (Below w.heap.size w wc):=h.o.trans (s.o.mono h.o.size);have u:=ah (b.o.below s.o b.o.lt);clear x0 x2 x3 y0 y1 y2 y3;have x2:=u.o.cell 2;have x3:=u.o.cell 3;simp at x2 x3;go_wp2_with fail;go_roundw
     case rel=>exact⟨k+1,by go_num,hlt,t.o⟩
     case measure=>simp[intOf];omega
  . have x:¬(k:Int)< (n:Int):=by omega
    go_wp2_with fail;go_ret
    exact⟨rfl,d.o⟩
theorem E9(A:OA)(n c B:Nat)(l:List Dig)(d:Dig)(w:MZ)(h0:Sl w B 2 A n (flat dgC l))(hB:B<=w.heap.size)(hn:n<=1000000) :
  Calls Tryz.prog 334 #[.slice A n c,aB d] w fun e w'=>(∃z:Int,e= .returned (.int .i64 z)/\ ((0<=z)↔d∈l))/\Below w.heap.size w w':=by
 have HL:=ah (h0.len fI (by omega));have H0:=ah h0;clear h0;obtain⟨a,b⟩:=d;unfold aB;obtain⟨W,hW⟩:=NX9 (w.alloc (.cells #[.int .u64 a,.int .u64 b] 50))
 have m:Hid (Below w.heap.size w W):=by rw[<-hW];exact(af _ w).alloc ai _
 have HK:Hid (Bk W w.heap.size 50 #[.int .u64 a,.int .u64 b]):=by rw[<-hW];exact Bk.new w _ _
 have zk:w.heap.size<W.heap.size:=HK.o.lt;simp only
 go_enter Tryz.func334,Tryz.ntmps334
 go_wp2_with fail;clear hW
 go_loopw[8] (fun i wr=>∃k:Nat,k<=n/\i= .int .i64 k/\Hid ((a,b)∉l.take k)/\Hid (Below W.heap.size W wr)) (fun i _=>n - (intOf i).toNat)
 case atStart=>exact⟨0,ZZ _,rfl,(fun h=>by simp at h),af _ _⟩
 case round =>
  obtain⟨k,hk,rfl,hN,f⟩:=hrel;have j:Hid (Below w.heap.size w wr):=m.o.trans (f.o.mono m.o.size);by_cases hlt:k<n
  . obtain⟨bb,r,x,rfl,s,hx,y0,y1⟩:=(H0.o.below j.o hB).dg hlt
    have o: (k:Int)< (n:Int):=by omega
    obtain⟨x0,x1,_,_⟩:=(HK.o.below f.o zk).two;have HX:=ah hx;clear hx;have g:=Cu (a,b) x;simp only at g;by_cases e: (a,b)=x
    . rw[decide_eq_true e]at g
      have HM:Hid ((a,b)∈l):=by show _∈_;rw[e];exact Z7 HX.o
      clear e;obtain⟨p,q⟩:=x;simp only at y0 y1 g;go_wp2_with fail
      go_quiet(fail)
      go_wp2_with fail;go_ret
      exact⟨⟨_,rfl,fun _=>HM.o,fun _=>by omega⟩,bN j.o _⟩
    . rw[decide_eq_false e]at g
      have HN:Hid ((a,b)∉l.take (k+1)):=fun hm=>by
       rw[aS HX.o]at hm;rcases List.mem_append.1 hm with hm | hm
       . exact hN.o hm
       . exact e (List.mem_singleton.1 hm)
      clear e;obtain⟨p,q⟩:=x;simp only at y0 y1 g;go_wp2_with fail
      go_quiet(fail)
      go_wp2_with fail;go_roundw
      case rel=>exact⟨k+1,by omega,by go_num,HN.o,bN f.o _⟩
      case measure=>simp[intOf];omega
  . have o:¬(k:Int)< (n:Int):=by omega
    have HN:Hid ((a,b)∉l):=by
     have:=hN.o
     rwa[ZW (by rw[HL.o];omega)]at this
    go_wp2_with fail;go_ret
    exact⟨⟨_,rfl,fun h=>absurd h (by decide),fun h=>absurd h HN.o⟩,j.o⟩
theorem wV(A:OA)(n c B:Nat)(l:List Dig)(d:Dig)(w:MZ)(h0:Sl w B 2 A n (flat dgC l))(hB:B<=w.heap.size)(hn:n<=1000000) :
  Calls Tryz.prog 310 #[.slice A n c,aB d] w fun e w'=>e= .returned (.bool (decide (d∈l)))/\Below w.heap.size w w':=by
 obtain⟨W,hW⟩:=NX9 (w.alloc (.cells #[.int .u64 d.1,.int .u64 d.2] 50))
 have a:Hid (Below w.heap.size w W):=by rw[<-hW];exact(af _ w).alloc ai _
 have HK:Hid (Bk W w.heap.size 50 #[.int .u64 d.1,.int .u64 d.2]):=by rw[<-hW];exact Bk.new w _ _
 obtain⟨x0,x1,_,_⟩:=HK.o.two;have HI:=ah (E9 A n c B l d W (h0.below (a.o.mono hB) ai) (by have:=a.o.size;omega) hn);unfold aB at HI ⊢;clear h0
 go_enter Tryz.func310,Tryz.ntmps310
 go_wp2_with fail;refine HI.o.mono ?_;rintro e w1 ⟨⟨z,rfl,hz⟩,hb⟩;have HZ:=ah hz;have b:Hid (Below w.heap.size w w1):=a.o.trans (hb.mono a.o.size);clear hz hb;by_cases h:0<=z
 . have HM:Hid (d∈l):=HZ.o.1 h
   go_wp2_with fail;go_ret
   exact⟨aY (by rw[decide_eq_true HM.o]),b.o⟩
 . have HM:Hid (d∉l):=fun hm=>h (HZ.o.2 hm)
   go_wp2_with fail;go_ret
   exact⟨aY (by rw[decide_eq_false HM.o];simp;omega),b.o⟩
structure Osl where
 eA:OA
 en:Nat
 ec:Nat
 pA:OA
 pn:Nat
 pc:Nat
def obC(o:Ob)(s:Osl):Array M4:=#[.int .i64 o.kind,.string o.data,.slice s.eA s.en s.ec,.int .u64 o.tree.1,.int .u64 o.tree.2,.slice s.pA s.pn s.pc,.string o.auth,.int .i64 o.time,.string o.msg]
def obV(o:Ob)(s:Osl):M4:= .agg (obC o s)
structure ObM(w:MZ)(B:Nat)(o:Ob)(s:Osl):Prop where
 e:Sl w B 4 s.eA s.en (flat enC o.ents)
 p:Sl w B 2 s.pA s.pn (flat dgC o.pars)
 ele:s.en<=s.ec
 emx:s.ec<=maxLen
 ple:s.pn<=s.pc
 pmx:s.pc<=maxLen
theorem ObM.below{w w':MZ}{B B':Nat}{o:Ob}{s:Osl}(h:ObM w B o s)(hb:Below B' w w')(hB:B<=B'):ObM w' B o s:=⟨h.e.below hb hB,h.p.below hb hB,h.ele,h.emx,h.ple,h.pmx⟩
theorem ObM.more{w:MZ}{B B':Nat}{o:Ob}{s:Osl}(h:ObM w B o s)(hB:B<=B'):ObM w B' o s:=⟨h.e.more hB,h.p.more hB,h.ele,h.emx,h.ple,h.pmx⟩
theorem ObM.elen{w:MZ}{B:Nat}{o:Ob}{s:Osl}(h:ObM w B o s):o.ents.length=s.en:=h.e.len p9 (by omega)
theorem ObM.plen{w:MZ}{B:Nat}{o:Ob}{s:Osl}(h:ObM w B o s):o.pars.length=s.pn:=h.p.len fI (by omega)
theorem Bk.nine{w:MZ}{b:Nat}{t:TypeId}{x0 x1 x2 x3 x4 x5 x6 x7 x8:M4}(h:Bk w b t #[x0,x1,x2,x3,x4,x5,x6,x7,x8]):w.cell? ⟨b,0,none⟩=some x0/\w.cell? ⟨b,1,none⟩=some x1/\w.cell? ⟨b,2,none⟩=some x2/\w.cell? ⟨b,3,none⟩=some x3/\w.cell? ⟨b,4,none⟩=some x4/\w.cell? ⟨b,5,none⟩=some x5/\w.cell? ⟨b,6,none⟩=some x6/\w.cell? ⟨b,7,none⟩=some x7/\w.cell? ⟨b,8,none⟩=some x8:=by
 have c0:=h.cell 0;have c1:=h.cell 1;have c2:=h.cell 2;have c3:=h.cell 3;have c4:=h.cell 4;have c5:=h.cell 5;have c6:=h.cell 6;have c7:=h.cell 7;have c8:=h.cell 8;simp at c0 c1 c2 c3 c4 c5 c6 c7 c8;exact⟨c0,c1,c2,c3,c4,c5,c6,c7,c8⟩
theorem Ej(o:Ob)(s:Osl)(B:Nat)(w:MZ)(hm:ObM w B o s)(hB:B<=w.heap.size)(hc:OkC o) :
  Calls Tryz.prog 265 #[obV o s] w fun e w'=>e= .returned (.int .i64 0)/\Below w.heap.size w w':=by
 have HL:=ah hm.plen;have HP:=ah hm.p;have hn:s.pn<=8:=by have:=hc.pars.few;rw[HL.o]at this;exact this
 have q:=ah hc.pars;have E:=hm.ple;have F:=hm.pmx;have G:=jM hc.nz;have x:=hc.auth;have H:=gM hc.auth;have I:=hc.t0;have J:=hc.t1;have K:=hc.msg;obtain⟨m,data,T,⟨t1,t2⟩,pars,auth,c,msg⟩:=o;obtain⟨eA,en,ec,pA,n,pc⟩:=s;simp only at HL HP hn q E F G x H I J K;simp only[obV,obC];have U:n<=9223372036854775807:=by omega
 have V:¬(8:Int)< (n:Int):=by omega
 have X:¬c<0:=by omega
 have Y:¬(1099511627776:Int)<c:=by omega
 have ab:¬(200:Int)< (msg.size:Int):=by omega
 obtain⟨W0,hW⟩:=NX9 (w.alloc (.cells #[.int .i64 m,.string data,.slice eA en ec,.int .u64 t1,.int .u64 t2,.slice pA n pc,.string auth,.int .i64 c,.string msg] 109))
 have y:Hid (Below w.heap.size w W0):=by rw[<-hW];exact(af _ w).alloc ai _
 have HK:Hid (Bk W0 w.heap.size 109 #[.int .i64 m,.string data,.slice eA en ec,.int .u64 t1,.int .u64 t2,.slice pA n pc,.string auth,.int .i64 c,.string msg]):=by rw[<-hW];exact Bk.new w _ _
 have zk:w.heap.size<W0.heap.size:=HK.o.lt;obtain⟨c0,c1,c2,c3,c4,c5,c6,c7,c8⟩:=HK.o.nine;clear hm hc
 go_enter Tryz.func265,Tryz.ntmps265
 go_wp2_with fail;clear hW
 go_loopw[16] (fun i wr=>∃k:Nat,i= .int .i64 (k:Int)/\k<=n/\Hid (Below W0.heap.size W0 wr)) (fun i _=>n - (intOf i).toNat)
 case atStart=>exact⟨0,rfl,ZZ _,af _ _⟩
 case round =>
  obtain⟨k,rfl,hk,f⟩:=hrel;have z:=f.o.size;have r:Hid (Below w.heap.size w wr):=y.o.trans (f.o.mono y.o.size);clear c0 c1 c2 c3 c4 c5 c6 c7 c8;obtain⟨c0,c1,c2,c3,c4,c5,c6,c7,c8⟩:=(HK.o.below f.o zk).nine;by_cases hlt:k<n
  . have L: (k:Int)< (n:Int):=by omega
    obtain⟨bb,b,d,rfl,ad,hd,y0,y1⟩:=(HP.o.below r.o hB).dg hlt;have HD:=ah hd;have M:=jM (q.o.nz d (Z7 hd));have N:Hid (d∉pars.take k):=fun hm=>by
     obtain⟨j,hj,e⟩:=List.getElem_of_mem hm;rw[List.getElem_take]at e;have h1:=List.getElem?_eq_some_iff.1 HD.o;rw[List.length_take]at hj;have:=(List.getElem_inj (h₀:=by omega) (h₁:=h1.1) q.o.nod).1 (e.trans h1.2.symm);omega
    obtain⟨d1,d2⟩:=d;simp only at y0 y1 M;obtain⟨wb,g⟩:=NX9 (wr.alloc (.cells #[.int .u64 d1,.int .u64 d2] 50))
    have t:Hid (Below wr.heap.size wr wb):=by rw[<-g];exact(af _ wr).alloc ai _
    have A:Hid (Bk wb wr.heap.size 50 #[.int .u64 d1,.int .u64 d2]):=by rw[<-g];exact Bk.new wr _ _
    have ag:wb.heap.size=wr.heap.size+1:=by rw[<-g];simp
    have l:Hid (Below w.heap.size w wb):=r.o.trans (t.o.mono (by omega));have O:Hid (∀Z,Below wb.heap.size wb Z->Calls Tryz.prog 310 #[.slice (some ⟨bb,b,none⟩) k pc,.agg #[.int .u64 d1,.int .u64 d2]] Z fun e w'=>e= .returned (.bool false)/\Below Z.heap.size Z w'):=fun Z hZ=>by
     have hs:Sl Z B 2 (some ⟨bb,b,none⟩) k (flat dgC (pars.take k)):=by
      have h1:=(HP.o.below l.o hB).below hZ (by have:=l.o.size;omega);refine⟨by rw[gF fI,List.length_take,HL.o];rw[Nat.min_eq_left (by omega)],fun h0=>?_⟩;obtain⟨b',o',e1,e2,e3⟩:=h1.2 (by omega);refine⟨b',o',e1,e2,fun j u hu=>e3 j u ?_⟩;rw[oI fI]at hu;have P:=(List.getElem?_eq_some_iff.1 hu).1;rw[List.getElem?_take,if_pos (by rw[List.length_take]at P;omega)]at hu;exact hu
     have h:=wV (some ⟨bb,b,none⟩) k pc B (pars.take k) (d1,d2) Z hs (by have:=hZ.size;have:=l.o.size;omega) (by omega);rw[decide_eq_false N.o]at h;exact h
    have b0:=A.o.cell 0;have b1:=A.o.cell 1;simp at b0 b1;have e5:=(HK.o.below (f.o.trans (t.o.mono z)) zk).nine.2.2.2.2.2.1;have al:∀Z:MZ,(Instr.sliceAt 47 (.slice (some ⟨bb,b,none⟩) n pc) none (some (.int .i64 k)) none).run Tryz.prog Z= .ok (.slice (some ⟨bb,b,none⟩) k pc) Z:=fun Z=>by
     obtain⟨i0,Q,_⟩:=info_parts jw;exact nT 47 i0 Tryz.underlying47 Q _ n pc k (by omega) Z
    have R:=ah g;clear hd g
    go_upto_region 10 with fail
    rw[R.o];refine jC 5 (24::25::26::27::28:: []) (by kernel_rfl) (by kernel_rfl) (by kernel_rfl) (fun W=>Below wb.heap.size wb W) (fun W W'=>Below W.heap.size W W')
     (lJ ((.pointer (some ⟨w.heap.size,5,none⟩)):: (.slice (some ⟨bb,b,none⟩) n pc):: (.int .i64 (k:Int)):: (.slice (some ⟨bb,b,none⟩) k pc):: (.agg #[.int .u64 d1,.int .u64 d2]):: [])) (fun W W' h1 h2=>h1.trans (h2.mono h1.size)) (fun i v W W' h _=>h) (af _ _).drew ?stepC ?tailC
    case stepC =>
     intro i o vs W hi ho hv hR a;obtain⟨v0,v1,v2,v3,v4,rfl⟩:=ls5 hv;simp only[List.zip,List.zipWith,aR,Act.put,List.setIfInBounds_toArray,List.set];have am:=hR.size;have g5:=(hR.cell (p:=⟨w.heap.size,5,none⟩) (by show w.heap.size<_;omega)).trans e5;have g0:=(hR.cell (p:=⟨wr.heap.size,0,none⟩) (by show wr.heap.size<_;omega)).trans b0;have g1:=(hR.cell (p:=⟨wr.heap.size,1,none⟩) (by show wr.heap.size<_;omega)).trans b1
     match i,hi,ho with
     | 0,_,rfl =>
       exact .inl ⟨rfl,aJ (v:= .pointer (some ⟨w.heap.size,5,none⟩)) (w':=W) (by go_simp) ⟨af _ _,fun _=>aI⟩⟩
     | 1,_,rfl =>
       have e0:v0=_:=a ⟨0,.data⟩ (by simp) rfl v0 rfl _ rfl;subst e0;exact .inl ⟨rfl,aJ (v:= .slice (some ⟨bb,b,none⟩) n pc) (w':=W) (by go_simp) ⟨af _ _,fun _=>aI⟩⟩
     | 2,_,rfl =>
       exact .inl ⟨rfl,aJ (v:= .int .i64 (k:Int)) (w':=W) (by go_simp) ⟨af _ _,fun _=>aI⟩⟩
     | 3,_,rfl =>
       have e1:v1=_:=a ⟨1,.data⟩ (by simp) rfl v1 rfl _ rfl;have e2:v2=_:=a ⟨2,.data⟩ (by simp) rfl v2 rfl _ rfl;subst e1 e2;exact .inl ⟨rfl,aJ (v:= .slice (some ⟨bb,b,none⟩) k pc) (w':=W) (by go_simp) ⟨af _ _,fun _=>aI⟩⟩
     | 4,_,rfl =>
       exact .inl ⟨rfl,aJ (v:= .agg #[.int .u64 d1,.int .u64 d2]) (w':=W) (by go_simp) ⟨af _ _,fun _=>aI⟩⟩
     | i+5,hi,_=>exact absurd hi (by omega)
    case tailC =>
     intro vs W hv hR a;obtain⟨v0,v1,v2,v3,v4,rfl⟩:=ls5 hv;simp only[List.zip,List.zipWith,aR,Act.put,List.setIfInBounds_toArray,List.set,List.drop];have e0:v0=_:=a 0 v0 rfl _ rfl;have e1:v1=_:=a 1 v1 rfl _ rfl;have e2:v2=_:=a 2 v2 rfl _ rfl;have e3:v3=_:=a 3 v3 rfl _ rfl;have e4:v4=_:=a 4 v4 rfl _ rfl;subst e0 e1 e2 e3 e4;clear a hv;have C:Hid (Below W0.heap.size W0 W):=f.o.trans ((t.o.trans (hR.mono (by omega))).mono z);have HR:=ah hR;clear hR
     go_wp2_with (first | (go_at_call 310;refine(O.o _ HR.o).mono ?_;rintro e w3 ⟨rfl,D⟩;refine aN ?_))
     refine aF ?_;have S:Hid (Below W0.heap.size W0 w3):=C.o.trans (D.mono C.o.size);clear D;go_wp2_with fail;go_roundw
     case rel=>exact⟨k+1,by go_num,hlt,S.o⟩
     case measure=>simp[intOf];omega
  . have L:¬(k:Int)< (n:Int):=by omega
    go_wp2_with (first | (go_at_call 195;refine(iC auth _ (by unfold maxLen;omega)).mono ?_;rintro e w1 ⟨rfl,rfl⟩;rw[x]))
    go_ret
    exact⟨rfl,r.o⟩
theorem NoC.flds{o:Ob}(h:NoC o):o.tree= (0,0)/\o.pars.length=0/\o.auth= ⟨#[]⟩/\o.time=0/\o.msg= ⟨#[]⟩:=⟨h.tree,by rw[h.pars];rfl,h.auth,h.time,h.msg⟩
theorem Ep(o:Ob)(s:Osl)(B:Nat)(w:MZ)(hm:ObM w B o s)(hB:B<=w.heap.size)(hf:OkF o) :
  Calls Tryz.prog 204 #[obV o s] w fun e w'=>e= .returned (.int .i64 0)/\Below w.heap.size w w':=by
 obtain⟨W0,hW⟩:=NX9 (w.alloc (.cells (obC o s) 109))
 have a:Hid (Below w.heap.size w W0):=by rw[<-hW];exact(af _ w).alloc ai _
 have HK:Hid (Bk W0 w.heap.size 109 (obC o s)):=by rw[<-hW];exact Bk.new w _ _
 have b:=hm.below (a.o.mono hB) ai;have f:=hm.elen;have g:=hm.plen;cases hf with
 | blob k e c d =>
   obtain⟨h1,h2,h3,h4,h5⟩:=c.flds;have h:s.en=0:=by rw[<-f,e];rfl
   have i:s.pn=0:=by rw[<-g];exact h2
   obtain⟨j,l,ents,tree,m,p,q,r⟩:=o;obtain⟨eA,en,ec,pA,n,pc⟩:=s;simp only at h1 h3 h4 h5 h i k;subst h1 h3 h4 h5 h i;simp only[obV,obC]at hW HK ⊢;obtain⟨c0,c1,c2,c3,c4,c5,c6,c7,c8⟩:=HK.o.nine;clear hm b f g e c d h2;rcases k with rfl | rfl
   all_goals
    go_enter Tryz.func204,Tryz.ntmps204
    go_wp2
    go_ret
    exact⟨rfl,a.o⟩
 | tree k d c e =>
   obtain⟨h1,h2,h3,h4,h5⟩:=c.flds;have i:s.pn=0:=by rw[<-g];exact h2
   have HE:=ah (D5 s.eA s.en s.ec B o.ents W0 b.e (by have:=a.o.size;omega) e);obtain⟨j,l,ents,tree,m,p,q,r⟩:=o;obtain⟨eA,en,ec,pA,n,pc⟩:=s;simp only at h1 h3 h4 h5 i k d HE;subst h1 h3 h4 h5 i k d;simp only[obV,obC]at hW HK ⊢;obtain⟨c0,c1,c2,c3,c4,c5,c6,c7,c8⟩:=HK.o.nine;clear hm b f g e c h2
   go_enter Tryz.func204,Tryz.ntmps204
   go_wp2_with (first | (go_at_call 264;refine HE.o.mono ?_;rintro e w1 ⟨rfl,hb⟩))
   all_goals
    go_ret
    exact⟨rfl,a.o.trans (hb.mono a.o.size)⟩
 | commit k d e c =>
   have h:s.en=0:=by rw[<-f,e];rfl
   have HC:=ah (Ej o s B W0 b (by have:=a.o.size;omega) c);have t:=jM c.nz;obtain⟨j,l,ents,⟨t1,t2⟩,m,p,q,r⟩:=o;obtain⟨eA,en,ec,pA,n,pc⟩:=s;simp only at h k d t;subst h k d;simp only[obV,obC]at hW HK HC ⊢;obtain⟨c0,c1,c2,c3,c4,c5,c6,c7,c8⟩:=HK.o.nine;clear hm b f g e c
   go_enter Tryz.func204,Tryz.ntmps204
   go_wp2_with (first | (go_at_call 265;refine HC.o.mono ?_;rintro e w1 ⟨rfl,hb⟩))
   all_goals
    go_ret
    exact⟨rfl,a.o.trans (hb.mono a.o.size)⟩
def bK(x y:Int):Int:=if x<y then -1 else if y<x then 1 else 0
def orI:List Int->Int
 | []=>0
 | a::r=>if a=0 then orI r else a
theorem uN(a b:Dig)(h:a≠b):bX a b=orI [bK a.1 b.1,bK a.2 b.2]:=by
 unfold bX;rw[if_neg h];obtain⟨a1,a2⟩:=a;obtain⟨b1,b2⟩:=b;rw[ne_eq,Prod.mk.injEq]at h;simp only[orI,bK,ltD]
 repeat' split
 all_goals first | rfl | omega
theorem xU(x:Int)(w:MZ):Calls Tryz.prog 193 #[.int .u64 x] w fun e w'=>e= .returned (.bool false)/\w=w':=by
 go_enter Tryz.func193,Tryz.ntmps193
 have h: (x != x)=false:=by simp
 go_wp2
 go_ret
 exact⟨rfl,rfl⟩
theorem kL(x y:Int)(w:MZ):Calls Tryz.prog 117 #[.int .u64 x,.int .u64 y] w fun e w'=>e= .returned (.int .i64 (bK x y))/\w=w':=by
 have H1:=ah (xU x w);have H2:=ah (xU y w);obtain⟨z,hz⟩:=NX9 (bK x y)
 have HZ:=ah hz;clear hz;rw[HZ.o]
 go_enter Tryz.func117,Tryz.ntmps117
 go_wp2_with fail;refine H1.o.mono ?_;rintro e w1 ⟨rfl,rfl⟩;go_wp2_with fail;refine H2.o.mono ?_;rintro e w1 ⟨rfl,rfl⟩;by_cases h:x<y
 . have hz:Hid (z= -1):=by show _=_;rw[<-HZ.o];exact if_pos h
   go_wp2_with fail;go_ret
   exact⟨by rw[hz.o];rfl,rfl⟩
 . by_cases g:y<x
   . have hz:Hid (z=1):=by show _=_;rw[<-HZ.o];unfold bK;rw[if_neg h,if_pos g]
     go_wp2_with fail;go_ret
     exact⟨by rw[hz.o];rfl,rfl⟩
   . have hz:Hid (z=0):=by show _=_;rw[<-HZ.o];unfold bK;rw[if_neg h,if_neg g]
     go_wp2_with fail;go_ret
     exact⟨by rw[hz.o];rfl,rfl⟩
theorem BF(b:Nat)(t:TypeId)(x y:Int)(w:MZ)(h:Bk w b t #[.int .i64 x,.int .i64 y]) :
  Calls Tryz.prog 116 #[.slice (some ⟨b,0,none⟩) 2 2] w fun e w'=>e= .returned (.int .i64 (orI [x,y]))/\w=w':=by
 obtain⟨c0,c1,_,_⟩:=h.two;have H:=ah h;clear h
 go_enter Tryz.func116,Tryz.ntmps116
 by_cases hx:x=0
 . have a: (x != 0)=false:=by simp[hx]
   have HX:=ah hx;clear hx;by_cases hy:y=0
   . have c: (y != 0)=false:=by simp[hy]
     have HY:=ah hy;clear hy;go_wp2_with fail
     go_loopw[8] (fun i wr=>∃k:Nat,k<=2/\i= .int .i64 k/\wr=w) (fun i _=>2 - (intOf i).toNat)
     case atStart=>exact⟨0,by omega,rfl,rfl⟩
     case round =>
      obtain⟨k,hk,rfl,rfl⟩:=hrel;rcases (by omega:k=0∨k=1∨k=2) with rfl | rfl | rfl
      . go_wp2_with fail
        go_roundw
        case rel=>exact⟨1,by omega,by go_num,trivial⟩
        case measure=>simp[intOf]
      . go_wp2_with fail
        go_roundw
        case rel=>exact⟨2,by omega,by go_num,trivial⟩
        case measure=>simp[intOf]
      . go_wp2_with fail
        go_ret
        exact⟨by rw[HX.o,HY.o];rfl,rfl⟩
   . have c: (y != 0)=true:=by simp[hy]
     have HE:Hid (orI [x,y]=y):=by show _=_;simp only[orI,HX.o,if_true];split <;> simp_all
     clear hy;go_wp2_with fail
     go_loopw[8] (fun i wr=>∃k:Nat,k<=1/\i= .int .i64 k/\wr=w) (fun i _=>2 - (intOf i).toNat)
     case atStart=>exact⟨0,by omega,rfl,rfl⟩
     case round =>
      obtain⟨k,hk,rfl,rfl⟩:=hrel;rcases (by omega:k=0∨k=1) with rfl | rfl
      . go_wp2_with fail
        go_roundw
        case rel=>exact⟨1,by omega,by go_num,trivial⟩
        case measure=>simp[intOf]
      . go_wp2_with fail
        go_ret
        exact⟨by rw[HE.o];rfl,rfl⟩
 . have a: (x != 0)=true:=by simp[hx]
   have HE:Hid (orI [x,y]=x):=by show _=_;simp[orI,hx]
   clear hx;go_wp2_with fail
   go_loopw[8] (fun i wr=>i= .int .i64 0/\wr=w) (fun i _=>0)
   case atStart=>exact⟨rfl,rfl⟩
   case round =>
    obtain⟨rfl,rfl⟩:=hrel;go_wp2_with fail;go_ret
    exact⟨by rw[HE.o];rfl,rfl⟩
def SlP(a1 a2 b1 b2:Int)(v:M4)(W:MZ):Prop:=∃b0,v= .slice (some ⟨b0,0,none⟩) 2 2/\Bk W b0 3 #[.int .i64 (bK a1 b1),.int .i64 (bK a2 b2)]
def CmE(a b:Dig)(w:MZ)(e:Ending)(w':MZ):Prop:=e= .returned (.int .i64 (bX a b))/\Below w.heap.size w w'
theorem tC(a b:Dig)(w:MZ):Calls Tryz.prog 55 #[aB a,aB b] w (CmE a b w):=by
 obtain⟨a1,a2⟩:=a;obtain⟨b1,b2⟩:=b;obtain⟨z,hz⟩:=NX9 (bX (a1,a2) (b1,b2))
 have HZ:=ah hz;have HN:Hid (((a1,a2):Dig)≠ (b1,b2)->z=orI [bK a1 b1,bK a2 b2]):=fun h=>by rw[<-hz];exact uN _ _ h
 clear hz;unfold CmE;rw[HZ.o];have HD:Hid ((a1 == b1 && a2 == b2)=decide (((a1,a2):Dig)= (b1,b2))):=by
  show _=_;rw[Bool.eq_iff_iff];simp
 simp only[aB];obtain⟨wz,hW⟩:=NX9 ((w.alloc (.cells #[.int .u64 a1,.int .u64 a2] 50)).alloc (.cells #[.int .u64 b1,.int .u64 b2] 50))
 have HA:Hid (Bk wz w.heap.size 50 #[.int .u64 a1,.int .u64 a2]):=by rw[<-hW];exact(Bk.new w _ _).alloc _
 have HB:Hid (Bk wz (w.heap.size+1) 50 #[.int .u64 b1,.int .u64 b2]):=by
  rw[<-hW];have:=Bk.new (w.alloc (.cells #[.int .u64 a1,.int .u64 a2] 50)) 50 #[.int .u64 b1,.int .u64 b2];rw[Z9]at this;exact this
 have HL:Hid (Below w.heap.size w wz):=by rw[<-hW];exact((af _ w).alloc ai _).alloc (by simp) _
 have r:w.heap.size+2=wz.heap.size:=by rw[<-hW];simp
 obtain⟨c0,c1,_,_⟩:=HA.o.two;obtain⟨c2,c3,_,_⟩:=HB.o.two;have j:=ah (fun w=>kL a1 b1 w);have k:=ah (fun w=>kL a2 b2 w);by_cases h: ((a1,a2):Dig)= (b1,b2)
 . have hd:=HD.o
   rw[decide_eq_true h]at hd;have H0:Hid (z=0):=by show _=_;rw[<-HZ.o];exact(mf _ _).2 h
   clear h
   go_enter Tryz.func55,Tryz.ntmps55
   go_wp2_with fail;go_ret
   exact⟨by rw[H0.o];rfl,HL.o⟩
 . have hd:=HD.o
   rw[decide_eq_false h]at hd;have H0:Hid (z=orI [bK a1 b1,bK a2 b2]):=HN.o h;clear h
   go_enter Tryz.func55,Tryz.ntmps55
   go_wp2_with fail;have l:Hid (∀x∈ [(10,SlP a1 a2 b1 b2)],∀v W W',x.2 v W->Below W.heap.size W W'->x.2 v W'):=fun x hx v W W' h hb=>by
    simp only[aa]at hx;subst hx;obtain⟨b0,h1,h2⟩:=h;exact⟨b0,h1,h2.below hb h2.lt⟩
   have k0:=c0;have k1:=c1;have k2:=c2;have k3:=c3;refine jC 12 (8::9::10::11::12::13::14::15::16::17::18::19:: []) (by kernel_rfl) (by kernel_rfl) (by kernel_rfl) (fun W=>Below wz.heap.size wz W) (fun W W'=>Below W.heap.size W W')
    (lK [(10,SlP a1 a2 b1 b2)] ((.pointer (some ⟨w.heap.size,0,none⟩)):: (.int .u64 a1):: (.pointer (some ⟨w.heap.size+1,0,none⟩)):: (.int .u64 b1):: (.int .i64 (bK a1 b1)):: (.pointer (some ⟨w.heap.size,1,none⟩)):: (.int .u64 a2):: (.pointer (some ⟨w.heap.size+1,1,none⟩)):: (.int .u64 b2):: (.int .i64 (bK a2 b2)):: (undef):: (.int .i64 (orI [bK a1 b1,bK a2 b2])):: [])) (fun W W' h1 h2=>h1.trans (h2.mono h1.size)) (fun i v W W' h hb=>sH l.o i v W W' h hb) (af _ _).drew ?stepA ?tailA
   case stepA =>
    intro i o vs W hi ho hv hR c;obtain⟨v0,v1,v2,v3,v4,v5,v6,v7,v8,v9,d,g,rfl⟩:=qU hv;simp only[List.zip,List.zipWith,aR,Act.put,List.setIfInBounds_toArray,List.set];have s:=hR.size;have c0:=(hR.cell (p:=⟨w.heap.size,0,none⟩) (by show w.heap.size<_;omega)).trans k0;have c1:=(hR.cell (p:=⟨w.heap.size,1,none⟩) (by show w.heap.size<_;omega)).trans k1;have c2:=(hR.cell (p:=⟨w.heap.size+1,0,none⟩) (by show w.heap.size+1<_;omega)).trans k2;have c3:=(hR.cell (p:=⟨w.heap.size+1,1,none⟩) (by show w.heap.size+1<_;omega)).trans k3
    match i,hi,ho with
    | 0,_,rfl =>
      exact .inl ⟨rfl,aJ (v:= .pointer (some ⟨w.heap.size,0,none⟩)) (w':=W) (by go_simp) ⟨af _ _,fun _=>aI⟩⟩
    | 1,_,rfl =>
      have e0:v0=_:=c ⟨0,.data⟩ (by simp) rfl v0 rfl _ rfl;subst e0;exact .inl ⟨rfl,aJ (v:= .int .u64 a1) (w':=W) (by go_simp) ⟨af _ _,fun _=>aI⟩⟩
    | 2,_,rfl =>
      exact .inl ⟨rfl,aJ (v:= .pointer (some ⟨w.heap.size+1,0,none⟩)) (w':=W) (by go_simp) ⟨af _ _,fun _=>aI⟩⟩
    | 3,_,rfl =>
      have e2:v2=_:=c ⟨2,.data⟩ (by simp) rfl v2 rfl _ rfl;subst e2;exact .inl ⟨rfl,aJ (v:= .int .u64 b1) (w':=W) (by go_simp) ⟨af _ _,fun _=>aI⟩⟩
    | 4,_,rfl =>
      have e1:v1=_:=c ⟨1,.data⟩ (by simp) rfl v1 rfl _ rfl;have e3:v3=_:=c ⟨3,.data⟩ (by simp) rfl v3 rfl _ rfl;subst e1 e3;refine .inl ⟨rfl,iN (f:=117) (args:=#[.int .u64 a1,.int .u64 b1]) (by go_simp) ((j.o W).mono ?_)⟩;rintro e W' ⟨rfl,rfl⟩;exact⟨_,rfl,af _ _,fun _=>aI⟩
    | 5,_,rfl =>
      exact .inl ⟨rfl,aJ (v:= .pointer (some ⟨w.heap.size,1,none⟩)) (w':=W) (by go_simp) ⟨af _ _,fun _=>aI⟩⟩
    | 6,_,rfl =>
      have e5:v5=_:=c ⟨5,.data⟩ (by simp) rfl v5 rfl _ rfl;subst e5;exact .inl ⟨rfl,aJ (v:= .int .u64 a2) (w':=W) (by go_simp) ⟨af _ _,fun _=>aI⟩⟩
    | 7,_,rfl =>
      exact .inl ⟨rfl,aJ (v:= .pointer (some ⟨w.heap.size+1,1,none⟩)) (w':=W) (by go_simp) ⟨af _ _,fun _=>aI⟩⟩
    | 8,_,rfl =>
      have e7:v7=_:=c ⟨7,.data⟩ (by simp) rfl v7 rfl _ rfl;subst e7;exact .inl ⟨rfl,aJ (v:= .int .u64 b2) (w':=W) (by go_simp) ⟨af _ _,fun _=>aI⟩⟩
    | 9,_,rfl =>
      have e6:v6=_:=c ⟨6,.data⟩ (by simp) rfl v6 rfl _ rfl;have e8:v8=_:=c ⟨8,.data⟩ (by simp) rfl v8 rfl _ rfl;subst e6 e8;refine .inl ⟨rfl,iN (f:=117) (args:=#[.int .u64 a2,.int .u64 b2]) (by go_simp) ((k.o W).mono ?_)⟩;rintro e W' ⟨rfl,rfl⟩;exact⟨_,rfl,af _ _,fun _=>aI⟩
    | 10,_,rfl =>
      have e4:v4=_:=c ⟨4,.data⟩ (by simp) rfl v4 rfl _ rfl;have e9:v9=_:=c ⟨9,.data⟩ (by simp) rfl v9 rfl _ rfl;subst e4 e9;exact .inl ⟨rfl,aJ (v:= .slice (some ⟨W.heap.size,0,none⟩) 2 2) (w':=W.alloc (.cells #[.int .i64 (bK a1 b1),.int .i64 (bK a2 b2)] 3)) (by go_simp) ⟨(af _ W).alloc ai _,W.heap.size,rfl,Bk.new W _ _⟩⟩
    | 11,_,rfl =>
      obtain⟨b0,rfl,m⟩: (SlP a1 a2 b1 b2) d W:=c ⟨10,.data⟩ (by simp) rfl d rfl;refine .inl ⟨rfl,iN (f:=116) (args:=#[.slice (some ⟨b0,0,none⟩) 2 2]) (by go_simp) ((BF b0 3 _ _ W m).mono ?_)⟩;rintro e W' ⟨rfl,rfl⟩;exact⟨_,rfl,af _ _,fun _=>aI⟩
    | i+12,hi,_=>exact absurd hi (by omega)
   case tailA =>
    intro vs W hv hR c;obtain⟨v0,v1,v2,v3,v4,v5,v6,v7,v8,v9,d,g,rfl⟩:=qU hv;simp only[List.zip,List.zipWith,aR,Act.put,List.setIfInBounds_toArray,List.set,List.drop];have e0:v0=_:=c 0 v0 rfl _ rfl;have e1:v1=_:=c 1 v1 rfl _ rfl;have e2:v2=_:=c 2 v2 rfl _ rfl;have e3:v3=_:=c 3 v3 rfl _ rfl;have e4:v4=_:=c 4 v4 rfl _ rfl;have e5:v5=_:=c 5 v5 rfl _ rfl;have e6:v6=_:=c 6 v6 rfl _ rfl;have e7:v7=_:=c 7 v7 rfl _ rfl;have e8:v8=_:=c 8 v8 rfl _ rfl;have e9:v9=_:=c 9 v9 rfl _ rfl;have n: (SlP a1 a2 b1 b2) d W:=c 10 d rfl;have q:g=_:=c 11 g rfl _ rfl;subst e0 e1 e2 e3 e4 e5 e6 e7 e8 e9 q;clear c hv;obtain⟨b0,rfl,_⟩:=n;go_wp2_with fail;go_ret
    exact⟨by rw[H0.o];rfl,HL.o.trans (hR.mono (by omega))⟩
def itC(i:Itm):List M4:= [.int .u64 i.1.1,.int .u64 i.1.2,.string i.2]
def itV(i:Itm):M4:= .agg #[.int .u64 i.1.1,.int .u64 i.1.2,.string i.2]
theorem bO(i:Itm): (itC i).length=3:=rfl
theorem Sl.it{w:MZ}{B n k:Nat}{A:OA}{l:List Itm}(h:Sl w B 3 A n (flat itC l))(hk:k<n) :
  ∃b off i,A=some ⟨b,off,none⟩/\b<B/\l[k]? =some i/\w.cell? ⟨b,off+k*3,none⟩=some (.int .u64 i.1.1)/\w.cell? ⟨b,off+k*3+1,none⟩=some (.int .u64 i.1.2)/\w.cell? ⟨b,off+k*3+2,none⟩=some (.string i.2):=by
 obtain⟨b,off,x,e,hb,hx,hc⟩:=h.at_ bO (by omega) hk;exact⟨b,off,x,e,hb,hx,hc 0 _ rfl,hc 1 _ rfl,hc 2 _ rfl⟩
theorem Bk.three{w:MZ}{b:Nat}{t:TypeId}{x y z:M4}(h:Bk w b t #[x,y,z]):w.cell? ⟨b,0,none⟩=some x/\w.cell? ⟨b,1,none⟩=some y/\w.cell? ⟨b,2,none⟩=some z:=by
 have c0:=h.cell 0;have c1:=h.cell 1;have c2:=h.cell 2;simp at c0 c1 c2;exact⟨c0,c1,c2⟩
theorem yZ(i:Itm)(d:Dig)(w:MZ):Calls Tryz.prog 182 #[itV i,aB d] w (CmE i.1 d w):=by
 obtain⟨⟨i1,i2⟩,s⟩:=i;obtain⟨d1,d2⟩:=d;obtain⟨z,hz⟩:=NX9 (bX (i1,i2) (d1,d2))
 obtain⟨W,hW⟩:=NX9 ((w.alloc (.cells #[.int .u64 i1,.int .u64 i2,.string s] 118)).alloc (.cells #[.int .u64 d1,.int .u64 d2] 50))
 have HA:Hid (Bk W w.heap.size 118 #[.int .u64 i1,.int .u64 i2,.string s]):=by rw[<-hW];exact(Bk.new w _ _).alloc _
 have HB:Hid (Bk W (w.heap.size+1) 50 #[.int .u64 d1,.int .u64 d2]):=by
  rw[<-hW];have:=Bk.new (w.alloc (.cells #[.int .u64 i1,.int .u64 i2,.string s] 118)) 50 #[.int .u64 d1,.int .u64 d2];rw[Z9]at this;exact this
 have HL:Hid (Below w.heap.size w W):=by rw[<-hW];exact((af _ w).alloc ai _).alloc (by simp) _
 have a:w.heap.size<=W.heap.size:=HL.o.size;have HC:=ah (tC (i1,i2) (d1,d2) W);unfold CmE at HC ⊢;simp only;rw[hz]at HC ⊢;simp only[aB,itV]at HC ⊢;clear hz;obtain⟨c0,c1,_⟩:=HA.o.three;obtain⟨c2,c3,_,_⟩:=HB.o.two
 go_enter Tryz.func182,Tryz.ntmps182
 go_wp2_with fail;refine HC.o.mono ?_;rintro e w2 ⟨rfl,hb⟩;go_wp2_with fail;go_ret
 exact⟨rfl,HL.o.trans (hb.mono a)⟩
theorem Je{p:List Itm}{d:Dig}{i:Itm}(h:p[atD p d]? =some i): (bE p d).isSome=decide (bX i.1 d=0):=by
 unfold bE;rw[h];simp only;by_cases e:i.1=d
 . rw[if_pos e,decide_eq_true ((mf _ _).2 e)];rfl
 . rw[if_neg e,decide_eq_false (fun h=>e ((mf _ _).1 h))];rfl
theorem Gj{p:List Itm}{d:Dig}(h:p.length<=atD p d): (bE p d).isSome=false:=by
 unfold bE;rw[List.getElem?_eq_none h];rfl
def BsE(p:List Itm)(d:Dig)(w:MZ)(e:Ending)(w':MZ):Prop:=e= .returned (.tuple #[.int .i64 (atD p d:Nat),.bool (bE p d).isSome])/\Below w.heap.size w w'
theorem JZ(A:OA)(n c B:Nat)(p:List Itm)(d:Dig)(w:MZ)(h0:Sl w B 3 A n (flat itC p))(hB:B<=w.heap.size)(hn:n<=1000000)(ha:AscI p) :
  Calls Tryz.prog 181 #[.slice A n c,aB d,.func (.func 182) #[] #[]] w (BsE p d w):=by
 have HL:=ah (h0.len bO (by omega));have H0:=ah h0;have HA:=ah ha;clear h0 ha;obtain⟨d1,d2⟩:=d;obtain⟨m,hm⟩:=NX9 (atD p (d1,d2))
 have E:m<=n:=by rw[<-hm,<-HL.o];exact Cy _ _
 have HM:=ah hm;obtain⟨q,hq⟩:=NX9 ((bE p (d1,d2)).isSome)
 have HQ:=ah hq;unfold BsE;rw[hm,hq];clear hm hq;obtain⟨W,hW⟩:=NX9 (w.alloc (.cells #[.int .u64 d1,.int .u64 d2] 50))
 have y:Hid (Below w.heap.size w W):=by rw[<-hW];exact(af _ w).alloc ai _
 have HK:Hid (Bk W w.heap.size 50 #[.int .u64 d1,.int .u64 d2]):=by rw[<-hW];exact Bk.new w _ _
 have zk:w.heap.size<W.heap.size:=HK.o.lt;simp only[aB]
 go_enter Tryz.func181,Tryz.ntmps181
 go_wp2_with fail;clear hW
 go_loopw[9,10] (fun i j wr=>∃a b:Nat,i= .int .i64 (a:Int)/\j= .int .i64 (b:Int)/\a<=m/\m<=b/\b<=n/\Hid (Below W.heap.size W wr)) (fun i j _=>(intOf j).toNat - (intOf i).toNat)
 case atStart=>exact⟨0,n,rfl,rfl,ZZ _,E,Nat.le_refl _,af _ _⟩
 case round =>
  obtain⟨a,b,rfl,rfl,F,G,H,r⟩:=hrel;have u:Hid (Below w.heap.size w wr):=y.o.trans (r.o.mono y.o.size);obtain⟨x0,x1,_,_⟩:=(HK.o.below r.o zk).two;by_cases hlt:a<b
  . have I: (a:Int)< (b:Int):=by omega
    obtain⟨h,hh⟩:=NX9 ((a+b) / 2)
    have N:a<=h:=by omega
    have O:h<b:=by omega
    obtain⟨bb,l,i,rfl,J,hx,y0,y1,y2⟩:=(H0.o.below u.o hB).it (k:=h) (by omega);have HX:=ah hx;clear hx;obtain⟨⟨i1,i2⟩,s⟩:=i;simp only at y0 y1 y2;obtain⟨z,hz⟩:=NX9 (bX (i1,i2) (d1,d2))
    have HZ:=ah hz;have x:Hid (∀w,Calls Tryz.prog 182 #[.agg #[.int .u64 i1,.int .u64 i2,.string s],.agg #[.int .u64 d1,.int .u64 d2]] w fun e w'=>e= .returned (.int .i64 z)/\Below w.heap.size w w'):=fun w=>by
     have:=yZ ((i1,i2),s) (d1,d2) w;unfold CmE at this;simp only[hz]at this;exact this
    have P: ((a:Int)+ (b:Int)) / 2= (h:Int):=by omega
    have K:w.heap.size<wr.heap.size:=Nat.lt_of_lt_of_le zk r.o.size;have Q:h<n:=by omega
    clear hz;by_cases hl:ltD (i1,i2) (d1,d2)
    . have L:z<0:=by rw[<-HZ.o];exact(uW _ _).2 hl
      have C:h<m:=by
       rcases Nat.lt_or_ge h m with h1 | h1
       . exact h1
       . exact absurd hl (yN HA.o HX.o (by rw[HM.o];exact h1))
      clear hl;go_wp2_with fail;have k0:=y0;have k1:=y1;have k2:=y2;have g0:=x0;have g1:=x1;refine jC 7 (24::25::26::27::28::29::30:: []) (by kernel_rfl) (by kernel_rfl) (by kernel_rfl) (fun W=>Below wr.heap.size wr W) (fun W W'=>Below W.heap.size W W')
       (lJ ((.func (.func 182) #[] #[]):: (.slice (some ⟨bb,l,none⟩) n c):: (.int .i64 h):: (.pointer (some ⟨bb,l+h*3,none⟩)):: (.agg #[.int .u64 i1,.int .u64 i2,.string s]):: (.agg #[.int .u64 d1,.int .u64 d2]):: (.int .i64 z):: [])) (fun W W' h1 h2=>h1.trans (h2.mono h1.size)) (fun i v W W' h _=>h) (af _ _).drew ?stepA ?tailA
      case stepA =>
       intro i o vs W hi ho hv hR g;obtain⟨v0,v1,v2,v3,v4,v5,v6,rfl⟩:=ls7 hv;simp only[List.zip,List.zipWith,aR,Act.put,List.setIfInBounds_toArray,List.set];have M:=hR.size;have y0:=(hR.cell (p:=⟨bb,l+h*3,none⟩) (by show bb<_;omega)).trans k0;have y1:=(hR.cell (p:=⟨bb,l+h*3+1,none⟩) (by show bb<_;omega)).trans k1;have y2:=(hR.cell (p:=⟨bb,l+h*3+2,none⟩) (by show bb<_;omega)).trans k2;have x0:=(hR.cell (p:=⟨w.heap.size,0,none⟩) (by show w.heap.size<_;omega)).trans g0;have x1:=(hR.cell (p:=⟨w.heap.size,1,none⟩) (by show w.heap.size<_;omega)).trans g1
       match i,hi,ho with
       | 0,_,rfl =>
         exact .inl ⟨rfl,aJ (v:= .func (.func 182) #[] #[]) (w':=W) (by go_simp) ⟨af _ _,fun _=>aI⟩⟩
       | 1,_,rfl =>
         exact .inl ⟨rfl,aJ (v:= .slice (some ⟨bb,l,none⟩) n c) (w':=W) (by go_simp) ⟨af _ _,fun _=>aI⟩⟩
       | 2,_,rfl =>
         exact .inl ⟨rfl,aJ (v:= .int .i64 h) (w':=W) (by go_simp) ⟨af _ _,fun _=>aI⟩⟩
       | 3,_,rfl =>
         have e1:v1=_:=g ⟨1,.data⟩ (by simp) rfl v1 rfl _ rfl;have e2:v2=_:=g ⟨2,.data⟩ (by simp) rfl v2 rfl _ rfl;subst e1 e2;exact .inl ⟨rfl,aJ (v:= .pointer (some ⟨bb,l+h*3,none⟩)) (w':=W) (by go_simp) ⟨af _ _,fun _=>aI⟩⟩
       | 4,_,rfl =>
         have e3:v3=_:=g ⟨3,.data⟩ (by simp) rfl v3 rfl _ rfl;subst e3;exact .inl ⟨rfl,aJ (v:= .agg #[.int .u64 i1,.int .u64 i2,.string s]) (w':=W) (by go_simp) ⟨af _ _,fun _=>aI⟩⟩
       | 5,_,rfl =>
         exact .inl ⟨rfl,aJ (v:= .agg #[.int .u64 d1,.int .u64 d2]) (w':=W) (by go_simp) ⟨af _ _,fun _=>aI⟩⟩
       | 6,_,rfl =>
         have e0:v0=_:=g ⟨0,.data⟩ (by simp) rfl v0 rfl _ rfl;have e4:v4=_:=g ⟨4,.data⟩ (by simp) rfl v4 rfl _ rfl;have e5:v5=_:=g ⟨5,.data⟩ (by simp) rfl v5 rfl _ rfl;subst e0 e4 e5;refine .inl ⟨rfl,iN (f:=182) (args:=#[.agg #[.int .u64 i1,.int .u64 i2,.string s],.agg #[.int .u64 d1,.int .u64 d2]]) (by go_simp) ((x.o W).mono ?_)⟩;rintro e W' ⟨rfl,hb⟩;exact⟨_,rfl,hb,fun _=>aI⟩
       | i+7,hi,_=>exact absurd hi (by omega)
      case tailA =>
       intro vs W hv hR g;obtain⟨v0,v1,v2,v3,v4,v5,v6,rfl⟩:=ls7 hv;simp only[List.zip,List.zipWith,aR,Act.put,List.setIfInBounds_toArray,List.set,List.drop];have e0:v0=_:=g 0 v0 rfl _ rfl;have e1:v1=_:=g 1 v1 rfl _ rfl;have e2:v2=_:=g 2 v2 rfl _ rfl;have e3:v3=_:=g 3 v3 rfl _ rfl;have e4:v4=_:=g 4 v4 rfl _ rfl;have e5:v5=_:=g 5 v5 rfl _ rfl;have e6:v6=_:=g 6 v6 rfl _ rfl;subst e0 e1 e2 e3 e4 e5 e6;clear g hv;go_wp2_with fail;go_roundw
       case rel=>exact⟨h+1,b,by go_num,rfl,by omega,G,H,r.o.trans (hR.mono r.o.size)⟩
       case measure=>simp[intOf];omega
    . have L:¬z<0:=by rw[<-HZ.o];exact fun h=>hl ((uW _ _).1 h)
      have C:m<=h:=by
       rcases Nat.lt_or_ge h m with h1 | h1
       . exact absurd (yS HA.o HX.o (by rw[HM.o];exact h1)) hl
       . exact h1
      clear hl;go_wp2_with fail;have k0:=y0;have k1:=y1;have k2:=y2;have g0:=x0;have g1:=x1;refine jC 7 (24::25::26::27::28::29::30:: []) (by kernel_rfl) (by kernel_rfl) (by kernel_rfl) (fun W=>Below wr.heap.size wr W) (fun W W'=>Below W.heap.size W W')
       (lJ ((.func (.func 182) #[] #[]):: (.slice (some ⟨bb,l,none⟩) n c):: (.int .i64 h):: (.pointer (some ⟨bb,l+h*3,none⟩)):: (.agg #[.int .u64 i1,.int .u64 i2,.string s]):: (.agg #[.int .u64 d1,.int .u64 d2]):: (.int .i64 z):: [])) (fun W W' h1 h2=>h1.trans (h2.mono h1.size)) (fun i v W W' h _=>h) (af _ _).drew ?stepB ?tailB
      case stepB =>
       intro i o vs W hi ho hv hR g;obtain⟨v0,v1,v2,v3,v4,v5,v6,rfl⟩:=ls7 hv;simp only[List.zip,List.zipWith,aR,Act.put,List.setIfInBounds_toArray,List.set];have M:=hR.size;have y0:=(hR.cell (p:=⟨bb,l+h*3,none⟩) (by show bb<_;omega)).trans k0;have y1:=(hR.cell (p:=⟨bb,l+h*3+1,none⟩) (by show bb<_;omega)).trans k1;have y2:=(hR.cell (p:=⟨bb,l+h*3+2,none⟩) (by show bb<_;omega)).trans k2;have x0:=(hR.cell (p:=⟨w.heap.size,0,none⟩) (by show w.heap.size<_;omega)).trans g0;have x1:=(hR.cell (p:=⟨w.heap.size,1,none⟩) (by show w.heap.size<_;omega)).trans g1
       match i,hi,ho with
       | 0,_,rfl =>
         exact .inl ⟨rfl,aJ (v:= .func (.func 182) #[] #[]) (w':=W) (by go_simp) ⟨af _ _,fun _=>aI⟩⟩
       | 1,_,rfl =>
         exact .inl ⟨rfl,aJ (v:= .slice (some ⟨bb,l,none⟩) n c) (w':=W) (by go_simp) ⟨af _ _,fun _=>aI⟩⟩
       | 2,_,rfl =>
         exact .inl ⟨rfl,aJ (v:= .int .i64 h) (w':=W) (by go_simp) ⟨af _ _,fun _=>aI⟩⟩
       | 3,_,rfl =>
         have e1:v1=_:=g ⟨1,.data⟩ (by simp) rfl v1 rfl _ rfl;have e2:v2=_:=g ⟨2,.data⟩ (by simp) rfl v2 rfl _ rfl;subst e1 e2;exact .inl ⟨rfl,aJ (v:= .pointer (some ⟨bb,l+h*3,none⟩)) (w':=W) (by go_simp) ⟨af _ _,fun _=>aI⟩⟩
       | 4,_,rfl =>
         have e3:v3=_:=g ⟨3,.data⟩ (by simp) rfl v3 rfl _ rfl;subst e3;exact .inl ⟨rfl,aJ (v:= .agg #[.int .u64 i1,.int .u64 i2,.string s]) (w':=W) (by go_simp) ⟨af _ _,fun _=>aI⟩⟩
       | 5,_,rfl =>
         exact .inl ⟨rfl,aJ (v:= .agg #[.int .u64 d1,.int .u64 d2]) (w':=W) (by go_simp) ⟨af _ _,fun _=>aI⟩⟩
       | 6,_,rfl =>
         have e0:v0=_:=g ⟨0,.data⟩ (by simp) rfl v0 rfl _ rfl;have e4:v4=_:=g ⟨4,.data⟩ (by simp) rfl v4 rfl _ rfl;have e5:v5=_:=g ⟨5,.data⟩ (by simp) rfl v5 rfl _ rfl;subst e0 e4 e5;refine .inl ⟨rfl,iN (f:=182) (args:=#[.agg #[.int .u64 i1,.int .u64 i2,.string s],.agg #[.int .u64 d1,.int .u64 d2]]) (by go_simp) ((x.o W).mono ?_)⟩;rintro e W' ⟨rfl,hb⟩;exact⟨_,rfl,hb,fun _=>aI⟩
       | i+7,hi,_=>exact absurd hi (by omega)
      case tailB =>
       intro vs W hv hR g;obtain⟨v0,v1,v2,v3,v4,v5,v6,rfl⟩:=ls7 hv;simp only[List.zip,List.zipWith,aR,Act.put,List.setIfInBounds_toArray,List.set,List.drop];have e0:v0=_:=g 0 v0 rfl _ rfl;have e1:v1=_:=g 1 v1 rfl _ rfl;have e2:v2=_:=g 2 v2 rfl _ rfl;have e3:v3=_:=g 3 v3 rfl _ rfl;have e4:v4=_:=g 4 v4 rfl _ rfl;have e5:v5=_:=g 5 v5 rfl _ rfl;have e6:v6=_:=g 6 v6 rfl _ rfl;subst e0 e1 e2 e3 e4 e5 e6;clear g hv;go_wp2_with fail;go_roundw
       case rel=>exact⟨a,h,rfl,by go_num,F,C,by omega,r.o.trans (hR.mono r.o.size)⟩
       case measure=>simp[intOf];omega
  . have I:¬(a:Int)< (b:Int):=by omega
    obtain rfl:a=m:=by omega
    obtain rfl:b=a:=by omega
    by_cases hbn':b<n
    . obtain⟨bb,l,i,rfl,J,hx,y0,y1,y2⟩:=(H0.o.below u.o hB).it (k:=b) hbn'
      have HF:=ah (Je (d:=(d1,d2)) (i:=i) (by rw[HM.o];exact hx));clear hx;rw[HQ.o]at HF;obtain⟨⟨i1,i2⟩,s⟩:=i;simp only at y0 y1 y2 HF;obtain⟨z,hz⟩:=NX9 (bX (i1,i2) (d1,d2))
      have x:Hid (∀w,Calls Tryz.prog 182 #[.agg #[.int .u64 i1,.int .u64 i2,.string s],.agg #[.int .u64 d1,.int .u64 d2]] w fun e w'=>e= .returned (.int .i64 z)/\Below w.heap.size w w'):=fun w=>by
       have:=yZ ((i1,i2),s) (d1,d2) w;unfold CmE at this;simp only[hz]at this;exact this
      rw[hz]at HF;have D: (b:Int)< (n:Int):=by omega
      have K:w.heap.size<wr.heap.size:=Nat.lt_of_lt_of_le zk r.o.size;clear hz;go_wp2_with fail
      go_region_held3 (fun w'=>w'.cell? ⟨bb,l+b*3,none⟩=some (.int .u64 i1)/\w'.cell? ⟨bb,l+b*3+1,none⟩=some (.int .u64 i2)/\w'.cell? ⟨bb,l+b*3+2,none⟩=some (.string s)/\w'.cell? ⟨w.heap.size,0,none⟩=some (.int .u64 d1)/\w'.cell? ⟨w.heap.size,1,none⟩=some (.int .u64 d2))
       (first | exact⟨y0,y1,y2,x0,x1⟩ | exact⟨m0.o,m1.o,m2.o,m3.o,m4.o⟩)
       (first
         | (go_at_call 182;refine(x.o _).mono ?_;rintro e w2 ⟨rfl,t⟩
            have m0:=ah ((t.cell (p:=⟨bb,l+b*3,none⟩) (by show bb<_;simp;omega)).trans y0);have m1:=ah ((t.cell (p:=⟨bb,l+b*3+1,none⟩) (by show bb<_;simp;omega)).trans y1);have m2:=ah ((t.cell (p:=⟨bb,l+b*3+2,none⟩) (by show bb<_;simp;omega)).trans y2);have m3:=ah ((t.cell (p:=⟨w.heap.size,0,none⟩) (by show w.heap.size<_;simp;omega)).trans x0);have m4:=ah ((t.cell (p:=⟨w.heap.size,1,none⟩) (by show w.heap.size<_;simp;omega)).trans x1);have hR:Hid (Below wr.heap.size wr w2):=(af _ wr).drew.trans t;clear t))
      go_wp2_with fail;go_ret2
      exact⟨by rw[HF.o];rfl,u.o.trans (hR.o.mono u.o.size)⟩
    . have HF:Hid (q=false):=by
        show _=_;rw[<-HQ.o];exact Gj (by rw[HM.o,HL.o];omega)
      have D:¬(b:Int)< (n:Int):=by omega
      go_wp2_with fail
      go_quiet(fail)
      go_wp2_with fail;go_ret2
      exact⟨by rw[HF.o];rfl,bN u.o _⟩
theorem sM(A:OA)(n c B:Nat)(p:List Itm)(d:Dig)(w:MZ)(h0:Sl w B 3 A n (flat itC p))(hB:B<=w.heap.size)(hn:n<=1000000)(ha:AscI p) :
  Calls Tryz.prog 112 #[.slice A n c,aB d] w (BsE p d w):=by
 obtain⟨d1,d2⟩:=d;obtain⟨W,hW⟩:=NX9 (w.alloc (.cells #[.int .u64 d1,.int .u64 d2] 50))
 have a:Hid (Below w.heap.size w W):=by rw[<-hW];exact(af _ w).alloc ai _
 have HK:Hid (Bk W w.heap.size 50 #[.int .u64 d1,.int .u64 d2]):=by rw[<-hW];exact Bk.new w _ _
 have HC:=ah (JZ A n c B p (d1,d2) W (h0.below a.o hB) (Z0 hB a.o.size) hn ha);clear h0;unfold BsE at HC ⊢;simp only[aB]at HC ⊢;obtain⟨x0,x1,_,_⟩:=HK.o.two
 go_enter Tryz.func112,Tryz.ntmps112
 go_wp2_with fail;refine HC.o.mono ?_;rintro e w2 ⟨rfl,hb⟩;have b:=ah hb;clear hb;go_wp2_with fail;go_ret2
 exact⟨rfl,a.o.trans (b.o.mono a.o.size)⟩
theorem IL(A:OA)(n c B:Nat)(p:List Itm)(d:Dig)(w:MZ)(h0:Sl w B 3 A n (flat itC p))(hB:B<=w.heap.size)(hn:n<=1000000)(ha:AscI p) :
  Calls Tryz.prog 76 #[.slice A n c,aB d] w fun e w'=>e= .returned (.bool (bE p d).isSome)/\Below w.heap.size w w':=by
 obtain⟨d1,d2⟩:=d;obtain⟨W,hW⟩:=NX9 (w.alloc (.cells #[.int .u64 d1,.int .u64 d2] 50))
 have a:Hid (Below w.heap.size w W):=by rw[<-hW];exact(af _ w).alloc ai _
 have HK:Hid (Bk W w.heap.size 50 #[.int .u64 d1,.int .u64 d2]):=by rw[<-hW];exact Bk.new w _ _
 have HC:=ah (sM A n c B p (d1,d2) W (h0.below a.o hB) (Z0 hB a.o.size) hn ha);clear h0;unfold BsE at HC;simp only[aB]at HC ⊢;obtain⟨x0,x1,_,_⟩:=HK.o.two
 go_enter Tryz.func76,Tryz.ntmps76
 go_wp2_with fail;refine HC.o.mono ?_;rintro e w2 ⟨rfl,hb⟩;have b:=ah hb;clear hb;go_wp2_with fail;go_ret
 exact⟨rfl,a.o.trans (b.o.mono a.o.size)⟩
