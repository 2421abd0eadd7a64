/-Lemmas.-/
import Derived.Deep.RegionHeld3
import Derived.Test.YtknefelegjlgnaaGreatDoorCCCm6
set_option maxRecDepth 100000
set_option maxHeartbeats 8000000
namespace Go.Proofs.YtknefelegjlgnaaGreatDoor
open Go.RowKit
def itC(i:Itm):List VC:= [.int .u64 i.1.1,.int .u64 i.1.2,.string i.2]
def itV(i:Itm):VC:= .agg #[.int .u64 i.1.1,.int .u64 i.1.2,.string i.2]
theorem dD(i:Itm): (itC i).length=3:=rfl
theorem Sl.it{w:VA}{B n k:Nat}{A:OA}{l:List Itm}(h:Sl w B 3 A n (flat itC l))(hk:k<n) :
  ∃b off i,A=some ⟨b,off,none⟩/\b<B/\l[k]? =some i/\w.cell? ⟨b,off+k*3,none⟩=some (.int .u64 i.1.1)/\w.cell? ⟨b,off+k*3+1,none⟩=some (.int .u64 i.1.2)/\w.cell? ⟨b,off+k*3+2,none⟩=some (.string i.2):=by
 obtain⟨b,off,x,e,hb,hx,hc⟩:=h.at_ dD (by omega) hk;exact⟨b,off,x,e,hb,hx,hc 0 _ rfl,hc 1 _ rfl,hc 2 _ rfl⟩
theorem Bk.three{w:VA}{b:Nat}{t:TypeId}{x y z:VC}(h:Bk w b t #[x,y,z]):w.cell? ⟨b,0,none⟩=some x/\w.cell? ⟨b,1,none⟩=some y/\w.cell? ⟨b,2,none⟩=some z:=by
 have c0:=h.cell 0;have c1:=h.cell 1;have c2:=h.cell 2;simp at c0 c1 c2;exact⟨c0,c1,c2⟩
theorem Dz(i:Itm)(d:Dig)(w:VA):Calls Tryz.prog 182 #[itV i,az d] w (CmE i.1 d w):=by
 obtain⟨⟨i1,i2⟩,s⟩:=i;obtain⟨d1,d2⟩:=d;obtain⟨z,hz⟩:=NX9 (dH (i1,i2) (d1,d2))
 obtain⟨W,hW⟩:=NX9 ((w.alloc (.cells #[.int .u64 i1,.int .u64 i2,.string s] 118)).alloc (.cells #[.int .u64 d1,.int .u64 d2] 50))
 have HA:Hid (Bk W w.heap.size 118 #[.int .u64 i1,.int .u64 i2,.string s]):=by rw[<-hW];exact(Bk.new w _ _).alloc _
 have HB:Hid (Bk W (w.heap.size+1) 50 #[.int .u64 d1,.int .u64 d2]):=by
  rw[<-hW];have:=Bk.new (w.alloc (.cells #[.int .u64 i1,.int .u64 i2,.string s] 118)) 50 #[.int .u64 d1,.int .u64 d2];rw[Z9]at this;exact this
 have HL:VF w W:=by rw[<-hW];exact((ah _ w).alloc aj _).alloc (by simp) _
 have a:w.heap.size<=W.heap.size:=HL.o.size;have HC:=ai (xC (i1,i2) (d1,d2) W);unfold CmE at HC ⊢;simp only;rw[hz]at HC ⊢;simp only[az,itV]at HC ⊢;clear hz;obtain⟨c0,c1,_⟩:=HA.o.three;obtain⟨c2,c3,_,_⟩:=HB.o.two
 go_enter Tryz.func182,Tryz.ntmps182
 go_wp2_with fail;refine HC.o.mono ?_;rintro e w2 ⟨rfl,hb⟩;go_wp2_with fail;go_ret
 exact⟨rfl,HL.o.trans (hb.mono a)⟩
theorem QU{p:List Itm}{d:Dig}{i:Itm}(h:p[atD p d]? =some i): (bT p d).isSome=decide (dH i.1 d=0):=by
 unfold bT;rw[h];simp only;by_cases e:i.1=d
 . rw[if_pos e,decide_eq_true ((sF _ _).2 e)];rfl
 . rw[if_neg e,decide_eq_false (fun h=>e ((sF _ _).1 h))];rfl
theorem Oc{p:List Itm}{d:Dig}(h:p.length<=atD p d): (bT p d).isSome=false:=by
 unfold bT;rw[List.getElem?_eq_none h];rfl
def BsE(p:List Itm)(d:Dig)(w:VA)(e:Ending)(w':VA):Prop:=e= .returned (.tuple #[.int .i64 (atD p d:Nat),.bool (bT p d).isSome])/\VE w w'
theorem Tm(A:OA)(n c B:Nat)(p:List Itm)(d:Dig)(w:VA)(h0:Sl w B 3 A n (flat itC p))(hB:B<=w.heap.size)(hn:n<=1000000)(ha:AscI p) :
  Calls Tryz.prog 181 #[.slice A n c,az d,.func (.func 182) #[] #[]] w (BsE p d w):=by
 have HL:=ai (h0.len dD (by omega));have H0:=ai h0;have HA:=ai ha;clear h0 ha;obtain⟨d1,d2⟩:=d;obtain⟨m,hm⟩:=NX9 (atD p (d1,d2))
 have hmn:m<=n:=by rw[<-hm,<-HL.o];exact Iw _ _
 have HM:=ai hm;obtain⟨q,hq⟩:=NX9 ((bT p (d1,d2)).isSome)
 have HQ:=ai hq;unfold BsE;rw[hm,hq];clear hm hq;obtain⟨W,hW⟩:=NX9 (w.alloc (.cells #[.int .u64 d1,.int .u64 d2] 50))
 have HB0:VF w W:=by rw[<-hW];exact(ah _ w).alloc aj _
 have HK:Hid (Bk W w.heap.size 50 #[.int .u64 d1,.int .u64 d2]):=by rw[<-hW];exact Bk.new w _ _
 have r:w.heap.size<W.heap.size:=HK.o.lt;simp only[az]
 go_enter Tryz.func181,Tryz.ntmps181
 go_wp2_with fail;clear hW
 go_loopw[9,10] (fun i j wr=>∃a b:Nat,i= .int .i64 (a:Int)/\j= .int .i64 (b:Int)/\a<=m/\m<=b/\b<=n/\VF W wr) (fun i j _=>(intOf j).toNat - (intOf i).toNat)
 case atStart=>exact⟨0,n,rfl,rfl,ZX _,hmn,Nat.le_refl _,ah _ _⟩
 case round =>
  obtain⟨a,b,rfl,rfl,ham,hmb,hbn,hBel⟩:=hrel;have l:VF w wr:=HB0.o.trans (hBel.o.mono HB0.o.size);obtain⟨x0,x1,_,_⟩:=(HK.o.below hBel.o r).two;by_cases hlt:a<b
  . have hlz: (a:Int)< (b:Int):=by omega
    obtain⟨h,hh⟩:=NX9 ((a+b) / 2)
    have hah:a<=h:=by omega
    have hhb:h<b:=by omega
    obtain⟨bb,off,i,rfl,hbB,hx,y0,y1,y2⟩:=(H0.o.below l.o hB).it (k:=h) (by omega);have HX:=ai hx;clear hx;obtain⟨⟨i1,i2⟩,s⟩:=i;simp only at y0 y1 y2;obtain⟨z,hz⟩:=NX9 (dH (i1,i2) (d1,d2))
    have HZ:=ai hz;have HC2:Hid (∀w,Calls Tryz.prog 182 #[.agg #[.int .u64 i1,.int .u64 i2,.string s],.agg #[.int .u64 d1,.int .u64 d2]] w fun e w'=>e= .returned (.int .i64 z)/\VE w w'):=fun w=>by
     have:=Dz ((i1,i2),s) (d1,d2) w;unfold CmE at this;simp only[hz]at this;exact this
    have hh': ((a:Int)+ (b:Int)) / 2= (h:Int):=by omega
    have t:w.heap.size<wr.heap.size:=Nat.lt_of_lt_of_le r hBel.o.size;have hhn:h<n:=by omega
    clear hz;by_cases hl:ltD (i1,i2) (d1,d2)
    . have hzn:z<0:=by rw[<-HZ.o];exact(yP _ _).2 hl
      have hhm:h<m:=by
       rcases Nat.lt_or_ge h m with h1 | h1
       . exact h1
       . exact absurd hl (DC HA.o HX.o (by rw[HM.o];exact h1))
      clear hl;go_wp2_with fail;have k0:=y0;have k1:=y1;have k2:=y2;have g0:=x0;have g1:=x1;refine mD 7 (24::25::26::27::28::29::30:: []) (by kernel_rfl) (by kernel_rfl) (by kernel_rfl) (fun W=>VE wr W) (fun W W'=>VE W W')
       (oC ((.func (.func 182) #[] #[]):: (.slice (some ⟨bb,off,none⟩) n c):: (.int .i64 h):: (.pointer (some ⟨bb,off+h*3,none⟩)):: (.agg #[.int .u64 i1,.int .u64 i2,.string s]):: (.agg #[.int .u64 d1,.int .u64 d2]):: (.int .i64 z):: [])) (fun W W' h1 h2=>h1.trans (h2.mono h1.size)) (fun i v W W' h _=>h) (ah _ _).drew ?stepA ?tailA
      case stepA =>
       intro i o vs W hi ho hv hR g;obtain⟨v0,v1,v2,v3,v4,v5,v6,rfl⟩:=ls7 hv;simp only[List.zip,List.zipWith,aZ,Act.put,List.setIfInBounds_toArray,List.set];have u:=hR.size;have y0:=(hR.cell (p:=⟨bb,off+h*3,none⟩) (by show bb<_;omega)).trans k0;have y1:=(hR.cell (p:=⟨bb,off+h*3+1,none⟩) (by show bb<_;omega)).trans k1;have y2:=(hR.cell (p:=⟨bb,off+h*3+2,none⟩) (by show bb<_;omega)).trans k2;have x0:=(hR.cell (p:=⟨w.heap.size,0,none⟩) (by show w.heap.size<_;omega)).trans g0;have x1:=(hR.cell (p:=⟨w.heap.size,1,none⟩) (by show w.heap.size<_;omega)).trans g1
       match i,hi,ho with
       | 0,_,rfl =>
         exact .inl ⟨rfl,aS (v:= .func (.func 182) #[] #[]) (w':=W) (by go_simp) ⟨ah _ _,fun _=>aT⟩⟩
       | 1,_,rfl =>
         exact .inl ⟨rfl,aS (v:= .slice (some ⟨bb,off,none⟩) n c) (w':=W) (by go_simp) ⟨ah _ _,fun _=>aT⟩⟩
       | 2,_,rfl =>
         exact .inl ⟨rfl,aS (v:= .int .i64 h) (w':=W) (by go_simp) ⟨ah _ _,fun _=>aT⟩⟩
       | 3,_,rfl =>
         have e1:v1=_:=g ⟨1,.data⟩ (by simp) rfl v1 rfl _ rfl;have e2:v2=_:=g ⟨2,.data⟩ (by simp) rfl v2 rfl _ rfl;subst e1 e2;exact .inl ⟨rfl,aS (v:= .pointer (some ⟨bb,off+h*3,none⟩)) (w':=W) (by go_simp) ⟨ah _ _,fun _=>aT⟩⟩
       | 4,_,rfl =>
         have e3:v3=_:=g ⟨3,.data⟩ (by simp) rfl v3 rfl _ rfl;subst e3;exact .inl ⟨rfl,aS (v:= .agg #[.int .u64 i1,.int .u64 i2,.string s]) (w':=W) (by go_simp) ⟨ah _ _,fun _=>aT⟩⟩
       | 5,_,rfl =>
         exact .inl ⟨rfl,aS (v:= .agg #[.int .u64 d1,.int .u64 d2]) (w':=W) (by go_simp) ⟨ah _ _,fun _=>aT⟩⟩
       | 6,_,rfl =>
         have e0:v0=_:=g ⟨0,.data⟩ (by simp) rfl v0 rfl _ rfl;have e4:v4=_:=g ⟨4,.data⟩ (by simp) rfl v4 rfl _ rfl;have e5:v5=_:=g ⟨5,.data⟩ (by simp) rfl v5 rfl _ rfl;subst e0 e4 e5;refine .inl ⟨rfl,mW (f:=182) (args:=#[.agg #[.int .u64 i1,.int .u64 i2,.string s],.agg #[.int .u64 d1,.int .u64 d2]]) (by go_simp) ((HC2.o W).mono ?_)⟩;rintro e W' ⟨rfl,hb⟩;exact⟨_,rfl,hb,fun _=>aT⟩
       | i+7,hi,_=>exact absurd hi (by omega)
      case tailA =>
       intro vs W hv hR g;obtain⟨v0,v1,v2,v3,v4,v5,v6,rfl⟩:=ls7 hv;simp only[List.zip,List.zipWith,aZ,Act.put,List.setIfInBounds_toArray,List.set,List.drop];have e0:v0=_:=g 0 v0 rfl _ rfl;have e1:v1=_:=g 1 v1 rfl _ rfl;have e2:v2=_:=g 2 v2 rfl _ rfl;have e3:v3=_:=g 3 v3 rfl _ rfl;have e4:v4=_:=g 4 v4 rfl _ rfl;have e5:v5=_:=g 5 v5 rfl _ rfl;have e6:v6=_:=g 6 v6 rfl _ rfl;subst e0 e1 e2 e3 e4 e5 e6;clear g hv;go_wp2_with fail;go_roundw
       case rel=>exact⟨h+1,b,by go_num,rfl,by omega,hmb,hbn,hBel.o.trans (hR.mono hBel.o.size)⟩
       case measure=>simp[intOf];omega
    . have hzn:¬z<0:=by rw[<-HZ.o];exact fun h=>hl ((yP _ _).1 h)
      have hhm:m<=h:=by
       rcases Nat.lt_or_ge h m with h1 | h1
       . exact absurd (Ea HA.o HX.o (by rw[HM.o];exact h1)) hl
       . exact h1
      clear hl;go_wp2_with fail;have k0:=y0;have k1:=y1;have k2:=y2;have g0:=x0;have g1:=x1;refine mD 7 (24::25::26::27::28::29::30:: []) (by kernel_rfl) (by kernel_rfl) (by kernel_rfl) (fun W=>VE wr W) (fun W W'=>VE W W')
       (oC ((.func (.func 182) #[] #[]):: (.slice (some ⟨bb,off,none⟩) n c):: (.int .i64 h):: (.pointer (some ⟨bb,off+h*3,none⟩)):: (.agg #[.int .u64 i1,.int .u64 i2,.string s]):: (.agg #[.int .u64 d1,.int .u64 d2]):: (.int .i64 z):: [])) (fun W W' h1 h2=>h1.trans (h2.mono h1.size)) (fun i v W W' h _=>h) (ah _ _).drew ?stepB ?tailB
      case stepB =>
       intro i o vs W hi ho hv hR g;obtain⟨v0,v1,v2,v3,v4,v5,v6,rfl⟩:=ls7 hv;simp only[List.zip,List.zipWith,aZ,Act.put,List.setIfInBounds_toArray,List.set];have u:=hR.size;have y0:=(hR.cell (p:=⟨bb,off+h*3,none⟩) (by show bb<_;omega)).trans k0;have y1:=(hR.cell (p:=⟨bb,off+h*3+1,none⟩) (by show bb<_;omega)).trans k1;have y2:=(hR.cell (p:=⟨bb,off+h*3+2,none⟩) (by show bb<_;omega)).trans k2;have x0:=(hR.cell (p:=⟨w.heap.size,0,none⟩) (by show w.heap.size<_;omega)).trans g0;have x1:=(hR.cell (p:=⟨w.heap.size,1,none⟩) (by show w.heap.size<_;omega)).trans g1
       match i,hi,ho with
       | 0,_,rfl =>
         exact .inl ⟨rfl,aS (v:= .func (.func 182) #[] #[]) (w':=W) (by go_simp) ⟨ah _ _,fun _=>aT⟩⟩
       | 1,_,rfl =>
         exact .inl ⟨rfl,aS (v:= .slice (some ⟨bb,off,none⟩) n c) (w':=W) (by go_simp) ⟨ah _ _,fun _=>aT⟩⟩
       | 2,_,rfl =>
         exact .inl ⟨rfl,aS (v:= .int .i64 h) (w':=W) (by go_simp) ⟨ah _ _,fun _=>aT⟩⟩
       | 3,_,rfl =>
         have e1:v1=_:=g ⟨1,.data⟩ (by simp) rfl v1 rfl _ rfl;have e2:v2=_:=g ⟨2,.data⟩ (by simp) rfl v2 rfl _ rfl;subst e1 e2;exact .inl ⟨rfl,aS (v:= .pointer (some ⟨bb,off+h*3,none⟩)) (w':=W) (by go_simp) ⟨ah _ _,fun _=>aT⟩⟩
       | 4,_,rfl =>
         have e3:v3=_:=g ⟨3,.data⟩ (by simp) rfl v3 rfl _ rfl;subst e3;exact .inl ⟨rfl,aS (v:= .agg #[.int .u64 i1,.int .u64 i2,.string s]) (w':=W) (by go_simp) ⟨ah _ _,fun _=>aT⟩⟩
       | 5,_,rfl =>
         exact .inl ⟨rfl,aS (v:= .agg #[.int .u64 d1,.int .u64 d2]) (w':=W) (by go_simp) ⟨ah _ _,fun _=>aT⟩⟩
       | 6,_,rfl =>
         have e0:v0=_:=g ⟨0,.data⟩ (by simp) rfl v0 rfl _ rfl;have e4:v4=_:=g ⟨4,.data⟩ (by simp) rfl v4 rfl _ rfl;have e5:v5=_:=g ⟨5,.data⟩ (by simp) rfl v5 rfl _ rfl;subst e0 e4 e5;refine .inl ⟨rfl,mW (f:=182) (args:=#[.agg #[.int .u64 i1,.int .u64 i2,.string s],.agg #[.int .u64 d1,.int .u64 d2]]) (by go_simp) ((HC2.o W).mono ?_)⟩;rintro e W' ⟨rfl,hb⟩;exact⟨_,rfl,hb,fun _=>aT⟩
       | i+7,hi,_=>exact absurd hi (by omega)
      case tailB =>
       intro vs W hv hR g;obtain⟨v0,v1,v2,v3,v4,v5,v6,rfl⟩:=ls7 hv;simp only[List.zip,List.zipWith,aZ,Act.put,List.setIfInBounds_toArray,List.set,List.drop];have e0:v0=_:=g 0 v0 rfl _ rfl;have e1:v1=_:=g 1 v1 rfl _ rfl;have e2:v2=_:=g 2 v2 rfl _ rfl;have e3:v3=_:=g 3 v3 rfl _ rfl;have e4:v4=_:=g 4 v4 rfl _ rfl;have e5:v5=_:=g 5 v5 rfl _ rfl;have e6:v6=_:=g 6 v6 rfl _ rfl;subst e0 e1 e2 e3 e4 e5 e6;clear g hv;go_wp2_with fail;go_roundw
       case rel=>exact⟨a,h,rfl,by go_num,ham,hhm,by omega,hBel.o.trans (hR.mono hBel.o.size)⟩
       case measure=>simp[intOf];omega
  . have hlz:¬(a:Int)< (b:Int):=by omega
    obtain rfl:a=m:=by omega
    obtain rfl:b=a:=by omega
    by_cases hbn':b<n
    . obtain⟨bb,off,i,rfl,hbB,hx,y0,y1,y2⟩:=(H0.o.below l.o hB).it (k:=b) hbn'
      have HF:=ai (QU (d:=(d1,d2)) (i:=i) (by rw[HM.o];exact hx));clear hx;rw[HQ.o]at HF;obtain⟨⟨i1,i2⟩,s⟩:=i;simp only at y0 y1 y2 HF;obtain⟨z,hz⟩:=NX9 (dH (i1,i2) (d1,d2))
      have HC2:Hid (∀w,Calls Tryz.prog 182 #[.agg #[.int .u64 i1,.int .u64 i2,.string s],.agg #[.int .u64 d1,.int .u64 d2]] w fun e w'=>e= .returned (.int .i64 z)/\VE w w'):=fun w=>by
       have:=Dz ((i1,i2),s) (d1,d2) w;unfold CmE at this;simp only[hz]at this;exact this
      rw[hz]at HF;have hlz': (b:Int)< (n:Int):=by omega
      have t:w.heap.size<wr.heap.size:=Nat.lt_of_lt_of_le r hBel.o.size;clear hz;go_wp2_with fail
      go_region_held3 (fun w'=>w'.cell? ⟨bb,off+b*3,none⟩=some (.int .u64 i1)/\w'.cell? ⟨bb,off+b*3+1,none⟩=some (.int .u64 i2)/\w'.cell? ⟨bb,off+b*3+2,none⟩=some (.string s)/\w'.cell? ⟨w.heap.size,0,none⟩=some (.int .u64 d1)/\w'.cell? ⟨w.heap.size,1,none⟩=some (.int .u64 d2))
       (first | exact⟨y0,y1,y2,x0,x1⟩ | exact⟨m0.o,m1.o,m2.o,m3.o,m4.o⟩)
       (first
         | (go_at_call 182;refine(HC2.o _).mono ?_;rintro e w2 ⟨rfl,hb2⟩
            have m0:=ai ((hb2.cell (p:=⟨bb,off+b*3,none⟩) (by show bb<_;simp;omega)).trans y0);have m1:=ai ((hb2.cell (p:=⟨bb,off+b*3+1,none⟩) (by show bb<_;simp;omega)).trans y1);have m2:=ai ((hb2.cell (p:=⟨bb,off+b*3+2,none⟩) (by show bb<_;simp;omega)).trans y2);have m3:=ai ((hb2.cell (p:=⟨w.heap.size,0,none⟩) (by show w.heap.size<_;simp;omega)).trans x0);have m4:=ai ((hb2.cell (p:=⟨w.heap.size,1,none⟩) (by show w.heap.size<_;simp;omega)).trans x1);have hR:VF wr w2:=(ah _ wr).drew.trans hb2;clear hb2))
      go_wp2_with fail;go_ret2
      exact⟨by rw[HF.o];rfl,l.o.trans (hR.o.mono l.o.size)⟩
    . have HF:Hid (q=false):=by
        show _=_;rw[<-HQ.o];exact Oc (by rw[HM.o,HL.o];omega)
      have hlz':¬(b:Int)< (n:Int):=by omega
      go_wp2_with fail
      go_quiet(fail)
      go_wp2_with fail;go_ret2
      exact⟨by rw[HF.o];rfl,cZ l.o _⟩
theorem xq(A:OA)(n c B:Nat)(p:List Itm)(d:Dig)(w:VA)(h0:Sl w B 3 A n (flat itC p))(hB:B<=w.heap.size)(hn:n<=1000000)(ha:AscI p) :
  Calls Tryz.prog 112 #[.slice A n c,az d] w (BsE p d w):=by
 obtain⟨d1,d2⟩:=d;obtain⟨W,hW⟩:=NX9 (w.alloc (.cells #[.int .u64 d1,.int .u64 d2] 50))
 have HB0:VF w W:=by rw[<-hW];exact(ah _ w).alloc aj _
 have HK:Hid (Bk W w.heap.size 50 #[.int .u64 d1,.int .u64 d2]):=by rw[<-hW];exact Bk.new w _ _
 have HC:=ai (Tm A n c B p (d1,d2) W (h0.below HB0.o hB) (ZY hB HB0.o.size) hn ha);clear h0;unfold BsE at HC ⊢;simp only[az]at HC ⊢;obtain⟨x0,x1,_,_⟩:=HK.o.two
 go_enter Tryz.func112,Tryz.ntmps112
 go_wp2_with fail;refine HC.o.mono ?_;rintro e w2 ⟨rfl,hb⟩;have HB2:=ai hb;clear hb;go_wp2_with fail;go_ret2
 exact⟨rfl,HB0.o.trans (HB2.o.mono HB0.o.size)⟩
theorem Qg(A:OA)(n c B:Nat)(p:List Itm)(d:Dig)(w:VA)(h0:Sl w B 3 A n (flat itC p))(hB:B<=w.heap.size)(hn:n<=1000000)(ha:AscI p) :
  Calls Tryz.prog 76 #[.slice A n c,az d] w fun e w'=>e= .returned (.bool (bT p d).isSome)/\VE w w':=by
 obtain⟨d1,d2⟩:=d;obtain⟨W,hW⟩:=NX9 (w.alloc (.cells #[.int .u64 d1,.int .u64 d2] 50))
 have HB0:VF w W:=by rw[<-hW];exact(ah _ w).alloc aj _
 have HK:Hid (Bk W w.heap.size 50 #[.int .u64 d1,.int .u64 d2]):=by rw[<-hW];exact Bk.new w _ _
 have HC:=ai (xq A n c B p (d1,d2) W (h0.below HB0.o hB) (ZY hB HB0.o.size) hn ha);clear h0;unfold BsE at HC;simp only[az]at HC ⊢;obtain⟨x0,x1,_,_⟩:=HK.o.two
 go_enter Tryz.func76,Tryz.ntmps76
 go_wp2_with fail;refine HC.o.mono ?_;rintro e w2 ⟨rfl,hb⟩;have HB2:=ai hb;clear hb;go_wp2_with fail;go_ret
 exact⟨rfl,HB0.o.trans (HB2.o.mono HB0.o.size)⟩
theorem lY: (Tryz.prog.info? 118).map (fun i=>(i.zero,i.size,i.bytes))=some (some (.agg #[.int .u64 0,.int .u64 0,.string ⟨#[]⟩]),3,32):=by kernel_rfl
theorem jr(l:List Itm):∀u∈flat itC l,u.oneCell'=true:=fun u hu=>by
 unfold flat at hu;obtain⟨i,_,h⟩:=List.mem_flatMap.1 hu;simp[itC]at h;rcases h with rfl | rfl | rfl <;> rfl
def U7(n:Nat)(w:VA)(e:Ending)(w':VA):Prop:=∃A c,e= .returned (.slice A 0 c)/\Apd w' w.heap.size 118 3 A 0 c []/\VE w w'/\n<=c/\c<=maxLen
theorem P6(n:Nat)(w:VA)(h0:0<n)(hn:n<=1000000):Calls Tryz.prog 266 #[.slice none 0 0,.int .i64 n] w (U7 n w):=by
 obtain⟨i0,hi,hz0,hz1,hz2⟩:=info_parts lY;have HR:Hid (∀ty,(Builtin.append_ #[29,3] ty #[.slice none 0 0,.int .i64 (n:Int)]).run Tryz.prog w= .ok (.slice (some ⟨w.heap.size,0,none⟩) n (grownCap w n 0 118)) (w.drew.alloc (.cells (#[]++Builtin.zeroCells (Value.agg #[.int .u64 0,.int .u64 0,.string ⟨#[]⟩]).cells n++Builtin.zeroCells (Value.agg #[.int .u64 0,.int .u64 0,.string ⟨#[]⟩]).cells (grownCap w n 0 118 - n)) 118))):=fun ty=>by
  have h:=Lib.run_append_grow_zeros w 29 3 ty 118 i0 _ .i64 .i64 Tryz.underlying29 Tryz.underlying3 hi hz0 none 0 0 [] (run_firstCells_none w.drew i0.size 0 0 0) n h0 (by rw[hz1];omega) (by omega) (by omega) (by rw[hz2];omega) (growslice_fits (by omega) (by rw[hz2];omega));simp only[Nat.zero_add]at h;exact h
 clear hi hz0 hz1 hz2;have hG:=grownCap_ge w n 0 118;have hG2:=grownCap_le_maxLen w n 0 118 (by unfold maxLen;omega);obtain⟨G,a⟩:=NX9 (grownCap w n 0 118)
 rw[a]at HR hG hG2;obtain⟨W,hW⟩:=NX9 (w.drew.alloc (.cells (#[]++Builtin.zeroCells (Value.agg #[.int .u64 0,.int .u64 0,.string ⟨#[]⟩]).cells n++Builtin.zeroCells (Value.agg #[.int .u64 0,.int .u64 0,.string ⟨#[]⟩]).cells (G - n)) 118))
 rw[hW]at HR;have HB:VF w W:=by rw[<-hW];exact(ah _ w).drew.alloc aj _
 have HA:Hid (Apd W w.heap.size 118 3 (some ⟨w.heap.size,0,none⟩) 0 G []):=by
  refine .inl ⟨rfl,.inr ⟨w.heap.size,G,_,rfl,Nat.le_refl _,by rw[<-hW];exact heap_alloc_new w.drew _,ZX _,hG2,?_,by simp⟩⟩;rw[Array.size_append,Array.size_append,size_zeroCells,size_zeroCells];show 0+n*3+ (G - n)*3=G*3;omega
 have HG2:=ai hG2;have HG:=ai hG;have hG3:G<=9223372036854775807:=by unfold maxLen at hG2;exact hG2
 clear hW a hG2
 go_enter Tryz.func266,Tryz.ntmps266
 go_wp2_with (at_builtin;refine Lib.wpList_append_run _ rfl _ _ _ _ rfl _ _ rfl rfl _ _ (HR.o _) ?_)
 go_ret
 exact⟨_,_,rfl,HA.o,HB.o,HG.o,HG2.o⟩
def Vb(n:Nat)(xs:List Itm)(w:VA)(e:Ending)(w':VA):Prop:=∃A c,e= .returned (.slice A n c)/\Apd w' w.heap.size 118 3 A n c (flat itC xs)/\VE w w'/\n<=c/\c<=maxLen
theorem MQ(b B:Nat)(t:TypeId)(A0 A1 A2:OA)(n0 n1 n2 c0 c1 c2:Nat)(x0 x1 x2:List Itm)(w:VA)(hk:Bk w b t #[.slice A0 n0 c0,.slice A1 n1 c1,.slice A2 n2 c2])
  (h0:Sl w B 3 A0 n0 (flat itC x0)) (h1:Sl w B 3 A1 n1 (flat itC x1)) (h2:Sl w B 3 A2 n2 (flat itC x2)) (hB:B<=w.heap.size) (hn:n0+n1+n2<=1000000) (hpos:0<n0+n1+n2) :
  Calls Tryz.prog 211 #[.slice (some ⟨b,0,none⟩) 3 3] w (Vb (n0+n1+n2) (x0++x1++x2) w):=by
 have HK:=ai hk;obtain⟨k0,k1,k2⟩:=hk.three;have H0:=ai h0;have H1:=ai h1;have H2:=ai h2;clear hk h0 h1 h2;obtain⟨i0,hi,hz0,hz1,hz2⟩:=info_parts lY;have Hi:=ai hi;have g:=ai hz0;have h:=ai hz1;have j:=ai hz2;clear hi hz0 hz1 hz2
 go_enter Tryz.func211,Tryz.ntmps211
 go_wp2_with fail
 go_loopw[3,11] (fun s i wr=>∃(k s':Nat),i= .int .i64 (k:Int)/\s= .int .i64 (s':Int)/\wr=w/\ ((k=0/\s'=0)∨ (k=1/\n0=s')∨ (k=2/\n0+n1=s')∨ (k=3/\n0+n1+n2=s'))) (fun _ i _=>3 - (intOf i).toNat)
 case atStart=>exact⟨0,0,rfl,rfl,rfl,.inl ⟨rfl,rfl⟩⟩
 case round =>
  obtain⟨k,s,rfl,rfl,rfl,hks⟩:=hrel;rcases hks with ⟨rfl,rfl⟩ | ⟨rfl,rfl⟩ | ⟨rfl,rfl⟩ | ⟨rfl,rfl⟩
  . go_wp2_with fail
    go_roundw
    case rel=>exact⟨1,n0,by go_num,by go_num,trivial,.inr (.inl ⟨rfl,rfl⟩)⟩
    case measure=>simp[intOf]
  . go_wp2_with fail
    go_roundw
    case rel=>exact⟨2,n0+n1,by go_num,by go_num,trivial,.inr (.inr (.inl ⟨rfl,rfl⟩))⟩
    case measure=>simp[intOf]
  . go_wp2_with fail
    go_roundw
    case rel=>exact⟨3,n0+n1+n2,by go_num,by go_num,trivial,.inr (.inr (.inr ⟨rfl,rfl⟩))⟩
    case measure=>simp[intOf]
  . obtain⟨d,hwo⟩:∃d,d=wr:=⟨_,rfl⟩
    subst hwo;have HG:=ai (P6 (n0+n1+n2) d hpos hn);go_wp2_with fail;refine HG.o.mono ?_;rintro e w2 ⟨A,c,rfl,ha,hb,hc1,hc2⟩;have HA:=ai ha;have HB:=ai hb;obtain⟨k0,k1,k2⟩:=(HK.o.below hb HK.o.lt).three;clear ha hb HG;go_wp2_with fail
    go_loopw[6,27] (fun r i wq=>∃(k:Nat)(A':OA)(m c':Nat)(xs:List Itm),i= .int .i64 (k:Int)/\r= .slice A' m c'/\Hid (Apd wq d.heap.size 118 3 A' m c' (flat itC xs))/\VF d wq/\m<=c'/\c'<=maxLen ∧
     ((k=0/\m=0/\xs= [])∨ (k=1/\n0=m/\x0=xs)∨ (k=2/\n0+n1=m/\x0++x1=xs)∨ (k=3/\n0+n1+n2=m/\x0++x1++x2=xs))) (fun _ i _=>3 - (intOf i).toNat)
    case atStart=>exact⟨0,A,0,c,[],rfl,rfl,HA.o,HB.o,ZX _,hc2,.inl ⟨rfl,rfl,rfl⟩⟩
    case round =>
     obtain⟨k,A',m,c',xs,rfl,rfl,hA,hBel,hmc,hcm,hks⟩:=hrel;obtain⟨k0,k1,k2⟩:=(HK.o.below hBel.o HK.o.lt).three;rcases hks with ⟨rfl,rfl,rfl⟩ | ⟨rfl,hme,rfl⟩ | ⟨rfl,hme,rfl⟩ | ⟨rfl,hme,rfl⟩
     . have HN:Hid (0+n0<=maxLen):=by show _<=_;unfold maxLen;omega
       have n:Hid ((0+n0)*32<=140737488355328):=by show _<=_;omega
       have HS:=ai (H0.o.below hBel.o hB);have o:0+n0<=1000000:=by omega
       go_wp2_with (at_builtin;refine aO ?_)
       refine aH ?_;refine eG (base:=d.heap.size) (size:=3) _ rfl (.tmp 31) (.tmp 32) 29 rfl 118 i0 _ 32 Tryz.underlying29 Hi.o g.o h.o j.o rfl (by decide) A' 0 c' _ rfl hA.o B _ n0 _ _ rfl HS.o (jr _) HN.o n.o hBel.o.size ?_;intro A4 c4 w4 a hb4 hn4 hm4 _;rw[<-bQ]at a;have f:=ai a;have HB4:VF d w4:=hBel.o.trans hb4;clear a hb4 hA;go_wp2_with fail;go_roundw
       case rel=>exact⟨1,A4,n0,c4,_,by go_num,rfl,(by have:=f.o;rwa[Nat.zero_add]at this),HB4.o,by omega,hm4,.inr (.inl ⟨rfl,rfl,rfl⟩)⟩
       case measure=>simp[intOf]
     . have HN:Hid (m+n1<=maxLen):=by show _<=_;unfold maxLen;omega
       have n:Hid ((m+n1)*32<=140737488355328):=by show _<=_;omega
       have HS:=ai (H1.o.below hBel.o hB);have o:m+n1<=1000000:=by omega
       have l:=ai hme;clear hme
       go_wp2_with (at_builtin;refine aO ?_)
       refine aH ?_;refine eG (base:=d.heap.size) (size:=3) _ rfl (.tmp 31) (.tmp 32) 29 rfl 118 i0 _ 32 Tryz.underlying29 Hi.o g.o h.o j.o rfl (by decide) A' m c' _ rfl hA.o B _ n1 _ _ rfl HS.o (jr _) HN.o n.o hBel.o.size ?_;intro A4 c4 w4 a hb4 hn4 hm4 _;rw[<-bQ]at a;have f:=ai a;have HB4:VF d w4:=hBel.o.trans hb4;clear a hb4 hA;go_wp2_with fail;go_roundw
       case rel=>exact⟨2,A4,m+n1,c4,_,by go_num,rfl,f.o,HB4.o,hn4,hm4,.inr (.inr (.inl ⟨rfl,by rw[l.o],rfl⟩))⟩
       case measure=>simp[intOf]
     . have HN:Hid (m+n2<=maxLen):=by show _<=_;unfold maxLen;omega
       have n:Hid ((m+n2)*32<=140737488355328):=by show _<=_;omega
       have HS:=ai (H2.o.below hBel.o hB);have o:m+n2<=1000000:=by omega
       have l:=ai hme;clear hme
       go_wp2_with (at_builtin;refine aO ?_)
       refine aH ?_;refine eG (base:=d.heap.size) (size:=3) _ rfl (.tmp 31) (.tmp 32) 29 rfl 118 i0 _ 32 Tryz.underlying29 Hi.o g.o h.o j.o rfl (by decide) A' m c' _ rfl hA.o B _ n2 _ _ rfl HS.o (jr _) HN.o n.o hBel.o.size ?_;intro A4 c4 w4 a hb4 hn4 hm4 _;rw[<-bQ]at a;have f:=ai a;have HB4:VF d w4:=hBel.o.trans hb4;clear a hb4 hA;go_wp2_with fail;go_roundw
       case rel=>exact⟨3,A4,m+n2,c4,_,by go_num,rfl,f.o,HB4.o,hn4,hm4,.inr (.inr (.inr ⟨rfl,by rw[l.o],rfl⟩))⟩
       case measure=>simp[intOf]
     . subst hme
       go_wp2_with fail;go_ret
       exact⟨_,_,rfl,hA.o,hBel.o,hmc,hcm⟩
def itB(x:Itm):Array VC:=#[.int .u64 x.1.1,.int .u64 x.1.2,.string x.2]
def SlI(x:Itm)(v:VC)(W:VA):Prop:=∃b0,v= .slice (some ⟨b0,0,none⟩) 1 1/\Bk W b0 118 (itB x)
def Sl3(A:OA)(m c:Nat)(Ak:OA)(n' c':Nat)(x:Itm)(v:VC)(W:VA):Prop :=
 ∃b0 b1,v= .slice (some ⟨b1,0,none⟩) 3 3/\Bk W b1 29 #[.slice A m c,.slice (some ⟨b0,0,none⟩) 1 1,.slice Ak n' c']/\Bk W b0 118 (itB x)
def RsP(base n:Nat)(q:List Itm)(v:VC)(W:VA):Prop:=∃A c,v= .slice A n c/\W.ownsRow base 118 3 (.slice A n c) n (flat itC q)/\n<=c/\c<=maxLen
theorem SlI.keep{x:Itm}{v:VC}{W W':VA}(h:SlI x v W)(hb:VE W W'):SlI x v W':=by
 obtain⟨b0,h1,h2⟩:=h;exact⟨b0,h1,h2.below hb h2.lt⟩
theorem Sl3.keep{A Ak:OA}{m c n' c':Nat}{x:Itm}{v:VC}{W W':VA}(h:Sl3 A m c Ak n' c' x v W)(hb:VE W W'):Sl3 A m c Ak n' c' x v W':=by
 obtain⟨b0,b1,h1,h2,h3⟩:=h;exact⟨b0,b1,h1,h2.below hb h2.lt,h3.below hb h3.lt⟩
theorem gQ{w w':VA}{base size n:Nat}{e:TypeId}{v:VC}{xs:List VC}(h:w.ownsRow base e size v n xs)(hb:VE w w'):w'.ownsRow base e size v n xs :=
 h.kept (row:=none) ⟨hb.os,hb.tape,hb.output,hb.size,fun k hk _=>hb.block k hk⟩ (by
  cases hv:v.ownBlock with
  | none=>exact .inl rfl
  | some k=>exact .inr (by simp))
theorem jq{w:VA}{base size n b:Nat}{e t:TypeId}{v:VC}{xs:List VC}{cs:Array VC}(h:w.ownsRow base e size v n xs)(hb:Bk w b t cs)(hne:e≠t)(i:Nat)(x:VC): (w.setCell ⟨b,i,none⟩ x).ownsRow base e size v n xs:=by
 refine h.kept (row:=some b) ⟨rfl,rfl,rfl,by simp,fun k _ hk=>Z8 _ _ _ k (fun e=>hk (by rw[e]))⟩ ?_;rcases h.2 with ⟨rfl,_⟩ | ⟨g,cap,cur,rfl,_,hh,_⟩
 . exact .inl rfl
 . refine .inr fun he=>?_
   have hgb:g=b:=by simpa [Value.ownBlock] using he
   subst hgb;unfold Bk at hb;rw[hh]at hb;have:=Option.some.inj hb;injection this with _ ht _;exact hne ht
theorem RsP.keep{base n:Nat}{q:List Itm}{v:VC}{W W':VA}(h:RsP base n q v W)(hb:VE W W'):RsP base n q v W':=by
 obtain⟨A,c,h1,h2,h3,h4⟩:=h;exact⟨A,c,h1,gQ h2 hb,h3,h4⟩
theorem Apd.own{w:VA}{base size n c:Nat}{e:TypeId}{A:OA}{xs:List VC}(h:Apd w base e size A n c xs)(hn:0<n):w.ownsRow base e size (.slice A n c) n xs:=by
 rcases h with h | ⟨h,_⟩
 . exact h
 . omega
theorem lG{W:VA}{base base' size n:Nat}{e:TypeId}{v:VC}{xs:List VC}(h:W.ownsRow base e size v n xs)(hb:base'<=base):W.ownsRow base' e size v n xs:=by
 refine⟨h.1,?_⟩;rcases h.2 with hn | ⟨g,cap,cur,hv,hbg,rest⟩
 . exact .inl hn
 . exact .inr ⟨g,cap,cur,hv,ZY hb hbg,rest⟩
def Ply(w:VA)(base:Nat)(A0:OA)(c0:Nat)(p:List Itm)(A:OA)(c:Nat)(q:List Itm):Prop :=
 (A=A0/\c=c0/\q=p)∨w.ownsRow base 118 3 (.slice A q.length c) q.length (flat itC q)
theorem SN{W:VA}{b0:Nat}{x:Itm}(h:Bk W b0 118 (itB x)):Sl W W.heap.size 3 (some ⟨b0,0,none⟩) 1 (flat itC [x]):=Sl.of_bk (n:=1) h rfl
theorem Sl.it_take{w:VA}{B n k:Nat}{A:OA}{l:List Itm}(h:Sl w B 3 A n (flat itC l))(hk:k<=n):Sl w B 3 A k (flat itC (l.take k)):=h.take_ dD (by omega) hk
def Ju(A0:OA)(c0:Nat)(p:List Itm)(x:Itm)(w:VA)(e:Ending)(w':VA):Prop :=
 ((∃q A c,dC p x=some q/\e= .returned (.tuple #[.slice A q.length c,.int .i64 0])/\Sl w' w'.heap.size 3 A q.length (flat itC q)/\q.length<=c/\c<=maxLen/\Ply w' w.heap.size A0 c0 p A c q)∨ (dC p x=none/\e= .returned (.tuple #[.slice none 0 0,.int .i64 16])))/\VE w w'
theorem Ri{p:List Itm}{d:Dig}{b:VB}(hf:bT p d=some b):∃i,p[atD p d]? =some i/\i.2=b/\atD p d<p.length:=by
 unfold bT at hf;cases hi:p[atD p d]? with
 | none=>rw[hi]at hf;cases hf
 | some i =>
   rw[hi]at hf;simp only at hf;split at hf
   . exact⟨i,rfl,by cases hf;rfl,(List.getElem?_eq_some_iff.1 hi).1⟩
   . cases hf
theorem Lm(A:OA)(n c B:Nat)(p:List Itm)(x:Itm)(w:VA)(h0:Sl w B 3 A n (flat itC p))(hB:B<=w.heap.size)(hnc:n<=c)(hcm:c<=maxLen)(hn:n<=900000)(ha:AscI p) :
  Calls Tryz.prog 127 #[.slice A n c,itV x] w (Ju A c p x w):=by
 have HL:=ai (h0.len dD (by omega));have HAS:=ai ha;have HCM:=ai hcm;have r:=ai hnc;obtain⟨⟨d1,d2⟩,s⟩:=x;obtain⟨W,hW⟩:=NX9 (w.alloc (.cells #[.int .u64 d1,.int .u64 d2,.string s] 118))
 have HB0:VF w W:=by rw[<-hW];exact(ah _ w).alloc aj _
 have HK:Hid (Bk W w.heap.size 118 #[.int .u64 d1,.int .u64 d2,.string s]):=by rw[<-hW];exact Bk.new w _ _
 have q:w.heap.size<W.heap.size:=HK.o.lt;have HC:=ai (xq A n c B p (d1,d2) W (h0.below HB0.o hB) (ZY hB HB0.o.size) (by omega) ha);have H0:=ai h0;clear h0 ha hcm;unfold BsE at HC;simp only[az,itV]at HC ⊢;obtain⟨x0,x1,x2⟩:=HK.o.three;obtain⟨m,hm⟩:=NX9 (atD p (d1,d2))
 have HM:=ai hm;rw[hm]at HC;have hmn:m<=n:=by rw[<-hm,<-HL.o];exact Iw _ _
 cases hf:bT p (d1,d2) with
 | none =>
   have HN:Hid (dC p ((d1,d2),s)=some (p.take m++ [((d1,d2),s)]++p.drop m)):=by
    show _=_;unfold dC;simp only[hf,HM.o]
   have HQ:Hid ((p.take m++ [((d1,d2),s)]++p.drop m).length=m+1+ (n - m)):=by
    show _=_;rw[af,af,List.length_take,List.length_drop,HL.o,Nat.min_eq_left hmn];rfl
   rw[hf]at HC;simp only[Option.isSome_none]at HC;obtain⟨i0,hi,hz0,hz1,hz2⟩:=info_parts lY;have tk:=ry (P:=Tryz.prog) 29 i0 Tryz.underlying29 hi A n c m (by omega);obtain⟨d,hAr,hAk⟩:=JH (P:=Tryz.prog) 29 i0 Tryz.underlying29 hi hz1 A n c m hmn hnc;have t:=ai hAk;clear hf hm hi hz0 hz1 hz2 hAk
   go_enter Tryz.func127,Tryz.ntmps127
   go_wp2_with fail;refine HC.o.mono ?_;rintro e w2 ⟨rfl,hb⟩;have HB2:VF w w2:=HB0.o.trans (hb.mono HB0.o.size);have g:=ai (HK.o.below hb q);have u:w.heap.size<w2.heap.size:=Nat.lt_of_lt_of_le q hb.size;have HS2:=ai (H0.o.below HB2.o hB);obtain⟨k0,k1,k2⟩:=g.o.three;have hB2:B<=w2.heap.size:=by omega
   clear hb HC x0 x1 x2 hW;have y:Hid (∀x∈ [(4,SlI ((d1,d2),s)),(8,Sl3 A m c d (n - m) (c - m) ((d1,d2),s)),(9,RsP w2.heap.size (m+1+ (n - m)) (p.take m++ [((d1,d2),s)]++p.drop m))],∀v W W',x.2 v W->VE W W'->x.2 v W'):=fun x hx v W W' h hb=>by
    simp only[List.mem_cons,List.not_mem_nil,or_false]at hx;rcases hx with rfl | rfl | rfl
    . exact SlI.keep h hb
    . exact Sl3.keep h hb
    . exact RsP.keep h hb
   go_wp2_with fail;refine mD 10 (17::18::19::20::21::22::23::24::25::26:: []) (by kernel_rfl) (by kernel_rfl) (by kernel_rfl) (fun W=>VE w2 W) (fun W W'=>VE W W')
    (qU [(4,SlI ((d1,d2),s)),(8,Sl3 A m c d (n - m) (c - m) ((d1,d2),s)),(9,RsP w2.heap.size (m+1+ (n - m)) (p.take m++ [((d1,d2),s)]++p.drop m))] ((.slice A n c):: (.int .i64 m):: (.slice A m c):: (.agg #[.int .u64 d1,.int .u64 d2,.string s]):: (undef):: (.slice A n c):: (.int .i64 m):: (.slice d (n - m) (c - m)):: (undef):: (undef):: [])) (fun W W' h1 h2=>h1.trans (h2.mono h1.size)) (fun i v W W' h hb=>DW y.o i v W W' h hb) (ah _ _).drew ?stepA ?tailA
   case stepA =>
    intro i o vs W hi ho hv hR a;obtain⟨v0,v1,v2,v3,v4,v5,v6,v7,v8,v9,rfl⟩:=Jq hv;simp only[List.zip,List.zipWith,aZ,Act.put,List.setIfInBounds_toArray,List.set];have E:=hR.size;have g0:=(hR.cell (p:=⟨w.heap.size,0,none⟩) (by show w.heap.size<_;omega)).trans k0;have g1:=(hR.cell (p:=⟨w.heap.size,1,none⟩) (by show w.heap.size<_;omega)).trans k1;have g2:=(hR.cell (p:=⟨w.heap.size,2,none⟩) (by show w.heap.size<_;omega)).trans k2
    match i,hi,ho with
    | 0,_,rfl =>
      exact .inl ⟨rfl,aS (v:= .slice A n c) (w':=W) (by go_simp) ⟨ah _ _,fun _=>aT⟩⟩
    | 1,_,rfl =>
      exact .inl ⟨rfl,aS (v:= .int .i64 m) (w':=W) (by go_simp) ⟨ah _ _,fun _=>aT⟩⟩
    | 2,_,rfl =>
      have e0:v0=_:=a ⟨0,.data⟩ (by simp) rfl v0 rfl _ rfl;have e1:v1=_:=a ⟨1,.data⟩ (by simp) rfl v1 rfl _ rfl;subst e0 e1;exact .inl ⟨rfl,aS (v:= .slice A m c) (w':=W) (by go_simp) ⟨ah _ _,fun _=>aT⟩⟩
    | 3,_,rfl =>
      exact .inl ⟨rfl,aS (v:= .agg #[.int .u64 d1,.int .u64 d2,.string s]) (w':=W) (by go_simp) ⟨ah _ _,fun _=>aT⟩⟩
    | 4,_,rfl =>
      have e3:v3=_:=a ⟨3,.data⟩ (by simp) rfl v3 rfl _ rfl;subst e3;exact .inl ⟨rfl,aS (v:= .slice (some ⟨W.heap.size,0,none⟩) 1 1) (w':=W.alloc (.cells #[.int .u64 d1,.int .u64 d2,.string s] 118)) (by go_simp) ⟨(ah _ W).alloc aj _,W.heap.size,rfl,Bk.new W _ _⟩⟩
    | 5,_,rfl =>
      exact .inl ⟨rfl,aS (v:= .slice A n c) (w':=W) (by go_simp) ⟨ah _ _,fun _=>aT⟩⟩
    | 6,_,rfl =>
      exact .inl ⟨rfl,aS (v:= .int .i64 m) (w':=W) (by go_simp) ⟨ah _ _,fun _=>aT⟩⟩
    | 7,_,rfl =>
      have e5:v5=_:=a ⟨5,.data⟩ (by simp) rfl v5 rfl _ rfl;have e6:v6=_:=a ⟨6,.data⟩ (by simp) rfl v6 rfl _ rfl;subst e5 e6;exact .inl ⟨rfl,aS (v:= .slice d (n - m) (c - m)) (w':=W) (by go_simp) ⟨ah _ _,fun _=>aT⟩⟩
    | 8,_,rfl =>
      have e2:v2=_:=a ⟨2,.data⟩ (by simp) rfl v2 rfl _ rfl;obtain⟨b0,rfl,hb0⟩: (SlI ((d1,d2),s)) v4 W:=a ⟨4,.data⟩ (by simp) rfl v4 rfl;have e7:v7=_:=a ⟨7,.data⟩ (by simp) rfl v7 rfl _ rfl;subst e2 e7;exact .inl ⟨rfl,aS (v:= .slice (some ⟨W.heap.size,0,none⟩) 3 3) (w':=W.alloc (.cells #[.slice A m c,.slice (some ⟨b0,0,none⟩) 1 1,.slice d (n - m) (c - m)] 29)) (by go_simp) ⟨(ah _ W).alloc aj _,b0,W.heap.size,rfl,Bk.new W _ _,hb0.alloc _⟩⟩
    | 9,_,rfl =>
      obtain⟨b0,b1,rfl,hb1,hb0⟩: (Sl3 A m c d (n - m) (c - m) ((d1,d2),s)) v8 W:=a ⟨8,.data⟩ (by simp) rfl v8 rfl;refine .inl ⟨rfl,mW (f:=211) (args:=#[.slice (some ⟨b1,0,none⟩) 3 3]) (by go_simp) ((MQ b1 W.heap.size _ A (some ⟨b0,0,none⟩) d m 1 (n - m) c 1 (c - m) (p.take m) [((d1,d2),s)] (p.drop m) W hb1 (((HS2.o.it_take hmn).below hR hB2).more (ZY hB2 hR.size)) (SN hb0) ((by rw[DI dD];exact t.o W B _ (HS2.o.below hR hB2):Sl W B 3 d (n - m) (flat itC (p.drop m))).more (ZY hB2 hR.size)) aj (by omega) (by omega)).mono ?_)⟩;rintro e W' ⟨A9,c9,rfl,z,C,j,k⟩;exact⟨_,rfl,C,⟨A9,c9,rfl,lG (z.own (by omega)) hR.size,j,k⟩⟩
    | i+10,hi,_=>exact absurd hi (by omega)
   case tailA =>
    intro vs W hv hR a;obtain⟨v0,v1,v2,v3,v4,v5,v6,v7,v8,v9,rfl⟩:=Jq hv;simp only[List.zip,List.zipWith,aZ,Act.put,List.setIfInBounds_toArray,List.set,List.drop];have e0:v0=_:=a 0 v0 rfl _ rfl;have e1:v1=_:=a 1 v1 rfl _ rfl;have e2:v2=_:=a 2 v2 rfl _ rfl;have e3:v3=_:=a 3 v3 rfl _ rfl;have e4: (SlI ((d1,d2),s)) v4 W:=a 4 v4 rfl;have e5:v5=_:=a 5 v5 rfl _ rfl;have e6:v6=_:=a 6 v6 rfl _ rfl;have e7:v7=_:=a 7 v7 rfl _ rfl;have e8: (Sl3 A m c d (n - m) (c - m) ((d1,d2),s)) v8 W:=a 8 v8 rfl;have e9: (RsP w2.heap.size (m+1+ (n - m)) (p.take m++ [((d1,d2),s)]++p.drop m)) v9 W:=a 9 v9 rfl;subst e0 e1 e2 e3 e5 e6 e7;clear a hv;obtain⟨A9,c9,rfl,hs9,j,k⟩:=e9;have HR:=ai hR;clear hR;go_wp2_with fail;go_ret2
    exact⟨.inl ⟨_,A9,c9,HN.o,by rw[HQ.o];rfl,by rw[HQ.o];exact Sl.of_own hs9,by rw[HQ.o];exact j,k,.inr (by rw[HQ.o];exact lG hs9 (by omega))⟩,HB2.o.trans (HR.o.mono HB2.o.size)⟩
 | some b =>
   obtain⟨i,hi,hib,hil⟩:=Ri hf;rw[hm]at hi hil;have hlt:m<n:=by rw[<-HL.o];exact hil
   have l:Hid (dC p ((d1,d2),s)=if b=s then some p else none):=by
    show _=_;unfold dC;simp only[hf]
   rw[hf]at HC;simp only[Option.isSome_some]at HC;clear hf hm hil
   go_enter Tryz.func127,Tryz.ntmps127
   go_wp2_with fail;refine HC.o.mono ?_;rintro e w2 ⟨rfl,hb⟩;have HB2:VF w w2:=HB0.o.trans (hb.mono HB0.o.size);have g:=ai (HK.o.below hb q);have u:w.heap.size<w2.heap.size:=Nat.lt_of_lt_of_le q hb.size;have HS2:=ai (H0.o.below HB2.o hB);obtain⟨bb,off,i',rfl,hbB,hx,y0,y1,y2⟩:=HS2.o.it hlt;rw[hi]at hx;obtain rfl:=Option.some.inj hx;rw[hib]at y2;obtain⟨k0,k1,k2⟩:=g.o.three;have hB2:B<=w2.heap.size:=by omega
   have D: (m:Int)< (n:Int):=by omega
   clear hb HC x0 x1 x2 hW hi hx;have t2:=lS b s;by_cases hbs:b=s
   . have HN:Hid (dC p ((d1,d2),s)=some p):=by show _=_;rw[l.o,if_pos hbs]
     have l1: (b.toList != s.toList)=!(decide (b=s)):=by rw[<-lS];rfl
     rw[decide_eq_true hbs]at t2 l1;clear hbs;go_wp2_with fail
     go_quiet(fail)
     go_wp2_with fail;go_ret2
     exact⟨.inl ⟨p,some ⟨bb,off,none⟩,c,HN.o,by rw[HL.o];rfl,by rw[HL.o];exact HS2.o.more hB2,by rw[HL.o];exact r.o,HCM.o,.inl ⟨rfl,rfl,rfl⟩⟩,cZ HB2.o _⟩
   . have HN:Hid (dC p ((d1,d2),s)=none):=by show _=_;rw[l.o,if_neg hbs]
     have l1: (b.toList != s.toList)=!(decide (b=s)):=by rw[<-lS];rfl
     rw[decide_eq_false hbs]at t2 l1;clear hbs;go_wp2_with fail
     go_quiet(fail)
     go_wp2_with fail;go_ret2
     exact⟨.inr ⟨HN.o,rfl⟩,cZ HB2.o _⟩
theorem JP{α β:Type}(f:α->List β)(l:List α)(k:Nat): ((l.take k).flatMap f).length<= (l.flatMap f).length:=by
 conv=>rhs;rw[<-List.take_append_drop k l,List.flatMap_append,af]
 omega
theorem AV{α β:Type}{f:α->List β}{l:List α}{k:Nat}{x:α}(h:l[k]? =some x): (l.take (k+1)).flatMap f= (l.take k).flatMap f++f x:=by
 rw[aV h,List.flatMap_append];simp
def uM(o:Ob)(w:VA)(e:Ending)(w':VA):Prop:=e= .returned (.tuple #[.string (ofL (aI o)),.int .i64 0])/\VE w w'
theorem vU(o:Ob)(s:Osl)(B:Nat)(w:VA)(hm:ObM w B o s)(hB:B<=w.heap.size)(ho:OkO o) :
  Calls Tryz.prog 125 #[obV o s] w (uM o w):=by
 obtain⟨W0,hW0⟩:=NX9 (w.alloc (.cells (obC o s) 109))
 have HB0:VF w W0:=by rw[<-hW0];exact(ah _ w).alloc aj _
 have m:Hid (Bk W0 w.heap.size 109 (obC o s)):=by rw[<-hW0];exact Bk.new w _ _
 have fU:W0.heap.size=w.heap.size+1:=by rw[<-hW0];simp
 have HM:=ai hm;have HC:=ai (Lu o s B W0 (hm.below (HB0.o.mono hB) aj) (by omega) ho.f);have HLEN:=ai ho.len;have hel:=hm.elen;have hpl:=hm.plen;have HE:=ai hm.e;have HP:=ai hm.p;cases ho.f with
 | blob k e c d =>
   have a:Hid (aI o=ak o.kind.toNat++ax (toL o.data)):=by show _=_;unfold aI gX;rw[if_neg (by omega),if_neg (by omega)]
   obtain⟨kind,data,ents,⟨t1,t2⟩,pars,auth,time,msg⟩:=o;obtain⟨eA,en,ec,pA,pn,pc⟩:=s;simp only at k d a;simp only[obV,obC]at hW0 m HC ⊢;obtain⟨c0,c1,c2,c3,c4,c5,c6,c7,c8⟩:=m.o.nine;clear hm e c HE HP hel hpl;rcases k with rfl | rfl
   . have a:Hid (aI _=ak 1++ax (toL data)):=a.o
     go_enter Tryz.func125,Tryz.ntmps125
     go_wp2_with fail;refine HC.o.mono ?_;rintro e w1 ⟨rfl,hb1⟩;have hz1:=hb1.size;have HB1:Hid (Below w.heap.size W0 w1):=hb1.mono (by omega);have b:=ai (m.o.below hb1 (by omega));have hk1:w.heap.size<w1.heap.size:=by omega
     clear hb1 hW0 c0 c1 c2 c3 c4 c5 c6 c7 c8 HC;obtain⟨w2,hw2⟩:=NX9 (w1.alloc (.cells #[.slice none 0 0,.bool false] 283))
     have hz2:w1.heap.size+1<=w2.heap.size:=by rw[<-hw2];simp
     have HB2:VF w1 w2:=by rw[<-hw2];exact(ah _ w1).alloc aj _
     have HW2:Hid (Wrt w2 w1.heap.size (w1.heap.size+1) []):=⟨⟨none,0,by rw[<-hw2];exact Bk.new w1 _ _,Txt.nil _ _ _ _⟩,by omega,by omega⟩
     obtain⟨c0,c1,c2,c3,c4,c5,c6,c7,c8⟩:=(b.o.below HB2.o hk1).nine;have hlk: (ak 1).length=1:=by rw[eH (by omega)];rfl
     have l:=ai (kK w1.heap.size (w1.heap.size+1) 1 [] w2 HW2.o (by omega) (by simp) (by omega))
     go_wp2_with (first | (go_at_call 205;refine l.o.mono ?_;rintro e w3 ⟨rfl,hw,hb,hz⟩;refine aO ?_))
     refine aH ?_;have HW3:Hid (Wrt w3 w1.heap.size (w1.heap.size+1) ([]++ak 1)):=hw;have HB3:VF w1 w3:=HB2.o.trans hb;have hz3:w1.heap.size+1<=w3.heap.size:=by omega
     clear hw hb hz l c0 c1 c2 c3 c4 c5 c6 c7 c8;obtain⟨c0,c1,c2,c3,c4,c5,c6,c7,c8⟩:=(b.o.below HB3.o hk1).nine;have HW3:Hid (Wrt w3 w1.heap.size (w1.heap.size+1) (ak 1)):=HW3.o;clear hw2;have j:=ai (oL w1.heap.size (w1.heap.size+1) data (ak 1) w3 HW3.o d (by omega) (by omega))
     go_wp2_with (first | (go_at_call 206;refine j.o.mono ?_;rintro e w4 ⟨rfl,hw,hb,hz⟩;refine aO ?_))
     refine aH ?_;have t:Hid (Wrt w4 w1.heap.size (w1.heap.size+1) (ak 1++ax (toL data))):=hw;have HB4:VF w1 w4:=HB3.o.trans hb;have I:w1.heap.size+1<=w4.heap.size:=by omega
     clear hw hb hz j c0 c1 c2 c3 c4 c5 c6 c7 c8;obtain⟨c0,c1,c2,c3,c4,c5,c6,c7,c8⟩:=(b.o.below HB4.o hk1).nine;have hend:=t.o;obtain⟨A,cc,hk4,g⟩:=hend.ex;obtain⟨bs,hbs⟩:=NX9 (ak 1++ax (toL data))
     rw[hbs]at hk4 g;have u:Hid (ak 1++ax (toL data)=bs):=hbs;have hlz:¬(65536:Int)< (bs.length:Int):=by
      have h1:=HLEN.o;have h2:=congrArg List.length (a.o.trans (show _=ak 1++ax (toL data) by first | rfl | simp only[ZZ]));rw[hbs]at h2;omega
     obtain⟨d0,d1,_,_⟩:=hk4.two;have hcv:=g.run_string (P:=Tryz.prog) 213 9 5 Tryz.underlying213 Tryz.underlying5 Tryz.underlying9;have v:=ai (a.o.trans (show _=ak 1++ax (toL data) by first | rfl | simp only[ZZ]));clear hk4 g hbs hend c0 c1 c2 c3 c4 c5 c6 c7 c8;go_wp2_with fail;go_ret2
     exact⟨by rw[v.o,u.o];rfl,HB0.o.trans (HB1.o.trans (HB4.o.mono (by omega)) |>.mono (by omega))⟩
   . have a:Hid (aI _=ak 4++ax (toL data)):=a.o
     go_enter Tryz.func125,Tryz.ntmps125
     go_wp2_with fail;refine HC.o.mono ?_;rintro e w1 ⟨rfl,hb1⟩;have hz1:=hb1.size;have HB1:Hid (Below w.heap.size W0 w1):=hb1.mono (by omega);have b:=ai (m.o.below hb1 (by omega));have hk1:w.heap.size<w1.heap.size:=by omega
     clear hb1 hW0 c0 c1 c2 c3 c4 c5 c6 c7 c8 HC;obtain⟨w2,hw2⟩:=NX9 (w1.alloc (.cells #[.slice none 0 0,.bool false] 283))
     have hz2:w1.heap.size+1<=w2.heap.size:=by rw[<-hw2];simp
     have HB2:VF w1 w2:=by rw[<-hw2];exact(ah _ w1).alloc aj _
     have HW2:Hid (Wrt w2 w1.heap.size (w1.heap.size+1) []):=⟨⟨none,0,by rw[<-hw2];exact Bk.new w1 _ _,Txt.nil _ _ _ _⟩,by omega,by omega⟩
     obtain⟨c0,c1,c2,c3,c4,c5,c6,c7,c8⟩:=(b.o.below HB2.o hk1).nine;have hlk: (ak 4).length=1:=by rw[eH (by omega)];rfl
     have l:=ai (kK w1.heap.size (w1.heap.size+1) 4 [] w2 HW2.o (by omega) (by simp) (by omega))
     go_wp2_with (first | (go_at_call 205;refine l.o.mono ?_;rintro e w3 ⟨rfl,hw,hb,hz⟩;refine aO ?_))
     refine aH ?_;have HW3:Hid (Wrt w3 w1.heap.size (w1.heap.size+1) ([]++ak 4)):=hw;have HB3:VF w1 w3:=HB2.o.trans hb;have hz3:w1.heap.size+1<=w3.heap.size:=by omega
     clear hw hb hz l c0 c1 c2 c3 c4 c5 c6 c7 c8;obtain⟨c0,c1,c2,c3,c4,c5,c6,c7,c8⟩:=(b.o.below HB3.o hk1).nine;have HW3:Hid (Wrt w3 w1.heap.size (w1.heap.size+1) (ak 4)):=HW3.o;clear hw2;have j:=ai (oL w1.heap.size (w1.heap.size+1) data (ak 4) w3 HW3.o d (by omega) (by omega))
     go_wp2_with (first | (go_at_call 206;refine j.o.mono ?_;rintro e w4 ⟨rfl,hw,hb,hz⟩;refine aO ?_))
     refine aH ?_;have t:Hid (Wrt w4 w1.heap.size (w1.heap.size+1) (ak 4++ax (toL data))):=hw;have HB4:VF w1 w4:=HB3.o.trans hb;have I:w1.heap.size+1<=w4.heap.size:=by omega
     clear hw hb hz j c0 c1 c2 c3 c4 c5 c6 c7 c8;obtain⟨c0,c1,c2,c3,c4,c5,c6,c7,c8⟩:=(b.o.below HB4.o hk1).nine;have hend:=t.o;obtain⟨A,cc,hk4,g⟩:=hend.ex;obtain⟨bs,hbs⟩:=NX9 (ak 4++ax (toL data))
     rw[hbs]at hk4 g;have u:Hid (ak 4++ax (toL data)=bs):=hbs;have hlz:¬(65536:Int)< (bs.length:Int):=by
      have h1:=HLEN.o;have h2:=congrArg List.length (a.o.trans (show _=ak 4++ax (toL data) by first | rfl | simp only[ZZ]));rw[hbs]at h2;omega
     obtain⟨d0,d1,_,_⟩:=hk4.two;have hcv:=g.run_string (P:=Tryz.prog) 213 9 5 Tryz.underlying213 Tryz.underlying5 Tryz.underlying9;have v:=ai (a.o.trans (show _=ak 4++ax (toL data) by first | rfl | simp only[ZZ]));clear hk4 g hbs hend c0 c1 c2 c3 c4 c5 c6 c7 c8;go_wp2_with fail;go_ret2
     exact⟨by rw[v.o,u.o];rfl,HB0.o.trans (HB1.o.trans (HB4.o.mono (by omega)) |>.mono (by omega))⟩
 | tree k d c e =>
   have a:Hid (aI o=ak 2++ (ak o.ents.length++o.ents.flatMap aU)):=by show _=_;unfold aI gX;rw[if_pos k,k];rfl
   obtain⟨kind,data,ents,⟨t1,t2⟩,pars,auth,time,msg⟩:=o;obtain⟨eA,n,ec,pA,pn,pc⟩:=s;simp only at k d a hel HE;subst k d;simp only[obV,obC]at hW0 m HC ⊢;have hn:n<=200:=by rw[<-hel];exact e.few
   have bg:=ai e.all;have bn:=ai hel;rw[hel]at a;obtain⟨c0,c1,c2,c3,c4,c5,c6,c7,c8⟩:=m.o.nine;clear hm e c HP hpl hel
   go_enter Tryz.func125,Tryz.ntmps125
   go_wp2_with fail;refine HC.o.mono ?_;rintro e w1 ⟨rfl,hb1⟩;have hz1:=hb1.size;have HB1:Hid (Below w.heap.size W0 w1):=hb1.mono (by omega);have b:=ai (m.o.below hb1 (by omega));have hk1:w.heap.size<w1.heap.size:=by omega
   clear hb1 hW0 c0 c1 c2 c3 c4 c5 c6 c7 c8 HC;obtain⟨w2,hw2⟩:=NX9 (w1.alloc (.cells #[.slice none 0 0,.bool false] 283))
   have hz2:w1.heap.size+1<=w2.heap.size:=by rw[<-hw2];simp
   have HB2:VF w1 w2:=by rw[<-hw2];exact(ah _ w1).alloc aj _
   have HW2:Hid (Wrt w2 w1.heap.size (w1.heap.size+1) []):=⟨⟨none,0,by rw[<-hw2];exact Bk.new w1 _ _,Txt.nil _ _ _ _⟩,by omega,by omega⟩
   obtain⟨c0,c1,c2,c3,c4,c5,c6,c7,c8⟩:=(b.o.below HB2.o hk1).nine;have hlk: (ak 2).length=1:=by rw[eH (by omega)];rfl
   have l:=ai (kK w1.heap.size (w1.heap.size+1) 2 [] w2 HW2.o (by omega) (by simp) (by omega))
   go_wp2_with (first | (go_at_call 205;refine l.o.mono ?_;rintro e w3 ⟨rfl,hw,hb,hz⟩;refine aO ?_))
   refine aH ?_;have HW3:Hid (Wrt w3 w1.heap.size (w1.heap.size+1) ([]++ak 2)):=hw;have HB3:VF w1 w3:=HB2.o.trans hb;have hz3:w1.heap.size+1<=w3.heap.size:=by omega
   clear hw hb hz l c0 c1 c2 c3 c4 c5 c6 c7 c8;obtain⟨c0,c1,c2,c3,c4,c5,c6,c7,c8⟩:=(b.o.below HB3.o hk1).nine;have HW3:Hid (Wrt w3 w1.heap.size (w1.heap.size+1) (ak 2)):=HW3.o;clear hw2;have j:=ai (kK w1.heap.size (w1.heap.size+1) n (ak 2) w3 HW3.o (by omega) (by omega) (by omega))
   go_wp2_with (first | (go_at_call 205;refine j.o.mono ?_;rintro e w4 ⟨rfl,hw,hb,hz⟩;refine aO ?_))
   refine aH ?_;have t:Hid (Wrt w4 w1.heap.size (w1.heap.size+1) (ak 2++ak n)):=hw;have HB4:VF w1 w4:=HB3.o.trans hb;have I:w1.heap.size+1<=w4.heap.size:=by omega
   clear hw hb hz j c0 c1 c2 c3 c4 c5 c6 c7 c8;obtain⟨c0,c1,c2,c3,c4,c5,c6,c7,c8⟩:=(b.o.below HB4.o hk1).nine;have z:Hid (∀k,(ak 2++ak n++ (ents.take k).flatMap aU).length<=65536):=fun k=>by
    have h:=HLEN.o;rw[a.o]at h;have:=JP aU ents k;simp only[af]at h ⊢;omega
   have t:Hid (Wrt w4 w1.heap.size (w1.heap.size+1) (ak 2++ak n++ (ents.take 0).flatMap aU)):=by show Wrt _ _ _ _;rw[List.take_zero,List.flatMap_nil,List.append_nil];exact t.o
   go_wp2_with fail
   go_loopw[39] (fun i wr=>∃k:Nat,i= .int .i64 (k:Int)/\k<=n/\Hid (Wrt wr w1.heap.size (w1.heap.size+1) (ak 2++ak n++ (ents.take k).flatMap aU))/\VF w1 wr/\w1.heap.size+1<=wr.heap.size) (fun i _=>n - (intOf i).toNat)
   case atStart=>exact⟨0,rfl,ZX _,t.o,HB4.o,I⟩
   case round =>
    obtain⟨k,rfl,hk,hT,hB',V⟩:=hrel;have bz:=hB';have O:VF w wr:=HB0.o.trans ((HB1.o.trans (hB'.o.mono (by omega))));clear c0 c1 c2 c3 c4 c5 c6 c7 c8;obtain⟨c0,c1,c2,c3,c4,c5,c6,c7,c8⟩:=(b.o.below hB'.o hk1).nine;by_cases hlt:k<n
    . have hlz: (k:Int)< (n:Int):=by omega
      obtain⟨bb,off,en,rfl,hbB,hen,y0,y1,y2,y3⟩:=(HE.o.below O.o hB).en hlt;have gu:=ai hen;have hoe:=bg.o en (Z7 hen);have hns:=iZ hoe.nm;have J:=ai hoe.dg;have hp1:=z.o k;have HEX:Hid ((ents.take (k+1)).flatMap aU= (ents.take k).flatMap aU++aU en):=AV hen;obtain⟨wb,hwb⟩:=NX9 (wr.alloc (.cells #[.string en.nm,.bool en.dir,.int .u64 en.dg.1,.int .u64 en.dg.2] 185))
      have hbb:VE wr wb:=by rw[<-hwb];exact(ah _ wr).alloc aj _
      have iU:wb.heap.size=wr.heap.size+1:=by rw[<-hwb];simp
      have C:Hid (Bk wb wr.heap.size 185 #[.string en.nm,.bool en.dir,.int .u64 en.dg.1,.int .u64 en.dg.2]):=by rw[<-hwb];exact Bk.new wr _ _
      have Q:=ai (hT.o.wrx hbb (by omega));have R:VF w1 wb:=bz.o.trans (hbb.mono (by omega));obtain⟨x0,x1,x2,x3⟩:=C.o.four;obtain⟨nm,dir,d1,d2⟩:=en;simp only at y0 y1 y2 y3 x0 x1 x2 x3 hwb hns C HEX J;have hle: (ax (toL nm)).length<=70:=by
       have h1:=gy 5 nm.size (by omega);have h2:=aQ nm;unfold ax;rw[af,<-h2];omega
      have D:=ai (FU w1.heap.size (w1.heap.size+1) wr.heap.size nm (ak 2++ak n++ (ents.take k).flatMap aU) wb Q.o (by omega) (by omega));clear hbb hen hoe
      go_wp2_with (first | (go_at_call 206;refine D.o.mono ?_;rintro e w5 ⟨rfl,hw,hb,hz,hx⟩;refine aO ?_))
      refine aH ?_;have E:=ai hw;have K:VF w1 w5:=R.o.trans hb;have X:Hid (Bk w5 wr.heap.size 185 #[.string nm,.bool dir,.int .u64 d1,.int .u64 d2]):=hx.trans C.o;have Y:wr.heap.size<w5.heap.size:=by omega
      clear hw hb hz hx D x0 x1 x2 x3 y0 y1 y2 y3 hwb c0 c1 c2 c3 c4 c5 c6 c7 c8;obtain⟨x0,x1,x2,x3⟩:=X.o.four;obtain⟨H,hdn⟩:∃H:Nat,(if dir=true then 1 else 0:Nat)=H:=⟨_,rfl⟩
      have fO:H<=1:=by rw[<-hdn];split <;> omega
      have cu:=ai hdn;have hl5: (ak 2++ak n++ (ents.take k).flatMap aU++ax (toL nm)).length<=70000:=by rw[af];omega
      have ku: (ak H).length=1:=by rw[eH (by omega)];rfl
      have x:=ai (FW w1.heap.size (w1.heap.size+1) wr.heap.size H (ak 2++ak n++ (ents.take k).flatMap aU++ax (toL nm)) w5 E.o (by omega) (by omega))
      go_upto_if 47 with fail
      go_cut[8] from 47 to 47 (fun q wx=>q= .int .i64 (H:Int)/\wx=w5)
      case first =>
       cases dir with
       | true =>
         obtain rfl:1=H:=by simpa using hdn
         go_wp2_with fail
         go_meet
         exact⟨rfl,rfl⟩
       | false =>
         obtain rfl:0=H:=by simpa using hdn
         go_wp2_with fail
         go_meet
         exact⟨rfl,rfl⟩
      case rest =>
       obtain⟨rfl,rfl⟩:=hcut
       go_wp2_with (first | (go_at_call 205;refine x.o.mono ?_;rintro e w6 ⟨rfl,hw,hb,hz,hx⟩;refine aO ?_))
       refine aH ?_;have F:=ai hw;have G:VF w1 w6:=K.o.trans hb;have cO:Hid (Bk w6 wr.heap.size 185 #[.string nm,.bool dir,.int .u64 d1,.int .u64 d2]):=hx.trans X.o;have S:wr.heap.size<w6.heap.size:=by omega
       clear hw hb hz hx x x0 x1 x2 x3;obtain⟨x0,x1,x2,x3⟩:=cO.o.four;have y:=ai (FV w1.heap.size (w1.heap.size+1) wr.heap.size (d1,d2) J.o (ak 2++ak n++ (ents.take k).flatMap aU++ax (toL nm)++ak H) w6 F.o (by rw[af];omega));unfold az at y
       go_wp2_with (first | (go_at_call 207;refine y.o.mono ?_;rintro e w7 ⟨rfl,hw,hb,hz,hx⟩;refine aO ?_))
       refine aH ?_;have L:VF w1 w7:=G.o.trans hb;have Z:w1.heap.size+1<=w7.heap.size:=by omega
       have T:Hid (Wrt w7 w1.heap.size (w1.heap.size+1) (ak 2++ak n++ (ents.take (k+1)).flatMap aU)):=by
        have h:=hw.wrt;show Wrt _ _ _ _;have he:aU ⟨nm,dir,(d1,d2)⟩=ax (toL nm)++ (ak H++ay (d1,d2)):=by rw[<-cu.o];rfl
        rw[HEX.o,he]
        simpa only[ZZ] using h
       clear hw hb hz hx y x0 x1 x2 x3;go_wp2_with fail;go_roundw
       case rel=>exact⟨k+1,by go_num,hlt,T.o,L.o,Z⟩
       case measure=>simp[intOf];omega
    . have hlz:¬(k:Int)< (n:Int):=by omega
      have U:Hid (Wrt wr w1.heap.size (w1.heap.size+1) (ak 2++ak n++ents.flatMap aU)):=by
       have:=hT.o;rw[ZU (by rw[bn.o];omega)]at this;exact this
      have M:=hB';have hend:=U.o;obtain⟨A,cc,hk4,g⟩:=hend.ex;obtain⟨bs,hbs⟩:=NX9 (ak 2++ak n++ents.flatMap aU)
      rw[hbs]at hk4 g;have u:Hid (ak 2++ak n++ents.flatMap aU=bs):=hbs;have hlz:¬(65536:Int)< (bs.length:Int):=by
       have h1:=HLEN.o;have h2:=congrArg List.length (a.o.trans (show _=ak 2++ak n++ents.flatMap aU by first | rfl | simp only[ZZ]));rw[hbs]at h2;omega
      obtain⟨d0,d1,_,_⟩:=hk4.two;have hcv:=g.run_string (P:=Tryz.prog) 213 9 5 Tryz.underlying213 Tryz.underlying5 Tryz.underlying9;have v:=ai (a.o.trans (show _=ak 2++ak n++ents.flatMap aU by first | rfl | simp only[ZZ]));clear hk4 g hbs hend c0 c1 c2 c3 c4 c5 c6 c7 c8;go_wp2_with fail;go_ret2
      exact⟨by rw[v.o,u.o];rfl,HB0.o.trans (HB1.o.trans (M.o.mono (by omega)) |>.mono (by omega))⟩
 | commit k d e c =>
   have a:Hid (aI o=ak 3++ (ay o.tree++ (ak o.pars.length++ (o.pars.flatMap ay++ (ax (toL o.auth)++ (ak o.time.toNat++ax (toL o.msg))))))):=by show _=_;unfold aI gX;rw[if_neg (by omega),if_pos k,k];rfl
   obtain⟨kind,data,ents,⟨t1,t2⟩,pars,auth,time,msg⟩:=o;obtain⟨eA,en,ec,pA,n,pc⟩:=s;simp only at k d a hpl HP;subst k d;simp only[obV,obC]at hW0 m HC ⊢;have hn:n<=8:=by rw[<-hpl];exact c.pars.few
   have hwt:WfD (t1,t2):=c.wf;have dN:=ai c.pars.wf;have ed:=ai hpl;have kU:auth.size<=24:=iZ c.auth;have lg:msg.size<=200:=c.msg;have ht0:0<=time:=c.t0;have ht1:time<=1099511627776:=c.t1;obtain⟨tn,rfl⟩:=Int.eq_ofNat_of_zero_le ht0;have htn:tn<=1099511627776:=by omega
   simp only[Int.toNat_natCast]at a;rw[hpl]at a;obtain⟨c0,c1,c2,c3,c4,c5,c6,c7,c8⟩:=m.o.nine;clear hm e c HE hel hpl ht0 ht1
   go_enter Tryz.func125,Tryz.ntmps125
   go_wp2_with fail;refine HC.o.mono ?_;rintro e w1 ⟨rfl,hb1⟩;have hz1:=hb1.size;have HB1:Hid (Below w.heap.size W0 w1):=hb1.mono (by omega);have b:=ai (m.o.below hb1 (by omega));have hk1:w.heap.size<w1.heap.size:=by omega
   clear hb1 hW0 c0 c1 c2 c3 c4 c5 c6 c7 c8 HC;obtain⟨w2,hw2⟩:=NX9 (w1.alloc (.cells #[.slice none 0 0,.bool false] 283))
   have hz2:w1.heap.size+1<=w2.heap.size:=by rw[<-hw2];simp
   have HB2:VF w1 w2:=by rw[<-hw2];exact(ah _ w1).alloc aj _
   have HW2:Hid (Wrt w2 w1.heap.size (w1.heap.size+1) []):=⟨⟨none,0,by rw[<-hw2];exact Bk.new w1 _ _,Txt.nil _ _ _ _⟩,by omega,by omega⟩
   obtain⟨c0,c1,c2,c3,c4,c5,c6,c7,c8⟩:=(b.o.below HB2.o hk1).nine;have hlk: (ak 3).length=1:=by rw[eH (by omega)];rfl
   have l:=ai (kK w1.heap.size (w1.heap.size+1) 3 [] w2 HW2.o (by omega) (by simp) (by omega))
   go_wp2_with (first | (go_at_call 205;refine l.o.mono ?_;rintro e w3 ⟨rfl,hw,hb,hz⟩;refine aO ?_))
   refine aH ?_;have HW3:Hid (Wrt w3 w1.heap.size (w1.heap.size+1) ([]++ak 3)):=hw;have HB3:VF w1 w3:=HB2.o.trans hb;have hz3:w1.heap.size+1<=w3.heap.size:=by omega
   clear hw hb hz l c0 c1 c2 c3 c4 c5 c6 c7 c8;obtain⟨c0,c1,c2,c3,c4,c5,c6,c7,c8⟩:=(b.o.below HB3.o hk1).nine;have HW3:Hid (Wrt w3 w1.heap.size (w1.heap.size+1) (ak 3)):=HW3.o;clear hw2;have N:Hid (∀q:VD,(∃r,ak 3++ (ay (t1,t2)++ (ak n++ (pars.flatMap ay++ (ax (toL auth)++ (ak tn++ax (toL msg))))))=q++r)->q.length<=65536):=fun q hq=>by
    obtain⟨r,hr⟩:=hq;have h:=HLEN.o;rw[a.o,hr,af]at h;omega
   have j:=ai (BM w1.heap.size (w1.heap.size+1) (t1,t2) hwt (ak 3) w3 HW3.o (by omega) (by omega));unfold az at j
   go_wp2_with (first | (go_at_call 207;refine j.o.mono ?_;rintro e w4 ⟨rfl,hw,hb,hz⟩;refine aO ?_))
   refine aH ?_;have t:Hid (Wrt w4 w1.heap.size (w1.heap.size+1) (ak 3++ay (t1,t2))):=hw;have HB4:VF w1 w4:=HB3.o.trans hb;have I:w1.heap.size+1<=w4.heap.size:=by omega
   clear hw hb hz j c0 c1 c2 c3 c4 c5 c6 c7 c8;obtain⟨c0,c1,c2,c3,c4,c5,c6,c7,c8⟩:=(b.o.below HB4.o hk1).nine;have D:=ai (kK w1.heap.size (w1.heap.size+1) n (ak 3++ay (t1,t2)) w4 t.o (by omega) (by rw[af,iE];omega) (by omega))
   go_wp2_with (first | (go_at_call 205;refine D.o.mono ?_;rintro e w5 ⟨rfl,hw,hb,hz⟩;refine aO ?_))
   refine aH ?_;have E:Hid (Wrt w5 w1.heap.size (w1.heap.size+1) (ak 3++ay (t1,t2)++ak n)):=hw;have K:VF w1 w5:=HB4.o.trans hb;have Y:w1.heap.size+1<=w5.heap.size:=by omega
   clear hw hb hz D c0 c1 c2 c3 c4 c5 c6 c7 c8;obtain⟨c0,c1,c2,c3,c4,c5,c6,c7,c8⟩:=(b.o.below K.o hk1).nine;have hln: (ak n).length=1:=by rw[eH (by omega)];rfl
   have E:Hid (Wrt w5 w1.heap.size (w1.heap.size+1) (ak 3++ay (t1,t2)++ak n++ (pars.take 0).flatMap ay)):=by show Wrt _ _ _ _;rw[List.take_zero,List.flatMap_nil,List.append_nil];exact E.o
   have z:Hid (∀k,k<=n-> (ak 3++ay (t1,t2)++ak n++ (pars.take k).flatMap ay).length<=65536):=fun k hk=>by
    refine N.o _ ⟨(pars.drop k).flatMap ay++ (ax (toL auth)++ (ak tn++ax (toL msg))),?_⟩
    conv=>lhs;rw[<-List.take_append_drop k pars,List.flatMap_append]
    simp only[ZZ]
   go_wp2_with fail
   go_loopw[64] (fun i wr=>∃k:Nat,i= .int .i64 (k:Int)/\k<=n/\Hid (Wrt wr w1.heap.size (w1.heap.size+1) (ak 3++ay (t1,t2)++ak n++ (pars.take k).flatMap ay))/\VF w1 wr/\w1.heap.size+1<=wr.heap.size) (fun i _=>n - (intOf i).toNat)
   case atStart=>exact⟨0,rfl,ZX _,E.o,K.o,Y⟩
   case round =>
    obtain⟨k,rfl,hk,hT,hB',V⟩:=hrel;have O:VF w wr:=HB0.o.trans ((HB1.o.trans (hB'.o.mono (by omega))));clear c0 c1 c2 c3 c4 c5 c6 c7 c8;obtain⟨c0,c1,c2,c3,c4,c5,c6,c7,c8⟩:=(b.o.below hB'.o hk1).nine;by_cases hlt:k<n
    . have hlz: (k:Int)< (n:Int):=by omega
      obtain⟨bb,off,d,rfl,hbB,hd,y0,y1⟩:=(HP.o.below O.o hB).dg hlt;have J:=ai (dN.o d (Z7 hd));have hp1:=z.o k hk;have HEX:Hid ((pars.take (k+1)).flatMap ay= (pars.take k).flatMap ay++ay d):=AV hd;obtain⟨d1,d2⟩:=d;simp only at y0 y1;obtain⟨wb,hwb⟩:=NX9 (wr.alloc (.cells #[.int .u64 d1,.int .u64 d2] 50))
      have hbb:VE wr wb:=by rw[<-hwb];exact(ah _ wr).alloc aj _
      have hzb:w1.heap.size+1<=wb.heap.size:=by have:=hbb.size;omega
      have C:Hid (Bk wb wr.heap.size 50 #[.int .u64 d1,.int .u64 d2]):=by rw[<-hwb];exact Bk.new wr _ _
      have Q:=ai (hT.o.below hbb);have R:VF w1 wb:=hB'.o.trans (hbb.mono (by omega));obtain⟨x0,x1,_,_⟩:=C.o.two;have x:=ai (BM w1.heap.size (w1.heap.size+1) (d1,d2) J.o (ak 3++ay (t1,t2)++ak n++ (pars.take k).flatMap ay) wb Q.o (by omega) (by omega));unfold az at x;clear hbb hd
      go_wp2_with (first | (go_at_call 207;refine x.o.mono ?_;rintro e w6 ⟨rfl,hw,hb,hz⟩;refine aO ?_))
      refine aH ?_;have G:VF w1 w6:=R.o.trans hb;have S:w1.heap.size+1<=w6.heap.size:=by omega
      have F:Hid (Wrt w6 w1.heap.size (w1.heap.size+1) (ak 3++ay (t1,t2)++ak n++ (pars.take (k+1)).flatMap ay)):=by
       show Wrt _ _ _ _;rw[HEX.o,<-ZZ];exact hw
      clear hw hb hz x x0 x1 hwb y0 y1;go_wp2_with fail;go_roundw
      case rel=>exact⟨k+1,by go_num,hlt,F.o,G.o,S⟩
      case measure=>simp[intOf];omega
    . have hlz:¬(k:Int)< (n:Int):=by omega
      have F:Hid (Wrt wr w1.heap.size (w1.heap.size+1) (ak 3++ay (t1,t2)++ak n++pars.flatMap ay)):=by
       have:=hT.o;rw[ZU (by rw[ed.o];omega)]at this;exact this
      obtain⟨w6,hw6⟩:∃W,W=wr:=⟨_,rfl⟩
      subst hw6;have G:=hB';have S:=V;have y:=ai (oL w1.heap.size (w1.heap.size+1) auth (ak 3++ay (t1,t2)++ak n++pars.flatMap ay) w6 F.o (by omega) (by have:=N.o (ak 3++ay (t1,t2)++ak n++pars.flatMap ay) ⟨ax (toL auth)++ (ak tn++ax (toL msg)),by simp only[ZZ]⟩;omega) (by omega))
      go_wp2_with (first | (go_at_call 206;refine y.o.mono ?_;rintro e w7 ⟨rfl,hw,hb,hz⟩;refine aO ?_))
      refine aH ?_;have T:Hid (Wrt w7 w1.heap.size (w1.heap.size+1) (ak 3++ay (t1,t2)++ak n++pars.flatMap ay++ax (toL auth))):=hw;have L:VF w1 w7:=G.o.trans hb;have Z:w1.heap.size+1<=w7.heap.size:=by omega
      clear hw hb hz y c0 c1 c2 c3 c4 c5 c6 c7 c8;obtain⟨c0,c1,c2,c3,c4,c5,c6,c7,c8⟩:=(b.o.below L.o hk1).nine;have ag:=ai (kK w1.heap.size (w1.heap.size+1) tn (ak 3++ay (t1,t2)++ak n++pars.flatMap ay++ax (toL auth)) w7 T.o htn (by have:=N.o (ak 3++ay (t1,t2)++ak n++pars.flatMap ay++ax (toL auth)) ⟨ak tn++ax (toL msg),by simp only[ZZ]⟩;omega) (by omega))
      go_wp2_with (first | (go_at_call 205;refine ag.o.mono ?_;rintro e w8 ⟨rfl,hw,hb,hz⟩;refine aO ?_))
      refine aH ?_;have fA:Hid (Wrt w8 w1.heap.size (w1.heap.size+1) (ak 3++ay (t1,t2)++ak n++pars.flatMap ay++ax (toL auth)++ak tn)):=hw;have au:VF w1 w8:=L.o.trans hb;have lq:w1.heap.size+1<=w8.heap.size:=by omega
      clear hw hb hz ag c0 c1 c2 c3 c4 c5 c6 c7 c8;obtain⟨c0,c1,c2,c3,c4,c5,c6,c7,c8⟩:=(b.o.below au.o hk1).nine;have bf:=ai (oL w1.heap.size (w1.heap.size+1) msg (ak 3++ay (t1,t2)++ak n++pars.flatMap ay++ax (toL auth)++ak tn) w8 fA.o (by omega) (by have:=N.o (ak 3++ay (t1,t2)++ak n++pars.flatMap ay++ax (toL auth)++ak tn) ⟨ax (toL msg),by simp only[ZZ]⟩;omega) (by omega))
      go_wp2_with (first | (go_at_call 206;refine bf.o.mono ?_;rintro e w9 ⟨rfl,hw,hb,hz⟩;refine aO ?_))
      refine aH ?_;have U:Hid (Wrt w9 w1.heap.size (w1.heap.size+1) (ak 3++ay (t1,t2)++ak n++pars.flatMap ay++ax (toL auth)++ak tn++ax (toL msg))):=hw;have M:VF w1 w9:=au.o.trans hb;have nz:w1.heap.size+1<=w9.heap.size:=by omega
      clear hw hb hz bf c0 c1 c2 c3 c4 c5 c6 c7 c8;obtain⟨c0,c1,c2,c3,c4,c5,c6,c7,c8⟩:=(b.o.below M.o hk1).nine;have hend:=U.o;obtain⟨A,cc,hk4,g⟩:=hend.ex;obtain⟨bs,hbs⟩:=NX9 (ak 3++ay (t1,t2)++ak n++pars.flatMap ay++ax (toL auth)++ak tn++ax (toL msg))
      rw[hbs]at hk4 g;have u:Hid (ak 3++ay (t1,t2)++ak n++pars.flatMap ay++ax (toL auth)++ak tn++ax (toL msg)=bs):=hbs;have hlz:¬(65536:Int)< (bs.length:Int):=by
       have h1:=HLEN.o;have h2:=congrArg List.length (a.o.trans (show _=ak 3++ay (t1,t2)++ak n++pars.flatMap ay++ax (toL auth)++ak tn++ax (toL msg) by first | rfl | simp only[ZZ]));rw[hbs]at h2;omega
      obtain⟨d0,d1,_,_⟩:=hk4.two;have hcv:=g.run_string (P:=Tryz.prog) 213 9 5 Tryz.underlying213 Tryz.underlying5 Tryz.underlying9;have v:=ai (a.o.trans (show _=ak 3++ay (t1,t2)++ak n++pars.flatMap ay++ax (toL auth)++ak tn++ax (toL msg) by first | rfl | simp only[ZZ]));clear hk4 g hbs hend c0 c1 c2 c3 c4 c5 c6 c7 c8;go_wp2_with fail;go_ret2
      exact⟨by rw[v.o,u.o];rfl,HB0.o.trans (HB1.o.trans (M.o.mono (by omega)) |>.mono (by omega))⟩
theorem pM(o:Ob)(s:Osl)(B:Nat)(w:VA)(hm:ObM w B o s)(hB:B<=w.heap.size)(ho:OkO o) :
  Calls Tryz.prog 113 #[obV o s] w fun e w'=>e= .returned (.int .i64 0)/\VE w w':=by
 obtain⟨W0,hW0⟩:=NX9 (w.alloc (.cells (obC o s) 109))
 have HB0:VF w W0:=by rw[<-hW0];exact(ah _ w).alloc aj _
 have a:Hid (Bk W0 w.heap.size 109 (obC o s)):=by rw[<-hW0];exact Bk.new w _ _
 have HC:=ai (vU o s B W0 (hm.below (HB0.o.mono hB) aj) (by have:=HB0.o.size;omega) ho);obtain⟨bs,hbs⟩:=NX9 (ofL (aI o))
 unfold uM at HC;rw[hbs]at HC;obtain⟨kind,data,b,⟨t1,t2⟩,c,d,time,msg⟩:=o;obtain⟨eA,en,ec,pA,pn,pc⟩:=s;simp only[obV,obC]at hW0 a HC ⊢;obtain⟨c0,c1,c2,c3,c4,c5,c6,c7,c8⟩:=a.o.nine;clear hm hbs
 go_enter Tryz.func113,Tryz.ntmps113
 go_wp2_with (first | (go_at_call 125;refine HC.o.mono ?_;rintro e w1 ⟨rfl,hb1⟩))
 go_ret
 exact⟨rfl,HB0.o.trans (hb1.mono HB0.o.size)⟩
abbrev RS:=VD×Bool
def qN(s:RS):Nat×RS:=((aA s.1).1,s.1.drop (aA s.1).2.1,s.2 || decide ((aA s.1).2.2≠0))
def qT(s:RS):VD×RS:=((aK s.1).1,s.1.drop (aK s.1).2.1,s.2 || decide ((aK s.1).2.2≠0))
def qD(s:RS):Dig×RS:=if s.1.length<16 then(zD,s.1,true) else(dg s.1,s.1.drop 16,s.2)
def qE(s:RS):Ent×RS :=
 (⟨ofL (qT s).1,decide ((qN (qT s).2).1=1),(qD ((qN (qT s).2).2.1,(qN (qT s).2).2.2 || decide (1< (qN (qT s).2).1))).1⟩,(qD ((qN (qT s).2).2.1,(qN (qT s).2).2.2 || decide (1< (qN (qT s).2).1))).2)
def qL{α:Type}(g:RS->α×RS):Nat->RS->List α×RS
 | 0,s=>([],s)
 | n+1,s=>if s.2=true then([],s) else((g s).1:: (qL g n (g s).2).1,(qL g n (g s).2).2)
def qLs{α:Type}(g:RS->α×RS)(most:Nat)(s:RS):List α×RS:=qL g (qN s).1 ((qN s).2.1,(qN s).2.2 || decide (most< (qN s).1))
def qC(s:RS):Ob×RS :=
 (⟨3,⟨#[]⟩,[],(qD s).1,(qLs qD 8 (qD s).2).1,ofL (qT (qLs qD 8 (qD s).2).2).1,((qN (qT (qLs qD 8 (qD s).2).2).2).1:Nat),ofL (qT (qN (qT (qLs qD 8 (qD s).2).2).2).2).1⟩,(qT (qN (qT (qLs qD 8 (qD s).2).2).2).2).2)
def qO(b:VD):Ob×RS :=
 if(qN (b,false)).1=1∨ (qN (b,false)).1=4 then(⟨((qN (b,false)).1:Nat),ofL (qT (qN (b,false)).2).1,[],zD,[],⟨#[]⟩,0,⟨#[]⟩⟩,(qT (qN (b,false)).2).2)
 else if(qN (b,false)).1=2 then(⟨2,⟨#[]⟩,(qLs qE 200 (qN (b,false)).2).1,zD,[],⟨#[]⟩,0,⟨#[]⟩⟩,(qLs qE 200 (qN (b,false)).2).2)
 else if(qN (b,false)).1=3 then qC (qN (b,false)).2
 else(⟨((qN (b,false)).1:Nat),⟨#[]⟩,[],zD,[],⟨#[]⟩,0,⟨#[]⟩⟩,(qN (b,false)).2)
theorem zu{n:Nat}(h:n<=1099511627776)(r:VD):qN (ak n++r,false)= (n,r,false):=by
 unfold qN;simp only[kL h r];simp
theorem IK{t:VD}(h:t.length<=65536)(r:VD):qT (ax t++r,false)= (t,r,false):=by
 unfold qT;simp only[pJ h r];simp
theorem uF{d:Dig}(h:WfD d)(r:VD):qD (ay d++r,false)= (d,r,false):=by
 unfold qD;rw[if_neg (by rw[af,iE];omega)];simp only[qh h r,List.drop_left' (iE d)]
theorem TM{e:Ent}(h:jh e)(r:VD):qE (aU e++r,false)= (e,r,false):=by
 have hs:=iZ h.nm;unfold qE aU;simp only[ZZ];rw[IK (by rw[<-aQ];omega)];simp only;rw[zu (by split <;> omega)];obtain⟨nm,dir,dg⟩:=e;cases dir
 . simp only[Bool.false_eq_true,if_false,Bool.false_or]
   rw[show decide (1<0)=false from rfl,uF h.dg,jd];rfl
 . simp only[if_true,Bool.false_or]
   rw[show decide (1<1)=false from rfl,uF h.dg,jd];rfl
theorem Ic{α:Type}{g:RS->α×RS}{enc:α->VD}:∀(l:List α)(r:VD),(∀x∈l,∀r,g (enc x++r,false)= (x,r,false))->qL g l.length (l.flatMap enc++r,false)= (l,r,false)
 | [],r,_=>rfl
 | x::l,r,h=>by
   rw[Z4,qL,if_neg (by simp),List.flatMap_cons,ZZ,h x (by simp),Ic l r (fun y hy=>h y (by simp[hy]))]
theorem G9{α:Type}{g:RS->α×RS}{enc:α->VD}{most:Nat}{l:List α}(hm:l.length<=most)(hl:l.length<=1099511627776)(r:VD)(h:∀x∈l,∀r,g (enc x++r,false)= (x,r,false)):qLs g most (ak l.length++ (l.flatMap enc++r),false)= (l,r,false):=by
 unfold qLs;rw[zu hl];simp only[Bool.false_or];rw[decide_eq_false (by omega),Ic l r h]
theorem nS{s:RS}{n:Nat}{r:VD}(h:qN s= (n,r,false)):s= (ak n++r,false)/\n<=1099511627776:=by
 obtain⟨b,bad⟩:=s;unfold qN at h;simp only[Prod.mk.injEq,Bool.or_eq_false_iff,decide_eq_false_iff_not,Decidable.not_not]at h;obtain⟨h1,h2,h3,h4⟩:=h;generalize hg:aA b=g at *;obtain⟨x,k,e⟩:=g;simp only at h1 h2 h4;subst h1 h4;obtain⟨r',rfl,rfl,hm⟩:=tq hg;rw[List.drop_left]at h2;subst h2 h3;exact⟨rfl,hm⟩
theorem kX{s:RS}{t r:VD}(h:qT s= (t,r,false)):s= (ax t++r,false)/\t.length<=65536:=by
 obtain⟨b,bad⟩:=s;unfold qT at h;simp only[Prod.mk.injEq,Bool.or_eq_false_iff,decide_eq_false_iff_not,Decidable.not_not]at h;obtain⟨h1,h2,h3,h4⟩:=h;generalize hg:aK b=g at *;obtain⟨x,k,e⟩:=g;simp only at h1 h2 h4;subst h1 h4;obtain⟨r',rfl,rfl,hm⟩:=EG hg;rw[List.drop_left]at h2;subst h2 h3;exact⟨rfl,hm⟩
theorem nR{s:RS}{d:Dig}{r:VD}(h:qD s= (d,r,false)):s= (ay d++r,false)/\WfD d:=by
 obtain⟨b,bad⟩:=s;unfold qD at h;simp only at h;split at h
 . simp at h
 . rename_i hl
   simp only[Prod.mk.injEq]at h;obtain⟨rfl,rfl,rfl⟩:=h;rw[Sv (by omega),List.take_append_drop];exact⟨rfl,UC _⟩
theorem zq{s:RS}{e:Ent}{r:VD}(h:qE s= (e,r,false)):s= (aU e++r,false)/\WfD e.dg:=by
 unfold qE at h;simp only[Prod.mk.injEq]at h;obtain⟨rfl,h⟩:=h;obtain⟨x1,h1⟩:=NX9 (qT s)
 rw[h1]at h ⊢;obtain⟨x2,h2⟩:=NX9 (qN x1.2)
 rw[h2]at h ⊢;obtain⟨x3,h3⟩:=NX9 (qD (x2.2.1,x2.2.2 || decide (1<x2.1)))
 rw[h3]at h ⊢;obtain⟨d3,r3,b3⟩:=x3;simp only[Prod.mk.injEq]at h;obtain⟨rfl,rfl⟩:=h;obtain⟨e3,hw⟩:=nR h3;obtain⟨n2,r2,b2⟩:=x2;simp only[Prod.mk.injEq,Bool.or_eq_false_iff,decide_eq_false_iff_not,Nat.not_lt]at e3;obtain⟨rfl,rfl,hn⟩:=e3;obtain⟨e2,_⟩:=nS h2;obtain⟨t1,r1,b1⟩:=x1;simp only[Prod.mk.injEq]at e2;obtain⟨rfl,rfl⟩:=e2;obtain⟨e1,_⟩:=kX h1;refine⟨?_,hw⟩;rw[e1];unfold aU;simp only[dE,decide_eq_true_eq,ZZ];rw[show(if n2=1 then 1 else 0)=n2 by split <;> omega]
theorem Ik{α:Type}{g:RS->α×RS}{enc:α->VD}{P:α->Prop}(hg:∀s x r,g s= (x,r,false)->s= (enc x++r,false)/\P x):∀(n:Nat)(s:RS)(l:List α)(r:VD),qL g n s= (l,r,false)->s= (l.flatMap enc++r,false)/\l.length=n/\∀x∈l,P x
 | 0,s,l,r,h=>by
   simp only[qL,Prod.mk.injEq]at h;obtain⟨rfl,rfl⟩:=h;simp
 | n+1,s,l,r,h=>by
   rw[qL]at h;split at h
   . rename_i hb
     simp only[Prod.mk.injEq]at h;obtain⟨_,rfl⟩:=h;cases hb
   . simp only[Prod.mk.injEq]at h
     obtain⟨rfl,h⟩:=h;obtain⟨x,hx⟩:=NX9 (g s)
     rw[hx]at h ⊢;obtain⟨i1,i2,i3⟩:=Ik hg n x.2 (qL g n x.2).1 r (Prod.ext rfl h);obtain⟨l',hl'⟩:=NX9 ((qL g n x.2).1)
     rw[hl']at i1 i2 i3 ⊢;obtain⟨a,b⟩:=x;simp only at i1 i2 i3 ⊢;subst i1;obtain⟨j1,j2⟩:=hg s a _ hx;refine⟨by rw[j1,List.flatMap_cons,ZZ],by rw[Z4,i2],fun y hy=>?_⟩;rcases List.mem_cons.1 hy with rfl | hy
     . exact j2
     . exact i3 y hy
theorem tZ{α:Type}{g:RS->α×RS}{enc:α->VD}{P:α->Prop}(hg:∀s x r,g s= (x,r,false)->s= (enc x++r,false)/\P x){most:Nat}{s:RS}{l:List α}{r:VD}(h:qLs g most s= (l,r,false)):s= (ak l.length++ (l.flatMap enc++r),false)/\l.length<=most/\∀x∈l,P x:=by
 unfold qLs at h;obtain⟨x,hx⟩:=NX9 (qN s)
 rw[hx]at h;obtain⟨h1,h2,h3⟩:=Ik hg _ _ _ _ h;obtain⟨n,r',b⟩:=x;simp only[Prod.mk.injEq,Bool.or_eq_false_iff,decide_eq_false_iff_not,Nat.not_lt]at h1 h2;obtain⟨rfl,rfl,h4⟩:=h1;subst h2;exact⟨(nS hx).1,h4,h3⟩
theorem TR{b:VD}{o:Ob}(h:qO b= (o,[],false))(ho:OkF o):b=aI o:=by
 unfold qO at h;obtain⟨x,hx⟩:=NX9 (qN (b,false))
 rw[hx]at h;obtain⟨k,st⟩:=x;simp only at h;have key:∀{r:VD},st= (r,false)->k=o.kind.toNat->gX o=r->b=aI o:=by
  rintro r rfl rfl rfl;obtain⟨e,_⟩:=nS hx;simp only[Prod.mk.injEq,and_true]at e;exact e
 split at h
 . rename_i hk
   simp only[Prod.mk.injEq]at h;obtain⟨rfl,h⟩:=h;obtain⟨e,_⟩:=kX (s:=st) (t:=(qT st).1) (r:= []) (Prod.ext rfl h);rw[List.append_nil]at e;exact key e rfl (by unfold gX;simp only;rw[if_neg (by omega),if_neg (by omega),dE])
 . split at h
   . rename_i hk
     simp only[Prod.mk.injEq]at h;obtain⟨rfl,h⟩:=h;obtain⟨e,_,_⟩:=tZ (enc:=aU) (P:=fun e=>WfD e.dg) (fun s x r h=>zq h) (s:=st) (l:=(qLs qE 200 st).1) (r:= []) (Prod.ext rfl h);rw[List.append_nil]at e;exact key e hk (by unfold gX;simp only[if_true])
   . split at h
     . rename_i hk
       unfold qC at h;simp only[Prod.mk.injEq]at h;obtain⟨rfl,h⟩:=h;obtain⟨x1,h1⟩:=NX9 (qD st)
       rw[h1]at h ho key ⊢;obtain⟨x2,h2⟩:=NX9 (qLs qD 8 x1.2)
       rw[h2]at h ho key ⊢;obtain⟨x3,h3⟩:=NX9 (qT x2.2)
       rw[h3]at h ho key ⊢;obtain⟨x4,h4⟩:=NX9 (qN x3.2)
       rw[h4]at h ho key ⊢;obtain⟨e5,_⟩:=kX (s:=x4.2) (t:=(qT x4.2).1) (r:= []) (Prod.ext rfl h);obtain⟨n4,s4⟩:=x4;simp only at e5 h ho key ⊢;rw[List.append_nil]at e5;obtain⟨t5,a⟩:=NX9 ((qT s4).1)
       rw[a]at e5 ho key ⊢;subst e5;obtain⟨e4,_⟩:=nS h4;obtain⟨t3,s3⟩:=x3;simp only at e4 h ho key ⊢;subst e4;obtain⟨e3,_⟩:=kX h3;obtain⟨l2,s2⟩:=x2;simp only at e3 h ho key ⊢;subst e3;obtain⟨e2,_,_⟩:=tZ (enc:=ay) (P:=WfD) (fun s x r h=>nR h) h2;obtain⟨d1,s1⟩:=x1;simp only at e2 h ho key ⊢;subst e2;obtain⟨e1,_⟩:=nR h1;exact key e1 hk (by unfold gX;simp only[if_true,dE,Int.toNat_natCast];rw[if_neg (by omega)])
     . simp only[Prod.mk.injEq]at h
       obtain⟨rfl,_⟩:=h;have:=ho.kind_le;simp only at this;omega
