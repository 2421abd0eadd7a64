/-
  Lemmas of the card.
-/
import Derived.Lib.AppendZerosOnto
import Derived.Test.YtknefelegjlgnaaGreatDoorCCCp5
set_option maxRecDepth 100000
set_option maxHeartbeats 4000000
namespace Go.Proofs.YtknefelegjlgnaaGreatDoor
open Go.RowKit
theorem Ih: (Tryz.prog.info? 175).map (fun i=>(i.zero,i.size,i.bytes))=some (some (.agg #[.int .i64 0,.string ⟨#[]⟩]),2,24):=by kernel_rfl
theorem QI(l:List (Nat×UZ)):∀u∈flat wrC l,u.oneCell'=true:=fun u hu=>by
 unfold flat at hu;obtain⟨i,_,h⟩:=List.mem_flatMap.1 hu;simp[wrC]at h;rcases h with rfl | rfl <;> rfl
def Uk(n:Nat)(w:UW)(e:Ending)(w':UW):Prop:=∃A c,e= .returned (.slice A 0 c)/\Apd w' w.heap.size 175 2 A 0 c []/\U0 w w'/\n<=c/\c<=maxLen
theorem NL(n:Nat)(w:UW)(h0:0<n)(hn:n<=1000000):Calls Tryz.prog 294 #[.slice none 0 0,.int .i64 n] w (Uk n w):=by
 obtain⟨i0,hi,hz0,hz1,hz2⟩:=info_parts Ih;have HR:Hid (∀ty,(Builtin.append_ #[23,3] ty #[.slice none 0 0,.int .i64 (n:Int)]).run Tryz.prog w= .ok (.slice (some ⟨w.heap.size,0,none⟩) n (grownCap w n 0 175)) (w.drew.alloc (.cells (#[]++Builtin.zeroCells (Value.agg #[.int .i64 0,.string ⟨#[]⟩]).cells n++Builtin.zeroCells (Value.agg #[.int .i64 0,.string ⟨#[]⟩]).cells (grownCap w n 0 175 - n)) 175))):=fun ty=>by
  have h:=Lib.run_append_grow_zeros w 23 3 ty 175 i0 _ .i64 .i64 Tryz.underlying23 Tryz.underlying3 hi hz0 none 0 0 [] (run_firstCells_none w.drew i0.size 0 0 0) n h0 (by rw[hz1];omega) (by omega) (by omega) (by rw[hz2];omega) (growslice_fits (by omega) (by rw[hz2];omega));simp only[Nat.zero_add]at h;exact h
 clear hi hz0 hz1 hz2;have hG:=grownCap_ge w n 0 175;have hG2:=grownCap_le_maxLen w n 0 175 (by unfold maxLen;omega);obtain⟨G,a⟩:=NX9 (grownCap w n 0 175)
 rw[a]at HR hG hG2;obtain⟨W,hW⟩:=NX9 (w.drew.alloc (.cells (#[]++Builtin.zeroCells (Value.agg #[.int .i64 0,.string ⟨#[]⟩]).cells n++Builtin.zeroCells (Value.agg #[.int .i64 0,.string ⟨#[]⟩]).cells (G - n)) 175))
 rw[hW]at HR;have HB:U6 w W:=by rw[<-hW];exact(ah _ w).drew.alloc aj _
 have HA:Hid (Apd W w.heap.size 175 2 (some ⟨w.heap.size,0,none⟩) 0 G []):=by
  refine .inl ⟨rfl,.inr ⟨w.heap.size,G,_,rfl,Nat.le_refl _,by rw[<-hW];exact heap_alloc_new w.drew _,ZX _,hG2,?_,by simp⟩⟩;rw[Array.size_append,Array.size_append,size_zeroCells,size_zeroCells];show 0+n*2+ (G - n)*2=G*2;omega
 have HG2:=ai hG2;have HG:=ai hG;have hG3:G<=9223372036854775807:=by unfold maxLen at hG2;exact hG2
 clear hW a hG2
 go_enter Tryz.func294,Tryz.ntmps294
 go_wp2_with (at_builtin;refine Lib.wpList_append_run _ rfl _ _ _ _ rfl _ _ rfl rfl _ _ (HR.o _) ?_)
 go_ret
 exact⟨_,_,rfl,HA.o,HB.o,HG.o,HG2.o⟩
structure Csl where
 A:OA
 n:Nat
 c:Nat
 xs:List (Nat×UZ)
def csC(s:Csl):List UY:= [.slice s.A s.n s.c]
theorem yh(s:Csl): (csC s).length=1:=rfl
def fG(l:List Csl):Nat:=(l.map Csl.n).sum
theorem NV(l:List Csl)(s:Csl):fG (l++ [s])=fG l+s.n:=by simp[fG]
theorem QD(l:List Csl)(k:Nat):fG (l.take k)<=fG l:=by
 conv=>rhs;rw[<-List.take_append_drop k l]
 unfold fG;rw[List.map_append,List.sum_append];omega
def Us(n:Nat)(xs:List (Nat×UZ))(w:UW)(e:Ending)(w':UW):Prop:=∃A c,e= .returned (.slice A n c)/\Apd w' w.heap.size 175 2 A n c (flat wrC xs)/\U0 w w'/\n<=c/\c<=maxLen
theorem KC(A:OA)(m c B:Nat)(ls:List Csl)(w:UW)(hk:Sl w B 1 A m (flat csC ls))(hs:∀s∈ls,Sl w B 2 s.A s.n (flat wrC s.xs))(hB:B<=w.heap.size)(hm:m<=1000)(hn:fG ls<=1000000)(hpos:0<fG ls) :
  Calls Tryz.prog 249 #[.slice A m c] w (Us (fG ls) (ls.flatMap Csl.xs) w):=by
 have HK:=ai hk;have HS:=ai hs;have HL:=ai (hk.len yh (by omega));obtain⟨i0,hi,hz0,hz1,hz2⟩:=info_parts Ih;have Hi:=ai hi;have g:=ai hz0;have l:=ai hz1;have o:=ai hz2;have HT:Hid (∀k s,ls[k]? =some s->fG (ls.take (k+1))=fG (ls.take k)+s.n):=fun k s h=>by rw[bJ h,NV]
 have a:=ai (QD ls);have d:Hid (fG (ls.take m)=fG ls):=by show _=_;rw[<-HL.o,List.take_length]
 obtain⟨N,hN⟩:=NX9 (fG ls)
 rw[hN]at hn hpos a d;rw[hN];clear hi hz0 hz1 hz2 hk hs hN
 go_enter Tryz.func249,Tryz.ntmps249
 go_wp2_with fail
 go_loopw[3,11] (fun s i wr=>∃(k s':Nat),k<=m/\i= .int .i64 (k:Int)/\s= .int .i64 (s':Int)/\w=wr/\Hid (fG (ls.take k)=s')/\s'<=1000000) (fun _ i _=>m - (intOf i).toNat)
 case atStart=>exact⟨0,0,ZX _,rfl,rfl,rfl,rfl,by omega⟩
 case round =>
  obtain⟨k,s,hk,rfl,rfl,rfl,hs,hs6⟩:=hrel;by_cases hlt:k<m
  . obtain⟨b,off,x,rfl,hb,hx,hc⟩:=HK.o.at_ yh (by omega) hlt
    have x0:=hc 0 _ rfl;simp only[Nat.mul_one,Nat.add_zero]at x0;have hs2:Hid (fG (ls.take (k+1))=s+x.n):=by show _=_;rw[HT.o k x hx,hs.o]
    have h6:s+x.n<=1000000:=by have:=a.o (k+1);rw[hs2.o]at this;omega
    clear hc hx;go_wp2_with fail;go_roundw
    case rel=>exact⟨k+1,s+x.n,by omega,by go_num,by go_num,trivial,hs2.o,h6⟩
    case measure=>simp[intOf];omega
  . obtain rfl:k=m:=by omega
    have p:s=N:=by rw[<-hs.o,d.o]
    subst p;have HG:=ai (NL s w hpos hn);go_wp2_with fail;refine HG.o.mono ?_;rintro e w2 ⟨A2,c2,rfl,ha,hb,hc1,hc2⟩;have HA:=ai ha;have HB:=ai hb;clear ha hb HG;go_wp2_with fail
    go_loopw[6,27] (fun r i wq=>∃(j n':Nat)(A':OA)(c':Nat),j<=k/\i= .int .i64 (j:Int)/\r= .slice A' n' c'/\Hid (Apd wq w.heap.size 175 2 A' n' c' (flat wrC ((ls.take j).flatMap Csl.xs)))/\U6 w wq/\n'<=c'/\c'<=maxLen/\Hid (fG (ls.take j)=n')/\n'<=1000000) (fun _ i _=>k - (intOf i).toNat)
    case atStart=>exact⟨0,0,A2,c2,ZX _,rfl,rfl,HA.o,HB.o,ZX _,hc2,rfl,by omega⟩
    case round =>
     obtain⟨j,n',A',c',hj,rfl,rfl,hA,hBel,hmc,hcm,ht,u⟩:=hrel;by_cases hlt2:j<k
     . obtain⟨b,off,x,rfl,hb,hx,hc⟩:=(HK.o.below hBel.o hB).at_ yh (by omega) hlt2
       have x0:=hc 0 _ rfl;simp only[Nat.mul_one,Nat.add_zero]at x0;have hs2:Hid (fG (ls.take (j+1))=n'+x.n):=by show _=_;rw[HT.o j x hx,ht.o]
       have h6:n'+x.n<=1000000:=by have:=a.o (j+1);rw[hs2.o]at this;omega
       have HX:=ai ((HS.o x (Z7 hx)).below hBel.o hB);have HE:Hid ((ls.take (j+1)).flatMap Csl.xs= (ls.take j).flatMap Csl.xs++x.xs):=by show _=_;rw[bJ hx,List.flatMap_append];simp
       have HN:Hid (n'+x.n<=maxLen):=by show _<=_;unfold maxLen;omega
       have v:Hid ((n'+x.n)*24<=140737488355328):=by show _<=_;omega
       clear hc hx
       go_wp2_with (at_builtin;refine aN ?_)
       refine aH ?_;refine dZ (base:=w.heap.size) (size:=2) _ rfl (.tmp 31) (.tmp 32) 23 rfl 175 i0 _ 24 Tryz.underlying23 Hi.o g.o l.o o.o rfl (by decide) A' n' c' _ rfl hA.o B _ x.n _ _ rfl HX.o (QI _) HN.o v.o hBel.o.size ?_;intro A4 c4 w4 f hb4 hn4 hm4 _;rw[<-bI,<-HE.o]at f;have q:=ai f;have HB4:U6 w w4:=hBel.o.trans hb4;clear f hb4 hA;go_wp2_with fail;go_roundw
       case rel=>exact⟨j+1,_,A4,c4,by omega,by go_num,rfl,q.o,HB4.o,hn4,hm4,hs2.o,h6⟩
       case measure=>simp[intOf];omega
     . obtain rfl:j=k:=by omega
       have hn':n'=s:=by rw[<-ht.o,d.o]
       subst hn';have t:Hid (ls.take j=ls):=by show _=_;rw[<-HL.o,List.take_length]
       go_wp2_with fail;go_ret
       exact⟨_,_,rfl,by have:=hA.o;rwa[t.o]at this,hBel.o,hmc,hcm⟩
def aZ(d:Dk)(x:Int)(w:UW)(e:Ending)(w':UW):Prop:=∃s,e= .returned (.tuple #[dkV d s,.int .i64 x])/\DkM w' w'.heap.size d s/\U0 w w'
theorem gK{fn:Func}{c i:Tmp}(h:fn.results= #[.cell c 25,.tmp i]){w:UW}{a:Array UY}{b:Nat}{x0 x1 x2 x3 v:UY}(h1:a[c]?.getD undef= .pointer (some ⟨b,0,none⟩))(hk:Bk w b 25 #[x0,x1,x2,x3])(hv:a[i]?.getD undef=v) :
  (results fn a).run Tryz.prog w= .ok (.tuple #[.agg #[x0,x1,x2,x3],v]) w:=by
 obtain⟨c0,c1,c2,c3⟩:=hk.dk4;simp[results,h,h1,hv,go_sem,c0,c1,c2,c3]
theorem Bk.set4{w:UW}{b:Nat}{t:TypeId}{x0 x1 x2 x3:UY}(h:Bk w b t #[x0,x1,x2,x3])(y0 y1 y2 y3:UY) :
  Bk ((((w.setCell ⟨b,0,none⟩ y0).setCell ⟨b,1,none⟩ y1).setCell ⟨b,2,none⟩ y2).setCell ⟨b,3,none⟩ y3) b t #[y0,y1,y2,y3]:=by
 have:=(((h.set 0 y0).set 1 y1).set 2 y2).set 3 y3
 simpa using this
theorem dV{B b:Nat}{w w':UW}(h:Below B w w')(hb:B<=b)(y0 y1 y2 y3:UY):Below B w ((((w'.setCell ⟨b,0,none⟩ y0).setCell ⟨b,1,none⟩ y1).setCell ⟨b,2,none⟩ y2).setCell ⟨b,3,none⟩ y3) :=
 (((h.setCell (p:=⟨b,0,none⟩) hb y0).setCell (p:=⟨b,1,none⟩) hb y1).setCell (p:=⟨b,2,none⟩) hb y2).setCell (p:=⟨b,3,none⟩) hb y3
theorem MG(d:Dk)(s:Dsl)(B i:Nat)(x:UZ)(w:UW)(hd:d.Ok)(hm:DkM w B d s)(hB:B<=w.heap.size)(hp:d.pn.length<=900000)(hi:i<d.ss.length)(hx:x.length=d.sz) :
  Calls Tryz.prog 170 #[dkV d s,.int .i64 i,.string (ofL x)] w (aZ (if d.lf=0 then d else doO d (some (i,x))) (if d.lf=0 then 20 else 0) w):=by
 obtain⟨W,hW⟩:=NX9 ((w.alloc (.cells (dkC d s) 25)).alloc (.cells #[.int .i64 0,.slice none 0 0,.slice none 0 0,.int .i64 0] 25))
 have HB0:U6 w W:=by rw[<-hW];exact((ah _ w).alloc aj _).alloc (by simp) _
 have HK:Hid (Bk W w.heap.size 25 (dkC d s)):=by rw[<-hW];exact(Bk.new w _ _).alloc _
 have HZ:Hid (Bk W (w.heap.size+1) 25 #[.int .i64 0,.slice none 0 0,.slice none 0 0,.int .i64 0]):=by
  rw[<-hW];have:=Bk.new (w.alloc (.cells (dkC d s) 25)) 25 #[.int .i64 0,.slice none 0 0,.slice none 0 0,.int .i64 0]
  rwa[Z9]at this
 have n:W.heap.size=w.heap.size+2:=by rw[<-hW];simp
 have HM:Hid (DkM W B d s):=hm.below HB0.o hB;have j:=ai hm;have HC:=ai (rF d s B W hd HM.o (by omega) (by omega));have HH:=ai (fun W=>EG d s i W);rw[show hasB d.ss.length i=true from decide_eq_true (by omega)]at HH;have hxz: ((ofL x).size:Int)=d.sz:=by rw[bK];omega
 have HD:=ai hd;obtain⟨lf,hlf⟩:=NX9 d.lf
 have hl1:=hd.lf;have hl2:=hd.lm;have k:=ai hlf;have HW:=ai hW;simp only[dkV,dkC,hlf]at HC HH HW HK hl1 hl2 ⊢;clear hd hm hW hlf;by_cases h0:lf=0
 . subst h0
   simp only[if_true];obtain⟨D,hD⟩:=NX9 (aZ d 20 w)
   have b:=ai hD;rw[hD];clear hD
   go_enter Tryz.func170,Tryz.ntmps170
   go_wp2_with fail;rw[HW.o];refine HC.o.mono ?_;rintro e w1 ⟨rfl,hb1⟩;have HB1:U6 W w1:=hb1;obtain⟨k0,k1,k2,k3⟩:=(HK.o.below hb1 (by omega)).dk4;clear hb1;go_wp2_with fail;refine(HH.o _).mono ?_;rintro e w2 ⟨rfl,hb2⟩;have HB2:U6 W w2:=HB1.o.trans (hb2.mono HB1.o.size);have c:=ai (HK.o.below HB2.o (by omega));have HZ2:=ai (HZ.o.below HB2.o (by omega));obtain⟨k0,k1,k2,k3⟩:=c.o.dk4;obtain⟨z0,z1,z2,z3⟩:=HZ2.o.dk4;obtain⟨f0,f1,f2,f3⟩:=fr4 HZ2.o;clear hb2 HC HH;go_wp2_with fail;have HE:=ai (HZ2.o.set4 (.int .i64 d.sz) (.slice s.a1 d.ss.length s.c1) (.slice s.a2 d.pn.length s.c2) (.int .i64 0));refine ZW (gK Tryz.results170 rfl HE.o rfl) rfl ?_;rw[<-b.o];have hbw:=dV (HB0.o.trans (HB2.o.mono (by omega))) (show w.heap.size<=w.heap.size+1 by omega) (.int .i64 d.sz) (.slice s.a1 d.ss.length s.c1) (.slice s.a2 d.pn.length s.c2) (.int .i64 0);exact⟨s,by simp only[dkV,dkC,k.o];rfl,(j.o.below hbw hB).more (by have:=hbw.size;omega),hbw⟩
 . have hln: (lf == 0)=false:=by simpa using h0
   simp only[if_neg h0];obtain⟨D,hD⟩:=NX9 (aZ (doO d (some (i,x))) 0 w)
   have b:=ai hD;rw[hD];have HL:=ai (fun W=>DL lf W hl1 hl2);clear hD h0
   go_enter Tryz.func170,Tryz.ntmps170
   go_wp2_with fail;rw[HW.o];refine HC.o.mono ?_;rintro e w1 ⟨rfl,hb1⟩;have HB1:U6 W w1:=hb1;obtain⟨k0,k1,k2,k3⟩:=(HK.o.below hb1 (by omega)).dk4;clear hb1;go_wp2_with fail;refine(HH.o _).mono ?_;rintro e w2 ⟨rfl,hb2⟩;have HB2:U6 W w2:=HB1.o.trans (hb2.mono HB1.o.size);have c:=ai (HK.o.below HB2.o (by omega));obtain⟨k0,k1,k2,k3⟩:=c.o.dk4;have z2:=HB2.o.size;clear hb2 HC HH;obtain⟨W3,hW3⟩:=NX9 ((w2.alloc (.cells #[.int .i64 i,.string (ofL x)] 175)).alloc (.cells #[.slice s.a2 d.pn.length s.c2,.slice (some ⟨w2.heap.size,0,none⟩) 1 1] 23))
   have hb3:U0 w2 W3:=by rw[<-hW3];exact((ah _ w2).alloc aj _).alloc (by simp) _
   have z3:W3.heap.size=w2.heap.size+2:=by rw[<-hW3];simp
   have s0:Sl W3 (w2.heap.size+1) 2 (some ⟨w2.heap.size,0,none⟩) 1 (flat wrC [(i,x)]):=by rw[<-hW3];exact(Sl.new w2 175 (flat wrC [(i,x)]) 1 rfl).alloc (by simp) _
   have sC:Sl W3 W3.heap.size 1 (some ⟨w2.heap.size+1,0,none⟩) 2 (flat csC [⟨s.a2,d.pn.length,s.c2,d.pn⟩,⟨some ⟨w2.heap.size,0,none⟩,1,1,[(i,x)]⟩]):=by
    have:=Sl.new (size:=1) (w2.alloc (.cells #[.int .i64 i,.string (ofL x)] 175)) 23 (flat csC [⟨s.a2,d.pn.length,s.c2,d.pn⟩,⟨some ⟨w2.heap.size,0,none⟩,1,1,[(i,x)]⟩]) 2 rfl;rw[Z9]at this;rw[z3,<-hW3];exact this
   have f:=ai (KC (some ⟨w2.heap.size+1,0,none⟩) 2 2 W3.heap.size _ W3 sC (by
    intro q hq;simp only[List.mem_cons,List.not_mem_nil,or_false]at hq;rcases hq with rfl | rfl
    . exact((HM.o.pn.below (HB2.o.trans (hb3.mono (by omega))) (by omega)).more (by omega))
    . exact s0.more (by omega)) aj (by omega) (by simp[fG];omega) (by simp[fG]))
   have HB3:U6 W W3:=HB2.o.trans (hb3.mono (by omega));have HW3:=ai hW3;clear hb3 s0 sC hW3;simp only[fG,List.map_cons,List.map_nil,List.sum_cons,List.sum_nil,Nat.add_zero,List.flatMap_cons,List.flatMap_nil,List.append_nil]at f;go_wp2_with fail;rw[HW3.o];refine f.o.mono ?_;rintro e w4 ⟨A4,c4,rfl,l,hb4,hn4,hm4⟩;have m:=ai l;have HB4:U6 W w4:=HB3.o.trans (hb4.mono HB3.o.size);have g:=ai (HK.o.below HB4.o (by omega));have h:=ai (HZ.o.below HB4.o (by omega));obtain⟨k0,k1,k2,k3⟩:=g.o.dk4;obtain⟨z0,z1,z2,z3⟩:=h.o.dk4;obtain⟨f0,f1,f2,f3⟩:=fr4 h.o;have g2:=g.o.free 2;have g3:=g.o.free 3;clear l hb4 f;go_wp2_with fail;refine(HL.o _).mono ?_;rintro e w5 ⟨rfl,rfl⟩;go_wp2_with fail;have HE:=ai ((((h.o.far (p:=⟨w.heap.size,2,none⟩) (by show w.heap.size+1≠w.heap.size;omega) (.slice A4 (d.pn.length+1) c4)).far (p:=⟨w.heap.size,3,none⟩) (by show w.heap.size+1≠w.heap.size;omega) (.int .i64 (fM lf))).set4 (.int .i64 d.sz) (.slice s.a1 d.ss.length s.c1) (.slice A4 (d.pn.length+1) c4) (.int .i64 (fM lf))));refine ZW (gK Tryz.results170 rfl HE.o rfl) rfl ?_;rw[<-b.o];have hbw:=dV (((HB0.o.trans (HB4.o.mono (by omega))).setCell (p:=⟨w.heap.size,2,none⟩) aj (.slice A4 (d.pn.length+1) c4)).setCell (p:=⟨w.heap.size,3,none⟩) aj (.int .i64 (fM lf))) (show w.heap.size<=w.heap.size+1 by omega) (.int .i64 d.sz) (.slice s.a1 d.ss.length s.c1) (.slice A4 (d.pn.length+1) c4) (.int .i64 (fM lf));have hlt1:w.heap.size<W3.heap.size:=by omega
   have hlt2:w.heap.size+1<W3.heap.size:=by omega
   have hap:=(((((m.o.setCell (a:=⟨w.heap.size,2,none⟩) hlt1 (.slice A4 (d.pn.length+1) c4)).setCell (a:=⟨w.heap.size,3,none⟩) hlt1 (.int .i64 (fM lf))).setCell (a:=⟨w.heap.size+1,0,none⟩) hlt2 (.int .i64 d.sz)).setCell (a:=⟨w.heap.size+1,1,none⟩) hlt2 (.slice s.a1 d.ss.length s.c1)).setCell (a:=⟨w.heap.size+1,2,none⟩) hlt2 (.slice A4 (d.pn.length+1) c4)).setCell (a:=⟨w.heap.size+1,3,none⟩) hlt2 (.int .i64 (fM lf));refine⟨⟨s.a1,s.c1,A4,c4⟩,?_,⟨(j.o.ss.below hbw hB).more (by have:=hbw.size;omega),?_⟩,hbw⟩
   . simp only[dkV,dkC,doO,af,Z4,List.length_nil,k.o];rfl
   . show Sl _ _ 2 A4 (d.pn++ [(i,x)]).length _
     rw[af];exact hap.sl
section
open Go.RowKit Go.Sort
def Gro(w w':UW):Prop:=∃q os',w'=grow (w.drewN q) os'
section
variable {a b c : UW}
theorem Gro.refl(w:UW):Gro w w:=⟨0,#[],by rw[grow_empty];rfl⟩
theorem Gro.alloc(h:Gro a b)(o:Obj):Gro a (b.alloc o):=by
 obtain⟨q,os,rfl⟩:=h;exact⟨q,os++ #[o],by rw[alloc_eq_grow,grow_grow]⟩
theorem Lt(w:UW)(os:Array Obj)(k:Nat): (grow w os).drewN k=grow (w.drewN k) os:=by
 simp[World.drewN,grow]
theorem drewN_drewN(w:UW)(i j:Nat): (w.drewN i).drewN j=w.drewN (i+j):=by
 simp[World.drewN,Nat.add_assoc]
theorem Gro.drew(h:Gro a b):Gro a b.drew:=by
 obtain⟨q,os,rfl⟩:=h;exact⟨q+1,os,by rw[drew_grow,<-drewN_drewN];rfl⟩
theorem Gro.trans(h:Gro a b)(g:Gro b c):Gro a c:=by
 obtain⟨q,os,rfl⟩:=h;obtain⟨q2,os2,rfl⟩:=g;exact⟨q+q2,os++os2,by rw[Lt,grow_grow,drewN_drewN]⟩
theorem Gro.bel(h:Gro a b):U0 a b:=by
 obtain⟨q,os,rfl⟩:=h;exact⟨rfl,rfl,rfl,by simp[grow,World.drewN],fun k hk=>by
  simp only[grow,World.drewN];rw[Array.getElem?_append_left (by simpa using hk)]⟩
end
end
structure Gb(p:Nat->Prop)(w w':UW):Prop where
 os:w'.os=w.os
 tape:w'.tape=w.tape
 output:w'.output=w.output
 size:w.heap.size<=w'.heap.size
 block:∀k,k<w.heap.size->¬p k->w'.heap[k]? =w.heap[k]?
section
variable {p q : Nat -> Prop} {a b c : UW}
theorem Gb.refl(p:Nat->Prop)(w:UW):Gb p w w:=⟨rfl,rfl,rfl,Nat.le_refl _,fun _ _ _=>rfl⟩
theorem Gb.trans(h:Gb p a b)(k:Gb p b c):Gb p a c:=⟨k.os.trans h.os,k.tape.trans h.tape,k.output.trans h.output,ZY h.size k.size,fun i hi hp=>(k.block i (Nat.lt_of_lt_of_le hi h.size) hp).trans (h.block i hi hp)⟩
theorem Gb.mono(h:Gb p a b)(hq:∀k,k<a.heap.size->p k->q k):Gb q a b:=⟨h.os,h.tape,h.output,h.size,fun i hi hn=>h.block i hi (fun hp=>hn (hq i hi hp))⟩
theorem Gb.of_below(h:U0 a b):Gb p a b:=⟨h.os,h.tape,h.output,h.size,fun i hi _=>h.block i hi⟩
theorem Gb.below{B:Nat}(h:Gb p a b)(hB:B<=a.heap.size)(hp:∀k,k<B->¬p k):Below B a b:=⟨h.os,h.tape,h.output,h.size,fun i hi=>h.block i (by omega) (hp i hi)⟩
theorem Gb.set{w:UW}{x:Nat}(hx:p x)(o:Nat)(v:UY):Gb p w (w.setCell ⟨x,o,none⟩ v):=⟨rfl,rfl,rfl,by simp,fun i _ hn=>Z8 w ⟨x,o,none⟩ v i (fun e=>hn (by have e':i=x:=e;rw[e'];exact hx))⟩
theorem Gb.after{x:Nat}(h:Gb p a b)(hx:a.heap.size<=x)(o:Nat)(v:UY):Gb p a (b.setCell ⟨x,o,none⟩ v):=⟨h.os,h.tape,h.output,by have:=h.size;simpa using this,fun i hi hn=>(Z8 b ⟨x,o,none⟩ v i (fun e=>by have e':i=x:=e;omega)).trans (h.block i hi hn)⟩
theorem Gb.bk{x:Nat}{t:TypeId}{cs:Array UY}(h:Gb p a b)(hk:Bk a x t cs)(hx:¬p x):Bk b x t cs:=(h.block x hk.lt hx).trans hk
end
theorem kD{w:UW}{rb:Nat}{t:TypeId}{x y:UY}(h:Bk w rb t #[x,y])(x' y':UY):Bk ((w.setCell ⟨rb,1,none⟩ y').setCell ⟨rb,0,none⟩ x') rb t #[x',y']:=by
 have:=(h.set 1 y').set 0 x'
 simpa using this
theorem kC(w:UW)(rb:Nat)(x' y':UY):Gb (fun g=>g=rb) w ((w.setCell ⟨rb,1,none⟩ y').setCell ⟨rb,0,none⟩ x') :=
 (Gb.set (p:=fun g=>g=rb) (x:=rb) rfl 1 y').trans (Gb.set (p:=fun g=>g=rb) (x:=rb) rfl 0 x')
def wd1(l:UZ)(k:Nat):Nat:=dR 0 (l.take (min k 8))
def wd2(l:UZ)(k:Nat):Nat:=dR 0 ((l.drop 8).take (k - 8))
theorem Dj(l:UZ)(b:UInt8):dR 0 (l++ [b])=dR 0 l*256+b.toNat:=by simp[dR]
theorem Ew{l:UZ}{k:Nat}{b:UInt8}(h:l[k]? =some b)(hk:k<8):wd1 l (k+1)=wd1 l k*256+b.toNat/\wd2 l (k+1)=wd2 l k:=by
 unfold wd1 wd2;rw[show min (k+1) 8=k+1 by omega,show min k 8=k by omega,bJ h,Dj,show k+1 - 8=0 by omega,show k - 8=0 by omega];exact⟨rfl,rfl⟩
theorem EP{l:UZ}{k:Nat}{b:UInt8}(h:l[k]? =some b)(hk:8<=k):wd1 l (k+1)=wd1 l k/\wd2 l (k+1)=wd2 l k*256+b.toNat:=by
 unfold wd1 wd2;have h': (l.drop 8)[k - 8]? =some b:=by rw[List.getElem?_drop,show 8+ (k - 8)=k by omega];exact h
 rw[show min (k+1) 8=8 by omega,show min k 8=8 by omega,show k+1 - 8=k - 8+1 by omega,bJ h',Dj];exact⟨rfl,rfl⟩
theorem G8{l:UZ}{k:Nat}(hk:k<8):wd1 l k<256 ^ 7:=by
 have h:=nG (l.take (min k 8)) 0;have hl: (l.take (min k 8)).length<=7:=by rw[List.length_take];omega
 have:=Nat.pow_le_pow_right (n:=256) (by omega) hl;unfold wd1;omega
theorem Ib{l:UZ}{k:Nat}(hk:k<16):wd2 l k<256 ^ 7:=by
 have h:=nG ((l.drop 8).take (k - 8)) 0;have hl: ((l.drop 8).take (k - 8)).length<=7:=by rw[List.length_take];omega
 have:=Nat.pow_le_pow_right (n:=256) (by omega) hl;unfold wd2;omega
theorem Iw(l:UZ):dg l= ((wd1 l 16:Int),(wd2 l 16:Int)):=rfl
theorem rW{s:UX}{k:Nat}(h:k<s.size): (toL s)[k]? =some s[k]:=by
 rw[Z5 (by rw[<-aQ];exact h)];rfl
theorem sU{x y:Nat}(hx:x<256 ^ 7)(hy:y<256):bits .or .u64 ((x:Int)*256) (y:Int)= (x:Int)*256+ (y:Int) :=
 bits_join .u64 64 (by decide) (fun n h0 h1=>IntWalk.u64_in n (by omega)) 8 ((x:Int)*256) (y:Int) (by omega) (by omega) (by omega) (by omega) (by omega) (by omega)
structure Kt(w w':UW):Prop where
 others:KeepsOthers w w'
 same:∀(k:Nat)(cs:Array UY)(t:TypeId)(fr:Nat×Nat),t≠5->t≠215->w.heap[k]? =some (.cells cs t fr)->w'.heap[k]? =some (.cells cs t fr)
theorem Kt.refl(w:UW):Kt w w:=⟨KeepsOthers.refl w,fun _ _ _ _ _ _ h=>h⟩
theorem Kt.trans{a b c:UW}(h:Kt a b)(k:Kt b c):Kt a c:=⟨h.others.trans k.others,fun i cs t fr h5 h9 hi=>k.same i cs t fr h5 h9 (h.same i cs t fr h5 h9 hi)⟩
theorem Kt.alloc(w:UW)(o:Obj):Kt w (w.alloc o):=⟨KeepsOthers.alloc w o,fun k _ _ _ _ _ h=>(Below.heap_alloc w o k (Array.getElem?_eq_some_iff.1 h).1).trans h⟩
theorem Kt.setCell{w:UW}{b i:Nat}{cs:Array UY}{fr:Nat×Nat}(hb:w.heap[b]? =some (.cells cs 215 fr))(v:UY):Kt w (w.setCell ⟨b,i,none⟩ v) :=
 ⟨KeepsOthers.setCell _ _ _,fun k cs' t fr' _ h9 h=>(Z8 w ⟨b,i,none⟩ v k (fun e=>by
   have e':k=b:=e;rw[e',hb]at h;simp only[Option.some.injEq,Obj.cells.injEq]at h;exact h9 h.2.1.symm)).trans h⟩
theorem Kt.grown{w w':UW}{base size n:Nat}{v:UY}{xs:List UY}(hown:w.ownsRow base 5 size v n xs)(hg:w.grownBy w' v.ownBlock):Kt w w':=by
 have key:∀j,v.ownBlock=some j->∃cur,w.heap[j]? =some (.cells cur 5 (0,0)):=by
  intro j hj;rcases hown.2 with ⟨hv,_⟩ | ⟨g,cap,cur,hv,_,hh,_⟩
  . rw[hv]at hj;cases hj
  . rw[hv]at hj;cases hj;exact⟨cur,hh⟩
 refine⟨KeepsOthers.of_grownBy hg fun j o hj ho=>?_,fun k cs t fr h5 _ h=>?_⟩
 . obtain⟨cur,hc⟩:=key j hj
   rw[hc]at ho;cases ho;rfl
 . refine(hg.block k (Array.getElem?_eq_some_iff.1 h).1 (fun e=>?_)).trans h
   obtain⟨cur,hc⟩:=key k e.symm;rw[hc]at h;simp only[Option.some.injEq,Obj.cells.injEq]at h;exact h5 h.2.1.symm
theorem infoByte: (Tryz.prog.info? 5).map (fun i=>(i.zero,i.size,i.bytes))=some (some (.int .u8 0),1,1):=by kernel_rfl
theorem NJ(b:Nat)(w:UW)(h0:w.cell? ⟨b,0,none⟩=some (.pointer (some ⟨b,0,none⟩))) :
  Calls Tryz.prog 219 #[.pointer (some ⟨b,0,none⟩)] w fun e w'=>e= .returned (.tuple #[])/\w'=w:=by
 obtain⟨j,hj,_⟩:=Option.map_eq_some_iff.1 Tryz.Builder_Extra_169.sizeBuilder
 go_enter Tryz.func219,Tryz.ntmps219
 go_wp2
 rw[Lib.run_neq_ptr_same w _ Tryz.underlying212 hj]
 go_wp2
 go_end0
 exact⟨rfl,rfl⟩
theorem LC(b:Nat)(w:UW)(h0:w.cell? ⟨b,0,none⟩=some (.pointer none))(hsh:w.shape? b=some (215,2))(hfz:w.frozen? ⟨b,0,none⟩=false) :
  Calls Tryz.prog 219 #[.pointer (some ⟨b,0,none⟩)] w fun e w'=>e= .returned (.tuple #[])/\w'=w.setCell ⟨b,0,none⟩ (.pointer (some ⟨b,0,none⟩)):=by
 obtain⟨j,hj,hjs⟩:=Option.map_eq_some_iff.1 Tryz.Builder_Extra_169.sizeBuilder
 go_enter Tryz.func219,Tryz.ntmps219
 go_wp2
 rw[Lib.run_to_unsafe w ⟨b,0,none⟩ Tryz.underlying212 Tryz.underlying348 hj (by rw[hjs];decide) hsh (Nat.zero_lt_succ 1)];simp only[Result.andThen];rw[Oper.upon_value]
 go_wp2
 rw[run_callFunc_extern Tryz.func278 (by kernel_rfl) (by kernel_rfl) (by kernel_rfl) (e:=Extern.AbiNoEscape.same) (by kernel_rfl)];rw[Lib.run_noEscape];simp only[Result.andThen];rw[Oper.upon_value]
 go_wp2
 rw[Lib.run_from_unsafe w ⟨b,0,none⟩ Tryz.underlying348 Tryz.underlying212 hj hsh Tryz.Builder_Extra_169.liesBuilder];simp only[Result.andThen];rw[Oper.upon_value]
 go_wp2
 go_end0
 exact⟨rfl,rfl⟩
theorem D9(B b:Nat)(bs:List UY)(w:UW)(h:Lib.IsBuilder 215 5 B b bs w) :
  Calls Tryz.prog 219 #[.pointer (some ⟨b,0,none⟩)] w fun e w'=>e= .returned (.tuple #[])/\ (Lib.BuilderAt 215 5 B b (.pointer (some ⟨b,0,none⟩)) bs w'/\Below B w w'/\Kt w w'):=by
 rcases h with h | h
 . refine(LC b w h.cell0 h.shape h.frozen0).mono ?_
   rintro e w' ⟨rfl,rfl⟩;obtain⟨_,v,hb,_⟩:=id h;exact⟨rfl,h.used _,(ah B w).setCell (p:=⟨b,0,none⟩) h.1 _,Kt.setCell hb _⟩
 . refine(NJ b w h.cell0).mono ?_
   rintro e w' ⟨rfl,rfl⟩;exact⟨rfl,h,ah B _,Kt.refl _⟩
theorem Js(B b:Nat)(bs:List UY)(c:Int)(w:UW)(h:Lib.IsBuilder 215 5 B b bs w)(hlen:bs.length+1<=140737488355328)(hBw:B<=w.heap.size) :
  Calls Tryz.prog 252 #[.pointer (some ⟨b,0,none⟩),.int .u8 c] w fun e w'=>e= .returned .nilIface/\ (Lib.BuilderAt 215 5 B b (.pointer (some ⟨b,0,none⟩)) (bs++ [.int .u8 c]) w'/\Below B w w'/\Kt w w'):=by
 obtain⟨i0,hi,hz0,hz1,hz2⟩:=info_parts infoByte
 go_enter Tryz.func252,Tryz.ntmps252
 go_wp2_with fail;refine(D9 B b bs _ h).mono ?_;rintro e w1 ⟨rfl,h1,hb1,hk1⟩;have a:=ai hk1;clear hk1;obtain⟨hB,v,hbk,hown,hne⟩:=h1;have c0:w1.cell? ⟨b,0,none⟩=some (.pointer (some ⟨b,0,none⟩)):=by rw[Lib.cell_of_heap hbk];rfl
 have c1:w1.cell? ⟨b,1,none⟩=some v:=by rw[Lib.cell_of_heap hbk];rfl
 go_wp2_with (at_builtin;refine wpList_append_own _ rfl _ _ 213 rfl B 5 i0 (.int .u8 0) 1 1 Tryz.underlying213 hi hz0 hz1 hz2 rfl (by decide) _ _ _ rfl (hown.alloc _) ⟨w1.heap.size,0,none⟩ 1 1 [.int .u8 c] rfl rfl ?c1 ?c2 ?c3 ?c4 ?c5 ?_)
 case c1 =>
  intro j u hj
  match j,hj with
  | 0,hj=>simp at hj;subst hj;simp[Addr.add]
 case c2=>intro u hu;simp at hu;subst hu;rfl
 case c3=>unfold maxLen;omega
 case c4=>omega
 case c5=>have:=hb1.size;simp;omega
 intro v' w2 hown' hgrow _;have d:Hid (Kt w w2):=(a.o.trans (Kt.alloc _ _)).trans (Kt.grown (hown.alloc _) hgrow);have hlt:b<w1.heap.size:=(Array.getElem?_eq_some_iff.1 hbk).1;have hb2:w2.heap[b]? =some (.cells #[.pointer (some ⟨b,0,none⟩),v] 215 (0,0)):=by
  rw[hgrow.block b (by simp;omega) (fun e=>hne e.symm),Lib.alloc_old w1 _ b hlt];exact hbk
 have d0:w2.cell? ⟨b,0,none⟩=some (.pointer (some ⟨b,0,none⟩)):=by rw[Lib.cell_of_heap hb2];rfl
 have d1:w2.cell? ⟨b,1,none⟩=some v:=by rw[Lib.cell_of_heap hb2];rfl
 have f1:w2.frozen? ⟨b,1,none⟩=false:=Lib.frozen_of_heap hb2 1;obtain⟨g,cap,rfl⟩:∃g cap,v'= .slice (some ⟨g,0,none⟩) (bs.length+1) cap:=by
  rcases hown'.2 with ⟨_,h0⟩ | ⟨g,cap,cur,hv,_⟩
  . omega
  . exact⟨g,cap,hv⟩
 go_wp2
 go_ret
 refine⟨rfl,?_,?_,d.o.trans (Kt.setCell hb2 _)⟩
 . exact Lib.BuilderAt.put (T:=215) (e:=5) hB hb2 (bs':=bs++ [.int .u8 c]) (by simpa using hown') (by decide)
 . exact((hb1.alloc (by have:=hb1.size;omega) _).grown hgrow (by have:=hb1.size;simp;omega) (fun k hk=>(hown.lt k hk).1)).setCell (p:=⟨b,1,none⟩) hB _
theorem zZ(B b:Nat)(bs:List UY)(s:UX)(w:UW)(h:Lib.IsBuilder 215 5 B b bs w)(hlen:bs.length+s.size<=140737488355328)(hBw:B<=w.heap.size) :
  Calls Tryz.prog 136 #[.pointer (some ⟨b,0,none⟩),.string s] w fun e w'=>e= .returned (.tuple #[.int .i64 s.size,.nilIface])/\ (Lib.BuilderAt 215 5 B b (.pointer (some ⟨b,0,none⟩)) (bs++Lib.strCells s) w'/\Below B w w'/\Kt w w'):=by
 obtain⟨i0,hi,hz0,hz1,hz2⟩:=info_parts infoByte
 go_enter Tryz.func136,Tryz.ntmps136
 go_wp2_with fail;refine(D9 B b bs _ h).mono ?_;rintro e w1 ⟨rfl,h1,hb1,hk1⟩;have a:=ai hk1;clear hk1;obtain⟨hB,v,hbk,hown,hne⟩:=h1;have c0:w1.cell? ⟨b,0,none⟩=some (.pointer (some ⟨b,0,none⟩)):=by rw[Lib.cell_of_heap hbk];rfl
 have c1:w1.cell? ⟨b,1,none⟩=some v:=by rw[Lib.cell_of_heap hbk];rfl
 go_wp2_with (at_builtin;refine Lib.wpList_append_own_string _ rfl _ _ 213 9 rfl B 5 i0 Tryz.underlying213 Tryz.underlying9 hi hz0 hz1 hz2 _ _ _ rfl hown s rfl ?c3 ?c4 ?c5 ?_)
 case c3=>unfold maxLen;omega
 case c4=>omega
 case c5=>have:=hb1.size;omega
 intro v' w2 hown' hgrow _;have c:Hid (Kt w w2):=a.o.trans (Kt.grown hown hgrow);have hlt:b<w1.heap.size:=(Array.getElem?_eq_some_iff.1 hbk).1;have hb2:w2.heap[b]? =some (.cells #[.pointer (some ⟨b,0,none⟩),v] 215 (0,0)):=by
  rw[hgrow.block b hlt (fun e=>hne e.symm)];exact hbk
 have d0:w2.cell? ⟨b,0,none⟩=some (.pointer (some ⟨b,0,none⟩)):=by rw[Lib.cell_of_heap hb2];rfl
 have d1:w2.cell? ⟨b,1,none⟩=some v:=by rw[Lib.cell_of_heap hb2];rfl
 have f1:w2.frozen? ⟨b,1,none⟩=false:=Lib.frozen_of_heap hb2 1;obtain⟨ao,n',cap,rfl⟩:∃ao n' cap,v'= .slice ao n' cap:=by
  rcases hown'.2 with ⟨hv,_⟩ | ⟨g,cap,cur,hv,_⟩
  . exact⟨_,_,_,hv⟩
  . exact⟨_,_,_,hv⟩
 go_wp2
 go_ret2
 refine⟨rfl,?_,?_,c.o.trans (Kt.setCell hb2 _)⟩
 . exact Lib.BuilderAt.put (T:=215) (e:=5) hB hb2 (bs':=bs++Lib.strCells s) (by simpa [Lib.strCells_length] using hown') (by decide)
 . exact(hb1.grown hgrow (by have:=hb1.size;omega) (fun k hk=>(hown.lt k hk).1)).setCell (p:=⟨b,1,none⟩) hB _
section
open Go.RowKit Go.Shelf
attribute [local go_sem] Oper.semAt_some
def qo(lo:Nat)(A B:UW):Prop:=B.heap[lo]? =A.heap[lo]?
theorem QS{lo:Nat}{A B C:UW}(h:qo lo A B)(k:qo lo B C):qo lo A C:=k.trans h
theorem NI{lo m:Nat}(h:lo<m)(W:UW)(l:Nat)(o:Obj)(hl:m<=l):qo lo W (W.putObj l o):=World.putObj_heap_other (by omega)
def StB(lo:Nat)(A B:UW):Prop:=∃v,B=A.setCell ⟨lo,0,none⟩ (.int .i64 v)
theorem Md{lo:Nat}(A B:UW)(h:StB lo A B):KeepsOthers A B:=by
 obtain⟨v,rfl⟩:=h;exact KeepsOthers.setCell _ _ _
def numAt(lo:Nat)(w:UW):Nat:=match w.cell? ⟨lo,0,none⟩ with
 | some (.int _ n)=>n.toNat
 | _=>0
theorem EH{lo:Nat}{w:UW}{n:Nat}(h:w.heap[lo]? =some (.cells #[.int .i64 n] 3 (0,0))):numAt lo w=n:=by
 have:=cell_of_one h;simp[numAt,this]
theorem NY(n lo:Nat)(hn:1<=n)(m:Nat)(w:UW)(hm:m<=9223372036854775807)(hlo:lo<w.heap.size)(h0:w.heap[lo]? =some (.cells #[.int .i64 m] 3 (0,0))) :
  zM Fence.wide n Tryz.prog 295 #[.pointer (some ⟨lo,0,none⟩)] (fun x:UInt8=> #[.int .u8 x.toNat]) (qo lo) (StB lo)
   (fun pre=>∃r,pre++r=ak m) (fun xs=>xs=ak m) (fun pre=>∃r,pre++r=ak m) w:=fun l J Jx W hW hJ hY hJ0=>by
 have g0:W.heap[lo]? =some (.cells #[.int .i64 m] 3 (0,0)):=(hW.block lo (by omega)).trans h0;clear hW h0;have G0:=ai g0;have HJ:=ai hJ;have f:=ai hY;have b:=ai hJ0;clear g0 hJ hY hJ0;refine callsIn_of_wp Tryz.func295 rfl trivial ?_ rfl;simp only[Tryz.ntmps295,List.size_toArray,Z4,List.length_nil,Nat.reduceAdd,Nat.reduceSub,Array.replicate_succ,Array.replicate_zero,List.push_toArray,List.append_toArray,List.nil_append,List.cons_append]
 gi_wp2_with fail
 gi_loopw [3,4] (fun _ _ wr=>∃(pre:UZ)(c:Nat),c<=9223372036854775807/\Hid (wr.heap[lo]? =some (.cells #[.int .i64 c] 3 (0,0)))/\Hid (pre++ak c=ak m)/\J pre wr)
  (fun _ _ wr=>numAt lo wr)
 case atStart=>exact⟨[],m,hm,G0,rfl,b.o⟩
 case round =>
  obtain⟨pre,c,hc,k0,hsp,hj⟩:=hrel;have d0:=cell_of_one k0.o;have f0:=free_of_one k0.o;have a:=ai hj;clear hj;by_cases hs:c<128
  . have e8:=kT (n:=c) (by omega)
    obtain⟨fn,tmps,assign,body,hy,hR⟩:=f.o pre (UInt8.ofNat c) wr ⟨[],by rw[List.append_nil,<-hsp.o,eu hs]⟩ a.o;rw[e8]at hy;have HR:=ai hR;have HE:=ai (eu hs);clear hR e8;have hci:¬(128:Int)<= (c:Int):=by omega
    gi_wp2
    refine HR.o.mono ?_;rintro e W3 (⟨rfl,hJ3,_⟩ | ⟨rfl,hJx3⟩)
    . gi_wp2
      go_end0
      exact⟨⟨_,rfl⟩,.inl ⟨pre++ [UInt8.ofNat c],by rw[<-hsp.o,HE.o],hJ3⟩⟩
    . gi_wp2
      go_end0
      exact⟨⟨_,rfl⟩,.inr ⟨pre++ [UInt8.ofNat c],⟨[],by rw[<-hsp.o,HE.o,List.append_nil]⟩,hJx3⟩⟩
  . have e8:=kT (n:=c % 128+128) (by omega)
    have ei: (((UInt8.ofNat (c % 128+128)).toNat:Nat):Int)= (c:Int) % 128+128:=by rw[e8];omega
    obtain⟨fn,tmps,assign,body,hy,hR⟩:=f.o pre (UInt8.ofNat (c % 128+128)) wr ⟨ak (c / 128),by rw[<-hsp.o,lu hs,ZZ];rfl⟩ a.o;rw[ei]at hy;have HR:=ai hR;have HE:=ai (lu hs);clear hR e8 ei;have hci: (128:Int)<= (c:Int):=by omega
    gi_wp2
    refine HR.o.mono ?_;rintro e W3 (⟨rfl,hJ3,hK3⟩ | ⟨rfl,hJx3⟩)
    . have m0:W3.heap[lo]? =some (.cells #[.int .i64 c] 3 (0,0)):=hK3.trans k0.o
      have e0:=cell_of_one m0;have q0:=free_of_one m0;have M0:=ai m0;have d:=ai hJ3;clear m0 hJ3 hK3 d0 f0
      gi_wp2
      go_roundw
      case rel =>
       refine⟨pre++ [UInt8.ofNat (c % 128+128)],c / 128,by omega,one_setCell M0.o,?_,HJ.o _ _ _ d.o ⟨_,rfl⟩⟩;show _=_;rw[<-hsp.o,HE.o,ZZ];rfl
      case measure =>
       have hq:=one_setCell (u:= .int .i64 ((c / 128:Nat):Int)) M0.o;rw[show(c:Int) / 128= ((c / 128:Nat):Int) by omega,EH hq,EH k0.o];omega
    . gi_wp2
      refine ZW (results_none rfl _ _ _) rfl ?_;exact⟨⟨_,rfl⟩,.inr ⟨pre++ [UInt8.ofNat (c % 128+128)],⟨ak (c / 128),by rw[<-hsp.o,HE.o,ZZ];rfl⟩,hJx3⟩⟩
theorem KW(m:Int)(w:UW) :
  Calls Tryz.prog 251 #[.int .i64 m] w fun e w'=>e= .returned (.func (.func 295) #[] #[.pointer (some ⟨w.heap.size,0,none⟩)])/\w'=w.alloc (.cells #[.int .i64 m] 3):=by
 go_enter Tryz.func251,Tryz.ntmps251
 go_wp2
 go_ret
 exact⟨rfl,rfl⟩
theorem BC{B b:Nat}{p:UY}{bs:List UY}{W W':UW}{row:Option Nat}(h:Lib.BuilderAt 215 5 B b p bs W)(hg:W.grownBy W' row)(hr:∀r,row=some r->∃o:Obj,W.heap[r]? =some o/\o.isCells=false):Lib.BuilderAt 215 5 B b p bs W':=by
 obtain⟨hB,v,hb,hown,hne⟩:=h;have key:∀(k:Nat)(cs:Array UY)(t:TypeId)(fr:Nat×Nat),W.heap[k]? =some (Obj.cells cs t fr)->W'.heap[k]? =some (Obj.cells cs t fr):=fun k cs t fr hk =>
  (hg.block k (Array.getElem?_eq_some_iff.1 hk).1 (fun e=>by
    obtain⟨o,ho,hc⟩:=hr k e.symm;rw[ho]at hk;cases hk;cases hc)).trans hk
 refine⟨hB,v,key _ _ _ _ hb,⟨hown.1,?_⟩,hne⟩;rcases hown.2 with h0 | ⟨g,cap,cur,hv,h1,hh,h2⟩
 . exact .inl h0
 . exact .inr ⟨g,cap,cur,hv,h1,key _ _ _ _ hh,h2⟩
theorem uQ{B b:Nat}{bs:List UY}{W W':UW}{row:Option Nat}(h:Lib.IsBuilder 215 5 B b bs W)(hg:W.grownBy W' row)(hr:∀r,row=some r->∃o:Obj,W.heap[r]? =some o/\o.isCells=false):Lib.IsBuilder 215 5 B b bs W':=by
 rcases h with h | h
 . exact .inl (BC h hg hr)
 . exact .inr (BC h hg hr)
theorem JB{B b lo:Nat}{bs:List UY}{W:UW}{v u:UY}(h:Lib.IsBuilder 215 5 B b bs W)(hlo:W.heap[lo]? =some (.cells #[v] 3 (0,0))):Lib.IsBuilder 215 5 B b bs (W.setCell ⟨lo,0,none⟩ u):=by
 have key:∀(k:Nat)(cs:Array UY)(t:TypeId)(fr:Nat×Nat),t≠3->W.heap[k]? =some (Obj.cells cs t fr)-> (W.setCell ⟨lo,0,none⟩ u).heap[k]? =some (Obj.cells cs t fr):=fun k cs t fr h3 hk =>
  (Z8 W ⟨lo,0,none⟩ u k (fun e=>by
    have e':k=lo:=e;rw[e',hlo]at hk;simp only[Option.some.injEq,Obj.cells.injEq]at hk;exact h3 hk.2.1.symm)).trans hk
 have one:∀p,Lib.BuilderAt 215 5 B b p bs W->Lib.BuilderAt 215 5 B b p bs (W.setCell ⟨lo,0,none⟩ u):=by
  rintro p ⟨hB,v',hb,hown,hne⟩;refine⟨hB,v',key _ _ _ _ (by decide) hb,⟨hown.1,?_⟩,hne⟩;rcases hown.2 with h0 | ⟨g,cap,cur,hv,h1,hh,h2⟩
  . exact .inl h0
  . exact .inr ⟨g,cap,cur,hv,h1,key _ _ _ _ (by decide) hh,h2⟩
 rcases h with h | h
 . exact .inl (one _ h)
 . exact .inr (one _ h)
theorem Ad{B b:Nat}{bs:List UY}{W:UW}(h:Lib.IsBuilder 215 5 B b bs W)(o:Obj):Lib.IsBuilder 215 5 B b bs (W.alloc o) :=
 uQ h (World.grownBy_alloc W o none) (fun r e=>by cases e)
theorem Jq(l:UZ)(x:UInt8):Lib.byteCells l++ [.int .u8 x.toNat]=Lib.byteCells (l++ [x]):=by simp[Lib.byteCells]
theorem uP(l:UZ): (Lib.byteCells l).length=l.length:=by simp[Lib.byteCells]
theorem qR(B b:Nat)(bs:UZ)(m:Nat)(w:UW)(h:Lib.IsBuilder 215 5 B b (Lib.byteCells bs) w)(hBw:B<=w.heap.size)(hm:m<=1099511627776)(hlen:bs.length<=1099511627776) :
  Calls Tryz.prog 177 #[.pointer (some ⟨b,0,none⟩),.int .i64 m] w fun e w'=>e= .returned (.tuple #[])/\Lib.IsBuilder 215 5 B b (Lib.byteCells (bs++ak m)) w'/\Below B w w':=by
 refine(callsIn_wide (n:=6)).1 ?_;have a:Fence.wide.fn 251:=trivial;have d:Fence.wide.fn 252:=trivial;have HH:=ai h;clear h;refine callsIn_of_wp_marks Tryz.func177 rfl trivial ?_ rfl;simp only[Tryz.ntmps177,List.size_toArray,Z4,List.length_nil,Nat.reduceAdd,Nat.reduceSub,Array.replicate_succ,Array.replicate_zero,List.push_toArray,List.append_toArray,List.nil_append,List.cons_append]
 gi_wp2_with (gi_at_call 251;refine(callsIn_wide.2 (KW _ _)).mono ?_;rintro e w' ⟨rfl,rfl⟩)
 obtain⟨W0,hW0⟩:=NX9 ((w.alloc (.cells #[.pointer (some ⟨b,0,none⟩)] 212)).alloc (.cells #[.int .i64 m] 3))
 have hz:W0.heap.size=w.heap.size+2:=by rw[<-hW0];simp
 have g0:W0.heap[w.heap.size]? =some (.cells #[.pointer (some ⟨b,0,none⟩)] 212 (0,0)):=by
  rw[<-hW0];exact(Below.heap_alloc _ _ _ (by simp)).trans (World.alloc_heap_new w _)
 have g1:W0.heap[w.heap.size+1]? =some (.cells #[.int .i64 m] 3 (0,0)):=by
  rw[<-hW0];have:=World.alloc_heap_new (w.alloc (.cells #[.pointer (some ⟨b,0,none⟩)] 212)) (.cells #[.int .i64 m] 3);rwa[Z9]at this
 have hb0:Below B w W0:=by
  rw[<-hW0];exact((ah _ w).alloc hBw _).alloc (by simp;omega) _
 have hbd:Lib.IsBuilder 215 5 B b (Lib.byteCells bs) W0:=by
  rw[<-hW0];exact Ad (Ad HH.o _) _
 rw[hW0];refine vw (F:=Fence.wide) (n:=6) rfl (by omega) (gf:=295) (lb:=#[.pointer (some ⟨w.heap.size+1,0,none⟩)]) rfl trivial (enters_of Tryz.func295 (by kernel_rfl) rfl)
  (NY 5 (w.heap.size+1) (by omega) m W0 (by omega) (by omega) g1) QS (fun W l o hl=>NI (m:=w.heap.size+2) (by omega) W l o (by omega)) Md (ah _ _) (fun _=>rfl)
  (fun pre W=>W.heap[w.heap.size]? =some (.cells #[.pointer (some ⟨b,0,none⟩)] 212 (0,0))/\ (∃c,W.heap[w.heap.size+1]? =some (.cells #[.int .i64 c] 3 (0,0)))/\Lib.IsBuilder 215 5 B b (Lib.byteCells (bs++pre)) W/\Below B w W)
  (fun _ _ _=>False) ?hI ?hIx ?hIS ⟨g0,⟨_,g1⟩,by rw[List.append_nil];exact hbd,hb0⟩
  (fun x=>{tmps:=#[.pointer (some ⟨b,0,none⟩),.int .i64 m,.pointer (some ⟨w.heap.size,0,none⟩),undef,.int .u8 x.toNat,.int .i64 m,.func (.func 295) #[] #[.pointer (some ⟨w.heap.size+1,0,none⟩)],.int .u8 x.toNat,undef,undef,undef],defers:= []}) ?assign ?body ?done ?stop
 case hI =>
  rintro pre A C row ⟨h1,⟨c,h2⟩,h3,h4⟩ hg hr;have hnc:∀r,row=some r->∃o:Obj,A.heap[r]? =some o/\o.isCells=false:=fun r e=>(hr r e).2;have key:∀(k:Nat)(v:UY)(t:TypeId),A.heap[k]? =some (Obj.cells #[v] t (0,0))->C.heap[k]? =some (Obj.cells #[v] t (0,0)):=fun k v t hk =>
   (hg.block k (lt_of_block hk) (fun e=>by
     obtain⟨o,ho,hc⟩:=hnc k e.symm;rw[ho]at hk;cases hk;cases hc)).trans hk
  exact⟨key _ _ _ h1,⟨c,key _ _ _ h2⟩,uQ h3 hg hnc,h4.grown hg (ZY hBw h4.size) (fun k e=>by have:=(hr _ e).1;omega)⟩
 case hIx=>rintro c pre A C row hf _ _;exact hf
 case hIS =>
  rintro pre A C ⟨h1,⟨c,h2⟩,h3,h4⟩ ⟨v,rfl⟩;exact⟨(Z8 _ _ _ _ (by simp)).trans h1,⟨v,one_setCell h2⟩,JB h3 h2,h4.setCell (p:=⟨w.heap.size+1,0,none⟩) (by show B<=w.heap.size+1;omega) _⟩
 case assign =>
  intro l x W K hK
  gi_wp2
  exact hK
 case body =>
  rintro l pre x W ⟨r,hr⟩ ⟨h1,⟨c,h2⟩,h3,h4⟩;have c0:=cell_of_one h1;have hpl:pre.length+1<=6:=by
   have e1:=congrArg List.length hr;have e2:=gq 5 m (by omega);simp at e1;omega
  have H1:=ai h1;have H2:=ai h2;have H3:=ai h3;have H4:=ai h4;clear h1 h2 h3 h4 g0 g1 hb0 hW0 hz hbd hr
  gi_wp2_with (gi_at_call 252;refine(CallsIn.inRound l (callsIn_wide.2 (Js B b (Lib.byteCells (bs++pre)) _ _ H3.o (by rw[uP,af];omega) (ZY hBw H4.o.size)))).mono ?_;rintro e w' ⟨rfl,k1,k2,k3⟩)
  refine⟨k3.others,?_,?_⟩
  . show _=_
    rw[k3.same _ _ _ _ (by decide) (by decide) H2.o,H2.o]
  . refine⟨k3.same _ _ _ _ (by decide) (by decide) H1.o,⟨c,k3.same _ _ _ _ (by decide) (by decide) H2.o⟩,?_,H4.o.trans k2⟩
    rw[Jq,ZZ]at k1;exact .inr k1
 case done =>
  rintro D xs W hD rfl ⟨h1,_,h3,h4⟩ hK;have H3:=ai h3;have H4:=ai h4;have HK:=ai hK;clear h1 h3 h4 hK
  gi_wp2
  refine⟨by simp,.inl ⟨_,_,rfl,run_takeDeferred HK.o,?_⟩⟩;refine⟨_,results_none rfl _ _ _,rfl,?_,?_⟩
  . exact uQ H3.o (grownBy_putObj' _ _ _) (fun r e=>by cases e;exact⟨_,HK.o,rfl⟩)
  . exact H4.o.grown (grownBy_putObj' _ _ _) (ZY hBw H4.o.size) (fun k e=>by cases e;omega)
 case stop =>
  rintro D c pre W hD hS hf hK;exact hf.elim
end
theorem BA(s:UX):Lib.strCells s=Lib.byteCells (toL s):=by simp[Lib.strCells,Lib.byteCells,toL]
theorem JY(n:Nat)(hn:n<=1099511627776)(w:UW):Calls Tryz.prog 176 #[.int .i64 n] w fun e w'=>e= .returned (.bool true)/\w=w':=by
 have h0: (0:Int)<= (n:Int):=by omega
 have h1: (n:Int)<=1099511627776:=by omega
 go_enter Tryz.func176,Tryz.ntmps176
 go_wp2
 go_ret
 exact⟨rfl,rfl⟩
theorem ry(n:Nat)(hn:n<=1099511627776)(w:UW) :
  Calls Tryz.prog 107 #[.int .i64 n] w fun e w'=>e= .returned (.tuple #[.string (ofL (ak n)),.int .i64 0])/\U0 w w':=by
 go_enter Tryz.func107,Tryz.ntmps107
 go_wp2_with (go_at_call 176;refine(JY n hn _).mono ?_;rintro e w' ⟨rfl,rfl⟩)
 have hb:=Lib.fresh_isBuilder 215 5 w;refine(qR w.heap.size w.heap.size [] n _ hb (by simp) hn (by simp)).mono ?_;rintro e w1 ⟨rfl,h1,hb1⟩;rw[List.nil_append]at h1;have H1:=ai h1;have HB1:U6 w w1:=((ah _ w).alloc aj _).trans hb1;clear hb hb1 h1;go_wp2_with fail;refine(Tryz.Builder_String_any w.heap.size w.heap.size (ak n) _ H1.o HB1.o.size).mono ?_;rintro e w2 ⟨rfl,hb2⟩;have HB2:=ai (HB1.o.trans hb2);clear hb2;go_wp2_with fail;go_ret2
 exact⟨rfl,HB2.o⟩
theorem Bz(s:UX)(hs:s.size<=65536)(w:UW) :
  Calls Tryz.prog 178 #[.string s] w fun e w'=>e= .returned (.tuple #[.string (ofL (ax (toL s))),.int .i64 0])/\U0 w w':=by
 have hsi:¬(65536:Int)< (s.size:Int):=by omega
 have hsz:=aQ s;have a:=ai hsz;clear hsz
 go_enter Tryz.func178,Tryz.ntmps178
 go_wp2_with fail;have hb:=Lib.fresh_isBuilder 215 5 w;refine(qR w.heap.size w.heap.size [] s.size _ hb (by simp) (by omega) (by simp)).mono ?_;rintro e w1 ⟨rfl,h1,hb1⟩;rw[List.nil_append]at h1;have H1:=ai h1;have HB1:U6 w w1:=((ah _ w).alloc aj _).trans hb1;clear hb hb1 h1;go_wp2_with fail;refine(zZ w.heap.size w.heap.size (Lib.byteCells (ak s.size)) s _ H1.o (by rw[uP];have:=gq 5 s.size (by omega);omega) HB1.o.size).mono ?_;rintro e w2 ⟨rfl,h2,hb2,_⟩;have H2:Hid (Lib.IsBuilder 215 5 w.heap.size w.heap.size (Lib.byteCells (ax (toL s))) w2):=by
  refine .inr ?_;have e1:Lib.byteCells (ak s.size)++Lib.strCells s=Lib.byteCells (ax (toL s)):=by
   rw[BA];unfold ax;rw[<-a.o];simp[Lib.byteCells]
  rw[<-e1];exact h2
 have HB2:=ai (HB1.o.trans hb2);clear hb2 h2;go_wp2_with fail;refine(Tryz.Builder_String_any w.heap.size w.heap.size _ _ H2.o HB2.o.size).mono ?_;rintro e w3 ⟨rfl,hb3⟩;have HB3:=ai (HB2.o.trans hb3);clear hb3;go_wp2_with fail;go_ret2
 exact⟨rfl,HB3.o⟩
def uC(r:Nat×Nat×Int)(w:UW)(e:Ending)(w':UW):Prop:=e= .returned (.tuple #[.int .i64 r.1,.int .i64 r.2.1,.int .i64 r.2.2])/\w=w'
theorem wR{s:UX}{k:Nat}(h:k<s.size): (toL s).drop k=s[k]:: (toL s).drop (k+1):=by
 rw[List.drop_eq_getElem_cons (by rw[<-aQ];exact h)];rfl
theorem mr(s:UX)(w:UW):Calls Tryz.prog 141 #[.string s] w (uC (az (toL s)) w):=by
 have HR:Hid (∀r,az (toL s)=r->∀e w',uC r w e w'->uC (az (toL s)) w e w'):=fun r h e w' hh=>by rw[h];exact hh
 have H0:Hid (az (toL s)=gi 6 0 0 1 ((toL s).drop 0)):=rfl
 go_enter Tryz.func141,Tryz.ntmps141
 go_wp2
 go_loop[5,6,9] (fun n u i=>∃k a b:Nat,k<=6/\i= .int .i64 k/\n= .int .i64 a/\u= .int .i64 b/\1<=b/\b<=128 ^ 6/\Hid (b=128 ^ k)/\a<b/\Hid (az (toL s)=gi (6 - k) k a b ((toL s).drop k))) (fun _ _ i=>6 - (intOf i).toNat)
 case atStart=>exact⟨0,0,1,by omega,rfl,rfl,rfl,by omega,by omega,rfl,by omega,H0.o⟩
 case round =>
  obtain⟨k,a,b,hk,rfl,rfl,rfl,hb1,hb2,hb,hab,hg⟩:=hrel;by_cases hlt:k<6
  . have hf:Hid (6 - k=5 - k+1):=by show _=_;omega
    by_cases hsz:k<s.size
    . have hsz':¬(s.size:Int)<= (k:Int):=by omega
      have hbn:Hid (128*b=128 ^ (k+1)):=by show _=_;rw[hb.o,Nat.pow_succ,Nat.mul_comm]
      have hbp:128*b<=128 ^ 6:=by rw[hbn.o];exact Nat.pow_le_pow_right (by omega) (by omega)
      have hst:Hid (az (toL s)=if s[k].toNat<128 then(if(s[k].toNat=0/\0<k)∨1099511627776<a+s[k].toNat*b then(0,0,13) else(a+s[k].toNat*b,k+1,0)) else gi (5 - k) (k+1) (a+ (s[k].toNat - 128)*b) (b*128) ((toL s).drop (k+1))):=by
       show _=_;rw[hg.o,hf.o,wR hsz,gi]
      have hd:s[k].toNat<256:=s[k].toNat_lt;generalize hdd:s[k].toNat=d at *;have hdi: (s[k].toNat:Int)= (d:Int):=by rw[hdd]
      clear hdd;by_cases h128:d<128
      . obtain⟨p,hp⟩:=NX9 (d*b)
        have hpb:p<=128*b:=by rw[<-hp];exact Nat.mul_le_mul_right _ (by omega)
        have hpi: (d:Int)* (b:Int)= (p:Int):=by rw[<-hp];simp
        have f:¬(128:Int)<= (d:Int):=by omega
        rw[hp,if_pos h128]at hst;clear hp;by_cases hmx:1099511627776<a+p
        . have g: (1099511627776:Int)< (a:Int)+ (p:Int):=by omega
          have hfin:Hid (az (toL s)= (0,0,13)):=by show _=_;rw[hst.o,if_pos (.inr hmx)]
          clear hst hg;by_cases hd0:d=0
          . have c: ((d:Int) == 0)=true:=by rw[beq_iff_eq];omega
            clear hd0;by_cases hk0: (0:Int)< (k:Int)
            all_goals
             go_wp2
             go_ret3
             exact HR.o _ hfin.o _ _ ⟨rfl,rfl⟩
          . have c: ((d:Int) == 0)=false:=by rw[beq_eq_false_iff_ne];omega
            clear hd0
            go_wp2
            go_ret3
            exact HR.o _ hfin.o _ _ ⟨rfl,rfl⟩
        . have g:¬(1099511627776:Int)< (a:Int)+ (p:Int):=by omega
          by_cases hd0:d=0
          . have c: ((d:Int) == 0)=true:=by rw[beq_iff_eq];omega
            by_cases hk0:0<k
            . have j: (0:Int)< (k:Int):=by omega
              have hfin:Hid (az (toL s)= (0,0,13)):=by show _=_;rw[hst.o,if_pos (.inl ⟨hd0,hk0⟩)]
              clear hst hg hd0
              go_wp2
              go_ret3
              exact HR.o _ hfin.o _ _ ⟨rfl,rfl⟩
            . have j:¬(0:Int)< (k:Int):=by omega
              have hfin:Hid (az (toL s)= (a+p,k+1,0)):=by show _=_;rw[hst.o,if_neg (by omega)]
              clear hst hg hd0
              go_wp2
              go_ret3
              exact HR.o _ hfin.o _ _ ⟨rfl,rfl⟩
          . have c: ((d:Int) == 0)=false:=by rw[beq_eq_false_iff_ne];omega
            have hfin:Hid (az (toL s)= (a+p,k+1,0)):=by show _=_;rw[hst.o,if_neg (by omega)]
            clear hst hg hd0
            go_wp2
            go_ret3
            exact HR.o _ hfin.o _ _ ⟨rfl,rfl⟩
      . obtain⟨p,hp⟩:=NX9 ((d - 128)*b)
        have hpb:p+b<=128*b:=by
         have: (d - 128+1)*b<=128*b:=Nat.mul_le_mul_right _ (by omega);rw[Nat.add_mul,hp]at this;omega
        have hpi: ((d:Int) - 128)* (b:Int)= (p:Int):=by
         rw[<-hp,Int.natCast_mul,Int.ofNat_sub (by omega)];rfl
        have f: (128:Int)<= (d:Int):=by omega
        rw[hp,if_neg h128]at hst;clear hp
        go_wp2
        go_round
        case rel=>exact⟨k+1,a+p,b*128,by omega,by go_num,by go_num,by go_num,by omega,by omega,by show _=_;rw[Nat.mul_comm];exact hbn.o,by omega,by show _=_;rw[hst.o,show 6 - (k+1)=5 - k by omega]⟩
        case measure=>simp[intOf];omega
    . have hsz': (s.size:Int)<= (k:Int):=by omega
      have hfin:Hid (az (toL s)= (0,0,12)):=by
       show _=_;rw[hg.o,hf.o,List.drop_of_length_le (by rw[<-aQ];omega),gi]
      clear hg
      go_wp2
      go_ret3
      exact HR.o _ hfin.o _ _ ⟨rfl,rfl⟩
  . have hfin:Hid (az (toL s)= (0,0,13)):=by
      show _=_;rw[hg.o,show 6 - k=0 by omega,gi]
    clear hg
    go_wp2
    go_ret3
    exact HR.o _ hfin.o _ _ ⟨rfl,rfl⟩
def uJ(r:UZ×Nat×Int)(w:UW)(e:Ending)(w':UW):Prop:=e= .returned (.tuple #[.string (ofL r.1),.int .i64 r.2.1,.int .i64 r.2.2])/\w=w'
theorem vC(s:UX)(a n:Nat):s.extract a (a+n)=ofL (((toL s).drop a).take n):=by
 apply ByteArray.ext
 apply Array.toList_inj.1
 show(s.extract a (a+n)).data.toList= ((toL s).drop a).take n;rw[lX,Nat.add_sub_cancel_left];rfl
theorem uY(s:UX)(hs:s.size<=maxLen)(w:UW):Calls Tryz.prog 226 #[.string s] w (uJ (aK (toL s)) w):=by
 unfold maxLen at hs;have HR:Hid (∀r,aK (toL s)=r->∀e w',uJ r w e w'->uJ (aK (toL s)) w e w'):=fun r h e w' hh=>by rw[h];exact hh
 have HD:Hid (aK (toL s)=if(az (toL s)).2.2≠0 then([],0,(az (toL s)).2.2) else if 65536< (az (toL s)).1 then([],0,13) else if(toL s).length< (az (toL s)).2.1+ (az (toL s)).1 then([],0,12) else(((toL s).drop (az (toL s)).2.1).take (az (toL s)).1,(az (toL s)).2.1+ (az (toL s)).1,0)):=rfl;rw[<-aQ]at HD;have hle:=ni (toL s);rw[<-aQ]at hle;have hmx:=xW (toL s)
 go_enter Tryz.func226,Tryz.ntmps226
 go_wp2_with fail;refine(mr s _).mono ?_;generalize az (toL s)=r at *;obtain⟨n,k,e⟩:=r;rintro e' w' ⟨rfl,rfl⟩;simp only at hle hmx HD ⊢;by_cases he:e=0
 . subst he
   by_cases hn:65536<n
   . have hni: (65536:Int)< (n:Int):=by omega
     have hfin:Hid (aK (toL s)= ([],0,13)):=by show _=_;rw[HD.o,if_neg (by simp),if_pos hn]
     clear HD
     go_wp2
     go_ret3
     exact HR.o _ hfin.o _ _ ⟨rfl,rfl⟩
   . have hni:¬(65536:Int)< (n:Int):=by omega
     by_cases hl:s.size<k+n
     . have a: (s.size:Int) - (k:Int)< (n:Int):=by omega
       have hfin:Hid (aK (toL s)= ([],0,12)):=by show _=_;rw[HD.o,if_neg (by simp),if_neg hn,if_pos hl]
       clear HD
       go_wp2
       go_ret3
       exact HR.o _ hfin.o _ _ ⟨rfl,rfl⟩
     . have a:¬(s.size:Int) - (k:Int)< (n:Int):=by omega
       have hfin:Hid (aK (toL s)= (((toL s).drop k).take n,k+n,0)):=by show _=_;rw[HD.o,if_neg (by simp),if_neg hn,if_neg hl]
       have HX:=ai (vC s k n);clear HD
       go_wp2
       go_ret3
       exact HR.o _ hfin.o _ _ ⟨by rw[<-HX.o];rfl,rfl⟩
 . have hne: (e != 0)=true:=by rw[bne_iff_ne];exact he
   have hfin:Hid (aK (toL s)= ([],0,e)):=by show _=_;rw[HD.o,if_pos he]
   clear HD he
   go_wp2
   go_ret3
   exact HR.o _ hfin.o _ _ ⟨rfl,rfl⟩
theorem Bk.two{w:UW}{b:Nat}{t:TypeId}{x y:UY}(h:Bk w b t #[x,y]):w.cell? ⟨b,0,none⟩=some x/\w.cell? ⟨b,1,none⟩=some y/\w.frozen? ⟨b,0,none⟩=false/\w.frozen? ⟨b,1,none⟩=false:=by
 have h0:=h.cell 0;have h1:=h.cell 1;simp at h0 h1;exact⟨h0,h1,h.free 0,h.free 1⟩
theorem KJ(x r:UZ): (ofL (x++r)).extract x.length (ofL (x++r)).size=ofL r:=by
 apply ny
 show((ofL (x++r)).extract x.length (ofL (x++r)).size).data.toList=r;have h: (ofL (x++r)).data.toList=x++r:=rfl;rw[ByteArray.data_extract,Array.toList_extract,List.extract_eq_take_drop,h,List.drop_left,ZU];rw[bK,af];omega
def Rdr(w:UW)(b:Nat)(r:UZ):Prop:=Bk w b 229 #[.string (ofL r),.bool false]
def RdE(v:UY)(b:Nat)(r:UZ)(w:UW)(e:Ending)(w':UW):Prop:=e= .returned v/\Rdr w' b r/\Gb (fun g=>g=b) w w'
def enC(e:Ent):List UY:= [.string e.nm,.bool e.dir,.int .u64 e.dg.1,.int .u64 e.dg.2]
def Jc(e:Ent):UY:= .agg #[.string e.nm,.bool e.dir,.int .u64 e.dg.1,.int .u64 e.dg.2]
def dgC(d:Dig):List UY:= [.int .u64 d.1,.int .u64 d.2]
theorem tN(e:Ent): (enC e).length=4:=rfl
theorem ig(d:Dig): (dgC d).length=2:=rfl
theorem GX: (Tryz.prog.info? 185).map (fun i=>(i.zero,i.size,i.bytes))=some (some (.agg #[.string ⟨#[]⟩,.bool false,.int .u64 0,.int .u64 0]),4,40):=by kernel_rfl
theorem lM: (Tryz.prog.info? 50).map (fun i=>(i.zero,i.size,i.bytes))=some (some (.agg #[.int .u64 0,.int .u64 0]),2,16):=by kernel_rfl
theorem wF{fn:Func}{c:Tmp}(h:fn.results= #[.cell c 185]){w:UW}{a:Array UY}{b:Nat}{x y z u:UY}(ha:a[c]?.getD undef= .pointer (some ⟨b,0,none⟩))(hk:Bk w b 185 #[x,y,z,u]) :
  (results fn a).run Tryz.prog w= .ok (.agg #[x,y,z,u]) w:=by
 have h0:=hk.cell 0;have h1:=hk.cell 1;have h2:=hk.cell 2;have h3:=hk.cell 3;simp at h0 h1 h2 h3;simp[results,h,ha,go_sem,h0,h1,h2,h3]
theorem Bk.four{w:UW}{b:Nat}{t:TypeId}{x y z u:UY}(h:Bk w b t #[x,y,z,u]):w.cell? ⟨b,0,none⟩=some x/\w.cell? ⟨b,1,none⟩=some y/\w.cell? ⟨b,2,none⟩=some z/\w.cell? ⟨b,3,none⟩=some u:=by
 have h0:=h.cell 0;have h1:=h.cell 1;have h2:=h.cell 2;have h3:=h.cell 3;simp at h0 h1 h2 h3;exact⟨h0,h1,h2,h3⟩
theorem yE{w:UW}{b:Nat}{t:TypeId}{x y z u:UY}(h:Bk w b t #[x,y,z,u])(x' y' z' u':UY):Bk ((((w.setCell ⟨b,0,none⟩ x').setCell ⟨b,1,none⟩ y').setCell ⟨b,2,none⟩ z').setCell ⟨b,3,none⟩ u') b t #[x',y',z',u']:=by
 have:=(((h.set 0 x').set 1 y').set 2 z').set 3 u'
 simpa using this
theorem Apd.gb{w w':UW}{base size n c b:Nat}{e:TypeId}{A:OA}{xs:List UY}(h:Apd w base e size A n c xs)(hg:Gb (fun g=>g=b) w w')(hb:b<base):Apd w' base e size A n c xs:=by
 rcases h with h | h
 . refine .inl (h.kept (row:=some b) ⟨hg.os,hg.tape,hg.output,hg.size,fun k hk hn=>hg.block k hk (fun e=>hn (by rw[e]))⟩ ?_)
   cases hv: (Value.slice A n c).ownBlock with
   | none=>exact .inl rfl
   | some k =>
     have:=(h.lt k hv).1;exact .inr (fun e=>by cases e;omega)
 . exact .inr h
def RlE(t:TypeId)(sz:Nat)(xs:List UY)(n b:Nat)(r:UZ)(w:UW)(e:Ending)(w':UW):Prop :=
 ∃A c,e= .returned (.slice A n c)/\n<=c/\c<=maxLen/\Apd w' w.heap.size t sz A n c xs/\Rdr w' b r/\Gb (fun g=>g=b) w w'
theorem Gb.onto{p:Nat->Prop}{a b c:UW}(h:Gb p a b)(k:Below a.heap.size b c):Gb p a c:=⟨k.os.trans h.os,k.tape.trans h.tape,k.output.trans h.output,ZY h.size k.size,fun i hi hp=>(k.block i hi).trans (h.block i hi hp)⟩
theorem Es{P:Program}{ops:Array Oper}{rest:List Oper}{o:Oper}{a:Act}{w:UW}{Q:Exit->Act->UW->Prop}(s x:Operand)(t:TypeId)(_:o.op= .call {callee:= .builtin .append,args:=#[s,x],argTypes:=#[t,t]})
  (h:Hid (wpList P ops Q (o::rest) a w)):wpList P ops Q (o::rest) a w:=h
