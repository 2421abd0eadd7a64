/-
  Lemmas of the card.
-/
import Derived.Lib.AppendZerosOnto
import Derived.Test.YtknefelegjlgnaaGreatDoorACAt5
set_option maxRecDepth 100000
set_option maxHeartbeats 4000000
namespace Go.Proofs.YtknefelegjlgnaaGreatDoor
open Go.RowKit
theorem CP: (Tryz.prog.info? 175).map (fun i=>(i.zero,i.size,i.bytes))=some (some (.agg #[.int .i64 0,.string ⟨#[]⟩]),2,24):=by kernel_rfl
theorem JL(l:List (Nat×M5)):∀u∈flat wrC l,u.oneCell'=true:=fun u hu=>by
 unfold flat at hu;obtain⟨i,_,h⟩:=List.mem_flatMap.1 hu;simp[wrC]at h;rcases h with rfl | rfl <;> rfl
def MF(n:Nat)(w:MZ)(e:Ending)(w':MZ):Prop:=∃A c,e= .returned (.slice A 0 c)/\Apd w' w.heap.size 175 2 A 0 c []/\Below w.heap.size w w'/\n<=c/\c<=maxLen
theorem GN(n:Nat)(w:MZ)(h0:0<n)(hn:n<=1000000):Calls Tryz.prog 294 #[.slice none 0 0,.int .i64 n] w (MF n w):=by
 obtain⟨i0,hi,c,d,b⟩:=info_parts CP;have HR:Hid (∀ty,(Builtin.append_ #[23,3] ty #[.slice none 0 0,.int .i64 (n:Int)]).run Tryz.prog w= .ok (.slice (some ⟨w.heap.size,0,none⟩) n (grownCap w n 0 175)) (w.drew.alloc (.cells (#[]++Builtin.zeroCells (Value.agg #[.int .i64 0,.string ⟨#[]⟩]).cells n++Builtin.zeroCells (Value.agg #[.int .i64 0,.string ⟨#[]⟩]).cells (grownCap w n 0 175 - n)) 175))):=fun ty=>by
  have h:=Lib.run_append_grow_zeros w 23 3 ty 175 i0 _ .i64 .i64 Tryz.underlying23 Tryz.underlying3 hi c none 0 0 [] (run_firstCells_none w.drew i0.size 0 0 0) n h0 (by rw[d];omega) (by omega) (by omega) (by rw[b];omega) (growslice_fits (by omega) (by rw[b];omega));simp only[Nat.zero_add]at h;exact h
 clear hi c d b;have hG:=grownCap_ge w n 0 175;have a:=grownCap_le_maxLen w n 0 175 (by unfold maxLen;omega);obtain⟨G,e⟩:=NX9 (grownCap w n 0 175)
 rw[e]at HR hG a;obtain⟨W,hW⟩:=NX9 (w.drew.alloc (.cells (#[]++Builtin.zeroCells (Value.agg #[.int .i64 0,.string ⟨#[]⟩]).cells n++Builtin.zeroCells (Value.agg #[.int .i64 0,.string ⟨#[]⟩]).cells (G - n)) 175))
 rw[hW]at HR;have HB:Hid (Below w.heap.size w W):=by rw[<-hW];exact(af _ w).drew.alloc ai _
 have HA:Hid (Apd W w.heap.size 175 2 (some ⟨w.heap.size,0,none⟩) 0 G []):=by
  refine .inl ⟨rfl,.inr ⟨w.heap.size,G,_,rfl,Nat.le_refl _,by rw[<-hW];exact heap_alloc_new w.drew _,ZZ _,a,?_,by simp⟩⟩;rw[Array.size_append,Array.size_append,size_zeroCells,size_zeroCells];show 0+n*2+ (G - n)*2=G*2;omega
 have f:=ah a;have HG:=ah hG;have g:G<=9223372036854775807:=by unfold maxLen at a;exact a
 clear hW e a
 go_enter Tryz.func294,Tryz.ntmps294
 go_wp2_with (at_builtin;refine Lib.wpList_append_run _ rfl _ _ _ _ rfl _ _ rfl rfl _ _ (HR.o _) ?_)
 go_ret
 exact⟨_,_,rfl,HA.o,HB.o,HG.o,f.o⟩
structure Csl where
 A:OA
 n:Nat
 c:Nat
 xs:List (Nat×M5)
def csC(s:Csl):List M4:= [.slice s.A s.n s.c]
theorem uK(s:Csl): (csC s).length=1:=rfl
def dZ(l:List Csl):Nat:=(l.map Csl.n).sum
theorem Gz(l:List Csl)(s:Csl):dZ (l++ [s])=dZ l+s.n:=by simp[dZ]
theorem Ka(l:List Csl)(k:Nat):dZ (l.take k)<=dZ l:=by
 conv=>rhs;rw[<-List.take_append_drop k l]
 unfold dZ;rw[List.map_append,List.sum_append];omega
def Mx(n:Nat)(xs:List (Nat×M5))(w:MZ)(e:Ending)(w':MZ):Prop:=∃A c,e= .returned (.slice A n c)/\Apd w' w.heap.size 175 2 A n c (flat wrC xs)/\Below w.heap.size w w'/\n<=c/\c<=maxLen
theorem Ez(A:OA)(m c B:Nat)(ls:List Csl)(w:MZ)(hk:Sl w B 1 A m (flat csC ls))(hs:∀s∈ls,Sl w B 2 s.A s.n (flat wrC s.xs))(hB:B<=w.heap.size)(hm:m<=1000)(hn:dZ ls<=1000000)(hpos:0<dZ ls) :
  Calls Tryz.prog 249 #[.slice A m c] w (Mx (dZ ls) (ls.flatMap Csl.xs) w):=by
 have HK:=ah hk;have HS:=ah hs;have HL:=ah (hk.len uK (by omega));obtain⟨i0,hi,o,p,q⟩:=info_parts CP;have Hi:=ah hi;have u:=ah o;have v:=ah p;have y:=ah q;have HT:Hid (∀k s,ls[k]? =some s->dZ (ls.take (k+1))=dZ (ls.take k)+s.n):=fun k s h=>by rw[aS h,Gz]
 have f:=ah (Ka ls);have g:Hid (dZ (ls.take m)=dZ ls):=by show _=_;rw[<-HL.o,List.take_length]
 obtain⟨N,hN⟩:=NX9 (dZ ls)
 rw[hN]at hn hpos f g;rw[hN];clear hi o p q hk hs hN
 go_enter Tryz.func249,Tryz.ntmps249
 go_wp2_with fail
 go_loopw[3,11] (fun s i wr=>∃(k s':Nat),k<=m/\i= .int .i64 (k:Int)/\s= .int .i64 (s':Int)/\w=wr/\Hid (dZ (ls.take k)=s')/\s'<=1000000) (fun _ i _=>m - (intOf i).toNat)
 case atStart=>exact⟨0,0,ZZ _,rfl,rfl,rfl,rfl,by omega⟩
 case round =>
  obtain⟨k,s,hk,rfl,rfl,rfl,hs,M⟩:=hrel;by_cases hlt:k<m
  . obtain⟨b,z,x,rfl,hb,hx,hc⟩:=HK.o.at_ uK (by omega) hlt
    have x0:=hc 0 _ rfl;simp only[Nat.mul_one,Nat.add_zero]at x0;have d:Hid (dZ (ls.take (k+1))=s+x.n):=by show _=_;rw[HT.o k x hx,hs.o]
    have h6:s+x.n<=1000000:=by have:=f.o (k+1);rw[d.o]at this;omega
    clear hc hx;go_wp2_with fail;go_roundw
    case rel=>exact⟨k+1,s+x.n,by omega,by go_num,by go_num,trivial,d.o,h6⟩
    case measure=>simp[intOf];omega
  . obtain rfl:k=m:=by omega
    have C:s=N:=by rw[<-hs.o,g.o]
    subst C;have HG:=ah (GN s w hpos hn);go_wp2_with fail;refine HG.o.mono ?_;rintro e w2 ⟨A2,c2,rfl,ha,hb,O,D⟩;have HA:=ah ha;have HB:=ah hb;clear ha hb HG;go_wp2_with fail
    go_loopw[6,27] (fun r i wq=>∃(j n':Nat)(A':OA)(c':Nat),j<=k/\i= .int .i64 (j:Int)/\r= .slice A' n' c'/\Hid (Apd wq w.heap.size 175 2 A' n' c' (flat wrC ((ls.take j).flatMap Csl.xs)))/\Hid (Below w.heap.size w wq)/\n'<=c'/\c'<=maxLen/\Hid (dZ (ls.take j)=n')/\n'<=1000000) (fun _ i _=>k - (intOf i).toNat)
    case atStart=>exact⟨0,0,A2,c2,ZZ _,rfl,rfl,HA.o,HB.o,ZZ _,D,rfl,by omega⟩
    case round =>
     obtain⟨j,n',A',c',hj,rfl,rfl,hA,a,E,F,ht,P⟩:=hrel;by_cases hlt2:j<k
     . obtain⟨b,z,x,rfl,hb,hx,hc⟩:=(HK.o.below a.o hB).at_ uK (by omega) hlt2
       have x0:=hc 0 _ rfl;simp only[Nat.mul_one,Nat.add_zero]at x0;have d:Hid (dZ (ls.take (j+1))=n'+x.n):=by show _=_;rw[HT.o j x hx,ht.o]
       have h6:n'+x.n<=1000000:=by have:=f.o (j+1);rw[d.o]at this;omega
       have HX:=ah ((HS.o x (Z7 hx)).below a.o hB);have HE:Hid ((ls.take (j+1)).flatMap Csl.xs= (ls.take j).flatMap Csl.xs++x.xs):=by show _=_;rw[aS hx,List.flatMap_append];simp
       have HN:Hid (n'+x.n<=maxLen):=by show _<=_;unfold maxLen;omega
       have HY:Hid ((n'+x.n)*24<=140737488355328):=by show _<=_;omega
       clear hc hx
       go_wp2_with (at_builtin;refine aN ?_)
       refine aF ?_;refine dB (base:=w.heap.size) (size:=2) _ rfl (.tmp 31) (.tmp 32) 23 rfl 175 i0 _ 24 Tryz.underlying23 Hi.o u.o v.o y.o rfl (by decide) A' n' c' _ rfl hA.o B _ x.n _ _ rfl HX.o (JL _) HN.o HY.o a.o.size ?_;intro A4 c4 w4 l t G H _;rw[<-bu,<-HE.o]at l;have I:=ah l;have J:Hid (Below w.heap.size w w4):=a.o.trans t;clear l t hA;go_wp2_with fail;go_roundw
       case rel=>exact⟨j+1,_,A4,c4,by omega,by go_num,rfl,I.o,J.o,G,H,d.o,h6⟩
       case measure=>simp[intOf];omega
     . obtain rfl:j=k:=by omega
       have K:n'=s:=by rw[<-ht.o,g.o]
       subst K;have L:Hid (ls.take j=ls):=by show _=_;rw[<-HL.o,List.take_length]
       go_wp2_with fail;go_ret
       exact⟨_,_,rfl,by have:=hA.o;rwa[L.o]at this,a.o,E,F⟩
def aW(d:Dk)(x:Int)(w:MZ)(e:Ending)(w':MZ):Prop:=∃s,e= .returned (.tuple #[dkV d s,.int .i64 x])/\DkM w' w'.heap.size d s/\Below w.heap.size w w'
theorem fw{fn:Func}{c i:Tmp}(h:fn.results= #[.cell c 25,.tmp i]){w:MZ}{a:Array M4}{b:Nat}{x0 x1 x2 x3 v:M4}(h1:a[c]?.getD undef= .pointer (some ⟨b,0,none⟩))(hk:Bk w b 25 #[x0,x1,x2,x3])(hv:a[i]?.getD undef=v) :
  (results fn a).run Tryz.prog w= .ok (.tuple #[.agg #[x0,x1,x2,x3],v]) w:=by
 obtain⟨c0,c1,c2,c3⟩:=hk.dk4;simp[results,h,h1,hv,go_sem,c0,c1,c2,c3]
theorem Bk.set4{w:MZ}{b:Nat}{t:TypeId}{x0 x1 x2 x3:M4}(h:Bk w b t #[x0,x1,x2,x3])(y0 y1 y2 y3:M4) :
  Bk ((((w.setCell ⟨b,0,none⟩ y0).setCell ⟨b,1,none⟩ y1).setCell ⟨b,2,none⟩ y2).setCell ⟨b,3,none⟩ y3) b t #[y0,y1,y2,y3]:=by
 have:=(((h.set 0 y0).set 1 y1).set 2 y2).set 3 y3
 simpa using this
theorem dH{B b:Nat}{w w':MZ}(h:Below B w w')(hb:B<=b)(y0 y1 y2 y3:M4):Below B w ((((w'.setCell ⟨b,0,none⟩ y0).setCell ⟨b,1,none⟩ y1).setCell ⟨b,2,none⟩ y2).setCell ⟨b,3,none⟩ y3) :=
 (((h.setCell (p:=⟨b,0,none⟩) hb y0).setCell (p:=⟨b,1,none⟩) hb y1).setCell (p:=⟨b,2,none⟩) hb y2).setCell (p:=⟨b,3,none⟩) hb y3
theorem FL(d:Dk)(s:Dsl)(B i:Nat)(x:M5)(w:MZ)(hd:d.Ok)(hm:DkM w B d s)(hB:B<=w.heap.size)(hp:d.pn.length<=900000)(hi:i<d.ss.length)(hx:x.length=d.sz) :
  Calls Tryz.prog 170 #[dkV d s,.int .i64 i,.string (ofL x)] w (aW (if d.lf=0 then d else doO d (some (i,x))) (if d.lf=0 then 20 else 0) w):=by
 obtain⟨W,hW⟩:=NX9 ((w.alloc (.cells (dkC d s) 25)).alloc (.cells #[.int .i64 0,.slice none 0 0,.slice none 0 0,.int .i64 0] 25))
 have m:Hid (Below w.heap.size w W):=by rw[<-hW];exact((af _ w).alloc ai _).alloc (by simp) _
 have HK:Hid (Bk W w.heap.size 25 (dkC d s)):=by rw[<-hW];exact(Bk.new w _ _).alloc _
 have HZ:Hid (Bk W (w.heap.size+1) 25 #[.int .i64 0,.slice none 0 0,.slice none 0 0,.int .i64 0]):=by
  rw[<-hW];have:=Bk.new (w.alloc (.cells (dkC d s) 25)) 25 #[.int .i64 0,.slice none 0 0,.slice none 0 0,.int .i64 0]
  rwa[Z9]at this
 have zW:W.heap.size=w.heap.size+2:=by rw[<-hW];simp
 have HM:Hid (DkM W B d s):=hm.below m.o hB;have C:=ah hm;have HC:=ah (ow d s B W hd HM.o (by omega) (by omega));have HH:=ah (fun W=>Ad d s i W);rw[show hasB d.ss.length i=true from decide_eq_true (by omega)]at HH;have N: ((ofL x).size:Int)=d.sz:=by rw[bG];omega
 have HD:=ah hd;obtain⟨lf,n⟩:=NX9 d.lf
 have E:=hd.lf;have F:=hd.lm;have G:=ah n;have HW:=ah hW;simp only[dkV,dkC,n]at HC HH HW HK E F ⊢;clear hd hm hW n;by_cases h0:lf=0
 . subst h0
   simp only[if_true];obtain⟨D,hD⟩:=NX9 (aW d 20 w)
   have o:=ah hD;rw[hD];clear hD
   go_enter Tryz.func170,Tryz.ntmps170
   go_wp2_with fail;rw[HW.o];refine HC.o.mono ?_;rintro e w1 ⟨rfl,c⟩;have j:Hid (Below W.heap.size W w1):=c;obtain⟨k0,k1,k2,k3⟩:=(HK.o.below c (by omega)).dk4;clear c;go_wp2_with fail;refine(HH.o _).mono ?_;rintro e w2 ⟨rfl,k⟩;have b:Hid (Below W.heap.size W w2):=j.o.trans (k.mono j.o.size);have r:=ah (HK.o.below b.o (by omega));have t:=ah (HZ.o.below b.o (by omega));obtain⟨k0,k1,k2,k3⟩:=r.o.dk4;obtain⟨z0,z1,z2,z3⟩:=t.o.dk4;obtain⟨f0,f1,f2,f3⟩:=fr4 t.o;clear k HC HH;go_wp2_with fail;have HE:=ah (t.o.set4 (.int .i64 d.sz) (.slice s.a1 d.ss.length s.c1) (.slice s.a2 d.pn.length s.c2) (.int .i64 0));refine ZY (fw Tryz.results170 rfl HE.o rfl) rfl ?_;rw[<-o.o];have f:=dH (m.o.trans (b.o.mono (by omega))) (show w.heap.size<=w.heap.size+1 by omega) (.int .i64 d.sz) (.slice s.a1 d.ss.length s.c1) (.slice s.a2 d.pn.length s.c2) (.int .i64 0);exact⟨s,by simp only[dkV,dkC,G.o];rfl,(C.o.below f hB).more (by have:=f.size;omega),f⟩
 . have O: (lf == 0)=false:=by simpa using h0
   simp only[if_neg h0];obtain⟨D,hD⟩:=NX9 (aW (doO d (some (i,x))) 0 w)
   have o:=ah hD;rw[hD];have HL:=ah (fun W=>yY lf W E F);clear hD h0
   go_enter Tryz.func170,Tryz.ntmps170
   go_wp2_with fail;rw[HW.o];refine HC.o.mono ?_;rintro e w1 ⟨rfl,c⟩;have j:Hid (Below W.heap.size W w1):=c;obtain⟨k0,k1,k2,k3⟩:=(HK.o.below c (by omega)).dk4;clear c;go_wp2_with fail;refine(HH.o _).mono ?_;rintro e w2 ⟨rfl,k⟩;have b:Hid (Below W.heap.size W w2):=j.o.trans (k.mono j.o.size);have r:=ah (HK.o.below b.o (by omega));obtain⟨k0,k1,k2,k3⟩:=r.o.dk4;have z2:=b.o.size;clear k HC HH;obtain⟨W3,h⟩:=NX9 ((w2.alloc (.cells #[.int .i64 i,.string (ofL x)] 175)).alloc (.cells #[.slice s.a2 d.pn.length s.c2,.slice (some ⟨w2.heap.size,0,none⟩) 1 1] 23))
   have u:Below w2.heap.size w2 W3:=by rw[<-h];exact((af _ w2).alloc ai _).alloc (by simp) _
   have z3:W3.heap.size=w2.heap.size+2:=by rw[<-h];simp
   have s0:Sl W3 (w2.heap.size+1) 2 (some ⟨w2.heap.size,0,none⟩) 1 (flat wrC [(i,x)]):=by rw[<-h];exact(Sl.new w2 175 (flat wrC [(i,x)]) 1 rfl).alloc (by simp) _
   have sC:Sl W3 W3.heap.size 1 (some ⟨w2.heap.size+1,0,none⟩) 2 (flat csC [⟨s.a2,d.pn.length,s.c2,d.pn⟩,⟨some ⟨w2.heap.size,0,none⟩,1,1,[(i,x)]⟩]):=by
    have:=Sl.new (size:=1) (w2.alloc (.cells #[.int .i64 i,.string (ofL x)] 175)) 23 (flat csC [⟨s.a2,d.pn.length,s.c2,d.pn⟩,⟨some ⟨w2.heap.size,0,none⟩,1,1,[(i,x)]⟩]) 2 rfl;rw[Z9]at this;rw[z3,<-h];exact this
   have v:=ah (Ez (some ⟨w2.heap.size+1,0,none⟩) 2 2 W3.heap.size _ W3 sC (by
    intro q hq;simp only[List.mem_cons,List.not_mem_nil,or_false]at hq;rcases hq with rfl | rfl
    . exact((HM.o.pn.below (b.o.trans (u.mono (by omega))) (by omega)).more (by omega))
    . exact s0.more (by omega)) ai (by omega) (by simp[dZ];omega) (by simp[dZ]))
   have H:Hid (Below W.heap.size W W3):=b.o.trans (u.mono (by omega));have K:=ah h;clear u s0 sC h;simp only[dZ,List.map_cons,List.map_nil,List.sum_cons,List.sum_nil,Nat.add_zero,List.flatMap_cons,List.flatMap_nil,List.append_nil]at v;go_wp2_with fail;rw[K.o];refine v.o.mono ?_;rintro e w4 ⟨A4,c4,rfl,I,J,P,Q⟩;have L:=ah I;have y:Hid (Below W.heap.size W w4):=H.o.trans (J.mono H.o.size);have z:=ah (HK.o.below y.o (by omega));have A:=ah (HZ.o.below y.o (by omega));obtain⟨k0,k1,k2,k3⟩:=z.o.dk4;obtain⟨z0,z1,z2,z3⟩:=A.o.dk4;obtain⟨f0,f1,f2,f3⟩:=fr4 A.o;have g2:=z.o.free 2;have g3:=z.o.free 3;clear I J v;go_wp2_with fail;refine(HL.o _).mono ?_;rintro e w5 ⟨rfl,rfl⟩;go_wp2_with fail;have HE:=ah ((((A.o.far (p:=⟨w.heap.size,2,none⟩) (by show w.heap.size+1≠w.heap.size;omega) (.slice A4 (d.pn.length+1) c4)).far (p:=⟨w.heap.size,3,none⟩) (by show w.heap.size+1≠w.heap.size;omega) (.int .i64 (eH lf))).set4 (.int .i64 d.sz) (.slice s.a1 d.ss.length s.c1) (.slice A4 (d.pn.length+1) c4) (.int .i64 (eH lf))));refine ZY (fw Tryz.results170 rfl HE.o rfl) rfl ?_;rw[<-o.o];have f:=dH (((m.o.trans (y.o.mono (by omega))).setCell (p:=⟨w.heap.size,2,none⟩) ai (.slice A4 (d.pn.length+1) c4)).setCell (p:=⟨w.heap.size,3,none⟩) ai (.int .i64 (eH lf))) (show w.heap.size<=w.heap.size+1 by omega) (.int .i64 d.sz) (.slice s.a1 d.ss.length s.c1) (.slice A4 (d.pn.length+1) c4) (.int .i64 (eH lf));have l:w.heap.size<W3.heap.size:=by omega
   have g:w.heap.size+1<W3.heap.size:=by omega
   have M:=(((((L.o.setCell (a:=⟨w.heap.size,2,none⟩) l (.slice A4 (d.pn.length+1) c4)).setCell (a:=⟨w.heap.size,3,none⟩) l (.int .i64 (eH lf))).setCell (a:=⟨w.heap.size+1,0,none⟩) g (.int .i64 d.sz)).setCell (a:=⟨w.heap.size+1,1,none⟩) g (.slice s.a1 d.ss.length s.c1)).setCell (a:=⟨w.heap.size+1,2,none⟩) g (.slice A4 (d.pn.length+1) c4)).setCell (a:=⟨w.heap.size+1,3,none⟩) g (.int .i64 (eH lf));refine⟨⟨s.a1,s.c1,A4,c4⟩,?_,⟨(C.o.ss.below f hB).more (by have:=f.size;omega),?_⟩,f⟩
   . simp only[dkV,dkC,doO,ae,Z5,List.length_nil,G.o];rfl
   . show Sl _ _ 2 A4 (d.pn++ [(i,x)]).length _
     rw[ae];exact M.sl
structure Gb(p:Nat->Prop)(w w':MZ):Prop where
 os:w'.os=w.os
 tape:w'.tape=w.tape
 output:w'.output=w.output
 size:w.heap.size<=w'.heap.size
 block:∀k,k<w.heap.size->¬p k->w'.heap[k]? =w.heap[k]?
section
variable {p q : Nat -> Prop} {a b c : MZ}
theorem Gb.refl(p:Nat->Prop)(w:MZ):Gb p w w:=⟨rfl,rfl,rfl,Nat.le_refl _,fun _ _ _=>rfl⟩
theorem Gb.trans(h:Gb p a b)(k:Gb p b c):Gb p a c:=⟨k.os.trans h.os,k.tape.trans h.tape,k.output.trans h.output,Z0 h.size k.size,fun i hi hp=>(k.block i (Nat.lt_of_lt_of_le hi h.size) hp).trans (h.block i hi hp)⟩
theorem Gb.mono(h:Gb p a b)(hq:∀k,k<a.heap.size->p k->q k):Gb q a b:=⟨h.os,h.tape,h.output,h.size,fun i hi hn=>h.block i hi (fun hp=>hn (hq i hi hp))⟩
theorem Gb.of_below(h:Below a.heap.size a b):Gb p a b:=⟨h.os,h.tape,h.output,h.size,fun i hi _=>h.block i hi⟩
theorem Gb.below{B:Nat}(h:Gb p a b)(hB:B<=a.heap.size)(hp:∀k,k<B->¬p k):Below B a b:=⟨h.os,h.tape,h.output,h.size,fun i hi=>h.block i (by omega) (hp i hi)⟩
theorem Gb.set{w:MZ}{x:Nat}(hx:p x)(o:Nat)(v:M4):Gb p w (w.setCell ⟨x,o,none⟩ v):=⟨rfl,rfl,rfl,by simp,fun i _ hn=>Z8 w ⟨x,o,none⟩ v i (fun e=>hn (by have e':i=x:=e;rw[e'];exact hx))⟩
theorem Gb.after{x:Nat}(h:Gb p a b)(hx:a.heap.size<=x)(o:Nat)(v:M4):Gb p a (b.setCell ⟨x,o,none⟩ v):=⟨h.os,h.tape,h.output,by have:=h.size;simpa using this,fun i hi hn=>(Z8 b ⟨x,o,none⟩ v i (fun e=>by have e':i=x:=e;omega)).trans (h.block i hi hn)⟩
theorem Gb.bk{x:Nat}{t:TypeId}{cs:Array M4}(h:Gb p a b)(hk:Bk a x t cs)(hx:¬p x):Bk b x t cs:=(h.block x hk.lt hx).trans hk
end
theorem iE{w:MZ}{rb:Nat}{t:TypeId}{x y:M4}(h:Bk w rb t #[x,y])(x' y':M4):Bk ((w.setCell ⟨rb,1,none⟩ y').setCell ⟨rb,0,none⟩ x') rb t #[x',y']:=by
 have:=(h.set 1 y').set 0 x'
 simpa using this
theorem iD(w:MZ)(rb:Nat)(x' y':M4):Gb (fun g=>g=rb) w ((w.setCell ⟨rb,1,none⟩ y').setCell ⟨rb,0,none⟩ x') :=
 (Gb.set (p:=fun g=>g=rb) (x:=rb) rfl 1 y').trans (Gb.set (p:=fun g=>g=rb) (x:=rb) rfl 0 x')
def wd1(l:M5)(k:Nat):Nat:=dD 0 (l.take (min k 8))
def wd2(l:M5)(k:Nat):Nat:=dD 0 ((l.drop 8).take (k - 8))
theorem yR(l:M5)(b:UInt8):dD 0 (l++ [b])=dD 0 l*256+b.toNat:=by simp[dD]
theorem tZ{l:M5}{k:Nat}{b:UInt8}(h:l[k]? =some b)(hk:k<8):wd1 l (k+1)=wd1 l k*256+b.toNat/\wd2 l (k+1)=wd2 l k:=by
 unfold wd1 wd2;rw[show min (k+1) 8=k+1 by omega,show min k 8=k by omega,aS h,yR,show k+1 - 8=0 by omega,show k - 8=0 by omega];exact⟨rfl,rfl⟩
theorem tL{l:M5}{k:Nat}{b:UInt8}(h:l[k]? =some b)(hk:8<=k):wd1 l (k+1)=wd1 l k/\wd2 l (k+1)=wd2 l k*256+b.toNat:=by
 unfold wd1 wd2;have h': (l.drop 8)[k - 8]? =some b:=by rw[List.getElem?_drop,show 8+ (k - 8)=k by omega];exact h
 rw[show min (k+1) 8=8 by omega,show min k 8=8 by omega,show k+1 - 8=k - 8+1 by omega,aS h',yR];exact⟨rfl,rfl⟩
theorem vw{l:M5}{k:Nat}(hk:k<8):wd1 l k<256 ^ 7:=by
 have h:=kP (l.take (min k 8)) 0;have hl: (l.take (min k 8)).length<=7:=by rw[List.length_take];omega
 have:=Nat.pow_le_pow_right (n:=256) (by omega) hl;unfold wd1;omega
theorem vo{l:M5}{k:Nat}(hk:k<16):wd2 l k<256 ^ 7:=by
 have h:=kP ((l.drop 8).take (k - 8)) 0;have hl: ((l.drop 8).take (k - 8)).length<=7:=by rw[List.length_take];omega
 have:=Nat.pow_le_pow_right (n:=256) (by omega) hl;unfold wd2;omega
theorem vL(l:M5):dg l= ((wd1 l 16:Int),(wd2 l 16:Int)):=rfl
theorem kz{s:M3}{k:Nat}(h:k<s.size): (toL s)[k]? =some s[k]:=by
 rw[Z6 (by rw[<-aP];exact h)];rfl
theorem kQ{x y:Nat}(hx:x<256 ^ 7)(hy:y<256):bits .or .u64 ((x:Int)*256) (y:Int)= (x:Int)*256+ (y:Int) :=
 bits_join .u64 64 (by decide) (fun n h0 h1=>IntWalk.u64_in n (by omega)) 8 ((x:Int)*256) (y:Int) (by omega) (by omega) (by omega) (by omega) (by omega) (by omega)
structure Kt(w w':MZ):Prop where
 others:KeepsOthers w w'
 same:∀(k:Nat)(cs:Array M4)(t:TypeId)(fr:Nat×Nat),t≠5->t≠215->w.heap[k]? =some (.cells cs t fr)->w'.heap[k]? =some (.cells cs t fr)
theorem Kt.refl(w:MZ):Kt w w:=⟨KeepsOthers.refl w,fun _ _ _ _ _ _ h=>h⟩
theorem Kt.trans{a b c:MZ}(h:Kt a b)(k:Kt b c):Kt a c:=⟨h.others.trans k.others,fun i cs t fr h5 h9 hi=>k.same i cs t fr h5 h9 (h.same i cs t fr h5 h9 hi)⟩
theorem Kt.alloc(w:MZ)(o:Obj):Kt w (w.alloc o):=⟨KeepsOthers.alloc w o,fun k _ _ _ _ _ h=>(Below.heap_alloc w o k (Array.getElem?_eq_some_iff.1 h).1).trans h⟩
theorem Kt.setCell{w:MZ}{b i:Nat}{cs:Array M4}{fr:Nat×Nat}(hb:w.heap[b]? =some (.cells cs 215 fr))(v:M4):Kt w (w.setCell ⟨b,i,none⟩ v) :=
 ⟨KeepsOthers.setCell _ _ _,fun k cs' t fr' _ h9 h=>(Z8 w ⟨b,i,none⟩ v k (fun e=>by
   have e':k=b:=e;rw[e',hb]at h;simp only[Option.some.injEq,Obj.cells.injEq]at h;exact h9 h.2.1.symm)).trans h⟩
theorem Kt.grown{w w':MZ}{base size n:Nat}{v:M4}{xs:List M4}(hown:w.ownsRow base 5 size v n xs)(hg:w.grownBy w' v.ownBlock):Kt w w':=by
 have b:∀j,v.ownBlock=some j->∃a,w.heap[j]? =some (.cells a 5 (0,0)):=by
  intro j hj;rcases hown.2 with ⟨hv,_⟩ | ⟨g,cap,a,hv,_,hh,_⟩
  . rw[hv]at hj;cases hj
  . rw[hv]at hj;cases hj;exact⟨a,hh⟩
 refine⟨KeepsOthers.of_grownBy hg fun j o hj ho=>?_,fun k cs t fr h5 _ h=>?_⟩
 . obtain⟨a,hc⟩:=b j hj
   rw[hc]at ho;cases ho;rfl
 . refine(hg.block k (Array.getElem?_eq_some_iff.1 h).1 (fun e=>?_)).trans h
   obtain⟨a,hc⟩:=b k e.symm;rw[hc]at h;simp only[Option.some.injEq,Obj.cells.injEq]at h;exact h5 h.2.1.symm
theorem infoByte: (Tryz.prog.info? 5).map (fun i=>(i.zero,i.size,i.bytes))=some (some (.int .u8 0),1,1):=by kernel_rfl
theorem Gh(b:Nat)(w:MZ)(h0:w.cell? ⟨b,0,none⟩=some (.pointer (some ⟨b,0,none⟩))) :
  Calls Tryz.prog 219 #[.pointer (some ⟨b,0,none⟩)] w fun e w'=>e= .returned (.tuple #[])/\w'=w:=by
 obtain⟨j,hj,_⟩:=Option.map_eq_some_iff.1 Tryz.Builder_Extra_169.sizeBuilder
 go_enter Tryz.func219,Tryz.ntmps219
 go_wp2
 rw[Lib.run_neq_ptr_same w _ Tryz.underlying212 hj]
 go_wp2
 go_end0
 exact⟨rfl,rfl⟩
theorem EY(b:Nat)(w:MZ)(h0:w.cell? ⟨b,0,none⟩=some (.pointer none))(hsh:w.shape? b=some (215,2))(hfz:w.frozen? ⟨b,0,none⟩=false) :
  Calls Tryz.prog 219 #[.pointer (some ⟨b,0,none⟩)] w fun e w'=>e= .returned (.tuple #[])/\w'=w.setCell ⟨b,0,none⟩ (.pointer (some ⟨b,0,none⟩)):=by
 obtain⟨j,hj,a⟩:=Option.map_eq_some_iff.1 Tryz.Builder_Extra_169.sizeBuilder
 go_enter Tryz.func219,Tryz.ntmps219
 go_wp2
 rw[Lib.run_to_unsafe w ⟨b,0,none⟩ Tryz.underlying212 Tryz.underlying348 hj (by rw[a];decide) hsh (Nat.zero_lt_succ 1)];simp only[Result.andThen];rw[Oper.upon_value]
 go_wp2
 rw[run_callFunc_extern Tryz.func278 (by kernel_rfl) (by kernel_rfl) (by kernel_rfl) (e:=Extern.AbiNoEscape.same) (by kernel_rfl)];rw[Lib.run_noEscape];simp only[Result.andThen];rw[Oper.upon_value]
 go_wp2
 rw[Lib.run_from_unsafe w ⟨b,0,none⟩ Tryz.underlying348 Tryz.underlying212 hj hsh Tryz.Builder_Extra_169.liesBuilder];simp only[Result.andThen];rw[Oper.upon_value]
 go_wp2
 go_end0
 exact⟨rfl,rfl⟩
theorem Ba(B b:Nat)(bs:List M4)(w:MZ)(h:Lib.IsBuilder 215 5 B b bs w) :
  Calls Tryz.prog 219 #[.pointer (some ⟨b,0,none⟩)] w fun e w'=>e= .returned (.tuple #[])/\ (Lib.BuilderAt 215 5 B b (.pointer (some ⟨b,0,none⟩)) bs w'/\Below B w w'/\Kt w w'):=by
 rcases h with h | h
 . refine(EY b w h.cell0 h.shape h.frozen0).mono ?_
   rintro e w' ⟨rfl,rfl⟩;obtain⟨_,v,hb,_⟩:=id h;exact⟨rfl,h.used _,(af B w).setCell (p:=⟨b,0,none⟩) h.1 _,Kt.setCell hb _⟩
 . refine(Gh b w h.cell0).mono ?_
   rintro e w' ⟨rfl,rfl⟩;exact⟨rfl,h,af B _,Kt.refl _⟩
theorem DZ(B b:Nat)(bs:List M4)(c:Int)(w:MZ)(h:Lib.IsBuilder 215 5 B b bs w)(hlen:bs.length+1<=140737488355328)(hBw:B<=w.heap.size) :
  Calls Tryz.prog 252 #[.pointer (some ⟨b,0,none⟩),.int .u8 c] w fun e w'=>e= .returned .nilIface/\ (Lib.BuilderAt 215 5 B b (.pointer (some ⟨b,0,none⟩)) (bs++ [.int .u8 c]) w'/\Below B w w'/\Kt w w'):=by
 obtain⟨i0,hi,q,r,s⟩:=info_parts infoByte
 go_enter Tryz.func252,Tryz.ntmps252
 go_wp2_with fail;refine(Ba B b bs _ h).mono ?_;rintro e w1 ⟨rfl,h1,l,o⟩;have t:=ah o;clear o;obtain⟨hB,v,m,d,x⟩:=h1;have c0:w1.cell? ⟨b,0,none⟩=some (.pointer (some ⟨b,0,none⟩)):=by rw[Lib.cell_of_heap m];rfl
 have c1:w1.cell? ⟨b,1,none⟩=some v:=by rw[Lib.cell_of_heap m];rfl
 go_wp2_with (at_builtin;refine wpList_append_own _ rfl _ _ 213 rfl B 5 i0 (.int .u8 0) 1 1 Tryz.underlying213 hi q r s rfl (by decide) _ _ _ rfl (d.alloc _) ⟨w1.heap.size,0,none⟩ 1 1 [.int .u8 c] rfl rfl ?c1 ?c2 ?c3 ?c4 ?c5 ?_)
 case c1 =>
  intro j u hj
  match j,hj with
  | 0,hj=>simp at hj;subst hj;simp[Addr.add]
 case c2=>intro u hu;simp at hu;subst hu;rfl
 case c3=>unfold maxLen;omega
 case c4=>omega
 case c5=>have:=l.size;simp;omega
 intro v' w2 f a _;have y:Hid (Kt w w2):=(t.o.trans (Kt.alloc _ _)).trans (Kt.grown (d.alloc _) a);have z:b<w1.heap.size:=(Array.getElem?_eq_some_iff.1 m).1;have i:w2.heap[b]? =some (.cells #[.pointer (some ⟨b,0,none⟩),v] 215 (0,0)):=by
  rw[a.block b (by simp;omega) (fun e=>x e.symm),Lib.alloc_old w1 _ b z];exact m
 have d0:w2.cell? ⟨b,0,none⟩=some (.pointer (some ⟨b,0,none⟩)):=by rw[Lib.cell_of_heap i];rfl
 have d1:w2.cell? ⟨b,1,none⟩=some v:=by rw[Lib.cell_of_heap i];rfl
 have f1:w2.frozen? ⟨b,1,none⟩=false:=Lib.frozen_of_heap i 1;obtain⟨g,n,rfl⟩:∃g n,v'= .slice (some ⟨g,0,none⟩) (bs.length+1) n:=by
  rcases f.2 with ⟨_,h0⟩ | ⟨g,n,cur,hv,_⟩
  . omega
  . exact⟨g,n,hv⟩
 go_wp2
 go_ret
 refine⟨rfl,?_,?_,y.o.trans (Kt.setCell i _)⟩
 . exact Lib.BuilderAt.put (T:=215) (e:=5) hB i (bs':=bs++ [.int .u8 c]) (by simpa using f) (by decide)
 . exact((l.alloc (by have:=l.size;omega) _).grown a (by have:=l.size;simp;omega) (fun k hk=>(d.lt k hk).1)).setCell (p:=⟨b,1,none⟩) hB _
theorem wI(B b:Nat)(bs:List M4)(s:M3)(w:MZ)(h:Lib.IsBuilder 215 5 B b bs w)(hlen:bs.length+s.size<=140737488355328)(hBw:B<=w.heap.size) :
  Calls Tryz.prog 136 #[.pointer (some ⟨b,0,none⟩),.string s] w fun e w'=>e= .returned (.tuple #[.int .i64 s.size,.nilIface])/\ (Lib.BuilderAt 215 5 B b (.pointer (some ⟨b,0,none⟩)) (bs++Lib.strCells s) w'/\Below B w w'/\Kt w w'):=by
 obtain⟨i0,hi,n,o,q⟩:=info_parts infoByte
 go_enter Tryz.func136,Tryz.ntmps136
 go_wp2_with fail;refine(Ba B b bs _ h).mono ?_;rintro e w1 ⟨rfl,h1,j,m⟩;have r:=ah m;clear m;obtain⟨hB,v,i,c,t⟩:=h1;have c0:w1.cell? ⟨b,0,none⟩=some (.pointer (some ⟨b,0,none⟩)):=by rw[Lib.cell_of_heap i];rfl
 have c1:w1.cell? ⟨b,1,none⟩=some v:=by rw[Lib.cell_of_heap i];rfl
 go_wp2_with (at_builtin;refine Lib.wpList_append_own_string _ rfl _ _ 213 9 rfl B 5 i0 Tryz.underlying213 Tryz.underlying9 hi n o q _ _ _ rfl c s rfl ?c3 ?c4 ?c5 ?_)
 case c3=>unfold maxLen;omega
 case c4=>omega
 case c5=>have:=j.size;omega
 intro v' w2 d a _;have u:Hid (Kt w w2):=r.o.trans (Kt.grown c a);have x:b<w1.heap.size:=(Array.getElem?_eq_some_iff.1 i).1;have f:w2.heap[b]? =some (.cells #[.pointer (some ⟨b,0,none⟩),v] 215 (0,0)):=by
  rw[a.block b x (fun e=>t e.symm)];exact i
 have d0:w2.cell? ⟨b,0,none⟩=some (.pointer (some ⟨b,0,none⟩)):=by rw[Lib.cell_of_heap f];rfl
 have d1:w2.cell? ⟨b,1,none⟩=some v:=by rw[Lib.cell_of_heap f];rfl
 have f1:w2.frozen? ⟨b,1,none⟩=false:=Lib.frozen_of_heap f 1;obtain⟨ao,n',l,rfl⟩:∃ao n' l,v'= .slice ao n' l:=by
  rcases d.2 with ⟨hv,_⟩ | ⟨g,l,cur,hv,_⟩
  . exact⟨_,_,_,hv⟩
  . exact⟨_,_,_,hv⟩
 go_wp2
 go_ret2
 refine⟨rfl,?_,?_,u.o.trans (Kt.setCell f _)⟩
 . exact Lib.BuilderAt.put (T:=215) (e:=5) hB f (bs':=bs++Lib.strCells s) (by simpa [Lib.strCells_length] using d) (by decide)
 . exact(j.grown a (by have:=j.size;omega) (fun k hk=>(c.lt k hk).1)).setCell (p:=⟨b,1,none⟩) hB _
section
open Go.RowKit Go.Shelf
attribute [local go_sem] Oper.semAt_some
def nD(lo:Nat)(A B:MZ):Prop:=B.heap[lo]? =A.heap[lo]?
theorem KA{lo:Nat}{A B C:MZ}(h:nD lo A B)(k:nD lo B C):nD lo A C:=k.trans h
theorem Gt{lo m:Nat}(h:lo<m)(W:MZ)(l:Nat)(o:Obj)(hl:m<=l):nD lo W (W.putObj l o):=World.putObj_heap_other (by omega)
def StB(lo:Nat)(A B:MZ):Prop:=∃v,B=A.setCell ⟨lo,0,none⟩ (.int .i64 v)
theorem FM{lo:Nat}(A B:MZ)(h:StB lo A B):KeepsOthers A B:=by
 obtain⟨v,rfl⟩:=h;exact KeepsOthers.setCell _ _ _
def vS(lo:Nat)(w:MZ):Nat:=match w.cell? ⟨lo,0,none⟩ with
 | some (.int _ n)=>n.toNat
 | _=>0
theorem zH{lo:Nat}{w:MZ}{n:Nat}(h:w.heap[lo]? =some (.cells #[.int .i64 n] 3 (0,0))):vS lo w=n:=by
 have:=cell_of_one h;simp[vS,this]
theorem GA(n lo:Nat)(hn:1<=n)(m:Nat)(w:MZ)(hm:m<=9223372036854775807)(hlo:lo<w.heap.size)(h0:w.heap[lo]? =some (.cells #[.int .i64 m] 3 (0,0))) :
  vZ Fence.wide n Tryz.prog 295 #[.pointer (some ⟨lo,0,none⟩)] (fun x:UInt8=> #[.int .u8 x.toNat]) (nD lo) (StB lo)
   (fun pre=>∃r,pre++r=aj m) (fun xs=>xs=aj m) (fun pre=>∃r,pre++r=aj m) w:=fun l J Jx W hW hJ hY hJ0=>by
 have g0:W.heap[lo]? =some (.cells #[.int .i64 m] 3 (0,0)):=(hW.block lo (by omega)).trans h0;clear hW h0;have G0:=ah g0;have HJ:=ah hJ;have HY:=ah hY;have h:=ah hJ0;clear g0 hJ hY hJ0;refine callsIn_of_wp Tryz.func295 rfl trivial ?_ rfl;simp only[Tryz.ntmps295,List.size_toArray,Z5,List.length_nil,Nat.reduceAdd,Nat.reduceSub,Array.replicate_succ,Array.replicate_zero,List.push_toArray,List.append_toArray,List.nil_append,List.cons_append]
 gi_wp2_with fail
 gi_loopw [3,4] (fun _ _ wr=>∃(pre:M5)(c:Nat),c<=9223372036854775807/\Hid (wr.heap[lo]? =some (.cells #[.int .i64 c] 3 (0,0)))/\Hid (pre++aj c=aj m)/\J pre wr)
  (fun _ _ wr=>vS lo wr)
 case atStart=>exact⟨[],m,hm,G0,rfl,h.o⟩
 case round =>
  obtain⟨pre,c,hc,k0,a,hj⟩:=hrel;have d0:=cell_of_one k0.o;have f0:=free_of_one k0.o;have d:=ah hj;clear hj;by_cases hs:c<128
  . have e8:=je (n:=c) (by omega)
    obtain⟨fn,f,b,g,hy,hR⟩:=HY.o pre (UInt8.ofNat c) wr ⟨[],by rw[List.append_nil,<-a.o,dM hs]⟩ d.o;rw[e8]at hy;have HR:=ah hR;have HE:=ah (dM hs);clear hR e8;have i:¬(128:Int)<= (c:Int):=by omega
    gi_wp2
    refine HR.o.mono ?_;rintro e W3 (⟨rfl,hJ3,_⟩ | ⟨rfl,hJx3⟩)
    . gi_wp2
      go_end0
      exact⟨⟨_,rfl⟩,.inl ⟨pre++ [UInt8.ofNat c],by rw[<-a.o,HE.o],hJ3⟩⟩
    . gi_wp2
      go_end0
      exact⟨⟨_,rfl⟩,.inr ⟨pre++ [UInt8.ofNat c],⟨[],by rw[<-a.o,HE.o,List.append_nil]⟩,hJx3⟩⟩
  . have e8:=je (n:=c % 128+128) (by omega)
    have ei: (((UInt8.ofNat (c % 128+128)).toNat:Nat):Int)= (c:Int) % 128+128:=by rw[e8];omega
    obtain⟨fn,f,b,g,hy,hR⟩:=HY.o pre (UInt8.ofNat (c % 128+128)) wr ⟨aj (c / 128),by rw[<-a.o,jG hs,Z4];rfl⟩ d.o;rw[ei]at hy;have HR:=ah hR;have HE:=ah (jG hs);clear hR e8 ei;have i: (128:Int)<= (c:Int):=by omega
    gi_wp2
    refine HR.o.mono ?_;rintro e W3 (⟨rfl,hJ3,hK3⟩ | ⟨rfl,hJx3⟩)
    . have m0:W3.heap[lo]? =some (.cells #[.int .i64 c] 3 (0,0)):=hK3.trans k0.o
      have e0:=cell_of_one m0;have q0:=free_of_one m0;have M0:=ah m0;have j:=ah hJ3;clear m0 hJ3 hK3 d0 f0
      gi_wp2
      go_roundw
      case rel =>
       refine⟨pre++ [UInt8.ofNat (c % 128+128)],c / 128,by omega,one_setCell M0.o,?_,HJ.o _ _ _ j.o ⟨_,rfl⟩⟩;show _=_;rw[<-a.o,HE.o,Z4];rfl
      case measure =>
       have hq:=one_setCell (u:= .int .i64 ((c / 128:Nat):Int)) M0.o;rw[show(c:Int) / 128= ((c / 128:Nat):Int) by omega,zH hq,zH k0.o];omega
    . gi_wp2
      refine ZY (results_none rfl _ _ _) rfl ?_;exact⟨⟨_,rfl⟩,.inr ⟨pre++ [UInt8.ofNat (c % 128+128)],⟨aj (c / 128),by rw[<-a.o,HE.o,Z4];rfl⟩,hJx3⟩⟩
theorem Fa(m:Int)(w:MZ) :
  Calls Tryz.prog 251 #[.int .i64 m] w fun e w'=>e= .returned (.func (.func 295) #[] #[.pointer (some ⟨w.heap.size,0,none⟩)])/\w'=w.alloc (.cells #[.int .i64 m] 3):=by
 go_enter Tryz.func251,Tryz.ntmps251
 go_wp2
 go_ret
 exact⟨rfl,rfl⟩
theorem xB{B b:Nat}{p:M4}{bs:List M4}{W W':MZ}{row:Option Nat}(h:Lib.BuilderAt 215 5 B b p bs W)(hg:W.grownBy W' row)(hr:∀r,row=some r->∃o:Obj,W.heap[r]? =some o/\o.isCells=false):Lib.BuilderAt 215 5 B b p bs W':=by
 obtain⟨hB,v,hb,a,d⟩:=h;have c:∀(k:Nat)(cs:Array M4)(t:TypeId)(fr:Nat×Nat),W.heap[k]? =some (Obj.cells cs t fr)->W'.heap[k]? =some (Obj.cells cs t fr):=fun k cs t fr hk =>
  (hg.block k (Array.getElem?_eq_some_iff.1 hk).1 (fun e=>by
    obtain⟨o,ho,hc⟩:=hr k e.symm;rw[ho]at hk;cases hk;cases hc)).trans hk
 refine⟨hB,v,c _ _ _ _ hb,⟨a.1,?_⟩,d⟩;rcases a.2 with h0 | ⟨g,cap,cur,hv,h1,hh,h2⟩
 . exact .inl h0
 . exact .inr ⟨g,cap,cur,hv,h1,c _ _ _ _ hh,h2⟩
theorem rq{B b:Nat}{bs:List M4}{W W':MZ}{row:Option Nat}(h:Lib.IsBuilder 215 5 B b bs W)(hg:W.grownBy W' row)(hr:∀r,row=some r->∃o:Obj,W.heap[r]? =some o/\o.isCells=false):Lib.IsBuilder 215 5 B b bs W':=by
 rcases h with h | h
 . exact .inl (xB h hg hr)
 . exact .inr (xB h hg hr)
theorem DY{B b lo:Nat}{bs:List M4}{W:MZ}{v u:M4}(h:Lib.IsBuilder 215 5 B b bs W)(hlo:W.heap[lo]? =some (.cells #[v] 3 (0,0))):Lib.IsBuilder 215 5 B b bs (W.setCell ⟨lo,0,none⟩ u):=by
 have c:∀(k:Nat)(cs:Array M4)(t:TypeId)(fr:Nat×Nat),t≠3->W.heap[k]? =some (Obj.cells cs t fr)-> (W.setCell ⟨lo,0,none⟩ u).heap[k]? =some (Obj.cells cs t fr):=fun k cs t fr h3 hk =>
  (Z8 W ⟨lo,0,none⟩ u k (fun e=>by
    have e':k=lo:=e;rw[e',hlo]at hk;simp only[Option.some.injEq,Obj.cells.injEq]at hk;exact h3 hk.2.1.symm)).trans hk
 have d:∀p,Lib.BuilderAt 215 5 B b p bs W->Lib.BuilderAt 215 5 B b p bs (W.setCell ⟨lo,0,none⟩ u):=by
  rintro p ⟨hB,v',hb,a,f⟩;refine⟨hB,v',c _ _ _ _ (by decide) hb,⟨a.1,?_⟩,f⟩;rcases a.2 with h0 | ⟨g,cap,cur,hv,h1,hh,h2⟩
  . exact .inl h0
  . exact .inr ⟨g,cap,cur,hv,h1,c _ _ _ _ (by decide) hh,h2⟩
 rcases h with h | h
 . exact .inl (d _ h)
 . exact .inr (d _ h)
theorem wJ{B b:Nat}{bs:List M4}{W:MZ}(h:Lib.IsBuilder 215 5 B b bs W)(o:Obj):Lib.IsBuilder 215 5 B b bs (W.alloc o) :=
 rq h (World.grownBy_alloc W o none) (fun r e=>by cases e)
theorem DL(l:M5)(x:UInt8):Lib.byteCells l++ [.int .u8 x.toNat]=Lib.byteCells (l++ [x]):=by simp[Lib.byteCells]
theorem qZ(l:M5): (Lib.byteCells l).length=l.length:=by simp[Lib.byteCells]
theorem nW(B b:Nat)(bs:M5)(m:Nat)(w:MZ)(h:Lib.IsBuilder 215 5 B b (Lib.byteCells bs) w)(hBw:B<=w.heap.size)(hm:m<=1099511627776)(hlen:bs.length<=1099511627776) :
  Calls Tryz.prog 177 #[.pointer (some ⟨b,0,none⟩),.int .i64 m] w fun e w'=>e= .returned (.tuple #[])/\Lib.IsBuilder 215 5 B b (Lib.byteCells (bs++aj m)) w'/\Below B w w':=by
 refine(callsIn_wide (n:=6)).1 ?_;have q:Fence.wide.fn 251:=trivial;have s:Fence.wide.fn 252:=trivial;have HH:=ah h;clear h;refine callsIn_of_wp_marks Tryz.func177 rfl trivial ?_ rfl;simp only[Tryz.ntmps177,List.size_toArray,Z5,List.length_nil,Nat.reduceAdd,Nat.reduceSub,Array.replicate_succ,Array.replicate_zero,List.push_toArray,List.append_toArray,List.nil_append,List.cons_append]
 gi_wp2_with (gi_at_call 251;refine(callsIn_wide.2 (Fa _ _)).mono ?_;rintro e w' ⟨rfl,rfl⟩)
 obtain⟨W0,a⟩:=NX9 ((w.alloc (.cells #[.pointer (some ⟨b,0,none⟩)] 212)).alloc (.cells #[.int .i64 m] 3))
 have hz:W0.heap.size=w.heap.size+2:=by rw[<-a];simp
 have g0:W0.heap[w.heap.size]? =some (.cells #[.pointer (some ⟨b,0,none⟩)] 212 (0,0)):=by
  rw[<-a];exact(Below.heap_alloc _ _ _ (by simp)).trans (World.alloc_heap_new w _)
 have g1:W0.heap[w.heap.size+1]? =some (.cells #[.int .i64 m] 3 (0,0)):=by
  rw[<-a];have:=World.alloc_heap_new (w.alloc (.cells #[.pointer (some ⟨b,0,none⟩)] 212)) (.cells #[.int .i64 m] 3);rwa[Z9]at this
 have d:Below B w W0:=by
  rw[<-a];exact((af _ w).alloc hBw _).alloc (by simp;omega) _
 have f:Lib.IsBuilder 215 5 B b (Lib.byteCells bs) W0:=by
  rw[<-a];exact wJ (wJ HH.o _) _
 rw[a];refine rG (F:=Fence.wide) (n:=6) rfl (by omega) (gf:=295) (lb:=#[.pointer (some ⟨w.heap.size+1,0,none⟩)]) rfl trivial (enters_of Tryz.func295 (by kernel_rfl) rfl)
  (GA 5 (w.heap.size+1) (by omega) m W0 (by omega) (by omega) g1) KA (fun W l o hl=>Gt (m:=w.heap.size+2) (by omega) W l o (by omega)) FM (af _ _) (fun _=>rfl)
  (fun pre W=>W.heap[w.heap.size]? =some (.cells #[.pointer (some ⟨b,0,none⟩)] 212 (0,0))/\ (∃c,W.heap[w.heap.size+1]? =some (.cells #[.int .i64 c] 3 (0,0)))/\Lib.IsBuilder 215 5 B b (Lib.byteCells (bs++pre)) W/\Below B w W)
  (fun _ _ _=>False) ?hI ?hIx ?hIS ⟨g0,⟨_,g1⟩,by rw[List.append_nil];exact f,d⟩
  (fun x=>{tmps:=#[.pointer (some ⟨b,0,none⟩),.int .i64 m,.pointer (some ⟨w.heap.size,0,none⟩),undef,.int .u8 x.toNat,.int .i64 m,.func (.func 295) #[] #[.pointer (some ⟨w.heap.size+1,0,none⟩)],.int .u8 x.toNat,undef,undef,undef],defers:= []}) ?assign ?body ?done ?stop
 case hI =>
  rintro pre A C g ⟨h1,⟨c,h2⟩,h3,h4⟩ hg hr;have i:∀r,g=some r->∃o:Obj,A.heap[r]? =some o/\o.isCells=false:=fun r e=>(hr r e).2;have j:∀(k:Nat)(v:M4)(t:TypeId),A.heap[k]? =some (Obj.cells #[v] t (0,0))->C.heap[k]? =some (Obj.cells #[v] t (0,0)):=fun k v t hk =>
   (hg.block k (lt_of_block hk) (fun e=>by
     obtain⟨o,ho,hc⟩:=i k e.symm;rw[ho]at hk;cases hk;cases hc)).trans hk
  exact⟨j _ _ _ h1,⟨c,j _ _ _ h2⟩,rq h3 hg i,h4.grown hg (Z0 hBw h4.size) (fun k e=>by have:=(hr _ e).1;omega)⟩
 case hIx=>rintro c pre A C g hf _ _;exact hf
 case hIS =>
  rintro pre A C ⟨h1,⟨c,h2⟩,h3,h4⟩ ⟨v,rfl⟩;exact⟨(Z8 _ _ _ _ (by simp)).trans h1,⟨v,one_setCell h2⟩,DY h3 h2,h4.setCell (p:=⟨w.heap.size+1,0,none⟩) (by show B<=w.heap.size+1;omega) _⟩
 case assign =>
  intro l x W K hK
  gi_wp2
  exact hK
 case body =>
  rintro l pre x W ⟨r,hr⟩ ⟨h1,⟨c,h2⟩,h3,h4⟩;have c0:=cell_of_one h1;have u:pre.length+1<=6:=by
   have e1:=congrArg List.length hr;have e2:=eu 5 m (by omega);simp at e1;omega
  have H1:=ah h1;have H2:=ah h2;have H3:=ah h3;have H4:=ah h4;clear h1 h2 h3 h4 g0 g1 d a hz f hr
  gi_wp2_with (gi_at_call 252;refine(CallsIn.inRound l (callsIn_wide.2 (DZ B b (Lib.byteCells (bs++pre)) _ _ H3.o (by rw[qZ,ae];omega) (Z0 hBw H4.o.size)))).mono ?_;rintro e w' ⟨rfl,k1,k2,k3⟩)
  refine⟨k3.others,?_,?_⟩
  . show _=_
    rw[k3.same _ _ _ _ (by decide) (by decide) H2.o,H2.o]
  . refine⟨k3.same _ _ _ _ (by decide) (by decide) H1.o,⟨c,k3.same _ _ _ _ (by decide) (by decide) H2.o⟩,?_,H4.o.trans k2⟩
    rw[DL,Z4]at k1;exact .inr k1
 case done =>
  rintro D xs W hD rfl ⟨h1,_,h3,h4⟩ hK;have H3:=ah h3;have H4:=ah h4;have HK:=ah hK;clear h1 h3 h4 hK
  gi_wp2
  refine⟨by simp,.inl ⟨_,_,rfl,run_takeDeferred HK.o,?_⟩⟩;refine⟨_,results_none rfl _ _ _,rfl,?_,?_⟩
  . exact rq H3.o (grownBy_putObj' _ _ _) (fun r e=>by cases e;exact⟨_,HK.o,rfl⟩)
  . exact H4.o.grown (grownBy_putObj' _ _ _) (Z0 hBw H4.o.size) (fun k e=>by cases e;omega)
 case stop =>
  rintro D c pre W hD hS hf hK;exact hf.elim
end
theorem xJ(s:M3):Lib.strCells s=Lib.byteCells (toL s):=by simp[Lib.strCells,Lib.byteCells,toL]
theorem Eo(n:Nat)(hn:n<=1099511627776)(w:MZ):Calls Tryz.prog 176 #[.int .i64 n] w fun e w'=>e= .returned (.bool true)/\w=w':=by
 have h0: (0:Int)<= (n:Int):=by omega
 have h1: (n:Int)<=1099511627776:=by omega
 go_enter Tryz.func176,Tryz.ntmps176
 go_wp2
 go_ret
 exact⟨rfl,rfl⟩
theorem l8(n:Nat)(hn:n<=1099511627776)(w:MZ) :
  Calls Tryz.prog 107 #[.int .i64 n] w fun e w'=>e= .returned (.tuple #[.string (ofL (aj n)),.int .i64 0])/\Below w.heap.size w w':=by
 go_enter Tryz.func107,Tryz.ntmps107
 go_wp2_with (go_at_call 176;refine(Eo n hn _).mono ?_;rintro e w' ⟨rfl,rfl⟩)
 have hb:=Lib.fresh_isBuilder 215 5 w;refine(nW w.heap.size w.heap.size [] n _ hb (by simp) hn (by simp)).mono ?_;rintro e w1 ⟨rfl,h1,a⟩;rw[List.nil_append]at h1;have H1:=ah h1;have b:Hid (Below w.heap.size w w1):=((af _ w).alloc ai _).trans a;clear hb a h1;go_wp2_with fail;refine(Tryz.Builder_String_any w.heap.size w.heap.size (aj n) _ H1.o b.o.size).mono ?_;rintro e w2 ⟨rfl,c⟩;have d:=ah (b.o.trans c);clear c;go_wp2_with fail;go_ret2
 exact⟨rfl,d.o⟩
theorem rE(s:M3)(hs:s.size<=65536)(w:MZ) :
  Calls Tryz.prog 178 #[.string s] w fun e w'=>e= .returned (.tuple #[.string (ofL (ak (toL s))),.int .i64 0])/\Below w.heap.size w w':=by
 have j:¬(65536:Int)< (s.size:Int):=by omega
 have a:=aP s;have h:=ah a;clear a
 go_enter Tryz.func178,Tryz.ntmps178
 go_wp2_with fail;have hb:=Lib.fresh_isBuilder 215 5 w;refine(nW w.heap.size w.heap.size [] s.size _ hb (by simp) (by omega) (by simp)).mono ?_;rintro e w1 ⟨rfl,h1,b⟩;rw[List.nil_append]at h1;have H1:=ah h1;have c:Hid (Below w.heap.size w w1):=((af _ w).alloc ai _).trans b;clear hb b h1;go_wp2_with fail;refine(wI w.heap.size w.heap.size (Lib.byteCells (aj s.size)) s _ H1.o (by rw[qZ];have:=eu 5 s.size (by omega);omega) c.o.size).mono ?_;rintro e w2 ⟨rfl,h2,d,_⟩;have H2:Hid (Lib.IsBuilder 215 5 w.heap.size w.heap.size (Lib.byteCells (ak (toL s))) w2):=by
  refine .inr ?_;have e1:Lib.byteCells (aj s.size)++Lib.strCells s=Lib.byteCells (ak (toL s)):=by
   rw[xJ];unfold ak;rw[<-h.o];simp[Lib.byteCells]
  rw[<-e1];exact h2
 have f:=ah (c.o.trans d);clear d h2;go_wp2_with fail;refine(Tryz.Builder_String_any w.heap.size w.heap.size _ _ H2.o f.o.size).mono ?_;rintro e w3 ⟨rfl,g⟩;have i:=ah (f.o.trans g);clear g;go_wp2_with fail;go_ret2
 exact⟨rfl,i.o⟩
def qW(r:Nat×Nat×Int)(w:MZ)(e:Ending)(w':MZ):Prop:=e= .returned (.tuple #[.int .i64 r.1,.int .i64 r.2.1,.int .i64 r.2.2])/\w=w'
theorem sG{s:M3}{k:Nat}(h:k<s.size): (toL s).drop k=s[k]:: (toL s).drop (k+1):=by
 rw[List.drop_eq_getElem_cons (by rw[<-aP];exact h)];rfl
theorem jD(s:M3)(w:MZ):Calls Tryz.prog 141 #[.string s] w (qW (ay (toL s)) w):=by
 have HR:Hid (∀r,ay (toL s)=r->∀e w',qW r w e w'->qW (ay (toL s)) w e w'):=fun r h e w' hh=>by rw[h];exact hh
 have H0:Hid (ay (toL s)=gi 6 0 0 1 ((toL s).drop 0)):=rfl
 go_enter Tryz.func141,Tryz.ntmps141
 go_wp2
 go_loop[5,6,9] (fun n u i=>∃k a b:Nat,k<=6/\i= .int .i64 k/\n= .int .i64 a/\u= .int .i64 b/\1<=b/\b<=128 ^ 6/\Hid (b=128 ^ k)/\a<b/\Hid (ay (toL s)=gi (6 - k) k a b ((toL s).drop k))) (fun _ _ i=>6 - (intOf i).toNat)
 case atStart=>exact⟨0,0,1,by omega,rfl,rfl,rfl,by omega,by omega,rfl,by omega,H0.o⟩
 case round =>
  obtain⟨k,a,b,hk,rfl,rfl,rfl,x,y,hb,z,hg⟩:=hrel;by_cases hlt:k<6
  . have hf:Hid (6 - k=5 - k+1):=by show _=_;omega
    by_cases hsz:k<s.size
    . have l:¬(s.size:Int)<= (k:Int):=by omega
      have m:Hid (128*b=128 ^ (k+1)):=by show _=_;rw[hb.o,Nat.pow_succ,Nat.mul_comm]
      have A:128*b<=128 ^ 6:=by rw[m.o];exact Nat.pow_le_pow_right (by omega) (by omega)
      have f:Hid (ay (toL s)=if s[k].toNat<128 then(if(s[k].toNat=0/\0<k)∨1099511627776<a+s[k].toNat*b then(0,0,13) else(a+s[k].toNat*b,k+1,0)) else gi (5 - k) (k+1) (a+ (s[k].toNat - 128)*b) (b*128) ((toL s).drop (k+1))):=by
       show _=_;rw[hg.o,hf.o,sG hsz,gi]
      have hd:s[k].toNat<256:=s[k].toNat_lt;generalize hdd:s[k].toNat=d at *;have B: (s[k].toNat:Int)= (d:Int):=by rw[hdd]
      clear hdd;by_cases h128:d<128
      . obtain⟨p,hp⟩:=NX9 (d*b)
        have t:p<=128*b:=by rw[<-hp];exact Nat.mul_le_mul_right _ (by omega)
        have v: (d:Int)* (b:Int)= (p:Int):=by rw[<-hp];simp
        have j:¬(128:Int)<= (d:Int):=by omega
        rw[hp,if_pos h128]at f;clear hp;by_cases hmx:1099511627776<a+p
        . have o: (1099511627776:Int)< (a:Int)+ (p:Int):=by omega
          have c:Hid (ay (toL s)= (0,0,13)):=by show _=_;rw[f.o,if_pos (.inr hmx)]
          clear f hg;by_cases hd0:d=0
          . have g: ((d:Int) == 0)=true:=by rw[beq_iff_eq];omega
            clear hd0;by_cases hk0: (0:Int)< (k:Int)
            all_goals
             go_wp2
             go_ret3
             exact HR.o _ c.o _ _ ⟨rfl,rfl⟩
          . have g: ((d:Int) == 0)=false:=by rw[beq_eq_false_iff_ne];omega
            clear hd0
            go_wp2
            go_ret3
            exact HR.o _ c.o _ _ ⟨rfl,rfl⟩
        . have o:¬(1099511627776:Int)< (a:Int)+ (p:Int):=by omega
          by_cases hd0:d=0
          . have g: ((d:Int) == 0)=true:=by rw[beq_iff_eq];omega
            by_cases hk0:0<k
            . have q: (0:Int)< (k:Int):=by omega
              have c:Hid (ay (toL s)= (0,0,13)):=by show _=_;rw[f.o,if_pos (.inl ⟨hd0,hk0⟩)]
              clear f hg hd0
              go_wp2
              go_ret3
              exact HR.o _ c.o _ _ ⟨rfl,rfl⟩
            . have q:¬(0:Int)< (k:Int):=by omega
              have c:Hid (ay (toL s)= (a+p,k+1,0)):=by show _=_;rw[f.o,if_neg (by omega)]
              clear f hg hd0
              go_wp2
              go_ret3
              exact HR.o _ c.o _ _ ⟨rfl,rfl⟩
          . have g: ((d:Int) == 0)=false:=by rw[beq_eq_false_iff_ne];omega
            have c:Hid (ay (toL s)= (a+p,k+1,0)):=by show _=_;rw[f.o,if_neg (by omega)]
            clear f hg hd0
            go_wp2
            go_ret3
            exact HR.o _ c.o _ _ ⟨rfl,rfl⟩
      . obtain⟨p,hp⟩:=NX9 ((d - 128)*b)
        have t:p+b<=128*b:=by
         have: (d - 128+1)*b<=128*b:=Nat.mul_le_mul_right _ (by omega);rw[Nat.add_mul,hp]at this;omega
        have v: ((d:Int) - 128)* (b:Int)= (p:Int):=by
         rw[<-hp,Int.natCast_mul,Int.ofNat_sub (by omega)];rfl
        have j: (128:Int)<= (d:Int):=by omega
        rw[hp,if_neg h128]at f;clear hp
        go_wp2
        go_round
        case rel=>exact⟨k+1,a+p,b*128,by omega,by go_num,by go_num,by go_num,by omega,by omega,by show _=_;rw[Nat.mul_comm];exact m.o,by omega,by show _=_;rw[f.o,show 6 - (k+1)=5 - k by omega]⟩
        case measure=>simp[intOf];omega
    . have l: (s.size:Int)<= (k:Int):=by omega
      have c:Hid (ay (toL s)= (0,0,12)):=by
       show _=_;rw[hg.o,hf.o,List.drop_of_length_le (by rw[<-aP];omega),gi]
      clear hg
      go_wp2
      go_ret3
      exact HR.o _ c.o _ _ ⟨rfl,rfl⟩
  . have c:Hid (ay (toL s)= (0,0,13)):=by
      show _=_;rw[hg.o,show 6 - k=0 by omega,gi]
    clear hg
    go_wp2
    go_ret3
    exact HR.o _ c.o _ _ ⟨rfl,rfl⟩
def nJ(r:M5×Nat×Int)(w:MZ)(e:Ending)(w':MZ):Prop:=e= .returned (.tuple #[.string (ofL r.1),.int .i64 r.2.1,.int .i64 r.2.2])/\w=w'
theorem rO(s:M3)(a n:Nat):s.extract a (a+n)=ofL (((toL s).drop a).take n):=by
 apply ByteArray.ext
 apply Array.toList_inj.1
 show(s.extract a (a+n)).data.toList= ((toL s).drop a).take n;rw[jX,Nat.add_sub_cancel_left];rfl
theorem nY(s:M3)(hs:s.size<=maxLen)(w:MZ):Calls Tryz.prog 226 #[.string s] w (nJ (aK (toL s)) w):=by
 unfold maxLen at hs;have HR:Hid (∀r,aK (toL s)=r->∀e w',nJ r w e w'->nJ (aK (toL s)) w e w'):=fun r h e w' hh=>by rw[h];exact hh
 have HD:Hid (aK (toL s)=if(ay (toL s)).2.2≠0 then([],0,(ay (toL s)).2.2) else if 65536< (ay (toL s)).1 then([],0,13) else if(toL s).length< (ay (toL s)).2.1+ (ay (toL s)).1 then([],0,12) else(((toL s).drop (ay (toL s)).2.1).take (ay (toL s)).1,(ay (toL s)).2.1+ (ay (toL s)).1,0)):=rfl;rw[<-aP]at HD;have b:=kN (toL s);rw[<-aP]at b;have c:=tN (toL s)
 go_enter Tryz.func226,Tryz.ntmps226
 go_wp2_with fail;refine(jD s _).mono ?_;generalize ay (toL s)=r at *;obtain⟨n,k,e⟩:=r;rintro e' w' ⟨rfl,rfl⟩;simp only at b c HD ⊢;by_cases he:e=0
 . subst he
   by_cases hn:65536<n
   . have d: (65536:Int)< (n:Int):=by omega
     have a:Hid (aK (toL s)= ([],0,13)):=by show _=_;rw[HD.o,if_neg (by simp),if_pos hn]
     clear HD
     go_wp2
     go_ret3
     exact HR.o _ a.o _ _ ⟨rfl,rfl⟩
   . have d:¬(65536:Int)< (n:Int):=by omega
     by_cases hl:s.size<k+n
     . have f: (s.size:Int) - (k:Int)< (n:Int):=by omega
       have a:Hid (aK (toL s)= ([],0,12)):=by show _=_;rw[HD.o,if_neg (by simp),if_neg hn,if_pos hl]
       clear HD
       go_wp2
       go_ret3
       exact HR.o _ a.o _ _ ⟨rfl,rfl⟩
     . have f:¬(s.size:Int) - (k:Int)< (n:Int):=by omega
       have a:Hid (aK (toL s)= (((toL s).drop k).take n,k+n,0)):=by show _=_;rw[HD.o,if_neg (by simp),if_neg hn,if_neg hl]
       have HX:=ah (rO s k n);clear HD
       go_wp2
       go_ret3
       exact HR.o _ a.o _ _ ⟨by rw[<-HX.o];rfl,rfl⟩
 . have g: (e != 0)=true:=by rw[bne_iff_ne];exact he
   have a:Hid (aK (toL s)= ([],0,e)):=by show _=_;rw[HD.o,if_pos he]
   clear HD he
   go_wp2
   go_ret3
   exact HR.o _ a.o _ _ ⟨rfl,rfl⟩
theorem Bk.two{w:MZ}{b:Nat}{t:TypeId}{x y:M4}(h:Bk w b t #[x,y]):w.cell? ⟨b,0,none⟩=some x/\w.cell? ⟨b,1,none⟩=some y/\w.frozen? ⟨b,0,none⟩=false/\w.frozen? ⟨b,1,none⟩=false:=by
 have h0:=h.cell 0;have h1:=h.cell 1;simp at h0 h1;exact⟨h0,h1,h.free 0,h.free 1⟩
theorem oo(x r:M5): (ofL (x++r)).extract x.length (ofL (x++r)).size=ofL r:=by
 apply kS
 show((ofL (x++r)).extract x.length (ofL (x++r)).size).data.toList=r;have h: (ofL (x++r)).data.toList=x++r:=rfl;rw[ByteArray.data_extract,Array.toList_extract,List.extract_eq_take_drop,h,List.drop_left,ZW];rw[bG,ae];omega
def Rdr(w:MZ)(b:Nat)(r:M5):Prop:=Bk w b 229 #[.string (ofL r),.bool false]
def RdE(v:M4)(b:Nat)(r:M5)(w:MZ)(e:Ending)(w':MZ):Prop:=e= .returned v/\Rdr w' b r/\Gb (fun g=>g=b) w w'
theorem jg(b k:Nat)(r:M5)(w:MZ)(hk:Rdr w b (aj k++r))(hm:k<=1099511627776)(hl: (aj k++r).length<=1000000) :
  Calls Tryz.prog 143 #[.pointer (some ⟨b,0,none⟩)] w (RdE (.int .i64 k) b r w):=by
 unfold Rdr at hk;have HX:=ah (oo (aj k) r);have a: (aj k).length<= (aj k++r).length:=by rw[ae];omega
 obtain⟨s,hs⟩:=NX9 (ofL (aj k++r))
 rw[hs]at hk HX;have c:s.size= (aj k++r).length:=by rw[<-hs];rfl
 have HG:=ah (jD s w);rw[show ay (toL s)= (k,(aj k).length,0) by rw[<-hs,bP];exact ji hm r]at HG;rw[<-c]at a;obtain⟨m,d⟩:=NX9 ((aj k).length)
 rw[d]at HX HG a;have f: (m:Int)<= (s.size:Int):=by omega
 have g: (s.size:Int)<=1000000:=by omega
 have HK:=ah hk;obtain⟨x0,x1,f0,f1⟩:=hk.two;clear hk hs c d a
 go_enter Tryz.func143,Tryz.ntmps143
 go_wp2_with fail;refine HG.o.mono ?_;rintro e w' ⟨rfl,rfl⟩;go_wp2_with fail;go_ret
 refine⟨rfl,?_,iD _ _ _ _⟩;show Bk _ _ _ #[.string (ofL r),.bool false];rw[<-HX.o];exact iE HK.o _ _
theorem lT(b:Nat)(x:M3)(r:M5)(w:MZ)(hk:Rdr w b (ak (toL x)++r))(hm:x.size<=65536)(hl: (ak (toL x)++r).length<=1000000) :
  Calls Tryz.prog 144 #[.pointer (some ⟨b,0,none⟩)] w (RdE (.string x) b r w):=by
 unfold Rdr at hk;have HX:=ah (oo (ak (toL x)) r);have a: (ak (toL x)).length<= (ak (toL x)++r).length:=by rw[ae];omega
 obtain⟨s,hs⟩:=NX9 (ofL (ak (toL x)++r))
 rw[hs]at hk HX;have c:s.size= (ak (toL x)++r).length:=by rw[<-hs];rfl
 have HG:=ah (nY s (by unfold maxLen;omega) w);rw[show aK (toL s)= (toL x,(ak (toL x)).length,0) by rw[<-hs,bP];exact mJ (by rw[<-aP];exact hm) r]at HG;rw[<-c]at a;obtain⟨m,d⟩:=NX9 ((ak (toL x)).length)
 rw[d]at HX HG a;have f: (m:Int)<= (s.size:Int):=by omega
 have g: (s.size:Int)<=1000000:=by omega
 have HK:=ah hk;obtain⟨x0,x1,f0,f1⟩:=hk.two;clear hk hs c d a;unfold nJ at HG;simp only[iF]at HG
 go_enter Tryz.func144,Tryz.ntmps144
 go_wp2_with fail;refine HG.o.mono ?_;rintro e w' ⟨rfl,rfl⟩;go_wp2_with fail;go_ret
 refine⟨rfl,?_,iD _ _ _ _⟩;show Bk _ _ _ #[.string (ofL r),.bool false];rw[<-HX.o];exact iE HK.o _ _
theorem rJ(b:Nat)(d:Dig)(r:M5)(w:MZ)(hk:Rdr w b (ax d++r))(hd:WfD d)(hl: (ax d++r).length<=1000000) :
  Calls Tryz.prog 147 #[.pointer (some ⟨b,0,none⟩)] w (RdE (aB d) b r w):=by
 unfold Rdr at hk;have HX:=ah (oo (ax d) r);rw[fH]at HX;have m:16<= (ax d++r).length:=by rw[ae,fH];omega
 obtain⟨s,hs⟩:=NX9 (ofL (ax d++r))
 rw[hs]at hk HX;have a:s.size= (ax d++r).length:=by rw[<-hs];rfl
 have HD:Hid (dg (toL s)=d):=by show _=_;rw[<-hs,bP];exact mR hd r
 rw[<-a]at m hl;have A:¬(s.size:Int)<16:=by omega
 have B: (16:Int)<= (s.size:Int):=by omega
 have HE:=ah (vL (toL s));have f:=hk.lt;obtain⟨W0,e⟩:=NX9 ((w.alloc (.cells #[.int .u64 0,.int .u64 0] 50)).alloc (.cells #[.int .u64 0,.int .u64 0] 50))
 have n:Hid (Bk W0 w.heap.size 50 #[.int .u64 0,.int .u64 0]):=by rw[<-e];exact(Bk.new w _ _).alloc _
 have o:Hid (Bk W0 (w.heap.size+1) 50 #[.int .u64 0,.int .u64 0]):=by
  rw[<-e];have:=Bk.new (w.alloc (.cells #[.int .u64 0,.int .u64 0] 50)) 50 #[.int .u64 0,.int .u64 0]
  rwa[Z9]at this
 have HB:Hid (Below w.heap.size w W0):=by rw[<-e];exact((af _ w).alloc ai _).alloc (by simp) _
 have HR:=ah hk;obtain⟨x0,x1,_,_⟩:=(hk.below HB.o f).two;clear hk hs a
 go_enter Tryz.func147,Tryz.ntmps147
 go_wp2_with fail;clear e
 go_loopw[15] (fun i wr=>∃k:Nat,k<=16/\i= .int .i64 k/\Hid (Bk wr w.heap.size 50 #[.int .u64 0,.int .u64 0])/\Hid (Bk wr (w.heap.size+1) 50 #[.int .u64 (wd1 (toL s) k),.int .u64 (wd2 (toL s) k)])/\Hid (Below w.heap.size w wr)) (fun i _=>16 - (intOf i).toNat)
 case atStart=>exact⟨0,by omega,rfl,n.o,o.o,HB.o⟩
 case round =>
  obtain⟨k,hk,rfl,J0,J1,hB⟩:=hrel;clear x0 x1;obtain⟨x0,x1,xf,_⟩:=(HR.o.below hB.o f).two;by_cases hlt:k<16
  . have a:k<s.size:=by omega
    have hd:s[k].toNat<256:=s[k].toNat_lt;have q: (k:Int)<16:=by omega
    by_cases h8:k<8
    . have hx:=vw (l:=toL s) h8
      obtain⟨e1,e2⟩:=tZ (kz a) h8;have h:=ah e1;have j:=ah e2;have y0:=J1.o.cell 0;have y1:=J1.o.cell 1;have f0:=J1.o.free 0;simp at y0 y1;clear e1 e2 HX HD;have hq: (k:Int) / 8=0:=by omega
      generalize wd1 (toL s) k=x at *;generalize wd2 (toL s) k=y at *;have t:=kQ (x:=x) (y:=s[k].toNat) (by omega) (by omega);go_wp2_with fail
      go_region
      go_wp2_with fail;go_roundw
      case rel=>exact⟨k+1,by omega,by go_num,J0.o.far (p:=⟨w.heap.size+1,0,none⟩) (by simp) _,by show Bk _ _ _ _;rw[h.o,j.o];exact J1.o.set 0 _,(hB.o.setCell (p:=⟨w.heap.size+1,0,none⟩) (by simp) _).drew⟩
      case measure=>simp[intOf];omega
    . have hx:=vo (l:=toL s) hlt
      obtain⟨e1,e2⟩:=tL (kz a) (by omega);have h:=ah e1;have j:=ah e2;have y0:=J1.o.cell 0;have y1:=J1.o.cell 1;have f1:=J1.o.free 1;simp at y0 y1;clear e1 e2 HX HD;have hq: (k:Int) / 8=1:=by omega
      generalize wd1 (toL s) k=x at *;generalize wd2 (toL s) k=y at *;have t:=kQ (x:=y) (y:=s[k].toNat) (by omega) (by omega);go_wp2_with fail
      go_region
      go_wp2_with fail;go_roundw
      case rel=>exact⟨k+1,by omega,by go_num,J0.o.far (p:=⟨w.heap.size+1,1,none⟩) (by simp) _,by show Bk _ _ _ _;rw[h.o,j.o];exact J1.o.set 1 _,(hB.o.setCell (p:=⟨w.heap.size+1,1,none⟩) (by simp) _).drew⟩
      case measure=>simp[intOf];omega
  . have u:Hid (k=16):=by show _=_;omega
    have q:¬(k:Int)<16:=by omega
    have v:Hid (d= ((wd1 (toL s) k:Int),(wd2 (toL s) k:Int))):=by show _=_;rw[<-HD.o,u.o];exact HE.o
    have z:=ah (HR.o.below hB.o f);obtain⟨y0,y1,_,_⟩:=J1.o.two;obtain⟨z0,z1,f0,f1⟩:=J0.o.two;generalize wd1 (toL s) k=x at *;generalize wd2 (toL s) k=y at *;clear hlt HD;have c:b≠w.heap.size:=by omega
    have C:b≠w.heap.size+1:=by omega
    go_wp2_with fail;refine ZY (mi Tryz.results147 rfl ((J0.o.far (p:=⟨b,0,none⟩) c.symm _).set2 _ _)) rfl ⟨by rw[v.o];rfl,?_,?_⟩
    . show Bk _ _ _ #[.string (ofL r),.bool false]
      rw[<-HX.o];have:=(((z.o.set 0 (.string (s.extract 16 s.size))).far (p:=⟨w.heap.size,0,none⟩) c (.int .u64 x)).far (p:=⟨w.heap.size,1,none⟩) c (.int .u64 y))
      simpa using this
    . exact((((Gb.of_below hB.o).trans (Gb.set (p:=fun g=>g=b) (x:=b) rfl 0 _)).after ai 0 _).after ai 1 _)
