/-
  Lemmas of the card.
-/
import Derived.Lib.AppendZerosOnto
import Derived.Test.YtknefelegjlgnaaGreatDoorDCDu5
set_option maxRecDepth 100000
set_option maxHeartbeats 4000000
namespace Go.Proofs.YtknefelegjlgnaaGreatDoor
open Go.RowKit
theorem Cq: (Tryz.prog.info? 175).map (fun i=>(i.zero,i.size,i.bytes))=some (some (.agg #[.int .i64 0,.string ⟨#[]⟩]),2,24):=by kernel_rfl
theorem JX(l:List (Nat×MU)):∀u∈flat wrC l,u.oneCell'=true:=fun u hu=>by
 unfold flat at hu;obtain⟨i,_,h⟩:=List.mem_flatMap.1 hu;simp[wrC]at h;rcases h with rfl | rfl <;> rfl
def Mg(n:Nat)(w:MQ)(e:Ending)(w':MQ):Prop:=∃A c,e= .returned (.slice A 0 c)/\Apd w' w.heap.size 175 2 A 0 c []/\Below w.heap.size w w'/\n<=c/\c<=maxLen
theorem Gr(n:Nat)(w:MQ)(h0:0<n)(hn:n<=1000000):Calls Tryz.prog 294 #[.slice none 0 0,.int .i64 n] w (Mg n w):=by
 obtain⟨i0,hi,hz0,hz1,hz2⟩:=info_parts Cq;have HR:Hid (∀ty,(Builtin.append_ #[23,3] ty #[.slice none 0 0,.int .i64 (n:Int)]).run Tryz.prog w= .ok (.slice (some ⟨w.heap.size,0,none⟩) n (grownCap w n 0 175)) (w.drew.alloc (.cells (#[]++Builtin.zeroCells (Value.agg #[.int .i64 0,.string ⟨#[]⟩]).cells n++Builtin.zeroCells (Value.agg #[.int .i64 0,.string ⟨#[]⟩]).cells (grownCap w n 0 175 - n)) 175))):=fun ty=>by
  have h:=Lib.run_append_grow_zeros w 23 3 ty 175 i0 _ .i64 .i64 Tryz.underlying23 Tryz.underlying3 hi hz0 none 0 0 [] (run_firstCells_none w.drew i0.size 0 0 0) n h0 (by rw[hz1];omega) (by omega) (by omega) (by rw[hz2];omega) (growslice_fits (by omega) (by rw[hz2];omega));simp only[Nat.zero_add]at h;exact h
 clear hi hz0 hz1 hz2;have hG:=grownCap_ge w n 0 175;have hG2:=grownCap_le_maxLen w n 0 175 (by unfold maxLen;omega);obtain⟨G,hGe⟩:∃G,grownCap w n 0 175=G:=⟨_,rfl⟩
 rw[hGe]at HR hG hG2;obtain⟨W,hW⟩:∃W,w.drew.alloc (.cells (#[]++Builtin.zeroCells (Value.agg #[.int .i64 0,.string ⟨#[]⟩]).cells n++Builtin.zeroCells (Value.agg #[.int .i64 0,.string ⟨#[]⟩]).cells (G - n)) 175)=W:=⟨_,rfl⟩
 rw[hW]at HR;have HB:Hid (Below w.heap.size w W):=by rw[<-hW];exact(af _ w).drew.alloc ai _
 have HA:Hid (Apd W w.heap.size 175 2 (some ⟨w.heap.size,0,none⟩) 0 G []):=by
  refine .inl ⟨rfl,.inr ⟨w.heap.size,G,_,rfl,Nat.le_refl _,by rw[<-hW];exact heap_alloc_new w.drew _,ZZ _,hG2,?_,by simp⟩⟩;rw[Array.size_append,Array.size_append,size_zeroCells,size_zeroCells];show 0+n*2+ (G - n)*2=G*2;omega
 have HG2:=ah hG2;have HG:=ah hG;have hG3:G<=9223372036854775807:=by unfold maxLen at hG2;exact hG2
 clear hW hGe hG2
 go_enter Tryz.func294,Tryz.ntmps294
 go_wp2_with (at_builtin;refine Lib.wpList_append_run _ rfl _ _ _ _ rfl _ _ rfl rfl _ _ (HR.out _) ?_)
 go_ret
 exact⟨_,_,rfl,HA.out,HB.out,HG.out,HG2.out⟩
structure Csl where
 A:OA
 n:Nat
 c:Nat
 xs:List (Nat×MU)
def csC(s:Csl):List MS:= [.slice s.A s.n s.c]
theorem uU(s:Csl): (csC s).length=1:=rfl
def dZ(l:List Csl):Nat:=(l.map Csl.n).sum
theorem FX(l:List Csl)(s:Csl):dZ (l++ [s])=dZ l+s.n:=by simp[dZ]
theorem JG(l:List Csl)(k:Nat):dZ (l.take k)<=dZ l:=by
 conv=>rhs;rw[<-List.take_append_drop k l]
 unfold dZ;rw[List.map_append,List.sum_append];omega
def Mr(n:Nat)(xs:List (Nat×MU))(w:MQ)(e:Ending)(w':MQ):Prop:=∃A c,e= .returned (.slice A n c)/\Apd w' w.heap.size 175 2 A n c (flat wrC xs)/\Below w.heap.size w w'/\n<=c/\c<=maxLen
theorem D9(A:OA)(m c B:Nat)(ls:List Csl)(w:MQ)(hk:Sl w B 1 A m (flat csC ls))(hs:∀s∈ls,Sl w B 2 s.A s.n (flat wrC s.xs))(hB:B<=w.heap.size)(hm:m<=1000)(hn:dZ ls<=1000000)(hpos:0<dZ ls) :
  Calls Tryz.prog 249 #[.slice A m c] w (Mr (dZ ls) (ls.flatMap Csl.xs) w):=by
 have HK:=ah hk;have HS:=ah hs;have HL:=ah (hk.len uU (by omega));obtain⟨i0,hi,hz0,hz1,hz2⟩:=info_parts Cq;have Hi:=ah hi;have Hz0:=ah hz0;have Hz1:=ah hz1;have Hz2:=ah hz2;have HT:Hid (∀k s,ls[k]? =some s->dZ (ls.take (k+1))=dZ (ls.take k)+s.n):=fun k s h=>by rw[aS h,FX]
 have HTL:=ah (JG ls);have HTA:Hid (dZ (ls.take m)=dZ ls):=by show _=_;rw[<-HL.out,List.take_length]
 obtain⟨N,hN⟩:∃N,dZ ls=N:=⟨_,rfl⟩
 rw[hN]at hn hpos HTL HTA;rw[hN];clear hi hz0 hz1 hz2 hk hs hN
 go_enter Tryz.func249,Tryz.ntmps249
 go_wp2_with fail
 go_loopw[3,11] (fun s i wr=>∃(k s':Nat),k<=m/\i= .int .i64 (k:Int)/\s= .int .i64 (s':Int)/\w=wr/\Hid (dZ (ls.take k)=s')/\s'<=1000000) (fun _ i _=>m - (intOf i).toNat)
 case atStart=>exact⟨0,0,ZZ _,rfl,rfl,rfl,rfl,by omega⟩
 case round =>
  obtain⟨k,s,hk,rfl,rfl,rfl,hs,hs6⟩:=hrel;by_cases hlt:k<m
  . obtain⟨b,off,x,rfl,hb,hx,hc⟩:=HK.out.at_ uU (by omega) hlt
    have x0:=hc 0 _ rfl;simp only[Nat.mul_one,Nat.add_zero]at x0;have hs2:Hid (dZ (ls.take (k+1))=s+x.n):=by show _=_;rw[HT.out k x hx,hs.out]
    have h6:s+x.n<=1000000:=by have:=HTL.out (k+1);rw[hs2.out]at this;omega
    clear hc hx;go_wp2_with fail;go_roundw
    case rel=>exact⟨k+1,s+x.n,by omega,by go_num,by go_num,trivial,hs2.out,h6⟩
    case measure=>simp[intOf];omega
  . obtain rfl:k=m:=by omega
    have hsN:s=N:=by rw[<-hs.out,HTA.out]
    subst hsN;have HG:=ah (Gr s w hpos hn);go_wp2_with fail;refine HG.out.mono ?_;rintro e w2 ⟨A2,c2,rfl,ha,hb,hc1,hc2⟩;have HA:=ah ha;have HB:=ah hb;clear ha hb HG;go_wp2_with fail
    go_loopw[6,27] (fun r i wq=>∃(j n':Nat)(A':OA)(c':Nat),j<=k/\i= .int .i64 (j:Int)/\r= .slice A' n' c'/\Hid (Apd wq w.heap.size 175 2 A' n' c' (flat wrC ((ls.take j).flatMap Csl.xs)))/\Hid (Below w.heap.size w wq)/\n'<=c'/\c'<=maxLen/\Hid (dZ (ls.take j)=n')/\n'<=1000000) (fun _ i _=>k - (intOf i).toNat)
    case atStart=>exact⟨0,0,A2,c2,ZZ _,rfl,rfl,HA.out,HB.out,ZZ _,hc2,rfl,by omega⟩
    case round =>
     obtain⟨j,n',A',c',hj,rfl,rfl,hA,hBel,hmc,hcm,ht,ht6⟩:=hrel;by_cases hlt2:j<k
     . obtain⟨b,off,x,rfl,hb,hx,hc⟩:=(HK.out.below hBel.out hB).at_ uU (by omega) hlt2
       have x0:=hc 0 _ rfl;simp only[Nat.mul_one,Nat.add_zero]at x0;have hs2:Hid (dZ (ls.take (j+1))=n'+x.n):=by show _=_;rw[HT.out j x hx,ht.out]
       have h6:n'+x.n<=1000000:=by have:=HTL.out (j+1);rw[hs2.out]at this;omega
       have HX:=ah ((HS.out x (Z7 hx)).below hBel.out hB);have HE:Hid ((ls.take (j+1)).flatMap Csl.xs= (ls.take j).flatMap Csl.xs++x.xs):=by show _=_;rw[aS hx,List.flatMap_append];simp
       have HN:Hid (n'+x.n<=maxLen):=by show _<=_;unfold maxLen;omega
       have HY:Hid ((n'+x.n)*24<=140737488355328):=by show _<=_;omega
       clear hc hx
       go_wp2_with (at_builtin;refine aM ?_)
       refine aF ?_;refine dw (base:=w.heap.size) (size:=2) _ rfl (.tmp 31) (.tmp 32) 23 rfl 175 i0 _ 24 Tryz.underlying23 Hi.out Hz0.out Hz1.out Hz2.out rfl (by decide) A' n' c' _ rfl hA.out B _ x.n _ _ rfl HX.out (JX _) HN.out HY.out hBel.out.size ?_;intro A4 c4 w4 ha4 hb4 hn4 hm4 _;rw[<-bu,<-HE.out]at ha4;have HA4:=ah ha4;have HB4:Hid (Below w.heap.size w w4):=hBel.out.trans hb4;clear ha4 hb4 hA;go_wp2_with fail;go_roundw
       case rel=>exact⟨j+1,_,A4,c4,by omega,by go_num,rfl,HA4.out,HB4.out,hn4,hm4,hs2.out,h6⟩
       case measure=>simp[intOf];omega
     . obtain rfl:j=k:=by omega
       have hn':n'=s:=by rw[<-ht.out,HTA.out]
       subst hn';have HAA:Hid (ls.take j=ls):=by show _=_;rw[<-HL.out,List.take_length]
       go_wp2_with fail;go_ret
       exact⟨_,_,rfl,by have:=hA.out;rwa[HAA.out]at this,hBel.out,hmc,hcm⟩
def aW(d:Dk)(x:Int)(w:MQ)(e:Ending)(w':MQ):Prop:=∃s,e= .returned (.tuple #[dkV d s,.int .i64 x])/\DkM w' w'.heap.size d s/\Below w.heap.size w w'
theorem fq{fn:Func}{c i:Tmp}(h:fn.results= #[.cell c 25,.tmp i]){w:MQ}{a:Array MS}{b:Nat}{x0 x1 x2 x3 v:MS}(h1:a[c]?.getD undef= .pointer (some ⟨b,0,none⟩))(hk:Bk w b 25 #[x0,x1,x2,x3])(hv:a[i]?.getD undef=v) :
  (results fn a).run Tryz.prog w= .ok (.tuple #[.agg #[x0,x1,x2,x3],v]) w:=by
 obtain⟨c0,c1,c2,c3⟩:=hk.dk4;simp[results,h,h1,hv,go_sem,c0,c1,c2,c3]
theorem Bk.set4{w:MQ}{b:Nat}{t:TypeId}{x0 x1 x2 x3:MS}(h:Bk w b t #[x0,x1,x2,x3])(y0 y1 y2 y3:MS) :
  Bk ((((w.setCell ⟨b,0,none⟩ y0).setCell ⟨b,1,none⟩ y1).setCell ⟨b,2,none⟩ y2).setCell ⟨b,3,none⟩ y3) b t #[y0,y1,y2,y3]:=by
 have:=(((h.set 0 y0).set 1 y1).set 2 y2).set 3 y3
 simpa using this
theorem dF{B b:Nat}{w w':MQ}(h:Below B w w')(hb:B<=b)(y0 y1 y2 y3:MS):Below B w ((((w'.setCell ⟨b,0,none⟩ y0).setCell ⟨b,1,none⟩ y1).setCell ⟨b,2,none⟩ y2).setCell ⟨b,3,none⟩ y3) :=
 (((h.setCell (p:=⟨b,0,none⟩) hb y0).setCell (p:=⟨b,1,none⟩) hb y1).setCell (p:=⟨b,2,none⟩) hb y2).setCell (p:=⟨b,3,none⟩) hb y3
theorem FK(d:Dk)(s:Dsl)(B i:Nat)(x:MU)(w:MQ)(hd:d.Ok)(hm:DkM w B d s)(hB:B<=w.heap.size)(hp:d.pn.length<=900000)(hi:i<d.ss.length)(hx:x.length=d.sz) :
  Calls Tryz.prog 170 #[dkV d s,.int .i64 i,.string (ofL x)] w (aW (if d.lf=0 then d else doO d (some (i,x))) (if d.lf=0 then 20 else 0) w):=by
 obtain⟨W,hW⟩:∃W,(w.alloc (.cells (dkC d s) 25)).alloc (.cells #[.int .i64 0,.slice none 0 0,.slice none 0 0,.int .i64 0] 25)=W:=⟨_,rfl⟩
 have HB0:Hid (Below w.heap.size w W):=by rw[<-hW];exact((af _ w).alloc ai _).alloc (by simp) _
 have HK:Hid (Bk W w.heap.size 25 (dkC d s)):=by rw[<-hW];exact(Bk.new w _ _).alloc _
 have HZ:Hid (Bk W (w.heap.size+1) 25 #[.int .i64 0,.slice none 0 0,.slice none 0 0,.int .i64 0]):=by
  rw[<-hW];have:=Bk.new (w.alloc (.cells (dkC d s) 25)) 25 #[.int .i64 0,.slice none 0 0,.slice none 0 0,.int .i64 0]
  rwa[Z9]at this
 have zW:W.heap.size=w.heap.size+2:=by rw[<-hW];simp
 have HM:Hid (DkM W B d s):=hm.below HB0.out hB;have HM0:=ah hm;have HC:=ah (oo d s B W hd HM.out (by omega) (by omega));have HH:=ah (fun W=>Af d s i W);rw[show hasB d.ss.length i=true from decide_eq_true (by omega)]at HH;have hxz: ((ofL x).size:Int)=d.sz:=by rw[bG];omega
 have HD:=ah hd;obtain⟨lf,hlf⟩:∃lf,d.lf=lf:=⟨_,rfl⟩
 have hl1:=hd.lf;have hl2:=hd.lm;have HLF:=ah hlf;have HW:=ah hW;simp only[dkV,dkC,hlf]at HC HH HW HK hl1 hl2 ⊢;clear hd hm hW hlf;by_cases h0:lf=0
 . subst h0
   simp only[if_true];obtain⟨D,hD⟩:∃D,aW d 20 w=D:=⟨_,rfl⟩
   have HDD:=ah hD;rw[hD];clear hD
   go_enter Tryz.func170,Tryz.ntmps170
   go_wp2_with fail;rw[HW.out];refine HC.out.mono ?_;rintro e w1 ⟨rfl,hb1⟩;have HB1:Hid (Below W.heap.size W w1):=hb1;obtain⟨k0,k1,k2,k3⟩:=(HK.out.below hb1 (by omega)).dk4;clear hb1;go_wp2_with fail;refine(HH.out _).mono ?_;rintro e w2 ⟨rfl,hb2⟩;have HB2:Hid (Below W.heap.size W w2):=HB1.out.trans (hb2.mono HB1.out.size);have HK2:=ah (HK.out.below HB2.out (by omega));have HZ2:=ah (HZ.out.below HB2.out (by omega));obtain⟨k0,k1,k2,k3⟩:=HK2.out.dk4;obtain⟨z0,z1,z2,z3⟩:=HZ2.out.dk4;obtain⟨f0,f1,f2,f3⟩:=fr4 HZ2.out;clear hb2 HC HH;go_wp2_with fail;have HE:=ah (HZ2.out.set4 (.int .i64 d.sz) (.slice s.a1 d.ss.length s.c1) (.slice s.a2 d.pn.length s.c2) (.int .i64 0));refine ZY (fq Tryz.results170 rfl HE.out rfl) rfl ?_;rw[<-HDD.out];have hbw:=dF (HB0.out.trans (HB2.out.mono (by omega))) (show w.heap.size<=w.heap.size+1 by omega) (.int .i64 d.sz) (.slice s.a1 d.ss.length s.c1) (.slice s.a2 d.pn.length s.c2) (.int .i64 0);exact⟨s,by simp only[dkV,dkC,HLF.out];rfl,(HM0.out.below hbw hB).more (by have:=hbw.size;omega),hbw⟩
 . have hln: (lf == 0)=false:=by simpa using h0
   simp only[if_neg h0];obtain⟨D,hD⟩:∃D,aW (doO d (some (i,x))) 0 w=D:=⟨_,rfl⟩
   have HDD:=ah hD;rw[hD];have HL:=ah (fun W=>yO lf W hl1 hl2);clear hD h0
   go_enter Tryz.func170,Tryz.ntmps170
   go_wp2_with fail;rw[HW.out];refine HC.out.mono ?_;rintro e w1 ⟨rfl,hb1⟩;have HB1:Hid (Below W.heap.size W w1):=hb1;obtain⟨k0,k1,k2,k3⟩:=(HK.out.below hb1 (by omega)).dk4;clear hb1;go_wp2_with fail;refine(HH.out _).mono ?_;rintro e w2 ⟨rfl,hb2⟩;have HB2:Hid (Below W.heap.size W w2):=HB1.out.trans (hb2.mono HB1.out.size);have HK2:=ah (HK.out.below HB2.out (by omega));obtain⟨k0,k1,k2,k3⟩:=HK2.out.dk4;have z2:=HB2.out.size;clear hb2 HC HH;obtain⟨W3,hW3⟩:∃W3,(w2.alloc (.cells #[.int .i64 i,.string (ofL x)] 175)).alloc (.cells #[.slice s.a2 d.pn.length s.c2,.slice (some ⟨w2.heap.size,0,none⟩) 1 1] 23)=W3:=⟨_,rfl⟩
   have hb3:Below w2.heap.size w2 W3:=by rw[<-hW3];exact((af _ w2).alloc ai _).alloc (by simp) _
   have z3:W3.heap.size=w2.heap.size+2:=by rw[<-hW3];simp
   have s0:Sl W3 (w2.heap.size+1) 2 (some ⟨w2.heap.size,0,none⟩) 1 (flat wrC [(i,x)]):=by rw[<-hW3];exact(Sl.new w2 175 (flat wrC [(i,x)]) 1 rfl).alloc (by simp) _
   have sC:Sl W3 W3.heap.size 1 (some ⟨w2.heap.size+1,0,none⟩) 2 (flat csC [⟨s.a2,d.pn.length,s.c2,d.pn⟩,⟨some ⟨w2.heap.size,0,none⟩,1,1,[(i,x)]⟩]):=by
    have:=Sl.new (size:=1) (w2.alloc (.cells #[.int .i64 i,.string (ofL x)] 175)) 23 (flat csC [⟨s.a2,d.pn.length,s.c2,d.pn⟩,⟨some ⟨w2.heap.size,0,none⟩,1,1,[(i,x)]⟩]) 2 rfl;rw[Z9]at this;rw[z3,<-hW3];exact this
   have HCC:=ah (D9 (some ⟨w2.heap.size+1,0,none⟩) 2 2 W3.heap.size _ W3 sC (by
    intro q hq;simp only[List.mem_cons,List.not_mem_nil,or_false]at hq;rcases hq with rfl | rfl
    . exact((HM.out.pn.below (HB2.out.trans (hb3.mono (by omega))) (by omega)).more (by omega))
    . exact s0.more (by omega)) ai (by omega) (by simp[dZ];omega) (by simp[dZ]))
   have HB3:Hid (Below W.heap.size W W3):=HB2.out.trans (hb3.mono (by omega));have HW3:=ah hW3;clear hb3 s0 sC hW3;simp only[dZ,List.map_cons,List.map_nil,List.sum_cons,List.sum_nil,Nat.add_zero,List.flatMap_cons,List.flatMap_nil,List.append_nil]at HCC;go_wp2_with fail;rw[HW3.out];refine HCC.out.mono ?_;rintro e w4 ⟨A4,c4,rfl,ha4,hb4,hn4,hm4⟩;have HA4:=ah ha4;have HB4:Hid (Below W.heap.size W w4):=HB3.out.trans (hb4.mono HB3.out.size);have HK4:=ah (HK.out.below HB4.out (by omega));have HZ4:=ah (HZ.out.below HB4.out (by omega));obtain⟨k0,k1,k2,k3⟩:=HK4.out.dk4;obtain⟨z0,z1,z2,z3⟩:=HZ4.out.dk4;obtain⟨f0,f1,f2,f3⟩:=fr4 HZ4.out;have g2:=HK4.out.free 2;have g3:=HK4.out.free 3;clear ha4 hb4 HCC;go_wp2_with fail;refine(HL.out _).mono ?_;rintro e w5 ⟨rfl,rfl⟩;go_wp2_with fail;have HE:=ah ((((HZ4.out.far (p:=⟨w.heap.size,2,none⟩) (by show w.heap.size+1≠w.heap.size;omega) (.slice A4 (d.pn.length+1) c4)).far (p:=⟨w.heap.size,3,none⟩) (by show w.heap.size+1≠w.heap.size;omega) (.int .i64 (eF lf))).set4 (.int .i64 d.sz) (.slice s.a1 d.ss.length s.c1) (.slice A4 (d.pn.length+1) c4) (.int .i64 (eF lf))));refine ZY (fq Tryz.results170 rfl HE.out rfl) rfl ?_;rw[<-HDD.out];have hbw:=dF (((HB0.out.trans (HB4.out.mono (by omega))).setCell (p:=⟨w.heap.size,2,none⟩) ai (.slice A4 (d.pn.length+1) c4)).setCell (p:=⟨w.heap.size,3,none⟩) ai (.int .i64 (eF lf))) (show w.heap.size<=w.heap.size+1 by omega) (.int .i64 d.sz) (.slice s.a1 d.ss.length s.c1) (.slice A4 (d.pn.length+1) c4) (.int .i64 (eF lf));have hlt1:w.heap.size<W3.heap.size:=by omega
   have hlt2:w.heap.size+1<W3.heap.size:=by omega
   have hap:=(((((HA4.out.setCell (a:=⟨w.heap.size,2,none⟩) hlt1 (.slice A4 (d.pn.length+1) c4)).setCell (a:=⟨w.heap.size,3,none⟩) hlt1 (.int .i64 (eF lf))).setCell (a:=⟨w.heap.size+1,0,none⟩) hlt2 (.int .i64 d.sz)).setCell (a:=⟨w.heap.size+1,1,none⟩) hlt2 (.slice s.a1 d.ss.length s.c1)).setCell (a:=⟨w.heap.size+1,2,none⟩) hlt2 (.slice A4 (d.pn.length+1) c4)).setCell (a:=⟨w.heap.size+1,3,none⟩) hlt2 (.int .i64 (eF lf));refine⟨⟨s.a1,s.c1,A4,c4⟩,?_,⟨(HM0.out.ss.below hbw hB).more (by have:=hbw.size;omega),?_⟩,hbw⟩
   . simp only[dkV,dkC,doO,ae,Z5,List.length_nil,HLF.out];rfl
   . show Sl _ _ 2 A4 (d.pn++ [(i,x)]).length _
     rw[ae];exact hap.sl
structure Gb(p:Nat->Prop)(w w':MQ):Prop where
 os:w'.os=w.os
 tape:w'.tape=w.tape
 output:w'.output=w.output
 size:w.heap.size<=w'.heap.size
 block:∀k,k<w.heap.size->¬p k->w'.heap[k]? =w.heap[k]?
section
variable {p q : Nat -> Prop} {a b c : MQ}
theorem Gb.refl(p:Nat->Prop)(w:MQ):Gb p w w:=⟨rfl,rfl,rfl,Nat.le_refl _,fun _ _ _=>rfl⟩
theorem Gb.trans(h:Gb p a b)(k:Gb p b c):Gb p a c:=⟨k.os.trans h.os,k.tape.trans h.tape,k.output.trans h.output,Z0 h.size k.size,fun i hi hp=>(k.block i (Nat.lt_of_lt_of_le hi h.size) hp).trans (h.block i hi hp)⟩
theorem Gb.mono(h:Gb p a b)(hq:∀k,k<a.heap.size->p k->q k):Gb q a b:=⟨h.os,h.tape,h.output,h.size,fun i hi hn=>h.block i hi (fun hp=>hn (hq i hi hp))⟩
theorem Gb.of_below(h:Below a.heap.size a b):Gb p a b:=⟨h.os,h.tape,h.output,h.size,fun i hi _=>h.block i hi⟩
theorem Gb.below{B:Nat}(h:Gb p a b)(hB:B<=a.heap.size)(hp:∀k,k<B->¬p k):Below B a b:=⟨h.os,h.tape,h.output,h.size,fun i hi=>h.block i (by omega) (hp i hi)⟩
theorem Gb.set{w:MQ}{x:Nat}(hx:p x)(o:Nat)(v:MS):Gb p w (w.setCell ⟨x,o,none⟩ v):=⟨rfl,rfl,rfl,by simp,fun i _ hn=>Z8 w ⟨x,o,none⟩ v i (fun e=>hn (by have e':i=x:=e;rw[e'];exact hx))⟩
theorem Gb.after{x:Nat}(h:Gb p a b)(hx:a.heap.size<=x)(o:Nat)(v:MS):Gb p a (b.setCell ⟨x,o,none⟩ v):=⟨h.os,h.tape,h.output,by have:=h.size;simpa using this,fun i hi hn=>(Z8 b ⟨x,o,none⟩ v i (fun e=>by have e':i=x:=e;omega)).trans (h.block i hi hn)⟩
theorem Gb.bk{x:Nat}{t:TypeId}{cs:Array MS}(h:Gb p a b)(hk:Bk a x t cs)(hx:¬p x):Bk b x t cs:=(h.block x hk.lt hx).trans hk
end
theorem iC{w:MQ}{rb:Nat}{t:TypeId}{x y:MS}(h:Bk w rb t #[x,y])(x' y':MS):Bk ((w.setCell ⟨rb,1,none⟩ y').setCell ⟨rb,0,none⟩ x') rb t #[x',y']:=by
 have:=(h.set 1 y').set 0 x'
 simpa using this
theorem iB(w:MQ)(rb:Nat)(x' y':MS):Gb (fun g=>g=rb) w ((w.setCell ⟨rb,1,none⟩ y').setCell ⟨rb,0,none⟩ x') :=
 (Gb.set (p:=fun g=>g=rb) (x:=rb) rfl 1 y').trans (Gb.set (p:=fun g=>g=rb) (x:=rb) rfl 0 x')
def wd1(l:MU)(k:Nat):Nat:=dE 0 (l.take (min k 8))
def wd2(l:MU)(k:Nat):Nat:=dE 0 ((l.drop 8).take (k - 8))
theorem yl(l:MU)(b:UInt8):dE 0 (l++ [b])=dE 0 l*256+b.toNat:=by simp[dE]
theorem tQ{l:MU}{k:Nat}{b:UInt8}(h:l[k]? =some b)(hk:k<8):wd1 l (k+1)=wd1 l k*256+b.toNat/\wd2 l (k+1)=wd2 l k:=by
 unfold wd1 wd2;rw[show min (k+1) 8=k+1 by omega,show min k 8=k by omega,aS h,yl,show k+1 - 8=0 by omega,show k - 8=0 by omega];exact⟨rfl,rfl⟩
theorem tC{l:MU}{k:Nat}{b:UInt8}(h:l[k]? =some b)(hk:8<=k):wd1 l (k+1)=wd1 l k/\wd2 l (k+1)=wd2 l k*256+b.toNat:=by
 unfold wd1 wd2;have h': (l.drop 8)[k - 8]? =some b:=by rw[List.getElem?_drop,show 8+ (k - 8)=k by omega];exact h
 rw[show min (k+1) 8=8 by omega,show min k 8=8 by omega,show k+1 - 8=k - 8+1 by omega,aS h',yl];exact⟨rfl,rfl⟩
theorem uY{l:MU}{k:Nat}(hk:k<8):wd1 l k<256 ^ 7:=by
 have h:=kR (l.take (min k 8)) 0;have hl: (l.take (min k 8)).length<=7:=by rw[List.length_take];omega
 have:=Nat.pow_le_pow_right (n:=256) (by omega) hl;unfold wd1;omega
theorem vk{l:MU}{k:Nat}(hk:k<16):wd2 l k<256 ^ 7:=by
 have h:=kR ((l.drop 8).take (k - 8)) 0;have hl: ((l.drop 8).take (k - 8)).length<=7:=by rw[List.length_take];omega
 have:=Nat.pow_le_pow_right (n:=256) (by omega) hl;unfold wd2;omega
theorem vF(l:MU):dg l= ((wd1 l 16:Int),(wd2 l 16:Int)):=rfl
theorem kH{s:MR}{k:Nat}(h:k<s.size): (toL s)[k]? =some s[k]:=by
 rw[Z6 (by rw[<-aP];exact h)];rfl
theorem kQ{x y:Nat}(hx:x<256 ^ 7)(hy:y<256):bits .or .u64 ((x:Int)*256) (y:Int)= (x:Int)*256+ (y:Int) :=
 bits_join .u64 64 (by decide) (fun n h0 h1=>IntWalk.u64_in n (by omega)) 8 ((x:Int)*256) (y:Int) (by omega) (by omega) (by omega) (by omega) (by omega) (by omega)
structure Kt(w w':MQ):Prop where
 others:KeepsOthers w w'
 same:∀(k:Nat)(cs:Array MS)(t:TypeId)(fr:Nat×Nat),t≠5->t≠215->w.heap[k]? =some (.cells cs t fr)->w'.heap[k]? =some (.cells cs t fr)
theorem Kt.refl(w:MQ):Kt w w:=⟨KeepsOthers.refl w,fun _ _ _ _ _ _ h=>h⟩
theorem Kt.trans{a b c:MQ}(h:Kt a b)(k:Kt b c):Kt a c:=⟨h.others.trans k.others,fun i cs t fr h5 h9 hi=>k.same i cs t fr h5 h9 (h.same i cs t fr h5 h9 hi)⟩
theorem Kt.alloc(w:MQ)(o:Obj):Kt w (w.alloc o):=⟨KeepsOthers.alloc w o,fun k _ _ _ _ _ h=>(Below.heap_alloc w o k (Array.getElem?_eq_some_iff.1 h).1).trans h⟩
theorem Kt.setCell{w:MQ}{b i:Nat}{cs:Array MS}{fr:Nat×Nat}(hb:w.heap[b]? =some (.cells cs 215 fr))(v:MS):Kt w (w.setCell ⟨b,i,none⟩ v) :=
 ⟨KeepsOthers.setCell _ _ _,fun k cs' t fr' _ h9 h=>(Z8 w ⟨b,i,none⟩ v k (fun e=>by
   have e':k=b:=e;rw[e',hb]at h;simp only[Option.some.injEq,Obj.cells.injEq]at h;exact h9 h.2.1.symm)).trans h⟩
theorem Kt.grown{w w':MQ}{base size n:Nat}{v:MS}{xs:List MS}(hown:w.ownsRow base 5 size v n xs)(hg:w.grownBy w' v.ownBlock):Kt w w':=by
 have key:∀j,v.ownBlock=some j->∃cur,w.heap[j]? =some (.cells cur 5 (0,0)):=by
  intro j hj;rcases hown.2 with ⟨hv,_⟩ | ⟨g,cap,cur,hv,_,hh,_⟩
  . rw[hv]at hj;cases hj
  . rw[hv]at hj;cases hj;exact⟨cur,hh⟩
 refine⟨KeepsOthers.of_grownBy hg fun j o hj ho=>?_,fun k cs t fr h5 _ h=>?_⟩
 . obtain⟨cur,hc⟩:=key j hj
   rw[hc]at ho;cases ho;rfl
 . refine(hg.block k (Array.getElem?_eq_some_iff.1 h).1 (fun e=>?_)).trans h
   obtain⟨cur,hc⟩:=key k e.symm;rw[hc]at h;simp only[Option.some.injEq,Obj.cells.injEq]at h;exact h5 h.2.1.symm
theorem infoByte: (Tryz.prog.info? 5).map (fun i=>(i.zero,i.size,i.bytes))=some (some (.int .u8 0),1,1):=by kernel_rfl
theorem Hg(b:Nat)(w:MQ)(h0:w.cell? ⟨b,0,none⟩=some (.pointer (some ⟨b,0,none⟩))) :
  Calls Tryz.prog 219 #[.pointer (some ⟨b,0,none⟩)] w fun e w'=>e= .returned (.tuple #[])/\w'=w:=by
 obtain⟨j,hj,_⟩:=Option.map_eq_some_iff.1 Tryz.Builder_Extra_169.sizeBuilder
 go_enter Tryz.func219,Tryz.ntmps219
 go_wp2
 rw[Lib.run_neq_ptr_same w _ Tryz.underlying212 hj]
 go_wp2
 go_end0
 exact⟨rfl,rfl⟩
theorem FH(b:Nat)(w:MQ)(h0:w.cell? ⟨b,0,none⟩=some (.pointer none))(hsh:w.shape? b=some (215,2))(hfz:w.frozen? ⟨b,0,none⟩=false) :
  Calls Tryz.prog 219 #[.pointer (some ⟨b,0,none⟩)] w fun e w'=>e= .returned (.tuple #[])/\w'=w.setCell ⟨b,0,none⟩ (.pointer (some ⟨b,0,none⟩)):=by
 obtain⟨j,hj,hjs⟩:=Option.map_eq_some_iff.1 Tryz.Builder_Extra_169.sizeBuilder
 go_enter Tryz.func219,Tryz.ntmps219
 go_wp2
 rw[Lib.run_to_unsafe w ⟨b,0,none⟩ Tryz.underlying212 Tryz.underlying348 hj (by rw[hjs];decide) hsh (Nat.zero_lt_succ 1)];simp only[Result.andThen];rw[Oper.upon_value]
 go_wp2
 rw[run_callFunc_extern Tryz.func278 (by kernel_rfl) (by kernel_rfl) (by kernel_rfl) (e:=Extern.AbiNoEscape.same) (by kernel_rfl)];rw[Lib.run_noEscape];simp only[Result.andThen];rw[Oper.upon_value]
 go_wp2
 rw[Lib.run_from_unsafe w ⟨b,0,none⟩ Tryz.underlying348 Tryz.underlying212 hj hsh Tryz.Builder_Extra_169.liesBuilder];simp only[Result.andThen];rw[Oper.upon_value]
 go_wp2
 go_end0
 exact⟨rfl,rfl⟩
theorem zO(B b:Nat)(bs:List MS)(w:MQ)(h:Lib.IsBuilder 215 5 B b bs w) :
  Calls Tryz.prog 219 #[.pointer (some ⟨b,0,none⟩)] w fun e w'=>e= .returned (.tuple #[])/\ (Lib.BuilderAt 215 5 B b (.pointer (some ⟨b,0,none⟩)) bs w'/\Below B w w'/\Kt w w'):=by
 rcases h with h | h
 . refine(FH b w h.cell0 h.shape h.frozen0).mono ?_
   rintro e w' ⟨rfl,rfl⟩;obtain⟨_,v,hb,_⟩:=id h;exact⟨rfl,h.used _,(af B w).setCell (p:=⟨b,0,none⟩) h.1 _,Kt.setCell hb _⟩
 . refine(Hg b w h.cell0).mono ?_
   rintro e w' ⟨rfl,rfl⟩;exact⟨rfl,h,af B _,Kt.refl _⟩
theorem DD(B b:Nat)(bs:List MS)(c:Int)(w:MQ)(h:Lib.IsBuilder 215 5 B b bs w)(hlen:bs.length+1<=140737488355328)(hBw:B<=w.heap.size) :
  Calls Tryz.prog 252 #[.pointer (some ⟨b,0,none⟩),.int .u8 c] w fun e w'=>e= .returned .nilIface/\ (Lib.BuilderAt 215 5 B b (.pointer (some ⟨b,0,none⟩)) (bs++ [.int .u8 c]) w'/\Below B w w'/\Kt w w'):=by
 obtain⟨i0,hi,hz0,hz1,hz2⟩:=info_parts infoByte
 go_enter Tryz.func252,Tryz.ntmps252
 go_wp2_with fail;refine(zO B b bs _ h).mono ?_;rintro e w1 ⟨rfl,h1,hb1,hk1⟩;have HK1:=ah hk1;clear hk1;obtain⟨hB,v,hbk,hown,hne⟩:=h1;have c0:w1.cell? ⟨b,0,none⟩=some (.pointer (some ⟨b,0,none⟩)):=by rw[Lib.cell_of_heap hbk];rfl
 have c1:w1.cell? ⟨b,1,none⟩=some v:=by rw[Lib.cell_of_heap hbk];rfl
 go_wp2_with (at_builtin;refine wpList_append_own _ rfl _ _ 213 rfl B 5 i0 (.int .u8 0) 1 1 Tryz.underlying213 hi hz0 hz1 hz2 rfl (by decide) _ _ _ rfl (hown.alloc _) ⟨w1.heap.size,0,none⟩ 1 1 [.int .u8 c] rfl rfl ?c1 ?c2 ?c3 ?c4 ?c5 ?_)
 case c1 =>
  intro j u hj
  match j,hj with
  | 0,hj=>simp at hj;subst hj;simp[Addr.add]
 case c2=>intro u hu;simp at hu;subst hu;rfl
 case c3=>unfold maxLen;omega
 case c4=>omega
 case c5=>have:=hb1.size;simp;omega
 intro v' w2 hown' hgrow _;have HK2:Hid (Kt w w2):=(HK1.out.trans (Kt.alloc _ _)).trans (Kt.grown (hown.alloc _) hgrow);have hlt:b<w1.heap.size:=(Array.getElem?_eq_some_iff.1 hbk).1;have hb2:w2.heap[b]? =some (.cells #[.pointer (some ⟨b,0,none⟩),v] 215 (0,0)):=by
  rw[hgrow.block b (by simp;omega) (fun e=>hne e.symm),Lib.alloc_old w1 _ b hlt];exact hbk
 have d0:w2.cell? ⟨b,0,none⟩=some (.pointer (some ⟨b,0,none⟩)):=by rw[Lib.cell_of_heap hb2];rfl
 have d1:w2.cell? ⟨b,1,none⟩=some v:=by rw[Lib.cell_of_heap hb2];rfl
 have f1:w2.frozen? ⟨b,1,none⟩=false:=Lib.frozen_of_heap hb2 1;obtain⟨g,cap,rfl⟩:∃g cap,v'= .slice (some ⟨g,0,none⟩) (bs.length+1) cap:=by
  rcases hown'.2 with ⟨_,h0⟩ | ⟨g,cap,cur,hv,_⟩
  . omega
  . exact⟨g,cap,hv⟩
 go_wp2
 go_ret
 refine⟨rfl,?_,?_,HK2.out.trans (Kt.setCell hb2 _)⟩
 . exact Lib.BuilderAt.put (T:=215) (e:=5) hB hb2 (bs':=bs++ [.int .u8 c]) (by simpa using hown') (by decide)
 . exact((hb1.alloc (by have:=hb1.size;omega) _).grown hgrow (by have:=hb1.size;simp;omega) (fun k hk=>(hown.lt k hk).1)).setCell (p:=⟨b,1,none⟩) hB _
theorem wu(B b:Nat)(bs:List MS)(s:MR)(w:MQ)(h:Lib.IsBuilder 215 5 B b bs w)(hlen:bs.length+s.size<=140737488355328)(hBw:B<=w.heap.size) :
  Calls Tryz.prog 136 #[.pointer (some ⟨b,0,none⟩),.string s] w fun e w'=>e= .returned (.tuple #[.int .i64 s.size,.nilIface])/\ (Lib.BuilderAt 215 5 B b (.pointer (some ⟨b,0,none⟩)) (bs++Lib.strCells s) w'/\Below B w w'/\Kt w w'):=by
 obtain⟨i0,hi,hz0,hz1,hz2⟩:=info_parts infoByte
 go_enter Tryz.func136,Tryz.ntmps136
 go_wp2_with fail;refine(zO B b bs _ h).mono ?_;rintro e w1 ⟨rfl,h1,hb1,hk1⟩;have HK1:=ah hk1;clear hk1;obtain⟨hB,v,hbk,hown,hne⟩:=h1;have c0:w1.cell? ⟨b,0,none⟩=some (.pointer (some ⟨b,0,none⟩)):=by rw[Lib.cell_of_heap hbk];rfl
 have c1:w1.cell? ⟨b,1,none⟩=some v:=by rw[Lib.cell_of_heap hbk];rfl
 go_wp2_with (at_builtin;refine Lib.wpList_append_own_string _ rfl _ _ 213 9 rfl B 5 i0 Tryz.underlying213 Tryz.underlying9 hi hz0 hz1 hz2 _ _ _ rfl hown s rfl ?c3 ?c4 ?c5 ?_)
 case c3=>unfold maxLen;omega
 case c4=>omega
 case c5=>have:=hb1.size;omega
 intro v' w2 hown' hgrow _;have HK2:Hid (Kt w w2):=HK1.out.trans (Kt.grown hown hgrow);have hlt:b<w1.heap.size:=(Array.getElem?_eq_some_iff.1 hbk).1;have hb2:w2.heap[b]? =some (.cells #[.pointer (some ⟨b,0,none⟩),v] 215 (0,0)):=by
  rw[hgrow.block b hlt (fun e=>hne e.symm)];exact hbk
 have d0:w2.cell? ⟨b,0,none⟩=some (.pointer (some ⟨b,0,none⟩)):=by rw[Lib.cell_of_heap hb2];rfl
 have d1:w2.cell? ⟨b,1,none⟩=some v:=by rw[Lib.cell_of_heap hb2];rfl
 have f1:w2.frozen? ⟨b,1,none⟩=false:=Lib.frozen_of_heap hb2 1;obtain⟨ao,n',cap,rfl⟩:∃ao n' cap,v'= .slice ao n' cap:=by
  rcases hown'.2 with ⟨hv,_⟩ | ⟨g,cap,cur,hv,_⟩
  . exact⟨_,_,_,hv⟩
  . exact⟨_,_,_,hv⟩
 go_wp2
 go_ret2
 refine⟨rfl,?_,?_,HK2.out.trans (Kt.setCell hb2 _)⟩
 . exact Lib.BuilderAt.put (T:=215) (e:=5) hB hb2 (bs':=bs++Lib.strCells s) (by simpa [Lib.strCells_length] using hown') (by decide)
 . exact(hb1.grown hgrow (by have:=hb1.size;omega) (fun k hk=>(hown.lt k hk).1)).setCell (p:=⟨b,1,none⟩) hB _
section
open Go.RowKit Go.Shelf
attribute [local go_sem] Oper.semAt_some
def nk(lo:Nat)(A B:MQ):Prop:=B.heap[lo]? =A.heap[lo]?
theorem Kh{lo:Nat}{A B C:MQ}(h:nk lo A B)(k:nk lo B C):nk lo A C:=k.trans h
theorem G7{lo m:Nat}(h:lo<m)(W:MQ)(l:Nat)(o:Obj)(hl:m<=l):nk lo W (W.putObj l o):=World.putObj_heap_other (by omega)
def StB(lo:Nat)(A B:MQ):Prop:=∃v,B=A.setCell ⟨lo,0,none⟩ (.int .i64 v)
theorem FR{lo:Nat}(A B:MQ)(h:StB lo A B):KeepsOthers A B:=by
 obtain⟨v,rfl⟩:=h;exact KeepsOthers.setCell _ _ _
def vI(lo:Nat)(w:MQ):Nat:=match w.cell? ⟨lo,0,none⟩ with
 | some (.int _ n)=>n.toNat
 | _=>0
theorem zh{lo:Nat}{w:MQ}{n:Nat}(h:w.heap[lo]? =some (.cells #[.int .i64 n] 3 (0,0))):vI lo w=n:=by
 have:=cell_of_one h;simp[vI,this]
theorem GD(n lo:Nat)(hn:1<=n)(m:Nat)(w:MQ)(hm:m<=9223372036854775807)(hlo:lo<w.heap.size)(h0:w.heap[lo]? =some (.cells #[.int .i64 m] 3 (0,0))) :
  vV Fence.wide n Tryz.prog 295 #[.pointer (some ⟨lo,0,none⟩)] (fun x:UInt8=> #[.int .u8 x.toNat]) (nk lo) (StB lo)
   (fun pre=>∃r,pre++r=aj m) (fun xs=>xs=aj m) (fun pre=>∃r,pre++r=aj m) w:=fun l J Jx W hW hJ hY hJ0=>by
 have g0:W.heap[lo]? =some (.cells #[.int .i64 m] 3 (0,0)):=(hW.block lo (by omega)).trans h0;clear hW h0;have G0:=ah g0;have HJ:=ah hJ;have HY:=ah hY;have HJ0:=ah hJ0;clear g0 hJ hY hJ0;refine callsIn_of_wp Tryz.func295 rfl trivial ?_ rfl;simp only[Tryz.ntmps295,List.size_toArray,Z5,List.length_nil,Nat.reduceAdd,Nat.reduceSub,Array.replicate_succ,Array.replicate_zero,List.push_toArray,List.append_toArray,List.nil_append,List.cons_append]
 gi_wp2_with fail
 gi_loopw [3,4] (fun _ _ wr=>∃(pre:MU)(c:Nat),c<=9223372036854775807/\Hid (wr.heap[lo]? =some (.cells #[.int .i64 c] 3 (0,0)))/\Hid (pre++aj c=aj m)/\J pre wr)
  (fun _ _ wr=>vI lo wr)
 case atStart=>exact⟨[],m,hm,G0,rfl,HJ0.out⟩
 case round =>
  obtain⟨pre,c,hc,k0,hsp,hj⟩:=hrel;have d0:=cell_of_one k0.out;have f0:=free_of_one k0.out;have HJR:=ah hj;clear hj;by_cases hs:c<128
  . have e8:=jc (n:=c) (by omega)
    obtain⟨fn,tmps,assign,body,hy,hR⟩:=HY.out pre (UInt8.ofNat c) wr ⟨[],by rw[List.append_nil,<-hsp.out,dK hs]⟩ HJR.out;rw[e8]at hy;have HR:=ah hR;have HE:=ah (dK hs);clear hR e8;have hci:¬(128:Int)<= (c:Int):=by omega
    gi_wp2
    refine HR.out.mono ?_;rintro e W3 (⟨rfl,hJ3,_⟩ | ⟨rfl,hJx3⟩)
    . gi_wp2
      go_end0
      exact⟨⟨_,rfl⟩,.inl ⟨pre++ [UInt8.ofNat c],by rw[<-hsp.out,HE.out],hJ3⟩⟩
    . gi_wp2
      go_end0
      exact⟨⟨_,rfl⟩,.inr ⟨pre++ [UInt8.ofNat c],⟨[],by rw[<-hsp.out,HE.out,List.append_nil]⟩,hJx3⟩⟩
  . have e8:=jc (n:=c % 128+128) (by omega)
    have ei: (((UInt8.ofNat (c % 128+128)).toNat:Nat):Int)= (c:Int) % 128+128:=by rw[e8];omega
    obtain⟨fn,tmps,assign,body,hy,hR⟩:=HY.out pre (UInt8.ofNat (c % 128+128)) wr ⟨aj (c / 128),by rw[<-hsp.out,jF hs,Z4];rfl⟩ HJR.out;rw[ei]at hy;have HR:=ah hR;have HE:=ah (jF hs);clear hR e8 ei;have hci: (128:Int)<= (c:Int):=by omega
    gi_wp2
    refine HR.out.mono ?_;rintro e W3 (⟨rfl,hJ3,hK3⟩ | ⟨rfl,hJx3⟩)
    . have m0:W3.heap[lo]? =some (.cells #[.int .i64 c] 3 (0,0)):=hK3.trans k0.out
      have e0:=cell_of_one m0;have q0:=free_of_one m0;have M0:=ah m0;have HJ3:=ah hJ3;clear m0 hJ3 hK3 d0 f0
      gi_wp2
      go_roundw
      case rel =>
       refine⟨pre++ [UInt8.ofNat (c % 128+128)],c / 128,by omega,one_setCell M0.out,?_,HJ.out _ _ _ HJ3.out ⟨_,rfl⟩⟩;show _=_;rw[<-hsp.out,HE.out,Z4];rfl
      case measure =>
       have hq:=one_setCell (u:= .int .i64 ((c / 128:Nat):Int)) M0.out;rw[show(c:Int) / 128= ((c / 128:Nat):Int) by omega,zh hq,zh k0.out];omega
    . gi_wp2
      refine ZY (results_none rfl _ _ _) rfl ?_;exact⟨⟨_,rfl⟩,.inr ⟨pre++ [UInt8.ofNat (c % 128+128)],⟨aj (c / 128),by rw[<-hsp.out,HE.out,Z4];rfl⟩,hJx3⟩⟩
theorem EG(m:Int)(w:MQ) :
  Calls Tryz.prog 251 #[.int .i64 m] w fun e w'=>e= .returned (.func (.func 295) #[] #[.pointer (some ⟨w.heap.size,0,none⟩)])/\w'=w.alloc (.cells #[.int .i64 m] 3):=by
 go_enter Tryz.func251,Tryz.ntmps251
 go_wp2
 go_ret
 exact⟨rfl,rfl⟩
theorem xh{B b:Nat}{p:MS}{bs:List MS}{W W':MQ}{row:Option Nat}(h:Lib.BuilderAt 215 5 B b p bs W)(hg:W.grownBy W' row)(hr:∀r,row=some r->∃o:Obj,W.heap[r]? =some o/\o.isCells=false):Lib.BuilderAt 215 5 B b p bs W':=by
 obtain⟨hB,v,hb,hown,hne⟩:=h;have key:∀(k:Nat)(cs:Array MS)(t:TypeId)(fr:Nat×Nat),W.heap[k]? =some (Obj.cells cs t fr)->W'.heap[k]? =some (Obj.cells cs t fr):=fun k cs t fr hk =>
  (hg.block k (Array.getElem?_eq_some_iff.1 hk).1 (fun e=>by
    obtain⟨o,ho,hc⟩:=hr k e.symm;rw[ho]at hk;cases hk;cases hc)).trans hk
 refine⟨hB,v,key _ _ _ _ hb,⟨hown.1,?_⟩,hne⟩;rcases hown.2 with h0 | ⟨g,cap,cur,hv,h1,hh,h2⟩
 . exact .inl h0
 . exact .inr ⟨g,cap,cur,hv,h1,key _ _ _ _ hh,h2⟩
theorem qW{B b:Nat}{bs:List MS}{W W':MQ}{row:Option Nat}(h:Lib.IsBuilder 215 5 B b bs W)(hg:W.grownBy W' row)(hr:∀r,row=some r->∃o:Obj,W.heap[r]? =some o/\o.isCells=false):Lib.IsBuilder 215 5 B b bs W':=by
 rcases h with h | h
 . exact .inl (xh h hg hr)
 . exact .inr (xh h hg hr)
theorem Dw{B b lo:Nat}{bs:List MS}{W:MQ}{v u:MS}(h:Lib.IsBuilder 215 5 B b bs W)(hlo:W.heap[lo]? =some (.cells #[v] 3 (0,0))):Lib.IsBuilder 215 5 B b bs (W.setCell ⟨lo,0,none⟩ u):=by
 have key:∀(k:Nat)(cs:Array MS)(t:TypeId)(fr:Nat×Nat),t≠3->W.heap[k]? =some (Obj.cells cs t fr)-> (W.setCell ⟨lo,0,none⟩ u).heap[k]? =some (Obj.cells cs t fr):=fun k cs t fr h3 hk =>
  (Z8 W ⟨lo,0,none⟩ u k (fun e=>by
    have e':k=lo:=e;rw[e',hlo]at hk;simp only[Option.some.injEq,Obj.cells.injEq]at hk;exact h3 hk.2.1.symm)).trans hk
 have one:∀p,Lib.BuilderAt 215 5 B b p bs W->Lib.BuilderAt 215 5 B b p bs (W.setCell ⟨lo,0,none⟩ u):=by
  rintro p ⟨hB,v',hb,hown,hne⟩;refine⟨hB,v',key _ _ _ _ (by decide) hb,⟨hown.1,?_⟩,hne⟩;rcases hown.2 with h0 | ⟨g,cap,cur,hv,h1,hh,h2⟩
  . exact .inl h0
  . exact .inr ⟨g,cap,cur,hv,h1,key _ _ _ _ (by decide) hh,h2⟩
 rcases h with h | h
 . exact .inl (one _ h)
 . exact .inr (one _ h)
theorem wy{B b:Nat}{bs:List MS}{W:MQ}(h:Lib.IsBuilder 215 5 B b bs W)(o:Obj):Lib.IsBuilder 215 5 B b bs (W.alloc o) :=
 qW h (World.grownBy_alloc W o none) (fun r e=>by cases e)
theorem Dl(l:MU)(x:UInt8):Lib.byteCells l++ [.int .u8 x.toNat]=Lib.byteCells (l++ [x]):=by simp[Lib.byteCells]
theorem qV(l:MU): (Lib.byteCells l).length=l.length:=by simp[Lib.byteCells]
theorem nR(B b:Nat)(bs:MU)(m:Nat)(w:MQ)(h:Lib.IsBuilder 215 5 B b (Lib.byteCells bs) w)(hBw:B<=w.heap.size)(hm:m<=1099511627776)(hlen:bs.length<=1099511627776) :
  Calls Tryz.prog 177 #[.pointer (some ⟨b,0,none⟩),.int .i64 m] w fun e w'=>e= .returned (.tuple #[])/\Lib.IsBuilder 215 5 B b (Lib.byteCells (bs++aj m)) w'/\Below B w w':=by
 refine(callsIn_wide (n:=6)).1 ?_;have hf78:Fence.wide.fn 251:=trivial;have hf79:Fence.wide.fn 252:=trivial;have HH:=ah h;clear h;refine callsIn_of_wp_marks Tryz.func177 rfl trivial ?_ rfl;simp only[Tryz.ntmps177,List.size_toArray,Z5,List.length_nil,Nat.reduceAdd,Nat.reduceSub,Array.replicate_succ,Array.replicate_zero,List.push_toArray,List.append_toArray,List.nil_append,List.cons_append]
 gi_wp2_with (gi_at_call 251;refine(callsIn_wide.2 (EG _ _)).mono ?_;rintro e w' ⟨rfl,rfl⟩)
 obtain⟨W0,hW0⟩:∃W0,(w.alloc (.cells #[.pointer (some ⟨b,0,none⟩)] 212)).alloc (.cells #[.int .i64 m] 3)=W0:=⟨_,rfl⟩
 have hz:W0.heap.size=w.heap.size+2:=by rw[<-hW0];simp
 have g0:W0.heap[w.heap.size]? =some (.cells #[.pointer (some ⟨b,0,none⟩)] 212 (0,0)):=by
  rw[<-hW0];exact(Below.heap_alloc _ _ _ (by simp)).trans (World.alloc_heap_new w _)
 have g1:W0.heap[w.heap.size+1]? =some (.cells #[.int .i64 m] 3 (0,0)):=by
  rw[<-hW0];have:=World.alloc_heap_new (w.alloc (.cells #[.pointer (some ⟨b,0,none⟩)] 212)) (.cells #[.int .i64 m] 3);rwa[Z9]at this
 have hb0:Below B w W0:=by
  rw[<-hW0];exact((af _ w).alloc hBw _).alloc (by simp;omega) _
 have hbd:Lib.IsBuilder 215 5 B b (Lib.byteCells bs) W0:=by
  rw[<-hW0];exact wy (wy HH.out _) _
 rw[hW0];refine rE (F:=Fence.wide) (n:=6) rfl (by omega) (gf:=295) (lb:=#[.pointer (some ⟨w.heap.size+1,0,none⟩)]) rfl trivial (enters_of Tryz.func295 (by kernel_rfl) rfl)
  (GD 5 (w.heap.size+1) (by omega) m W0 (by omega) (by omega) g1) Kh (fun W l o hl=>G7 (m:=w.heap.size+2) (by omega) W l o (by omega)) FR (af _ _) (fun _=>rfl)
  (fun pre W=>W.heap[w.heap.size]? =some (.cells #[.pointer (some ⟨b,0,none⟩)] 212 (0,0))/\ (∃c,W.heap[w.heap.size+1]? =some (.cells #[.int .i64 c] 3 (0,0)))/\Lib.IsBuilder 215 5 B b (Lib.byteCells (bs++pre)) W/\Below B w W)
  (fun _ _ _=>False) ?hI ?hIx ?hIS ⟨g0,⟨_,g1⟩,by rw[List.append_nil];exact hbd,hb0⟩
  (fun x=>{tmps:=#[.pointer (some ⟨b,0,none⟩),.int .i64 m,.pointer (some ⟨w.heap.size,0,none⟩),undef,.int .u8 x.toNat,.int .i64 m,.func (.func 295) #[] #[.pointer (some ⟨w.heap.size+1,0,none⟩)],.int .u8 x.toNat,undef,undef,undef],defers:= []}) ?assign ?body ?done ?stop
 case hI =>
  rintro pre A C row ⟨h1,⟨c,h2⟩,h3,h4⟩ hg hr;have hnc:∀r,row=some r->∃o:Obj,A.heap[r]? =some o/\o.isCells=false:=fun r e=>(hr r e).2;have key:∀(k:Nat)(v:MS)(t:TypeId),A.heap[k]? =some (Obj.cells #[v] t (0,0))->C.heap[k]? =some (Obj.cells #[v] t (0,0)):=fun k v t hk =>
   (hg.block k (lt_of_block hk) (fun e=>by
     obtain⟨o,ho,hc⟩:=hnc k e.symm;rw[ho]at hk;cases hk;cases hc)).trans hk
  exact⟨key _ _ _ h1,⟨c,key _ _ _ h2⟩,qW h3 hg hnc,h4.grown hg (Z0 hBw h4.size) (fun k e=>by have:=(hr _ e).1;omega)⟩
 case hIx=>rintro c pre A C row hf _ _;exact hf
 case hIS =>
  rintro pre A C ⟨h1,⟨c,h2⟩,h3,h4⟩ ⟨v,rfl⟩;exact⟨(Z8 _ _ _ _ (by simp)).trans h1,⟨v,one_setCell h2⟩,Dw h3 h2,h4.setCell (p:=⟨w.heap.size+1,0,none⟩) (by show B<=w.heap.size+1;omega) _⟩
 case assign =>
  intro l x W K hK
  gi_wp2
  exact hK
 case body =>
  rintro l pre x W ⟨r,hr⟩ ⟨h1,⟨c,h2⟩,h3,h4⟩;have c0:=cell_of_one h1;have hpl:pre.length+1<=6:=by
   have e1:=congrArg List.length hr;have e2:=eu 5 m (by omega);simp at e1;omega
  have H1:=ah h1;have H2:=ah h2;have H3:=ah h3;have H4:=ah h4;clear h1 h2 h3 h4 g0 g1 hb0 hW0 hz hbd hr
  gi_wp2_with (gi_at_call 252;refine(CallsIn.inRound l (callsIn_wide.2 (DD B b (Lib.byteCells (bs++pre)) _ _ H3.out (by rw[qV,ae];omega) (Z0 hBw H4.out.size)))).mono ?_;rintro e w' ⟨rfl,k1,k2,k3⟩)
  refine⟨k3.others,?_,?_⟩
  . show _=_
    rw[k3.same _ _ _ _ (by decide) (by decide) H2.out,H2.out]
  . refine⟨k3.same _ _ _ _ (by decide) (by decide) H1.out,⟨c,k3.same _ _ _ _ (by decide) (by decide) H2.out⟩,?_,H4.out.trans k2⟩
    rw[Dl,Z4]at k1;exact .inr k1
 case done =>
  rintro D xs W hD rfl ⟨h1,_,h3,h4⟩ hK;have H3:=ah h3;have H4:=ah h4;have HK:=ah hK;clear h1 h3 h4 hK
  gi_wp2
  refine⟨by simp,.inl ⟨_,_,rfl,run_takeDeferred HK.out,?_⟩⟩;refine⟨_,results_none rfl _ _ _,rfl,?_,?_⟩
  . exact qW H3.out (grownBy_putObj' _ _ _) (fun r e=>by cases e;exact⟨_,HK.out,rfl⟩)
  . exact H4.out.grown (grownBy_putObj' _ _ _) (Z0 hBw H4.out.size) (fun k e=>by cases e;omega)
 case stop =>
  rintro D c pre W hD hS hf hK;exact hf.elim
end
theorem wX(s:MR):Lib.strCells s=Lib.byteCells (toL s):=by simp[Lib.strCells,Lib.byteCells,toL]
theorem Ep(n:Nat)(hn:n<=1099511627776)(w:MQ):Calls Tryz.prog 176 #[.int .i64 n] w fun e w'=>e= .returned (.bool true)/\w=w':=by
 have h0: (0:Int)<= (n:Int):=by omega
 have h1: (n:Int)<=1099511627776:=by omega
 go_enter Tryz.func176,Tryz.ntmps176
 go_wp2
 go_ret
 exact⟨rfl,rfl⟩
theorem lX(n:Nat)(hn:n<=1099511627776)(w:MQ) :
  Calls Tryz.prog 107 #[.int .i64 n] w fun e w'=>e= .returned (.tuple #[.string (ofL (aj n)),.int .i64 0])/\Below w.heap.size w w':=by
 go_enter Tryz.func107,Tryz.ntmps107
 go_wp2_with (go_at_call 176;refine(Ep n hn _).mono ?_;rintro e w' ⟨rfl,rfl⟩)
 have hb:=Lib.fresh_isBuilder 215 5 w;refine(nR w.heap.size w.heap.size [] n _ hb (by simp) hn (by simp)).mono ?_;rintro e w1 ⟨rfl,h1,hb1⟩;rw[List.nil_append]at h1;have H1:=ah h1;have HB1:Hid (Below w.heap.size w w1):=((af _ w).alloc ai _).trans hb1;clear hb hb1 h1;go_wp2_with fail;refine(Tryz.Builder_String_any w.heap.size w.heap.size (aj n) _ H1.out HB1.out.size).mono ?_;rintro e w2 ⟨rfl,hb2⟩;have HB2:=ah (HB1.out.trans hb2);clear hb2;go_wp2_with fail;go_ret2
 exact⟨rfl,HB2.out⟩
theorem rG(s:MR)(hs:s.size<=65536)(w:MQ) :
  Calls Tryz.prog 178 #[.string s] w fun e w'=>e= .returned (.tuple #[.string (ofL (ak (toL s))),.int .i64 0])/\Below w.heap.size w w':=by
 have hsi:¬(65536:Int)< (s.size:Int):=by omega
 have hsz:=aP s;have HSZ:=ah hsz;clear hsz
 go_enter Tryz.func178,Tryz.ntmps178
 go_wp2_with fail;have hb:=Lib.fresh_isBuilder 215 5 w;refine(nR w.heap.size w.heap.size [] s.size _ hb (by simp) (by omega) (by simp)).mono ?_;rintro e w1 ⟨rfl,h1,hb1⟩;rw[List.nil_append]at h1;have H1:=ah h1;have HB1:Hid (Below w.heap.size w w1):=((af _ w).alloc ai _).trans hb1;clear hb hb1 h1;go_wp2_with fail;refine(wu w.heap.size w.heap.size (Lib.byteCells (aj s.size)) s _ H1.out (by rw[qV];have:=eu 5 s.size (by omega);omega) HB1.out.size).mono ?_;rintro e w2 ⟨rfl,h2,hb2,_⟩;have H2:Hid (Lib.IsBuilder 215 5 w.heap.size w.heap.size (Lib.byteCells (ak (toL s))) w2):=by
  refine .inr ?_;have e1:Lib.byteCells (aj s.size)++Lib.strCells s=Lib.byteCells (ak (toL s)):=by
   rw[wX];unfold ak;rw[<-HSZ.out];simp[Lib.byteCells]
  rw[<-e1];exact h2
 have HB2:=ah (HB1.out.trans hb2);clear hb2 h2;go_wp2_with fail;refine(Tryz.Builder_String_any w.heap.size w.heap.size _ _ H2.out HB2.out.size).mono ?_;rintro e w3 ⟨rfl,hb3⟩;have HB3:=ah (HB2.out.trans hb3);clear hb3;go_wp2_with fail;go_ret2
 exact⟨rfl,HB3.out⟩
def qF(r:Nat×Nat×Int)(w:MQ)(e:Ending)(w':MQ):Prop:=e= .returned (.tuple #[.int .i64 r.1,.int .i64 r.2.1,.int .i64 r.2.2])/\w=w'
theorem rZ{s:MR}{k:Nat}(h:k<s.size): (toL s).drop k=s[k]:: (toL s).drop (k+1):=by
 rw[List.drop_eq_getElem_cons (by rw[<-aP];exact h)];rfl
theorem jC(s:MR)(w:MQ):Calls Tryz.prog 141 #[.string s] w (qF (ay (toL s)) w):=by
 have HR:Hid (∀r,ay (toL s)=r->∀e w',qF r w e w'->qF (ay (toL s)) w e w'):=fun r h e w' hh=>by rw[h];exact hh
 have H0:Hid (ay (toL s)=gi 6 0 0 1 ((toL s).drop 0)):=rfl
 go_enter Tryz.func141,Tryz.ntmps141
 go_wp2
 go_loop[5,6,9] (fun n u i=>∃k a b:Nat,k<=6/\i= .int .i64 k/\n= .int .i64 a/\u= .int .i64 b/\1<=b/\b<=128 ^ 6/\Hid (b=128 ^ k)/\a<b/\Hid (ay (toL s)=gi (6 - k) k a b ((toL s).drop k))) (fun _ _ i=>6 - (intOf i).toNat)
 case atStart=>exact⟨0,0,1,by omega,rfl,rfl,rfl,by omega,by omega,rfl,by omega,H0.out⟩
 case round =>
  obtain⟨k,a,b,hk,rfl,rfl,rfl,hb1,hb2,hb,hab,hg⟩:=hrel;by_cases hlt:k<6
  . have hf:Hid (6 - k=5 - k+1):=by show _=_;omega
    by_cases hsz:k<s.size
    . have hsz':¬(s.size:Int)<= (k:Int):=by omega
      have hbn:Hid (128*b=128 ^ (k+1)):=by show _=_;rw[hb.out,Nat.pow_succ,Nat.mul_comm]
      have hbp:128*b<=128 ^ 6:=by rw[hbn.out];exact Nat.pow_le_pow_right (by omega) (by omega)
      have hst:Hid (ay (toL s)=if s[k].toNat<128 then(if(s[k].toNat=0/\0<k)∨1099511627776<a+s[k].toNat*b then(0,0,13) else(a+s[k].toNat*b,k+1,0)) else gi (5 - k) (k+1) (a+ (s[k].toNat - 128)*b) (b*128) ((toL s).drop (k+1))):=by
       show _=_;rw[hg.out,hf.out,rZ hsz,gi]
      have hd:s[k].toNat<256:=s[k].toNat_lt;generalize hdd:s[k].toNat=d at *;have hdi: (s[k].toNat:Int)= (d:Int):=by rw[hdd]
      clear hdd;by_cases h128:d<128
      . obtain⟨p,hp⟩:∃p,d*b=p:=⟨_,rfl⟩
        have hpb:p<=128*b:=by rw[<-hp];exact Nat.mul_le_mul_right _ (by omega)
        have hpi: (d:Int)* (b:Int)= (p:Int):=by rw[<-hp];simp
        have h128i:¬(128:Int)<= (d:Int):=by omega
        rw[hp,if_pos h128]at hst;clear hp;by_cases hmx:1099511627776<a+p
        . have hmxi: (1099511627776:Int)< (a:Int)+ (p:Int):=by omega
          have hfin:Hid (ay (toL s)= (0,0,13)):=by show _=_;rw[hst.out,if_pos (.inr hmx)]
          clear hst hg;by_cases hd0:d=0
          . have hd0i: ((d:Int) == 0)=true:=by rw[beq_iff_eq];omega
            clear hd0;by_cases hk0: (0:Int)< (k:Int)
            all_goals
             go_wp2
             go_ret3
             exact HR.out _ hfin.out _ _ ⟨rfl,rfl⟩
          . have hd0i: ((d:Int) == 0)=false:=by rw[beq_eq_false_iff_ne];omega
            clear hd0
            go_wp2
            go_ret3
            exact HR.out _ hfin.out _ _ ⟨rfl,rfl⟩
        . have hmxi:¬(1099511627776:Int)< (a:Int)+ (p:Int):=by omega
          by_cases hd0:d=0
          . have hd0i: ((d:Int) == 0)=true:=by rw[beq_iff_eq];omega
            by_cases hk0:0<k
            . have hk0i: (0:Int)< (k:Int):=by omega
              have hfin:Hid (ay (toL s)= (0,0,13)):=by show _=_;rw[hst.out,if_pos (.inl ⟨hd0,hk0⟩)]
              clear hst hg hd0
              go_wp2
              go_ret3
              exact HR.out _ hfin.out _ _ ⟨rfl,rfl⟩
            . have hk0i:¬(0:Int)< (k:Int):=by omega
              have hfin:Hid (ay (toL s)= (a+p,k+1,0)):=by show _=_;rw[hst.out,if_neg (by omega)]
              clear hst hg hd0
              go_wp2
              go_ret3
              exact HR.out _ hfin.out _ _ ⟨rfl,rfl⟩
          . have hd0i: ((d:Int) == 0)=false:=by rw[beq_eq_false_iff_ne];omega
            have hfin:Hid (ay (toL s)= (a+p,k+1,0)):=by show _=_;rw[hst.out,if_neg (by omega)]
            clear hst hg hd0
            go_wp2
            go_ret3
            exact HR.out _ hfin.out _ _ ⟨rfl,rfl⟩
      . obtain⟨p,hp⟩:∃p,(d - 128)*b=p:=⟨_,rfl⟩
        have hpb:p+b<=128*b:=by
         have: (d - 128+1)*b<=128*b:=Nat.mul_le_mul_right _ (by omega);rw[Nat.add_mul,hp]at this;omega
        have hpi: ((d:Int) - 128)* (b:Int)= (p:Int):=by
         rw[<-hp,Int.natCast_mul,Int.ofNat_sub (by omega)];rfl
        have h128i: (128:Int)<= (d:Int):=by omega
        rw[hp,if_neg h128]at hst;clear hp
        go_wp2
        go_round
        case rel=>exact⟨k+1,a+p,b*128,by omega,by go_num,by go_num,by go_num,by omega,by omega,by show _=_;rw[Nat.mul_comm];exact hbn.out,by omega,by show _=_;rw[hst.out,show 6 - (k+1)=5 - k by omega]⟩
        case measure=>simp[intOf];omega
    . have hsz': (s.size:Int)<= (k:Int):=by omega
      have hfin:Hid (ay (toL s)= (0,0,12)):=by
       show _=_;rw[hg.out,hf.out,List.drop_of_length_le (by rw[<-aP];omega),gi]
      clear hg
      go_wp2
      go_ret3
      exact HR.out _ hfin.out _ _ ⟨rfl,rfl⟩
  . have hfin:Hid (ay (toL s)= (0,0,13)):=by
      show _=_;rw[hg.out,show 6 - k=0 by omega,gi]
    clear hg
    go_wp2
    go_ret3
    exact HR.out _ hfin.out _ _ ⟨rfl,rfl⟩
def nE(r:MU×Nat×Int)(w:MQ)(e:Ending)(w':MQ):Prop:=e= .returned (.tuple #[.string (ofL r.1),.int .i64 r.2.1,.int .i64 r.2.2])/\w=w'
theorem rH(s:MR)(a n:Nat):s.extract a (a+n)=ofL (((toL s).drop a).take n):=by
 apply ByteArray.ext
 apply Array.toList_inj.1
 show(s.extract a (a+n)).data.toList= ((toL s).drop a).take n;rw[jW,Nat.add_sub_cancel_left];rfl
theorem nV(s:MR)(hs:s.size<=maxLen)(w:MQ):Calls Tryz.prog 226 #[.string s] w (nE (aK (toL s)) w):=by
 unfold maxLen at hs;have HR:Hid (∀r,aK (toL s)=r->∀e w',nE r w e w'->nE (aK (toL s)) w e w'):=fun r h e w' hh=>by rw[h];exact hh
 have HD:Hid (aK (toL s)=if(ay (toL s)).2.2≠0 then([],0,(ay (toL s)).2.2) else if 65536< (ay (toL s)).1 then([],0,13) else if(toL s).length< (ay (toL s)).2.1+ (ay (toL s)).1 then([],0,12) else(((toL s).drop (ay (toL s)).2.1).take (ay (toL s)).1,(ay (toL s)).2.1+ (ay (toL s)).1,0)):=rfl;rw[<-aP]at HD;have hle:=kN (toL s);rw[<-aP]at hle;have hmx:=uk (toL s)
 go_enter Tryz.func226,Tryz.ntmps226
 go_wp2_with fail;refine(jC s _).mono ?_;generalize ay (toL s)=r at *;obtain⟨n,k,e⟩:=r;rintro e' w' ⟨rfl,rfl⟩;simp only at hle hmx HD ⊢;by_cases he:e=0
 . subst he
   by_cases hn:65536<n
   . have hni: (65536:Int)< (n:Int):=by omega
     have hfin:Hid (aK (toL s)= ([],0,13)):=by show _=_;rw[HD.out,if_neg (by simp),if_pos hn]
     clear HD
     go_wp2
     go_ret3
     exact HR.out _ hfin.out _ _ ⟨rfl,rfl⟩
   . have hni:¬(65536:Int)< (n:Int):=by omega
     by_cases hl:s.size<k+n
     . have hli: (s.size:Int) - (k:Int)< (n:Int):=by omega
       have hfin:Hid (aK (toL s)= ([],0,12)):=by show _=_;rw[HD.out,if_neg (by simp),if_neg hn,if_pos hl]
       clear HD
       go_wp2
       go_ret3
       exact HR.out _ hfin.out _ _ ⟨rfl,rfl⟩
     . have hli:¬(s.size:Int) - (k:Int)< (n:Int):=by omega
       have hfin:Hid (aK (toL s)= (((toL s).drop k).take n,k+n,0)):=by show _=_;rw[HD.out,if_neg (by simp),if_neg hn,if_neg hl]
       have HX:=ah (rH s k n);clear HD
       go_wp2
       go_ret3
       exact HR.out _ hfin.out _ _ ⟨by rw[<-HX.out];rfl,rfl⟩
 . have hne: (e != 0)=true:=by rw[bne_iff_ne];exact he
   have hfin:Hid (aK (toL s)= ([],0,e)):=by show _=_;rw[HD.out,if_pos he]
   clear HD he
   go_wp2
   go_ret3
   exact HR.out _ hfin.out _ _ ⟨rfl,rfl⟩
theorem Bk.two{w:MQ}{b:Nat}{t:TypeId}{x y:MS}(h:Bk w b t #[x,y]):w.cell? ⟨b,0,none⟩=some x/\w.cell? ⟨b,1,none⟩=some y/\w.frozen? ⟨b,0,none⟩=false/\w.frozen? ⟨b,1,none⟩=false:=by
 have h0:=h.cell 0;have h1:=h.cell 1;simp at h0 h1;exact⟨h0,h1,h.free 0,h.free 1⟩
theorem nZ(x r:MU): (ofL (x++r)).extract x.length (ofL (x++r)).size=ofL r:=by
 apply kM
 show((ofL (x++r)).extract x.length (ofL (x++r)).size).data.toList=r;have h: (ofL (x++r)).data.toList=x++r:=rfl;rw[ByteArray.data_extract,Array.toList_extract,List.extract_eq_take_drop,h,List.drop_left,ZW];rw[bG,ae];omega
def Rdr(w:MQ)(b:Nat)(r:MU):Prop:=Bk w b 229 #[.string (ofL r),.bool false]
def RdE(v:MS)(b:Nat)(r:MU)(w:MQ)(e:Ending)(w':MQ):Prop:=e= .returned v/\Rdr w' b r/\Gb (fun g=>g=b) w w'
theorem jf(b k:Nat)(r:MU)(w:MQ)(hk:Rdr w b (aj k++r))(hm:k<=1099511627776)(hl: (aj k++r).length<=1000000) :
  Calls Tryz.prog 143 #[.pointer (some ⟨b,0,none⟩)] w (RdE (.int .i64 k) b r w):=by
 unfold Rdr at hk;have HX:=ah (nZ (aj k) r);have hms: (aj k).length<= (aj k++r).length:=by rw[ae];omega
 obtain⟨s,hs⟩:∃s,ofL (aj k++r)=s:=⟨_,rfl⟩
 rw[hs]at hk HX;have hsz:s.size= (aj k++r).length:=by rw[<-hs];rfl
 have HG:=ah (jC s w);rw[show ay (toL s)= (k,(aj k).length,0) by rw[<-hs,bO];exact jh hm r]at HG;rw[<-hsz]at hms;obtain⟨m,hme⟩:∃m,(aj k).length=m:=⟨_,rfl⟩
 rw[hme]at HX HG hms;have hmi: (m:Int)<= (s.size:Int):=by omega
 have hsm: (s.size:Int)<=1000000:=by omega
 have HK:=ah hk;obtain⟨x0,x1,f0,f1⟩:=hk.two;clear hk hs hsz hme hms
 go_enter Tryz.func143,Tryz.ntmps143
 go_wp2_with fail;refine HG.out.mono ?_;rintro e w' ⟨rfl,rfl⟩;go_wp2_with fail;go_ret
 refine⟨rfl,?_,iB _ _ _ _⟩;show Bk _ _ _ #[.string (ofL r),.bool false];rw[<-HX.out];exact iC HK.out _ _
theorem lW(b:Nat)(x:MR)(r:MU)(w:MQ)(hk:Rdr w b (ak (toL x)++r))(hm:x.size<=65536)(hl: (ak (toL x)++r).length<=1000000) :
  Calls Tryz.prog 144 #[.pointer (some ⟨b,0,none⟩)] w (RdE (.string x) b r w):=by
 unfold Rdr at hk;have HX:=ah (nZ (ak (toL x)) r);have hms: (ak (toL x)).length<= (ak (toL x)++r).length:=by rw[ae];omega
 obtain⟨s,hs⟩:∃s,ofL (ak (toL x)++r)=s:=⟨_,rfl⟩
 rw[hs]at hk HX;have hsz:s.size= (ak (toL x)++r).length:=by rw[<-hs];rfl
 have HG:=ah (nV s (by unfold maxLen;omega) w);rw[show aK (toL s)= (toL x,(ak (toL x)).length,0) by rw[<-hs,bO];exact mr (by rw[<-aP];exact hm) r]at HG;rw[<-hsz]at hms;obtain⟨m,hme⟩:∃m,(ak (toL x)).length=m:=⟨_,rfl⟩
 rw[hme]at HX HG hms;have hmi: (m:Int)<= (s.size:Int):=by omega
 have hsm: (s.size:Int)<=1000000:=by omega
 have HK:=ah hk;obtain⟨x0,x1,f0,f1⟩:=hk.two;clear hk hs hsz hme hms;unfold nE at HG;simp only[iE]at HG
 go_enter Tryz.func144,Tryz.ntmps144
 go_wp2_with fail;refine HG.out.mono ?_;rintro e w' ⟨rfl,rfl⟩;go_wp2_with fail;go_ret
 refine⟨rfl,?_,iB _ _ _ _⟩;show Bk _ _ _ #[.string (ofL r),.bool false];rw[<-HX.out];exact iC HK.out _ _
theorem rz(b:Nat)(d:Dig)(r:MU)(w:MQ)(hk:Rdr w b (ax d++r))(hd:WfD d)(hl: (ax d++r).length<=1000000) :
  Calls Tryz.prog 147 #[.pointer (some ⟨b,0,none⟩)] w (RdE (aB d) b r w):=by
 unfold Rdr at hk;have HX:=ah (nZ (ax d) r);rw[fF]at HX;have h16:16<= (ax d++r).length:=by rw[ae,fF];omega
 obtain⟨s,hs⟩:∃s,ofL (ax d++r)=s:=⟨_,rfl⟩
 rw[hs]at hk HX;have hsz:s.size= (ax d++r).length:=by rw[<-hs];rfl
 have HD:Hid (dg (toL s)=d):=by show _=_;rw[<-hs,bO];exact mR hd r
 rw[<-hsz]at h16 hl;have h16i:¬(s.size:Int)<16:=by omega
 have h16j: (16:Int)<= (s.size:Int):=by omega
 have HE:=ah (vF (toL s));have hbw:=hk.lt;obtain⟨W0,hW0⟩:∃W0,(w.alloc (.cells #[.int .u64 0,.int .u64 0] 50)).alloc (.cells #[.int .u64 0,.int .u64 0] 50)=W0:=⟨_,rfl⟩
 have HK0:Hid (Bk W0 w.heap.size 50 #[.int .u64 0,.int .u64 0]):=by rw[<-hW0];exact(Bk.new w _ _).alloc _
 have HK1:Hid (Bk W0 (w.heap.size+1) 50 #[.int .u64 0,.int .u64 0]):=by
  rw[<-hW0];have:=Bk.new (w.alloc (.cells #[.int .u64 0,.int .u64 0] 50)) 50 #[.int .u64 0,.int .u64 0]
  rwa[Z9]at this
 have HB:Hid (Below w.heap.size w W0):=by rw[<-hW0];exact((af _ w).alloc ai _).alloc (by simp) _
 have HR:=ah hk;obtain⟨x0,x1,_,_⟩:=(hk.below HB.out hbw).two;clear hk hs hsz
 go_enter Tryz.func147,Tryz.ntmps147
 go_wp2_with fail;clear hW0
 go_loopw[15] (fun i wr=>∃k:Nat,k<=16/\i= .int .i64 k/\Hid (Bk wr w.heap.size 50 #[.int .u64 0,.int .u64 0])/\Hid (Bk wr (w.heap.size+1) 50 #[.int .u64 (wd1 (toL s) k),.int .u64 (wd2 (toL s) k)])/\Hid (Below w.heap.size w wr)) (fun i _=>16 - (intOf i).toNat)
 case atStart=>exact⟨0,by omega,rfl,HK0.out,HK1.out,HB.out⟩
 case round =>
  obtain⟨k,hk,rfl,J0,J1,hB⟩:=hrel;clear x0 x1;obtain⟨x0,x1,xf,_⟩:=(HR.out.below hB.out hbw).two;by_cases hlt:k<16
  . have hsz:k<s.size:=by omega
    have hd:s[k].toNat<256:=s[k].toNat_lt;have hki: (k:Int)<16:=by omega
    by_cases h8:k<8
    . have hx:=uY (l:=toL s) h8
      obtain⟨e1,e2⟩:=tQ (kH hsz) h8;have HE1:=ah e1;have HE2:=ah e2;have y0:=J1.out.cell 0;have y1:=J1.out.cell 1;have f0:=J1.out.free 0;simp at y0 y1;clear e1 e2 HX HD;have hq: (k:Int) / 8=0:=by omega
      generalize wd1 (toL s) k=x at *;generalize wd2 (toL s) k=y at *;have hor:=kQ (x:=x) (y:=s[k].toNat) (by omega) (by omega);go_wp2_with fail
      go_region
      go_wp2_with fail;go_roundw
      case rel=>exact⟨k+1,by omega,by go_num,J0.out.far (p:=⟨w.heap.size+1,0,none⟩) (by simp) _,by show Bk _ _ _ _;rw[HE1.out,HE2.out];exact J1.out.set 0 _,(hB.out.setCell (p:=⟨w.heap.size+1,0,none⟩) (by simp) _).drew⟩
      case measure=>simp[intOf];omega
    . have hx:=vk (l:=toL s) hlt
      obtain⟨e1,e2⟩:=tC (kH hsz) (by omega);have HE1:=ah e1;have HE2:=ah e2;have y0:=J1.out.cell 0;have y1:=J1.out.cell 1;have f1:=J1.out.free 1;simp at y0 y1;clear e1 e2 HX HD;have hq: (k:Int) / 8=1:=by omega
      generalize wd1 (toL s) k=x at *;generalize wd2 (toL s) k=y at *;have hor:=kQ (x:=y) (y:=s[k].toNat) (by omega) (by omega);go_wp2_with fail
      go_region
      go_wp2_with fail;go_roundw
      case rel=>exact⟨k+1,by omega,by go_num,J0.out.far (p:=⟨w.heap.size+1,1,none⟩) (by simp) _,by show Bk _ _ _ _;rw[HE1.out,HE2.out];exact J1.out.set 1 _,(hB.out.setCell (p:=⟨w.heap.size+1,1,none⟩) (by simp) _).drew⟩
      case measure=>simp[intOf];omega
  . have hke:Hid (k=16):=by show _=_;omega
    have hki:¬(k:Int)<16:=by omega
    have HX2:Hid (d= ((wd1 (toL s) k:Int),(wd2 (toL s) k:Int))):=by show _=_;rw[<-HD.out,hke.out];exact HE.out
    have HRr:=ah (HR.out.below hB.out hbw);obtain⟨y0,y1,_,_⟩:=J1.out.two;obtain⟨z0,z1,f0,f1⟩:=J0.out.two;generalize wd1 (toL s) k=x at *;generalize wd2 (toL s) k=y at *;clear hlt HD;have hne1:b≠w.heap.size:=by omega
    have hne2:b≠w.heap.size+1:=by omega
    go_wp2_with fail;refine ZY (mf Tryz.results147 rfl ((J0.out.far (p:=⟨b,0,none⟩) hne1.symm _).set2 _ _)) rfl ⟨by rw[HX2.out];rfl,?_,?_⟩
    . show Bk _ _ _ #[.string (ofL r),.bool false]
      rw[<-HX.out];have:=(((HRr.out.set 0 (.string (s.extract 16 s.size))).far (p:=⟨w.heap.size,0,none⟩) hne1 (.int .u64 x)).far (p:=⟨w.heap.size,1,none⟩) hne1 (.int .u64 y))
      simpa using this
    . exact((((Gb.of_below hB.out).trans (Gb.set (p:=fun g=>g=b) (x:=b) rfl 0 _)).after ai 0 _).after ai 1 _)
end Go.Proofs.YtknefelegjlgnaaGreatDoor
