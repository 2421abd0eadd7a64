/-Lemmas.-/
import Derived.Test.YtknefelegjlgnaaGreatDoorCCCm20
set_option maxRecDepth 100000
set_option maxHeartbeats 8000000
namespace Go.Proofs.YtknefelegjlgnaaGreatDoor
open Go.RowKit
def aX(n s:Nat):Dk:=⟨s,List.replicate n (List.replicate s 0),[],-1⟩
theorem ug{n s:Nat}(h1:1<=n)(h2:n<=1000)(h3:1<=s)(h4:s<=512): (aX n s).Ok :=
 ⟨h3,h4,by simp[aX];omega,by simp[aX];omega,fun x hx=>by rw[List.eq_of_mem_replicate hx];simp[aX],fun x hx=>absurd hx (by simp[aX]),by simp[aX],by simp[aX]⟩
theorem Ew(n s:Int)(w:VA):Calls Tryz.prog 34 #[.int .i64 n,.int .i64 s] w (bG (if jP n s=true then aX n.toNat s.toNat else zDk) (if jP n s=true then 0 else 2) w):=by
 obtain⟨W,hW⟩:=NX9 (w.alloc (.cells #[.int .i64 0,.slice none 0 0,.slice none 0 0,.int .i64 0] 25))
 have HB0:VF w W:=by rw[<-hW];exact(ah _ w).alloc aj _
 have y:W.heap.size=w.heap.size+1:=by rw[<-hW];simp
 have HZ:Hid (Bk W w.heap.size 25 #[.int .i64 0,.slice none 0 0,.slice none 0 0,.int .i64 0]):=by rw[<-hW];exact Bk.new w _ _
 obtain⟨z0,z1,z2,z3⟩:=HZ.o.dk4;obtain⟨f0,f1,f2,f3⟩:=fr4 HZ.o;have b:=ai (FD n s W);have HW:=ai hW;clear hW;cases hr:jP n s with
 | false =>
   rw[hr]at b;clear hr
   go_enter Tryz.func34,Tryz.ntmps34
   go_wp2_with fail;rw[HW.o];refine b.o.mono ?_;rintro e w1 ⟨rfl,rfl⟩;go_wp2_with fail;refine ZW (gU Tryz.results34 rfl (HZ.o.set4 _ _ _ _) rfl) rfl ?_;exact⟨⟨none,0,none,0⟩,rfl,qJ _,eu HB0.o (by omega) _ _ _ _⟩
 | true =>
   rw[hr]at b;have hb:=of_decide_eq_true hr;obtain⟨n,rfl⟩:∃m:Nat,n=m:=⟨n.toNat,by omega⟩
   obtain⟨s,rfl⟩:∃m:Nat,s=m:=⟨s.toNat,by omega⟩
   have hn1:1<=n:=by omega
   have hn2:n<=1000:=by omega
   have hs1:1<=s:=by omega
   have hs2:s<=512:=by omega
   have q:=ai (fun w'=>BA s w' (by omega));obtain⟨zs,hzs⟩:=NX9 (ofL (List.replicate s 0))
   have c:Hid (∀w',Calls Tryz.prog 74 #[.string ⟨#[0]⟩,.int .i64 s] w' fun e w''=>e= .returned (.string zs)/\VE w' w''):=fun w'=>by rw[<-hzs];exact q.o w'
   have r:=ai hzs;simp only[if_true,Int.toNat_natCast];obtain⟨i0,hi,d,f,g⟩:=info_parts kD;have h:i0.bytes*n<=281474976710656:=by rw[g];omega
   have Hi:=ai hi;have t:=ai d;have u:=ai f;have v:=ai h;clear hr hb hzs q hi d f g h
   go_enter Tryz.func34,Tryz.ntmps34
   go_wp2_with fail;rw[HW.o];refine b.o.mono ?_;rintro e w1 ⟨rfl,rfl⟩
   go_wp2_with (at_make;refine aO ?_)
   refine aH ?_;refine wpList_make_full _ rfl (.tmp 14) (.tmp 14) 22 rfl W.heap.size 9 i0 _ 1 Tryz.underlying22 Hi.o t.o u.o .i64 .i64 n n n rfl rfl rfl rfl v.o (by unfold maxLen;omega) aj ?_;intro w2 ho hg;have HO:=ai ho;have hb2:VE W w2:=(ah _ W).grown hg aj (fun k e=>by cases e);have HB2:=ai hb2;clear ho hg hb2;go_wp2_with fail;refine(c.o _).mono ?_;rintro e w3 ⟨rfl,hb3⟩;have l:Hid (w3.ownsRow W.heap.size 9 1 (.slice (some ⟨W.heap.size,0,none⟩) n n) n (madeCells (Value.cells (.string ⟨#[]⟩)) (n*1)).toList):=gQ HO.o hb3;have x:=HB2.o.size;have z:=hb3.size;have HB3:VF W w3:=HB2.o.trans (hb3.mono x);rw[y]at l;clear hb3 c HO HB2 z0 z1 z2 z3 f0 f1 f2 f3;go_wp2_with fail
   go_loopw[20] (fun i wr=>∃(k:Nat)(xs:List VC),k<=n/\i= .int .i64 k/\Hid (xs.length=n/\∀j,j<k->xs[j]? =some (.string zs))/\Hid (wr.ownsRow (w.heap.size+1) 9 1 (.slice (some ⟨w.heap.size+1,0,none⟩) n n) n xs)/\VF W wr) (fun i _=>n - (intOf i).toNat)
   case atStart=>exact⟨0,_,ZX _,rfl,⟨by have:=l.o.1;omega,fun j hj=>absurd hj (by omega)⟩,l.o,HB3.o⟩
   case round =>
    obtain⟨k,xs,hk,rfl,hxs,hO,hBel⟩:=hrel;obtain⟨hgb,cur,a,o⟩:=qB hO.o;have zr:=a.lt;by_cases hlt:k<n
    . have hlz: (k:Int)< (n:Int):=by omega
      have hxk:xs[k]? =some (xs[k]'(by rw[hxs.o.1];exact hlt)):=Z5 _;have c0:wr.cell? ⟨w.heap.size+1,k,none⟩=some (xs[k]'(by rw[hxs.o.1];exact hlt)):=by rw[a.cell];exact o k _ hxk
      have c9:=a.free k;generalize xs[k]'(by rw[hxs.o.1];exact hlt)=old at *;clear a o hxk;go_wp2_with fail;go_roundw
      case rel =>
       refine⟨k+1,xs.set k (.string zs),by omega,by go_num,⟨by rw[List.length_set];exact hxs.o.1,fun j hj=>?_⟩,vH hO.o _,hBel.o.setCell (p:=⟨w.heap.size+1,k,none⟩) (by show W.heap.size<=w.heap.size+1;omega) _⟩;rw[List.getElem?_set];split
       . rename_i e;rw[if_pos (by rw[hxs.o.1];omega)]
       . exact hxs.o.2 j (by omega)
      case measure=>simp[intOf];omega
    . have hlz:¬(k:Int)< (n:Int):=by omega
      have hxe:xs=flat aF (List.replicate n (List.replicate s 0)):=by
       apply List.ext_getElem?
       intro j;by_cases hj:j<n
       . rw[hxs.o.2 j (by omega)]
         have:=iJ (enc:=aF) dJ (List.replicate n (List.replicate s 0)) j 0 _ (by rw[List.getElem?_replicate,if_pos hj]) (by omega);rw[Nat.mul_one,Nat.add_zero]at this;rw[this,<-r.o];rfl
       . rw[List.getElem?_eq_none (by rw[hxs.o.1];omega),List.getElem?_eq_none (by rw[ig dJ,List.length_replicate];omega)]
      have HZ3:=ai ((HZ.o.below hBel.o (by omega)));obtain⟨z0,z1,z2,z3⟩:=HZ3.o.dk4;obtain⟨f0,f1,f2,f3⟩:=fr4 HZ3.o;rw[hxe]at hO;have HM:Hid (DkM wr wr.heap.size (aX n s) ⟨some ⟨w.heap.size+1,0,none⟩,n,none,0⟩):=⟨by have:=Sl.of_own hO.o;show Sl _ _ _ _ (List.replicate n _).length _;rw[List.length_replicate];exact this,Sl.nil _ _ _ _⟩
      clear hxe hxs a o;go_wp2_with fail;refine ZW (gU Tryz.results34 rfl (HZ3.o.set4 _ _ _ _) rfl) rfl ?_;exact⟨⟨some ⟨w.heap.size+1,0,none⟩,n,none,0⟩,by simp[dkV,dkC,aX],(HM.o.box HZ3.o _ _ _ _).more (by simp),eu (HB0.o.trans (hBel.o.mono (by omega))) (by omega) _ _ _ _⟩
theorem QZ{fn:Func}{c:Tmp}(h:fn.results= #[.cell c 25]){w:VA}{a:Array VC}{b:Nat}{x0 x1 x2 x3:VC}(h1:a[c]?.getD undef= .pointer (some ⟨b,0,none⟩))(hk:Bk w b 25 #[x0,x1,x2,x3]) :
  (results fn a).run Tryz.prog w= .ok (.agg #[x0,x1,x2,x3]) w:=Hf h h1 hk
theorem Qd(d:Dk)(s:Dsl)(B:Nat)(qs:List Int)(A:OA)(c B2:Nat)(w:VA)(hd:d.Ok)(hm:DkM w B d s)(hB:B<=w.heap.size)(hp:d.pn.length<=900000)(hs:Sl w B2 1 A qs.length (flat lh qs))(hB2:B2<=w.heap.size)(hq:qs.length<=1000000) :
  Calls Tryz.prog 22 #[dkV d s,.slice A qs.length c] w fun e w'=>∃s',e= .returned (dkV (gJ d qs) s')/\DkM w' w'.heap.size (gJ d qs) s'/\VE w w':=by
 obtain⟨W,hW⟩:=NX9 (((w.alloc (.cells (dkC d s) 25)).alloc (.cells #[.slice A qs.length c] 59)).alloc (.cells #[.int .i64 0,.slice none 0 0,.slice none 0 0,.int .i64 0] 25))
 have HB0:VF w W:=by rw[<-hW];exact(((ah _ w).alloc aj _).alloc (by simp) _).alloc (by simp;omega) _
 have I:W.heap.size=w.heap.size+3:=by rw[<-hW];simp
 have HK:Hid (Bk W w.heap.size 25 (dkC d s)):=by rw[<-hW];exact((Bk.new w _ _).alloc _).alloc _
 have HP:Hid (Bk W (w.heap.size+1) 59 #[.slice A qs.length c]):=by
  rw[<-hW];have:=Bk.new (w.alloc (.cells (dkC d s) 25)) 59 #[.slice A qs.length c];rw[Z9]at this;exact this.alloc _
 have HZ:Hid (Bk W (w.heap.size+1+1) 25 #[.int .i64 0,.slice none 0 0,.slice none 0 0,.int .i64 0]):=by
  rw[<-hW];have:=Bk.new ((w.alloc (.cells (dkC d s) 25)).alloc (.cells #[.slice A qs.length c] 59)) 25 #[.int .i64 0,.slice none 0 0,.slice none 0 0,.int .i64 0];rw[Z9,Z9]at this;exact this
 have HM:Hid (DkM W B d s):=hm.below HB0.o hB;have HS:Hid (Sl W B2 1 A qs.length (flat lh qs)):=hs.below HB0.o hB2;have HC:=ai (rV d s B W hd HM.o (by omega) (by omega));have HST:Hid (∀w1,VE W w1->Calls Tryz.prog 59 #[dkV d s,.func (.func 60) #[] #[.pointer (some ⟨w1.heap.size,0,none⟩),.pointer (some ⟨w.heap.size+1,0,none⟩),.pointer (some ⟨w.heap.size,0,none⟩)]] (w1.alloc (.cells #[.int .i64 0] 3)) fun e w'=>∃s',e= .returned (dkV {d with ss:=dA d.sz d.ss d.pn qs,pn:= []} s')/\DkM w' w'.heap.size {d with ss:=dA d.sz d.ss d.pn qs,pn:= []} s'/\Gb (fun b=>b=w1.heap.size) (w1.alloc (.cells #[.int .i64 0] 3)) w'):=by
  intro w1 h1;have hz1:=h1.size;have hba:VE w1 (w1.alloc (.cells #[.int .i64 0] 3)):=(ah _ w1).alloc aj _;have hci:vk d.sz qs w1.heap.size (w.heap.size+1) w.heap.size A c (.slice s.a1 d.ss.length s.c1) (.slice s.a2 d.pn.length s.c2) (.int .i64 d.lf) 0 (w1.alloc (.cells #[.int .i64 0] 3)) :=
   ⟨by rw[Nat.zero_min];exact Bk.new w1 _ _,(HP.o.below h1 (by omega)).below hba (by omega),(HK.o.below h1 (by omega)).below hba (by omega),((HS.o.below h1 (by omega)).below hba (by omega)).more (by omega)⟩
  have:=BC d s B 60 #[.pointer (some ⟨w1.heap.size,0,none⟩),.pointer (some ⟨w.heap.size+1,0,none⟩),.pointer (some ⟨w.heap.size,0,none⟩)] (fun k o x=>x.take (iF d.sz (qs.getD k 0))++o.drop (iF d.sz (qs.getD k 0))) w1.heap.size (vk d.sz qs w1.heap.size (w.heap.size+1) w.heap.size A c (.slice s.a1 d.ss.length s.c1) (.slice s.a2 d.pn.length s.c2) (.int .i64 d.lf)) _ hd ((HM.o.below h1 (by omega)).below hba (by omega)) (by simp;omega) (by omega) (by omega)
   ⟨.inr ⟨_,_,_,rfl,rfl⟩,by simp,fun k o x W2 hi h1 h2=>Qp d.sz qs w1.heap.size (w.heap.size+1) w.heap.size A c _ _ _ k o x W2 hi hd.sz1 hq h1 h2 (by omega) (by omega),fun k o x h1 h2=>by simp[h1,h2];have:=xx d.sz (qs.getD k 0);omega,fun k W2 W3 hi hz hb=>⟨hi.n.below hb (by simp),hi.p.below hb (by simp;omega),hi.d.below hb (by simp;omega),hi.s.below hb (by simp)⟩⟩ hci
  rw[Du,List.drop_zero]at this;refine this.mono ?_;rintro e w' ⟨s',rfl,h2,h3,_⟩;exact⟨s',rfl,h2,h3⟩
 have HD:=ai hd;have HW:=ai hW;obtain⟨m,hmm⟩:=NX9 qs.length
 obtain⟨td,htd⟩:=NX9 (dA d.sz d.ss d.pn qs)
 have C:Hid (gJ d qs={d with ss:=td,pn:= [],lf:= -1}):=by show _=_;rw[gJ,htd]
 rw[htd]at HST;rw[C.o];clear hd hm hs hW htd;rw[hmm]at HW HP ⊢;clear hmm;obtain⟨ns,hns⟩:=NX9 d.ss.length
 obtain⟨np,r⟩:=NX9 d.pn.length
 simp only[dkV,dkC,hns,r,List.length_nil]at HC HST HW HK ⊢;clear hns r;obtain⟨k0,k1,k2,k3⟩:=HK.o.dk4
 go_enter Tryz.func22,Tryz.ntmps22
 go_wp2_with fail;rw[HW.o];refine HC.o.mono ?_;rintro e w1 ⟨rfl,hb1⟩;have HB1:=ai hb1;have D:=hb1.size;have l:=ai (HST.o w1 hb1);have q:=((HK.o.below hb1 (by omega)).alloc (.cells #[.int .i64 0] 3)).dk4;obtain⟨q0,q1,q2,q3⟩:=q;clear hb1 HC k0 k1 k2 k3 HST;go_wp2_with fail;refine l.o.mono ?_;rintro e w3 ⟨s3,rfl,t,hg3⟩;have u:=ai t;have E:Hid (VE W (w1.alloc (.cells #[.int .i64 0] 3))):=HB1.o.alloc D _;have hz3:=hg3.size;rw[Z9]at hz3;have HB3:VF W w3:=E.o.trans ⟨hg3.os,hg3.tape,hg3.output,by rw[Z9];exact hz3,fun i hi=>hg3.block i (by rw[Z9];omega) (by omega)⟩;have g:=ai (HK.o.below HB3.o (by omega));have HZ3:=ai (HZ.o.below HB3.o (by omega));obtain⟨q0,q1,q2,q3⟩:=g.o.dk4;obtain⟨z0,z1,z2,z3⟩:=HZ3.o.dk4;obtain⟨e0,e1,e2,e3⟩:=fr4 g.o;obtain⟨f0,f1,f2,f3⟩:=fr4 HZ3.o;clear t hg3 l
 go_upto_region 5 with fail
 obtain⟨W4,a⟩:=NX9 (((((w3.setCell ⟨w.heap.size,0,none⟩ (.int .i64 d.sz)).setCell ⟨w.heap.size,1,none⟩ (.slice s3.a1 td.length s3.c1)).setCell ⟨w.heap.size,2,none⟩ (.slice s3.a2 0 s3.c2)).setCell ⟨w.heap.size,3,none⟩ (.int .i64 d.lf)))
 have h:Hid (Bk W4 w.heap.size 25 #[.int .i64 d.sz,.slice s3.a1 td.length s3.c1,.slice s3.a2 0 s3.c2,.int .i64 d.lf]):=by rw[<-a];exact g.o.set4 _ _ _ _
 have hne:w.heap.size+1+1≠w.heap.size:=by omega
 have v:Hid (Bk W4 (w.heap.size+1+1) 25 #[.int .i64 0,.slice none 0 0,.slice none 0 0,.int .i64 0]):=by rw[<-a];exact(vX _ _ _ _ _ _ _ hne).trans HZ3.o
 have y:Hid (DkM W4 W4.heap.size {d with ss:=td,pn:= []} s3):=by rw[<-a];exact(u.o.box g.o _ _ _ _).more (by simp)
 have HB4:VF w W4:=by rw[<-a];exact eu (HB0.o.trans (HB3.o.mono (by omega))) aj _ _ _ _
 rw[a];clear a q0 q1 q2 q3 z0 z1 z2 z3 e0 e1 e2 e3 f0 f1 f2 f3 g HZ3 u;have e3:=h.o.free 3;obtain⟨q0,q1,q2,q3⟩:=h.o.dk4
 go_upto_region 6 with fail
 obtain⟨W5,f⟩:=NX9 (W4.setCell ⟨w.heap.size,3,none⟩ (.int .i64 (-1)))
 have F:Hid (Bk W5 w.heap.size 25 #[.int .i64 d.sz,.slice s3.a1 td.length s3.c1,.slice s3.a2 0 s3.c2,.int .i64 (-1)]):=by rw[<-f];show Bk _ _ _ _;have:=h.o.set 3 (.int .i64 (-1));simpa using this
 have j:Hid (Bk W5 (w.heap.size+1+1) 25 #[.int .i64 0,.slice none 0 0,.slice none 0 0,.int .i64 0]):=by rw[<-f];exact v.o.far (p:=⟨w.heap.size,3,none⟩) hne _
 have G:Hid (DkM W5 W5.heap.size {d with ss:=td,pn:= []} s3):=by rw[<-f];exact(y.o.box1 h.o 3 _).more (by simp)
 have H:VF w W5:=by rw[<-f];exact HB4.o.setCell (p:=⟨w.heap.size,3,none⟩) aj _
 rw[f];clear f q0 q1 q2 q3 e3 h v y HB4;obtain⟨q0,q1,q2,q3⟩:=F.o.dk4;obtain⟨z0,z1,z2,z3⟩:=j.o.dk4;obtain⟨f0,f1,f2,f3⟩:=fr4 j.o;go_wp2_with fail;refine ZW (QZ Tryz.results22 rfl (j.o.set4 _ _ _ _)) rfl ?_;have z:=G.o.box j.o (.int .i64 d.sz) (.slice s3.a1 td.length s3.c1) (.slice s3.a2 0 s3.c2) (.int .i64 (-1));exact⟨s3,rfl,⟨z.ss.more (by simp),z.pn.more (by simp)⟩,eu H.o (by omega) _ _ _ _⟩
def stR(w:VA)(b:Nat)(r:Rp)(s:Rsl):VA :=
 ((((((w.setCell ⟨b,0,none⟩ (.int .i64 r.d.sz)).setCell ⟨b,1,none⟩ (.slice s.d.a1 r.d.ss.length s.d.c1)).setCell ⟨b,2,none⟩ (.slice s.d.a2 r.d.pn.length s.d.c2)).setCell ⟨b,3,none⟩ (.int .i64 r.d.lf)).setCell ⟨b,4,none⟩ (.slice s.pA r.p.length s.pc)).setCell ⟨b,5,none⟩ (.slice s.rA r.rs.length s.rc)).setCell ⟨b,6,none⟩ (.slice s.lA r.lg.length s.lc)
theorem kE(w:VA)(b:Nat)(r:Rp)(s:Rsl) :
 ((((((w.setCell ⟨b,0,none⟩ (.int .i64 r.d.sz)).setCell ⟨b,1,none⟩ (.slice s.d.a1 r.d.ss.length s.d.c1)).setCell ⟨b,2,none⟩ (.slice s.d.a2 r.d.pn.length s.d.c2)).setCell ⟨b,3,none⟩ (.int .i64 r.d.lf)).setCell ⟨b,4,none⟩ (.slice s.pA r.p.length s.pc)).setCell ⟨b,5,none⟩ (.slice s.rA r.rs.length s.rc)).setCell ⟨b,6,none⟩ (.slice s.lA r.lg.length s.lc)=stR w b r s:=rfl
theorem iT(w:VA)(b:Nat)(r:Rp)(s:Rsl): (stR w b r s).heap.size=w.heap.size:=by simp[stR]
theorem RpM.st{w:VA}{B b:Nat}{r r0 q:Rp}{s s0 t:Rsl}(h:RpM w B r s)(hk:Bk w b 35 (rpC q t)):RpM (stR w b r0 s0) B r s :=
 h.box hk (by simp[rpC,bxV]) (fun k hk'=>iM _ _ _ _ _ _ _ _ _ k hk')
structure DoI(w:VA)(r:Rp)(s:Rsl)(a u:Nat)(x:Ac)(r':Rp)(s':Rsl)(y:Int)(W:VA):Prop where
 k:Bk W w.heap.size 35 (rpC r s)
 z:Bk W (w.heap.size+1+1) 35 rzC
 n:Bk W (w.heap.size+1+1+1) 35 (rpC r' s')
 rm:RpM W W.heap.size r s
 rm':RpM W W.heap.size r' s'
 b:VE w W
 sz:w.heap.size+4<=W.heap.size
 p:DoP r a u x (if y=0∨y=20 then r' else r) y
theorem DoI.of{w W w1:VA}{B:Nat}{r r' q:Rp}{s s' t:Rsl}{a u:Nat}{x:Ac}{y:Int}(hK:Bk W w.heap.size 35 (rpC r s))(hZ:Bk W (w.heap.size+1+1) 35 rzC)(hN:Bk W (w.heap.size+1+1+1) 35 (rpC q t))
  (hb0:VE w W) (hz:w.heap.size+4<=W.heap.size) (hm:RpM w B r s) (hB:B<=w.heap.size) (h1:RpM w1 w1.heap.size r' s') (hb:VE W w1) (hp:DoP r a u x (if y=0∨y=20 then r' else r) y) :
  DoI w r s a u x r' s' y (stR w1 (w.heap.size+1+1+1) r' s'):=by
 have hz1:=hb.size;have hN1:=hN.below hb (by omega);have e:=iT w1 (w.heap.size+1+1+1) r' s';exact⟨(iM _ _ _ _ _ _ _ _ _ _ (by omega)).trans (hK.below hb (by omega)),(iM _ _ _ _ _ _ _ _ _ _ (by omega)).trans (hZ.below hb (by omega)),hN1.set7 _ _ _ _ _ _ _,
  ((hm.below (hb0.trans (hb.mono (by omega))) hB).st hN1).more (by rw[e];omega),(h1.st hN1).more (by rw[e];omega),dQ (hb0.trans (hb.mono (by omega))) (by omega) _ _ _ _ _ _ _,by rw[e];omega,hp⟩
theorem TU(hpck:kF)(r:Rp)(s:Rsl)(gs:List Gru)(a u:Nat)(x:AcX)(B:Nat)(w:VA)(hI:RI r)(hL:r.d.lf≠0->Lvs r gs a u)(hm:RpM w B r s)(hx:AcM w B x)(hf:AcF x.1)(hB:B<=w.heap.size) :
  Calls Tryz.prog 26 #[rpV r s,.agg (acA x)] w fun e w'=>∃r' y,fG r' y w e w'/\DoP r a u x.1 r' y:=by
 obtain⟨W,hW⟩:=NX9 ((((w.alloc (.cells (rpC r s) 35)).alloc (.cells (acA x) 65)).alloc (.cells rzC 35)).alloc (.cells (rpC r s) 35))
 have HB0:VF w W:=by rw[<-hW];exact((((ah _ w).alloc aj _).alloc (by simp) _).alloc (by simp;omega) _).alloc (by simp;omega) _
 have HK:Hid (Bk W w.heap.size 35 (rpC r s)):=by rw[<-hW];exact(((Bk.new w _ _).alloc _).alloc _).alloc _
 have HX:Hid (Bk W (w.heap.size+1) 65 (acA x)):=by rw[<-hW];exact(((Bk.new _ _ _).at_ (by simp)).alloc _).alloc _
 have HZ:Hid (Bk W (w.heap.size+1+1) 35 rzC):=by rw[<-hW];exact((Bk.new _ _ _).at_ (by simp)).alloc _
 have HN:Hid (Bk W (w.heap.size+1+1+1) 35 (rpC r s)):=by rw[<-hW];exact(Bk.new _ _ _).at_ (by simp)
 have Q:W.heap.size=w.heap.size+4:=by rw[<-hW];simp
 have D:Hid (RpM W B r s):=hm.below HB0.o hB;have H:Hid (AcM W B x):=hx.below HB0.o hB;have HM:=ai hm;have HI:=ai hI;have HL:=ai hL;have HF:=ai hf;have I:=ai hB;have HW:=ai hW;clear hW hm hx hI hL hf;simp only[acA]at HX HW;obtain⟨⟨k0,k1,k2,k3⟩,k4,k5,k6⟩:=HK.o.seven;obtain⟨⟨x0,x1,x2,x3⟩,x4,x5,x6⟩:=HX.o.seven;have g:Hid (∀(r':Rp)(s':Rsl)(y:Int)(w1:VA),RpM w1 w1.heap.size r' s'->VE W w1->DoP r a u x.1 (if y=0∨y=20 then r' else r) y->DoI w r s a u x.1 r' s' y (stR w1 (w.heap.size+1+1+1) r' s')):=fun r' s' y w1 h1 h2 h3=>DoI.of HK.o HZ.o HN.o HB0.o (by omega) HM.o I.o h1 h2 h3;obtain⟨kd,hkd⟩:=NX9 x.1.kind
 have o:=ai hkd;simp only[rpV,rpC,acA,hkd]at HK HZ HN HW HX ⊢;clear hkd k0 k1 k2 k3 k4 k5 k6 x0 x1 x2 x3 x4 x5 x6;by_cases hc:0<=kd/\kd<=2
 focus
  by_cases hl:r.d.lf=0
  . have HE:Hid (DoP r a u x.1 r 20):= .inl ⟨by rw[o.o];exact hc,hl,rfl,rfl⟩
    have hlb: (r.d.lf == 0)=true:=by rw[hl];rfl
    obtain⟨hc1,hc2⟩:=hc;clear hl g
    go_enter Tryz.func26,Tryz.ntmps26
    go_wp2_with fail;refine ZW (eP Tryz.results26 rfl (((Bk.new _ _ _).at_ (by simp)).alloc _) rfl) rfl ⟨r,20,⟨s,rfl,?_,?_⟩,HE.o⟩
    . exact(HM.o.below (((((ah _ w).alloc aj _).alloc (by simp) _).alloc (by simp;omega) _).alloc (by simp;omega) _) I.o).more (by simp;omega)
    . exact((((ah _ w).alloc aj _).alloc (by simp) _).alloc (by simp;omega) _).alloc (by simp;omega) _
  have hlb: (r.d.lf == 0)=false:=by rw[beq_eq_false_iff_ne];exact hl
  have N:=ai hl;have l:=ai (HL.o hl);have C:Hid (∀r' y,PlP r a u (jS x.1 r.p r.rs r.lg) r' y->DoP r a u x.1 r' y):=fun r' y h=> .inr (.inl ⟨by rw[o.o];exact hc,N.o,h⟩);have hkk:kd=0∨kd=1∨kd=2:=by omega
  clear hl hc;rcases hkk with rfl | rfl | rfl
  focus
   have HC:=ai (oV hpck r s gs a u x.1.nm x.1.fs x.2.fA x.1.fs.length x.2.fc dW qZ 7 B W HI.o.ok l.o.d.pn l.o.j l.o.m l.o.n D.o (by omega) H.o.f (by have:=HF.o.nm;omega) (by have:=HF.o.fn;omega) (fun f hf=>by have:=HF.o.fs f hf;omega) UG);obtain⟨pp,hpp⟩:=NX9 (eU r.p r.rs r.lg x.1.nm x.1.fs dW qZ 7)
   rw[hpp]at HC;have E:Hid (jS x.1 r.p r.rs r.lg=pp.1):=by show _=_;unfold jS;rw[if_pos o.o,hpp]
   unfold dW qZ at HC;simp only[rpV,rpC]at HC;clear hpp
   go_enter Tryz.func26,Tryz.ntmps26
   go_wp2_with fail;rw[HW.o];refine HC.o.mono ?_;rintro e w1 hce;obtain⟨r',d',y,⟨s',rfl,hm1,hb1⟩,hpl⟩:=hce.o;have HI1:=ai (g.o r' s' y w1 hm1 hb1 (C.o _ _ (by rw[E.o];exact hpl)));have c:=ai (HN.o.below hb1 (by omega));clear hm1 hb1 HC g C hce hpl;simp only[rpV,rpC,az];obtain⟨⟨v0,v1,v2,v3⟩,v4,v5,v6⟩:=c.o.seven;obtain⟨⟨f0,f1,f2,f3⟩,f4,f5,f6⟩:=c.o.free7
   go_upto_region 15 with fail
   rw[kE w1 (w.heap.size+1+1+1) r' s'];obtain⟨wt,hwt⟩:=NX9 (stR w1 (w.heap.size+1+1+1) r' s')
   rw[hwt]at HI1 ⊢;clear hwt v0 v1 v2 v3 v4 v5 v6 f0 f1 f2 f3 f4 f5 f6 c
  rotate_left
  focus
   have HC:=ai (wI hpck r s gs a u x.1.pl x.2.pA x.1.pl.length x.2.pc x.1.us x.2.uA x.1.us.length x.2.uc B W HI.o.ok l.o.d.pn l.o.j l.o.m l.o.n D.o (by omega) H.o.p H.o.u (by have:=HF.o.pn;omega) (fun i hi=>by have:=HF.o.ps i hi;omega) HF.o.pw (by have:=HF.o.un;omega) (fun v hv=>⟨by have:=HF.o.us v hv;omega,HF.o.uw v hv⟩));have E:Hid (jS x.1 r.p r.rs r.lg=dm r.p r.rs r.lg x.1.pl x.1.us):=by show _=_;unfold jS;rw[if_neg (by rw[o.o];decide),if_pos o.o]
   simp only[rpV,rpC]at HC
   go_enter Tryz.func26,Tryz.ntmps26
   go_wp2_with fail;rw[HW.o];refine HC.o.mono ?_;rintro e w1 hce;obtain⟨r',y,⟨s',rfl,hm1,hb1⟩,hpl⟩:=hce.o;have HI1:=ai (g.o r' s' y w1 hm1 hb1 (C.o _ _ (by rw[E.o];exact hpl)));have c:=ai (HN.o.below hb1 (by omega));clear hm1 hb1 HC g C hce hpl;simp only[rpV,rpC];obtain⟨⟨v0,v1,v2,v3⟩,v4,v5,v6⟩:=c.o.seven;obtain⟨⟨f0,f1,f2,f3⟩,f4,f5,f6⟩:=c.o.free7
   go_upto_region 15 with fail
   rw[kE w1 (w.heap.size+1+1+1) r' s'];obtain⟨wt,hwt⟩:=NX9 (stR w1 (w.heap.size+1+1+1) r' s')
   rw[hwt]at HI1 ⊢;clear hwt v0 v1 v2 v3 v4 v5 v6 f0 f1 f2 f3 f4 f5 f6 c
  rotate_left
  focus
   have HC:=ai (BQ r s gs a u B W HI.o.ok l.o.d.pn l.o.j l.o.m l.o.n D.o (by omega));have E:Hid (jS x.1 r.p r.rs r.lg=gZ r.p r.rs r.lg):=by show _=_;unfold jS;rw[if_neg (by rw[o.o];decide),if_neg (by rw[o.o];decide)]
   simp only[rpV,rpC]at HC
   go_enter Tryz.func26,Tryz.ntmps26
   go_wp2_with fail;rw[HW.o];refine HC.o.mono ?_;rintro e w1 hce;obtain⟨r',n',y,⟨s',rfl,hm1,hb1⟩,hpl⟩:=hce.o (u:=u);have HI1:=ai (g.o r' s' y w1 hm1 hb1 (C.o _ _ (by rw[E.o];exact hpl)));have c:=ai (HN.o.below hb1 (by omega));clear hm1 hb1 HC g C hce hpl;simp only[rpV,rpC];obtain⟨⟨v0,v1,v2,v3⟩,v4,v5,v6⟩:=c.o.seven;obtain⟨⟨f0,f1,f2,f3⟩,f4,f5,f6⟩:=c.o.free7
   go_upto_region 15 with fail
   rw[kE w1 (w.heap.size+1+1+1) r' s'];obtain⟨wt,hwt⟩:=NX9 (stR w1 (w.heap.size+1+1+1) r' s')
   rw[hwt]at HI1 ⊢;clear hwt v0 v1 v2 v3 v4 v5 v6 f0 f1 f2 f3 f4 f5 f6 c
  rotate_left
 rotate_left 3
 focus
  by_cases h3:kd=3
  . subst h3
    have HC:=ai (NS r s x.1.left B W D.o (by omega));have F:Hid (DoP r a u x.1 (if(0:Int)=0∨ (0:Int)=20 then jk r x.1.left else r) 0):= .inr (.inr ⟨by rw[o.o];decide,by rw[if_pos (.inl rfl)];exact Sj HI.o⟩);obtain⟨r',hr'⟩:=NX9 (jk r x.1.left)
    rw[hr']at HC F;simp only[rpV,rpC]at HC;clear hr' hc
    go_enter Tryz.func26,Tryz.ntmps26
    go_wp2_with fail;rw[HW.o];refine HC.o.mono ?_;rintro e w1 ⟨rfl,hm1,hb1⟩;have HI1:=ai (g.o r' s 0 w1 hm1 hb1 F.o);have c:=ai (HN.o.below hb1 (by omega));clear hm1 hb1 HC g;obtain⟨⟨v0,v1,v2,v3⟩,v4,v5,v6⟩:=c.o.seven;obtain⟨⟨f0,f1,f2,f3⟩,f4,f5,f6⟩:=c.o.free7
    go_upto_region 15 with fail
    rw[kE w1 (w.heap.size+1+1+1) r' s];obtain⟨wt,hwt⟩:=NX9 (stR w1 (w.heap.size+1+1+1) r' s)
    rw[hwt]at HI1 ⊢;clear hwt v0 v1 v2 v3 v4 v5 v6 f0 f1 f2 f3 f4 f5 f6 c;have P:=HI1.o.sz;have hn1:=HI1.o.n;have hk1:=HI1.o.k;simp only[rpC]at hn1 hk1;obtain⟨⟨v0,v1,v2,v3⟩,v4,v5,v6⟩:=hn1.seven;obtain⟨⟨k0,k1,k2,k3⟩,k4,k5,k6⟩:=hk1.seven;obtain⟨⟨z0,z1,z2,z3⟩,z4,z5,z6⟩:=HI1.o.z.seven;obtain⟨⟨f0,f1,f2,f3⟩,f4,f5,f6⟩:=HI1.o.z.free7;clear hn1 hk1;go_wp2_with fail;exact ZW (eP Tryz.results26 rfl (HI1.o.z.set7 _ _ _ _ _ _ _) rfl) rfl ⟨r',0,⟨s,rfl,(HI1.o.rm'.st (q:=zRp) (t:=zRs) (r0:=r') (s0:=s) HI1.o.z).more (Nat.le_of_eq (iT wt (w.heap.size+1+1) r' s).symm),dQ HI1.o.b (by omega) _ _ _ _ _ _ _⟩,by have:=HI1.o.p;simpa using this⟩
  by_cases h4:kd=4
  . subst h4
    have HC:=ai (Qd r.d s.d B x.1.pk x.2.kA x.2.kc B W HI.o.ok D.o.d (by omega) (by have:=HI.o.pn;omega) H.o.k (by omega) (by have:=HF.o.kn;omega));obtain⟨gc,p',rs',J,hdc,hmc,hrc,_⟩:=HI.o.cut x.1.pk;obtain⟨ac,uc,hjc⟩:=hdc.jn;have A:=ai (fun(w1:VA)(s1:Dsl)(h1:DkM w1 w1.heap.size (gJ r.d x.1.pk) s1)=>Po ⟨gJ r.d x.1.pk,p',rs',J⟩ gc ac uc s1 w1.heap.size w1 hdc.ok hdc.pn hjc hmc h1 aj hrc.n);have F:Hid (DoP r a u x.1 (if(0:Int)=0∨ (0:Int)=20 then⟨gJ r.d x.1.pk,p',rs',J⟩ else r) 0):= .inr (.inr ⟨by rw[o.o];decide,by rw[if_pos (.inl rfl)];exact hrc⟩);unfold fG at A;obtain⟨r',hr'⟩:=NX9 ((⟨gJ r.d x.1.pk,p',rs',J⟩:Rp))
    rw[hr']at A F;have hrd:r'.d=gJ r.d x.1.pk:=by rw[<-hr']
    rw[hrd]at A;obtain⟨d',hd'⟩:=NX9 (gJ r.d x.1.pk)
    rw[hd']at HC A;simp only[dkV,dkC,rpV,rpC]at HC A;clear hr' hd' hrd hc hdc hmc hrc hjc
    go_enter Tryz.func26,Tryz.ntmps26
    go_wp2_with fail;rw[HW.o];refine HC.o.mono ?_;rintro e O ⟨s1,rfl,K,hba⟩;have L:=ai hba;have HC:=ai (A.o O s1 K);clear A K hba;go_wp2_with fail;refine HC.o.mono ?_;rintro e w1 ⟨s',rfl,hm1,hb1'⟩;have hb1:VE W w1:=L.o.trans (hb1'.mono L.o.size);clear hb1';have HI1:=ai (g.o r' s' 0 w1 hm1 hb1 F.o);have c:=ai (HN.o.below hb1 (by omega));clear hm1 hb1 HC g;obtain⟨⟨v0,v1,v2,v3⟩,v4,v5,v6⟩:=c.o.seven;obtain⟨⟨f0,f1,f2,f3⟩,f4,f5,f6⟩:=c.o.free7
    go_upto_region 15 with fail
    rw[kE w1 (w.heap.size+1+1+1) r' s'];obtain⟨wt,hwt⟩:=NX9 (stR w1 (w.heap.size+1+1+1) r' s')
    rw[hwt]at HI1 ⊢;clear hwt v0 v1 v2 v3 v4 v5 v6 f0 f1 f2 f3 f4 f5 f6 c;have P:=HI1.o.sz;have hn1:=HI1.o.n;have hk1:=HI1.o.k;simp only[rpC]at hn1 hk1;obtain⟨⟨v0,v1,v2,v3⟩,v4,v5,v6⟩:=hn1.seven;obtain⟨⟨k0,k1,k2,k3⟩,k4,k5,k6⟩:=hk1.seven;obtain⟨⟨z0,z1,z2,z3⟩,z4,z5,z6⟩:=HI1.o.z.seven;obtain⟨⟨f0,f1,f2,f3⟩,f4,f5,f6⟩:=HI1.o.z.free7;clear hn1 hk1;go_wp2_with fail;exact ZW (eP Tryz.results26 rfl (HI1.o.z.set7 _ _ _ _ _ _ _) rfl) rfl ⟨r',0,⟨s',rfl,(HI1.o.rm'.st (q:=zRp) (t:=zRs) (r0:=r') (s0:=s') HI1.o.z).more (Nat.le_of_eq (iT wt (w.heap.size+1+1) r' s').symm),dQ HI1.o.b (by omega) _ _ _ _ _ _ _⟩,by have:=HI1.o.p;simpa using this⟩
  have hk0: (kd == 0)=false:=by rw[beq_eq_false_iff_ne];omega
  have hk1: (kd == 1)=false:=by rw[beq_eq_false_iff_ne];omega
  have hk2: (kd == 2)=false:=by rw[beq_eq_false_iff_ne];omega
  have hk3: (kd == 3)=false:=by rw[beq_eq_false_iff_ne];omega
  have hk4: (kd == 4)=false:=by rw[beq_eq_false_iff_ne];omega
  have HE:Hid (DoP r a u x.1 r 0):= .inr (.inr ⟨by rw[o.o];exact hc,HI.o⟩);have M:Hid (∀o1 o2 o3 o4,RpM ((((w.alloc o1).alloc o2).alloc o3).alloc o4) ((((w.alloc o1).alloc o2).alloc o3).alloc o4).heap.size r s/\VE w ((((w.alloc o1).alloc o2).alloc o3).alloc o4)):=fun o1 o2 o3 o4=>by
   have hb:VE w ((((w.alloc o1).alloc o2).alloc o3).alloc o4):=((((ah _ w).alloc aj _).alloc (by simp) _).alloc (by simp;omega) _).alloc (by simp;omega) _;exact⟨(HM.o.below hb I.o).more (ZY I.o hb.size),hb⟩
  clear g h3 h4;by_cases hc1:0<=kd
  . have hc2:¬kd<=2:=fun h=>hc ⟨hc1,h⟩
    clear hc
    go_enter Tryz.func26,Tryz.ntmps26
    go_wp2_with fail;exact ZW (eP Tryz.results26 rfl (((Bk.new _ _ _).at_ (by simp)).alloc _) rfl) rfl ⟨r,0,⟨s,rfl,M.o _ _ _ _⟩,HE.o⟩
  . clear hc
    go_enter Tryz.func26,Tryz.ntmps26
    go_wp2_with fail;exact ZW (eP Tryz.results26 rfl (((Bk.new _ _ _).at_ (by simp)).alloc _) rfl) rfl ⟨r,0,⟨s,rfl,M.o _ _ _ _⟩,HE.o⟩
 all_goals
  have P:=HI1.o.sz;have hn1:=HI1.o.n;have hk1:=HI1.o.k;simp only[rpC]at hn1 hk1;obtain⟨⟨v0,v1,v2,v3⟩,v4,v5,v6⟩:=hn1.seven;obtain⟨⟨k0,k1,k2,k3⟩,k4,k5,k6⟩:=hk1.seven;obtain⟨⟨z0,z1,z2,z3⟩,z4,z5,z6⟩:=HI1.o.z.seven;obtain⟨⟨f0,f1,f2,f3⟩,f4,f5,f6⟩:=HI1.o.z.free7;clear hn1 hk1;by_cases hy0:y=0
  . have G:Hid (DoP r a u x.1 r' 0):=ai (by have:=HI1.o.p;rw[hy0]at this;simpa using this)
    subst hy0;go_wp2_with fail;exact ZW (eP Tryz.results26 rfl (HI1.o.z.set7 _ _ _ _ _ _ _) rfl) rfl ⟨r',0,⟨s',rfl,(HI1.o.rm'.st (q:=zRp) (t:=zRs) (r0:=r') (s0:=s') HI1.o.z).more (Nat.le_of_eq (iT wt (w.heap.size+1+1) r' s').symm),dQ HI1.o.b (by omega) _ _ _ _ _ _ _⟩,G.o⟩
  by_cases hy2:y=20
  . have G:Hid (DoP r a u x.1 r' 20):=ai (by have:=HI1.o.p;rw[hy2]at this;simpa using this)
    subst hy2;go_wp2_with fail;exact ZW (eP Tryz.results26 rfl (HI1.o.z.set7 _ _ _ _ _ _ _) rfl) rfl ⟨r',20,⟨s',rfl,(HI1.o.rm'.st (q:=zRp) (t:=zRs) (r0:=r') (s0:=s') HI1.o.z).more (Nat.le_of_eq (iT wt (w.heap.size+1+1) r' s').symm),dQ HI1.o.b (by omega) _ _ _ _ _ _ _⟩,G.o⟩
  have G:Hid (DoP r a u x.1 r y):=by have:=HI1.o.p;rw[if_neg (fun h=>h.elim hy0 hy2)]at this;exact this
  have hz1: (y != 0)=true:=by rw[bne_iff_ne];exact hy0
  have hz2: (y != 20)=true:=by rw[bne_iff_ne];exact hy2
  clear hy0 hy2;go_wp2_with fail;exact ZW (eP Tryz.results26 rfl (HI1.o.z.set7 _ _ _ _ _ _ _) rfl) rfl ⟨r,y,⟨s,rfl,(HI1.o.rm.st (q:=zRp) (t:=zRs) (r0:=r) (s0:=s) HI1.o.z).more (Nat.le_of_eq (iT wt (w.heap.size+1+1) r s).symm),dQ HI1.o.b (by omega) _ _ _ _ _ _ _⟩,G.o⟩
theorem Si{d:Dk}(hd:d.Ok)(hn:3<=d.ss.length):∀o∈bW d.sz d.ss,kH d o:=by
 have h1:=iO (ss:=d.ss) (a:=1) (.inl rfl) hn;have h2:=iO (ss:=d.ss) (a:=2) (.inr rfl) hn;have hp: (bK d.sz []).length=d.sz:=iQ (by simp);have hm: (dF d.sz 1).length=d.sz:=iQ (by have:=hd.sz0;simp;omega);intro o ho w hw;simp only[bW,List.mem_cons,List.not_mem_nil,or_false]at ho;rcases ho with rfl | rfl | rfl | rfl | rfl <;> first | (cases hw;done) | (cases hw;exact⟨by simp only;omega,by assumption⟩)
theorem LQ(d:Dk)(s:Dsl)(B:Nat)(w:VA)(hd:d.Ok)(hn:3<=d.ss.length)(hpl:d.pn.length<=1000)(hm:DkM w B d s)(hB:B<=w.heap.size) :
  Calls Tryz.prog 44 #[dkV d s] w (bG (aJ d (bW d.sz d.ss)).1 (aJ d (bW d.sz d.ss)).2 w):=by
 obtain⟨W,hW⟩:=NX9 ((w.alloc (.cells (dkC d s) 25)).alloc (.cells #[.int .i64 0,.slice none 0 0,.slice none 0 0,.int .i64 0] 25))
 have HB0:VF w W:=by rw[<-hW];exact((ah _ w).alloc aj _).alloc (by simp) _
 have HK:Hid (Bk W w.heap.size 25 (dkC d s)):=by rw[<-hW];exact(Bk.new w _ _).alloc _
 have HZ:Hid (Bk W (w.heap.size+1) 25 #[.int .i64 0,.slice none 0 0,.slice none 0 0,.int .i64 0]):=by
  rw[<-hW];have:=Bk.new (w.alloc (.cells (dkC d s) 25)) 25 #[.int .i64 0,.slice none 0 0,.slice none 0 0,.int .i64 0]
  rwa[Z9]at this
 have U:W.heap.size=w.heap.size+2:=by rw[<-hW];simp
 have HM:Hid (DkM W B d s):=hm.below HB0.o hB;have HC:=ai (Ce d s B W hd hn HM.o (by omega) (by omega));have r:=ai (fun w'=>oW [] d.sz w' (ZX _) hd.sz1);have z:=ai (fun w'=>oW [1] d.sz w' hd.sz0 hd.sz1);have t:=ai (fun w'=>oZ d s 1 w' (by omega) hd.n1 (.inl rfl));have HF2:=ai (fun w'=>oZ d s 2 w' (by omega) hd.n1 (.inr rfl));have A:=ai (Si hd hn);obtain⟨f1,hf1⟩:=NX9 (aG d.ss 1)
 obtain⟨f2,hf2⟩:=NX9 (aG d.ss 2)
 obtain⟨zs,hzs⟩:=NX9 (ofL (bK d.sz []))
 obtain⟨mk,hmk⟩:=NX9 (ofL (dF d.sz 1))
 have HW1:=ai (fun w'=>mP f1 (bK d.sz []) w');have HW2:=ai (fun w'=>mP f2 (bK d.sz []) w');have HW3:=ai (fun w'=>mP 0 (dF d.sz 1) w');have C:Hid ([some (f1,bK d.sz []),some (f2,bK d.sz []),none,some (0,dF d.sz 1),none]=bW d.sz d.ss):=by show _=_;unfold bW;rw[hf1,hf2]
 rw[hf1]at t;rw[hf2]at HF2;rw[hzs]at r HW1 HW2;rw[show ofL (bK d.sz [1])=mk from hmk]at z;rw[hmk]at HW3;obtain⟨d12,m⟩:=NX9 ((aJ d (bW d.sz d.ss)).1)
 obtain⟨x12,n⟩:=NX9 ((aJ d (bW d.sz d.ss)).2)
 have f:=ai (fun w' A' c' vs' (ho:OpsM w' w'.heap.size A' 5 vs' (bW d.sz d.ss)) (hm:DkM w' w'.heap.size d s)=>yH d s w'.heap.size A' 5 c' vs' (bW d.sz d.ss) w' hd hm aj ho A.o (by rw[ho.len];omega));unfold bG at f;rw[m,n]at f ⊢;have HW:=ai hW;clear hW hm hd hf1 hf2 hzs hmk m n;obtain⟨ns,hns⟩:=NX9 d.ss.length
 obtain⟨np,D⟩:=NX9 d.pn.length
 simp only[dkV,dkC,hns,D]at HC t HF2 HK HW f ⊢;clear hns D;obtain⟨k0,k1,k2,k3⟩:=HK.o.dk4
 go_enter Tryz.func44,Tryz.ntmps44
 go_wp2_with fail;rw[HW.o];refine HC.o.mono ?_;rintro e w1 ⟨rfl,hb1⟩;have HB1:=ai hb1;have J:=hb1.size;obtain⟨k0,k1,k2,k3⟩:=(HK.o.below hb1 (by omega)).dk4;clear hb1 HC;go_wp2_with fail;rw[show(⟨#[]⟩:VB)=ofL [] from rfl];refine(r.o _).mono ?_;rintro e w2 ⟨rfl,hb2⟩;have HB2:VF W w2:=HB1.o.trans (hb2.mono J);have O:=HB2.o.size;have u:=ai (HK.o.below HB2.o (by omega));have HZ2:=ai (HZ.o.below HB2.o (by omega));obtain⟨q0,q1,q2,q3⟩:=u.o.dk4;have K:Hid (DkM w2 W.heap.size d s):=(HM.o.more (by omega)).below HB2.o aj;have b:Hid (∀w',VE w2 w'->Bk w' w.heap.size 25 #[.int .i64 d.sz,.slice s.a1 ns s.c1,.slice s.a2 np s.c2,.int .i64 d.lf]):=fun w' hb=>u.o.below hb u.o.lt;clear hb2 r k0 k1 k2 k3;go_wp2_with fail
 go_region_held3 (fun w'=>w'.cell? ⟨w.heap.size,0,none⟩=some (.int .i64 d.sz)/\w'.cell? ⟨w.heap.size,1,none⟩=some (.slice s.a1 ns s.c1)/\w'.cell? ⟨w.heap.size,2,none⟩=some (.slice s.a2 np s.c2)/\w'.cell? ⟨w.heap.size,3,none⟩=some (.int .i64 d.lf))
  (first | exact P.o | exact Q.o | exact T8.o | exact S8.o | exact S7.o | exact S6.o | exact S5.o | exact S4.o | exact S3.o | exact⟨q0,q1,q2,q3⟩)
  (first
    | (have c:=a;go_at_call 97;refine(f.o _ _ 5 _ L.o (K.o.below (a.o.trans (E.o.mono a.o.size)) (by omega) |>.more (by have:=a.o.size;simp;omega))).mono ?_
       rintro e w9 ⟨s12,rfl,q,hb⟩;have F:=ai q;have g:VF w2 w9:=(a.o.trans (E.o.mono a.o.size)).trans (hb.mono (by have:=a.o.size;simp;omega));have Q:=ai (b.o _ g.o).dk4;have h:=ai (HZ2.o.below g.o (by omega));have hne1:w.heap.size≠w.heap.size+1:=by omega
       have P:=ai (((((b.o _ g.o).far (p:=⟨w.heap.size+1,0,none⟩) hne1 (.int .i64 d12.sz)).far (p:=⟨w.heap.size+1,1,none⟩) hne1 (.slice s12.a1 d12.ss.length s12.c1)).far (p:=⟨w.heap.size+1,2,none⟩) hne1 (.slice s12.a2 d12.pn.length s12.c2)).far (p:=⟨w.heap.size+1,3,none⟩) hne1 (.int .i64 d12.lf)).dk4;obtain⟨e0,e1,e2,e3⟩:=h.o.dk4;obtain⟨g0,g1,g2,g3⟩:=fr4 h.o;clear hb q)
    | (have c:=j;go_at_call 98;refine(HW3.o _).mono ?_;rintro e w8 ⟨v8,rfl,hv,hb⟩;obtain⟨p8,r8,rfl⟩:=hv.fn
       have a:VF w2 w8:=j.o.trans (hb.mono j.o.size);have R:VF w7 w8:=hb;have S:=ai hv;have S8:=ai (b.o _ a.o).dk4;have v:VF w6 w8:=G.o.trans (hb.mono G.o.size);have H:VF w4 w8:=(y.o.trans (I.o.mono y.o.size)).trans (v.o.mono (ZY y.o.size I.o.size));have hbl:VE w8 (w8.alloc (.cells #[.func (.func 169) #[] #[p4,r4],.func (.func 169) #[] #[p6,r6],.func (.func 100) #[] #[],.func (.func 169) #[] #[p8,r8],.func (.func 100) #[] #[]] 166)):=(ah _ w8).alloc aj _;have E:=ai hbl;have T8:=ai (b.o _ (a.o.trans (hbl.mono a.o.size))).dk4;have L:Hid (OpsM (w8.alloc (.cells #[.func (.func 169) #[] #[p4,r4],.func (.func 169) #[] #[p6,r6],.func (.func 100) #[] #[],.func (.func 169) #[] #[p8,r8],.func (.func 100) #[] #[]] 166)) (w8.alloc (.cells #[.func (.func 169) #[] #[p4,r4],.func (.func 169) #[] #[p6,r6],.func (.func 100) #[] #[],.func (.func 169) #[] #[p8,r8],.func (.func 100) #[] #[]] 166)).heap.size (some ⟨w8.heap.size,0,none⟩) 5 [.func (.func 169) #[] #[p4,r4],.func (.func 169) #[] #[p6,r6],.func (.func 100) #[] #[],.func (.func 169) #[] #[p8,r8],.func (.func 100) #[] #[]] (bW d.sz d.ss)):=by
        show OpsM _ _ _ _ _ _;rw[<-C.o];refine⟨(Sl.new w8 _ _ 5 rfl).more (by simp),rfl,fun i x o hx ho=>?_⟩
        match i,hx,ho with
        | 0,hx,ho=>cases hx;cases ho;exact(((M.o.below H.o aj).more H.o.size).below hbl aj).more (by simp)
        | 1,hx,ho=>cases hx;cases ho;exact(((N.o.below v.o aj).more v.o.size).below hbl aj).more (by simp)
        | 2,hx,ho=>cases hx;cases ho;rfl
        | 3,hx,ho=>cases hx;cases ho;exact(hv.below hbl aj).more (by simp)
        | 4,hx,ho=>cases hx;cases ho;rfl
       clear hbl;clear hb hv)
    | (have c:=k;go_at_call 96;refine(z.o _).mono ?_;rintro e w7 ⟨rfl,hb⟩
       have j:VF w2 w7:=k.o.trans (hb.mono k.o.size);have S7:=ai (b.o _ j.o).dk4;have G:VF w6 w7:=hb;clear hb)
    | (have c:=l;go_at_call 98;refine(HW2.o _).mono ?_;rintro e w6 ⟨v6,rfl,hv,hb⟩;obtain⟨p6,r6,rfl⟩:=hv.fn
       have k:VF w2 w6:=l.o.trans (hb.mono l.o.size);have I:VF w5 w6:=hb;have N:=ai hv;have S6:=ai (b.o _ k.o).dk4;clear hb hv)
    | (have c:=HB4;go_at_call 99;refine(HF2.o _).mono ?_;rintro e w5 ⟨rfl,hb⟩
       have l:VF w2 w5:=HB4.o.trans (hb.mono HB4.o.size);have S5:=ai (b.o _ l.o).dk4;have y:VF w4 w5:=hb;clear hb)
    | (have c:=HB3;go_at_call 98;refine(HW1.o _).mono ?_;rintro e w4 ⟨v4,rfl,hv,hb⟩;obtain⟨p4,r4,rfl⟩:=hv.fn
       have HB4:VF w2 w4:=HB3.o.trans (hb.mono HB3.o.size);have T:VF w3 w4:=hb;have M:=ai hv;have S4:=ai (b.o _ HB4.o).dk4;clear hb hv)
    | (go_at_call 99;refine(t.o _).mono ?_;rintro e w3 ⟨rfl,hb⟩
       have HB3:VF w2 w3:=((ah _ w2).drew).trans hb;have S3:=ai (b.o _ HB3.o).dk4;clear hb))
 go_wp2_with fail;refine ZW (gU Tryz.results44 rfl (h.o.set4 _ _ _ _) rfl) rfl ?_;exact⟨s12,rfl,(F.o.box h.o _ _ _ _).more (by simp),eu (HB0.o.trans ((HB2.o.trans (g.o.mono (by omega))).mono (by omega))) (by omega) _ _ _ _⟩
theorem La(d:Dk)(s:Dsl)(B:Nat)(w:VA)(hd:d.Ok)(hn:d.ss.length<3)(hpl:d.pn.length<=1000)(hm:DkM w B d s)(hB:B<=w.heap.size) :
  Calls Tryz.prog 44 #[dkV d s] w (bG zDk 2 w):=by
 obtain⟨W,hW⟩:=NX9 ((w.alloc (.cells (dkC d s) 25)).alloc (.cells #[.int .i64 0,.slice none 0 0,.slice none 0 0,.int .i64 0] 25))
 have HB0:VF w W:=by rw[<-hW];exact((ah _ w).alloc aj _).alloc (by simp) _
 have HK:Hid (Bk W w.heap.size 25 (dkC d s)):=by rw[<-hW];exact(Bk.new w _ _).alloc _
 have HZ:Hid (Bk W (w.heap.size+1) 25 #[.int .i64 0,.slice none 0 0,.slice none 0 0,.int .i64 0]):=by
  rw[<-hW];have:=Bk.new (w.alloc (.cells (dkC d s) 25)) 25 #[.int .i64 0,.slice none 0 0,.slice none 0 0,.int .i64 0]
  rwa[Z9]at this
 have b:W.heap.size=w.heap.size+2:=by rw[<-hW];simp
 have HM:Hid (DkM W B d s):=hm.below HB0.o hB;have HC:=ai (BR d s B W hd HM.o (by omega) (by omega));rw[if_pos hn]at HC;have HW:=ai hW;clear hW hm hd hn;obtain⟨ns,hns⟩:=NX9 d.ss.length
 obtain⟨np,a⟩:=NX9 d.pn.length
 unfold bG zDk;simp only[dkV,dkC,hns,a,List.length_nil]at HC HK HW ⊢;clear hns a hpl;obtain⟨k0,k1,k2,k3⟩:=HK.o.dk4
 go_enter Tryz.func44,Tryz.ntmps44
 go_wp2_with fail;rw[HW.o];refine HC.o.mono ?_;rintro e w1 ⟨rfl,hb1⟩;have HB1:VF w w1:=HB0.o.trans (hb1.mono (by omega));have HZ1:=ai (HZ.o.below hb1 (by omega));clear hb1 HC k0 k1 k2 k3;obtain⟨f0,f1,f2,f3⟩:=fr4 HZ1.o;obtain⟨z0,z1,z2,z3⟩:=HZ1.o.dk4;go_wp2_with fail;refine ZW (gU Tryz.results44 rfl (HZ1.o.set4 _ _ _ _) rfl) rfl ⟨⟨none,0,none,0⟩,rfl,⟨Sl.nil _ _ _ _,Sl.nil _ _ _ _⟩,eu HB1.o (by omega) _ _ _ _⟩
theorem NY(d:Dk)(s:Dsl)(B:Nat)(w:VA)(hd:d.Ok)(hn:d.ss.length<3)(hpl:d.pn.length<=1000)(hm:DkM w B d s)(hB:B<=w.heap.size) :
  Calls Tryz.prog 13 #[dkV d s] w (fG zRp 2 w):=by
 obtain⟨W,hW⟩:=NX9 ((w.alloc (.cells (dkC d s) 25)).alloc (.cells rzC 35))
 have HB0:VF w W:=by rw[<-hW];exact((ah _ w).alloc aj _).alloc (by simp) _
 have HK:Hid (Bk W w.heap.size 25 (dkC d s)):=by rw[<-hW];exact(Bk.new w _ _).alloc _
 have HZ:Hid (Bk W (w.heap.size+1) 35 rzC):=by rw[<-hW];exact(Bk.new _ _ _).at_ (by simp)
 have b:W.heap.size=w.heap.size+2:=by rw[<-hW];simp
 have HF:=ai (La d s B W hd hn hpl (hm.below HB0.o hB) (by omega));unfold bG zDk at HF;obtain⟨n1,h1⟩:=NX9 d.ss.length
 obtain⟨n2,h2⟩:=NX9 d.pn.length
 simp only[dkV,dkC,h1,h2,List.length_nil]at HF HK HZ hW ⊢;have HW:=ai hW;clear h1 h2 hW hd hm hpl;obtain⟨k0,k1,k2,k3⟩:=HK.o.dk4
 go_enter Tryz.func13,Tryz.ntmps13
 go_wp2_with fail;rw[HW.o];refine HF.o.mono ?_;rintro e w1 ⟨s',rfl,hm1,hb1⟩;have a:=ai (HK.o.below hb1 (by omega));have HZ1:=ai (HZ.o.below hb1 (by omega));have HB1:VF w w1:=HB0.o.trans (hb1.mono (by omega));clear hb1 hm1 k0 k1 k2 k3 HF;obtain⟨k0,k1,k2,k3⟩:=a.o.dk4;obtain⟨f0,f1,f2,f3⟩:=fr4 a.o
 go_upto_region 2 with fail
 obtain⟨W2,hW2⟩:=NX9 (((((w1.setCell ⟨w.heap.size,0,none⟩ (.int .i64 0)).setCell ⟨w.heap.size,1,none⟩ (.slice s'.a1 0 s'.c1)).setCell ⟨w.heap.size,2,none⟩ (.slice s'.a2 0 s'.c2)).setCell ⟨w.heap.size,3,none⟩ (.int .i64 0)))
 have HZ2:Hid (Bk W2 (w.heap.size+1) 35 rzC):=by rw[<-hW2];exact(vX _ _ _ _ _ _ _ (by omega)).trans HZ1.o
 have HB2:VF w W2:=by rw[<-hW2];exact eu HB1.o aj _ _ _ _
 first | rw[hW2] | (simp only[Int.natCast_zero]at hW2 ⊢;rw[hW2])
 clear hW2 k0 k1 k2 k3 f0 f1 f2 f3 a HZ1 HB1;obtain⟨⟨f0,f1,f2,f3⟩,f4,f5,f6⟩:=HZ2.o.free7;obtain⟨⟨z0,z1,z2,z3⟩,z4,z5,z6⟩:=HZ2.o.seven;go_wp2_with fail;refine ZW (eP Tryz.results13 rfl (HZ2.o.set7 _ _ _ _ _ _ _) rfl) rfl ⟨zRs,rfl,RpM.zero _ _,dQ HB2.o (by omega) _ _ _ _ _ _ _⟩
theorem Et(d:Dk)(s:Dsl)(B:Nat)(w:VA)(hd:d.Ok)(hn:3<=d.ss.length)(hpl:d.pn.length<=1000)(hm:DkM w B d s)(hB:B<=w.heap.size) :
  Calls Tryz.prog 13 #[dkV d s] w (fG ⟨(aJ d (bW d.sz d.ss)).1,[],[],[]⟩ (aJ d (bW d.sz d.ss)).2 w):=by
 have HC2:Hid ((aJ d (bW d.sz d.ss)).2=0∨ (aJ d (bW d.sz d.ss)).2=20):=by
  obtain⟨_,_,_,_,h⟩:=pg (bW d.sz d.ss) d;exact h.imp (·.2) (·.1)
 obtain⟨W,hW⟩:=NX9 ((w.alloc (.cells (dkC d s) 25)).alloc (.cells rzC 35))
 have HB0:VF w W:=by rw[<-hW];exact((ah _ w).alloc aj _).alloc (by simp) _
 have HK:Hid (Bk W w.heap.size 25 (dkC d s)):=by rw[<-hW];exact(Bk.new w _ _).alloc _
 have HZ:Hid (Bk W (w.heap.size+1) 35 rzC):=by rw[<-hW];exact(Bk.new _ _ _).at_ (by simp)
 have i:W.heap.size=w.heap.size+2:=by rw[<-hW];simp
 have HF:=ai (LQ d s B W hd hn hpl (hm.below HB0.o hB) (by omega));obtain⟨⟨x,e0⟩,hx⟩:∃x,aJ d (bW d.sz d.ss)=x:=⟨_,rfl⟩
 rw[hx]at HC2 HF ⊢;simp only at HC2 HF ⊢;unfold bG at HF;obtain⟨n1,h1⟩:=NX9 d.ss.length
 obtain⟨n2,h2⟩:=NX9 d.pn.length
 obtain⟨m1,g1⟩:=NX9 x.ss.length
 obtain⟨m2,g2⟩:=NX9 x.pn.length
 have c:=ai g1;have HG2:=ai g2;simp only[dkV,dkC,h1,h2,g1,g2]at HF HK HZ hW ⊢;have HW:=ai hW;clear h1 h2 g1 g2 hx hW hd hm hpl;obtain⟨k0,k1,k2,k3⟩:=HK.o.dk4
 go_enter Tryz.func13,Tryz.ntmps13
 go_wp2_with fail;rw[HW.o];refine HF.o.mono ?_;rintro e w1 ⟨s',rfl,hm1,hb1⟩;have b:=ai hm1;have a:=ai (HK.o.below hb1 (by omega));have HZ1:=ai (HZ.o.below hb1 (by omega));have HB1:VF w w1:=HB0.o.trans (hb1.mono (by omega));clear hb1 hm1 k0 k1 k2 k3 HF;obtain⟨k0,k1,k2,k3⟩:=a.o.dk4;obtain⟨f0,f1,f2,f3⟩:=fr4 a.o
 go_upto_region 2 with fail
 obtain⟨W2,hW2⟩:=NX9 (((((w1.setCell ⟨w.heap.size,0,none⟩ (.int .i64 x.sz)).setCell ⟨w.heap.size,1,none⟩ (.slice s'.a1 m1 s'.c1)).setCell ⟨w.heap.size,2,none⟩ (.slice s'.a2 m2 s'.c2)).setCell ⟨w.heap.size,3,none⟩ (.int .i64 x.lf)))
 have f:Hid (DkM W2 W2.heap.size x s'):=by rw[<-hW2];exact(b.o.box a.o _ _ _ _).more (by simp)
 have g:Hid (Bk W2 w.heap.size 25 #[.int .i64 x.sz,.slice s'.a1 m1 s'.c1,.slice s'.a2 m2 s'.c2,.int .i64 x.lf]):=by rw[<-hW2];exact a.o.set4 _ _ _ _
 have HZ2:Hid (Bk W2 (w.heap.size+1) 35 rzC):=by rw[<-hW2];exact(vX _ _ _ _ _ _ _ (by omega)).trans HZ1.o
 have HB2:VF w W2:=by rw[<-hW2];exact eu HB1.o aj _ _ _ _
 rw[hW2];clear hW2 k0 k1 k2 k3 f0 f1 f2 f3 a HZ1 HB1 b;obtain⟨k0,k1,k2,k3⟩:=g.o.dk4;obtain⟨⟨f0,f1,f2,f3⟩,f4,f5,f6⟩:=HZ2.o.free7;obtain⟨⟨z0,z1,z2,z3⟩,z4,z5,z6⟩:=HZ2.o.seven;have HE:Hid (∀w',Bk w' (w.heap.size+1) 35 #[.int .i64 x.sz,.slice s'.a1 m1 s'.c1,.slice s'.a2 m2 s'.c2,.int .i64 x.lf,.slice none 0 0,.slice none 0 0,.slice none 0 0]-> (∀k,k≠w.heap.size+1->w'.heap[k]? =W2.heap[k]?)->w'.heap.size=W2.heap.size->RpM w' w'.heap.size ⟨x,[],[],[]⟩ ⟨s',none,0,none,0,none,0⟩):=fun w' h1 h2 h3=>by
  have hr:RpM W2 W2.heap.size ⟨x,[],[],[]⟩ ⟨s',none,0,none,0,none,0⟩:=⟨f.o,Sl.nil _ _ _ _,Sl.nil _ _ _ _,Sl.nil _ _ _ _,Nat.le_refl _,ZX _⟩
  exact(hr.box HZ2.o (by simp[bxV]) h2).more (by omega)
 rcases HC2.o with rfl | rfl
 all_goals
  go_wp2_with fail;refine ZW (eP Tryz.results13 rfl (HZ2.o.set7 _ _ _ _ _ _ _) rfl) rfl ⟨⟨s',none,0,none,0,none,0⟩,by simp only[rpV,rpC,c.o,HG2.o];rfl,HE.o _ (HZ2.o.set7 _ _ _ _ _ _ _) (iM _ _ _ _ _ _ _ _ _) (by simp),dQ HB2.o (by omega) _ _ _ _ _ _ _⟩
theorem Tf{l:List AcX}{k:Nat}{x:AcX}(hx:l[k]? =some x)(h:∀y∈l.take k,AcF y.1)(hf:AcF x.1):∀y∈l.take (k+1),AcF y.1:=fun y hy=>by
 rw[aV hx]at hy;rcases List.mem_append.1 hy with hy | hy
 . exact h y hy
 . rw[List.mem_singleton.1 hy];exact hf
def Je(n z:Int)(l:List AcX)(w:VA)(e:Ending)(w':VA):Prop:=∃r:Bool,e= .returned (.bool r)/\ (r=true->l.length<=8/\n<=100/\z<=128/\∀a∈l,AcF a.1)/\VE w w'
theorem QE(n z:Int)(l:List AcX)(A:OA)(m c B:Nat)(w:VA)(h:AcsM w B A m l)(hb:∀a∈l,AcB a.1)(hB:B<=w.heap.size)(hm:m<=maxLen) :
  Calls Tryz.prog 47 #[kJ n z A m c] w (Je n z l w):=by
 unfold maxLen at hm;have j:=ai (h.s.len um (by omega));obtain⟨W,hW⟩:=NX9 (w.alloc (.cells #[.int .i64 n,.int .i64 z,.slice A m c] 42))
 have HB0:VF w W:=by rw[<-hW];exact(ah _ w).alloc aj _
 have HK:Hid (Bk W w.heap.size 42 #[.int .i64 n,.int .i64 z,.slice A m c]):=by rw[<-hW];exact Bk.new w _ _
 have H:=ai h;have HAB:=ai hb;have o:=ai hB;have HW:=ai hW;clear hW h hb;unfold kJ;obtain⟨k0,k1,k2⟩:=HK.o.three;by_cases c1: (8:Int)< (m:Int)
 . go_enter Tryz.func47,Tryz.ntmps47
   go_wp2_with fail;rw[HW.o];go_ret
   exact⟨false,rfl,(fun h=>by cases h),HB0.o⟩
 by_cases c2:100<n
 . go_enter Tryz.func47,Tryz.ntmps47
   go_wp2_with fail;rw[HW.o];go_ret
   exact⟨false,rfl,(fun h=>by cases h),HB0.o⟩
 by_cases c3:128<z
 . go_enter Tryz.func47,Tryz.ntmps47
   go_wp2_with fail;rw[HW.o];go_ret
   exact⟨false,rfl,(fun h=>by cases h),HB0.o⟩
 go_enter Tryz.func47,Tryz.ntmps47
 go_wp2_with fail;rw[HW.o]
 go_loopw[22] (fun i wr=>∃k:Nat,k<=m/\i= .int .i64 k/\VF w wr/\Hid (∀y∈l.take k,AcF y.1)) (fun i _=>m - (intOf i).toNat)
 case atStart=>exact⟨0,ZX _,rfl,HB0.o,fun y hy=>by simp at hy⟩
 case round =>
  obtain⟨k,hk,rfl,hBr,hF⟩:=hrel;have d:=ai hBr.o;have HF:=ai hF.o;clear hBr hF k0 k1 k2;by_cases hlt:k<m
  . obtain⟨b,off,x,rfl,hbB,hx,⟨x0,x1,x2,x3⟩,x4,x5,x6⟩:=(H.o.below d.o o.o).s.ac hlt
    have hlz: (k:Int)< (m:Int):=by omega
    have HX:=ai hx;obtain⟨wx,hwx⟩:=NX9 (wr.alloc (.cells (acA x) 65))
    have hbx:VE wr wx:=by rw[<-hwx];exact(ah _ wr).alloc aj _
    have p:Hid (Bk wx wr.heap.size 65 (acA x)):=by rw[<-hwx];exact Bk.new wr _ _
    have f:VF w wx:=d.o.trans (hbx.mono d.o.size);have hmem:x∈l:=Z7 hx;have HC:=ai (EO x B wx ((H.o.m x hmem).below f.o o.o) (HAB.o x hmem) (by have:=f.o.size;omega));have q:=ai hwx;clear hx hwx hbx hmem;unfold zV at HC;simp only[acA]at p q HC;obtain⟨⟨y0,y1,y2,y3⟩,y4,u,y6⟩:=p.o.seven;go_wp2_with fail;rw[q.o];refine HC.o.mono ?_;rintro e w1 ⟨g,rfl,hg,hb1⟩;have HG:=ai hg;have HB1:VF w w1:=f.o.trans (hb1.mono f.o.size);clear hg hb1 HC x0 x1 x2 x3 x4 x5 x6 y0 y1 y2 y3 y4 u y6;cases g with
    | false =>
      go_wp2_with fail;go_ret
      exact⟨false,rfl,(fun h=>by cases h),HB1.o⟩
    | true =>
      have r:=ai (Tf HX.o HF.o (HG.o (by simp)));go_wp2_with fail;go_roundw
      case rel=>exact⟨k+1,hlt,by go_num,HB1.o,r.o⟩
      case measure=>simp[intOf];omega
  . have hlz:¬(k:Int)< (m:Int):=by omega
    have t:Hid (∀y∈l,AcF y.1):=by
     have:=HF.o
     rwa[ZU (by rw[j.o];omega)]at this
    go_wp2_with fail;go_ret
    exact⟨true,rfl,fun _=>⟨by rw[j.o];omega,by omega,by omega,t.o⟩,d.o⟩
def Ad(w:VA)(e:Ending)(w':VA):Prop:=∃(ok:Bool)(r':Rp)(s':Rsl),e= .returned (.tuple #[rpV r' s',.bool ok])/\ (ok=true->RI r')/\RpM w' w'.heap.size r' s'/\VE w w'
theorem Um{n z:Int}(hr:jP n z=true)(hn:n<=100)(hz:z<=128)(h3:3<= (aX n.toNat z.toNat).ss.length) :
  RI ⟨(aJ (aX n.toNat z.toNat) (bW (aX n.toNat z.toNat).sz (aX n.toNat z.toNat).ss)).1,[],[],[]⟩/\ (aJ (aX n.toNat z.toNat) (bW (aX n.toNat z.toNat).sz (aX n.toNat z.toNat).ss)).2=0:=by
 unfold jP at hr;simp only[decide_eq_true_eq]at hr;have ho: (aX n.toNat z.toNat).Ok:=ug (by omega) (by omega) (by omega) (by omega);obtain⟨h1,h2,_,_⟩:=Gl ho h3 rfl rfl;obtain⟨g1,g2⟩:=lM (bW (aX n.toNat z.toNat).sz (aX n.toNat z.toNat).ss) (aX n.toNat z.toNat);refine⟨⟨?_,?_,by show(aJ _ _).1.pn.length<=1000;rw[h2.pn];exact ZX _,.inl ⟨[],h2,Mt.nil⟩⟩,h1⟩
 . show(aJ _ _).1.ss.length<=100
   rw[g2];simp[aX];omega
 . show(aJ _ _).1.sz<=128
   rw[g1];simp[aX];omega
theorem KI(hpck:kF)(n z:Int)(l:List AcX)(A:OA)(m c B:Nat)(w:VA)(h:AcsM w B A m l)(hb:∀a∈l,AcB a.1)(hB:B<=w.heap.size)(hm:m<=maxLen) :
  Calls Tryz.prog 16 #[kJ n z A m c] w (Ad w):=by
 obtain⟨W,hW⟩:=NX9 ((w.alloc (.cells #[.int .i64 n,.int .i64 z,.slice A m c] 42)).alloc (.cells rzC 35))
 have HB0:VF w W:=by rw[<-hW];exact((ah _ w).alloc aj _).alloc (by simp) _
 have HK:Hid (Bk W w.heap.size 42 #[.int .i64 n,.int .i64 z,.slice A m c]):=by rw[<-hW];exact(Bk.new w _ _).alloc _
 have HZ:Hid (Bk W (w.heap.size+1) 35 rzC):=by rw[<-hW];exact(Bk.new _ _ _).at_ (by simp)
 have zW:W.heap.size=w.heap.size+2:=by rw[<-hW];simp
 have HF:=ai (QE n z l A m c B W (h.below HB0.o hB) hb (by omega) hm);have H:=ai h;have Q:=ai hB;have bz:=ai (h.s.len um (by unfold maxLen at hm;omega));have HW:=ai hW;clear hW h hb hm;have J:Hid (∀w',VE w w'->Ad w (.returned (.tuple #[.agg rzC,.bool false])) w'):=fun w' hb=>⟨false,zRp,zRs,rfl,(fun h=>by cases h),RpM.zero _ _,hb⟩
 unfold Je at HF;unfold kJ at HF ⊢;obtain⟨k0,k1,k2⟩:=HK.o.three
 go_enter Tryz.func16,Tryz.ntmps16
 go_wp2_with fail;rw[HW.o];refine HF.o.mono ?_;rintro e w1 ⟨g,rfl,hg,hb1⟩;have HG:=ai hg;have HB1:VF w w1:=HB0.o.trans (hb1.mono HB0.o.size);have E:=ai (HK.o.below hb1 (by omega));have HZ1:=ai (HZ.o.below hb1 (by omega));have z1:w.heap.size+2<=w1.heap.size:=by have:=hb1.size;omega
 clear hg hb1 HF k0 k1 k2 HK HZ HB0;obtain⟨k0,k1,k2⟩:=E.o.three;cases g with
 | false =>
   obtain⟨⟨f0,f1,f2,f3⟩,f4,f5,f6⟩:=HZ1.o.free7;obtain⟨⟨z0,z1,z2,z3⟩,z4,z5,z6⟩:=HZ1.o.seven;go_wp2_with fail;exact ZW (eP Tryz.results16 rfl (HZ1.o.set7 _ _ _ _ _ _ _) rfl) rfl (J.o _ (dQ HB1.o (by omega) _ _ _ _ _ _ _))
 | true =>
   obtain⟨iU,hn,hz,hfs⟩:=HG.o (by simp);have ku:m<=8:=by have:=bz.o;omega
   have R:=ai hfs;clear hfs HG;have HD:=ai (Ew n z w1);unfold bG at HD;cases hr:jP n z with
   | false =>
     rw[hr]at HD;simp only[Bool.false_eq_true,if_false,zDk,dkV,dkC,List.length_nil]at HD;go_wp2_with fail;refine HD.o.mono ?_;rintro e w2 ⟨s',rfl,_,hb2⟩;have HB2:VF w w2:=HB1.o.trans (hb2.mono (by omega));have HZ2:=ai (HZ1.o.below hb2 (by omega));have cu:=hb2.size;clear hb2 HD k0 k1 k2 E HZ1 HB1;obtain⟨w3,hw3⟩:=NX9 (w2.alloc (.cells #[.int .i64 0,.slice s'.a1 0 s'.c1,.slice s'.a2 0 s'.c2,.int .i64 0] 25))
     have HB3:VF w w3:=by rw[<-hw3];exact HB2.o.alloc (by omega) _
     have HZ3:Hid (Bk w3 (w.heap.size+1) 35 rzC):=by rw[<-hw3];exact HZ2.o.alloc _
     have HW3:=ai hw3;clear hw3 HZ2 HB2;obtain⟨⟨f0,f1,f2,f3⟩,f4,f5,f6⟩:=HZ3.o.free7;obtain⟨⟨z0,z1,z2,z3⟩,z4,z5,z6⟩:=HZ3.o.seven
     go_upto_region 5 with fail
     rw[HW3.o];go_wp2_with fail;exact ZW (eP Tryz.results16 rfl (HZ3.o.set7 _ _ _ _ _ _ _) rfl) rfl (J.o _ (dQ HB3.o (by omega) _ _ _ _ _ _ _))
   | true =>
     have hr':=hr;unfold jP at hr';simp only[decide_eq_true_eq]at hr';have K:Hid ((aX n.toNat z.toNat).Ok):=ug (by omega) (by omega) (by omega) (by omega);have S:=ai (fun h3=>Um hr hn hz h3);have hlen: (aX n.toNat z.toNat).ss.length=n.toNat:=by simp[aX]
     have f: (aX n.toNat z.toNat).pn.length=0:=rfl;rw[hr]at HD;simp only[if_true]at HD;obtain⟨d,hd⟩:=NX9 (aX n.toNat z.toNat)
     rw[hd]at HD K S hlen f;clear hd hr';obtain⟨dn,hdn⟩:=NX9 d.ss.length
     simp only[dkV,dkC,f,hdn]at HD;go_wp2_with fail;refine HD.o.mono ?_;rintro e w2 ⟨s',rfl,hm2,hb2⟩;have HB2:VF w w2:=HB1.o.trans (hb2.mono (by omega));have T:=ai (E.o.below hb2 (by omega));have HZ2:=ai (HZ1.o.below hb2 (by omega));have cu:=hb2.size;clear hb2 HD k0 k1 k2 E HZ1 HB1;obtain⟨w3,hw3⟩:=NX9 (w2.alloc (.cells #[.int .i64 d.sz,.slice s'.a1 dn s'.c1,.slice s'.a2 0 s'.c2,.int .i64 d.lf] 25))
     have hb3:VE w2 w3:=by rw[<-hw3];exact(ah _ w2).alloc aj _
     have HB3:VF w w3:=HB2.o.trans (hb3.mono (by omega));have L:=ai (T.o.below hb3 (by omega));have HZ3:=ai (HZ2.o.below hb3 (by omega));have HD3:Hid (Bk w3 w2.heap.size 25 #[.int .i64 d.sz,.slice s'.a1 dn s'.c1,.slice s'.a2 0 s'.c2,.int .i64 d.lf]):=by rw[<-hw3];exact Bk.new _ _ _
     have z3:=hb3.size;have F:=hm2.below hb3 aj;have HW3:=ai hw3;clear hw3 hb3 hm2 HZ2 T HB2;obtain⟨l0,l1,l2,l3⟩:=HD3.o.dk4;by_cases h3:3<=d.ss.length
     . obtain⟨p,hx0⟩:=S.o h3
       have HR0:=ai p;have HI:=ai (Et d s' w2.heap.size w3 K.o h3 (by omega) F z3);unfold fG at HI;rw[hx0]at HI;obtain⟨r0,hr0⟩:=NX9 ((⟨(aJ d (bW d.sz d.ss)).1,[],[],[]⟩:Rp))
       rw[hr0]at HI HR0;simp only[dkV,dkC,f,hdn,rpV,rpC]at HI;clear p hx0 hr0 F l0 l1 l2 l3;go_wp2_with fail;rw[HW3.o];refine HI.o.mono ?_;rintro e w4 ⟨s4,rfl,hm4,hb4⟩;have HB4:VF w w4:=HB3.o.trans (hb4.mono (by omega));have U:=ai (L.o.below hb4 (by omega));have r:=ai (HZ3.o.below hb4 (by omega));have V:=hb4.size;clear hb4 HI L HZ3 HD3 HB3;obtain⟨w5,hw5⟩:=NX9 (w4.alloc (.cells (rpC r0 s4) 35))
       have hb5:VE w4 w5:=by rw[<-hw5];exact(ah _ w4).alloc aj _
       have M:VF w w5:=HB4.o.trans (hb5.mono (by omega));have cO:=ai (U.o.below hb5 (by omega));have v:=ai (r.o.below hb5 (by omega));have X:Hid (Bk w5 w4.heap.size 35 (rpC r0 s4)):=by rw[<-hw5];exact Bk.new _ _ _
       have dN:Hid (RpM w5 w5.heap.size r0 s4):=(hm4.below hb5 aj).more hb5.size;have z5:w5.heap.size=w4.heap.size+1:=by rw[<-hw5];simp
       have C:=ai hw5;clear hw5 hb5 hm4 U r HB4;simp only[rpC]at C;obtain⟨k0,k1,k2⟩:=cO.o.three;obtain⟨b6,hb6⟩:=NX9 w4.heap.size
       rw[hb6]at X z5 V
       go_upto_region 7 with fail
       rw[C.o];clear C
       try simp only[hb6]
       clear hb6;go_wp2_with fail
       go_loopw[36] (fun i wr=>∃(k:Nat)(r':Rp)(s':Rsl),k<=m/\i= .int .i64 k/\Hid (RI r')/\Hid (RpM wr wr.heap.size r' s')/\Hid (Bk wr b6 35 (rpC r' s'))/\Hid (Bk wr (w.heap.size+1) 35 rzC)/\VF w wr/\b6<wr.heap.size) (fun i _=>m - (intOf i).toNat)
       case atStart=>exact⟨0,r0,s4,ZX _,rfl,HR0.o,dN.o,X.o,v.o,M.o,by omega⟩
       case round =>
        obtain⟨k,r1,s1,hk,rfl,p,hrm,hN,hZ,hBr,hbz⟩:=hrel;have j:=ai p.o;have N:=ai hrm.o;have HN:=ai hN.o;have o:=ai hZ.o;have G:=ai hBr.o;clear p hrm hN hZ hBr k0 k1 k2;by_cases hlt:k<m
        . obtain⟨b,off,x,rfl,hbB,hx,⟨x0,x1,x2,x3⟩,x4,x5,x6⟩:=(H.o.below G.o Q.o).s.ac hlt
          have hlz: (k:Int)< (m:Int):=by omega
          obtain⟨wx,hwx⟩:=NX9 (wr.alloc (.cells (acA x) 65))
          have hbx:VE wr wx:=by rw[<-hwx];exact(ah _ wr).alloc aj _
          have Y:Hid (Bk wx wr.heap.size 65 (acA x)):=by rw[<-hwx];exact Bk.new wr _ _
          have D:VF w wx:=G.o.trans (hbx.mono G.o.size);have zx:=hbx.size;have O:=ai (HN.o.below hbx hbz);have Z:=ai (o.o.below hbx (by omega));have hmem:x∈l:=Z7 hx;obtain⟨gs,a,u,hlv⟩:∃gs a u,r1.d.lf≠0->Lvs r1 gs a u:=by
           by_cases h0:r1.d.lf=0
           . exact⟨[],0,0,fun h=>absurd h0 h⟩
           . obtain⟨gs,a,u,h⟩:=j.o.lv h0
             exact⟨gs,a,u,fun _=>h⟩
          have ed:=ai hlv;have fA:=ai (R.o x hmem);have HC:=ai (TU hpck r1 s1 gs a u x wx.heap.size wx j.o hlv ((N.o.below hbx aj).more zx) (((H.o.m x hmem).below D.o Q.o).more (by have:=D.o.size;omega)) (R.o x hmem) aj);have P:=ai hwx;have hnr:=HN.o;simp only[rpC]at hnr;clear hx hwx hbx hmem hlv HN o N;unfold fG at HC;simp only[acA,rpV,rpC]at Y P HC O;obtain⟨⟨v0,v1,v2,v3⟩,v4,v5,v6⟩:=hnr.seven;clear hnr;go_wp2_with fail;rw[P.o];refine HC.o.mono ?_;rintro e w6 ⟨r2,y,⟨s2,rfl,ag,hb6⟩,hdo⟩;have HR2:=ai (hdo.ri j.o ed.o fA.o);have fO:=ai ag;have fU:VF w w6:=D.o.trans (hb6.mono D.o.size);have I:=ai (O.o.below hb6 (by omega));have gu:=ai (Z.o.below hb6 (by omega));have z6:=hb6.size;clear hdo ag hb6 HC Y O Z D P x0 x1 x2 x3 x4 x5 x6 v0 v1 v2 v3 v4 v5 v6;obtain⟨⟨v0,v1,v2,v3⟩,v4,v5,v6⟩:=I.o.seven;obtain⟨⟨f0,f1,f2,f3⟩,f4,f5,f6⟩:=I.o.free7
          go_upto_region 13 with fail
          rw[kE w6 b6 r2 s2];have e7:=iT w6 b6 r2 s2;have au:Hid (RpM (stR w6 b6 r2 s2) (stR w6 b6 r2 s2).heap.size r2 s2):=(fO.o.st (q:=r1) (t:=s1) I.o).more (by omega);have bf:Hid (Bk (stR w6 b6 r2 s2) b6 35 (rpC r2 s2)):=I.o.set7 _ _ _ _ _ _ _;have bg:Hid (Bk (stR w6 b6 r2 s2) (w.heap.size+1) 35 rzC):=(iM _ _ _ _ _ _ _ _ _ _ (by omega)).trans gu.o;have bn:VF w (stR w6 b6 r2 s2):=dQ fU.o (by omega) _ _ _ _ _ _ _;obtain⟨w7,hw7⟩:=NX9 (stR w6 b6 r2 s2)
          rw[hw7]at au bf bg bn e7 ⊢;clear hw7 v0 v1 v2 v3 v4 v5 v6 f0 f1 f2 f3 f4 f5 f6;go_wp2_with fail;go_roundw
          case rel=>exact⟨k+1,r2,s2,hlt,by go_num,HR2.o,au.o,bf.o,bg.o,bn.o,by omega⟩
          case measure=>simp[intOf];omega
        . have hlz:¬(k:Int)< (m:Int):=by omega
          simp only[rpC]at HN;obtain⟨⟨v0,v1,v2,v3⟩,v4,v5,v6⟩:=HN.o.seven;obtain⟨⟨f0,f1,f2,f3⟩,f4,f5,f6⟩:=o.o.free7;obtain⟨⟨z0,z1,z2,z3⟩,z4,z5,z6⟩:=o.o.seven;go_wp2_with fail;refine ZW (eP Tryz.results16 rfl (o.o.set7 _ _ _ _ _ _ _) rfl) rfl ⟨true,r1,s1,rfl,fun _=>j.o,?_,dQ G.o (by omega) _ _ _ _ _ _ _⟩;exact(N.o.st (q:=zRp) (t:=zRs) (r0:=r1) (s0:=s1) o.o).more (by have:=iT wr (w.heap.size+1) r1 s1;unfold stR at this;omega)
     . have HI:=ai (NY d s' w2.heap.size w3 K.o (by omega) (by omega) F z3)
       unfold fG at HI;simp only[dkV,dkC,f,hdn,rpV,rpC,zRp,List.length_nil]at HI;clear F l0 l1 l2 l3;go_wp2_with fail;rw[HW3.o];refine HI.o.mono ?_;rintro e w4 ⟨s4,rfl,hm4,hb4⟩;have HB4:VF w w4:=HB3.o.trans (hb4.mono (by omega));have r:=ai (HZ3.o.below hb4 (by omega));have V:=hb4.size;clear hb4 hm4 HI L HZ3 HD3 HB3;obtain⟨w5,hw5⟩:=NX9 (w4.alloc (.cells #[.int .i64 0,.slice s4.d.a1 0 s4.d.c1,.slice s4.d.a2 0 s4.d.c2,.int .i64 0,.slice s4.pA 0 s4.pc,.slice s4.rA 0 s4.rc,.slice s4.lA 0 s4.lc] 35))
       have M:VF w w5:=by rw[<-hw5];exact HB4.o.alloc (by omega) _
       have v:Hid (Bk w5 (w.heap.size+1) 35 rzC):=by rw[<-hw5];exact r.o.alloc _
       have C:=ai hw5;clear hw5 r HB4;obtain⟨⟨f0,f1,f2,f3⟩,f4,f5,f6⟩:=v.o.free7;obtain⟨⟨z0,z1,z2,z3⟩,z4,z5,z6⟩:=v.o.seven
       go_upto_region 8 with fail
       rw[C.o];go_wp2_with fail;exact ZW (eP Tryz.results16 rfl (v.o.set7 _ _ _ _ _ _ _) rfl) rfl (J.o _ (dQ M.o (by omega) _ _ _ _ _ _ _))
