/-
  Lemmas of the card.
-/
import Derived.Test.YtknefelegjlgnaaGreatDoorCCCp10
set_option maxRecDepth 100000
set_option maxHeartbeats 8000000
namespace Go.Proofs.YtknefelegjlgnaaGreatDoor
open Go.RowKit
theorem fD{w:UW}{b:Nat}{t:TypeId}{x0 x1 x2 x3 x4 x5 x6 x7 x8:UY}(h:Bk w b t #[x0,x1,x2,x3,x4,x5,x6,x7,x8])(y0 y1 y2 y3 y4 y5 y6 y7 y8:UY):Bk (((((((((w.setCell ⟨b,0,none⟩ y0).setCell ⟨b,1,none⟩ y1).setCell ⟨b,2,none⟩ y2).setCell ⟨b,3,none⟩ y3).setCell ⟨b,4,none⟩ y4).setCell ⟨b,5,none⟩ y5).setCell ⟨b,6,none⟩ y6).setCell ⟨b,7,none⟩ y7).setCell ⟨b,8,none⟩ y8) b t #[y0,y1,y2,y3,y4,y5,y6,y7,y8]:=by
 have:=(((((((((h.set 0 y0).set 1 y1).set 2 y2).set 3 y3).set 4 y4).set 5 y5).set 6 y6).set 7 y7).set 8 y8)
 simpa using this
theorem fB{B b:Nat}{w0 w:UW}(h:Below B w0 w)(hb:B<=b)(y0 y1 y2 y3 y4 y5 y6 y7 y8:UY):Below B w0 (((((((((w.setCell ⟨b,0,none⟩ y0).setCell ⟨b,1,none⟩ y1).setCell ⟨b,2,none⟩ y2).setCell ⟨b,3,none⟩ y3).setCell ⟨b,4,none⟩ y4).setCell ⟨b,5,none⟩ y5).setCell ⟨b,6,none⟩ y6).setCell ⟨b,7,none⟩ y7).setCell ⟨b,8,none⟩ y8) :=
 ((((((((h.setCell (p:=⟨b,0,none⟩) hb y0).setCell (p:=⟨b,1,none⟩) hb y1).setCell (p:=⟨b,2,none⟩) hb y2).setCell (p:=⟨b,3,none⟩) hb y3).setCell (p:=⟨b,4,none⟩) hb y4).setCell (p:=⟨b,5,none⟩) hb y5).setCell (p:=⟨b,6,none⟩) hb y6).setCell (p:=⟨b,7,none⟩) hb y7).setCell (p:=⟨b,8,none⟩) hb y8
theorem Apd.set9{w:UW}{base size n c b:Nat}{e:TypeId}{A:OA}{xs:List UY}(h:Apd w base e size A n c xs)(hb:b<base)(y0 y1 y2 y3 y4 y5 y6 y7 y8:UY):Apd (((((((((w.setCell ⟨b,0,none⟩ y0).setCell ⟨b,1,none⟩ y1).setCell ⟨b,2,none⟩ y2).setCell ⟨b,3,none⟩ y3).setCell ⟨b,4,none⟩ y4).setCell ⟨b,5,none⟩ y5).setCell ⟨b,6,none⟩ y6).setCell ⟨b,7,none⟩ y7).setCell ⟨b,8,none⟩ y8) base e size A n c xs :=
 ((((((((h.setCell (a:=⟨b,0,none⟩) hb y0).setCell (a:=⟨b,1,none⟩) hb y1).setCell (a:=⟨b,2,none⟩) hb y2).setCell (a:=⟨b,3,none⟩) hb y3).setCell (a:=⟨b,4,none⟩) hb y4).setCell (a:=⟨b,5,none⟩) hb y5).setCell (a:=⟨b,6,none⟩) hb y6).setCell (a:=⟨b,7,none⟩) hb y7).setCell (a:=⟨b,8,none⟩) hb y8
theorem fC{fn:Func}{c i:Tmp}(h:fn.results= #[.cell c 109,.tmp i]){w:UW}{a:Array UY}{b:Nat}{x0 x1 x2 x3 x4 x5 x6 x7 x8 v:UY}(ha:a[c]?.getD undef= .pointer (some ⟨b,0,none⟩))(hk:Bk w b 109 #[x0,x1,x2,x3,x4,x5,x6,x7,x8])(hv:a[i]?.getD undef=v) :
  (results fn a).run Tryz.prog w= .ok (.tuple #[.agg #[x0,x1,x2,x3,x4,x5,x6,x7,x8],v]) w:=by
 obtain⟨h0,h1,h2,h3,h4,h5,h6,h7,h8⟩:=hk.nine;simp[results,h,ha,hv,go_sem,h0,h1,h2,h3,h4,h5,h6,h7,h8]
def NewO(w:UW)(b:Nat)(s:Osl):Prop:=∀a,0<s.en->s.eA=some a->b<=a.block/\∃cur,w.heap[a.block]? =some (.cells cur 185 (0,0))
theorem NewO.none(w:UW)(b:Nat){s:Osl}(h:s.en=0):NewO w b s:=fun _ h0=>absurd h0 (by rw[h];exact Nat.lt_irrefl 0)
theorem NewO.mono{w:UW}{b b':Nat}{s:Osl}(h:NewO w b s)(hb:b'<=b):NewO w b' s:=fun a h1 h2=>⟨ZY hb (h a h1 h2).1,(h a h1 h2).2⟩
theorem NewO.keep{w w':UW}{b bx:Nat}{t:TypeId}{cs:Array UY}{s:Osl}(h:NewO w b s)(hz:Bk w bx t cs)(ht:t≠185)(hk:∀k,k≠bx->w'.heap[k]? =w.heap[k]?):NewO w' b s:=fun a h1 h2=>by
 obtain⟨h3,cur,h4⟩:=h a h1 h2;refine⟨h3,cur,(hk a.block (fun e=>?_)).trans h4⟩;rw[e]at h4;have h5:w.heap[bx]? =some (.cells cs t (0,0)):=hz;rw[h4]at h5;injection h5 with h5;injection h5 with _ h6;exact ht h6.symm
theorem Apd.newO{w:UW}{base n c c2:Nat}{A:OA}{xs:List UY}(h:Apd w base 185 4 A n c xs){b:Nat}(hb:b<=base){s:Osl}(hs:s.eA=A/\s.en=n/\s.ec=c2):NewO w b s:=by
 obtain⟨h1,h2,_⟩:=hs;rintro a hn hA;rw[h1]at hA;rw[h2]at hn;subst hA;rcases h with ⟨_,⟨_,h0⟩ | ⟨g,cap,cur,hv,h5,h3,_⟩⟩ | ⟨h0,_⟩
 . omega
 . injection hv with hA
   cases hA
   exact⟨ZY hb h5,cur,h3⟩
 . omega
def NewP(w:UW)(b:Nat)(s:Osl):Prop:=∀a,0<s.pn->s.pA=some a->b<=a.block/\∃cur,w.heap[a.block]? =some (.cells cur 50 (0,0))
theorem NewP.none(w:UW)(b:Nat){s:Osl}(h:s.pn=0):NewP w b s:=fun _ h0=>absurd h0 (by rw[h];exact Nat.lt_irrefl 0)
theorem NewP.mono{w:UW}{b b':Nat}{s:Osl}(h:NewP w b s)(hb:b'<=b):NewP w b' s:=fun a h1 h2=>⟨ZY hb (h a h1 h2).1,(h a h1 h2).2⟩
theorem NewP.keep{w w':UW}{b bx:Nat}{t:TypeId}{cs:Array UY}{s:Osl}(h:NewP w b s)(hz:Bk w bx t cs)(ht:t≠50)(hk:∀k,k≠bx->w'.heap[k]? =w.heap[k]?):NewP w' b s:=fun a h1 h2=>by
 obtain⟨h3,cur,h4⟩:=h a h1 h2;refine⟨h3,cur,(hk a.block (fun e=>?_)).trans h4⟩;rw[e]at h4;have h5:w.heap[bx]? =some (.cells cs t (0,0)):=hz;rw[h4]at h5;injection h5 with h5;injection h5 with _ h6;exact ht h6.symm
theorem Apd.newP{w:UW}{base n c c2:Nat}{A:OA}{xs:List UY}(h:Apd w base 50 2 A n c xs){b:Nat}(hb:b<=base){s:Osl}(hs:s.pA=A/\s.pn=n/\s.pc=c2):NewP w b s:=by
 obtain⟨h1,h2,_⟩:=hs;rintro a hn hA;rw[h1]at hA;rw[h2]at hn;subst hA;rcases h with ⟨_,⟨_,h0⟩ | ⟨g,cap,cur,hv,h5,h3,_⟩⟩ | ⟨h0,_⟩
 . omega
 . injection hv with hA
   cases hA
   exact⟨ZY hb h5,cur,h3⟩
 . omega
def OdE(o:Ob)(w:UW)(e:Ending)(w':UW):Prop:=∃s,e= .returned (.tuple #[obV o s,.int .i64 0])/\ObM w' w'.heap.size o s/\U0 w w'/\NewO w' w.heap.size s/\NewP w' w.heap.size s
theorem qX(o:Ob)(w:UW)(ho:OkO o):Calls Tryz.prog 81 #[.string (ofL (aI o))] w (OdE o w):=by
 have HO:=ai ho;have hlen:=ho.len;cases ho.f with
 | blob k e c d =>
   have g:aI o=ak o.kind.toNat++ (ax (toL o.data)++ []):=by unfold aI gY;rw[if_neg (by omega),if_neg (by omega),List.append_nil]
   obtain⟨h1,h2,h3,h4,h5⟩:=c;obtain⟨kind,data,ents,tree,pars,auth,time,msg⟩:=o;simp only at k e h1 h2 h3 h4 h5 d g;subst e h1 h2 h3 h4 h5;rcases k with rfl | rfl
   . have g:aI _=ak 1++ (ax (toL data)++ []):=g
     obtain⟨s,hs⟩:=NX9 (ofL (aI (⟨1,data,[],zD,[],⟨#[]⟩,0,⟨#[]⟩⟩:Ob)))
     rw[hs];have hlr: (ak 1++ (ax (toL data)++ [])).length<=1000000:=by rw[<-g];omega
     have hle: (ax (toL data)++ []).length<=1000000:=by rw[af]at hlr;omega
     obtain⟨W1,hW1⟩:=NX9 ((w.alloc (.cells #[.int .i64 0,.string ⟨#[]⟩,.slice none 0 0,.int .u64 0,.int .u64 0,.slice none 0 0,.string ⟨#[]⟩,.int .i64 0,.string ⟨#[]⟩] 109)).alloc (.cells #[.string s,.bool false] 229))
     have HZ1:Hid (Bk W1 w.heap.size 109 #[.int .i64 0,.string ⟨#[]⟩,.slice none 0 0,.int .u64 0,.int .u64 0,.slice none 0 0,.string ⟨#[]⟩,.int .i64 0,.string ⟨#[]⟩]):=by rw[<-hW1];exact(Bk.new w _ _).alloc _
     have HR1:Hid (Rdr W1 (w.heap.size+1) (ak 1++ (ax (toL data)++ []))):=by
      show Bk _ _ _ _;rw[<-g,hs,<-hW1];have:=Bk.new (w.alloc (.cells #[.int .i64 0,.string ⟨#[]⟩,.slice none 0 0,.int .u64 0,.int .u64 0,.slice none 0 0,.string ⟨#[]⟩,.int .i64 0,.string ⟨#[]⟩] 109)) 229 #[.string s,.bool false]
      rwa[Z9]at this
     have HB1:U6 w W1:=by rw[<-hW1];exact((ah _ w).alloc aj _).alloc (by simp) _
     have M:W1.heap.size=w.heap.size+2:=by rw[<-hW1];simp
     have x:=ai (ou (w.heap.size+1) 1 (ax (toL data)++ []) W1 HR1.o (by omega) hlr);clear hs g hlr
     go_enter Tryz.func81,Tryz.ntmps81
     go_wp2_with fail;refine x.o.mono ?_;rintro e w2 ⟨rfl,hr,hg⟩;have HR2:=ai hr;have HG2:U6 w w2:=HB1.o.trans (hg.below (by omega) (fun q hq e=>by omega));have HZ2:=ai (hg.bk HZ1.o (by show ¬w.heap.size=w.heap.size+1;omega));have z2:w.heap.size+2<=w2.heap.size:=by have:=hg.size;omega
     clear hr hg hW1 x HB1 HZ1 HR1;obtain⟨W3,hW3⟩:=NX9 (w2.alloc (.cells #[.int .i64 1,.string ⟨#[]⟩,.slice none 0 0,.int .u64 0,.int .u64 0,.slice none 0 0,.string ⟨#[]⟩,.int .i64 0,.string ⟨#[]⟩] 109))
     have hb3:U0 w2 W3:=by rw[<-hW3];exact(ah _ w2).alloc aj _
     have r:Hid (Bk W3 w2.heap.size 109 #[.int .i64 1,.string ⟨#[]⟩,.slice none 0 0,.int .u64 0,.int .u64 0,.slice none 0 0,.string ⟨#[]⟩,.int .i64 0,.string ⟨#[]⟩]):=by rw[<-hW3];exact Bk.new w2 _ _
     have HR3:Hid (Rdr W3 (w.heap.size+1) (ax (toL data)++ [])):=Bk.below HR2.o hb3 (by omega);have HZ3:=ai (HZ2.o.below hb3 (by omega));have HB3:U6 w W3:=HG2.o.trans (hb3.mono (by omega));have z3:W3.heap.size=w2.heap.size+1:=by rw[<-hW3];simp
     have c0:=r.o.nine.1;rw[<-hW3]at c0;have HW3:=ai hW3;clear hb3 hW3 HR2 HZ2 HG2;have y:=ai (qZ (w.heap.size+1) data [] W3 HR3.o d hle);go_wp2_with fail;rw[HW3.o];refine y.o.mono ?_;rintro e v4 ⟨rfl,hr,hg⟩;have j:=ai hr;have b:=ai (hg.bk r.o (by show ¬w2.heap.size=w.heap.size+1;omega));have l:=ai (hg.bk HZ3.o (by show ¬w.heap.size=w.heap.size+1;omega));have m:U6 w v4:=HB3.o.trans (hg.below (by have:=HB3.o.size;omega) (fun q hq e=>by omega));have N:=hg.size;clear c0 hr hg y HB3 HZ3 r HR3;obtain⟨c0,c1,c2,c3,c4,c5,c6,c7,c8⟩:=b.o.nine;have f1:=b.o.free 1;obtain⟨W4,i⟩:=NX9 ((v4.setCell ⟨w2.heap.size,1,none⟩ (.string data)))
     have u:Hid (Bk W4 w2.heap.size 109 #[.int .i64 1,.string data,.slice none 0 0,.int .u64 0,.int .u64 0,.slice none 0 0,.string ⟨#[]⟩,.int .i64 0,.string ⟨#[]⟩]):=by rw[<-i];have:=(b.o.set 1 (.string data));show Bk _ _ _ _;simpa using this
     have HR4:Hid (Rdr W4 (w.heap.size+1) ([])):=by rw[<-i];exact(Bk.far j.o (p:=⟨w2.heap.size,1,none⟩) (by show w.heap.size+1≠w2.heap.size;omega) _)
     have z:Hid (Bk W4 w.heap.size 109 #[.int .i64 0,.string ⟨#[]⟩,.slice none 0 0,.int .u64 0,.int .u64 0,.slice none 0 0,.string ⟨#[]⟩,.int .i64 0,.string ⟨#[]⟩]):=by rw[<-i];exact(Bk.far l.o (p:=⟨w2.heap.size,1,none⟩) (by show w.heap.size≠w2.heap.size;omega) _)
     have HB4:U6 w W4:=by rw[<-i];exact(Below.setCell m.o (p:=⟨w2.heap.size,1,none⟩) (by show w.heap.size<=w2.heap.size;omega) _)
     have O:v4.heap.size<=W4.heap.size:=by rw[<-i];simp[World.setCell]
     clear j b l m;have A:Bk W4 (w.heap.size+1) 229 #[.string ⟨#[]⟩,.bool false]:=HR4.o;obtain⟨q0,q1,_,_⟩:=A.two;have C:Hid (ObM W4 W4.heap.size ⟨1,data,[],zD,[],⟨#[]⟩,0,⟨#[]⟩⟩ ⟨none,0,0,none,0,0⟩):=⟨Sl.nil _ _ _ _,Sl.nil _ _ _ _,Nat.le_refl _,ZX _,Nat.le_refl _,ZX _⟩
     have t:=ai (oQ ⟨1,data,[],zD,[],⟨#[]⟩,0,⟨#[]⟩⟩ ⟨none,0,0,none,0,0⟩ W4.heap.size W4 C.o aj HO.o);simp only[obV,obC]at t;obtain⟨k0,k1,k2,k3,k4,k5,k6,k7,k8⟩:=u.o.nine;go_wp2_with fail;refine t.o.mono ?_;rintro e w8 ⟨rfl,hb8⟩;have D:=ai (u.o.below hb8 u.o.lt);have n:=ai (z.o.below hb8 z.o.lt);have E:U6 w w8:=HB4.o.trans (hb8.mono HB4.o.size);have P:=ai ((C.o.below hb8 aj).more hb8.size);have z8:w.heap.size<w8.heap.size:=n.o.lt;clear c0 c1 c2 c3 c4 c5 c6 c7 c8 k0 k1 k2 k3 k4 k5 k6 k7 k8 q0 q1 A hb8 t i;obtain⟨c0,c1,c2,c3,c4,c5,c6,c7,c8⟩:=D.o.nine;obtain⟨d0,d1,d2,d3,d4,d5,d6,d7,d8⟩:=n.o.nine;obtain⟨f0,f1,f2,f3,f4,f5,f6,f7,f8⟩:=fr9 n.o;have hne:w.heap.size≠w2.heap.size:=by omega
     go_wp2_with fail;refine ZW (fC Tryz.results81 rfl (fD n.o _ _ _ _ _ _ _ _ _) rfl) rfl ⟨⟨none,0,0,none,0,0⟩,rfl,?_,fB E.o aj _ _ _ _ _ _ _ _ _,NewO.none _ _ rfl,NewP.none _ _ rfl⟩;exact⟨Sl.nil _ _ _ _,Sl.nil _ _ _ _,Nat.le_refl _,ZX _,Nat.le_refl _,ZX _⟩
   . have g:aI _=ak 4++ (ax (toL data)++ []):=g
     obtain⟨s,hs⟩:=NX9 (ofL (aI (⟨4,data,[],zD,[],⟨#[]⟩,0,⟨#[]⟩⟩:Ob)))
     rw[hs];have hlr: (ak 4++ (ax (toL data)++ [])).length<=1000000:=by rw[<-g];omega
     have hle: (ax (toL data)++ []).length<=1000000:=by rw[af]at hlr;omega
     obtain⟨W1,hW1⟩:=NX9 ((w.alloc (.cells #[.int .i64 0,.string ⟨#[]⟩,.slice none 0 0,.int .u64 0,.int .u64 0,.slice none 0 0,.string ⟨#[]⟩,.int .i64 0,.string ⟨#[]⟩] 109)).alloc (.cells #[.string s,.bool false] 229))
     have HZ1:Hid (Bk W1 w.heap.size 109 #[.int .i64 0,.string ⟨#[]⟩,.slice none 0 0,.int .u64 0,.int .u64 0,.slice none 0 0,.string ⟨#[]⟩,.int .i64 0,.string ⟨#[]⟩]):=by rw[<-hW1];exact(Bk.new w _ _).alloc _
     have HR1:Hid (Rdr W1 (w.heap.size+1) (ak 4++ (ax (toL data)++ []))):=by
      show Bk _ _ _ _;rw[<-g,hs,<-hW1];have:=Bk.new (w.alloc (.cells #[.int .i64 0,.string ⟨#[]⟩,.slice none 0 0,.int .u64 0,.int .u64 0,.slice none 0 0,.string ⟨#[]⟩,.int .i64 0,.string ⟨#[]⟩] 109)) 229 #[.string s,.bool false]
      rwa[Z9]at this
     have HB1:U6 w W1:=by rw[<-hW1];exact((ah _ w).alloc aj _).alloc (by simp) _
     have M:W1.heap.size=w.heap.size+2:=by rw[<-hW1];simp
     have x:=ai (ou (w.heap.size+1) 4 (ax (toL data)++ []) W1 HR1.o (by omega) hlr);clear hs g hlr
     go_enter Tryz.func81,Tryz.ntmps81
     go_wp2_with fail;refine x.o.mono ?_;rintro e w2 ⟨rfl,hr,hg⟩;have HR2:=ai hr;have HG2:U6 w w2:=HB1.o.trans (hg.below (by omega) (fun q hq e=>by omega));have HZ2:=ai (hg.bk HZ1.o (by show ¬w.heap.size=w.heap.size+1;omega));have z2:w.heap.size+2<=w2.heap.size:=by have:=hg.size;omega
     clear hr hg hW1 x HB1 HZ1 HR1;obtain⟨W3,hW3⟩:=NX9 (w2.alloc (.cells #[.int .i64 4,.string ⟨#[]⟩,.slice none 0 0,.int .u64 0,.int .u64 0,.slice none 0 0,.string ⟨#[]⟩,.int .i64 0,.string ⟨#[]⟩] 109))
     have hb3:U0 w2 W3:=by rw[<-hW3];exact(ah _ w2).alloc aj _
     have r:Hid (Bk W3 w2.heap.size 109 #[.int .i64 4,.string ⟨#[]⟩,.slice none 0 0,.int .u64 0,.int .u64 0,.slice none 0 0,.string ⟨#[]⟩,.int .i64 0,.string ⟨#[]⟩]):=by rw[<-hW3];exact Bk.new w2 _ _
     have HR3:Hid (Rdr W3 (w.heap.size+1) (ax (toL data)++ [])):=Bk.below HR2.o hb3 (by omega);have HZ3:=ai (HZ2.o.below hb3 (by omega));have HB3:U6 w W3:=HG2.o.trans (hb3.mono (by omega));have z3:W3.heap.size=w2.heap.size+1:=by rw[<-hW3];simp
     have c0:=r.o.nine.1;rw[<-hW3]at c0;have HW3:=ai hW3;clear hb3 hW3 HR2 HZ2 HG2;have y:=ai (qZ (w.heap.size+1) data [] W3 HR3.o d hle);go_wp2_with fail;rw[HW3.o];refine y.o.mono ?_;rintro e v4 ⟨rfl,hr,hg⟩;have j:=ai hr;have b:=ai (hg.bk r.o (by show ¬w2.heap.size=w.heap.size+1;omega));have l:=ai (hg.bk HZ3.o (by show ¬w.heap.size=w.heap.size+1;omega));have m:U6 w v4:=HB3.o.trans (hg.below (by have:=HB3.o.size;omega) (fun q hq e=>by omega));have N:=hg.size;clear c0 hr hg y HB3 HZ3 r HR3;obtain⟨c0,c1,c2,c3,c4,c5,c6,c7,c8⟩:=b.o.nine;have f1:=b.o.free 1;obtain⟨W4,i⟩:=NX9 ((v4.setCell ⟨w2.heap.size,1,none⟩ (.string data)))
     have u:Hid (Bk W4 w2.heap.size 109 #[.int .i64 4,.string data,.slice none 0 0,.int .u64 0,.int .u64 0,.slice none 0 0,.string ⟨#[]⟩,.int .i64 0,.string ⟨#[]⟩]):=by rw[<-i];have:=(b.o.set 1 (.string data));show Bk _ _ _ _;simpa using this
     have HR4:Hid (Rdr W4 (w.heap.size+1) ([])):=by rw[<-i];exact(Bk.far j.o (p:=⟨w2.heap.size,1,none⟩) (by show w.heap.size+1≠w2.heap.size;omega) _)
     have z:Hid (Bk W4 w.heap.size 109 #[.int .i64 0,.string ⟨#[]⟩,.slice none 0 0,.int .u64 0,.int .u64 0,.slice none 0 0,.string ⟨#[]⟩,.int .i64 0,.string ⟨#[]⟩]):=by rw[<-i];exact(Bk.far l.o (p:=⟨w2.heap.size,1,none⟩) (by show w.heap.size≠w2.heap.size;omega) _)
     have HB4:U6 w W4:=by rw[<-i];exact(Below.setCell m.o (p:=⟨w2.heap.size,1,none⟩) (by show w.heap.size<=w2.heap.size;omega) _)
     have O:v4.heap.size<=W4.heap.size:=by rw[<-i];simp[World.setCell]
     clear j b l m;have A:Bk W4 (w.heap.size+1) 229 #[.string ⟨#[]⟩,.bool false]:=HR4.o;obtain⟨q0,q1,_,_⟩:=A.two;have C:Hid (ObM W4 W4.heap.size ⟨4,data,[],zD,[],⟨#[]⟩,0,⟨#[]⟩⟩ ⟨none,0,0,none,0,0⟩):=⟨Sl.nil _ _ _ _,Sl.nil _ _ _ _,Nat.le_refl _,ZX _,Nat.le_refl _,ZX _⟩
     have t:=ai (oQ ⟨4,data,[],zD,[],⟨#[]⟩,0,⟨#[]⟩⟩ ⟨none,0,0,none,0,0⟩ W4.heap.size W4 C.o aj HO.o);simp only[obV,obC]at t;obtain⟨k0,k1,k2,k3,k4,k5,k6,k7,k8⟩:=u.o.nine;go_wp2_with fail;refine t.o.mono ?_;rintro e w8 ⟨rfl,hb8⟩;have D:=ai (u.o.below hb8 u.o.lt);have n:=ai (z.o.below hb8 z.o.lt);have E:U6 w w8:=HB4.o.trans (hb8.mono HB4.o.size);have P:=ai ((C.o.below hb8 aj).more hb8.size);have z8:w.heap.size<w8.heap.size:=n.o.lt;clear c0 c1 c2 c3 c4 c5 c6 c7 c8 k0 k1 k2 k3 k4 k5 k6 k7 k8 q0 q1 A hb8 t i;obtain⟨c0,c1,c2,c3,c4,c5,c6,c7,c8⟩:=D.o.nine;obtain⟨d0,d1,d2,d3,d4,d5,d6,d7,d8⟩:=n.o.nine;obtain⟨f0,f1,f2,f3,f4,f5,f6,f7,f8⟩:=fr9 n.o;have hne:w.heap.size≠w2.heap.size:=by omega
     go_wp2_with fail;refine ZW (fC Tryz.results81 rfl (fD n.o _ _ _ _ _ _ _ _ _) rfl) rfl ⟨⟨none,0,0,none,0,0⟩,rfl,?_,fB E.o aj _ _ _ _ _ _ _ _ _,NewO.none _ _ rfl,NewP.none _ _ rfl⟩;exact⟨Sl.nil _ _ _ _,Sl.nil _ _ _ _,Nat.le_refl _,ZX _,Nat.le_refl _,ZX _⟩
 | tree k d c e =>
   have g:aI o=ak 2++ (ak o.ents.length++ (o.ents.flatMap aU++ [])):=by unfold aI gY;rw[if_pos k,k,List.append_nil];rfl
   obtain⟨h1,h2,h3,h4,h5⟩:=c;obtain⟨kind,data,ents,tree,pars,auth,time,msg⟩:=o;simp only at k e h1 h2 h3 h4 h5 d g;subst k d h1 h2 h3 h4 h5;obtain⟨s,hs⟩:=NX9 (ofL (aI (⟨2,⟨#[]⟩,ents,zD,[],⟨#[]⟩,0,⟨#[]⟩⟩:Ob)))
   rw[hs];have hlr: (ak 2++ (ak ents.length++ (ents.flatMap aU++ []))).length<=1000000:=by rw[<-g];omega
   have hle: (ak ents.length++ (ents.flatMap aU++ [])).length<=1000000:=by rw[af]at hlr;omega
   obtain⟨W1,hW1⟩:=NX9 ((w.alloc (.cells #[.int .i64 0,.string ⟨#[]⟩,.slice none 0 0,.int .u64 0,.int .u64 0,.slice none 0 0,.string ⟨#[]⟩,.int .i64 0,.string ⟨#[]⟩] 109)).alloc (.cells #[.string s,.bool false] 229))
   have HZ1:Hid (Bk W1 w.heap.size 109 #[.int .i64 0,.string ⟨#[]⟩,.slice none 0 0,.int .u64 0,.int .u64 0,.slice none 0 0,.string ⟨#[]⟩,.int .i64 0,.string ⟨#[]⟩]):=by rw[<-hW1];exact(Bk.new w _ _).alloc _
   have HR1:Hid (Rdr W1 (w.heap.size+1) (ak 2++ (ak ents.length++ (ents.flatMap aU++ [])))):=by
    show Bk _ _ _ _;rw[<-g,hs,<-hW1];have:=Bk.new (w.alloc (.cells #[.int .i64 0,.string ⟨#[]⟩,.slice none 0 0,.int .u64 0,.int .u64 0,.slice none 0 0,.string ⟨#[]⟩,.int .i64 0,.string ⟨#[]⟩] 109)) 229 #[.string s,.bool false]
    rwa[Z9]at this
   have HB1:U6 w W1:=by rw[<-hW1];exact((ah _ w).alloc aj _).alloc (by simp) _
   have M:W1.heap.size=w.heap.size+2:=by rw[<-hW1];simp
   have x:=ai (ou (w.heap.size+1) 2 (ak ents.length++ (ents.flatMap aU++ [])) W1 HR1.o (by omega) hlr);clear hs g hlr
   go_enter Tryz.func81,Tryz.ntmps81
   go_wp2_with fail;refine x.o.mono ?_;rintro e w2 ⟨rfl,hr,hg⟩;have HR2:=ai hr;have HG2:U6 w w2:=HB1.o.trans (hg.below (by omega) (fun q hq e=>by omega));have HZ2:=ai (hg.bk HZ1.o (by show ¬w.heap.size=w.heap.size+1;omega));have z2:w.heap.size+2<=w2.heap.size:=by have:=hg.size;omega
   clear hr hg hW1 x HB1 HZ1 HR1;obtain⟨W3,hW3⟩:=NX9 (w2.alloc (.cells #[.int .i64 2,.string ⟨#[]⟩,.slice none 0 0,.int .u64 0,.int .u64 0,.slice none 0 0,.string ⟨#[]⟩,.int .i64 0,.string ⟨#[]⟩] 109))
   have hb3:U0 w2 W3:=by rw[<-hW3];exact(ah _ w2).alloc aj _
   have r:Hid (Bk W3 w2.heap.size 109 #[.int .i64 2,.string ⟨#[]⟩,.slice none 0 0,.int .u64 0,.int .u64 0,.slice none 0 0,.string ⟨#[]⟩,.int .i64 0,.string ⟨#[]⟩]):=by rw[<-hW3];exact Bk.new w2 _ _
   have HR3:Hid (Rdr W3 (w.heap.size+1) (ak ents.length++ (ents.flatMap aU++ []))):=Bk.below HR2.o hb3 (by omega);have HZ3:=ai (HZ2.o.below hb3 (by omega));have HB3:U6 w W3:=HG2.o.trans (hb3.mono (by omega));have z3:W3.heap.size=w2.heap.size+1:=by rw[<-hW3];simp
   have c0:=r.o.nine.1;rw[<-hW3]at c0;have HW3:=ai hW3;clear hb3 hW3 HR2 HZ2 HG2;have y:=ai (MK (w.heap.size+1) ents [] W3 HR3.o e.all e.few hle);go_wp2_with fail;rw[HW3.o];refine y.o.mono ?_;rintro e v4 ⟨A4,F,rfl,hn4,hm4,hap,hr,hg⟩;have j:=ai hr;have b:=ai (hg.bk r.o (by show ¬w2.heap.size=w.heap.size+1;omega));have l:=ai (hg.bk HZ3.o (by show ¬w.heap.size=w.heap.size+1;omega));have m:U6 w v4:=HB3.o.trans (hg.below (by have:=HB3.o.size;omega) (fun q hq e=>by omega));have N:=hg.size;have v:=ai hap;clear c0 hr hg hap y HB3 HZ3 r HR3;obtain⟨c0,c1,c2,c3,c4,c5,c6,c7,c8⟩:=b.o.nine;have f2:=b.o.free 2;obtain⟨W4,i⟩:=NX9 ((v4.setCell ⟨w2.heap.size,2,none⟩ (.slice A4 ents.length F)))
   have u:Hid (Bk W4 w2.heap.size 109 #[.int .i64 2,.string ⟨#[]⟩,.slice A4 ents.length F,.int .u64 0,.int .u64 0,.slice none 0 0,.string ⟨#[]⟩,.int .i64 0,.string ⟨#[]⟩]):=by rw[<-i];have:=(b.o.set 2 (.slice A4 ents.length F));show Bk _ _ _ _;simpa using this
   have HR4:Hid (Rdr W4 (w.heap.size+1) ([])):=by rw[<-i];exact(Bk.far j.o (p:=⟨w2.heap.size,2,none⟩) (by show w.heap.size+1≠w2.heap.size;omega) _)
   have z:Hid (Bk W4 w.heap.size 109 #[.int .i64 0,.string ⟨#[]⟩,.slice none 0 0,.int .u64 0,.int .u64 0,.slice none 0 0,.string ⟨#[]⟩,.int .i64 0,.string ⟨#[]⟩]):=by rw[<-i];exact(Bk.far l.o (p:=⟨w2.heap.size,2,none⟩) (by show w.heap.size≠w2.heap.size;omega) _)
   have HB4:U6 w W4:=by rw[<-i];exact(Below.setCell m.o (p:=⟨w2.heap.size,2,none⟩) (by show w.heap.size<=w2.heap.size;omega) _)
   have O:v4.heap.size<=W4.heap.size:=by rw[<-i];simp[World.setCell]
   have Q:=ai ((Apd.setCell v.o (a:=⟨w2.heap.size,2,none⟩) (by show w2.heap.size<_;omega) (.slice A4 ents.length F)));rw[i]at Q;clear j b l m v;have A:Bk W4 (w.heap.size+1) 229 #[.string ⟨#[]⟩,.bool false]:=HR4.o;obtain⟨q0,q1,_,_⟩:=A.two;have C:Hid (ObM W4 W4.heap.size ⟨2,⟨#[]⟩,ents,zD,[],⟨#[]⟩,0,⟨#[]⟩⟩ ⟨A4,ents.length,F,none,0,0⟩):=⟨Q.o.sl,Sl.nil _ _ _ _,hn4,hm4,Nat.le_refl _,ZX _⟩
   have t:=ai (oQ ⟨2,⟨#[]⟩,ents,zD,[],⟨#[]⟩,0,⟨#[]⟩⟩ ⟨A4,ents.length,F,none,0,0⟩ W4.heap.size W4 C.o aj HO.o);simp only[obV,obC]at t;obtain⟨k0,k1,k2,k3,k4,k5,k6,k7,k8⟩:=u.o.nine;go_wp2_with fail;refine t.o.mono ?_;rintro e w8 ⟨rfl,hb8⟩;have D:=ai (u.o.below hb8 u.o.lt);have n:=ai (z.o.below hb8 z.o.lt);have E:U6 w w8:=HB4.o.trans (hb8.mono HB4.o.size);have P:=ai ((C.o.below hb8 aj).more hb8.size);have z8:w.heap.size<w8.heap.size:=n.o.lt;have K:=ai (Q.o.below hb8);clear c0 c1 c2 c3 c4 c5 c6 c7 c8 k0 k1 k2 k3 k4 k5 k6 k7 k8 q0 q1 A hb8 t i;obtain⟨c0,c1,c2,c3,c4,c5,c6,c7,c8⟩:=D.o.nine;obtain⟨d0,d1,d2,d3,d4,d5,d6,d7,d8⟩:=n.o.nine;obtain⟨f0,f1,f2,f3,f4,f5,f6,f7,f8⟩:=fr9 n.o;have hne:w.heap.size≠w2.heap.size:=by omega
   go_wp2_with fail;refine ZW (fC Tryz.results81 rfl (fD n.o _ _ _ _ _ _ _ _ _) rfl) rfl ⟨⟨A4,ents.length,F,none,0,0⟩,rfl,?_,fB E.o aj _ _ _ _ _ _ _ _ _,(K.o.set9 (by omega) _ _ _ _ _ _ _ _ _).newO (by omega) ⟨rfl,rfl,rfl⟩,NewP.none _ _ rfl⟩;exact⟨(K.o.set9 (by omega) _ _ _ _ _ _ _ _ _).sl,Sl.nil _ _ _ _,hn4,hm4,Nat.le_refl _,ZX _⟩
 | commit k d e c =>
   have g:aI o=ak 3++ (ay o.tree++ (ak o.pars.length++ (o.pars.flatMap ay++ (ax (toL o.auth)++ (ak o.time.toNat++ (ax (toL o.msg)++ [])))))):=by unfold aI gY;rw[if_neg (by omega),if_pos k,k,List.append_nil];rfl
   obtain⟨kind,data,ents,⟨t1,t2⟩,pars,auth,time,msg⟩:=o;simp only at k e d g;subst k d e;have ht0:0<=time:=c.t0;obtain⟨tn,htn⟩:=Int.eq_ofNat_of_zero_le ht0;subst htn;have ht1: (tn:Int)<=1099511627776:=c.t1;have htn:tn<=1099511627776:=by omega
   have lq:auth.size<=24:=iV c.auth;have nz:msg.size<=200:=c.msg;have hwt:WfD (t1,t2):=c.wf;have W:Hid (zQ pars):=c.pars;simp only[Int.toNat_natCast]at g;clear c ht0 ht1;obtain⟨s,hs⟩:=NX9 (ofL (aI (⟨3,⟨#[]⟩,[],(t1,t2),pars,auth,(tn:Int),msg⟩:Ob)))
   rw[hs];have hlr: (ak 3++ (ay (t1,t2)++ (ak pars.length++ (pars.flatMap ay++ (ax (toL auth)++ (ak tn++ (ax (toL msg)++ []))))))).length<=1000000:=by rw[<-g];omega
   have hle: (ay (t1,t2)++ (ak pars.length++ (pars.flatMap ay++ (ax (toL auth)++ (ak tn++ (ax (toL msg)++ [])))))).length<=1000000:=by rw[af]at hlr;omega
   obtain⟨W1,hW1⟩:=NX9 ((w.alloc (.cells #[.int .i64 0,.string ⟨#[]⟩,.slice none 0 0,.int .u64 0,.int .u64 0,.slice none 0 0,.string ⟨#[]⟩,.int .i64 0,.string ⟨#[]⟩] 109)).alloc (.cells #[.string s,.bool false] 229))
   have HZ1:Hid (Bk W1 w.heap.size 109 #[.int .i64 0,.string ⟨#[]⟩,.slice none 0 0,.int .u64 0,.int .u64 0,.slice none 0 0,.string ⟨#[]⟩,.int .i64 0,.string ⟨#[]⟩]):=by rw[<-hW1];exact(Bk.new w _ _).alloc _
   have HR1:Hid (Rdr W1 (w.heap.size+1) (ak 3++ (ay (t1,t2)++ (ak pars.length++ (pars.flatMap ay++ (ax (toL auth)++ (ak tn++ (ax (toL msg)++ [])))))))):=by
    show Bk _ _ _ _;rw[<-g,hs,<-hW1];have:=Bk.new (w.alloc (.cells #[.int .i64 0,.string ⟨#[]⟩,.slice none 0 0,.int .u64 0,.int .u64 0,.slice none 0 0,.string ⟨#[]⟩,.int .i64 0,.string ⟨#[]⟩] 109)) 229 #[.string s,.bool false]
    rwa[Z9]at this
   have HB1:U6 w W1:=by rw[<-hW1];exact((ah _ w).alloc aj _).alloc (by simp) _
   have M:W1.heap.size=w.heap.size+2:=by rw[<-hW1];simp
   have x:=ai (ou (w.heap.size+1) 3 (ay (t1,t2)++ (ak pars.length++ (pars.flatMap ay++ (ax (toL auth)++ (ak tn++ (ax (toL msg)++ [])))))) W1 HR1.o (by omega) hlr);clear hs g hlr
   go_enter Tryz.func81,Tryz.ntmps81
   go_wp2_with fail;refine x.o.mono ?_;rintro e w2 ⟨rfl,hr,hg⟩;have HR2:=ai hr;have HG2:U6 w w2:=HB1.o.trans (hg.below (by omega) (fun q hq e=>by omega));have HZ2:=ai (hg.bk HZ1.o (by show ¬w.heap.size=w.heap.size+1;omega));have z2:w.heap.size+2<=w2.heap.size:=by have:=hg.size;omega
   clear hr hg hW1 x HB1 HZ1 HR1;obtain⟨W3,hW3⟩:=NX9 (w2.alloc (.cells #[.int .i64 3,.string ⟨#[]⟩,.slice none 0 0,.int .u64 0,.int .u64 0,.slice none 0 0,.string ⟨#[]⟩,.int .i64 0,.string ⟨#[]⟩] 109))
   have hb3:U0 w2 W3:=by rw[<-hW3];exact(ah _ w2).alloc aj _
   have r:Hid (Bk W3 w2.heap.size 109 #[.int .i64 3,.string ⟨#[]⟩,.slice none 0 0,.int .u64 0,.int .u64 0,.slice none 0 0,.string ⟨#[]⟩,.int .i64 0,.string ⟨#[]⟩]):=by rw[<-hW3];exact Bk.new w2 _ _
   have HR3:Hid (Rdr W3 (w.heap.size+1) (ay (t1,t2)++ (ak pars.length++ (pars.flatMap ay++ (ax (toL auth)++ (ak tn++ (ax (toL msg)++ []))))))):=Bk.below HR2.o hb3 (by omega);have HZ3:=ai (HZ2.o.below hb3 (by omega));have HB3:U6 w W3:=HG2.o.trans (hb3.mono (by omega));have z3:W3.heap.size=w2.heap.size+1:=by rw[<-hW3];simp
   have c0:=r.o.nine.1;rw[<-hW3]at c0;have HW3:=ai hW3;clear hb3 hW3 HR2 HZ2 HG2;have hl3: (ak pars.length++ (pars.flatMap ay++ (ax (toL auth)++ (ak tn++ (ax (toL msg)++ []))))).length<=1000000:=by
    have h:=hle;simp only[af]at h ⊢;omega
   have hl2: (ax (toL auth)++ (ak tn++ (ax (toL msg)++ []))).length<=1000000:=by
    have h:=hle;simp only[af]at h ⊢;omega
   have hl1: (ak tn++ (ax (toL msg)++ [])).length<=1000000:=by
    have h:=hle;simp only[af]at h ⊢;omega
   have hl0: (ax (toL msg)++ []).length<=1000000:=by
    have h:=hle;simp only[af]at h ⊢;omega
   have y:=ai (JW (w.heap.size+1) (t1,t2) (ak pars.length++ (pars.flatMap ay++ (ax (toL auth)++ (ak tn++ (ax (toL msg)++ []))))) W3 HR3.o hwt hle);go_wp2_with fail;rw[HW3.o];refine y.o.mono ?_;rintro e v4 ⟨rfl,hr,hg⟩;simp only[aA];have j:=ai hr;have b:=ai (hg.bk r.o (by show ¬w2.heap.size=w.heap.size+1;omega));have l:=ai (hg.bk HZ3.o (by show ¬w.heap.size=w.heap.size+1;omega));have m:U6 w v4:=HB3.o.trans (hg.below (by have:=HB3.o.size;omega) (fun q hq e=>by omega));have N:=hg.size;clear c0 hr hg y HB3 HZ3 r HR3;obtain⟨c0,c1,c2,c3,c4,c5,c6,c7,c8⟩:=b.o.nine;have f3:=b.o.free 3;have f4:=b.o.free 4;obtain⟨W4,i⟩:=NX9 (((v4.setCell ⟨w2.heap.size,3,none⟩ (.int .u64 t1)).setCell ⟨w2.heap.size,4,none⟩ (.int .u64 t2)))
   have u:Hid (Bk W4 w2.heap.size 109 #[.int .i64 3,.string ⟨#[]⟩,.slice none 0 0,.int .u64 t1,.int .u64 t2,.slice none 0 0,.string ⟨#[]⟩,.int .i64 0,.string ⟨#[]⟩]):=by rw[<-i];have:=((b.o.set 3 (.int .u64 t1)).set 4 (.int .u64 t2));show Bk _ _ _ _;simpa using this
   have HR4:Hid (Rdr W4 (w.heap.size+1) (ak pars.length++ (pars.flatMap ay++ (ax (toL auth)++ (ak tn++ (ax (toL msg)++ [])))))):=by rw[<-i];exact(Bk.far (Bk.far j.o (p:=⟨w2.heap.size,3,none⟩) (by show w.heap.size+1≠w2.heap.size;omega) _) (p:=⟨w2.heap.size,4,none⟩) (by show w.heap.size+1≠w2.heap.size;omega) _)
   have z:Hid (Bk W4 w.heap.size 109 #[.int .i64 0,.string ⟨#[]⟩,.slice none 0 0,.int .u64 0,.int .u64 0,.slice none 0 0,.string ⟨#[]⟩,.int .i64 0,.string ⟨#[]⟩]):=by rw[<-i];exact(Bk.far (Bk.far l.o (p:=⟨w2.heap.size,3,none⟩) (by show w.heap.size≠w2.heap.size;omega) _) (p:=⟨w2.heap.size,4,none⟩) (by show w.heap.size≠w2.heap.size;omega) _)
   have HB4:U6 w W4:=by rw[<-i];exact(Below.setCell (Below.setCell m.o (p:=⟨w2.heap.size,3,none⟩) (by show w.heap.size<=w2.heap.size;omega) _) (p:=⟨w2.heap.size,4,none⟩) (by show w.heap.size<=w2.heap.size;omega) _)
   have O:v4.heap.size<=W4.heap.size:=by rw[<-i];simp[World.setCell]
   clear j b l m;have X:=ai (KT (w.heap.size+1) pars (ax (toL auth)++ (ak tn++ (ax (toL msg)++ []))) W4 HR4.o W.o.wf W.o.few hl3);go_wp2_with fail;refine X.o.mono ?_;rintro e v5 ⟨A5,B,rfl,Y,Z,hap,hr,hg⟩;have j:=ai hr;have b:=ai (hg.bk u.o (by show ¬w2.heap.size=w.heap.size+1;omega));have l:=ai (hg.bk z.o (by show ¬w.heap.size=w.heap.size+1;omega));have m:U6 w v5:=HB4.o.trans (hg.below (by have:=HB4.o.size;omega) (fun q hq e=>by omega));have nO:=hg.size;have v:=ai hap;clear hr hg hap X HB4 z u HR4 i;obtain⟨c0,c1,c2,c3,c4,c5,c6,c7,c8⟩:=b.o.nine;have f5:=b.o.free 5;obtain⟨W5,G⟩:=NX9 ((v5.setCell ⟨w2.heap.size,5,none⟩ (.slice A5 pars.length B)))
   have ag:Hid (Bk W5 w2.heap.size 109 #[.int .i64 3,.string ⟨#[]⟩,.slice none 0 0,.int .u64 t1,.int .u64 t2,.slice A5 pars.length B,.string ⟨#[]⟩,.int .i64 0,.string ⟨#[]⟩]):=by rw[<-G];have:=(b.o.set 5 (.slice A5 pars.length B));show Bk _ _ _ _;simpa using this
   have au:Hid (Rdr W5 (w.heap.size+1) (ax (toL auth)++ (ak tn++ (ax (toL msg)++ [])))):=by rw[<-G];exact(Bk.far j.o (p:=⟨w2.heap.size,5,none⟩) (by show w.heap.size+1≠w2.heap.size;omega) _)
   have bf:Hid (Bk W5 w.heap.size 109 #[.int .i64 0,.string ⟨#[]⟩,.slice none 0 0,.int .u64 0,.int .u64 0,.slice none 0 0,.string ⟨#[]⟩,.int .i64 0,.string ⟨#[]⟩]):=by rw[<-G];exact(Bk.far l.o (p:=⟨w2.heap.size,5,none⟩) (by show w.heap.size≠w2.heap.size;omega) _)
   have R:U6 w W5:=by rw[<-G];exact(Below.setCell m.o (p:=⟨w2.heap.size,5,none⟩) (by show w.heap.size<=w2.heap.size;omega) _)
   have nU:v5.heap.size<=W5.heap.size:=by rw[<-G];simp[World.setCell]
   have bg:=ai ((Apd.setCell v.o (a:=⟨w2.heap.size,5,none⟩) (by show w2.heap.size<_;omega) (.slice A5 pars.length B)));rw[G]at bg;clear j b l m v;have bn:=ai (qZ (w.heap.size+1) auth (ak tn++ (ax (toL msg)++ [])) W5 au.o (by omega) hl2);go_wp2_with fail;refine bn.o.mono ?_;rintro e v6 ⟨rfl,hr,hg⟩;have j:=ai hr;have b:=ai (hg.bk ag.o (by show ¬w2.heap.size=w.heap.size+1;omega));have l:=ai (hg.bk bf.o (by show ¬w.heap.size=w.heap.size+1;omega));have m:U6 w v6:=R.o.trans (hg.below (by have:=R.o.size;omega) (fun q hq e=>by omega));have oO:=hg.size;have v:=ai (bg.o.gb hg (by omega));clear hr hg bn R bf ag au G;obtain⟨c0,c1,c2,c3,c4,c5,c6,c7,c8⟩:=b.o.nine;have f6:=b.o.free 6;obtain⟨W6,H⟩:=NX9 ((v6.setCell ⟨w2.heap.size,6,none⟩ (.string auth)))
   have bz:Hid (Bk W6 w2.heap.size 109 #[.int .i64 3,.string ⟨#[]⟩,.slice none 0 0,.int .u64 t1,.int .u64 t2,.slice A5 pars.length B,.string auth,.int .i64 0,.string ⟨#[]⟩]):=by rw[<-H];have:=(b.o.set 6 (.string auth));show Bk _ _ _ _;simpa using this
   have cu:Hid (Rdr W6 (w.heap.size+1) (ak tn++ (ax (toL msg)++ []))):=by rw[<-H];exact(Bk.far j.o (p:=⟨w2.heap.size,6,none⟩) (by show w.heap.size+1≠w2.heap.size;omega) _)
   have cO:Hid (Bk W6 w.heap.size 109 #[.int .i64 0,.string ⟨#[]⟩,.slice none 0 0,.int .u64 0,.int .u64 0,.slice none 0 0,.string ⟨#[]⟩,.int .i64 0,.string ⟨#[]⟩]):=by rw[<-H];exact(Bk.far l.o (p:=⟨w2.heap.size,6,none⟩) (by show w.heap.size≠w2.heap.size;omega) _)
   have S:U6 w W6:=by rw[<-H];exact(Below.setCell m.o (p:=⟨w2.heap.size,6,none⟩) (by show w.heap.size<=w2.heap.size;omega) _)
   have oU:v6.heap.size<=W6.heap.size:=by rw[<-H];simp[World.setCell]
   have dn:=ai ((Apd.setCell v.o (a:=⟨w2.heap.size,6,none⟩) (by show w2.heap.size<_;omega) (.string auth)));rw[H]at dn;clear j b l m v;have dN:=ai (ou (w.heap.size+1) tn (ax (toL msg)++ []) W6 cu.o htn hl1);go_wp2_with fail;refine dN.o.mono ?_;rintro e v7 ⟨rfl,hr,hg⟩;have j:=ai hr;have b:=ai (hg.bk bz.o (by show ¬w2.heap.size=w.heap.size+1;omega));have l:=ai (hg.bk cO.o (by show ¬w.heap.size=w.heap.size+1;omega));have m:U6 w v7:=S.o.trans (hg.below (by have:=S.o.size;omega) (fun q hq e=>by omega));have qc:=hg.size;have v:=ai (dn.o.gb hg (by omega));clear hr hg dN S cO bz cu H;obtain⟨c0,c1,c2,c3,c4,c5,c6,c7,c8⟩:=b.o.nine;have f7:=b.o.free 7;obtain⟨W7,I⟩:=NX9 ((v7.setCell ⟨w2.heap.size,7,none⟩ (.int .i64 (tn:Int))))
   have ed:Hid (Bk W7 w2.heap.size 109 #[.int .i64 3,.string ⟨#[]⟩,.slice none 0 0,.int .u64 t1,.int .u64 t2,.slice A5 pars.length B,.string auth,.int .i64 (tn:Int),.string ⟨#[]⟩]):=by rw[<-I];have:=(b.o.set 7 (.int .i64 (tn:Int)));show Bk _ _ _ _;simpa using this
   have fA:Hid (Rdr W7 (w.heap.size+1) (ax (toL msg)++ [])):=by rw[<-I];exact(Bk.far j.o (p:=⟨w2.heap.size,7,none⟩) (by show w.heap.size+1≠w2.heap.size;omega) _)
   have fO:Hid (Bk W7 w.heap.size 109 #[.int .i64 0,.string ⟨#[]⟩,.slice none 0 0,.int .u64 0,.int .u64 0,.slice none 0 0,.string ⟨#[]⟩,.int .i64 0,.string ⟨#[]⟩]):=by rw[<-I];exact(Bk.far l.o (p:=⟨w2.heap.size,7,none⟩) (by show w.heap.size≠w2.heap.size;omega) _)
   have T:U6 w W7:=by rw[<-I];exact(Below.setCell m.o (p:=⟨w2.heap.size,7,none⟩) (by show w.heap.size<=w2.heap.size;omega) _)
   have qx:v7.heap.size<=W7.heap.size:=by rw[<-I];simp[World.setCell]
   have fU:=ai ((Apd.setCell v.o (a:=⟨w2.heap.size,7,none⟩) (by show w2.heap.size<_;omega) (.int .i64 (tn:Int))));rw[I]at fU;clear j b l m v;have gu:=ai (qZ (w.heap.size+1) msg [] W7 fA.o (by omega) hl0);go_wp2_with fail;refine gu.o.mono ?_;rintro e v9 ⟨rfl,hr,hg⟩;have j:=ai hr;have b:=ai (hg.bk ed.o (by show ¬w2.heap.size=w.heap.size+1;omega));have l:=ai (hg.bk fO.o (by show ¬w.heap.size=w.heap.size+1;omega));have m:U6 w v9:=T.o.trans (hg.below (by have:=T.o.size;omega) (fun q hq e=>by omega));have qA:=hg.size;have v:=ai (fU.o.gb hg (by omega));clear hr hg gu T fO ed fA I;obtain⟨c0,c1,c2,c3,c4,c5,c6,c7,c8⟩:=b.o.nine;have f8:=b.o.free 8;obtain⟨L,J⟩:=NX9 ((v9.setCell ⟨w2.heap.size,8,none⟩ (.string msg)))
   have U:Hid (Bk L w2.heap.size 109 #[.int .i64 3,.string ⟨#[]⟩,.slice none 0 0,.int .u64 t1,.int .u64 t2,.slice A5 pars.length B,.string auth,.int .i64 (tn:Int),.string msg]):=by rw[<-J];have:=(b.o.set 8 (.string msg));show Bk _ _ _ _;simpa using this
   have lg:Hid (Rdr L (w.heap.size+1) ([])):=by rw[<-J];exact(Bk.far j.o (p:=⟨w2.heap.size,8,none⟩) (by show w.heap.size+1≠w2.heap.size;omega) _)
   have iU:Hid (Bk L w.heap.size 109 #[.int .i64 0,.string ⟨#[]⟩,.slice none 0 0,.int .u64 0,.int .u64 0,.slice none 0 0,.string ⟨#[]⟩,.int .i64 0,.string ⟨#[]⟩]):=by rw[<-J];exact(Bk.far l.o (p:=⟨w2.heap.size,8,none⟩) (by show w.heap.size≠w2.heap.size;omega) _)
   have ku:U6 w L:=by rw[<-J];exact(Below.setCell m.o (p:=⟨w2.heap.size,8,none⟩) (by show w.heap.size<=w2.heap.size;omega) _)
   have rf:v9.heap.size<=L.heap.size:=by rw[<-J];simp[World.setCell]
   have V:=ai ((Apd.setCell v.o (a:=⟨w2.heap.size,8,none⟩) (by show w2.heap.size<_;omega) (.string msg)));rw[J]at V;clear j b l m v;have A:Bk L (w.heap.size+1) 229 #[.string ⟨#[]⟩,.bool false]:=lg.o;obtain⟨q0,q1,_,_⟩:=A.two;have kU:Hid (ObM L L.heap.size ⟨3,⟨#[]⟩,[],(t1,t2),pars,auth,(tn:Int),msg⟩ ⟨none,0,0,A5,pars.length,B⟩):=⟨Sl.nil _ _ _ _,V.o.sl,Nat.le_refl _,ZX _,Y,Z⟩
   have t:=ai (oQ ⟨3,⟨#[]⟩,[],(t1,t2),pars,auth,(tn:Int),msg⟩ ⟨none,0,0,A5,pars.length,B⟩ L.heap.size L kU.o aj HO.o);simp only[obV,obC]at t;obtain⟨k0,k1,k2,k3,k4,k5,k6,k7,k8⟩:=U.o.nine;go_wp2_with fail;refine t.o.mono ?_;rintro e w8 ⟨rfl,hb8⟩;have D:=ai (U.o.below hb8 U.o.lt);have n:=ai (iU.o.below hb8 iU.o.lt);have E:U6 w w8:=ku.o.trans (hb8.mono ku.o.size);have P:=ai ((kU.o.below hb8 aj).more hb8.size);have z8:w.heap.size<w8.heap.size:=n.o.lt;have K:=ai (V.o.below hb8);clear c0 c1 c2 c3 c4 c5 c6 c7 c8 k0 k1 k2 k3 k4 k5 k6 k7 k8 q0 q1 A hb8 t J;obtain⟨c0,c1,c2,c3,c4,c5,c6,c7,c8⟩:=D.o.nine;obtain⟨d0,d1,d2,d3,d4,d5,d6,d7,d8⟩:=n.o.nine;obtain⟨f0,f1,f2,f3,f4,f5,f6,f7,f8⟩:=fr9 n.o;have hne:w.heap.size≠w2.heap.size:=by omega
   go_wp2_with fail;refine ZW (fC Tryz.results81 rfl (fD n.o _ _ _ _ _ _ _ _ _) rfl) rfl ⟨⟨none,0,0,A5,pars.length,B⟩,rfl,?_,fB E.o aj _ _ _ _ _ _ _ _ _,NewO.none _ _ rfl,(K.o.set9 (by omega) _ _ _ _ _ _ _ _ _).newP (by omega) ⟨rfl,rfl,rfl⟩⟩;exact⟨Sl.nil _ _ _ _,(K.o.set9 (by omega) _ _ _ _ _ _ _ _ _).sl,Nat.le_refl _,ZX _,Y,Z⟩
theorem yt(b:Nat)(w:UW)(y0 y1 y2 y3 y4 y5 y6 y7 y8:UY)(k:Nat)(hk:k≠b): ((((((((((w.setCell ⟨b,0,none⟩ y0).setCell ⟨b,1,none⟩ y1).setCell ⟨b,2,none⟩ y2).setCell ⟨b,3,none⟩ y3).setCell ⟨b,4,none⟩ y4).setCell ⟨b,5,none⟩ y5).setCell ⟨b,6,none⟩ y6).setCell ⟨b,7,none⟩ y7).setCell ⟨b,8,none⟩ y8)).heap[k]? =w.heap[k]? :=by
 have h:=fun(W:UW)(i:Nat)(y:UY)=>Z8 W ⟨b,i,none⟩ y k hk;rw[h,h,h,h,h,h,h,h,h]
theorem Sl.ne{w w':UW}{B size n b:Nat}{A:OA}{xs:List UY}(h:Sl w B size A n xs)(hn:∀a,0<n->A=some a->a.block≠b)(hw:∀k,k≠b->w'.heap[k]? =w.heap[k]?):Sl w' B size A n xs:=by
 refine⟨h.1,fun h0=>?_⟩;obtain⟨b',off,rfl,hb',hc⟩:=h.2 h0;have hne:=hn _ h0 rfl;exact⟨b',off,rfl,hb',fun j u hu=>(World.cell?_of_block (hw b' hne)).trans (hc j u hu)⟩
def zrC:Array UY:=#[.int .i64 0,.string ⟨#[]⟩,.slice none 0 0,.int .u64 0,.int .u64 0,.slice none 0 0,.string ⟨#[]⟩,.int .i64 0,.string ⟨#[]⟩]
theorem OY:∀(i:Nat)(v:Bool),zrC[i]? ≠some (.bool v)
 | 0,_ | 1,_ | 2,_ | 3,_ | 4,_ | 5,_ | 6,_ | 7,_ | 8,_=>by simp[zrC]
 | i+9,_=>by simp[zrC]
theorem QP:∀(i:Nat)(x y:Int),zrC[i]? =some (.int .u64 x)->zrC[i+1]? =some (.int .u64 y)->x=0/\y=0
 | 0,_,_ | 1,_,_ | 2,_,_ | 4,_,_ | 5,_,_ | 6,_,_ | 7,_,_ | 8,_,_=>by simp[zrC]
 | 3,_,_=>by simp[zrC];omega
 | i+9,_,_=>by simp[zrC]
theorem RN{o:Ob}(ho:OkO o):∀d∈o.pars,d≠zD:=by
 cases ho.f with
 | blob _ _ c _=>rw[c.pars];intro d h;cases h
 | tree _ _ c _=>rw[c.pars];intro d h;cases h
 | commit _ _ _ c=>exact c.pars.nz
theorem ObM.zero{w w':UW}{B b:Nat}{t:TypeId}{o:Ob}{s:Osl}(h:ObM w B o s)(ho:OkO o)(hz:Bk w b t zrC)(hw:∀k,k≠b->w'.heap[k]? =w.heap[k]?):ObM w' B o s:=by
 refine⟨h.e.ne (b:=b) ?_ hw,h.p.ne (b:=b) ?_ hw,h.ele,h.emx,h.ple,h.pmx⟩
 . rintro a h0 ha rfl
   obtain⟨b',off,e,rfl',_,_,_,h1,_⟩:=h.e.en h0;rw[ha]at rfl';cases rfl'
   rw[hz.cell]at h1;exact OY _ _ h1
 . rintro a h0 ha rfl
   obtain⟨b',off,d,rfl',_,hd,h1,h2⟩:=h.p.dg h0;rw[ha]at rfl';cases rfl'
   rw[hz.cell]at h1 h2;have:=QP _ _ _ h1 h2;exact RN ho d (Z7 hd) (by obtain⟨x,y⟩:=d;obtain⟨h1,h2⟩:=this;simp only at h1 h2;rw[h1,h2];rfl)
def zOb:Ob:=⟨0,⟨#[]⟩,[],zD,[],⟨#[]⟩,0,⟨#[]⟩⟩
def zOs:Osl:=⟨none,0,0,none,0,0⟩
def GeE(p:List Itm)(d:Dig)(w:UW)(e:Ending)(w':UW):Prop :=
 ((∃o s,aG p d=some o/\OkO o/\e= .returned (.tuple #[obV o s,.int .i64 0])/\ObM w' w'.heap.size o s/\NewO w' w.heap.size s/\NewP w' w.heap.size s)∨ (aG p d=none/\e= .returned (.tuple #[obV zOb zOs,.int .i64 8])))/\U0 w w'
theorem mG(A:OA)(n c B:Nat)(p:List Itm)(d:Dig)(w:UW)(h0:Sl w B 3 A n (flat itC p))(hB:B<=w.heap.size)(hn:n<=1000000)(hp:PlOk p) :
  Calls Tryz.prog 52 #[.slice A n c,aA d] w (GeE p d w):=by
 have HP:=ai hp;have HL:=ai (h0.len di (by omega));clear hp;obtain⟨d1,d2⟩:=d;obtain⟨W,hW⟩:=NX9 ((w.alloc (.cells #[.int .u64 d1,.int .u64 d2] 50)).alloc (.cells #[.int .i64 0,.string ⟨#[]⟩,.slice none 0 0,.int .u64 0,.int .u64 0,.slice none 0 0,.string ⟨#[]⟩,.int .i64 0,.string ⟨#[]⟩] 109))
 have HB0:U6 w W:=by rw[<-hW];exact((ah _ w).alloc aj _).alloc (by simp) _
 have HK:Hid (Bk W w.heap.size 50 #[.int .u64 d1,.int .u64 d2]):=by rw[<-hW];exact(Bk.new w _ _).alloc _
 have HZ:Hid (Bk W (w.heap.size+1) 109 #[.int .i64 0,.string ⟨#[]⟩,.slice none 0 0,.int .u64 0,.int .u64 0,.slice none 0 0,.string ⟨#[]⟩,.int .i64 0,.string ⟨#[]⟩]):=by
  rw[<-hW];have:=Bk.new (w.alloc (.cells #[.int .u64 d1,.int .u64 d2] 50)) 109 #[.int .i64 0,.string ⟨#[]⟩,.slice none 0 0,.int .u64 0,.int .u64 0,.slice none 0 0,.string ⟨#[]⟩,.int .i64 0,.string ⟨#[]⟩];rw[Z9]at this;exact this
 have HC:=ai (wP A n c B p (d1,d2) W (h0.below HB0.o hB) (ZY hB HB0.o.size) hn HP.o.asc);have H0:=ai h0;clear h0;have l:w.heap.size+2=W.heap.size:=by rw[<-hW];simp
 have HW:=ai hW;clear hW;unfold BsE at HC;simp only[aA]at HC ⊢;obtain⟨x0,x1,_,_⟩:=HK.o.two;cases hf:bM p (d1,d2) with
 | none =>
   have HN:Hid (aG p (d1,d2)=none):=getP_none.2 hf;rw[hf]at HC;simp only[Option.isSome_none]at HC;clear hf
   go_enter Tryz.func52,Tryz.ntmps52
   go_wp2_with fail;rw[HW.o];refine HC.o.mono ?_;rintro e w2 ⟨rfl,hb⟩;have HZ2:=ai (HZ.o.below hb (by omega));have HB2:U6 w w2:=HB0.o.trans (hb.mono HB0.o.size);obtain⟨z0,z1,z2,z3,z4,z5,z6,z7,z8⟩:=HZ2.o.nine;obtain⟨g0,g1,g2,g3,g4,g5,g6,g7,g8⟩:=fr9 HZ2.o;clear hb HC;go_wp2_with fail;refine ZW (fC Tryz.results52 rfl (fD HZ2.o _ _ _ _ _ _ _ _ _) rfl) rfl ⟨.inr ⟨HN.o,rfl⟩,fB HB2.o (by omega) _ _ _ _ _ _ _ _ _⟩
 | some b =>
   have HM:Hid (((d1,d2),b)∈p):=(jB HP.o.asc).1 hf;obtain⟨o,ho,hbe⟩:=HP.o.enc _ HM.o;simp only at hbe;have HG:Hid (aG p (d1,d2)=some o):=(iw HP.o).2 ⟨ho,by rw[<-hbe];exact HM.o⟩;have HO:=ai ho;have HI:Hid (∃i,p[atD p (d1,d2)]? =some i/\i.2=b/\atD p (d1,d2)<n):=by
    unfold bM at hf;cases hi:p[atD p (d1,d2)]? with
    | none=>rw[hi]at hf;cases hf
    | some i =>
      rw[hi]at hf;simp only at hf;split at hf
      . exact⟨i,rfl,by cases hf;rfl,by rw[<-HL.o];exact(List.getElem?_eq_some_iff.1 hi).1⟩
      . cases hf
   obtain⟨i,hi,hib,hin⟩:=HI.o;rw[hf]at HC;simp only[Option.isSome_some]at HC;obtain⟨m,hm⟩:=NX9 (atD p (d1,d2))
   rw[hm]at HC hi hin;clear hf ho hm
   go_enter Tryz.func52,Tryz.ntmps52
   go_wp2_with fail;rw[HW.o];refine HC.o.mono ?_;rintro e w2 ⟨rfl,hb⟩;have HB2:U6 w w2:=HB0.o.trans (hb.mono HB0.o.size);have HZ2:=ai (HZ.o.below hb (by omega));obtain⟨bb,off,i',rfl,hbB,hx,y0,y1,y2⟩:=(H0.o.below HB2.o hB).it hin;rw[hi]at hx;obtain rfl:=Option.some.inj hx;rw[hib,hbe]at y2;have HD:=ai (qX o w2 HO.o);have j:=hb.size;clear hb HC hi hib hbe hx;have hmn: (m:Int)< (n:Int):=by omega
   go_wp2_with fail;refine HD.o.mono ?_;rintro e w3 ⟨s,rfl,a,hb3,hn3,hp3⟩;have f:Hid (NewP w3 w.heap.size s):=hp3.mono HB2.o.size;have g:Hid (NewO w3 w.heap.size s):=hn3.mono HB2.o.size;have HZ3:=ai (HZ2.o.below hb3 (by omega));have HB3:U6 w w3:=HB2.o.trans (hb3.mono HB2.o.size);have h:=ai a;simp only[obV,obC];obtain⟨z0,z1,z2,z3,z4,z5,z6,z7,z8⟩:=HZ3.o.nine;obtain⟨g0,g1,g2,g3,g4,g5,g6,g7,g8⟩:=fr9 HZ3.o;clear hb3 a hn3 hp3 HD;go_wp2_with fail;refine ZW (fC Tryz.results52 rfl (fD HZ3.o _ _ _ _ _ _ _ _ _) rfl) rfl ⟨.inl ⟨o,s,HG.o,HO.o,rfl,?_,?_,?_⟩,fB HB3.o (by omega) _ _ _ _ _ _ _ _ _⟩
   . have:=h.o.zero (t:=109) HO.o HZ3.o (fun k hk=>yt _ w3 (.int .i64 o.kind) (.string o.data) (.slice s.eA s.en s.ec) (.int .u64 o.tree.1) (.int .u64 o.tree.2) (.slice s.pA s.pn s.pc) (.string o.auth) (.int .i64 o.time) (.string o.msg) k hk)
     simpa using this
   . have:=g.o.keep (t:=109) HZ3.o (by decide) (fun k hk=>yt _ w3 (.int .i64 o.kind) (.string o.data) (.slice s.eA s.en s.ec) (.int .u64 o.tree.1) (.int .u64 o.tree.2) (.slice s.pA s.pn s.pc) (.string o.auth) (.int .i64 o.time) (.string o.msg) k hk)
     simpa using this
   . have:=f.o.keep (t:=109) HZ3.o (by decide) (fun k hk=>yt _ w3 (.int .i64 o.kind) (.string o.data) (.slice s.eA s.en s.ec) (.int .u64 o.tree.1) (.int .u64 o.tree.2) (.slice s.pA s.pn s.pc) (.string o.auth) (.int .i64 o.time) (.string o.msg) k hk)
     simpa using this
theorem Sl.dgbox{w:UW}{B n b:Nat}{t:TypeId}{A:OA}{q:List Itm}{x y:UY}(h:Sl w B 3 A n (flat itC q))(hk:Bk w b t #[x,y]):∀a,0<n->A=some a->a.block≠b:=by
 rintro a h0 ha rfl;obtain⟨b',off,i,rfl',_,_,_,_,h2⟩:=h.it h0;rw[ha]at rfl';cases rfl'
 rw[hk.cell]at h2;simp at h2
theorem jO{fn:Func}{r c i:Tmp}(h:fn.results= #[.tmp r,.cell c 50,.tmp i]){w:UW}{a:Array UY}{b:Nat}{x y u v:UY}(hr:a[r]?.getD undef=u)(ha:a[c]?.getD undef= .pointer (some ⟨b,0,none⟩))(hk:Bk w b 50 #[x,y])(hv:a[i]?.getD undef=v) :
  (results fn a).run Tryz.prog w= .ok (.tuple #[u,.agg #[x,y],v]) w:=by
 obtain⟨h0,h1,_,_⟩:=hk.two;simp[results,h,hr,ha,hv,go_sem,h0,h1]
def PuE(A0:OA)(c0:Nat)(p:List Itm)(o:Ob)(w:UW)(e:Ending)(w':UW):Prop :=
 ((∃q A c,bH p o=some q/\e= .returned (.tuple #[.slice A q.length c,aA (dgO o),.int .i64 0])/\Sl w' w'.heap.size 3 A q.length (flat itC q)/\q.length<=c/\c<=maxLen/\Ply w' w.heap.size A0 c0 p A c q)∨ (bH p o=none/\e= .returned (.tuple #[.slice none 0 0,aA zD,.int .i64 16])))/\U0 w w'
theorem xK(A:OA)(n c B:Nat)(p:List Itm)(o:Ob)(s:Osl)(w:UW)(h0:Sl w B 3 A n (flat itC p))(hm:ObM w B o s)(hB:B<=w.heap.size)(hnc:n<=c)(hcm:c<=maxLen)(hn:n<=900000)(ha:AscI p)(ho:OkO o) :
  Calls Tryz.prog 68 #[.slice A n c,obV o s] w (PuE A c p o w):=by
 have HO:=ai ho;have HAS:=ai ha;have HCM:=ai hcm;have t:=ai hnc;have u:=ai hn;obtain⟨W,hW⟩:=NX9 ((w.alloc (.cells (obC o s) 109)).alloc (.cells #[.int .u64 0,.int .u64 0] 50))
 have HB0:U6 w W:=by rw[<-hW];exact((ah _ w).alloc aj _).alloc (by simp) _
 have HK:Hid (Bk W w.heap.size 109 (obC o s)):=by rw[<-hW];exact(Bk.new w _ _).alloc _
 have HD:Hid (Bk W (w.heap.size+1) 50 #[.int .u64 0,.int .u64 0]):=by
  rw[<-hW];have:=Bk.new (w.alloc (.cells (obC o s) 109)) 50 #[.int .u64 0,.int .u64 0];rw[Z9]at this;exact this
 have y:w.heap.size+2=W.heap.size:=by rw[<-hW];simp
 have HE:=ai (uZ o s B W (hm.below HB0.o hB) (by omega) ho);have H0:=ai h0;have hsz: (ofL (aI o)).size<=maxLen:=by rw[bK];have:=ho.len;unfold maxLen;omega
 have a:=ai (fun w=>tY (ofL (aI o)) w hsz);have j:Hid (ofB (toL (ofL (aI o)))=dgO o):=by show _=_;rw[dw];rfl
 unfold nS at a;rw[j.o]at a;have g:Hid (bH p o=dB p (dgO o,ofL (aI o))):=rfl;unfold uj at HE;simp only[obV,obC]at HE hW HK ⊢;obtain⟨sb,hsb⟩:=NX9 (ofL (aI o))
 rw[hsb]at HE a g;obtain⟨⟨d1,d2⟩,hdd⟩:∃d,dgO o=d:=⟨_,rfl⟩
 unfold PuE;rw[hdd]at a g ⊢;rw[g.o];simp only[aA]at a ⊢;obtain⟨c0,c1,c2,c3,c4,c5,c6,c7,c8⟩:=HK.o.nine;have HW:=ai hW;clear h0 hm ho ha hcm hn hsb hdd j hsz hW hnc
 go_enter Tryz.func68,Tryz.ntmps68
 go_wp2_with fail;rw[HW.o];go_wp2_with fail;refine HE.o.mono ?_;rintro e w2 ⟨rfl,hb⟩;have HB2:U6 w w2:=HB0.o.trans (hb.mono HB0.o.size);have HD2:=ai (HD.o.below hb (by omega));have z2:w.heap.size+2<=w2.heap.size:=by have:=hb.size;omega
 clear hb HE c0 c1 c2 c3 c4 c5 c6 c7 c8;go_wp2_with fail;refine(a.o _).mono ?_;rintro e w3 ⟨rfl,hb⟩;have HB3:U6 w w3:=HB2.o.trans (hb.mono HB2.o.size);have HD3:=ai (HD2.o.below hb (by omega));have z3:w.heap.size+2<=w3.heap.size:=by have:=hb.size;omega
 obtain⟨W3,hW3⟩:=NX9 (w3.alloc (.cells #[.int .u64 d1,.int .u64 d2] 50))
 have l:U6 w3 W3:=by rw[<-hW3];exact(ah _ w3).alloc aj _
 have i:Hid (Bk W3 w3.heap.size 50 #[.int .u64 d1,.int .u64 d2]):=by rw[<-hW3];exact Bk.new w3 _ _
 have m:=ai (HD3.o.below l.o (by omega));have f:U6 w W3:=HB3.o.trans (l.o.mono HB3.o.size);have r:w3.heap.size<W3.heap.size:=i.o.lt;have HI:=ai (JU A n c B p ((d1,d2),sb) W3 (H0.o.below f.o hB) (by omega) t.o HCM.o u.o HAS.o);unfold I9 at HI;simp only[itV]at HI;obtain⟨x0,x1,_,_⟩:=i.o.two;clear hb;go_wp2_with fail;refine HI.o.mono ?_;rintro e w4 ⟨hq,hb⟩;have HB4:U6 w w4:=f.o.trans (hb.mono f.o.size);have HD4:=ai (m.o.below hb (by omega));have v:=ai (i.o.below hb r);have z4:w3.heap.size<w4.heap.size:=Nat.lt_of_lt_of_le r hb.size;have g0:=HD4.o.free 0;have g1:=HD4.o.free 1;obtain⟨y0,y1,_,_⟩:=HD4.o.two;obtain⟨x0,x1,_,_⟩:=v.o.two;clear hb HI hW3;rcases hq with ⟨q,A',c',h1,rfl,h2,h3,h4,h5⟩ | ⟨h1,rfl⟩
 . have HQ:=ai h1;have HS:=ai h2;have H3:=ai h3;have H4:=ai h4;have x:=ai h5
   clear h1 h2 h3 h4 h5;go_wp2_with fail
   go_region
   go_wp2_with fail;refine ZW (jO Tryz.results68 rfl rfl ((HD4.o.set2 (.int .u64 d1) (.int .u64 d2)).drew) rfl) rfl ⟨.inl ⟨q,A',c',HQ.o,rfl,?_,H3.o,H4.o,?_⟩,(eP HB4.o (by omega) _ _).drew⟩
   . have:=HS.o.ne (b:=w.heap.size+1) (HS.o.dgbox HD4.o) (fun k hk=>(Z8 (w4.setCell ⟨w.heap.size+1,0,none⟩ (.int .u64 d1)) ⟨w.heap.size+1,1,none⟩ (.int .u64 d2) k hk).trans (Z8 w4 ⟨w.heap.size+1,0,none⟩ (.int .u64 d1) k hk))
     simpa using this.drew
   . rcases x.o with h | h
     . exact .inl h
     . exact .inr (ji (ji (kW h (by omega)) HD4.o (by decide) 0 _) (HD4.o.set 0 _) (by decide) 1 _).drew
 . have HQ:=ai h1
   clear h1;go_wp2_with fail;refine ZW (jO Tryz.results68 rfl rfl (HD4.o.set2 _ _) rfl) rfl ⟨.inr ⟨HQ.o,rfl⟩,eP HB4.o (by omega) _ _⟩
theorem sW{P:Program}{ops:Array Oper}{rest:List Oper}{o:Oper}{a:Act}{w:UW}{Q:Exit->Act->UW->Prop}(s x:Operand)(t:TypeId)(_:o.op= .call {callee:= .builtin .append,args:=#[s,x],argTypes:=#[t,t]})
  (h:Hid (wpList P ops Q (o::rest) a w)):wpList P ops Q (o::rest) a w:=h
structure Rsl where
 d:Dsl
 pA:OA
 pc:Nat
 rA:OA
 rc:Nat
 lA:OA
 lc:Nat
def rpC(r:Rp)(s:Rsl):Array UY:=#[.int .i64 r.d.sz,.slice s.d.a1 r.d.ss.length s.d.c1,.slice s.d.a2 r.d.pn.length s.d.c2,.int .i64 r.d.lf,.slice s.pA r.p.length s.pc,.slice s.rA r.rs.length s.rc,.slice s.lA r.lg.length s.lc]
def rpV(r:Rp)(s:Rsl):UY:= .agg (rpC r s)
structure RpM(w:UW)(B:Nat)(r:Rp)(s:Rsl):Prop where
 d:DkM w B r.d s.d
 p:Sl w B 3 s.pA r.p.length (flat itC r.p)
 rf:Sl w B 3 s.rA r.rs.length (flat rfC r.rs)
 l:Sl w B 5 s.lA r.lg.length (flat upC r.lg)
 pc:r.p.length<=s.pc
 pm:s.pc<=maxLen
theorem RpM.below{w w':UW}{B B':Nat}{r:Rp}{s:Rsl}(h:RpM w B r s)(hb:Below B' w w')(hB:B<=B'):RpM w' B r s:=⟨h.d.below hb hB,h.p.below hb hB,h.rf.below hb hB,h.l.below hb hB,h.pc,h.pm⟩
theorem RpM.more{w:UW}{B B':Nat}{r:Rp}{s:Rsl}(h:RpM w B r s)(hB:B<=B'):RpM w B' r s:=⟨h.d.more hB,h.p.more hB,h.rf.more hB,h.l.more hB,h.pc,h.pm⟩
def zRs:Rsl:=⟨⟨none,0,none,0⟩,none,0,none,0,none,0⟩
theorem RpM.zero(w:UW)(B:Nat):RpM w B zRp zRs:=⟨⟨Sl.nil _ _ _ _,Sl.nil _ _ _ _⟩,Sl.nil _ _ _ _,Sl.nil _ _ _ _,Sl.nil _ _ _ _,Nat.le_refl _,ZX _⟩
abbrev rzC:Array UY:=#[.int .i64 0,.slice none 0 0,.slice none 0 0,.int .i64 0,.slice none 0 0,.slice none 0 0,.slice none 0 0]
def eQ(r:Rp)(x:Int)(w:UW)(e:Ending)(w':UW):Prop:=∃s,e= .returned (.tuple #[rpV r s,.int .i64 x])/\RpM w' w'.heap.size r s/\U0 w w'
section
variable {w w' : UW} {b : Nat} {t : TypeId} {x0 x1 x2 x3 x4 x5 x6 : UY}
theorem Bk.seven(h:Bk w b t #[x0,x1,x2,x3,x4,x5,x6]): (w.cell? ⟨b,0,none⟩=some x0/\w.cell? ⟨b,1,none⟩=some x1/\w.cell? ⟨b,2,none⟩=some x2/\w.cell? ⟨b,3,none⟩=some x3)/\w.cell? ⟨b,4,none⟩=some x4/\w.cell? ⟨b,5,none⟩=some x5/\w.cell? ⟨b,6,none⟩=some x6:=by
 have c0:=h.cell 0;have c1:=h.cell 1;have c2:=h.cell 2;have c3:=h.cell 3;have c4:=h.cell 4;have c5:=h.cell 5;have c6:=h.cell 6;simp at c0 c1 c2 c3 c4 c5 c6;exact⟨⟨c0,c1,c2,c3⟩,c4,c5,c6⟩
theorem Bk.free7(h:Bk w b t #[x0,x1,x2,x3,x4,x5,x6]): (w.frozen? ⟨b,0,none⟩=false/\w.frozen? ⟨b,1,none⟩=false/\w.frozen? ⟨b,2,none⟩=false/\w.frozen? ⟨b,3,none⟩=false)/\w.frozen? ⟨b,4,none⟩=false/\w.frozen? ⟨b,5,none⟩=false/\w.frozen? ⟨b,6,none⟩=false :=
 ⟨⟨h.free 0,h.free 1,h.free 2,h.free 3⟩,h.free 4,h.free 5,h.free 6⟩
theorem Bk.at_{cs:Array UY}{b':Nat}(h:Bk w b t cs)(e:b=b'):Bk w b' t cs:=e ▸ h
theorem Bk.set7(h:Bk w b t #[x0,x1,x2,x3,x4,x5,x6])(y0 y1 y2 y3 y4 y5 y6:UY) :
  Bk (((((((w.setCell ⟨b,0,none⟩ y0).setCell ⟨b,1,none⟩ y1).setCell ⟨b,2,none⟩ y2).setCell ⟨b,3,none⟩ y3).setCell ⟨b,4,none⟩ y4).setCell ⟨b,5,none⟩ y5).setCell ⟨b,6,none⟩ y6) b t #[y0,y1,y2,y3,y4,y5,y6]:=by
 have:=((((((h.set 0 y0).set 1 y1).set 2 y2).set 3 y3).set 4 y4).set 5 y5).set 6 y6
 simpa using this
theorem dM{B:Nat}{w0:UW}(h:Below B w0 w)(hb:B<=b)(y0 y1 y2 y3 y4 y5 y6:UY) :
  Below B w0 (((((((w.setCell ⟨b,0,none⟩ y0).setCell ⟨b,1,none⟩ y1).setCell ⟨b,2,none⟩ y2).setCell ⟨b,3,none⟩ y3).setCell ⟨b,4,none⟩ y4).setCell ⟨b,5,none⟩ y5).setCell ⟨b,6,none⟩ y6) :=
 ((((((h.setCell (p:=⟨b,0,none⟩) hb y0).setCell (p:=⟨b,1,none⟩) hb y1).setCell (p:=⟨b,2,none⟩) hb y2).setCell (p:=⟨b,3,none⟩) hb y3).setCell (p:=⟨b,4,none⟩) hb y4).setCell (p:=⟨b,5,none⟩) hb y5).setCell (p:=⟨b,6,none⟩) hb y6
theorem iJ(w:UW)(b:Nat)(y0 y1 y2 y3 y4 y5 y6:UY)(k:Nat)(hk:k≠b) :
  (((((((w.setCell ⟨b,0,none⟩ y0).setCell ⟨b,1,none⟩ y1).setCell ⟨b,2,none⟩ y2).setCell ⟨b,3,none⟩ y3).setCell ⟨b,4,none⟩ y4).setCell ⟨b,5,none⟩ y5).setCell ⟨b,6,none⟩ y6).heap[k]? =w.heap[k]? :=by
 exact(Z8 _ ⟨b,6,none⟩ y6 k hk).trans ((Z8 _ ⟨b,5,none⟩ y5 k hk).trans ((Z8 _ ⟨b,4,none⟩ y4 k hk).trans ((Z8 _ ⟨b,3,none⟩ y3 k hk).trans ((Z8 _ ⟨b,2,none⟩ y2 k hk).trans ((Z8 _ ⟨b,1,none⟩ y1 k hk).trans (Z8 _ ⟨b,0,none⟩ y0 k hk))))))
def bxV:UY->Bool
 | .slice _ _ _=>true
 | .int _ _=>true
 | _=>false
theorem Sl.off{B size n:Nat}{A:OA}{xs:List UY}{cs:Array UY}(h:Sl w B size A n xs)(hk:Bk w b t cs)(hc:cs.all bxV=true)(hx:0<n->∃(j:Nat)(v:UY),xs[j]? =some v/\bxV v=false)(hw:∀k,k≠b->w'.heap[k]? =w.heap[k]?):Sl w' B size A n xs :=
 h.avoid fun g off e hn hcc=>hw g fun e2=>by
  subst e2;obtain⟨j,v,hv,hf⟩:=hx hn;have:=hcc j v hv;rw[hk.cell]at this;have hm:=Array.all_eq_true.1 hc (off+j) (Array.getElem?_eq_some_iff.1 this).1;rw[(Array.getElem?_eq_some_iff.1 this).2,hf]at hm;cases hm
theorem kJ{α:Type}{enc:α->List UY}{k:Nat}(hl:∀a,(enc a).length=k)(l:List α)(i j:Nat)(a:α)(v:UY)(ha:l[i]? =some a)(hv: (enc a)[j]? =some v)(hj:j<k): (flat enc l)[i*k+j]? =some v:=by
 rw[iG hl l i j a ha hj];exact hv
theorem RpM.box{B:Nat}{r:Rp}{s:Rsl}{cs:Array UY}(h:RpM w B r s)(hk:Bk w b t cs)(hc:cs.all bxV=true)(hw:∀k,k≠b->w'.heap[k]? =w.heap[k]?):RpM w' B r s:=by
 have get:∀{α:Type}(l:List α),0<l.length->∃a,l[0]? =some a:=fun l hl=>⟨_,Z5 hl⟩
 refine⟨⟨h.d.ss.off hk hc (fun hn=>?_) hw,h.d.pn.off hk hc (fun hn=>?_) hw⟩,h.p.off hk hc (fun hn=>?_) hw,h.rf.off hk hc (fun hn=>?_) hw,h.l.off hk hc (fun hn=>?_) hw,h.pc,h.pm⟩
 . obtain⟨a,ha⟩:=get _ hn
   exact⟨_,_,kJ dW _ 0 0 a _ ha rfl (by omega),rfl⟩
 . obtain⟨a,ha⟩:=get _ hn
   exact⟨_,_,kJ tC _ 0 1 a _ ha rfl (by omega),rfl⟩
 . obtain⟨a,ha⟩:=get _ hn
   exact⟨_,_,kJ di _ 0 2 a _ ha rfl (by omega),rfl⟩
 . obtain⟨a,ha⟩:=get _ hn
   exact⟨_,_,kJ jm _ 0 0 a _ ha rfl (by omega),rfl⟩
 . obtain⟨a,ha⟩:=get _ hn
   exact⟨_,_,kJ gy _ 0 0 a _ ha rfl (by omega),rfl⟩
theorem vG(w:UW)(b:Nat)(y0 y1 y2 y3:UY)(k:Nat)(hk:k≠b): ((((w.setCell ⟨b,0,none⟩ y0).setCell ⟨b,1,none⟩ y1).setCell ⟨b,2,none⟩ y2).setCell ⟨b,3,none⟩ y3).heap[k]? =w.heap[k]? :=
 (Z8 _ ⟨b,3,none⟩ y3 k hk).trans ((Z8 _ ⟨b,2,none⟩ y2 k hk).trans ((Z8 _ ⟨b,1,none⟩ y1 k hk).trans (Z8 _ ⟨b,0,none⟩ y0 k hk)))
theorem eF{fn:Func}{c i:Tmp}(h:fn.results= #[.cell c 35,.tmp i]){a:Array UY}{v:UY}(h1:a[c]?.getD undef= .pointer (some ⟨b,0,none⟩))(hk:Bk w b 35 #[x0,x1,x2,x3,x4,x5,x6])(hv:a[i]?.getD undef=v) :
  (results fn a).run Tryz.prog w= .ok (.tuple #[.agg #[x0,x1,x2,x3,x4,x5,x6],v]) w:=by
 obtain⟨⟨k0,k1,k2,k3⟩,k4,k5,k6⟩:=hk.seven;simp[results,h,h1,hv,go_sem,k0,k1,k2,k3,k4,k5,k6]
end
theorem BK(r r2:Rp)(s s2:Rsl)(d:Dk)(q:Dsl)(x:Int)(w:UW) :
  Calls Tryz.prog 50 #[rpV r s,rpV r2 s2,dkV d q,.int .i64 x] w fun e w'=>e= .returned (.tuple #[if x=0 then rpV {r2 with d:=d} {s2 with d:=q} else if x=20 then rpV {r with d:=d} {s with d:=q} else rpV zRp zRs,.int .i64 x])/\U0 w w':=by
 obtain⟨d1,p1,rs1,lg1⟩:=r;obtain⟨d2,p2,rs2,lg2⟩:=r2;simp only[rpV,rpC,dkV,dkC,zRp,zRs];obtain⟨n1,h1⟩:=NX9 d1.ss.length
 obtain⟨n2,h2⟩:=NX9 d1.pn.length
 obtain⟨n3,h3⟩:=NX9 p1.length
 obtain⟨n4,h4⟩:=NX9 rs1.length
 obtain⟨n5,h5⟩:=NX9 lg1.length
 obtain⟨m1,g1⟩:=NX9 d2.ss.length
 obtain⟨m2,g2⟩:=NX9 d2.pn.length
 obtain⟨m3,g3⟩:=NX9 p2.length
 obtain⟨m4,g4⟩:=NX9 rs2.length
 obtain⟨m5,g5⟩:=NX9 lg2.length
 obtain⟨k1,f1⟩:=NX9 d.ss.length
 obtain⟨k2,f2⟩:=NX9 d.pn.length
 simp only[h1,h2,h3,h4,h5,g1,g2,g3,g4,g5,f1,f2];clear h1 h2 h3 h4 h5 g1 g2 g3 g4 g5 f1 f2
 go_enter Tryz.func50,Tryz.ntmps50
 by_cases e0:x=0
 . subst e0
   go_wp2
   exact ZW (eF Tryz.results50 rfl ((Bk.new _ _ _).at_ (by simp)) rfl) rfl ⟨rfl,((((ah _ w).alloc aj _).alloc (by simp) _).alloc (by simp;omega) _).alloc (by simp;omega) _⟩
 . rw[if_neg e0]
   have e1: (x == 0)=false:=by simpa using e0
   by_cases e2:x=20
   . subst e2
     go_wp2
     exact ZW (eF Tryz.results50 rfl ((Bk.new _ _ _).at_ (by simp)) rfl) rfl ⟨rfl,((((ah _ w).alloc aj _).alloc (by simp) _).alloc (by simp;omega) _).alloc (by simp;omega) _⟩
   . rw[if_neg e2]
     have e3: (x == 20)=false:=by simpa using e2
     clear e0 e2
     go_wp2
     exact ZW (eF Tryz.results50 rfl ((Bk.new _ _ _).at_ (by simp)) rfl) rfl ⟨rfl,((((ah _ w).alloc aj _).alloc (by simp) _).alloc (by simp;omega) _).alloc (by simp;omega) _⟩
abbrev Pla:=Dig×UX
structure WkS where
 ne:Dig->Bool
 ed:Dig->Bool
 me:Pla->Bool
 op:List Pla
 wr:Bool
def setB{α:Type}[DecidableEq α](f:α->Bool)(x:α):α->Bool:=fun y=>decide (y=x) || f y
theorem setB_true{α:Type}[DecidableEq α]{f:α->Bool}{x y:α}:setB f x y=true↔y=x∨f y=true:=by simp[setB]
instance (a b:UZ):Decidable (a <+: b):=decidable_of_iff (a.isPrefixOf b=true) List.isPrefixOf_iff_prefix
section
variable (p : List Itm) (com : Dig -> Bool) (pre : UX)
end
section
variable {p : List Itm} {com : Dig -> Bool} {pre : UX} {hs : List Dig} {stop : Dig -> Prop} {dep : Int}
end
