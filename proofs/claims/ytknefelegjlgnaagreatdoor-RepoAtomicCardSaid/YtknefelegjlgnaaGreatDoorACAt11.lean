/-
  Lemmas of the card.
-/
import Derived.Test.YtknefelegjlgnaaGreatDoorACAt10
set_option maxRecDepth 100000
set_option maxHeartbeats 8000000
namespace Go.Proofs.YtknefelegjlgnaaGreatDoor
open Go.RowKit
theorem dX{w:MZ}{b:Nat}{t:TypeId}{x0 x1 x2 x3 x4 x5 x6 x7 x8:M4}(h:Bk w b t #[x0,x1,x2,x3,x4,x5,x6,x7,x8])(y0 y1 y2 y3 y4 y5 y6 y7 y8:M4):Bk (((((((((w.setCell ⟨b,0,none⟩ y0).setCell ⟨b,1,none⟩ y1).setCell ⟨b,2,none⟩ y2).setCell ⟨b,3,none⟩ y3).setCell ⟨b,4,none⟩ y4).setCell ⟨b,5,none⟩ y5).setCell ⟨b,6,none⟩ y6).setCell ⟨b,7,none⟩ y7).setCell ⟨b,8,none⟩ y8) b t #[y0,y1,y2,y3,y4,y5,y6,y7,y8]:=by
 have:=(((((((((h.set 0 y0).set 1 y1).set 2 y2).set 3 y3).set 4 y4).set 5 y5).set 6 y6).set 7 y7).set 8 y8)
 simpa using this
theorem dV{B b:Nat}{w0 w:MZ}(h:Below B w0 w)(hb:B<=b)(y0 y1 y2 y3 y4 y5 y6 y7 y8:M4):Below B w0 (((((((((w.setCell ⟨b,0,none⟩ y0).setCell ⟨b,1,none⟩ y1).setCell ⟨b,2,none⟩ y2).setCell ⟨b,3,none⟩ y3).setCell ⟨b,4,none⟩ y4).setCell ⟨b,5,none⟩ y5).setCell ⟨b,6,none⟩ y6).setCell ⟨b,7,none⟩ y7).setCell ⟨b,8,none⟩ y8) :=
 ((((((((h.setCell (p:=⟨b,0,none⟩) hb y0).setCell (p:=⟨b,1,none⟩) hb y1).setCell (p:=⟨b,2,none⟩) hb y2).setCell (p:=⟨b,3,none⟩) hb y3).setCell (p:=⟨b,4,none⟩) hb y4).setCell (p:=⟨b,5,none⟩) hb y5).setCell (p:=⟨b,6,none⟩) hb y6).setCell (p:=⟨b,7,none⟩) hb y7).setCell (p:=⟨b,8,none⟩) hb y8
theorem Apd.set9{w:MZ}{base size n c b:Nat}{e:TypeId}{A:OA}{xs:List M4}(h:Apd w base e size A n c xs)(hb:b<base)(y0 y1 y2 y3 y4 y5 y6 y7 y8:M4):Apd (((((((((w.setCell ⟨b,0,none⟩ y0).setCell ⟨b,1,none⟩ y1).setCell ⟨b,2,none⟩ y2).setCell ⟨b,3,none⟩ y3).setCell ⟨b,4,none⟩ y4).setCell ⟨b,5,none⟩ y5).setCell ⟨b,6,none⟩ y6).setCell ⟨b,7,none⟩ y7).setCell ⟨b,8,none⟩ y8) base e size A n c xs :=
 ((((((((h.setCell (a:=⟨b,0,none⟩) hb y0).setCell (a:=⟨b,1,none⟩) hb y1).setCell (a:=⟨b,2,none⟩) hb y2).setCell (a:=⟨b,3,none⟩) hb y3).setCell (a:=⟨b,4,none⟩) hb y4).setCell (a:=⟨b,5,none⟩) hb y5).setCell (a:=⟨b,6,none⟩) hb y6).setCell (a:=⟨b,7,none⟩) hb y7).setCell (a:=⟨b,8,none⟩) hb y8
theorem dW{fn:Func}{c i:Tmp}(h:fn.results= #[.cell c 109,.tmp i]){w:MZ}{a:Array M4}{b:Nat}{x0 x1 x2 x3 x4 x5 x6 x7 x8 v:M4}(ha:a[c]?.getD undef= .pointer (some ⟨b,0,none⟩))(hk:Bk w b 109 #[x0,x1,x2,x3,x4,x5,x6,x7,x8])(hv:a[i]?.getD undef=v) :
  (results fn a).run Tryz.prog w= .ok (.tuple #[.agg #[x0,x1,x2,x3,x4,x5,x6,x7,x8],v]) w:=by
 obtain⟨h0,h1,h2,h3,h4,h5,h6,h7,h8⟩:=hk.nine;simp[results,h,ha,hv,go_sem,h0,h1,h2,h3,h4,h5,h6,h7,h8]
def NewO(w:MZ)(b:Nat)(s:Osl):Prop:=∀a,0<s.en->s.eA=some a->b<=a.block/\∃cur,w.heap[a.block]? =some (.cells cur 185 (0,0))
theorem NewO.none(w:MZ)(b:Nat){s:Osl}(h:s.en=0):NewO w b s:=fun _ h0=>absurd h0 (by rw[h];exact Nat.lt_irrefl 0)
theorem NewO.mono{w:MZ}{b b':Nat}{s:Osl}(h:NewO w b s)(hb:b'<=b):NewO w b' s:=fun a h1 h2=>⟨Z0 hb (h a h1 h2).1,(h a h1 h2).2⟩
theorem NewO.keep{w w':MZ}{b bx:Nat}{t:TypeId}{cs:Array M4}{s:Osl}(h:NewO w b s)(hz:Bk w bx t cs)(ht:t≠185)(hk:∀k,k≠bx->w'.heap[k]? =w.heap[k]?):NewO w' b s:=fun a h1 h2=>by
 obtain⟨h3,c,h4⟩:=h a h1 h2;refine⟨h3,c,(hk a.block (fun e=>?_)).trans h4⟩;rw[e]at h4;have h5:w.heap[bx]? =some (.cells cs t (0,0)):=hz;rw[h4]at h5;injection h5 with h5;injection h5 with _ h6;exact ht h6.symm
theorem Apd.newO{w:MZ}{base n c c2:Nat}{A:OA}{xs:List M4}(h:Apd w base 185 4 A n c xs){b:Nat}(hb:b<=base){s:Osl}(hs:s.eA=A/\s.en=n/\s.ec=c2):NewO w b s:=by
 obtain⟨h1,h2,_⟩:=hs;rintro a hn hA;rw[h1]at hA;rw[h2]at hn;subst hA;rcases h with ⟨_,⟨_,h0⟩ | ⟨g,cap,cur,hv,h5,h3,_⟩⟩ | ⟨h0,_⟩
 . omega
 . injection hv with hA
   cases hA
   exact⟨Z0 hb h5,cur,h3⟩
 . omega
def NewP(w:MZ)(b:Nat)(s:Osl):Prop:=∀a,0<s.pn->s.pA=some a->b<=a.block/\∃cur,w.heap[a.block]? =some (.cells cur 50 (0,0))
theorem NewP.none(w:MZ)(b:Nat){s:Osl}(h:s.pn=0):NewP w b s:=fun _ h0=>absurd h0 (by rw[h];exact Nat.lt_irrefl 0)
theorem NewP.mono{w:MZ}{b b':Nat}{s:Osl}(h:NewP w b s)(hb:b'<=b):NewP w b' s:=fun a h1 h2=>⟨Z0 hb (h a h1 h2).1,(h a h1 h2).2⟩
theorem NewP.keep{w w':MZ}{b bx:Nat}{t:TypeId}{cs:Array M4}{s:Osl}(h:NewP w b s)(hz:Bk w bx t cs)(ht:t≠50)(hk:∀k,k≠bx->w'.heap[k]? =w.heap[k]?):NewP w' b s:=fun a h1 h2=>by
 obtain⟨h3,c,h4⟩:=h a h1 h2;refine⟨h3,c,(hk a.block (fun e=>?_)).trans h4⟩;rw[e]at h4;have h5:w.heap[bx]? =some (.cells cs t (0,0)):=hz;rw[h4]at h5;injection h5 with h5;injection h5 with _ h6;exact ht h6.symm
theorem Apd.newP{w:MZ}{base n c c2:Nat}{A:OA}{xs:List M4}(h:Apd w base 50 2 A n c xs){b:Nat}(hb:b<=base){s:Osl}(hs:s.pA=A/\s.pn=n/\s.pc=c2):NewP w b s:=by
 obtain⟨h1,h2,_⟩:=hs;rintro a hn hA;rw[h1]at hA;rw[h2]at hn;subst hA;rcases h with ⟨_,⟨_,h0⟩ | ⟨g,cap,cur,hv,h5,h3,_⟩⟩ | ⟨h0,_⟩
 . omega
 . injection hv with hA
   cases hA
   exact⟨Z0 hb h5,cur,h3⟩
 . omega
def OdE(o:Ob)(w:MZ)(e:Ending)(w':MZ):Prop:=∃s,e= .returned (.tuple #[obV o s,.int .i64 0])/\ObM w' w'.heap.size o s/\Below w.heap.size w w'/\NewO w' w.heap.size s/\NewP w' w.heap.size s
theorem oq(o:Ob)(w:MZ)(ho:OkO o):Calls Tryz.prog 81 #[.string (ofL (aG o))] w (OdE o w):=by
 have HO:=ah ho;have cn:=ho.len;cases ho.f with
 | blob k e c d =>
   have g:aG o=aj o.kind.toNat++ (ak (toL o.data)++ []):=by unfold aG fF;rw[if_neg (by omega),if_neg (by omega),List.append_nil]
   obtain⟨h1,h2,h3,h4,h5⟩:=c;obtain⟨kind,data,ents,tree,pars,auth,time,msg⟩:=o;simp only at k e h1 h2 h3 h4 h5 d g;subst e h1 h2 h3 h4 h5;rcases k with rfl | rfl
   . have g:aG _=aj 1++ (ak (toL data)++ []):=g
     obtain⟨s,hs⟩:=NX9 (ofL (aG (⟨1,data,[],zD,[],⟨#[]⟩,0,⟨#[]⟩⟩:Ob)))
     rw[hs];have x: (aj 1++ (ak (toL data)++ [])).length<=1000000:=by rw[<-g];omega
     have E: (ak (toL data)++ []).length<=1000000:=by rw[ae]at x;omega
     obtain⟨W1,m⟩:=NX9 ((w.alloc (.cells #[.int .i64 0,.string ⟨#[]⟩,.slice none 0 0,.int .u64 0,.int .u64 0,.slice none 0 0,.string ⟨#[]⟩,.int .i64 0,.string ⟨#[]⟩] 109)).alloc (.cells #[.string s,.bool false] 229))
     have F:Hid (Bk W1 w.heap.size 109 #[.int .i64 0,.string ⟨#[]⟩,.slice none 0 0,.int .u64 0,.int .u64 0,.slice none 0 0,.string ⟨#[]⟩,.int .i64 0,.string ⟨#[]⟩]):=by rw[<-m];exact(Bk.new w _ _).alloc _
     have G:Hid (Rdr W1 (w.heap.size+1) (aj 1++ (ak (toL data)++ []))):=by
      show Bk _ _ _ _;rw[<-g,hs,<-m];have:=Bk.new (w.alloc (.cells #[.int .i64 0,.string ⟨#[]⟩,.slice none 0 0,.int .u64 0,.int .u64 0,.slice none 0 0,.string ⟨#[]⟩,.int .i64 0,.string ⟨#[]⟩] 109)) 229 #[.string s,.bool false]
      rwa[Z9]at this
     have H:Hid (Below w.heap.size w W1):=by rw[<-m];exact((af _ w).alloc ai _).alloc (by simp) _
     have am:W1.heap.size=w.heap.size+2:=by rw[<-m];simp
     have I:=ah (jg (w.heap.size+1) 1 (ak (toL data)++ []) W1 G.o (by omega) x);clear hs g x
     go_enter Tryz.func81,Tryz.ntmps81
     go_wp2_with fail;refine I.o.mono ?_;rintro e w2 ⟨rfl,hr,hg⟩;have J:=ah hr;have K:Hid (Below w.heap.size w w2):=H.o.trans (hg.below (by omega) (fun q hq e=>by omega));have L:=ah (hg.bk F.o (by show ¬w.heap.size=w.heap.size+1;omega));have z2:w.heap.size+2<=w2.heap.size:=by have:=hg.size;omega
     clear hr hg m I H F G;obtain⟨W3,l⟩:=NX9 (w2.alloc (.cells #[.int .i64 1,.string ⟨#[]⟩,.slice none 0 0,.int .u64 0,.int .u64 0,.slice none 0 0,.string ⟨#[]⟩,.int .i64 0,.string ⟨#[]⟩] 109))
     have u:Below w2.heap.size w2 W3:=by rw[<-l];exact(af _ w2).alloc ai _
     have y:Hid (Bk W3 w2.heap.size 109 #[.int .i64 1,.string ⟨#[]⟩,.slice none 0 0,.int .u64 0,.int .u64 0,.slice none 0 0,.string ⟨#[]⟩,.int .i64 0,.string ⟨#[]⟩]):=by rw[<-l];exact Bk.new w2 _ _
     have M:Hid (Rdr W3 (w.heap.size+1) (ak (toL data)++ [])):=Bk.below J.o u (by omega);have N:=ah (L.o.below u (by omega));have z:Hid (Below w.heap.size w W3):=K.o.trans (u.mono (by omega));have z3:W3.heap.size=w2.heap.size+1:=by rw[<-l];simp
     have c0:=y.o.nine.1;rw[<-l]at c0;have U:=ah l;clear u l J L K;have O:=ah (lT (w.heap.size+1) data [] W3 M.o d E);go_wp2_with fail;rw[U.o];refine O.o.mono ?_;rintro e v4 ⟨rfl,hr,hg⟩;have n:=ah hr;have b:=ah (hg.bk y.o (by show ¬w2.heap.size=w.heap.size+1;omega));have r:=ah (hg.bk N.o (by show ¬w.heap.size=w.heap.size+1;omega));have t:Hid (Below w.heap.size w v4):=z.o.trans (hg.below (by have:=z.o.size;omega) (fun q hq e=>by omega));have an:=hg.size;clear c0 hr hg O z N y M;obtain⟨c0,c1,c2,c3,c4,c5,c6,c7,c8⟩:=b.o.nine;have f1:=b.o.free 1;obtain⟨W4,j⟩:=NX9 ((v4.setCell ⟨w2.heap.size,1,none⟩ (.string data)))
     have B:Hid (Bk W4 w2.heap.size 109 #[.int .i64 1,.string data,.slice none 0 0,.int .u64 0,.int .u64 0,.slice none 0 0,.string ⟨#[]⟩,.int .i64 0,.string ⟨#[]⟩]):=by rw[<-j];have:=(b.o.set 1 (.string data));show Bk _ _ _ _;simpa using this
     have S:Hid (Rdr W4 (w.heap.size+1) ([])):=by rw[<-j];exact(Bk.far n.o (p:=⟨w2.heap.size,1,none⟩) (by show w.heap.size+1≠w2.heap.size;omega) _)
     have P:Hid (Bk W4 w.heap.size 109 #[.int .i64 0,.string ⟨#[]⟩,.slice none 0 0,.int .u64 0,.int .u64 0,.slice none 0 0,.string ⟨#[]⟩,.int .i64 0,.string ⟨#[]⟩]):=by rw[<-j];exact(Bk.far r.o (p:=⟨w2.heap.size,1,none⟩) (by show w.heap.size≠w2.heap.size;omega) _)
     have D:Hid (Below w.heap.size w W4):=by rw[<-j];exact(Below.setCell t.o (p:=⟨w2.heap.size,1,none⟩) (by show w.heap.size<=w2.heap.size;omega) _)
     have ao:v4.heap.size<=W4.heap.size:=by rw[<-j];simp[World.setCell]
     clear n b r t;have Q:Bk W4 (w.heap.size+1) 229 #[.string ⟨#[]⟩,.bool false]:=S.o;obtain⟨q0,q1,_,_⟩:=Q.two;have T:Hid (ObM W4 W4.heap.size ⟨1,data,[],zD,[],⟨#[]⟩,0,⟨#[]⟩⟩ ⟨none,0,0,none,0,0⟩):=⟨Sl.nil _ _ _ _,Sl.nil _ _ _ _,Nat.le_refl _,ZZ _,Nat.le_refl _,ZZ _⟩
     have A:=ah (mG ⟨1,data,[],zD,[],⟨#[]⟩,0,⟨#[]⟩⟩ ⟨none,0,0,none,0,0⟩ W4.heap.size W4 T.o ai HO.o);simp only[obV,obC]at A;obtain⟨k0,k1,k2,k3,k4,k5,k6,k7,k8⟩:=B.o.nine;go_wp2_with fail;refine A.o.mono ?_;rintro e w8 ⟨rfl,i⟩;have V:=ah (B.o.below i B.o.lt);have v:=ah (P.o.below i P.o.lt);have W:Hid (Below w.heap.size w w8):=D.o.trans (i.mono D.o.size);have ap:=ah ((T.o.below i ai).more i.size);have z8:w.heap.size<w8.heap.size:=v.o.lt;clear c0 c1 c2 c3 c4 c5 c6 c7 c8 k0 k1 k2 k3 k4 k5 k6 k7 k8 q0 q1 Q i A j;obtain⟨c0,c1,c2,c3,c4,c5,c6,c7,c8⟩:=V.o.nine;obtain⟨d0,d1,d2,d3,d4,d5,d6,d7,d8⟩:=v.o.nine;obtain⟨f0,f1,f2,f3,f4,f5,f6,f7,f8⟩:=fr9 v.o;have aq:w.heap.size≠w2.heap.size:=by omega
     go_wp2_with fail;refine ZY (dW Tryz.results81 rfl (dX v.o _ _ _ _ _ _ _ _ _) rfl) rfl ⟨⟨none,0,0,none,0,0⟩,rfl,?_,dV W.o ai _ _ _ _ _ _ _ _ _,NewO.none _ _ rfl,NewP.none _ _ rfl⟩;exact⟨Sl.nil _ _ _ _,Sl.nil _ _ _ _,Nat.le_refl _,ZZ _,Nat.le_refl _,ZZ _⟩
   . have g:aG _=aj 4++ (ak (toL data)++ []):=g
     obtain⟨s,hs⟩:=NX9 (ofL (aG (⟨4,data,[],zD,[],⟨#[]⟩,0,⟨#[]⟩⟩:Ob)))
     rw[hs];have x: (aj 4++ (ak (toL data)++ [])).length<=1000000:=by rw[<-g];omega
     have E: (ak (toL data)++ []).length<=1000000:=by rw[ae]at x;omega
     obtain⟨W1,m⟩:=NX9 ((w.alloc (.cells #[.int .i64 0,.string ⟨#[]⟩,.slice none 0 0,.int .u64 0,.int .u64 0,.slice none 0 0,.string ⟨#[]⟩,.int .i64 0,.string ⟨#[]⟩] 109)).alloc (.cells #[.string s,.bool false] 229))
     have F:Hid (Bk W1 w.heap.size 109 #[.int .i64 0,.string ⟨#[]⟩,.slice none 0 0,.int .u64 0,.int .u64 0,.slice none 0 0,.string ⟨#[]⟩,.int .i64 0,.string ⟨#[]⟩]):=by rw[<-m];exact(Bk.new w _ _).alloc _
     have G:Hid (Rdr W1 (w.heap.size+1) (aj 4++ (ak (toL data)++ []))):=by
      show Bk _ _ _ _;rw[<-g,hs,<-m];have:=Bk.new (w.alloc (.cells #[.int .i64 0,.string ⟨#[]⟩,.slice none 0 0,.int .u64 0,.int .u64 0,.slice none 0 0,.string ⟨#[]⟩,.int .i64 0,.string ⟨#[]⟩] 109)) 229 #[.string s,.bool false]
      rwa[Z9]at this
     have H:Hid (Below w.heap.size w W1):=by rw[<-m];exact((af _ w).alloc ai _).alloc (by simp) _
     have am:W1.heap.size=w.heap.size+2:=by rw[<-m];simp
     have I:=ah (jg (w.heap.size+1) 4 (ak (toL data)++ []) W1 G.o (by omega) x);clear hs g x
     go_enter Tryz.func81,Tryz.ntmps81
     go_wp2_with fail;refine I.o.mono ?_;rintro e w2 ⟨rfl,hr,hg⟩;have J:=ah hr;have K:Hid (Below w.heap.size w w2):=H.o.trans (hg.below (by omega) (fun q hq e=>by omega));have L:=ah (hg.bk F.o (by show ¬w.heap.size=w.heap.size+1;omega));have z2:w.heap.size+2<=w2.heap.size:=by have:=hg.size;omega
     clear hr hg m I H F G;obtain⟨W3,l⟩:=NX9 (w2.alloc (.cells #[.int .i64 4,.string ⟨#[]⟩,.slice none 0 0,.int .u64 0,.int .u64 0,.slice none 0 0,.string ⟨#[]⟩,.int .i64 0,.string ⟨#[]⟩] 109))
     have u:Below w2.heap.size w2 W3:=by rw[<-l];exact(af _ w2).alloc ai _
     have y:Hid (Bk W3 w2.heap.size 109 #[.int .i64 4,.string ⟨#[]⟩,.slice none 0 0,.int .u64 0,.int .u64 0,.slice none 0 0,.string ⟨#[]⟩,.int .i64 0,.string ⟨#[]⟩]):=by rw[<-l];exact Bk.new w2 _ _
     have M:Hid (Rdr W3 (w.heap.size+1) (ak (toL data)++ [])):=Bk.below J.o u (by omega);have N:=ah (L.o.below u (by omega));have z:Hid (Below w.heap.size w W3):=K.o.trans (u.mono (by omega));have z3:W3.heap.size=w2.heap.size+1:=by rw[<-l];simp
     have c0:=y.o.nine.1;rw[<-l]at c0;have U:=ah l;clear u l J L K;have O:=ah (lT (w.heap.size+1) data [] W3 M.o d E);go_wp2_with fail;rw[U.o];refine O.o.mono ?_;rintro e v4 ⟨rfl,hr,hg⟩;have n:=ah hr;have b:=ah (hg.bk y.o (by show ¬w2.heap.size=w.heap.size+1;omega));have r:=ah (hg.bk N.o (by show ¬w.heap.size=w.heap.size+1;omega));have t:Hid (Below w.heap.size w v4):=z.o.trans (hg.below (by have:=z.o.size;omega) (fun q hq e=>by omega));have an:=hg.size;clear c0 hr hg O z N y M;obtain⟨c0,c1,c2,c3,c4,c5,c6,c7,c8⟩:=b.o.nine;have f1:=b.o.free 1;obtain⟨W4,j⟩:=NX9 ((v4.setCell ⟨w2.heap.size,1,none⟩ (.string data)))
     have B:Hid (Bk W4 w2.heap.size 109 #[.int .i64 4,.string data,.slice none 0 0,.int .u64 0,.int .u64 0,.slice none 0 0,.string ⟨#[]⟩,.int .i64 0,.string ⟨#[]⟩]):=by rw[<-j];have:=(b.o.set 1 (.string data));show Bk _ _ _ _;simpa using this
     have S:Hid (Rdr W4 (w.heap.size+1) ([])):=by rw[<-j];exact(Bk.far n.o (p:=⟨w2.heap.size,1,none⟩) (by show w.heap.size+1≠w2.heap.size;omega) _)
     have P:Hid (Bk W4 w.heap.size 109 #[.int .i64 0,.string ⟨#[]⟩,.slice none 0 0,.int .u64 0,.int .u64 0,.slice none 0 0,.string ⟨#[]⟩,.int .i64 0,.string ⟨#[]⟩]):=by rw[<-j];exact(Bk.far r.o (p:=⟨w2.heap.size,1,none⟩) (by show w.heap.size≠w2.heap.size;omega) _)
     have D:Hid (Below w.heap.size w W4):=by rw[<-j];exact(Below.setCell t.o (p:=⟨w2.heap.size,1,none⟩) (by show w.heap.size<=w2.heap.size;omega) _)
     have ao:v4.heap.size<=W4.heap.size:=by rw[<-j];simp[World.setCell]
     clear n b r t;have Q:Bk W4 (w.heap.size+1) 229 #[.string ⟨#[]⟩,.bool false]:=S.o;obtain⟨q0,q1,_,_⟩:=Q.two;have T:Hid (ObM W4 W4.heap.size ⟨4,data,[],zD,[],⟨#[]⟩,0,⟨#[]⟩⟩ ⟨none,0,0,none,0,0⟩):=⟨Sl.nil _ _ _ _,Sl.nil _ _ _ _,Nat.le_refl _,ZZ _,Nat.le_refl _,ZZ _⟩
     have A:=ah (mG ⟨4,data,[],zD,[],⟨#[]⟩,0,⟨#[]⟩⟩ ⟨none,0,0,none,0,0⟩ W4.heap.size W4 T.o ai HO.o);simp only[obV,obC]at A;obtain⟨k0,k1,k2,k3,k4,k5,k6,k7,k8⟩:=B.o.nine;go_wp2_with fail;refine A.o.mono ?_;rintro e w8 ⟨rfl,i⟩;have V:=ah (B.o.below i B.o.lt);have v:=ah (P.o.below i P.o.lt);have W:Hid (Below w.heap.size w w8):=D.o.trans (i.mono D.o.size);have ap:=ah ((T.o.below i ai).more i.size);have z8:w.heap.size<w8.heap.size:=v.o.lt;clear c0 c1 c2 c3 c4 c5 c6 c7 c8 k0 k1 k2 k3 k4 k5 k6 k7 k8 q0 q1 Q i A j;obtain⟨c0,c1,c2,c3,c4,c5,c6,c7,c8⟩:=V.o.nine;obtain⟨d0,d1,d2,d3,d4,d5,d6,d7,d8⟩:=v.o.nine;obtain⟨f0,f1,f2,f3,f4,f5,f6,f7,f8⟩:=fr9 v.o;have aq:w.heap.size≠w2.heap.size:=by omega
     go_wp2_with fail;refine ZY (dW Tryz.results81 rfl (dX v.o _ _ _ _ _ _ _ _ _) rfl) rfl ⟨⟨none,0,0,none,0,0⟩,rfl,?_,dV W.o ai _ _ _ _ _ _ _ _ _,NewO.none _ _ rfl,NewP.none _ _ rfl⟩;exact⟨Sl.nil _ _ _ _,Sl.nil _ _ _ _,Nat.le_refl _,ZZ _,Nat.le_refl _,ZZ _⟩
 | tree k d c e =>
   have g:aG o=aj 2++ (aj o.ents.length++ (o.ents.flatMap aQ++ [])):=by unfold aG fF;rw[if_pos k,k,List.append_nil];rfl
   obtain⟨h1,h2,h3,h4,h5⟩:=c;obtain⟨kind,data,ents,tree,pars,auth,time,msg⟩:=o;simp only at k e h1 h2 h3 h4 h5 d g;subst k d h1 h2 h3 h4 h5;obtain⟨s,hs⟩:=NX9 (ofL (aG (⟨2,⟨#[]⟩,ents,zD,[],⟨#[]⟩,0,⟨#[]⟩⟩:Ob)))
   rw[hs];have x: (aj 2++ (aj ents.length++ (ents.flatMap aQ++ []))).length<=1000000:=by rw[<-g];omega
   have E: (aj ents.length++ (ents.flatMap aQ++ [])).length<=1000000:=by rw[ae]at x;omega
   obtain⟨W1,m⟩:=NX9 ((w.alloc (.cells #[.int .i64 0,.string ⟨#[]⟩,.slice none 0 0,.int .u64 0,.int .u64 0,.slice none 0 0,.string ⟨#[]⟩,.int .i64 0,.string ⟨#[]⟩] 109)).alloc (.cells #[.string s,.bool false] 229))
   have F:Hid (Bk W1 w.heap.size 109 #[.int .i64 0,.string ⟨#[]⟩,.slice none 0 0,.int .u64 0,.int .u64 0,.slice none 0 0,.string ⟨#[]⟩,.int .i64 0,.string ⟨#[]⟩]):=by rw[<-m];exact(Bk.new w _ _).alloc _
   have G:Hid (Rdr W1 (w.heap.size+1) (aj 2++ (aj ents.length++ (ents.flatMap aQ++ [])))):=by
    show Bk _ _ _ _;rw[<-g,hs,<-m];have:=Bk.new (w.alloc (.cells #[.int .i64 0,.string ⟨#[]⟩,.slice none 0 0,.int .u64 0,.int .u64 0,.slice none 0 0,.string ⟨#[]⟩,.int .i64 0,.string ⟨#[]⟩] 109)) 229 #[.string s,.bool false]
    rwa[Z9]at this
   have H:Hid (Below w.heap.size w W1):=by rw[<-m];exact((af _ w).alloc ai _).alloc (by simp) _
   have am:W1.heap.size=w.heap.size+2:=by rw[<-m];simp
   have I:=ah (jg (w.heap.size+1) 2 (aj ents.length++ (ents.flatMap aQ++ [])) W1 G.o (by omega) x);clear hs g x
   go_enter Tryz.func81,Tryz.ntmps81
   go_wp2_with fail;refine I.o.mono ?_;rintro e w2 ⟨rfl,hr,hg⟩;have J:=ah hr;have K:Hid (Below w.heap.size w w2):=H.o.trans (hg.below (by omega) (fun q hq e=>by omega));have L:=ah (hg.bk F.o (by show ¬w.heap.size=w.heap.size+1;omega));have z2:w.heap.size+2<=w2.heap.size:=by have:=hg.size;omega
   clear hr hg m I H F G;obtain⟨W3,l⟩:=NX9 (w2.alloc (.cells #[.int .i64 2,.string ⟨#[]⟩,.slice none 0 0,.int .u64 0,.int .u64 0,.slice none 0 0,.string ⟨#[]⟩,.int .i64 0,.string ⟨#[]⟩] 109))
   have u:Below w2.heap.size w2 W3:=by rw[<-l];exact(af _ w2).alloc ai _
   have y:Hid (Bk W3 w2.heap.size 109 #[.int .i64 2,.string ⟨#[]⟩,.slice none 0 0,.int .u64 0,.int .u64 0,.slice none 0 0,.string ⟨#[]⟩,.int .i64 0,.string ⟨#[]⟩]):=by rw[<-l];exact Bk.new w2 _ _
   have M:Hid (Rdr W3 (w.heap.size+1) (aj ents.length++ (ents.flatMap aQ++ []))):=Bk.below J.o u (by omega);have N:=ah (L.o.below u (by omega));have z:Hid (Below w.heap.size w W3):=K.o.trans (u.mono (by omega));have z3:W3.heap.size=w2.heap.size+1:=by rw[<-l];simp
   have c0:=y.o.nine.1;rw[<-l]at c0;have U:=ah l;clear u l J L K;have O:=ah (E8 (w.heap.size+1) ents [] W3 M.o e.all e.few E);go_wp2_with fail;rw[U.o];refine O.o.mono ?_;rintro e v4 ⟨A4,X,rfl,bb,bd,ag,hr,hg⟩;have n:=ah hr;have b:=ah (hg.bk y.o (by show ¬w2.heap.size=w.heap.size+1;omega));have r:=ah (hg.bk N.o (by show ¬w.heap.size=w.heap.size+1;omega));have t:Hid (Below w.heap.size w v4):=z.o.trans (hg.below (by have:=z.o.size;omega) (fun q hq e=>by omega));have an:=hg.size;have C:=ah ag;clear c0 hr hg ag O z N y M;obtain⟨c0,c1,c2,c3,c4,c5,c6,c7,c8⟩:=b.o.nine;have f2:=b.o.free 2;obtain⟨W4,j⟩:=NX9 ((v4.setCell ⟨w2.heap.size,2,none⟩ (.slice A4 ents.length X)))
   have B:Hid (Bk W4 w2.heap.size 109 #[.int .i64 2,.string ⟨#[]⟩,.slice A4 ents.length X,.int .u64 0,.int .u64 0,.slice none 0 0,.string ⟨#[]⟩,.int .i64 0,.string ⟨#[]⟩]):=by rw[<-j];have:=(b.o.set 2 (.slice A4 ents.length X));show Bk _ _ _ _;simpa using this
   have S:Hid (Rdr W4 (w.heap.size+1) ([])):=by rw[<-j];exact(Bk.far n.o (p:=⟨w2.heap.size,2,none⟩) (by show w.heap.size+1≠w2.heap.size;omega) _)
   have P:Hid (Bk W4 w.heap.size 109 #[.int .i64 0,.string ⟨#[]⟩,.slice none 0 0,.int .u64 0,.int .u64 0,.slice none 0 0,.string ⟨#[]⟩,.int .i64 0,.string ⟨#[]⟩]):=by rw[<-j];exact(Bk.far r.o (p:=⟨w2.heap.size,2,none⟩) (by show w.heap.size≠w2.heap.size;omega) _)
   have D:Hid (Below w.heap.size w W4):=by rw[<-j];exact(Below.setCell t.o (p:=⟨w2.heap.size,2,none⟩) (by show w.heap.size<=w2.heap.size;omega) _)
   have ao:v4.heap.size<=W4.heap.size:=by rw[<-j];simp[World.setCell]
   have ar:=ah ((Apd.setCell C.o (a:=⟨w2.heap.size,2,none⟩) (by show w2.heap.size<_;omega) (.slice A4 ents.length X)));rw[j]at ar;clear n b r t C;have Q:Bk W4 (w.heap.size+1) 229 #[.string ⟨#[]⟩,.bool false]:=S.o;obtain⟨q0,q1,_,_⟩:=Q.two;have T:Hid (ObM W4 W4.heap.size ⟨2,⟨#[]⟩,ents,zD,[],⟨#[]⟩,0,⟨#[]⟩⟩ ⟨A4,ents.length,X,none,0,0⟩):=⟨ar.o.sl,Sl.nil _ _ _ _,bb,bd,Nat.le_refl _,ZZ _⟩
   have A:=ah (mG ⟨2,⟨#[]⟩,ents,zD,[],⟨#[]⟩,0,⟨#[]⟩⟩ ⟨A4,ents.length,X,none,0,0⟩ W4.heap.size W4 T.o ai HO.o);simp only[obV,obC]at A;obtain⟨k0,k1,k2,k3,k4,k5,k6,k7,k8⟩:=B.o.nine;go_wp2_with fail;refine A.o.mono ?_;rintro e w8 ⟨rfl,i⟩;have V:=ah (B.o.below i B.o.lt);have v:=ah (P.o.below i P.o.lt);have W:Hid (Below w.heap.size w w8):=D.o.trans (i.mono D.o.size);have ap:=ah ((T.o.below i ai).more i.size);have z8:w.heap.size<w8.heap.size:=v.o.lt;have al:=ah (ar.o.below i);clear c0 c1 c2 c3 c4 c5 c6 c7 c8 k0 k1 k2 k3 k4 k5 k6 k7 k8 q0 q1 Q i A j;obtain⟨c0,c1,c2,c3,c4,c5,c6,c7,c8⟩:=V.o.nine;obtain⟨d0,d1,d2,d3,d4,d5,d6,d7,d8⟩:=v.o.nine;obtain⟨f0,f1,f2,f3,f4,f5,f6,f7,f8⟩:=fr9 v.o;have aq:w.heap.size≠w2.heap.size:=by omega
   go_wp2_with fail;refine ZY (dW Tryz.results81 rfl (dX v.o _ _ _ _ _ _ _ _ _) rfl) rfl ⟨⟨A4,ents.length,X,none,0,0⟩,rfl,?_,dV W.o ai _ _ _ _ _ _ _ _ _,(al.o.set9 (by omega) _ _ _ _ _ _ _ _ _).newO (by omega) ⟨rfl,rfl,rfl⟩,NewP.none _ _ rfl⟩;exact⟨(al.o.set9 (by omega) _ _ _ _ _ _ _ _ _).sl,Sl.nil _ _ _ _,bb,bd,Nat.le_refl _,ZZ _⟩
 | commit k d e c =>
   have g:aG o=aj 3++ (ax o.tree++ (aj o.pars.length++ (o.pars.flatMap ax++ (ak (toL o.auth)++ (aj o.time.toNat++ (ak (toL o.msg)++ [])))))):=by unfold aG fF;rw[if_neg (by omega),if_pos k,k,List.append_nil];rfl
   obtain⟨kind,data,ents,⟨t1,t2⟩,pars,auth,time,msg⟩:=o;simp only at k e d g;subst k d e;have bf:0<=time:=c.t0;obtain⟨tn,au⟩:=Int.eq_ofNat_of_zero_le bf;subst au;have cg: (tn:Int)<=1099511627776:=c.t1;have au:tn<=1099511627776:=by omega
   have co:auth.size<=24:=gM c.auth;have cp:msg.size<=200:=c.msg;have ch:WfD (t1,t2):=c.wf;have bg:Hid (vU pars):=c.pars;simp only[Int.toNat_natCast]at g;clear c bf cg;obtain⟨s,hs⟩:=NX9 (ofL (aG (⟨3,⟨#[]⟩,[],(t1,t2),pars,auth,(tn:Int),msg⟩:Ob)))
   rw[hs];have x: (aj 3++ (ax (t1,t2)++ (aj pars.length++ (pars.flatMap ax++ (ak (toL auth)++ (aj tn++ (ak (toL msg)++ []))))))).length<=1000000:=by rw[<-g];omega
   have E: (ax (t1,t2)++ (aj pars.length++ (pars.flatMap ax++ (ak (toL auth)++ (aj tn++ (ak (toL msg)++ [])))))).length<=1000000:=by rw[ae]at x;omega
   obtain⟨W1,m⟩:=NX9 ((w.alloc (.cells #[.int .i64 0,.string ⟨#[]⟩,.slice none 0 0,.int .u64 0,.int .u64 0,.slice none 0 0,.string ⟨#[]⟩,.int .i64 0,.string ⟨#[]⟩] 109)).alloc (.cells #[.string s,.bool false] 229))
   have F:Hid (Bk W1 w.heap.size 109 #[.int .i64 0,.string ⟨#[]⟩,.slice none 0 0,.int .u64 0,.int .u64 0,.slice none 0 0,.string ⟨#[]⟩,.int .i64 0,.string ⟨#[]⟩]):=by rw[<-m];exact(Bk.new w _ _).alloc _
   have G:Hid (Rdr W1 (w.heap.size+1) (aj 3++ (ax (t1,t2)++ (aj pars.length++ (pars.flatMap ax++ (ak (toL auth)++ (aj tn++ (ak (toL msg)++ [])))))))):=by
    show Bk _ _ _ _;rw[<-g,hs,<-m];have:=Bk.new (w.alloc (.cells #[.int .i64 0,.string ⟨#[]⟩,.slice none 0 0,.int .u64 0,.int .u64 0,.slice none 0 0,.string ⟨#[]⟩,.int .i64 0,.string ⟨#[]⟩] 109)) 229 #[.string s,.bool false]
    rwa[Z9]at this
   have H:Hid (Below w.heap.size w W1):=by rw[<-m];exact((af _ w).alloc ai _).alloc (by simp) _
   have am:W1.heap.size=w.heap.size+2:=by rw[<-m];simp
   have I:=ah (jg (w.heap.size+1) 3 (ax (t1,t2)++ (aj pars.length++ (pars.flatMap ax++ (ak (toL auth)++ (aj tn++ (ak (toL msg)++ [])))))) W1 G.o (by omega) x);clear hs g x
   go_enter Tryz.func81,Tryz.ntmps81
   go_wp2_with fail;refine I.o.mono ?_;rintro e w2 ⟨rfl,hr,hg⟩;have J:=ah hr;have K:Hid (Below w.heap.size w w2):=H.o.trans (hg.below (by omega) (fun q hq e=>by omega));have L:=ah (hg.bk F.o (by show ¬w.heap.size=w.heap.size+1;omega));have z2:w.heap.size+2<=w2.heap.size:=by have:=hg.size;omega
   clear hr hg m I H F G;obtain⟨W3,l⟩:=NX9 (w2.alloc (.cells #[.int .i64 3,.string ⟨#[]⟩,.slice none 0 0,.int .u64 0,.int .u64 0,.slice none 0 0,.string ⟨#[]⟩,.int .i64 0,.string ⟨#[]⟩] 109))
   have u:Below w2.heap.size w2 W3:=by rw[<-l];exact(af _ w2).alloc ai _
   have y:Hid (Bk W3 w2.heap.size 109 #[.int .i64 3,.string ⟨#[]⟩,.slice none 0 0,.int .u64 0,.int .u64 0,.slice none 0 0,.string ⟨#[]⟩,.int .i64 0,.string ⟨#[]⟩]):=by rw[<-l];exact Bk.new w2 _ _
   have M:Hid (Rdr W3 (w.heap.size+1) (ax (t1,t2)++ (aj pars.length++ (pars.flatMap ax++ (ak (toL auth)++ (aj tn++ (ak (toL msg)++ []))))))):=Bk.below J.o u (by omega);have N:=ah (L.o.below u (by omega));have z:Hid (Below w.heap.size w W3):=K.o.trans (u.mono (by omega));have z3:W3.heap.size=w2.heap.size+1:=by rw[<-l];simp
   have c0:=y.o.nine.1;rw[<-l]at c0;have U:=ah l;clear u l J L K;have ci: (aj pars.length++ (pars.flatMap ax++ (ak (toL auth)++ (aj tn++ (ak (toL msg)++ []))))).length<=1000000:=by
    have h:=E;simp only[ae]at h ⊢;omega
   have cj: (ak (toL auth)++ (aj tn++ (ak (toL msg)++ []))).length<=1000000:=by
    have h:=E;simp only[ae]at h ⊢;omega
   have ck: (aj tn++ (ak (toL msg)++ [])).length<=1000000:=by
    have h:=E;simp only[ae]at h ⊢;omega
   have cl: (ak (toL msg)++ []).length<=1000000:=by
    have h:=E;simp only[ae]at h ⊢;omega
   have O:=ah (rJ (w.heap.size+1) (t1,t2) (aj pars.length++ (pars.flatMap ax++ (ak (toL auth)++ (aj tn++ (ak (toL msg)++ []))))) W3 M.o ch E);go_wp2_with fail;rw[U.o];refine O.o.mono ?_;rintro e v4 ⟨rfl,hr,hg⟩;simp only[aB];have n:=ah hr;have b:=ah (hg.bk y.o (by show ¬w2.heap.size=w.heap.size+1;omega));have r:=ah (hg.bk N.o (by show ¬w.heap.size=w.heap.size+1;omega));have t:Hid (Below w.heap.size w v4):=z.o.trans (hg.below (by have:=z.o.size;omega) (fun q hq e=>by omega));have an:=hg.size;clear c0 hr hg O z N y M;obtain⟨c0,c1,c2,c3,c4,c5,c6,c7,c8⟩:=b.o.nine;have f3:=b.o.free 3;have f4:=b.o.free 4;obtain⟨W4,j⟩:=NX9 (((v4.setCell ⟨w2.heap.size,3,none⟩ (.int .u64 t1)).setCell ⟨w2.heap.size,4,none⟩ (.int .u64 t2)))
   have B:Hid (Bk W4 w2.heap.size 109 #[.int .i64 3,.string ⟨#[]⟩,.slice none 0 0,.int .u64 t1,.int .u64 t2,.slice none 0 0,.string ⟨#[]⟩,.int .i64 0,.string ⟨#[]⟩]):=by rw[<-j];have:=((b.o.set 3 (.int .u64 t1)).set 4 (.int .u64 t2));show Bk _ _ _ _;simpa using this
   have S:Hid (Rdr W4 (w.heap.size+1) (aj pars.length++ (pars.flatMap ax++ (ak (toL auth)++ (aj tn++ (ak (toL msg)++ [])))))):=by rw[<-j];exact(Bk.far (Bk.far n.o (p:=⟨w2.heap.size,3,none⟩) (by show w.heap.size+1≠w2.heap.size;omega) _) (p:=⟨w2.heap.size,4,none⟩) (by show w.heap.size+1≠w2.heap.size;omega) _)
   have P:Hid (Bk W4 w.heap.size 109 #[.int .i64 0,.string ⟨#[]⟩,.slice none 0 0,.int .u64 0,.int .u64 0,.slice none 0 0,.string ⟨#[]⟩,.int .i64 0,.string ⟨#[]⟩]):=by rw[<-j];exact(Bk.far (Bk.far r.o (p:=⟨w2.heap.size,3,none⟩) (by show w.heap.size≠w2.heap.size;omega) _) (p:=⟨w2.heap.size,4,none⟩) (by show w.heap.size≠w2.heap.size;omega) _)
   have D:Hid (Below w.heap.size w W4):=by rw[<-j];exact(Below.setCell (Below.setCell t.o (p:=⟨w2.heap.size,3,none⟩) (by show w.heap.size<=w2.heap.size;omega) _) (p:=⟨w2.heap.size,4,none⟩) (by show w.heap.size<=w2.heap.size;omega) _)
   have ao:v4.heap.size<=W4.heap.size:=by rw[<-j];simp[World.setCell]
   clear n b r t;have bh:=ah (Fs (w.heap.size+1) pars (ak (toL auth)++ (aj tn++ (ak (toL msg)++ []))) W4 S.o bg.o.wf bg.o.few ci);go_wp2_with fail;refine bh.o.mono ?_;rintro e v5 ⟨A5,R,rfl,bi,bj,ag,hr,hg⟩;have n:=ah hr;have b:=ah (hg.bk B.o (by show ¬w2.heap.size=w.heap.size+1;omega));have r:=ah (hg.bk P.o (by show ¬w.heap.size=w.heap.size+1;omega));have t:Hid (Below w.heap.size w v5):=D.o.trans (hg.below (by have:=D.o.size;omega) (fun q hq e=>by omega));have cq:=hg.size;have C:=ah ag;clear hr hg ag bh D P B S j;obtain⟨c0,c1,c2,c3,c4,c5,c6,c7,c8⟩:=b.o.nine;have f5:=b.o.free 5;obtain⟨W5,Y⟩:=NX9 ((v5.setCell ⟨w2.heap.size,5,none⟩ (.slice A5 pars.length R)))
   have bm:Hid (Bk W5 w2.heap.size 109 #[.int .i64 3,.string ⟨#[]⟩,.slice none 0 0,.int .u64 t1,.int .u64 t2,.slice A5 pars.length R,.string ⟨#[]⟩,.int .i64 0,.string ⟨#[]⟩]):=by rw[<-Y];have:=(b.o.set 5 (.slice A5 pars.length R));show Bk _ _ _ _;simpa using this
   have bn:Hid (Rdr W5 (w.heap.size+1) (ak (toL auth)++ (aj tn++ (ak (toL msg)++ [])))):=by rw[<-Y];exact(Bk.far n.o (p:=⟨w2.heap.size,5,none⟩) (by show w.heap.size+1≠w2.heap.size;omega) _)
   have bo:Hid (Bk W5 w.heap.size 109 #[.int .i64 0,.string ⟨#[]⟩,.slice none 0 0,.int .u64 0,.int .u64 0,.slice none 0 0,.string ⟨#[]⟩,.int .i64 0,.string ⟨#[]⟩]):=by rw[<-Y];exact(Bk.far r.o (p:=⟨w2.heap.size,5,none⟩) (by show w.heap.size≠w2.heap.size;omega) _)
   have av:Hid (Below w.heap.size w W5):=by rw[<-Y];exact(Below.setCell t.o (p:=⟨w2.heap.size,5,none⟩) (by show w.heap.size<=w2.heap.size;omega) _)
   have cr:v5.heap.size<=W5.heap.size:=by rw[<-Y];simp[World.setCell]
   have bp:=ah ((Apd.setCell C.o (a:=⟨w2.heap.size,5,none⟩) (by show w2.heap.size<_;omega) (.slice A5 pars.length R)));rw[Y]at bp;clear n b r t C;have bq:=ah (lT (w.heap.size+1) auth (aj tn++ (ak (toL msg)++ [])) W5 bn.o (by omega) cj);go_wp2_with fail;refine bq.o.mono ?_;rintro e v6 ⟨rfl,hr,hg⟩;have n:=ah hr;have b:=ah (hg.bk bm.o (by show ¬w2.heap.size=w.heap.size+1;omega));have r:=ah (hg.bk bo.o (by show ¬w.heap.size=w.heap.size+1;omega));have t:Hid (Below w.heap.size w v6):=av.o.trans (hg.below (by have:=av.o.size;omega) (fun q hq e=>by omega));have cs:=hg.size;have C:=ah (bp.o.gb hg (by omega));clear hr hg bq av bo bm bn Y;obtain⟨c0,c1,c2,c3,c4,c5,c6,c7,c8⟩:=b.o.nine;have f6:=b.o.free 6;obtain⟨W6,Z⟩:=NX9 ((v6.setCell ⟨w2.heap.size,6,none⟩ (.string auth)))
   have br:Hid (Bk W6 w2.heap.size 109 #[.int .i64 3,.string ⟨#[]⟩,.slice none 0 0,.int .u64 t1,.int .u64 t2,.slice A5 pars.length R,.string auth,.int .i64 0,.string ⟨#[]⟩]):=by rw[<-Z];have:=(b.o.set 6 (.string auth));show Bk _ _ _ _;simpa using this
   have bs:Hid (Rdr W6 (w.heap.size+1) (aj tn++ (ak (toL msg)++ []))):=by rw[<-Z];exact(Bk.far n.o (p:=⟨w2.heap.size,6,none⟩) (by show w.heap.size+1≠w2.heap.size;omega) _)
   have bt:Hid (Bk W6 w.heap.size 109 #[.int .i64 0,.string ⟨#[]⟩,.slice none 0 0,.int .u64 0,.int .u64 0,.slice none 0 0,.string ⟨#[]⟩,.int .i64 0,.string ⟨#[]⟩]):=by rw[<-Z];exact(Bk.far r.o (p:=⟨w2.heap.size,6,none⟩) (by show w.heap.size≠w2.heap.size;omega) _)
   have aw:Hid (Below w.heap.size w W6):=by rw[<-Z];exact(Below.setCell t.o (p:=⟨w2.heap.size,6,none⟩) (by show w.heap.size<=w2.heap.size;omega) _)
   have ct:v6.heap.size<=W6.heap.size:=by rw[<-Z];simp[World.setCell]
   have bv:=ah ((Apd.setCell C.o (a:=⟨w2.heap.size,6,none⟩) (by show w2.heap.size<_;omega) (.string auth)));rw[Z]at bv;clear n b r t C;have bw:=ah (jg (w.heap.size+1) tn (ak (toL msg)++ []) W6 bs.o au ck);go_wp2_with fail;refine bw.o.mono ?_;rintro e v7 ⟨rfl,hr,hg⟩;have n:=ah hr;have b:=ah (hg.bk br.o (by show ¬w2.heap.size=w.heap.size+1;omega));have r:=ah (hg.bk bt.o (by show ¬w.heap.size=w.heap.size+1;omega));have t:Hid (Below w.heap.size w v7):=aw.o.trans (hg.below (by have:=aw.o.size;omega) (fun q hq e=>by omega));have cu:=hg.size;have C:=ah (bv.o.gb hg (by omega));clear hr hg bw aw bt br bs Z;obtain⟨c0,c1,c2,c3,c4,c5,c6,c7,c8⟩:=b.o.nine;have f7:=b.o.free 7;obtain⟨W7,ab⟩:=NX9 ((v7.setCell ⟨w2.heap.size,7,none⟩ (.int .i64 (tn:Int))))
   have bx:Hid (Bk W7 w2.heap.size 109 #[.int .i64 3,.string ⟨#[]⟩,.slice none 0 0,.int .u64 t1,.int .u64 t2,.slice A5 pars.length R,.string auth,.int .i64 (tn:Int),.string ⟨#[]⟩]):=by rw[<-ab];have:=(b.o.set 7 (.int .i64 (tn:Int)));show Bk _ _ _ _;simpa using this
   have bz:Hid (Rdr W7 (w.heap.size+1) (ak (toL msg)++ [])):=by rw[<-ab];exact(Bk.far n.o (p:=⟨w2.heap.size,7,none⟩) (by show w.heap.size+1≠w2.heap.size;omega) _)
   have ca:Hid (Bk W7 w.heap.size 109 #[.int .i64 0,.string ⟨#[]⟩,.slice none 0 0,.int .u64 0,.int .u64 0,.slice none 0 0,.string ⟨#[]⟩,.int .i64 0,.string ⟨#[]⟩]):=by rw[<-ab];exact(Bk.far r.o (p:=⟨w2.heap.size,7,none⟩) (by show w.heap.size≠w2.heap.size;omega) _)
   have aD:Hid (Below w.heap.size w W7):=by rw[<-ab];exact(Below.setCell t.o (p:=⟨w2.heap.size,7,none⟩) (by show w.heap.size<=w2.heap.size;omega) _)
   have cv:v7.heap.size<=W7.heap.size:=by rw[<-ab];simp[World.setCell]
   have cb:=ah ((Apd.setCell C.o (a:=⟨w2.heap.size,7,none⟩) (by show w2.heap.size<_;omega) (.int .i64 (tn:Int))));rw[ab]at cb;clear n b r t C;have cc:=ah (lT (w.heap.size+1) msg [] W7 bz.o (by omega) cl);go_wp2_with fail;refine cc.o.mono ?_;rintro e v9 ⟨rfl,hr,hg⟩;have n:=ah hr;have b:=ah (hg.bk bx.o (by show ¬w2.heap.size=w.heap.size+1;omega));have r:=ah (hg.bk ca.o (by show ¬w.heap.size=w.heap.size+1;omega));have t:Hid (Below w.heap.size w v9):=aD.o.trans (hg.below (by have:=aD.o.size;omega) (fun q hq e=>by omega));have cw:=hg.size;have C:=ah (cb.o.gb hg (by omega));clear hr hg cc aD ca bx bz ab;obtain⟨c0,c1,c2,c3,c4,c5,c6,c7,c8⟩:=b.o.nine;have f8:=b.o.free 8;obtain⟨W9,ad⟩:=NX9 ((v9.setCell ⟨w2.heap.size,8,none⟩ (.string msg)))
   have aE:Hid (Bk W9 w2.heap.size 109 #[.int .i64 3,.string ⟨#[]⟩,.slice none 0 0,.int .u64 t1,.int .u64 t2,.slice A5 pars.length R,.string auth,.int .i64 (tn:Int),.string msg]):=by rw[<-ad];have:=(b.o.set 8 (.string msg));show Bk _ _ _ _;simpa using this
   have cm:Hid (Rdr W9 (w.heap.size+1) ([])):=by rw[<-ad];exact(Bk.far n.o (p:=⟨w2.heap.size,8,none⟩) (by show w.heap.size+1≠w2.heap.size;omega) _)
   have cd:Hid (Bk W9 w.heap.size 109 #[.int .i64 0,.string ⟨#[]⟩,.slice none 0 0,.int .u64 0,.int .u64 0,.slice none 0 0,.string ⟨#[]⟩,.int .i64 0,.string ⟨#[]⟩]):=by rw[<-ad];exact(Bk.far r.o (p:=⟨w2.heap.size,8,none⟩) (by show w.heap.size≠w2.heap.size;omega) _)
   have ce:Hid (Below w.heap.size w W9):=by rw[<-ad];exact(Below.setCell t.o (p:=⟨w2.heap.size,8,none⟩) (by show w.heap.size<=w2.heap.size;omega) _)
   have cx:v9.heap.size<=W9.heap.size:=by rw[<-ad];simp[World.setCell]
   have ba:=ah ((Apd.setCell C.o (a:=⟨w2.heap.size,8,none⟩) (by show w2.heap.size<_;omega) (.string msg)));rw[ad]at ba;clear n b r t C;have Q:Bk W9 (w.heap.size+1) 229 #[.string ⟨#[]⟩,.bool false]:=cm.o;obtain⟨q0,q1,_,_⟩:=Q.two;have cf:Hid (ObM W9 W9.heap.size ⟨3,⟨#[]⟩,[],(t1,t2),pars,auth,(tn:Int),msg⟩ ⟨none,0,0,A5,pars.length,R⟩):=⟨Sl.nil _ _ _ _,ba.o.sl,Nat.le_refl _,ZZ _,bi,bj⟩
   have A:=ah (mG ⟨3,⟨#[]⟩,[],(t1,t2),pars,auth,(tn:Int),msg⟩ ⟨none,0,0,A5,pars.length,R⟩ W9.heap.size W9 cf.o ai HO.o);simp only[obV,obC]at A;obtain⟨k0,k1,k2,k3,k4,k5,k6,k7,k8⟩:=aE.o.nine;go_wp2_with fail;refine A.o.mono ?_;rintro e w8 ⟨rfl,i⟩;have V:=ah (aE.o.below i aE.o.lt);have v:=ah (cd.o.below i cd.o.lt);have W:Hid (Below w.heap.size w w8):=ce.o.trans (i.mono ce.o.size);have ap:=ah ((cf.o.below i ai).more i.size);have z8:w.heap.size<w8.heap.size:=v.o.lt;have al:=ah (ba.o.below i);clear c0 c1 c2 c3 c4 c5 c6 c7 c8 k0 k1 k2 k3 k4 k5 k6 k7 k8 q0 q1 Q i A ad;obtain⟨c0,c1,c2,c3,c4,c5,c6,c7,c8⟩:=V.o.nine;obtain⟨d0,d1,d2,d3,d4,d5,d6,d7,d8⟩:=v.o.nine;obtain⟨f0,f1,f2,f3,f4,f5,f6,f7,f8⟩:=fr9 v.o;have aq:w.heap.size≠w2.heap.size:=by omega
   go_wp2_with fail;refine ZY (dW Tryz.results81 rfl (dX v.o _ _ _ _ _ _ _ _ _) rfl) rfl ⟨⟨none,0,0,A5,pars.length,R⟩,rfl,?_,dV W.o ai _ _ _ _ _ _ _ _ _,NewO.none _ _ rfl,(al.o.set9 (by omega) _ _ _ _ _ _ _ _ _).newP (by omega) ⟨rfl,rfl,rfl⟩⟩;exact⟨Sl.nil _ _ _ _,(al.o.set9 (by omega) _ _ _ _ _ _ _ _ _).sl,Nat.le_refl _,ZZ _,bi,bj⟩
theorem uP(b:Nat)(w:MZ)(y0 y1 y2 y3 y4 y5 y6 y7 y8:M4)(k:Nat)(hk:k≠b): ((((((((((w.setCell ⟨b,0,none⟩ y0).setCell ⟨b,1,none⟩ y1).setCell ⟨b,2,none⟩ y2).setCell ⟨b,3,none⟩ y3).setCell ⟨b,4,none⟩ y4).setCell ⟨b,5,none⟩ y5).setCell ⟨b,6,none⟩ y6).setCell ⟨b,7,none⟩ y7).setCell ⟨b,8,none⟩ y8)).heap[k]? =w.heap[k]? :=by
 have h:=fun(W:MZ)(i:Nat)(y:M4)=>Z8 W ⟨b,i,none⟩ y k hk;rw[h,h,h,h,h,h,h,h,h]
theorem Sl.ne{w w':MZ}{B size n b:Nat}{A:OA}{xs:List M4}(h:Sl w B size A n xs)(hn:∀a,0<n->A=some a->a.block≠b)(hw:∀k,k≠b->w'.heap[k]? =w.heap[k]?):Sl w' B size A n xs:=by
 refine⟨h.1,fun h0=>?_⟩;obtain⟨b',c,rfl,d,hc⟩:=h.2 h0;have e:=hn _ h0 rfl;exact⟨b',c,rfl,d,fun j u hu=>(World.cell?_of_block (hw b' e)).trans (hc j u hu)⟩
def zrC:Array M4:=#[.int .i64 0,.string ⟨#[]⟩,.slice none 0 0,.int .u64 0,.int .u64 0,.slice none 0 0,.string ⟨#[]⟩,.int .i64 0,.string ⟨#[]⟩]
theorem IP:∀(i:Nat)(v:Bool),zrC[i]? ≠some (.bool v)
 | 0,_ | 1,_ | 2,_ | 3,_ | 4,_ | 5,_ | 6,_ | 7,_ | 8,_=>by simp[zrC]
 | i+9,_=>by simp[zrC]
theorem JO:∀(i:Nat)(x y:Int),zrC[i]? =some (.int .u64 x)->zrC[i+1]? =some (.int .u64 y)->x=0/\y=0
 | 0,_,_ | 1,_,_ | 2,_,_ | 4,_,_ | 5,_,_ | 6,_,_ | 7,_,_ | 8,_,_=>by simp[zrC]
 | 3,_,_=>by simp[zrC];omega
 | i+9,_,_=>by simp[zrC]
theorem JQ{o:Ob}(ho:OkO o):∀d∈o.pars,d≠zD:=by
 cases ho.f with
 | blob _ _ c _=>rw[c.pars];intro d h;cases h
 | tree _ _ c _=>rw[c.pars];intro d h;cases h
 | commit _ _ _ c=>exact c.pars.nz
theorem ObM.zero{w w':MZ}{B b:Nat}{t:TypeId}{o:Ob}{s:Osl}(h:ObM w B o s)(ho:OkO o)(hz:Bk w b t zrC)(hw:∀k,k≠b->w'.heap[k]? =w.heap[k]?):ObM w' B o s:=by
 refine⟨h.e.ne (b:=b) ?_ hw,h.p.ne (b:=b) ?_ hw,h.ele,h.emx,h.ple,h.pmx⟩
 . rintro a h0 ha rfl
   obtain⟨b',f,e,c,_,_,_,h1,_⟩:=h.e.en h0;rw[ha]at c;cases c
   rw[hz.cell]at h1;exact IP _ _ h1
 . rintro a h0 ha rfl
   obtain⟨b',f,d,c,_,hd,h1,h2⟩:=h.p.dg h0;rw[ha]at c;cases c
   rw[hz.cell]at h1 h2;have:=JO _ _ _ h1 h2;exact JQ ho d (Z7 hd) (by obtain⟨x,y⟩:=d;obtain⟨h1,h2⟩:=this;simp only at h1 h2;rw[h1,h2];rfl)
def zOb:Ob:=⟨0,⟨#[]⟩,[],zD,[],⟨#[]⟩,0,⟨#[]⟩⟩
def zOs:Osl:=⟨none,0,0,none,0,0⟩
def GeE(p:List Itm)(d:Dig)(w:MZ)(e:Ending)(w':MZ):Prop :=
 ((∃o s,aL p d=some o/\OkO o/\e= .returned (.tuple #[obV o s,.int .i64 0])/\ObM w' w'.heap.size o s/\NewO w' w.heap.size s/\NewP w' w.heap.size s)∨ (aL p d=none/\e= .returned (.tuple #[obV zOb zOs,.int .i64 8])))/\Below w.heap.size w w'
theorem tK(A:OA)(n c B:Nat)(p:List Itm)(d:Dig)(w:MZ)(h0:Sl w B 3 A n (flat itC p))(hB:B<=w.heap.size)(hn:n<=1000000)(hp:PlOk p) :
  Calls Tryz.prog 52 #[.slice A n c,aB d] w (GeE p d w):=by
 have HP:=ah hp;have HL:=ah (h0.len bO (by omega));clear hp;obtain⟨d1,d2⟩:=d;obtain⟨W,hW⟩:=NX9 ((w.alloc (.cells #[.int .u64 d1,.int .u64 d2] 50)).alloc (.cells #[.int .i64 0,.string ⟨#[]⟩,.slice none 0 0,.int .u64 0,.int .u64 0,.slice none 0 0,.string ⟨#[]⟩,.int .i64 0,.string ⟨#[]⟩] 109))
 have f:Hid (Below w.heap.size w W):=by rw[<-hW];exact((af _ w).alloc ai _).alloc (by simp) _
 have HK:Hid (Bk W w.heap.size 50 #[.int .u64 d1,.int .u64 d2]):=by rw[<-hW];exact(Bk.new w _ _).alloc _
 have HZ:Hid (Bk W (w.heap.size+1) 109 #[.int .i64 0,.string ⟨#[]⟩,.slice none 0 0,.int .u64 0,.int .u64 0,.slice none 0 0,.string ⟨#[]⟩,.int .i64 0,.string ⟨#[]⟩]):=by
  rw[<-hW];have:=Bk.new (w.alloc (.cells #[.int .u64 d1,.int .u64 d2] 50)) 109 #[.int .i64 0,.string ⟨#[]⟩,.slice none 0 0,.int .u64 0,.int .u64 0,.slice none 0 0,.string ⟨#[]⟩,.int .i64 0,.string ⟨#[]⟩];rw[Z9]at this;exact this
 have HC:=ah (sM A n c B p (d1,d2) W (h0.below f.o hB) (Z0 hB f.o.size) hn HP.o.asc);have H0:=ah h0;clear h0;have zW:w.heap.size+2=W.heap.size:=by rw[<-hW];simp
 have HW:=ah hW;clear hW;unfold BsE at HC;simp only[aB]at HC ⊢;obtain⟨x0,x1,_,_⟩:=HK.o.two;cases hf:bE p (d1,d2) with
 | none =>
   have HN:Hid (aL p (d1,d2)=none):=getP_none.2 hf;rw[hf]at HC;simp only[Option.isSome_none]at HC;clear hf
   go_enter Tryz.func52,Tryz.ntmps52
   go_wp2_with fail;rw[HW.o];refine HC.o.mono ?_;rintro e w2 ⟨rfl,hb⟩;have h:=ah (HZ.o.below hb (by omega));have a:Hid (Below w.heap.size w w2):=f.o.trans (hb.mono f.o.size);obtain⟨z0,z1,z2,z3,z4,z5,z6,z7,z8⟩:=h.o.nine;obtain⟨g0,g1,g2,g3,g4,g5,g6,g7,g8⟩:=fr9 h.o;clear hb HC;go_wp2_with fail;refine ZY (dW Tryz.results52 rfl (dX h.o _ _ _ _ _ _ _ _ _) rfl) rfl ⟨.inr ⟨HN.o,rfl⟩,dV a.o (by omega) _ _ _ _ _ _ _ _ _⟩
 | some b =>
   have HM:Hid (((d1,d2),b)∈p):=(iB HP.o.asc).1 hf;obtain⟨o,ho,j⟩:=HP.o.enc _ HM.o;simp only at j;have HG:Hid (aL p (d1,d2)=some o):=(gz HP.o).2 ⟨ho,by rw[<-j];exact HM.o⟩;have HO:=ah ho;have HI:Hid (∃i,p[atD p (d1,d2)]? =some i/\i.2=b/\atD p (d1,d2)<n):=by
    unfold bE at hf;cases hi:p[atD p (d1,d2)]? with
    | none=>rw[hi]at hf;cases hf
    | some i =>
      rw[hi]at hf;simp only at hf;split at hf
      . exact⟨i,rfl,by cases hf;rfl,by rw[<-HL.o];exact(List.getElem?_eq_some_iff.1 hi).1⟩
      . cases hf
   obtain⟨i,hi,q,r⟩:=HI.o;rw[hf]at HC;simp only[Option.isSome_some]at HC;obtain⟨m,hm⟩:=NX9 (atD p (d1,d2))
   rw[hm]at HC hi r;clear hf ho hm
   go_enter Tryz.func52,Tryz.ntmps52
   go_wp2_with fail;rw[HW.o];refine HC.o.mono ?_;rintro e w2 ⟨rfl,hb⟩;have a:Hid (Below w.heap.size w w2):=f.o.trans (hb.mono f.o.size);have h:=ah (HZ.o.below hb (by omega));obtain⟨bb,E,i',rfl,F,hx,y0,y1,y2⟩:=(H0.o.below a.o hB).it r;rw[hi]at hx;obtain rfl:=Option.some.inj hx;rw[q,j]at y2;have HD:=ah (oq o w2 HO.o);have G:=hb.size;clear hb HC hi q j hx;have H: (m:Int)< (n:Int):=by omega
   go_wp2_with fail;refine HD.o.mono ?_;rintro e w3 ⟨s,rfl,u,l,v,x⟩;have y:Hid (NewP w3 w.heap.size s):=x.mono a.o.size;have z:Hid (NewO w3 w.heap.size s):=v.mono a.o.size;have g:=ah (h.o.below l (by omega));have C:Hid (Below w.heap.size w w3):=a.o.trans (l.mono a.o.size);have D:=ah u;simp only[obV,obC];obtain⟨z0,z1,z2,z3,z4,z5,z6,z7,z8⟩:=g.o.nine;obtain⟨g0,g1,g2,g3,g4,g5,g6,g7,g8⟩:=fr9 g.o;clear l u v x HD;go_wp2_with fail;refine ZY (dW Tryz.results52 rfl (dX g.o _ _ _ _ _ _ _ _ _) rfl) rfl ⟨.inl ⟨o,s,HG.o,HO.o,rfl,?_,?_,?_⟩,dV C.o (by omega) _ _ _ _ _ _ _ _ _⟩
   . have:=D.o.zero (t:=109) HO.o g.o (fun k hk=>uP _ w3 (.int .i64 o.kind) (.string o.data) (.slice s.eA s.en s.ec) (.int .u64 o.tree.1) (.int .u64 o.tree.2) (.slice s.pA s.pn s.pc) (.string o.auth) (.int .i64 o.time) (.string o.msg) k hk)
     simpa using this
   . have:=z.o.keep (t:=109) g.o (by decide) (fun k hk=>uP _ w3 (.int .i64 o.kind) (.string o.data) (.slice s.eA s.en s.ec) (.int .u64 o.tree.1) (.int .u64 o.tree.2) (.slice s.pA s.pn s.pc) (.string o.auth) (.int .i64 o.time) (.string o.msg) k hk)
     simpa using this
   . have:=y.o.keep (t:=109) g.o (by decide) (fun k hk=>uP _ w3 (.int .i64 o.kind) (.string o.data) (.slice s.eA s.en s.ec) (.int .u64 o.tree.1) (.int .u64 o.tree.2) (.slice s.pA s.pn s.pc) (.string o.auth) (.int .i64 o.time) (.string o.msg) k hk)
     simpa using this
theorem Sl.dgbox{w:MZ}{B n b:Nat}{t:TypeId}{A:OA}{q:List Itm}{x y:M4}(h:Sl w B 3 A n (flat itC q))(hk:Bk w b t #[x,y]):∀a,0<n->A=some a->a.block≠b:=by
 rintro a h0 ha rfl;obtain⟨b',d,i,c,_,_,_,_,h2⟩:=h.it h0;rw[ha]at c;cases c
 rw[hk.cell]at h2;simp at h2
theorem iR{fn:Func}{r c i:Tmp}(h:fn.results= #[.tmp r,.cell c 50,.tmp i]){w:MZ}{a:Array M4}{b:Nat}{x y u v:M4}(hr:a[r]?.getD undef=u)(ha:a[c]?.getD undef= .pointer (some ⟨b,0,none⟩))(hk:Bk w b 50 #[x,y])(hv:a[i]?.getD undef=v) :
  (results fn a).run Tryz.prog w= .ok (.tuple #[u,.agg #[x,y],v]) w:=by
 obtain⟨h0,h1,_,_⟩:=hk.two;simp[results,h,hr,ha,hv,go_sem,h0,h1]
def PuE(A0:OA)(c0:Nat)(p:List Itm)(o:Ob)(w:MZ)(e:Ending)(w':MZ):Prop :=
 ((∃q A c,bA p o=some q/\e= .returned (.tuple #[.slice A q.length c,aB (dgO o),.int .i64 0])/\Sl w' w'.heap.size 3 A q.length (flat itC q)/\q.length<=c/\c<=maxLen/\Ply w' w.heap.size A0 c0 p A c q)∨ (bA p o=none/\e= .returned (.tuple #[.slice none 0 0,aB zD,.int .i64 16])))/\Below w.heap.size w w'
theorem uC(A:OA)(n c B:Nat)(p:List Itm)(o:Ob)(s:Osl)(w:MZ)(h0:Sl w B 3 A n (flat itC p))(hm:ObM w B o s)(hB:B<=w.heap.size)(hnc:n<=c)(hcm:c<=maxLen)(hn:n<=900000)(ha:AscI p)(ho:OkO o) :
  Calls Tryz.prog 68 #[.slice A n c,obV o s] w (PuE A c p o w):=by
 have HO:=ah ho;have F:=ah ha;have G:=ah hcm;have H:=ah hnc;have I:=ah hn;obtain⟨W,hW⟩:=NX9 ((w.alloc (.cells (obC o s) 109)).alloc (.cells #[.int .u64 0,.int .u64 0] 50))
 have i:Hid (Below w.heap.size w W):=by rw[<-hW];exact((af _ w).alloc ai _).alloc (by simp) _
 have HK:Hid (Bk W w.heap.size 109 (obC o s)):=by rw[<-hW];exact(Bk.new w _ _).alloc _
 have HD:Hid (Bk W (w.heap.size+1) 50 #[.int .u64 0,.int .u64 0]):=by
  rw[<-hW];have:=Bk.new (w.alloc (.cells (obC o s) 109)) 50 #[.int .u64 0,.int .u64 0];rw[Z9]at this;exact this
 have zW:w.heap.size+2=W.heap.size:=by rw[<-hW];simp
 have HE:=ah (rD o s B W (hm.below i.o hB) (by omega) ho);have H0:=ah h0;have r: (ofL (aG o)).size<=maxLen:=by rw[bG];have:=ho.len;unfold maxLen;omega
 have f:=ah (fun w=>qh (ofL (aG o)) w r);have t:Hid (ofB (toL (ofL (aG o)))=dgO o):=by show _=_;rw[bP];rfl
 unfold lC at f;rw[t.o]at f;have j:Hid (bA p o=cB p (dgO o,ofL (aG o))):=rfl;unfold qB at HE;simp only[obV,obC]at HE hW HK ⊢;obtain⟨sb,u⟩:=NX9 (ofL (aG o))
 rw[u]at HE f j;obtain⟨⟨d1,d2⟩,v⟩:∃d,dgO o=d:=⟨_,rfl⟩
 unfold PuE;rw[v]at f j ⊢;rw[j.o];simp only[aB]at f ⊢;obtain⟨c0,c1,c2,c3,c4,c5,c6,c7,c8⟩:=HK.o.nine;have HW:=ah hW;clear h0 hm ho ha hcm hn u v t r hW hnc
 go_enter Tryz.func68,Tryz.ntmps68
 go_wp2_with fail;rw[HW.o];go_wp2_with fail;refine HE.o.mono ?_;rintro e w2 ⟨rfl,hb⟩;have x:Hid (Below w.heap.size w w2):=i.o.trans (hb.mono i.o.size);have J:=ah (HD.o.below hb (by omega));have z2:w.heap.size+2<=w2.heap.size:=by have:=hb.size;omega
 clear hb HE c0 c1 c2 c3 c4 c5 c6 c7 c8;go_wp2_with fail;refine(f.o _).mono ?_;rintro e w3 ⟨rfl,hb⟩;have y:Hid (Below w.heap.size w w3):=x.o.trans (hb.mono x.o.size);have K:=ah (J.o.below hb (by omega));have z3:w.heap.size+2<=w3.heap.size:=by have:=hb.size;omega
 obtain⟨W3,l⟩:=NX9 (w3.alloc (.cells #[.int .u64 d1,.int .u64 d2] 50))
 have z:Hid (Below w3.heap.size w3 W3):=by rw[<-l];exact(af _ w3).alloc ai _
 have m:Hid (Bk W3 w3.heap.size 50 #[.int .u64 d1,.int .u64 d2]):=by rw[<-l];exact Bk.new w3 _ _
 have C:=ah (K.o.below z.o (by omega));have g:Hid (Below w.heap.size w W3):=y.o.trans (z.o.mono y.o.size);have D:w3.heap.size<W3.heap.size:=m.o.lt;have HI:=ah (EJ A n c B p ((d1,d2),sb) W3 (H0.o.below g.o hB) (by omega) H.o G.o I.o F.o);unfold Dj at HI;simp only[itV]at HI;obtain⟨x0,x1,_,_⟩:=m.o.two;clear hb;go_wp2_with fail;refine HI.o.mono ?_;rintro e w4 ⟨hq,hb⟩;have E:Hid (Below w.heap.size w w4):=g.o.trans (hb.mono g.o.size);have a:=ah (C.o.below hb (by omega));have L:=ah (m.o.below hb D);have z4:w3.heap.size<w4.heap.size:=Nat.lt_of_lt_of_le D hb.size;have g0:=a.o.free 0;have g1:=a.o.free 1;obtain⟨y0,y1,_,_⟩:=a.o.two;obtain⟨x0,x1,_,_⟩:=L.o.two;clear hb HI l;rcases hq with ⟨q,A',c',h1,rfl,h2,h3,h4,h5⟩ | ⟨h1,rfl⟩
 . have HQ:=ah h1;have HS:=ah h2;have H3:=ah h3;have H4:=ah h4;have H5:=ah h5
   clear h1 h2 h3 h4 h5;go_wp2_with fail
   go_region
   go_wp2_with fail;refine ZY (iR Tryz.results68 rfl rfl ((a.o.set2 (.int .u64 d1) (.int .u64 d2)).drew) rfl) rfl ⟨.inl ⟨q,A',c',HQ.o,rfl,?_,H3.o,H4.o,?_⟩,(dR E.o (by omega) _ _).drew⟩
   . have:=HS.o.ne (b:=w.heap.size+1) (HS.o.dgbox a.o) (fun k hk=>(Z8 (w4.setCell ⟨w.heap.size+1,0,none⟩ (.int .u64 d1)) ⟨w.heap.size+1,1,none⟩ (.int .u64 d2) k hk).trans (Z8 w4 ⟨w.heap.size+1,0,none⟩ (.int .u64 d1) k hk))
     simpa using this.drew
   . rcases H5.o with h | h
     . exact .inl h
     . exact .inr (iO (iO (jY h (by omega)) a.o (by decide) 0 _) (a.o.set 0 _) (by decide) 1 _).drew
 . have HQ:=ah h1
   clear h1;go_wp2_with fail;refine ZY (iR Tryz.results68 rfl rfl (a.o.set2 _ _) rfl) rfl ⟨.inr ⟨HQ.o,rfl⟩,dR E.o (by omega) _ _⟩
theorem pW{P:Program}{ops:Array Oper}{rest:List Oper}{o:Oper}{a:Act}{w:MZ}{Q:Exit->Act->MZ->Prop}(s x:Operand)(t:TypeId)(_:o.op= .call {callee:= .builtin .append,args:=#[s,x],argTypes:=#[t,t]})
  (h:Hid (wpList P ops Q (o::rest) a w)):wpList P ops Q (o::rest) a w:=h
structure Rsl where
 d:Dsl
 pA:OA
 pc:Nat
 rA:OA
 rc:Nat
 lA:OA
 lc:Nat
def rpC(r:Rp)(s:Rsl):Array M4:=#[.int .i64 r.d.sz,.slice s.d.a1 r.d.ss.length s.d.c1,.slice s.d.a2 r.d.pn.length s.d.c2,.int .i64 r.d.lf,.slice s.pA r.p.length s.pc,.slice s.rA r.rs.length s.rc,.slice s.lA r.lg.length s.lc]
def rpV(r:Rp)(s:Rsl):M4:= .agg (rpC r s)
structure RpM(w:MZ)(B:Nat)(r:Rp)(s:Rsl):Prop where
 d:DkM w B r.d s.d
 p:Sl w B 3 s.pA r.p.length (flat itC r.p)
 rf:Sl w B 3 s.rA r.rs.length (flat rfC r.rs)
 l:Sl w B 5 s.lA r.lg.length (flat upC r.lg)
 pc:r.p.length<=s.pc
 pm:s.pc<=maxLen
theorem RpM.below{w w':MZ}{B B':Nat}{r:Rp}{s:Rsl}(h:RpM w B r s)(hb:Below B' w w')(hB:B<=B'):RpM w' B r s:=⟨h.d.below hb hB,h.p.below hb hB,h.rf.below hb hB,h.l.below hb hB,h.pc,h.pm⟩
theorem RpM.more{w:MZ}{B B':Nat}{r:Rp}{s:Rsl}(h:RpM w B r s)(hB:B<=B'):RpM w B' r s:=⟨h.d.more hB,h.p.more hB,h.rf.more hB,h.l.more hB,h.pc,h.pm⟩
def zRs:Rsl:=⟨⟨none,0,none,0⟩,none,0,none,0,none,0⟩
theorem RpM.zero(w:MZ)(B:Nat):RpM w B zRp zRs:=⟨⟨Sl.nil _ _ _ _,Sl.nil _ _ _ _⟩,Sl.nil _ _ _ _,Sl.nil _ _ _ _,Sl.nil _ _ _ _,Nat.le_refl _,ZZ _⟩
abbrev rzC:Array M4:=#[.int .i64 0,.slice none 0 0,.slice none 0 0,.int .i64 0,.slice none 0 0,.slice none 0 0,.slice none 0 0]
def dw(r:Rp)(x:Int)(w:MZ)(e:Ending)(w':MZ):Prop:=∃s,e= .returned (.tuple #[rpV r s,.int .i64 x])/\RpM w' w'.heap.size r s/\Below w.heap.size w w'
section
variable {w w' : MZ} {b : Nat} {t : TypeId} {x0 x1 x2 x3 x4 x5 x6 : M4}
theorem Bk.seven(h:Bk w b t #[x0,x1,x2,x3,x4,x5,x6]): (w.cell? ⟨b,0,none⟩=some x0/\w.cell? ⟨b,1,none⟩=some x1/\w.cell? ⟨b,2,none⟩=some x2/\w.cell? ⟨b,3,none⟩=some x3)/\w.cell? ⟨b,4,none⟩=some x4/\w.cell? ⟨b,5,none⟩=some x5/\w.cell? ⟨b,6,none⟩=some x6:=by
 have c0:=h.cell 0;have c1:=h.cell 1;have c2:=h.cell 2;have c3:=h.cell 3;have c4:=h.cell 4;have c5:=h.cell 5;have c6:=h.cell 6;simp at c0 c1 c2 c3 c4 c5 c6;exact⟨⟨c0,c1,c2,c3⟩,c4,c5,c6⟩
theorem Bk.free7(h:Bk w b t #[x0,x1,x2,x3,x4,x5,x6]): (w.frozen? ⟨b,0,none⟩=false/\w.frozen? ⟨b,1,none⟩=false/\w.frozen? ⟨b,2,none⟩=false/\w.frozen? ⟨b,3,none⟩=false)/\w.frozen? ⟨b,4,none⟩=false/\w.frozen? ⟨b,5,none⟩=false/\w.frozen? ⟨b,6,none⟩=false :=
 ⟨⟨h.free 0,h.free 1,h.free 2,h.free 3⟩,h.free 4,h.free 5,h.free 6⟩
theorem Bk.at_{cs:Array M4}{b':Nat}(h:Bk w b t cs)(e:b=b'):Bk w b' t cs:=e ▸ h
theorem Bk.set7(h:Bk w b t #[x0,x1,x2,x3,x4,x5,x6])(y0 y1 y2 y3 y4 y5 y6:M4) :
  Bk (((((((w.setCell ⟨b,0,none⟩ y0).setCell ⟨b,1,none⟩ y1).setCell ⟨b,2,none⟩ y2).setCell ⟨b,3,none⟩ y3).setCell ⟨b,4,none⟩ y4).setCell ⟨b,5,none⟩ y5).setCell ⟨b,6,none⟩ y6) b t #[y0,y1,y2,y3,y4,y5,y6]:=by
 have:=((((((h.set 0 y0).set 1 y1).set 2 y2).set 3 y3).set 4 y4).set 5 y5).set 6 y6
 simpa using this
theorem cZ{B:Nat}{w0:MZ}(h:Below B w0 w)(hb:B<=b)(y0 y1 y2 y3 y4 y5 y6:M4) :
  Below B w0 (((((((w.setCell ⟨b,0,none⟩ y0).setCell ⟨b,1,none⟩ y1).setCell ⟨b,2,none⟩ y2).setCell ⟨b,3,none⟩ y3).setCell ⟨b,4,none⟩ y4).setCell ⟨b,5,none⟩ y5).setCell ⟨b,6,none⟩ y6) :=
 ((((((h.setCell (p:=⟨b,0,none⟩) hb y0).setCell (p:=⟨b,1,none⟩) hb y1).setCell (p:=⟨b,2,none⟩) hb y2).setCell (p:=⟨b,3,none⟩) hb y3).setCell (p:=⟨b,4,none⟩) hb y4).setCell (p:=⟨b,5,none⟩) hb y5).setCell (p:=⟨b,6,none⟩) hb y6
theorem gq(w:MZ)(b:Nat)(y0 y1 y2 y3 y4 y5 y6:M4)(k:Nat)(hk:k≠b) :
  (((((((w.setCell ⟨b,0,none⟩ y0).setCell ⟨b,1,none⟩ y1).setCell ⟨b,2,none⟩ y2).setCell ⟨b,3,none⟩ y3).setCell ⟨b,4,none⟩ y4).setCell ⟨b,5,none⟩ y5).setCell ⟨b,6,none⟩ y6).heap[k]? =w.heap[k]? :=by
 exact(Z8 _ ⟨b,6,none⟩ y6 k hk).trans ((Z8 _ ⟨b,5,none⟩ y5 k hk).trans ((Z8 _ ⟨b,4,none⟩ y4 k hk).trans ((Z8 _ ⟨b,3,none⟩ y3 k hk).trans ((Z8 _ ⟨b,2,none⟩ y2 k hk).trans ((Z8 _ ⟨b,1,none⟩ y1 k hk).trans (Z8 _ ⟨b,0,none⟩ y0 k hk))))))
def bxV:M4->Bool
 | .slice _ _ _=>true
 | .int _ _=>true
 | _=>false
theorem Sl.off{B size n:Nat}{A:OA}{xs:List M4}{cs:Array M4}(h:Sl w B size A n xs)(hk:Bk w b t cs)(hc:cs.all bxV=true)(hx:0<n->∃(j:Nat)(v:M4),xs[j]? =some v/\bxV v=false)(hw:∀k,k≠b->w'.heap[k]? =w.heap[k]?):Sl w' B size A n xs :=
 h.avoid fun g off e hn hcc=>hw g fun e2=>by
  subst e2;obtain⟨j,v,hv,hf⟩:=hx hn;have:=hcc j v hv;rw[hk.cell]at this;have hm:=Array.all_eq_true.1 hc (off+j) (Array.getElem?_eq_some_iff.1 this).1;rw[(Array.getElem?_eq_some_iff.1 this).2,hf]at hm;cases hm
theorem jm{α:Type}{enc:α->List M4}{k:Nat}(hl:∀a,(enc a).length=k)(l:List α)(i j:Nat)(a:α)(v:M4)(ha:l[i]? =some a)(hv: (enc a)[j]? =some v)(hj:j<k): (flat enc l)[i*k+j]? =some v:=by
 rw[gG hl l i j a ha hj];exact hv
theorem RpM.box{B:Nat}{r:Rp}{s:Rsl}{cs:Array M4}(h:RpM w B r s)(hk:Bk w b t cs)(hc:cs.all bxV=true)(hw:∀k,k≠b->w'.heap[k]? =w.heap[k]?):RpM w' B r s:=by
 have c:∀{α:Type}(l:List α),0<l.length->∃a,l[0]? =some a:=fun l hl=>⟨_,Z6 hl⟩
 refine⟨⟨h.d.ss.off hk hc (fun hn=>?_) hw,h.d.pn.off hk hc (fun hn=>?_) hw⟩,h.p.off hk hc (fun hn=>?_) hw,h.rf.off hk hc (fun hn=>?_) hw,h.l.off hk hc (fun hn=>?_) hw,h.pc,h.pm⟩
 . obtain⟨a,ha⟩:=c _ hn
   exact⟨_,_,jm dI _ 0 0 a _ ha rfl (by omega),rfl⟩
 . obtain⟨a,ha⟩:=c _ hn
   exact⟨_,_,jm qa _ 0 1 a _ ha rfl (by omega),rfl⟩
 . obtain⟨a,ha⟩:=c _ hn
   exact⟨_,_,jm bO _ 0 2 a _ ha rfl (by omega),rfl⟩
 . obtain⟨a,ha⟩:=c _ hn
   exact⟨_,_,jm gP _ 0 0 a _ ha rfl (by omega),rfl⟩
 . obtain⟨a,ha⟩:=c _ hn
   exact⟨_,_,jm eD _ 0 0 a _ ha rfl (by omega),rfl⟩
theorem rZ(w:MZ)(b:Nat)(y0 y1 y2 y3:M4)(k:Nat)(hk:k≠b): ((((w.setCell ⟨b,0,none⟩ y0).setCell ⟨b,1,none⟩ y1).setCell ⟨b,2,none⟩ y2).setCell ⟨b,3,none⟩ y3).heap[k]? =w.heap[k]? :=
 (Z8 _ ⟨b,3,none⟩ y3 k hk).trans ((Z8 _ ⟨b,2,none⟩ y2 k hk).trans ((Z8 _ ⟨b,1,none⟩ y1 k hk).trans (Z8 _ ⟨b,0,none⟩ y0 k hk)))
theorem dO{fn:Func}{c i:Tmp}(h:fn.results= #[.cell c 35,.tmp i]){a:Array M4}{v:M4}(h1:a[c]?.getD undef= .pointer (some ⟨b,0,none⟩))(hk:Bk w b 35 #[x0,x1,x2,x3,x4,x5,x6])(hv:a[i]?.getD undef=v) :
  (results fn a).run Tryz.prog w= .ok (.tuple #[.agg #[x0,x1,x2,x3,x4,x5,x6],v]) w:=by
 obtain⟨⟨k0,k1,k2,k3⟩,k4,k5,k6⟩:=hk.seven;simp[results,h,h1,hv,go_sem,k0,k1,k2,k3,k4,k5,k6]
end
theorem yj(r r2:Rp)(s s2:Rsl)(d:Dk)(q:Dsl)(x:Int)(w:MZ) :
  Calls Tryz.prog 50 #[rpV r s,rpV r2 s2,dkV d q,.int .i64 x] w fun e w'=>e= .returned (.tuple #[if x=0 then rpV {r2 with d:=d} {s2 with d:=q} else if x=20 then rpV {r with d:=d} {s with d:=q} else rpV zRp zRs,.int .i64 x])/\Below w.heap.size w w':=by
 obtain⟨d1,p1,rs1,lg1⟩:=r;obtain⟨d2,p2,rs2,lg2⟩:=r2;simp only[rpV,rpC,dkV,dkC,zRp,zRs];obtain⟨n1,h1⟩:=NX9 d1.ss.length
 obtain⟨n2,h2⟩:=NX9 d1.pn.length
 obtain⟨n3,h3⟩:=NX9 p1.length
 obtain⟨n4,h4⟩:=NX9 rs1.length
 obtain⟨n5,h5⟩:=NX9 lg1.length
 obtain⟨m1,g1⟩:=NX9 d2.ss.length
 obtain⟨m2,g2⟩:=NX9 d2.pn.length
 obtain⟨m3,g3⟩:=NX9 p2.length
 obtain⟨m4,g4⟩:=NX9 rs2.length
 obtain⟨m5,g5⟩:=NX9 lg2.length
 obtain⟨k1,f1⟩:=NX9 d.ss.length
 obtain⟨k2,f2⟩:=NX9 d.pn.length
 simp only[h1,h2,h3,h4,h5,g1,g2,g3,g4,g5,f1,f2];clear h1 h2 h3 h4 h5 g1 g2 g3 g4 g5 f1 f2
 go_enter Tryz.func50,Tryz.ntmps50
 by_cases e0:x=0
 . subst e0
   go_wp2
   exact ZY (dO Tryz.results50 rfl ((Bk.new _ _ _).at_ (by simp)) rfl) rfl ⟨rfl,((((af _ w).alloc ai _).alloc (by simp) _).alloc (by simp;omega) _).alloc (by simp;omega) _⟩
 . rw[if_neg e0]
   have e1: (x == 0)=false:=by simpa using e0
   by_cases e2:x=20
   . subst e2
     go_wp2
     exact ZY (dO Tryz.results50 rfl ((Bk.new _ _ _).at_ (by simp)) rfl) rfl ⟨rfl,((((af _ w).alloc ai _).alloc (by simp) _).alloc (by simp;omega) _).alloc (by simp;omega) _⟩
   . rw[if_neg e2]
     have e3: (x == 20)=false:=by simpa using e2
     clear e0 e2
     go_wp2
     exact ZY (dO Tryz.results50 rfl ((Bk.new _ _ _).at_ (by simp)) rfl) rfl ⟨rfl,((((af _ w).alloc ai _).alloc (by simp) _).alloc (by simp;omega) _).alloc (by simp;omega) _⟩
abbrev Pla:=Dig×M3
structure WkS where
 ne:Dig->Bool
 ed:Dig->Bool
 me:Pla->Bool
 op:List Pla
 wr:Bool
def eP{α:Type}[DecidableEq α](f:α->Bool)(x:α):α->Bool:=fun y=>decide (y=x) || f y
theorem setB_true{α:Type}[DecidableEq α]{f:α->Bool}{x y:α}:eP f x y=true↔y=x∨f y=true:=by simp[eP]
instance (a b:M5):Decidable (a <+: b):=decidable_of_iff (a.isPrefixOf b=true) List.isPrefixOf_iff_prefix
section
variable (p : List Itm) (com : Dig -> Bool) (pre : M3)
end
section
variable {p : List Itm} {com : Dig -> Bool} {pre : M3} {hs : List Dig} {stop : Dig -> Prop} {dep : Int}
end
