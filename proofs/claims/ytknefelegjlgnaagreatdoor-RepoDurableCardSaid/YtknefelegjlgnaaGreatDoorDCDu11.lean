/-
  Lemmas of the card.
-/
import Derived.Test.YtknefelegjlgnaaGreatDoorDCDu10
set_option maxRecDepth 100000
set_option maxHeartbeats 8000000
namespace Go.Proofs.YtknefelegjlgnaaGreatDoor
open Go.RowKit
theorem dX{w:MQ}{b:Nat}{t:TypeId}{x0 x1 x2 x3 x4 x5 x6 x7 x8:MS}(h:Bk w b t #[x0,x1,x2,x3,x4,x5,x6,x7,x8])(y0 y1 y2 y3 y4 y5 y6 y7 y8:MS):Bk (((((((((w.setCell ⟨b,0,none⟩ y0).setCell ⟨b,1,none⟩ y1).setCell ⟨b,2,none⟩ y2).setCell ⟨b,3,none⟩ y3).setCell ⟨b,4,none⟩ y4).setCell ⟨b,5,none⟩ y5).setCell ⟨b,6,none⟩ y6).setCell ⟨b,7,none⟩ y7).setCell ⟨b,8,none⟩ y8) b t #[y0,y1,y2,y3,y4,y5,y6,y7,y8]:=by
 have:=(((((((((h.set 0 y0).set 1 y1).set 2 y2).set 3 y3).set 4 y4).set 5 y5).set 6 y6).set 7 y7).set 8 y8)
 simpa using this
theorem dV{B b:Nat}{w0 w:MQ}(h:Below B w0 w)(hb:B<=b)(y0 y1 y2 y3 y4 y5 y6 y7 y8:MS):Below B w0 (((((((((w.setCell ⟨b,0,none⟩ y0).setCell ⟨b,1,none⟩ y1).setCell ⟨b,2,none⟩ y2).setCell ⟨b,3,none⟩ y3).setCell ⟨b,4,none⟩ y4).setCell ⟨b,5,none⟩ y5).setCell ⟨b,6,none⟩ y6).setCell ⟨b,7,none⟩ y7).setCell ⟨b,8,none⟩ y8) :=
 ((((((((h.setCell (p:=⟨b,0,none⟩) hb y0).setCell (p:=⟨b,1,none⟩) hb y1).setCell (p:=⟨b,2,none⟩) hb y2).setCell (p:=⟨b,3,none⟩) hb y3).setCell (p:=⟨b,4,none⟩) hb y4).setCell (p:=⟨b,5,none⟩) hb y5).setCell (p:=⟨b,6,none⟩) hb y6).setCell (p:=⟨b,7,none⟩) hb y7).setCell (p:=⟨b,8,none⟩) hb y8
theorem Apd.set9{w:MQ}{base size n c b:Nat}{e:TypeId}{A:OA}{xs:List MS}(h:Apd w base e size A n c xs)(hb:b<base)(y0 y1 y2 y3 y4 y5 y6 y7 y8:MS):Apd (((((((((w.setCell ⟨b,0,none⟩ y0).setCell ⟨b,1,none⟩ y1).setCell ⟨b,2,none⟩ y2).setCell ⟨b,3,none⟩ y3).setCell ⟨b,4,none⟩ y4).setCell ⟨b,5,none⟩ y5).setCell ⟨b,6,none⟩ y6).setCell ⟨b,7,none⟩ y7).setCell ⟨b,8,none⟩ y8) base e size A n c xs :=
 ((((((((h.setCell (a:=⟨b,0,none⟩) hb y0).setCell (a:=⟨b,1,none⟩) hb y1).setCell (a:=⟨b,2,none⟩) hb y2).setCell (a:=⟨b,3,none⟩) hb y3).setCell (a:=⟨b,4,none⟩) hb y4).setCell (a:=⟨b,5,none⟩) hb y5).setCell (a:=⟨b,6,none⟩) hb y6).setCell (a:=⟨b,7,none⟩) hb y7).setCell (a:=⟨b,8,none⟩) hb y8
theorem dW{fn:Func}{c i:Tmp}(h:fn.results= #[.cell c 109,.tmp i]){w:MQ}{a:Array MS}{b:Nat}{x0 x1 x2 x3 x4 x5 x6 x7 x8 v:MS}(ha:a[c]?.getD undef= .pointer (some ⟨b,0,none⟩))(hk:Bk w b 109 #[x0,x1,x2,x3,x4,x5,x6,x7,x8])(hv:a[i]?.getD undef=v) :
  (results fn a).run Tryz.prog w= .ok (.tuple #[.agg #[x0,x1,x2,x3,x4,x5,x6,x7,x8],v]) w:=by
 obtain⟨h0,h1,h2,h3,h4,h5,h6,h7,h8⟩:=hk.nine;simp[results,h,ha,hv,go_sem,h0,h1,h2,h3,h4,h5,h6,h7,h8]
def NewO(w:MQ)(b:Nat)(s:Osl):Prop:=∀a,0<s.en->s.eA=some a->b<=a.block/\∃cur,w.heap[a.block]? =some (.cells cur 185 (0,0))
theorem NewO.none(w:MQ)(b:Nat){s:Osl}(h:s.en=0):NewO w b s:=fun _ h0=>absurd h0 (by rw[h];exact Nat.lt_irrefl 0)
theorem NewO.mono{w:MQ}{b b':Nat}{s:Osl}(h:NewO w b s)(hb:b'<=b):NewO w b' s:=fun a h1 h2=>⟨Z0 hb (h a h1 h2).1,(h a h1 h2).2⟩
theorem NewO.keep{w w':MQ}{b bx:Nat}{t:TypeId}{cs:Array MS}{s:Osl}(h:NewO w b s)(hz:Bk w bx t cs)(ht:t≠185)(hk:∀k,k≠bx->w'.heap[k]? =w.heap[k]?):NewO w' b s:=fun a h1 h2=>by
 obtain⟨h3,cur,h4⟩:=h a h1 h2;refine⟨h3,cur,(hk a.block (fun e=>?_)).trans h4⟩;rw[e]at h4;have h5:w.heap[bx]? =some (.cells cs t (0,0)):=hz;rw[h4]at h5;injection h5 with h5;injection h5 with _ h6;exact ht h6.symm
theorem Apd.newO{w:MQ}{base n c c2:Nat}{A:OA}{xs:List MS}(h:Apd w base 185 4 A n c xs){b:Nat}(hb:b<=base){s:Osl}(hs:s.eA=A/\s.en=n/\s.ec=c2):NewO w b s:=by
 obtain⟨h1,h2,_⟩:=hs;rintro a hn hA;rw[h1]at hA;rw[h2]at hn;subst hA;rcases h with ⟨_,⟨_,h0⟩ | ⟨g,cap,cur,hv,h5,h3,_⟩⟩ | ⟨h0,_⟩
 . omega
 . injection hv with hA
   cases hA
   exact⟨Z0 hb h5,cur,h3⟩
 . omega
def NewP(w:MQ)(b:Nat)(s:Osl):Prop:=∀a,0<s.pn->s.pA=some a->b<=a.block/\∃cur,w.heap[a.block]? =some (.cells cur 50 (0,0))
theorem NewP.none(w:MQ)(b:Nat){s:Osl}(h:s.pn=0):NewP w b s:=fun _ h0=>absurd h0 (by rw[h];exact Nat.lt_irrefl 0)
theorem NewP.mono{w:MQ}{b b':Nat}{s:Osl}(h:NewP w b s)(hb:b'<=b):NewP w b' s:=fun a h1 h2=>⟨Z0 hb (h a h1 h2).1,(h a h1 h2).2⟩
theorem NewP.keep{w w':MQ}{b bx:Nat}{t:TypeId}{cs:Array MS}{s:Osl}(h:NewP w b s)(hz:Bk w bx t cs)(ht:t≠50)(hk:∀k,k≠bx->w'.heap[k]? =w.heap[k]?):NewP w' b s:=fun a h1 h2=>by
 obtain⟨h3,cur,h4⟩:=h a h1 h2;refine⟨h3,cur,(hk a.block (fun e=>?_)).trans h4⟩;rw[e]at h4;have h5:w.heap[bx]? =some (.cells cs t (0,0)):=hz;rw[h4]at h5;injection h5 with h5;injection h5 with _ h6;exact ht h6.symm
theorem Apd.newP{w:MQ}{base n c c2:Nat}{A:OA}{xs:List MS}(h:Apd w base 50 2 A n c xs){b:Nat}(hb:b<=base){s:Osl}(hs:s.pA=A/\s.pn=n/\s.pc=c2):NewP w b s:=by
 obtain⟨h1,h2,_⟩:=hs;rintro a hn hA;rw[h1]at hA;rw[h2]at hn;subst hA;rcases h with ⟨_,⟨_,h0⟩ | ⟨g,cap,cur,hv,h5,h3,_⟩⟩ | ⟨h0,_⟩
 . omega
 . injection hv with hA
   cases hA
   exact⟨Z0 hb h5,cur,h3⟩
 . omega
def OdE(o:Ob)(w:MQ)(e:Ending)(w':MQ):Prop:=∃s,e= .returned (.tuple #[obV o s,.int .i64 0])/\ObM w' w'.heap.size o s/\Below w.heap.size w w'/\NewO w' w.heap.size s/\NewP w' w.heap.size s
theorem og(o:Ob)(w:MQ)(ho:OkO o):Calls Tryz.prog 81 #[.string (ofL (aG o))] w (OdE o w):=by
 have HO:=ah ho;have hlen:=ho.len;cases ho.f with
 | blob k e c d =>
   have HENC:aG o=aj o.kind.toNat++ (ak (toL o.data)++ []):=by unfold aG fE;rw[if_neg (by omega),if_neg (by omega),List.append_nil]
   obtain⟨h1,h2,h3,h4,h5⟩:=c;obtain⟨kind,data,ents,tree,pars,auth,time,msg⟩:=o;simp only at k e h1 h2 h3 h4 h5 d HENC;subst e h1 h2 h3 h4 h5;rcases k with rfl | rfl
   . have HENC:aG _=aj 1++ (ak (toL data)++ []):=HENC
     obtain⟨s,hs⟩:∃s,ofL (aG (⟨1,data,[],zD,[],⟨#[]⟩,0,⟨#[]⟩⟩:Ob))=s:=⟨_,rfl⟩
     rw[hs];have hlr: (aj 1++ (ak (toL data)++ [])).length<=1000000:=by rw[<-HENC];omega
     have hle: (ak (toL data)++ []).length<=1000000:=by rw[ae]at hlr;omega
     obtain⟨W1,hW1⟩:∃W,(w.alloc (.cells #[.int .i64 0,.string ⟨#[]⟩,.slice none 0 0,.int .u64 0,.int .u64 0,.slice none 0 0,.string ⟨#[]⟩,.int .i64 0,.string ⟨#[]⟩] 109)).alloc (.cells #[.string s,.bool false] 229)=W:=⟨_,rfl⟩
     have HZ1:Hid (Bk W1 w.heap.size 109 #[.int .i64 0,.string ⟨#[]⟩,.slice none 0 0,.int .u64 0,.int .u64 0,.slice none 0 0,.string ⟨#[]⟩,.int .i64 0,.string ⟨#[]⟩]):=by rw[<-hW1];exact(Bk.new w _ _).alloc _
     have HR1:Hid (Rdr W1 (w.heap.size+1) (aj 1++ (ak (toL data)++ []))):=by
      show Bk _ _ _ _;rw[<-HENC,hs,<-hW1];have:=Bk.new (w.alloc (.cells #[.int .i64 0,.string ⟨#[]⟩,.slice none 0 0,.int .u64 0,.int .u64 0,.slice none 0 0,.string ⟨#[]⟩,.int .i64 0,.string ⟨#[]⟩] 109)) 229 #[.string s,.bool false]
      rwa[Z9]at this
     have HB1:Hid (Below w.heap.size w W1):=by rw[<-hW1];exact((af _ w).alloc ai _).alloc (by simp) _
     have zW1:W1.heap.size=w.heap.size+2:=by rw[<-hW1];simp
     have HC1:=ah (jf (w.heap.size+1) 1 (ak (toL data)++ []) W1 HR1.out (by omega) hlr);clear hs HENC hlr
     go_enter Tryz.func81,Tryz.ntmps81
     go_wp2_with fail;refine HC1.out.mono ?_;rintro e w2 ⟨rfl,hr,hg⟩;have HR2:=ah hr;have HG2:Hid (Below w.heap.size w w2):=HB1.out.trans (hg.below (by omega) (fun q hq e=>by omega));have HZ2:=ah (hg.bk HZ1.out (by show ¬w.heap.size=w.heap.size+1;omega));have z2:w.heap.size+2<=w2.heap.size:=by have:=hg.size;omega
     clear hr hg hW1 HC1 HB1 HZ1 HR1;obtain⟨W3,hW3⟩:∃W,w2.alloc (.cells #[.int .i64 1,.string ⟨#[]⟩,.slice none 0 0,.int .u64 0,.int .u64 0,.slice none 0 0,.string ⟨#[]⟩,.int .i64 0,.string ⟨#[]⟩] 109)=W:=⟨_,rfl⟩
     have hb3:Below w2.heap.size w2 W3:=by rw[<-hW3];exact(af _ w2).alloc ai _
     have HY3:Hid (Bk W3 w2.heap.size 109 #[.int .i64 1,.string ⟨#[]⟩,.slice none 0 0,.int .u64 0,.int .u64 0,.slice none 0 0,.string ⟨#[]⟩,.int .i64 0,.string ⟨#[]⟩]):=by rw[<-hW3];exact Bk.new w2 _ _
     have HR3:Hid (Rdr W3 (w.heap.size+1) (ak (toL data)++ [])):=Bk.below HR2.out hb3 (by omega);have HZ3:=ah (HZ2.out.below hb3 (by omega));have HB3:Hid (Below w.heap.size w W3):=HG2.out.trans (hb3.mono (by omega));have z3:W3.heap.size=w2.heap.size+1:=by rw[<-hW3];simp
     have c0:=HY3.out.nine.1;rw[<-hW3]at c0;have HW3:=ah hW3;clear hb3 hW3 HR2 HZ2 HG2;have HC4:=ah (lW (w.heap.size+1) data [] W3 HR3.out d hle);go_wp2_with fail;rw[HW3.out];refine HC4.out.mono ?_;rintro e v4 ⟨rfl,hr,hg⟩;have HRv:=ah hr;have HYv:=ah (hg.bk HY3.out (by show ¬w2.heap.size=w.heap.size+1;omega));have HZv:=ah (hg.bk HZ3.out (by show ¬w.heap.size=w.heap.size+1;omega));have HBv:Hid (Below w.heap.size w v4):=HB3.out.trans (hg.below (by have:=HB3.out.size;omega) (fun q hq e=>by omega));have zs4:=hg.size;clear c0 hr hg HC4 HB3 HZ3 HY3 HR3;obtain⟨c0,c1,c2,c3,c4,c5,c6,c7,c8⟩:=HYv.out.nine;have f1:=HYv.out.free 1;obtain⟨W4,hW4⟩:∃W,(v4.setCell ⟨w2.heap.size,1,none⟩ (.string data))=W:=⟨_,rfl⟩
     have HY4:Hid (Bk W4 w2.heap.size 109 #[.int .i64 1,.string data,.slice none 0 0,.int .u64 0,.int .u64 0,.slice none 0 0,.string ⟨#[]⟩,.int .i64 0,.string ⟨#[]⟩]):=by rw[<-hW4];have:=(HYv.out.set 1 (.string data));show Bk _ _ _ _;simpa using this
     have HR4:Hid (Rdr W4 (w.heap.size+1) ([])):=by rw[<-hW4];exact(Bk.far HRv.out (p:=⟨w2.heap.size,1,none⟩) (by show w.heap.size+1≠w2.heap.size;omega) _)
     have HZ4:Hid (Bk W4 w.heap.size 109 #[.int .i64 0,.string ⟨#[]⟩,.slice none 0 0,.int .u64 0,.int .u64 0,.slice none 0 0,.string ⟨#[]⟩,.int .i64 0,.string ⟨#[]⟩]):=by rw[<-hW4];exact(Bk.far HZv.out (p:=⟨w2.heap.size,1,none⟩) (by show w.heap.size≠w2.heap.size;omega) _)
     have HB4:Hid (Below w.heap.size w W4):=by rw[<-hW4];exact(Below.setCell HBv.out (p:=⟨w2.heap.size,1,none⟩) (by show w.heap.size<=w2.heap.size;omega) _)
     have zz4:v4.heap.size<=W4.heap.size:=by rw[<-hW4];simp[World.setCell]
     clear HRv HYv HZv HBv;have hRx:Bk W4 (w.heap.size+1) 229 #[.string ⟨#[]⟩,.bool false]:=HR4.out;obtain⟨q0,q1,_,_⟩:=hRx.two;have HM4:Hid (ObM W4 W4.heap.size ⟨1,data,[],zD,[],⟨#[]⟩,0,⟨#[]⟩⟩ ⟨none,0,0,none,0,0⟩):=⟨Sl.nil _ _ _ _,Sl.nil _ _ _ _,Nat.le_refl _,ZZ _,Nat.le_refl _,ZZ _⟩
     have HCK:=ah (mJ ⟨1,data,[],zD,[],⟨#[]⟩,0,⟨#[]⟩⟩ ⟨none,0,0,none,0,0⟩ W4.heap.size W4 HM4.out ai HO.out);simp only[obV,obC]at HCK;obtain⟨k0,k1,k2,k3,k4,k5,k6,k7,k8⟩:=HY4.out.nine;go_wp2_with fail;refine HCK.out.mono ?_;rintro e w8 ⟨rfl,hb8⟩;have HY8:=ah (HY4.out.below hb8 HY4.out.lt);have HZ8:=ah (HZ4.out.below hb8 HZ4.out.lt);have HB8:Hid (Below w.heap.size w w8):=HB4.out.trans (hb8.mono HB4.out.size);have HM8:=ah ((HM4.out.below hb8 ai).more hb8.size);have z8:w.heap.size<w8.heap.size:=HZ8.out.lt;clear c0 c1 c2 c3 c4 c5 c6 c7 c8 k0 k1 k2 k3 k4 k5 k6 k7 k8 q0 q1 hRx hb8 HCK hW4;obtain⟨c0,c1,c2,c3,c4,c5,c6,c7,c8⟩:=HY8.out.nine;obtain⟨d0,d1,d2,d3,d4,d5,d6,d7,d8⟩:=HZ8.out.nine;obtain⟨f0,f1,f2,f3,f4,f5,f6,f7,f8⟩:=fr9 HZ8.out;have hne:w.heap.size≠w2.heap.size:=by omega
     go_wp2_with fail;refine ZY (dW Tryz.results81 rfl (dX HZ8.out _ _ _ _ _ _ _ _ _) rfl) rfl ⟨⟨none,0,0,none,0,0⟩,rfl,?_,dV HB8.out ai _ _ _ _ _ _ _ _ _,NewO.none _ _ rfl,NewP.none _ _ rfl⟩;exact⟨Sl.nil _ _ _ _,Sl.nil _ _ _ _,Nat.le_refl _,ZZ _,Nat.le_refl _,ZZ _⟩
   . have HENC:aG _=aj 4++ (ak (toL data)++ []):=HENC
     obtain⟨s,hs⟩:∃s,ofL (aG (⟨4,data,[],zD,[],⟨#[]⟩,0,⟨#[]⟩⟩:Ob))=s:=⟨_,rfl⟩
     rw[hs];have hlr: (aj 4++ (ak (toL data)++ [])).length<=1000000:=by rw[<-HENC];omega
     have hle: (ak (toL data)++ []).length<=1000000:=by rw[ae]at hlr;omega
     obtain⟨W1,hW1⟩:∃W,(w.alloc (.cells #[.int .i64 0,.string ⟨#[]⟩,.slice none 0 0,.int .u64 0,.int .u64 0,.slice none 0 0,.string ⟨#[]⟩,.int .i64 0,.string ⟨#[]⟩] 109)).alloc (.cells #[.string s,.bool false] 229)=W:=⟨_,rfl⟩
     have HZ1:Hid (Bk W1 w.heap.size 109 #[.int .i64 0,.string ⟨#[]⟩,.slice none 0 0,.int .u64 0,.int .u64 0,.slice none 0 0,.string ⟨#[]⟩,.int .i64 0,.string ⟨#[]⟩]):=by rw[<-hW1];exact(Bk.new w _ _).alloc _
     have HR1:Hid (Rdr W1 (w.heap.size+1) (aj 4++ (ak (toL data)++ []))):=by
      show Bk _ _ _ _;rw[<-HENC,hs,<-hW1];have:=Bk.new (w.alloc (.cells #[.int .i64 0,.string ⟨#[]⟩,.slice none 0 0,.int .u64 0,.int .u64 0,.slice none 0 0,.string ⟨#[]⟩,.int .i64 0,.string ⟨#[]⟩] 109)) 229 #[.string s,.bool false]
      rwa[Z9]at this
     have HB1:Hid (Below w.heap.size w W1):=by rw[<-hW1];exact((af _ w).alloc ai _).alloc (by simp) _
     have zW1:W1.heap.size=w.heap.size+2:=by rw[<-hW1];simp
     have HC1:=ah (jf (w.heap.size+1) 4 (ak (toL data)++ []) W1 HR1.out (by omega) hlr);clear hs HENC hlr
     go_enter Tryz.func81,Tryz.ntmps81
     go_wp2_with fail;refine HC1.out.mono ?_;rintro e w2 ⟨rfl,hr,hg⟩;have HR2:=ah hr;have HG2:Hid (Below w.heap.size w w2):=HB1.out.trans (hg.below (by omega) (fun q hq e=>by omega));have HZ2:=ah (hg.bk HZ1.out (by show ¬w.heap.size=w.heap.size+1;omega));have z2:w.heap.size+2<=w2.heap.size:=by have:=hg.size;omega
     clear hr hg hW1 HC1 HB1 HZ1 HR1;obtain⟨W3,hW3⟩:∃W,w2.alloc (.cells #[.int .i64 4,.string ⟨#[]⟩,.slice none 0 0,.int .u64 0,.int .u64 0,.slice none 0 0,.string ⟨#[]⟩,.int .i64 0,.string ⟨#[]⟩] 109)=W:=⟨_,rfl⟩
     have hb3:Below w2.heap.size w2 W3:=by rw[<-hW3];exact(af _ w2).alloc ai _
     have HY3:Hid (Bk W3 w2.heap.size 109 #[.int .i64 4,.string ⟨#[]⟩,.slice none 0 0,.int .u64 0,.int .u64 0,.slice none 0 0,.string ⟨#[]⟩,.int .i64 0,.string ⟨#[]⟩]):=by rw[<-hW3];exact Bk.new w2 _ _
     have HR3:Hid (Rdr W3 (w.heap.size+1) (ak (toL data)++ [])):=Bk.below HR2.out hb3 (by omega);have HZ3:=ah (HZ2.out.below hb3 (by omega));have HB3:Hid (Below w.heap.size w W3):=HG2.out.trans (hb3.mono (by omega));have z3:W3.heap.size=w2.heap.size+1:=by rw[<-hW3];simp
     have c0:=HY3.out.nine.1;rw[<-hW3]at c0;have HW3:=ah hW3;clear hb3 hW3 HR2 HZ2 HG2;have HC4:=ah (lW (w.heap.size+1) data [] W3 HR3.out d hle);go_wp2_with fail;rw[HW3.out];refine HC4.out.mono ?_;rintro e v4 ⟨rfl,hr,hg⟩;have HRv:=ah hr;have HYv:=ah (hg.bk HY3.out (by show ¬w2.heap.size=w.heap.size+1;omega));have HZv:=ah (hg.bk HZ3.out (by show ¬w.heap.size=w.heap.size+1;omega));have HBv:Hid (Below w.heap.size w v4):=HB3.out.trans (hg.below (by have:=HB3.out.size;omega) (fun q hq e=>by omega));have zs4:=hg.size;clear c0 hr hg HC4 HB3 HZ3 HY3 HR3;obtain⟨c0,c1,c2,c3,c4,c5,c6,c7,c8⟩:=HYv.out.nine;have f1:=HYv.out.free 1;obtain⟨W4,hW4⟩:∃W,(v4.setCell ⟨w2.heap.size,1,none⟩ (.string data))=W:=⟨_,rfl⟩
     have HY4:Hid (Bk W4 w2.heap.size 109 #[.int .i64 4,.string data,.slice none 0 0,.int .u64 0,.int .u64 0,.slice none 0 0,.string ⟨#[]⟩,.int .i64 0,.string ⟨#[]⟩]):=by rw[<-hW4];have:=(HYv.out.set 1 (.string data));show Bk _ _ _ _;simpa using this
     have HR4:Hid (Rdr W4 (w.heap.size+1) ([])):=by rw[<-hW4];exact(Bk.far HRv.out (p:=⟨w2.heap.size,1,none⟩) (by show w.heap.size+1≠w2.heap.size;omega) _)
     have HZ4:Hid (Bk W4 w.heap.size 109 #[.int .i64 0,.string ⟨#[]⟩,.slice none 0 0,.int .u64 0,.int .u64 0,.slice none 0 0,.string ⟨#[]⟩,.int .i64 0,.string ⟨#[]⟩]):=by rw[<-hW4];exact(Bk.far HZv.out (p:=⟨w2.heap.size,1,none⟩) (by show w.heap.size≠w2.heap.size;omega) _)
     have HB4:Hid (Below w.heap.size w W4):=by rw[<-hW4];exact(Below.setCell HBv.out (p:=⟨w2.heap.size,1,none⟩) (by show w.heap.size<=w2.heap.size;omega) _)
     have zz4:v4.heap.size<=W4.heap.size:=by rw[<-hW4];simp[World.setCell]
     clear HRv HYv HZv HBv;have hRx:Bk W4 (w.heap.size+1) 229 #[.string ⟨#[]⟩,.bool false]:=HR4.out;obtain⟨q0,q1,_,_⟩:=hRx.two;have HM4:Hid (ObM W4 W4.heap.size ⟨4,data,[],zD,[],⟨#[]⟩,0,⟨#[]⟩⟩ ⟨none,0,0,none,0,0⟩):=⟨Sl.nil _ _ _ _,Sl.nil _ _ _ _,Nat.le_refl _,ZZ _,Nat.le_refl _,ZZ _⟩
     have HCK:=ah (mJ ⟨4,data,[],zD,[],⟨#[]⟩,0,⟨#[]⟩⟩ ⟨none,0,0,none,0,0⟩ W4.heap.size W4 HM4.out ai HO.out);simp only[obV,obC]at HCK;obtain⟨k0,k1,k2,k3,k4,k5,k6,k7,k8⟩:=HY4.out.nine;go_wp2_with fail;refine HCK.out.mono ?_;rintro e w8 ⟨rfl,hb8⟩;have HY8:=ah (HY4.out.below hb8 HY4.out.lt);have HZ8:=ah (HZ4.out.below hb8 HZ4.out.lt);have HB8:Hid (Below w.heap.size w w8):=HB4.out.trans (hb8.mono HB4.out.size);have HM8:=ah ((HM4.out.below hb8 ai).more hb8.size);have z8:w.heap.size<w8.heap.size:=HZ8.out.lt;clear c0 c1 c2 c3 c4 c5 c6 c7 c8 k0 k1 k2 k3 k4 k5 k6 k7 k8 q0 q1 hRx hb8 HCK hW4;obtain⟨c0,c1,c2,c3,c4,c5,c6,c7,c8⟩:=HY8.out.nine;obtain⟨d0,d1,d2,d3,d4,d5,d6,d7,d8⟩:=HZ8.out.nine;obtain⟨f0,f1,f2,f3,f4,f5,f6,f7,f8⟩:=fr9 HZ8.out;have hne:w.heap.size≠w2.heap.size:=by omega
     go_wp2_with fail;refine ZY (dW Tryz.results81 rfl (dX HZ8.out _ _ _ _ _ _ _ _ _) rfl) rfl ⟨⟨none,0,0,none,0,0⟩,rfl,?_,dV HB8.out ai _ _ _ _ _ _ _ _ _,NewO.none _ _ rfl,NewP.none _ _ rfl⟩;exact⟨Sl.nil _ _ _ _,Sl.nil _ _ _ _,Nat.le_refl _,ZZ _,Nat.le_refl _,ZZ _⟩
 | tree k d c e =>
   have HENC:aG o=aj 2++ (aj o.ents.length++ (o.ents.flatMap aQ++ [])):=by unfold aG fE;rw[if_pos k,k,List.append_nil];rfl
   obtain⟨h1,h2,h3,h4,h5⟩:=c;obtain⟨kind,data,ents,tree,pars,auth,time,msg⟩:=o;simp only at k e h1 h2 h3 h4 h5 d HENC;subst k d h1 h2 h3 h4 h5;obtain⟨s,hs⟩:∃s,ofL (aG (⟨2,⟨#[]⟩,ents,zD,[],⟨#[]⟩,0,⟨#[]⟩⟩:Ob))=s:=⟨_,rfl⟩
   rw[hs];have hlr: (aj 2++ (aj ents.length++ (ents.flatMap aQ++ []))).length<=1000000:=by rw[<-HENC];omega
   have hle: (aj ents.length++ (ents.flatMap aQ++ [])).length<=1000000:=by rw[ae]at hlr;omega
   obtain⟨W1,hW1⟩:∃W,(w.alloc (.cells #[.int .i64 0,.string ⟨#[]⟩,.slice none 0 0,.int .u64 0,.int .u64 0,.slice none 0 0,.string ⟨#[]⟩,.int .i64 0,.string ⟨#[]⟩] 109)).alloc (.cells #[.string s,.bool false] 229)=W:=⟨_,rfl⟩
   have HZ1:Hid (Bk W1 w.heap.size 109 #[.int .i64 0,.string ⟨#[]⟩,.slice none 0 0,.int .u64 0,.int .u64 0,.slice none 0 0,.string ⟨#[]⟩,.int .i64 0,.string ⟨#[]⟩]):=by rw[<-hW1];exact(Bk.new w _ _).alloc _
   have HR1:Hid (Rdr W1 (w.heap.size+1) (aj 2++ (aj ents.length++ (ents.flatMap aQ++ [])))):=by
    show Bk _ _ _ _;rw[<-HENC,hs,<-hW1];have:=Bk.new (w.alloc (.cells #[.int .i64 0,.string ⟨#[]⟩,.slice none 0 0,.int .u64 0,.int .u64 0,.slice none 0 0,.string ⟨#[]⟩,.int .i64 0,.string ⟨#[]⟩] 109)) 229 #[.string s,.bool false]
    rwa[Z9]at this
   have HB1:Hid (Below w.heap.size w W1):=by rw[<-hW1];exact((af _ w).alloc ai _).alloc (by simp) _
   have zW1:W1.heap.size=w.heap.size+2:=by rw[<-hW1];simp
   have HC1:=ah (jf (w.heap.size+1) 2 (aj ents.length++ (ents.flatMap aQ++ [])) W1 HR1.out (by omega) hlr);clear hs HENC hlr
   go_enter Tryz.func81,Tryz.ntmps81
   go_wp2_with fail;refine HC1.out.mono ?_;rintro e w2 ⟨rfl,hr,hg⟩;have HR2:=ah hr;have HG2:Hid (Below w.heap.size w w2):=HB1.out.trans (hg.below (by omega) (fun q hq e=>by omega));have HZ2:=ah (hg.bk HZ1.out (by show ¬w.heap.size=w.heap.size+1;omega));have z2:w.heap.size+2<=w2.heap.size:=by have:=hg.size;omega
   clear hr hg hW1 HC1 HB1 HZ1 HR1;obtain⟨W3,hW3⟩:∃W,w2.alloc (.cells #[.int .i64 2,.string ⟨#[]⟩,.slice none 0 0,.int .u64 0,.int .u64 0,.slice none 0 0,.string ⟨#[]⟩,.int .i64 0,.string ⟨#[]⟩] 109)=W:=⟨_,rfl⟩
   have hb3:Below w2.heap.size w2 W3:=by rw[<-hW3];exact(af _ w2).alloc ai _
   have HY3:Hid (Bk W3 w2.heap.size 109 #[.int .i64 2,.string ⟨#[]⟩,.slice none 0 0,.int .u64 0,.int .u64 0,.slice none 0 0,.string ⟨#[]⟩,.int .i64 0,.string ⟨#[]⟩]):=by rw[<-hW3];exact Bk.new w2 _ _
   have HR3:Hid (Rdr W3 (w.heap.size+1) (aj ents.length++ (ents.flatMap aQ++ []))):=Bk.below HR2.out hb3 (by omega);have HZ3:=ah (HZ2.out.below hb3 (by omega));have HB3:Hid (Below w.heap.size w W3):=HG2.out.trans (hb3.mono (by omega));have z3:W3.heap.size=w2.heap.size+1:=by rw[<-hW3];simp
   have c0:=HY3.out.nine.1;rw[<-hW3]at c0;have HW3:=ah hW3;clear hb3 hW3 HR2 HZ2 HG2;have HC4:=ah (FU (w.heap.size+1) ents [] W3 HR3.out e.all e.few hle);go_wp2_with fail;rw[HW3.out];refine HC4.out.mono ?_;rintro e v4 ⟨A4,c4x,rfl,hn4,hm4,hap,hr,hg⟩;have HRv:=ah hr;have HYv:=ah (hg.bk HY3.out (by show ¬w2.heap.size=w.heap.size+1;omega));have HZv:=ah (hg.bk HZ3.out (by show ¬w.heap.size=w.heap.size+1;omega));have HBv:Hid (Below w.heap.size w v4):=HB3.out.trans (hg.below (by have:=HB3.out.size;omega) (fun q hq e=>by omega));have zs4:=hg.size;have HAv:=ah hap;clear c0 hr hg hap HC4 HB3 HZ3 HY3 HR3;obtain⟨c0,c1,c2,c3,c4,c5,c6,c7,c8⟩:=HYv.out.nine;have f2:=HYv.out.free 2;obtain⟨W4,hW4⟩:∃W,(v4.setCell ⟨w2.heap.size,2,none⟩ (.slice A4 ents.length c4x))=W:=⟨_,rfl⟩
   have HY4:Hid (Bk W4 w2.heap.size 109 #[.int .i64 2,.string ⟨#[]⟩,.slice A4 ents.length c4x,.int .u64 0,.int .u64 0,.slice none 0 0,.string ⟨#[]⟩,.int .i64 0,.string ⟨#[]⟩]):=by rw[<-hW4];have:=(HYv.out.set 2 (.slice A4 ents.length c4x));show Bk _ _ _ _;simpa using this
   have HR4:Hid (Rdr W4 (w.heap.size+1) ([])):=by rw[<-hW4];exact(Bk.far HRv.out (p:=⟨w2.heap.size,2,none⟩) (by show w.heap.size+1≠w2.heap.size;omega) _)
   have HZ4:Hid (Bk W4 w.heap.size 109 #[.int .i64 0,.string ⟨#[]⟩,.slice none 0 0,.int .u64 0,.int .u64 0,.slice none 0 0,.string ⟨#[]⟩,.int .i64 0,.string ⟨#[]⟩]):=by rw[<-hW4];exact(Bk.far HZv.out (p:=⟨w2.heap.size,2,none⟩) (by show w.heap.size≠w2.heap.size;omega) _)
   have HB4:Hid (Below w.heap.size w W4):=by rw[<-hW4];exact(Below.setCell HBv.out (p:=⟨w2.heap.size,2,none⟩) (by show w.heap.size<=w2.heap.size;omega) _)
   have zz4:v4.heap.size<=W4.heap.size:=by rw[<-hW4];simp[World.setCell]
   have HA4:=ah ((Apd.setCell HAv.out (a:=⟨w2.heap.size,2,none⟩) (by show w2.heap.size<_;omega) (.slice A4 ents.length c4x)));rw[hW4]at HA4;clear HRv HYv HZv HBv HAv;have hRx:Bk W4 (w.heap.size+1) 229 #[.string ⟨#[]⟩,.bool false]:=HR4.out;obtain⟨q0,q1,_,_⟩:=hRx.two;have HM4:Hid (ObM W4 W4.heap.size ⟨2,⟨#[]⟩,ents,zD,[],⟨#[]⟩,0,⟨#[]⟩⟩ ⟨A4,ents.length,c4x,none,0,0⟩):=⟨HA4.out.sl,Sl.nil _ _ _ _,hn4,hm4,Nat.le_refl _,ZZ _⟩
   have HCK:=ah (mJ ⟨2,⟨#[]⟩,ents,zD,[],⟨#[]⟩,0,⟨#[]⟩⟩ ⟨A4,ents.length,c4x,none,0,0⟩ W4.heap.size W4 HM4.out ai HO.out);simp only[obV,obC]at HCK;obtain⟨k0,k1,k2,k3,k4,k5,k6,k7,k8⟩:=HY4.out.nine;go_wp2_with fail;refine HCK.out.mono ?_;rintro e w8 ⟨rfl,hb8⟩;have HY8:=ah (HY4.out.below hb8 HY4.out.lt);have HZ8:=ah (HZ4.out.below hb8 HZ4.out.lt);have HB8:Hid (Below w.heap.size w w8):=HB4.out.trans (hb8.mono HB4.out.size);have HM8:=ah ((HM4.out.below hb8 ai).more hb8.size);have z8:w.heap.size<w8.heap.size:=HZ8.out.lt;have HA8:=ah (HA4.out.below hb8);clear c0 c1 c2 c3 c4 c5 c6 c7 c8 k0 k1 k2 k3 k4 k5 k6 k7 k8 q0 q1 hRx hb8 HCK hW4;obtain⟨c0,c1,c2,c3,c4,c5,c6,c7,c8⟩:=HY8.out.nine;obtain⟨d0,d1,d2,d3,d4,d5,d6,d7,d8⟩:=HZ8.out.nine;obtain⟨f0,f1,f2,f3,f4,f5,f6,f7,f8⟩:=fr9 HZ8.out;have hne:w.heap.size≠w2.heap.size:=by omega
   go_wp2_with fail;refine ZY (dW Tryz.results81 rfl (dX HZ8.out _ _ _ _ _ _ _ _ _) rfl) rfl ⟨⟨A4,ents.length,c4x,none,0,0⟩,rfl,?_,dV HB8.out ai _ _ _ _ _ _ _ _ _,(HA8.out.set9 (by omega) _ _ _ _ _ _ _ _ _).newO (by omega) ⟨rfl,rfl,rfl⟩,NewP.none _ _ rfl⟩;exact⟨(HA8.out.set9 (by omega) _ _ _ _ _ _ _ _ _).sl,Sl.nil _ _ _ _,hn4,hm4,Nat.le_refl _,ZZ _⟩
 | commit k d e c =>
   have HENC:aG o=aj 3++ (ax o.tree++ (aj o.pars.length++ (o.pars.flatMap ax++ (ak (toL o.auth)++ (aj o.time.toNat++ (ak (toL o.msg)++ [])))))):=by unfold aG fE;rw[if_neg (by omega),if_pos k,k,List.append_nil];rfl
   obtain⟨kind,data,ents,⟨t1,t2⟩,pars,auth,time,msg⟩:=o;simp only at k e d HENC;subst k d e;have ht0:0<=time:=c.t0;obtain⟨tn,htn⟩:=Int.eq_ofNat_of_zero_le ht0;subst htn;have ht1: (tn:Int)<=1099511627776:=c.t1;have htn:tn<=1099511627776:=by omega
   have hau:auth.size<=24:=gJ c.auth;have hmg:msg.size<=200:=c.msg;have hwt:WfD (t1,t2):=c.wf;have HPS:Hid (vS pars):=c.pars;simp only[Int.toNat_natCast]at HENC;clear c ht0 ht1;obtain⟨s,hs⟩:∃s,ofL (aG (⟨3,⟨#[]⟩,[],(t1,t2),pars,auth,(tn:Int),msg⟩:Ob))=s:=⟨_,rfl⟩
   rw[hs];have hlr: (aj 3++ (ax (t1,t2)++ (aj pars.length++ (pars.flatMap ax++ (ak (toL auth)++ (aj tn++ (ak (toL msg)++ []))))))).length<=1000000:=by rw[<-HENC];omega
   have hle: (ax (t1,t2)++ (aj pars.length++ (pars.flatMap ax++ (ak (toL auth)++ (aj tn++ (ak (toL msg)++ [])))))).length<=1000000:=by rw[ae]at hlr;omega
   obtain⟨W1,hW1⟩:∃W,(w.alloc (.cells #[.int .i64 0,.string ⟨#[]⟩,.slice none 0 0,.int .u64 0,.int .u64 0,.slice none 0 0,.string ⟨#[]⟩,.int .i64 0,.string ⟨#[]⟩] 109)).alloc (.cells #[.string s,.bool false] 229)=W:=⟨_,rfl⟩
   have HZ1:Hid (Bk W1 w.heap.size 109 #[.int .i64 0,.string ⟨#[]⟩,.slice none 0 0,.int .u64 0,.int .u64 0,.slice none 0 0,.string ⟨#[]⟩,.int .i64 0,.string ⟨#[]⟩]):=by rw[<-hW1];exact(Bk.new w _ _).alloc _
   have HR1:Hid (Rdr W1 (w.heap.size+1) (aj 3++ (ax (t1,t2)++ (aj pars.length++ (pars.flatMap ax++ (ak (toL auth)++ (aj tn++ (ak (toL msg)++ [])))))))):=by
    show Bk _ _ _ _;rw[<-HENC,hs,<-hW1];have:=Bk.new (w.alloc (.cells #[.int .i64 0,.string ⟨#[]⟩,.slice none 0 0,.int .u64 0,.int .u64 0,.slice none 0 0,.string ⟨#[]⟩,.int .i64 0,.string ⟨#[]⟩] 109)) 229 #[.string s,.bool false]
    rwa[Z9]at this
   have HB1:Hid (Below w.heap.size w W1):=by rw[<-hW1];exact((af _ w).alloc ai _).alloc (by simp) _
   have zW1:W1.heap.size=w.heap.size+2:=by rw[<-hW1];simp
   have HC1:=ah (jf (w.heap.size+1) 3 (ax (t1,t2)++ (aj pars.length++ (pars.flatMap ax++ (ak (toL auth)++ (aj tn++ (ak (toL msg)++ [])))))) W1 HR1.out (by omega) hlr);clear hs HENC hlr
   go_enter Tryz.func81,Tryz.ntmps81
   go_wp2_with fail;refine HC1.out.mono ?_;rintro e w2 ⟨rfl,hr,hg⟩;have HR2:=ah hr;have HG2:Hid (Below w.heap.size w w2):=HB1.out.trans (hg.below (by omega) (fun q hq e=>by omega));have HZ2:=ah (hg.bk HZ1.out (by show ¬w.heap.size=w.heap.size+1;omega));have z2:w.heap.size+2<=w2.heap.size:=by have:=hg.size;omega
   clear hr hg hW1 HC1 HB1 HZ1 HR1;obtain⟨W3,hW3⟩:∃W,w2.alloc (.cells #[.int .i64 3,.string ⟨#[]⟩,.slice none 0 0,.int .u64 0,.int .u64 0,.slice none 0 0,.string ⟨#[]⟩,.int .i64 0,.string ⟨#[]⟩] 109)=W:=⟨_,rfl⟩
   have hb3:Below w2.heap.size w2 W3:=by rw[<-hW3];exact(af _ w2).alloc ai _
   have HY3:Hid (Bk W3 w2.heap.size 109 #[.int .i64 3,.string ⟨#[]⟩,.slice none 0 0,.int .u64 0,.int .u64 0,.slice none 0 0,.string ⟨#[]⟩,.int .i64 0,.string ⟨#[]⟩]):=by rw[<-hW3];exact Bk.new w2 _ _
   have HR3:Hid (Rdr W3 (w.heap.size+1) (ax (t1,t2)++ (aj pars.length++ (pars.flatMap ax++ (ak (toL auth)++ (aj tn++ (ak (toL msg)++ []))))))):=Bk.below HR2.out hb3 (by omega);have HZ3:=ah (HZ2.out.below hb3 (by omega));have HB3:Hid (Below w.heap.size w W3):=HG2.out.trans (hb3.mono (by omega));have z3:W3.heap.size=w2.heap.size+1:=by rw[<-hW3];simp
   have c0:=HY3.out.nine.1;rw[<-hW3]at c0;have HW3:=ah hW3;clear hb3 hW3 HR2 HZ2 HG2;have hl3: (aj pars.length++ (pars.flatMap ax++ (ak (toL auth)++ (aj tn++ (ak (toL msg)++ []))))).length<=1000000:=by
    have h:=hle;simp only[ae]at h ⊢;omega
   have hl2: (ak (toL auth)++ (aj tn++ (ak (toL msg)++ []))).length<=1000000:=by
    have h:=hle;simp only[ae]at h ⊢;omega
   have hl1: (aj tn++ (ak (toL msg)++ [])).length<=1000000:=by
    have h:=hle;simp only[ae]at h ⊢;omega
   have hl0: (ak (toL msg)++ []).length<=1000000:=by
    have h:=hle;simp only[ae]at h ⊢;omega
   have HC4:=ah (rz (w.heap.size+1) (t1,t2) (aj pars.length++ (pars.flatMap ax++ (ak (toL auth)++ (aj tn++ (ak (toL msg)++ []))))) W3 HR3.out hwt hle);go_wp2_with fail;rw[HW3.out];refine HC4.out.mono ?_;rintro e v4 ⟨rfl,hr,hg⟩;simp only[aB];have HRv:=ah hr;have HYv:=ah (hg.bk HY3.out (by show ¬w2.heap.size=w.heap.size+1;omega));have HZv:=ah (hg.bk HZ3.out (by show ¬w.heap.size=w.heap.size+1;omega));have HBv:Hid (Below w.heap.size w v4):=HB3.out.trans (hg.below (by have:=HB3.out.size;omega) (fun q hq e=>by omega));have zs4:=hg.size;clear c0 hr hg HC4 HB3 HZ3 HY3 HR3;obtain⟨c0,c1,c2,c3,c4,c5,c6,c7,c8⟩:=HYv.out.nine;have f3:=HYv.out.free 3;have f4:=HYv.out.free 4;obtain⟨W4,hW4⟩:∃W,((v4.setCell ⟨w2.heap.size,3,none⟩ (.int .u64 t1)).setCell ⟨w2.heap.size,4,none⟩ (.int .u64 t2))=W:=⟨_,rfl⟩
   have HY4:Hid (Bk W4 w2.heap.size 109 #[.int .i64 3,.string ⟨#[]⟩,.slice none 0 0,.int .u64 t1,.int .u64 t2,.slice none 0 0,.string ⟨#[]⟩,.int .i64 0,.string ⟨#[]⟩]):=by rw[<-hW4];have:=((HYv.out.set 3 (.int .u64 t1)).set 4 (.int .u64 t2));show Bk _ _ _ _;simpa using this
   have HR4:Hid (Rdr W4 (w.heap.size+1) (aj pars.length++ (pars.flatMap ax++ (ak (toL auth)++ (aj tn++ (ak (toL msg)++ [])))))):=by rw[<-hW4];exact(Bk.far (Bk.far HRv.out (p:=⟨w2.heap.size,3,none⟩) (by show w.heap.size+1≠w2.heap.size;omega) _) (p:=⟨w2.heap.size,4,none⟩) (by show w.heap.size+1≠w2.heap.size;omega) _)
   have HZ4:Hid (Bk W4 w.heap.size 109 #[.int .i64 0,.string ⟨#[]⟩,.slice none 0 0,.int .u64 0,.int .u64 0,.slice none 0 0,.string ⟨#[]⟩,.int .i64 0,.string ⟨#[]⟩]):=by rw[<-hW4];exact(Bk.far (Bk.far HZv.out (p:=⟨w2.heap.size,3,none⟩) (by show w.heap.size≠w2.heap.size;omega) _) (p:=⟨w2.heap.size,4,none⟩) (by show w.heap.size≠w2.heap.size;omega) _)
   have HB4:Hid (Below w.heap.size w W4):=by rw[<-hW4];exact(Below.setCell (Below.setCell HBv.out (p:=⟨w2.heap.size,3,none⟩) (by show w.heap.size<=w2.heap.size;omega) _) (p:=⟨w2.heap.size,4,none⟩) (by show w.heap.size<=w2.heap.size;omega) _)
   have zz4:v4.heap.size<=W4.heap.size:=by rw[<-hW4];simp[World.setCell]
   clear HRv HYv HZv HBv;have HC5:=ah (EY (w.heap.size+1) pars (ak (toL auth)++ (aj tn++ (ak (toL msg)++ []))) W4 HR4.out HPS.out.wf HPS.out.few hl3);go_wp2_with fail;refine HC5.out.mono ?_;rintro e v5 ⟨A5,c5x,rfl,hn5,hm5,hap,hr,hg⟩;have HRv:=ah hr;have HYv:=ah (hg.bk HY4.out (by show ¬w2.heap.size=w.heap.size+1;omega));have HZv:=ah (hg.bk HZ4.out (by show ¬w.heap.size=w.heap.size+1;omega));have HBv:Hid (Below w.heap.size w v5):=HB4.out.trans (hg.below (by have:=HB4.out.size;omega) (fun q hq e=>by omega));have zs5:=hg.size;have HAv:=ah hap;clear hr hg hap HC5 HB4 HZ4 HY4 HR4 hW4;obtain⟨c0,c1,c2,c3,c4,c5,c6,c7,c8⟩:=HYv.out.nine;have f5:=HYv.out.free 5;obtain⟨W5,hW5⟩:∃W,(v5.setCell ⟨w2.heap.size,5,none⟩ (.slice A5 pars.length c5x))=W:=⟨_,rfl⟩
   have HY5:Hid (Bk W5 w2.heap.size 109 #[.int .i64 3,.string ⟨#[]⟩,.slice none 0 0,.int .u64 t1,.int .u64 t2,.slice A5 pars.length c5x,.string ⟨#[]⟩,.int .i64 0,.string ⟨#[]⟩]):=by rw[<-hW5];have:=(HYv.out.set 5 (.slice A5 pars.length c5x));show Bk _ _ _ _;simpa using this
   have HR5:Hid (Rdr W5 (w.heap.size+1) (ak (toL auth)++ (aj tn++ (ak (toL msg)++ [])))):=by rw[<-hW5];exact(Bk.far HRv.out (p:=⟨w2.heap.size,5,none⟩) (by show w.heap.size+1≠w2.heap.size;omega) _)
   have HZ5:Hid (Bk W5 w.heap.size 109 #[.int .i64 0,.string ⟨#[]⟩,.slice none 0 0,.int .u64 0,.int .u64 0,.slice none 0 0,.string ⟨#[]⟩,.int .i64 0,.string ⟨#[]⟩]):=by rw[<-hW5];exact(Bk.far HZv.out (p:=⟨w2.heap.size,5,none⟩) (by show w.heap.size≠w2.heap.size;omega) _)
   have HB5:Hid (Below w.heap.size w W5):=by rw[<-hW5];exact(Below.setCell HBv.out (p:=⟨w2.heap.size,5,none⟩) (by show w.heap.size<=w2.heap.size;omega) _)
   have zz5:v5.heap.size<=W5.heap.size:=by rw[<-hW5];simp[World.setCell]
   have HA5:=ah ((Apd.setCell HAv.out (a:=⟨w2.heap.size,5,none⟩) (by show w2.heap.size<_;omega) (.slice A5 pars.length c5x)));rw[hW5]at HA5;clear HRv HYv HZv HBv HAv;have HC6:=ah (lW (w.heap.size+1) auth (aj tn++ (ak (toL msg)++ [])) W5 HR5.out (by omega) hl2);go_wp2_with fail;refine HC6.out.mono ?_;rintro e v6 ⟨rfl,hr,hg⟩;have HRv:=ah hr;have HYv:=ah (hg.bk HY5.out (by show ¬w2.heap.size=w.heap.size+1;omega));have HZv:=ah (hg.bk HZ5.out (by show ¬w.heap.size=w.heap.size+1;omega));have HBv:Hid (Below w.heap.size w v6):=HB5.out.trans (hg.below (by have:=HB5.out.size;omega) (fun q hq e=>by omega));have zs6:=hg.size;have HAv:=ah (HA5.out.gb hg (by omega));clear hr hg HC6 HB5 HZ5 HY5 HR5 hW5;obtain⟨c0,c1,c2,c3,c4,c5,c6,c7,c8⟩:=HYv.out.nine;have f6:=HYv.out.free 6;obtain⟨W6,hW6⟩:∃W,(v6.setCell ⟨w2.heap.size,6,none⟩ (.string auth))=W:=⟨_,rfl⟩
   have HY6:Hid (Bk W6 w2.heap.size 109 #[.int .i64 3,.string ⟨#[]⟩,.slice none 0 0,.int .u64 t1,.int .u64 t2,.slice A5 pars.length c5x,.string auth,.int .i64 0,.string ⟨#[]⟩]):=by rw[<-hW6];have:=(HYv.out.set 6 (.string auth));show Bk _ _ _ _;simpa using this
   have HR6:Hid (Rdr W6 (w.heap.size+1) (aj tn++ (ak (toL msg)++ []))):=by rw[<-hW6];exact(Bk.far HRv.out (p:=⟨w2.heap.size,6,none⟩) (by show w.heap.size+1≠w2.heap.size;omega) _)
   have HZ6:Hid (Bk W6 w.heap.size 109 #[.int .i64 0,.string ⟨#[]⟩,.slice none 0 0,.int .u64 0,.int .u64 0,.slice none 0 0,.string ⟨#[]⟩,.int .i64 0,.string ⟨#[]⟩]):=by rw[<-hW6];exact(Bk.far HZv.out (p:=⟨w2.heap.size,6,none⟩) (by show w.heap.size≠w2.heap.size;omega) _)
   have HB6:Hid (Below w.heap.size w W6):=by rw[<-hW6];exact(Below.setCell HBv.out (p:=⟨w2.heap.size,6,none⟩) (by show w.heap.size<=w2.heap.size;omega) _)
   have zz6:v6.heap.size<=W6.heap.size:=by rw[<-hW6];simp[World.setCell]
   have HA6:=ah ((Apd.setCell HAv.out (a:=⟨w2.heap.size,6,none⟩) (by show w2.heap.size<_;omega) (.string auth)));rw[hW6]at HA6;clear HRv HYv HZv HBv HAv;have HC7:=ah (jf (w.heap.size+1) tn (ak (toL msg)++ []) W6 HR6.out htn hl1);go_wp2_with fail;refine HC7.out.mono ?_;rintro e v7 ⟨rfl,hr,hg⟩;have HRv:=ah hr;have HYv:=ah (hg.bk HY6.out (by show ¬w2.heap.size=w.heap.size+1;omega));have HZv:=ah (hg.bk HZ6.out (by show ¬w.heap.size=w.heap.size+1;omega));have HBv:Hid (Below w.heap.size w v7):=HB6.out.trans (hg.below (by have:=HB6.out.size;omega) (fun q hq e=>by omega));have zs7:=hg.size;have HAv:=ah (HA6.out.gb hg (by omega));clear hr hg HC7 HB6 HZ6 HY6 HR6 hW6;obtain⟨c0,c1,c2,c3,c4,c5,c6,c7,c8⟩:=HYv.out.nine;have f7:=HYv.out.free 7;obtain⟨W7,hW7⟩:∃W,(v7.setCell ⟨w2.heap.size,7,none⟩ (.int .i64 (tn:Int)))=W:=⟨_,rfl⟩
   have HY7:Hid (Bk W7 w2.heap.size 109 #[.int .i64 3,.string ⟨#[]⟩,.slice none 0 0,.int .u64 t1,.int .u64 t2,.slice A5 pars.length c5x,.string auth,.int .i64 (tn:Int),.string ⟨#[]⟩]):=by rw[<-hW7];have:=(HYv.out.set 7 (.int .i64 (tn:Int)));show Bk _ _ _ _;simpa using this
   have HR7:Hid (Rdr W7 (w.heap.size+1) (ak (toL msg)++ [])):=by rw[<-hW7];exact(Bk.far HRv.out (p:=⟨w2.heap.size,7,none⟩) (by show w.heap.size+1≠w2.heap.size;omega) _)
   have HZ7:Hid (Bk W7 w.heap.size 109 #[.int .i64 0,.string ⟨#[]⟩,.slice none 0 0,.int .u64 0,.int .u64 0,.slice none 0 0,.string ⟨#[]⟩,.int .i64 0,.string ⟨#[]⟩]):=by rw[<-hW7];exact(Bk.far HZv.out (p:=⟨w2.heap.size,7,none⟩) (by show w.heap.size≠w2.heap.size;omega) _)
   have HB7:Hid (Below w.heap.size w W7):=by rw[<-hW7];exact(Below.setCell HBv.out (p:=⟨w2.heap.size,7,none⟩) (by show w.heap.size<=w2.heap.size;omega) _)
   have zz7:v7.heap.size<=W7.heap.size:=by rw[<-hW7];simp[World.setCell]
   have HA7:=ah ((Apd.setCell HAv.out (a:=⟨w2.heap.size,7,none⟩) (by show w2.heap.size<_;omega) (.int .i64 (tn:Int))));rw[hW7]at HA7;clear HRv HYv HZv HBv HAv;have HC9:=ah (lW (w.heap.size+1) msg [] W7 HR7.out (by omega) hl0);go_wp2_with fail;refine HC9.out.mono ?_;rintro e v9 ⟨rfl,hr,hg⟩;have HRv:=ah hr;have HYv:=ah (hg.bk HY7.out (by show ¬w2.heap.size=w.heap.size+1;omega));have HZv:=ah (hg.bk HZ7.out (by show ¬w.heap.size=w.heap.size+1;omega));have HBv:Hid (Below w.heap.size w v9):=HB7.out.trans (hg.below (by have:=HB7.out.size;omega) (fun q hq e=>by omega));have zs9:=hg.size;have HAv:=ah (HA7.out.gb hg (by omega));clear hr hg HC9 HB7 HZ7 HY7 HR7 hW7;obtain⟨c0,c1,c2,c3,c4,c5,c6,c7,c8⟩:=HYv.out.nine;have f8:=HYv.out.free 8;obtain⟨W9,hW9⟩:∃W,(v9.setCell ⟨w2.heap.size,8,none⟩ (.string msg))=W:=⟨_,rfl⟩
   have HY9:Hid (Bk W9 w2.heap.size 109 #[.int .i64 3,.string ⟨#[]⟩,.slice none 0 0,.int .u64 t1,.int .u64 t2,.slice A5 pars.length c5x,.string auth,.int .i64 (tn:Int),.string msg]):=by rw[<-hW9];have:=(HYv.out.set 8 (.string msg));show Bk _ _ _ _;simpa using this
   have HR9:Hid (Rdr W9 (w.heap.size+1) ([])):=by rw[<-hW9];exact(Bk.far HRv.out (p:=⟨w2.heap.size,8,none⟩) (by show w.heap.size+1≠w2.heap.size;omega) _)
   have HZ9:Hid (Bk W9 w.heap.size 109 #[.int .i64 0,.string ⟨#[]⟩,.slice none 0 0,.int .u64 0,.int .u64 0,.slice none 0 0,.string ⟨#[]⟩,.int .i64 0,.string ⟨#[]⟩]):=by rw[<-hW9];exact(Bk.far HZv.out (p:=⟨w2.heap.size,8,none⟩) (by show w.heap.size≠w2.heap.size;omega) _)
   have HB9:Hid (Below w.heap.size w W9):=by rw[<-hW9];exact(Below.setCell HBv.out (p:=⟨w2.heap.size,8,none⟩) (by show w.heap.size<=w2.heap.size;omega) _)
   have zz9:v9.heap.size<=W9.heap.size:=by rw[<-hW9];simp[World.setCell]
   have HA9:=ah ((Apd.setCell HAv.out (a:=⟨w2.heap.size,8,none⟩) (by show w2.heap.size<_;omega) (.string msg)));rw[hW9]at HA9;clear HRv HYv HZv HBv HAv;have hRx:Bk W9 (w.heap.size+1) 229 #[.string ⟨#[]⟩,.bool false]:=HR9.out;obtain⟨q0,q1,_,_⟩:=hRx.two;have HM9:Hid (ObM W9 W9.heap.size ⟨3,⟨#[]⟩,[],(t1,t2),pars,auth,(tn:Int),msg⟩ ⟨none,0,0,A5,pars.length,c5x⟩):=⟨Sl.nil _ _ _ _,HA9.out.sl,Nat.le_refl _,ZZ _,hn5,hm5⟩
   have HCK:=ah (mJ ⟨3,⟨#[]⟩,[],(t1,t2),pars,auth,(tn:Int),msg⟩ ⟨none,0,0,A5,pars.length,c5x⟩ W9.heap.size W9 HM9.out ai HO.out);simp only[obV,obC]at HCK;obtain⟨k0,k1,k2,k3,k4,k5,k6,k7,k8⟩:=HY9.out.nine;go_wp2_with fail;refine HCK.out.mono ?_;rintro e w8 ⟨rfl,hb8⟩;have HY8:=ah (HY9.out.below hb8 HY9.out.lt);have HZ8:=ah (HZ9.out.below hb8 HZ9.out.lt);have HB8:Hid (Below w.heap.size w w8):=HB9.out.trans (hb8.mono HB9.out.size);have HM8:=ah ((HM9.out.below hb8 ai).more hb8.size);have z8:w.heap.size<w8.heap.size:=HZ8.out.lt;have HA8:=ah (HA9.out.below hb8);clear c0 c1 c2 c3 c4 c5 c6 c7 c8 k0 k1 k2 k3 k4 k5 k6 k7 k8 q0 q1 hRx hb8 HCK hW9;obtain⟨c0,c1,c2,c3,c4,c5,c6,c7,c8⟩:=HY8.out.nine;obtain⟨d0,d1,d2,d3,d4,d5,d6,d7,d8⟩:=HZ8.out.nine;obtain⟨f0,f1,f2,f3,f4,f5,f6,f7,f8⟩:=fr9 HZ8.out;have hne:w.heap.size≠w2.heap.size:=by omega
   go_wp2_with fail;refine ZY (dW Tryz.results81 rfl (dX HZ8.out _ _ _ _ _ _ _ _ _) rfl) rfl ⟨⟨none,0,0,A5,pars.length,c5x⟩,rfl,?_,dV HB8.out ai _ _ _ _ _ _ _ _ _,NewO.none _ _ rfl,(HA8.out.set9 (by omega) _ _ _ _ _ _ _ _ _).newP (by omega) ⟨rfl,rfl,rfl⟩⟩;exact⟨Sl.nil _ _ _ _,(HA8.out.set9 (by omega) _ _ _ _ _ _ _ _ _).sl,Nat.le_refl _,ZZ _,hn5,hm5⟩
theorem uB(b:Nat)(w:MQ)(y0 y1 y2 y3 y4 y5 y6 y7 y8:MS)(k:Nat)(hk:k≠b): ((((((((((w.setCell ⟨b,0,none⟩ y0).setCell ⟨b,1,none⟩ y1).setCell ⟨b,2,none⟩ y2).setCell ⟨b,3,none⟩ y3).setCell ⟨b,4,none⟩ y4).setCell ⟨b,5,none⟩ y5).setCell ⟨b,6,none⟩ y6).setCell ⟨b,7,none⟩ y7).setCell ⟨b,8,none⟩ y8)).heap[k]? =w.heap[k]? :=by
 have h:=fun(W:MQ)(i:Nat)(y:MS)=>Z8 W ⟨b,i,none⟩ y k hk;rw[h,h,h,h,h,h,h,h,h]
theorem Sl.ne{w w':MQ}{B size n b:Nat}{A:OA}{xs:List MS}(h:Sl w B size A n xs)(hn:∀a,0<n->A=some a->a.block≠b)(hw:∀k,k≠b->w'.heap[k]? =w.heap[k]?):Sl w' B size A n xs:=by
 refine⟨h.1,fun h0=>?_⟩;obtain⟨b',off,rfl,hb',hc⟩:=h.2 h0;have hne:=hn _ h0 rfl;exact⟨b',off,rfl,hb',fun j u hu=>(World.cell?_of_block (hw b' hne)).trans (hc j u hu)⟩
def zrC:Array MS:=#[.int .i64 0,.string ⟨#[]⟩,.slice none 0 0,.int .u64 0,.int .u64 0,.slice none 0 0,.string ⟨#[]⟩,.int .i64 0,.string ⟨#[]⟩]
theorem IE:∀(i:Nat)(v:Bool),zrC[i]? ≠some (.bool v)
 | 0,_ | 1,_ | 2,_ | 3,_ | 4,_ | 5,_ | 6,_ | 7,_ | 8,_=>by simp[zrC]
 | i+9,_=>by simp[zrC]
theorem KA:∀(i:Nat)(x y:Int),zrC[i]? =some (.int .u64 x)->zrC[i+1]? =some (.int .u64 y)->x=0/\y=0
 | 0,_,_ | 1,_,_ | 2,_,_ | 4,_,_ | 5,_,_ | 6,_,_ | 7,_,_ | 8,_,_=>by simp[zrC]
 | 3,_,_=>by simp[zrC];omega
 | i+9,_,_=>by simp[zrC]
theorem JS{o:Ob}(ho:OkO o):∀d∈o.pars,d≠zD:=by
 cases ho.f with
 | blob _ _ c _=>rw[c.pars];intro d h;cases h
 | tree _ _ c _=>rw[c.pars];intro d h;cases h
 | commit _ _ _ c=>exact c.pars.nz
theorem ObM.zero{w w':MQ}{B b:Nat}{t:TypeId}{o:Ob}{s:Osl}(h:ObM w B o s)(ho:OkO o)(hz:Bk w b t zrC)(hw:∀k,k≠b->w'.heap[k]? =w.heap[k]?):ObM w' B o s:=by
 refine⟨h.e.ne (b:=b) ?_ hw,h.p.ne (b:=b) ?_ hw,h.ele,h.emx,h.ple,h.pmx⟩
 . rintro a h0 ha rfl
   obtain⟨b',off,e,rfl',_,_,_,h1,_⟩:=h.e.en h0;rw[ha]at rfl';cases rfl'
   rw[hz.cell]at h1;exact IE _ _ h1
 . rintro a h0 ha rfl
   obtain⟨b',off,d,rfl',_,hd,h1,h2⟩:=h.p.dg h0;rw[ha]at rfl';cases rfl'
   rw[hz.cell]at h1 h2;have:=KA _ _ _ h1 h2;exact JS ho d (Z7 hd) (by obtain⟨x,y⟩:=d;obtain⟨h1,h2⟩:=this;simp only at h1 h2;rw[h1,h2];rfl)
def zOb:Ob:=⟨0,⟨#[]⟩,[],zD,[],⟨#[]⟩,0,⟨#[]⟩⟩
def zOs:Osl:=⟨none,0,0,none,0,0⟩
def GeE(p:List Itm)(d:Dig)(w:MQ)(e:Ending)(w':MQ):Prop :=
 ((∃o s,aL p d=some o/\OkO o/\e= .returned (.tuple #[obV o s,.int .i64 0])/\ObM w' w'.heap.size o s/\NewO w' w.heap.size s/\NewP w' w.heap.size s)∨ (aL p d=none/\e= .returned (.tuple #[obV zOb zOs,.int .i64 8])))/\Below w.heap.size w w'
theorem um(A:OA)(n c B:Nat)(p:List Itm)(d:Dig)(w:MQ)(h0:Sl w B 3 A n (flat itC p))(hB:B<=w.heap.size)(hn:n<=1000000)(hp:PlOk p) :
  Calls Tryz.prog 52 #[.slice A n c,aB d] w (GeE p d w):=by
 have HP:=ah hp;have HL:=ah (h0.len bN (by omega));clear hp;obtain⟨d1,d2⟩:=d;obtain⟨W,hW⟩:∃W,(w.alloc (.cells #[.int .u64 d1,.int .u64 d2] 50)).alloc (.cells #[.int .i64 0,.string ⟨#[]⟩,.slice none 0 0,.int .u64 0,.int .u64 0,.slice none 0 0,.string ⟨#[]⟩,.int .i64 0,.string ⟨#[]⟩] 109)=W:=⟨_,rfl⟩
 have HB0:Hid (Below w.heap.size w W):=by rw[<-hW];exact((af _ w).alloc ai _).alloc (by simp) _
 have HK:Hid (Bk W w.heap.size 50 #[.int .u64 d1,.int .u64 d2]):=by rw[<-hW];exact(Bk.new w _ _).alloc _
 have HZ:Hid (Bk W (w.heap.size+1) 109 #[.int .i64 0,.string ⟨#[]⟩,.slice none 0 0,.int .u64 0,.int .u64 0,.slice none 0 0,.string ⟨#[]⟩,.int .i64 0,.string ⟨#[]⟩]):=by
  rw[<-hW];have:=Bk.new (w.alloc (.cells #[.int .u64 d1,.int .u64 d2] 50)) 109 #[.int .i64 0,.string ⟨#[]⟩,.slice none 0 0,.int .u64 0,.int .u64 0,.slice none 0 0,.string ⟨#[]⟩,.int .i64 0,.string ⟨#[]⟩];rw[Z9]at this;exact this
 have HC:=ah (sM A n c B p (d1,d2) W (h0.below HB0.out hB) (Z0 hB HB0.out.size) hn HP.out.asc);have H0:=ah h0;clear h0;have zW:w.heap.size+2=W.heap.size:=by rw[<-hW];simp
 have HW:=ah hW;clear hW;unfold BsE at HC;simp only[aB]at HC ⊢;obtain⟨x0,x1,_,_⟩:=HK.out.two;cases hf:bE p (d1,d2) with
 | none =>
   have HN:Hid (aL p (d1,d2)=none):=getP_none.2 hf;rw[hf]at HC;simp only[Option.isSome_none]at HC;clear hf
   go_enter Tryz.func52,Tryz.ntmps52
   go_wp2_with fail;rw[HW.out];refine HC.out.mono ?_;rintro e w2 ⟨rfl,hb⟩;have HZ2:=ah (HZ.out.below hb (by omega));have HB2:Hid (Below w.heap.size w w2):=HB0.out.trans (hb.mono HB0.out.size);obtain⟨z0,z1,z2,z3,z4,z5,z6,z7,z8⟩:=HZ2.out.nine;obtain⟨g0,g1,g2,g3,g4,g5,g6,g7,g8⟩:=fr9 HZ2.out;clear hb HC;go_wp2_with fail;refine ZY (dW Tryz.results52 rfl (dX HZ2.out _ _ _ _ _ _ _ _ _) rfl) rfl ⟨.inr ⟨HN.out,rfl⟩,dV HB2.out (by omega) _ _ _ _ _ _ _ _ _⟩
 | some b =>
   have HM:Hid (((d1,d2),b)∈p):=(iy HP.out.asc).1 hf;obtain⟨o,ho,hbe⟩:=HP.out.enc _ HM.out;simp only at hbe;have HG:Hid (aL p (d1,d2)=some o):=(gp HP.out).2 ⟨ho,by rw[<-hbe];exact HM.out⟩;have HO:=ah ho;have HI:Hid (∃i,p[atD p (d1,d2)]? =some i/\i.2=b/\atD p (d1,d2)<n):=by
    unfold bE at hf;cases hi:p[atD p (d1,d2)]? with
    | none=>rw[hi]at hf;cases hf
    | some i =>
      rw[hi]at hf;simp only at hf;split at hf
      . exact⟨i,rfl,by cases hf;rfl,by rw[<-HL.out];exact(List.getElem?_eq_some_iff.1 hi).1⟩
      . cases hf
   obtain⟨i,hi,hib,hin⟩:=HI.out;rw[hf]at HC;simp only[Option.isSome_some]at HC;obtain⟨m,hm⟩:∃m,atD p (d1,d2)=m:=⟨_,rfl⟩
   rw[hm]at HC hi hin;clear hf ho hm
   go_enter Tryz.func52,Tryz.ntmps52
   go_wp2_with fail;rw[HW.out];refine HC.out.mono ?_;rintro e w2 ⟨rfl,hb⟩;have HB2:Hid (Below w.heap.size w w2):=HB0.out.trans (hb.mono HB0.out.size);have HZ2:=ah (HZ.out.below hb (by omega));obtain⟨bb,off,i',rfl,hbB,hx,y0,y1,y2⟩:=(H0.out.below HB2.out hB).it hin;rw[hi]at hx;obtain rfl:=Option.some.inj hx;rw[hib,hbe]at y2;have HD:=ah (og o w2 HO.out);have zw2:=hb.size;clear hb HC hi hib hbe hx;have hmn: (m:Int)< (n:Int):=by omega
   go_wp2_with fail;refine HD.out.mono ?_;rintro e w3 ⟨s,rfl,hm3,hb3,hn3,hp3⟩;have HP3:Hid (NewP w3 w.heap.size s):=hp3.mono HB2.out.size;have HN3:Hid (NewO w3 w.heap.size s):=hn3.mono HB2.out.size;have HZ3:=ah (HZ2.out.below hb3 (by omega));have HB3:Hid (Below w.heap.size w w3):=HB2.out.trans (hb3.mono HB2.out.size);have HM3:=ah hm3;simp only[obV,obC];obtain⟨z0,z1,z2,z3,z4,z5,z6,z7,z8⟩:=HZ3.out.nine;obtain⟨g0,g1,g2,g3,g4,g5,g6,g7,g8⟩:=fr9 HZ3.out;clear hb3 hm3 hn3 hp3 HD;go_wp2_with fail;refine ZY (dW Tryz.results52 rfl (dX HZ3.out _ _ _ _ _ _ _ _ _) rfl) rfl ⟨.inl ⟨o,s,HG.out,HO.out,rfl,?_,?_,?_⟩,dV HB3.out (by omega) _ _ _ _ _ _ _ _ _⟩
   . have:=HM3.out.zero (t:=109) HO.out HZ3.out (fun k hk=>uB _ w3 (.int .i64 o.kind) (.string o.data) (.slice s.eA s.en s.ec) (.int .u64 o.tree.1) (.int .u64 o.tree.2) (.slice s.pA s.pn s.pc) (.string o.auth) (.int .i64 o.time) (.string o.msg) k hk)
     simpa using this
   . have:=HN3.out.keep (t:=109) HZ3.out (by decide) (fun k hk=>uB _ w3 (.int .i64 o.kind) (.string o.data) (.slice s.eA s.en s.ec) (.int .u64 o.tree.1) (.int .u64 o.tree.2) (.slice s.pA s.pn s.pc) (.string o.auth) (.int .i64 o.time) (.string o.msg) k hk)
     simpa using this
   . have:=HP3.out.keep (t:=109) HZ3.out (by decide) (fun k hk=>uB _ w3 (.int .i64 o.kind) (.string o.data) (.slice s.eA s.en s.ec) (.int .u64 o.tree.1) (.int .u64 o.tree.2) (.slice s.pA s.pn s.pc) (.string o.auth) (.int .i64 o.time) (.string o.msg) k hk)
     simpa using this
theorem Sl.dgbox{w:MQ}{B n b:Nat}{t:TypeId}{A:OA}{q:List Itm}{x y:MS}(h:Sl w B 3 A n (flat itC q))(hk:Bk w b t #[x,y]):∀a,0<n->A=some a->a.block≠b:=by
 rintro a h0 ha rfl;obtain⟨b',off,i,rfl',_,_,_,_,h2⟩:=h.it h0;rw[ha]at rfl';cases rfl'
 rw[hk.cell]at h2;simp at h2
theorem iQ{fn:Func}{r c i:Tmp}(h:fn.results= #[.tmp r,.cell c 50,.tmp i]){w:MQ}{a:Array MS}{b:Nat}{x y u v:MS}(hr:a[r]?.getD undef=u)(ha:a[c]?.getD undef= .pointer (some ⟨b,0,none⟩))(hk:Bk w b 50 #[x,y])(hv:a[i]?.getD undef=v) :
  (results fn a).run Tryz.prog w= .ok (.tuple #[u,.agg #[x,y],v]) w:=by
 obtain⟨h0,h1,_,_⟩:=hk.two;simp[results,h,hr,ha,hv,go_sem,h0,h1]
def PuE(A0:OA)(c0:Nat)(p:List Itm)(o:Ob)(w:MQ)(e:Ending)(w':MQ):Prop :=
 ((∃q A c,bC p o=some q/\e= .returned (.tuple #[.slice A q.length c,aB (dgO o),.int .i64 0])/\Sl w' w'.heap.size 3 A q.length (flat itC q)/\q.length<=c/\c<=maxLen/\Ply w' w.heap.size A0 c0 p A c q)∨ (bC p o=none/\e= .returned (.tuple #[.slice none 0 0,aB zD,.int .i64 16])))/\Below w.heap.size w w'
theorem uj(A:OA)(n c B:Nat)(p:List Itm)(o:Ob)(s:Osl)(w:MQ)(h0:Sl w B 3 A n (flat itC p))(hm:ObM w B o s)(hB:B<=w.heap.size)(hnc:n<=c)(hcm:c<=maxLen)(hn:n<=900000)(ha:AscI p)(ho:OkO o) :
  Calls Tryz.prog 68 #[.slice A n c,obV o s] w (PuE A c p o w):=by
 have HO:=ah ho;have HAS:=ah ha;have HCM:=ah hcm;have HNC:=ah hnc;have HNN:=ah hn;obtain⟨W,hW⟩:∃W,(w.alloc (.cells (obC o s) 109)).alloc (.cells #[.int .u64 0,.int .u64 0] 50)=W:=⟨_,rfl⟩
 have HB0:Hid (Below w.heap.size w W):=by rw[<-hW];exact((af _ w).alloc ai _).alloc (by simp) _
 have HK:Hid (Bk W w.heap.size 109 (obC o s)):=by rw[<-hW];exact(Bk.new w _ _).alloc _
 have HD:Hid (Bk W (w.heap.size+1) 50 #[.int .u64 0,.int .u64 0]):=by
  rw[<-hW];have:=Bk.new (w.alloc (.cells (obC o s) 109)) 50 #[.int .u64 0,.int .u64 0];rw[Z9]at this;exact this
 have zW:w.heap.size+2=W.heap.size:=by rw[<-hW];simp
 have HE:=ah (rF o s B W (hm.below HB0.out hB) (by omega) ho);have H0:=ah h0;have hsz: (ofL (aG o)).size<=maxLen:=by rw[bG];have:=ho.len;unfold maxLen;omega
 have HOF:=ah (fun w=>qf (ofL (aG o)) w hsz);have HDG:Hid (ofB (toL (ofL (aG o)))=dgO o):=by show _=_;rw[bO];rfl
 unfold lD at HOF;rw[HDG.out]at HOF;have HPP:Hid (bC p o=bY p (dgO o,ofL (aG o))):=rfl;unfold qh at HE;simp only[obV,obC]at HE hW HK ⊢;obtain⟨sb,hsb⟩:∃sb,ofL (aG o)=sb:=⟨_,rfl⟩
 rw[hsb]at HE HOF HPP;obtain⟨⟨d1,d2⟩,hdd⟩:∃d,dgO o=d:=⟨_,rfl⟩
 unfold PuE;rw[hdd]at HOF HPP ⊢;rw[HPP.out];simp only[aB]at HOF ⊢;obtain⟨c0,c1,c2,c3,c4,c5,c6,c7,c8⟩:=HK.out.nine;have HW:=ah hW;clear h0 hm ho ha hcm hn hsb hdd HDG hsz hW hnc
 go_enter Tryz.func68,Tryz.ntmps68
 go_wp2_with fail;rw[HW.out];go_wp2_with fail;refine HE.out.mono ?_;rintro e w2 ⟨rfl,hb⟩;have HB2:Hid (Below w.heap.size w w2):=HB0.out.trans (hb.mono HB0.out.size);have HD2:=ah (HD.out.below hb (by omega));have z2:w.heap.size+2<=w2.heap.size:=by have:=hb.size;omega
 clear hb HE c0 c1 c2 c3 c4 c5 c6 c7 c8;go_wp2_with fail;refine(HOF.out _).mono ?_;rintro e w3 ⟨rfl,hb⟩;have HB3:Hid (Below w.heap.size w w3):=HB2.out.trans (hb.mono HB2.out.size);have HD3:=ah (HD2.out.below hb (by omega));have z3:w.heap.size+2<=w3.heap.size:=by have:=hb.size;omega
 obtain⟨W3,hW3⟩:∃W,w3.alloc (.cells #[.int .u64 d1,.int .u64 d2] 50)=W:=⟨_,rfl⟩
 have HBW:Hid (Below w3.heap.size w3 W3):=by rw[<-hW3];exact(af _ w3).alloc ai _
 have HG3:Hid (Bk W3 w3.heap.size 50 #[.int .u64 d1,.int .u64 d2]):=by rw[<-hW3];exact Bk.new w3 _ _
 have HD3':=ah (HD3.out.below HBW.out (by omega));have HB3':Hid (Below w.heap.size w W3):=HB3.out.trans (HBW.out.mono HB3.out.size);have zW3:w3.heap.size<W3.heap.size:=HG3.out.lt;have HI:=ah (D7 A n c B p ((d1,d2),sb) W3 (H0.out.below HB3'.out hB) (by omega) HNC.out HCM.out HNN.out HAS.out);unfold C8 at HI;simp only[itV]at HI;obtain⟨x0,x1,_,_⟩:=HG3.out.two;clear hb;go_wp2_with fail;refine HI.out.mono ?_;rintro e w4 ⟨hq,hb⟩;have HB4:Hid (Below w.heap.size w w4):=HB3'.out.trans (hb.mono HB3'.out.size);have HD4:=ah (HD3'.out.below hb (by omega));have HG4:=ah (HG3.out.below hb zW3);have z4:w3.heap.size<w4.heap.size:=Nat.lt_of_lt_of_le zW3 hb.size;have g0:=HD4.out.free 0;have g1:=HD4.out.free 1;obtain⟨y0,y1,_,_⟩:=HD4.out.two;obtain⟨x0,x1,_,_⟩:=HG4.out.two;clear hb HI hW3;rcases hq with ⟨q,A',c',h1,rfl,h2,h3,h4,h5⟩ | ⟨h1,rfl⟩
 . have HQ:=ah h1;have HS:=ah h2;have H3:=ah h3;have H4:=ah h4;have H5:=ah h5
   clear h1 h2 h3 h4 h5;go_wp2_with fail
   go_region
   go_wp2_with fail;refine ZY (iQ Tryz.results68 rfl rfl ((HD4.out.set2 (.int .u64 d1) (.int .u64 d2)).drew) rfl) rfl ⟨.inl ⟨q,A',c',HQ.out,rfl,?_,H3.out,H4.out,?_⟩,(dQ HB4.out (by omega) _ _).drew⟩
   . have:=HS.out.ne (b:=w.heap.size+1) (HS.out.dgbox HD4.out) (fun k hk=>(Z8 (w4.setCell ⟨w.heap.size+1,0,none⟩ (.int .u64 d1)) ⟨w.heap.size+1,1,none⟩ (.int .u64 d2) k hk).trans (Z8 w4 ⟨w.heap.size+1,0,none⟩ (.int .u64 d1) k hk))
     simpa using this.drew
   . rcases H5.out with h | h
     . exact .inl h
     . exact .inr (iN (iN (jX h (by omega)) HD4.out (by decide) 0 _) (HD4.out.set 0 _) (by decide) 1 _).drew
 . have HQ:=ah h1
   clear h1;go_wp2_with fail;refine ZY (iQ Tryz.results68 rfl rfl (HD4.out.set2 _ _) rfl) rfl ⟨.inr ⟨HQ.out,rfl⟩,dQ HB4.out (by omega) _ _⟩
theorem pO{P:Program}{ops:Array Oper}{rest:List Oper}{o:Oper}{a:Act}{w:MQ}{Q:Exit->Act->MQ->Prop}(s x:Operand)(t:TypeId)(_:o.op= .call {callee:= .builtin .append,args:=#[s,x],argTypes:=#[t,t]})
  (h:Hid (wpList P ops Q (o::rest) a w)):wpList P ops Q (o::rest) a w:=h
structure Rsl where
 d:Dsl
 pA:OA
 pc:Nat
 rA:OA
 rc:Nat
 lA:OA
 lc:Nat
def rpC(r:Rp)(s:Rsl):Array MS:=#[.int .i64 r.d.sz,.slice s.d.a1 r.d.ss.length s.d.c1,.slice s.d.a2 r.d.pn.length s.d.c2,.int .i64 r.d.lf,.slice s.pA r.p.length s.pc,.slice s.rA r.rs.length s.rc,.slice s.lA r.lg.length s.lc]
def rpV(r:Rp)(s:Rsl):MS:= .agg (rpC r s)
structure RpM(w:MQ)(B:Nat)(r:Rp)(s:Rsl):Prop where
 d:DkM w B r.d s.d
 p:Sl w B 3 s.pA r.p.length (flat itC r.p)
 rf:Sl w B 3 s.rA r.rs.length (flat rfC r.rs)
 l:Sl w B 5 s.lA r.lg.length (flat upC r.lg)
 pc:r.p.length<=s.pc
 pm:s.pc<=maxLen
theorem RpM.below{w w':MQ}{B B':Nat}{r:Rp}{s:Rsl}(h:RpM w B r s)(hb:Below B' w w')(hB:B<=B'):RpM w' B r s:=⟨h.d.below hb hB,h.p.below hb hB,h.rf.below hb hB,h.l.below hb hB,h.pc,h.pm⟩
theorem RpM.more{w:MQ}{B B':Nat}{r:Rp}{s:Rsl}(h:RpM w B r s)(hB:B<=B'):RpM w B' r s:=⟨h.d.more hB,h.p.more hB,h.rf.more hB,h.l.more hB,h.pc,h.pm⟩
def zRs:Rsl:=⟨⟨none,0,none,0⟩,none,0,none,0,none,0⟩
theorem RpM.zero(w:MQ)(B:Nat):RpM w B zRp zRs:=⟨⟨Sl.nil _ _ _ _,Sl.nil _ _ _ _⟩,Sl.nil _ _ _ _,Sl.nil _ _ _ _,Sl.nil _ _ _ _,Nat.le_refl _,ZZ _⟩
abbrev rzC:Array MS:=#[.int .i64 0,.slice none 0 0,.slice none 0 0,.int .i64 0,.slice none 0 0,.slice none 0 0,.slice none 0 0]
def dO(r:Rp)(x:Int)(w:MQ)(e:Ending)(w':MQ):Prop:=∃s,e= .returned (.tuple #[rpV r s,.int .i64 x])/\RpM w' w'.heap.size r s/\Below w.heap.size w w'
section
variable {w w' : MQ} {b : Nat} {t : TypeId} {x0 x1 x2 x3 x4 x5 x6 : MS}
theorem Bk.seven(h:Bk w b t #[x0,x1,x2,x3,x4,x5,x6]): (w.cell? ⟨b,0,none⟩=some x0/\w.cell? ⟨b,1,none⟩=some x1/\w.cell? ⟨b,2,none⟩=some x2/\w.cell? ⟨b,3,none⟩=some x3)/\w.cell? ⟨b,4,none⟩=some x4/\w.cell? ⟨b,5,none⟩=some x5/\w.cell? ⟨b,6,none⟩=some x6:=by
 have c0:=h.cell 0;have c1:=h.cell 1;have c2:=h.cell 2;have c3:=h.cell 3;have c4:=h.cell 4;have c5:=h.cell 5;have c6:=h.cell 6;simp at c0 c1 c2 c3 c4 c5 c6;exact⟨⟨c0,c1,c2,c3⟩,c4,c5,c6⟩
theorem Bk.free7(h:Bk w b t #[x0,x1,x2,x3,x4,x5,x6]): (w.frozen? ⟨b,0,none⟩=false/\w.frozen? ⟨b,1,none⟩=false/\w.frozen? ⟨b,2,none⟩=false/\w.frozen? ⟨b,3,none⟩=false)/\w.frozen? ⟨b,4,none⟩=false/\w.frozen? ⟨b,5,none⟩=false/\w.frozen? ⟨b,6,none⟩=false :=
 ⟨⟨h.free 0,h.free 1,h.free 2,h.free 3⟩,h.free 4,h.free 5,h.free 6⟩
theorem Bk.at_{cs:Array MS}{b':Nat}(h:Bk w b t cs)(e:b=b'):Bk w b' t cs:=e ▸ h
theorem Bk.set7(h:Bk w b t #[x0,x1,x2,x3,x4,x5,x6])(y0 y1 y2 y3 y4 y5 y6:MS) :
  Bk (((((((w.setCell ⟨b,0,none⟩ y0).setCell ⟨b,1,none⟩ y1).setCell ⟨b,2,none⟩ y2).setCell ⟨b,3,none⟩ y3).setCell ⟨b,4,none⟩ y4).setCell ⟨b,5,none⟩ y5).setCell ⟨b,6,none⟩ y6) b t #[y0,y1,y2,y3,y4,y5,y6]:=by
 have:=((((((h.set 0 y0).set 1 y1).set 2 y2).set 3 y3).set 4 y4).set 5 y5).set 6 y6
 simpa using this
theorem dz{B:Nat}{w0:MQ}(h:Below B w0 w)(hb:B<=b)(y0 y1 y2 y3 y4 y5 y6:MS) :
  Below B w0 (((((((w.setCell ⟨b,0,none⟩ y0).setCell ⟨b,1,none⟩ y1).setCell ⟨b,2,none⟩ y2).setCell ⟨b,3,none⟩ y3).setCell ⟨b,4,none⟩ y4).setCell ⟨b,5,none⟩ y5).setCell ⟨b,6,none⟩ y6) :=
 ((((((h.setCell (p:=⟨b,0,none⟩) hb y0).setCell (p:=⟨b,1,none⟩) hb y1).setCell (p:=⟨b,2,none⟩) hb y2).setCell (p:=⟨b,3,none⟩) hb y3).setCell (p:=⟨b,4,none⟩) hb y4).setCell (p:=⟨b,5,none⟩) hb y5).setCell (p:=⟨b,6,none⟩) hb y6
theorem fZ(w:MQ)(b:Nat)(y0 y1 y2 y3 y4 y5 y6:MS)(k:Nat)(hk:k≠b) :
  (((((((w.setCell ⟨b,0,none⟩ y0).setCell ⟨b,1,none⟩ y1).setCell ⟨b,2,none⟩ y2).setCell ⟨b,3,none⟩ y3).setCell ⟨b,4,none⟩ y4).setCell ⟨b,5,none⟩ y5).setCell ⟨b,6,none⟩ y6).heap[k]? =w.heap[k]? :=by
 exact(Z8 _ ⟨b,6,none⟩ y6 k hk).trans ((Z8 _ ⟨b,5,none⟩ y5 k hk).trans ((Z8 _ ⟨b,4,none⟩ y4 k hk).trans ((Z8 _ ⟨b,3,none⟩ y3 k hk).trans ((Z8 _ ⟨b,2,none⟩ y2 k hk).trans ((Z8 _ ⟨b,1,none⟩ y1 k hk).trans (Z8 _ ⟨b,0,none⟩ y0 k hk))))))
def bxV:MS->Bool
 | .slice _ _ _=>true
 | .int _ _=>true
 | _=>false
theorem Sl.off{B size n:Nat}{A:OA}{xs:List MS}{cs:Array MS}(h:Sl w B size A n xs)(hk:Bk w b t cs)(hc:cs.all bxV=true)(hx:0<n->∃(j:Nat)(v:MS),xs[j]? =some v/\bxV v=false)(hw:∀k,k≠b->w'.heap[k]? =w.heap[k]?):Sl w' B size A n xs :=
 h.avoid fun g off e hn hcc=>hw g fun e2=>by
  subst e2;obtain⟨j,v,hv,hf⟩:=hx hn;have:=hcc j v hv;rw[hk.cell]at this;have hm:=Array.all_eq_true.1 hc (off+j) (Array.getElem?_eq_some_iff.1 this).1;rw[(Array.getElem?_eq_some_iff.1 this).2,hf]at hm;cases hm
theorem jk{α:Type}{enc:α->List MS}{k:Nat}(hl:∀a,(enc a).length=k)(l:List α)(i j:Nat)(a:α)(v:MS)(ha:l[i]? =some a)(hv: (enc a)[j]? =some v)(hj:j<k): (flat enc l)[i*k+j]? =some v:=by
 rw[gy hl l i j a ha hj];exact hv
theorem RpM.box{B:Nat}{r:Rp}{s:Rsl}{cs:Array MS}(h:RpM w B r s)(hk:Bk w b t cs)(hc:cs.all bxV=true)(hw:∀k,k≠b->w'.heap[k]? =w.heap[k]?):RpM w' B r s:=by
 have get:∀{α:Type}(l:List α),0<l.length->∃a,l[0]? =some a:=fun l hl=>⟨_,Z6 hl⟩
 refine⟨⟨h.d.ss.off hk hc (fun hn=>?_) hw,h.d.pn.off hk hc (fun hn=>?_) hw⟩,h.p.off hk hc (fun hn=>?_) hw,h.rf.off hk hc (fun hn=>?_) hw,h.l.off hk hc (fun hn=>?_) hw,h.pc,h.pm⟩
 . obtain⟨a,ha⟩:=get _ hn
   exact⟨_,_,jk dG _ 0 0 a _ ha rfl (by omega),rfl⟩
 . obtain⟨a,ha⟩:=get _ hn
   exact⟨_,_,jk pU _ 0 1 a _ ha rfl (by omega),rfl⟩
 . obtain⟨a,ha⟩:=get _ hn
   exact⟨_,_,jk bN _ 0 2 a _ ha rfl (by omega),rfl⟩
 . obtain⟨a,ha⟩:=get _ hn
   exact⟨_,_,jk gN _ 0 0 a _ ha rfl (by omega),rfl⟩
 . obtain⟨a,ha⟩:=get _ hn
   exact⟨_,_,jk eB _ 0 0 a _ ha rfl (by omega),rfl⟩
theorem rQ(w:MQ)(b:Nat)(y0 y1 y2 y3:MS)(k:Nat)(hk:k≠b): ((((w.setCell ⟨b,0,none⟩ y0).setCell ⟨b,1,none⟩ y1).setCell ⟨b,2,none⟩ y2).setCell ⟨b,3,none⟩ y3).heap[k]? =w.heap[k]? :=
 (Z8 _ ⟨b,3,none⟩ y3 k hk).trans ((Z8 _ ⟨b,2,none⟩ y2 k hk).trans ((Z8 _ ⟨b,1,none⟩ y1 k hk).trans (Z8 _ ⟨b,0,none⟩ y0 k hk)))
theorem dL{fn:Func}{c i:Tmp}(h:fn.results= #[.cell c 35,.tmp i]){a:Array MS}{v:MS}(h1:a[c]?.getD undef= .pointer (some ⟨b,0,none⟩))(hk:Bk w b 35 #[x0,x1,x2,x3,x4,x5,x6])(hv:a[i]?.getD undef=v) :
  (results fn a).run Tryz.prog w= .ok (.tuple #[.agg #[x0,x1,x2,x3,x4,x5,x6],v]) w:=by
 obtain⟨⟨k0,k1,k2,k3⟩,k4,k5,k6⟩:=hk.seven;simp[results,h,h1,hv,go_sem,k0,k1,k2,k3,k4,k5,k6]
end
theorem xL(r r2:Rp)(s s2:Rsl)(d:Dk)(q:Dsl)(x:Int)(w:MQ) :
  Calls Tryz.prog 50 #[rpV r s,rpV r2 s2,dkV d q,.int .i64 x] w fun e w'=>e= .returned (.tuple #[if x=0 then rpV {r2 with d:=d} {s2 with d:=q} else if x=20 then rpV {r with d:=d} {s with d:=q} else rpV zRp zRs,.int .i64 x])/\Below w.heap.size w w':=by
 obtain⟨d1,p1,rs1,lg1⟩:=r;obtain⟨d2,p2,rs2,lg2⟩:=r2;simp only[rpV,rpC,dkV,dkC,zRp,zRs];obtain⟨n1,h1⟩:∃n,d1.ss.length=n:=⟨_,rfl⟩
 obtain⟨n2,h2⟩:∃n,d1.pn.length=n:=⟨_,rfl⟩
 obtain⟨n3,h3⟩:∃n,p1.length=n:=⟨_,rfl⟩
 obtain⟨n4,h4⟩:∃n,rs1.length=n:=⟨_,rfl⟩
 obtain⟨n5,h5⟩:∃n,lg1.length=n:=⟨_,rfl⟩
 obtain⟨m1,g1⟩:∃n,d2.ss.length=n:=⟨_,rfl⟩
 obtain⟨m2,g2⟩:∃n,d2.pn.length=n:=⟨_,rfl⟩
 obtain⟨m3,g3⟩:∃n,p2.length=n:=⟨_,rfl⟩
 obtain⟨m4,g4⟩:∃n,rs2.length=n:=⟨_,rfl⟩
 obtain⟨m5,g5⟩:∃n,lg2.length=n:=⟨_,rfl⟩
 obtain⟨k1,f1⟩:∃n,d.ss.length=n:=⟨_,rfl⟩
 obtain⟨k2,f2⟩:∃n,d.pn.length=n:=⟨_,rfl⟩
 simp only[h1,h2,h3,h4,h5,g1,g2,g3,g4,g5,f1,f2];clear h1 h2 h3 h4 h5 g1 g2 g3 g4 g5 f1 f2
 go_enter Tryz.func50,Tryz.ntmps50
 by_cases e0:x=0
 . subst e0
   go_wp2
   exact ZY (dL Tryz.results50 rfl ((Bk.new _ _ _).at_ (by simp)) rfl) rfl ⟨rfl,((((af _ w).alloc ai _).alloc (by simp) _).alloc (by simp;omega) _).alloc (by simp;omega) _⟩
 . rw[if_neg e0]
   have e1: (x == 0)=false:=by simpa using e0
   by_cases e2:x=20
   . subst e2
     go_wp2
     exact ZY (dL Tryz.results50 rfl ((Bk.new _ _ _).at_ (by simp)) rfl) rfl ⟨rfl,((((af _ w).alloc ai _).alloc (by simp) _).alloc (by simp;omega) _).alloc (by simp;omega) _⟩
   . rw[if_neg e2]
     have e3: (x == 20)=false:=by simpa using e2
     clear e0 e2
     go_wp2
     exact ZY (dL Tryz.results50 rfl ((Bk.new _ _ _).at_ (by simp)) rfl) rfl ⟨rfl,((((af _ w).alloc ai _).alloc (by simp) _).alloc (by simp;omega) _).alloc (by simp;omega) _⟩
abbrev Pla:=Dig×MR
structure WkS where
 ne:Dig->Bool
 ed:Dig->Bool
 me:Pla->Bool
 op:List Pla
 wr:Bool
def eO{α:Type}[DecidableEq α](f:α->Bool)(x:α):α->Bool:=fun y=>decide (y=x) || f y
theorem setB_true{α:Type}[DecidableEq α]{f:α->Bool}{x y:α}:eO f x y=true↔y=x∨f y=true:=by simp[eO]
instance (a b:MU):Decidable (a <+: b):=decidable_of_iff (a.isPrefixOf b=true) List.isPrefixOf_iff_prefix
section
variable (p : List Itm) (com : Dig -> Bool) (pre : MR)
end
section
variable {p : List Itm} {com : Dig -> Bool} {pre : MR} {hs : List Dig} {stop : Dig -> Prop} {dep : Int}
end
end Go.Proofs.YtknefelegjlgnaaGreatDoor
