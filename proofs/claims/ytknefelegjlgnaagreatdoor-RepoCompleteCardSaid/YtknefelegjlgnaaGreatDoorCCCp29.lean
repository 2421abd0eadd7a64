/-
  Lemmas of the card.
-/
import Derived.Test.YtknefelegjlgnaaGreatDoorCCCp28
import Derived.Test.YtknefelegjlgnaaGreatDoorCCCp27
set_option maxRecDepth 100000
set_option maxHeartbeats 16000000
namespace Go.Proofs.YtknefelegjlgnaaGreatDoor
open Go.RowKit
theorem Oh(x:Itm)(w:UW)(hx:∃o,OkO o/\x.2=ofL (aI o))(hd:x.1=ofB (toL x.2)) :
  Calls Tryz.prog 72 #[itV x] w fun e w'=>e= .returned (.int .i64 0)/\U0 w w':=by
 obtain⟨⟨d1,d2⟩,s⟩:=x;obtain⟨o,ho,hs⟩:=hx;simp only at hs hd;have hsz:s.size<=maxLen:=by rw[hs,bK];have:=ho.len;unfold maxLen;omega
 have a:=ai (fun W=>tY s W hsz);unfold nS at a;rw[<-hd]at a;obtain⟨W,hW⟩:=NX9 (w.alloc (.cells #[.int .u64 d1,.int .u64 d2,.string s] 118))
 have HB0:U6 w W:=by rw[<-hW];exact(ah _ w).alloc aj _
 have HK:Hid (Bk W w.heap.size 118 #[.int .u64 d1,.int .u64 d2,.string s]):=by rw[<-hW];exact Bk.new w _ _
 have f:w.heap.size<W.heap.size:=HK.o.lt;have HD:=ai (qX o W ho);rw[<-hs]at HD;unfold OdE at HD;simp only[aA,itV]at a ⊢;obtain⟨x0,x1,x2⟩:=HK.o.three;have HW:=ai hW;rw[<-hW]at x0 x1 x2;clear hs hd hsz hW ho
 go_enter Tryz.func72,Tryz.ntmps72
 go_wp2_with fail;rw[HW.o];refine HD.o.mono ?_;rintro e w2 ⟨sl,rfl,_,hb,_⟩;have b:=ai (HK.o.below hb f);have HB2:U6 w w2:=HB0.o.trans (hb.mono HB0.o.size);clear hb HD x0 x1 x2 HW;simp only[obV,obC];obtain⟨W3,hW3⟩:=NX9 (w2.alloc (.cells #[.int .i64 o.kind,.string o.data,.slice sl.eA sl.en sl.ec,.int .u64 o.tree.1,.int .u64 o.tree.2,.slice sl.pA sl.pn sl.pc,.string o.auth,.int .i64 o.time,.string o.msg] 109))
 have hb3:U0 w2 W3:=by rw[<-hW3];exact(ah _ w2).alloc aj _
 have HB3:U6 w W3:=HB2.o.trans (hb3.mono HB2.o.size);have c:=ai (b.o.below hb3 b.o.lt);have g:w.heap.size<W3.heap.size:=c.o.lt;obtain⟨k0,k1,k2⟩:=c.o.three;have hdd: (d1 != d1 || d2 != d2)=false:=by simp
 have hde: (d1 == d1 && d2 == d2)=true:=by simp
 clear hb3 HB2 b;go_wp2_with fail;clear hW3
 go_region_held3 (fun w'=>w'.cell? ⟨w.heap.size,0,none⟩=some (.int .u64 d1)/\w'.cell? ⟨w.heap.size,1,none⟩=some (.int .u64 d2)/\w'.cell? ⟨w.heap.size,2,none⟩=some (.string s))
  (first | exact⟨k0,k1,k2⟩ | exact⟨m0.o,m1.o,m2.o⟩)
  (first
    | (go_at_call 126;refine(a.o _).mono ?_;rintro e w7 ⟨rfl,hb2⟩
       have m0:=ai ((hb2.cell (p:=⟨w.heap.size,0,none⟩) (by show w.heap.size<_;simp;omega)).trans k0);have m1:=ai ((hb2.cell (p:=⟨w.heap.size,1,none⟩) (by show w.heap.size<_;simp;omega)).trans k1);have m2:=ai ((hb2.cell (p:=⟨w.heap.size,2,none⟩) (by show w.heap.size<_;simp;omega)).trans k2);have hR:U6 W3 w7:=(ah _ W3).drew.trans hb2;clear hb2))
 have d:U6 w w7:=HB3.o.trans (hR.o.mono HB3.o.size);clear m0 m1 m2 k0 k1 k2 hR HB3;go_wp2_with fail;go_ret
 exact⟨rfl,d.o⟩
theorem OW(x:Itm)(w:UW)(hx:∃o,OkO o/\x.2=ofL (aI o))(hd:x.1≠ofB (toL x.2)) :
  Calls Tryz.prog 72 #[itV x] w fun e w'=>e= .returned (.int .i64 15)/\U0 w w':=by
 obtain⟨⟨d1,d2⟩,s⟩:=x;obtain⟨o,ho,hs⟩:=hx;simp only at hs hd;obtain⟨⟨r1,r2⟩,hrr⟩:∃r,ofB (toL s)=r:=⟨_,rfl⟩
 rw[hrr]at hd;have hsz:s.size<=maxLen:=by rw[hs,bK];have:=ho.len;unfold maxLen;omega
 have a:=ai (fun W=>tY s W hsz);unfold nS at a;rw[hrr]at a;have hdf: (r1 == d1 && r2 == d2)=false:=by
  rw[Bool.eq_false_iff];intro h;rw[Bool.and_eq_true,beq_iff_eq,beq_iff_eq]at h;exact hd (Prod.ext h.1.symm h.2.symm)
 have hdt: (r1 != d1 || r2 != d2)=true:=by
  rw[Bool.or_eq_true,bne_iff_ne,bne_iff_ne];refine Classical.byContradiction fun h=>?_;rw[not_or,ne_eq,ne_eq,Decidable.not_not,Decidable.not_not]at h;exact hd (Prod.ext h.1.symm h.2.symm)
 obtain⟨W,hW⟩:=NX9 (w.alloc (.cells #[.int .u64 d1,.int .u64 d2,.string s] 118))
 have HB0:U6 w W:=by rw[<-hW];exact(ah _ w).alloc aj _
 have HK:Hid (Bk W w.heap.size 118 #[.int .u64 d1,.int .u64 d2,.string s]):=by rw[<-hW];exact Bk.new w _ _
 have f:w.heap.size<W.heap.size:=HK.o.lt;have HD:=ai (qX o W ho);rw[<-hs]at HD;unfold OdE at HD;simp only[aA,itV]at a ⊢;obtain⟨x0,x1,x2⟩:=HK.o.three;have HW:=ai hW;rw[<-hW]at x0 x1 x2;clear hs hd hsz hW ho hrr
 go_enter Tryz.func72,Tryz.ntmps72
 go_wp2_with fail;rw[HW.o];refine HD.o.mono ?_;rintro e w2 ⟨sl,rfl,_,hb,_⟩;have b:=ai (HK.o.below hb f);have HB2:U6 w w2:=HB0.o.trans (hb.mono HB0.o.size);clear hb HD x0 x1 x2 HW;simp only[obV,obC];obtain⟨W3,hW3⟩:=NX9 (w2.alloc (.cells #[.int .i64 o.kind,.string o.data,.slice sl.eA sl.en sl.ec,.int .u64 o.tree.1,.int .u64 o.tree.2,.slice sl.pA sl.pn sl.pc,.string o.auth,.int .i64 o.time,.string o.msg] 109))
 have hb3:U0 w2 W3:=by rw[<-hW3];exact(ah _ w2).alloc aj _
 have HB3:U6 w W3:=HB2.o.trans (hb3.mono HB2.o.size);have c:=ai (b.o.below hb3 b.o.lt);have g:w.heap.size<W3.heap.size:=c.o.lt;obtain⟨k0,k1,k2⟩:=c.o.three;clear hb3 HB2 b;go_wp2_with fail;clear hW3
 go_region_held3 (fun w'=>w'.cell? ⟨w.heap.size,0,none⟩=some (.int .u64 d1)/\w'.cell? ⟨w.heap.size,1,none⟩=some (.int .u64 d2)/\w'.cell? ⟨w.heap.size,2,none⟩=some (.string s))
  (first | exact⟨k0,k1,k2⟩ | exact⟨m0.o,m1.o,m2.o⟩)
  (first
    | (go_at_call 126;refine(a.o _).mono ?_;rintro e w7 ⟨rfl,hb2⟩
       have m0:=ai ((hb2.cell (p:=⟨w.heap.size,0,none⟩) (by show w.heap.size<_;simp;omega)).trans k0);have m1:=ai ((hb2.cell (p:=⟨w.heap.size,1,none⟩) (by show w.heap.size<_;simp;omega)).trans k1);have m2:=ai ((hb2.cell (p:=⟨w.heap.size,2,none⟩) (by show w.heap.size<_;simp;omega)).trans k2);have hR:U6 W3 w7:=(ah _ W3).drew.trans hb2;clear hb2))
 have d:U6 w w7:=HB3.o.trans (hR.o.mono HB3.o.size);clear m0 m1 m2 k0 k1 k2 hR HB3;go_wp2_with fail;go_ret
 exact⟨rfl,d.o⟩
theorem Nu(x:Itm)(w:UW)(hs:x.2.size<=65536)(hx:¬∃o,OkO o/\x.2=ofL (aI o)) :
  Calls Tryz.prog 72 #[itV x] w fun e w'=>e= .returned (.int .i64 13)/\U0 w w':=by
 obtain⟨⟨d1,d2⟩,s⟩:=x;simp only at hs hx;obtain⟨W,hW⟩:=NX9 (w.alloc (.cells #[.int .u64 d1,.int .u64 d2,.string s] 118))
 have HB0:U6 w W:=by rw[<-hW];exact(ah _ w).alloc aj _
 have HK:Hid (Bk W w.heap.size 118 #[.int .u64 d1,.int .u64 d2,.string s]):=by rw[<-hW];exact Bk.new w _ _
 have HD:=ai (KE (toL s) W (by rw[<-aQ];exact hs) (fun⟨o,ho,he⟩=>hx ⟨o,ho,by rw[<-he,ja]⟩));rw[ja]at HD;unfold KdE at HD;obtain⟨x0,x1,x2⟩:=HK.o.three;have HW:=ai hW;rw[<-hW]at x0 x1 x2;simp only[itV];clear hs hx hW
 go_enter Tryz.func72,Tryz.ntmps72
 go_wp2_with fail;rw[HW.o];refine HD.o.mono ?_;rintro e w2 ⟨rfl,hb⟩;have HB2:Hid (U0 w (w2.alloc (.cells #[.int .i64 0,.string ⟨#[]⟩,.slice none 0 0,.int .u64 0,.int .u64 0,.slice none 0 0,.string ⟨#[]⟩,.int .i64 0,.string ⟨#[]⟩] 109))):=(HB0.o.trans (hb.mono HB0.o.size)).alloc (by have:=hb.size;have:=HB0.o.size;omega) _;clear hb HD x0 x1 x2 HW;go_wp2_with fail;go_ret
 exact⟨rfl,HB2.o⟩
theorem MV(x:Itm)(w:UW)(hs:x.2.size<=65536) :
  Calls Tryz.prog 72 #[itV x] w fun e w'=>(∃z:Int,e= .returned (.int .i64 z)/\ (z=0↔ (∃o,OkO o/\x.2=ofL (aI o))/\x.1=ofB (toL x.2))/\z≠20)/\U0 w w':=by
 by_cases he:∃o,OkO o/\x.2=ofL (aI o)
 . by_cases hd:x.1=ofB (toL x.2)
   . exact(Oh x w he hd).mono (by rintro e w' ⟨rfl,hb⟩;exact⟨⟨0,rfl,⟨fun _=>⟨he,hd⟩,fun _=>rfl⟩,by decide⟩,hb⟩)
   . exact(OW x w he hd).mono (by rintro e w' ⟨rfl,hb⟩;exact⟨⟨15,rfl,⟨fun h=>absurd h (by decide),fun h=>absurd h.2 hd⟩,by decide⟩,hb⟩)
 . exact(Nu x w hs he).mono (by rintro e w' ⟨rfl,hb⟩;exact⟨⟨13,rfl,⟨fun h=>absurd h (by decide),fun h=>absurd h.1 he⟩,by decide⟩,hb⟩)
theorem BZ{p:List Itm}{k:Nat}{x:Itm}(h:PlOk (p.take k))(hx:p[k]? =some x)(he:∃o,OkO o/\x.2=ofL (aI o))(hd:x.1=ofB (toL x.2))(hp:∀y,0<k->p[k - 1]? =some y->ltD y.1 x.1):PlOk (p.take (k+1)):=by
 rw[bJ hx];refine⟨fun i hi=>?_,fun i hi=>?_,?_⟩
 . rcases List.mem_append.1 hi with hi | hi
   . exact h.enc i hi
   . rw[List.mem_singleton.1 hi];exact he
 . rcases List.mem_append.1 hi with hi | hi
   . exact h.dg i hi
   . rw[List.mem_singleton.1 hi];exact hd
 . rw[List.pairwise_append]
   refine⟨h.asc,List.pairwise_singleton _ _,fun a ha b hb=>?_⟩;rw[List.mem_singleton.1 hb];have hk0:0<k:=by
    rcases Nat.eq_zero_or_pos k with h0 | h0
    . subst h0;simp at ha
    . exact h0
   have hkl:=(List.getElem?_eq_some_iff.1 hx).1;have hy:p[k - 1]? =some (p[k - 1]'(by omega)):=Z5 _;have hlast:=hp _ hk0 hy;obtain⟨j,hj,e⟩:=List.getElem_of_mem ha;rw[List.length_take]at hj;rw[List.getElem_take]at e;rcases Nat.lt_or_ge j (k - 1) with h1 | h1
   . have hasc:=h.asc
     rw[List.pairwise_iff_getElem]at hasc;have h2:=hasc j (k - 1) (by rw[List.length_take];omega) (by rw[List.length_take];omega) h1;rw[List.getElem_take,List.getElem_take,e]at h2;exact jM h2 hlast
   . have:j=k - 1:=by omega
     subst this;rw[<-e];exact hlast
theorem Ba(A:OA)(n c B:Nat)(p:List Itm)(w:UW)(h0:Sl w B 3 A n (flat itC p))(hB:B<=w.heap.size)(hn:n<=1000000)(hsz:∀i∈p,i.2.size<=65536) :
  Calls Tryz.prog 33 #[.slice A n c] w fun e w'=>∃x:Int,e= .returned (.int .i64 x)/\ (x=0↔PlOk p)/\x≠20/\U0 w w':=by
 have HL:=ai (h0.len di (by omega));have H0:=ai h0;have L:=ai hsz;clear h0 hsz
 go_enter Tryz.func33,Tryz.ntmps33
 go_wp2_with fail
 go_loopw[8] (fun i wr=>∃k:Nat,k<=n/\i= .int .i64 (k:Int)/\U6 w wr/\Hid (PlOk (p.take k))) (fun i _=>n - (intOf i).toNat)
 case atStart=>exact⟨0,ZX _,rfl,ah _ _,PlOk.nil⟩
 case round =>
  obtain⟨k,hk,rfl,hBel,D⟩:=hrel;have o:=ai D.o;clear D;by_cases hlt:k<n
  . have hlz: (k:Int)< (n:Int):=by omega
    obtain⟨b,off,x,rfl,hb,hx,y0,y1,y2⟩:=(H0.o.below hBel.o hB).it hlt;have HX:=ai hx;have hmem:=Z7 hx;have s:=ai hmem;have M:=ai (L.o x hmem);have f:=ai hBel.o;clear hx hmem hBel;obtain⟨⟨x1,x2⟩,xs⟩:=x;simp only at y0 y1 y2;obtain⟨W6,g⟩:=NX9 (wr.alloc (.cells #[.int .u64 x1,.int .u64 x2,.string xs] 118))
    have hb6:U0 wr W6:=by rw[<-g];exact(ah _ wr).alloc aj _
    have u:U6 w W6:=f.o.trans (hb6.mono f.o.size);have q:Hid (Bk W6 wr.heap.size 118 #[.int .u64 x1,.int .u64 x2,.string xs]):=by rw[<-g];exact Bk.new wr _ _
    have HC:=ai (MV ((x1,x2),xs) W6 M.o);simp only[itV]at HC;have Q:wr.heap.size<W6.heap.size:=q.o.lt;have zr:w.heap.size<=wr.heap.size:=f.o.size;obtain⟨E,F,G⟩:=q.o.three;have H:=ai g;rw[<-g]at E F G;clear hb6 g f;go_wp2_with fail;rw[H.o];refine HC.o.mono ?_;rintro e w7 ⟨⟨z,rfl,hz,l⟩,hb7⟩;have HZ:=ai hz;have t:=ai l;have a:U6 w w7:=u.o.trans (hb7.mono u.o.size);have I:=ai (q.o.below hb7 Q);have R:wr.heap.size<w7.heap.size:=I.o.lt;obtain⟨k0,k1,k2⟩:=I.o.three;clear hb7 HC u q H E F G y0 y1 y2;by_cases hz0:z=0
    case neg =>
     have hzb: (z != 0)=true:=by simpa using hz0
     have J:=ai hz0;clear hz0 hz l;go_wp2_with fail;go_ret
     exact⟨z,rfl,⟨fun h=>absurd h J.o,fun h=>absurd (HZ.o.2 ⟨h.enc _ s.o,h.dg _ s.o⟩) J.o⟩,t.o,a.o⟩
    subst hz0;have r:=ai (HZ.o.1 rfl);clear hz l HZ t;by_cases hk0:k=0
    . subst hk0
      go_wp2_with fail
      go_quiet(fail)
      go_wp2_with fail;go_roundw
      case rel=>exact⟨0+1,hlt,by go_num,dm a.o _,BZ o.o HX.o r.o.1 r.o.2 (fun y h=>absurd h (by omega))⟩
      case measure=>simp[intOf];omega
    . obtain⟨j,rfl⟩:∃j,k=j+1:=⟨k - 1,by omega⟩
      obtain⟨b3,O,y,hA3,hb3,hy,z0,z1,z2⟩:=(H0.o.below a.o hB).it (k:=j) (by omega);injection hA3 with hA3;injection hA3 with hA3 hA4;subst hA3;subst hA4;have hcs: (dC (x1,x2) y.1=1/\ltD y.1 (x1,x2))∨ (dC (x1,x2) y.1=0/\¬ltD y.1 (x1,x2))∨ (dC (x1,x2) y.1= -1/\¬ltD y.1 (x1,x2)):=by
       unfold dC;by_cases e1: (x1,x2)=y.1
       . rw[if_pos e1];exact .inr (.inl ⟨rfl,fun h=>iW _ (by rw[e1]at h;exact h)⟩)
       . rw[if_neg e1]
         by_cases e2:ltD (x1,x2) y.1
         . rw[if_pos e2];exact .inr (.inr ⟨rfl,fun h=>iW _ (jM h e2)⟩)
         . rw[if_neg e2]
           refine .inl ⟨rfl,Classical.byContradiction fun h=>e1 (mY e2 h)⟩
      have P:=ai hy;have v:Hid (¬ltD y.1 (x1,x2)->¬PlOk p):=fun hn hp=>hn (by
       have h1:=hp.asc;rw[List.pairwise_iff_getElem]at h1;obtain⟨l1,e1⟩:=List.getElem?_eq_some_iff.1 P.o;obtain⟨l2,e2⟩:=List.getElem?_eq_some_iff.1 HX.o;have h2:=h1 j (j+1) l1 l2 (by omega);rw[e1,e2]at h2;exact h2)
      have K:Hid (ltD y.1 (x1,x2)->PlOk (p.take (j+1+1))):=fun hn=>BZ o.o HX.o r.o.1 r.o.2 (fun y' _ h=>by
       have h:p[j]? =some y':=h;rw[P.o]at h;cases h;exact hn)
      clear hy;obtain⟨⟨y1',y2'⟩,ys⟩:=y;simp only at z0 z1 z2 hcs v K;have hj1:IntKind.i64.wrap (j:Int)= (j:Int):=by rw[IntKind.wrap_i64];omega
      have hjn:j<n:=by omega
      have hj2: (j:Int)+1< (n:Int):=by omega
      have hj3: (0:Int)<= (j:Int)+1:=by omega
      have S: ((j:Int)+1).toNat=j+1:=by omega
      have T: (0:Int)< (j:Int)+1:=by omega
      have HCM:=ai (fun W=>wS (x1,x2) (y1',y2') W);rcases hcs with ⟨hcz,hlt2⟩ | ⟨hcz,hlt2⟩ | ⟨hcz,hlt2⟩
      . unfold CmE at HCM
        rw[hcz]at HCM;simp only[aA]at HCM;have zb:b<w7.heap.size:=by omega
        clear hcz;go_wp2_with fail
        go_region_held3 (fun w'=>w'.cell? ⟨b,off+j*3,none⟩=some (.int .u64 y1')/\w'.cell? ⟨b,off+j*3+1,none⟩=some (.int .u64 y2')/\w'.cell? ⟨wr.heap.size,0,none⟩=some (.int .u64 x1)/\w'.cell? ⟨wr.heap.size,1,none⟩=some (.int .u64 x2))
         (first | exact⟨z0,z1,k0,k1⟩ | exact⟨n0.o,n1.o,n2.o,n3.o⟩)
         (first
           | (go_at_call 55;refine(HCM.o _).mono ?_;rintro e w8 ⟨rfl,hb8⟩
              have n0:=ai ((hb8.cell (p:=⟨b,off+j*3,none⟩) (by show b<_;simp;omega)).trans z0);have n1:=ai ((hb8.cell (p:=⟨b,off+j*3+1,none⟩) (by show b<_;simp;omega)).trans z1);have n2:=ai ((hb8.cell (p:=⟨wr.heap.size,0,none⟩) (by show wr.heap.size<_;simp;omega)).trans k0);have n3:=ai ((hb8.cell (p:=⟨wr.heap.size,1,none⟩) (by show wr.heap.size<_;simp;omega)).trans k1);have d:U6 w7 w8:=(ah _ w7).drew.trans hb8;clear hb8))
        have m:U6 w w8:=a.o.trans (d.o.mono a.o.size);clear n0 n1 n2 n3 z0 z1 z2 k0 k1 k2 d;have HS2:=ai (K.o hlt2);go_wp2_with fail;go_roundw
        case rel=>exact⟨j+1+1,hlt,by go_num,m.o,HS2.o⟩
        case measure=>simp[intOf];omega
      . unfold CmE at HCM
        rw[hcz]at HCM;simp only[aA]at HCM;have zb:b<w7.heap.size:=by omega
        clear hcz;go_wp2_with fail
        go_region_held3 (fun w'=>w'.cell? ⟨b,off+j*3,none⟩=some (.int .u64 y1')/\w'.cell? ⟨b,off+j*3+1,none⟩=some (.int .u64 y2')/\w'.cell? ⟨wr.heap.size,0,none⟩=some (.int .u64 x1)/\w'.cell? ⟨wr.heap.size,1,none⟩=some (.int .u64 x2))
         (first | exact⟨z0,z1,k0,k1⟩ | exact⟨n0.o,n1.o,n2.o,n3.o⟩)
         (first
           | (go_at_call 55;refine(HCM.o _).mono ?_;rintro e w8 ⟨rfl,hb8⟩
              have n0:=ai ((hb8.cell (p:=⟨b,off+j*3,none⟩) (by show b<_;simp;omega)).trans z0);have n1:=ai ((hb8.cell (p:=⟨b,off+j*3+1,none⟩) (by show b<_;simp;omega)).trans z1);have n2:=ai ((hb8.cell (p:=⟨wr.heap.size,0,none⟩) (by show wr.heap.size<_;simp;omega)).trans k0);have n3:=ai ((hb8.cell (p:=⟨wr.heap.size,1,none⟩) (by show wr.heap.size<_;simp;omega)).trans k1);have d:U6 w7 w8:=(ah _ w7).drew.trans hb8;clear hb8))
        have m:U6 w w8:=a.o.trans (d.o.mono a.o.size);clear n0 n1 n2 n3 z0 z1 z2 k0 k1 k2 d;have C:=ai (v.o hlt2);go_wp2_with fail;go_ret
        exact⟨10,rfl,⟨fun h=>absurd h (by decide),fun h=>absurd h C.o⟩,by decide,m.o⟩
      . unfold CmE at HCM
        rw[hcz]at HCM;simp only[aA]at HCM;have zb:b<w7.heap.size:=by omega
        clear hcz;go_wp2_with fail
        go_region_held3 (fun w'=>w'.cell? ⟨b,off+j*3,none⟩=some (.int .u64 y1')/\w'.cell? ⟨b,off+j*3+1,none⟩=some (.int .u64 y2')/\w'.cell? ⟨wr.heap.size,0,none⟩=some (.int .u64 x1)/\w'.cell? ⟨wr.heap.size,1,none⟩=some (.int .u64 x2))
         (first | exact⟨z0,z1,k0,k1⟩ | exact⟨n0.o,n1.o,n2.o,n3.o⟩)
         (first
           | (go_at_call 55;refine(HCM.o _).mono ?_;rintro e w8 ⟨rfl,hb8⟩
              have n0:=ai ((hb8.cell (p:=⟨b,off+j*3,none⟩) (by show b<_;simp;omega)).trans z0);have n1:=ai ((hb8.cell (p:=⟨b,off+j*3+1,none⟩) (by show b<_;simp;omega)).trans z1);have n2:=ai ((hb8.cell (p:=⟨wr.heap.size,0,none⟩) (by show wr.heap.size<_;simp;omega)).trans k0);have n3:=ai ((hb8.cell (p:=⟨wr.heap.size,1,none⟩) (by show wr.heap.size<_;simp;omega)).trans k1);have d:U6 w7 w8:=(ah _ w7).drew.trans hb8;clear hb8))
        have m:U6 w w8:=a.o.trans (d.o.mono a.o.size);clear n0 n1 n2 n3 z0 z1 z2 k0 k1 k2 d;have C:=ai (v.o hlt2);go_wp2_with fail;go_ret
        exact⟨10,rfl,⟨fun h=>absurd h (by decide),fun h=>absurd h C.o⟩,by decide,m.o⟩
  . have hlz:¬(k:Int)< (n:Int):=by omega
    have f:=ai hBel.o;clear hBel;have hkn:k=n:=by omega
    have N:Hid (p.take k=p):=ZU (by rw[HL.o];omega);rw[N.o]at o;clear hkn;go_wp2_with fail;go_ret
    exact⟨0,rfl,⟨fun _=>o.o,fun _=>rfl⟩,by decide,f.o⟩
theorem Ik:jR:=fun A n c B q w h0 hB hn hsz _=>Ba A n c B q w h0 hB (by omega) hsz
theorem FU{p:List Itm}{d x:Dig}{o:Ob}(hd:aG p d=some o)(hx:x∈bW o)(hm:¬Miss p [d]):¬Miss p [x]:=by
 rintro ⟨y,h1,h2,h3⟩;refine hm ⟨y,h1,?_,h3⟩;clear h1 h3
 induction h2 with
 | root h=>rw[List.mem_singleton.1 h];exact .link (.root (List.mem_singleton.2 rfl)) hd hx
 | link _ g m ih=>exact .link ih g m
def qm(z:Int):Prop:=z=0∨z=9∨z=1∨z=4
theorem FM{g:Dig->UX->List Fl×Int}{p:List Itm}{pre:UX}:∀{es:List Ent},(∀e∈es,aG p e.dg≠none)-> (∀e∈es,∀s,qm (g e.dg s).2)->qm (vsE g p pre es).2
 | [],_,_=> .inl rfl
 | e::r,h,hg=>by
   have ih:=FM (g:=g) (p:=p) (pre:=pre) (es:=r) (fun x hx=>h x (List.mem_cons_of_mem _ hx)) (fun x hx=>hg x (List.mem_cons_of_mem _ hx));rw[vsE];split
   . exact .inr (.inr (.inr rfl))
   . split
     . simp only
       split
       . exact ih
       . exact hg e List.mem_cons_self _
     . cases hge:aG p e.dg with
       | none=>exact absurd hge (h e List.mem_cons_self)
       | some o =>
         simp only;split
         . exact ih
         . exact .inr (.inl rfl)
theorem EL{p:List Itm}{d:Dig}(hz:d≠zD)(h:¬Miss p [d]):aG p d≠none:=fun e=>h ⟨d,hz,.root (List.mem_singleton.2 rfl),e⟩
theorem Gw{p:List Itm}(hp:PlOk p):∀(n:Nat)(d:Dig)(pre:UX),d≠zD->¬Miss p [d]->qm (vis p n d pre).2
 | 0,_,_,_,_=> .inr (.inr (.inr rfl))
 | n+1,d,pre,hz,hm=>by
   cases hg:aG p d with
   | none=>exact absurd hg (EL hz hm)
   | some o =>
     have ho:=((iw hp).1 hg).1;have hes:∀e∈o.ents,e.dg≠zD:=by
      cases ho.f with
      | blob _ e _ _=>rw[e];intro x hx;cases hx
      | tree _ _ _ e=>exact fun x hx=>(e.all x hx).nz
      | commit _ _ e _=>rw[e];intro x hx;cases hx
     have hup:∀e∈o.ents,¬Miss p [e.dg]:=fun e he=>FU hg (List.mem_append_left _ (List.mem_map.2 ⟨e,he,rfl⟩)) hm;rw[vis,hg];simp only;split
     . split
       . exact .inr (.inr (.inl rfl))
       . exact FM (fun e he=>EL (hes e he) (hup e he)) (fun e he s=>Gw hp n _ s (hes e he) (hup e he))
     . exact .inr (.inl rfl)
theorem Q8{p:List Itm}(hp:PlOk p){d:Dig}(hz:d≠zD)(hm:¬Miss p [d]){err:Int}(h:kP p d err):qm err:=by
 rcases h with ⟨_,h⟩ | ⟨_,_,h⟩
 . exact .inr (.inr (.inr h))
 . rw[h];exact Gw hp _ _ _ hz hm
theorem Eu:∀(us:List Upd)(l:List Rf),(∀r∈l,bP r.1=true)-> (aO l us).2=0->∀r∈ (aO l us).1,bP r.1=true
 | [],l,h,_=>h
 | u::us,l,h,h0=>by
   rw[aO]at h0 ⊢;split
   . rename_i h1;rw[if_pos h1]at h0;exact absurd h0 h1
   . rename_i h1
     rw[if_neg h1]at h0;refine Eu us _ (fun r hr=>?_) h0;rcases EE hr with rfl | hr
     . have h1:=Decidable.not_not.1 h1
       unfold bD at h1;split at h1
       . rename_i h3;exact absurd h1 h3
       . rename_i h3
         have h3:=Decidable.not_not.1 h3;unfold dG at h3;split at h3
         . assumption
         . simp at h3
     . exact h r hr
theorem Qg{gs:List Gru}{p:List Itm}{rs:List Rf}{lg:List Upd}(h:Mt gs p rs lg){f:Rf}(hf:f∈rs):WfD f.2/\f.1.size<=100/\bY rs lg f.1= (f.2,0)/\ (∀l m,qp p [f.2] l m->0<l.length/\m= [])/\∃o,aG p f.2=some o/\∀err,kP p o.tree err->qm err:=by
 obtain⟨⟨o,ho,hk⟩,hm⟩:=compl_zero.1 (h.co f hf);have hz:=tq h.pl ho;have hrf:=h.rf;have a:bP f.1=true:=by
  unfold aW at hrf;split at hrf
  . simp at hrf
  . split at hrf
    . rename_i h2;exact absurd hrf h2
    . rename_i h2
      have h2:=Decidable.not_not.1 h2;split at hrf
      . rename_i h3
        rw[<-h3]at hf;exact Eu lg [] (fun r hr=>by cases hr) h2 f hf
      . simp at hrf
 refine⟨by rw[nD h.pl ho];exact fJ _,sF a,?_,fun l m hr=>⟨?_,(CY hr).2 hm⟩,o,ho,fun err he=>?_⟩
 . unfold bY
   rw[if_neg (by simp[h.rf]),if_pos a,BP (Fv h.rf) hf,if_neg (show ¬f.2= ((0,0):Dig) from hz)]
 . have:f.2∈l:=(hr.there _).2 ⟨hz,.root (List.mem_singleton.2 rfl),by rw[ho];simp⟩
   exact List.length_pos_of_mem this
 . have b:=((iw h.pl).1 ho).1
   have hc:OkC o:=by
    cases b.f with
    | blob k _ _ _=>rw[hk]at k;simp at k
    | tree k _ _ _=>rw[hk]at k;simp at k
    | commit _ _ _ c=>exact c
   exact Q8 h.pl hc.nz (FU ho (by unfold bW;rw[if_pos hk];exact List.mem_append_right _ List.mem_cons_self) hm) he
def IC(p:List Itm)(d:Dig)(w:UW)(e:Ending)(w':UW):Prop :=
 ((∃fs A c,zn p d fs/\e= .returned (.tuple #[.slice A fs.length c,.int .i64 0])/\Sl w' w'.heap.size 2 A fs.length (flat flC fs))∨ (∃err,kP p d err/\err≠0/\e= .returned (.tuple #[.slice none 0 0,.int .i64 err])))/\U0 w w'
theorem Nz(r:Rp)(s:Rsl)(nm:UX)(d:Dig)(o:Ob)(B:Nat)(w:UW)(hm:RpM w B r s)(hB:B<=w.heap.size)(hp:PlOk r.p)(hg:bY r.rs r.lg nm= (d,0))(ho:aG r.p d=some o)
  (hpl:r.p.length<=49000) (hrs:r.rs.length<=1000) (hlg:r.lg.length<=1000) (hnm:nm.size<=65536) (hlw:∀u∈r.lg,u.1.size<=65536/\WfU u) :
  Calls Tryz.prog 29 #[rpV r s,.string nm] w (IC r.p o.tree w):=by
 obtain⟨W,hW⟩:=NX9 (w.alloc (.cells (rpC r s) 35))
 have HB0:U6 w W:=by rw[<-hW];exact(ah _ w).alloc aj _
 have HK:Hid (Bk W w.heap.size 35 (rpC r s)):=by rw[<-hW];exact Bk.new w _ _
 have HM:=ai hm;have a:=ai (CV s.rA s.lA r.rs.length s.rc r.lg.length s.lc B r.rs r.lg nm W (hm.rf.below HB0.o hB) (hm.l.below HB0.o hB) (ZY hB HB0.o.size) (by unfold maxLen;omega) (by unfold maxLen;omega) (by unfold maxLen;omega) (fun u hu=>by have:=hlw u hu;unfold maxLen;omega));unfold qg at a;rw[hg]at a;simp only at a;have h:=ai hp;have i:=ai ho;have y:W.heap.size=w.heap.size+1:=by rw[<-hW];simp
 have HW:=ai hW;simp only[rpV,rpC]at HK HW ⊢;obtain⟨⟨k0,k1,k2,k3⟩,k4,k5,k6⟩:=HK.o.seven;clear hm hp hg ho hlw hW
 go_enter Tryz.func29,Tryz.ntmps29
 go_wp2_with fail;rw[HW.o];refine a.o.mono ?_;rintro e w1 ⟨rfl,hb1⟩;obtain⟨W2,hW2⟩:=NX9 (w1.alloc (.cells #[.int .u64 d.1,.int .u64 d.2] 50))
 have hb2:U0 w1 W2:=by rw[<-hW2];exact(ah _ w1).alloc aj _
 have HD2:Hid (Bk W2 w1.heap.size 50 #[.int .u64 d.1,.int .u64 d.2]):=by rw[<-hW2];exact Bk.new w1 _ _
 have hbb:U0 W W2:=hb1.trans (hb2.mono hb1.size);have b:=ai (HK.o.below hbb (by omega));have HB2:U6 w W2:=HB0.o.trans (hbb.mono (by omega));have z2:w.heap.size<W2.heap.size:=b.o.lt;have HC:=ai (mG s.pA r.p.length s.pc B r.p d W2 (HM.o.p.below HB2.o hB) (by have:=HB2.o.size;omega) (by omega) h.o);unfold GeE aA at HC;have HW2:=ai hW2;clear hb1 hb2 hbb hW2 a HK HB0 HW k0 k1 k2 k3 k4 k5 k6;obtain⟨⟨k0,k1,k2,k3⟩,k4,k5,k6⟩:=b.o.seven;obtain⟨y0,y1,_,_⟩:=HD2.o.two
 go_upto_region 2 with fail
 rw[HW2.o];go_wp2_with fail;refine HC.o.mono ?_;rintro e w3 ⟨hq,hb3⟩;have HB3:U6 w w3:=HB2.o.trans (hb3.mono (by omega));have g:=ai (b.o.below hb3 (by omega));rcases hq with ⟨o',s',hgo,_,rfl,_,_,_⟩ | ⟨hgo,_⟩
 . obtain rfl:=Option.some.inj (i.o.symm.trans hgo)
   obtain⟨W4,f⟩:=NX9 (w3.alloc (.cells (obC o s') 109))
   have hb4:U0 w3 W4:=by rw[<-f];exact(ah _ w3).alloc aj _
   have j:Hid (Bk W4 w3.heap.size 109 (obC o s')):=by rw[<-f];exact Bk.new w3 _ _
   have n:=ai (g.o.below hb4 g.o.lt);have HB4:U6 w W4:=HB3.o.trans (hb4.mono HB3.o.size);have HL:=ai (MS s.pA r.p.length s.pc B r.p o.tree W4 (HM.o.p.below HB4.o hB) (by have:=HB4.o.size;omega) (by omega) h.o);unfold IU aA at HL;have k:=ai f;simp only[obV,obC]at j k ⊢;clear hb3 hb4 f hgo HC b HB2 g HB3 HD2 HW2 k0 k1 k2 k3 k4 k5 k6 y0 y1;obtain⟨⟨k0,k1,k2,k3⟩,k4,k5,k6⟩:=n.o.seven;obtain⟨o0,o1,o2,o3,o4,q,t,v,x⟩:=j.o.nine
   go_upto_region 5 with fail
   rw[k.o];go_wp2_with fail;refine HL.o.mono ?_;rintro e w5 ⟨hq,hb5⟩;have m:U6 w w5:=HB4.o.trans (hb5.mono HB4.o.size);clear hb5 HL k0 k1 k2 k3 k4 k5 k6 o0 o1 o2 o3 o4 q t v x;rcases hq with ⟨fs,A,c,hl,rfl,ho⟩ | ⟨err,hl,he,rfl⟩
   . have HF:=ai hl;have HO:=ai (Sl.of_own ho)
     clear hl ho;go_wp2_with fail;go_ret2
     exact⟨.inl ⟨fs,A,c,HF.o,rfl,HO.o.more (by have:=HO.o;omega)⟩,m.o⟩
   . have HF:=ai hl;have HE:=ai he
     clear hl he;go_wp2_with fail;go_ret2
     exact⟨.inr ⟨err,HF.o,HE.o,rfl⟩,m.o⟩
 . have:=i.o.symm.trans hgo;cases this
theorem lawCp_any(n z:Int)(l:List AcX)(A:OA)(m c:Nat)(w:UW)(h:AcsM w w.heap.size A m l)(hb:∀a∈l,AcB a.1)(hm:m<=maxLen) :
  Calls Tryz.prog 8 #[jW n z A m c] w (qI w):=by
 obtain⟨W,hW⟩:=NX9 (w.alloc (.cells #[.int .i64 n,.int .i64 z,.slice A m c] 42))
 have hb0:U0 w W:=by rw[<-hW];exact(ah _ w).alloc aj _
 have HB0:=ai hb0;have HR:=ai (J3 Ik n z l A m c w.heap.size W (h.below hb0 aj) hb hb0.size hm);have I:=ai (fun W=>Ny Ik W);have HW:=ai hW;clear hW hb0 h hb hm;unfold zK jW at HR;unfold qI jW;unfold qI at I;have J:Hid (∀W,U0 w W->Calls Tryz.prog 10 #[] W fun e w'=>e= .returned (.bool true)/\U0 w w'):=fun W hW=>(I.o W).mono fun e w' ⟨h1,h2⟩=>⟨h1,hW.trans (h2.mono hW.size)⟩
 clear I
 go_enter Tryz.func8,Tryz.ntmps8
 go_wp2_with fail;rw[HW.o];refine HR.o.mono ?_;rintro e w1 ⟨ok,r,s,rfl,hok,hm1,hb1⟩;have HB1:U6 w w1:=HB0.o.trans (hb1.mono HB0.o.size);have P:=ai hok;obtain⟨W2,hW2⟩:=NX9 (w1.alloc (.cells (rpC r s) 35))
 have hb2:U0 w1 W2:=by rw[<-hW2];exact(ah _ _).alloc aj _
 have HB2:U6 w W2:=HB1.o.trans (hb2.mono HB1.o.size);have C:Hid (Bk W2 w1.heap.size 35 (rpC r s)):=by rw[<-hW2];exact Bk.new _ _ _
 have K:Hid (RpM W2 W2.heap.size r s):=(hm1.below hb2 aj).more hb2.size;have zk:w1.heap.size<W2.heap.size:=by rw[<-hW2];simp
 have HW2:=ai hW2;clear hok hm1 hb1 hb2 hW2 HR HB0 HW HB1;simp only[rpV,rpC]at HW2 C ⊢;obtain⟨⟨k0,k1,k2,k3⟩,k4,k5,k6⟩:=C.o.seven;cases ok with
 | false =>
   go_upto_region 2 with fail
   rw[HW2.o];clear HW2;go_wp2_with fail;refine(J.o _ HB2.o).mono ?_;rintro e w3 ⟨rfl,hb3⟩;have HB3:=ai hb3;clear hb3;go_wp2_with fail;go_ret
   exact⟨rfl,HB3.o⟩
 | true =>
   have L:=ai (P.o rfl);by_cases hl:r.d.lf=0
   . have hlb: (r.d.lf == 0)=true:=by rw[hl];rfl
     clear hl
     go_upto_region 2 with fail
     rw[HW2.o];clear HW2;go_wp2_with fail;refine(J.o _ HB2.o).mono ?_;rintro e w3 ⟨rfl,hb3⟩;have HB3:=ai hb3;clear hb3;go_wp2_with fail;go_ret
     exact⟨rfl,HB3.o⟩
   have hlb: (r.d.lf == 0)=false:=by rw[beq_eq_false_iff_ne];exact hl
   obtain⟨gs,a,u,hL⟩:=L.o.lv hl;have HL:=ai hL;have hfew:=hL.m.few hL.j L.o.n;have hpl:r.p.length<=49000:=hL.n;have hrl:r.rs.length<=1000:=nC hL.m.rf;have Y:r.lg.length<=1000:=hfew.2.1;have Q:=ai hfew.2.2;have Z:Hid (∀i∈r.p,i.2.size<=65536):=fun i hi=>by
    obtain⟨o,ho,e⟩:=HL.o.m.pl.enc i hi;rw[e,bK];exact ho.len
   have HC:=ai (LK r gs a u s W2.heap.size W2 hL.d.ok hL.d.pn hL.j hL.m K.o aj L.o.n);simp only[rpV,rpC]at HC;clear hl hL hfew P
   go_upto_region 2 with fail
   rw[HW2.o];clear HW2;go_wp2_with fail;refine HC.o.mono ?_;rintro e w3 ⟨rfl,hb3⟩;have HB3:U6 w w3:=HB2.o.trans (hb3.mono HB2.o.size);have q:=ai (C.o.below hb3 zk);have t:Hid (RpM w3 w3.heap.size r s):=(K.o.below hb3 aj).more hb3.size;have bf:w1.heap.size<w3.heap.size:=by have:=hb3.size;omega
   obtain⟨rn,hrn⟩:=NX9 r.rs.length
   have D:=ai hrn;have HRR:Hid (Sl w3 w3.heap.size 3 s.rA rn (flat rfC r.rs)):=by have:=t.o.rf;rw[hrn]at this;exact this
   clear hb3 HC HB2 C K zk k0 k1 k2 k3 k4 k5 k6;obtain⟨⟨k0,k1,k2,k3⟩,k4,k5,k6⟩:=q.o.seven;rw[hrn]at k5 hrl;clear hrn;go_wp2_with fail
   go_loopw[32] (fun i wr=>∃k:Nat,k<=rn/\i= .int .i64 k/\U6 w3 wr) (fun i _=>rn - (intOf i).toNat)
   case atStart=>exact⟨0,ZX _,rfl,ah _ _⟩
   case round =>
    obtain⟨k,hk,rfl,hBr⟩:=hrel;have f:=ai hBr.o;have zr:=f.o.size;have bg:U6 w wr:=HB3.o.trans (f.o.mono HB3.o.size);clear hBr k0 k1 k2 k3 k4 k5 k6;by_cases hlt:k<rn
    . obtain⟨bb,off,y,hA,hbb,hy,hc⟩:=(HRR.o.below f.o aj).at_ jm (by omega) hlt
      have x0:=hc 0 _ rfl;have x1:=hc 1 _ rfl;have x2:=hc 2 _ rfl;have hlz: (k:Int)< (rn:Int):=by omega
      obtain⟨hwf,hsz,hgr,hrc,o,hgo,hle⟩:=Qg HL.o.m (Z7 hy);have R:=ai hrc;have ag:=ai hle;simp only[Nat.add_zero]at x0 x1 x2;obtain⟨Wa,hWa⟩:=NX9 (wr.alloc (.cells #[.string y.1,.int .u64 y.2.1,.int .u64 y.2.2] 52))
      have hba:U0 wr Wa:=by rw[<-hWa];exact(ah _ wr).alloc aj _
      have v:Hid (Bk Wa wr.heap.size 52 #[.string y.1,.int .u64 y.2.1,.int .u64 y.2.2]):=by rw[<-hWa];exact Bk.new _ _ _
      obtain⟨W3,hW3⟩:=NX9 (Wa.alloc (.cells #[.int .u64 y.2.1,.int .u64 y.2.2] 50))
      have hb3:U0 wr W3:=by rw[<-hW3];exact hba.alloc hba.size _
      have E:Hid (Bk W3 wr.heap.size 52 #[.string y.1,.int .u64 y.2.1,.int .u64 y.2.2]):=by rw[<-hW3];exact v.o.alloc _
      have HD3:Hid (Bk W3 Wa.heap.size 50 #[.int .u64 y.2.1,.int .u64 y.2.2]):=by rw[<-hW3];exact Bk.new _ _ _
      have g:U0 w3 W3:=f.o.trans (hb3.mono zr);have F:=ai g;have hz3:wr.heap.size<W3.heap.size:=E.o.lt;have M:=ai (vM r.p s.pA r.p.length s.pc [y.2] (some ⟨Wa.heap.size,0,none⟩) 1 1 W3.heap.size W3 ((t.o.p.below g aj).more g.size) ((Sl.of_bk (n:=1) (size:=2) HD3.o rfl).more aj) aj HL.o.m.pl (by omega) (fun d hd=>by rw[List.mem_singleton.1 hd];exact hwf) (by omega));unfold ReE at M;have B:=ai (fun W (hW:U0 w3 W)=>Nz r s y.1 y.2 o w3.heap.size W (t.o.below hW aj) hW.size HL.o.m.pl hgr hgo hpl (by rw[D.o];exact hrl) Y (by omega) Q.o);unfold IC at B;simp only[rpV,rpC]at B;rw[D.o]at B;obtain⟨⟨k0,k1,k2,k3⟩,k4,k5,k6⟩:=(q.o.below (f.o.trans (hba.mono zr)) (by omega)).seven;have n0:=v.o.cell 0;have n1:=v.o.cell 1;have n2:=v.o.cell 2;simp at n0 n1 n2;have HW3:=ai hW3;have S:=ai hWa;rw[hA];clear hA hc hy hb3 hW3 hWa g hwf hsz hgr hrc hgo hle hba
      go_upto_region 9 with fail
      rw[S.o];clear S;go_wp2_with fail;rw[HW3.o];clear HW3;refine M.o.mono ?_;rintro e w4 ⟨rl,rm,A3,c3,A4,c4,rfl,hr,_,hll,_,hb4⟩;obtain⟨hl0,hm0⟩:=R.o _ _ hr;subst hm0;have hlb: ((rl.length:Int) == 0)=false:=by rw[beq_eq_false_iff_ne];omega
      have b:U6 w3 w4:=F.o.trans (hb4.mono F.o.size);have N:=ai (E.o.below hb4 E.o.lt);have T:=ai (B.o w4 b.o);clear hr hb4 M B E HD3 v R k0 k1 k2 k3 k4 k5 k6 x0 x1 x2 n0 n1 n2;obtain⟨⟨k0,k1,k2,k3⟩,k4,k5,k6⟩:=(q.o.below b.o (by omega)).seven;rw[D.o]at k5;have n0:=N.o.cell 0;have n1:=N.o.cell 1;have n2:=N.o.cell 2;simp at n0 n1 n2;go_wp2_with fail;refine T.o.mono ?_;rintro e w5 ⟨hres,hb5⟩;have G:U6 w3 w5:=b.o.trans (hb5.mono b.o.size);clear hb5 T k0 k1 k2 k3 k4 k5 k6 n0 n1 n2;rcases hres with ⟨fs,A5,c5,_,rfl,_⟩ | ⟨err,hle,hne,rfl⟩
      . go_wp2_with fail
        go_roundw
        case rel=>exact⟨k+1,by omega,by go_num,G.o⟩
        case measure=>simp[intOf];omega
      . rcases ag.o err hle with he | he | he | he
        . exact absurd he hne
        all_goals
         subst he;clear hle hne;go_wp2_with fail;go_roundw
         case rel=>exact⟨k+1,by omega,by go_num,G.o⟩
         case measure=>simp[intOf];omega
    . have hlz:¬(k:Int)< (rn:Int):=by omega
      obtain⟨wo,hwo⟩:∃wo,wo=wr:=⟨_,rfl⟩
      subst hwo;have O:=ai (KN s.rA s.lA rn s.rc r.lg.length s.lc w3.heap.size r.rs r.lg wo (HRR.o.below f.o aj) (t.o.l.below f.o aj) zr (by unfold maxLen;omega) (by unfold maxLen;omega) (fun u hu=>by have:=Q.o u hu;unfold maxLen;omega));rw[HL.o.m.rf]at O;have U:=ai (fun W (hW:U0 w3 W)=>Ba s.pA r.p.length s.pc w3.heap.size r.p W (t.o.p.below hW aj) hW.size (by omega) Z.o);obtain⟨⟨k0,k1,k2,k3⟩,k4,k5,k6⟩:=(q.o.below f.o (by omega)).seven;rw[D.o]at k5;go_wp2_with fail;refine O.o.mono ?_;rintro e w4 ⟨rfl,hb4⟩;have b:U6 w3 w4:=f.o.trans (hb4.mono zr);have V:=ai (U.o w4 b.o);clear hb4 O U k0 k1 k2 k3 k4 k5 k6;obtain⟨⟨k0,k1,k2,k3⟩,k4,k5,k6⟩:=(q.o.below b.o (by omega)).seven;go_wp2_with fail;refine V.o.mono ?_;rintro e w5 ⟨x,rfl,hx,_,hb5⟩;obtain rfl:=hx.2 HL.o.m.pl;have au:U6 w w5:=HB3.o.trans ((b.o.trans (hb5.mono b.o.size)).mono HB3.o.size);clear hx hb5 V k0 k1 k2 k3 k4 k5 k6;have HZ:=ai (J.o _ au.o);go_wp2_with fail;refine HZ.o.mono ?_;rintro e bn ⟨rfl,H⟩;have X:=ai H;clear H;go_wp2_with fail;go_ret
      exact⟨rfl,X.o⟩
section
open Go.ChangeShapes Go.WideShapes Go.ChangeAt Go.RowKit Go.Joins Go.Deep
theorem Fh:Tryz.prog.cellsOf 48=1:=by kernel_rfl
theorem GV:Tryz.prog.cellsOf 50=2:=by kernel_rfl
theorem GR:Tryz.prog.cellsOf 118=3:=by kernel_rfl
theorem Uo{α:Type}{l:List α}(h:l.length=5):∃a b c d e,l= [a,b,c,d,e]:=by
 match l,h with
 | [a,b,c,d,e],_=>exact⟨a,b,c,d,e,rfl⟩
section
variable {H : Type} {enc : TypeId × UY -> H} {P : Program} {w : UW} {base : Nat} {spare : Nat -> Bool} {held : Bool} {fuel : Nat} {cs : List UY} {x : DataW H × List MemPlace}
theorem xN{t s:TypeId}(ht:P.underlying t=some (.array 2 s))(hs:P.underlying s=some (.int .u64))
  (hC:P.cellsOf t=2) (hcs:P.cellsOf s=1) (h:DataW.trod enc P w base spare held fuel t cs=some x):∃d:Dig,cs=dgC d/\WfD d:=by
 obtain⟨xs,m,_,_,hlen,hxl,hf⟩:=DataW.trod_array ht h;rw[hC]at hlen;obtain⟨c0,c1,rfl⟩:=qH hlen;obtain⟨y0,y1,rfl⟩:=qH hxl;have h0:=hf 0 (by omega);have h1:=hf 1 (by omega);rw[hcs]at h0 h1;simp at h0 h1;obtain⟨a,ha,_,hz⟩:=DataW.trod_int hs h0;obtain⟨b,hb,_,hz2⟩:=DataW.trod_int hs h1;simp at ha hb;obtain⟨w1,w2⟩:=bounds_u64 hz;obtain⟨w3,w4⟩:=bounds_u64 hz2;exact⟨(a,b),by rw[ha,hb];rfl,⟨w1,by omega,w3,by omega⟩⟩
theorem P9{t e s u:TypeId}{f0 f1:Field}(ht:P.underlying t=some (.struct #[f0,f1]))(o0:f0.offset=0)(o1:f1.offset=2)(t0:f0.type=e)(t1:f1.type=s)
  (he:P.underlying e=some (.array 2 u)) (hu:P.underlying u=some (.int .u64)) (hs:P.underlying s=some .string)
  (hC:P.cellsOf t=3) (hce:P.cellsOf e=2) (hcu:P.cellsOf u=1) (hcs:P.cellsOf s=1) (h:DataW.trod enc P w base spare held fuel t cs=some x):∃i:Itm,cs=itC i/\WfD i.1/\i.2.size<=maxLen:=by
 obtain⟨xs,m,_,_,hlen,hxl,hf⟩:=DataW.trod_struct ht h;rw[hC]at hlen;obtain⟨c0,c1,c2,rfl⟩:=uK hlen;obtain⟨y0,y1,rfl⟩:=qH hxl;have h0:=hf 0 f0 rfl;have h1:=hf 1 f1 rfl;rw[o0,t0,hce]at h0;rw[o1,t1,hcs]at h1;simp at h0 h1;obtain⟨d,hd,hw⟩:=xN he hu hce hcu h0;obtain⟨b,hb,_,hz⟩:=DataW.trod_string hs h1;simp[dgC]at hd hb;exact⟨(d,b),by rw[hd.1,hd.2,hb];rfl,hw,hz⟩
end
section
variable {H : Type} {enc : TypeId × UY -> H} {W : UW} {base : Nat} {v : UY} {d : DataW H} {p : List MemPlace} {r : Reach} {b0 : Nat} {sp : Nat -> Bool} {held : Bool}
end
end
section
open Go.ChangeShapes Go.WideShapes Go.ChangeAt Go.RowKit Go.Joins Go.Deep
theorem GU:Tryz.prog.cellsOf 85=5:=by kernel_rfl
theorem GN:Tryz.prog.cellsOf 65=7:=by kernel_rfl
theorem Sr:Tryz.prog.cellsOf 42=3:=by kernel_rfl
theorem SA:Tryz.prog.cellsOf 29=1:=by kernel_rfl
theorem Sm:Tryz.prog.cellsOf 31=1:=by kernel_rfl
theorem RZ:Tryz.prog.cellsOf 59=1:=by kernel_rfl
theorem Sz:Tryz.prog.cellsOf 40=1:=by kernel_rfl
theorem yN:Tryz.prog.cellsOf 3=1:=by kernel_rfl
theorem IP{α:Type}{l:List α}(h:l.length=7):∃a b c d e f g,l= [a,b,c,d,e,f,g]:=by
 match l,h with
 | [a,b,c,d,e,f,g],_=>exact⟨a,b,c,d,e,f,g,rfl⟩
section
variable {H : Type} {enc : TypeId × UY -> H} {P : Program} {w : UW} {base : Nat} {spare : Nat -> Bool} {held : Bool} {fuel : Nat} {cs : List UY} {x : DataW H × List MemPlace}
theorem OQ{t e s u:TypeId}{f0 f1 f2:Field}(ht:P.underlying t=some (.struct #[f0,f1,f2]))(o0:f0.offset=0)(o1:f1.offset=1)(o2:f2.offset=3)(t0:f0.type=s)(t1:f1.type=e)(t2:f2.type=e)
  (he:P.underlying e=some (.array 2 u)) (hu:P.underlying u=some (.int .u64)) (hs:P.underlying s=some .string)
  (hC:P.cellsOf t=5) (hce:P.cellsOf e=2) (hcu:P.cellsOf u=1) (hcs:P.cellsOf s=1) (h:DataW.trod enc P w base spare held fuel t cs=some x):∃i:Upd,cs=upC i/\i.1.size<=maxLen/\WfU i:=by
 obtain⟨xs,m,_,_,hlen,hxl,hf⟩:=DataW.trod_struct ht h;rw[hC]at hlen;obtain⟨c0,c1,c2,c3,c4,rfl⟩:=Uo hlen;obtain⟨y0,y1,y2,rfl⟩:=uK hxl;have h0:=hf 0 f0 rfl;have h1:=hf 1 f1 rfl;have h2:=hf 2 f2 rfl;rw[o0,t0,hcs]at h0;rw[o1,t1,hce]at h1;rw[o2,t2,hce]at h2;simp at h0 h1 h2;obtain⟨b,hb,_,hz⟩:=DataW.trod_string hs h0;obtain⟨d,hd,hw⟩:=xN he hu hce hcu h1;obtain⟨q,hq,hv⟩:=xN he hu hce hcu h2;simp[dgC]at hd hb hq;exact⟨(b,d,q),by rw[hd.1,hd.2,hb,hq.1,hq.2];rfl,hz,hw,hv⟩
theorem Qv{t i s ft pt ut kt:TypeId}{f0 f1 f2 f3 f4 f5 f6:Field}(ht:P.underlying t=some (.struct #[f0,f1,f2,f3,f4,f5,f6]))
  (o0:f0.offset=0) (o1:f1.offset=1) (o2:f2.offset=2) (o3:f3.offset=3) (o4:f4.offset=4) (o5:f5.offset=5) (o6:f6.offset=6)
  (t0:f0.type=i) (t1:f1.type=s) (t2:f2.type=ft) (t3:f3.type=pt) (t4:f4.type=ut) (t5:f5.type=i) (t6:f6.type=kt)
  (hi:P.underlying i=some (.int .i64)) (hs:P.underlying s=some .string) (hC:P.cellsOf t=7) (hci:P.cellsOf i=1) (hcs:P.cellsOf s=1) (hcf:P.cellsOf ft=1) (hcp:P.cellsOf pt=1) (hcu:P.cellsOf ut=1) (hck:P.cellsOf kt=1)
  (kf:∀(fuel:Nat)(cs:List UY)(x:DataW H×List MemPlace),DataW.trod enc P w base spare held fuel ft cs=some x->∃A n c xs,cs= [.slice A n c]/\Sl w w.heap.size 2 A n (flat flC xs)/\n<=c/\c<=maxLen/\∀f∈xs,f.1.size<=maxLen/\f.2.size<=maxLen)
  (kp:∀(fuel:Nat)(cs:List UY)(x:DataW H×List MemPlace),DataW.trod enc P w base spare held fuel pt cs=some x->∃A n c xs,cs= [.slice A n c]/\Sl w w.heap.size 3 A n (flat itC xs)/\n<=c/\c<=maxLen/\∀i∈xs,WfD i.1/\i.2.size<=maxLen)
  (ku:∀(fuel:Nat)(cs:List UY)(x:DataW H×List MemPlace),DataW.trod enc P w base spare held fuel ut cs=some x->∃A n c xs,cs= [.slice A n c]/\Sl w w.heap.size 5 A n (flat upC xs)/\n<=c/\c<=maxLen/\∀u∈xs,u.1.size<=maxLen/\WfU u)
  (kk:∀(fuel:Nat)(cs:List UY)(x:DataW H×List MemPlace),DataW.trod enc P w base spare held fuel kt cs=some x->∃A n c xs,cs= [.slice A n c]/\Sl w w.heap.size 1 A n (flat kS xs)/\n<=c/\c<=maxLen/\∀q∈xs,(q:Int)<=9223372036854775807)
  (h:DataW.trod enc P w base spare held fuel t cs=some x):∃a:AcX,cs=acC a/\AcM w w.heap.size a/\AcB a.1:=by
 obtain⟨xs,m,_,_,hlen,hxl,hf⟩:=DataW.trod_struct ht h;rw[hC]at hlen;obtain⟨c0,c1,c2,c3,c4,c5,c6,rfl⟩:=IP hlen;obtain⟨y0,y1,y2,y3,y4,e,y6,rfl⟩:=IP hxl;have h0:=hf 0 f0 rfl;have h1:=hf 1 f1 rfl;have h2:=hf 2 f2 rfl;have h3:=hf 3 f3 rfl;have h4:=hf 4 f4 rfl;have h5:=hf 5 f5 rfl;have h6:=hf 6 f6 rfl;rw[o0,t0,hci]at h0;rw[o1,t1,hcs]at h1;rw[o2,t2,hcf]at h2;rw[o3,t3,hcp]at h3;rw[o4,t4,hcu]at h4;rw[o5,t5,hci]at h5;rw[o6,t6,hck]at h6;simp at h0 h1 h2 h3 h4 h5 h6;obtain⟨k,hk,_,_⟩:=DataW.trod_int hi h0;obtain⟨b,hb,_,hz⟩:=DataW.trod_string hs h1;obtain⟨A2,n2,d2,l2,e2,s2,u2,v2,q2⟩:=kf _ _ _ h2;obtain⟨A3,n3,d3,l3,e3,s3,u3,v3,q3⟩:=kp _ _ _ h3;obtain⟨A4,n4,d4,l4,e4,s4,u4,v4,q4⟩:=ku _ _ _ h4;obtain⟨k5,hk5,_,d⟩:=DataW.trod_int hi h5;obtain⟨A6,n6,d6,l6,e6,s6,u6,v6,q6⟩:=kk _ _ _ h6;have m2:=s2.len jb (by omega);have m3:=s3.len di (by omega);have m4:=s4.len gy (by omega);have m6:=Sl.len (enc:=kS) (s:=1) (fun _=>rfl) (by decide) s6;subst m2;subst m3;subst m4;subst m6;have w2:=(bounds_i64 d).2;simp at hk hb e2 e3 e4 hk5 e6;exact⟨(⟨k,b,l2,l3,l4,k5,l6⟩,⟨A2,d2,A3,d3,A4,d4,A6,d6⟩),by rw[hk,hb,e2,e3,e4,hk5,e6];rfl,⟨s2,s3,s4,s6⟩,⟨ZY u2 v2,q2,ZY u3 v3,q3,ZY u4 v4,q4,ZY u6 v6,hz,w2⟩⟩
theorem Qp{t i l:TypeId}{f0 f1 f2:Field}(ht:P.underlying t=some (.struct #[f0,f1,f2]))(o0:f0.offset=0)(o1:f1.offset=1)(o2:f2.offset=2)(t0:f0.type=i)(t1:f1.type=i)(t2:f2.type=l)
  (hi:P.underlying i=some (.int .i64)) (hC:P.cellsOf t=3) (hci:P.cellsOf i=1) (hcl:P.cellsOf l=1)
  (kl:∀(fuel:Nat)(cs:List UY)(x:DataW H×List MemPlace),DataW.trod enc P w base spare held fuel l cs=some x->∃A n c xs,cs= [.slice A n c]/\Sl w w.heap.size 7 A n (flat acC xs)/\n<=c/\c<=maxLen/\∀a∈xs,AcM w w.heap.size a/\AcB a.1)
  (h:DataW.trod enc P w base spare held fuel t cs=some x):∃n z A m c l,cs= [.int .i64 n,.int .i64 z,.slice A m c]/\AcsM w w.heap.size A m l/\m<=maxLen/\∀a∈l,AcB a.1:=by
 obtain⟨xs,m,_,_,hlen,hxl,hf⟩:=DataW.trod_struct ht h;rw[hC]at hlen;obtain⟨c0,c1,c2,rfl⟩:=uK hlen;obtain⟨y0,y1,y2,rfl⟩:=uK hxl;have h0:=hf 0 f0 rfl;have h1:=hf 1 f1 rfl;have h2:=hf 2 f2 rfl;rw[o0,t0,hci]at h0;rw[o1,t1,hci]at h1;rw[o2,t2,hcl]at h2;simp at h0 h1 h2;obtain⟨k,hk,_⟩:=DataW.trod_int hi h0;obtain⟨z,hz,_⟩:=DataW.trod_int hi h1;obtain⟨A2,n2,d2,l2,e2,s2,u2,v2,q2⟩:=kl _ _ _ h2;simp at hk hz e2;exact⟨k,z,A2,n2,d2,l2,by rw[hk,hz,e2],⟨s2,fun x hx=>(q2 x hx).1⟩,ZY u2 v2,fun x hx=>(q2 x hx).2⟩
end
section
variable {H : Type} {enc : TypeId × UY -> H} {W : UW} {base : Nat} {v : UY} {d : DataW H} {p : List MemPlace} {r : Reach} {b0 : Nat} {sp : Nat -> Bool} {held : Bool} {fuel : Nat} {cs : List UY} {x : DataW H × List MemPlace}
theorem Rh(h:DataW.trod enc Tryz.prog W base sp held fuel 65 cs=some x):∃a:AcX,cs=acC a/\AcM W W.heap.size a/\AcB a.1 :=
 Qv Tryz.underlying65 rfl rfl rfl rfl rfl rfl rfl rfl rfl rfl rfl rfl rfl rfl Tryz.underlying3 Tryz.underlying9 GN yN sQ Qx SA Sm RZ
  (fun _ _ _ hh=>pz (encA:=flC) (Q:=fun f=>f.1.size<=maxLen/\f.2.size<=maxLen) Tryz.underlying63 GY (by omega) jb (fun _ _ _ hh=>OV Tryz.underlying82 rfl rfl rfl rfl Tryz.underlying9 GY sQ hh) hh)
  (fun _ _ _ hh=>pz (encA:=itC) (Q:=fun i=>WfD i.1/\i.2.size<=maxLen) Tryz.underlying29 GR (by omega) di (fun _ _ _ hh=>P9 Tryz.underlying118 rfl rfl rfl rfl Tryz.underlying50 Tryz.underlying48 Tryz.underlying9 GR GV Fh sQ hh) hh)
  (fun _ _ _ hh=>pz (encA:=upC) (Q:=fun u=>u.1.size<=maxLen/\WfU u) Tryz.underlying31 GU (by omega) gy (fun _ _ _ hh=>OQ Tryz.underlying85 rfl rfl rfl rfl rfl rfl Tryz.underlying50 Tryz.underlying48 Tryz.underlying9 GU GV Fh sQ hh) hh)
  (fun _ _ _ hh=>pz (encA:=kS) (Q:=fun q=>q<=9223372036854775807) Tryz.underlying59 yN (by omega) (fun _=>rfl) (fun _ _ _ hh=>by
    obtain⟨k,hk,_,hz⟩:=DataW.trod_int Tryz.underlying3 hh;exact⟨k,hk,by have:=(bounds_i64 hz).2;omega⟩) hh) h
theorem open_run(hv:Value.okWide Tryz.prog W r b0 42 v)(h:DataW.Trod enc Tryz.prog W base sp held 42 v d p):∃n z A m c l,v=jW n z A m c/\AcsM W W.heap.size A m l/\m<=maxLen/\∀a∈l,AcB a.1:=by
 obtain⟨cs,rfl,hsz⟩:=okWide_struct Tryz.underlying42 hv;obtain⟨fuel,hf⟩:=h;obtain⟨n,z,A,m,c,l,he,k⟩:=Qp Tryz.underlying42 rfl rfl rfl rfl rfl rfl Tryz.underlying3 Sr yN Sz (fun _ _ _ hh=>pz (encA:=acC) (Q:=fun a=>AcM W W.heap.size a/\AcB a.1) Tryz.underlying40 GN (by omega) tJ (fun _ _ _ hh=>Rh hh) hh) hf;refine⟨n,z,A,m,c,l,?_,k⟩;have:cs.toList= [.int .i64 n,.int .i64 z,.slice A m c]:=he;unfold jW;rw[show cs= #[.int .i64 n,.int .i64 z,.slice A m c] by rw[<-Array.toArray_toList (xs:=cs),this]]
end
end
