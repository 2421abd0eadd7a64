/-Lemmas.-/
import Derived.Test.YtknefelegjlgnaaGreatDoorCCCm19
set_option maxRecDepth 100000
set_option maxHeartbeats 16000000
namespace Go.Proofs.YtknefelegjlgnaaGreatDoor
open Go.RowKit
@[go_sem high] theorem Vw (a b c d : Int) (w : VA) : (Op.equalIn 9999 50 (.agg #[.int .u64 a, .int .u64 b]) (.agg #[.int .u64 c, .int .u64 d])).run Tryz.prog w = .ok (a == c && b == d) w := zC 9997 a b c d w
section
attribute [local go_sem] Oper.semAt_some
def Jg(p:List Itm)(d:Dig)(w:VA)(e:Ending)(w':VA):Prop:=e= .returned (.tuple #[.string (ji p d).1,.int .i64 (ji p d).2])/\VE w w'
theorem NL(A:OA)(n c B:Nat)(p:List Itm)(d:Dig)(w:VA)(h0:Sl w B 3 A n (flat itC p))(hB:B<=w.heap.size)(hn:n<=1000000)(hp:PlOk p) :
  Calls Tryz.prog 268 #[.slice A n c,az d] w (Jg p d w):=by
 obtain⟨d1,d2⟩:=d;obtain⟨W,hW⟩:=NX9 (w.alloc (.cells #[.int .u64 d1,.int .u64 d2] 50))
 have HB0:VF w W:=by rw[<-hW];exact(ah _ w).alloc aj _
 have HC:=ai (nI A n c B p (d1,d2) W (h0.below HB0.o hB) (ZY hB HB0.o.size) hn hp);have HW:=ai hW;clear hW hp h0;unfold GeE at HC;simp only[az]at HC ⊢
 go_enter Tryz.func268,Tryz.ntmps268
 go_wp2_with fail;rw[HW.o];refine HC.o.mono ?_;rintro e w2 ⟨hq,hb⟩;have HB2:VF w w2:=HB0.o.trans (hb.mono HB0.o.size);clear hb HC;rcases hq with ⟨o,s,hg,_,rfl,_,_⟩ | ⟨hg,rfl⟩
 . by_cases hk:o.kind=1
   . have HD:=ai (DR hg hk)
     have t1: (o.kind != 1)=false:=by rw[hk];rfl
     simp only[obV,obC];clear hg hk;go_wp2_with fail;go_ret2
     exact⟨by rw[HD.o];rfl,HB2.o.alloc HB2.o.size _⟩
   . have HD:=ai (wK hg hk)
     have t1: (o.kind != 1)=true:=by rw[bne_iff_ne];exact hk
     simp only[obV,obC];clear hg hk;go_wp2_with fail;go_ret2
     exact⟨by rw[HD.o];rfl,HB2.o.alloc HB2.o.size _⟩
 . have HD:=ai (wS hg)
   simp only[obV,obC,zOb,zOs];clear hg;go_wp2_with fail;go_ret2
   exact⟨by rw[HD.o];rfl,HB2.o.alloc HB2.o.size _⟩
/-! ### what is yielded -/
abbrev Vd:=Fl×Int
def zF:Fl:=(⟨#[]⟩,⟨#[]⟩)
def vdA(x:Vd):Array VC:=#[.agg #[.string x.1.1,.string x.1.2,.int .i64 x.2]]
def vok(f:Fl):Vd:=(f,0)
def vsT(z:Int):List Vd:=if z=0 then [] else [(zF,z)]
def vsL(r:List Fl×Int):List Vd:=r.1.map vok++vsT r.2
theorem Uj(s:List Fl):vsL (s,0)=s.map vok:=by simp[vsL,vsT]
theorem jf(s:List Fl){z:Int}(h:z≠0):vsL (s,z)=s.map vok++ [(zF,z)]:=by simp[vsL,vsT,h]
structure KpV(B0 hz:Nat)(A B:VA):Prop where
 size:A.heap.size<=B.heap.size
 block:∀k,k<A.heap.size-> (k<B0∨ (hz<=k/\¬isRow 82 A.heap[k]?))->B.heap[k]? =A.heap[k]?
section
variable {B0 hz : Nat} {A B C : VA}
theorem KpV.of_below(h:VE A B):KpV B0 hz A B:=⟨h.size,fun k hk _=>h.block k hk⟩
theorem KpV.trans(h:KpV B0 hz A B)(g:KpV B0 hz B C):KpV B0 hz A C :=
 ⟨ZY h.size g.size,fun k hk hc=>by
   have h1:=h.block k hk hc;rw[<-h1]at hc ⊢;exact g.block k (Nat.lt_of_lt_of_le hk h.size) hc⟩
theorem KpV.refl(B0 hz:Nat)(A:VA):KpV B0 hz A A:=⟨Nat.le_refl _,fun _ _ _=>rfl⟩
theorem KpV.bk(h:KpV B0 hz A B){b:Nat}{t:TypeId}{cs:Array VC}(hb:hz<=b)(ht:t≠82)(hk:Bk A b t cs):Bk B b t cs:=by
 refine(h.block b hk.lt (.inr ⟨hb,?_⟩)).trans hk;have h1:A.heap[b]? =some (.cells cs t (0,0)):=hk;rw[h1];exact ht
theorem KpV.sl(h:KpV B0 hz A B){B' size n:Nat}{a:OA}{xs:List VC}(hs:Sl A B' size a n xs)(h1:B'<=B0)(h2:B0<=A.heap.size):Sl B B' size a n xs :=
 hs.keep fun p hp=>World.cell?_of_block (h.block p.block (by omega) (.inl (by omega)))
theorem KpV.ents(h:KpV B0 hz A B){s:Osl}{es:List Ent}(hn:NewO A hz s)(hs:Sl A A.heap.size 4 s.eA s.en (flat enC es)):Sl B B.heap.size 4 s.eA s.en (flat enC es)/\NewO B hz s:=by
 refine⟨⟨hs.1,fun h0=>?_⟩,fun a h0 ha=>?_⟩
 . obtain⟨b,off,e1,hb,hc⟩:=hs.2 h0
   obtain⟨h3,cur,h4⟩:=hn _ h0 e1;have hbl:B.heap[b]? =A.heap[b]? :=h.block b hb (.inr ⟨h3,by
    have h4':A.heap[b]? =some (.cells cur 185 (0,0)):=h4;rw[h4'];show ¬(185=82);decide⟩)
   exact⟨b,off,e1,Nat.lt_of_lt_of_le hb h.size,fun j u hu=>(World.cell?_of_block hbl).trans (hc j u hu)⟩
 . obtain⟨b,off,e1,hb,_⟩:=hs.2 h0
   obtain⟨h3,cur,h4⟩:=hn a h0 ha;refine⟨h3,cur,(h.block a.block (Array.getElem?_eq_some_iff.1 h4).1 (.inr ⟨h3,?_⟩)).trans h4⟩;rw[h4];show ¬(185=82);decide
end
theorem RoundIn.wide{n m:Nat}{P:Program}{l f:Nat}{tmps:Array VC}{assign body:Code}{w:VA}{R:Ending->VA->Prop}(h:RoundIn Fence.wide n P l f tmps assign body w R):RoundIn Fence.wide m P l f tmps assign body w R :=
 ⟨h.1,fun c cs _=>h.2 c cs (room_wide _)⟩
def Jo(m l B0 hz:Nat)(ALL:List Vd)(J Jx:List Vd->VA->Prop):Prop :=
 ∀(pre:List Vd)(x:Vd)(W1:VA),(∃t,pre++ [x]++t=ALL)->J pre W1->YieldAt Fence.wide m Tryz.prog l (vdA x) W1 fun e W' =>
  (e= .returned (.bool true)/\J (pre++ [x]) W'/\KpV B0 hz W1 W')∨ (e= .returned (.bool false)/\Jx (pre++ [x]) W')
def UZ(r:List Fl×Int)(pr0 ALL:List Vd)(B0 hz:Nat)(J Jx:List Vd->VA->Prop)(W:VA)(e:Ending)(W':VA):Prop :=
 (e= .returned (.bool true)/\r.2=0/\J (pr0++r.1.map vok) W'/\KpV B0 hz W W')∨ (e= .returned (.bool false)/\ ((∃q t,q++t=ALL/\Jx q W')∨ (r.2≠0/\J (pr0++vsL r) W')))
def zY(n:Nat):Prop:=∀(p:List Itm)(d:Dig)(pr:VB)(A:OA)(np cp B B0 hz l m:Nat)(ALL pr0:List Vd)(J Jx:List Vd->VA->Prop)(W:VA),
  PlOk p->Sl W B 3 A np (flat itC p)->B<=B0->B0<=hz->hz<=W.heap.size->np<=1000000->pr.size<=101->102<=n+pr.size-> (∃t,pr0++vsL (vis p n d pr)++t=ALL) ->
  (∀pre A B,J pre A->VE A B->J pre B)->Jo m l B0 hz ALL J Jx->J pr0 W ->
  Calls Tryz.prog 213 #[.slice A np cp,az d,.string pr,.func (.yield l) #[] #[]] W (UZ (vis p n d pr) pr0 ALL B0 hz J Jx W)
def UW(pr0 ALL:List Vd)(z:Int)(J Jx:List Vd->VA->Prop)(e:Ending)(W':VA):Prop:=e= .returned (.bool false)/\ ((∃q t,q++t=ALL/\Jx q W')∨J (pr0++ [(zF,z)]) W')
theorem pX(m l B0 hz bx:Nat)(ALL pr0:List Vd)(z:Int)(J Jx:List Vd->VA->Prop)(W:VA)(hk:Bk W bx 289 #[.func (.yield l) #[] #[]])(hY:Jo m l B0 hz ALL J Jx)(hj:J pr0 W)(ht:∃t,pr0++ [(zF,z)]++t=ALL) :
  Calls Tryz.prog 267 #[.int .i64 z,.pointer (some ⟨bx,0,none⟩)] W (UW pr0 ALL z J Jx):=by
 refine(callsIn_wide (n:=6)).1 ?_;obtain⟨fn,tmps,assign,body,hy,hR⟩:=hY pr0 (zF,z) W ht hj;have HR:=ai (RoundIn.wide (m:=5) hR);have c0:=hk.cell 0;simp at c0;have HT:=ai ht;simp only[vdA,zF]at hy;clear hk hY hj hR ht;refine callsIn_of_wp Tryz.func267 rfl trivial ?_ rfl;simp only[Tryz.ntmps267,List.size_toArray,Z4,List.length_nil,Nat.reduceAdd,Nat.reduceSub,Array.replicate_succ,Array.replicate_zero,List.push_toArray,List.append_toArray,List.nil_append,List.cons_append]
 gi_wp2
 refine HR.o.mono ?_;rintro e W3 (⟨rfl,hJ3,_⟩ | ⟨rfl,hJ3⟩)
 . have a:=ai hJ3
   clear hJ3 HR hy c0
   gi_wp2
   go_ret
   exact⟨rfl,.inr a.o⟩
 . have a:=ai hJ3
   clear hJ3 HR hy c0
   gi_wp2
   go_ret
   obtain⟨t,ht⟩:=HT.o;exact⟨rfl,.inl ⟨_,t,ht,a.o⟩⟩
end
section
attribute [local go_sem] Oper.semAt_some
section
variable {g : Dig -> VB -> List Fl × Int} {p : List Itm} {pre : VB} {es : List Ent} {fs gs : List Fl} {j : Nat} {e : Ent} {pr0 ALL : List Vd}
theorem FX(h:VisAt g p pre es j fs)(hj:es[j]? =some e){z:Int}(hz:vsE g p pre (e::es.drop (j+1))= ([],z))(h0:z≠0)(ha:∃t,pr0++vsL (vsE g p pre es)++t=ALL) :
  (∃t,pr0++fs.map vok++ [(zF,z)]++t=ALL)/\ (vsE g p pre es).2≠0/\pr0++fs.map vok++ [(zF,z)]=pr0++vsL (vsE g p pre es):=by
 have e1:=h.fail hj hz;rw[List.append_nil]at e1;rw[e1,jf _ h0]at ha;rw[e1,jf _ h0];obtain⟨t,ht⟩:=ha;exact⟨⟨t,by rw[<-ht];simp⟩,h0,by simp⟩
theorem Qq(h:VisAt g p pre es j fs)(hj:es[j]? =some e)(hlt:¬100< (pre++e.nm).size)(hd:e.dir=false){o:Ob}(hg:aC p e.dg=some o)(hk:o.kind=1)(ha:∃t,pr0++vsL (vsE g p pre es)++t=ALL) :
  (∃t,pr0++fs.map vok++ [((pre++e.nm,o.data),0)]++t=ALL)/\VisAt g p pre es (j+1) (fs++ [(pre++e.nm,o.data)]):=by
 have h1:=h.more hj (gs:= [(pre++e.nm,o.data)]) (by rw[sZ hlt hd hg hk];rfl);refine⟨?_,h1⟩;unfold VisAt at h1;rw[h1]at ha;obtain⟨t,ht⟩:=ha;unfold vsL at ht;simp only[List.map_append,ZZ]at ht;exact⟨_,by simp only[ZZ];exact ht⟩
theorem SC(h:VisAt g p pre es j fs)(hj:es[j]? =some e)(hlt:¬100< (pre++e.nm).size)(hd:e.dir=true)(ha:∃t,pr0++vsL (vsE g p pre es)++t=ALL) :
  (∃t,pr0++fs.map vok++vsL (g e.dg (pre++e.nm++slB))++t=ALL)/\ ((g e.dg (pre++e.nm++slB)).2=0->VisAt g p pre es (j+1) (fs++ (g e.dg (pre++e.nm++slB)).1)) ∧
    ((g e.dg (pre++e.nm++slB)).2≠0-> (vsE g p pre es).2≠0/\pr0++fs.map vok++vsL (g e.dg (pre++e.nm++slB))=pr0++vsL (vsE g p pre es)):=by
 obtain⟨⟨s,z⟩,hs⟩:∃r,g e.dg (pre++e.nm++slB)=r:=⟨_,rfl⟩
 rw[hs];by_cases hz:z=0
 . subst hz
   have h1:=h.more hj (gs:=s) (by rw[uo hlt hd hs]);refine⟨?_,fun _=>h1,fun h0=>absurd rfl h0⟩;unfold VisAt at h1;rw[h1]at ha;obtain⟨t,ht⟩:=ha;unfold vsL at ht;simp only[List.map_append,ZZ]at ht;exact⟨_,by rw[Uj];simp only[ZZ];exact ht⟩
 . have e1:=h.fail hj (yx hlt hd hz hs)
   refine⟨?_,fun h0=>absurd h0 hz,fun _=>?_⟩
   . rw[e1,jf _ hz]at ha
     obtain⟨t,ht⟩:=ha;rw[jf _ hz];exact⟨t,by rw[<-ht];simp⟩
   . rw[e1,jf _ hz,jf _ hz]
     exact⟨hz,by simp⟩
theorem Py(h:VisAt g p pre es j fs)(hj:es.length<=j): (vsE g p pre es).2=0/\fs= (vsE g p pre es).1:=by rw[h.done hj];exact⟨rfl,rfl⟩
end
theorem PV{g:Dig->VB->List Fl×Int}(p:List Itm)(pre:VB)(e:Ent)(r:List Ent)(hlt:¬100< (pre++e.nm).size)(hd:e.dir=false) :
  (∃o,aC p e.dg=some o/\o.kind=1/\ji p e.dg= (o.data,0))∨ ((ji p e.dg).2≠0/\vsE g p pre (e::r)= ([],(ji p e.dg).2)):=by
 cases hg:aC p e.dg with
 | none=>exact .inr ⟨by rw[wS hg];simp,by rw[yh hlt hd hg,wS hg]⟩
 | some o =>
   by_cases hk:o.kind=1
   . exact .inl ⟨o,rfl,hk,DR hg hk⟩
   . exact .inr ⟨by rw[wK hg hk];simp,by rw[xR hlt hd hg hk,wK hg hk]⟩
theorem Rh{s:VB}(h:s≠ ⟨#[]⟩):s.toList.isEmpty=false:=by
 cases h1:s.toList with
 | nil =>
   rw[ByteArray.toList_eq]at h1;exact absurd (iR (t:=⟨#[]⟩) h1) h
 | cons _ _=>rfl
theorem L9(n:Nat)(ih:zY n):zY (n+1):=by
 intro p d pr A np cp B B0 hz l m ALL f J Jx W hp h0 hB hB0 qc V hpr hn hall hJ hY hj;obtain⟨d1,d2⟩:=d;have HP:=ai hp;have H0:=ai h0;have HJ:=ai hJ;have X:=ai hY;have y:=ai hall;have IH:=ai ih;have HG:=ai (nI A np cp B p (d1,d2) ((W.alloc (.cells #[.int .u64 d1,.int .u64 d2] 50)).alloc (.cells #[.func (.yield l) #[] #[]] 289))
  (h0.below (((ah _ W).alloc aj _).alloc (by simp) _) (by omega)) (by simp;omega) V hp)
 have Y:Hid (J f ((W.alloc (.cells #[.int .u64 d1,.int .u64 d2] 50)).alloc (.cells #[.func (.yield l) #[] #[]] 289))):=hJ _ _ _ hj (((ah _ W).alloc aj _).alloc (by simp) _);obtain⟨W1,hW1⟩:=NX9 ((W.alloc (.cells #[.int .u64 d1,.int .u64 d2] 50)).alloc (.cells #[.func (.yield l) #[] #[]] 289))
 have HB1:VF W W1:=by rw[<-hW1];exact((ah _ W).alloc aj _).alloc (by simp) _
 have Z:Hid (Bk W1 (W.heap.size+1) 289 #[.func (.yield l) #[] #[]]):=by
  rw[<-hW1];have:=Bk.new (W.alloc (.cells #[.int .u64 d1,.int .u64 d2] 50)) 289 #[.func (.yield l) #[] #[]];rw[Z9]at this;exact this
 have z1:W.heap.size+2=W1.heap.size:=by rw[<-hW1];simp
 rw[hW1]at HG Y;have HW1:=ai hW1;unfold GeE at HG;simp only[az]at HG ⊢;clear hp h0 hJ hY hj hall hW1 ih;refine(callsIn_wide (n:=6)).1 ?_;refine callsIn_of_wp Tryz.func213 rfl trivial ?_ rfl;simp only[Tryz.ntmps213,List.size_toArray,Z4,List.length_nil,Nat.reduceAdd,Nat.reduceSub,Array.replicate_succ,Array.replicate_zero,List.push_toArray,List.append_toArray,List.nil_append,List.cons_append]
 gi_wp2_with fail
 rw[HW1.o];refine⟨trivial,(callsIn_wide.2 HG.o).mono ?_⟩;rintro e w2 ⟨hq,hb⟩;have HB2:VF W w2:=HB1.o.trans (hb.mono HB1.o.size);have HJ2:Hid (J f w2):=HJ.o _ _ _ Y.o hb;have D:=ai (Z.o.below hb Z.o.lt);have z2:W.heap.size+2<=w2.heap.size:=by have:=hb.size;omega
 clear hb HG Z Y HB1;rcases hq with ⟨o,s,hg,ho,rfl,hm,hn2,_⟩ | ⟨hg,rfl⟩
 case inr =>
  have HV:=ai (Qo (n:=n) (pre:=pr) hg);have c:=y.o;rw[HV.o,jf _ (by decide)]at c;simp only[obV,obC,zOb,zOs];obtain⟨W3,hW3⟩:=NX9 (w2.alloc (.cells #[.int .i64 0,.string ⟨#[]⟩,.slice none 0 0,.int .u64 zD.1,.int .u64 zD.2,.slice none 0 0,.string ⟨#[]⟩,.int .i64 0,.string ⟨#[]⟩] 109))
  have HB3:VF w2 W3:=by rw[<-hW3];exact(ah _ w2).alloc aj _
  have HF:=ai (pX m l B0 hz (W.heap.size+1) ALL f 8 J Jx W3 (D.o.below HB3.o (by omega)) X.o (HJ.o _ _ _ HJ2.o HB3.o) (by simpa using c));have HW3:=ai hW3;clear hg c hW3
  gi_wp2_with fail
  rw[HW3.o];refine⟨trivial,(callsIn_wide.2 HF.o).mono ?_⟩;rintro e W4 ⟨rfl,hq⟩;have HQ:=ai hq;clear hq HF
  gi_wp2
  go_ret
  refine .inr ⟨rfl,?_⟩;rw[HV.o];rcases HQ.o with h | h
  . exact .inl h
  . exact .inr ⟨by decide,by rw[jf _ (by decide)];exact h⟩
 case inl =>
  obtain⟨W3,hW3⟩:=NX9 (w2.alloc (.cells (obC o s) 109))
  have HB3:VF w2 W3:=by rw[<-hW3];exact(ah _ w2).alloc aj _
  have L:Hid (Bk W3 w2.heap.size 109 (obC o s)):=by rw[<-hW3];exact Bk.new w2 _ _
  have ag:Hid (Sl W3 W3.heap.size 4 s.eA s.en (flat enC o.ents)):=(hm.e.below HB3.o aj).more HB3.o.size;have cu:Hid (NewO W3 hz s):=fun a h1 h2=>by
   obtain⟨h3,cur,h4⟩:=hn2 a h1 h2;exact⟨by omega,cur,(HB3.o.block a.block (Array.getElem?_eq_some_iff.1 h4).1).trans h4⟩
  have hlen:s.en<=maxLen:=ZY hm.ele hm.emx;have E:=ai hm.elen;have F:=ai (D.o.below HB3.o (by omega));have au:Hid (J f W3):=HJ.o _ _ _ HJ2.o HB3.o;have cO:VF W W3:=HB2.o.trans (HB3.o.mono HB2.o.size);have z3:w2.heap.size<W3.heap.size:=L.o.lt;have hlen':s.en<=9223372036854775807:=by unfold maxLen at hlen;exact hlen
  simp only[obV,obC];have HW3:=ai hW3;unfold obC at HW3 L;clear hW3 hm hn2 D HJ2;by_cases hk:o.kind=2
  case neg =>
   have HV:=ai (QQ (n:=n) (pre:=pr) hg hk);have t1: (o.kind != 2)=true:=by rw[bne_iff_ne];exact hk
   have c:=y.o;rw[HV.o,jf _ (by decide)]at c;have HF:=ai (pX m l B0 hz (W.heap.size+1) ALL f 9 J Jx W3 F.o X.o au.o (by simpa using c));clear hg c hk ho
   gi_wp2_with fail
   rw[HW3.o];refine⟨trivial,(callsIn_wide.2 HF.o).mono ?_⟩;rintro e W4 ⟨rfl,hq⟩;have HQ:=ai hq;clear hq HF
   gi_wp2
   go_ret
   refine .inr ⟨rfl,?_⟩;rw[HV.o];rcases HQ.o with h | h
   . exact .inl h
   . exact .inr ⟨by decide,by rw[jf _ (by decide)];exact h⟩
  have t1: (o.kind != 2)=false:=by rw[hk];rfl
  by_cases hemp:o.ents= []/\pr≠ ⟨#[]⟩
  case pos =>
   have HV:=ai (NZ (n:=n) (pre:=pr) hg hk hemp.1 hemp.2);have hen:s.en=0:=by rw[<-E.o,hemp.1];rfl
   have t2:=Rh hemp.2;have c:=y.o;rw[HV.o,jf _ (by decide)]at c;have HF:=ai (pX m l B0 hz (W.heap.size+1) ALL f 1 J Jx W3 F.o X.o au.o (by simpa using c));clear hg c hk hemp ho;rw[hen]at HW3 L ⊢;clear hen
   gi_wp2_with fail
   rw[HW3.o];refine⟨trivial,(callsIn_wide.2 HF.o).mono ?_⟩;rintro e W4 ⟨rfl,hq⟩;have HQ:=ai hq;clear hq HF
   gi_wp2
   go_ret
   refine .inr ⟨rfl,?_⟩;rw[HV.o];rcases HQ.o with h | h
   . exact .inl h
   . exact .inr ⟨by decide,by rw[jf _ (by decide)];exact h⟩
  have HV:=ai (ER (n:=n) (pre:=pr) hg hk hemp);have G:Hid (∃t,f++vsL (vsE (vis p n) p pr o.ents)++t=ALL):=by have:=y.o;rw[HV.o]at this;exact this
  have dn:=ai (FP ho hk);have hw2: ((s.en:Int) == 0)=false∨ (((s.en:Int) == 0)=true/\pr.toList.isEmpty=true):=by
   by_cases h1:s.en=0
   . refine .inr ⟨by rw[h1];rfl,?_⟩
     have h2:o.ents= []:=List.eq_nil_of_length_eq_zero (by rw[E.o];exact h1);by_cases h3:pr= ⟨#[]⟩
     . rw[h3,ByteArray.toList_eq];rfl
     . exact absurd ⟨h2,h3⟩ hemp
   . exact .inl (by rw[beq_eq_false_iff_ne];omega)
  clear hg hemp ho hk;have iU:Hid (Sl W3 B 3 A np (flat itC p)):=H0.o.below cO.o (by omega);have ku:Hid (KpV B0 hz W W3):=KpV.of_below cO.o;obtain⟨es,hes0⟩:=NX9 o.ents
  rw[hes0]at HV G dn ag E;clear hes0;obtain⟨eA,en,ec,pA,pn,pc⟩:=s;simp only at ag E cu hlen' hw2 L HW3 ⊢;rcases hw2 with t2 | ⟨t2,t3⟩
  all_goals
   gi_wp2_with fail
   rw[HW3.o]
   try clear t3
   clear t2
   gi_loopw [49] (fun i wr=>∃(j:Nat)(fs:List Fl),i= .int .i64 (j:Int)/\j<=en/\Hid (VisAt (vis p n) p _ es j fs)/\Hid (J (f++fs.map vok) wr)/\Hid (KpV B0 hz W3 wr)/\Hid (Sl wr wr.heap.size 4 eA en (flat enC es))/\Hid (NewO wr hz ⟨eA,en,ec,pA,pn,pc⟩)) (fun i _=>en - (intOf i).toNat)
   case atStart=>exact⟨0,[],rfl,ZX _,VisAt.start _ _ _ _,(by show J _ _;simpa using au.o),KpV.refl _ _ _,ag.o,cu.o⟩
   case round =>
    obtain⟨j,fs,rfl,hj,hV,M,v,hSl,bf⟩:=hrel;have zr:=v.o.size;have H:=ai (v.o.bk (by omega) (by decide) F.o);have bg:=ai (v.o.sl iU.o hB (by omega));by_cases hlt:j<en
    . obtain⟨b,off,e,rfl,hbB,he,y0,y1,y2,y3⟩:=hSl.o.en hlt
      have hlz: (j:Int)< (en:Int):=by omega
      have HE:=ai he;have hnm:=(sO (dn.o.all e (Z7 he)).nm)
      clear he;obtain⟨nm,dir,⟨g1,g2⟩⟩:=e;simp only at y0 y1 y2 y3 hnm;obtain⟨N,O⟩:=NX9 (wr.alloc (.cells #[.string nm,.bool dir,.int .u64 g1,.int .u64 g2] 185))
      have w:VF wr N:=by rw[<-O];exact(ah _ wr).alloc aj _
      have bn:Hid (Bk N wr.heap.size 185 #[.string nm,.bool dir,.int .u64 g1,.int .u64 g2]):=by rw[<-O];exact Bk.new wr _ _
      have HJe:Hid (J (f++fs.map vok) N):=HJ.o _ _ _ M.o w.o;have z:=ai (H.o.below w.o H.o.lt);have dN:=ai (bg.o.below w.o (by omega));have ed:=ai ((hSl.o.below w.o aj).more w.o.size);have S:Hid (KpV B0 hz W3 N):=v.o.trans (KpV.of_below w.o);have fA:Hid (NewO N hz ⟨some ⟨b,off,none⟩,en,ec,pA,pn,pc⟩):=((KpV.of_below (B0:=B0) (hz:=hz) w.o).ents bf.o hSl.o).2;have P:=ai O;have ze:wr.heap.size<N.heap.size:=bn.o.lt;have hap:¬(9223372036854775807<pr.size+nm.size):=by omega
      obtain⟨path,k⟩:=NX9 (pr++nm)
      have nU:path.size=pr.size+nm.size:=by rw[<-k];exact ByteArray.size_append
      have yb:=H.o.cell 0;simp at yb;clear O v M hSl bf H bg;by_cases hfar:100<path.size
      . have hfz: (100:Int)< (path.size:Int):=by omega
        have HA:=ai (FX hV.o HE.o (yS (by rw[k];exact hfar)) (by decide) G.o);obtain⟨k0,k1,k2,k3⟩:=bn.o.four;have HF:=ai (pX m l B0 hz (W.heap.size+1) ALL (f++fs.map vok) 4 J Jx N z.o X.o HJe.o HA.o.1);clear hfar
        gi_wp2_with fail
        rw[P.o]
        gi_wp2_with fail
        refine⟨trivial,(callsIn_wide.2 HF.o).mono ?_⟩;rintro e Q ⟨rfl,hq⟩;have HQ:=ai hq;clear hq HF
        gi_wp2
        go_ret
        refine .inr ⟨rfl,?_⟩;rw[HV.o];rcases HQ.o with h | h
        . exact .inl h
        . exact .inr ⟨HA.o.2.1,by rw[<-HA.o.2.2];exact h⟩
      have hfz:¬(100:Int)< (path.size:Int):=by omega
      have q:¬100< (pr++nm).size:=by rw[k];exact hfar
      obtain⟨k0,k1,k2,k3⟩:=bn.o.four;have hpz:path.size<=100:=by omega
      cases dir with
      | true =>
        have HD:=ai (SC hV.o HE.o q rfl G.o);simp only[k]at HD;have oO:¬(9223372036854775807<path.size+1):=by omega
        obtain⟨sub,hsub⟩:=NX9 (path++slB)
        have hsub2:path++ ⟨#[47]⟩=sub:=hsub;have oU:sub.size=path.size+1:=by rw[<-hsub];exact ByteArray.size_append
        rw[hsub]at HD;have HC:=ai (IH.o p (g1,g2) sub A np cp B B0 hz l m ALL (f++fs.map vok) J Jx N HP.o dN.o hB hB0 (by omega) V (by omega) (by omega) HD.o.1 HJ.o X.o HJe.o);simp only[az]at HC;have y0': (wr.alloc (.cells #[.string nm,.bool true,.int .u64 g1,.int .u64 g2] 185)).cell? ⟨W.heap.size+1,0,none⟩=some (.func (.yield l) #[] #[]):=by rw[P.o];exact z.o.cell 0
        clear hfar q hsub
        gi_wp2_with fail
        rw[P.o]
        gi_wp2_with fail
        refine⟨trivial,(callsIn_wide.2 HC.o).mono ?_⟩;rintro e Q (⟨rfl,hr0,hJ9,hK9⟩ | ⟨rfl,hq⟩)
        . have kU:=ai (HD.o.2.1 hr0)
          have R:Hid (J (f++ (fs++ (vis p n (g1,g2) sub).1).map vok) Q):=by show J _ _;rw[List.map_append,<-ZZ];exact hJ9
          have bz:Hid (KpV B0 hz W3 Q):=S.o.trans hK9;have I:=ai (hK9.ents fA.o ed.o);clear hr0 hJ9 hK9 HC k0 k1 k2 k3 y0' y0 y1 y2 y3
          gi_wp2
          go_roundw
          case rel=>exact⟨j+1,_,by go_num,hlt,kU.o,R.o,bz.o,I.o.1,I.o.2⟩
          case measure=>simp[intOf];omega
        . have HQ:=ai hq
          clear hq HC k0 k1 k2 k3 y0' y0 y1 y2 y3
          gi_wp2
          go_ret
          refine .inr ⟨rfl,?_⟩;rw[HV.o];rcases HQ.o with h | ⟨h,h2⟩
          . exact .inl h
          . obtain⟨h3,h4⟩:=HD.o.2.2 h
            exact .inr ⟨h3,by rw[<-h4];exact h2⟩
      | false =>
        have HC:=ai (NL A np cp B p (g1,g2) N dN.o (by omega) V HP.o);unfold Jg at HC;have u:=PV (g:=vis p n) p pr ⟨nm,false,(g1,g2)⟩ (es.drop (j+1)) q rfl;simp only at u;obtain⟨⟨ds,dz⟩,hdd⟩:∃r,ji p (g1,g2)=r:=⟨_,rfl⟩
        rw[hdd]at HC u;simp only[az]at HC u;have x:=ai u;have lg:=ai q;have lq:=ai k;clear hfar q hdd u
        gi_wp2_with fail
        rw[P.o]
        gi_wp2_with fail
        refine⟨trivial,(callsIn_wide.2 HC.o).mono ?_⟩;rintro e Q ⟨rfl,C⟩;have R:Hid (J (f++fs.map vok) Q):=HJ.o _ _ _ HJe.o C;have T:=ai (z.o.below C z.o.lt);have bz:Hid (KpV B0 hz W3 Q):=S.o.trans (KpV.of_below C);have I:=ai ((KpV.of_below (B0:=B0) (hz:=hz) C).ents fA.o ed.o);have y9:=T.o.cell 0;simp at y9;have z9:=C.size;clear C HC k0 k1 k2 k3 y0 y1 y2 y3;rcases x.o with ⟨o',ho',hk',fO⟩ | ⟨hnz,hvs⟩
        . simp only[Prod.mk.injEq]at fO
          obtain⟨rfl,rfl⟩:=fO;have HA:=ai (Qq hV.o HE.o lg.o rfl ho' hk' G.o);simp only[lq.o]at HA;obtain⟨fn,tmps,assign,body,hy,hR⟩:=X.o _ _ Q HA.o.1 R.o;simp only[vdA]at hy;have HR:=ai (RoundIn.wide (m:=5) hR);clear hR x ho' hk'
          gi_wp2
          refine HR.o.mono ?_;rintro e fU (⟨rfl,hJ10,hK10⟩ | ⟨rfl,hJ10⟩)
          . have K:Hid (J (f++ (fs++ [(path,o'.data)]).map vok) fU):=by show J _ _;rw[List.map_append,<-ZZ];exact hJ10
            have gu:Hid (KpV B0 hz W3 fU):=bz.o.trans hK10;have U:=ai (hK10.ents I.o.2 I.o.1);clear hJ10 hK10 HR hy y9
            gi_wp2
            go_roundw
            case rel=>exact⟨j+1,_,by go_num,hlt,HA.o.2,K.o,gu.o,U.o.1,U.o.2⟩
            case measure=>simp[intOf];omega
          . have K:=ai hJ10
            clear hJ10 HR hy y9
            gi_wp2
            go_ret
            obtain⟨t,ht⟩:=HA.o.1;exact .inr ⟨rfl,.inl ⟨_,t,ht,K.o⟩⟩
        . have HA:=ai (FX hV.o HE.o hvs hnz G.o)
          have t3: (dz != 0)=true:=by rw[bne_iff_ne];exact hnz
          clear x hnz hvs;have HF:=ai (pX m l B0 hz (W.heap.size+1) ALL (f++fs.map vok) dz J Jx Q T.o X.o R.o HA.o.1)
          gi_wp2_with fail
          refine⟨trivial,(callsIn_wide.2 HF.o).mono ?_⟩;rintro e Q ⟨rfl,hq⟩;have HQ:=ai hq;clear hq HF
          gi_wp2
          go_ret
          refine .inr ⟨rfl,?_⟩;rw[HV.o];rcases HQ.o with h | h
          . exact .inl h
          . exact .inr ⟨HA.o.2.1,by rw[<-HA.o.2.2];exact h⟩
    . have hlz:¬(j:Int)< (en:Int):=by omega
      have HA:=ai (Py hV.o (by rw[E.o];omega));have nz:Hid (KpV B0 hz W wr):=ku.o.trans v.o;have nO:Hid (J (f++ (vsE (vis p n) p pr es).1.map vok) wr):=by show J _ _;rw[<-HA.o.2];exact M.o
      clear v M hSl bf H bg
      gi_wp2
      go_ret
      refine .inl ⟨rfl,?_,?_,nz.o⟩
      . rw[HV.o];exact HA.o.1
      . rw[HV.o];exact nO.o
theorem DF:∀n,zY n
 | 0=>by
   intro p d pr A np cp B B0 hz l m ALL pr0 J Jx W hp h0 hB hB0 hzW hnp hpr hn;omega
 | n+1=>L9 n (DF n)
end
section
variable {F : Fence} {n : Nat} {P : Program}
theorem J3{α:Type}{g:Operand}{ps:Array Tmp}{assign body:Code}{Q:Exit->Act->VA->Prop}{a:Act}{w:VA}
  (hro:F.round=none) (h1:1<=n) {gf:Nat} {lb:Array VC} (hg:a.eval g= .func (.func gf) #[] lb) (hFg:F.fn gf) (eg:∀args w,(callFunc gf args).run P w= .ok (.enter gf args) w)
  {encs:α->Array VC} {Kp St:VA->VA->Prop} {Pf S Sp:List α->Prop} {w0:VA} (hseq:Jf F (n - 1) P gf lb encs Kp St Pf S Sp (w.heap.size+2) w0)
  (hKt:∀{A B C:VA},Kp A B->Kp B C->Kp A C) (hKb:∀(W:VA)(l:Nat)(r:Loop)(o':Obj),w.heap.size+1=l->W.heap[l]? =some (.loop r)->Kp W (W.putObj l o')) (hSo:∀A B,St A B->w.heap.size+2<=A.heap.size->Rec2 w.heap.size A B) (hb0:VE w0 w) (hps:∀x,(encs x).size=ps.size)
  (I:List α->VA->Prop) (Ix:Code->List α->VA->Prop) (hI:OwnFrom w.heap.size I) (hIx:∀c,OwnFrom w.heap.size (Ix c)) (hIS:∀pre A B,I pre A->St A B->I pre B) (h0:I [] w) (As:α->Nat->VA->Prop) (hAp:∀x b W l (r:Loop) (o:Obj),W.heap[l]? =some (.loop r)->As x b W->As x b (W.putObj l o)) (a₁:α->Nat->Act)
  (hassign:∀(l:Nat)(pre:List α)(x:α)(W:VA)(K:Act->VA->Prop),w.heap.size+2<=W.heap.size->I pre W-> (∀b W',Rec2 w.heap.size W W'->Kp W W'->I pre W'->As x b W'->K (a₁ x b) W') ->
    assign.wpIn (F.inRound l) (n - 1 - 1) P (Exit.then K (fun _ _ _=>False)) {tmps:=(ps.zip (encs x)).foldl (fun t (p,v)=>t.setIfInBounds p v) a.tmps,defers:= []} W)
  (hbody:∀(l:Nat)(pre:List α)(x:α)(b:Nat)(W:VA),Pf (pre++ [x])->w.heap.size+2<=W.heap.size->I pre W->As x b W->body.wpIn (F.inRound l) (n - 1 - 1) P (yt w.heap.size Kp I Ix (pre++ [x]) W) (a₁ x b) W)
  (hdone:∀(D:Nat)(xs:List α)(W:VA),w.heap.size<=D->S xs->I xs W->W.heap[D]? =some (.deferred (some []))->Q .normal {a with defers:={target:= .collected D,args:=#[]}::a.defers} W)
  (hstop:∀(D:Nat)(c:Code)(pre:List α)(W:VA),w.heap.size<=D->Sp pre->Ix c pre W->W.heap[D]? =some (.deferred (some []))->c.wpIn F n P Q {a with defers:={target:= .collected D,args:=#[]}::a.defers} W) :
  (Code.rangeFunc g ps assign body).wpIn F n P Q a w:=by
 refine wpIn_rangeFunc ?_;intro fn hfn;rw[hro]
 -- the loop's record in block L,the block of its deferred calls in block D
 obtain⟨D,hD⟩:=NX9 w.heap.size
 obtain⟨rec,hrec⟩:∃rec:LoopState->Option Code->Loop,rec=fun st pe=>{state:=st,pending:=pe,fn,tmps:=a.tmps,params:=ps,assign,body,defers:=D}:=⟨_,rfl⟩
 obtain⟨W1,hW1⟩:=NX9 ((w.alloc (.deferred (some []))).alloc (.loop (rec .ready none)))
 have hL1:W1.heap[D+1]? =some (.loop (rec .ready none)):=by
  rw[<-hW1,<-hD];have:=World.alloc_heap_new (w.alloc (.deferred (some []))) (.loop (rec .ready none));rwa[Z9]at this
 have hK1:W1.heap[D]? =some (.deferred (some [])):=by
  rw[<-hW1,<-hD];exact(Below.heap_alloc _ _ _ (by simp)).trans (World.alloc_heap_new w _)
 have hI1:I [] W1:=by rw[<-hW1];exact hI.alloc _ (hI.alloc _ h0)
 have hb1:VE w0 W1:=by
  rw[<-hW1];exact hb0.trans ((((ah _ w).alloc aj _).alloc (by simp) _).mono hb0.size)
 refine⟨D+1,[{target:= .collected D,args:=#[]}],W1,{target:= .fn (.func gf) lb,args:=#[.func (.yield (D+1)) #[] #[]]},W1,gf,
  #[.func (.yield (D+1)) #[] #[]]++lb,W1,?_,?_,?_,?_,fun _=>h1,?_⟩
 . rw[<-hW1,hrec,<-hD];exact run_enterLoop_outer _ _ _ _ _
 . simp only[resolve,hg]
   simp[go_sem]
 . intro f' hf';simp[Target.leads]at hf';subst hf';exact hFg
 . simp[invoke,go_sem,eg]
 . refine(hseq (D+1)
     (fun pre W=>I pre W/\W.heap[D+1]? =some (.loop (rec .ready none))/\W.heap[D]? =some (.deferred (some [])))
     (fun pre W=>∃c,Ix c pre W/\W.heap[D+1]? =some (.loop (rec .done (some c)))/\W.heap[D]? =some (.deferred (some [])))
     W1 hb1 (by rw[<-hW1];simp)
     (fun pre A B hs hst=>by
       have hz2:=(Array.getElem?_eq_some_iff.1 hs.2.1).1;have hr:=hSo A B hst (by omega);rw[hD]at hr;exact⟨hIS pre A B hs.1 hst,hr.2.trans hs.2.1,hr.1.trans hs.2.2⟩)
     ?_ ⟨hI1,hL1,hK1⟩).mono ?_
   . rintro pre x W d ⟨hi,hl,hk⟩
     have hlt:D+1<W.heap.size:=(Array.getElem?_eq_some_iff.1 hl).1;have hy:=run_yield (P:=P) (args:=encs x) hl (by rw[hrec];exact hps x);rw[hrec]at hy;refine⟨fn,_,assign,body,hy,roundIn_of_wpIn hfn (hassign _ pre x W _ (by omega) hi fun b V hrv hkv hiv hav=>?_)⟩;rw[hD]at hrv;have hlv:V.heap[D+1]? =some (.loop (rec .ready none)):=hrv.2.trans hl;have hkd:V.heap[D]? =some (.deferred (some [])):=hrv.1.trans hk;have hltv:D+1<V.heap.size:=(Array.getElem?_eq_some_iff.1 hlv).1;refine⟨_,run_beginRound hlv (by rw[hrec]),?_⟩;obtain⟨W2,hW2⟩:∃W2,V.putObj (D+1) (.loop {rec .ready none with state:= .busy})=W2:=⟨_,rfl⟩
     have hl2:W2.heap[D+1]? =some (.loop {rec .ready none with state:= .busy}):=by rw[<-hW2];exact World.putObj_heap_same hltv
     have hk2:W2.heap[D]? =some (.deferred (some [])):=by rw[<-hW2];exact(World.putObj_heap_other (by omega)).trans hkd
     have hw2:Kp W W2:=by rw[<-hW2];exact hKt hkv (hKb _ _ _ _ (by omega) hlv)
     have hi2:I pre W2:=by rw[<-hW2];exact hI.putObj _ hiv (by omega) hlv rfl
     have ha2:As x b W2:=by rw[<-hW2];exact hAp _ _ _ _ _ _ hlv hav
     rw[hW2];refine wpIn_mono (hbody _ pre x b _ d (by have:=(Array.getElem?_eq_some_iff.1 hl2).1;omega) hi2 ha2) ?_;have fin:∀(jump:Option Code)(W3:VA),Rec2 w.heap.size W2 W3 ->
       (Instr.endRound (D+1) jump).run P W3= .ok (.bool jump.isNone) (W3.putObj (D+1) (.loop (rec (if jump.isNone then .ready else .done) jump))) ∧
       W3.heap[D+1]? =some (.loop {rec .ready none with state:= .busy}) ∧
       (W3.putObj (D+1) (.loop (rec (if jump.isNone then .ready else .done) jump))).heap[D+1]? =some (.loop (rec (if jump.isNone then .ready else .done) jump)) ∧
       (W3.putObj (D+1) (.loop (rec (if jump.isNone then .ready else .done) jump))).heap[D]? =some (.deferred (some [])):=fun jump W3 hk3=>by
      rw[hD]at hk3;have hl3:=hk3.2.trans hl2;have:=run_endRound (P:=P) jump hl3;rw[hrec]at this ⊢;exact⟨this,by rw[hrec]at hl3;exact hl3,World.putObj_heap_same (Array.getElem?_eq_some_iff.1 hl3).1,(World.putObj_heap_other (by omega)).trans (hk3.1.trans hk2)⟩
     rintro e a3 W3 hp;cases e with
     | normal =>
       obtain⟨hk3,hkp3,hi3⟩:=hp;obtain⟨hr,hl3,hl4,hk4⟩:=fin none W3 hk3;exact⟨_,_,hr,.inl ⟨rfl,⟨hI.putObj _ hi3 (by omega) hl3 rfl,hl4,hk4⟩,hKt (hKt hw2 hkp3) (hKb _ _ _ _ (by omega) hl3)⟩⟩
     | ret =>
       obtain⟨hk3,hi3⟩:=hp;obtain⟨hr,hl3,hl4,hk4⟩:=fin (some .ret) W3 hk3;exact⟨_,_,hr,.inr ⟨rfl,.ret,(hIx _).putObj _ hi3 (by omega) hl3 rfl,hl4,hk4⟩⟩
     | exit id =>
       obtain⟨hk3,hi3⟩:=hp;obtain⟨hr,hl3,hl4,hk4⟩:=fin (some (.exit id)) W3 hk3;exact⟨_,_,hr,.inr ⟨rfl,.exit id,(hIx _).putObj _ hi3 (by omega) hl3 rfl,hl4,hk4⟩⟩
     | goto t =>
       obtain⟨hk3,hi3⟩:=hp;obtain⟨hr,hl3,hl4,hk4⟩:=fin (some (.goto t)) W3 hk3;exact⟨_,_,hr,.inr ⟨rfl,.goto t,(hIx _).putObj _ hi3 (by omega) hl3 rfl,hl4,hk4⟩⟩
     | panic ch=>exact hp.elim
     | outgrown=>exact hp.elim
   . rintro e W2 ⟨⟨v,rfl⟩,(⟨xs,hS,hi,hl,hk⟩ | ⟨pre,hSp,c,hi,hl,hk⟩)⟩
     . exact⟨none,_,by have:=run_endLoop (P:=P) hl (by rw[hrec];simp);rw[hrec]at this;exact this,hdone _ xs _ (by omega) hS (hI.putObj _ hi (by omega) hl rfl) ((World.putObj_heap_other (by omega)).trans hk)⟩
     . exact⟨some c,_,by have:=run_endLoop (P:=P) hl (by rw[hrec];simp);rw[hrec]at this;exact this,hstop _ c pre _ (by omega) hSp ((hIx c).putObj _ hi (by omega) hl rfl) ((World.putObj_heap_other (by omega)).trans hk)⟩
end
section
open Go.RowKit Go.Shelf
attribute [local go_sem] Oper.semAt_some
theorem Qj(A:OA)(n c:Nat)(d:Dig)(w:VA) :
  Calls Tryz.prog 128 #[.slice A n c,az d] w fun e w'=>e= .returned (.func (.func 212) #[] #[.pointer (some ⟨w.heap.size,0,none⟩),.pointer (some ⟨w.heap.size+1,0,none⟩)]) ∧
   w'= (w.alloc (.cells #[.slice A n c] 29)).alloc (.cells #[.int .u64 d.1,.int .u64 d.2] 50):=by
 obtain⟨d1,d2⟩:=d;simp only[az]
 go_enter Tryz.func128,Tryz.ntmps128
 go_wp2_with fail;go_ret
 exact⟨rfl,rfl⟩
theorem Qx(n B0 hz B np cp b2 b3:Nat)(A:OA)(p:List Itm)(d:Dig)(w:VA)(hp:PlOk p)(h0:Sl w B 3 A np (flat itC p))(hB:B<=B0)(hB0:B0<=w.heap.size)(hzw:w.heap.size<=hz)(hn:np<=1000000)
  (h2:Bk w b2 29 #[.slice A np cp]) (h3:Bk w b3 50 #[.int .u64 d.1,.int .u64 d.2]) :
  Jf Fence.wide n Tryz.prog 212 #[.pointer (some ⟨b2,0,none⟩),.pointer (some ⟨b3,0,none⟩)] vdA (KpV B0 hz) (fun A B=>VE A B)
   (fun pre=>∃t,pre++t=vsL (iC p d)) (fun xs=>xs=vsL (iC p d)) (fun pre=>∃t,pre++t=vsL (iC p d)) hz w:=fun l J Jx W hW hWz hJ hY hJ0=>by
 obtain⟨d1,d2⟩:=d;have HV:=ai (DF 102 p (d1,d2) ⟨#[]⟩ A np cp B B0 hz l (n - 1) (vsL (iC p (d1,d2))) [] J Jx W hp (h0.below hW (by omega)) hB (by omega) (by omega) hn (by decide) (by decide) ⟨[],by simp[iC]⟩ hJ
  (fun pre x W1 ht hj=>hY pre x W1 (by obtain⟨t,ht⟩:=ht;exact⟨t,ht⟩) hj) hJ0)
 have a:=ai (h2.below hW h2.lt);have b:=ai (h3.below hW h3.lt);simp only[az]at HV;have c2:=a.o.cell 0;obtain⟨x0,x1,_,_⟩:=b.o.two;simp at c2;clear hp h0 hW hJ hY hJ0 h2 h3;refine callsIn_of_wp Tryz.func212 rfl trivial ?_ rfl;simp only[Tryz.ntmps212,List.size_toArray,Z4,List.length_nil,Nat.reduceAdd,Nat.reduceSub,Array.replicate_succ,Array.replicate_zero,List.push_toArray,List.append_toArray,List.nil_append,List.cons_append]
 gi_wp2_with fail
 refine⟨trivial,(fun h=>by cases h),(callsIn_wide.2 HV.o).mono ?_⟩;rintro e f (⟨rfl,hr0,hJ9,_⟩ | ⟨rfl,hq⟩)
 . have HR:Hid (vsL (iC p (d1,d2))= (vis p 102 (d1,d2) ⟨#[]⟩).1.map vok):=by
     show vsL (vis p 102 (d1,d2) ⟨#[]⟩)=_;unfold vsL vsT;rw[if_pos hr0,List.append_nil]
   have c:=ai hJ9;clear hJ9 hr0 HV
   gi_wp2
   go_end0
   exact⟨⟨_,rfl⟩,.inl ⟨_,rfl,by rw[HR.o];exact c.o⟩⟩
 . have HQ:=ai hq
   clear hq HV
   gi_wp2
   go_end0
   refine⟨⟨_,rfl⟩,?_⟩;rcases HQ.o with ⟨q,t,h1,h2⟩ | ⟨_,h2⟩
   . exact .inr ⟨q,⟨t,h1⟩,h2⟩
   . exact .inl ⟨_,rfl,h2⟩
end
section
open Go.RowKit Go.Shelf
attribute [local go_sem] Oper.semAt_some
theorem wX:∀(l1 l2:List Fl)(a b:List Vd),(∀x r,a=x::r->x.2≠0)-> (∀x r,b=x::r->x.2≠0)->l1.map vok++a=l2.map vok++b->l1=l2/\a=b
 | [],[],a,b,_,_,h=>⟨rfl,h⟩
 | [],f::l2,a,b,ha,_,h=>absurd rfl (ha (vok f) (l2.map vok++b) (by simpa using h))
 | f::l1,[],a,b,_,hb,h=>absurd rfl (hb (vok f) (l1.map vok++a) (by simpa using h.symm))
 | f::l1,g::l2,a,b,ha,hb,h=>by
   simp only[List.map_cons,List.cons_append,List.cons.injEq]at h;obtain⟨h1,h2⟩:=wX l1 l2 a b ha hb h.2;have h3:f=g:=congrArg Prod.fst h.1;exact⟨by rw[h3,h1],h2⟩
theorem GI:∀(l1 l2:List Fl)(a b:List Vd),(∀x r,b=x::r->x.2≠0)->l1.map vok++a=l2.map vok++b->l1.length<=l2.length
 | [],_,_,_,_,_=>ZX _
 | f::l1,[],a,b,hb,h=>absurd rfl (hb (vok f) (l1.map vok++a) (by simpa using h.symm))
 | f::l1,g::l2,a,b,hb,h=>by
   simp only[List.map_cons,List.cons_append,List.cons.injEq]at h;have:=GI l1 l2 a b hb h.2;simp only[Z4];omega
theorem xG(z:Int):∀x r,vsT z=x::r->x.2≠0:=by
 intro x r h;unfold vsT at h;split at h
 . cases h
 . rename_i hz
   cases h;exact hz
theorem Ui{fs:List Fl}{x:Vd}{t:List Vd}{r:List Fl×Int}(h:fs.map vok++ [x]++t=vsL r)(hx:x.2≠0):r.1=fs/\r.2=x.2/\r.2≠0:=by
 unfold vsL at h;rw[ZZ]at h;obtain⟨h1,h2⟩:=wX fs r.1 ([x]++t) (vsT r.2) (fun y q e=>by simp at e;rw[<-e.1];exact hx) (xG _) h;unfold vsT at h2;split at h2
 . cases h2
 . rename_i hz
   simp at h2;refine⟨h1.symm,?_,hz⟩;rw[h2.1]
theorem Ue{fs:List Fl}{x:Vd}{t:List Vd}{r:List Fl×Int}(h:fs.map vok++ [x]++t=vsL r)(hx:x.2=0):fs.length+1<=r.1.length:=by
 unfold vsL at h;have hv:x=vok x.1:=Prod.ext rfl hx;have h2: (fs++ [x.1]).map vok++t=r.1.map vok++vsT r.2:=by rw[<-h,List.map_append,List.map_cons,List.map_nil,<-hv]
 have:=GI _ _ _ _ (xG _) h2
 simpa using this
theorem RX{fs:List Fl}{r:List Fl×Int}(h:fs.map vok=vsL r):r.2=0/\fs=r.1:=by
 unfold vsL at h;obtain⟨h1,h2⟩:=wX fs r.1 [] (vsT r.2) (fun y q e=>by cases e) (xG _) (by simpa using h);unfold vsT at h2;split at h2
 . rename_i hz;exact⟨hz,h1⟩
 . cases h2
theorem IC{fn:Func}{c1 c2:Tmp}(h:fn.results= #[.cell c1 63,.cell c2 36]){w:VA}{a:Array VC}{b1 b2:Nat}{A:OA}{n c:Nat}{z:Int}(h1:a[c1]?.getD undef= .pointer (some ⟨b1,0,none⟩))(h2:a[c2]?.getD undef= .pointer (some ⟨b2,0,none⟩))(k1:Bk w b1 63 #[.slice A n c])(k2:Bk w b2 36 #[.int .i64 z]) :
  (results fn a).run Tryz.prog w= .ok (.tuple #[.slice A n c,.int .i64 z]) w:=by
 have c1':=k1.cell 0;have c2':=k2.cell 0;simp at c1' c2';simp[results,h,h1,h2,go_sem,c1',c2']
def Jj(p:List Itm)(d:Dig)(w:VA)(e:Ending)(w':VA):Prop :=
 ((∃fs A c,kY p d fs/\e= .returned (.tuple #[.slice A fs.length c,.int .i64 0])/\w'.ownsRow w.heap.size 82 2 (.slice A fs.length c) fs.length (flat flC fs))∨ (∃err,mi p d err/\err≠0/\e= .returned (.tuple #[.slice none 0 0,.int .i64 err])))/\VE w w'
structure LdI(s0 hz:Nat)(w:VA)(pre:List Vd)(fs:List Fl)(Aq:OA)(cq:Nat)(W:VA):Prop where
 pre:pre=fs.map vok
 few:fs.length<=200
 r1:Bk W (s0+1) 63 #[.slice none 0 0]
 r2:Bk W (s0+1+1) 36 #[.int .i64 0]
 l:Bk W (s0+1+1+1) 63 #[.slice Aq fs.length cq]
 own:W.ownsRow hz 82 2 (.slice Aq fs.length cq) fs.length (flat flC fs)
 b:Below s0 w W
structure LdX(s0:Nat)(w:VA)(p:List Itm)(d:Dig)(err:Int)(W:VA):Prop where
 r1:Bk W (s0+1) 63 #[.slice none 0 0]
 r2:Bk W (s0+1+1) 36 #[.int .i64 err]
 lod:mi p d err
 nz:err≠0
 b:Below s0 w W
section
variable {s0 hz : Nat} {w W W' : VA} {pre : List Vd} {fs : List Fl} {Aq : OA} {cq : Nat} {p : List Itm} {d : Dig} {err : Int}
theorem LdI.below(h:LdI s0 hz w pre fs Aq cq W)(hb:VE W W'):LdI s0 hz w pre fs Aq cq W' :=
 ⟨h.pre,h.few,h.r1.below hb h.r1.lt,h.r2.below hb h.r2.lt,h.l.below hb h.l.lt,gQ h.own hb,h.b.trans (hb.mono (by have:=h.r2.lt;omega))⟩
theorem LdI.grown{row:Option Nat}(h:LdI s0 hz w pre fs Aq cq W)(hg:W.grownBy W' row)(h1:some (s0+1)≠row)(h2:some (s0+1+1)≠row)(h3:some (s0+1+1+1)≠row)(h4: (Value.slice Aq fs.length cq).ownBlock=none∨ (Value.slice Aq fs.length cq).ownBlock≠row)(h5:∀k,row=some k->s0<=k):LdI s0 hz w pre fs Aq cq W' :=
 ⟨h.pre,h.few,h.r1.grown hg h1,h.r2.grown hg h2,h.l.grown hg h3,h.own.kept hg h4,h.b.grown hg (by have:=h.r2.lt;omega) h5⟩
theorem LdX.grown{row:Option Nat}(h:LdX s0 w p d err W)(hg:W.grownBy W' row)(h1:some (s0+1)≠row)(h2:some (s0+1+1)≠row)(h5:∀k,row=some k->s0<=k):LdX s0 w p d err W' :=
 ⟨h.r1.grown hg h1,h.r2.grown hg h2,h.lod,h.nz,h.b.grown hg (by have:=h.r2.lt;omega) h5⟩
end
theorem Q5: (Tryz.prog.info? 82).map (fun i=>(i.zero,i.size,i.bytes))=some (some (.agg #[.string ⟨#[]⟩,.string ⟨#[]⟩]),2,32):=by kernel_rfl
theorem Bk.one_set{w:VA}{b:Nat}{t:TypeId}{x:VC}(h:Bk w b t #[x])(y:VC):Bk (w.setCell ⟨b,0,none⟩ y) b t #[y]:=by
 have:=h.set 0 y
 simpa using this
theorem LdX.drew{s0:Nat}{w W:VA}{p:List Itm}{d:Dig}{err:Int}(h:LdX s0 w p d err W):LdX s0 w p d err W.drew:=⟨h.r1,h.r2,h.lod,h.nz,h.b.drew⟩
theorem yA{s0:Nat}{w W:VA}{p:List Itm}{d:Dig}{err:Int}(r1:Bk W (s0+1) 63 #[.slice none 0 0])(r2:Bk W (s0+1+1) 36 #[.int .i64 0])(b:Below s0 w W)(he:mi p d err)(h0:err≠0) :
  LdX s0 w p d err ((W.setCell ⟨s0+1,0,none⟩ (.slice none 0 0)).setCell ⟨s0+1+1,0,none⟩ (.int .i64 err))/\LdX s0 w p d err ((W.setCell ⟨s0+1+1,0,none⟩ (.int .i64 err)).setCell ⟨s0+1,0,none⟩ (.slice none 0 0)) :=
 ⟨⟨(r1.one_set _).far (p:=⟨s0+1+1,0,none⟩) (by show s0+1≠s0+1+1;omega) _,(r2.far (p:=⟨s0+1,0,none⟩) (by show s0+1+1≠s0+1;omega) _).one_set _,he,h0,(b.setCell (p:=⟨s0+1,0,none⟩) (by show s0<=s0+1;omega) _).setCell (p:=⟨s0+1+1,0,none⟩) (by show s0<=s0+1+1;omega) _⟩,
  ⟨(r1.far (p:=⟨s0+1+1,0,none⟩) (by show s0+1≠s0+1+1;omega) _).one_set _,(r2.one_set _).far (p:=⟨s0+1,0,none⟩) (by show s0+1+1≠s0+1;omega) _,he,h0,(b.setCell (p:=⟨s0+1+1,0,none⟩) (by show s0<=s0+1+1;omega) _).setCell (p:=⟨s0+1,0,none⟩) (by show s0<=s0+1;omega) _⟩⟩
theorem sN{D:Nat}(W:VA){a b:Addr}(u v:VC)(ha:a.block<D)(hb:b.block<D):Rec2 D W ((W.setCell a u).setCell b v) :=
 ⟨(Z8 _ _ _ _ (by omega)).trans (Z8 _ _ _ _ (by omega)),(Z8 _ _ _ _ (by omega)).trans (Z8 _ _ _ _ (by omega))⟩
structure LdS(s0 hz:Nat)(w W:VA)(fs:List Fl)(f:Fl)(A4:OA)(c4:Nat)(W5:VA):Prop where
 r1:Bk W5 (s0+1) 63 #[.slice none 0 0]
 r2:Bk W5 (s0+1+1) 36 #[.int .i64 0]
 l:Bk W5 (s0+1+1+1) 63 #[.slice A4 (fs.length+1) c4]
 own:W5.ownsRow hz 82 2 (.slice A4 (fs.length+1) c4) (fs.length+1) (flat flC (fs++ [f]))
 b:Below s0 w W5
 kp:KpV s0 hz W W5
 rc:∀k,k<hz->k≠s0+1+1+1->k<W.heap.size->W5.heap[k]? =W.heap[k]?
theorem LdI.add{s0 hz:Nat}{w W w4:VA}{pre:List Vd}{fs:List Fl}{Aq:OA}{cq:Nat}(h:LdI s0 hz w pre fs Aq cq W)(hs:s0+4<=hz){f:Fl}{o:Obj}{A4:OA}{c4:Nat}
  (ho:w4.ownsRow hz 82 2 (.slice A4 (fs.length+1) c4) (fs.length+1) (flat flC fs++flC f)) (hg: (W.alloc o).grownBy w4 (Value.slice Aq fs.length cq).ownBlock) :
  LdS s0 hz w W fs f A4 c4 (w4.setCell ⟨s0+1+1+1,0,none⟩ (.slice A4 (fs.length+1) c4))/\w4.cell? ⟨s0+1+1+1,0,none⟩=some (.slice Aq fs.length cq)/\w4.frozen? ⟨s0+1+1+1,0,none⟩=false:=by
 have hr:∀k,(Value.slice Aq fs.length cq).ownBlock=some k->hz<=k/\∃cur,W.heap[k]? =some (.cells cur 82 (0,0)):=fun k hk=>bV h.own hk;have hb:∀k,k<W.heap.size-> (Value.slice Aq fs.length cq).ownBlock≠some k->w4.heap[k]? =W.heap[k]? :=fun k hk hn=>(hg.block k (by simp;omega) (fun e=>hn e.symm)).trans (Below.heap_alloc W o k hk);have hlow:∀k,k<hz-> (Value.slice Aq fs.length cq).ownBlock≠some k:=fun k hk e=>by have:=(hr k e).1;omega
 have l1:Bk w4 (s0+1) 63 #[.slice none 0 0]:=(hb _ h.r1.lt (hlow _ (by omega))).trans h.r1;have l2:Bk w4 (s0+1+1) 36 #[.int .i64 0]:=(hb _ h.r2.lt (hlow _ (by omega))).trans h.r2;have l3:Bk w4 (s0+1+1+1) 63 #[.slice Aq fs.length cq]:=(hb _ h.l.lt (hlow _ (by omega))).trans h.l;have hB4:Below s0 w w4:=(h.b.alloc (by have:=h.l.lt;omega) o).grown hg (by have:=h.l.lt;simp;omega) (fun k hk=>by have:=(hr k hk).1;omega);refine⟨⟨l1.far (p:=⟨s0+1+1+1,0,none⟩) (by show s0+1≠s0+1+1+1;omega) _,l2.far (p:=⟨s0+1+1+1,0,none⟩) (by show s0+1+1≠s0+1+1+1;omega) _,l3.one_set _,?_,hB4.setCell (p:=⟨s0+1+1+1,0,none⟩) (by show s0<=s0+1+1+1;omega) _,?_,fun k hk hne hkW=>(Z8 _ _ _ _ hne).trans (hb k hkW (hlow k hk))⟩,by have:=l3.cell 0;simpa using this,l3.free 0⟩
 . have e:flat flC (fs++ [f])=flat flC fs++flC f:=by rw[bQ];simp[flat]
   rw[e];exact ownsRow_setCell_below ho (by show s0+1+1+1<hz;omega) _
 . refine⟨by have:=hg.size;simp at this ⊢;omega,fun k hk hc=>?_⟩
   have hne:k≠s0+1+1+1:=by omega
   refine(Z8 _ _ _ _ hne).trans (hb k hk (fun e=>?_));obtain⟨h1,cur,h2⟩:=hr k e;rcases hc with h3 | ⟨_,h3⟩
   . omega
   . rw[h2]at h3;exact h3 rfl
theorem OU(A:OA)(np cp B:Nat)(p:List Itm)(d:Dig)(w:VA)(h0:Sl w B 3 A np (flat itC p))(hB:B<=w.heap.size)(hn:np<=1000000)(hp:PlOk p) :
  Calls Tryz.prog 69 #[.slice A np cp,az d] w (Jj p d w):=by
 refine(callsIn_wide (n:=6)).1 ?_;have hf1:Fence.wide.fn 212:=trivial;have HP:=ai hp;have H0:=ai h0;obtain⟨W1,hW1⟩:=NX9 ((((w.alloc (.cells #[.int .u64 d.1,.int .u64 d.2] 50)).alloc (.cells #[.slice none 0 0] 63)).alloc (.cells #[.int .i64 0] 36)).alloc (.cells #[.slice none 0 0] 63))
 have z1:W1.heap.size=w.heap.size+4:=by rw[<-hW1];simp
 have hb1:VE w W1:=by rw[<-hW1];exact((((ah _ w).alloc aj _).alloc (by simp) _).alloc (by simp;omega) _).alloc (by simp;omega) _
 have k1:Bk W1 (w.heap.size+1) 63 #[.slice none 0 0]:=by
  rw[<-hW1];have:=Bk.new (w.alloc (.cells #[.int .u64 d.1,.int .u64 d.2] 50)) 63 #[.slice none 0 0];rw[Z9]at this;exact(this.alloc _).alloc _
 have k2:Bk W1 (w.heap.size+2) 36 #[.int .i64 0]:=by
  rw[<-hW1];have:=Bk.new ((w.alloc (.cells #[.int .u64 d.1,.int .u64 d.2] 50)).alloc (.cells #[.slice none 0 0] 63)) 36 #[.int .i64 0];rw[Z9,Z9]at this;exact this.alloc _
 have k3:Bk W1 (w.heap.size+3) 63 #[.slice none 0 0]:=by
  rw[<-hW1];have:=Bk.new (((w.alloc (.cells #[.int .u64 d.1,.int .u64 d.2] 50)).alloc (.cells #[.slice none 0 0] 63)).alloc (.cells #[.int .i64 0] 36)) 63 #[.slice none 0 0];rw[Z9,Z9,Z9]at this;exact this
 have HA:=ai (Qj A np cp d W1);obtain⟨d1,d2⟩:=d;have HW1:=ai hW1;simp only[az]at HA HW1 ⊢;clear hW1 h0 hp;refine callsIn_of_wp_marks Tryz.func69 rfl trivial ?_ rfl;simp only[Tryz.ntmps69,List.size_toArray,Z4,List.length_nil,Nat.reduceAdd,Nat.reduceSub,Array.replicate_succ,Array.replicate_zero,List.push_toArray,List.append_toArray,List.nil_append,List.cons_append]
 gi_wp2_with fail
 rw[HW1.o]
 gi_wp2_with fail
 refine⟨trivial,(callsIn_wide.2 HA.o).mono ?_⟩;rintro e W2 ⟨rfl,hw2⟩;have z2:W2.heap.size=w.heap.size+6:=by rw[hw2];simp;omega
 have hb2:VE W1 W2:=by rw[hw2];exact((ah _ W1).alloc aj _).alloc (by simp) _
 have kp:Bk W2 (w.heap.size+4) 29 #[.slice A np cp]:=by rw[hw2,<-z1];exact(Bk.new W1 _ _).alloc _
 have kd:Bk W2 (w.heap.size+4+1) 50 #[.int .u64 d1,.int .u64 d2]:=by
  rw[hw2];have:=Bk.new (W1.alloc (.cells #[.slice A np cp] 29)) 50 #[.int .u64 d1,.int .u64 d2];rw[Z9,z1]at this;exact this
 have hI0:LdI w.heap.size (W2.heap.size+2) w [] [] none 0 W2:=⟨rfl,ZX _,k1.below hb2 (by omega),k2.below hb2 (by omega),k3.below hb2 (by omega),World.ownsRow_nil _ _ _ _,hb1.trans (hb2.mono (by omega))⟩
 have hs2:=H0.o.below (hb1.trans (hb2.mono (by omega))) hB;have hst:=Qx 5 w.heap.size (W2.heap.size+2) B np cp (w.heap.size+4) (w.heap.size+4+1) A p (d1,d2) W2 HP.o hs2 hB (by omega) (by omega) hn kp kd;rw[z1];clear HA k1 k2 k3 hb1 hb2 kp kd hs2 HW1 hw2
 gi_wp2
 refine J3 (α:=Vd) (F:=Fence.wide) (n:=6) rfl (by omega) (gf:=212) (lb:=#[.pointer (some ⟨w.heap.size+4,0,none⟩),.pointer (some ⟨w.heap.size+4+1,0,none⟩)]) rfl trivial (enters_of Tryz.func212 (by kernel_rfl) rfl)
  hst KpV.trans (fun W l r o' hl hlr=>⟨by simp,fun k _ hk=>World.putObj_heap_other (by omega)⟩) (fun A C h hA=>⟨h.block _ (by omega),h.block _ (by omega)⟩) (ah _ _) (fun _=>rfl)
  (fun pre W=>∃fs i cq,LdI w.heap.size (W2.heap.size+2) w pre fs i cq W)
  (fun c _ W=>c= .ret/\∃err,LdX w.heap.size w p (d1,d2) err W)
  ?hI ?hIx ?hIS ⟨[],none,0,hI0⟩
  (fun x b W=>W2.heap.size+2<=b/\Bk W b 204 #[.string x.1.1,.string x.1.2,.int .i64 x.2])
  ?hAp (fun x b=>{tmps:=#[.slice A np cp,.agg #[.int .u64 d1,.int .u64 d2],undef,.pointer (some ⟨w.heap.size,0,none⟩),.pointer (some ⟨w.heap.size+1,0,none⟩),.pointer (some ⟨w.heap.size+1+1,0,none⟩),.pointer (some ⟨w.heap.size+1+1+1,0,none⟩),.pointer (some ⟨b,0,none⟩),.slice A np cp,.agg #[.int .u64 d1,.int .u64 d2],.func (.func 212) #[] #[.pointer (some ⟨w.heap.size+4,0,none⟩),.pointer (some ⟨w.heap.size+4+1,0,none⟩)],.agg #[.string x.1.1,.string x.1.2,.int .i64 x.2],undef,undef,undef,undef,undef,undef,undef,undef,undef,undef,undef,undef,undef,undef,undef,undef],defers:= []}) ?assign ?body ?done ?stop
 case hAp =>
  rintro x b W l r o hl ⟨hb,hw⟩;refine⟨hb,(World.putObj_heap_other (fun e=>?_)).trans hw⟩;subst e;have:W.heap[b]? =_:=hw;rw[hl]at this;cases this
 case hI =>
  rintro pre A C row ⟨fs,i,cq,h⟩ hg hr;refine⟨fs,i,cq,h.grown hg (fun e=>?_) (fun e=>?_) (fun e=>?_) ?_ (fun k e=>?_)⟩
  . have:=(hr _ e.symm).1;omega
  . have:=(hr _ e.symm).1;omega
  . have:=(hr _ e.symm).1;omega
  . cases hv: (Value.slice i fs.length cq).ownBlock with
    | none=>exact .inl rfl
    | some k =>
      refine .inr fun e=>?_;obtain⟨_,cur,j⟩:=bV h.own hv;obtain⟨_,o,ho,hc⟩:=hr _ e.symm;rw[j]at ho;cases ho;cases hc
  . have:=(hr _ e).1;omega
 case hIx =>
  rintro c pre A C row ⟨hc,err,h⟩ hg hr;refine⟨hc,err,h.grown hg (fun e=>?_) (fun e=>?_) (fun k e=>?_)⟩
  . have:=(hr _ e.symm).1;omega
  . have:=(hr _ e.symm).1;omega
  . have:=(hr _ e).1;omega
 case hIS =>
  rintro pre A C ⟨fs,i,cq,h⟩ hb;exact⟨fs,i,cq,h.below hb⟩
 case assign =>
  intro l pre x W K m hI hK;obtain⟨fs,i,cq,h⟩:=hI;have HKK:=ai hK;have HI:=ai h;clear hK h hst hI0;obtain⟨⟨x1,x2⟩,x3⟩:=x;simp only[vdA]
  gi_wp2
  have hb:VE W (W.alloc (.cells #[.string x1,.string x2,.int .i64 x3] 204)):=(ah _ W).alloc aj _;exact HKK.o W.heap.size _ ⟨hb.block _ (by omega),hb.block _ (by omega)⟩ (KpV.of_below hb) ⟨fs,i,cq,HI.o.below hb⟩ ⟨m,Bk.new W _ _⟩
 case body =>
  rintro l pre x b W ⟨t,ht⟩ m ⟨fs,i,cq,h⟩ ⟨hbz,hk⟩;obtain⟨⟨x1,x2⟩,x3⟩:=x;simp only at hk;have HT:Hid (fs.map vok++ [((x1,x2),x3)]++t=vsL (iC p (d1,d2))):=by show _=_;rw[<-h.pre];exact ht
  have HI:=ai h;have HK:=ai hk;obtain⟨z,E,G⟩:=hk.three;clear h hk ht hst hI0;have c1:=HI.o.r1.cell 0;have c2:=HI.o.r2.cell 0;have c3:=HI.o.l.cell 0;have f1:=HI.o.r1.free 0;have f2:=HI.o.r2.free 0;have f3:=HI.o.l.free 0;simp at c1 c2 c3;by_cases h3:x3=0
  . have t1: (x3 != 0)=false:=by rw[h3];rfl
    have HL:=ai (Ue HT.o h3);have hfew:=HI.o.few;have H3:=ai h3;obtain⟨i0,hi,hz0,hz1,hz2⟩:=info_parts Q5;have Hi:=ai hi;have H:=ai hz0;have I:=ai hz1;have J:=ai hz2;clear hi hz0 hz1 hz2 h3
    gi_wp2_with (gi_at_builtin;refine aO ?_)
    refine aH ?_;refine oG (base:=W2.heap.size+2) (size:=2) rfl (.tmp 17) (.tmp 20) 63 rfl 82 i0 _ 32 Tryz.underlying63 Hi.o H.o I.o J.o rfl (by decide) (.slice i fs.length cq) fs.length (flat flC fs) rfl ?own (W.heap.size+1) _ 1 _ (flC (x1,x2)) rfl ?nw (by simp[flC,Value.oneCell']) ?l1 ?l2 ?l3 ?_
    case own=>exact gQ HI.o.own ((ah _ W).alloc aj _)
    case nw =>
     have:=Sl.of_bk (n:=1) (size:=2) (Bk.new W 82 #[.string x1,.string x2]) rfl;rw[Z9]at this;exact this
    case l1=>unfold maxLen;omega
    case l2=>omega
    case l3=>simp;omega
    intro A4 c4 w4 q hg4 O P;obtain⟨hls,Q,R⟩:=HI.o.add (f:=(x1,x2)) (by omega) q hg4;have g:=ai hls;have L:=ai HI.o.pre;clear q hg4 c1 c2 c3 f1 f2 f3 z E G hls;by_cases hbig:fs.length=200
    . have hbz: (200:Int)< ((fs.length:Int)+1):=by omega
      have HE:Hid (mi p (d1,d2) 4):= .inl ⟨by have:=HL.o;omega,rfl⟩;have c1:=g.o.r1.cell 0;have c2:=g.o.r2.cell 0;have f1:=g.o.r1.free 0;have f2:=g.o.r2.free 0;simp only[List.getElem?_toArray,List.getElem?_cons_zero]at c1 c2;clear hbig
      gi_wp2
      have hr:=g.o.rc;have hrz:=HI.o.l.lt;refine⟨⟨((sN (D:=W2.heap.size) _ _ _ (by show w.heap.size+1<_;omega) (by show w.heap.size+1+1<_;omega)).1).trans (hr _ (by omega) (by omega) (by omega)),((sN (D:=W2.heap.size) _ _ _ (by show w.heap.size+1<_;omega) (by show w.heap.size+1+1<_;omega)).2).trans (hr _ (by omega) (by omega) (by omega))⟩,rfl,4,(yA g.o.r1 g.o.r2 g.o.b HE.o (by decide)).1⟩
    . have hbz:¬(200:Int)< ((fs.length:Int)+1):=by omega
      have hlen:fs.length+1<=200:=by omega
      clear hbig
      gi_wp2
      have hr:=g.o.rc;refine⟨⟨hr _ (by omega) (by omega) (by omega),hr _ (by omega) (by omega) (by omega)⟩,(by have:=g.o.kp;rw[z2]at this;exact this),fs++ [(x1,x2)],A4,c4,?_,?_,g.o.r1,g.o.r2,?_,?_,g.o.b⟩
      . rw[L.o,List.map_append,H3.o];rfl
      . simpa using hlen
      . rw[af];exact g.o.l
      . rw[af];have:=g.o.own;rw[z2]at this;exact this
  . have t1: (x3 != 0)=true:=by rw[bne_iff_ne];exact h3
    obtain⟨e1,e2,e3⟩:=Ui HT.o h3;have HE:Hid (mi p (d1,d2) x3):= .inr ⟨by rw[e1];exact HI.o.few,e3,by rw[e2]⟩;have H3:=ai h3;clear e1 e2 e3 h3 c3 f3
    gi_wp2
    gi_region
    all_goals
     gi_wp2
     first
      | exact⟨sN W _ _ (by show w.heap.size+1<_;omega) (by show w.heap.size+1+1<_;omega),rfl,x3,(yA HI.o.r1 HI.o.r2 HI.o.b HE.o H3.o).1.drew⟩
      | exact⟨sN W _ _ (by show w.heap.size+1+1<_;omega) (by show w.heap.size+1<_;omega),rfl,x3,(yA HI.o.r1 HI.o.r2 HI.o.b HE.o H3.o).2.drew⟩
 case done =>
  rintro D xs W hD hS ⟨fs,i,cq,h⟩ hK;obtain⟨hf1,hf2⟩:=RX (fs:=fs) (by rw[<-h.pre];exact hS);have hfew:=h.few;have s:=ai (Ls (W2.heap.size+2) fs.length cq i fs W h.own (by omega));have M:Hid (∀us:List Fl,us.Perm fs->uZ us->kY p (d1,d2) us):=fun us hp hs=>by
   have hpm:us.Perm (iC p (d1,d2)).1:=by rw[<-hf2];exact hp
   have hnd: (us.map Prod.fst).Nodup:=((hpm.map Prod.fst).nodup_iff).2 (Dq HP.o 102 (d1,d2) ⟨#[]⟩);refine⟨by rw[<-hf2];exact hfew,hf1,hpm,?_⟩;unfold List.Nodup at hnd;rw[List.pairwise_map]at hnd;exact(hs.and hnd).imp (fun {a b} h=>by
    cases h1:less a.1 b.1 with
    | true=>rfl
    | false=>exact absurd (mY h1 h.1) h.2)
  have HI:=ai h;have HK:=ai hK;have c3:=h.l.cell 0;simp at c3;clear h hK hS hf1 hf2 hst hI0
  gi_wp2_with fail
  refine⟨trivial,(callsIn_wide.2 s.o).mono ?_⟩;rintro e w' ⟨rfl,us,hp,hso,hown,hg⟩;have HS:=ai (M.o us hp hso);have u:us.length=fs.length:=hp.length_eq;have hr:∀k,(Value.slice i fs.length cq).ownBlock=some k->W2.heap.size+2<=k/\∃cur,W.heap[k]? =some (.cells cur 82 (0,0)):=fun k hk=>bV HI.o.own hk;have HR1:Hid (Bk w' (w.heap.size+1) 63 #[.slice none 0 0]):=HI.o.r1.grown hg (fun e=>by have:=(hr _ e.symm).1;omega);have HR2:Hid (Bk w' (w.heap.size+1+1) 36 #[.int .i64 0]):=HI.o.r2.grown hg (fun e=>by have:=(hr _ e.symm).1;omega);have N:Hid (Bk w' (w.heap.size+1+1+1) 63 #[.slice i fs.length cq]):=HI.o.l.grown hg (fun e=>by have:=(hr _ e.symm).1;omega);have v:VF w w':=HI.o.b.grown hg (by have:=HI.o.r2.lt;omega) (fun k hk=>by have:=(hr k hk).1;omega);have y:Hid (w'.heap[D]? =some (.deferred (some []))):=(hg.block D (Array.getElem?_eq_some_iff.1 HK.o).1 (fun e=>by
   obtain⟨_,cur,h2⟩:=hr D e.symm;rw[HK.o]at h2;cases h2)).trans HK.o
  have HOW:=ai hown;have c1:=HR1.o.cell 0;have c2:=HR2.o.cell 0;have c3:=N.o.cell 0;have f1:=HR1.o.free 0;have f2:=HR2.o.free 0;simp at c1 c2 c3;clear hp hso hown hg hr s
  gi_wp2
  have S:∀k,k<W2.heap.size->k≠D:=fun k hk=>by omega
  refine⟨by simp,.inl ⟨_,_,rfl,run_takeDeferred ((Z8 _ _ _ _ (by simp;omega)).trans ((Z8 _ _ _ _ (by simp;omega)).trans y.o)),?_⟩⟩;have k1:Bk ((w'.setCell ⟨w.heap.size+1,0,none⟩ (.slice i fs.length cq)).setCell ⟨w.heap.size+1+1,0,none⟩ (.int .i64 0)) (w.heap.size+1) 63 #[.slice i fs.length cq]:=(HR1.o.one_set _).far (p:=⟨w.heap.size+1+1,0,none⟩) (by show w.heap.size+1≠w.heap.size+1+1;omega) _;have k2:Bk ((w'.setCell ⟨w.heap.size+1,0,none⟩ (.slice i fs.length cq)).setCell ⟨w.heap.size+1+1,0,none⟩ (.int .i64 0)) (w.heap.size+1+1) 36 #[.int .i64 0]:=(HR2.o.far (p:=⟨w.heap.size+1,0,none⟩) (by show w.heap.size+1+1≠w.heap.size+1;omega) _).one_set _;refine⟨_,IC rfl rfl rfl ((World.putObj_heap_other (by omega)).trans k1) ((World.putObj_heap_other (by omega)).trans k2),.inl ⟨us,i,cq,HS.o,by rw[u],?_⟩,?_⟩
  . rw[u]
    refine lG (jc (jq (jq HOW.o HR1.o (by decide) 0 _) (HR2.o.far (p:=⟨w.heap.size+1,0,none⟩) (by show w.heap.size+1+1≠w.heap.size+1;omega) _) (by decide) 0 _) (fun k hk=>World.putObj_heap_other (fun e=>?_))) (by omega);subst e;obtain⟨_,cur,h2⟩:=bV HOW.o hk;rw[y.o]at h2;cases h2
  . exact((v.o.setCell (p:=⟨w.heap.size+1,0,none⟩) (by simp) _).setCell (p:=⟨w.heap.size+1+1,0,none⟩) (by show w.heap.size<=w.heap.size+1+1;omega) _).grown (grownBy_putObj' _ _ _) (by have:=v.o.size;simpa using this) (fun k e=>by cases e;omega)
 case stop =>
  rintro D c pre W hD hS ⟨rfl,err,h⟩ hK;have HI:=ai h;have HK:=ai hK;clear h hK hS hst hI0
  gi_wp2
  refine⟨by simp,.inl ⟨_,_,rfl,run_takeDeferred HK.o,?_⟩⟩;refine⟨_,IC rfl rfl rfl ((World.putObj_heap_other (by omega)).trans HI.o.r1) ((World.putObj_heap_other (by omega)).trans HI.o.r2),.inr ⟨err,HI.o.lod,HI.o.nz,rfl⟩,?_⟩;exact HI.o.b.grown (grownBy_putObj' _ _ _) HI.o.b.size (fun k e=>by cases e;omega)
end
@[go_sem] theorem Vq : Tryz.prog.eqGuardType Tryz.prog.depth 118 = false := by kernel_rfl
theorem TB:Tryz.prog.stoodInHeld 118=false:=by kernel_rfl
theorem UI(a b c d:Int)(w:VA): (Op.equalIn 9999 50 (.agg #[.int .u64 a,.int .u64 b]) (.agg #[.int .u64 c,.int .u64 d])).run Tryz.prog w= .ok (a == c && b == d) w:=zC 9997 a b c d w
@[go_sem high] theorem Vy (a b c d : Int) (s t : VB) (w : VA) : (Op.equalIn 10000 118 (.agg #[.int .u64 a, .int .u64 b, .string s]) (.agg #[.int .u64 c, .int .u64 d, .string t])).run Tryz.prog w = .ok ((a == c && b == d) && s.toList == t.toList) w := by
 have hS:Tryz.prog.underlying 118=some (.struct (Tryz.prog.fieldsOf 118)):=by kernel_rfl
 have a9:=Tryz.isAgg9;have u9:=Tryz.underlying9;have aD:=Tryz.isAgg50;have uD:=Tryz.underlying50;have zD:=Tryz.sizeOf50;have hd:=UI a b c d w;rw[show(10000:Nat)=9999+1 from rfl,run_equalIn_agg w 9999 118 _ _ hS TB];simp only[Program.fieldsOf,Tryz.underlying118]
 go_simp
 by_cases h1:a=c <;> by_cases h2:b=d <;> by_cases h3:s.toList=t.toList <;> simp[h1,h2,h3]
instance :DecidableEq FCh:=fun a b=>decidable_of_iff (a.path=b.path/\a.ho=b.ho/\a.hn=b.hn/\a.old=b.old/\a.new=b.new) ⟨fun h=>by cases a;cases b;simp_all,fun h=>by subst h;simp⟩
theorem O9(A0 A1:OA)(n0 c0 n1 c1 B:Nat)(rs qs:List Fl)(w:VA)(h0:Sl w B 2 A0 n0 (flat flC rs))(h1:Sl w B 2 A1 n1 (flat flC qs))(m0:n0<=maxLen) :
  Calls Tryz.prog 30 #[.slice A0 n0 c0,.slice A1 n1 c1] w fun e w'=>e= .returned (.bool (decide (rs=qs)))/\∃k,w'=w.drewN k:=by
 unfold maxLen at m0;have a:=ai (h0.len iw (by omega));have b:=ai (h1.len iw (by omega));have H0:=ai h0;have H1:=ai h1;clear h0 h1;have hM:Hid (decide (rs=qs)=true↔rs=qs):=decide_eq_true_iff;generalize decide (rs=qs)=mb at *;by_cases hn:n0=n1
 . subst hn
   go_enter Tryz.func30,Tryz.ntmps30
   go_wp2
   go_loopw[5] (fun i wr=>∃k nq:Nat,k<=n0/\i= .int .i64 k/\wr=w.drewN nq/\Hid (rs.take k=qs.take k)) (fun i _=>n0 - (intOf i).toNat)
   case atStart=>exact⟨0,0,ZX _,rfl,rfl,rfl⟩
   case round =>
    obtain⟨k,nq,hk,rfl,rfl,heq⟩:=hrel;by_cases hlt:k<n0
    . obtain⟨b0,o0,r,rfl,_,hr,x0,x1⟩:=H0.o.fl hlt
      obtain⟨b1,o1,q,rfl,_,hq,y0,y1⟩:=H1.o.fl hlt;have HR:=ai hr;have HQ:=ai hq;clear hr hq;have hlz: (k:Int)< (n0:Int):=by omega
      by_cases e:r=q
      . have t1: (r.1.toList == q.1.toList && r.2.toList == q.2.toList)=true:=by rw[e];simp
        have HE:=ai e;clear e;have hnx:Hid (rs.take (k+1)=qs.take (k+1)):=by
         show _=_;rw[aV HR.o,aV HQ.o,heq.o,HE.o]
        go_wp2
        go_quiet(fail)
        go_wp2
        go_roundw
        case rel=>exact⟨k+1,_,by omega,by go_num,rfl,hnx⟩
        case measure=>simp[intOf];omega
      . have t1: (r.1.toList == q.1.toList && r.2.toList == q.2.toList)=false:=by
          rw[Bool.eq_false_iff];intro hh;simp only[Bool.and_eq_true,beq_iff_eq,ByteArray.toList_eq]at hh;apply e
          exact Prod.ext (iR hh.1) (iR hh.2)
        have HE:=ai e;clear e
        go_wp2
        go_quiet(fail)
        go_wp2
        go_ret
        refine⟨bF ?_,⟨_,World.drewN_drewN _ _ _⟩⟩
        symm
        rw[Bool.eq_false_iff];intro hh;have:=hM.o.1 hh;subst this;exact HE.o (Option.some.inj (HR.o.symm.trans HQ.o))
    . have hall:Hid (mb=true):=by
        have:=heq.o;rw[ZU (by rw[a.o];omega),ZU (by rw[b.o];omega)]at this;exact hM.o.2 this
      have hlz:¬(k:Int)< (n0:Int):=by omega
      go_wp2
      go_ret
      exact⟨bF hall.o.symm,_,rfl⟩
 . have hne: ((n0:Int) != (n1:Int))=true:=by rw[bne_iff_ne];omega
   go_enter Tryz.func30,Tryz.ntmps30
   go_wp2
   go_ret
   refine⟨bF ?_,0,rfl⟩
   symm
   rw[Bool.eq_false_iff];intro hh;have:=hM.o.1 hh;subst this;exact hn (a.o.symm.trans b.o)
theorem OB(A0 A1:OA)(n0 c0 n1 c1 B:Nat)(rs qs:List Itm)(w:VA)(h0:Sl w B 3 A0 n0 (flat itC rs))(h1:Sl w B 3 A1 n1 (flat itC qs))(m0:n0<=maxLen) :
  Calls Tryz.prog 20 #[.slice A0 n0 c0,.slice A1 n1 c1] w fun e w'=>e= .returned (.bool (decide (rs=qs)))/\∃k,w'=w.drewN k:=by
 unfold maxLen at m0;have a:=ai (h0.len dD (by omega));have b:=ai (h1.len dD (by omega));have H0:=ai h0;have H1:=ai h1;clear h0 h1;have hM:Hid (decide (rs=qs)=true↔rs=qs):=decide_eq_true_iff;generalize decide (rs=qs)=mb at *;by_cases hn:n0=n1
 . subst hn
   go_enter Tryz.func20,Tryz.ntmps20
   go_wp2
   go_loopw[5] (fun i wr=>∃k nq:Nat,k<=n0/\i= .int .i64 k/\wr=w.drewN nq/\Hid (rs.take k=qs.take k)) (fun i _=>n0 - (intOf i).toNat)
   case atStart=>exact⟨0,0,ZX _,rfl,rfl,rfl⟩
   case round =>
    obtain⟨k,nq,hk,rfl,rfl,heq⟩:=hrel;by_cases hlt:k<n0
    . obtain⟨b0,o0,r,rfl,_,hr,x0,x1,x2⟩:=H0.o.it hlt
      obtain⟨b1,o1,q,rfl,_,hq,y0,y1,y2⟩:=H1.o.it hlt;have HR:=ai hr;have HQ:=ai hq;clear hr hq;have hlz: (k:Int)< (n0:Int):=by omega
      by_cases e:r=q
      . have t1: ((r.1.1 == q.1.1 && r.1.2 == q.1.2) && r.2.toList == q.2.toList)=true:=by rw[e];simp
        have HE:=ai e;clear e;have hnx:Hid (rs.take (k+1)=qs.take (k+1)):=by
         show _=_;rw[aV HR.o,aV HQ.o,heq.o,HE.o]
        go_wp2
        go_quiet(fail)
        go_wp2
        go_roundw
        case rel=>exact⟨k+1,_,by omega,by go_num,rfl,hnx⟩
        case measure=>simp[intOf];omega
      . have t1: ((r.1.1 == q.1.1 && r.1.2 == q.1.2) && r.2.toList == q.2.toList)=false:=by
          rw[Bool.eq_false_iff];intro hh;simp only[Bool.and_eq_true,beq_iff_eq,ByteArray.toList_eq]at hh;apply e
          exact Prod.ext (Prod.ext hh.1.1 hh.1.2) (iR hh.2)
        have HE:=ai e;clear e
        go_wp2
        go_quiet(fail)
        go_wp2
        go_ret
        refine⟨bF ?_,⟨_,World.drewN_drewN _ _ _⟩⟩
        symm
        rw[Bool.eq_false_iff];intro hh;have:=hM.o.1 hh;subst this;exact HE.o (Option.some.inj (HR.o.symm.trans HQ.o))
    . have hall:Hid (mb=true):=by
        have:=heq.o;rw[ZU (by rw[a.o];omega),ZU (by rw[b.o];omega)]at this;exact hM.o.2 this
      have hlz:¬(k:Int)< (n0:Int):=by omega
      go_wp2
      go_ret
      exact⟨bF hall.o.symm,_,rfl⟩
 . have hne: ((n0:Int) != (n1:Int))=true:=by rw[bne_iff_ne];omega
   go_enter Tryz.func20,Tryz.ntmps20
   go_wp2
   go_ret
   refine⟨bF ?_,0,rfl⟩
   symm
   rw[Bool.eq_false_iff];intro hh;have:=hM.o.1 hh;subst this;exact hn (a.o.symm.trans b.o)
abbrev St:=VD×Bool
def rn(st:St):Nat×St:=if st.2=true∨ (aA st.1).2.2≠0 then(0,st.1,true) else((aA st.1).1,st.1.drop (aA st.1).2.1,false)
def pw(k t:Nat)(j:Nat):Bool:=decide (j<8*k∨ (8*k+8 - t<=j/\j<8*k+8))
def IU(n:Nat)(p:List Itm)(w:VA)(e:Ending)(w':VA):Prop:=∃r:Bool,e= .returned (.bool r)/\ (r=false->n<=40/\∀i∈p,i.2.size<=500)/\w=w'
theorem Nk(A:OA)(n c B:Nat)(p:List Itm)(w:VA)(h0:Sl w B 3 A n (flat itC p))(hn:n<=maxLen)(hs:∀i∈p,i.2.size<=maxLen) :
  Calls Tryz.prog 120 #[.slice A n c] w (IU n p w):=by
 unfold maxLen at hn;have a:=ai (h0.len dD (by omega));have H0:=ai h0;clear h0;have HS:=ai hs;clear hs
 go_enter Tryz.func120,Tryz.ntmps120
 by_cases hbig: (40:Int)< (n:Int)
 . go_wp2
   go_ret
   exact⟨true,rfl,(fun e=>by cases e),rfl⟩
 go_wp2
 go_loopw[3] (fun i wr=>∃k:Nat,k<=n/\i= .int .i64 k/\wr=w/\Hid (∀f∈p.take k,f.2.size<=500)) (fun i _=>n - (intOf i).toNat)
 case atStart=>exact⟨0,ZX _,rfl,rfl,fun y hy=>by simp at hy⟩
 case round =>
  obtain⟨k,hk,rfl,rfl,hN⟩:=hrel;by_cases hlt:k<n
  . obtain⟨b,off,f,rfl,hb,hf,y0,y1,y2⟩:=H0.o.it hlt
    have hkz: (k:Int)< (n:Int):=by omega
    have hf2:f.2.size<=9223372036854775807:=by have:=HS.o f (Z7 hf);unfold maxLen at this;exact this
    have HF:=ai hf;clear hf;by_cases c2: (500:Int)< (f.2.size:Int)
    . go_wp2
      go_ret
      exact⟨true,rfl,(fun e=>by cases e),rfl⟩
    have HN:Hid (∀f∈p.take (k+1),f.2.size<=500):=fun y hy=>by
     rw[aV HF.o]at hy;rcases List.mem_append.1 hy with hy | hy
     . exact hN.o y hy
     . rw[List.mem_singleton.1 hy];omega
    go_wp2
    go_roundw
    case rel=>exact⟨k+1,hlt,by go_num,trivial,HN.o⟩
    case measure=>simp[intOf];omega
  . have hkz:¬(k:Int)< (n:Int):=by omega
    have HN:Hid (∀f∈p,f.2.size<=500):=by
     have:=hN.o
     rwa[ZU (by rw[a.o];omega)]at this
    go_wp2
    go_ret
    exact⟨false,rfl,(fun _=>⟨by omega,HN.o⟩),rfl⟩
section
open Go.Maps
def IM(n:Nat)(fs:List Fl)(w:VA)(e:Ending)(w':VA):Prop:=∃r:Bool,e= .returned (.bool r)/\ (r=false->n<=10/\∀f∈fs,f.1.size<=120/\f.2.size<=200)/\w=w'
theorem MJ(A:OA)(n c B:Nat)(fs:List Fl)(w:VA)(h0:Sl w B 2 A n (flat flC fs))(hn:n<=maxLen)(hs:∀f∈fs,f.1.size<=maxLen/\f.2.size<=maxLen) :
  Calls Tryz.prog 65 #[.slice A n c] w (IM n fs w):=by
 unfold maxLen at hn;have a:=ai (h0.len iw (by omega));have H0:=ai h0;clear h0;have HS:=ai hs;clear hs
 go_enter Tryz.func65,Tryz.ntmps65
 by_cases hbig: (10:Int)< (n:Int)
 . go_wp2
   go_ret
   exact⟨true,rfl,(fun e=>by cases e),rfl⟩
 go_wp2
 go_loopw[3] (fun i wr=>∃k:Nat,k<=n/\i= .int .i64 k/\wr=w/\Hid (∀f∈fs.take k,f.1.size<=120/\f.2.size<=200)) (fun i _=>n - (intOf i).toNat)
 case atStart=>exact⟨0,ZX _,rfl,rfl,fun y hy=>by simp at hy⟩
 case round =>
  obtain⟨k,hk,rfl,rfl,hN⟩:=hrel;by_cases hlt:k<n
  . obtain⟨b,off,f,rfl,hb,hf,y0,y1⟩:=H0.o.fl hlt
    have hkz: (k:Int)< (n:Int):=by omega
    have hfs:=HS.o f (Z7 hf);have hf1:f.1.size<=9223372036854775807:=by have:=hfs.1;unfold maxLen at this;exact this
    have hf2:f.2.size<=9223372036854775807:=by have:=hfs.2;unfold maxLen at this;exact this
    have HF:=ai hf;clear hf hfs;by_cases c1: (120:Int)< (f.1.size:Int)
    . go_wp2
      go_ret
      exact⟨true,rfl,(fun e=>by cases e),rfl⟩
    by_cases c2: (200:Int)< (f.2.size:Int)
    . go_wp2
      go_ret
      exact⟨true,rfl,(fun e=>by cases e),rfl⟩
    have HN:Hid (∀f∈fs.take (k+1),f.1.size<=120/\f.2.size<=200):=fun y hy=>by
     rw[aV HF.o]at hy;rcases List.mem_append.1 hy with hy | hy
     . exact hN.o y hy
     . rw[List.mem_singleton.1 hy];exact⟨by omega,by omega⟩
    go_wp2
    go_roundw
    case rel=>exact⟨k+1,hlt,by go_num,trivial,HN.o⟩
    case measure=>simp[intOf];omega
  . have hkz:¬(k:Int)< (n:Int):=by omega
    have HN:Hid (∀f∈fs,f.1.size<=120/\f.2.size<=200):=by
     have:=hN.o
     rwa[ZU (by rw[a.o];omega)]at this
    go_wp2
    go_ret
    exact⟨false,rfl,(fun _=>⟨by omega,HN.o⟩),rfl⟩
end
theorem LC(A0 A1:OA)(n0 c0 n1 c1 B:Nat)(p:List Itm)(us:List Upd)(w:VA)(h0:Sl w B 3 A0 n0 (flat itC p))(h1:Sl w B 5 A1 n1 (flat upC us))(m0:n0<=maxLen)(m1:n1<=maxLen)(hs:∀i∈p,i.2.size<=maxLen) :
  Calls Tryz.prog 64 #[.slice A0 n0 c0,.slice A1 n1 c1] w fun e w'=>∃r:Bool,e= .returned (.bool r)/\ (r=false->p.length<=40/\ (∀i∈p,i.2.size<=500)/\us.length<=12/\∀u∈us,u.1.size<=150)/\w=w':=by
 have HL:=ai (h0.len dD (by unfold maxLen at m0;omega));have HG:=ai (Nk A0 n0 c0 B p w h0 m0 hs);unfold IU at HG;have HM:=ai (MP A1 n1 c1 B us w h1 m1);obtain⟨mb,hmb⟩:=NX9 (qK us)
 rw[hmb]at HM;have a:=ai hmb;clear h0 h1 m0 m1 hs hmb
 go_enter Tryz.func64,Tryz.ntmps64
 go_wp2_with fail;refine HG.o.mono ?_;rintro e w1 ⟨g,rfl,hg,rfl⟩;have b:=ai hg;clear hg HG;cases g with
 | true =>
   go_wp2_with fail;go_ret
   exact⟨true,rfl,(fun h=>by cases h),rfl⟩
 | false =>
   go_wp2_with fail;refine HM.o.mono ?_;rintro e w1 ⟨rfl,rfl⟩;go_wp2_with fail;go_ret
   refine⟨mb,rfl,fun h=>?_,rfl⟩;have h1:=b.o (by simp);have h2:=a.o;rw[h]at h2;unfold qK at h2;simp only[Bool.or_eq_false_iff,decide_eq_false_iff_not]at h2;refine⟨by rw[HL.o];exact h1.1,h1.2,by omega,fun u hu=>?_⟩;have:=(List.any_eq_false.1 h2.1) u hu
   simpa using this
theorem NR(r q:Rp)(s t:Rsl)(B:Nat)(w:VA)(h0:RpM w B r s)(h1:RpM w B q t)(hB:B<=w.heap.size)(m0:r.p.length<=maxLen)(m1:r.rs.length<=maxLen)(m2:r.lg.length<=maxLen) :
  Calls Tryz.prog 23 #[rpV r s,rpV q t] w fun e w'=>e= .returned (.bool (decide (r.p=q.p) && (decide (r.rs=q.rs) && decide (r.lg=q.lg))))/\VE w w':=by
 obtain⟨W,hW⟩:=NX9 ((w.alloc (.cells (rpC r s) 35)).alloc (.cells (rpC q t) 35))
 have HB0:VF w W:=by rw[<-hW];exact((ah _ w).alloc aj _).alloc (by simp) _
 have HK:Hid (Bk W w.heap.size 35 (rpC r s)):=by rw[<-hW];exact(Bk.new w _ _).alloc _
 have HZ:Hid (Bk W (w.heap.size+1) 35 (rpC q t)):=by rw[<-hW];exact(Bk.new _ _ _).at_ (by simp)
 have HS:=ai (OB s.pA t.pA r.p.length s.pc q.p.length t.pc B r.p q.p W (h0.p.below HB0.o hB) (h1.p.below HB0.o hB) m0);have HE:=ai (fun k=>NG s.rA s.lA t.rA t.lA r.rs.length s.rc r.lg.length s.lc q.rs.length t.rc q.lg.length t.lc B r.rs q.rs r.lg q.lg (W.drewN k) ((h0.rf.below HB0.o hB).drewN k) ((h0.l.below HB0.o hB).drewN k) ((h1.rf.below HB0.o hB).drewN k) ((h1.l.below HB0.o hB).drewN k) (ZY hB HB0.o.size) m1 m2);have HW:=ai hW;obtain⟨b1,hb1⟩:=NX9 (decide (r.p=q.p))
 obtain⟨b2,hb2⟩:=NX9 ((decide (r.rs=q.rs) && decide (r.lg=q.lg)))
 rw[hb1]at HS;rw[hb2]at HE;rw[hb1,hb2];simp only[rpV,rpC]at HK HZ HW ⊢;clear hW h0 h1 hB m0 m1 m2 hb1 hb2;obtain⟨_,k4,k5,k6⟩:=HK.o.seven;obtain⟨_,z4,z5,z6⟩:=HZ.o.seven
 go_enter Tryz.func23,Tryz.ntmps23
 go_wp2_with fail;rw[HW.o];refine HS.o.mono ?_;rintro e w1 ⟨rfl,k,rfl⟩;cases b1 with
 | false =>
   go_wp2_with fail;go_ret
   exact⟨rfl,cZ HB0.o _⟩
 | true =>
   go_wp2_with fail;refine(HE.o k).mono ?_;rintro e w2 ⟨rfl,hb⟩;have HB2:VF w w2:=(cZ HB0.o k).trans (hb.mono (cZ HB0.o k).size);clear hb;go_wp2_with fail;go_ret
   exact⟨rfl,HB2.o⟩
def zV(x:Ac)(w:VA)(e:Ending)(w':VA):Prop:=∃r:Bool,e= .returned (.bool r)/\ (r=true->AcF x)/\VE w w'
theorem EO(x:AcX)(B:Nat)(w:VA)(h:AcM w B x)(hx:AcB x.1)(hB:B<=w.heap.size) :
  Calls Tryz.prog 25 #[.agg (acA x)] w (zV x.1 w):=by
 obtain⟨W,hW⟩:=NX9 (w.alloc (.cells (acA x) 65))
 have HB0:VF w W:=by rw[<-hW];exact(ah _ w).alloc aj _
 have HK:Hid (Bk W w.heap.size 65 (acA x)):=by rw[<-hW];exact Bk.new w _ _
 have HM:=h.below HB0.o hB;have HG:=ai (LC x.2.pA x.2.uA x.1.pl.length x.2.pc x.1.us.length x.2.uc B x.1.pl x.1.us W HM.p HM.u hx.pn hx.un (fun i hi=>(hx.ps i hi).2));have HF:=ai (MJ x.2.fA x.1.fs.length x.2.fc B x.1.fs W HM.f hx.fn hx.fs);unfold IM at HF;have HX:=ai hx;have HW:=ai hW;clear hW h hB HM hx;simp only[acA]at HK HW ⊢;obtain⟨⟨k0,k1,k2,k3⟩,k4,k5,k6⟩:=HK.o.seven;have hnm:x.1.nm.size<=9223372036854775807:=by have:=HX.o.nm;unfold maxLen at this;exact this
 go_enter Tryz.func25,Tryz.ntmps25
 go_wp2_with fail;rw[HW.o];refine HG.o.mono ?_;rintro e w1 ⟨g,rfl,hg,rfl⟩;have a:=ai hg;clear hg HG;cases g with
 | true =>
   go_wp2_with fail;go_ret
   exact⟨false,rfl,(fun h=>by cases h),HB0.o⟩
 | false =>
   go_wp2_with fail;refine HF.o.mono ?_;rintro e w1 ⟨f,rfl,hf,rfl⟩;have b:=ai hf;clear hf HF;cases f with
   | true =>
     go_wp2_with fail;go_ret
     exact⟨false,rfl,(fun h=>by cases h),HB0.o⟩
   | false =>
     by_cases hk: (x.1.pk.length:Int)<=20
     . go_wp2_with fail
       go_ret
       refine⟨_,rfl,fun h=>?_,HB0.o⟩;have hn:=of_decide_eq_true h;obtain⟨a1,a2,a3,a4⟩:=a.o (by simp);obtain⟨f1,f2⟩:=b.o (by simp);exact⟨a1,a2,fun i hi=>(HX.o.ps i hi).1,a3,a4,fun u hu=>(HX.o.us u hu).2,f1,f2,by omega,by omega,HX.o.lm⟩
     . go_wp2_with fail
       go_ret
       exact⟨false,rfl,(fun h=>by cases h),HB0.o⟩
theorem yK{fn:Func}{c:Tmp}(h:fn.results= #[.cell c 35]){w:VA}{b:Nat}{a:Array VC}{x0 x1 x2 x3 x4 x5 x6:VC}(h1:a[c]?.getD undef= .pointer (some ⟨b,0,none⟩))(hk:Bk w b 35 #[x0,x1,x2,x3,x4,x5,x6]) :
  (results fn a).run Tryz.prog w= .ok (.agg #[x0,x1,x2,x3,x4,x5,x6]) w:=by
 obtain⟨⟨e0,e1,e2,e3⟩,e4,e5,e6⟩:=hk.seven;simp[results,h,h1,go_sem,e0,e1,e2,e3,e4,e5,e6]
theorem RpM.pow{w:VA}{B:Nat}{r:Rp}{s:Rsl}(h:RpM w B r s)(x:Int):RpM w B (jk r x) s:=by
 unfold jk;split
 . exact⟨⟨h.d.ss,h.d.pn⟩,h.p,h.rf,h.l,h.pc,h.pm⟩
 . exact h
theorem NS(r:Rp)(s:Rsl)(x:Int)(B:Nat)(w:VA)(h:RpM w B r s)(hB:B<=w.heap.size) :
  Calls Tryz.prog 27 #[rpV r s,.int .i64 x] w fun e w'=>e= .returned (rpV (jk r x) s)/\RpM w' w'.heap.size (jk r x) s/\VE w w':=by
 have hb:∀o1 o2,VE w ((w.alloc o1).alloc o2):=fun _ _=>((ah _ w).alloc aj _).alloc (by simp) _;have a:Hid (∀w',VE w w'->RpM w' w'.heap.size (jk r x) s):=fun w' hb=>((h.below hb hB).more (ZY hB hb.size)).pow x;clear h;by_cases hl:r.d.lf= -1
 . by_cases hx:0<=x
   . have HP:Hid (jk r x={r with d:={r.d with lf:=x % 40}}):=if_pos ⟨hl,hx⟩
     rw[HP.o]at a ⊢;simp only[rpV,rpC]at a ⊢;rw[hl];clear hl HP
     go_enter Tryz.func27,Tryz.ntmps27
     go_wp2_with fail;exact ZW (yK Tryz.results27 rfl ((Bk.new _ _ _).at_ (by simp))) rfl ⟨rfl,a.o _ (hb _ _),hb _ _⟩
   . have HP:Hid (jk r x=r):=if_neg (fun h=>hx h.2)
     rw[HP.o]at a ⊢;simp only[rpV,rpC]at a ⊢;rw[hl];clear hl HP
     go_enter Tryz.func27,Tryz.ntmps27
     go_wp2_with fail;exact ZW (yK Tryz.results27 rfl ((Bk.new _ _ _).at_ (by simp))) rfl ⟨rfl,a.o _ (hb _ _),hb _ _⟩
 . have HP:Hid (jk r x=r):=if_neg (fun h=>hl h.1)
   have hlb: (r.d.lf == -1)=false:=by rw[beq_eq_false_iff_ne];exact hl
   rw[HP.o]at a ⊢;simp only[rpV,rpC]at a ⊢;clear HP
   go_enter Tryz.func27,Tryz.ntmps27
   go_wp2_with fail;exact ZW (yK Tryz.results27 rfl ((Bk.new _ _ _).at_ (by simp))) rfl ⟨rfl,a.o _ (hb _ _),hb _ _⟩
