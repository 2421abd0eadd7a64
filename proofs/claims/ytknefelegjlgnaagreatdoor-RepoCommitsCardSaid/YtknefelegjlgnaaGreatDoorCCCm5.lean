/-Lemmas.-/
import Derived.Deep.Upon
import Derived.Test.YtknefelegjlgnaaGreatDoorCCCm4
set_option maxRecDepth 100000
set_option maxHeartbeats 2000000
namespace Go.Proofs.YtknefelegjlgnaaGreatDoor
open Go.RowKit
section
open Go.RowKit Go.Shelf
attribute [local go_sem] Oper.semAt_some
def qP(lo:Nat)(A B:VA):Prop:=B.heap[lo]? =A.heap[lo]?
theorem SK{lo:Nat}{A B C:VA}(h:qP lo A B)(k:qP lo B C):qP lo A C:=k.trans h
theorem OH{lo m:Nat}(h:lo<m)(W:VA)(l:Nat)(o:Obj)(hl:m<=l):qP lo W (W.putObj l o):=World.putObj_heap_other (by omega)
def StB(lo:Nat)(A B:VA):Prop:=∃v,B=A.setCell ⟨lo,0,none⟩ (.int .i64 v)
theorem LW{lo:Nat}(A B:VA)(h:StB lo A B):KeepsOthers A B:=by
 obtain⟨v,rfl⟩:=h;exact KeepsOthers.setCell _ _ _
def numAt(lo:Nat)(w:VA):Nat:=match w.cell? ⟨lo,0,none⟩ with
 | some (.int _ n)=>n.toNat
 | _=>0
theorem Em{lo:Nat}{w:VA}{n:Nat}(h:w.heap[lo]? =some (.cells #[.int .i64 n] 3 (0,0))):numAt lo w=n:=by
 have:=cell_of_one h;simp[numAt,this]
theorem NJ(n lo:Nat)(hn:1<=n)(m:Nat)(w:VA)(hm:m<=9223372036854775807)(hlo:lo<w.heap.size)(h0:w.heap[lo]? =some (.cells #[.int .i64 m] 3 (0,0))) :
  Ah Fence.wide n Tryz.prog 295 #[.pointer (some ⟨lo,0,none⟩)] (fun x:UInt8=> #[.int .u8 x.toNat]) (qP lo) (StB lo)
   (fun pre=>∃r,pre++r=ak m) (fun xs=>xs=ak m) (fun pre=>∃r,pre++r=ak m) w:=fun l J Jx W hW hJ hY hJ0=>by
 have g0:W.heap[lo]? =some (.cells #[.int .i64 m] 3 (0,0)):=(hW.block lo (by omega)).trans h0;clear hW h0;have G0:=ai g0;have HJ:=ai hJ;have f:=ai hY;have b:=ai hJ0;clear g0 hJ hY hJ0;refine callsIn_of_wp Tryz.func295 rfl trivial ?_ rfl;simp only[Tryz.ntmps295,List.size_toArray,Z4,List.length_nil,Nat.reduceAdd,Nat.reduceSub,Array.replicate_succ,Array.replicate_zero,List.push_toArray,List.append_toArray,List.nil_append,List.cons_append]
 gi_wp2_with fail
 gi_loopw [3,4] (fun _ _ wr=>∃(pre:VD)(c:Nat),c<=9223372036854775807/\Hid (wr.heap[lo]? =some (.cells #[.int .i64 c] 3 (0,0)))/\Hid (pre++ak c=ak m)/\J pre wr)
  (fun _ _ wr=>numAt lo wr)
 case atStart=>exact⟨[],m,hm,G0,rfl,b.o⟩
 case round =>
  obtain⟨pre,c,hc,k0,hsp,hj⟩:=hrel;have d0:=cell_of_one k0.o;have f0:=free_of_one k0.o;have a:=ai hj;clear hj;by_cases hs:c<128
  . have e8:=lF (n:=c) (by omega)
    obtain⟨fn,tmps,assign,body,hy,hR⟩:=f.o pre (UInt8.ofNat c) wr ⟨[],by rw[List.append_nil,<-hsp.o,eH hs]⟩ a.o;rw[e8]at hy;have HR:=ai hR;have HE:=ai (eH hs);clear hR e8;have hci:¬(128:Int)<= (c:Int):=by omega
    gi_wp2
    refine HR.o.mono ?_;rintro e W3 (⟨rfl,hJ3,_⟩ | ⟨rfl,hJx3⟩)
    . gi_wp2
      go_end0
      exact⟨⟨_,rfl⟩,.inl ⟨pre++ [UInt8.ofNat c],by rw[<-hsp.o,HE.o],hJ3⟩⟩
    . gi_wp2
      go_end0
      exact⟨⟨_,rfl⟩,.inr ⟨pre++ [UInt8.ofNat c],⟨[],by rw[<-hsp.o,HE.o,List.append_nil]⟩,hJx3⟩⟩
  . have e8:=lF (n:=c % 128+128) (by omega)
    have ei: (((UInt8.ofNat (c % 128+128)).toNat:Nat):Int)= (c:Int) % 128+128:=by rw[e8];omega
    obtain⟨fn,tmps,assign,body,hy,hR⟩:=f.o pre (UInt8.ofNat (c % 128+128)) wr ⟨ak (c / 128),by rw[<-hsp.o,lK hs,ZZ];rfl⟩ a.o;rw[ei]at hy;have HR:=ai hR;have HE:=ai (lK hs);clear hR e8 ei;have hci: (128:Int)<= (c:Int):=by omega
    gi_wp2
    refine HR.o.mono ?_;rintro e W3 (⟨rfl,hJ3,hK3⟩ | ⟨rfl,hJx3⟩)
    . have m0:W3.heap[lo]? =some (.cells #[.int .i64 c] 3 (0,0)):=hK3.trans k0.o
      have e0:=cell_of_one m0;have q0:=free_of_one m0;have M0:=ai m0;have d:=ai hJ3;clear m0 hJ3 hK3 d0 f0
      gi_wp2
      go_roundw
      case rel =>
       refine⟨pre++ [UInt8.ofNat (c % 128+128)],c / 128,by omega,one_setCell M0.o,?_,HJ.o _ _ _ d.o ⟨_,rfl⟩⟩;show _=_;rw[<-hsp.o,HE.o,ZZ];rfl
      case measure =>
       have hq:=one_setCell (u:= .int .i64 ((c / 128:Nat):Int)) M0.o;rw[show(c:Int) / 128= ((c / 128:Nat):Int) by omega,Em hq,Em k0.o];omega
    . gi_wp2
      refine ZW (results_none rfl _ _ _) rfl ?_;exact⟨⟨_,rfl⟩,.inr ⟨pre++ [UInt8.ofNat (c % 128+128)],⟨ak (c / 128),by rw[<-hsp.o,HE.o,ZZ];rfl⟩,hJx3⟩⟩
theorem L8(m:Int)(w:VA) :
  Calls Tryz.prog 251 #[.int .i64 m] w fun e w'=>e= .returned (.func (.func 295) #[] #[.pointer (some ⟨w.heap.size,0,none⟩)])/\w'=w.alloc (.cells #[.int .i64 m] 3):=by
 go_enter Tryz.func251,Tryz.ntmps251
 go_wp2
 go_ret
 exact⟨rfl,rfl⟩
theorem BN{B b:Nat}{p:VC}{bs:List VC}{W W':VA}{row:Option Nat}(h:Lib.BuilderAt 215 5 B b p bs W)(hg:W.grownBy W' row)(hr:∀r,row=some r->∃o:Obj,W.heap[r]? =some o/\o.isCells=false):Lib.BuilderAt 215 5 B b p bs W':=by
 obtain⟨hB,v,hb,hown,hne⟩:=h;have key:∀(k:Nat)(cs:Array VC)(t:TypeId)(fr:Nat×Nat),W.heap[k]? =some (Obj.cells cs t fr)->W'.heap[k]? =some (Obj.cells cs t fr):=fun k cs t fr hk =>
  (hg.block k (Array.getElem?_eq_some_iff.1 hk).1 (fun e=>by
    obtain⟨o,ho,hc⟩:=hr k e.symm;rw[ho]at hk;cases hk;cases hc)).trans hk
 refine⟨hB,v,key _ _ _ _ hb,⟨hown.1,?_⟩,hne⟩;rcases hown.2 with h0 | ⟨g,cap,cur,hv,h1,hh,h2⟩
 . exact .inl h0
 . exact .inr ⟨g,cap,cur,hv,h1,key _ _ _ _ hh,h2⟩
theorem vG{B b:Nat}{bs:List VC}{W W':VA}{row:Option Nat}(h:Lib.IsBuilder 215 5 B b bs W)(hg:W.grownBy W' row)(hr:∀r,row=some r->∃o:Obj,W.heap[r]? =some o/\o.isCells=false):Lib.IsBuilder 215 5 B b bs W':=by
 rcases h with h | h
 . exact .inl (BN h hg hr)
 . exact .inr (BN h hg hr)
theorem JV{B b lo:Nat}{bs:List VC}{W:VA}{v u:VC}(h:Lib.IsBuilder 215 5 B b bs W)(hlo:W.heap[lo]? =some (.cells #[v] 3 (0,0))):Lib.IsBuilder 215 5 B b bs (W.setCell ⟨lo,0,none⟩ u):=by
 have key:∀(k:Nat)(cs:Array VC)(t:TypeId)(fr:Nat×Nat),t≠3->W.heap[k]? =some (Obj.cells cs t fr)-> (W.setCell ⟨lo,0,none⟩ u).heap[k]? =some (Obj.cells cs t fr):=fun k cs t fr h3 hk =>
  (Z8 W ⟨lo,0,none⟩ u k (fun e=>by
    have e':k=lo:=e;rw[e',hlo]at hk;simp only[Option.some.injEq,Obj.cells.injEq]at hk;exact h3 hk.2.1.symm)).trans hk
 have one:∀p,Lib.BuilderAt 215 5 B b p bs W->Lib.BuilderAt 215 5 B b p bs (W.setCell ⟨lo,0,none⟩ u):=by
  rintro p ⟨hB,v',hb,hown,hne⟩;refine⟨hB,v',key _ _ _ _ (by decide) hb,⟨hown.1,?_⟩,hne⟩;rcases hown.2 with h0 | ⟨g,cap,cur,hv,h1,hh,h2⟩
  . exact .inl h0
  . exact .inr ⟨g,cap,cur,hv,h1,key _ _ _ _ (by decide) hh,h2⟩
 rcases h with h | h
 . exact .inl (one _ h)
 . exact .inr (one _ h)
theorem AB{B b:Nat}{bs:List VC}{W:VA}(h:Lib.IsBuilder 215 5 B b bs W)(o:Obj):Lib.IsBuilder 215 5 B b bs (W.alloc o) :=
 vG h (World.grownBy_alloc W o none) (fun r e=>by cases e)
theorem JL(l:VD)(x:UInt8):Lib.byteCells l++ [.int .u8 x.toNat]=Lib.byteCells (l++ [x]):=by simp[Lib.byteCells]
theorem vF(l:VD): (Lib.byteCells l).length=l.length:=by simp[Lib.byteCells]
theorem rD(B b:Nat)(bs:VD)(m:Nat)(w:VA)(h:Lib.IsBuilder 215 5 B b (Lib.byteCells bs) w)(hBw:B<=w.heap.size)(hm:m<=1099511627776)(hlen:bs.length<=1099511627776) :
  Calls Tryz.prog 177 #[.pointer (some ⟨b,0,none⟩),.int .i64 m] w fun e w'=>e= .returned (.tuple #[])/\Lib.IsBuilder 215 5 B b (Lib.byteCells (bs++ak m)) w'/\Below B w w':=by
 refine(callsIn_wide (n:=6)).1 ?_;have a:Fence.wide.fn 251:=trivial;have d:Fence.wide.fn 252:=trivial;have HH:=ai h;clear h;refine callsIn_of_wp_marks Tryz.func177 rfl trivial ?_ rfl;simp only[Tryz.ntmps177,List.size_toArray,Z4,List.length_nil,Nat.reduceAdd,Nat.reduceSub,Array.replicate_succ,Array.replicate_zero,List.push_toArray,List.append_toArray,List.nil_append,List.cons_append]
 gi_wp2_with (gi_at_call 251;refine(callsIn_wide.2 (L8 _ _)).mono ?_;rintro e w' ⟨rfl,rfl⟩)
 obtain⟨W0,hW0⟩:=NX9 ((w.alloc (.cells #[.pointer (some ⟨b,0,none⟩)] 212)).alloc (.cells #[.int .i64 m] 3))
 have hz:W0.heap.size=w.heap.size+2:=by rw[<-hW0];simp
 have g0:W0.heap[w.heap.size]? =some (.cells #[.pointer (some ⟨b,0,none⟩)] 212 (0,0)):=by
  rw[<-hW0];exact(Below.heap_alloc _ _ _ (by simp)).trans (World.alloc_heap_new w _)
 have g1:W0.heap[w.heap.size+1]? =some (.cells #[.int .i64 m] 3 (0,0)):=by
  rw[<-hW0];have:=World.alloc_heap_new (w.alloc (.cells #[.pointer (some ⟨b,0,none⟩)] 212)) (.cells #[.int .i64 m] 3);rwa[Z9]at this
 have hb0:Below B w W0:=by
  rw[<-hW0];exact((ah _ w).alloc hBw _).alloc (by simp;omega) _
 have hbd:Lib.IsBuilder 215 5 B b (Lib.byteCells bs) W0:=by
  rw[<-hW0];exact AB (AB HH.o _) _
 rw[hW0];refine vS (F:=Fence.wide) (n:=6) rfl (by omega) (gf:=295) (lb:=#[.pointer (some ⟨w.heap.size+1,0,none⟩)]) rfl trivial (enters_of Tryz.func295 (by kernel_rfl) rfl)
  (NJ 5 (w.heap.size+1) (by omega) m W0 (by omega) (by omega) g1) SK (fun W l o hl=>OH (m:=w.heap.size+2) (by omega) W l o (by omega)) LW (ah _ _) (fun _=>rfl)
  (fun pre W=>W.heap[w.heap.size]? =some (.cells #[.pointer (some ⟨b,0,none⟩)] 212 (0,0))/\ (∃c,W.heap[w.heap.size+1]? =some (.cells #[.int .i64 c] 3 (0,0)))/\Lib.IsBuilder 215 5 B b (Lib.byteCells (bs++pre)) W/\Below B w W)
  (fun _ _ _=>False) ?hI ?hIx ?hIS ⟨g0,⟨_,g1⟩,by rw[List.append_nil];exact hbd,hb0⟩
  (fun x=>{tmps:=#[.pointer (some ⟨b,0,none⟩),.int .i64 m,.pointer (some ⟨w.heap.size,0,none⟩),undef,.int .u8 x.toNat,.int .i64 m,.func (.func 295) #[] #[.pointer (some ⟨w.heap.size+1,0,none⟩)],.int .u8 x.toNat,undef,undef,undef],defers:= []}) ?assign ?body ?done ?stop
 case hI =>
  rintro pre A C row ⟨h1,⟨c,h2⟩,h3,h4⟩ hg hr;have hnc:∀r,row=some r->∃o:Obj,A.heap[r]? =some o/\o.isCells=false:=fun r e=>(hr r e).2;have key:∀(k:Nat)(v:VC)(t:TypeId),A.heap[k]? =some (Obj.cells #[v] t (0,0))->C.heap[k]? =some (Obj.cells #[v] t (0,0)):=fun k v t hk =>
   (hg.block k (lt_of_block hk) (fun e=>by
     obtain⟨o,ho,hc⟩:=hnc k e.symm;rw[ho]at hk;cases hk;cases hc)).trans hk
  exact⟨key _ _ _ h1,⟨c,key _ _ _ h2⟩,vG h3 hg hnc,h4.grown hg (ZY hBw h4.size) (fun k e=>by have:=(hr _ e).1;omega)⟩
 case hIx=>rintro c pre A C row hf _ _;exact hf
 case hIS =>
  rintro pre A C ⟨h1,⟨c,h2⟩,h3,h4⟩ ⟨v,rfl⟩;exact⟨(Z8 _ _ _ _ (by simp)).trans h1,⟨v,one_setCell h2⟩,JV h3 h2,h4.setCell (p:=⟨w.heap.size+1,0,none⟩) (by show B<=w.heap.size+1;omega) _⟩
 case assign =>
  intro l x W K hK
  gi_wp2
  exact hK
 case body =>
  rintro l pre x W ⟨r,hr⟩ ⟨h1,⟨c,h2⟩,h3,h4⟩;have c0:=cell_of_one h1;have hpl:pre.length+1<=6:=by
   have e1:=congrArg List.length hr;have e2:=gy 5 m (by omega);simp at e1;omega
  have H1:=ai h1;have H2:=ai h2;have H3:=ai h3;have H4:=ai h4;clear h1 h2 h3 h4 g0 g1 hb0 hW0 hz hbd hr
  gi_wp2_with (gi_at_call 252;refine(CallsIn.inRound l (callsIn_wide.2 (JR B b (Lib.byteCells (bs++pre)) _ _ H3.o (by rw[vF,af];omega) (ZY hBw H4.o.size)))).mono ?_;rintro e w' ⟨rfl,k1,k2,k3⟩)
  refine⟨k3.others,?_,?_⟩
  . show _=_
    rw[k3.same _ _ _ _ (by decide) (by decide) H2.o,H2.o]
  . refine⟨k3.same _ _ _ _ (by decide) (by decide) H1.o,⟨c,k3.same _ _ _ _ (by decide) (by decide) H2.o⟩,?_,H4.o.trans k2⟩
    rw[JL,ZZ]at k1;exact .inr k1
 case done =>
  rintro D xs W hD rfl ⟨h1,_,h3,h4⟩ hK;have H3:=ai h3;have H4:=ai h4;have HK:=ai hK;clear h1 h3 h4 hK
  gi_wp2
  refine⟨by simp,.inl ⟨_,_,rfl,run_takeDeferred HK.o,?_⟩⟩;refine⟨_,results_none rfl _ _ _,rfl,?_,?_⟩
  . exact vG H3.o (grownBy_putObj' _ _ _) (fun r e=>by cases e;exact⟨_,HK.o,rfl⟩)
  . exact H4.o.grown (grownBy_putObj' _ _ _) (ZY hBw H4.o.size) (fun k e=>by cases e;omega)
 case stop =>
  rintro D c pre W hD hS hf hK;exact hf.elim
end
theorem BU(s:VB):Lib.strCells s=Lib.byteCells (toL s):=by simp[Lib.strCells,Lib.byteCells,toL]
theorem KO(n:Nat)(hn:n<=1099511627776)(w:VA):Calls Tryz.prog 176 #[.int .i64 n] w fun e w'=>e= .returned (.bool true)/\w=w':=by
 have h0: (0:Int)<= (n:Int):=by omega
 have h1: (n:Int)<=1099511627776:=by omega
 go_enter Tryz.func176,Tryz.ntmps176
 go_wp2
 go_ret
 exact⟨rfl,rfl⟩
theorem rQ(n:Nat)(hn:n<=1099511627776)(w:VA) :
  Calls Tryz.prog 107 #[.int .i64 n] w fun e w'=>e= .returned (.tuple #[.string (ofL (ak n)),.int .i64 0])/\VE w w':=by
 go_enter Tryz.func107,Tryz.ntmps107
 go_wp2_with (go_at_call 176;refine(KO n hn _).mono ?_;rintro e w' ⟨rfl,rfl⟩)
 have hb:=Lib.fresh_isBuilder 215 5 w;refine(rD w.heap.size w.heap.size [] n _ hb (by simp) hn (by simp)).mono ?_;rintro e w1 ⟨rfl,h1,hb1⟩;rw[List.nil_append]at h1;have H1:=ai h1;have HB1:VF w w1:=((ah _ w).alloc aj _).trans hb1;clear hb hb1 h1;go_wp2_with fail;refine(Tryz.Builder_String_any w.heap.size w.heap.size (ak n) _ H1.o HB1.o.size).mono ?_;rintro e w2 ⟨rfl,hb2⟩;have HB2:=ai (HB1.o.trans hb2);clear hb2;go_wp2_with fail;go_ret2
 exact⟨rfl,HB2.o⟩
theorem BI(s:VB)(hs:s.size<=65536)(w:VA) :
  Calls Tryz.prog 178 #[.string s] w fun e w'=>e= .returned (.tuple #[.string (ofL (ax (toL s))),.int .i64 0])/\VE w w':=by
 have hsi:¬(65536:Int)< (s.size:Int):=by omega
 have hsz:=aQ s;have a:=ai hsz;clear hsz
 go_enter Tryz.func178,Tryz.ntmps178
 go_wp2_with fail;have hb:=Lib.fresh_isBuilder 215 5 w;refine(rD w.heap.size w.heap.size [] s.size _ hb (by simp) (by omega) (by simp)).mono ?_;rintro e w1 ⟨rfl,h1,hb1⟩;rw[List.nil_append]at h1;have H1:=ai h1;have HB1:VF w w1:=((ah _ w).alloc aj _).trans hb1;clear hb hb1 h1;go_wp2_with fail;refine(AL w.heap.size w.heap.size (Lib.byteCells (ak s.size)) s _ H1.o (by rw[vF];have:=gy 5 s.size (by omega);omega) HB1.o.size).mono ?_;rintro e w2 ⟨rfl,h2,hb2,_⟩;have H2:Hid (Lib.IsBuilder 215 5 w.heap.size w.heap.size (Lib.byteCells (ax (toL s))) w2):=by
  refine .inr ?_;have e1:Lib.byteCells (ak s.size)++Lib.strCells s=Lib.byteCells (ax (toL s)):=by
   rw[BU];unfold ax;rw[<-a.o];simp[Lib.byteCells]
  rw[<-e1];exact h2
 have HB2:=ai (HB1.o.trans hb2);clear hb2 h2;go_wp2_with fail;refine(Tryz.Builder_String_any w.heap.size w.heap.size _ _ H2.o HB2.o.size).mono ?_;rintro e w3 ⟨rfl,hb3⟩;have HB3:=ai (HB2.o.trans hb3);clear hb3;go_wp2_with fail;go_ret2
 exact⟨rfl,HB3.o⟩
def uY(r:Nat×Nat×Int)(w:VA)(e:Ending)(w':VA):Prop:=e= .returned (.tuple #[.int .i64 r.1,.int .i64 r.2.1,.int .i64 r.2.2])/\w=w'
theorem wL{s:VB}{k:Nat}(h:k<s.size): (toL s).drop k=s[k]:: (toL s).drop (k+1):=by
 rw[List.drop_eq_getElem_cons (by rw[<-aQ];exact h)];rfl
theorem mX(s:VB)(w:VA):Calls Tryz.prog 141 #[.string s] w (uY (aA (toL s)) w):=by
 have HR:Hid (∀r,aA (toL s)=r->∀e w',uY r w e w'->uY (aA (toL s)) w e w'):=fun r h e w' hh=>by rw[h];exact hh
 have H0:Hid (aA (toL s)=gi 6 0 0 1 ((toL s).drop 0)):=rfl
 go_enter Tryz.func141,Tryz.ntmps141
 go_wp2
 go_loop[5,6,9] (fun n u i=>∃k a b:Nat,k<=6/\i= .int .i64 k/\n= .int .i64 a/\u= .int .i64 b/\1<=b/\b<=128 ^ 6/\Hid (b=128 ^ k)/\a<b/\Hid (aA (toL s)=gi (6 - k) k a b ((toL s).drop k))) (fun _ _ i=>6 - (intOf i).toNat)
 case atStart=>exact⟨0,0,1,by omega,rfl,rfl,rfl,by omega,by omega,rfl,by omega,H0.o⟩
 case round =>
  obtain⟨k,a,b,hk,rfl,rfl,rfl,hb1,hb2,hb,hab,hg⟩:=hrel;by_cases hlt:k<6
  . have hf:Hid (6 - k=5 - k+1):=by show _=_;omega
    by_cases hsz:k<s.size
    . have hsz':¬(s.size:Int)<= (k:Int):=by omega
      have hbn:Hid (128*b=128 ^ (k+1)):=by show _=_;rw[hb.o,Nat.pow_succ,Nat.mul_comm]
      have hbp:128*b<=128 ^ 6:=by rw[hbn.o];exact Nat.pow_le_pow_right (by omega) (by omega)
      have hst:Hid (aA (toL s)=if s[k].toNat<128 then(if(s[k].toNat=0/\0<k)∨1099511627776<a+s[k].toNat*b then(0,0,13) else(a+s[k].toNat*b,k+1,0)) else gi (5 - k) (k+1) (a+ (s[k].toNat - 128)*b) (b*128) ((toL s).drop (k+1))):=by
       show _=_;rw[hg.o,hf.o,wL hsz,gi]
      have hd:s[k].toNat<256:=s[k].toNat_lt;generalize hdd:s[k].toNat=d at *;have hdi: (s[k].toNat:Int)= (d:Int):=by rw[hdd]
      clear hdd;by_cases h128:d<128
      . obtain⟨p,hp⟩:=NX9 (d*b)
        have hpb:p<=128*b:=by rw[<-hp];exact Nat.mul_le_mul_right _ (by omega)
        have hpi: (d:Int)* (b:Int)= (p:Int):=by rw[<-hp];simp
        have f:¬(128:Int)<= (d:Int):=by omega
        rw[hp,if_pos h128]at hst;clear hp;by_cases hmx:1099511627776<a+p
        . have g: (1099511627776:Int)< (a:Int)+ (p:Int):=by omega
          have hfin:Hid (aA (toL s)= (0,0,13)):=by show _=_;rw[hst.o,if_pos (.inr hmx)]
          clear hst hg;by_cases hd0:d=0
          . have c: ((d:Int) == 0)=true:=by rw[beq_iff_eq];omega
            clear hd0;by_cases hk0: (0:Int)< (k:Int)
            all_goals
             go_wp2
             go_ret3
             exact HR.o _ hfin.o _ _ ⟨rfl,rfl⟩
          . have c: ((d:Int) == 0)=false:=by rw[beq_eq_false_iff_ne];omega
            clear hd0
            go_wp2
            go_ret3
            exact HR.o _ hfin.o _ _ ⟨rfl,rfl⟩
        . have g:¬(1099511627776:Int)< (a:Int)+ (p:Int):=by omega
          by_cases hd0:d=0
          . have c: ((d:Int) == 0)=true:=by rw[beq_iff_eq];omega
            by_cases hk0:0<k
            . have j: (0:Int)< (k:Int):=by omega
              have hfin:Hid (aA (toL s)= (0,0,13)):=by show _=_;rw[hst.o,if_pos (.inl ⟨hd0,hk0⟩)]
              clear hst hg hd0
              go_wp2
              go_ret3
              exact HR.o _ hfin.o _ _ ⟨rfl,rfl⟩
            . have j:¬(0:Int)< (k:Int):=by omega
              have hfin:Hid (aA (toL s)= (a+p,k+1,0)):=by show _=_;rw[hst.o,if_neg (by omega)]
              clear hst hg hd0
              go_wp2
              go_ret3
              exact HR.o _ hfin.o _ _ ⟨rfl,rfl⟩
          . have c: ((d:Int) == 0)=false:=by rw[beq_eq_false_iff_ne];omega
            have hfin:Hid (aA (toL s)= (a+p,k+1,0)):=by show _=_;rw[hst.o,if_neg (by omega)]
            clear hst hg hd0
            go_wp2
            go_ret3
            exact HR.o _ hfin.o _ _ ⟨rfl,rfl⟩
      . obtain⟨p,hp⟩:=NX9 ((d - 128)*b)
        have hpb:p+b<=128*b:=by
         have: (d - 128+1)*b<=128*b:=Nat.mul_le_mul_right _ (by omega);rw[Nat.add_mul,hp]at this;omega
        have hpi: ((d:Int) - 128)* (b:Int)= (p:Int):=by
         rw[<-hp,Int.natCast_mul,Int.ofNat_sub (by omega)];rfl
        have f: (128:Int)<= (d:Int):=by omega
        rw[hp,if_neg h128]at hst;clear hp
        go_wp2
        go_round
        case rel=>exact⟨k+1,a+p,b*128,by omega,by go_num,by go_num,by go_num,by omega,by omega,by show _=_;rw[Nat.mul_comm];exact hbn.o,by omega,by show _=_;rw[hst.o,show 6 - (k+1)=5 - k by omega]⟩
        case measure=>simp[intOf];omega
    . have hsz': (s.size:Int)<= (k:Int):=by omega
      have hfin:Hid (aA (toL s)= (0,0,12)):=by
       show _=_;rw[hg.o,hf.o,List.drop_of_length_le (by rw[<-aQ];omega),gi]
      clear hg
      go_wp2
      go_ret3
      exact HR.o _ hfin.o _ _ ⟨rfl,rfl⟩
  . have hfin:Hid (aA (toL s)= (0,0,13)):=by
      show _=_;rw[hg.o,show 6 - k=0 by omega,gi]
    clear hg
    go_wp2
    go_ret3
    exact HR.o _ hfin.o _ _ ⟨rfl,rfl⟩
def uV(r:VD×Nat×Int)(w:VA)(e:Ending)(w':VA):Prop:=e= .returned (.tuple #[.string (ofL r.1),.int .i64 r.2.1,.int .i64 r.2.2])/\w=w'
theorem vP(s:VB)(a n:Nat):s.extract a (a+n)=ofL (((toL s).drop a).take n):=by
 apply ByteArray.ext
 apply Array.toList_inj.1
 show(s.extract a (a+n)).data.toList= ((toL s).drop a).take n;rw[mG,Nat.add_sub_cancel_left];rfl
theorem vM(s:VB)(hs:s.size<=maxLen)(w:VA):Calls Tryz.prog 226 #[.string s] w (uV (aK (toL s)) w):=by
 unfold maxLen at hs;have HR:Hid (∀r,aK (toL s)=r->∀e w',uV r w e w'->uV (aK (toL s)) w e w'):=fun r h e w' hh=>by rw[h];exact hh
 have HD:Hid (aK (toL s)=if(aA (toL s)).2.2≠0 then([],0,(aA (toL s)).2.2) else if 65536< (aA (toL s)).1 then([],0,13) else if(toL s).length< (aA (toL s)).2.1+ (aA (toL s)).1 then([],0,12) else(((toL s).drop (aA (toL s)).2.1).take (aA (toL s)).1,(aA (toL s)).2.1+ (aA (toL s)).1,0)):=rfl;rw[<-aQ]at HD;have hle:=nM (toL s);rw[<-aQ]at hle;have hmx:=xw (toL s)
 go_enter Tryz.func226,Tryz.ntmps226
 go_wp2_with fail;refine(mX s _).mono ?_;generalize aA (toL s)=r at *;obtain⟨n,k,e⟩:=r;rintro e' w' ⟨rfl,rfl⟩;simp only at hle hmx HD ⊢;by_cases he:e=0
 . subst he
   by_cases hn:65536<n
   . have hni: (65536:Int)< (n:Int):=by omega
     have hfin:Hid (aK (toL s)= ([],0,13)):=by show _=_;rw[HD.o,if_neg (by simp),if_pos hn]
     clear HD
     go_wp2
     go_ret3
     exact HR.o _ hfin.o _ _ ⟨rfl,rfl⟩
   . have hni:¬(65536:Int)< (n:Int):=by omega
     by_cases hl:s.size<k+n
     . have a: (s.size:Int) - (k:Int)< (n:Int):=by omega
       have hfin:Hid (aK (toL s)= ([],0,12)):=by show _=_;rw[HD.o,if_neg (by simp),if_neg hn,if_pos hl]
       clear HD
       go_wp2
       go_ret3
       exact HR.o _ hfin.o _ _ ⟨rfl,rfl⟩
     . have a:¬(s.size:Int) - (k:Int)< (n:Int):=by omega
       have hfin:Hid (aK (toL s)= (((toL s).drop k).take n,k+n,0)):=by show _=_;rw[HD.o,if_neg (by simp),if_neg hn,if_neg hl]
       have HX:=ai (vP s k n);clear HD
       go_wp2
       go_ret3
       exact HR.o _ hfin.o _ _ ⟨by rw[<-HX.o];rfl,rfl⟩
 . have hne: (e != 0)=true:=by rw[bne_iff_ne];exact he
   have hfin:Hid (aK (toL s)= ([],0,e)):=by show _=_;rw[HD.o,if_pos he]
   clear HD he
   go_wp2
   go_ret3
   exact HR.o _ hfin.o _ _ ⟨rfl,rfl⟩
theorem Bk.two{w:VA}{b:Nat}{t:TypeId}{x y:VC}(h:Bk w b t #[x,y]):w.cell? ⟨b,0,none⟩=some x/\w.cell? ⟨b,1,none⟩=some y/\w.frozen? ⟨b,0,none⟩=false/\w.frozen? ⟨b,1,none⟩=false:=by
 have h0:=h.cell 0;have h1:=h.cell 1;simp at h0 h1;exact⟨h0,h1,h.free 0,h.free 1⟩
theorem Ld(x r:VD): (ofL (x++r)).extract x.length (ofL (x++r)).size=ofL r:=by
 apply nP
 show((ofL (x++r)).extract x.length (ofL (x++r)).size).data.toList=r;have h: (ofL (x++r)).data.toList=x++r:=rfl;rw[ByteArray.data_extract,Array.toList_extract,List.extract_eq_take_drop,h,List.drop_left,ZU];rw[bU,af];omega
def Rdr(w:VA)(b:Nat)(r:VD):Prop:=Bk w b 229 #[.string (ofL r),.bool false]
def RdE(v:VC)(b:Nat)(r:VD)(w:VA)(e:Ending)(w':VA):Prop:=e= .returned v/\Rdr w' b r/\Gb (fun g=>g=b) w w'
def enC(e:Ent):List VC:= [.string e.nm,.bool e.dir,.int .u64 e.dg.1,.int .u64 e.dg.2]
def Jr(e:Ent):VC:= .agg #[.string e.nm,.bool e.dir,.int .u64 e.dg.1,.int .u64 e.dg.2]
def dgC(d:Dig):List VC:= [.int .u64 d.1,.int .u64 d.2]
theorem ui(e:Ent): (enC e).length=4:=rfl
theorem iq(d:Dig): (dgC d).length=2:=rfl
theorem Hy: (Tryz.prog.info? 185).map (fun i=>(i.zero,i.size,i.bytes))=some (some (.agg #[.string ⟨#[]⟩,.bool false,.int .u64 0,.int .u64 0]),4,40):=by kernel_rfl
theorem lZ: (Tryz.prog.info? 50).map (fun i=>(i.zero,i.size,i.bytes))=some (some (.agg #[.int .u64 0,.int .u64 0]),2,16):=by kernel_rfl
theorem wP{fn:Func}{c:Tmp}(h:fn.results= #[.cell c 185]){w:VA}{a:Array VC}{b:Nat}{x y z u:VC}(ha:a[c]?.getD undef= .pointer (some ⟨b,0,none⟩))(hk:Bk w b 185 #[x,y,z,u]) :
  (results fn a).run Tryz.prog w= .ok (.agg #[x,y,z,u]) w:=by
 have h0:=hk.cell 0;have h1:=hk.cell 1;have h2:=hk.cell 2;have h3:=hk.cell 3;simp at h0 h1 h2 h3;simp[results,h,ha,go_sem,h0,h1,h2,h3]
theorem Bk.four{w:VA}{b:Nat}{t:TypeId}{x y z u:VC}(h:Bk w b t #[x,y,z,u]):w.cell? ⟨b,0,none⟩=some x/\w.cell? ⟨b,1,none⟩=some y/\w.cell? ⟨b,2,none⟩=some z/\w.cell? ⟨b,3,none⟩=some u:=by
 have h0:=h.cell 0;have h1:=h.cell 1;have h2:=h.cell 2;have h3:=h.cell 3;simp at h0 h1 h2 h3;exact⟨h0,h1,h2,h3⟩
theorem yI{w:VA}{b:Nat}{t:TypeId}{x y z u:VC}(h:Bk w b t #[x,y,z,u])(x' y' z' u':VC):Bk ((((w.setCell ⟨b,0,none⟩ x').setCell ⟨b,1,none⟩ y').setCell ⟨b,2,none⟩ z').setCell ⟨b,3,none⟩ u') b t #[x',y',z',u']:=by
 have:=(((h.set 0 x').set 1 y').set 2 z').set 3 u'
 simpa using this
theorem Apd.gb{w w':VA}{base size n c b:Nat}{e:TypeId}{A:OA}{xs:List VC}(h:Apd w base e size A n c xs)(hg:Gb (fun g=>g=b) w w')(hb:b<base):Apd w' base e size A n c xs:=by
 rcases h with h | h
 . refine .inl (h.kept (row:=some b) ⟨hg.os,hg.tape,hg.output,hg.size,fun k hk hn=>hg.block k hk (fun e=>hn (by rw[e]))⟩ ?_)
   cases hv: (Value.slice A n c).ownBlock with
   | none=>exact .inl rfl
   | some k =>
     have:=(h.lt k hv).1;exact .inr (fun e=>by cases e;omega)
 . exact .inr h
def RlE(t:TypeId)(sz:Nat)(xs:List VC)(n b:Nat)(r:VD)(w:VA)(e:Ending)(w':VA):Prop :=
 ∃A c,e= .returned (.slice A n c)/\n<=c/\c<=maxLen/\Apd w' w.heap.size t sz A n c xs/\Rdr w' b r/\Gb (fun g=>g=b) w w'
theorem Gb.onto{p:Nat->Prop}{a b c:VA}(h:Gb p a b)(k:Below a.heap.size b c):Gb p a c:=⟨k.os.trans h.os,k.tape.trans h.tape,k.output.trans h.output,ZY h.size k.size,fun i hi hp=>(k.block i hi).trans (h.block i hi hp)⟩
theorem Ep{P:Program}{ops:Array Oper}{rest:List Oper}{o:Oper}{a:Act}{w:VA}{Q:Exit->Act->VA->Prop}(s x:Operand)(t:TypeId)(_:o.op= .call {callee:= .builtin .append,args:=#[s,x],argTypes:=#[t,t]})
  (h:Hid (wpList P ops Q (o::rest) a w)):wpList P ops Q (o::rest) a w:=h
def bc(l:VD):List VC:=l.map fun b=>Value.int .u8 b.toNat
theorem iK(l:VD): (bc l).length=l.length:=by simp[bc]
theorem xg(l r:VD):bc (l++r)=bc l++bc r:=by simp[bc]
structure Txt(w:VA)(base av:Nat)(A:OA)(n c:Nat)(bs:VD):Prop where
 len:bs.length=n
 le:n<=c
 max:c<=maxLen
 lies:0<c->∃b off,A=some ⟨b,off,none⟩/\ (base<=b/\b≠av)/\b<w.heap.size/\ (∀j,j<n->w.cell? ⟨b,off+j,none⟩= (bc bs)[j]?)/\ (∀j,j<c-> (w.cell? ⟨b,off+j,none⟩).isSome=true/\w.frozen? ⟨b,off+j,none⟩=false)
section
variable {w w' : VA} {base av n c : Nat} {A : OA} {bs : VD}
theorem Txt.nil(w:VA)(base av:Nat)(A:OA):Txt w base av A 0 0 []:=⟨rfl,Nat.le_refl _,ZX _,fun h=>absurd h (by omega)⟩
theorem Txt.keep(h:Txt w base av A n c bs)(hs:w.heap.size<=w'.heap.size)(hk:∀k,k<w.heap.size->w'.heap[k]? =w.heap[k]?):Txt w' base av A n c bs :=
 ⟨h.len,h.le,h.max,fun h0=>by
   obtain⟨b,off,e,hb,hl,hc,hf⟩:=h.lies h0;have ec:∀o,w'.cell? ⟨b,o,none⟩=w.cell? ⟨b,o,none⟩:=fun o=>World.cell?_of_block (a:=⟨b,o,none⟩) (hk b hl);have ef:∀o,w'.frozen? ⟨b,o,none⟩=w.frozen? ⟨b,o,none⟩:=fun o=>World.frozen?_of_block (a:=⟨b,o,none⟩) (hk b hl);exact⟨b,off,e,hb,by omega,fun j hj=>(ec _).trans (hc j hj),fun j hj=>⟨by rw[ec];exact(hf j hj).1,(ef _).trans (hf j hj).2⟩⟩⟩
theorem Txt.below(h:Txt w base av A n c bs)(hb:VE w w'):Txt w' base av A n c bs:=h.keep hb.size fun k hk=>hb.block k hk
theorem Txt.avoid{av':Nat}(h:Txt w base av A n c bs)(ha:w.heap.size<=av'):Txt w base av' A n c bs :=
 ⟨h.len,h.le,h.max,fun h0=>by
   obtain⟨b,off,e,h1,h2,h3⟩:=h.lies h0;exact⟨b,off,e,⟨h1.1,by omega⟩,h2,h3⟩⟩
theorem AO{B b:Nat}(hb:B<=b):∀(vs:List VC)(o:Nat)(w:VA),Below B w (w.setCells b o vs)
 | [],_,w=>ah _ w
 | v::vs,o,w=>((ah B w).setCell (p:=⟨b,o,none⟩) hb v).trans (AO hb vs (o+1) _)
theorem AX(b:Nat):∀(vs:List VC)(o:Nat)(w:VA),(w.setCells b o vs).heap.size=w.heap.size
 | [],_,_=>rfl
 | v::vs,o,w=>by
   show((w.setCell ⟨b,o,none⟩ v).setCells b (o+1) vs).heap.size=_;rw[AX b vs];simp
theorem AU{b k:Nat}(hb:b≠k):∀(vs:List VC)(o:Nat)(w:VA),(w.setCells b o vs).heap[k]? =w.heap[k]?
 | [],_,_=>rfl
 | v::vs,o,w=>(AU hb vs (o+1) _).trans (Z8 w ⟨b,o,none⟩ v k (fun e=>hb e.symm))
variable {P : Program}
theorem Txt.run_append(h:Txt w base av A n c bs)(t tx ty e:TypeId)(i:TypeInfo)(ht:P.underlying t=some (.slice e))(hi:P.info? e=some i)(hz:i.zero=some (.int .u8 0))(hsize:i.size=1)(hby:i.bytes=1)
  (x:VC) (m:Nat) (ys:VD) (hs:Src P 1 tx x m (bc ys) w) (hmax:n+m<=140737488355328) (hbase:base<=w.heap.size) (hav:av<w.heap.size) :
  ∃A' c' w',(Builtin.append_ #[t,tx] ty #[.slice A n c,x]).run P w= .ok (.slice A' (n+m) c') w'/\Txt w' base av A' (n+m) c' (bs++ys)/\Below base w w'/\w'.heap[av]? =w.heap[av]? :=by
 have hnl:=hs.newsLen;rw[iK,Nat.mul_one]at hnl;have hs':Src P i.size tx x m (bc ys) w:=by rw[hsize];exact hs
 by_cases hfit:n+m<=c
 . rcases Nat.eq_zero_or_pos c with h0 | hc
   . subst h0
     obtain rfl:n=0:=by omega
     obtain rfl:m=0:=by omega
     obtain rfl:ys= []:=List.eq_nil_of_length_eq_zero hnl;exact⟨A,0,w,run_append_nothing (P:=P) w t tx ty e i ht hi A 0 0 aj x hs',by simpa using h,ah _ _,rfl⟩
   . obtain⟨b,off,rfl,hb,hl,hcell,hfree⟩:=h.lies hc
     have hsome:∀j,j< (bc ys).length-> (w.cell? ⟨b,off+n*i.size+j,none⟩).isSome=true:=fun j hj=>by
      rw[iK]at hj;rw[hsize,Nat.mul_one,Nat.add_assoc];exact(hfree (n+j) (by omega)).1
     have hrun:=run_append_room_src (P:=P) w t tx ty e i ht hi b off n c x m (bc ys) hs' hfit hsome (fun j hj=>by
      rw[iK]at hj;rw[hsize,Nat.mul_one,Nat.add_assoc];exact(hfree (n+j) (by omega)).2)
     refine⟨_,_,_,hrun,⟨by rw[af,h.len];omega,hfit,h.max,fun _=>⟨b,off,rfl,hb,by rw[AX];exact hl,fun j hj=>?_,fun j hj=>⟨?_,?_⟩⟩⟩,AO hb.1 _ _ _,AU hb.2 _ _ _⟩
     . by_cases hj':j<n
       . rw[World.cell?_setCells_out b _ _ _ _ (fun _ _=> .inl (by show off+j<off+n*i.size;rw[hsize];omega)),hcell j hj',xg,List.getElem?_append_left (by rw[iK,h.len];exact hj')]
       . have:=World.cell?_setCells_in b (bc ys) (off+n*i.size) w hsome (j - n) (by rw[iK];omega)
         rw[hsize,Nat.mul_one,show off+n+ (j - n)=off+j by omega]at this;rw[hsize,Nat.mul_one,this,xg,List.getElem?_append_right (by rw[iK,h.len];omega),show(bc bs).length=n by rw[iK,h.len]];exact(Z5 _).symm
     . by_cases hj':n<=j/\j<n+m
       . have:=World.cell?_setCells_in b (bc ys) (off+n*i.size) w hsome (j - n) (by rw[iK];omega)
         rw[hsize,Nat.mul_one,show off+n+ (j - n)=off+j by omega]at this;rw[hsize,Nat.mul_one,this];rfl
       . rw[World.cell?_setCells_out b _ _ _ _ (fun _ _=>by show off+j<off+n*i.size∨off+n*i.size+ (bc ys).length<=off+j;rw[hsize,iK];omega)]
         exact(hfree j hj).1
     . rw[World.frozen?_setCells];exact(hfree j hj).2
 . have hold: (Builtin.firstCells i.size n (.slice A n c)).run P w.drew= .ok (bc bs).toArray w.drew:=by
     rw[hsize];rcases Nat.eq_zero_or_pos c with h0 | hc
     . subst h0
       obtain rfl:n=0:=by have:=h.le;omega
       obtain rfl:bs= []:=List.eq_nil_of_length_eq_zero h.len;cases A with
       | none=>exact run_firstCells_none w.drew 1 0 0 0
       | some a'=>exact run_firstCells_some w.drew 1 0 a' 0 0 [] (by simp) (by intro _ _ h';simp at h')
     . obtain⟨b,off,rfl,hb,hl,hcell,hfree⟩:=h.lies hc
       refine run_firstCells_some w.drew 1 n ⟨b,off,none⟩ n c (bc bs) (by rw[iK,h.len];omega) (fun j u hu=>?_);rw[Addr.add_lit];have hj:j<n:=by have:=(List.getElem?_eq_some_iff.1 hu).1;rwa[iK,h.len]at this
       exact(hcell j hj).trans hu
   have hg:c<n+m:=by omega
   have h63:n+m<=maxLen:=by unfold maxLen;omega
   have hrun:=run_append_grow_src (P:=P) w t tx ty e i (.int .u8 0) ht hi hz A n c (bc bs) hold x m (bc ys) hs' hg (by omega) (growslice_fits hg (by rw[hby];omega));have hge:=grownCap_ge w (n+m) c e;have hcm:=grownCap_le_maxLen w (n+m) c e h63;refine⟨_,_,_,hrun,⟨by rw[af,h.len];omega,hge,hcm,fun _=>⟨w.heap.size,0,rfl,⟨hbase,by omega⟩,?_,fun j hj=>?_,fun j hj=>⟨?_,?_⟩⟩⟩,((ah base w).drew).alloc hbase _,Below.heap_alloc w.drew _ av hav⟩
   . have: (w.drew.alloc (.cells ((bc bs++bc ys).toArray++Builtin.zeroCells (Value.int .u8 0).cells (grownCap w (n+m) c e - (n+m))) e)).heap.size=w.heap.size+1:=Z9 _ _
     omega
   . have e1: (w.drew.alloc (.cells ((bc bs++bc ys).toArray++Builtin.zeroCells (Value.int .u8 0).cells (grownCap w (n+m) c e - (n+m))) e)).cell? ⟨w.heap.size,j,none⟩=_:=World.cell?_alloc_new w.drew _ _ j
     rw[Nat.zero_add,e1,Array.getElem?_append_left (by simp only[List.size_toArray,af,iK,h.len];omega),List.getElem?_toArray,xg]
   . have e1: (w.drew.alloc (.cells ((bc bs++bc ys).toArray++Builtin.zeroCells (Value.int .u8 0).cells (grownCap w (n+m) c e - (n+m))) e)).cell? ⟨w.heap.size,j,none⟩=_:=World.cell?_alloc_new w.drew _ _ j
     rw[Nat.zero_add,e1];have hsz: ((bc bs++bc ys).toArray++Builtin.zeroCells (Value.int .u8 0).cells (grownCap w (n+m) c e - (n+m))).size=grownCap w (n+m) c e:=by
      rw[Array.size_append,List.size_toArray,af,iK,iK,h.len,hnl,size_zeroCells];show n+m+ (grownCap w (n+m) c e - (n+m))*1=_;omega
     rw[Array.getElem?_eq_getElem (by rw[hsz];exact hj)];rfl
   . rw[Nat.zero_add];exact World.frozen?_alloc_new w.drew _ _ j
theorem Ap{ops:Array Oper}{rest:List Oper}{o:Oper}{a:Act}{Q:Exit->Act->VA->Prop}(hgd:o.guard=none)(s x:Operand)(t tx:TypeId)
  (ho:o.op= .call {callee:= .builtin .append,args:=#[s,x],argTypes:=#[t,tx]})
  (e:TypeId) (i:TypeInfo) (ht:P.underlying t=some (.slice e)) (hi:P.info? e=some i) (hz:i.zero=some (.int .u8 0)) (hsize:i.size=1) (hby:i.bytes=1)
  (A:OA) (n c:Nat) (bs:VD) (hv:a.eval s= .slice A n c) (h:Txt w base av A n c bs)
  (xv:VC) (m:Nat) (ys:VD) (hx:a.eval x=xv) (hs:Src P 1 tx xv m (bc ys) w) (hmax:n+m<=140737488355328) (hbase:base<=w.heap.size) (hav:av<w.heap.size)
  (hK:∀A' c' w',Txt w' base av A' (n+m) c' (bs++ys)->Below base w w'->w'.heap[av]? =w.heap[av]? ->wpList P ops Q rest (a.put o.dst (.slice A' (n+m) c')) w'):wpList P ops Q (o::rest) a w:=by
 refine wpList_plain hgd fun K hK'=>?_;obtain⟨A',c',w',hrun,h1,h2,h3⟩:=h.run_append (P:=P) t tx o.type e i ht hi hz hsize hby xv m ys hs hmax hbase hav;unfold Oper.wp;simp[execOp,ho,resolve,invoke,builtin,hv,hx,hrun,Result.andThen];exact hK' _ _ (hK A' c' w' h1 h2 h3)
theorem QB(src dst e:TypeId)(s:VB)(hs:P.underlying src=some .string)(hd:P.underlying dst=some (.slice e))(he:P.underlying e=some (.int .u8))(hz:s.size<=maxLen)(w:VA) :
  ∃A c w',(convert src dst (.string s)).run P w= .ok (.slice A s.size c) w'/\Txt w' w.heap.size (w.heap.size+1) A s.size c (toL s)/\VE w w':=by
 refine⟨_,_,_,Lib.run_convert_string_bytes (P:=P) w src dst e s hs hd he,⟨(aQ s).symm,grownCap_ge w s.size 0 e,grownCap_le_maxLen w s.size 0 e hz,fun _=>⟨w.heap.size,0,rfl,⟨Nat.le_refl _,by omega⟩,by rw[Lib.bytesWorld_size];omega,fun j hj=>?_,fun j hj=>⟨?_,?_⟩⟩⟩,?_⟩
 . rw[Nat.zero_add,Lib.bytesWorld_cell w e s j hj]
   have hj':j<s.data.toList.length:=by rw[aQ]at hj;exact hj
   simp[bc,toL,List.getD,Z5 hj']
 . have hsz: (Lib.bytesCells w e s).size=grownCap w s.size 0 e:=by
     have:=grownCap_ge w s.size 0 e;rw[Lib.bytesCells,Array.size_append,Array.size_map,Array.size_replicate];show s.size+_=_;omega
   rw[Nat.zero_add];simp[World.cell?,Lib.bytesWorld_at_new,hsz,hj]
 . have hsz: (Lib.bytesCells w e s).size=grownCap w s.size 0 e:=by
     have:=grownCap_ge w s.size 0 e;rw[Lib.bytesCells,Array.size_append,Array.size_map,Array.size_replicate];show s.size+_=_;omega
   rw[Nat.zero_add];simp[World.frozen?,Lib.bytesWorld_at_new,hsz];omega
 . exact⟨rfl,rfl,rfl,by rw[Lib.bytesWorld_size];omega,fun k hk=>Lib.bytesWorld_at_old w e s k hk⟩
theorem Txt.run_string(h:Txt w base av A n c bs)(src dst e:TypeId)(hs:P.underlying src=some (.slice e))(he:P.underlying e=some (.int .u8))(hd:P.underlying dst=some .string) :
  (convert src dst (.slice A n c)).run P w= .ok (.string (ofL bs)) w:=by
 rcases Nat.eq_zero_or_pos c with h0 | hc
 . subst h0
   obtain rfl:n=0:=by have:=h.le;omega
   obtain rfl:bs= []:=List.eq_nil_of_length_eq_zero h.len;cases A with
   | none=>exact run_convert_bytes_nil w src e hs he 0 0 dst hd
   | some a=>exact run_convert_bytes_back w src dst e a 0 [] hs he hd (fun j hj=>by simp at hj)
 . obtain⟨b,off,rfl,_,_,hcell,_⟩:=h.lies hc
   have:=run_convert_bytes_back (P:=P) w src dst e ⟨b,off,none⟩ c bs hs he hd (fun j hj=>by
    rw[Addr.add_lit,hcell j (by rw[<-h.len];exact hj)];simp[bc,Z5 hj])
   rw[h.len]at this;exact this
end
section
open Go.Maps
def pG(l:List VB):VB->Option VC:=fun s=>if iH l s then some (.bool true) else none
theorem TJ:pG []=fun _=>none:=by funext s;simp[pG,iH]
theorem GY(l:List VB)(x:VB):pG (l++ [x])=upd (pG l) x (.bool true):=by
 funext t
 unfold pG upd iH;by_cases e:t=x
 . subst e;simp
 . have h: ((l++ [x]).any fun y=>decide (y=t))=l.any fun y=>decide (y=t):=by
     rw[List.any_append];simp[Ne.symm e]
   rw[h,if_neg e]
theorem TV(l:List VB)(x:VB): (pG l x).getD (.bool false)= .bool (iH l x):=by unfold pG;cases iH l x <;> rfl
theorem Apd.grown{w w':VA}{base size n c:Nat}{e:TypeId}{A:OA}{xs:List VC}{row:Option Nat}(h:Apd w base e size A n c xs)(hg:w.grownBy w' row)(hr:∀k,row=some k->k<base):Apd w' base e size A n c xs:=by
 rcases h with h | h
 . refine .inl (h.kept hg ?_)
   cases hv: (Value.slice A n c).ownBlock with
   | none=>exact .inl rfl
   | some k=>exact .inr fun e=>by have h1:=jF h k hv;have h2:=hr k e.symm;omega
 . exact .inr h
end
theorem GZ(s:VB)(w:VA):Src Tryz.prog 1 9 (.string s) s.size (bc (toL s)) w:=Src.ofString (P:=Tryz.prog) w Tryz.underlying9 s
theorem yX: (Tryz.prog.info? 5).map (fun i=>(i.zero,i.size,i.bytes))=some (some (.int .u8 0),1,1):=by kernel_rfl
theorem Txt.far{w:VA}{base av n c:Nat}{A:OA}{bs:VD}(h:Txt w base av A n c bs){p:Addr}(hp:p.block=av)(u:VC):Txt (w.setCell p u) base av A n c bs :=
 ⟨h.len,h.le,h.max,fun h0=>by
   obtain⟨b,off,e,h1,h2,h3,h4⟩:=h.lies h0;have hb: (w.setCell p u).heap[b]? =w.heap[b]? :=Z8 w p u b (by rw[hp];exact h1.2);have ec:∀o,(w.setCell p u).cell? ⟨b,o,none⟩=w.cell? ⟨b,o,none⟩:=fun o=>World.cell?_of_block (a:=⟨b,o,none⟩) hb;have ef:∀o,(w.setCell p u).frozen? ⟨b,o,none⟩=w.frozen? ⟨b,o,none⟩:=fun o=>World.frozen?_of_block (a:=⟨b,o,none⟩) hb;exact⟨b,off,e,h1,by simpa using h2,fun j hj=>(ec _).trans (h3 j hj),fun j hj=>⟨by rw[ec];exact(h4 j hj).1,(ef _).trans (h4 j hj).2⟩⟩⟩
theorem Ez{P:Program}{ops:Array Oper}{rest:List Oper}{o:Oper}{a:Act}{w:VA}{Q:Exit->Act->VA->Prop}(s x:Operand)(t tx:TypeId)(_:o.op= .call {callee:= .builtin .append,args:=#[s,x],argTypes:=#[t,tx]})
  (h:Hid (wpList P ops Q (o::rest) a w)):wpList P ops Q (o::rest) a w:=h
structure Wrt(w:VA)(b base:Nat)(bs:VD):Prop where
 ex:∃A c,Bk w b 283 #[.slice A bs.length c,.bool false]/\Txt w base b A bs.length c bs
 lt:b<base
 le:base<=w.heap.size
theorem Wrt.below{w w':VA}{b base:Nat}{bs:VD}(h:Wrt w b base bs)(hb:VE w w'):Wrt w' b base bs:=by
 obtain⟨A,c,h1,h2⟩:=h.ex;exact⟨⟨A,c,h1.below hb h1.lt,h2.below hb⟩,h.lt,ZY h.le hb.size⟩
def uI(b base:Nat)(bs:VD)(w:VA)(e:Ending)(w':VA):Prop:=e= .returned (.tuple #[])/\Wrt w' b base bs/\Below b w w'/\w.heap.size<=w'.heap.size
section
variable {P : Program} {Q : Exit -> Act -> VA -> Prop}
theorem JD{id:Nat}{l:List Oper}{a0:Act}{w0:VA}(n m:Nat)(hm:P.follows .mixedOrders=true)(hB:nJ l n=true)
  (R:Bool->VA->Prop) (E:Bool->VA->VA->Prop) (Φ:Nat->VC->VA->Prop) (hR:∀b w w',R b w->E b w w'->R b w') (hΦ:∀b i v w w',(i=m->b=true)->Φ i v w->E b w w'->Φ i v w')
  (h0:R false {w0 with drawn:=w0.drawn+1})
  (hstep:∀(b:Bool)(i:Nat)(o:Oper)(vs:List VC)(w:VA),i<n->i≠m-> (∀om,l[m]? =some om-> (∃e∈om.after,Region.binds .any e=true/\e.on=i)->b=false)->l[i]? =some o->vs.length=n->R b w-> (∀e∈o.after,Region.binds .any e=true->∀v,vs[e.on]? =some v->Φ e.on v w) ->
    nX P l.toArray o (aZ a0 ((dstsOf l n).zip vs)) w fun v w'=>E b w w'/\Φ i v w')
  (hturn:∀(o:Oper)(vs:List VC)(w:VA),l[m]? =some o->vs.length=n->R false w-> (∀e∈o.after,Region.binds .any e=true->∀v,vs[e.on]? =some v->Φ e.on v w) ->
    nX P l.toArray o (aZ a0 ((dstsOf l n).zip vs)) w fun v w'=>R true w'/\Φ m v w'/\∀i u,i≠m->Φ i u w->Φ i u w')
  (hmn:m<n)
  (htail:∀(vs:List VC)(w:VA),vs.length=n->R true w-> (∀i v,vs[i]? =some v->Φ i v w)->wpList P l.toArray Q (l.drop n) (aZ a0 ((dstsOf l n).zip vs)) w) :
  (Code.region id l.toArray true).wp P Q a0 w0:=by
 simp only[nJ,Bool.and_eq_true,decide_eq_true_eq,List.all_eq_true]at hB;obtain⟨⟨⟨⟨⟨⟨hn,hs⟩,hc⟩,hseq⟩,hdst⟩,hnd⟩,hback⟩:=hB;have hdl: (dstsOf l n).length=n:=by simp[dstsOf];omega
 refine wp_region_any hm ?_
 -- the state:which operations have been carried out,what the temporaries hold
 have main:∀(f:Nat)(listed:Array Bool)(vs:List VC)(w:VA),HeadInv .any l.toArray n listed->vs.length=n->R (listed.getD m false) w ->
   (∀i v,i<n->listed.getD i false=true->vs[i]? =some v->Φ i v w)-> (listed.toList.take n).count false=f ->
   wpAny P .any l.toArray Q (f+ (l.length - n)) listed (aZ a0 ((dstsOf l n).zip vs)) w:=by
  intro f
  induction f with
  | zero =>
    intro listed vs w inv hv hw g hcnt;have hall:∀i,i<n->listed.getD i false=true:=by
     intro i hi;have hsz:i<listed.size:=by rw[inv.size];simp;omega
     have hmem:listed.toList[i]? =some listed[i]:=by simp[hsz]
     have hne:listed[i]≠false:=by
      intro e;have hm2:false∈listed.toList.take n:=by
       rw[List.mem_take_iff_getElem];exact⟨i,by simp;omega,by simpa using e⟩
      have:=List.count_pos_iff.2 hm2;omega
     simp[hsz];simpa using hne
    have hfull:listed=jO l n:=by
     apply Array.ext
     . rw[inv.size];simp[jO]
     . intro i h1 h2
       have hil:i<l.length:=by rw[inv.size]at h1;simpa using h1
       simp only[jO,List.getElem_toArray,List.getElem_map,List.getElem_range];by_cases hi:i<n
       . have:=hall i hi;simp[h1]at this;simp[this,hi]
       . have:=inv.tail i (by omega) (by simpa using hil);simp[h1]at this;simp[this,hi]
    subst hfull;have hmt: (jO l n).getD m false=true:=hall m hmn;rw[hmt]at hw;have hw':=htail vs w hv hw (fun i v hi=>g i v (by have:=(List.getElem?_eq_some_iff.1 hi).1;omega) (hall i (by have:=(List.getElem?_eq_some_iff.1 hi).1;omega)) hi);have:=wpAny_of_seq (md:= .any) (Q':=Q) (l.drop n) n (jO l n) _ w (fun j=>by simp[List.getElem?_drop]) (by rw[List.length_drop];exact hseq) hw';rw[List.length_drop]at this
    simpa using this
  | succ f ih =>
    intro listed vs w inv hv hw g hcnt;have hun:∃i,i<n/\listed.getD i true=false:=by
     have:0< (listed.toList.take n).count false:=by omega
     have hm2:=List.count_pos_iff.1 this;rw[List.mem_take_iff_getElem]at hm2;obtain⟨i,hi,hv2⟩:=hm2;refine⟨i,by simp at hi;omega,?_⟩;have hsz:i<listed.size:=by simp at hi;omega
     rw[Array.getD_eq_getD_getElem?,Array.getElem?_eq_getElem hsz];simpa using hv2
    rw[show f+1+ (l.length - n)= (f+ (l.length - n))+1 by omega];obtain⟨i0,hi0,hu0⟩:=hun;have a:∀i∈Region.ready .any l.toArray listed,i<n:=by
     intro i hi;rcases Nat.lt_or_ge i n with h | h
     . exact h
     . exact absurd hi (tail_waits hs hc (by simpa using hn) inv _ i0 rfl hi0 hu0 i h)
    have hne:Region.ready .any l.toArray listed≠ []:=by
     -- the first operation that is not yet carried out and whose own conditions are all met:by the least such index
     intro hnil;obtain⟨m,hm1,hm2⟩:∃m,(m<n/\listed.getD m true=false)/\∀k,k<m->¬(k<n/\listed.getD k true=false):=by
      have:∀m,(m<n/\listed.getD m true=false)->∃m,(m<n/\listed.getD m true=false)/\∀k,k<m->¬(k<n/\listed.getD k true=false):=by
       intro m
       induction m using Nat.strongRecOn with
       | _ m ihm =>
         intro h;by_cases hex:∃k,k<m/\ (k<n/\listed.getD k true=false)
         . obtain⟨k,hk,hk2⟩:=hex;exact ihm k hk hk2
         . exact⟨m,h,fun k hk hk2=>hex ⟨k,hk,hk2⟩⟩
      exact this i0 ⟨hi0,hu0⟩
     have hml:m<l.length:=by omega
     have hmo:l[m]? =some l[m]:=Z5 hml;have hb1:=hback m (List.mem_range.2 hm1.1);rw[hmo]at hb1;simp only at hb1;have hmr:m∈Region.ready .any l.toArray listed:=by
      refine mem_ready.2 ⟨hm1.2,l[m],by simp,fun e he _=>?_⟩;have hlt:e.on<m:=by
       have:=(Array.all_eq_true_iff_forall_mem.1 hb1) e he
       simpa using this
      have hnot:=hm2 e.on hlt;cases hx:listed.getD e.on true with
      | true =>
        have hsz:e.on<listed.size:=by rw[inv.size];simp;omega
        simp[hsz]at hx ⊢;exact hx
      | false=>exact absurd ⟨by omega,hx⟩ hnot
     rw[hnil]at hmr;cases hmr
    refine⟨fun h=>absurd h hne,fun i hi=>?_⟩;have hin:=a i hi;obtain⟨hlf,o,ho,s⟩:=mem_ready.1 hi;have ho':l[i]? =some o:=by simpa using ho
    have hmem:o∈l.take n:=List.mem_take_iff_getElem.2 ⟨i,(by have:=(List.getElem?_eq_some_iff.1 ho').1;omega),(List.getElem?_eq_some_iff.1 ho').2⟩;have hdo:=hdst o hmem;obtain⟨d,hd⟩:=Option.isSome_iff_exists.1 hdo;have hdi: (dstsOf l n)[i]? =some d:=by
     simp[dstsOf,hin,ho',hd]
    have q:∀e∈o.after,Region.binds .any e=true->∀v,vs[e.on]? =some v->Φ e.on v w:=fun e he hb v hve=>by
     have hle:=s e he hb;have hen:e.on<n:=by have:=(List.getElem?_eq_some_iff.1 hve).1;omega
     exact g e.on v hen hle hve
    have hsz:i<listed.size:=by rw[inv.size];simp;omega
    have x:listed.toList[i]? =some false:=by
     simp[hsz]at hlf ⊢;exact hlf
    have hgo:∀v w',R ((listed.setIfInBounds i true).getD m false) w'->Φ i v w'-> (∀j u,j≠i->j<n->listed.getD j false=true->Φ j u w->Φ j u w')->wpAny P .any l.toArray Q (f+ (l.length - n)) (listed.setIfInBounds i true) ((aZ a0 ((dstsOf l n).zip vs)).put o.dst v) w':=?hgo
    case hgo =>
     intro v w' hv1 hv2 hv3;rw[hd,<-wu a0 (dstsOf l n) vs i d v hnd (by rw[hdl,hv]) hdi];refine ih (listed.setIfInBounds i true) (vs.set i v) w' (inv.set hi hin) (by simpa using hv) hv1 ?_ ?_
     . intro j u hj hlj p
       by_cases e:j=i
       . subst e
         have hjl:j<vs.length:=by omega
         rw[List.getElem?_set_self hjl]at p;cases p;exact hv2
       . rw[List.getElem?_set_ne (fun h=>e h.symm)]at p
         rw[getD_set_ne false (fun h=>e h.symm)]at hlj;exact hv3 j u e hj hlj (g j u hj hlj p)
     . have: (listed.setIfInBounds i true).toList.take n= (listed.toList.take n).set i true:=by
         rw[Array.toList_setIfInBounds,List.take_set]
       rw[this];have h2:=Bf (l:=listed.toList.take n) (i:=i) (by rw[List.getElem?_take,if_pos hin];exact x);omega
    have r:listed.getD i false=false:=getD_both hlf;by_cases him:i=m
    . subst him
      have c:=hturn o vs w ho' hv (by rw[r]at hw;exact hw) q;have hset: (listed.setIfInBounds i true).getD i false=true:=by simp[hsz]
      have hgo':∀v w',(R true w'/\Φ i v w'/\∀j u,j≠i->Φ j u w->Φ j u w')->wpAny P .any l.toArray Q (f+ (l.length - n)) (listed.setIfInBounds i true) ((aZ a0 ((dstsOf l n).zip vs)).put o.dst v) w':=fun v w' h=>hgo v w' (by rw[hset];exact h.1) h.2.1 (fun j u hj _ _ hp=>h.2.2 j u hj hp);unfold wpOp;simp only[ho];rcases c with ⟨hw1,hw2⟩ | ⟨hw1,hw2⟩
      . rw[if_pos hw1]
        exact .inl (hw2 _ _ hgo')
      . rw[if_neg (by rw[hw1];simp)]
        exact hgo' undef w hw2
    . have hset: (listed.setIfInBounds i true).getD m false=listed.getD m false:=getD_set_ne false him
      have c:=hstep (listed.getD m false) i o vs w hin him (fun om hom ⟨e,he,hb,heo⟩=>by
       cases hx:listed.getD m false with
       | false=>rfl
       | true =>
         have:=inv.closed m om (by simpa using hom) hx e he hb;rw[heo,r]at this;cases this) ho' hv hw q
      have hgo':∀v w',(E (listed.getD m false) w w'/\Φ i v w')->wpAny P .any l.toArray Q (f+ (l.length - n)) (listed.setIfInBounds i true) ((aZ a0 ((dstsOf l n).zip vs)).put o.dst v) w':=fun v w' h=>hgo v w' (by rw[hset];exact hR _ w w' hw h.1) h.2 (fun j u _ _ hlj hp=>hΦ _ j u w w' (fun e=>by subst e;exact hlj) hp h.1);unfold wpOp;simp only[ho];rcases c with ⟨hw1,hw2⟩ | ⟨hw1,hw2⟩
      . rw[if_pos hw1]
        exact .inl (hw2 _ _ hgo')
      . rw[if_neg (by rw[hw1];simp)]
        exact hgo' undef w hw2
 have inv0:HeadInv .any l.toArray n (Array.replicate l.toArray.size false) :=
  ⟨by simp,fun j oj _ hl=>(by rw[getD_replicate_false]at hl;cases hl),fun t _ ht=>getD_in (by simpa using ht) (getD_replicate_false _ _)⟩
 have:=main n (Array.replicate l.toArray.size false) ((dstsOf l n).map fun d=>a0.tmps.getD d undef) _ inv0 (by simpa using hdl) (by rw[getD_replicate_false];exact h0)
  (fun i v _ hl _=>by rw[getD_replicate_false]at hl;cases hl) (by simp;omega)
 rw[vW,show n+ (l.length - n)=l.toArray.size by simp;omega]at this;exact this
theorem JB{id:Nat}{l:List Oper}{a0:Act}{w0:VA}(n m:Nat)(ds:List Tmp)(hm:P.follows .mixedOrders=true)(hB:nJ l n=true)(hds:dstsOf l n=ds)
  (R:Bool->VA->Prop) (E:Bool->VA->VA->Prop) (Φ:Nat->VC->VA->Prop) (hR:∀b w w',R b w->E b w w'->R b w') (hΦ:∀b i v w w',(i=m->b=true)->Φ i v w->E b w w'->Φ i v w')
  (h0:R false w0.drew)
  (hstep:∀(b:Bool)(i:Nat)(o:Oper)(vs:List VC)(w:VA),i<n->i≠m-> (∀om,l[m]? =some om-> (∃e∈om.after,Region.binds .any e=true/\e.on=i)->b=false)->l[i]? =some o->vs.length=n->R b w-> (∀e∈o.after,Region.binds .any e=true->∀v,vs[e.on]? =some v->Φ e.on v w) ->
    nX P l.toArray o (aZ a0 (ds.zip vs)) w fun v w'=>E b w w'/\Φ i v w')
  (hturn:∀(o:Oper)(vs:List VC)(w:VA),l[m]? =some o->vs.length=n->R false w-> (∀e∈o.after,Region.binds .any e=true->∀v,vs[e.on]? =some v->Φ e.on v w) ->
    nX P l.toArray o (aZ a0 (ds.zip vs)) w fun v w'=>R true w'/\Φ m v w'/\∀i u,i≠m->Φ i u w->Φ i u w')
  (hmn:m<n)
  (htail:∀(vs:List VC)(w:VA),vs.length=n->R true w-> (∀i v,vs[i]? =some v->Φ i v w)->wpList P l.toArray Q (l.drop n) (aZ a0 (ds.zip vs)) w) :
  (Code.region id l.toArray true).wp P Q a0 w0:=by
 subst hds;exact JD n m hm hB R E Φ hR hΦ h0 hstep hturn hmn htail
end
def l9(k:Nat)(vals:List VC)(base:Nat)(t:TypeId)(cs:Array VC)(i:Nat)(v:VC)(W:VA):Prop :=
 if i=k then ∃b0,v= .slice (some ⟨b0,0,none⟩) 1 1/\base<=b0/\Bk W b0 t cs else oC vals i v W
theorem Ns{k:Nat}{vals:List VC}{base:Nat}{t:TypeId}{cs:Array VC}(i:Nat)(v:VC)(W W':VA)(h:l9 k vals base t cs i v W)(hb:VE W W'):l9 k vals base t cs i v W':=by
 unfold l9 at h ⊢;by_cases e:i=k
 . rw[if_pos e]at h ⊢
   obtain⟨b0,h1,h2,h3⟩:=h;exact⟨b0,h1,h2,h3.below hb h3.lt⟩
 . rw[if_neg e]at h ⊢;exact h
