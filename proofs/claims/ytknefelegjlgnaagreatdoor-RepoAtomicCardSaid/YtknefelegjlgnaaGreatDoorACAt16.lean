/-
  Lemmas of the card.
-/
import Derived.Test.YtknefelegjlgnaaGreatDoorACAt15
set_option maxRecDepth 100000
set_option maxHeartbeats 4000000
namespace Go.Proofs
open Go.Shelf
def Tryz.keysR_ren:Go.Shelf.Ren:=⟨fun | 7=>154 | 10=>233 | n=>n,fun | 23=>132 | 26=>9 | 3=>50 | 28=>240 | 0=>0 | 27=>239 | 33=>195 | 4=>4 | n=>n,fun | n=>n⟩
theorem Tryz.keysR:Go.Proofs.SlLaysZ.n7 Tryz.prog Tryz.keysR_ren:={
 mixed:=by kernel_rfl
 f7:=⟨Tryz.f154.name,by decide,Tryz.func154.trans (congrArg some (by kernel_rfl))⟩
 f10:=⟨Tryz.f233.name,by decide,Tryz.func233.trans (congrArg some (by kernel_rfl))⟩
 t0:=Tryz.underlying0
 a0:=Tryz.isAgg0
 z0:=Tryz.sizeOf0
 v0:=Tryz.zeroValue0
 t4:=Tryz.underlying4
 a4:=Tryz.isAgg4
 z4:=Tryz.sizeOf4
 v4:=Tryz.zeroValue4
 t23:=Tryz.underlying132
 a23:=Tryz.isAgg132
 z23:=Tryz.sizeOf132
 v23:=Tryz.zeroValue132
 t26:=Tryz.underlying9
 a26:=Tryz.isAgg9
 z26:=Tryz.sizeOf9
 v26:=Tryz.zeroValue9
 t27:=Tryz.underlying239
 a27:=Tryz.isAgg239
 z27:=Tryz.sizeOf239
 v27:=Tryz.zeroValue239
 t28:=Tryz.underlying240
 a28:=Tryz.isAgg240
 z28:=Tryz.sizeOf240
 v28:=Tryz.zeroValue240
 t33:=Tryz.underlying195
 a33:=Tryz.isAgg195
 z33:=Tryz.sizeOf195
 v33:=Tryz.zeroValue195}
end Go.Proofs
namespace Go.Proofs.YtknefelegjlgnaaGreatDoor
open Go.RowKit
section
open Go.Maps
theorem LV: (Tryz.prog.info? 52).map (fun i=>(i.zero,i.size,i.bytes))=some (some (.agg #[.string ⟨#[]⟩,.int .u64 0,.int .u64 0]),3,32):=by kernel_rfl
theorem qo: (Tryz.prog.info? 85).map (fun i=>(i.zero,i.size,i.bytes))=some (some (.agg #[.string ⟨#[]⟩,.int .u64 0,.int .u64 0,.int .u64 0,.int .u64 0]),5,48):=by kernel_rfl
def zu(l:List Rf)(w:MZ)(e:Ending)(w':MZ):Prop :=
 ∃A m c,e= .returned (.slice A m c)/\Sl w' w'.heap.size 3 A m (flat rfC l)/\m<=c/\c<=maxLen/\Below w.heap.size w w'/\w'.ownsRow w.heap.size 52 3 (.slice A m c) m (flat rfC l)
theorem Ei(l:List Rf):∀u∈flat rfC l,u.oneCell'=true:=by
 intro u hu;obtain⟨r,_,hr⟩:=List.mem_flatMap.1 hu;simp only[rfC,List.mem_cons,List.not_mem_nil,or_false]at hr;rcases hr with rfl | rfl | rfl <;> rfl
theorem nZ(l:List Upd):∀u∈flat upC l,u.oneCell'=true:=by
 intro u hu;obtain⟨r,_,hr⟩:=List.mem_flatMap.1 hu;simp only[upC,List.mem_cons,List.not_mem_nil,or_false]at hr;rcases hr with rfl | rfl | rfl | rfl | rfl <;> rfl
theorem ER(l:List Rf):∀u∈flat rfC l,uF u=true:=by
 intro u hu;obtain⟨r,_,hr⟩:=List.mem_flatMap.1 hu;simp only[rfC,List.mem_cons,List.not_mem_nil,or_false]at hr;rcases hr with rfl | rfl | rfl <;> rfl
theorem EO(l:List Upd):∀u∈flat upC l,uF u=true:=by
 intro u hu;obtain⟨r,_,hr⟩:=List.mem_flatMap.1 hu;simp only[upC,List.mem_cons,List.not_mem_nil,or_false]at hr;rcases hr with rfl | rfl | rfl | rfl | rfl <;> rfl
def Dg(r:Rf):List M4:= [.string r.1]
theorem Ie(r:Rf): (Dg r).length=1:=rfl
theorem FN(l:List Rf):strs (l.map Prod.fst)=flat Dg l:=by
 induction l with
 | nil=>rfl
 | cons r l ih=>unfold strs flat at ih ⊢;rw[List.map_cons,List.map_cons,ih];rfl
theorem Rm.key_le{w:MZ}{P:Program}{k:TypeId}{b N:Nat}{g:M3->Option M4}(h:Rm w P k b N g)(hk:P.underlying k=some .string){s:M3}(hs: (g s).isSome=true):s.size<=maxLen:=by
 obtain⟨D,h1,h2⟩:=h;have h3:=(h2 s).1;rw[hs]at h3;obtain⟨es,rfl,a⟩:=h1.keysOf;rw[Maps.has_eq,List.any_eq_true]at h3;obtain⟨p,hp,h4⟩:=h3;obtain⟨v,hv⟩:=a p hp;obtain⟨y,_,hy,hl⟩:=Maps.keyOf_str hk hv;rw[hy,xu,beq_iff_eq]at h4;rw[h4,Array.length_toList]at hl;exact hl
theorem Gv(b:Nat)(w:MZ):Calls Tryz.prog 154 #[.map (some b)] w fun e w'=>e= .returned (.func (.func 233) #[] #[.pointer (some ⟨w.heap.size,0,none⟩)])/\w'=w.alloc (.cells #[.map (some b)] 132):=by
 go_enter Tryz.func154,Tryz.ntmps154
 go_wp2_with fail;go_ret
 exact⟨rfl,rfl⟩
theorem Eh(Bm b N:Nat)(g:M3->Option M4)(w:MZ)(hM:Rm w Tryz.prog 9 b N g)(hc:w.cell? ⟨Bm,0,none⟩=some (.map (some b)))(hB:Bm<w.heap.size)(hn:N<=1000000) :
  Calls Tryz.prog 153 #[.func (.func 233) #[] #[.pointer (some ⟨Bm,0,none⟩)]] w (SkE g N w) :=
 FV (enters_of Tryz.func233 (by kernel_rfl) rfl) hn (by
  obtain⟨D,h1,h2,h3⟩:=hM.keys Tryz.underlying9;exact⟨_,_,fun l J Jx W hW hJ hJx hY h0=>AnyZ.keys_stops (ρ:=Tryz.keysR_ren) {Tryz.keysR with} Fence.wide 5 trivial rfl (by omega) Bm b N D w hB hc h1 l J Jx W hW hJ hJx (fun pre x W1 hj hl=>hY pre x W1 hj (Nat.lt_of_lt_of_le hl h2)) h0,h3⟩)
theorem yf(b n:Nat)(l:List Rf)(w:MZ)(hown:Rm w Tryz.prog 9 b n (gL l))(hl:d9 l)(hn:n<=100000) :
  Calls Tryz.prog 86 #[.map (some b)] w (zu l w):=by
 have HS:Hid (∀r∈l,r.1.size<=maxLen):=fun r hr=>hown.key_le Tryz.underlying9 ((Cc l r.1).2 (List.mem_map.2 ⟨r,hr,rfl⟩));have HL:=ah hl;have HO:=ah hown;have U:=hown.lt;clear hl hown;obtain⟨i0,hi,o,h,p⟩:=info_parts LV;have Hi:=ah hi;have F:=ah o;have G:=ah h;have H:=ah p;clear hi o h p;generalize hRR:zu l w=RR at *;have I:=ah hRR;clear hRR
 go_enter Tryz.func86,Tryz.ntmps86
 go_wp2_with fail;refine(Gv b _).mono ?_;rintro e w0 ⟨rfl,rfl⟩;have J:=ah (Eh w.heap.size b n (gL l) (w.alloc (.cells #[.map (some b)] 132)) (HO.o.alloc _) ((Bk.new w 132 #[.map (some b)]).cell 0) (by simp) (by omega));go_wp2_with fail;refine J.o.mono ?_;rintro e w1 ⟨A1,c1,ks,rfl,q,t,u,d,j⟩;obtain rfl:ks=l.map Prod.fst:=uJ q (List.pairwise_map.2 HL.o) (fun x=>(t x).trans (Cc l x));rw[FN,List.length_map]at d;rw[List.length_map]at u;obtain⟨_,_,e1,V,K⟩:=nV d;cases e1
 have HK:=ah (Sl.of_own d);have y:Hid (Below w.heap.size w w1):=((af _ w).alloc ai _).trans (j.mono (by simp));have h:w.heap.size+1<=w1.heap.size:=by have:=j.size;simp at this;omega
 have L:=ah (HO.o.kept (iA y.o none) (by simp));clear q t d j K;rw[List.length_map]
 go_wp2
 go_loopw[3,10] (fun v i wr=>∃(k:Nat)(A:OA)(c:Nat),k<=l.length/\i= .int .i64 k/\v= .slice A k c/\Hid (wr.ownsRow w1.heap.size 52 3 (.slice A k c) k (flat rfC (l.take k)))/\Hid (Below w1.heap.size w1 wr)/\w1.heap.size<=wr.heap.size) (fun _ i _=>l.length - (intOf i).toNat)
 case atStart=>exact⟨0,none,0,ZZ _,rfl,rfl,World.ownsRow_nil _ _ _ _,af _ _,Nat.le_refl _⟩
 case round =>
  obtain⟨k,A,c,hk,rfl,rfl,O,f,M⟩:=hrel;by_cases hlt:k<l.length
  . obtain⟨b1,W,r,rfl,X,hr,hc⟩:=(HK.o.below f.o ai).at_ Ie (by omega) hlt
    have y0:=hc 0 _ rfl;simp at y0;have z:=ah hr;have N:=ah (HS.o r (Z7 hr));clear hr hc;have m:=zQ (L.o.kept (iA f.o none) (by simp)) N.o;rw[EU HL.o (Z7 z.o)]at m;obtain⟨s,⟨d0,d1⟩⟩:=r;simp only[aB]at m y0;have Y: (k:Int)< (l.length:Int):=by omega
    go_wp2_with (at_builtin;refine aN ?_)
    refine aF ?_;refine iM (base:=w1.heap.size) _ rfl (.tmp 14) (.tmp 20) 30 rfl 52 i0 _ 32 Tryz.underlying30 Hi.o F.o G.o H.o rfl (by decide) _ k (flat rfC (l.take k)) rfl (O.o.alloc _) (wr.heap.size+1) _ 1 _ (flat rfC [(s,(d0,d1))]) rfl ?hs2 (Ei _) ?b4 ?b5 ?b6 ?_
    case hs2=>exact Sl.new wr 52 (flat rfC [(s,(d0,d1))]) 1 rfl
    case b4=>simp[maxLen];omega
    case b5=>omega
    case b6=>simp;omega
    intro A2 c2 w2 a B P Q;have C:Below w1.heap.size w1 w2:=(f.o.alloc M _).grown B (by simp;omega) (fun g hg=>iy O.o g hg);rw[<-bu,<-aS z.o]at a;have R:=ah a;have D:=ah C;clear a B C P Q y0 m
    go_wp2
    go_roundw
    case rel=>exact⟨k+1,A2,c2,by omega,by go_num,rfl,R.o,D.o,D.o.size⟩
    case measure=>simp[intOf];omega
  . have E:k=l.length:=by omega
    have O2:=O.o;rw[E,List.take_length]at O2;have O3:=ah O2;clear O2;subst E
    go_wp2
    rw[<-I.o];obtain⟨_,_,e6,S,T⟩:=nV O3.o;cases e6
    exact⟨A,_,c,rfl,Sl.of_own O3.o,S,T,y.o.trans (f.o.mono (by omega)),wT O3.o (by omega)⟩
end
section
open Go.Maps
theorem EN(A0 A1:OA)(n0 c0 n1 c1 B:Nat)(rs qs:List Rf)(w:MZ)(h0:Sl w B 3 A0 n0 (flat rfC rs))(h1:Sl w B 3 A1 n1 (flat rfC qs))(m0:n0<=maxLen) :
  Calls Tryz.prog 62 #[.slice A0 n0 c0,.slice A1 n1 c1] w fun e w'=>e= .returned (.bool (decide (rs=qs)))/\∃k,w'=w.drewN k:=by
 unfold maxLen at m0;have a:=ah (h0.len gP (by omega));have b:=ah (h1.len gP (by omega));have H0:=ah h0;have H1:=ah h1;clear h0 h1;have hM:Hid (decide (rs=qs)=true↔rs=qs):=decide_eq_true_iff;generalize decide (rs=qs)=mb at *;by_cases hn:n0=n1
 . subst hn
   go_enter Tryz.func62,Tryz.ntmps62
   go_wp2
   go_loopw[13] (fun i wr=>∃k nq:Nat,k<=n0/\i= .int .i64 k/\wr=w.drewN nq/\Hid (rs.take k=qs.take k)) (fun i _=>n0 - (intOf i).toNat)
   case atStart=>exact⟨0,0,ZZ _,rfl,rfl,rfl⟩
   case round =>
    obtain⟨k,nq,hk,rfl,rfl,c⟩:=hrel;by_cases hlt:k<n0
    . obtain⟨b0,o0,r,rfl,_,hr,x0,x1,x2⟩:=H0.o.ref hlt
      obtain⟨b1,o1,q,rfl,_,hq,y0,y1,y2⟩:=H1.o.ref hlt;have HR:=ah hr;have HQ:=ah hq;clear hr hq;have g: (k:Int)< (n0:Int):=by omega
      by_cases e:r=q
      . have t1: (r.1.toList == q.1.toList && (r.2.1 == q.2.1 && r.2.2 == q.2.2))=true:=by rw[e];simp
        have HE:=ah e;clear e;have f:Hid (rs.take (k+1)=qs.take (k+1)):=by
         show _=_;rw[aS HR.o,aS HQ.o,c.o,HE.o]
        go_wp2
        go_quiet(fail)
        go_wp2
        go_roundw
        case rel=>exact⟨k+1,_,by omega,by go_num,rfl,f⟩
        case measure=>simp[intOf];omega
      . have t1: (r.1.toList == q.1.toList && (r.2.1 == q.2.1 && r.2.2 == q.2.2))=false:=by
          rw[Bool.eq_false_iff];intro hh;simp only[Bool.and_eq_true,beq_iff_eq,ByteArray.toList_eq]at hh;apply e
          exact Prod.ext (iQ hh.1) (Prod.ext hh.2.1 hh.2.2)
        have HE:=ah e;clear e
        go_wp2
        go_quiet(fail)
        go_wp2
        go_ret
        refine⟨aY ?_,⟨_,World.drewN_drewN _ _ _⟩⟩
        symm
        rw[Bool.eq_false_iff];intro hh;have:=hM.o.1 hh;subst this;exact HE.o (Option.some.inj (HR.o.symm.trans HQ.o))
    . have d:Hid (mb=true):=by
        have:=c.o;rw[ZW (by rw[a.o];omega),ZW (by rw[b.o];omega)]at this;exact hM.o.2 this
      go_wp2
      go_ret
      exact⟨aY d.o.symm,_,rfl⟩
 . have h: ((n0:Int) != (n1:Int))=true:=by rw[bne_iff_ne];omega
   go_enter Tryz.func62,Tryz.ntmps62
   go_wp2
   go_ret
   refine⟨aY ?_,0,rfl⟩
   symm
   rw[Bool.eq_false_iff];intro hh;have:=hM.o.1 hh;subst this;exact hn (a.o.symm.trans b.o)
theorem Bk.agg{w:MZ}{b:Nat}{t:TypeId}{x y:M4}(h:Bk w b t #[x,y]):w.cell? ⟨b,0,none⟩=some x/\w.cell? ⟨b,1,none⟩=some y/\w.frozen? ⟨b,0,none⟩=false/\w.frozen? ⟨b,1,none⟩=false:=by
 have h0:=h.cell 0;have h1:=h.cell 1;simp at h0 h1;exact⟨h0,h1,h.free 0,h.free 1⟩
theorem Rm.drew{w:MZ}{P:Program}{k:TypeId}{b N:Nat}{g:M3->Option M4}(h:Rm w P k b N g):Rm w.drew P k b N g:=h
def vH(rs:List Rf)(x:Int)(w:MZ)(e:Ending)(w':MZ):Prop :=
 ∃mb:Option Nat,e= .returned (.tuple #[.map mb,.int .i64 x])/\Below w.heap.size w w'/\ (x=0->∃b,mb=some b/\w.heap.size<=b/\Rm w' Tryz.prog 9 b 1000 (gL rs))
theorem xW(A0 A1:OA)(n0 c0 n1 c1 B:Nat)(rs:List Rf)(log:List Upd)(w:MZ)(h0:Sl w B 3 A0 n0 (flat rfC rs))(h1:Sl w B 5 A1 n1 (flat upC log))(hB:B<=w.heap.size)
  (hn0:n0<=maxLen) (hn1:n1<=maxLen) (hs:∀u∈log,u.1.size<=maxLen) :
  Calls Tryz.prog 71 #[.agg #[.slice A0 n0 c0,.slice A1 n1 c1]] w (vH rs (aV rs log) w):=by
 have g:=ah (h1.len eD (by omega));have H0:=ah (h0.alloc hB (.cells #[.slice A0 n0 c0,.slice A1 n1 c1] 33));have H1:=ah (h1.alloc hB (.cells #[.slice A0 n0 c0,.slice A1 n1 c1] 33));clear h0 h1;have HS:=ah hs;clear hs;have v:=ah hn0;clear hn0;have HB:=ah ((af w.heap.size w).alloc ai (.cells #[.slice A0 n0 c0,.slice A1 n1 c1] 33));have hC:Hid (aV rs log=if 1000<log.length then 4 else if(aO [] log).2≠0 then(aO [] log).2 else if(aO [] log).1=rs then 0 else 11):=rfl;generalize aV rs log=ce at *;have HR:Hid (∀r,ce=r->∀e w',vH rs r w e w'->vH rs ce w e w'):=fun r h e w' hh=>by rw[h];exact hh
 unfold maxLen at hn1;by_cases hbig:1000<n1
 . have a:Hid (ce=4):=by show _=_;rw[hC.o,if_pos (by rw[g.o];exact hbig)]
   go_enter Tryz.func71,Tryz.ntmps71
   go_wp2_with fail;go_ret2
   exact HR.o _ a.o _ _ ⟨none,rfl,HB.o,fun h=>by cases h⟩
 . have f:Hid (ce=if(aO [] log).2≠0 then(aO [] log).2 else if(aO [] log).1=rs then 0 else 11):=by
     show _=_;rw[hC.o,if_neg (by rw[g.o];exact hbig)]
   have o:=ah (tV log [] List.Pairwise.nil);generalize hr:aO [] log=r at *;obtain⟨l,x⟩:=r;have q:=ah hr;clear hr
   go_enter Tryz.func71,Tryz.ntmps71
   go_wp2_with fail;refine(FO A1 n1 c1 B log _ H1.o (by simp;omega) (by omega) HS.o).mono ?_;rintro e w1 ⟨mb,rfl,hb,hm⟩;rw[q.o]at hm ⊢;simp only at hm ⊢;have k0:Bk w1 w.heap.size 33 #[.slice A0 n0 c0,.slice A1 n1 c1]:=(Bk.new w 33 _).below hb (by simp);obtain⟨x0,x1,_,_⟩:=k0.agg;have s:=ah (H0.o.below hb (by simp;omega));have i:=ah (HB.o.trans (hb.mono (by simp)));have hz:w.heap.size+1<=w1.heap.size:=by have:=hb.size;simp at this;omega
   have HM:=ah hm;have K0:=ah k0;clear hm hb k0;by_cases hx:x=0
   . subst hx
     obtain⟨b,rfl,j,d⟩:=HM.o rfl;clear HM;have HO:=ah (d.more (show n1<=1000 by omega));have y:=d.lt;clear d;have KS:Hid (∀W,Below w1.heap.size w1 W->W.cell? ⟨w.heap.size,0,none⟩=some (.slice A0 n0 c0)):=fun W hb=>(hb.cell (p:=⟨w.heap.size,0,none⟩) (by show w.heap.size<_;omega)).trans x0;go_wp2_with fail
     go_region_held3 (fun w'=>w'.cell? ⟨w.heap.size,0,none⟩=some (.slice A0 n0 c0)) (first | exact x0 | exact KS.o _ ((af _ _).drew.trans hb2) | exact KS.o _ (lM ((af _ _).drew.trans hb2) _)) (first | (go_at_call 86;refine(yf b 1000 l _ HO.o.drew o.o (by omega)).mono ?_;rintro e w2 ⟨A,m,c,rfl,hSl,hmc,hcm,hb2,_⟩) | (go_at_call 62;refine(EN A A0 m c n0 c0 w2.heap.size l rs _ hSl ((s.o.drew.below hb2 (by show _<=w1.heap.size;omega)).more (by have:w1.heap.size<=w2.heap.size:=hb2.size;omega)) (by omega)).mono ?_;rintro e w3 ⟨rfl,k,rfl⟩))
     have n:Hid (Below w.heap.size w (w2.drewN k)):=lM (i.o.drew.trans (hb2.mono (by show _<=w1.heap.size;omega))) _;have t:Hid (Rm (w2.drewN k) Tryz.prog 9 b 1000 (gL l)):=(HO.o.drew.kept (iA (lM hb2 k) none) (by simp))
     have z:Bk (w2.drewN k) w.heap.size 33 #[.slice A0 n0 c0,.slice A1 n1 c1]:=(K0.o.drew.below hb2 (by show _<w1.heap.size;omega)).drewN k;clear hSl hb2 hcm;by_cases he:l=rs
     . have hd:decide (l=rs)=true:=decide_eq_true he
       have a:Hid (ce=0):=by show _=_;rw[f.o];simp[he]
       rw[hd];have HE:=ah he;clear hd he;go_wp2_with fail;go_ret2
       exact HR.o _ a.o _ _ ⟨some b,rfl,n.o,fun _=>⟨b,rfl,by simp at j;omega,by rw[<-HE.o];exact t.o⟩⟩
     . have hd:decide (l=rs)=false:=decide_eq_false he
       have a:Hid (ce=11):=by show _=_;rw[f.o];simp[he]
       rw[hd];clear hd he;go_wp2_with fail;go_ret2
       exact HR.o _ a.o _ _ ⟨none,rfl,n.o,fun h=>by cases h⟩
   . have C: (x != 0)=true:=by rw[bne_iff_ne];exact hx
     have a:Hid (ce=x):=by show _=_;rw[f.o];simp[hx]
     have HX:=ah hx;clear hx;go_wp2_with fail;go_ret2
     exact HR.o _ a.o _ _ ⟨none,rfl,i.o,fun h=>absurd h HX.o⟩
theorem nQ{P:Program}(w:MZ)(t e:TypeId)(a:OA)(l c:Nat)(h:P.underlying t=some (.slice e)): (binOp .eql t (.slice a l c) (.slice none 0 0)).run P w= .ok (.bool a.isNone) w:=by
 simp only[binOp];simp[run_equal_slice_nil w t e a l c h]
def CQ(us:List Upd)(n:Nat)(w:MZ)(e:Ending)(w':MZ):Prop :=
 ∃A c,e= .returned (.slice A n c)/\Apd w' w.heap.size 85 5 A n c (flat upC us)/\Below w.heap.size w w'/\n<=c/\c<=maxLen
theorem ED(A:OA)(n c B:Nat)(us:List Upd)(w:MZ)(h:Sl w B 5 A n (flat upC us))(hB:B<=w.heap.size)(hn:n<=100000) :
  Calls Tryz.prog 84 #[.slice A n c] w (CQ us n w):=by
 have H:=ah h;clear h;obtain⟨i0,hi,g,d,f⟩:=info_parts qo;have Hi:=ah hi;have l:=ah g;have m:=ah d;have o:=ah f;clear hi g d f;generalize hRR:CQ us n w=RR at *;have i:=ah hRR;clear hRR;cases A with
 | none =>
   have h0:n=0:=by
    rcases Nat.eq_zero_or_pos n with h | h
    . exact h
    . obtain⟨b,r,e,_⟩:=H.o.2 h;cases e
   subst h0;have hx:flat upC us= []:=by
    have:=H.o.1;rw[Nat.zero_mul]at this;exact List.length_eq_zero_iff.1 this
   have p:∀w:MZ,(binOp .eql 31 (.slice none 0 c) (.slice none 0 0)).run Tryz.prog w= .ok (.bool true) w:=fun w=>nQ w 31 85 none 0 c Tryz.underlying31
   go_enter Tryz.func84,Tryz.ntmps84
   go_wp2
   rw[<-i.o];exact⟨none,0,rfl,.inr ⟨rfl,rfl,hx⟩,af _ _,Nat.le_refl _,ZZ _⟩
 | some a =>
   have p:∀w:MZ,(binOp .eql 31 (.slice (some a) n c) (.slice none 0 0)).run Tryz.prog w= .ok (.bool false) w:=fun w=>nQ w 31 85 (some a) n c Tryz.underlying31
   go_enter Tryz.func84,Tryz.ntmps84
   go_wp2_with (at_builtin;refine aN ?_)
   refine aF ?_;refine dB (base:=w.heap.size) _ rfl (.tmp 5) (.tmp 6) 31 rfl 85 i0 _ 48 Tryz.underlying31 Hi.o l.o m.o o.o rfl (by decide) _ 0 0 [] rfl (.inr ⟨rfl,rfl,rfl⟩) B _ n c (flat upC us) rfl (H.o.alloc hB _) (nZ _) (by unfold maxLen;omega) (by omega) (by simp) ?_;intro A2 c2 w2 ha hb j k q;rw[Nat.zero_add,List.nil_append]at ha;rw[Nat.zero_add]at j ⊢;have HA:=ah ha;have HB:=ah (((af _ w).alloc ai _).trans hb);have HM:=ah k;clear ha hb q k
   go_wp2
   rw[<-i.o];exact⟨A2,c2,rfl,HA.o,HB.o,j,HM.o⟩
end
section
open Go.Maps
def JH(w:MZ)(base av n:Nat)(bs:M5)(e:Ending)(w':MZ):Prop:=∃A c,e= .returned (.slice A n c)/\Txt w' base av A n c bs/\Below base w w'/\w'.heap[av]? =w.heap[av]?
theorem wH(d:Dig)(hd:WfD d)(A:OA)(n c base av:Nat)(bs:M5)(w:MZ)(h:Txt w base av A n c bs)(hbase:base<=w.heap.size)(hav:av<w.heap.size)(hlen:n<=1099511627776) :
  Calls Tryz.prog 179 #[.slice A n c,aB d] w (JH w base av (n+16) (bs++ax d)):=by
 obtain⟨x,y⟩:=d;obtain⟨o,r,s,t⟩:=hd;simp only at o r s t;obtain⟨x,rfl⟩:=Int.eq_ofNat_of_zero_le o;obtain⟨y,rfl⟩:=Int.eq_ofNat_of_zero_le s;have M:=ah r;have N:=ah t;clear o r s t;show Calls Tryz.prog 179 #[.slice A n c,.agg #[.int .u64 x,.int .u64 y]] w _;obtain⟨i0,hi,C,D,E⟩:=info_parts infoByte;have Hi:=ah hi;have O:=ah C;have P:=ah D;have Q:=ah E;clear hi C D E;have HT:Hid (Txt (w.alloc (.cells #[.int .u64 x,.int .u64 y] 50)) base av A n c bs):=h.below ((af _ _).alloc ai _);have HB:Hid (Below base w (w.alloc (.cells #[.int .u64 x,.int .u64 y] 50))):=(af _ _).alloc hbase _;clear h
 go_enter Tryz.func179,Tryz.ntmps179
 go_wp2
 go_loopw[0,9] (fun v i wr=>∃(k:Nat)(A':OA)(m c':Nat),k<=2/\i= .int .i64 k/\v= .slice A' m c'/\Hid (m=n+8*k)/\Hid (Txt wr base av A' m c' (bs++ (ax (x,y)).take (8*k)))/\Hid (Below base w wr)/\base<=wr.heap.size/\Hid (wr.heap[av]? =w.heap[av]?)/\av<wr.heap.size) (fun _ i _=>2 - (intOf i).toNat)
 case atStart=>exact⟨0,A,n,c,by omega,rfl,rfl,rfl,by show Txt _ _ _ _ _ _ _;rw[show 8*0=0 from rfl,List.take_zero,List.append_nil];exact HT.o,HB.o,by simp;omega,Below.heap_alloc w _ av hav,by simp;omega⟩
 case round =>
  obtain⟨k,A',m,c',hk,rfl,rfl,hm,hT,hB,f,a,g⟩:=hrel;by_cases hlt2:k<2
  . have R: (k:Int)<2:=by omega
    obtain⟨z,hz,Z,F⟩:∃z:Nat,Hid (z<18446744073709551616)/\ (∀w,(Instr.index 50 (.agg #[.int .u64 (x:Int),.int .u64 (y:Int)]) (.int .i64 (k:Int))).run Tryz.prog w= .ok (.int .u64 (z:Int)) w)/\ (∀j,j<8-> (ax ((x:Int),(y:Int)))[8*k+j]? =some (UInt8.ofNat (z / 256 ^ (7 - j) % 256))):=by
     rcases Nat.lt_or_ge k 1 with h1 | h1
     . obtain rfl:k=0:=by omega
       refine⟨x,by show _<_;have:=M.o;omega,fun w=>by kernel_rfl,fun j hj=>?_⟩;unfold ax;rw[List.getElem?_append_left (by rw[fZ];omega),Int.toNat_natCast,show 8*0+j=j by omega];exact jN 8 x j hj
     . obtain rfl:k=1:=by omega
       refine⟨y,by show _<_;have:=N.o;omega,fun w=>by kernel_rfl,fun j hj=>?_⟩;unfold ax;rw[List.getElem?_append_right (by rw[fZ];omega),Int.toNat_natCast,fZ,show 8*1+j - 8=j by omega];exact jN 8 y j hj
    have S:=ah F;clear F
    go_wp2
    obtain⟨wo,rfl⟩:∃wo:MZ,wo=wr:=⟨_,rfl⟩
    go_loopw[0,7] (fun v i wr=>∃(j:Nat)(A':OA)(m c':Nat),j<=8/\i= .int .i64 (56 - 8* (j:Int))/\v= .slice A' m c'/\Hid (m=n+8*k+j)/\Hid (Txt wr base av A' m c' (bs++ (ax ((x:Int),(y:Int))).take (8*k+j)))/\Hid (Below base w wr)/\base<=wr.heap.size/\Hid (wr.heap[av]? =w.heap[av]?)/\av<wr.heap.size) (fun _ i _=>(intOf i+8).toNat)
    case atStart=>exact⟨0,A',m,c',by omega,rfl,rfl,hm,hT,hB,f,a,g⟩
    case round =>
     obtain⟨j,A',m,c',hj,rfl,rfl,hm,hT,hB,f,a,g⟩:=hrel;by_cases hlt:j<8
     . have G: (0:Int)<=56 - 8* (j:Int):=by omega
       obtain⟨p,hp⟩:=NX9 (z / 256 ^ (7 - j))
       have ab:∀yk,Op.shift .shr .u64 (z:Int) yk (56 - 8* (j:Int))=pure (.int .u64 (p:Int)):=fun yk=>by
        rw[shift_shr .u64 yk _ _ G (by show _<= (64:Int);omega),<-hp];rw[show(56 - 8* (j:Int)).toNat=8* (7 - j) by omega];have e: ((z:Int) / 2 ^ (8* (7 - j)))= ((z / 256 ^ (7 - j):Nat):Int):=by
         rw[show(256:Nat)=2 ^ 8 from rfl,<-Nat.pow_mul];simp
        rw[e]
       obtain⟨b,hb⟩:=NX9 (UInt8.ofNat (p % 256))
       have hw:IntKind.u8.wrap (p:Int)= (b.toNat:Int):=by
        rw[IntKind.wrap_u8,<-hb,je (by omega)];omega
       have T:Hid ((ax ((x:Int),(y:Int)))[8*k+j]? =some b):=by
        show _=_;rw[S.o j hlt,hp,hb]
       clear hp hb;generalize hq:56 - 8* (j:Int)=q at *;have HQ:=ah hq;clear hq
       go_wp2_with (at_builtin;refine aN ?_)
       refine aF ?_;have ad:m<=2000000000000:=by have:=hm.o;omega
       refine nR (base:=base) (av:=av) rfl (.tmp 16) (.tmp 21) 213 213 rfl 5 i0 Tryz.underlying213 Hi.o O.o P.o Q.o A' m c' (bs++ (ax ((x:Int),(y:Int))).take (8*k+j)) rfl ?tx _ 1 [b] rfl ?src (by omega) (by simp;omega) (by simp;omega) ?_
       case tx=>exact hT.o.below ((af _ _).alloc ai _)
       case src =>
        refine Src.ofSlice _ Tryz.underlying213 ⟨wr.heap.size,0,none⟩ 1 1 (bc [b]) rfl (fun i u hu=>?_) (fun u hu=>?_)
        . match i,hu with
          | 0,hu=>simp[bc]at hu;subst hu;simp[Addr.add]
        . simp[bc]at hu;subst hu;rfl
       intro A5 c5 w5 a5 l H;have U:Hid (w5.heap[av]? =w.heap[av]?):=(H.trans (Below.heap_alloc wr _ av g)).trans a.o;have I:av<w5.heap.size:=by have:=l.size;simp at this;omega
       clear H;rw[Z4,<-aS T.o]at a5;have V:=ah a5;have W:=ah ((hB.o.alloc f (.cells #[.int .u8 b.toNat] 5)).trans l);have X:base<=w5.heap.size:=by have:=l.size;simp at this;omega
       clear a5 l;have ag: -100<=q:=by have:=HQ.o;omega
       have al:q<=100:=by have:=HQ.o;omega
       go_wp2
       go_roundw
       case rel=>exact⟨j+1,A5,m+1,c5,by omega,by rw[<-HQ.o];congr 1;omega,rfl,by show _=_;have:=hm.o;omega,V.o,W.o,X,U.o,I⟩
       case measure=>have:=HQ.o;simp[intOf];omega
     . have G:¬(0:Int)<=56 - 8* (j:Int):=by omega
       have J:Hid (j=8):=by show _=_;omega
       generalize hq:56 - 8* (j:Int)=q at *;clear hq
       go_wp2
       go_roundw
       case rel=>exact⟨k+1,A',m,c',by omega,by go_num,rfl,by show _=_;have:=hm.o;have:=J.o;omega,by show Txt _ _ _ _ _ _ _;have h1:=hT.o;rw[J.o]at h1;exact h1,hB.o,f,a.o,g⟩
       case measure=>simp[intOf];omega
  . have R:¬(k:Int)<2:=by omega
    have K:Hid (k=2):=by show _=_;omega
    have B:=hT.o;have L:=hm.o;rw[K.o,ZW (by rw[fH];omega)]at B;rw[K.o]at L;obtain rfl:m=n+16:=L;have Y:=ah B;clear B hm
    go_wp2
    go_ret
    exact⟨A',c',rfl,Y.o,hB.o,a.o⟩
theorem xz{u:Upd}(h:di u=0):u.1.size<=100:=by
 unfold di at h;by_cases hn:bL u.1=true
 . rcases Nat.lt_or_ge 100 u.1.size with hl | hl
   . unfold bL at hn;rw[decide_eq_false (by have:=gN u.1;unfold bl;omega),Bool.false_and]at hn;cases hn
   . exact hl
 . rw[if_neg hn]at h;cases h
theorem Ig{u:Upd}(h:u.1.size<=100): (fG u).length<=138:=by
 have h1:=eu 0 u.1.size (by omega);unfold fG ak;rw[<-aP];simp[fH,<-aP];omega
theorem Az:∀(us:List Upd),(∀u∈us,u.1.size<=100)-> (bC us).length<=138*us.length
 | [],_=>by simp[bC]
 | u::us,h=>by
   have h1:=Ig (h u (by simp));have h2:=Az us (fun v hv=>h v (by simp[hv]));have e:bC (u::us)=fG u++bC us:=rfl;rw[e,ae,Z5];omega
theorem yH(us:List Upd)(u:Upd):bC (us++ [u])=bC us++fG u:=by simp[bC]
theorem Ia{us:List Upd}{k:Nat}{u:Upd}(h:us[k]? =some u):dA (us.drop k)=if di u≠0 then di u else dA (us.drop (k+1)):=by
 have hl:=List.getElem?_eq_some_iff.1 h;rw[List.drop_eq_getElem_cons hl.1,dA,hl.2]
theorem JX(s:M3)(w:MZ):Src Tryz.prog 1 9 (.string s) s.size (bc (toL s)) w:=by
 have h:=Src.ofString (P:=Tryz.prog) w Tryz.underlying9 s;exact h
def qp(r:M5×Int)(w:MZ)(e:Ending)(w':MZ):Prop:=e= .returned (.tuple #[.string (ofL r.1),.int .i64 r.2])/\Below w.heap.size w w'
theorem Ea(A:OA)(n c B:Nat)(us:List Upd)(w:MZ)(h0:Sl w B 5 A n (flat upC us))(hB:B<=w.heap.size)(hn:n<=maxLen)(hs:∀u∈us,u.1.size<=maxLen)(hw:∀u∈us,WfU u) :
  Calls Tryz.prog 108 #[.slice A n c] w (qp (encR us) w):=by
 unfold maxLen at hn;have HL:=ah (h0.len eD (by omega));have H0:=ah h0;have HS:=ah hs;have HW:=ah hw;clear h0 hs hw;have HR:Hid (∀r,encR us=r->∀e w',qp r w e w'->qp (encR us) w e w'):=fun r h e w' hh=>by rw[h];exact hh
 have HD:Hid (encR us=if 1000<us.length then([],4) else if dA us≠0 then([],dA us) else(aj us.length++bC us,0)):=rfl;obtain⟨i0,hi,E,F,G⟩:=info_parts infoByte;have Hi:=ah hi;have Y:=ah E;have Z:=ah F;have ab:=ah G;clear hi E F G;by_cases hlim:1000<n
 . have ad: (1000:Int)< (n:Int):=by omega
   have d:Hid (encR us= ([],4)):=by show _=_;rw[HD.o,if_pos (by rw[HL.o];exact hlim)]
   clear HD
   go_enter Tryz.func108,Tryz.ntmps108
   go_wp2
   go_ret2
   exact HR.o _ d.o _ _ ⟨rfl,af _ _⟩
 . have ad:¬(1000:Int)< (n:Int):=by omega
   have l:Hid (encR us=if dA us≠0 then([],dA us) else(aj us.length++bC us,0)):=by show _=_;rw[HD.o,if_neg (by rw[HL.o];exact hlim)]
   clear HD
   go_enter Tryz.func108,Tryz.ntmps108
   go_wp2
   go_loopw[19] (fun i wr=>∃k:Nat,k<=n/\i= .int .i64 k/\Hid (dA us=dA (us.drop k))/\Hid (Below w.heap.size w wr)) (fun i _=>n - (intOf i).toNat)
   case atStart=>exact⟨0,ZZ _,rfl,rfl,af _ _⟩
   case round =>
    obtain⟨k,hk,rfl,hE,a⟩:=hrel;by_cases hlt:k<n
    . obtain⟨b,ag,u,rfl,al,hu,y0,y1,y2,y3,y4⟩:=(H0.o.below a.o hB).upd hlt
      have H:=ah (Ia hu);have am:=ah (HS.o u (Z7 hu));clear hu;obtain⟨s,⟨o0,o1⟩,⟨q0,q1⟩⟩:=u;have o: (k:Int)< (n:Int):=by omega
      go_wp2_with fail;refine(rC (s,(o0,o1),(q0,q1)) _ am.o).mono ?_;generalize hpe:di (s,(o0,o1),(q0,q1))=pe at *;rintro e w1 ⟨rfl,I⟩;have J:Hid (Below w.heap.size w w1):=(a.o.alloc a.o.size _).trans (I.mono (by have:=a.o.size;simp;omega));clear I y0 y1 y2 y3 y4 hpe;by_cases hp:pe=0
      . subst hp
        have HN:Hid (dA us=dA (us.drop (k+1))):=by show _=_;rw[hE.o,H.o];simp
        go_wp2
        go_roundw
        case rel=>exact⟨k+1,by omega,by go_num,HN.o,J.o⟩
        case measure=>simp[intOf];omega
      . have aE: (pe != 0)=true:=by rw[bne_iff_ne];exact hp
        have d:Hid (encR us= ([],pe)):=by
         show _=_;have e1:dA us=pe:=by rw[hE.o,H.o,if_pos hp]
         rw[l.o,e1,if_pos hp]
        clear hp
        go_wp2
        go_ret2
        exact HR.o _ d.o _ _ ⟨rfl,J.o⟩
    . have o:¬(k:Int)< (n:Int):=by omega
      have p:dA us=0:=by rw[hE.o,List.drop_of_length_le (by rw[HL.o];omega)];rfl
      have d:Hid (encR us= (aj n++bC us,0)):=by
       show _=_;rw[l.o,p,HL.o];simp
      have HP:=ah ((sU us).1 p);clear hE p l;go_wp2_with fail;refine(l8 n (by omega) _).mono ?_;rintro e w2 ⟨rfl,K⟩;have L:=ah (a.o.trans (K.mono a.o.size));clear K;have ba: (aj n).length<=6:=eu 5 n (by omega);obtain⟨A1,c1,w3,j,hT,q⟩:=Jv (P:=Tryz.prog) 9 213 5 (ofL (aj n)) Tryz.underlying9 Tryz.underlying213 Tryz.underlying5 (by rw[bG];unfold maxLen;omega) w2;have HT:=ah hT;have M:=ah q;have N: (ofL (aj n)).size= (aj n).length:=rfl;have HM:Hid ((aj n).length= (aj n).length+ (bC (us.take 0)).length):=by show _=_;simp[bC]
      rw[N]at j HT;rw[bP]at HT;have O:w2.heap.size<=w3.heap.size:=q.size;clear N hT q
      go_wp2
      obtain⟨wo,rfl⟩:∃wo:MZ,wo=wr:=⟨_,rfl⟩
      go_loopw[9,39] (fun v i wr=>∃(k:Nat)(A':OA)(m c':Nat),k<=n/\i= .int .i64 k/\v= .slice A' m c'/\Hid (m= (aj n).length+ (bC (us.take k)).length)/\Hid (Txt wr w2.heap.size wr.heap.size A' m c' (aj n++bC (us.take k)))/\Hid (Below w2.heap.size w2 wr)/\w2.heap.size<=wr.heap.size) (fun _ i _=>n - (intOf i).toNat)
      case atStart=>exact⟨0,A1,_,c1,ZZ _,rfl,rfl,HM.o,by show Txt _ _ _ _ _ _ _;rw[List.take_zero,show bC []= [] from rfl,List.append_nil];exact HT.o.avoid ai,M.o,O⟩
      case round =>
       clear HT M j HM O;obtain⟨k,A',m,c',hk,rfl,rfl,hm,hT,Q,R⟩:=hrel;have S:=ah (L.o.trans (Q.o.mono L.o.size));by_cases hlt:k<n
       . obtain⟨b,ag,u,rfl,al,hu,y0,y1,y2,y3,y4⟩:=(H0.o.below S.o hB).upd hlt
         have f:=Z7 hu;have x:=xz (HP.o u f);have T:=ah (HW.o u f);have an:Hid (aj n++bC (us.take (k+1))=aj n++bC (us.take k)++fG u):=by
          show _=_;rw[aS hu,yH,Z4]
         have bb:m<=200000:=by
          have h1:=Az (us.take k) (fun v hv=>xz (HP.o v (List.mem_of_mem_take hv)));have h2:=hm.o;rw[List.length_take]at h1;omega
         have ao:Hid ((bC (us.take (k+1))).length= (bC (us.take k)).length+ (fG u).length):=by
          show _=_;rw[aS hu,yH,ae]
         clear hu f;obtain⟨s,⟨o0,o1⟩,⟨q0,q1⟩⟩:=u;simp only at x;have o: (k:Int)< (n:Int):=by omega
         have aD:=R;have U:Bk (wr.alloc (.cells #[.string s,.int .u64 o0,.int .u64 o1,.int .u64 q0,.int .u64 q1] 85)) wr.heap.size 85 #[.string s,.int .u64 o0,.int .u64 o1,.int .u64 q0,.int .u64 q1]:=Bk.new wr 85 _;have ap:=ah U;clear U;go_wp2_with fail;refine(rE s (by omega) _).mono ?_;obtain⟨t,ht⟩:=NX9 (ofL (ak (toL s)))
         rw[ht];have V:Hid (toL t=ak (toL s)):=by show _=_;rw[<-ht];rfl
         have bd:t.size<=110:=by
          rw[<-ht,bG];unfold ak;have h1:=eu 0 (toL s).length (by rw[<-aP];omega);rw[ae,<-aP]at *;omega
         clear ht;rintro e w4 ⟨rfl,g⟩;have bf:wr.heap.size+1<=w4.heap.size:=by have:=g.size;simp at this;omega
         have K4:=ah (ap.o.below g (by simp));have T4:=ah ((hT.o.below ((af _ wr).alloc ai _)).below g);have B4:=ah ((Q.o.alloc R (.cells #[.string s,.int .u64 o0,.int .u64 o1,.int .u64 q0,.int .u64 q1] 85)).trans (g.mono (by simp;omega)));clear g y0 y1 y2 y3 y4
         go_wp2_with (at_builtin;refine aN ?_)
         refine aF ?_;refine nR (base:=w2.heap.size) (av:=wr.heap.size) rfl (.tmp 49) (.tmp 50) 213 9 rfl 5 i0 Tryz.underlying213 Hi.o Y.o Z.o ab.o A' m c' (aj n++bC (us.take k)) rfl T4.o (.string t) t.size (toL t) rfl (JX t _) (by omega) (by omega) (by omega) ?_;intro A5 c5 w5 a5 y W;have T5:=ah a5;have B5:=ah (B4.o.trans y);have bg:=y.size;have K5:Hid (Bk w5 wr.heap.size 85 #[.string s,.int .u64 o0,.int .u64 o1,.int .u64 q0,.int .u64 q1]):=W.trans K4.o;clear a5 y W T4 B4 K4;have u1:=K5.o.cell 1;have u2:=K5.o.cell 2;simp at u1 u2;go_wp2_with fail;refine(wH (o0,o1) T.o.1 A5 _ c5 w2.heap.size wr.heap.size _ _ T5.o (by omega) (by omega) (by omega)).mono ?_;rintro e w6 ⟨A6,c6,rfl,a6,z,X⟩;have T6:=ah a6;have B6:=ah (B5.o.trans z);have bh:=z.size;have K6:Hid (Bk w6 wr.heap.size 85 #[.string s,.int .u64 o0,.int .u64 o1,.int .u64 q0,.int .u64 q1]):=X.trans K5.o;clear a6 z X u1 u2 T5 B5 K5;have u3:=K6.o.cell 3;have u4:=K6.o.cell 4;simp at u3 u4;go_wp2_with fail;refine(wH (q0,q1) T.o.2 A6 _ c6 w2.heap.size wr.heap.size _ _ T6.o (by omega) (by omega) (by omega)).mono ?_;rintro e w7 ⟨A7,c7,rfl,a7,C,aq⟩;have bi:=C.size;have ar:=ah (B6.o.trans C);have e1:aj n++bC (us.take k)++toL t++ax (o0,o1)++ax (q0,q1)=aj n++bC (us.take (k+1)):=by
          rw[an.o,V.o];simp[fG]
         rw[e1]at a7;have T7:=ah (a7.avoid ai);have au:Hid (m+t.size+16+16= (aj n).length+ (bC (us.take (k+1))).length):=by
          show _=_;have h1:=hm.o;have h2:=ao.o;have h3: (fG (s,(o0,o1),(q0,q1))).length=t.size+32:=by
           rw[aP,V.o];simp[fG,fH]
          omega
         clear a7 C aq u3 u4 T6 B6 K6 e1
         go_wp2
         go_roundw
         case rel=>exact⟨k+1,A7,_,c7,by omega,by go_num,rfl,au.o,T7.o,ar.o,by omega⟩
         case measure=>simp[intOf];omega
       . have o:¬(k:Int)< (n:Int):=by omega
         have D:=hT.o;rw[ZW (by rw[HL.o];omega)]at D;have aw:=D.run_string (P:=Tryz.prog) 213 9 5 Tryz.underlying213 Tryz.underlying5 Tryz.underlying9;clear D hT
         go_wp2
         go_ret2
         exact HR.o _ d.o _ _ ⟨rfl,S.o⟩
end
theorem FH{α:Type}{enc:α->List M4}(l:List α)(x:α):flat enc (l++ [x])=flat enc l++enc x:=by rw[bu];simp[flat]
theorem BG:∀(us:List Upd),(∀u∈us,u.1.size<=65536)-> (bC us).length<=65574*us.length
 | [],_=>by simp[bC]
 | u::us,h=>by
   have h1:=BG us (fun x hx=>h x (by simp[hx]));have h2:=h u (by simp);have h3:=eB (n:=(toL u.1).length) (by rw[<-aP];omega);have h4: (toL u.1).length<=65536:=by rw[<-aP];exact h2
   unfold bC at h1 ⊢;simp only[List.flatMap_cons,ae,Z5,fG,ak,fH]at h1 ⊢;omega
def vT(l:List M5)(w:MZ)(e:Ending)(w':MZ):Prop:=∃A m c,e= .returned (.tuple #[.slice A m c,.int .i64 0])/\Sl w' w'.heap.size 1 A m (flat aA l)/\m=l.length/\m<=c/\c<=maxLen/\Below w.heap.size w w'
theorem yg(us:List Upd)(A1:OA)(n1 c1:Nat)(p:List Itm)(A:OA)(n c B:Nat)(w:MZ)(h0:Sl w B 5 A1 n1 (flat upC us))(h1:Sl w B 3 A n (flat itC p))(hB:B<=w.heap.size)(hg:GOk (us,aU p))(hn:n<=100000) :
  Calls Tryz.prog 48 #[.slice A1 n1 c1,.slice A n c] w (vT (aM (us,aU p)) w):=by
 have C:=h1.len bO (by omega);have K:=h0.len eD (by omega);have a:=hg.few;have r:=ah (l8 n (by omega) w);have s:=hg.enc;have HE:Hid (∀W,Below w.heap.size w W->Calls Tryz.prog 108 #[.slice A1 n1 c1] W fun e w'=>e= .returned (.tuple #[.string (ofL (encR us).1),.int .i64 0])/\Below W.heap.size W w'):=fun W hb=>by
  have:=Ea A1 n1 c1 B us W (h0.below hb hB) (by have:=hb.size;omega) (by unfold maxLen;simp only at a;omega) (fun u hu=>by have:=(hg.us u hu).1;unfold maxLen;omega) (fun u hu=>(hg.us u hu).2);unfold qp at this;rw[s]at this ⊢;exact this
 have D: (encR us).1.length<=70000000:=by
  rw[s];have h1:=BG us (fun u hu=>(hg.us u hu).1);have h2:=eB (n:=us.length) (by simp only at a;omega);simp only[ae]at a ⊢;omega
 obtain⟨s1,d⟩:=NX9 (ofL (aj n))
 obtain⟨s2,f⟩:=NX9 (ofL (encR us).1)
 have L:s1.size<=6:=by rw[<-d,bG];exact eB (by omega)
 have M:s2.size<=70000000:=by rw[<-f,bG];exact D
 have HS:Hid (Value.string (s1++s2)= .string (ofL (fq us n))):=by
  show _=_;rw[<-d,<-f];rfl
 have X:¬(9223372036854775807<s1.size+s2.size):=by omega
 rw[d]at r;rw[f]at HE;obtain⟨i0,hi,j,l,m⟩:=info_parts iT;have Hi:=ah hi;have N:=ah j;have O:=ah l;have P:=ah m;have HP:=ah h1;have b:=ah C;clear h0 h1 hg a s D d f L M C K hi j l m
 go_enter Tryz.func48,Tryz.ntmps48
 go_wp2_with fail;refine r.o.mono ?_;rintro e w1 ⟨rfl,t⟩;have v:=ah t;have E:=ah (HE.o w1 t);clear t HE r;go_wp2_with fail;refine E.o.mono ?_;rintro e w2 ⟨rfl,F⟩;have G:Hid (Below w.heap.size w w2):=v.o.trans (F.mono v.o.size);clear F E v;have z2:=G.o.size;go_wp2_with fail
 go_loopw[9,35] (fun q i wr=>∃(k:Nat)(A':OA)(c':Nat),k<=n/\i= .int .i64 k/\q= .slice A' (k+1) c'/\k+1<=c'/\c'<=maxLen/\Hid (wr.ownsRow w.heap.size 9 1 (.slice A' (k+1) c') (k+1) (flat aA (fq us n::aU (p.take k))))/\Hid (Below w.heap.size w wr)) (fun _ i _=>n - (intOf i).toNat)
 case atStart =>
  refine⟨0,_,1,ZZ _,rfl,rfl,by omega,by unfold maxLen;omega,?_,G.o.alloc z2 _⟩;show World.ownsRow _ _ _ _ _ _ _;have:=World.ownsRow_lit (base:=w.heap.size) (e:=9) (size:=1) w2 #[.string (s1++s2)] 1 z2 (by unfold maxLen;omega) rfl;rw[HS.o]at this ⊢;exact this
 case round =>
  obtain⟨k,A',c',hk,rfl,rfl,Q,R,hO,o⟩:=hrel;have HO:=ah hO.o;have h:=ah o.o;have zr:w.heap.size<=wr.heap.size:=h.o.size;clear hO o;by_cases hlt:k<n
  . obtain⟨bb,Y,x,rfl,Z,hx,y0,y1,y2⟩:=(HP.o.below h.o hB).it hlt
    have S: (k:Int)< (n:Int):=by omega
    have HX:Hid (flat aA (fq us n::aU (p.take (k+1)))=flat aA (fq us n::aU (p.take k))++ [.string x.2]):=by
     show _=_;rw[aS hx,show aU (p.take k++ [x])=aU (p.take k)++ [toL x.2] by simp[aU],<-List.cons_append,FH];simp[aA,iF]
    clear hx;obtain⟨⟨x1,x2⟩,xs⟩:=x;simp only at y0 y1 y2 HX;have T:Hid (Bk ((wr.alloc (.cells #[.int .u64 x1,.int .u64 x2,.string xs] 118)).alloc (.cells #[.string xs] 9)) (wr.heap.size+1) 9 #[.string xs]):=by
     have e:=Bk.new (wr.alloc (.cells #[.int .u64 x1,.int .u64 x2,.string xs] 118)) 9 #[.string xs]
     rwa[Z9]at e
    have y:Below wr.heap.size wr ((wr.alloc (.cells #[.int .u64 x1,.int .u64 x2,.string xs] 118)).alloc (.cells #[.string xs] 9)):=((af _ wr).alloc ai _).alloc (by simp) _;have H:=ah (fM HO.o y);have z:Hid (Below w.heap.size w ((wr.alloc (.cells #[.int .u64 x1,.int .u64 x2,.string xs] 118)).alloc (.cells #[.string xs] 9))):=h.o.trans (y.mono zr);clear y
    go_wp2_with (at_builtin;refine pW (.tmp 39) (.tmp 42) 22 rfl ?_)
    refine aF ?_;refine iM (base:=w.heap.size) (size:=1) _ rfl (.tmp 39) (.tmp 42) 22 rfl 9 i0 _ 16 Tryz.underlying22 Hi.o N.o O.o P.o rfl (by decide) (.slice A' (k+1) c') (k+1) _ rfl H.o _ _ 1 1 [.string xs] rfl (Sl.of_bk (n:=1) (size:=1) T.o rfl) (by simp[Value.oneCell']) (by unfold maxLen;omega) (by omega) z.o.size ?_;intro A4 c4 w4 ho hg I J;rw[<-HX.o]at ho;have U:=ah ho;have V:Hid (Below w.heap.size w w4):=z.o.grown hg z.o.size (fun g e=>(bU H.o e).1);clear ho hg y0 y1 y2;go_wp2_with fail;go_roundw
    case rel=>exact⟨k+1,A4,c4,hlt,by go_num,rfl,I,J,U.o,V.o⟩
    case measure=>simp[intOf];omega
  . have S:¬(k:Int)< (n:Int):=by omega
    have HT:Hid (fq us n::aU (p.take k)=aM (us,aU p)):=by
     show _=_;rw[ZW (by have:=b.o;omega)];have: (aU p).length=n:=by unfold aU;rw[List.length_map];exact b.o
     unfold aM;simp only[this]
    rw[HT.o]at HO;have HL:Hid (k+1= (aM (us,aU p)).length):=by show _=_;rw[<-HT.o,Z5];unfold aU;rw[List.length_map,List.length_take,b.o];omega
    go_wp2
    go_ret2
    exact⟨A',k+1,c',rfl,Sl.of_own HO.o,HL.o,Q,R,h.o⟩
section
open Go.Maps
def lh(r:List Rf×List Upd×Int)(w:MZ)(e:Ending)(w':MZ):Prop :=
 ∃A m c A' m' c',e= .returned (.tuple #[.agg #[.slice A m c,.slice A' m' c'],.int .i64 r.2.2])/\Sl w' w'.heap.size 3 A m (flat rfC r.1)/\m<=c/\c<=maxLen ∧
  Sl w' w'.heap.size 5 A' m' (flat upC r.2.1)/\m'<=c'/\c'<=maxLen/\Below w.heap.size w w'
theorem oz{fn:Func}{c i:Tmp}(h:fn.results= #[.cell c 33,.tmp i]){w:MZ}{a:Array M4}{b:Nat}{x y v:M4}(ha:a[c]?.getD undef= .pointer (some ⟨b,0,none⟩))(hk:Bk w b 33 #[x,y])(hv:a[i]?.getD undef=v) :
  (results fn a).run Tryz.prog w= .ok (.tuple #[.agg #[x,y],v]) w:=by
 have h0:=hk.cell 0;have h1:=hk.cell 1;simp at h0 h1;simp[results,h,ha,hv,go_sem,h0,h1]
theorem rP{x:Int}{w w':MZ}{e:Ending}(he:e= .returned (.tuple #[.agg #[.slice none 0 0,.slice none 0 0],.int .i64 x]))(hb:Below w.heap.size w w'):lh ([],[],x) w e w' :=
 ⟨none,0,0,none,0,0,he,Sl.nil _ _ _ _,Nat.le_refl _,ZZ _,Sl.nil _ _ _ _,Nat.le_refl _,ZZ _,hb⟩
theorem Gs(l:List Rf)(u:Upd): (stepG l u).2=bD l u:=by
 unfold stepG;by_cases h:bD l u≠0
 . rw[if_pos h]
 . rw[if_neg h];exact(by simpa using h:bD l u=0).symm
theorem G6{l:List Rf}{u:Upd}(h:bD l u=0): (stepG l u).1=bV l u.1 u.2.2:=by
 unfold stepG;rw[if_neg (by simpa using h)]
theorem xI(A0 A1 A2:OA)(n0 c0 n1 c1 n2 c2 B:Nat)(rs:List Rf)(log us:List Upd)(w:MZ)(h0:Sl w B 3 A0 n0 (flat rfC rs))(h1:Sl w B 5 A1 n1 (flat upC log))(h2:Sl w B 5 A2 n2 (flat upC us))(hB:B<=w.heap.size)
  (hn0:n0<=maxLen) (hn1:n1<=maxLen) (hn2:n2<=10000) (hs:∀u∈us,u.1.size<=maxLen) (hs2:∀u∈log,u.1.size<=maxLen) :
  Calls Tryz.prog 39 #[.agg #[.slice A0 n0 c0,.slice A1 n1 c1],.slice A2 n2 c2] w (lh (cK rs log us) w):=by
 have K:=ah (h1.len eD (by omega));have X:=ah (h2.len eD (by omega));have H0:=ah h0;have H1:=ah h1;have H2:=ah h2;clear h0 h1 h2;have HS:=ah hs;have Y:=ah hs2;clear hs hs2;have Z:=ah hn0;have ab:=ah hn1;clear hn0 hn1;obtain⟨i0,hi,L,z,C⟩:=info_parts qo;have Hi:=ah hi;have ad:=ah L;have ag:=ah z;have al:=ah C;clear hi L z C;have HU:Hid (cK rs log us=if aV rs log≠0 then([],[],aV rs log) else dJ rs log us):=rfl;have HR:Hid (∀r,cK rs log us=r->∀e w',lh r w e w'->lh (cK rs log us) w e w'):=fun r h e w' hh=>by rw[h];exact hh
 go_enter Tryz.func39,Tryz.ntmps39
 go_wp2_with fail;have d:Below w.heap.size w ((w.alloc (.cells #[.slice A0 n0 c0,.slice A1 n1 c1] 33)).alloc (.cells #[.slice none 0 0,.slice none 0 0] 33)) :=
  ((af _ w).alloc ai _).alloc (by simp) _
 refine(xW A0 A1 n0 c0 n1 c1 B rs log _ (H0.o.below d hB) (H1.o.below d hB) (by simp;omega) Z.o ab.o Y.o).mono ?_;rintro e w1 ⟨mb,rfl,g,hm⟩;have k0:Bk w1 w.heap.size 33 #[.slice A0 n0 c0,.slice A1 n1 c1]:=((Bk.new w 33 _).alloc _).below g (by simp;omega);have k1:Bk w1 (w.heap.size+1) 33 #[.slice none 0 0,.slice none 0 0]:=by
  have:=Bk.new (w.alloc (.cells #[.slice A0 n0 c0,.slice A1 n1 c1] 33)) 33 #[.slice none 0 0,.slice none 0 0];rw[Z9]at this;exact this.below g (by simp)
 have G:Hid (Below w.heap.size w w1):=d.trans (g.mono (by simp;omega));have bq:w.heap.size+2<=w1.heap.size:=by have:=g.size;simp at this;omega
 have HM:=ah hm;clear g d hm;have K1:=ah k1;obtain⟨x0,x1,_,_⟩:=k0.agg;obtain⟨r0,r1,f0,f1⟩:=k1.agg;clear k0 k1;by_cases hc:aV rs log=0
 . have D:=gY hc
   have H:Hid (cK rs log us=dJ rs log us):=by
    show _=_;rw[HU.o,hc,if_neg (by simp)]
   have hn1:n1<=1000:=by rw[<-K.o];exact D
   have am:=ah (Kn hc);obtain⟨b,rfl,E,j⟩:=HM.o hc;have an:w.heap.size+2<=b:=by simp at E;omega
   clear E HM;have HO:=ah j;have M:=j.lt;clear j;have ao:=ah hc;rw[ao.o];clear hc D;go_wp2_with fail;refine(ED A1 n1 c1 B log _ (H1.o.below G.o hB) (by omega) (by omega)).mono ?_;rintro e w2 ⟨A3,c3,rfl,N,n,ap,P⟩;have aq:=ah N;have ar:=n.size;have K2:=ah (K1.o.below n (by omega));have au:=ah (HO.o.kept (iA n none) (by simp));have av:=ah (G.o.trans (n.mono (by omega)));have aw:=ah P;clear N n P x0 x1 r0 r1 f0 f1
   go_wp2
   go_loopw[8,26] (fun v i wr=>∃(k:Nat)(A:OA)(m c:Nat)(l:List Rf)(lg:List Upd),k<=n2/\i= .int .i64 k/\v= .slice A m c/\Hid (Bk wr (w.heap.size+1) 33 #[.slice none 0 0,.slice none 0 0]) ∧
     Hid (Rm wr Tryz.prog 9 b (1000+k) (gL l))/\Hid (d9 l)/\Hid (Apd wr w1.heap.size 85 5 A m c (flat upC lg))/\m<=c/\Hid (c<=maxLen)/\m<=1000/\Hid (lg.length=m)/\Hid (Below w.heap.size w wr)/\w1.heap.size<=wr.heap.size/\Hid (cK rs log us=dJ l lg (us.drop k))) (fun _ i _=>n2 - (intOf i).toNat)
   case atStart=>exact⟨0,A3,n1,c3,rs,log,ZZ _,rfl,rfl,K2.o,au.o,am.o,aq.o,ap,aw.o,hn1,K.o,av.o,ar,H.o⟩
   case round =>
    obtain⟨k,A,m,c,l,lg,hk,rfl,rfl,B1,O,SR,AP,aD,aE,hm,I,o,br,F⟩:=hrel;by_cases hlt:k<n2
    . obtain⟨b3,bs,u,rfl,bt,hu,y0,y1,y2,y3,y4⟩:=(H2.o.below o.o hB).upd hlt
      have ba:=ah hu;have bb:=ah (HS.o u (Z7 hu));clear hu;have p:Hid (cK rs log us=if(fB l lg u).2.2≠0 then([],[],(fB l lg u).2.2) else dJ (fB l lg u).1 (fB l lg u).2.1 (us.drop (k+1))):=by
       show _=_;have hl:=List.getElem?_eq_some_iff.1 ba.o;rw[F.o,List.drop_eq_getElem_cons hl.1,hl.2,oh]
      obtain⟨s,⟨o0,o1⟩,⟨q0,q1⟩⟩:=u;have bv: (k:Int)< (n2:Int):=by omega
      go_wp2_with fail;refine(zn b (1000+k) l (s,(o0,o1),(q0,q1)) _ (O.o.alloc _) SR.o (by unfold maxLen;omega) bb.o).mono ?_;rintro e w3 ⟨rfl,q,f⟩;have bw:wr.heap.size+1<=w3.heap.size:=by have:=f.size;simp at this;omega
      have d3:Bk w3 wr.heap.size 85 #[.string s,.int .u64 o0,.int .u64 o1,.int .u64 q0,.int .u64 q1]:=(Bk.new wr 85 _).grown f (by intro e;injection e;omega);have u0:=d3.cell 0;have u1:=d3.cell 1;have u2:=d3.cell 2;have u3:=d3.cell 3;have u4:=d3.cell 4;simp at u0 u1 u2 u3 u4;have e3:=(B1.o.alloc (.cells #[.string s,.int .u64 o0,.int .u64 o1,.int .u64 q0,.int .u64 q1] 85)).grown f (by intro e;injection e;omega);obtain⟨r0,r1,f0,f1⟩:=e3.agg;have E3:=ah e3;have Q:=ah q;have bd:Hid (Apd w3 w1.heap.size 85 5 A m c (flat upC lg)):=(AP.o.below ((af _ _).alloc ai _)).grown f (fun k e=>by cases e;exact M);have J:Hid (Below w.heap.size w w3):=(o.o.alloc (by omega) _).grown f (by simp;omega) (fun k e=>by cases e;omega);have R:Hid (d9 (stepG l (s,(o0,o1),(q0,q1))).1):=yP SR.o;clear q f y0 y1 y2 y3 y4 d3 e3;have y:=Gs l (s,(o0,o1),(q0,q1));by_cases hx:bD l (s,(o0,o1),(q0,q1))=0
      . have S:=G6 hx
        rw[y,hx];rw[S]at Q R;have HX:=ah hx;clear hx y S;by_cases hlim:1000<=m
        . have a:Hid (cK rs log us= ([],[],4)):=by
            show _=_;have e1:fB l lg (s,(o0,o1),(q0,q1))= ([],[],4):=by
             unfold fB;rw[HX.o,if_neg (by simp),if_pos (by rw[I.o];exact hlim)]
            rw[p.o,e1,if_pos (by simp)]
          go_wp2_with fail;exact ZY (oz Tryz.results39 rfl (E3.o.set2 _ _) rfl) rfl (HR.o _ a.o _ _ (rP rfl (dR J.o (by omega) _ _)))
        . have bf:Hid (cK rs log us=dJ (bV l s (q0,q1)) (lg++ [(s,(o0,o1),(q0,q1))]) (us.drop (k+1))):=by
            show _=_;have e1:fB l lg (s,(o0,o1),(q0,q1))= (bV l s (q0,q1),lg++ [(s,(o0,o1),(q0,q1))],0):=by
             unfold fB;rw[HX.o,if_neg (by simp),if_neg (by rw[I.o];exact hlim)]
            rw[p.o,e1,if_neg (by simp)]
          have T:Hid ((lg++ [(s,(o0,o1),(q0,q1))]).length=m+1):=by show _=_;rw[ae,I.o];rfl
          go_wp2_with (at_builtin;refine aN ?_)
          refine aF ?_;refine dB (base:=w1.heap.size) _ rfl (.tmp 41) (.tmp 43) 31 rfl 85 i0 _ 48 Tryz.underlying31 Hi.o ad.o ag.o al.o rfl (by decide) A m c (flat upC lg) rfl (bd.o.below ((af _ _).alloc ai _)) (w3.heap.size+1) _ 1 _ (flat upC [(s,(o0,o1),(q0,q1))]) rfl (Sl.new w3 85 (flat upC [(s,(o0,o1),(q0,q1))]) 1 rfl) (nZ _) (by unfold maxLen;omega) (by omega) (by simp;omega) ?_;intro A5 c5 w5 a5 t bg U V;have bx:w3.heap.size+1<=w5.heap.size:=by have:=t.size;simp at this;omega
          have E5:=ah ((E3.o.alloc (.cells #[.string s,.int .u64 o0,.int .u64 o1,.int .u64 q0,.int .u64 q1] 85)).below t (by omega));have bh:=ah ((Q.o.alloc (.cells #[.string s,.int .u64 o0,.int .u64 o1,.int .u64 q0,.int .u64 q1] 85)).below t M);have bi:=ah ((J.o.alloc (by omega) (.cells #[.string s,.int .u64 o0,.int .u64 o1,.int .u64 q0,.int .u64 q1] 85)).trans (t.mono (by omega)));rw[<-bu]at a5;have bj:=ah a5;have bk:=ah U;clear a5 t U V u0 u1 u2 u3 u4 r0 r1 f0 f1
          go_wp2
          go_roundw
          case rel=>exact⟨k+1,A5,m+1,c5,_,_,by omega,by go_num,rfl,E5.o,bh.o,R.o,bj.o,bg,bk.o,by omega,T.o,bi.o,by omega,bf.o⟩
          case measure=>simp[intOf];omega
      . have bm: (bD l (s,(o0,o1),(q0,q1)) != 0)=true:=by rw[bne_iff_ne];exact hx
        have a:Hid (cK rs log us= ([],[],bD l (s,(o0,o1),(q0,q1)))):=by
         show _=_;have e1:fB l lg (s,(o0,o1),(q0,q1))= ([],[],bD l (s,(o0,o1),(q0,q1))):=if_pos hx;rw[p.o,e1,if_pos hx]
        rw[y];clear hx y;go_wp2_with fail;exact ZY (oz Tryz.results39 rfl (E3.o.set2 _ _) rfl) rfl (HR.o _ a.o _ _ (rP rfl (dR J.o (by omega) _ _)))
    . have a:Hid (cK rs log us= (l,lg,0)):=by
        show _=_;rw[F.o,List.drop_of_length_le (by rw[X.o];omega)];rfl
      go_wp2_with fail;refine(yf b (1000+k) l _ O.o SR.o (by omega)).mono ?_;rintro e w3 ⟨A6,m6,c6,rfl,s6,bn,W,x,_⟩;have bz:=x.size;have e6:=B1.o.below x (by omega);obtain⟨r0,r1,f0,f1⟩:=e6.agg;have E6:=ah e6;have S6:=ah s6;have bo:=ah W;have bp:=ah (o.o.trans (x.mono (by omega)));have S7:=ah (AP.o.below x).sl;clear e6 s6 x W;go_wp2_with fail;exact ZY (oz Tryz.results39 rfl (E6.o.set2 _ _) rfl) rfl (HR.o _ a.o _ _ ⟨A6,m6,c6,A,m,c,rfl,(S6.o.box2 (by omega) (ER _) E6.o _ _).more (Nat.le_of_eq (by simp)),bn,bo.o,(S7.o.box2 (by omega) (EO _) E6.o _ _).more (Nat.le_of_eq (by simp)),aD,aE.o,dR bp.o (by omega) _ _⟩)
 . have bm: (aV rs log != 0)=true:=by rw[bne_iff_ne];exact hc
   have H:Hid (cK rs log us= ([],[],aV rs log)):=by
    show _=_;rw[HU.o,if_pos hc]
   clear hc
   go_wp2
   exact ZY (oz Tryz.results39 rfl (K1.o.set2 _ _) rfl) rfl (HR.o _ H.o _ _ (rP rfl (dR G.o (by omega) _ _)))
end
def dF(l:List M5):Bool:=decide (l.length<=1000) && l.all fun t=>decide (t.length<=65536)
theorem fitB_iff{l:List M5}:dF l=true↔eO l:=by simp[dF,eO]
def eU(l:List M5):M5×Int:=if dF l=true then(bJ l,0) else([],4)
def qH(r:M5×Int)(w:MZ)(e:Ending)(w':MZ):Prop:=e= .returned (.tuple #[.string (ofL r.1),.int .i64 r.2])/\Below w.heap.size w w'
theorem Eb(A:OA)(n c B:Nat)(l:List M5)(w:MZ)(h:Sl w B 1 A n (flat aA l))(hB:B<=w.heap.size)(hn:n<=maxLen) :
  Calls Tryz.prog 180 #[.slice A n c] w (qH (eU l) w):=by
 unfold maxLen at hn;have HL:=ah (h.len dI (by omega));have H:=ah h;have HR:Hid (∀r,eU l=r->∀e w',qH r w e w'->qH (eU l) w e w'):=fun r h e w' hh=>by rw[h];exact hh
 clear h;by_cases hlim:1000<n
 . have s: (1000:Int)< (n:Int):=by omega
   have a:Hid (eU l= ([],4)):=by show _=_;rw[eU,if_neg];rw[fitB_iff];intro hf;have:=hf.1;have:=HL.o;omega
   go_enter Tryz.func180,Tryz.ntmps180
   go_wp2
   go_ret2
   exact HR.o _ a.o _ _ ⟨rfl,af _ _⟩
 . have s:¬(1000:Int)< (n:Int):=by omega
   go_enter Tryz.func180,Tryz.ntmps180
   go_wp2
   go_loop[14] (fun i=>∃k:Nat,k<=n/\i= .int .i64 k/\Hid (∀t∈l.take k,t.length<=65536)) (fun i=>n - (intOf i).toNat)
   case atStart=>exact⟨0,ZZ _,rfl,fun t ht=>by simp at ht⟩
   case round =>
    obtain⟨k,hk,rfl,hT⟩:=hrel;by_cases hlt:k<n
    . obtain⟨b,u,x,rfl,hb,hx,hc⟩:=H.o.at_ dI (by omega) hlt
      have x0:=hc 0 _ rfl;simp only[Nat.mul_one,Nat.add_zero]at x0;have HX:=ah hx;have hs: ((ofL x).size:Int)= (x.length:Int):=by rw[bG]
      clear hc hx;have f: (k:Int)< (n:Int):=by omega
      by_cases v:65536<x.length
      . have y: (65536:Int)< ((ofL x).size:Int):=by omega
        have a:Hid (eU l= ([],4)):=by show _=_;rw[eU,if_neg];rw[fitB_iff];intro hf;have:=hf.2 x (Z7 HX.o);omega
        clear hs
        go_wp2
        go_ret2
        exact HR.o _ a.o _ _ ⟨rfl,af _ _⟩
      . have y:¬(65536:Int)< ((ofL x).size:Int):=by omega
        clear hs
        go_wp2
        go_round
        case rel =>
         refine⟨k+1,by omega,by go_num,fun t ht=>?_⟩;rw[aS HX.o]at ht;rcases List.mem_append.1 ht with ht | ht
         . exact hT.o t ht
         . rw[List.mem_singleton.1 ht];omega
        case measure=>simp[intOf];omega
    . have f:¬(k:Int)< (n:Int):=by omega
      have HF:Hid (eO l):=⟨by have:=HL.o;omega,fun t ht=>hT.o t (by rwa[ZW (by have:=HL.o;omega)])⟩
      have a:Hid (eU l= (bJ l,0)):=by show _=_;rw[eU,if_pos (fitB_iff.2 HF.o)]
      clear hT;go_wp2_with fail;have hb:=Lib.fresh_isBuilder 215 5 w;refine(nW w.heap.size w.heap.size [] n _ hb (by simp) (by omega) (by simp)).mono ?_;rintro e w1 ⟨rfl,h1,j⟩;rw[List.nil_append]at h1;have H1:=ah h1;have z:Hid (Below w.heap.size w w1):=((af _ w).alloc ai _).trans j;clear hb j h1;go_wp2_with fail
      go_loopw[27] (fun i wr=>∃k:Nat,k<=n/\i= .int .i64 k/\Hid (Lib.IsBuilder 215 5 w.heap.size w.heap.size (Lib.byteCells (aj n++ (l.take k).flatMap ak)) wr)/\Hid (Below w.heap.size w wr)) (fun i _=>n - (intOf i).toNat)
      case atStart=>exact⟨0,ZZ _,rfl,by show Lib.IsBuilder _ _ _ _ _ _;simp;exact H1.o,z.o⟩
      case round =>
       obtain⟨k,hk,rfl,g,d⟩:=hrel;by_cases hlt:k<n
       . obtain⟨b,u,x,rfl,hb,hx,hc⟩:=(H.o.below d.o hB).at_ dI (by omega) hlt
         have x0:=hc 0 _ rfl;simp only[Nat.mul_one,Nat.add_zero]at x0;have v:x.length<=65536:=HF.o.2 x (Z7 hx);have HT:Hid (aj n++ (l.take (k+1)).flatMap ak= (aj n++ (l.take k).flatMap ak)++ (aj x.length++x)):=by
          show _=_;rw[aS hx];simp[ak]
         have F: (aj n++ (l.take k).flatMap ak).length<=70000000:=by
          have h1:=eB (n:=n) (by omega);have h2:=rz (l.take k) (fun t ht=>HF.o.2 t (List.mem_of_mem_take ht));rw[List.length_take]at h2;simp only[ae];omega
         generalize aj n++ (l.take k).flatMap ak=bs at *;have f: (k:Int)< (n:Int):=by omega
         have C:=ah (fun w' h hw=>nW w.heap.size w.heap.size bs (ofL x).size w' h hw (by rw[bG];omega) (by omega));clear hc hx;go_wp2_with fail;refine(C.o _ g.o d.o.size).mono ?_;rintro e w2 ⟨rfl,h2,m⟩;have H2:=ah h2;have o:=ah (d.o.trans m);clear m h2;go_wp2_with fail;refine(wI w.heap.size w.heap.size (Lib.byteCells (bs++aj (ofL x).size)) (ofL x) _ H2.o (by rw[qZ,bG,ae];have:=eB (n:=x.length) (by omega);omega) o.o.size).mono ?_;rintro e w3 ⟨rfl,h3,p,_⟩;have H3:Hid (Lib.IsBuilder 215 5 w.heap.size w.heap.size (Lib.byteCells (aj n++ (l.take (k+1)).flatMap ak)) w3):=by
          refine .inr ?_;rw[HT.o];have e1:Lib.byteCells (bs++aj (ofL x).size)++Lib.strCells (ofL x)=Lib.byteCells (bs++ (aj x.length++x)):=by
           rw[xJ,bP,bG];simp[Lib.byteCells]
          rw[<-e1];exact h3
         have D:=ah (o.o.trans p);clear p h3;go_wp2_with fail;go_roundw
         case rel=>exact⟨k+1,by omega,by go_num,H3.o,D.o⟩
         case measure=>simp[intOf];omega
       . have f:¬(k:Int)< (n:Int):=by omega
         have H3:Hid (Lib.IsBuilder 215 5 w.heap.size w.heap.size (Lib.byteCells (bJ l)) wr):=by
          have h:=g.o;rw[ZW (by have:=HL.o;omega)]at h;show Lib.IsBuilder _ _ _ _ _ _;unfold bJ;rw[HL.o];exact h
         clear g;go_wp2_with fail;refine(Tryz.Builder_String_any w.heap.size w.heap.size _ _ H3.o d.o.size).mono ?_;rintro e w4 ⟨rfl,q⟩;have E:=ah (d.o.trans q);clear q;go_wp2_with fail;go_ret2
         exact HR.o _ a.o _ _ ⟨rfl,E.o⟩
