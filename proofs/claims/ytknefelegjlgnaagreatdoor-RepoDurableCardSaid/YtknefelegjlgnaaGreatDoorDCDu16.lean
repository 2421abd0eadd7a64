/-
  Lemmas of the card.
-/
import Derived.Test.YtknefelegjlgnaaGreatDoorDCDu15
set_option maxRecDepth 100000
set_option maxHeartbeats 4000000
namespace Go.Proofs
open Go.Shelf
def Tryz.keysR_ren:Go.Shelf.Ren:=⟨fun | 7=>154 | 10=>233 | n=>n,fun | 23=>132 | 26=>9 | 3=>50 | 28=>240 | 0=>0 | 27=>239 | 33=>195 | 4=>4 | n=>n,fun | n=>n⟩
theorem Tryz.keysR:Go.Proofs.SlLaysZ.n7 Tryz.prog Tryz.keysR_ren:={
 mixed:=by kernel_rfl
 f7:=⟨Tryz.f154.name,by decide,Tryz.func154.trans (congrArg some (by kernel_rfl))⟩
 f10:=⟨Tryz.f233.name,by decide,Tryz.func233.trans (congrArg some (by kernel_rfl))⟩
 t0:=Tryz.underlying0
 a0:=Tryz.isAgg0
 z0:=Tryz.sizeOf0
 v0:=Tryz.zeroValue0
 t4:=Tryz.underlying4
 a4:=Tryz.isAgg4
 z4:=Tryz.sizeOf4
 v4:=Tryz.zeroValue4
 t23:=Tryz.underlying132
 a23:=Tryz.isAgg132
 z23:=Tryz.sizeOf132
 v23:=Tryz.zeroValue132
 t26:=Tryz.underlying9
 a26:=Tryz.isAgg9
 z26:=Tryz.sizeOf9
 v26:=Tryz.zeroValue9
 t27:=Tryz.underlying239
 a27:=Tryz.isAgg239
 z27:=Tryz.sizeOf239
 v27:=Tryz.zeroValue239
 t28:=Tryz.underlying240
 a28:=Tryz.isAgg240
 z28:=Tryz.sizeOf240
 v28:=Tryz.zeroValue240
 t33:=Tryz.underlying195
 a33:=Tryz.isAgg195
 z33:=Tryz.sizeOf195
 v33:=Tryz.zeroValue195}
end Go.Proofs
namespace Go.Proofs.YtknefelegjlgnaaGreatDoor
open Go.RowKit
section
open Go.Maps
theorem LG: (Tryz.prog.info? 52).map (fun i=>(i.zero,i.size,i.bytes))=some (some (.agg #[.string ⟨#[]⟩,.int .u64 0,.int .u64 0]),3,32):=by kernel_rfl
theorem qo: (Tryz.prog.info? 85).map (fun i=>(i.zero,i.size,i.bytes))=some (some (.agg #[.string ⟨#[]⟩,.int .u64 0,.int .u64 0,.int .u64 0,.int .u64 0]),5,48):=by kernel_rfl
def yZ(l:List Rf)(w:MQ)(e:Ending)(w':MQ):Prop :=
 ∃A m c,e= .returned (.slice A m c)/\Sl w' w'.heap.size 3 A m (flat rfC l)/\m<=c/\c<=maxLen/\Below w.heap.size w w'/\w'.ownsRow w.heap.size 52 3 (.slice A m c) m (flat rfC l)
theorem Eb(l:List Rf):∀u∈flat rfC l,u.oneCell'=true:=by
 intro u hu;obtain⟨r,_,hr⟩:=List.mem_flatMap.1 hu;simp only[rfC,List.mem_cons,List.not_mem_nil,or_false]at hr;rcases hr with rfl | rfl | rfl <;> rfl
theorem nW(l:List Upd):∀u∈flat upC l,u.oneCell'=true:=by
 intro u hu;obtain⟨r,_,hr⟩:=List.mem_flatMap.1 hu;simp only[upC,List.mem_cons,List.not_mem_nil,or_false]at hr;rcases hr with rfl | rfl | rfl | rfl | rfl <;> rfl
theorem ED(l:List Rf):∀u∈flat rfC l,uy u=true:=by
 intro u hu;obtain⟨r,_,hr⟩:=List.mem_flatMap.1 hu;simp only[rfC,List.mem_cons,List.not_mem_nil,or_false]at hr;rcases hr with rfl | rfl | rfl <;> rfl
theorem Eo(l:List Upd):∀u∈flat upC l,uy u=true:=by
 intro u hu;obtain⟨r,_,hr⟩:=List.mem_flatMap.1 hu;simp only[upC,List.mem_cons,List.not_mem_nil,or_false]at hr;rcases hr with rfl | rfl | rfl | rfl | rfl <;> rfl
def CR(r:Rf):List MS:= [.string r.1]
theorem Io(r:Rf): (CR r).length=1:=rfl
theorem Fa(l:List Rf):strs (l.map Prod.fst)=flat CR l:=by
 induction l with
 | nil=>rfl
 | cons r l ih=>unfold strs flat at ih ⊢;rw[List.map_cons,List.map_cons,ih];rfl
theorem Rm.key_le{w:MQ}{P:Program}{k:TypeId}{b N:Nat}{g:MR->Option MS}(h:Rm w P k b N g)(hk:P.underlying k=some .string){s:MR}(hs: (g s).isSome=true):s.size<=maxLen:=by
 obtain⟨D,h1,h2⟩:=h;have h3:=(h2 s).1;rw[hs]at h3;obtain⟨es,rfl,hko⟩:=h1.keysOf;rw[Maps.has_eq,List.any_eq_true]at h3;obtain⟨p,hp,h4⟩:=h3;obtain⟨v,hv⟩:=hko p hp;obtain⟨y,_,hy,hl⟩:=Maps.keyOf_str hk hv;rw[hy,xx,beq_iff_eq]at h4;rw[h4,Array.length_toList]at hl;exact hl
theorem Gl(b:Nat)(w:MQ):Calls Tryz.prog 154 #[.map (some b)] w fun e w'=>e= .returned (.func (.func 233) #[] #[.pointer (some ⟨w.heap.size,0,none⟩)])/\w'=w.alloc (.cells #[.map (some b)] 132):=by
 go_enter Tryz.func154,Tryz.ntmps154
 go_wp2_with fail;go_ret
 exact⟨rfl,rfl⟩
theorem Ec(Bm b N:Nat)(g:MR->Option MS)(w:MQ)(hM:Rm w Tryz.prog 9 b N g)(hc:w.cell? ⟨Bm,0,none⟩=some (.map (some b)))(hB:Bm<w.heap.size)(hn:N<=1000000) :
  Calls Tryz.prog 153 #[.func (.func 233) #[] #[.pointer (some ⟨Bm,0,none⟩)]] w (SkE g N w) :=
 Fh (enters_of Tryz.func233 (by kernel_rfl) rfl) hn (by
  obtain⟨D,h1,h2,h3⟩:=hM.keys Tryz.underlying9;exact⟨_,_,fun l J Jx W hW hJ hJx hY h0=>AnyZ.keys_stops (ρ:=Tryz.keysR_ren) {Tryz.keysR with} Fence.wide 5 trivial rfl (by omega) Bm b N D w hB hc h1 l J Jx W hW hJ hJx (fun pre x W1 hj hl=>hY pre x W1 hj (Nat.lt_of_lt_of_le hl h2)) h0,h3⟩)
theorem xI(b n:Nat)(l:List Rf)(w:MQ)(hown:Rm w Tryz.prog 9 b n (gL l))(hl:dY l)(hn:n<=100000) :
  Calls Tryz.prog 86 #[.map (some b)] w (yZ l w):=by
 have HS:Hid (∀r∈l,r.1.size<=maxLen):=fun r hr=>hown.key_le Tryz.underlying9 ((Bg l r.1).2 (List.mem_map.2 ⟨r,hr,rfl⟩));have HL:=ah hl;have HO:=ah hown;have hblt:=hown.lt;clear hl hown;obtain⟨i0,hi,hz0,hz1,hz2⟩:=info_parts LG;have Hi:=ah hi;have Hz0:=ah hz0;have Hz1:=ah hz1;have Hz2:=ah hz2;clear hi hz0 hz1 hz2;generalize hRR:yZ l w=RR at *;have HRR:=ah hRR;clear hRR
 go_enter Tryz.func86,Tryz.ntmps86
 go_wp2_with fail;refine(Gl b _).mono ?_;rintro e w0 ⟨rfl,rfl⟩;have HSO:=ah (Ec w.heap.size b n (gL l) (w.alloc (.cells #[.map (some b)] 132)) (HO.out.alloc _) ((Bk.new w 132 #[.map (some b)]).cell 0) (by simp) (by omega));go_wp2_with fail;refine HSO.out.mono ?_;rintro e w1 ⟨A1,c1,ks,rfl,hka,hkm,hlen,hrow,hb1⟩;obtain rfl:ks=l.map Prod.fst:=uz hka (List.pairwise_map.2 HL.out) (fun x=>(hkm x).trans (Bg l x));rw[Fa,List.length_map]at hrow;rw[List.length_map]at hlen;obtain⟨_,_,e1,hc1,hm1⟩:=nT hrow;cases e1
 have HK:=ah (Sl.of_own hrow);have HB1:Hid (Below w.heap.size w w1):=((af _ w).alloc ai _).trans (hb1.mono (by simp));have hz1:w.heap.size+1<=w1.heap.size:=by have:=hb1.size;simp at this;omega
 have HO1:=ah (HO.out.kept (iq HB1.out none) (by simp));clear hka hkm hrow hb1 hm1;rw[List.length_map]
 go_wp2
 go_loopw[3,10] (fun v i wr=>∃(k:Nat)(A:OA)(c:Nat),k<=l.length/\i= .int .i64 k/\v= .slice A k c/\Hid (wr.ownsRow w1.heap.size 52 3 (.slice A k c) k (flat rfC (l.take k)))/\Hid (Below w1.heap.size w1 wr)/\w1.heap.size<=wr.heap.size) (fun _ i _=>l.length - (intOf i).toNat)
 case atStart=>exact⟨0,none,0,ZZ _,rfl,rfl,World.ownsRow_nil _ _ _ _,af _ _,Nat.le_refl _⟩
 case round =>
  obtain⟨k,A,c,hk,rfl,rfl,O,hBel,hwz⟩:=hrel;by_cases hlt:k<l.length
  . obtain⟨b1,off,r,rfl,hbB,hr,hc⟩:=(HK.out.below hBel.out ai).at_ Io (by omega) hlt
    have y0:=hc 0 _ rfl;simp at y0;have HRk:=ah hr;have HRS:=ah (HS.out r (Z7 hr));clear hr hc;have hlk:=zL (HO1.out.kept (iq hBel.out none) (by simp)) HRS.out;rw[ER HL.out (Z7 HRk.out)]at hlk;obtain⟨s,⟨d0,d1⟩⟩:=r;simp only[aB]at hlk y0;have hlz: (k:Int)< (l.length:Int):=by omega
    go_wp2_with (at_builtin;refine aM ?_)
    refine aF ?_;refine iL (base:=w1.heap.size) _ rfl (.tmp 14) (.tmp 20) 30 rfl 52 i0 _ 32 Tryz.underlying30 Hi.out Hz0.out Hz1.out Hz2.out rfl (by decide) _ k (flat rfC (l.take k)) rfl (O.out.alloc _) (wr.heap.size+1) _ 1 _ (flat rfC [(s,(d0,d1))]) rfl ?hs2 (Eb _) ?b4 ?b5 ?b6 ?_
    case hs2=>exact Sl.new wr 52 (flat rfC [(s,(d0,d1))]) 1 rfl
    case b4=>simp[maxLen];omega
    case b5=>omega
    case b6=>simp;omega
    intro A2 c2 w2 hown2 hg2 hc2 hm2;have hb2:Below w1.heap.size w1 w2:=(hBel.out.alloc hwz _).grown hg2 (by simp;omega) (fun g hg=>iw O.out g hg);rw[<-bu,<-aS HRk.out]at hown2;have HO2:=ah hown2;have HB2:=ah hb2;clear hown2 hg2 hb2 hc2 hm2 y0 hlk
    go_wp2
    go_roundw
    case rel=>exact⟨k+1,A2,c2,by omega,by go_num,rfl,HO2.out,HB2.out,HB2.out.size⟩
    case measure=>simp[intOf];omega
  . have hke:k=l.length:=by omega
    have O2:=O.out;rw[hke,List.take_length]at O2;have O3:=ah O2;clear O2;subst hke
    go_wp2
    rw[<-HRR.out];obtain⟨_,_,e6,hm6,hc6⟩:=nT O3.out;cases e6
    exact⟨A,_,c,rfl,Sl.of_own O3.out,hm6,hc6,HB1.out.trans (hBel.out.mono (by omega)),wK O3.out (by omega)⟩
end
section
open Go.Maps
theorem Ef(A0 A1:OA)(n0 c0 n1 c1 B:Nat)(rs qs:List Rf)(w:MQ)(h0:Sl w B 3 A0 n0 (flat rfC rs))(h1:Sl w B 3 A1 n1 (flat rfC qs))(m0:n0<=maxLen) :
  Calls Tryz.prog 62 #[.slice A0 n0 c0,.slice A1 n1 c1] w fun e w'=>e= .returned (.bool (decide (rs=qs)))/\∃k,w'=w.drewN k:=by
 unfold maxLen at m0;have HL0:=ah (h0.len gN (by omega));have HL1:=ah (h1.len gN (by omega));have H0:=ah h0;have H1:=ah h1;clear h0 h1;have hM:Hid (decide (rs=qs)=true↔rs=qs):=decide_eq_true_iff;generalize decide (rs=qs)=mb at *;by_cases hn:n0=n1
 . subst hn
   go_enter Tryz.func62,Tryz.ntmps62
   go_wp2
   go_loopw[13] (fun i wr=>∃k nq:Nat,k<=n0/\i= .int .i64 k/\wr=w.drewN nq/\Hid (rs.take k=qs.take k)) (fun i _=>n0 - (intOf i).toNat)
   case atStart=>exact⟨0,0,ZZ _,rfl,rfl,rfl⟩
   case round =>
    obtain⟨k,nq,hk,rfl,rfl,heq⟩:=hrel;by_cases hlt:k<n0
    . obtain⟨b0,o0,r,rfl,_,hr,x0,x1,x2⟩:=H0.out.ref hlt
      obtain⟨b1,o1,q,rfl,_,hq,y0,y1,y2⟩:=H1.out.ref hlt;have HR:=ah hr;have HQ:=ah hq;clear hr hq;have hlz: (k:Int)< (n0:Int):=by omega
      by_cases e:r=q
      . have t1: (r.1.toList == q.1.toList && (r.2.1 == q.2.1 && r.2.2 == q.2.2))=true:=by rw[e];simp
        have HE:=ah e;clear e;have hnx:Hid (rs.take (k+1)=qs.take (k+1)):=by
         show _=_;rw[aS HR.out,aS HQ.out,heq.out,HE.out]
        go_wp2
        go_quiet(fail)
        go_wp2
        go_roundw
        case rel=>exact⟨k+1,_,by omega,by go_num,rfl,hnx⟩
        case measure=>simp[intOf];omega
      . have t1: (r.1.toList == q.1.toList && (r.2.1 == q.2.1 && r.2.2 == q.2.2))=false:=by
          rw[Bool.eq_false_iff];intro hh;simp only[Bool.and_eq_true,beq_iff_eq,ByteArray.toList_eq]at hh;apply e
          exact Prod.ext (iP hh.1) (Prod.ext hh.2.1 hh.2.2)
        have HE:=ah e;clear e
        go_wp2
        go_quiet(fail)
        go_wp2
        go_ret
        refine⟨aY ?_,⟨_,World.drewN_drewN _ _ _⟩⟩
        symm
        rw[Bool.eq_false_iff];intro hh;have:=hM.out.1 hh;subst this;exact HE.out (Option.some.inj (HR.out.symm.trans HQ.out))
    . have hall:Hid (mb=true):=by
        have:=heq.out;rw[ZW (by rw[HL0.out];omega),ZW (by rw[HL1.out];omega)]at this;exact hM.out.2 this
      go_wp2
      go_ret
      exact⟨aY hall.out.symm,_,rfl⟩
 . have hne: ((n0:Int) != (n1:Int))=true:=by rw[bne_iff_ne];omega
   go_enter Tryz.func62,Tryz.ntmps62
   go_wp2
   go_ret
   refine⟨aY ?_,0,rfl⟩
   symm
   rw[Bool.eq_false_iff];intro hh;have:=hM.out.1 hh;subst this;exact hn (HL0.out.symm.trans HL1.out)
theorem Bk.agg{w:MQ}{b:Nat}{t:TypeId}{x y:MS}(h:Bk w b t #[x,y]):w.cell? ⟨b,0,none⟩=some x/\w.cell? ⟨b,1,none⟩=some y/\w.frozen? ⟨b,0,none⟩=false/\w.frozen? ⟨b,1,none⟩=false:=by
 have h0:=h.cell 0;have h1:=h.cell 1;simp at h0 h1;exact⟨h0,h1,h.free 0,h.free 1⟩
theorem Rm.drew{w:MQ}{P:Program}{k:TypeId}{b N:Nat}{g:MR->Option MS}(h:Rm w P k b N g):Rm w.drew P k b N g:=h
def vD(rs:List Rf)(x:Int)(w:MQ)(e:Ending)(w':MQ):Prop :=
 ∃mb:Option Nat,e= .returned (.tuple #[.map mb,.int .i64 x])/\Below w.heap.size w w'/\ (x=0->∃b,mb=some b/\w.heap.size<=b/\Rm w' Tryz.prog 9 b 1000 (gL rs))
theorem xR(A0 A1:OA)(n0 c0 n1 c1 B:Nat)(rs:List Rf)(log:List Upd)(w:MQ)(h0:Sl w B 3 A0 n0 (flat rfC rs))(h1:Sl w B 5 A1 n1 (flat upC log))(hB:B<=w.heap.size)
  (hn0:n0<=maxLen) (hn1:n1<=maxLen) (hs:∀u∈log,u.1.size<=maxLen) :
  Calls Tryz.prog 71 #[.agg #[.slice A0 n0 c0,.slice A1 n1 c1]] w (vD rs (aV rs log) w):=by
 have HL1:=ah (h1.len eB (by omega));have H0:=ah (h0.alloc hB (.cells #[.slice A0 n0 c0,.slice A1 n1 c1] 33));have H1:=ah (h1.alloc hB (.cells #[.slice A0 n0 c0,.slice A1 n1 c1] 33));clear h0 h1;have HS:=ah hs;clear hs;have HN0:=ah hn0;clear hn0;have HB:=ah ((af w.heap.size w).alloc ai (.cells #[.slice A0 n0 c0,.slice A1 n1 c1] 33));have hC:Hid (aV rs log=if 1000<log.length then 4 else if(aO [] log).2≠0 then(aO [] log).2 else if(aO [] log).1=rs then 0 else 11):=rfl;generalize aV rs log=ce at *;have HR:Hid (∀r,ce=r->∀e w',vD rs r w e w'->vD rs ce w e w'):=fun r h e w' hh=>by rw[h];exact hh
 unfold maxLen at hn1;by_cases hbig:1000<n1
 . have hfin:Hid (ce=4):=by show _=_;rw[hC.out,if_pos (by rw[HL1.out];exact hbig)]
   go_enter Tryz.func71,Tryz.ntmps71
   go_wp2_with fail;go_ret2
   exact HR.out _ hfin.out _ _ ⟨none,rfl,HB.out,fun h=>by cases h⟩
 . have hC2:Hid (ce=if(aO [] log).2≠0 then(aO [] log).2 else if(aO [] log).1=rs then 0 else 11):=by
     show _=_;rw[hC.out,if_neg (by rw[HL1.out];exact hbig)]
   have HSR:=ah (tK log [] List.Pairwise.nil);generalize hr:aO [] log=r at *;obtain⟨l,x⟩:=r;have HRU:=ah hr;clear hr
   go_enter Tryz.func71,Tryz.ntmps71
   go_wp2_with fail;refine(ES A1 n1 c1 B log _ H1.out (by simp;omega) (by omega) HS.out).mono ?_;rintro e w1 ⟨mb,rfl,hb,hm⟩;rw[HRU.out]at hm ⊢;simp only at hm ⊢;have k0:Bk w1 w.heap.size 33 #[.slice A0 n0 c0,.slice A1 n1 c1]:=(Bk.new w 33 _).below hb (by simp);obtain⟨x0,x1,_,_⟩:=k0.agg;have H01:=ah (H0.out.below hb (by simp;omega));have HB1:=ah (HB.out.trans (hb.mono (by simp)));have hz:w.heap.size+1<=w1.heap.size:=by have:=hb.size;simp at this;omega
   have HM:=ah hm;have K0:=ah k0;clear hm hb k0;by_cases hx:x=0
   . subst hx
     obtain⟨b,rfl,hbge,hown⟩:=HM.out rfl;clear HM;have HO:=ah (hown.more (show n1<=1000 by omega));have hbl:=hown.lt;clear hown;have KS:Hid (∀W,Below w1.heap.size w1 W->W.cell? ⟨w.heap.size,0,none⟩=some (.slice A0 n0 c0)):=fun W hb=>(hb.cell (p:=⟨w.heap.size,0,none⟩) (by show w.heap.size<_;omega)).trans x0;go_wp2_with fail
     go_region_held3 (fun w'=>w'.cell? ⟨w.heap.size,0,none⟩=some (.slice A0 n0 c0)) (first | exact x0 | exact KS.out _ ((af _ _).drew.trans hb2) | exact KS.out _ (lL ((af _ _).drew.trans hb2) _)) (first | (go_at_call 86;refine(xI b 1000 l _ HO.out.drew HSR.out (by omega)).mono ?_;rintro e w2 ⟨A,m,c,rfl,hSl,hmc,hcm,hb2,_⟩) | (go_at_call 62;refine(Ef A A0 m c n0 c0 w2.heap.size l rs _ hSl ((H01.out.drew.below hb2 (by show _<=w1.heap.size;omega)).more (by have:w1.heap.size<=w2.heap.size:=hb2.size;omega)) (by omega)).mono ?_;rintro e w3 ⟨rfl,k,rfl⟩))
     have HB2:Hid (Below w.heap.size w (w2.drewN k)):=lL (HB1.out.drew.trans (hb2.mono (by show _<=w1.heap.size;omega))) _;have HO2:Hid (Rm (w2.drewN k) Tryz.prog 9 b 1000 (gL l)):=(HO.out.drew.kept (iq (lL hb2 k) none) (by simp))
     have hk2:Bk (w2.drewN k) w.heap.size 33 #[.slice A0 n0 c0,.slice A1 n1 c1]:=(K0.out.drew.below hb2 (by show _<w1.heap.size;omega)).drewN k;clear hSl hb2 hcm;by_cases he:l=rs
     . have hd:decide (l=rs)=true:=decide_eq_true he
       have hfin:Hid (ce=0):=by show _=_;rw[hC2.out];simp[he]
       rw[hd];have HE:=ah he;clear hd he;go_wp2_with fail;go_ret2
       exact HR.out _ hfin.out _ _ ⟨some b,rfl,HB2.out,fun _=>⟨b,rfl,by simp at hbge;omega,by rw[<-HE.out];exact HO2.out⟩⟩
     . have hd:decide (l=rs)=false:=decide_eq_false he
       have hfin:Hid (ce=11):=by show _=_;rw[hC2.out];simp[he]
       rw[hd];clear hd he;go_wp2_with fail;go_ret2
       exact HR.out _ hfin.out _ _ ⟨none,rfl,HB2.out,fun h=>by cases h⟩
   . have hne: (x != 0)=true:=by rw[bne_iff_ne];exact hx
     have hfin:Hid (ce=x):=by show _=_;rw[hC2.out];simp[hx]
     have HX:=ah hx;clear hx;go_wp2_with fail;go_ret2
     exact HR.out _ hfin.out _ _ ⟨none,rfl,HB1.out,fun h=>absurd h HX.out⟩
theorem nN{P:Program}(w:MQ)(t e:TypeId)(a:OA)(l c:Nat)(h:P.underlying t=some (.slice e)): (binOp .eql t (.slice a l c) (.slice none 0 0)).run P w= .ok (.bool a.isNone) w:=by
 simp only[binOp];simp[run_equal_slice_nil w t e a l c h]
def Ct(us:List Upd)(n:Nat)(w:MQ)(e:Ending)(w':MQ):Prop :=
 ∃A c,e= .returned (.slice A n c)/\Apd w' w.heap.size 85 5 A n c (flat upC us)/\Below w.heap.size w w'/\n<=c/\c<=maxLen
theorem EE(A:OA)(n c B:Nat)(us:List Upd)(w:MQ)(h:Sl w B 5 A n (flat upC us))(hB:B<=w.heap.size)(hn:n<=100000) :
  Calls Tryz.prog 84 #[.slice A n c] w (Ct us n w):=by
 have H:=ah h;clear h;obtain⟨i0,hi,hz0,hz1',hz2'⟩:=info_parts qo;have Hi:=ah hi;have Hz0:=ah hz0;have Hz1:=ah hz1';have Hz2:=ah hz2';clear hi hz0 hz1' hz2';generalize hRR:Ct us n w=RR at *;have HRR:=ah hRR;clear hRR;cases A with
 | none =>
   have h0:n=0:=by
    rcases Nat.eq_zero_or_pos n with h | h
    . exact h
    . obtain⟨b,off,e,_⟩:=H.out.2 h;cases e
   subst h0;have hx:flat upC us= []:=by
    have:=H.out.1;rw[Nat.zero_mul]at this;exact List.length_eq_zero_iff.1 this
   have hnn:∀w:MQ,(binOp .eql 31 (.slice none 0 c) (.slice none 0 0)).run Tryz.prog w= .ok (.bool true) w:=fun w=>nN w 31 85 none 0 c Tryz.underlying31
   go_enter Tryz.func84,Tryz.ntmps84
   go_wp2
   rw[<-HRR.out];exact⟨none,0,rfl,.inr ⟨rfl,rfl,hx⟩,af _ _,Nat.le_refl _,ZZ _⟩
 | some a =>
   have hnn:∀w:MQ,(binOp .eql 31 (.slice (some a) n c) (.slice none 0 0)).run Tryz.prog w= .ok (.bool false) w:=fun w=>nN w 31 85 (some a) n c Tryz.underlying31
   go_enter Tryz.func84,Tryz.ntmps84
   go_wp2_with (at_builtin;refine aM ?_)
   refine aF ?_;refine dw (base:=w.heap.size) _ rfl (.tmp 5) (.tmp 6) 31 rfl 85 i0 _ 48 Tryz.underlying31 Hi.out Hz0.out Hz1.out Hz2.out rfl (by decide) _ 0 0 [] rfl (.inr ⟨rfl,rfl,rfl⟩) B _ n c (flat upC us) rfl (H.out.alloc hB _) (nW _) (by unfold maxLen;omega) (by omega) (by simp) ?_;intro A2 c2 w2 ha hb hc1 hm1 hok;rw[Nat.zero_add,List.nil_append]at ha;rw[Nat.zero_add]at hc1 ⊢;have HA:=ah ha;have HB:=ah (((af _ w).alloc ai _).trans hb);have HM:=ah hm1;clear ha hb hok hm1
   go_wp2
   rw[<-HRR.out];exact⟨A2,c2,rfl,HA.out,HB.out,hc1,HM.out⟩
end
section
open Go.Maps
def Jv(w:MQ)(base av n:Nat)(bs:MU)(e:Ending)(w':MQ):Prop:=∃A c,e= .returned (.slice A n c)/\Txt w' base av A n c bs/\Below base w w'/\w'.heap[av]? =w.heap[av]?
theorem vZ(d:Dig)(hd:WfD d)(A:OA)(n c base av:Nat)(bs:MU)(w:MQ)(h:Txt w base av A n c bs)(hbase:base<=w.heap.size)(hav:av<w.heap.size)(hlen:n<=1099511627776) :
  Calls Tryz.prog 179 #[.slice A n c,aB d] w (Jv w base av (n+16) (bs++ax d)):=by
 obtain⟨x,y⟩:=d;obtain⟨hx0,hx1,hy0,hy1⟩:=hd;simp only at hx0 hx1 hy0 hy1;obtain⟨x,rfl⟩:=Int.eq_ofNat_of_zero_le hx0;obtain⟨y,rfl⟩:=Int.eq_ofNat_of_zero_le hy0;have HX1:=ah hx1;have HY1:=ah hy1;clear hx0 hx1 hy0 hy1;show Calls Tryz.prog 179 #[.slice A n c,.agg #[.int .u64 x,.int .u64 y]] w _;obtain⟨i0,hi,hz0,hz1,hz2⟩:=info_parts infoByte;have Hi:=ah hi;have Hz0:=ah hz0;have Hz1:=ah hz1;have Hz2:=ah hz2;clear hi hz0 hz1 hz2;have HT:Hid (Txt (w.alloc (.cells #[.int .u64 x,.int .u64 y] 50)) base av A n c bs):=h.below ((af _ _).alloc ai _);have HB:Hid (Below base w (w.alloc (.cells #[.int .u64 x,.int .u64 y] 50))):=(af _ _).alloc hbase _;clear h
 go_enter Tryz.func179,Tryz.ntmps179
 go_wp2
 go_loopw[0,9] (fun v i wr=>∃(k:Nat)(A':OA)(m c':Nat),k<=2/\i= .int .i64 k/\v= .slice A' m c'/\Hid (m=n+8*k)/\Hid (Txt wr base av A' m c' (bs++ (ax (x,y)).take (8*k)))/\Hid (Below base w wr)/\base<=wr.heap.size/\Hid (wr.heap[av]? =w.heap[av]?)/\av<wr.heap.size) (fun _ i _=>2 - (intOf i).toNat)
 case atStart=>exact⟨0,A,n,c,by omega,rfl,rfl,rfl,by show Txt _ _ _ _ _ _ _;rw[show 8*0=0 from rfl,List.take_zero,List.append_nil];exact HT.out,HB.out,by simp;omega,Below.heap_alloc w _ av hav,by simp;omega⟩
 case round =>
  obtain⟨k,A',m,c',hk,rfl,rfl,hm,hT,hB,hwz,hAV,hal⟩:=hrel;by_cases hlt2:k<2
  . have hlz: (k:Int)<2:=by omega
    obtain⟨z,hz,hix,hby⟩:∃z:Nat,Hid (z<18446744073709551616)/\ (∀w,(Instr.index 50 (.agg #[.int .u64 (x:Int),.int .u64 (y:Int)]) (.int .i64 (k:Int))).run Tryz.prog w= .ok (.int .u64 (z:Int)) w)/\ (∀j,j<8-> (ax ((x:Int),(y:Int)))[8*k+j]? =some (UInt8.ofNat (z / 256 ^ (7 - j) % 256))):=by
     rcases Nat.lt_or_ge k 1 with h1 | h1
     . obtain rfl:k=0:=by omega
       refine⟨x,by show _<_;have:=HX1.out;omega,fun w=>by kernel_rfl,fun j hj=>?_⟩;unfold ax;rw[List.getElem?_append_left (by rw[fT];omega),Int.toNat_natCast,show 8*0+j=j by omega];exact jN 8 x j hj
     . obtain rfl:k=1:=by omega
       refine⟨y,by show _<_;have:=HY1.out;omega,fun w=>by kernel_rfl,fun j hj=>?_⟩;unfold ax;rw[List.getElem?_append_right (by rw[fT];omega),Int.toNat_natCast,fT,show 8*1+j - 8=j by omega];exact jN 8 y j hj
    have HBY:=ah hby;clear hby
    go_wp2
    obtain⟨wo,rfl⟩:∃wo:MQ,wo=wr:=⟨_,rfl⟩
    go_loopw[0,7] (fun v i wr=>∃(j:Nat)(A':OA)(m c':Nat),j<=8/\i= .int .i64 (56 - 8* (j:Int))/\v= .slice A' m c'/\Hid (m=n+8*k+j)/\Hid (Txt wr base av A' m c' (bs++ (ax ((x:Int),(y:Int))).take (8*k+j)))/\Hid (Below base w wr)/\base<=wr.heap.size/\Hid (wr.heap[av]? =w.heap[av]?)/\av<wr.heap.size) (fun _ i _=>(intOf i+8).toNat)
    case atStart=>exact⟨0,A',m,c',by omega,rfl,rfl,hm,hT,hB,hwz,hAV,hal⟩
    case round =>
     obtain⟨j,A',m,c',hj,rfl,rfl,hm,hT,hB,hwz,hAV,hal⟩:=hrel;by_cases hlt:j<8
     . have hji: (0:Int)<=56 - 8* (j:Int):=by omega
       obtain⟨p,hp⟩:∃p,z / 256 ^ (7 - j)=p:=⟨_,rfl⟩
       have hsh:∀yk,Op.shift .shr .u64 (z:Int) yk (56 - 8* (j:Int))=pure (.int .u64 (p:Int)):=fun yk=>by
        rw[shift_shr .u64 yk _ _ hji (by show _<= (64:Int);omega),<-hp];rw[show(56 - 8* (j:Int)).toNat=8* (7 - j) by omega];have e: ((z:Int) / 2 ^ (8* (7 - j)))= ((z / 256 ^ (7 - j):Nat):Int):=by
         rw[show(256:Nat)=2 ^ 8 from rfl,<-Nat.pow_mul];simp
        rw[e]
       obtain⟨b,hb⟩:∃b,UInt8.ofNat (p % 256)=b:=⟨_,rfl⟩
       have hw:IntKind.u8.wrap (p:Int)= (b.toNat:Int):=by
        rw[IntKind.wrap_u8,<-hb,jc (by omega)];omega
       have HBJ:Hid ((ax ((x:Int),(y:Int)))[8*k+j]? =some b):=by
        show _=_;rw[HBY.out j hlt,hp,hb]
       clear hp hb;generalize hq:56 - 8* (j:Int)=q at *;have HQ:=ah hq;clear hq
       go_wp2_with (at_builtin;refine aM ?_)
       refine aF ?_;have hml:m<=2000000000000:=by have:=hm.out;omega
       refine nP (base:=base) (av:=av) rfl (.tmp 16) (.tmp 21) 213 213 rfl 5 i0 Tryz.underlying213 Hi.out Hz0.out Hz1.out Hz2.out A' m c' (bs++ (ax ((x:Int),(y:Int))).take (8*k+j)) rfl ?tx _ 1 [b] rfl ?src (by omega) (by simp;omega) (by simp;omega) ?_
       case tx=>exact hT.out.below ((af _ _).alloc ai _)
       case src =>
        refine Src.ofSlice _ Tryz.underlying213 ⟨wr.heap.size,0,none⟩ 1 1 (bc [b]) rfl (fun i u hu=>?_) (fun u hu=>?_)
        . match i,hu with
          | 0,hu=>simp[bc]at hu;subst hu;simp[Addr.add]
        . simp[bc]at hu;subst hu;rfl
       intro A5 c5 w5 a5 hb5 hv5;have HV5:Hid (w5.heap[av]? =w.heap[av]?):=(hv5.trans (Below.heap_alloc wr _ av hal)).trans hAV.out;have hal5:av<w5.heap.size:=by have:=hb5.size;simp at this;omega
       clear hv5;rw[Z4,<-aS HBJ.out]at a5;have HA5:=ah a5;have HB5:=ah ((hB.out.alloc hwz (.cells #[.int .u8 b.toNat] 5)).trans hb5);have hz5:base<=w5.heap.size:=by have:=hb5.size;simp at this;omega
       clear a5 hb5;have hq1: -100<=q:=by have:=HQ.out;omega
       have hq2:q<=100:=by have:=HQ.out;omega
       go_wp2
       go_roundw
       case rel=>exact⟨j+1,A5,m+1,c5,by omega,by rw[<-HQ.out];congr 1;omega,rfl,by show _=_;have:=hm.out;omega,HA5.out,HB5.out,hz5,HV5.out,hal5⟩
       case measure=>have:=HQ.out;simp[intOf];omega
     . have hji:¬(0:Int)<=56 - 8* (j:Int):=by omega
       have HJ8:Hid (j=8):=by show _=_;omega
       generalize hq:56 - 8* (j:Int)=q at *;clear hq
       go_wp2
       go_roundw
       case rel=>exact⟨k+1,A',m,c',by omega,by go_num,rfl,by show _=_;have:=hm.out;have:=HJ8.out;omega,by show Txt _ _ _ _ _ _ _;have h1:=hT.out;rw[HJ8.out]at h1;exact h1,hB.out,hwz,hAV.out,hal⟩
       case measure=>simp[intOf];omega
  . have hlz:¬(k:Int)<2:=by omega
    have HK2:Hid (k=2):=by show _=_;omega
    have hT2:=hT.out;have hm2:=hm.out;rw[HK2.out,ZW (by rw[fF];omega)]at hT2;rw[HK2.out]at hm2;obtain rfl:m=n+16:=hm2;have HT2:=ah hT2;clear hT2 hm
    go_wp2
    go_ret
    exact⟨A',c',rfl,HT2.out,hB.out,hAV.out⟩
theorem xy{u:Upd}(h:df u=0):u.1.size<=100:=by
 unfold df at h;by_cases hn:bL u.1=true
 . rcases Nat.lt_or_ge 100 u.1.size with hl | hl
   . unfold bL at hn;rw[decide_eq_false (by have:=gK u.1;unfold bl;omega),Bool.false_and]at hn;cases hn
   . exact hl
 . rw[if_neg hn]at h;cases h
theorem Hl{u:Upd}(h:u.1.size<=100): (fD u).length<=138:=by
 have h1:=eu 0 u.1.size (by omega);unfold fD ak;rw[<-aP];simp[fF,<-aP];omega
theorem Ai:∀(us:List Upd),(∀u∈us,u.1.size<=100)-> (bA us).length<=138*us.length
 | [],_=>by simp[bA]
 | u::us,h=>by
   have h1:=Hl (h u (by simp));have h2:=Ai us (fun v hv=>h v (by simp[hv]));have e:bA (u::us)=fD u++bA us:=rfl;rw[e,ae,Z5];omega
theorem yx(us:List Upd)(u:Upd):bA (us++ [u])=bA us++fD u:=by simp[bA]
theorem Gh{us:List Upd}{k:Nat}{u:Upd}(h:us[k]? =some u):di (us.drop k)=if df u≠0 then df u else di (us.drop (k+1)):=by
 have hl:=List.getElem?_eq_some_iff.1 h;rw[List.drop_eq_getElem_cons hl.1,di,hl.2]
theorem Kk(s:MR)(w:MQ):Src Tryz.prog 1 9 (.string s) s.size (bc (toL s)) w:=by
 have h:=Src.ofString (P:=Tryz.prog) w Tryz.underlying9 s;exact h
def ql(r:MU×Int)(w:MQ)(e:Ending)(w':MQ):Prop:=e= .returned (.tuple #[.string (ofL r.1),.int .i64 r.2])/\Below w.heap.size w w'
theorem DX(A:OA)(n c B:Nat)(us:List Upd)(w:MQ)(h0:Sl w B 5 A n (flat upC us))(hB:B<=w.heap.size)(hn:n<=maxLen)(hs:∀u∈us,u.1.size<=maxLen)(hw:∀u∈us,WfU u) :
  Calls Tryz.prog 108 #[.slice A n c] w (ql (encR us) w):=by
 unfold maxLen at hn;have HL:=ah (h0.len eB (by omega));have H0:=ah h0;have HS:=ah hs;have HW:=ah hw;clear h0 hs hw;have HR:Hid (∀r,encR us=r->∀e w',ql r w e w'->ql (encR us) w e w'):=fun r h e w' hh=>by rw[h];exact hh
 have HD:Hid (encR us=if 1000<us.length then([],4) else if di us≠0 then([],di us) else(aj us.length++bA us,0)):=rfl;obtain⟨i0,hi,hz0,hz1,hz2⟩:=info_parts infoByte;have Hi:=ah hi;have Hz0:=ah hz0;have Hz1:=ah hz1;have Hz2:=ah hz2;clear hi hz0 hz1 hz2;by_cases hlim:1000<n
 . have hli: (1000:Int)< (n:Int):=by omega
   have hfin:Hid (encR us= ([],4)):=by show _=_;rw[HD.out,if_pos (by rw[HL.out];exact hlim)]
   clear HD
   go_enter Tryz.func108,Tryz.ntmps108
   go_wp2
   go_ret2
   exact HR.out _ hfin.out _ _ ⟨rfl,af _ _⟩
 . have hli:¬(1000:Int)< (n:Int):=by omega
   have HD2:Hid (encR us=if di us≠0 then([],di us) else(aj us.length++bA us,0)):=by show _=_;rw[HD.out,if_neg (by rw[HL.out];exact hlim)]
   clear HD
   go_enter Tryz.func108,Tryz.ntmps108
   go_wp2
   go_loopw[19] (fun i wr=>∃k:Nat,k<=n/\i= .int .i64 k/\Hid (di us=di (us.drop k))/\Hid (Below w.heap.size w wr)) (fun i _=>n - (intOf i).toNat)
   case atStart=>exact⟨0,ZZ _,rfl,rfl,af _ _⟩
   case round =>
    obtain⟨k,hk,rfl,hE,hBel⟩:=hrel;by_cases hlt:k<n
    . obtain⟨b,off,u,rfl,hbB,hu,y0,y1,y2,y3,y4⟩:=(H0.out.below hBel.out hB).upd hlt
      have HST:=ah (Gh hu);have HUS:=ah (HS.out u (Z7 hu));clear hu;obtain⟨s,⟨o0,o1⟩,⟨q0,q1⟩⟩:=u;have hlz: (k:Int)< (n:Int):=by omega
      go_wp2_with fail;refine(qX (s,(o0,o1),(q0,q1)) _ HUS.out).mono ?_;generalize hpe:df (s,(o0,o1),(q0,q1))=pe at *;rintro e w1 ⟨rfl,hb1⟩;have HB1:Hid (Below w.heap.size w w1):=(hBel.out.alloc hBel.out.size _).trans (hb1.mono (by have:=hBel.out.size;simp;omega));clear hb1 y0 y1 y2 y3 y4 hpe;by_cases hp:pe=0
      . subst hp
        have HN:Hid (di us=di (us.drop (k+1))):=by show _=_;rw[hE.out,HST.out];simp
        go_wp2
        go_roundw
        case rel=>exact⟨k+1,by omega,by go_num,HN.out,HB1.out⟩
        case measure=>simp[intOf];omega
      . have hne: (pe != 0)=true:=by rw[bne_iff_ne];exact hp
        have hfin:Hid (encR us= ([],pe)):=by
         show _=_;have e1:di us=pe:=by rw[hE.out,HST.out,if_pos hp]
         rw[HD2.out,e1,if_pos hp]
        clear hp
        go_wp2
        go_ret2
        exact HR.out _ hfin.out _ _ ⟨rfl,HB1.out⟩
    . have hlz:¬(k:Int)< (n:Int):=by omega
      have hE0:di us=0:=by rw[hE.out,List.drop_of_length_le (by rw[HL.out];omega)];rfl
      have hfin:Hid (encR us= (aj n++bA us,0)):=by
       show _=_;rw[HD2.out,hE0,HL.out];simp
      have HP:=ah ((su us).1 hE0);clear hE hE0 HD2;go_wp2_with fail;refine(lX n (by omega) _).mono ?_;rintro e w2 ⟨rfl,hb2⟩;have HB2:=ah (hBel.out.trans (hb2.mono hBel.out.size));clear hb2;have hl6: (aj n).length<=6:=eu 5 n (by omega);obtain⟨A1,c1,w3,hrun,hT,hb3⟩:=Hw (P:=Tryz.prog) 9 213 5 (ofL (aj n)) Tryz.underlying9 Tryz.underlying213 Tryz.underlying5 (by rw[bG];unfold maxLen;omega) w2;have HT:=ah hT;have HB3:=ah hb3;have hsz: (ofL (aj n)).size= (aj n).length:=rfl;have HM:Hid ((aj n).length= (aj n).length+ (bA (us.take 0)).length):=by show _=_;simp[bA]
      rw[hsz]at hrun HT;rw[bO]at HT;have hz3:w2.heap.size<=w3.heap.size:=hb3.size;clear hsz hT hb3
      go_wp2
      obtain⟨wo,rfl⟩:∃wo:MQ,wo=wr:=⟨_,rfl⟩
      go_loopw[9,39] (fun v i wr=>∃(k:Nat)(A':OA)(m c':Nat),k<=n/\i= .int .i64 k/\v= .slice A' m c'/\Hid (m= (aj n).length+ (bA (us.take k)).length)/\Hid (Txt wr w2.heap.size wr.heap.size A' m c' (aj n++bA (us.take k)))/\Hid (Below w2.heap.size w2 wr)/\w2.heap.size<=wr.heap.size) (fun _ i _=>n - (intOf i).toNat)
      case atStart=>exact⟨0,A1,_,c1,ZZ _,rfl,rfl,HM.out,by show Txt _ _ _ _ _ _ _;rw[List.take_zero,show bA []= [] from rfl,List.append_nil];exact HT.out.avoid ai,HB3.out,hz3⟩
      case round =>
       clear HT HB3 hrun HM hz3;obtain⟨k,A',m,c',hk,rfl,rfl,hm,hT,hB4,hwz⟩:=hrel;have HB4:=ah (HB2.out.trans (hB4.out.mono HB2.out.size));by_cases hlt:k<n
       . obtain⟨b,off,u,rfl,hbB,hu,y0,y1,y2,y3,y4⟩:=(H0.out.below HB4.out hB).upd hlt
         have hmem:=Z7 hu;have hu100:=xy (HP.out u hmem);have HWU:=ah (HW.out u hmem);have HSN:Hid (aj n++bA (us.take (k+1))=aj n++bA (us.take k)++fD u):=by
          show _=_;rw[aS hu,yx,Z4]
         have hml:m<=200000:=by
          have h1:=Ai (us.take k) (fun v hv=>xy (HP.out v (List.mem_of_mem_take hv)));have h2:=hm.out;rw[List.length_take]at h1;omega
         have HUL:Hid ((bA (us.take (k+1))).length= (bA (us.take k)).length+ (fD u).length):=by
          show _=_;rw[aS hu,yx,ae]
         clear hu hmem;obtain⟨s,⟨o0,o1⟩,⟨q0,q1⟩⟩:=u;simp only at hu100;have hlz: (k:Int)< (n:Int):=by omega
         have hwz':=hwz;have hx0:Bk (wr.alloc (.cells #[.string s,.int .u64 o0,.int .u64 o1,.int .u64 q0,.int .u64 q1] 85)) wr.heap.size 85 #[.string s,.int .u64 o0,.int .u64 o1,.int .u64 q0,.int .u64 q1]:=Bk.new wr 85 _;have HX0:=ah hx0;clear hx0;go_wp2_with fail;refine(rG s (by omega) _).mono ?_;obtain⟨t,ht⟩:∃t,ofL (ak (toL s))=t:=⟨_,rfl⟩
         rw[ht];have HTL:Hid (toL t=ak (toL s)):=by show _=_;rw[<-ht];rfl
         have htl:t.size<=110:=by
          rw[<-ht,bG];unfold ak;have h1:=eu 0 (toL s).length (by rw[<-aP];omega);rw[ae,<-aP]at *;omega
         clear ht;rintro e w4 ⟨rfl,hb4⟩;have hz4:wr.heap.size+1<=w4.heap.size:=by have:=hb4.size;simp at this;omega
         have K4:=ah (HX0.out.below hb4 (by simp));have T4:=ah ((hT.out.below ((af _ wr).alloc ai _)).below hb4);have B4:=ah ((hB4.out.alloc hwz (.cells #[.string s,.int .u64 o0,.int .u64 o1,.int .u64 q0,.int .u64 q1] 85)).trans (hb4.mono (by simp;omega)));clear hb4 y0 y1 y2 y3 y4
         go_wp2_with (at_builtin;refine aM ?_)
         refine aF ?_;refine nP (base:=w2.heap.size) (av:=wr.heap.size) rfl (.tmp 49) (.tmp 50) 213 9 rfl 5 i0 Tryz.underlying213 Hi.out Hz0.out Hz1.out Hz2.out A' m c' (aj n++bA (us.take k)) rfl T4.out (.string t) t.size (toL t) rfl (Kk t _) (by omega) (by omega) (by omega) ?_;intro A5 c5 w5 a5 hb5 hv5;have T5:=ah a5;have B5:=ah (B4.out.trans hb5);have hz5:=hb5.size;have K5:Hid (Bk w5 wr.heap.size 85 #[.string s,.int .u64 o0,.int .u64 o1,.int .u64 q0,.int .u64 q1]):=hv5.trans K4.out;clear a5 hb5 hv5 T4 B4 K4;have u1:=K5.out.cell 1;have u2:=K5.out.cell 2;simp at u1 u2;go_wp2_with fail;refine(vZ (o0,o1) HWU.out.1 A5 _ c5 w2.heap.size wr.heap.size _ _ T5.out (by omega) (by omega) (by omega)).mono ?_;rintro e w6 ⟨A6,c6,rfl,a6,hb6,hv6⟩;have T6:=ah a6;have B6:=ah (B5.out.trans hb6);have hz6:=hb6.size;have K6:Hid (Bk w6 wr.heap.size 85 #[.string s,.int .u64 o0,.int .u64 o1,.int .u64 q0,.int .u64 q1]):=hv6.trans K5.out;clear a6 hb6 hv6 u1 u2 T5 B5 K5;have u3:=K6.out.cell 3;have u4:=K6.out.cell 4;simp at u3 u4;go_wp2_with fail;refine(vZ (q0,q1) HWU.out.2 A6 _ c6 w2.heap.size wr.heap.size _ _ T6.out (by omega) (by omega) (by omega)).mono ?_;rintro e w7 ⟨A7,c7,rfl,a7,hb7,hv7⟩;have hz7:=hb7.size;have HB7:=ah (B6.out.trans hb7);have e1:aj n++bA (us.take k)++toL t++ax (o0,o1)++ax (q0,q1)=aj n++bA (us.take (k+1)):=by
          rw[HSN.out,HTL.out];simp[fD,Z4]
         rw[e1]at a7;have T7:=ah (a7.avoid ai);have HM7:Hid (m+t.size+16+16= (aj n).length+ (bA (us.take (k+1))).length):=by
          show _=_;have h1:=hm.out;have h2:=HUL.out;have h3: (fD (s,(o0,o1),(q0,q1))).length=t.size+32:=by
           rw[aP,HTL.out];simp[fD,fF]
          omega
         clear a7 hb7 hv7 u3 u4 T6 B6 K6 e1
         go_wp2
         go_roundw
         case rel=>exact⟨k+1,A7,_,c7,by omega,by go_num,rfl,HM7.out,T7.out,HB7.out,by omega⟩
         case measure=>simp[intOf];omega
       . have hlz:¬(k:Int)< (n:Int):=by omega
         have hT2:=hT.out;rw[ZW (by rw[HL.out];omega)]at hT2;have hconv:=hT2.run_string (P:=Tryz.prog) 213 9 5 Tryz.underlying213 Tryz.underlying5 Tryz.underlying9;clear hT2 hT
         go_wp2
         go_ret2
         exact HR.out _ hfin.out _ _ ⟨rfl,HB4.out⟩
end
theorem EW{α:Type}{enc:α->List MS}(l:List α)(x:α):flat enc (l++ [x])=flat enc l++enc x:=by rw[bu];simp[flat]
theorem Bp:∀(us:List Upd),(∀u∈us,u.1.size<=65536)-> (bA us).length<=65574*us.length
 | [],_=>by simp[bA]
 | u::us,h=>by
   have h1:=Bp us (fun x hx=>h x (by simp[hx]));have h2:=h u (by simp);have h3:=ek (n:=(toL u.1).length) (by rw[<-aP];omega);have h4: (toL u.1).length<=65536:=by rw[<-aP];exact h2
   unfold bA at h1 ⊢;simp only[List.flatMap_cons,ae,Z5,fD,ak,fF]at h1 ⊢;omega
def vJ(l:List MU)(w:MQ)(e:Ending)(w':MQ):Prop:=∃A m c,e= .returned (.tuple #[.slice A m c,.int .i64 0])/\Sl w' w'.heap.size 1 A m (flat aA l)/\m=l.length/\m<=c/\c<=maxLen/\Below w.heap.size w w'
theorem xG(us:List Upd)(A1:OA)(n1 c1:Nat)(p:List Itm)(A:OA)(n c B:Nat)(w:MQ)(h0:Sl w B 5 A1 n1 (flat upC us))(h1:Sl w B 3 A n (flat itC p))(hB:B<=w.heap.size)(hg:GOk (us,aU p))(hn:n<=100000) :
  Calls Tryz.prog 48 #[.slice A1 n1 c1,.slice A n c] w (vJ (aN (us,aU p)) w):=by
 have hpl:=h1.len bN (by omega);have hul:=h0.len eB (by omega);have hfew:=hg.few;have HPI:=ah (lX n (by omega) w);have hen:=hg.enc;have HE:Hid (∀W,Below w.heap.size w W->Calls Tryz.prog 108 #[.slice A1 n1 c1] W fun e w'=>e= .returned (.tuple #[.string (ofL (encR us).1),.int .i64 0])/\Below W.heap.size W w'):=fun W hb=>by
  have:=DX A1 n1 c1 B us W (h0.below hb hB) (by have:=hb.size;omega) (by unfold maxLen;simp only at hfew;omega) (fun u hu=>by have:=(hg.us u hu).1;unfold maxLen;omega) (fun u hu=>(hg.us u hu).2);unfold ql at this;rw[hen]at this ⊢;exact this
 have HLE: (encR us).1.length<=70000000:=by
  rw[hen];have h1:=Bp us (fun u hu=>(hg.us u hu).1);have h2:=ek (n:=us.length) (by simp only at hfew;omega);simp only[ae]at hfew ⊢;omega
 obtain⟨s1,hs1⟩:∃s,ofL (aj n)=s:=⟨_,rfl⟩
 obtain⟨s2,hs2⟩:∃s,ofL (encR us).1=s:=⟨_,rfl⟩
 have hz1:s1.size<=6:=by rw[<-hs1,bG];exact ek (by omega)
 have hz2:s2.size<=70000000:=by rw[<-hs2,bG];exact HLE
 have HS:Hid (Value.string (s1++s2)= .string (ofL (fe us n))):=by
  show _=_;rw[<-hs1,<-hs2];rfl
 have hcat:¬(9223372036854775807<s1.size+s2.size):=by omega
 rw[hs1]at HPI;rw[hs2]at HE;obtain⟨i0,hi,hzz0,hzz1,hzz2⟩:=info_parts iR;have Hi:=ah hi;have Hz0:=ah hzz0;have Hz1:=ah hzz1;have Hz2:=ah hzz2;have HP:=ah h1;have HPLN:=ah hpl;clear h0 h1 hg hfew hen HLE hs1 hs2 hz1 hz2 hpl hul hi hzz0 hzz1 hzz2
 go_enter Tryz.func48,Tryz.ntmps48
 go_wp2_with fail;refine HPI.out.mono ?_;rintro e w1 ⟨rfl,hb1⟩;have HB1:=ah hb1;have HE1:=ah (HE.out w1 hb1);clear hb1 HE HPI;go_wp2_with fail;refine HE1.out.mono ?_;rintro e w2 ⟨rfl,hb2⟩;have HB2:Hid (Below w.heap.size w w2):=HB1.out.trans (hb2.mono HB1.out.size);clear hb2 HE1 HB1;have z2:=HB2.out.size;go_wp2_with fail
 go_loopw[9,35] (fun q i wr=>∃(k:Nat)(A':OA)(c':Nat),k<=n/\i= .int .i64 k/\q= .slice A' (k+1) c'/\k+1<=c'/\c'<=maxLen/\Hid (wr.ownsRow w.heap.size 9 1 (.slice A' (k+1) c') (k+1) (flat aA (fe us n::aU (p.take k))))/\Hid (Below w.heap.size w wr)) (fun _ i _=>n - (intOf i).toNat)
 case atStart =>
  refine⟨0,_,1,ZZ _,rfl,rfl,by omega,by unfold maxLen;omega,?_,HB2.out.alloc z2 _⟩;show World.ownsRow _ _ _ _ _ _ _;have:=World.ownsRow_lit (base:=w.heap.size) (e:=9) (size:=1) w2 #[.string (s1++s2)] 1 z2 (by unfold maxLen;omega) rfl;rw[HS.out]at this ⊢;exact this
 case round =>
  obtain⟨k,A',c',hk,rfl,rfl,hc1,hc2,hO,hBel⟩:=hrel;have HO:=ah hO.out;have HBr:=ah hBel.out;have zr:w.heap.size<=wr.heap.size:=HBr.out.size;clear hO hBel;by_cases hlt:k<n
  . obtain⟨bb,off,x,rfl,hbB,hx,y0,y1,y2⟩:=(HP.out.below HBr.out hB).it hlt
    have hlz: (k:Int)< (n:Int):=by omega
    have HX:Hid (flat aA (fe us n::aU (p.take (k+1)))=flat aA (fe us n::aU (p.take k))++ [.string x.2]):=by
     show _=_;rw[aS hx,show aU (p.take k++ [x])=aU (p.take k)++ [toL x.2] by simp[aU],<-List.cons_append,EW];simp[aA,iE]
    clear hx;obtain⟨⟨x1,x2⟩,xs⟩:=x;simp only at y0 y1 y2 HX;have HNB:Hid (Bk ((wr.alloc (.cells #[.int .u64 x1,.int .u64 x2,.string xs] 118)).alloc (.cells #[.string xs] 9)) (wr.heap.size+1) 9 #[.string xs]):=by
     have e:=Bk.new (wr.alloc (.cells #[.int .u64 x1,.int .u64 x2,.string xs] 118)) 9 #[.string xs]
     rwa[Z9]at e
    have hbx:Below wr.heap.size wr ((wr.alloc (.cells #[.int .u64 x1,.int .u64 x2,.string xs] 118)).alloc (.cells #[.string xs] 9)):=((af _ wr).alloc ai _).alloc (by simp) _;have HOX:=ah (fJ HO.out hbx);have HBX:Hid (Below w.heap.size w ((wr.alloc (.cells #[.int .u64 x1,.int .u64 x2,.string xs] 118)).alloc (.cells #[.string xs] 9))):=HBr.out.trans (hbx.mono zr);clear hbx
    go_wp2_with (at_builtin;refine pO (.tmp 39) (.tmp 42) 22 rfl ?_)
    refine aF ?_;refine iL (base:=w.heap.size) (size:=1) _ rfl (.tmp 39) (.tmp 42) 22 rfl 9 i0 _ 16 Tryz.underlying22 Hi.out Hz0.out Hz1.out Hz2.out rfl (by decide) (.slice A' (k+1) c') (k+1) _ rfl HOX.out _ _ 1 1 [.string xs] rfl (Sl.of_bk (n:=1) (size:=1) HNB.out rfl) (by simp[Value.oneCell']) (by unfold maxLen;omega) (by omega) HBX.out.size ?_;intro A4 c4 w4 ho hg hc41 hc42;rw[<-HX.out]at ho;have HO4:=ah ho;have HB4:Hid (Below w.heap.size w w4):=HBX.out.grown hg HBX.out.size (fun g e=>(bT HOX.out e).1);clear ho hg y0 y1 y2;go_wp2_with fail;go_roundw
    case rel=>exact⟨k+1,A4,c4,hlt,by go_num,rfl,hc41,hc42,HO4.out,HB4.out⟩
    case measure=>simp[intOf];omega
  . have hlz:¬(k:Int)< (n:Int):=by omega
    have HT:Hid (fe us n::aU (p.take k)=aN (us,aU p)):=by
     show _=_;rw[ZW (by have:=HPLN.out;omega)];have: (aU p).length=n:=by unfold aU;rw[List.length_map];exact HPLN.out
     unfold aN;simp only[this]
    rw[HT.out]at HO;have HL:Hid (k+1= (aN (us,aU p)).length):=by show _=_;rw[<-HT.out,Z5];unfold aU;rw[List.length_map,List.length_take,HPLN.out];omega
    go_wp2
    go_ret2
    exact⟨A',k+1,c',rfl,Sl.of_own HO.out,HL.out,hc1,hc2,HBr.out⟩
section
open Go.Maps
def lh(r:List Rf×List Upd×Int)(w:MQ)(e:Ending)(w':MQ):Prop :=
 ∃A m c A' m' c',e= .returned (.tuple #[.agg #[.slice A m c,.slice A' m' c'],.int .i64 r.2.2])/\Sl w' w'.heap.size 3 A m (flat rfC r.1)/\m<=c/\c<=maxLen ∧
  Sl w' w'.heap.size 5 A' m' (flat upC r.2.1)/\m'<=c'/\c'<=maxLen/\Below w.heap.size w w'
theorem oz{fn:Func}{c i:Tmp}(h:fn.results= #[.cell c 33,.tmp i]){w:MQ}{a:Array MS}{b:Nat}{x y v:MS}(ha:a[c]?.getD undef= .pointer (some ⟨b,0,none⟩))(hk:Bk w b 33 #[x,y])(hv:a[i]?.getD undef=v) :
  (results fn a).run Tryz.prog w= .ok (.tuple #[.agg #[x,y],v]) w:=by
 have h0:=hk.cell 0;have h1:=hk.cell 1;simp at h0 h1;simp[results,h,ha,hv,go_sem,h0,h1]
theorem rD{x:Int}{w w':MQ}{e:Ending}(he:e= .returned (.tuple #[.agg #[.slice none 0 0,.slice none 0 0],.int .i64 x]))(hb:Below w.heap.size w w'):lh ([],[],x) w e w' :=
 ⟨none,0,0,none,0,0,he,Sl.nil _ _ _ _,Nat.le_refl _,ZZ _,Sl.nil _ _ _ _,Nat.le_refl _,ZZ _,hb⟩
theorem F7(l:List Rf)(u:Upd): (stepG l u).2=bD l u:=by
 unfold stepG;by_cases h:bD l u≠0
 . rw[if_pos h]
 . rw[if_neg h];exact(by simpa using h:bD l u=0).symm
theorem Ga{l:List Rf}{u:Upd}(h:bD l u=0): (stepG l u).1=bU l u.1 u.2.2:=by
 unfold stepG;rw[if_neg (by simpa using h)]
theorem xw(A0 A1 A2:OA)(n0 c0 n1 c1 n2 c2 B:Nat)(rs:List Rf)(log us:List Upd)(w:MQ)(h0:Sl w B 3 A0 n0 (flat rfC rs))(h1:Sl w B 5 A1 n1 (flat upC log))(h2:Sl w B 5 A2 n2 (flat upC us))(hB:B<=w.heap.size)
  (hn0:n0<=maxLen) (hn1:n1<=maxLen) (hn2:n2<=10000) (hs:∀u∈us,u.1.size<=maxLen) (hs2:∀u∈log,u.1.size<=maxLen) :
  Calls Tryz.prog 39 #[.agg #[.slice A0 n0 c0,.slice A1 n1 c1],.slice A2 n2 c2] w (lh (bZ rs log us) w):=by
 have HL1:=ah (h1.len eB (by omega));have HL2:=ah (h2.len eB (by omega));have H0:=ah h0;have H1:=ah h1;have H2:=ah h2;clear h0 h1 h2;have HS:=ah hs;have HS2:=ah hs2;clear hs hs2;have HN0:=ah hn0;have HN1:=ah hn1;clear hn0 hn1;obtain⟨i0,hi,hz0,hz1',hz2'⟩:=info_parts qo;have Hi:=ah hi;have Hz0:=ah hz0;have Hz1:=ah hz1';have Hz2:=ah hz2';clear hi hz0 hz1' hz2';have HU:Hid (bZ rs log us=if aV rs log≠0 then([],[],aV rs log) else dH rs log us):=rfl;have HR:Hid (∀r,bZ rs log us=r->∀e w',lh r w e w'->lh (bZ rs log us) w e w'):=fun r h e w' hh=>by rw[h];exact hh
 go_enter Tryz.func39,Tryz.ntmps39
 go_wp2_with fail;have hbel:Below w.heap.size w ((w.alloc (.cells #[.slice A0 n0 c0,.slice A1 n1 c1] 33)).alloc (.cells #[.slice none 0 0,.slice none 0 0] 33)) :=
  ((af _ w).alloc ai _).alloc (by simp) _
 refine(xR A0 A1 n0 c0 n1 c1 B rs log _ (H0.out.below hbel hB) (H1.out.below hbel hB) (by simp;omega) HN0.out HN1.out HS2.out).mono ?_;rintro e w1 ⟨mb,rfl,hb1,hm⟩;have k0:Bk w1 w.heap.size 33 #[.slice A0 n0 c0,.slice A1 n1 c1]:=((Bk.new w 33 _).alloc _).below hb1 (by simp;omega);have k1:Bk w1 (w.heap.size+1) 33 #[.slice none 0 0,.slice none 0 0]:=by
  have:=Bk.new (w.alloc (.cells #[.slice A0 n0 c0,.slice A1 n1 c1] 33)) 33 #[.slice none 0 0,.slice none 0 0];rw[Z9]at this;exact this.below hb1 (by simp)
 have HB1:Hid (Below w.heap.size w w1):=hbel.trans (hb1.mono (by simp;omega));have hz1:w.heap.size+2<=w1.heap.size:=by have:=hb1.size;simp at this;omega
 have HM:=ah hm;clear hb1 hbel hm;have K1:=ah k1;obtain⟨x0,x1,_,_⟩:=k0.agg;obtain⟨r0,r1,f0,f1⟩:=k1.agg;clear k0 k1;by_cases hc:aV rs log=0
 . have hlen:=gY hc
   have hst:Hid (bZ rs log us=dH rs log us):=by
    show _=_;rw[HU.out,hc,if_neg (by simp)]
   have hn1:n1<=1000:=by rw[<-HL1.out];exact hlen
   have HSR:=ah (Kn hc);obtain⟨b,rfl,hbge,hown⟩:=HM.out hc;have hbge':w.heap.size+2<=b:=by simp at hbge;omega
   clear hbge HM;have HO:=ah hown;have hbl:=hown.lt;clear hown;have HCE:=ah hc;rw[HCE.out];clear hc hlen;go_wp2_with fail;refine(EE A1 n1 c1 B log _ (H1.out.below HB1.out hB) (by omega) (by omega)).mono ?_;rintro e w2 ⟨A3,c3,rfl,ha3,hb2,hc3,hm3⟩;have HA3:=ah ha3;have hz2:=hb2.size;have K2:=ah (K1.out.below hb2 (by omega));have HO2:=ah (HO.out.kept (iq hb2 none) (by simp));have HB2:=ah (HB1.out.trans (hb2.mono (by omega)));have HC3:=ah hm3;clear ha3 hb2 hm3 x0 x1 r0 r1 f0 f1
   go_wp2
   go_loopw[8,26] (fun v i wr=>∃(k:Nat)(A:OA)(m c:Nat)(l:List Rf)(lg:List Upd),k<=n2/\i= .int .i64 k/\v= .slice A m c/\Hid (Bk wr (w.heap.size+1) 33 #[.slice none 0 0,.slice none 0 0]) ∧
     Hid (Rm wr Tryz.prog 9 b (1000+k) (gL l))/\Hid (dY l)/\Hid (Apd wr w1.heap.size 85 5 A m c (flat upC lg))/\m<=c/\Hid (c<=maxLen)/\m<=1000/\Hid (lg.length=m)/\Hid (Below w.heap.size w wr)/\w1.heap.size<=wr.heap.size/\Hid (bZ rs log us=dH l lg (us.drop k))) (fun _ i _=>n2 - (intOf i).toNat)
   case atStart=>exact⟨0,A3,n1,c3,rs,log,ZZ _,rfl,rfl,K2.out,HO2.out,HSR.out,HA3.out,hc3,HC3.out,hn1,HL1.out,HB2.out,hz2,hst.out⟩
   case round =>
    obtain⟨k,A,m,c,l,lg,hk,rfl,rfl,B1,O,SR,AP,hmc,hcm,hm,HLG,hBel,hwz,hrun⟩:=hrel;by_cases hlt:k<n2
    . obtain⟨b3,off,u,rfl,hbB,hu,y0,y1,y2,y3,y4⟩:=(H2.out.below hBel.out hB).upd hlt
      have HUk:=ah hu;have HUS:=ah (HS.out u (Z7 hu));clear hu;have hst2:Hid (bZ rs log us=if(fu l lg u).2.2≠0 then([],[],(fu l lg u).2.2) else dH (fu l lg u).1 (fu l lg u).2.1 (us.drop (k+1))):=by
       show _=_;have hl:=List.getElem?_eq_some_iff.1 HUk.out;rw[hrun.out,List.drop_eq_getElem_cons hl.1,hl.2,nY]
      obtain⟨s,⟨o0,o1⟩,⟨q0,q1⟩⟩:=u;have hlz: (k:Int)< (n2:Int):=by omega
      go_wp2_with fail;refine(yM b (1000+k) l (s,(o0,o1),(q0,q1)) _ (O.out.alloc _) SR.out (by unfold maxLen;omega) HUS.out).mono ?_;rintro e w3 ⟨rfl,hown3,hg3⟩;have hzz:wr.heap.size+1<=w3.heap.size:=by have:=hg3.size;simp at this;omega
      have d3:Bk w3 wr.heap.size 85 #[.string s,.int .u64 o0,.int .u64 o1,.int .u64 q0,.int .u64 q1]:=(Bk.new wr 85 _).grown hg3 (by intro e;injection e;omega);have u0:=d3.cell 0;have u1:=d3.cell 1;have u2:=d3.cell 2;have u3:=d3.cell 3;have u4:=d3.cell 4;simp at u0 u1 u2 u3 u4;have e3:=(B1.out.alloc (.cells #[.string s,.int .u64 o0,.int .u64 o1,.int .u64 q0,.int .u64 q1] 85)).grown hg3 (by intro e;injection e;omega);obtain⟨r0,r1,f0,f1⟩:=e3.agg;have E3:=ah e3;have HO3:=ah hown3;have HA4:Hid (Apd w3 w1.heap.size 85 5 A m c (flat upC lg)):=(AP.out.below ((af _ _).alloc ai _)).grown hg3 (fun k e=>by cases e;exact hbl);have HB3:Hid (Below w.heap.size w w3):=(hBel.out.alloc (by omega) _).grown hg3 (by simp;omega) (fun k e=>by cases e;omega);have SR3:Hid (dY (stepG l (s,(o0,o1),(q0,q1))).1):=yu SR.out;clear hown3 hg3 y0 y1 y2 y3 y4 d3 e3;have hGE:=F7 l (s,(o0,o1),(q0,q1));by_cases hx:bD l (s,(o0,o1),(q0,q1))=0
      . have hGS:=Ga hx
        rw[hGE,hx];rw[hGS]at HO3 SR3;have HX:=ah hx;clear hx hGE hGS;by_cases hlim:1000<=m
        . have hfin:Hid (bZ rs log us= ([],[],4)):=by
            show _=_;have e1:fu l lg (s,(o0,o1),(q0,q1))= ([],[],4):=by
             unfold fu;rw[HX.out,if_neg (by simp),if_pos (by rw[HLG.out];exact hlim)]
            rw[hst2.out,e1,if_pos (by simp)]
          go_wp2_with fail;exact ZY (oz Tryz.results39 rfl (E3.out.set2 _ _) rfl) rfl (HR.out _ hfin.out _ _ (rD rfl (dQ HB3.out (by omega) _ _)))
        . have hnx:Hid (bZ rs log us=dH (bU l s (q0,q1)) (lg++ [(s,(o0,o1),(q0,q1))]) (us.drop (k+1))):=by
            show _=_;have e1:fu l lg (s,(o0,o1),(q0,q1))= (bU l s (q0,q1),lg++ [(s,(o0,o1),(q0,q1))],0):=by
             unfold fu;rw[HX.out,if_neg (by simp),if_neg (by rw[HLG.out];exact hlim)]
            rw[hst2.out,e1,if_neg (by simp)]
          have HLG2:Hid ((lg++ [(s,(o0,o1),(q0,q1))]).length=m+1):=by show _=_;rw[ae,HLG.out];rfl
          go_wp2_with (at_builtin;refine aM ?_)
          refine aF ?_;refine dw (base:=w1.heap.size) _ rfl (.tmp 41) (.tmp 43) 31 rfl 85 i0 _ 48 Tryz.underlying31 Hi.out Hz0.out Hz1.out Hz2.out rfl (by decide) A m c (flat upC lg) rfl (HA4.out.below ((af _ _).alloc ai _)) (w3.heap.size+1) _ 1 _ (flat upC [(s,(o0,o1),(q0,q1))]) rfl (Sl.new w3 85 (flat upC [(s,(o0,o1),(q0,q1))]) 1 rfl) (nW _) (by unfold maxLen;omega) (by omega) (by simp;omega) ?_;intro A5 c5 w5 a5 hb5 hc5 hm5 hok5;have hz5:w3.heap.size+1<=w5.heap.size:=by have:=hb5.size;simp at this;omega
          have E5:=ah ((E3.out.alloc (.cells #[.string s,.int .u64 o0,.int .u64 o1,.int .u64 q0,.int .u64 q1] 85)).below hb5 (by omega));have HO5:=ah ((HO3.out.alloc (.cells #[.string s,.int .u64 o0,.int .u64 o1,.int .u64 q0,.int .u64 q1] 85)).below hb5 hbl);have HB5:=ah ((HB3.out.alloc (by omega) (.cells #[.string s,.int .u64 o0,.int .u64 o1,.int .u64 q0,.int .u64 q1] 85)).trans (hb5.mono (by omega)));rw[<-bu]at a5;have HA5:=ah a5;have HM5:=ah hm5;clear a5 hb5 hm5 hok5 u0 u1 u2 u3 u4 r0 r1 f0 f1
          go_wp2
          go_roundw
          case rel=>exact⟨k+1,A5,m+1,c5,_,_,by omega,by go_num,rfl,E5.out,HO5.out,SR3.out,HA5.out,hc5,HM5.out,by omega,HLG2.out,HB5.out,by omega,hnx.out⟩
          case measure=>simp[intOf];omega
      . have hne: (bD l (s,(o0,o1),(q0,q1)) != 0)=true:=by rw[bne_iff_ne];exact hx
        have hfin:Hid (bZ rs log us= ([],[],bD l (s,(o0,o1),(q0,q1)))):=by
         show _=_;have e1:fu l lg (s,(o0,o1),(q0,q1))= ([],[],bD l (s,(o0,o1),(q0,q1))):=if_pos hx;rw[hst2.out,e1,if_pos hx]
        rw[hGE];clear hx hGE;go_wp2_with fail;exact ZY (oz Tryz.results39 rfl (E3.out.set2 _ _) rfl) rfl (HR.out _ hfin.out _ _ (rD rfl (dQ HB3.out (by omega) _ _)))
    . have hfin:Hid (bZ rs log us= (l,lg,0)):=by
        show _=_;rw[hrun.out,List.drop_of_length_le (by rw[HL2.out];omega)];rfl
      go_wp2_with fail;refine(xI b (1000+k) l _ O.out SR.out (by omega)).mono ?_;rintro e w3 ⟨A6,m6,c6,rfl,s6,hm6,hc6,hb6,_⟩;have hz6:=hb6.size;have e6:=B1.out.below hb6 (by omega);obtain⟨r0,r1,f0,f1⟩:=e6.agg;have E6:=ah e6;have S6:=ah s6;have HC6:=ah hc6;have HB6:=ah (hBel.out.trans (hb6.mono (by omega)));have S7:=ah (AP.out.below hb6).sl;clear e6 s6 hb6 hc6;go_wp2_with fail;exact ZY (oz Tryz.results39 rfl (E6.out.set2 _ _) rfl) rfl (HR.out _ hfin.out _ _ ⟨A6,m6,c6,A,m,c,rfl,(S6.out.box2 (by omega) (ED _) E6.out _ _).more (Nat.le_of_eq (by simp)),hm6,HC6.out,(S7.out.box2 (by omega) (Eo _) E6.out _ _).more (Nat.le_of_eq (by simp)),hmc,hcm.out,dQ HB6.out (by omega) _ _⟩)
 . have hne: (aV rs log != 0)=true:=by rw[bne_iff_ne];exact hc
   have hst:Hid (bZ rs log us= ([],[],aV rs log)):=by
    show _=_;rw[HU.out,if_pos hc]
   clear hc
   go_wp2
   exact ZY (oz Tryz.results39 rfl (K1.out.set2 _ _) rfl) rfl (HR.out _ hst.out _ _ (rD rfl (dQ HB1.out (by omega) _ _)))
end
def dS(l:List MU):Bool:=decide (l.length<=1000) && l.all fun t=>decide (t.length<=65536)
theorem fitB_iff{l:List MU}:dS l=true↔eH l:=by simp[dS,eH]
def eQ(l:List MU):MU×Int:=if dS l=true then(bJ l,0) else([],4)
def qy(r:MU×Int)(w:MQ)(e:Ending)(w':MQ):Prop:=e= .returned (.tuple #[.string (ofL r.1),.int .i64 r.2])/\Below w.heap.size w w'
theorem DU(A:OA)(n c B:Nat)(l:List MU)(w:MQ)(h:Sl w B 1 A n (flat aA l))(hB:B<=w.heap.size)(hn:n<=maxLen) :
  Calls Tryz.prog 180 #[.slice A n c] w (qy (eQ l) w):=by
 unfold maxLen at hn;have HL:=ah (h.len dG (by omega));have H:=ah h;have HR:Hid (∀r,eQ l=r->∀e w',qy r w e w'->qy (eQ l) w e w'):=fun r h e w' hh=>by rw[h];exact hh
 clear h;by_cases hlim:1000<n
 . have hli: (1000:Int)< (n:Int):=by omega
   have hfin:Hid (eQ l= ([],4)):=by show _=_;rw[eQ,if_neg];rw[fitB_iff];intro hf;have:=hf.1;have:=HL.out;omega
   go_enter Tryz.func180,Tryz.ntmps180
   go_wp2
   go_ret2
   exact HR.out _ hfin.out _ _ ⟨rfl,af _ _⟩
 . have hli:¬(1000:Int)< (n:Int):=by omega
   go_enter Tryz.func180,Tryz.ntmps180
   go_wp2
   go_loop[14] (fun i=>∃k:Nat,k<=n/\i= .int .i64 k/\Hid (∀t∈l.take k,t.length<=65536)) (fun i=>n - (intOf i).toNat)
   case atStart=>exact⟨0,ZZ _,rfl,fun t ht=>by simp at ht⟩
   case round =>
    obtain⟨k,hk,rfl,hT⟩:=hrel;by_cases hlt:k<n
    . obtain⟨b,off,x,rfl,hb,hx,hc⟩:=H.out.at_ dG (by omega) hlt
      have x0:=hc 0 _ rfl;simp only[Nat.mul_one,Nat.add_zero]at x0;have HX:=ah hx;have hs: ((ofL x).size:Int)= (x.length:Int):=by rw[bG]
      clear hc hx;have hlz: (k:Int)< (n:Int):=by omega
      by_cases hxl:65536<x.length
      . have hxi: (65536:Int)< ((ofL x).size:Int):=by omega
        have hfin:Hid (eQ l= ([],4)):=by show _=_;rw[eQ,if_neg];rw[fitB_iff];intro hf;have:=hf.2 x (Z7 HX.out);omega
        clear hs
        go_wp2
        go_ret2
        exact HR.out _ hfin.out _ _ ⟨rfl,af _ _⟩
      . have hxi:¬(65536:Int)< ((ofL x).size:Int):=by omega
        clear hs
        go_wp2
        go_round
        case rel =>
         refine⟨k+1,by omega,by go_num,fun t ht=>?_⟩;rw[aS HX.out]at ht;rcases List.mem_append.1 ht with ht | ht
         . exact hT.out t ht
         . rw[List.mem_singleton.1 ht];omega
        case measure=>simp[intOf];omega
    . have hlz:¬(k:Int)< (n:Int):=by omega
      have HF:Hid (eH l):=⟨by have:=HL.out;omega,fun t ht=>hT.out t (by rwa[ZW (by have:=HL.out;omega)])⟩
      have hfin:Hid (eQ l= (bJ l,0)):=by show _=_;rw[eQ,if_pos (fitB_iff.2 HF.out)]
      clear hT;go_wp2_with fail;have hb:=Lib.fresh_isBuilder 215 5 w;refine(nR w.heap.size w.heap.size [] n _ hb (by simp) (by omega) (by simp)).mono ?_;rintro e w1 ⟨rfl,h1,hb1⟩;rw[List.nil_append]at h1;have H1:=ah h1;have HB1:Hid (Below w.heap.size w w1):=((af _ w).alloc ai _).trans hb1;clear hb hb1 h1;go_wp2_with fail
      go_loopw[27] (fun i wr=>∃k:Nat,k<=n/\i= .int .i64 k/\Hid (Lib.IsBuilder 215 5 w.heap.size w.heap.size (Lib.byteCells (aj n++ (l.take k).flatMap ak)) wr)/\Hid (Below w.heap.size w wr)) (fun i _=>n - (intOf i).toNat)
      case atStart=>exact⟨0,ZZ _,rfl,by show Lib.IsBuilder _ _ _ _ _ _;simp;exact H1.out,HB1.out⟩
      case round =>
       obtain⟨k,hk,rfl,hBd,hBel⟩:=hrel;by_cases hlt:k<n
       . obtain⟨b,off,x,rfl,hb,hx,hc⟩:=(H.out.below hBel.out hB).at_ dG (by omega) hlt
         have x0:=hc 0 _ rfl;simp only[Nat.mul_one,Nat.add_zero]at x0;have hxl:x.length<=65536:=HF.out.2 x (Z7 hx);have HT:Hid (aj n++ (l.take (k+1)).flatMap ak= (aj n++ (l.take k).flatMap ak)++ (aj x.length++x)):=by
          show _=_;rw[aS hx];simp[ak]
         have hbl: (aj n++ (l.take k).flatMap ak).length<=70000000:=by
          have h1:=ek (n:=n) (by omega);have h2:=qY (l.take k) (fun t ht=>HF.out.2 t (List.mem_of_mem_take ht));rw[List.length_take]at h2;simp only[ae];omega
         generalize aj n++ (l.take k).flatMap ak=bs at *;have hlz: (k:Int)< (n:Int):=by omega
         have HWI:=ah (fun w' h hw=>nR w.heap.size w.heap.size bs (ofL x).size w' h hw (by rw[bG];omega) (by omega));clear hc hx;go_wp2_with fail;refine(HWI.out _ hBd.out hBel.out.size).mono ?_;rintro e w2 ⟨rfl,h2,hb2⟩;have H2:=ah h2;have HB2:=ah (hBel.out.trans hb2);clear hb2 h2;go_wp2_with fail;refine(wu w.heap.size w.heap.size (Lib.byteCells (bs++aj (ofL x).size)) (ofL x) _ H2.out (by rw[qV,bG,ae];have:=ek (n:=x.length) (by omega);omega) HB2.out.size).mono ?_;rintro e w3 ⟨rfl,h3,hb3,_⟩;have H3:Hid (Lib.IsBuilder 215 5 w.heap.size w.heap.size (Lib.byteCells (aj n++ (l.take (k+1)).flatMap ak)) w3):=by
          refine .inr ?_;rw[HT.out];have e1:Lib.byteCells (bs++aj (ofL x).size)++Lib.strCells (ofL x)=Lib.byteCells (bs++ (aj x.length++x)):=by
           rw[wX,bO,bG];simp[Lib.byteCells]
          rw[<-e1];exact h3
         have HB3:=ah (HB2.out.trans hb3);clear hb3 h3;go_wp2_with fail;go_roundw
         case rel=>exact⟨k+1,by omega,by go_num,H3.out,HB3.out⟩
         case measure=>simp[intOf];omega
       . have hlz:¬(k:Int)< (n:Int):=by omega
         have H3:Hid (Lib.IsBuilder 215 5 w.heap.size w.heap.size (Lib.byteCells (bJ l)) wr):=by
          have h:=hBd.out;rw[ZW (by have:=HL.out;omega)]at h;show Lib.IsBuilder _ _ _ _ _ _;unfold bJ;rw[HL.out];exact h
         clear hBd;go_wp2_with fail;refine(Tryz.Builder_String_any w.heap.size w.heap.size _ _ H3.out hBel.out.size).mono ?_;rintro e w4 ⟨rfl,hb4⟩;have HB4:=ah (hBel.out.trans hb4);clear hb4;go_wp2_with fail;go_ret2
         exact HR.out _ hfin.out _ _ ⟨rfl,HB4.out⟩
end Go.Proofs.YtknefelegjlgnaaGreatDoor
