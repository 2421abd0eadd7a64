/-
  Lemmas of the card.
-/
import Derived.Test.YtknefelegjlgnaaGreatDoorCCCp15
set_option maxRecDepth 100000
set_option maxHeartbeats 4000000
namespace Go.Proofs.YtknefelegjlgnaaGreatDoor
open Go.RowKit
section
open Go.Maps
theorem TS: (Tryz.prog.info? 52).map (fun i=>(i.zero,i.size,i.bytes))=some (some (.agg #[.string ⟨#[]⟩,.int .u64 0,.int .u64 0]),3,32):=by kernel_rfl
theorem uq: (Tryz.prog.info? 85).map (fun i=>(i.zero,i.size,i.bytes))=some (some (.agg #[.string ⟨#[]⟩,.int .u64 0,.int .u64 0,.int .u64 0,.int .u64 0]),5,48):=by kernel_rfl
def DW(l:List Rf)(w:UW)(e:Ending)(w':UW):Prop :=
 ∃A m c,e= .returned (.slice A m c)/\Sl w' w'.heap.size 3 A m (flat rfC l)/\m<=c/\c<=maxLen/\U0 w w'/\w'.ownsRow w.heap.size 52 3 (.slice A m c) m (flat rfC l)
theorem JR(l:List Rf):∀u∈flat rfC l,u.oneCell'=true:=by
 intro u hu;obtain⟨r,_,hr⟩:=List.mem_flatMap.1 hu;simp only[rfC,List.mem_cons,List.not_mem_nil,or_false]at hr;rcases hr with rfl | rfl | rfl <;> rfl
theorem qW(l:List Upd):∀u∈flat upC l,u.oneCell'=true:=by
 intro u hu;obtain⟨r,_,hr⟩:=List.mem_flatMap.1 hu;simp only[upC,List.mem_cons,List.not_mem_nil,or_false]at hr;rcases hr with rfl | rfl | rfl | rfl | rfl <;> rfl
theorem Ky(l:List Rf):∀u∈flat rfC l,xY u=true:=by
 intro u hu;obtain⟨r,_,hr⟩:=List.mem_flatMap.1 hu;simp only[rfC,List.mem_cons,List.not_mem_nil,or_false]at hr;rcases hr with rfl | rfl | rfl <;> rfl
theorem J6(l:List Upd):∀u∈flat upC l,xY u=true:=by
 intro u hu;obtain⟨r,_,hr⟩:=List.mem_flatMap.1 hu;simp only[upC,List.mem_cons,List.not_mem_nil,or_false]at hr;rcases hr with rfl | rfl | rfl | rfl | rfl <;> rfl
def IL(r:Rf):List UY:= [.string r.1]
theorem Qi(r:Rf): (IL r).length=1:=rfl
theorem Ll(l:List Rf):strs (l.map Prod.fst)=flat IL l:=by
 induction l with
 | nil=>rfl
 | cons r l ih=>unfold strs flat at ih ⊢;rw[List.map_cons,List.map_cons,ih];rfl
theorem Rm.key_le{w:UW}{P:Program}{k:TypeId}{b N:Nat}{g:UX->Option UY}(h:Rm w P k b N g)(hk:P.underlying k=some .string){s:UX}(hs: (g s).isSome=true):s.size<=maxLen:=by
 obtain⟨D,h1,h2⟩:=h;have h3:=(h2 s).1;rw[hs]at h3;obtain⟨es,rfl,hko⟩:=h1.keysOf;rw[Maps.has_eq,List.any_eq_true]at h3;obtain⟨p,hp,h4⟩:=h3;obtain⟨v,hv⟩:=hko p hp;obtain⟨y,_,hy,hl⟩:=Maps.keyOf_str hk hv;rw[hy,Bg,beq_iff_eq]at h4;rw[h4,Array.length_toList]at hl;exact hl
theorem NM(b:Nat)(w:UW):Calls Tryz.prog 154 #[.map (some b)] w fun e w'=>e= .returned (.func (.func 233) #[] #[.pointer (some ⟨w.heap.size,0,none⟩)])/\w'=w.alloc (.cells #[.map (some b)] 132):=by
 go_enter Tryz.func154,Tryz.ntmps154
 go_wp2_with fail;go_ret
 exact⟨rfl,rfl⟩
theorem J7(Bm b N:Nat)(g:UX->Option UY)(w:UW)(hM:Rm w Tryz.prog 9 b N g)(hc:w.cell? ⟨Bm,0,none⟩=some (.map (some b)))(hB:Bm<w.heap.size)(hn:N<=1000000) :
  Calls Tryz.prog 153 #[.func (.func 233) #[] #[.pointer (some ⟨Bm,0,none⟩)]] w (SkE g N w) :=
 LG (enters_of Tryz.func233 (by kernel_rfl) rfl) hn (by
  obtain⟨D,h1,h2,h3⟩:=hM.keys Tryz.underlying9;exact⟨_,_,fun l J Jx W hW hJ hJx hY h0=>AnyZ.keys_stops (ρ:=Tryz.keysR_ren) {Tryz.keysR with} Fence.wide 5 trivial rfl (by omega) Bm b N D w hB hc h1 l J Jx W hW hJ hJx (fun pre x W1 hj hl=>hY pre x W1 hj (Nat.lt_of_lt_of_le hl h2)) h0,h3⟩)
theorem CE(b n:Nat)(l:List Rf)(w:UW)(hown:Rm w Tryz.prog 9 b n (gL l))(hl:fE l)(hn:n<=100000) :
  Calls Tryz.prog 86 #[.map (some b)] w (DW l w):=by
 have HS:Hid (∀r∈l,r.1.size<=maxLen):=fun r hr=>hown.key_le Tryz.underlying9 ((F9 l r.1).2 (List.mem_map.2 ⟨r,hr,rfl⟩));have HL:=ai hl;have HO:=ai hown;have hblt:=hown.lt;clear hl hown;obtain⟨i0,hi,hz0,hz1,hz2⟩:=info_parts TS;have Hi:=ai hi;have d:=ai hz0;have f:=ai hz1;have h:=ai hz2;clear hi hz0 hz1 hz2;generalize hRR:DW l w=RR at *;have HRR:=ai hRR;clear hRR
 go_enter Tryz.func86,Tryz.ntmps86
 go_wp2_with fail;refine(NM b _).mono ?_;rintro e w0 ⟨rfl,rfl⟩;have j:=ai (J7 w.heap.size b n (gL l) (w.alloc (.cells #[.map (some b)] 132)) (HO.o.alloc _) ((Bk.new w 132 #[.map (some b)]).cell 0) (by simp) (by omega));go_wp2_with fail;refine j.o.mono ?_;rintro e w1 ⟨A1,c1,ks,rfl,hka,a,hlen,hrow,hb1⟩;obtain rfl:ks=l.map Prod.fst:=yK hka (List.pairwise_map.2 HL.o) (fun x=>(a x).trans (F9 l x));rw[Ll,List.length_map]at hrow;rw[List.length_map]at hlen;obtain⟨_,_,e1,hc1,hm1⟩:=qQ hrow;cases e1
 have HK:=ai (Sl.of_own hrow);have HB1:U6 w w1:=((ah _ w).alloc aj _).trans (hb1.mono (by simp));have hz1:w.heap.size+1<=w1.heap.size:=by have:=hb1.size;simp at this;omega
 have m:=ai (HO.o.kept (jA HB1.o none) (by simp));clear hka a hrow hb1 hm1;rw[List.length_map]
 go_wp2
 go_loopw[3,10] (fun v i wr=>∃(k:Nat)(A:OA)(c:Nat),k<=l.length/\i= .int .i64 k/\v= .slice A k c/\Hid (wr.ownsRow w1.heap.size 52 3 (.slice A k c) k (flat rfC (l.take k)))/\U6 w1 wr/\w1.heap.size<=wr.heap.size) (fun _ i _=>l.length - (intOf i).toNat)
 case atStart=>exact⟨0,none,0,ZX _,rfl,rfl,World.ownsRow_nil _ _ _ _,ah _ _,Nat.le_refl _⟩
 case round =>
  obtain⟨k,A,c,hk,rfl,rfl,O,hBel,hwz⟩:=hrel;by_cases hlt:k<l.length
  . obtain⟨b1,off,r,rfl,hbB,hr,hc⟩:=(HK.o.below hBel.o aj).at_ Qi (by omega) hlt
    have y0:=hc 0 _ rfl;simp at y0;have HRk:=ai hr;have o:=ai (HS.o r (Z7 hr));clear hr hc;have hlk:=Ei (m.o.kept (jA hBel.o none) (by simp)) o.o;rw[BP HL.o (Z7 HRk.o)]at hlk;obtain⟨s,⟨d0,d1⟩⟩:=r;simp only[aA]at hlk y0;have hlz: (k:Int)< (l.length:Int):=by omega
    go_wp2_with (at_builtin;refine aN ?_)
    refine aH ?_;refine jK (base:=w1.heap.size) _ rfl (.tmp 14) (.tmp 20) 30 rfl 52 i0 _ 32 Tryz.underlying30 Hi.o d.o f.o h.o rfl (by decide) _ k (flat rfC (l.take k)) rfl (O.o.alloc _) (wr.heap.size+1) _ 1 _ (flat rfC [(s,(d0,d1))]) rfl ?hs2 (JR _) ?b4 ?b5 ?b6 ?_
    case hs2=>exact Sl.new wr 52 (flat rfC [(s,(d0,d1))]) 1 rfl
    case b4=>simp[maxLen];omega
    case b5=>omega
    case b6=>simp;omega
    intro A2 c2 w2 hown2 hg2 hc2 hm2;have hb2:U0 w1 w2:=(hBel.o.alloc hwz _).grown hg2 (by simp;omega) (fun g hg=>jy O.o g hg);rw[<-bI,<-bJ HRk.o]at hown2;have p:=ai hown2;have HB2:=ai hb2;clear hown2 hg2 hb2 hc2 hm2 y0 hlk
    go_wp2
    go_roundw
    case rel=>exact⟨k+1,A2,c2,by omega,by go_num,rfl,p.o,HB2.o,HB2.o.size⟩
    case measure=>simp[intOf];omega
  . have hke:k=l.length:=by omega
    have O2:=O.o;rw[hke,List.take_length]at O2;have q:=ai O2;clear O2;subst hke
    go_wp2
    rw[<-HRR.o];obtain⟨_,_,e6,t,hc6⟩:=qQ q.o;cases e6
    exact⟨A,_,c,rfl,Sl.of_own q.o,t,hc6,HB1.o.trans (hBel.o.mono (by omega)),Ar q.o (by omega)⟩
end
section
open Go.Maps
theorem JO(A0 A1:OA)(n0 c0 n1 c1 B:Nat)(rs qs:List Rf)(w:UW)(h0:Sl w B 3 A0 n0 (flat rfC rs))(h1:Sl w B 3 A1 n1 (flat rfC qs))(m0:n0<=maxLen) :
  Calls Tryz.prog 62 #[.slice A0 n0 c0,.slice A1 n1 c1] w fun e w'=>e= .returned (.bool (decide (rs=qs)))/\∃k,w'=w.drewN k:=by
 unfold maxLen at m0;have a:=ai (h0.len jm (by omega));have b:=ai (h1.len jm (by omega));have H0:=ai h0;have H1:=ai h1;clear h0 h1;have hM:Hid (decide (rs=qs)=true↔rs=qs):=decide_eq_true_iff;generalize decide (rs=qs)=mb at *;by_cases hn:n0=n1
 . subst hn
   go_enter Tryz.func62,Tryz.ntmps62
   go_wp2
   go_loopw[13] (fun i wr=>∃k nq:Nat,k<=n0/\i= .int .i64 k/\wr=w.drewN nq/\Hid (rs.take k=qs.take k)) (fun i _=>n0 - (intOf i).toNat)
   case atStart=>exact⟨0,0,ZX _,rfl,rfl,rfl⟩
   case round =>
    obtain⟨k,nq,hk,rfl,rfl,heq⟩:=hrel;by_cases hlt:k<n0
    . obtain⟨b0,o0,r,rfl,_,hr,x0,x1,x2⟩:=H0.o.ref hlt
      obtain⟨b1,o1,q,rfl,_,hq,y0,y1,y2⟩:=H1.o.ref hlt;have HR:=ai hr;have HQ:=ai hq;clear hr hq;have hlz: (k:Int)< (n0:Int):=by omega
      by_cases e:r=q
      . have t1: (r.1.toList == q.1.toList && (r.2.1 == q.2.1 && r.2.2 == q.2.2))=true:=by rw[e];simp
        have HE:=ai e;clear e;have hnx:Hid (rs.take (k+1)=qs.take (k+1)):=by
         show _=_;rw[bJ HR.o,bJ HQ.o,heq.o,HE.o]
        go_wp2
        go_quiet(fail)
        go_wp2
        go_roundw
        case rel=>exact⟨k+1,_,by omega,by go_num,rfl,hnx⟩
        case measure=>simp[intOf];omega
      . have t1: (r.1.toList == q.1.toList && (r.2.1 == q.2.1 && r.2.2 == q.2.2))=false:=by
          rw[Bool.eq_false_iff];intro hh;simp only[Bool.and_eq_true,beq_iff_eq,ByteArray.toList_eq]at hh;apply e
          exact Prod.ext (kX hh.1) (Prod.ext hh.2.1 hh.2.2)
        have HE:=ai e;clear e
        go_wp2
        go_quiet(fail)
        go_wp2
        go_ret
        refine⟨dD ?_,⟨_,World.drewN_drewN _ _ _⟩⟩
        symm
        rw[Bool.eq_false_iff];intro hh;have:=hM.o.1 hh;subst this;exact HE.o (Option.some.inj (HR.o.symm.trans HQ.o))
    . have hall:Hid (mb=true):=by
        have:=heq.o;rw[ZU (by rw[a.o];omega),ZU (by rw[b.o];omega)]at this;exact hM.o.2 this
      go_wp2
      go_ret
      exact⟨dD hall.o.symm,_,rfl⟩
 . have hne: ((n0:Int) != (n1:Int))=true:=by rw[bne_iff_ne];omega
   go_enter Tryz.func62,Tryz.ntmps62
   go_wp2
   go_ret
   refine⟨dD ?_,0,rfl⟩
   symm
   rw[Bool.eq_false_iff];intro hh;have:=hM.o.1 hh;subst this;exact hn (a.o.symm.trans b.o)
theorem Bk.agg{w:UW}{b:Nat}{t:TypeId}{x y:UY}(h:Bk w b t #[x,y]):w.cell? ⟨b,0,none⟩=some x/\w.cell? ⟨b,1,none⟩=some y/\w.frozen? ⟨b,0,none⟩=false/\w.frozen? ⟨b,1,none⟩=false:=by
 have h0:=h.cell 0;have h1:=h.cell 1;simp at h0 h1;exact⟨h0,h1,h.free 0,h.free 1⟩
theorem Rm.drew{w:UW}{P:Program}{k:TypeId}{b N:Nat}{g:UX->Option UY}(h:Rm w P k b N g):Rm w.drew P k b N g:=h
def zg(rs:List Rf)(x:Int)(w:UW)(e:Ending)(w':UW):Prop :=
 ∃mb:Option Nat,e= .returned (.tuple #[.map mb,.int .i64 x])/\U0 w w'/\ (x=0->∃b,mb=some b/\w.heap.size<=b/\Rm w' Tryz.prog 9 b 1000 (gL rs))
theorem vT(A0 A1:OA)(n0 c0 n1 c1 B:Nat)(rs:List Rf)(log:List Upd)(w:UW)(h0:Sl w B 3 A0 n0 (flat rfC rs))(h1:Sl w B 5 A1 n1 (flat upC log))(hB:B<=w.heap.size)
  (hn0:n0<=maxLen) (hn1:n1<=maxLen) (hs:∀u∈log,u.1.size<=maxLen) :
  Calls Tryz.prog 71 #[.agg #[.slice A0 n0 c0,.slice A1 n1 c1]] w (zg rs (aW rs log) w):=by
 have a:=ai (h1.len gy (by omega));have H0:=ai (h0.alloc hB (.cells #[.slice A0 n0 c0,.slice A1 n1 c1] 33));have H1:=ai (h1.alloc hB (.cells #[.slice A0 n0 c0,.slice A1 n1 c1] 33));clear h0 h1;have HS:=ai hs;clear hs;have n:=ai hn0;clear hn0;have HB:=ai ((ah w.heap.size w).alloc aj (.cells #[.slice A0 n0 c0,.slice A1 n1 c1] 33));have hC:Hid (aW rs log=if 1000<log.length then 4 else if(aO [] log).2≠0 then(aO [] log).2 else if(aO [] log).1=rs then 0 else 11):=rfl;generalize aW rs log=ce at *;have HR:Hid (∀r,ce=r->∀e w',zg rs r w e w'->zg rs ce w e w'):=fun r h e w' hh=>by rw[h];exact hh
 unfold maxLen at hn1;by_cases hbig:1000<n1
 . have hfin:Hid (ce=4):=by show _=_;rw[hC.o,if_pos (by rw[a.o];exact hbig)]
   go_enter Tryz.func71,Tryz.ntmps71
   go_wp2_with fail;go_ret2
   exact HR.o _ hfin.o _ _ ⟨none,rfl,HB.o,fun h=>by cases h⟩
 . have hC2:Hid (ce=if(aO [] log).2≠0 then(aO [] log).2 else if(aO [] log).1=rs then 0 else 11):=by
     show _=_;rw[hC.o,if_neg (by rw[a.o];exact hbig)]
   have f:=ai (xH log [] List.Pairwise.nil);generalize hr:aO [] log=r at *;obtain⟨l,x⟩:=r;have g:=ai hr;clear hr
   go_enter Tryz.func71,Tryz.ntmps71
   go_wp2_with fail;refine(MM A1 n1 c1 B log _ H1.o (by simp;omega) (by omega) HS.o).mono ?_;rintro e w1 ⟨mb,rfl,hb,hm⟩;rw[g.o]at hm ⊢;simp only at hm ⊢;have k0:Bk w1 w.heap.size 33 #[.slice A0 n0 c0,.slice A1 n1 c1]:=(Bk.new w 33 _).below hb (by simp);obtain⟨x0,x1,_,_⟩:=k0.agg;have i:=ai (H0.o.below hb (by simp;omega));have HB1:=ai (HB.o.trans (hb.mono (by simp)));have hz:w.heap.size+1<=w1.heap.size:=by have:=hb.size;simp at this;omega
   have HM:=ai hm;have K0:=ai k0;clear hm hb k0;by_cases hx:x=0
   . subst hx
     obtain⟨b,rfl,d,hown⟩:=HM.o rfl;clear HM;have HO:=ai (hown.more (show n1<=1000 by omega));have hbl:=hown.lt;clear hown;have KS:Hid (∀W,U0 w1 W->W.cell? ⟨w.heap.size,0,none⟩=some (.slice A0 n0 c0)):=fun W hb=>(hb.cell (p:=⟨w.heap.size,0,none⟩) (by show w.heap.size<_;omega)).trans x0;go_wp2_with fail
     go_region_held3 (fun w'=>w'.cell? ⟨w.heap.size,0,none⟩=some (.slice A0 n0 c0)) (first | exact x0 | exact KS.o _ ((ah _ _).drew.trans hb2) | exact KS.o _ (uV ((ah _ _).drew.trans hb2) _)) (first | (go_at_call 86;refine(CE b 1000 l _ HO.o.drew f.o (by omega)).mono ?_;rintro e w2 ⟨A,m,c,rfl,hSl,hmc,hcm,hb2,_⟩) | (go_at_call 62;refine(JO A A0 m c n0 c0 w2.heap.size l rs _ hSl ((i.o.drew.below hb2 (by show _<=w1.heap.size;omega)).more (by have:w1.heap.size<=w2.heap.size:=hb2.size;omega)) (by omega)).mono ?_;rintro e w3 ⟨rfl,k,rfl⟩))
     have HB2:U6 w (w2.drewN k):=uV (HB1.o.drew.trans (hb2.mono (by show _<=w1.heap.size;omega))) _;have j:Hid (Rm (w2.drewN k) Tryz.prog 9 b 1000 (gL l)):=(HO.o.drew.kept (jA (uV hb2 k) none) (by simp))
     have hk2:Bk (w2.drewN k) w.heap.size 33 #[.slice A0 n0 c0,.slice A1 n1 c1]:=(K0.o.drew.below hb2 (by show _<w1.heap.size;omega)).drewN k;clear hSl hb2 hcm;by_cases he:l=rs
     . have hd:decide (l=rs)=true:=decide_eq_true he
       have hfin:Hid (ce=0):=by show _=_;rw[hC2.o];simp[he]
       rw[hd];have HE:=ai he;clear hd he;go_wp2_with fail;go_ret2
       exact HR.o _ hfin.o _ _ ⟨some b,rfl,HB2.o,fun _=>⟨b,rfl,by simp at d;omega,by rw[<-HE.o];exact j.o⟩⟩
     . have hd:decide (l=rs)=false:=decide_eq_false he
       have hfin:Hid (ce=11):=by show _=_;rw[hC2.o];simp[he]
       rw[hd];clear hd he;go_wp2_with fail;go_ret2
       exact HR.o _ hfin.o _ _ ⟨none,rfl,HB2.o,fun h=>by cases h⟩
   . have hne: (x != 0)=true:=by rw[bne_iff_ne];exact hx
     have hfin:Hid (ce=x):=by show _=_;rw[hC2.o];simp[hx]
     have HX:=ai hx;clear hx;go_wp2_with fail;go_ret2
     exact HR.o _ hfin.o _ _ ⟨none,rfl,HB1.o,fun h=>absurd h HX.o⟩
theorem qM{P:Program}(w:UW)(t e:TypeId)(a:OA)(l c:Nat)(h:P.underlying t=some (.slice e)): (binOp .eql t (.slice a l c) (.slice none 0 0)).run P w= .ok (.bool a.isNone) w:=by
 simp only[binOp];simp[run_equal_slice_nil w t e a l c h]
def Ij(us:List Upd)(n:Nat)(w:UW)(e:Ending)(w':UW):Prop :=
 ∃A c,e= .returned (.slice A n c)/\Apd w' w.heap.size 85 5 A n c (flat upC us)/\U0 w w'/\n<=c/\c<=maxLen
theorem Ko(A:OA)(n c B:Nat)(us:List Upd)(w:UW)(h:Sl w B 5 A n (flat upC us))(hB:B<=w.heap.size)(hn:n<=100000) :
  Calls Tryz.prog 84 #[.slice A n c] w (Ij us n w):=by
 have H:=ai h;clear h;obtain⟨i0,hi,hz0,hz1',hz2'⟩:=info_parts uq;have Hi:=ai hi;have d:=ai hz0;have f:=ai hz1';have g:=ai hz2';clear hi hz0 hz1' hz2';generalize hRR:Ij us n w=RR at *;have HRR:=ai hRR;clear hRR;cases A with
 | none =>
   have h0:n=0:=by
    rcases Nat.eq_zero_or_pos n with h | h
    . exact h
    . obtain⟨b,off,e,_⟩:=H.o.2 h;cases e
   subst h0;have hx:flat upC us= []:=by
    have:=H.o.1;rw[Nat.zero_mul]at this;exact List.length_eq_zero_iff.1 this
   have hnn:∀w:UW,(binOp .eql 31 (.slice none 0 c) (.slice none 0 0)).run Tryz.prog w= .ok (.bool true) w:=fun w=>qM w 31 85 none 0 c Tryz.underlying31
   go_enter Tryz.func84,Tryz.ntmps84
   go_wp2
   rw[<-HRR.o];exact⟨none,0,rfl,.inr ⟨rfl,rfl,hx⟩,ah _ _,Nat.le_refl _,ZX _⟩
 | some a =>
   have hnn:∀w:UW,(binOp .eql 31 (.slice (some a) n c) (.slice none 0 0)).run Tryz.prog w= .ok (.bool false) w:=fun w=>qM w 31 85 (some a) n c Tryz.underlying31
   go_enter Tryz.func84,Tryz.ntmps84
   go_wp2_with (at_builtin;refine aN ?_)
   refine aH ?_;refine dZ (base:=w.heap.size) _ rfl (.tmp 5) (.tmp 6) 31 rfl 85 i0 _ 48 Tryz.underlying31 Hi.o d.o f.o g.o rfl (by decide) _ 0 0 [] rfl (.inr ⟨rfl,rfl,rfl⟩) B _ n c (flat upC us) rfl (H.o.alloc hB _) (qW _) (by unfold maxLen;omega) (by omega) (by simp) ?_;intro A2 c2 w2 ha hb hc1 hm1 hok;rw[Nat.zero_add,List.nil_append]at ha;rw[Nat.zero_add]at hc1 ⊢;have HA:=ai ha;have HB:=ai (((ah _ w).alloc aj _).trans hb);have HM:=ai hm1;clear ha hb hok hm1
   go_wp2
   rw[<-HRR.o];exact⟨A2,c2,rfl,HA.o,HB.o,hc1,HM.o⟩
theorem KN(A0 A1:OA)(n0 c0 n1 c1 B:Nat)(rs:List Rf)(log:List Upd)(w:UW)(h0:Sl w B 3 A0 n0 (flat rfC rs))(h1:Sl w B 5 A1 n1 (flat upC log))(hB:B<=w.heap.size)
  (hn0:n0<=maxLen) (hn1:n1<=maxLen) (hs:∀u∈log,u.1.size<=maxLen) :
  Calls Tryz.prog 32 #[.agg #[.slice A0 n0 c0,.slice A1 n1 c1]] w fun e w'=>e= .returned (.int .i64 (aW rs log))/\U0 w w':=by
 have HB:=ai ((ah w.heap.size w).alloc aj (.cells #[.slice A0 n0 c0,.slice A1 n1 c1] 33));have H:=ai (vT A0 A1 n0 c0 n1 c1 B rs log (w.alloc (.cells #[.slice A0 n0 c0,.slice A1 n1 c1] 33)) (h0.below HB.o hB) (h1.below HB.o hB) (by simp;omega) hn0 hn1 hs);clear h0 h1 hs hn0 hn1
 go_enter Tryz.func32,Tryz.ntmps32
 go_wp2_with fail;refine H.o.mono ?_;rintro e w1 ⟨mb,rfl,hb1,_⟩;have HB1:=ai (HB.o.trans (hb1.mono (by simp)));clear hb1;go_wp2_with fail;go_ret
 exact⟨sS rfl,HB1.o⟩
end
section
open Go.Maps
def Qy(w:UW)(base av n:Nat)(bs:UZ)(e:Ending)(w':UW):Prop:=∃A c,e= .returned (.slice A n c)/\Txt w' base av A n c bs/\Below base w w'/\w'.heap[av]? =w.heap[av]?
theorem zY(d:Dig)(hd:WfD d)(A:OA)(n c base av:Nat)(bs:UZ)(w:UW)(h:Txt w base av A n c bs)(hbase:base<=w.heap.size)(hav:av<w.heap.size)(hlen:n<=1099511627776) :
  Calls Tryz.prog 179 #[.slice A n c,aA d] w (Qy w base av (n+16) (bs++ay d)):=by
 obtain⟨x,y⟩:=d;obtain⟨hx0,hx1,hy0,hy1⟩:=hd;simp only at hx0 hx1 hy0 hy1;obtain⟨x,rfl⟩:=Int.eq_ofNat_of_zero_le hx0;obtain⟨y,rfl⟩:=Int.eq_ofNat_of_zero_le hy0;have o:=ai hx1;have r:=ai hy1;clear hx0 hx1 hy0 hy1;show Calls Tryz.prog 179 #[.slice A n c,.agg #[.int .u64 x,.int .u64 y]] w _;obtain⟨i0,hi,hz0,hz1,hz2⟩:=info_parts infoByte;have Hi:=ai hi;have s:=ai hz0;have t:=ai hz1;have B:=ai hz2;clear hi hz0 hz1 hz2;have HT:Hid (Txt (w.alloc (.cells #[.int .u64 x,.int .u64 y] 50)) base av A n c bs):=h.below ((ah _ _).alloc aj _);have HB:Hid (Below base w (w.alloc (.cells #[.int .u64 x,.int .u64 y] 50))):=(ah _ _).alloc hbase _;clear h
 go_enter Tryz.func179,Tryz.ntmps179
 go_wp2
 go_loopw[0,9] (fun v i wr=>∃(k:Nat)(A':OA)(m c':Nat),k<=2/\i= .int .i64 k/\v= .slice A' m c'/\Hid (m=n+8*k)/\Hid (Txt wr base av A' m c' (bs++ (ay (x,y)).take (8*k)))/\Hid (Below base w wr)/\base<=wr.heap.size/\Hid (wr.heap[av]? =w.heap[av]?)/\av<wr.heap.size) (fun _ i _=>2 - (intOf i).toNat)
 case atStart=>exact⟨0,A,n,c,by omega,rfl,rfl,rfl,by show Txt _ _ _ _ _ _ _;rw[show 8*0=0 from rfl,List.take_zero,List.append_nil];exact HT.o,HB.o,by simp;omega,Below.heap_alloc w _ av hav,by simp;omega⟩
 case round =>
  obtain⟨k,A',m,c',hk,rfl,rfl,hm,hT,hB,hwz,a,hal⟩:=hrel;by_cases hlt2:k<2
  . have hlz: (k:Int)<2:=by omega
    obtain⟨z,hz,hix,hby⟩:∃z:Nat,Hid (z<18446744073709551616)/\ (∀w,(Instr.index 50 (.agg #[.int .u64 (x:Int),.int .u64 (y:Int)]) (.int .i64 (k:Int))).run Tryz.prog w= .ok (.int .u64 (z:Int)) w)/\ (∀j,j<8-> (ay ((x:Int),(y:Int)))[8*k+j]? =some (UInt8.ofNat (z / 256 ^ (7 - j) % 256))):=by
     rcases Nat.lt_or_ge k 1 with h1 | h1
     . obtain rfl:k=0:=by omega
       refine⟨x,by show _<_;have:=o.o;omega,fun w=>by kernel_rfl,fun j hj=>?_⟩;unfold ay;rw[List.getElem?_append_left (by rw[jq];omega),Int.toNat_natCast,show 8*0+j=j by omega];exact qf 8 x j hj
     . obtain rfl:k=1:=by omega
       refine⟨y,by show _<_;have:=r.o;omega,fun w=>by kernel_rfl,fun j hj=>?_⟩;unfold ay;rw[List.getElem?_append_right (by rw[jq];omega),Int.toNat_natCast,jq,show 8*1+j - 8=j by omega];exact qf 8 y j hj
    have C:=ai hby;clear hby
    go_wp2
    obtain⟨H,rfl⟩:∃H:UW,H=wr:=⟨_,rfl⟩
    go_loopw[0,7] (fun v i wr=>∃(j:Nat)(A':OA)(m c':Nat),j<=8/\i= .int .i64 (56 - 8* (j:Int))/\v= .slice A' m c'/\Hid (m=n+8*k+j)/\Hid (Txt wr base av A' m c' (bs++ (ay ((x:Int),(y:Int))).take (8*k+j)))/\Hid (Below base w wr)/\base<=wr.heap.size/\Hid (wr.heap[av]? =w.heap[av]?)/\av<wr.heap.size) (fun _ i _=>(intOf i+8).toNat)
    case atStart=>exact⟨0,A',m,c',by omega,rfl,rfl,hm,hT,hB,hwz,a,hal⟩
    case round =>
     obtain⟨j,A',m,c',hj,rfl,rfl,hm,hT,hB,hwz,a,hal⟩:=hrel;by_cases hlt:j<8
     . have hji: (0:Int)<=56 - 8* (j:Int):=by omega
       obtain⟨p,hp⟩:=NX9 (z / 256 ^ (7 - j))
       have hsh:∀yk,Op.shift .shr .u64 (z:Int) yk (56 - 8* (j:Int))=pure (.int .u64 (p:Int)):=fun yk=>by
        rw[shift_shr .u64 yk _ _ hji (by show _<= (64:Int);omega),<-hp];rw[show(56 - 8* (j:Int)).toNat=8* (7 - j) by omega];have e: ((z:Int) / 2 ^ (8* (7 - j)))= ((z / 256 ^ (7 - j):Nat):Int):=by
         rw[show(256:Nat)=2 ^ 8 from rfl,<-Nat.pow_mul];simp
        rw[e]
       obtain⟨b,hb⟩:=NX9 (UInt8.ofNat (p % 256))
       have hw:IntKind.u8.wrap (p:Int)= (b.toNat:Int):=by
        rw[IntKind.wrap_u8,<-hb,kT (by omega)];omega
       have D:Hid ((ay ((x:Int),(y:Int)))[8*k+j]? =some b):=by
        show _=_;rw[C.o j hlt,hp,hb]
       clear hp hb;generalize hq:56 - 8* (j:Int)=q at *;have HQ:=ai hq;clear hq
       go_wp2_with (at_builtin;refine aN ?_)
       refine aH ?_;have hml:m<=2000000000000:=by have:=hm.o;omega
       refine zS (base:=base) (av:=av) rfl (.tmp 16) (.tmp 21) 213 213 rfl 5 i0 Tryz.underlying213 Hi.o s.o t.o B.o A' m c' (bs++ (ay ((x:Int),(y:Int))).take (8*k+j)) rfl ?tx _ 1 [b] rfl ?src (by omega) (by simp;omega) (by simp;omega) ?_
       case tx=>exact hT.o.below ((ah _ _).alloc aj _)
       case src =>
        refine Src.ofSlice _ Tryz.underlying213 ⟨wr.heap.size,0,none⟩ 1 1 (bc [b]) rfl (fun i u hu=>?_) (fun u hu=>?_)
        . match i,hu with
          | 0,hu=>simp[bc]at hu;subst hu;simp[Addr.add]
        . simp[bc]at hu;subst hu;rfl
       intro A5 c5 w5 a5 hb5 hv5;have HV5:Hid (w5.heap[av]? =w.heap[av]?):=(hv5.trans (Below.heap_alloc wr _ av hal)).trans a.o;have f:av<w5.heap.size:=by have:=hb5.size;simp at this;omega
       clear hv5;rw[ZZ,<-bJ D.o]at a5;have E:=ai a5;have F:=ai ((hB.o.alloc hwz (.cells #[.int .u8 b.toNat] 5)).trans hb5);have G:base<=w5.heap.size:=by have:=hb5.size;simp at this;omega
       clear a5 hb5;have hq1: -100<=q:=by have:=HQ.o;omega
       have hq2:q<=100:=by have:=HQ.o;omega
       go_wp2
       go_roundw
       case rel=>exact⟨j+1,A5,m+1,c5,by omega,by rw[<-HQ.o];congr 1;omega,rfl,by show _=_;have:=hm.o;omega,E.o,F.o,G,HV5.o,f⟩
       case measure=>have:=HQ.o;simp[intOf];omega
     . have hji:¬(0:Int)<=56 - 8* (j:Int):=by omega
       have g:Hid (j=8):=by show _=_;omega
       generalize hq:56 - 8* (j:Int)=q at *;clear hq
       go_wp2
       go_roundw
       case rel=>exact⟨k+1,A',m,c',by omega,by go_num,rfl,by show _=_;have:=hm.o;have:=g.o;omega,by show Txt _ _ _ _ _ _ _;have h1:=hT.o;rw[g.o]at h1;exact h1,hB.o,hwz,a.o,hal⟩
       case measure=>simp[intOf];omega
  . have hlz:¬(k:Int)<2:=by omega
    have l:Hid (k=2):=by show _=_;omega
    have hT2:=hT.o;have hm2:=hm.o;rw[l.o,ZU (by rw[iy];omega)]at hT2;rw[l.o]at hm2;obtain rfl:m=n+16:=hm2;have HT2:=ai hT2;clear hT2 hm
    go_wp2
    go_ret
    exact⟨A',c',rfl,HT2.o,hB.o,a.o⟩
theorem Bj{u:Upd}(h:dG u=0):u.1.size<=100:=by
 unfold dG at h;by_cases hn:bP u.1=true
 . rcases Nat.lt_or_ge 100 u.1.size with hl | hl
   . unfold bP at hn;rw[decide_eq_false (by have:=iZ u.1;unfold bl;omega),Bool.false_and]at hn;cases hn
   . exact hl
 . rw[if_neg hn]at h;cases h
theorem OX{u:Upd}(h:u.1.size<=100): (gU u).length<=138:=by
 have h1:=gq 0 u.1.size (by omega);unfold gU ax;rw[<-aQ];simp[iy,<-aQ];omega
theorem Ej:∀(us:List Upd),(∀u∈us,u.1.size<=100)-> (bG us).length<=138*us.length
 | [],_=>by simp[bG]
 | u::us,h=>by
   have h1:=OX (h u (by simp));have h2:=Ej us (fun v hv=>h v (by simp[hv]));have e:bG (u::us)=gU u++bG us:=rfl;rw[e,af,Z4];omega
theorem CU(us:List Upd)(u:Upd):bG (us++ [u])=bG us++gU u:=by simp[bG]
theorem N9{us:List Upd}{k:Nat}{u:Upd}(h:us[k]? =some u):dJ (us.drop k)=if dG u≠0 then dG u else dJ (us.drop (k+1)):=by
 have hl:=List.getElem?_eq_some_iff.1 h;rw[List.drop_eq_getElem_cons hl.1,dJ,hl.2]
theorem QG(s:UX)(w:UW):Src Tryz.prog 1 9 (.string s) s.size (bc (toL s)) w:=by
 have h:=Src.ofString (P:=Tryz.prog) w Tryz.underlying9 s;exact h
def uo(r:UZ×Int)(w:UW)(e:Ending)(w':UW):Prop:=e= .returned (.tuple #[.string (ofL r.1),.int .i64 r.2])/\U0 w w'
theorem JE(A:OA)(n c B:Nat)(us:List Upd)(w:UW)(h0:Sl w B 5 A n (flat upC us))(hB:B<=w.heap.size)(hn:n<=maxLen)(hs:∀u∈us,u.1.size<=maxLen)(hw:∀u∈us,WfU u) :
  Calls Tryz.prog 108 #[.slice A n c] w (uo (encR us) w):=by
 unfold maxLen at hn;have HL:=ai (h0.len gy (by omega));have H0:=ai h0;have HS:=ai hs;have HW:=ai hw;clear h0 hs hw;have HR:Hid (∀r,encR us=r->∀e w',uo r w e w'->uo (encR us) w e w'):=fun r h e w' hh=>by rw[h];exact hh
 have HD:Hid (encR us=if 1000<us.length then([],4) else if dJ us≠0 then([],dJ us) else(ak us.length++bG us,0)):=rfl;obtain⟨i0,hi,hz0,hz1,hz2⟩:=info_parts infoByte;have Hi:=ai hi;have g:=ai hz0;have j:=ai hz1;have l:=ai hz2;clear hi hz0 hz1 hz2;by_cases hlim:1000<n
 . have o: (1000:Int)< (n:Int):=by omega
   have hfin:Hid (encR us= ([],4)):=by show _=_;rw[HD.o,if_pos (by rw[HL.o];exact hlim)]
   clear HD
   go_enter Tryz.func108,Tryz.ntmps108
   go_wp2
   go_ret2
   exact HR.o _ hfin.o _ _ ⟨rfl,ah _ _⟩
 . have o:¬(1000:Int)< (n:Int):=by omega
   have HD2:Hid (encR us=if dJ us≠0 then([],dJ us) else(ak us.length++bG us,0)):=by show _=_;rw[HD.o,if_neg (by rw[HL.o];exact hlim)]
   clear HD
   go_enter Tryz.func108,Tryz.ntmps108
   go_wp2
   go_loopw[19] (fun i wr=>∃k:Nat,k<=n/\i= .int .i64 k/\Hid (dJ us=dJ (us.drop k))/\U6 w wr) (fun i _=>n - (intOf i).toNat)
   case atStart=>exact⟨0,ZX _,rfl,rfl,ah _ _⟩
   case round =>
    obtain⟨k,hk,rfl,hE,hBel⟩:=hrel;by_cases hlt:k<n
    . obtain⟨b,off,u,rfl,hbB,hu,y0,y1,y2,y3,y4⟩:=(H0.o.below hBel.o hB).upd hlt
      have HST:=ai (N9 hu);have p:=ai (HS.o u (Z7 hu));clear hu;obtain⟨s,⟨o0,o1⟩,⟨q0,q1⟩⟩:=u;have hlz: (k:Int)< (n:Int):=by omega
      go_wp2_with fail;refine(uU (s,(o0,o1),(q0,q1)) _ p.o).mono ?_;generalize hpe:dG (s,(o0,o1),(q0,q1))=pe at *;rintro e w1 ⟨rfl,hb1⟩;have HB1:U6 w w1:=(hBel.o.alloc hBel.o.size _).trans (hb1.mono (by have:=hBel.o.size;simp;omega));clear hb1 y0 y1 y2 y3 y4 hpe;by_cases hp:pe=0
      . subst hp
        have HN:Hid (dJ us=dJ (us.drop (k+1))):=by show _=_;rw[hE.o,HST.o];simp
        go_wp2
        go_roundw
        case rel=>exact⟨k+1,by omega,by go_num,HN.o,HB1.o⟩
        case measure=>simp[intOf];omega
      . have hne: (pe != 0)=true:=by rw[bne_iff_ne];exact hp
        have hfin:Hid (encR us= ([],pe)):=by
         show _=_;have e1:dJ us=pe:=by rw[hE.o,HST.o,if_pos hp]
         rw[HD2.o,e1,if_pos hp]
        clear hp
        go_wp2
        go_ret2
        exact HR.o _ hfin.o _ _ ⟨rfl,HB1.o⟩
    . have hlz:¬(k:Int)< (n:Int):=by omega
      have hE0:dJ us=0:=by rw[hE.o,List.drop_of_length_le (by rw[HL.o];omega)];rfl
      have hfin:Hid (encR us= (ak n++bG us,0)):=by
       show _=_;rw[HD2.o,hE0,HL.o];simp
      have HP:=ai ((wL us).1 hE0);clear hE hE0 HD2;go_wp2_with fail;refine(ry n (by omega) _).mono ?_;rintro e w2 ⟨rfl,hb2⟩;have HB2:=ai (hBel.o.trans (hb2.mono hBel.o.size));clear hb2;have E: (ak n).length<=6:=gq 5 n (by omega);obtain⟨A1,c1,w3,hrun,hT,hb3⟩:=PS (P:=Tryz.prog) 9 213 5 (ofL (ak n)) Tryz.underlying9 Tryz.underlying213 Tryz.underlying5 (by rw[bK];unfold maxLen;omega) w2;have HT:=ai hT;have HB3:=ai hb3;have hsz: (ofL (ak n)).size= (ak n).length:=rfl;have HM:Hid ((ak n).length= (ak n).length+ (bG (us.take 0)).length):=by show _=_;simp[bG]
      rw[hsz]at hrun HT;rw[dw]at HT;have hz3:w2.heap.size<=w3.heap.size:=hb3.size;clear hsz hT hb3
      go_wp2
      obtain⟨C,rfl⟩:∃C:UW,C=wr:=⟨_,rfl⟩
      go_loopw[9,39] (fun v i wr=>∃(k:Nat)(A':OA)(m c':Nat),k<=n/\i= .int .i64 k/\v= .slice A' m c'/\Hid (m= (ak n).length+ (bG (us.take k)).length)/\Hid (Txt wr w2.heap.size wr.heap.size A' m c' (ak n++bG (us.take k)))/\U6 w2 wr/\w2.heap.size<=wr.heap.size) (fun _ i _=>n - (intOf i).toNat)
      case atStart=>exact⟨0,A1,_,c1,ZX _,rfl,rfl,HM.o,by show Txt _ _ _ _ _ _ _;rw[List.take_zero,show bG []= [] from rfl,List.append_nil];exact HT.o.avoid aj,HB3.o,hz3⟩
      case round =>
       clear HT HB3 hrun HM hz3;obtain⟨k,A',m,c',hk,rfl,rfl,hm,hT,hB4,hwz⟩:=hrel;have HB4:=ai (HB2.o.trans (hB4.o.mono HB2.o.size));by_cases hlt:k<n
       . obtain⟨b,off,u,rfl,hbB,hu,y0,y1,y2,y3,y4⟩:=(H0.o.below HB4.o hB).upd hlt
         have hmem:=Z7 hu;have a:=Bj (HP.o u hmem);have d:=ai (HW.o u hmem);have q:Hid (ak n++bG (us.take (k+1))=ak n++bG (us.take k)++gU u):=by
          show _=_;rw[bJ hu,CU,ZZ]
         have hml:m<=200000:=by
          have h1:=Ej (us.take k) (fun v hv=>Bj (HP.o v (List.mem_of_mem_take hv)));have h2:=hm.o;rw[List.length_take]at h1;omega
         have x:Hid ((bG (us.take (k+1))).length= (bG (us.take k)).length+ (gU u).length):=by
          show _=_;rw[bJ hu,CU,af]
         clear hu hmem;obtain⟨s,⟨o0,o1⟩,⟨q0,q1⟩⟩:=u;simp only at a;have hlz: (k:Int)< (n:Int):=by omega
         have D:=hwz;have hx0:Bk (wr.alloc (.cells #[.string s,.int .u64 o0,.int .u64 o1,.int .u64 q0,.int .u64 q1] 85)) wr.heap.size 85 #[.string s,.int .u64 o0,.int .u64 o1,.int .u64 q0,.int .u64 q1]:=Bk.new wr 85 _;have HX0:=ai hx0;clear hx0;go_wp2_with fail;refine(Bz s (by omega) _).mono ?_;obtain⟨t,ht⟩:=NX9 (ofL (ax (toL s)))
         rw[ht];have f:Hid (toL t=ax (toL s)):=by show _=_;rw[<-ht];rfl
         have htl:t.size<=110:=by
          rw[<-ht,bK];unfold ax;have h1:=gq 0 (toL s).length (by rw[<-aQ];omega);rw[af,<-aQ]at *;omega
         clear ht;rintro e w4 ⟨rfl,hb4⟩;have F:wr.heap.size+1<=w4.heap.size:=by have:=hb4.size;simp at this;omega
         have K4:=ai (HX0.o.below hb4 (by simp));have T4:=ai ((hT.o.below ((ah _ wr).alloc aj _)).below hb4);have B4:=ai ((hB4.o.alloc hwz (.cells #[.string s,.int .u64 o0,.int .u64 o1,.int .u64 q0,.int .u64 q1] 85)).trans (hb4.mono (by simp;omega)));clear hb4 y0 y1 y2 y3 y4
         go_wp2_with (at_builtin;refine aN ?_)
         refine aH ?_;refine zS (base:=w2.heap.size) (av:=wr.heap.size) rfl (.tmp 49) (.tmp 50) 213 9 rfl 5 i0 Tryz.underlying213 Hi.o g.o j.o l.o A' m c' (ak n++bG (us.take k)) rfl T4.o (.string t) t.size (toL t) rfl (QG t _) (by omega) (by omega) (by omega) ?_;intro A5 c5 w5 a5 hb5 hv5;have T5:=ai a5;have B5:=ai (B4.o.trans hb5);have G:=hb5.size;have K5:Hid (Bk w5 wr.heap.size 85 #[.string s,.int .u64 o0,.int .u64 o1,.int .u64 q0,.int .u64 q1]):=hv5.trans K4.o;clear a5 hb5 hv5 T4 B4 K4;have u1:=K5.o.cell 1;have u2:=K5.o.cell 2;simp at u1 u2;go_wp2_with fail;refine(zY (o0,o1) d.o.1 A5 _ c5 w2.heap.size wr.heap.size _ _ T5.o (by omega) (by omega) (by omega)).mono ?_;rintro e w6 ⟨A6,c6,rfl,a6,hb6,hv6⟩;have T6:=ai a6;have B6:=ai (B5.o.trans hb6);have H:=hb6.size;have K6:Hid (Bk w6 wr.heap.size 85 #[.string s,.int .u64 o0,.int .u64 o1,.int .u64 q0,.int .u64 q1]):=hv6.trans K5.o;clear a6 hb6 hv6 u1 u2 T5 B5 K5;have u3:=K6.o.cell 3;have u4:=K6.o.cell 4;simp at u3 u4;go_wp2_with fail;refine(zY (q0,q1) d.o.2 A6 _ c6 w2.heap.size wr.heap.size _ _ T6.o (by omega) (by omega) (by omega)).mono ?_;rintro e w7 ⟨I,c7,rfl,a7,hb7,hv7⟩;have J:=hb7.size;have y:=ai (B6.o.trans hb7);have e1:ak n++bG (us.take k)++toL t++ay (o0,o1)++ay (q0,q1)=ak n++bG (us.take (k+1)):=by
          rw[q.o,f.o];simp[gU]
         rw[e1]at a7;have T7:=ai (a7.avoid aj);have z:Hid (m+t.size+16+16= (ak n).length+ (bG (us.take (k+1))).length):=by
          show _=_;have h1:=hm.o;have h2:=x.o;have h3: (gU (s,(o0,o1),(q0,q1))).length=t.size+32:=by
           rw[aQ,f.o];simp[gU,iy]
          omega
         clear a7 hb7 hv7 u3 u4 T6 B6 K6 e1
         go_wp2
         go_roundw
         case rel=>exact⟨k+1,I,_,c7,by omega,by go_num,rfl,z.o,T7.o,y.o,by omega⟩
         case measure=>simp[intOf];omega
       . have hlz:¬(k:Int)< (n:Int):=by omega
         have hT2:=hT.o;rw[ZU (by rw[HL.o];omega)]at hT2;have hconv:=hT2.run_string (P:=Tryz.prog) 213 9 5 Tryz.underlying213 Tryz.underlying5 Tryz.underlying9;clear hT2 hT
         go_wp2
         go_ret2
         exact HR.o _ hfin.o _ _ ⟨rfl,HB4.o⟩
end
theorem Lm{α:Type}{enc:α->List UY}(l:List α)(x:α):flat enc (l++ [x])=flat enc l++enc x:=by rw[bI];simp[flat]
theorem Gg:∀(us:List Upd),(∀u∈us,u.1.size<=65536)-> (bG us).length<=65574*us.length
 | [],_=>by simp[bG]
 | u::us,h=>by
   have h1:=Gg us (fun x hx=>h x (by simp[hx]));have h2:=h u (by simp);have h3:=fH (n:=(toL u.1).length) (by rw[<-aQ];omega);have h4: (toL u.1).length<=65536:=by rw[<-aQ];exact h2
   unfold bG at h1 ⊢;simp only[List.flatMap_cons,af,Z4,gU,ax,iy]at h1 ⊢;omega
def zy(l:List UZ)(w:UW)(e:Ending)(w':UW):Prop:=∃A m c,e= .returned (.tuple #[.slice A m c,.int .i64 0])/\Sl w' w'.heap.size 1 A m (flat aC l)/\m=l.length/\m<=c/\c<=maxLen/\U0 w w'
theorem BM(us:List Upd)(A1:OA)(n1 c1:Nat)(p:List Itm)(A:OA)(n c B:Nat)(w:UW)(h0:Sl w B 5 A1 n1 (flat upC us))(h1:Sl w B 3 A n (flat itC p))(hB:B<=w.heap.size)(hg:GOk (us,aY p))(hn:n<=100000) :
  Calls Tryz.prog 48 #[.slice A1 n1 c1,.slice A n c] w (zy (aP (us,aY p)) w):=by
 have hpl:=h1.len di (by omega);have v:=h0.len gy (by omega);have hfew:=hg.few;have j:=ai (ry n (by omega) w);have hen:=hg.enc;have HE:Hid (∀W,U0 w W->Calls Tryz.prog 108 #[.slice A1 n1 c1] W fun e w'=>e= .returned (.tuple #[.string (ofL (encR us).1),.int .i64 0])/\U0 W w'):=fun W hb=>by
  have:=JE A1 n1 c1 B us W (h0.below hb hB) (by have:=hb.size;omega) (by unfold maxLen;simp only at hfew;omega) (fun u hu=>by have:=(hg.us u hu).1;unfold maxLen;omega) (fun u hu=>(hg.us u hu).2);unfold uo at this;rw[hen]at this ⊢;exact this
 have m: (encR us).1.length<=70000000:=by
  rw[hen];have h1:=Gg us (fun u hu=>(hg.us u hu).1);have h2:=fH (n:=us.length) (by simp only at hfew;omega);simp only[af]at hfew ⊢;omega
 obtain⟨s1,hs1⟩:=NX9 (ofL (ak n))
 obtain⟨s2,hs2⟩:=NX9 (ofL (encR us).1)
 have hz1:s1.size<=6:=by rw[<-hs1,bK];exact fH (by omega)
 have hz2:s2.size<=70000000:=by rw[<-hs2,bK];exact m
 have HS:Hid (Value.string (s1++s2)= .string (ofL (headB us n))):=by
  show _=_;rw[<-hs1,<-hs2];rfl
 have F:¬(9223372036854775807<s1.size+s2.size):=by omega
 rw[hs1]at j;rw[hs2]at HE;obtain⟨i0,hi,d,f,h⟩:=info_parts jP;have Hi:=ai hi;have y:=ai d;have z:=ai f;have C:=ai h;have HP:=ai h1;have a:=ai hpl;clear h0 h1 hg hfew hen m hs1 hs2 hz1 hz2 hpl v hi d f h
 go_enter Tryz.func48,Tryz.ntmps48
 go_wp2_with fail;refine j.o.mono ?_;rintro e w1 ⟨rfl,hb1⟩;have HB1:=ai hb1;have o:=ai (HE.o w1 hb1);clear hb1 HE j;go_wp2_with fail;refine o.o.mono ?_;rintro e w2 ⟨rfl,hb2⟩;have HB2:U6 w w2:=HB1.o.trans (hb2.mono HB1.o.size);clear hb2 o HB1;have z2:=HB2.o.size;go_wp2_with fail
 go_loopw[9,35] (fun q i wr=>∃(k:Nat)(A':OA)(c':Nat),k<=n/\i= .int .i64 k/\q= .slice A' (k+1) c'/\k+1<=c'/\c'<=maxLen/\Hid (wr.ownsRow w.heap.size 9 1 (.slice A' (k+1) c') (k+1) (flat aC (headB us n::aY (p.take k))))/\U6 w wr) (fun _ i _=>n - (intOf i).toNat)
 case atStart =>
  refine⟨0,_,1,ZX _,rfl,rfl,by omega,by unfold maxLen;omega,?_,HB2.o.alloc z2 _⟩;show World.ownsRow _ _ _ _ _ _ _;have:=World.ownsRow_lit (base:=w.heap.size) (e:=9) (size:=1) w2 #[.string (s1++s2)] 1 z2 (by unfold maxLen;omega) rfl;rw[HS.o]at this ⊢;exact this
 case round =>
  obtain⟨k,A',c',hk,rfl,rfl,hc1,hc2,hO,hBel⟩:=hrel;have HO:=ai hO.o;have b:=ai hBel.o;have zr:w.heap.size<=wr.heap.size:=b.o.size;clear hO hBel;by_cases hlt:k<n
  . obtain⟨bb,off,x,rfl,hbB,hx,y0,y1,y2⟩:=(HP.o.below b.o hB).it hlt
    have hlz: (k:Int)< (n:Int):=by omega
    have HX:Hid (flat aC (headB us n::aY (p.take (k+1)))=flat aC (headB us n::aY (p.take k))++ [.string x.2]):=by
     show _=_;rw[bJ hx,show aY (p.take k++ [x])=aY (p.take k)++ [toL x.2] by simp[aY],<-List.cons_append,Lm];simp[aC,ja]
    clear hx;obtain⟨⟨x1,x2⟩,xs⟩:=x;simp only at y0 y1 y2 HX;have D:Hid (Bk ((wr.alloc (.cells #[.int .u64 x1,.int .u64 x2,.string xs] 118)).alloc (.cells #[.string xs] 9)) (wr.heap.size+1) 9 #[.string xs]):=by
     have e:=Bk.new (wr.alloc (.cells #[.int .u64 x1,.int .u64 x2,.string xs] 118)) 9 #[.string xs]
     rwa[Z9]at e
    have hbx:U0 wr ((wr.alloc (.cells #[.int .u64 x1,.int .u64 x2,.string xs] 118)).alloc (.cells #[.string xs] 9)):=((ah _ wr).alloc aj _).alloc (by simp) _;have r:=ai (gJ HO.o hbx);have l:Hid (U0 w ((wr.alloc (.cells #[.int .u64 x1,.int .u64 x2,.string xs] 118)).alloc (.cells #[.string xs] 9))):=b.o.trans (hbx.mono zr);clear hbx
    go_wp2_with (at_builtin;refine sW (.tmp 39) (.tmp 42) 22 rfl ?_)
    refine aH ?_;refine jK (base:=w.heap.size) (size:=1) _ rfl (.tmp 39) (.tmp 42) 22 rfl 9 i0 _ 16 Tryz.underlying22 Hi.o y.o z.o C.o rfl (by decide) (.slice A' (k+1) c') (k+1) _ rfl r.o _ _ 1 1 [.string xs] rfl (Sl.of_bk (n:=1) (size:=1) D.o rfl) (by simp[Value.oneCell']) (by unfold maxLen;omega) (by omega) l.o.size ?_;intro A4 c4 w4 ho hg s t;rw[<-HX.o]at ho;have E:=ai ho;have HB4:U6 w w4:=l.o.grown hg l.o.size (fun g e=>(bT r.o e).1);clear ho hg y0 y1 y2;go_wp2_with fail;go_roundw
    case rel=>exact⟨k+1,A4,c4,hlt,by go_num,rfl,s,t,E.o,HB4.o⟩
    case measure=>simp[intOf];omega
  . have hlz:¬(k:Int)< (n:Int):=by omega
    have HT:Hid (headB us n::aY (p.take k)=aP (us,aY p)):=by
     show _=_;rw[ZU (by have:=a.o;omega)];have: (aY p).length=n:=by unfold aY;rw[List.length_map];exact a.o
     unfold aP;simp only[this]
    rw[HT.o]at HO;have HL:Hid (k+1= (aP (us,aY p)).length):=by show _=_;rw[<-HT.o,Z4];unfold aY;rw[List.length_map,List.length_take,a.o];omega
    go_wp2
    go_ret2
    exact⟨A',k+1,c',rfl,Sl.of_own HO.o,HL.o,hc1,hc2,b.o⟩
section
open Go.Maps
def nM(r:List Rf×List Upd×Int)(w:UW)(e:Ending)(w':UW):Prop :=
 ∃A m c A' m' c',e= .returned (.tuple #[.agg #[.slice A m c,.slice A' m' c'],.int .i64 r.2.2])/\Sl w' w'.heap.size 3 A m (flat rfC r.1)/\m<=c/\c<=maxLen ∧
  Sl w' w'.heap.size 5 A' m' (flat upC r.2.1)/\m'<=c'/\c'<=maxLen/\U0 w w'
theorem ru{fn:Func}{c i:Tmp}(h:fn.results= #[.cell c 33,.tmp i]){w:UW}{a:Array UY}{b:Nat}{x y v:UY}(ha:a[c]?.getD undef= .pointer (some ⟨b,0,none⟩))(hk:Bk w b 33 #[x,y])(hv:a[i]?.getD undef=v) :
  (results fn a).run Tryz.prog w= .ok (.tuple #[.agg #[x,y],v]) w:=by
 have h0:=hk.cell 0;have h1:=hk.cell 1;simp at h0 h1;simp[results,h,ha,hv,go_sem,h0,h1]
theorem vF{x:Int}{w w':UW}{e:Ending}(he:e= .returned (.tuple #[.agg #[.slice none 0 0,.slice none 0 0],.int .i64 x]))(hb:U0 w w'):nM ([],[],x) w e w' :=
 ⟨none,0,0,none,0,0,he,Sl.nil _ _ _ _,Nat.le_refl _,ZX _,Sl.nil _ _ _ _,Nat.le_refl _,ZX _,hb⟩
theorem NR(l:List Rf)(u:Upd): (stepG l u).2=bD l u:=by
 unfold stepG;by_cases h:bD l u≠0
 . rw[if_pos h]
 . rw[if_neg h];exact(by simpa using h:bD l u=0).symm
theorem Ol{l:List Rf}{u:Upd}(h:bD l u=0): (stepG l u).1=dh l u.1 u.2.2:=by
 unfold stepG;rw[if_neg (by simpa using h)]
theorem Bo(A0 A1 A2:OA)(n0 c0 n1 c1 n2 c2 B:Nat)(rs:List Rf)(log us:List Upd)(w:UW)(h0:Sl w B 3 A0 n0 (flat rfC rs))(h1:Sl w B 5 A1 n1 (flat upC log))(h2:Sl w B 5 A2 n2 (flat upC us))(hB:B<=w.heap.size)
  (hn0:n0<=maxLen) (hn1:n1<=maxLen) (hn2:n2<=10000) (hs:∀u∈us,u.1.size<=maxLen) (hs2:∀u∈log,u.1.size<=maxLen) :
  Calls Tryz.prog 39 #[.agg #[.slice A0 n0 c0,.slice A1 n1 c1],.slice A2 n2 c2] w (nM (dE rs log us) w):=by
 have j:=ai (h1.len gy (by omega));have HL2:=ai (h2.len gy (by omega));have H0:=ai h0;have H1:=ai h1;have H2:=ai h2;clear h0 h1 h2;have HS:=ai hs;have HS2:=ai hs2;clear hs hs2;have C:=ai hn0;have D:=ai hn1;clear hn0 hn1;obtain⟨i0,hi,hz0,hz1',hz2'⟩:=info_parts uq;have Hi:=ai hi;have E:=ai hz0;have F:=ai hz1';have G:=ai hz2';clear hi hz0 hz1' hz2';have HU:Hid (dE rs log us=if aW rs log≠0 then([],[],aW rs log) else dX rs log us):=rfl;have HR:Hid (∀r,dE rs log us=r->∀e w',nM r w e w'->nM (dE rs log us) w e w'):=fun r h e w' hh=>by rw[h];exact hh
 go_enter Tryz.func39,Tryz.ntmps39
 go_wp2_with fail;have hbel:U0 w ((w.alloc (.cells #[.slice A0 n0 c0,.slice A1 n1 c1] 33)).alloc (.cells #[.slice none 0 0,.slice none 0 0] 33)) :=
  ((ah _ w).alloc aj _).alloc (by simp) _
 refine(vT A0 A1 n0 c0 n1 c1 B rs log _ (H0.o.below hbel hB) (H1.o.below hbel hB) (by simp;omega) C.o D.o HS2.o).mono ?_;rintro e w1 ⟨mb,rfl,hb1,hm⟩;have k0:Bk w1 w.heap.size 33 #[.slice A0 n0 c0,.slice A1 n1 c1]:=((Bk.new w 33 _).alloc _).below hb1 (by simp;omega);have k1:Bk w1 (w.heap.size+1) 33 #[.slice none 0 0,.slice none 0 0]:=by
  have:=Bk.new (w.alloc (.cells #[.slice A0 n0 c0,.slice A1 n1 c1] 33)) 33 #[.slice none 0 0,.slice none 0 0];rw[Z9]at this;exact this.below hb1 (by simp)
 have HB1:U6 w w1:=hbel.trans (hb1.mono (by simp;omega));have hz1:w.heap.size+2<=w1.heap.size:=by have:=hb1.size;simp at this;omega
 have HM:=ai hm;clear hb1 hbel hm;have K1:=ai k1;obtain⟨x0,x1,_,_⟩:=k0.agg;obtain⟨r0,r1,f0,f1⟩:=k1.agg;clear k0 k1;by_cases hc:aW rs log=0
 . have hlen:=jl hc
   have hst:Hid (dE rs log us=dX rs log us):=by
    show _=_;rw[HU.o,hc,if_neg (by simp)]
   have hn1:n1<=1000:=by rw[<-j.o];exact hlen
   have H:=ai (Fv hc);obtain⟨b,rfl,f,hown⟩:=HM.o hc;have I:w.heap.size+2<=b:=by simp at f;omega
   clear f HM;have HO:=ai hown;have hbl:=hown.lt;clear hown;have J:=ai hc;rw[J.o];clear hc hlen;go_wp2_with fail;refine(Ko A1 n1 c1 B log _ (H1.o.below HB1.o hB) (by omega) (by omega)).mono ?_;rintro e w2 ⟨A3,c3,rfl,n,hb2,hc3,o⟩;have K:=ai n;have hz2:=hb2.size;have K2:=ai (K1.o.below hb2 (by omega));have L:=ai (HO.o.kept (jA hb2 none) (by simp));have HB2:=ai (HB1.o.trans (hb2.mono (by omega)));have M:=ai o;clear n hb2 o x0 x1 r0 r1 f0 f1
   go_wp2
   go_loopw[8,26] (fun v i wr=>∃(k:Nat)(A:OA)(m c:Nat)(l:List Rf)(a:List Upd),k<=n2/\i= .int .i64 k/\v= .slice A m c/\Hid (Bk wr (w.heap.size+1) 33 #[.slice none 0 0,.slice none 0 0]) ∧
     Hid (Rm wr Tryz.prog 9 b (1000+k) (gL l))/\Hid (fE l)/\Hid (Apd wr w1.heap.size 85 5 A m c (flat upC a))/\m<=c/\Hid (c<=maxLen)/\m<=1000/\Hid (a.length=m)/\U6 w wr/\w1.heap.size<=wr.heap.size/\Hid (dE rs log us=dX l a (us.drop k))) (fun _ i _=>n2 - (intOf i).toNat)
   case atStart=>exact⟨0,A3,n1,c3,rs,log,ZX _,rfl,rfl,K2.o,L.o,H.o,K.o,hc3,M.o,hn1,j.o,HB2.o,hz2,hst.o⟩
   case round =>
    obtain⟨k,A,m,c,l,a,hk,rfl,rfl,B1,O,SR,Y,hmc,hcm,hm,g,hBel,hwz,hrun⟩:=hrel;by_cases hlt:k<n2
    . obtain⟨b3,off,u,rfl,hbB,hu,y0,y1,y2,y3,y4⟩:=(H2.o.below hBel.o hB).upd hlt
      have N:=ai hu;have P:=ai (HS.o u (Z7 hu));clear hu;have hst2:Hid (dE rs log us=if(gQ l a u).2.2≠0 then([],[],(gQ l a u).2.2) else dX (gQ l a u).1 (gQ l a u).2.1 (us.drop (k+1))):=by
       show _=_;have hl:=List.getElem?_eq_some_iff.1 N.o;rw[hrun.o,List.drop_eq_getElem_cons hl.1,hl.2,qY]
      obtain⟨s,⟨o0,o1⟩,⟨q0,q1⟩⟩:=u;have hlz: (k:Int)< (n2:Int):=by omega
      go_wp2_with fail;refine(DC b (1000+k) l (s,(o0,o1),(q0,q1)) _ (O.o.alloc _) SR.o (by unfold maxLen;omega) P.o).mono ?_;rintro e w3 ⟨rfl,hown3,hg3⟩;have hzz:wr.heap.size+1<=w3.heap.size:=by have:=hg3.size;simp at this;omega
      have d3:Bk w3 wr.heap.size 85 #[.string s,.int .u64 o0,.int .u64 o1,.int .u64 q0,.int .u64 q1]:=(Bk.new wr 85 _).grown hg3 (by intro e;injection e;omega);have u0:=d3.cell 0;have u1:=d3.cell 1;have u2:=d3.cell 2;have u3:=d3.cell 3;have u4:=d3.cell 4;simp at u0 u1 u2 u3 u4;have e3:=(B1.o.alloc (.cells #[.string s,.int .u64 o0,.int .u64 o1,.int .u64 q0,.int .u64 q1] 85)).grown hg3 (by intro e;injection e;omega);obtain⟨r0,r1,f0,f1⟩:=e3.agg;have E3:=ai e3;have p:=ai hown3;have Q:Hid (Apd w3 w1.heap.size 85 5 A m c (flat upC a)):=(Y.o.below ((ah _ _).alloc aj _)).grown hg3 (fun k e=>by cases e;exact hbl);have HB3:U6 w w3:=(hBel.o.alloc (by omega) _).grown hg3 (by simp;omega) (fun k e=>by cases e;omega);have q:Hid (fE (stepG l (s,(o0,o1),(q0,q1))).1):=CQ SR.o;clear hown3 hg3 y0 y1 y2 y3 y4 d3 e3;have d:=NR l (s,(o0,o1),(q0,q1));by_cases hx:bD l (s,(o0,o1),(q0,q1))=0
      . have t:=Ol hx
        rw[d,hx];rw[t]at p q;have HX:=ai hx;clear hx d t;by_cases hlim:1000<=m
        . have hfin:Hid (dE rs log us= ([],[],4)):=by
            show _=_;have e1:gQ l a (s,(o0,o1),(q0,q1))= ([],[],4):=by
             unfold gQ;rw[HX.o,if_neg (by simp),if_pos (by rw[g.o];exact hlim)]
            rw[hst2.o,e1,if_pos (by simp)]
          go_wp2_with fail;exact ZW (ru Tryz.results39 rfl (E3.o.set2 _ _) rfl) rfl (HR.o _ hfin.o _ _ (vF rfl (eP HB3.o (by omega) _ _)))
        . have hnx:Hid (dE rs log us=dX (dh l s (q0,q1)) (a++ [(s,(o0,o1),(q0,q1))]) (us.drop (k+1))):=by
            show _=_;have e1:gQ l a (s,(o0,o1),(q0,q1))= (dh l s (q0,q1),a++ [(s,(o0,o1),(q0,q1))],0):=by
             unfold gQ;rw[HX.o,if_neg (by simp),if_neg (by rw[g.o];exact hlim)]
            rw[hst2.o,e1,if_neg (by simp)]
          have x:Hid ((a++ [(s,(o0,o1),(q0,q1))]).length=m+1):=by show _=_;rw[af,g.o];rfl
          go_wp2_with (at_builtin;refine aN ?_)
          refine aH ?_;refine dZ (base:=w1.heap.size) _ rfl (.tmp 41) (.tmp 43) 31 rfl 85 i0 _ 48 Tryz.underlying31 Hi.o E.o F.o G.o rfl (by decide) A m c (flat upC a) rfl (Q.o.below ((ah _ _).alloc aj _)) (w3.heap.size+1) _ 1 _ (flat upC [(s,(o0,o1),(q0,q1))]) rfl (Sl.new w3 85 (flat upC [(s,(o0,o1),(q0,q1))]) 1 rfl) (qW _) (by unfold maxLen;omega) (by omega) (by simp;omega) ?_;intro A5 c5 w5 a5 hb5 hc5 y z;have Z:w3.heap.size+1<=w5.heap.size:=by have:=hb5.size;simp at this;omega
          have E5:=ai ((E3.o.alloc (.cells #[.string s,.int .u64 o0,.int .u64 o1,.int .u64 q0,.int .u64 q1] 85)).below hb5 (by omega));have R:=ai ((p.o.alloc (.cells #[.string s,.int .u64 o0,.int .u64 o1,.int .u64 q0,.int .u64 q1] 85)).below hb5 hbl);have S:=ai ((HB3.o.alloc (by omega) (.cells #[.string s,.int .u64 o0,.int .u64 o1,.int .u64 q0,.int .u64 q1] 85)).trans (hb5.mono (by omega)));rw[<-bI]at a5;have T:=ai a5;have U:=ai y;clear a5 hb5 y z u0 u1 u2 u3 u4 r0 r1 f0 f1
          go_wp2
          go_roundw
          case rel=>exact⟨k+1,A5,m+1,c5,_,_,by omega,by go_num,rfl,E5.o,R.o,q.o,T.o,hc5,U.o,by omega,x.o,S.o,by omega,hnx.o⟩
          case measure=>simp[intOf];omega
      . have hne: (bD l (s,(o0,o1),(q0,q1)) != 0)=true:=by rw[bne_iff_ne];exact hx
        have hfin:Hid (dE rs log us= ([],[],bD l (s,(o0,o1),(q0,q1)))):=by
         show _=_;have e1:gQ l a (s,(o0,o1),(q0,q1))= ([],[],bD l (s,(o0,o1),(q0,q1))):=if_pos hx;rw[hst2.o,e1,if_pos hx]
        rw[d];clear hx d;go_wp2_with fail;exact ZW (ru Tryz.results39 rfl (E3.o.set2 _ _) rfl) rfl (HR.o _ hfin.o _ _ (vF rfl (eP HB3.o (by omega) _ _)))
    . have hfin:Hid (dE rs log us= (l,a,0)):=by
        show _=_;rw[hrun.o,List.drop_of_length_le (by rw[HL2.o];omega)];rfl
      go_wp2_with fail;refine(CE b (1000+k) l _ O.o SR.o (by omega)).mono ?_;rintro e w3 ⟨A6,m6,c6,rfl,s6,V,hc6,hb6,_⟩;have ag:=hb6.size;have e6:=B1.o.below hb6 (by omega);obtain⟨r0,r1,f0,f1⟩:=e6.agg;have E6:=ai e6;have S6:=ai s6;have W:=ai hc6;have X:=ai (hBel.o.trans (hb6.mono (by omega)));have S7:=ai (Y.o.below hb6).sl;clear e6 s6 hb6 hc6;go_wp2_with fail;exact ZW (ru Tryz.results39 rfl (E6.o.set2 _ _) rfl) rfl (HR.o _ hfin.o _ _ ⟨A6,m6,c6,A,m,c,rfl,(S6.o.box2 (by omega) (Ky _) E6.o _ _).more (Nat.le_of_eq (by simp)),V,W.o,(S7.o.box2 (by omega) (J6 _) E6.o _ _).more (Nat.le_of_eq (by simp)),hmc,hcm.o,eP X.o (by omega) _ _⟩)
 . have hne: (aW rs log != 0)=true:=by rw[bne_iff_ne];exact hc
   have hst:Hid (dE rs log us= ([],[],aW rs log)):=by
    show _=_;rw[HU.o,if_pos hc]
   clear hc
   go_wp2
   exact ZW (ru Tryz.results39 rfl (K1.o.set2 _ _) rfl) rfl (HR.o _ hst.o _ _ (vF rfl (eP HB1.o (by omega) _ _)))
end
def eY(l:List UZ):Bool:=decide (l.length<=1000) && l.all fun t=>decide (t.length<=65536)
theorem fitB_iff{l:List UZ}:eY l=true↔fQ l:=by simp[eY,fQ]
def fV(l:List UZ):UZ×Int:=if eY l=true then(bV l,0) else([],4)
def uy(r:UZ×Int)(w:UW)(e:Ending)(w':UW):Prop:=e= .returned (.tuple #[.string (ofL r.1),.int .i64 r.2])/\U0 w w'
theorem JL(A:OA)(n c B:Nat)(l:List UZ)(w:UW)(h:Sl w B 1 A n (flat aC l))(hB:B<=w.heap.size)(hn:n<=maxLen) :
  Calls Tryz.prog 180 #[.slice A n c] w (uy (fV l) w):=by
 unfold maxLen at hn;have HL:=ai (h.len dW (by omega));have H:=ai h;have HR:Hid (∀r,fV l=r->∀e w',uy r w e w'->uy (fV l) w e w'):=fun r h e w' hh=>by rw[h];exact hh
 clear h;by_cases hlim:1000<n
 . have a: (1000:Int)< (n:Int):=by omega
   have hfin:Hid (fV l= ([],4)):=by show _=_;rw[fV,if_neg];rw[fitB_iff];intro hf;have:=hf.1;have:=HL.o;omega
   go_enter Tryz.func180,Tryz.ntmps180
   go_wp2
   go_ret2
   exact HR.o _ hfin.o _ _ ⟨rfl,ah _ _⟩
 . have a:¬(1000:Int)< (n:Int):=by omega
   go_enter Tryz.func180,Tryz.ntmps180
   go_wp2
   go_loop[14] (fun i=>∃k:Nat,k<=n/\i= .int .i64 k/\Hid (∀t∈l.take k,t.length<=65536)) (fun i=>n - (intOf i).toNat)
   case atStart=>exact⟨0,ZX _,rfl,fun t ht=>by simp at ht⟩
   case round =>
    obtain⟨k,hk,rfl,hT⟩:=hrel;by_cases hlt:k<n
    . obtain⟨b,off,x,rfl,hb,hx,hc⟩:=H.o.at_ dW (by omega) hlt
      have x0:=hc 0 _ rfl;simp only[Nat.mul_one,Nat.add_zero]at x0;have HX:=ai hx;have hs: ((ofL x).size:Int)= (x.length:Int):=by rw[bK]
      clear hc hx;have hlz: (k:Int)< (n:Int):=by omega
      by_cases hxl:65536<x.length
      . have hxi: (65536:Int)< ((ofL x).size:Int):=by omega
        have hfin:Hid (fV l= ([],4)):=by show _=_;rw[fV,if_neg];rw[fitB_iff];intro hf;have:=hf.2 x (Z7 HX.o);omega
        clear hs
        go_wp2
        go_ret2
        exact HR.o _ hfin.o _ _ ⟨rfl,ah _ _⟩
      . have hxi:¬(65536:Int)< ((ofL x).size:Int):=by omega
        clear hs
        go_wp2
        go_round
        case rel =>
         refine⟨k+1,by omega,by go_num,fun t ht=>?_⟩;rw[bJ HX.o]at ht;rcases List.mem_append.1 ht with ht | ht
         . exact hT.o t ht
         . rw[List.mem_singleton.1 ht];omega
        case measure=>simp[intOf];omega
    . have hlz:¬(k:Int)< (n:Int):=by omega
      have HF:Hid (fQ l):=⟨by have:=HL.o;omega,fun t ht=>hT.o t (by rwa[ZU (by have:=HL.o;omega)])⟩
      have hfin:Hid (fV l= (bV l,0)):=by show _=_;rw[fV,if_pos (fitB_iff.2 HF.o)]
      clear hT;go_wp2_with fail;have hb:=Lib.fresh_isBuilder 215 5 w;refine(qR w.heap.size w.heap.size [] n _ hb (by simp) (by omega) (by simp)).mono ?_;rintro e w1 ⟨rfl,h1,hb1⟩;rw[List.nil_append]at h1;have H1:=ai h1;have HB1:U6 w w1:=((ah _ w).alloc aj _).trans hb1;clear hb hb1 h1;go_wp2_with fail
      go_loopw[27] (fun i wr=>∃k:Nat,k<=n/\i= .int .i64 k/\Hid (Lib.IsBuilder 215 5 w.heap.size w.heap.size (Lib.byteCells (ak n++ (l.take k).flatMap ax)) wr)/\U6 w wr) (fun i _=>n - (intOf i).toNat)
      case atStart=>exact⟨0,ZX _,rfl,by show Lib.IsBuilder _ _ _ _ _ _;simp;exact H1.o,HB1.o⟩
      case round =>
       obtain⟨k,hk,rfl,hBd,hBel⟩:=hrel;by_cases hlt:k<n
       . obtain⟨b,off,x,rfl,hb,hx,hc⟩:=(H.o.below hBel.o hB).at_ dW (by omega) hlt
         have x0:=hc 0 _ rfl;simp only[Nat.mul_one,Nat.add_zero]at x0;have hxl:x.length<=65536:=HF.o.2 x (Z7 hx);have HT:Hid (ak n++ (l.take (k+1)).flatMap ax= (ak n++ (l.take k).flatMap ax)++ (ak x.length++x)):=by
          show _=_;rw[bJ hx];simp[ax]
         have hbl: (ak n++ (l.take k).flatMap ax).length<=70000000:=by
          have h1:=fH (n:=n) (by omega);have h2:=uT (l.take k) (fun t ht=>HF.o.2 t (List.mem_of_mem_take ht));rw[List.length_take]at h2;simp only[af];omega
         generalize ak n++ (l.take k).flatMap ax=bs at *;have hlz: (k:Int)< (n:Int):=by omega
         have d:=ai (fun w' h hw=>qR w.heap.size w.heap.size bs (ofL x).size w' h hw (by rw[bK];omega) (by omega));clear hc hx;go_wp2_with fail;refine(d.o _ hBd.o hBel.o.size).mono ?_;rintro e w2 ⟨rfl,h2,hb2⟩;have H2:=ai h2;have HB2:=ai (hBel.o.trans hb2);clear hb2 h2;go_wp2_with fail;refine(zZ w.heap.size w.heap.size (Lib.byteCells (bs++ak (ofL x).size)) (ofL x) _ H2.o (by rw[uP,bK,af];have:=fH (n:=x.length) (by omega);omega) HB2.o.size).mono ?_;rintro e w3 ⟨rfl,h3,hb3,_⟩;have H3:Hid (Lib.IsBuilder 215 5 w.heap.size w.heap.size (Lib.byteCells (ak n++ (l.take (k+1)).flatMap ax)) w3):=by
          refine .inr ?_;rw[HT.o];have e1:Lib.byteCells (bs++ak (ofL x).size)++Lib.strCells (ofL x)=Lib.byteCells (bs++ (ak x.length++x)):=by
           rw[BA,dw,bK];simp[Lib.byteCells]
          rw[<-e1];exact h3
         have HB3:=ai (HB2.o.trans hb3);clear hb3 h3;go_wp2_with fail;go_roundw
         case rel=>exact⟨k+1,by omega,by go_num,H3.o,HB3.o⟩
         case measure=>simp[intOf];omega
       . have hlz:¬(k:Int)< (n:Int):=by omega
         have H3:Hid (Lib.IsBuilder 215 5 w.heap.size w.heap.size (Lib.byteCells (bV l)) wr):=by
          have h:=hBd.o;rw[ZU (by have:=HL.o;omega)]at h;show Lib.IsBuilder _ _ _ _ _ _;unfold bV;rw[HL.o];exact h
         clear hBd;go_wp2_with fail;refine(Tryz.Builder_String_any w.heap.size w.heap.size _ _ H3.o hBel.o.size).mono ?_;rintro e w4 ⟨rfl,hb4⟩;have HB4:=ai (hBel.o.trans hb4);clear hb4;go_wp2_with fail;go_ret2
         exact HR.o _ hfin.o _ _ ⟨rfl,HB4.o⟩
