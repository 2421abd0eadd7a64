/-
  Lemmas of the card.
-/
import Derived.Test.YtknefelegjlgnaaGreatDoorCCCo28
set_option maxRecDepth 100000
set_option maxHeartbeats 16000000
namespace Go.Proofs.YtknefelegjlgnaaGreatDoor
open Go.RowKit
def CoV(p:List Itm)(v:Tc)(W:SX):Prop:=∃A c,v= .slice A p.length c/\Sl W W.heap.size 3 A p.length (flat itC p)
theorem CoV.on{p:List Itm}{v:Tc}{W W':SX}(h:CoV p v W)(hb:Tf W W'):CoV p v W':=by
 obtain⟨A,c,rfl,h⟩:=h;exact⟨A,c,rfl,(h.below hb aj).more hb.size⟩
theorem lawCo_any(n z:Int)(l:List AcX)(A:OA)(m c:Nat)(w:SX)(h:AcsM w w.heap.size A m l)(hb:∀a∈l,AcB a.1)(hm:m<=maxLen) :
  Calls Tryz.prog 4 #[jW n z A m c] w (qG w):=by
 obtain⟨W,hW⟩:=NX9 (w.alloc (.cells #[.int .i64 n,.int .i64 z,.slice A m c] 42))
 have hb0:Tf w W:=by rw[<-hW];exact(ah _ w).alloc aj _
 have HB0:=ai hb0;have HR:=ai (IU Gs n z l A m c w.heap.size W (h.below hb0 aj) hb hb0.size hm);have V:=ai (fun W=>Lh Gs W);have HW:=ai hW;clear hW hb0 h hb hm;unfold zq jW at HR;unfold qG jW;unfold qG at V
 go_enter Tryz.func4,Tryz.ntmps4
 go_wp2_with fail;rw[HW.o];refine HR.o.mono ?_;rintro e w1 ⟨ok,r,s,rfl,hok,hm1,hb1⟩;have HB1:Ti w w1:=HB0.o.trans (hb1.mono HB0.o.size);have cO:=ai hok;obtain⟨W2,hW2⟩:=NX9 (w1.alloc (.cells (rpC r s) 35))
 have hb2:Tf w1 W2:=by rw[<-hW2];exact(ah _ _).alloc aj _
 have HB2:Ti w W2:=HB1.o.trans (hb2.mono HB1.o.size);have L:Hid (Bk W2 w1.heap.size 35 (rpC r s)):=by rw[<-hW2];exact Bk.new _ _ _
 have X:Hid (RpM W2 W2.heap.size r s):=(hm1.below hb2 aj).more hb2.size;have zk:w1.heap.size<W2.heap.size:=by rw[<-hW2];simp
 have HW2:=ai hW2;clear hok hm1 hb1 hb2 hW2 HR HB0 HW HB1;simp only[rpV,rpC]at HW2 L ⊢;obtain⟨⟨k0,k1,k2,k3⟩,k4,k5,k6⟩:=L.o.seven;have Y:Hid (∀W,Tf w W->Calls Tryz.prog 10 #[] W fun e w'=>e= .returned (.bool true)/\Tf w w'):=fun W hW=>(V.o W).mono fun e w' ⟨h1,h2⟩=>⟨h1,hW.trans (h2.mono hW.size)⟩
 cases ok with
 | false =>
   go_upto_region 2 with fail
   rw[HW2.o];clear HW2;go_wp2_with fail;refine(Y.o _ HB2.o).mono ?_;rintro e w3 ⟨rfl,hb3⟩;have HB3:=ai hb3;clear hb3;go_wp2_with fail;go_ret
   exact⟨rfl,HB3.o⟩
 | true =>
   have dn:=ai (cO.o rfl);by_cases hl:r.d.lf=0
   . have hlb: (r.d.lf == 0)=true:=by rw[hl];rfl
     clear hl
     go_upto_region 2 with fail
     rw[HW2.o];clear HW2;go_wp2_with fail;refine(Y.o _ HB2.o).mono ?_;rintro e w3 ⟨rfl,hb3⟩;have HB3:=ai hb3;clear hb3;go_wp2_with fail;go_ret
     exact⟨rfl,HB3.o⟩
   have hlb: (r.d.lf == 0)=false:=by rw[beq_eq_false_iff_ne];exact hl
   obtain⟨gs,a,u,hL⟩:=dn.o.lv hl;have HL:=ai hL;have HC:=ai (qZ r s gs a u W2.heap.size W2 hL.d.ok hL.d.pn hL.j hL.m hL.n X.o aj);simp only[rpV,rpC]at HC;clear hl hL cO
   go_upto_region 2 with fail
   rw[HW2.o];clear HW2;go_wp2_with fail;refine HC.o.mono ?_;intro e w4 hst;obtain⟨q,n',y,⟨t,rfl,hm4,hb4⟩,hcase⟩:=CoE.law dn.o HL.o hst;have dN:=ai hcase;obtain⟨W5,I⟩:=NX9 (w4.alloc (.cells (rpC q t) 35))
   have hb5:Tf w4 W5:=by rw[<-I];exact(ah _ _).alloc aj _
   have E:Tf W2 W5:=hb4.trans (hb5.mono hb4.size);have M:Ti w W5:=HB2.o.trans (E.mono HB2.o.size);have ed:=ai (L.o.below E zk);have J:Hid (Bk W5 w4.heap.size 35 (rpC q t)):=by rw[<-I];exact Bk.new _ _ _
   have fA:Hid (RpM W5 W5.heap.size r s):=(X.o.below E aj).more E.size;have N:Hid (RpM W5 W5.heap.size q t):=(hm4.below hb5 aj).more hb5.size;have z5:w1.heap.size<w4.heap.size/\W5.heap.size=w4.heap.size+1:=by have:=hb4.size;rw[<-I];simp;omega
   have H:=ai I;clear hst hcase hm4 hb4 I hb5 E HC HB2 L X zk k0 k1 k2 k3 k4 k5 k6;simp only[rpV,rpC]at H J ⊢;rcases dN.o with ⟨hy,hn0⟩ | ⟨hy,hn0,hq⟩
   . subst hn0
     have hyb: (y != 0)=true:=by rw[bne_iff_ne];exact hy
     clear hy
     go_upto_region 5 with fail
     rw[H.o];clear H;go_wp2_with fail;refine(Y.o _ M.o).mono ?_;rintro e w3 ⟨rfl,hb3⟩;have HB3:=ai hb3;clear hb3;go_wp2_with fail;go_ret
     exact⟨rfl,HB3.o⟩
   subst hy;have HQ:=ai hq;obtain⟨gs',a',u',hL'⟩:=hq.lv;have D:=ai hL';have HN:=ai hn0;have hpl:r.p.length<=49000:=HL.o.n;have oU:q.p.length<=49000:=hL'.n;have hrl:q.rs.length<=1000:=qh hL'.m.rf;have R:Hid (∀x∈q.rs,WfD x.2):=fun x hx=>by
    obtain⟨⟨o,ho,_⟩,_⟩:=compl_zero.1 (D.o.m.co x hx);rw[ni D.o.m.pl ho];exact fG _
   obtain⟨i0,hi,S,T,U⟩:=info_parts jS;have Hi:=ai hi;have qc:=ai S;have qx:=ai T;have qA:=ai U;obtain⟨rn,hrn⟩:=NX9 q.rs.length
   have O:=ai hrn;have HRW:Hid (Sl W5 W5.heap.size 3 t.rA rn (flat rfC q.rs)):=by have:=N.o.rf;rw[hrn]at this;exact this
   rw[hrn]at hrl H ⊢;obtain⟨⟨k0,k1,k2,k3⟩,k4,k5,k6⟩:=J.o.seven;rw[hrn]at k5;clear hq hL' hn0 hi S T U dN hrn
   go_upto_region 5 with fail
   rw[H.o];clear H;go_wp2_with fail
   go_loopw[8,47] (fun v i wr=>∃(k:Nat)(A':OA)(c':Nat),k<=rn/\i= .int .i64 k/\v= .slice A' k c'/\k<=c'/\c'<=maxLen/\Hid (wr.ownsRow W5.heap.size 50 2 (.slice A' k c') k (flat dgC ((q.rs.map (·.2)).take k)))/\Ti W5 wr) (fun _ i _=>rn - (intOf i).toNat)
   case atStart=>exact⟨0,none,0,ZX _,rfl,rfl,Nat.le_refl _,ZX _,World.ownsRow_nil _ _ _ _,ah _ _⟩
   case round =>
    obtain⟨k,A',c',hk,rfl,rfl,hc1,hc2,hO,hBr⟩:=hrel;have HO:=ai hO.o;have G:=ai hBr.o;have zr:=G.o.size;clear hO hBr k0 k1 k2 k3 k4 k5 k6;by_cases hlt:k<rn
    . obtain⟨bb,off,y,hA,hbb,hy,hc⟩:=(HRW.o.below G.o aj).at_ jg (by omega) hlt
      have x0:=hc 0 _ rfl;have x1:=hc 1 _ rfl;have x2:=hc 2 _ rfl;have hlz: (k:Int)< (rn:Int):=by omega
      have fO:Hid (flat dgC ((q.rs.map (·.2)).take (k+1))=flat dgC ((q.rs.map (·.2)).take k)++flat dgC [y.2]):=by
       show _=_;rw[aW (show(q.rs.map (·.2))[k]? =some y.2 by rw[List.getElem?_map,hy];rfl),bD]
      obtain⟨yn,y1,y2⟩:=y;simp only[Nat.add_zero]at x0 x1 x2 fO;obtain⟨W3,hW3⟩:=NX9 ((wr.alloc (.cells #[.string yn,.int .u64 y1,.int .u64 y2] 52)).alloc (.cells #[.int .u64 y1,.int .u64 y2] 50))
      have hb3:Tf wr W3:=by rw[<-hW3];exact((ah _ wr).alloc aj _).alloc (by simp) _
      have uw:Hid (Bk W3 (wr.heap.size+1) 50 #[.int .u64 y1,.int .u64 y2]):=by rw[<-hW3];exact(Bk.new _ _ _).at_ (by simp)
      have fU:=ai (gZ HO.o hb3);have HB3:Ti W5 W3:=G.o.trans (hb3.mono zr);have HW3:=ai hW3;rw[hA];clear hc hy hb3 hW3
      go_wp2_with (at_builtin;refine qf (.tmp 51) (.tmp 54) 47 rfl ?_)
      rw[HW3.o];refine aI ?_;refine jq (base:=W5.heap.size) (size:=2) _ rfl (.tmp 51) (.tmp 54) 47 rfl 50 i0 _ 16 Tryz.underlying47 Hi.o qc.o qx.o qA.o rfl (by decide) (.slice A' k c') k _ rfl fU.o _ _ 1 1 (flat dgC [(y1,y2)]) rfl (Sl.of_bk (n:=1) (size:=2) uw.o rfl) (jP _) (by unfold maxLen;omega) (by omega) HB3.o.size ?_;intro A4 c4 w4 ho hg gu iU;rw[<-fO.o]at ho;have uA:=ai ho;have HB4:Ti W5 w4:=HB3.o.grown hg HB3.o.size (fun g e=>(bZ fU.o e).1);clear ho hg x0 x1 x2;go_wp2_with fail;go_roundw
      case rel=>exact⟨k+1,A4,c4,hlt,by go_num,rfl,gu,iU,uA.o,HB4.o⟩
      case measure=>simp[intOf];omega
    . have hlz:¬(k:Int)< (rn:Int):=by omega
      have hkn:k=rn:=by omega
      subst hkn;have ku:Hid ((q.rs.map (·.2)).take k=q.rs.map (·.2)):=ZU (by rw[List.length_map,O.o];exact Nat.le_refl _);rw[ku.o]at HO;obtain⟨wo,hwo⟩:∃wo,wo=wr:=⟨_,rfl⟩
      subst hwo;have Z:=ai (vS q.p t.pA q.p.length t.pc (q.rs.map (·.2)) A' k c' wo.heap.size wo ((N.o.p.below G.o aj).more zr) (Sl.of_own HO.o) aj D.o.m.pl (by omega) (fun d hd=>by obtain⟨x,hx,rfl⟩:=List.mem_map.1 hd;exact R.o x hx) hrl);unfold ReE at Z;obtain⟨⟨k0,k1,k2,k3⟩,k4,k5,k6⟩:=(J.o.below G.o (by omega)).seven;go_wp2_with fail;refine Z.o.mono ?_;rintro e w6 ⟨rl,rm,F,rc',mA,mc,rfl,hr,hsl,hln,hwl,hb6⟩;obtain⟨hlen,hkeep⟩:=HQ.o.there HL.o.m.pl hr;rw[hlen]at hsl ⊢;have C:Tf W5 w6:=G.o.trans (hb6.mono zr);have ag:Ti w w6:=M.o.trans (C.mono M.o.size);have kU:=ai (ed.o.below C (by omega));have au:=ai (J.o.below C (by omega));have lq:Hid (RpM w6 w6.heap.size r s):=(fA.o.below C aj).more C.size;have bf:Hid (RpM w6 w6.heap.size q t):=(N.o.below C aj).more C.size;have nz:=ai hsl;have uD:=ai hwl;have wz:=ai hkeep;have z6:W5.heap.size<=w6.heap.size:=C.size;have HC:=ai (qZ q t gs' a' u' w6.heap.size w6 D.o.d.ok D.o.d.pn D.o.j D.o.m oU bf.o aj);rw[HQ.o.again HL.o.m.pl]at HC;unfold CoE kR at HC;simp only[rpV,rpC]at HC;clear hr hsl hln hwl hb6 hlen hkeep C Z HO G ku k0 k1 k2 k3 k4 k5 k6 M ed J fA N zr HRW R;obtain⟨⟨k0,k1,k2,k3⟩,k4,k5,k6⟩:=au.o.seven;go_wp2_with fail;refine HC.o.mono ?_;rintro e w7 ⟨t',rfl,nO,hb7⟩;obtain⟨W8,K⟩:=NX9 (w7.alloc (.cells (rpC q t') 35))
      have hb8:Tf w7 W8:=by rw[<-K];exact(ah _ _).alloc aj _
      have B:Tf w6 W8:=hb7.trans (hb8.mono hb7.size);have nU:Ti w W8:=ag.o.trans (B.mono ag.o.size);have xe:=ai (kU.o.below B (by omega));have oO:=ai (au.o.below B (by omega));have bg:Hid (Bk W8 w7.heap.size 35 (rpC q t')):=by rw[<-K];exact Bk.new _ _ _
      have bn:Hid (RpM W8 W8.heap.size r s):=(lq.o.below B aj).more B.size;have P:Hid (RpM W8 W8.heap.size q t):=(bf.o.below B aj).more B.size;have xn:Hid (RpM W8 W8.heap.size q t'):=(nO.below hb8 aj).more hb8.size;have xA:Hid (Sl W8 W8.heap.size 2 F q.p.length (flat dgC rl)):=(nz.o.below B aj).more B.size;have z8:w6.heap.size<=w7.heap.size/\W8.heap.size=w7.heap.size+1:=⟨hb7.size,by rw[<-K];simp⟩
      have Q:=ai K;clear nO hb7 K hb8 B HC ag kU au lq bf nz k0 k1 k2 k3 k4 k5 k6;have hss:q.d.ss.length<=100:=HQ.o.n;have zx:q.lg.length<=1000:=ja D.o.m.rf;have bz:=ai (fun W (hR:Tf W8 W)=>JC q t' t W8.heap.size W (xn.o.below hR aj) (P.o.below hR aj) hR.size D.o.d.pn (by unfold maxLen;omega) (by unfold maxLen;omega) (by have:=O.o;unfold maxLen;omega) (by unfold maxLen;omega));have cu:=ai (fun W (hR:Tf W8 W)=>Bg t.rA t.lA s.rA s.lA q.rs.length t.rc q.lg.length t.lc r.rs.length s.rc r.lg.length s.lc W8.heap.size q.rs r.rs q.lg r.lg W (P.o.rf.below hR aj) (P.o.l.below hR aj) (bn.o.rf.below hR aj) (bn.o.l.below hR aj) hR.size (by have:=O.o;unfold maxLen;omega) (by unfold maxLen;omega));rw[decide_eq_true HQ.o.rs,decide_eq_true HQ.o.lg]at cu;have zf:Hid (∀W,Tf W8 W->Calls Tryz.prog 21 #[.slice s.pA r.p.length s.pc,.slice F q.p.length rc'] W fun e w'=>∃A c,e= .returned (.slice A q.p.length c)/\Sl w' w'.heap.size 3 A q.p.length (flat itC q.p)/\Tf W w'):=fun W hR=>by
       have:=BR s.pA r.p.length s.pc W.heap.size F q.p.length rc' r.p rl W ((bn.o.p.below hR aj).more hR.size) ((xA.o.below hR aj).more hR.size) aj (by omega) (by omega) uD.o (fun i hi=>by rw[HL.o.m.pl.dg i hi];exact fG _);unfold KeE at this;rw[wz.o]at this;exact this.mono fun e w' ⟨A,c,h1,h2,_,_,h3⟩=>⟨A,c,h1,h2,h3⟩
      have C8:Hid (∀W,Tf W8 W->∀A c,Sl W W.heap.size 3 A q.p.length (flat itC q.p)->Calls Tryz.prog 20 #[.slice t.pA q.p.length t.pc,.slice A q.p.length c] W fun e w'=>e= .returned (.bool true)/\∃k,w'=W.drewN k):=fun W hR A c hs=>by
       have:=CV t.pA A q.p.length t.pc q.p.length c W.heap.size q.p q.p W ((P.o.p.below hR aj).more hR.size) hs (by unfold maxLen;omega);rw[decide_eq_true rfl]at this;exact this
      have hwr:IntKind.i64.wrap ((r.p.length:Int) - (q.p.length:Int))= (r.p.length:Int) - (q.p.length:Int):=tJ (by omega) (by omega);simp only[rpC]at Q bg;simp only[rpV,rpC]at bz;rw[HN.o];rw[O.o]at bz cu Q bg oO ⊢;obtain⟨⟨k0,k1,k2,k3⟩,k4,k5,k6⟩:=xe.o.seven;obtain⟨⟨l0,l1,l2,l3⟩,l4,l5,l6⟩:=oO.o.seven;obtain⟨⟨j0,j1,j2,j3⟩,j4,j5,j6⟩:=bg.o.seven;have zo:Hid (∀x∈ [(43,CoV q.p)],∀v W W',x.2 v W->Tf W W'->x.2 v W'):=by
       intro x hx v W W' h hb;rw[List.mem_singleton.1 hx]at h ⊢;exact CoV.on h hb
      go_upto_region 15 with fail
      rw[Q.o];clear Q;refine kz 49 (70::71::72::73::74::75::76::77::78::79::80::81::82::83::84::85::86::87::88::89::90::91::92::93::94::95::96::97::98::99::100::101::102::103::104::105::106::107::108::109::110::111::112::113::114::115::116::117::118:: []) (by kernel_rfl) (by kernel_rfl) (by kernel_rfl) (fun W=>Tf W8 W) (fun W W'=>Tf W W')
       (lS [(43,CoV q.p)] ((.int .i64 0):: (.bool true):: (.bool true):: (.int .i64 0):: (.bool true):: (.bool true):: (.bool true):: (.agg #[.int .i64 q.d.sz,.slice t'.d.a1 q.d.ss.length t'.d.c1,.slice t'.d.a2 q.d.pn.length t'.d.c2,.int .i64 q.d.lf,.slice t'.pA q.p.length t'.pc,.slice t'.rA k t'.rc,.slice t'.lA q.lg.length t'.lc]):: (.agg #[.int .i64 q.d.sz,.slice t.d.a1 q.d.ss.length t.d.c1,.slice t.d.a2 q.d.pn.length t.d.c2,.int .i64 q.d.lf,.slice t.pA q.p.length t.pc,.slice t.rA k t.rc,.slice t.lA q.lg.length t.lc]):: (.bool true):: (.bool true):: (.bool true):: (.pointer (some ⟨w4.heap.size,5,none⟩)):: (.agg #[.slice t.rA k t.rc,.slice t.lA q.lg.length t.lc]):: (.pointer (some ⟨w1.heap.size,5,none⟩)):: (.agg #[.slice s.rA r.rs.length s.rc,.slice s.lA r.lg.length s.lc]):: (.bool true):: (.bool true):: (.bool true):: (.pointer (some ⟨w1.heap.size,4,none⟩)):: (.slice s.pA r.p.length s.pc):: (.int .i64 (r.p.length:Int)):: (.pointer (some ⟨w4.heap.size,4,none⟩)):: (.slice t.pA q.p.length t.pc):: (.int .i64 (q.p.length:Int)):: (.int .i64 ((r.p.length:Int) - (q.p.length:Int))):: (.int .i64 ((r.p.length:Int) - (q.p.length:Int))):: (.bool true):: (.bool true):: (.bool true):: (.slice F q.p.length rc'):: (.int .i64 (q.p.length:Int)):: (.pointer (some ⟨w4.heap.size,4,none⟩)):: (.slice t.pA q.p.length t.pc):: (.int .i64 (q.p.length:Int)):: (.bool true):: (.bool true):: (.bool true):: (.pointer (some ⟨w4.heap.size,4,none⟩)):: (.slice t.pA q.p.length t.pc):: (.pointer (some ⟨w1.heap.size,4,none⟩)):: (.slice s.pA r.p.length s.pc):: (.slice F q.p.length rc'):: (undef):: (.bool true):: (.bool true):: (.bool true):: (.bool true):: (.bool true):: [])) (fun W W' h1 h2=>h1.trans (h2.mono h1.size)) (fun i v W W' h hb=>rZ zo.o i v W W' h hb) (ah _ _).drew ?stepA ?tailA
      case stepA =>
       intro i o vs W hi ho hv hR b;obtain⟨v0,v1,v2,v3,v4,v5,v6,v7,v8,v9,v10,v11,v12,v13,v14,v15,v16,v17,v18,v19,v20,v21,v22,v23,v24,v25,v26,v27,v28,v29,v30,v31,v32,v33,v34,v35,v36,v37,v38,v39,v40,v41,v42,v43,v44,v45,v46,v47,v48,rfl⟩:=Hm hv;simp only[List.zip,List.zipWith,aV,Act.put,List.setIfInBounds_toArray,List.set];have zT:=hR.size;have g4:=(hR.cell (p:=⟨w1.heap.size,4,none⟩) (by show w1.heap.size<_;omega)).trans k4;have g5:=(hR.cell (p:=⟨w1.heap.size,5,none⟩) (by show w1.heap.size<_;omega)).trans k5;have g6:=(hR.cell (p:=⟨w1.heap.size,6,none⟩) (by show w1.heap.size<_;omega)).trans k6;have x0:=(hR.cell (p:=⟨w4.heap.size,0,none⟩) (by show w4.heap.size<_;omega)).trans l0;have x1:=(hR.cell (p:=⟨w4.heap.size,1,none⟩) (by show w4.heap.size<_;omega)).trans l1;have x2:=(hR.cell (p:=⟨w4.heap.size,2,none⟩) (by show w4.heap.size<_;omega)).trans l2;have x3:=(hR.cell (p:=⟨w4.heap.size,3,none⟩) (by show w4.heap.size<_;omega)).trans l3;have x4:=(hR.cell (p:=⟨w4.heap.size,4,none⟩) (by show w4.heap.size<_;omega)).trans l4;have x5:=(hR.cell (p:=⟨w4.heap.size,5,none⟩) (by show w4.heap.size<_;omega)).trans l5;have x6:=(hR.cell (p:=⟨w4.heap.size,6,none⟩) (by show w4.heap.size<_;omega)).trans l6;have u0:=(hR.cell (p:=⟨w7.heap.size,0,none⟩) (by show w7.heap.size<_;omega)).trans j0;have u1:=(hR.cell (p:=⟨w7.heap.size,1,none⟩) (by show w7.heap.size<_;omega)).trans j1;have u2:=(hR.cell (p:=⟨w7.heap.size,2,none⟩) (by show w7.heap.size<_;omega)).trans j2;have u3:=(hR.cell (p:=⟨w7.heap.size,3,none⟩) (by show w7.heap.size<_;omega)).trans j3;have u4:=(hR.cell (p:=⟨w7.heap.size,4,none⟩) (by show w7.heap.size<_;omega)).trans j4;have u5:=(hR.cell (p:=⟨w7.heap.size,5,none⟩) (by show w7.heap.size<_;omega)).trans j5;have u6:=(hR.cell (p:=⟨w7.heap.size,6,none⟩) (by show w7.heap.size<_;omega)).trans j6
       match i,hi,ho with
       | 0,_,rfl =>
         exact .inl ⟨rfl,aA (v:= .int .i64 0) (w':=W) (by go_simp) ⟨ah _ _,fun _=>az⟩⟩
       | 1,_,rfl =>
         have e0:v0=_:=b ⟨0,.data⟩ (by simp) rfl v0 rfl _ rfl;subst e0;exact .inl ⟨rfl,aA (v:= .bool true) (w':=W) (by go_simp) ⟨ah _ _,fun _=>az⟩⟩
       | 2,_,rfl =>
         have e1:v1=_:=b ⟨1,.data⟩ (by simp) rfl v1 rfl _ rfl;subst e1;exact .inl ⟨rfl,aA (v:= .bool true) (w':=W) (by go_simp) ⟨ah _ _,fun _=>az⟩⟩
       | 3,_,rfl =>
         have e2:v2=_:=b ⟨2,.guard⟩ (by simp) rfl v2 rfl _ rfl;subst e2;exact .inl ⟨rfl,aA (v:= .int .i64 0) (w':=W) (by go_simp) ⟨ah _ _,fun _=>az⟩⟩
       | 4,_,rfl =>
         have e3:v3=_:=b ⟨3,.data⟩ (by simp) rfl v3 rfl _ rfl;have e2:v2=_:=b ⟨2,.guard⟩ (by simp) rfl v2 rfl _ rfl;subst e2 e3;exact .inl ⟨rfl,aA (v:= .bool true) (w':=W) (by go_simp) ⟨ah _ _,fun _=>az⟩⟩
       | 5,_,rfl =>
         have e2:v2=_:=b ⟨2,.data⟩ (by simp) rfl v2 rfl _ rfl;have e4:v4=_:=b ⟨4,.data⟩ (by simp) rfl v4 rfl _ rfl;subst e2 e4;exact .inl ⟨rfl,aA (v:= .bool true) (w':=W) (by go_simp) ⟨ah _ _,fun _=>az⟩⟩
       | 6,_,rfl =>
         have e5:v5=_:=b ⟨5,.data⟩ (by simp) rfl v5 rfl _ rfl;subst e5;exact .inl ⟨rfl,aA (v:= .bool true) (w':=W) (by go_simp) ⟨ah _ _,fun _=>az⟩⟩
       | 7,_,rfl =>
         have e6:v6=_:=b ⟨6,.guard⟩ (by simp) rfl v6 rfl _ rfl;subst e6;exact .inl ⟨rfl,aA (v:= .agg #[.int .i64 q.d.sz,.slice t'.d.a1 q.d.ss.length t'.d.c1,.slice t'.d.a2 q.d.pn.length t'.d.c2,.int .i64 q.d.lf,.slice t'.pA q.p.length t'.pc,.slice t'.rA k t'.rc,.slice t'.lA q.lg.length t'.lc]) (w':=W) (by go_simp) ⟨ah _ _,fun _=>az⟩⟩
       | 8,_,rfl =>
         have e6:v6=_:=b ⟨6,.guard⟩ (by simp) rfl v6 rfl _ rfl;subst e6;exact .inl ⟨rfl,aA (v:= .agg #[.int .i64 q.d.sz,.slice t.d.a1 q.d.ss.length t.d.c1,.slice t.d.a2 q.d.pn.length t.d.c2,.int .i64 q.d.lf,.slice t.pA q.p.length t.pc,.slice t.rA k t.rc,.slice t.lA q.lg.length t.lc]) (w':=W) (by go_simp) ⟨ah _ _,fun _=>az⟩⟩
       | 9,_,rfl =>
         have e7:v7=_:=b ⟨7,.data⟩ (by simp) rfl v7 rfl _ rfl;have e8:v8=_:=b ⟨8,.data⟩ (by simp) rfl v8 rfl _ rfl;have e6:v6=_:=b ⟨6,.guard⟩ (by simp) rfl v6 rfl _ rfl;subst e6 e7 e8;refine .inl ⟨rfl,iE (f:=15) (args:=#[.agg #[.int .i64 q.d.sz,.slice t'.d.a1 q.d.ss.length t'.d.c1,.slice t'.d.a2 q.d.pn.length t'.d.c2,.int .i64 q.d.lf,.slice t'.pA q.p.length t'.pc,.slice t'.rA k t'.rc,.slice t'.lA q.lg.length t'.lc],.agg #[.int .i64 q.d.sz,.slice t.d.a1 q.d.ss.length t.d.c1,.slice t.d.a2 q.d.pn.length t.d.c2,.int .i64 q.d.lf,.slice t.pA q.p.length t.pc,.slice t.rA k t.rc,.slice t.lA q.lg.length t.lc]]) (by go_simp) ((bz.o W hR).mono ?_)⟩;rintro e W' ⟨rfl,hb2⟩;exact⟨_,rfl,hb2,fun _=>az⟩
       | 10,_,rfl =>
         have e6:v6=_:=b ⟨6,.data⟩ (by simp) rfl v6 rfl _ rfl;have e9:v9=_:=b ⟨9,.data⟩ (by simp) rfl v9 rfl _ rfl;subst e6 e9;exact .inl ⟨rfl,aA (v:= .bool true) (w':=W) (by go_simp) ⟨ah _ _,fun _=>az⟩⟩
       | 11,_,rfl =>
         have e10:v10=_:=b ⟨10,.data⟩ (by simp) rfl v10 rfl _ rfl;subst e10;exact .inl ⟨rfl,aA (v:= .bool true) (w':=W) (by go_simp) ⟨ah _ _,fun _=>az⟩⟩
       | 12,_,rfl =>
         have e11:v11=_:=b ⟨11,.guard⟩ (by simp) rfl v11 rfl _ rfl;subst e11;exact .inl ⟨rfl,aA (v:= .pointer (some ⟨w4.heap.size,5,none⟩)) (w':=W) (by go_simp) ⟨ah _ _,fun _=>az⟩⟩
       | 13,_,rfl =>
         have e12:v12=_:=b ⟨12,.data⟩ (by simp) rfl v12 rfl _ rfl;have e11:v11=_:=b ⟨11,.guard⟩ (by simp) rfl v11 rfl _ rfl;subst e11 e12;exact .inl ⟨rfl,aA (v:= .agg #[.slice t.rA k t.rc,.slice t.lA q.lg.length t.lc]) (w':=W) (by go_simp) ⟨ah _ _,fun _=>az⟩⟩
       | 14,_,rfl =>
         have e11:v11=_:=b ⟨11,.guard⟩ (by simp) rfl v11 rfl _ rfl;subst e11;exact .inl ⟨rfl,aA (v:= .pointer (some ⟨w1.heap.size,5,none⟩)) (w':=W) (by go_simp) ⟨ah _ _,fun _=>az⟩⟩
       | 15,_,rfl =>
         have e14:v14=_:=b ⟨14,.data⟩ (by simp) rfl v14 rfl _ rfl;have e11:v11=_:=b ⟨11,.guard⟩ (by simp) rfl v11 rfl _ rfl;subst e11 e14;exact .inl ⟨rfl,aA (v:= .agg #[.slice s.rA r.rs.length s.rc,.slice s.lA r.lg.length s.lc]) (w':=W) (by go_simp) ⟨ah _ _,fun _=>az⟩⟩
       | 16,_,rfl =>
         have e13:v13=_:=b ⟨13,.data⟩ (by simp) rfl v13 rfl _ rfl;have e15:v15=_:=b ⟨15,.data⟩ (by simp) rfl v15 rfl _ rfl;have e11:v11=_:=b ⟨11,.guard⟩ (by simp) rfl v11 rfl _ rfl;subst e11 e13 e15;refine .inl ⟨rfl,iE (f:=19) (args:=#[.agg #[.slice t.rA k t.rc,.slice t.lA q.lg.length t.lc],.agg #[.slice s.rA r.rs.length s.rc,.slice s.lA r.lg.length s.lc]]) (by go_simp) ((cu.o W hR).mono ?_)⟩;rintro e W' ⟨rfl,hb2⟩;exact⟨_,rfl,hb2,fun _=>az⟩
       | 17,_,rfl =>
         have e11:v11=_:=b ⟨11,.data⟩ (by simp) rfl v11 rfl _ rfl;have e16:v16=_:=b ⟨16,.data⟩ (by simp) rfl v16 rfl _ rfl;subst e11 e16;exact .inl ⟨rfl,aA (v:= .bool true) (w':=W) (by go_simp) ⟨ah _ _,fun _=>az⟩⟩
       | 18,_,rfl =>
         have e17:v17=_:=b ⟨17,.data⟩ (by simp) rfl v17 rfl _ rfl;subst e17;exact .inl ⟨rfl,aA (v:= .bool true) (w':=W) (by go_simp) ⟨ah _ _,fun _=>az⟩⟩
       | 19,_,rfl =>
         have e18:v18=_:=b ⟨18,.guard⟩ (by simp) rfl v18 rfl _ rfl;subst e18;exact .inl ⟨rfl,aA (v:= .pointer (some ⟨w1.heap.size,4,none⟩)) (w':=W) (by go_simp) ⟨ah _ _,fun _=>az⟩⟩
       | 20,_,rfl =>
         have e19:v19=_:=b ⟨19,.data⟩ (by simp) rfl v19 rfl _ rfl;have e18:v18=_:=b ⟨18,.guard⟩ (by simp) rfl v18 rfl _ rfl;subst e18 e19;exact .inl ⟨rfl,aA (v:= .slice s.pA r.p.length s.pc) (w':=W) (by go_simp) ⟨ah _ _,fun _=>az⟩⟩
       | 21,_,rfl =>
         have e20:v20=_:=b ⟨20,.data⟩ (by simp) rfl v20 rfl _ rfl;have e18:v18=_:=b ⟨18,.guard⟩ (by simp) rfl v18 rfl _ rfl;subst e18 e20;exact .inl ⟨rfl,aA (v:= .int .i64 (r.p.length:Int)) (w':=W) (by go_simp) ⟨ah _ _,fun _=>az⟩⟩
       | 22,_,rfl =>
         have e18:v18=_:=b ⟨18,.guard⟩ (by simp) rfl v18 rfl _ rfl;subst e18;exact .inl ⟨rfl,aA (v:= .pointer (some ⟨w4.heap.size,4,none⟩)) (w':=W) (by go_simp) ⟨ah _ _,fun _=>az⟩⟩
       | 23,_,rfl =>
         have e22:v22=_:=b ⟨22,.data⟩ (by simp) rfl v22 rfl _ rfl;have e18:v18=_:=b ⟨18,.guard⟩ (by simp) rfl v18 rfl _ rfl;subst e18 e22;exact .inl ⟨rfl,aA (v:= .slice t.pA q.p.length t.pc) (w':=W) (by go_simp) ⟨ah _ _,fun _=>az⟩⟩
       | 24,_,rfl =>
         have e23:v23=_:=b ⟨23,.data⟩ (by simp) rfl v23 rfl _ rfl;have e18:v18=_:=b ⟨18,.guard⟩ (by simp) rfl v18 rfl _ rfl;subst e18 e23;exact .inl ⟨rfl,aA (v:= .int .i64 (q.p.length:Int)) (w':=W) (by go_simp) ⟨ah _ _,fun _=>az⟩⟩
       | 25,_,rfl =>
         have e21:v21=_:=b ⟨21,.data⟩ (by simp) rfl v21 rfl _ rfl;have e24:v24=_:=b ⟨24,.data⟩ (by simp) rfl v24 rfl _ rfl;have e18:v18=_:=b ⟨18,.guard⟩ (by simp) rfl v18 rfl _ rfl;subst e18 e21 e24;exact .inl ⟨rfl,aA (v:= .int .i64 ((r.p.length:Int) - (q.p.length:Int))) (w':=W) (by go_simp) ⟨ah _ _,fun _=>az⟩⟩
       | 26,_,rfl =>
         have e18:v18=_:=b ⟨18,.guard⟩ (by simp) rfl v18 rfl _ rfl;subst e18;exact .inl ⟨rfl,aA (v:= .int .i64 ((r.p.length:Int) - (q.p.length:Int))) (w':=W) (by go_simp) ⟨ah _ _,fun _=>az⟩⟩
       | 27,_,rfl =>
         have e25:v25=_:=b ⟨25,.data⟩ (by simp) rfl v25 rfl _ rfl;have e26:v26=_:=b ⟨26,.data⟩ (by simp) rfl v26 rfl _ rfl;have e18:v18=_:=b ⟨18,.guard⟩ (by simp) rfl v18 rfl _ rfl;subst e18 e25 e26;exact .inl ⟨rfl,aA (v:= .bool true) (w':=W) (by go_simp) ⟨ah _ _,fun _=>az⟩⟩
       | 28,_,rfl =>
         have e18:v18=_:=b ⟨18,.data⟩ (by simp) rfl v18 rfl _ rfl;have e27:v27=_:=b ⟨27,.data⟩ (by simp) rfl v27 rfl _ rfl;subst e18 e27;exact .inl ⟨rfl,aA (v:= .bool true) (w':=W) (by go_simp) ⟨ah _ _,fun _=>az⟩⟩
       | 29,_,rfl =>
         have e28:v28=_:=b ⟨28,.data⟩ (by simp) rfl v28 rfl _ rfl;subst e28;exact .inl ⟨rfl,aA (v:= .bool true) (w':=W) (by go_simp) ⟨ah _ _,fun _=>az⟩⟩
       | 30,_,rfl =>
         have e29:v29=_:=b ⟨29,.guard⟩ (by simp) rfl v29 rfl _ rfl;subst e29;exact .inl ⟨rfl,aA (v:= .slice F q.p.length rc') (w':=W) (by go_simp) ⟨ah _ _,fun _=>az⟩⟩
       | 31,_,rfl =>
         have e30:v30=_:=b ⟨30,.data⟩ (by simp) rfl v30 rfl _ rfl;have e29:v29=_:=b ⟨29,.guard⟩ (by simp) rfl v29 rfl _ rfl;subst e29 e30;exact .inl ⟨rfl,aA (v:= .int .i64 (q.p.length:Int)) (w':=W) (by go_simp) ⟨ah _ _,fun _=>az⟩⟩
       | 32,_,rfl =>
         have e29:v29=_:=b ⟨29,.guard⟩ (by simp) rfl v29 rfl _ rfl;subst e29;exact .inl ⟨rfl,aA (v:= .pointer (some ⟨w4.heap.size,4,none⟩)) (w':=W) (by go_simp) ⟨ah _ _,fun _=>az⟩⟩
       | 33,_,rfl =>
         have e32:v32=_:=b ⟨32,.data⟩ (by simp) rfl v32 rfl _ rfl;have e29:v29=_:=b ⟨29,.guard⟩ (by simp) rfl v29 rfl _ rfl;subst e29 e32;exact .inl ⟨rfl,aA (v:= .slice t.pA q.p.length t.pc) (w':=W) (by go_simp) ⟨ah _ _,fun _=>az⟩⟩
       | 34,_,rfl =>
         have e33:v33=_:=b ⟨33,.data⟩ (by simp) rfl v33 rfl _ rfl;have e29:v29=_:=b ⟨29,.guard⟩ (by simp) rfl v29 rfl _ rfl;subst e29 e33;exact .inl ⟨rfl,aA (v:= .int .i64 (q.p.length:Int)) (w':=W) (by go_simp) ⟨ah _ _,fun _=>az⟩⟩
       | 35,_,rfl =>
         have e31:v31=_:=b ⟨31,.data⟩ (by simp) rfl v31 rfl _ rfl;have e34:v34=_:=b ⟨34,.data⟩ (by simp) rfl v34 rfl _ rfl;have e29:v29=_:=b ⟨29,.guard⟩ (by simp) rfl v29 rfl _ rfl;subst e29 e31 e34;exact .inl ⟨rfl,aA (v:= .bool true) (w':=W) (by go_simp) ⟨ah _ _,fun _=>az⟩⟩
       | 36,_,rfl =>
         have e29:v29=_:=b ⟨29,.data⟩ (by simp) rfl v29 rfl _ rfl;have e35:v35=_:=b ⟨35,.data⟩ (by simp) rfl v35 rfl _ rfl;subst e29 e35;exact .inl ⟨rfl,aA (v:= .bool true) (w':=W) (by go_simp) ⟨ah _ _,fun _=>az⟩⟩
       | 37,_,rfl =>
         have e36:v36=_:=b ⟨36,.data⟩ (by simp) rfl v36 rfl _ rfl;subst e36;exact .inl ⟨rfl,aA (v:= .bool true) (w':=W) (by go_simp) ⟨ah _ _,fun _=>az⟩⟩
       | 38,_,rfl =>
         have e37:v37=_:=b ⟨37,.guard⟩ (by simp) rfl v37 rfl _ rfl;subst e37;exact .inl ⟨rfl,aA (v:= .pointer (some ⟨w4.heap.size,4,none⟩)) (w':=W) (by go_simp) ⟨ah _ _,fun _=>az⟩⟩
       | 39,_,rfl =>
         have e38:v38=_:=b ⟨38,.data⟩ (by simp) rfl v38 rfl _ rfl;have e37:v37=_:=b ⟨37,.guard⟩ (by simp) rfl v37 rfl _ rfl;subst e37 e38;exact .inl ⟨rfl,aA (v:= .slice t.pA q.p.length t.pc) (w':=W) (by go_simp) ⟨ah _ _,fun _=>az⟩⟩
       | 40,_,rfl =>
         have e37:v37=_:=b ⟨37,.guard⟩ (by simp) rfl v37 rfl _ rfl;subst e37;exact .inl ⟨rfl,aA (v:= .pointer (some ⟨w1.heap.size,4,none⟩)) (w':=W) (by go_simp) ⟨ah _ _,fun _=>az⟩⟩
       | 41,_,rfl =>
         have e40:v40=_:=b ⟨40,.data⟩ (by simp) rfl v40 rfl _ rfl;have e37:v37=_:=b ⟨37,.guard⟩ (by simp) rfl v37 rfl _ rfl;subst e37 e40;exact .inl ⟨rfl,aA (v:= .slice s.pA r.p.length s.pc) (w':=W) (by go_simp) ⟨ah _ _,fun _=>az⟩⟩
       | 42,_,rfl =>
         have e37:v37=_:=b ⟨37,.guard⟩ (by simp) rfl v37 rfl _ rfl;subst e37;exact .inl ⟨rfl,aA (v:= .slice F q.p.length rc') (w':=W) (by go_simp) ⟨ah _ _,fun _=>az⟩⟩
       | 43,_,rfl =>
         have e41:v41=_:=b ⟨41,.data⟩ (by simp) rfl v41 rfl _ rfl;have e42:v42=_:=b ⟨42,.data⟩ (by simp) rfl v42 rfl _ rfl;have e37:v37=_:=b ⟨37,.guard⟩ (by simp) rfl v37 rfl _ rfl;subst e37 e41 e42;refine .inl ⟨rfl,iE (f:=21) (args:=#[.slice s.pA r.p.length s.pc,.slice F q.p.length rc']) (by go_simp) ((zf.o W hR).mono ?_)⟩;rintro e W' ⟨xa,xc,rfl,xs,hb2⟩;exact⟨_,rfl,hb2,⟨xa,xc,rfl,xs⟩⟩
       | 44,_,rfl =>
         have e39:v39=_:=b ⟨39,.data⟩ (by simp) rfl v39 rfl _ rfl;obtain⟨ya,yc,rfl,ys⟩: (CoV q.p) v43 W:=b ⟨43,.data⟩ (by simp) rfl v43 rfl;have e37:v37=_:=b ⟨37,.guard⟩ (by simp) rfl v37 rfl _ rfl;subst e37 e39;refine .inl ⟨rfl,iE (f:=20) (args:=#[.slice t.pA q.p.length t.pc,.slice ya q.p.length yc]) (by go_simp) ((C8.o W hR ya yc ys).mono ?_)⟩;rintro e W' ⟨rfl,kk,rfl⟩;exact⟨_,rfl,dm (ah _ _) kk,fun _=>az⟩
       | 45,_,rfl =>
         have e37:v37=_:=b ⟨37,.data⟩ (by simp) rfl v37 rfl _ rfl;have e44:v44=_:=b ⟨44,.data⟩ (by simp) rfl v44 rfl _ rfl;subst e37 e44;exact .inl ⟨rfl,aA (v:= .bool true) (w':=W) (by go_simp) ⟨ah _ _,fun _=>az⟩⟩
       | 46,_,rfl =>
         have e45:v45=_:=b ⟨45,.data⟩ (by simp) rfl v45 rfl _ rfl;subst e45;exact .inl ⟨rfl,aA (v:= .bool true) (w':=W) (by go_simp) ⟨ah _ _,fun _=>az⟩⟩
       | 47,_,rfl =>
         have e46:v46=_:=b ⟨46,.guard⟩ (by simp) rfl v46 rfl _ rfl;subst e46;refine .inl ⟨rfl,iE (f:=10) (args:=#[]) (by go_simp) ((V.o W).mono ?_)⟩;rintro e W' ⟨rfl,hb2⟩;exact⟨_,rfl,hb2,fun _=>az⟩
       | 48,_,rfl =>
         have e46:v46=_:=b ⟨46,.data⟩ (by simp) rfl v46 rfl _ rfl;have e47:v47=_:=b ⟨47,.data⟩ (by simp) rfl v47 rfl _ rfl;subst e46 e47;exact .inl ⟨rfl,aA (v:= .bool true) (w':=W) (by go_simp) ⟨ah _ _,fun _=>az⟩⟩
       | i+49,hi,_=>exact absurd hi (by omega)
      case tailA =>
       intro vs W hv hR b;obtain⟨v0,v1,v2,v3,v4,v5,v6,v7,v8,v9,v10,v11,v12,v13,v14,v15,v16,v17,v18,v19,v20,v21,v22,v23,v24,v25,v26,v27,v28,v29,v30,v31,v32,v33,v34,v35,v36,v37,v38,v39,v40,v41,v42,v43,v44,v45,v46,v47,v48,rfl⟩:=Hm hv;simp only[List.zip,List.zipWith,aV,Act.put,List.setIfInBounds_toArray,List.set,List.drop];have e0:v0=_:=b 0 v0 rfl _ rfl;have e1:v1=_:=b 1 v1 rfl _ rfl;have e2:v2=_:=b 2 v2 rfl _ rfl;have e3:v3=_:=b 3 v3 rfl _ rfl;have e4:v4=_:=b 4 v4 rfl _ rfl;have e5:v5=_:=b 5 v5 rfl _ rfl;have e6:v6=_:=b 6 v6 rfl _ rfl;have e7:v7=_:=b 7 v7 rfl _ rfl;have e8:v8=_:=b 8 v8 rfl _ rfl;have e9:v9=_:=b 9 v9 rfl _ rfl;have e10:v10=_:=b 10 v10 rfl _ rfl;have e11:v11=_:=b 11 v11 rfl _ rfl;have e12:v12=_:=b 12 v12 rfl _ rfl;have e13:v13=_:=b 13 v13 rfl _ rfl;have e14:v14=_:=b 14 v14 rfl _ rfl;have e15:v15=_:=b 15 v15 rfl _ rfl;have e16:v16=_:=b 16 v16 rfl _ rfl;have e17:v17=_:=b 17 v17 rfl _ rfl;have e18:v18=_:=b 18 v18 rfl _ rfl;have e19:v19=_:=b 19 v19 rfl _ rfl;have e20:v20=_:=b 20 v20 rfl _ rfl;have e21:v21=_:=b 21 v21 rfl _ rfl;have e22:v22=_:=b 22 v22 rfl _ rfl;have e23:v23=_:=b 23 v23 rfl _ rfl;have e24:v24=_:=b 24 v24 rfl _ rfl;have e25:v25=_:=b 25 v25 rfl _ rfl;have e26:v26=_:=b 26 v26 rfl _ rfl;have e27:v27=_:=b 27 v27 rfl _ rfl;have e28:v28=_:=b 28 v28 rfl _ rfl;have e29:v29=_:=b 29 v29 rfl _ rfl;have e30:v30=_:=b 30 v30 rfl _ rfl;have e31:v31=_:=b 31 v31 rfl _ rfl;have e32:v32=_:=b 32 v32 rfl _ rfl;have e33:v33=_:=b 33 v33 rfl _ rfl;have e34:v34=_:=b 34 v34 rfl _ rfl;have e35:v35=_:=b 35 v35 rfl _ rfl;have e36:v36=_:=b 36 v36 rfl _ rfl;have e37:v37=_:=b 37 v37 rfl _ rfl;have e38:v38=_:=b 38 v38 rfl _ rfl;have e39:v39=_:=b 39 v39 rfl _ rfl;have e40:v40=_:=b 40 v40 rfl _ rfl;have e41:v41=_:=b 41 v41 rfl _ rfl;have e42:v42=_:=b 42 v42 rfl _ rfl;have e43: (CoV q.p) v43 W:=b 43 v43 rfl;have e44:v44=_:=b 44 v44 rfl _ rfl;have e45:v45=_:=b 45 v45 rfl _ rfl;have e46:v46=_:=b 46 v46 rfl _ rfl;have e47:v47=_:=b 47 v47 rfl _ rfl;have e48:v48=_:=b 48 v48 rfl _ rfl;subst e0 e1 e2 e3 e4 e5 e6 e7 e8 e9 e10 e11 e12 e13 e14 e15 e16 e17 e18 e19 e20 e21 e22 e23 e24 e25 e26 e27 e28 e29 e30 e31 e32 e33 e34 e35 e36 e37 e38 e39 e40 e41 e42 e44 e45 e46 e47 e48;clear b hv;clear e43;have zt:Ti w W:=nU.o.trans (hR.mono nU.o.size);clear hR;go_wp2_with fail;go_ret
       exact⟨rfl,zt.o⟩
section
open Go.ChangeShapes Go.WideShapes Go.ChangeAt Go.RowKit Go.Joins Go.Deep
theorem EE:Tryz.prog.cellsOf 48=1:=by kernel_rfl
theorem FP:Tryz.prog.cellsOf 50=2:=by kernel_rfl
theorem FQ:Tryz.prog.cellsOf 118=3:=by kernel_rfl
theorem RP{α:Type}{l:List α}(h:l.length=5):∃a b c d e,l= [a,b,c,d,e]:=by
 match l,h with
 | [a,b,c,d,e],_=>exact⟨a,b,c,d,e,rfl⟩
section
variable {H : Type} {enc : TypeId × Tc -> H} {P : Program} {w : SX} {base : Nat} {spare : Nat -> Bool} {held : Bool} {fuel : Nat} {cs : List Tc} {x : DataW H × List MemPlace}
theorem xk{t s:TypeId}(ht:P.underlying t=some (.array 2 s))(hs:P.underlying s=some (.int .u64))
  (hC:P.cellsOf t=2) (hcs:P.cellsOf s=1) (h:DataW.trod enc P w base spare held fuel t cs=some x):∃d:Dig,cs=dgC d/\WfD d:=by
 obtain⟨xs,m,_,_,hlen,hxl,hf⟩:=DataW.trod_array ht h;rw[hC]at hlen;obtain⟨c0,c1,rfl⟩:=qJ hlen;obtain⟨y0,y1,rfl⟩:=qJ hxl;have h0:=hf 0 (by omega);have h1:=hf 1 (by omega);rw[hcs]at h0 h1;simp at h0 h1;obtain⟨a,ha,_,hz⟩:=DataW.trod_int hs h0;obtain⟨b,hb,_,hz2⟩:=DataW.trod_int hs h1;simp at ha hb;obtain⟨w1,w2⟩:=bounds_u64 hz;obtain⟨w3,w4⟩:=bounds_u64 hz2;exact⟨(a,b),by rw[ha,hb];rfl,⟨w1,by omega,w3,by omega⟩⟩
theorem Nr{t e s u:TypeId}{f0 f1:Field}(ht:P.underlying t=some (.struct #[f0,f1]))(o0:f0.offset=0)(o1:f1.offset=2)(t0:f0.type=e)(t1:f1.type=s)
  (he:P.underlying e=some (.array 2 u)) (hu:P.underlying u=some (.int .u64)) (hs:P.underlying s=some .string)
  (hC:P.cellsOf t=3) (hce:P.cellsOf e=2) (hcu:P.cellsOf u=1) (hcs:P.cellsOf s=1) (h:DataW.trod enc P w base spare held fuel t cs=some x):∃i:Itm,cs=itC i/\WfD i.1/\i.2.size<=maxLen:=by
 obtain⟨xs,m,_,_,hlen,hxl,hf⟩:=DataW.trod_struct ht h;rw[hC]at hlen;obtain⟨c0,c1,c2,rfl⟩:=uP hlen;obtain⟨y0,y1,rfl⟩:=qJ hxl;have h0:=hf 0 f0 rfl;have h1:=hf 1 f1 rfl;rw[o0,t0,hce]at h0;rw[o1,t1,hcs]at h1;simp at h0 h1;obtain⟨d,hd,hw⟩:=xk he hu hce hcu h0;obtain⟨b,hb,_,hz⟩:=DataW.trod_string hs h1;simp[dgC]at hd hb;exact⟨(d,b),by rw[hd.1,hd.2,hb];rfl,hw,hz⟩
end
section
variable {H : Type} {enc : TypeId × Tc -> H} {W : SX} {base : Nat} {v : Tc} {d : DataW H} {p : List MemPlace} {r : Reach} {b0 : Nat} {sp : Nat -> Bool} {held : Bool}
end
end
section
open Go.ChangeShapes Go.WideShapes Go.ChangeAt Go.RowKit Go.Joins Go.Deep
theorem FU:Tryz.prog.cellsOf 85=5:=by kernel_rfl
theorem FT:Tryz.prog.cellsOf 65=7:=by kernel_rfl
theorem Qo:Tryz.prog.cellsOf 42=3:=by kernel_rfl
theorem Qm:Tryz.prog.cellsOf 29=1:=by kernel_rfl
theorem Qp:Tryz.prog.cellsOf 31=1:=by kernel_rfl
theorem Qu:Tryz.prog.cellsOf 59=1:=by kernel_rfl
theorem Qw:Tryz.prog.cellsOf 40=1:=by kernel_rfl
theorem yD:Tryz.prog.cellsOf 3=1:=by kernel_rfl
theorem He{α:Type}{l:List α}(h:l.length=7):∃a b c d e f g,l= [a,b,c,d,e,f,g]:=by
 match l,h with
 | [a,b,c,d,e,f,g],_=>exact⟨a,b,c,d,e,f,g,rfl⟩
section
variable {H : Type} {enc : TypeId × Tc -> H} {P : Program} {w : SX} {base : Nat} {spare : Nat -> Bool} {held : Bool} {fuel : Nat} {cs : List Tc} {x : DataW H × List MemPlace}
theorem Om{t e s u:TypeId}{f0 f1 f2:Field}(ht:P.underlying t=some (.struct #[f0,f1,f2]))(o0:f0.offset=0)(o1:f1.offset=1)(o2:f2.offset=3)(t0:f0.type=s)(t1:f1.type=e)(t2:f2.type=e)
  (he:P.underlying e=some (.array 2 u)) (hu:P.underlying u=some (.int .u64)) (hs:P.underlying s=some .string)
  (hC:P.cellsOf t=5) (hce:P.cellsOf e=2) (hcu:P.cellsOf u=1) (hcs:P.cellsOf s=1) (h:DataW.trod enc P w base spare held fuel t cs=some x):∃i:Upd,cs=upC i/\i.1.size<=maxLen/\WfU i:=by
 obtain⟨xs,m,_,_,hlen,hxl,hf⟩:=DataW.trod_struct ht h;rw[hC]at hlen;obtain⟨c0,c1,c2,c3,c4,rfl⟩:=RP hlen;obtain⟨y0,y1,y2,rfl⟩:=uP hxl;have h0:=hf 0 f0 rfl;have h1:=hf 1 f1 rfl;have h2:=hf 2 f2 rfl;rw[o0,t0,hcs]at h0;rw[o1,t1,hce]at h1;rw[o2,t2,hce]at h2;simp at h0 h1 h2;obtain⟨b,hb,_,hz⟩:=DataW.trod_string hs h0;obtain⟨d,hd,hw⟩:=xk he hu hce hcu h1;obtain⟨q,hq,hv⟩:=xk he hu hce hcu h2;simp[dgC]at hd hb hq;exact⟨(b,d,q),by rw[hd.1,hd.2,hb,hq.1,hq.2];rfl,hz,hw,hv⟩
theorem OG{t i s ft pt ut kt:TypeId}{f0 f1 f2 f3 f4 f5 f6:Field}(ht:P.underlying t=some (.struct #[f0,f1,f2,f3,f4,f5,f6]))
  (o0:f0.offset=0) (o1:f1.offset=1) (o2:f2.offset=2) (o3:f3.offset=3) (o4:f4.offset=4) (o5:f5.offset=5) (o6:f6.offset=6)
  (t0:f0.type=i) (t1:f1.type=s) (t2:f2.type=ft) (t3:f3.type=pt) (t4:f4.type=ut) (t5:f5.type=i) (t6:f6.type=kt)
  (hi:P.underlying i=some (.int .i64)) (hs:P.underlying s=some .string) (hC:P.cellsOf t=7) (hci:P.cellsOf i=1) (hcs:P.cellsOf s=1) (hcf:P.cellsOf ft=1) (hcp:P.cellsOf pt=1) (hcu:P.cellsOf ut=1) (hck:P.cellsOf kt=1)
  (kf:∀(fuel:Nat)(cs:List Tc)(x:DataW H×List MemPlace),DataW.trod enc P w base spare held fuel ft cs=some x->∃A n c xs,cs= [.slice A n c]/\Sl w w.heap.size 2 A n (flat flC xs)/\n<=c/\c<=maxLen/\∀f∈xs,f.1.size<=maxLen/\f.2.size<=maxLen)
  (kp:∀(fuel:Nat)(cs:List Tc)(x:DataW H×List MemPlace),DataW.trod enc P w base spare held fuel pt cs=some x->∃A n c xs,cs= [.slice A n c]/\Sl w w.heap.size 3 A n (flat itC xs)/\n<=c/\c<=maxLen/\∀i∈xs,WfD i.1/\i.2.size<=maxLen)
  (ku:∀(fuel:Nat)(cs:List Tc)(x:DataW H×List MemPlace),DataW.trod enc P w base spare held fuel ut cs=some x->∃A n c xs,cs= [.slice A n c]/\Sl w w.heap.size 5 A n (flat upC xs)/\n<=c/\c<=maxLen/\∀u∈xs,u.1.size<=maxLen/\WfU u)
  (kk:∀(fuel:Nat)(cs:List Tc)(x:DataW H×List MemPlace),DataW.trod enc P w base spare held fuel kt cs=some x->∃A n c xs,cs= [.slice A n c]/\Sl w w.heap.size 1 A n (flat kW xs)/\n<=c/\c<=maxLen/\∀q∈xs,(q:Int)<=9223372036854775807)
  (h:DataW.trod enc P w base spare held fuel t cs=some x):∃a:AcX,cs=acC a/\AcM w w.heap.size a/\AcB a.1:=by
 obtain⟨xs,m,_,_,hlen,hxl,hf⟩:=DataW.trod_struct ht h;rw[hC]at hlen;obtain⟨c0,c1,c2,c3,c4,c5,c6,rfl⟩:=He hlen;obtain⟨y0,y1,y2,y3,y4,e,y6,rfl⟩:=He hxl;have h0:=hf 0 f0 rfl;have h1:=hf 1 f1 rfl;have h2:=hf 2 f2 rfl;have h3:=hf 3 f3 rfl;have h4:=hf 4 f4 rfl;have h5:=hf 5 f5 rfl;have h6:=hf 6 f6 rfl;rw[o0,t0,hci]at h0;rw[o1,t1,hcs]at h1;rw[o2,t2,hcf]at h2;rw[o3,t3,hcp]at h3;rw[o4,t4,hcu]at h4;rw[o5,t5,hci]at h5;rw[o6,t6,hck]at h6;simp at h0 h1 h2 h3 h4 h5 h6;obtain⟨k,hk,_,_⟩:=DataW.trod_int hi h0;obtain⟨b,hb,_,hz⟩:=DataW.trod_string hs h1;obtain⟨A2,n2,d2,l2,e2,s2,u2,v2,q2⟩:=kf _ _ _ h2;obtain⟨A3,n3,d3,l3,e3,s3,u3,v3,q3⟩:=kp _ _ _ h3;obtain⟨A4,n4,d4,l4,e4,s4,u4,v4,q4⟩:=ku _ _ _ h4;obtain⟨k5,hk5,_,d⟩:=DataW.trod_int hi h5;obtain⟨A6,n6,d6,l6,e6,s6,u6,v6,q6⟩:=kk _ _ _ h6;have m2:=s2.len mZ (by omega);have m3:=s3.len dA (by omega);have m4:=s4.len gB (by omega);have m6:=Sl.len (enc:=kW) (s:=1) (fun _=>rfl) (by decide) s6;subst m2;subst m3;subst m4;subst m6;have w2:=(bounds_i64 d).2;simp at hk hb e2 e3 e4 hk5 e6;exact⟨(⟨k,b,l2,l3,l4,k5,l6⟩,⟨A2,d2,A3,d3,A4,d4,A6,d6⟩),by rw[hk,hb,e2,e3,e4,hk5,e6];rfl,⟨s2,s3,s4,s6⟩,⟨ZY u2 v2,q2,ZY u3 v3,q3,ZY u4 v4,q4,ZY u6 v6,hz,w2⟩⟩
theorem Ov{t i l:TypeId}{f0 f1 f2:Field}(ht:P.underlying t=some (.struct #[f0,f1,f2]))(o0:f0.offset=0)(o1:f1.offset=1)(o2:f2.offset=2)(t0:f0.type=i)(t1:f1.type=i)(t2:f2.type=l)
  (hi:P.underlying i=some (.int .i64)) (hC:P.cellsOf t=3) (hci:P.cellsOf i=1) (hcl:P.cellsOf l=1)
  (kl:∀(fuel:Nat)(cs:List Tc)(x:DataW H×List MemPlace),DataW.trod enc P w base spare held fuel l cs=some x->∃A n c xs,cs= [.slice A n c]/\Sl w w.heap.size 7 A n (flat acC xs)/\n<=c/\c<=maxLen/\∀a∈xs,AcM w w.heap.size a/\AcB a.1)
  (h:DataW.trod enc P w base spare held fuel t cs=some x):∃n z A m c l,cs= [.int .i64 n,.int .i64 z,.slice A m c]/\AcsM w w.heap.size A m l/\m<=maxLen/\∀a∈l,AcB a.1:=by
 obtain⟨xs,m,_,_,hlen,hxl,hf⟩:=DataW.trod_struct ht h;rw[hC]at hlen;obtain⟨c0,c1,c2,rfl⟩:=uP hlen;obtain⟨y0,y1,y2,rfl⟩:=uP hxl;have h0:=hf 0 f0 rfl;have h1:=hf 1 f1 rfl;have h2:=hf 2 f2 rfl;rw[o0,t0,hci]at h0;rw[o1,t1,hci]at h1;rw[o2,t2,hcl]at h2;simp at h0 h1 h2;obtain⟨k,hk,_⟩:=DataW.trod_int hi h0;obtain⟨z,hz,_⟩:=DataW.trod_int hi h1;obtain⟨A2,n2,d2,l2,e2,s2,u2,v2,q2⟩:=kl _ _ _ h2;simp at hk hz e2;exact⟨k,z,A2,n2,d2,l2,by rw[hk,hz,e2],⟨s2,fun x hx=>(q2 x hx).1⟩,ZY u2 v2,fun x hx=>(q2 x hx).2⟩
end
section
variable {H : Type} {enc : TypeId × Tc -> H} {W : SX} {base : Nat} {v : Tc} {d : DataW H} {p : List MemPlace} {r : Reach} {b0 : Nat} {sp : Nat -> Bool} {held : Bool} {fuel : Nat} {cs : List Tc} {x : DataW H × List MemPlace}
theorem PX(h:DataW.trod enc Tryz.prog W base sp held fuel 65 cs=some x):∃a:AcX,cs=acC a/\AcM W W.heap.size a/\AcB a.1 :=
 OG Tryz.underlying65 rfl rfl rfl rfl rfl rfl rfl rfl rfl rfl rfl rfl rfl rfl Tryz.underlying3 Tryz.underlying9 FT yD sW O1 Qm Qp Qu
  (fun _ _ _ hh=>pq (encA:=flC) (Q:=fun f=>f.1.size<=maxLen/\f.2.size<=maxLen) Tryz.underlying63 FV (by omega) mZ (fun _ _ _ hh=>OB Tryz.underlying82 rfl rfl rfl rfl Tryz.underlying9 FV sW hh) hh)
  (fun _ _ _ hh=>pq (encA:=itC) (Q:=fun i=>WfD i.1/\i.2.size<=maxLen) Tryz.underlying29 FQ (by omega) dA (fun _ _ _ hh=>Nr Tryz.underlying118 rfl rfl rfl rfl Tryz.underlying50 Tryz.underlying48 Tryz.underlying9 FQ FP EE sW hh) hh)
  (fun _ _ _ hh=>pq (encA:=upC) (Q:=fun u=>u.1.size<=maxLen/\WfU u) Tryz.underlying31 FU (by omega) gB (fun _ _ _ hh=>Om Tryz.underlying85 rfl rfl rfl rfl rfl rfl Tryz.underlying50 Tryz.underlying48 Tryz.underlying9 FU FP EE sW hh) hh)
  (fun _ _ _ hh=>pq (encA:=kW) (Q:=fun q=>q<=9223372036854775807) Tryz.underlying59 yD (by omega) (fun _=>rfl) (fun _ _ _ hh=>by
    obtain⟨k,hk,_,hz⟩:=DataW.trod_int Tryz.underlying3 hh;exact⟨k,hk,by have:=(bounds_i64 hz).2;omega⟩) hh) h
theorem open_run(hv:Value.okWide Tryz.prog W r b0 42 v)(h:DataW.Trod enc Tryz.prog W base sp held 42 v d p):∃n z A m c l,v=jW n z A m c/\AcsM W W.heap.size A m l/\m<=maxLen/\∀a∈l,AcB a.1:=by
 obtain⟨cs,rfl,hsz⟩:=okWide_struct Tryz.underlying42 hv;obtain⟨fuel,hf⟩:=h;obtain⟨n,z,A,m,c,l,he,k⟩:=Ov Tryz.underlying42 rfl rfl rfl rfl rfl rfl Tryz.underlying3 Qo yD Qw (fun _ _ _ hh=>pq (encA:=acC) (Q:=fun a=>AcM W W.heap.size a/\AcB a.1) Tryz.underlying40 FT (by omega) tq (fun _ _ _ hh=>PX hh) hh) hf;refine⟨n,z,A,m,c,l,?_,k⟩;have:cs.toList= [.int .i64 n,.int .i64 z,.slice A m c]:=he;unfold jW;rw[show cs= #[.int .i64 n,.int .i64 z,.slice A m c] by rw[<-Array.toArray_toList (xs:=cs),this]]
end
end
