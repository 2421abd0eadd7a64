/-
  Lemmas of the card.
-/
import Derived.Lib.BufferMore
import Derived.Shelf.SlSortCmp.NoneTotal
import Derived.Test.YtknefelegjlgnaaGreatDoorCCCp13
set_option maxRecDepth 100000
set_option maxHeartbeats 16000000
namespace Go.Proofs.YtknefelegjlgnaaGreatDoor
open Go.RowKit
def UnE(a b:List Itm)(w:UW)(e:Ending)(w':UW):Prop :=
 ((∃r A c,UniR a b r/\e= .returned (.tuple #[.slice A r.length c,.int .i64 0])/\Sl w' w'.heap.size 3 A r.length (flat itC r)/\r.length<=c/\c<=maxLen)∨ (jS a b/\e= .returned (.tuple #[.slice none 0 0,.int .i64 16])))/\U0 w w'
theorem Lu(A B:OA)(n1 c1 n2 c2 Bs:Nat)(a b:List Itm)(w:UW)(h0:Sl w Bs 3 A n1 (flat itC a))(h1:Sl w Bs 3 B n2 (flat itC b))(hB:Bs<=w.heap.size)(hn1:n1<=400000)(hn2:n2<=400000)(ha:AscI a)(hb:AscI b) :
  Calls Tryz.prog 75 #[.slice A n1 c1,.slice B n2 c2] w (UnE a b w):=by
 have D:=ai (h0.len di (by omega));have HL2:=ai (h1.len di (by omega));have H0:=ai h0;have H1:=ai h1;have t:=ai ha;have HAB:=ai hb;clear h0 h1 ha hb;obtain⟨i0,hi,hz0,hz1,hz2⟩:=info_parts lL;have Hi:=ai hi;have k:=ai hz0;have o:=ai hz1;have r:=ai hz2;clear hi hz0 hz1 hz2
 go_enter Tryz.func75,Tryz.ntmps75
 go_wp2_with fail
 go_loopw[6,7,8] (fun q u v wr=>∃(out:List Itm)(A':OA)(c' i j:Nat),u= .int .i64 (i:Int)/\v= .int .i64 (j:Int)/\q= .slice A' out.length c'/\out.length<=c'/\c'<=maxLen/\Hid (i<=n1/\j<=n2/\UAt a b i j out)/\Hid (Apd wr w.heap.size 118 3 A' out.length c' (flat itC out))/\U6 w wr) (fun _ u v _=>(n1 - (intOf u).toNat)+ (n2 - (intOf v).toNat))
 case atStart=>exact⟨[],none,0,0,0,rfl,rfl,rfl,Nat.le_refl _,ZX _,⟨ZX _,ZX _,UAt.start a b⟩,.inr ⟨rfl,rfl,rfl⟩,ah _ _⟩
 case round =>
  obtain⟨out,A',c',i,j,rfl,rfl,rfl,hmc,hcm,hAt,hO,hBel⟩:=hrel;have HO:=ai hO.o;have d:=ai hBel.o;obtain⟨hi1,hj2,hat⟩:=hAt.o;have HAT:=ai hat
  have hol:=hat.len;obtain⟨m,hm⟩:=NX9 out.length
  have HM:=ai hm;rw[hm]at hmc hol HO ⊢;have zr:w.heap.size<=wr.heap.size:=d.o.size;clear hO hBel hm hAt hat
  by_cases hi:i<n1
  . have hiz: (i:Int)< (n1:Int):=by omega
    have hie: ((i:Int) == (n1:Int))=false:=by rw[beq_eq_false_iff_ne];omega
    obtain⟨ba,oa,x,rfl,hba,hx,x0,s,z⟩:=(H0.o.below d.o hB).it hi;have HX:=ai hx;clear hx;obtain⟨⟨x1,x2⟩,xs⟩:=x;simp only at x0 s z;by_cases hj:j<n2
    . have hjz: (j:Int)< (n2:Int):=by omega
      have hje: ((j:Int) == (n2:Int))=false:=by rw[beq_eq_false_iff_ne];omega
      obtain⟨bb,ob,y,rfl,hbb,hy,y0,y1',y2'⟩:=(H1.o.below d.o hB).it hj;have C:=ai hy;clear hy;obtain⟨⟨y1,y2⟩,ys⟩:=y;simp only at y0 y1' y2';have HCM:=ai (fun W=>wS (x1,x2) (y1,y2) W);unfold CmE at HCM;simp only[aA]at HCM;obtain⟨cz,hcz⟩:=NX9 (dC (x1,x2) (y1,y2))
      rw[hcz]at HCM;have E:=ai hcz;clear hcz;have H3:Hid (cz= -1/\ltD (x1,x2) (y1,y2)∨cz=0/\ (x1,x2)= (y1,y2)∨cz=1/\ltD (y1,y2) (x1,x2)):=by
       show _∨_∨_;rw[<-E.o];unfold dC;by_cases e: (x1,x2)= (y1,y2)
       . rw[if_pos e];exact .inr (.inl ⟨rfl,e⟩)
       . rw[if_neg e]
         by_cases l:ltD (x1,x2) (y1,y2)
         . rw[if_pos l];exact .inl ⟨rfl,l⟩
         . rw[if_neg l]
           refine .inr (.inr ⟨rfl,?_⟩);by_cases l2:ltD (y1,y2) (x1,x2)
           . exact l2
           . exact absurd (mY l l2) e
      have H:ba<wr.heap.size:=by omega
      have I:bb<wr.heap.size:=by omega
      go_wp2_with fail
      go_region_held3 (fun w'=>w'.cell? ⟨ba,oa+i*3,none⟩=some (.int .u64 x1)/\w'.cell? ⟨ba,oa+i*3+1,none⟩=some (.int .u64 x2)/\w'.cell? ⟨bb,ob+j*3,none⟩=some (.int .u64 y1)/\w'.cell? ⟨bb,ob+j*3+1,none⟩=some (.int .u64 y2))
       (first | exact⟨x0,s,y0,y1'⟩ | exact⟨n0.o,n1'.o,F.o,n3.o⟩)
       (first
         | (go_at_call 55;refine(HCM.o _).mono ?_;rintro e w8 ⟨rfl,hb8⟩
            have n0:=ai ((hb8.cell (p:=⟨ba,oa+i*3,none⟩) (by show ba<_;simp;omega)).trans x0);have n1':=ai ((hb8.cell (p:=⟨ba,oa+i*3+1,none⟩) (by show ba<_;simp;omega)).trans s);have F:=ai ((hb8.cell (p:=⟨bb,ob+j*3,none⟩) (by show bb<_;simp;omega)).trans y0);have n3:=ai ((hb8.cell (p:=⟨bb,ob+j*3+1,none⟩) (by show bb<_;simp;omega)).trans y1');have f:U6 wr w8:=(ah _ wr).drew.trans hb8;clear hb8))
      have x0:=(f.o.cell (p:=⟨ba,oa+i*3,none⟩) (by show ba<_;omega)).trans x0;have s:=(f.o.cell (p:=⟨ba,oa+i*3+1,none⟩) (by show ba<_;omega)).trans s;have z:=(f.o.cell (p:=⟨ba,oa+i*3+2,none⟩) (by show ba<_;omega)).trans z;have y0:=(f.o.cell (p:=⟨bb,ob+j*3,none⟩) (by show bb<_;omega)).trans y0;have y1':=(f.o.cell (p:=⟨bb,ob+j*3+1,none⟩) (by show bb<_;omega)).trans y1';have y2':=(f.o.cell (p:=⟨bb,ob+j*3+2,none⟩) (by show bb<_;omega)).trans y2'
      replace HO:=ai (HO.o.below f.o)
      replace d:U6 w w8:=d.o.trans (f.o.mono zr)
      have h:w.heap.size<=w8.heap.size:=d.o.size;clear n0 n1' F n3 f E;rcases H3.o with ⟨hcz,hl⟩ | ⟨hcz,he⟩ | ⟨hcz,hl⟩
      . have HN:Hid (i+1<=n1/\j<=n2/\UAt a b (i+1) j (out++ [((x1,x2),xs)])):=⟨by omega,by omega,HAT.o.fst t.o HX.o (rP HAB.o C.o hl)⟩
        subst hcz;clear H3 hl HCM;go_wp2_with fail
        go_quiet(fail)
        go_wp2_with (at_builtin;refine iL (.tmp 58) (.tmp 63) 29 rfl ?_)
        refine aH ?_;refine dZ (base:=w.heap.size) (size:=3) _ rfl (.tmp 58) (.tmp 63) 29 rfl 118 i0 _ 32 Tryz.underlying29 Hi.o k.o o.o r.o rfl (by decide) A' m c' _ rfl (Apd.below (oJ HO.o _) ((ah _ _).alloc aj _)) _ _ 1 1 (flat itC [((x1,x2),xs)]) rfl (Sl.of_bk (n:=1) (size:=3) (Bk.new _ _ _) rfl) (jk _) (by unfold maxLen;omega) (by omega) (by rw[Z9];exact Nat.le_succ_of_le h) ?_;intro A4 c4 w4 c hb4 hn4 hm4 _;rw[<-bI]at c;have g:=ai c;have HB4:U6 w w4:=(Below.alloc (dm d.o _) h _).trans hb4;clear c hb4;go_wp2_with fail;go_roundw
        case rel=>exact⟨out++ [((x1,x2),xs)],A4,c4,i+1,j,by go_num,by go_num,by rw[af,HM.o];rfl,by rw[af,HM.o];exact hn4,hm4,HN.o,by rw[af,HM.o];exact g.o,HB4.o⟩
        case measure=>simp[intOf];omega
      . injection he with he1 he2
        subst he1;subst he2;subst hcz;have t2:=lF xs ys;have l1: (xs.toList != ys.toList)=!(decide (xs=ys)):=by rw[<-lF];rfl
        clear H3 HCM;by_cases hs:xs=ys
        . subst hs
          have HN:Hid (i+1<=n1/\j+1<=n2/\UAt a b (i+1) (j+1) (out++ [((x1,x2),xs)])):=⟨by omega,by omega,HAT.o.both t.o HAB.o HX.o C.o⟩
          rw[decide_eq_true rfl]at t2 l1;go_wp2_with fail
          go_quiet(fail)
          go_wp2_with (at_builtin;refine iL (.tmp 58) (.tmp 63) 29 rfl ?_)
          refine aH ?_;refine dZ (base:=w.heap.size) (size:=3) _ rfl (.tmp 58) (.tmp 63) 29 rfl 118 i0 _ 32 Tryz.underlying29 Hi.o k.o o.o r.o rfl (by decide) A' m c' _ rfl (Apd.below (oJ HO.o _) ((ah _ _).alloc aj _)) _ _ 1 1 (flat itC [((x1,x2),xs)]) rfl (Sl.of_bk (n:=1) (size:=3) (Bk.new _ _ _) rfl) (jk _) (by unfold maxLen;omega) (by omega) (by rw[Z9];exact Nat.le_succ_of_le h) ?_;intro A4 c4 w4 c hb4 hn4 hm4 _;rw[<-bI]at c;have g:=ai c;have HB4:U6 w w4:=(Below.alloc (dm d.o _) h _).trans hb4;clear c hb4;go_wp2_with fail;go_roundw
          case rel=>exact⟨out++ [((x1,x2),xs)],A4,c4,i+1,j+1,by go_num,by go_num,by rw[af,HM.o];rfl,by rw[af,HM.o];exact hn4,hm4,HN.o,by rw[af,HM.o];exact g.o,HB4.o⟩
          case measure=>simp[intOf];omega
        . have G:Hid (jS a b):=Eh HX.o C.o rfl hs
          rw[decide_eq_false hs]at t2 l1;clear hs;go_wp2_with fail
          go_quiet(fail)
          go_wp2_with fail;go_ret2
          exact⟨.inr ⟨G.o,rfl⟩,dm d.o _⟩
      . have HN:Hid (i<=n1/\j+1<=n2/\UAt a b i (j+1) (out++ [((y1,y2),ys)])):=⟨by omega,by omega,HAT.o.snd HAB.o C.o (rP t.o HX.o hl)⟩
        subst hcz;clear H3 hl HCM;go_wp2_with fail
        go_quiet(fail)
        go_wp2_with (at_builtin;refine iL (.tmp 69) (.tmp 74) 29 rfl ?_)
        refine aH ?_;refine dZ (base:=w.heap.size) (size:=3) _ rfl (.tmp 69) (.tmp 74) 29 rfl 118 i0 _ 32 Tryz.underlying29 Hi.o k.o o.o r.o rfl (by decide) A' m c' _ rfl (Apd.below (oJ HO.o _) ((ah _ _).alloc aj _)) _ _ 1 1 (flat itC [((y1,y2),ys)]) rfl (Sl.of_bk (n:=1) (size:=3) (Bk.new _ _ _) rfl) (jk _) (by unfold maxLen;omega) (by omega) (by rw[Z9];exact Nat.le_succ_of_le h) ?_;intro A4 c4 w4 c hb4 hn4 hm4 _;rw[<-bI]at c;have g:=ai c;have HB4:U6 w w4:=(Below.alloc (dm d.o _) h _).trans hb4;clear c hb4;go_wp2_with fail;go_roundw
        case rel=>exact⟨out++ [((y1,y2),ys)],A4,c4,i,j+1,by go_num,by go_num,by rw[af,HM.o];rfl,by rw[af,HM.o];exact hn4,hm4,HN.o,by rw[af,HM.o];exact g.o,HB4.o⟩
        case measure=>simp[intOf];omega
    . have hj':j=n2:=by omega
      subst hj';have HN:Hid (i+1<=n1/\j<=j/\UAt a b (i+1) j (out++ [((x1,x2),xs)])):=⟨by omega,Nat.le_refl _,HAT.o.fst t.o HX.o (rG (by rw[HL2.o];exact Nat.le_refl _))⟩
      go_wp2_with fail
      go_quiet(fail)
      go_wp2_with (at_builtin;refine iL (.tmp 58) (.tmp 63) 29 rfl ?_)
      refine aH ?_;refine dZ (base:=w.heap.size) (size:=3) _ rfl (.tmp 58) (.tmp 63) 29 rfl 118 i0 _ 32 Tryz.underlying29 Hi.o k.o o.o r.o rfl (by decide) A' m c' _ rfl (Apd.below (oJ HO.o _) ((ah _ _).alloc aj _)) _ _ 1 1 (flat itC [((x1,x2),xs)]) rfl (Sl.of_bk (n:=1) (size:=3) (Bk.new _ _ _) rfl) (jk _) (by unfold maxLen;omega) (by omega) (by rw[Z9];exact Nat.le_succ_of_le zr) ?_;intro A4 c4 w4 c hb4 hn4 hm4 _;rw[<-bI]at c;have g:=ai c;have HB4:U6 w w4:=(Below.alloc (dm d.o _) zr _).trans hb4;clear c hb4;go_wp2_with fail;go_roundw
      case rel=>exact⟨out++ [((x1,x2),xs)],A4,c4,i+1,j,by go_num,by go_num,by rw[af,HM.o];rfl,by rw[af,HM.o];exact hn4,hm4,HN.o,by rw[af,HM.o];exact g.o,HB4.o⟩
      case measure=>simp[intOf];omega
  . have hi':i=n1:=by omega
    subst hi';have hiz:¬(i:Int)< (i:Int):=by omega
    by_cases hj:j<n2
    . have hjz: (j:Int)< (n2:Int):=by omega
      obtain⟨bb,ob,y,rfl,hbb,hy,y0,y1',y2'⟩:=(H1.o.below d.o hB).it hj;have C:=ai hy;clear hy;obtain⟨⟨y1,y2⟩,ys⟩:=y;simp only at y0 y1' y2';have HN:Hid (i<=i/\j+1<=n2/\UAt a b i (j+1) (out++ [((y1,y2),ys)])):=⟨Nat.le_refl _,by omega,HAT.o.snd HAB.o C.o (rG (by rw[D.o];exact Nat.le_refl _))⟩
      go_wp2_with fail
      go_quiet(fail)
      go_wp2_with (at_builtin;refine iL (.tmp 69) (.tmp 74) 29 rfl ?_)
      refine aH ?_;refine dZ (base:=w.heap.size) (size:=3) _ rfl (.tmp 69) (.tmp 74) 29 rfl 118 i0 _ 32 Tryz.underlying29 Hi.o k.o o.o r.o rfl (by decide) A' m c' _ rfl (Apd.below (oJ HO.o _) ((ah _ _).alloc aj _)) _ _ 1 1 (flat itC [((y1,y2),ys)]) rfl (Sl.of_bk (n:=1) (size:=3) (Bk.new _ _ _) rfl) (jk _) (by unfold maxLen;omega) (by omega) (by rw[Z9];exact Nat.le_succ_of_le zr) ?_;intro A4 c4 w4 c hb4 hn4 hm4 _;rw[<-bI]at c;have g:=ai c;have HB4:U6 w w4:=(Below.alloc (dm d.o _) zr _).trans hb4;clear c hb4;go_wp2_with fail;go_roundw
      case rel=>exact⟨out++ [((y1,y2),ys)],A4,c4,i,j+1,by go_num,by go_num,by rw[af,HM.o];rfl,by rw[af,HM.o];exact hn4,hm4,HN.o,by rw[af,HM.o];exact g.o,HB4.o⟩
      case measure=>simp[intOf];omega
    . have hj':j=n2:=by omega
      subst hj';have hjz:¬(j:Int)< (j:Int):=by omega
      have HU:Hid (UniR a b out):=HAT.o.done (by rw[D.o];exact Nat.le_refl _) (by rw[HL2.o];exact Nat.le_refl _);go_wp2_with fail;go_ret2
      exact⟨.inl ⟨out,A',c',HU.o,by rw[HM.o];rfl,by rw[HM.o];exact HO.o.sl,by rw[HM.o];exact hmc,hcm⟩,d.o⟩
def KeE(p:List Itm)(l:List Dig)(w:UW)(e:Ending)(w':UW):Prop :=
 ∃A c,e= .returned (.slice A (fP p l).length c)/\Sl w' w'.heap.size 3 A (fP p l).length (flat itC (fP p l))/\ (fP p l).length<=c/\c<=maxLen/\U0 w w'
theorem Lr{p:List Itm}{l:List Dig}{k:Nat}{x:Itm}(h:p[k]? =some x):fP (p.take (k+1)) l=if x.1∈l then fP (p.take k) l++ [x] else fP (p.take k) l:=by
 rw[bJ h];unfold fP;rw[List.filter_append];by_cases hx:x.1∈l
 . rw[if_pos hx];congr 1;simp[hx]
 . rw[if_neg hx];simp[hx]
section
open Go.Maps
def inT(l:List Dig)(k:Nat):Dig->Bool:=fun d=>decide (d∈l.take k)
theorem OE(l:List Dig):inT l 0=fun _=>false:=by funext d;simp[inT]
theorem Pq{l:List Dig}{k:Nat}{x:Dig}(h:l[k]? =some x):setB (inT l k) x=inT l (k+1):=by
 funext d
 rw[Bool.eq_iff_iff,setB_true];unfold inT;rw[decide_eq_true_iff,decide_eq_true_iff,bJ h,List.mem_append,ae];exact⟨fun h=>h.symm,fun h=>h.symm⟩
theorem RF{l:List Dig}{k:Nat}(h:l.length<=k)(d:Dig):inT l k d=decide (d∈l):=by unfold inT;rw[ZU h]
theorem MW(A:OA)(n c B:Nat)(A1:OA)(n1 c1:Nat)(p:List Itm)(l:List Dig)(w:UW)(h0:Sl w B 3 A n (flat itC p))(h1:Sl w B 2 A1 n1 (flat dgC l))(hB:B<=w.heap.size)(hn:n<=900000)(hn1:n1<=500000000)(hw:∀d∈l,WfD d)(hwp:∀i∈p,WfD i.1) :
  Calls Tryz.prog 21 #[.slice A n c,.slice A1 n1 c1] w (KeE p l w):=by
 have HL:=ai (h0.len di (by omega));have E:=ai (h1.len ig (by omega));have H0:=ai h0;have H1:=ai h1;have HW:=ai hw;have F:=ai hwp;clear h0 h1 hw hwp;obtain⟨i0,hi,hz0,hz1,hz2⟩:=info_parts lL;have Hi:=ai hi;have G:=ai hz0;have H:=ai hz1;have I:=ai hz2;clear hi hz0 hz1 hz2;have hmm:=@run_makeMap Tryz.prog
 go_enter Tryz.func21,Tryz.ntmps21
 obtain⟨W0,hW0⟩:=NX9 (w.alloc (.map #[] 0))
 have y:Hid (Sd W0 w.heap.size 0 (inT l 0)):=by rw[OE,<-hW0];exact Sd.made w
 have HB0:U6 w W0:=by rw[<-hW0];exact(ah _ w).alloc aj _
 go_wp2_with fail;clear hmm hW0
 go_loopw[14] (fun i wr=>∃k:Nat,k<=n1/\i= .int .i64 k/\Hid (Sd wr w.heap.size k (inT l k))/\U6 w wr) (fun i _=>n1 - (intOf i).toNat)
 case atStart=>exact⟨0,ZX _,rfl,y.o,HB0.o⟩
 case round =>
  obtain⟨k,hk,rfl,hS,hBel⟩:=hrel;have HS:=ai hS.o;have b:=ai hBel.o;have zr:w.heap.size<=wr.heap.size:=b.o.size;have hlts:w.heap.size<wr.heap.size:=HS.o.lt;clear hS hBel y HB0;by_cases hlt:k<n1
  . obtain⟨bb,off,x,rfl,hbB,hx,y0,y1⟩:=(H1.o.below b.o hB).dg hlt
    have hlz: (k:Int)< (n1:Int):=by omega
    have HX:=ai hx;have h:=ai (kG (HW.o x (Z7 hx)));clear hx;obtain⟨x1,x2⟩:=x;simp only at y0 y1;obtain⟨W,hW⟩:=NX9 (wr.alloc (.cells #[.int .u64 x1,.int .u64 x2] 50))
    have HS2:Hid (Sd W w.heap.size k (inT l k)):=by rw[<-hW];exact HS.o.below ((ah wr.heap.size wr).alloc aj _) hlts
    have HB2:U6 w W:=by rw[<-hW];exact b.o.alloc zr _
    have z:Hid (Bk W wr.heap.size 50 #[.int .u64 x1,.int .u64 x2]):=by rw[<-hW];exact Bk.new wr _ _
    obtain⟨r0,r1,_,_⟩:=z.o.two;have a:=ai hW;clear hW
    go_wp2_with (at_mapUpdate;refine aN ?_)
    rw[a.o]
    go_wp2_with (at_mapUpdate;refine aN ?_)
    refine aH ?_;refine Am rfl _ _ _ 105 rfl Tryz.underlying105 w.heap.size k _ rfl HS2.o (by unfold maxLen;omega) (x1,x2) h.o rfl rfl ?_;intro w3 hS3 hg3;rw[Pq HX.o]at hS3;have J:=ai hS3;have HB3:U6 w w3:=HB2.o.grown hg3 HB2.o.size (fun g e=>by cases e;omega);clear hS3 hg3 HS2 HB2 z r0 r1 y0 y1 a;go_wp2_with fail;go_roundw
    case rel=>exact⟨k+1,hlt,by go_num,J.o,HB3.o⟩
    case measure=>simp[intOf];omega
  . have hlz:¬(k:Int)< (n1:Int):=by omega
    obtain⟨f,hwo⟩:∃f,f=wr:=⟨_,rfl⟩
    subst hwo;have C:Hid (∀d,inT l k d=decide (d∈l)):=RF (by rw[E.o];omega);obtain⟨s,hs⟩:=NX9 (inT l k)
    rw[hs]at HS C;clear hs;obtain⟨w0,hw0⟩:∃w0,w0=w:=⟨_,rfl⟩
    go_wp2_with fail
    go_loopw[8,23] (fun q i wr=>∃(k2 m:Nat)(A':OA)(c':Nat),k2<=n/\i= .int .i64 k2/\q= .slice A' m c'/\m<=c'/\c'<=maxLen/\m<=k2/\Hid ((fP (p.take k2) l).length=m)/\Hid (Apd wr f.heap.size 118 3 A' m c' (flat itC (fP (p.take k2) l)))/\U6 f wr) (fun _ i _=>n - (intOf i).toNat)
    case atStart=>exact⟨0,0,none,0,ZX _,rfl,rfl,Nat.le_refl _,ZX _,Nat.le_refl _,rfl,.inr ⟨rfl,rfl,rfl⟩,ah _ _⟩
    case round =>
     obtain⟨k2,m,A',c',hk2,rfl,rfl,hmc,hcm,hmk,hM,hO,hBel⟩:=hrel;have HM:=ai hM.o;have HO:=ai hO.o;have j:=ai hBel.o;have N:f.heap.size<=wr.heap.size:=j.o.size;clear hM hO hBel;by_cases hlt2:k2<n
     . obtain⟨bb,off,x,rfl,hbB,hx,y0,y1,y2⟩:=((H0.o.below b.o hB).below j.o (by omega)).it hlt2
       have D: (k2:Int)< (n:Int):=by omega
       have HX:=ai hx;have h:=ai (kG (F.o x (Z7 hx)));clear hx;obtain⟨⟨x1,x2⟩,xs⟩:=x;simp only at y0 y1 y2 h;obtain⟨W,hW⟩:=NX9 (wr.alloc (.cells #[.int .u64 x1,.int .u64 x2,.string xs] 118))
       have r:U6 wr W:=by rw[<-hW];exact(ah _ wr).alloc aj _
       have t:Hid (Bk W wr.heap.size 118 #[.int .u64 x1,.int .u64 x2,.string xs]):=by rw[<-hW];exact Bk.new wr _ _
       have O:wr.heap.size<W.heap.size:=t.o.lt;have K:Hid (Bk (W.alloc (.cells #[.int .u64 x1,.int .u64 x2,.string xs] 118)) (wr.heap.size+1) 118 #[.int .u64 x1,.int .u64 x2,.string xs]):=by
        have e:=Bk.new W 118 #[.int .u64 x1,.int .u64 x2,.string xs];rw[<-hW,Z9]at e;rw[<-hW];exact e
       have HOW:=ai (HO.o.below r.o);have u:U6 f W:=j.o.trans (r.o.mono N);have hlk:=Sd.look (d:=(x1,x2)) (HS.o.below u.o hlts) Tryz.underlying105 h.o;rw[C.o]at hlk;simp only at hlk;obtain⟨r0,r1,r2⟩:=t.o.three;have a:=ai hW;have o:Hid (fP (p.take (k2+1)) l=if((x1,x2):Dig)∈l then fP (p.take k2) l++ [((x1,x2),xs)] else fP (p.take k2) l):=Lr HX.o;clear hW r t;by_cases hin: ((x1,x2):Dig)∈l
       . have HK:Hid (fP (p.take (k2+1)) l=fP (p.take k2) l++ [((x1,x2),xs)]):=by show _=_;rw[o.o,if_pos hin]
         have hdt:decide (((x1,x2):Dig)∈l)=true:=decide_eq_true hin;rw[hdt]at hlk;rw[<-a.o]at hlk r0 r1 r2;clear hin o hdt
         go_wp2_with (at_builtin;refine iL (.tmp 31) (.tmp 33) 29 rfl ?_)
         rw[a.o];refine aH ?_;refine dZ (base:=f.heap.size) (size:=3) _ rfl (.tmp 31) (.tmp 33) 29 rfl 118 i0 _ 32 Tryz.underlying29 Hi.o G.o H.o I.o rfl (by decide) A' m c' _ rfl (Apd.below HOW.o ((ah _ _).alloc aj _)) _ _ 1 1 (flat itC [((x1,x2),xs)]) rfl (Sl.of_bk (n:=1) (size:=3) K.o rfl) (jk _) (by unfold maxLen;omega) (by omega) (by rw[Z9];omega) ?_;intro A4 c4 w4 v hb4 hn4 hm4 _;rw[<-bI,<-HK.o]at v;have L:=ai v;have HB4:U6 f w4:=(Below.alloc u.o (by omega) _).trans hb4;have M:Hid ((fP (p.take (k2+1)) l).length=m+1):=by show _=_;rw[HK.o,af,HM.o];rfl
         clear v hb4;go_wp2_with fail;go_roundw
         case rel=>exact⟨k2+1,m+1,A4,c4,hlt2,by go_num,rfl,hn4,hm4,by omega,M.o,L.o,HB4.o⟩
         case measure=>simp[intOf];omega
       . have HK:Hid (fP (p.take (k2+1)) l=fP (p.take k2) l):=by show _=_;rw[o.o,if_neg hin]
         have hdt:decide (((x1,x2):Dig)∈l)=false:=decide_eq_false hin;rw[hdt]at hlk;rw[<-a.o]at hlk r0 r1 r2;clear hin o hdt;go_wp2_with fail;rw[a.o];go_roundw
         case rel=>exact⟨k2+1,m,A',c',hlt2,by go_num,rfl,hmc,hcm,by omega,by rw[HK.o];exact HM.o,by rw[HK.o];exact HOW.o,u.o⟩
         case measure=>simp[intOf];omega
     . have D:¬(k2:Int)< (n:Int):=by omega
       have HT:Hid (p.take k2=p):=ZU (by rw[HL.o];omega);rw[HT.o]at HM HO;go_wp2_with fail;go_ret
       exact⟨A',c',by rw[HM.o];rfl,by rw[HM.o];exact HO.o.sl,by rw[HM.o];exact hmc,hcm,b.o.trans (j.o.mono b.o.size)⟩
end
section
open Go.Maps
def bkO(A:OA):Option Nat:=A.map Addr.block
theorem jd(A:OA)(n c:Nat): (Value.slice A n c).ownBlock=bkO A:=by cases A <;> rfl
section
variable {P : Program} {w : UW} {base size n c : Nat} {e : TypeId} {A : OA} {xs : List UY}
theorem Jt(t ty:TypeId)(i:TypeInfo)(z:UY)(bytes:Nat)(ht:P.underlying t=some (.slice e))(hi:P.info? e=some i)(hz:i.zero=some z)
  (hsize:i.size=size) (hby:i.bytes=bytes) (hzs:z.cells.size=size) (hsz:0<size) (hown:w.ownsRow base e size (.slice A n c) n xs)
  {B:Nat} {A':OA} {m c':Nat} {ys:List UY} (hsl:Sl w B size A' m ys) (h1:∀u∈ys,u.oneCell'=true) (hm:0<m)
  (h63:n+m<=maxLen) (hbytes: (n+m)*bytes<=140737488355328) (hbase:base<=w.heap.size) :
  ∃A2 c2 w',(Builtin.append_ #[t,t] ty #[.slice A n c,.slice A' m c']).run P w= .ok (.slice A2 (n+m) c2) w'/\w'.ownsRow base e size (.slice A2 (n+m) c2) (n+m) (xs++ys)/\w.grownBy w' (bkO A)/\n+m<=c2/\c2<=maxLen/\∀g,bkO A2=some g->bkO A=some g∨w.heap.size<=g:=by
 obtain⟨A2,c2,w',hr,ho',hg,hc1,hc2⟩:=lW (P:=P) t ty i z bytes ht hi hz hsize hby hzs hsz hown (c:=c') hsl h1 h63 hbytes hbase;obtain⟨A3,c3,w3,row,hr2,_,_,_,h5⟩:=Jo (P:=P) t ty i z bytes ht hi hz hsize hby hzs hsz (Que.of_own hown) (c':=c') hsl h1 hm h63 hbytes hbase;rw[hr]at hr2;injection hr2 with e1 e2;injection e1 with e3 e4 e5;subst e3;subst e5;subst e2;rw[jd]at hg;refine⟨A2,c2,w',hr,ho',hg,hc1,hc2,fun g hgb=>?_⟩;rcases ho'.2 with ⟨hv,_⟩ | ⟨g',cap,cur,hv,_⟩
 . simp at hv
   rw[hv.1]at hgb;cases hgb
 . simp at hv
   obtain⟨rfl,_⟩:=hv;have:g'=g:=Option.some.inj hgb;subst this;rcases h5 g' 0 rfl with ⟨_,off,h⟩ | h
   . rw[h];exact .inl rfl
   . exact .inr h
theorem uN{ops:Array Oper}{rest:List Oper}{o:Oper}{a:Act}{Q:Exit->Act->UW->Prop}(hgd:o.guard=none)(s x:Operand)(t:TypeId)
  (ho:o.op= .call {callee:= .builtin .append,args:=#[s,x],argTypes:=#[t,t]})
  (e:TypeId) (i:TypeInfo) (z:UY) (bytes:Nat) (ht:P.underlying t=some (.slice e)) (hi:P.info? e=some i) (hz:i.zero=some z)
  (hsize:i.size=size) (hby:i.bytes=bytes) (hzs:z.cells.size=size) (hsz:0<size)
  (A:OA) (n c:Nat) (xs:List UY) (hs:a.eval s= .slice A n c) (hown:w.ownsRow base e size (.slice A n c) n xs)
  (B:Nat) (A':OA) (m c':Nat) (ys:List UY) (hx:a.eval x= .slice A' m c') (hsl:Sl w B size A' m ys) (h1:∀u∈ys,u.oneCell'=true) (hm:0<m)
  (h63:n+m<=maxLen) (hbytes: (n+m)*bytes<=140737488355328) (hbase:base<=w.heap.size)
  (h:∀A2 c2 w',w'.ownsRow base e size (.slice A2 (n+m) c2) (n+m) (xs++ys)->w.grownBy w' (bkO A)->n+m<=c2->c2<=maxLen-> (∀g,bkO A2=some g->bkO A=some g∨w.heap.size<=g)->wpList P ops Q rest (a.put o.dst (.slice A2 (n+m) c2)) w'):wpList P ops Q (o::rest) a w:=by
 refine wpList_plain hgd fun K hK=>?_;obtain⟨A2,c2,w',hr,ho',hg,hc1,hc2,hd⟩:=Jt (P:=P) t o.type i z bytes ht hi hz hsize hby hzs hsz hown (c':=c') hsl h1 hm h63 hbytes hbase;unfold Oper.wp;simp[execOp,ho,resolve,invoke,builtin,hs,hx,hr,Result.andThen];exact hK _ _ (h A2 c2 w' ho' hg hc1 hc2 hd)
end
structure Rw3(w:UW)(base:Nat)(e:TypeId)(A1:OA)(n1 c1:Nat)(A2:OA)(n2 c2:Nat)(A3:OA)(n3 c3:Nat)(l1 l2 l3:List Dig):Prop where
 a:w.ownsRow base e 2 (.slice A1 n1 c1) n1 (flat dgC l1)
 b:w.ownsRow base e 2 (.slice A2 n2 c2) n2 (flat dgC l2)
 c:w.ownsRow base e 2 (.slice A3 n3 c3) n3 (flat dgC l3)
 ab:∀g,bkO A1=some g->bkO A2≠some g
 bc:∀g,bkO A2=some g->bkO A3≠some g
 ca:∀g,bkO A3=some g->bkO A1≠some g
section
variable {w w' : UW} {base n1 c1 n2 c2 n3 c3 : Nat} {e : TypeId} {A1 A2 A3 : OA} {l1 l2 l3 : List Dig}
theorem Rw3.rot(h:Rw3 w base e A1 n1 c1 A2 n2 c2 A3 n3 c3 l1 l2 l3):Rw3 w base e A2 n2 c2 A3 n3 c3 A1 n1 c1 l2 l3 l1:=⟨h.b,h.c,h.a,h.bc,h.ca,h.ab⟩
theorem Rw3.upon(h:Rw3 w base e A1 n1 c1 A2 n2 c2 A3 n3 c3 l1 l2 l3)(hb:U0 w w'):Rw3 w' base e A1 n1 c1 A2 n2 c2 A3 n3 c3 l1 l2 l3 :=
 ⟨gJ h.a hb,gJ h.b hb,gJ h.c hb,h.ab,h.bc,h.ca⟩
theorem oL{n c:Nat}{A:OA}{xs:List UY}{row:Option Nat}(h:w.ownsRow base e 2 (.slice A n c) n xs)(hg:w.grownBy w' row)(hn:∀g,bkO A=some g->row≠some g):w'.ownsRow base e 2 (.slice A n c) n xs:=by
 refine⟨h.1,?_⟩;rcases h.2 with h2 | ⟨g,cap,cur,hv,h1,h2,h3⟩
 . exact .inl h2
 . refine .inr ⟨g,cap,cur,hv,h1,(hg.block g (Array.getElem?_eq_some_iff.1 h2).1 fun e=>?_).trans h2,h3⟩
   simp at hv;exact hn g (by rw[hv.1];rfl) e.symm
theorem Rw3.grown{row:Nat}(h:Rw3 w base e A1 n1 c1 A2 n2 c2 A3 n3 c3 l1 l2 l3)(hg:w.grownBy w' (some row))(hn:∀cs,w.heap[row]? ≠some (.cells cs e (0,0))):Rw3 w' base e A1 n1 c1 A2 n2 c2 A3 n3 c3 l1 l2 l3:=by
 have key:∀{n c:Nat}{A:OA}{xs:List UY},w.ownsRow base e 2 (.slice A n c) n xs->w'.ownsRow base e 2 (.slice A n c) n xs:=fun {n c A xs} h=>oL h hg fun g hgb e=>by
  cases e
  rcases h.2 with ⟨hv,_⟩ | ⟨g,cap,cur,hv,_,h2,_⟩
  . simp at hv;rw[hv.1]at hgb;cases hgb
  . simp at hv;rw[hv.1]at hgb;cases hgb;exact hn cur h2
 exact⟨key h.a,key h.b,key h.c,h.ab,h.bc,h.ca⟩
theorem Rw3.app{A:OA}{n c:Nat}{l:List Dig}(h:Rw3 w base e A1 n1 c1 A2 n2 c2 A3 n3 c3 l1 l2 l3)(ho:w'.ownsRow base e 2 (.slice A n c) n (flat dgC l))(hg:w.grownBy w' (bkO A1))(hd:∀g,bkO A=some g->bkO A1=some g∨w.heap.size<=g):Rw3 w' base e A n c A2 n2 c2 A3 n3 c3 l l2 l3:=by
 have lt:∀{n c:Nat}{A:OA}{xs:List UY},w.ownsRow base e 2 (.slice A n c) n xs->∀g,bkO A=some g->g<w.heap.size:=fun {n c A xs} h g hgb=>(h.lt g (by rw[jd];exact hgb)).2;refine⟨ho,oL h.b hg fun g h2 e=>h.ab g e h2,oL h.c hg fun g h2 e=>h.ca g h2 e,fun g hgb h2=>?_,h.bc,fun g h2 hgb=>?_⟩
 . rcases hd g hgb with h3 | h3
   . exact h.ab g h3 h2
   . have:=lt h.b g h2;omega
 . rcases hd g hgb with h3 | h3
   . exact h.ca g h2 h3
   . have:=lt h.c g h2;omega
theorem QC{n c:Nat}{A:OA}{l:List Dig}{d:Dig}(h:w.ownsRow base e 2 (.slice A (n+1) c) (n+1) (flat dgC (l++ [d]))):w.ownsRow base e 2 (.slice A n c) n (flat dgC l):=by
 have hl: (flat dgC l).length=n*2:=by
  have h1:=h.1;rw[bI,af]at h1;have: (flat dgC [d]).length=2:=rfl;omega
 refine⟨hl,?_⟩;rcases h.2 with ⟨_,h2⟩ | ⟨g,cap,cur,hv,h1,h2,h3,h4,h5,h6⟩
 . omega
 . simp at hv
   obtain⟨rfl,rfl⟩:=hv;refine .inr ⟨g,c,cur,rfl,h1,h2,by omega,h4,h5,?_⟩;have:=congrArg (List.take (n*2)) h6;rw[List.take_take,bI,<-hl,List.take_left]at this;rw[hl]at this;have e2:min (n*2) ((n+1)*2)=n*2:=by omega
   rwa[e2]at this
theorem Rw3.pop{d:Dig}(h:Rw3 w base e A1 (n1+1) c1 A2 n2 c2 A3 n3 c3 (l1++ [d]) l2 l3):Rw3 w base e A1 n1 c1 A2 n2 c2 A3 n3 c3 l1 l2 l3 :=
 ⟨QC h.a,h.b,h.c,h.ab,h.bc,h.ca⟩
end
def IY(l:List Dig)(n:Nat)(w:UW)(e:Ending)(w':UW):Prop :=
 ∃A c,e= .returned (.slice A n c)/\w'.ownsRow w.heap.size 50 2 (.slice A n c) n (flat dgC l)/\U0 w w'
theorem Lj(A:OA)(n c B:Nat)(l:List Dig)(w:UW)(h0:Sl w B 2 A n (flat dgC l))(hB:B<=w.heap.size)(hn:n<=1000000) :
  Calls Tryz.prog 51 #[.slice A n c] w (IY l n w):=by
 have H0:=ai h0;have HL:=ai (h0.len ig (by omega));obtain⟨i0,hi,hz0,hz1,hz2⟩:=info_parts lM;have Hi:=ai hi;have d:=ai hz0;have f:=ai hz1;have i:=ai hz2;clear hi hz0 hz1 hz2 h0;cases A with
 | none =>
   have hn0:n=0:=by
    rcases Nat.eq_zero_or_pos n with h | h
    . exact h
    . obtain⟨_,_,e,_⟩:=H0.o.2 h;cases e
   subst hn0;have hl:l= []:=List.eq_nil_of_length_eq_zero HL.o;subst hl;have hnil:∀W,(binOp .eql 47 (.slice none 0 c) (.slice none 0 0)).run Tryz.prog W= .ok (.bool true) W:=fun W=>Lib.run_eql_slice_nil_nil W _ _ Tryz.underlying47
   go_enter Tryz.func51,Tryz.ntmps51
   go_wp2_with fail;go_ret
   exact⟨none,0,rfl,⟨rfl,.inl ⟨rfl,rfl⟩⟩,ah _ _⟩
 | some a =>
   obtain⟨W,hW⟩:=NX9 (w.alloc (.cells #[] 50))
   have hb:U0 w W:=by rw[<-hW];exact(ah _ w).alloc aj _
   have HO:Hid (W.ownsRow w.heap.size 50 2 (.slice (some ⟨w.heap.size,0,none⟩) 0 0) 0 []):=by
    rw[<-hW];exact⟨rfl,.inr ⟨w.heap.size,0,#[],rfl,Nat.le_refl _,heap_alloc_new w _,Nat.le_refl _,ZX _,rfl,rfl⟩⟩
   have HS:=ai (H0.o.below hb hB);have HB:=ai hb;have HW:=ai hW;have hnil:∀W,(binOp .eql 47 (.slice (some a) n c) (.slice none 0 0)).run Tryz.prog W= .ok (.bool false) W:=fun W=>Lib.run_eql_slice_some_nil W _ _ _ Tryz.underlying47;clear hW hb
   go_enter Tryz.func51,Tryz.ntmps51
   go_wp2_with (at_builtin;refine iL (.tmp 5) (.tmp 6) 47 rfl ?_)
   rw[HW.o];refine aH ?_;refine jK (base:=w.heap.size) (size:=2) _ rfl (.tmp 5) (.tmp 6) 47 rfl 50 i0 _ 16 Tryz.underlying47 Hi.o d.o f.o i.o rfl (by decide) _ 0 [] rfl HO.o B (some a) n c (flat dgC l) rfl HS.o (kH _) (by unfold maxLen;omega) (by omega) HB.o.size ?_;intro A2 c2 w2 ho2 hg2 _ _;rw[List.nil_append]at ho2;have b:=ai ho2;have HB2:U6 w w2:=HB.o.grown hg2 HB.o.size (fun g e=>by cases e;exact Nat.le_refl _);clear ho2 hg2;rw[Nat.zero_add]at b ⊢;go_wp2_with fail;go_ret
   exact⟨A2,c2,rfl,b.o,HB2.o⟩
end
end Go.Proofs.YtknefelegjlgnaaGreatDoor
namespace Go.Proofs
open Go.Shelf
def Tryz.sortDig_ren:Go.Shelf.Ren:=⟨fun | 6=>54 | 15=>115 | 14=>114 | 28=>191 | 29=>192 | 20=>183 | 21=>184 | 22=>185 | 23=>186 | 24=>187 | 25=>188 | 26=>189 | 27=>190 | 46=>253 | 47=>254 | 48=>255 | 49=>256 | 50=>257 | 57=>296 | n=>n,fun | 22=>47 | 24=>50 | 25=>114 | 3=>3 | 39=>188 | 0=>0 | 53=>267 | 55=>48 | 4=>4 | 46=>261 | 45=>260 | 50=>181 | 5=>5 | 9=>9 | 66=>328 | 70=>332 | 76=>361 | 77=>362 | n=>n,fun | n=>n⟩
theorem Tryz.sortDig:Go.Proofs.SlLaysF0.n6 Tryz.prog Tryz.sortDig_ren:={
 mixed:=by kernel_rfl
 f6:=⟨Tryz.f54.name,by decide,Tryz.func54.trans (congrArg some (by kernel_rfl))⟩
 f14:=⟨Tryz.f114.name,by decide,Tryz.func114.trans (congrArg some (by kernel_rfl))⟩
 f15:=Tryz.func115.trans (congrArg some (by kernel_rfl))
 f20:=⟨Tryz.f183.name,by decide,Tryz.func183.trans (congrArg some (by kernel_rfl))⟩
 f21:=⟨Tryz.f184.name,by decide,Tryz.func184.trans (congrArg some (by kernel_rfl))⟩
 f22:=⟨Tryz.f185.name,by decide,Tryz.func185.trans (congrArg some (by kernel_rfl))⟩
 f23:=⟨Tryz.f186.name,by decide,Tryz.func186.trans (congrArg some (by kernel_rfl))⟩
 f24:=⟨Tryz.f187.name,by decide,Tryz.func187.trans (congrArg some (by kernel_rfl))⟩
 f25:=⟨Tryz.f188.name,by decide,Tryz.func188.trans (congrArg some (by kernel_rfl))⟩
 f26:=⟨Tryz.f189.name,by decide,Tryz.func189.trans (congrArg some (by kernel_rfl))⟩
 f27:=⟨Tryz.f190.name,by decide,Tryz.func190.trans (congrArg some (by kernel_rfl))⟩
 f28:=Tryz.func191.trans (congrArg some (by kernel_rfl))
 f29:=Tryz.func192.trans (congrArg some (by kernel_rfl))
 f46:=⟨Tryz.f253.name,by decide,Tryz.func253.trans (congrArg some (by kernel_rfl))⟩
 f47:=Tryz.func254.trans (congrArg some (by kernel_rfl))
 f48:=Tryz.func255.trans (congrArg some (by kernel_rfl))
 f49:=⟨Tryz.f256.name,by decide,Tryz.func256.trans (congrArg some (by kernel_rfl))⟩
 f50:=⟨Tryz.f257.name,by decide,Tryz.func257.trans (congrArg some (by kernel_rfl))⟩
 f57:=⟨Tryz.f296.name,by decide,Tryz.func296.trans (congrArg some (by kernel_rfl))⟩
 t0:=Tryz.underlying0
 a0:=Tryz.isAgg0
 z0:=Tryz.sizeOf0
 v0:=Tryz.zeroValue0
 t3:=Tryz.underlying3
 a3:=Tryz.isAgg3
 z3:=Tryz.sizeOf3
 v3:=Tryz.zeroValue3
 t4:=Tryz.underlying4
 a4:=Tryz.isAgg4
 z4:=Tryz.sizeOf4
 v4:=Tryz.zeroValue4
 t5:=Tryz.underlying5
 a5:=Tryz.isAgg5
 z5:=Tryz.sizeOf5
 v5:=Tryz.zeroValue5
 t9:=Tryz.underlying9
 a9:=Tryz.isAgg9
 z9:=Tryz.sizeOf9
 v9:=Tryz.zeroValue9
 t22:=Tryz.underlying47
 a22:=Tryz.isAgg47
 z22:=Tryz.sizeOf47
 v22:=Tryz.zeroValue47
 t25:=Tryz.underlying114
 a25:=Tryz.isAgg114
 z25:=Tryz.sizeOf114
 v25:=Tryz.zeroValue114
 t39:=Tryz.underlying188
 a39:=Tryz.isAgg188
 z39:=Tryz.sizeOf188
 v39:=Tryz.zeroValue188
 t45:=Tryz.underlying260
 a45:=Tryz.isAgg260
 z45:=Tryz.sizeOf260
 v45:=Tryz.zeroValue260
 t46:=Tryz.underlying261
 a46:=Tryz.isAgg261
 z46:=Tryz.sizeOf261
 v46:=Tryz.zeroValue261
 t50:=Tryz.underlying181
 a50:=Tryz.isAgg181
 z50:=Tryz.sizeOf181
 v50:=Tryz.zeroValue181
 t53:=Tryz.underlying267
 a53:=Tryz.isAgg267
 z53:=Tryz.sizeOf267
 v53:=Tryz.zeroValue267
 t55:=Tryz.underlying48
 a55:=Tryz.isAgg48
 z55:=Tryz.sizeOf48
 v55:=Tryz.zeroValue48
 t66:=Tryz.underlying328
 a66:=Tryz.isAgg328
 z66:=Tryz.sizeOf328
 v66:=Tryz.zeroValue328
 t70:=Tryz.underlying332
 a70:=Tryz.isAgg332
 z70:=Tryz.sizeOf332
 v70:=Tryz.zeroValue332
 t76:=Tryz.underlying361
 a76:=Tryz.isAgg361
 z76:=Tryz.sizeOf361
 v76:=Tryz.zeroValue361
 t77:=Tryz.underlying362
 a77:=Tryz.isAgg362
 z77:=Tryz.sizeOf362
 v77:=Tryz.zeroValue362}
end Go.Proofs
namespace Go.Proofs
open Go.Shelf
def Tryz.sortFil_ren:Go.Shelf.Ren:=⟨fun | 6=>129 | 15=>115 | 14=>214 | 28=>191 | 29=>192 | 20=>269 | 21=>270 | 22=>271 | 23=>272 | 24=>273 | 25=>274 | 26=>275 | 27=>276 | 46=>311 | 47=>254 | 48=>255 | 49=>312 | 50=>313 | 57=>335 | n=>n,fun | 22=>63 | 24=>82 | 25=>207 | 3=>3 | 39=>188 | 0=>0 | 53=>267 | 55=>48 | 4=>4 | 46=>261 | 45=>260 | 50=>181 | 5=>5 | 9=>9 | 66=>328 | 70=>332 | 76=>361 | 77=>362 | n=>n,fun | n=>n⟩
theorem Tryz.sortFil:Go.Proofs.SlLaysF0.n6 Tryz.prog Tryz.sortFil_ren:={
 mixed:=by kernel_rfl
 f6:=⟨Tryz.f129.name,by decide,Tryz.func129.trans (congrArg some (by kernel_rfl))⟩
 f14:=⟨Tryz.f214.name,by decide,Tryz.func214.trans (congrArg some (by kernel_rfl))⟩
 f15:=Tryz.func115.trans (congrArg some (by kernel_rfl))
 f20:=⟨Tryz.f269.name,by decide,Tryz.func269.trans (congrArg some (by kernel_rfl))⟩
 f21:=⟨Tryz.f270.name,by decide,Tryz.func270.trans (congrArg some (by kernel_rfl))⟩
 f22:=⟨Tryz.f271.name,by decide,Tryz.func271.trans (congrArg some (by kernel_rfl))⟩
 f23:=⟨Tryz.f272.name,by decide,Tryz.func272.trans (congrArg some (by kernel_rfl))⟩
 f24:=⟨Tryz.f273.name,by decide,Tryz.func273.trans (congrArg some (by kernel_rfl))⟩
 f25:=⟨Tryz.f274.name,by decide,Tryz.func274.trans (congrArg some (by kernel_rfl))⟩
 f26:=⟨Tryz.f275.name,by decide,Tryz.func275.trans (congrArg some (by kernel_rfl))⟩
 f27:=⟨Tryz.f276.name,by decide,Tryz.func276.trans (congrArg some (by kernel_rfl))⟩
 f28:=Tryz.func191.trans (congrArg some (by kernel_rfl))
 f29:=Tryz.func192.trans (congrArg some (by kernel_rfl))
 f46:=⟨Tryz.f311.name,by decide,Tryz.func311.trans (congrArg some (by kernel_rfl))⟩
 f47:=Tryz.func254.trans (congrArg some (by kernel_rfl))
 f48:=Tryz.func255.trans (congrArg some (by kernel_rfl))
 f49:=⟨Tryz.f312.name,by decide,Tryz.func312.trans (congrArg some (by kernel_rfl))⟩
 f50:=⟨Tryz.f313.name,by decide,Tryz.func313.trans (congrArg some (by kernel_rfl))⟩
 f57:=⟨Tryz.f335.name,by decide,Tryz.func335.trans (congrArg some (by kernel_rfl))⟩
 t0:=Tryz.underlying0
 a0:=Tryz.isAgg0
 z0:=Tryz.sizeOf0
 v0:=Tryz.zeroValue0
 t3:=Tryz.underlying3
 a3:=Tryz.isAgg3
 z3:=Tryz.sizeOf3
 v3:=Tryz.zeroValue3
 t4:=Tryz.underlying4
 a4:=Tryz.isAgg4
 z4:=Tryz.sizeOf4
 v4:=Tryz.zeroValue4
 t5:=Tryz.underlying5
 a5:=Tryz.isAgg5
 z5:=Tryz.sizeOf5
 v5:=Tryz.zeroValue5
 t9:=Tryz.underlying9
 a9:=Tryz.isAgg9
 z9:=Tryz.sizeOf9
 v9:=Tryz.zeroValue9
 t22:=Tryz.underlying63
 a22:=Tryz.isAgg63
 z22:=Tryz.sizeOf63
 v22:=Tryz.zeroValue63
 t25:=Tryz.underlying207
 a25:=Tryz.isAgg207
 z25:=Tryz.sizeOf207
 v25:=Tryz.zeroValue207
 t39:=Tryz.underlying188
 a39:=Tryz.isAgg188
 z39:=Tryz.sizeOf188
 v39:=Tryz.zeroValue188
 t45:=Tryz.underlying260
 a45:=Tryz.isAgg260
 z45:=Tryz.sizeOf260
 v45:=Tryz.zeroValue260
 t46:=Tryz.underlying261
 a46:=Tryz.isAgg261
 z46:=Tryz.sizeOf261
 v46:=Tryz.zeroValue261
 t50:=Tryz.underlying181
 a50:=Tryz.isAgg181
 z50:=Tryz.sizeOf181
 v50:=Tryz.zeroValue181
 t53:=Tryz.underlying267
 a53:=Tryz.isAgg267
 z53:=Tryz.sizeOf267
 v53:=Tryz.zeroValue267
 t55:=Tryz.underlying48
 a55:=Tryz.isAgg48
 z55:=Tryz.sizeOf48
 v55:=Tryz.zeroValue48
 t66:=Tryz.underlying328
 a66:=Tryz.isAgg328
 z66:=Tryz.sizeOf328
 v66:=Tryz.zeroValue328
 t70:=Tryz.underlying332
 a70:=Tryz.isAgg332
 z70:=Tryz.sizeOf332
 v70:=Tryz.zeroValue332
 t76:=Tryz.underlying361
 a76:=Tryz.isAgg361
 z76:=Tryz.sizeOf361
 v76:=Tryz.zeroValue361
 t77:=Tryz.underlying362
 a77:=Tryz.isAgg362
 z77:=Tryz.sizeOf362
 v77:=Tryz.zeroValue362}
end Go.Proofs
namespace Go.Proofs.YtknefelegjlgnaaGreatDoor
open Go.RowKit
section
open Go.RowKit Go.Shelf Go.Sort Go.Lib
attribute [local go_sem] Oper.semAt_some
instance :Inhabited Fl:=⟨(⟨#[]⟩,⟨#[]⟩)⟩
theorem Ef:∀a b:List UInt8,decide (Lib.compareBytes a b<0)=Op.bytesLess a b
 | [],[]=>rfl
 | [],_::_=>rfl
 | _::_,[]=>rfl
 | a::x,b::y=>by
   have ih:=Ef x y;simp only[Lib.compareBytes,Op.bytesLess];by_cases h1:a<b
   . simp[h1]
   . by_cases h2:b<a
     . have h3: (a == b)=false:=by rw[beq_eq_false_iff_ne];rintro rfl;exact h1 h2
       simp[h1,h2,h3]
     . have h3:a=b:=by
         apply UInt8.toNat_inj.1
         rw[UInt8.lt_iff_toNat_lt]at h1 h2;omega
       subst h3;rw[<-ih];simp[UInt8.lt_irrefl]
def cfO(x y:Fl):Int:=Lib.compareBytes x.1.data.toList y.1.data.toList
theorem uf(x y:Fl):ltOf cfO x y=less x.1 y.1:=Ef _ _
theorem UC:SWO (ltOf cfO) where
 irrefl x:=by rw[uf];exact jL _
 trans x y z h1 h2:=by rw[uf]at *;exact jZ h1 h2
 ntrans x y z h1 h2:=by
  rw[uf]at *;cases h3:less x.1 z.1 with
  | false=>rfl
  | true =>
    cases h4:less z.1 y.1 with
    | true=>rw[jZ h3 h4]at h1;cases h1
    | false =>
      have:=l9 h2 h4;rw[this]at h1;rw[h1]at h3;cases h3
theorem KX(x y:Fl)(W:UW):Calls Tryz.prog 130 #[.agg (flC x).toArray,.agg (flC y).toArray] W fun e w'=>e= .returned (.int .i64 (cfO x y))/\∃q os',w'=grow (W.drewN q) os':=by
 have hcon:=fun W'=>Tryz.strings_Compare x.1 y.1 W';obtain⟨a,a1⟩:=x;obtain⟨b,b1⟩:=y;simp only[cfO,flC]at hcon ⊢;generalize Lib.compareBytes a.data.toList b.data.toList=r at hcon ⊢;have HC:=ai hcon;clear hcon
 go_enter Tryz.func130,Tryz.ntmps130
 go_wp2_with (go_at_call 131;refine(HC.o _).mono ?_;rintro e w' ⟨rfl,rfl⟩)
 go_ret
 exact⟨rfl,0,_,by rw[alloc_eq_grow,alloc_eq_grow,grow_grow];rfl⟩
theorem uO(off n:Nat)(d:Array UY)(cur:Array UY)(hd:d.size=n)(ho:off=0)(hn:n<=cur.size): (putCells id off d cur).toList.take n=d.toList:=by
 subst ho hd;apply List.ext_getElem?
 intro k;rw[List.getElem?_take];by_cases hk:k<d.size
 . have hk2:k<cur.size:=by omega
   rw[if_pos hk];simp[putCells,hk,hk2]
 . rw[if_neg hk,List.getElem?_eq_none (by simp;omega)]
theorem BG(ts:List Fl): (flatK flC 2 ts.toArray).toList=flat flC ts:=by
 apply List.ext_getElem?
 intro t;by_cases ht:t<ts.length*2
 . have hk:t / 2<ts.length:=by omega
   have hx:ts[t / 2]? =some ts[t / 2]:=Z5 hk;have h1:=iG jb ts (t / 2) (t % 2) _ hx (by omega);rw[show t / 2*2+t % 2=t by omega]at h1;have h2:t< (flatK flC 2 ts.toArray).size:=by simpa using ht
   rw[h1,Array.getElem?_toList,Array.getElem?_eq_getElem h2];have h3:=get_flatK flC 2 ts.toArray t (by simpa using ht);rw[getElem!_pos (flatK flC 2 ts.toArray) t h2]at h3;rw[h3,show ts.toArray[t / 2]! =ts[t / 2] by simp[hk]];have h4:t % 2< (flC ts[t / 2]).length:=by rw[jb];omega
   rw[getElem!_pos (flC ts[t / 2]) (t % 2) h4,Z5 h4]
 . rw[List.getElem?_eq_none (by simp;omega),List.getElem?_eq_none (by rw[gZ jb];omega)]
def uI(ts:List Fl):Prop:=ts.Pairwise (fun a b=>less b.1 a.1=false)
theorem OL{w:UW}{base n c:Nat}{A:OA}{e:TypeId}{ts:List Fl}(h:w.ownsRow base e 2 (.slice A n c) n (flat flC ts)):ts.length=n:=by
 have:=h.1;rw[gZ jb]at this;omega
theorem Kw(base n c:Nat)(A:OA)(ts:List Fl)(w:UW)(h:w.ownsRow base 82 2 (.slice A n c) n (flat flC ts))(hn:n<=1000000) :
  Calls Tryz.prog 129 #[.slice A n c,.func (.func 130) #[] #[]] w fun e w'=>e= .returned (.tuple #[])/\∃us,us.Perm ts/\uI us/\w'.ownsRow base 82 2 (.slice A n c) n (flat flC us)/\w.grownBy w' (Value.slice A n c).ownBlock:=by
 have hl:=OL h;have eg:∀args w,(callFunc 130 args).run Tryz.prog w= .ok (.enter 130 args) w:=enters_of Tryz.func130 (by kernel_rfl) rfl;rcases h.2 with ⟨hv,h0⟩ | ⟨g,cap,cur,hv,h1,h2,h3,h4,h5,h6⟩
 . simp only[Value.slice.injEq]at hv
   obtain⟨rfl,_,rfl⟩:=hv;subst h0;obtain rfl:ts= []:=List.eq_nil_of_length_eq_zero hl;have hc:=AnyF.slices_SortFunc_none Tryz.sortFil none 0 (.func (.func 130) #[] #[]) w;change Calls Tryz.prog 129 _ _ _ at hc;refine hc.mono ?_;rintro e w' ⟨rfl,rfl⟩;exact⟨rfl,[],.refl _,List.Pairwise.nil,h,rfl,rfl,rfl,Nat.le_refl _,fun _ _ _=>rfl⟩
 . simp only[Value.slice.injEq]at hv
   obtain⟨rfl,_,rfl⟩:=hv;have hsz:n*2<=cur.size:=by omega
   have hlt:=(Array.getElem?_eq_some_iff.1 h2).1;have hH:HoldsK flC 2 w g 0 ts.toArray:=by
    intro j hj;have hj':j<ts.length*2:=by simpa using hj
    refine⟨?_,by simp[World.frozen?,h2]⟩;have h7: (flat flC ts)[j]? =some ((flatK flC 2 ts.toArray)[j]!):=by
     rw[<-BG,Array.getElem?_toList,Array.getElem?_eq_getElem (by simpa using hj'),getElem!_pos (flatK flC 2 ts.toArray) j (by simpa using hj')]
    rw[<-h6,List.getElem?_take,if_pos (by omega)]at h7;show w.cell? ⟨g,0+j,none⟩=_;simp[World.cell?,h2]
    simpa using h7
   have hc:=AnyQ.slices_SortFunc Tryz.sortFil 2 Tryz.isAgg82 Tryz.sizeOf82 flC jb (fun x v hv=>by simp[flC]at hv;rcases hv with rfl | rfl <;> rfl) cfO UC 130 #[] g 0 c ts.toArray w eg (fun _ _ _ _ x y=>KX x y _) hH hlt (by simp;omega);change Calls Tryz.prog 129 _ _ _ at hc;rw[List.size_toArray,hl]at hc;refine hc.mono ?_;rintro e w' ⟨rfl,d',k,os,hp,hs,rfl⟩;have hd:d'.size=n:=by rw[hp.1];simpa using hl
   have hpp:d'.toList.Perm ts:=by
    have:=hp.2.2;have e1:d'.extract 0 n=d':=by rw[<-hd];simp
    have e2:ts.toArray.extract 0 n=ts.toArray:=by rw[<-hl];simp
    rw[e1,e2]at this
    simpa using this
   have hso:uI d'.toList:=by
    unfold uI;rw[List.pairwise_iff_getElem];intro i j hi hj hij;have hi':i<d'.size:=by simpa using hi
    have hj':j<d'.size:=by simpa using hj
    have:=hs i j (ZX _) hij (by omega);rw[uf,getElem!_pos d' j hj',getElem!_pos d' i hi']at this
    simpa using this
   have hfs: (flatK flC 2 d').size=n*2:=by rw[size_flatK,hd]
   refine⟨rfl,d'.toList,hpp,hso,⟨by rw[gZ jb,Array.length_toList,hd],.inr ⟨g,c,putCells id 0 (flatK flC 2 d') cur,rfl,h1,?_,h3,h4,by simp[putCells];omega,?_⟩⟩,rfl,rfl,rfl,by simp[sortWorldK,putRowK,grow,putRow,mapBlock,Sort.ahead],fun b hb hr=>?_⟩
   . simp only[sortWorldK,putRowK,grow,putRow,mapBlock,Sort.ahead]
     rw[Array.getElem?_append_left (by simpa using hlt),Array.getElem?_modify,if_pos rfl,h2];rfl
   . rw[uO 0 (n*2) _ cur hfs rfl hsz,<-BG]
   . simp only[sortWorldK,putRowK,grow,putRow,mapBlock,Sort.ahead]
     rw[Array.getElem?_append_left (by simpa using hb),Array.getElem?_modify,if_neg (fun e=>hr (by rw[e];rfl))]
end
section
open Go.RowKit Go.Shelf Go.Sort Go.Lib
attribute [local go_sem] Oper.semAt_some
theorem MZ(x y:Dig)(W:UW):Calls Tryz.prog 55 #[.agg (dgC x).toArray,.agg (dgC y).toArray] W fun e w'=>e= .returned (.int .i64 (dC x y))/\∃q os',w'=grow (W.drewN q) os':=Di x y W
theorem pO(x y:Dig):ltOf dC x y=decide (ltD x y):=by
 unfold ltOf;rw[Bool.eq_iff_iff,decide_eq_true_iff,decide_eq_true_iff];exact yl x y
theorem swoD:SWO (ltOf dC) where
 irrefl x:=by rw[pO];exact decide_eq_false (iW x)
 trans x y z h1 h2:=by
  rw[pO,decide_eq_true_iff]at *;exact jM h1 h2
 ntrans x y z h1 h2:=by
  rw[pO,decide_eq_false_iff_not]at *;intro h3;by_cases h4:ltD z y
  . exact h1 (jM h3 h4)
  . have:=mY h2 h4
    rw[this]at h1;exact h1 h3
def zL(ts:List Dig):Prop:=ts.Pairwise (fun a b=>¬ltD b a)
theorem Bf(ts:List Dig): (flatK dgC 2 ts.toArray).toList=flat dgC ts:=by
 apply List.ext_getElem?
 intro t;by_cases ht:t<ts.length*2
 . have hk:t / 2<ts.length:=by omega
   have hx:ts[t / 2]? =some ts[t / 2]:=Z5 hk;have h1:=iG ig ts (t / 2) (t % 2) _ hx (by omega);rw[show t / 2*2+t % 2=t by omega]at h1;have h2:t< (flatK dgC 2 ts.toArray).size:=by simpa using ht
   rw[h1,Array.getElem?_toList,Array.getElem?_eq_getElem h2];have h3:=get_flatK dgC 2 ts.toArray t (by simpa using ht);rw[getElem!_pos (flatK dgC 2 ts.toArray) t h2]at h3;rw[h3,show ts.toArray[t / 2]! =ts[t / 2] by simp[hk]];have h4:t % 2< (dgC ts[t / 2]).length:=by rw[ig];omega
   rw[getElem!_pos (dgC ts[t / 2]) (t % 2) h4,Z5 h4]
 . rw[List.getElem?_eq_none (by simp;omega),List.getElem?_eq_none (by rw[gZ ig];omega)]
theorem Py{w:UW}{base n c:Nat}{A:OA}{e:TypeId}{ts:List Dig}(h:w.ownsRow base e 2 (.slice A n c) n (flat dgC ts)):ts.length=n:=by
 have:=h.1;rw[gZ ig]at this;omega
theorem Be(base n c:Nat)(A:OA)(ts:List Dig)(w:UW)(h:w.ownsRow base 50 2 (.slice A n c) n (flat dgC ts))(hn:n<=1000000000) :
  Calls Tryz.prog 54 #[.slice A n c,.func (.func 55) #[] #[]] w fun e w'=>e= .returned (.tuple #[])/\∃us,us.Perm ts/\zL us/\w'.ownsRow base 50 2 (.slice A n c) n (flat dgC us)/\w.grownBy w' (Value.slice A n c).ownBlock:=by
 have hl:=Py h;have eg:∀args w,(callFunc 55 args).run Tryz.prog w= .ok (.enter 55 args) w:=enters_of Tryz.func55 (by kernel_rfl) rfl;rcases h.2 with ⟨hv,h0⟩ | ⟨g,cap,cur,hv,h1,h2,h3,h4,h5,h6⟩
 . simp only[Value.slice.injEq]at hv
   obtain⟨rfl,_,rfl⟩:=hv;subst h0;obtain rfl:ts= []:=List.eq_nil_of_length_eq_zero hl;have hc:=AnyF.slices_SortFunc_none Tryz.sortDig none 0 (.func (.func 55) #[] #[]) w;change Calls Tryz.prog 54 _ _ _ at hc;refine hc.mono ?_;rintro e w' ⟨rfl,rfl⟩;exact⟨rfl,[],.refl _,List.Pairwise.nil,h,rfl,rfl,rfl,Nat.le_refl _,fun _ _ _=>rfl⟩
 . simp only[Value.slice.injEq]at hv
   obtain⟨rfl,_,rfl⟩:=hv;have hsz:n*2<=cur.size:=by omega
   have hlt:=(Array.getElem?_eq_some_iff.1 h2).1;have hH:HoldsK dgC 2 w g 0 ts.toArray:=by
    intro j hj;have hj':j<ts.length*2:=by simpa using hj
    refine⟨?_,by simp[World.frozen?,h2]⟩;have h7: (flat dgC ts)[j]? =some ((flatK dgC 2 ts.toArray)[j]!):=by
     rw[<-Bf,Array.getElem?_toList,Array.getElem?_eq_getElem (by simpa using hj'),getElem!_pos (flatK dgC 2 ts.toArray) j (by simpa using hj')]
    rw[<-h6,List.getElem?_take,if_pos (by omega)]at h7;show w.cell? ⟨g,0+j,none⟩=_;simp[World.cell?,h2]
    simpa using h7
   have hc:=AnyQ.slices_SortFunc Tryz.sortDig 2 Tryz.isAgg50 Tryz.sizeOf50 dgC ig (fun x v hv=>by simp[dgC]at hv;rcases hv with rfl | rfl <;> rfl) dC swoD 55 #[] g 0 c ts.toArray w eg (fun _ _ _ _ x y=>MZ x y _) hH hlt (by simp;omega);change Calls Tryz.prog 54 _ _ _ at hc;rw[List.size_toArray,hl]at hc;refine hc.mono ?_;rintro e w' ⟨rfl,d',k,os,hp,hs,rfl⟩;have hd:d'.size=n:=by rw[hp.1];simpa using hl
   have hpp:d'.toList.Perm ts:=by
    have:=hp.2.2;have e1:d'.extract 0 n=d':=by rw[<-hd];simp
    have e2:ts.toArray.extract 0 n=ts.toArray:=by rw[<-hl];simp
    rw[e1,e2]at this
    simpa using this
   have hso:zL d'.toList:=by
    unfold zL;rw[List.pairwise_iff_getElem];intro i j hi hj hij;have hi':i<d'.size:=by simpa using hi
    have hj':j<d'.size:=by simpa using hj
    have:=hs i j (ZX _) hij (by omega);rw[pO,decide_eq_false_iff_not,getElem!_pos d' j hj',getElem!_pos d' i hi']at this
    simpa using this
   have hfs: (flatK dgC 2 d').size=n*2:=by rw[size_flatK,hd]
   refine⟨rfl,d'.toList,hpp,hso,⟨by rw[gZ ig,Array.length_toList,hd],.inr ⟨g,c,putCells id 0 (flatK dgC 2 d') cur,rfl,h1,?_,h3,h4,by simp[putCells];omega,?_⟩⟩,rfl,rfl,rfl,by simp[sortWorldK,putRowK,grow,putRow,mapBlock,Sort.ahead],fun b hb hr=>?_⟩
   . simp only[sortWorldK,putRowK,grow,putRow,mapBlock,Sort.ahead]
     rw[Array.getElem?_append_left (by simpa using hlt),Array.getElem?_modify,if_pos rfl,h2];rfl
   . rw[uO 0 (n*2) _ cur hfs rfl hsz,<-Bf]
   . simp only[sortWorldK,putRowK,grow,putRow,mapBlock,Sort.ahead]
     rw[Array.getElem?_append_left (by simpa using hb),Array.getElem?_modify,if_neg (fun e=>hr (by rw[e];rfl))]
end
