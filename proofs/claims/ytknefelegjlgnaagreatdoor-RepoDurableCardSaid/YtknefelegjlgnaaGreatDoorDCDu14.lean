/-
  Lemmas of the card.
-/
import Derived.Lib.BufferMore
import Derived.Shelf.SlSortCmp.NoneTotal
import Derived.Test.YtknefelegjlgnaaGreatDoorDCDu13
set_option maxRecDepth 100000
set_option maxHeartbeats 16000000
namespace Go.Proofs.YtknefelegjlgnaaGreatDoor
open Go.RowKit
def UnE(a b:List Itm)(w:MQ)(e:Ending)(w':MQ):Prop :=
 ((∃r A c,UniR a b r/\e= .returned (.tuple #[.slice A r.length c,.int .i64 0])/\Sl w' w'.heap.size 3 A r.length (flat itC r)/\r.length<=c/\c<=maxLen)∨ (iW a b/\e= .returned (.tuple #[.slice none 0 0,.int .i64 16])))/\Below w.heap.size w w'
theorem Fy(A B:OA)(n1 c1 n2 c2 Bs:Nat)(a b:List Itm)(w:MQ)(h0:Sl w Bs 3 A n1 (flat itC a))(h1:Sl w Bs 3 B n2 (flat itC b))(hB:Bs<=w.heap.size)(hn1:n1<=400000)(hn2:n2<=400000)(ha:AscI a)(hb:AscI b) :
  Calls Tryz.prog 75 #[.slice A n1 c1,.slice B n2 c2] w (UnE a b w):=by
 have HL1:=ah (h0.len bN (by omega));have HL2:=ah (h1.len bN (by omega));have H0:=ah h0;have H1:=ah h1;have HAA:=ah ha;have HAB:=ah hb;clear h0 h1 ha hb;obtain⟨i0,hi,hz0,hz1,hz2⟩:=info_parts jQ;have Hi:=ah hi;have Hz0:=ah hz0;have Hz1:=ah hz1;have Hz2:=ah hz2;clear hi hz0 hz1 hz2
 go_enter Tryz.func75,Tryz.ntmps75
 go_wp2_with fail
 go_loopw[6,7,8] (fun q u v wr=>∃(out:List Itm)(A':OA)(c' i j:Nat),u= .int .i64 (i:Int)/\v= .int .i64 (j:Int)/\q= .slice A' out.length c'/\out.length<=c'/\c'<=maxLen/\Hid (i<=n1/\j<=n2/\UAt a b i j out)/\Hid (Apd wr w.heap.size 118 3 A' out.length c' (flat itC out))/\Hid (Below w.heap.size w wr)) (fun _ u v _=>(n1 - (intOf u).toNat)+ (n2 - (intOf v).toNat))
 case atStart=>exact⟨[],none,0,0,0,rfl,rfl,rfl,Nat.le_refl _,ZZ _,⟨ZZ _,ZZ _,UAt.start a b⟩,.inr ⟨rfl,rfl,rfl⟩,af _ _⟩
 case round =>
  obtain⟨out,A',c',i,j,rfl,rfl,rfl,hmc,hcm,hAt,hO,hBel⟩:=hrel;have HO:=ah hO.out;have HBE:=ah hBel.out;obtain⟨hi1,hj2,hat⟩:=hAt.out;have HAT:=ah hat
  have hol:=hat.len;obtain⟨m,hm⟩:∃m,out.length=m:=⟨_,rfl⟩
  have HM:=ah hm;rw[hm]at hmc hol HO ⊢;have zr:w.heap.size<=wr.heap.size:=HBE.out.size;clear hO hBel hm hAt hat
  by_cases hi:i<n1
  . have hiz: (i:Int)< (n1:Int):=by omega
    have hie: ((i:Int) == (n1:Int))=false:=by rw[beq_eq_false_iff_ne];omega
    obtain⟨ba,oa,x,rfl,hba,hx,x0,x1',x2'⟩:=(H0.out.below HBE.out hB).it hi;have HX:=ah hx;clear hx;obtain⟨⟨x1,x2⟩,xs⟩:=x;simp only at x0 x1' x2';by_cases hj:j<n2
    . have hjz: (j:Int)< (n2:Int):=by omega
      have hje: ((j:Int) == (n2:Int))=false:=by rw[beq_eq_false_iff_ne];omega
      obtain⟨bb,ob,y,rfl,hbb,hy,y0,y1',y2'⟩:=(H1.out.below HBE.out hB).it hj;have HY:=ah hy;clear hy;obtain⟨⟨y1,y2⟩,ys⟩:=y;simp only at y0 y1' y2';have HCM:=ah (fun W=>sU (x1,x2) (y1,y2) W);unfold CmE at HCM;simp only[aB]at HCM;obtain⟨cz,hcz⟩:∃cz,bW (x1,x2) (y1,y2)=cz:=⟨_,rfl⟩
      rw[hcz]at HCM;have HCZ:=ah hcz;clear hcz;have H3:Hid (cz= -1/\ltD (x1,x2) (y1,y2)∨cz=0/\ (x1,x2)= (y1,y2)∨cz=1/\ltD (y1,y2) (x1,x2)):=by
       show _∨_∨_;rw[<-HCZ.out];unfold bW;by_cases e: (x1,x2)= (y1,y2)
       . rw[if_pos e];exact .inr (.inl ⟨rfl,e⟩)
       . rw[if_neg e]
         by_cases l:ltD (x1,x2) (y1,y2)
         . rw[if_pos l];exact .inl ⟨rfl,l⟩
         . rw[if_neg l]
           refine .inr (.inr ⟨rfl,?_⟩);by_cases l2:ltD (y1,y2) (x1,x2)
           . exact l2
           . exact absurd (kI l l2) e
      have zba:ba<wr.heap.size:=by omega
      have zbb:bb<wr.heap.size:=by omega
      go_wp2_with fail
      go_region_held3 (fun w'=>w'.cell? ⟨ba,oa+i*3,none⟩=some (.int .u64 x1)/\w'.cell? ⟨ba,oa+i*3+1,none⟩=some (.int .u64 x2)/\w'.cell? ⟨bb,ob+j*3,none⟩=some (.int .u64 y1)/\w'.cell? ⟨bb,ob+j*3+1,none⟩=some (.int .u64 y2))
       (first | exact⟨x0,x1',y0,y1'⟩ | exact⟨n0.out,n1'.out,n2'.out,n3.out⟩)
       (first
         | (go_at_call 55;refine(HCM.out _).mono ?_;rintro e w8 ⟨rfl,hb8⟩
            have n0:=ah ((hb8.cell (p:=⟨ba,oa+i*3,none⟩) (by show ba<_;simp;omega)).trans x0);have n1':=ah ((hb8.cell (p:=⟨ba,oa+i*3+1,none⟩) (by show ba<_;simp;omega)).trans x1');have n2':=ah ((hb8.cell (p:=⟨bb,ob+j*3,none⟩) (by show bb<_;simp;omega)).trans y0);have n3:=ah ((hb8.cell (p:=⟨bb,ob+j*3+1,none⟩) (by show bb<_;simp;omega)).trans y1');have hR8:Hid (Below wr.heap.size wr w8):=(af _ wr).drew.trans hb8;clear hb8))
      have x0:=(hR8.out.cell (p:=⟨ba,oa+i*3,none⟩) (by show ba<_;omega)).trans x0;have x1':=(hR8.out.cell (p:=⟨ba,oa+i*3+1,none⟩) (by show ba<_;omega)).trans x1';have x2':=(hR8.out.cell (p:=⟨ba,oa+i*3+2,none⟩) (by show ba<_;omega)).trans x2';have y0:=(hR8.out.cell (p:=⟨bb,ob+j*3,none⟩) (by show bb<_;omega)).trans y0;have y1':=(hR8.out.cell (p:=⟨bb,ob+j*3+1,none⟩) (by show bb<_;omega)).trans y1';have y2':=(hR8.out.cell (p:=⟨bb,ob+j*3+2,none⟩) (by show bb<_;omega)).trans y2'
      replace HO:=ah (HO.out.below hR8.out)
      replace HBE:Hid (Below w.heap.size w w8):=HBE.out.trans (hR8.out.mono zr)
      have zr8:w.heap.size<=w8.heap.size:=HBE.out.size;clear n0 n1' n2' n3 hR8 HCZ;rcases H3.out with ⟨hcz,hl⟩ | ⟨hcz,he⟩ | ⟨hcz,hl⟩
      . have HN:Hid (i+1<=n1/\j<=n2/\UAt a b (i+1) j (out++ [((x1,x2),xs)])):=⟨by omega,by omega,HAT.out.fst HAA.out HX.out (oI HAB.out HY.out hl)⟩
        subst hcz;clear H3 hl HCM;go_wp2_with fail
        go_quiet(fail)
        go_wp2_with (at_builtin;refine gq (.tmp 58) (.tmp 63) 29 rfl ?_)
        refine aF ?_;refine dw (base:=w.heap.size) (size:=3) _ rfl (.tmp 58) (.tmp 63) 29 rfl 118 i0 _ 32 Tryz.underlying29 Hi.out Hz0.out Hz1.out Hz2.out rfl (by decide) A' m c' _ rfl (Apd.below (ma HO.out _) ((af _ _).alloc ai _)) _ _ 1 1 (flat itC [((x1,x2),xs)]) rfl (Sl.of_bk (n:=1) (size:=3) (Bk.new _ _ _) rfl) (gX _) (by unfold maxLen;omega) (by omega) (by rw[Z9];exact Nat.le_succ_of_le zr8) ?_;intro A4 c4 w4 ha4 hb4 hn4 hm4 _;rw[<-bu]at ha4;have HA4:=ah ha4;have HB4:Hid (Below w.heap.size w w4):=(Below.alloc (bM HBE.out _) zr8 _).trans hb4;clear ha4 hb4;go_wp2_with fail;go_roundw
        case rel=>exact⟨out++ [((x1,x2),xs)],A4,c4,i+1,j,by go_num,by go_num,by rw[ae,HM.out];rfl,by rw[ae,HM.out];exact hn4,hm4,HN.out,by rw[ae,HM.out];exact HA4.out,HB4.out⟩
        case measure=>simp[intOf];omega
      . injection he with he1 he2
        subst he1;subst he2;subst hcz;have t2:=jH xs ys;have l1: (xs.toList != ys.toList)=!(decide (xs=ys)):=by rw[<-jH];rfl
        clear H3 HCM;by_cases hs:xs=ys
        . subst hs
          have HN:Hid (i+1<=n1/\j+1<=n2/\UAt a b (i+1) (j+1) (out++ [((x1,x2),xs)])):=⟨by omega,by omega,HAT.out.both HAA.out HAB.out HX.out HY.out⟩
          rw[decide_eq_true rfl]at t2 l1;go_wp2_with fail
          go_quiet(fail)
          go_wp2_with (at_builtin;refine gq (.tmp 58) (.tmp 63) 29 rfl ?_)
          refine aF ?_;refine dw (base:=w.heap.size) (size:=3) _ rfl (.tmp 58) (.tmp 63) 29 rfl 118 i0 _ 32 Tryz.underlying29 Hi.out Hz0.out Hz1.out Hz2.out rfl (by decide) A' m c' _ rfl (Apd.below (ma HO.out _) ((af _ _).alloc ai _)) _ _ 1 1 (flat itC [((x1,x2),xs)]) rfl (Sl.of_bk (n:=1) (size:=3) (Bk.new _ _ _) rfl) (gX _) (by unfold maxLen;omega) (by omega) (by rw[Z9];exact Nat.le_succ_of_le zr8) ?_;intro A4 c4 w4 ha4 hb4 hn4 hm4 _;rw[<-bu]at ha4;have HA4:=ah ha4;have HB4:Hid (Below w.heap.size w w4):=(Below.alloc (bM HBE.out _) zr8 _).trans hb4;clear ha4 hb4;go_wp2_with fail;go_roundw
          case rel=>exact⟨out++ [((x1,x2),xs)],A4,c4,i+1,j+1,by go_num,by go_num,by rw[ae,HM.out];rfl,by rw[ae,HM.out];exact hn4,hm4,HN.out,by rw[ae,HM.out];exact HA4.out,HB4.out⟩
          case measure=>simp[intOf];omega
        . have HCL:Hid (iW a b):=zu HX.out HY.out rfl hs
          rw[decide_eq_false hs]at t2 l1;clear hs;go_wp2_with fail
          go_quiet(fail)
          go_wp2_with fail;go_ret2
          exact⟨.inr ⟨HCL.out,rfl⟩,bM HBE.out _⟩
      . have HN:Hid (i<=n1/\j+1<=n2/\UAt a b i (j+1) (out++ [((y1,y2),ys)])):=⟨by omega,by omega,HAT.out.snd HAB.out HY.out (oI HAA.out HX.out hl)⟩
        subst hcz;clear H3 hl HCM;go_wp2_with fail
        go_quiet(fail)
        go_wp2_with (at_builtin;refine gq (.tmp 69) (.tmp 74) 29 rfl ?_)
        refine aF ?_;refine dw (base:=w.heap.size) (size:=3) _ rfl (.tmp 69) (.tmp 74) 29 rfl 118 i0 _ 32 Tryz.underlying29 Hi.out Hz0.out Hz1.out Hz2.out rfl (by decide) A' m c' _ rfl (Apd.below (ma HO.out _) ((af _ _).alloc ai _)) _ _ 1 1 (flat itC [((y1,y2),ys)]) rfl (Sl.of_bk (n:=1) (size:=3) (Bk.new _ _ _) rfl) (gX _) (by unfold maxLen;omega) (by omega) (by rw[Z9];exact Nat.le_succ_of_le zr8) ?_;intro A4 c4 w4 ha4 hb4 hn4 hm4 _;rw[<-bu]at ha4;have HA4:=ah ha4;have HB4:Hid (Below w.heap.size w w4):=(Below.alloc (bM HBE.out _) zr8 _).trans hb4;clear ha4 hb4;go_wp2_with fail;go_roundw
        case rel=>exact⟨out++ [((y1,y2),ys)],A4,c4,i,j+1,by go_num,by go_num,by rw[ae,HM.out];rfl,by rw[ae,HM.out];exact hn4,hm4,HN.out,by rw[ae,HM.out];exact HA4.out,HB4.out⟩
        case measure=>simp[intOf];omega
    . have hj':j=n2:=by omega
      subst hj';have HN:Hid (i+1<=n1/\j<=j/\UAt a b (i+1) j (out++ [((x1,x2),xs)])):=⟨by omega,Nat.le_refl _,HAT.out.fst HAA.out HX.out (oD (by rw[HL2.out];exact Nat.le_refl _))⟩
      go_wp2_with fail
      go_quiet(fail)
      go_wp2_with (at_builtin;refine gq (.tmp 58) (.tmp 63) 29 rfl ?_)
      refine aF ?_;refine dw (base:=w.heap.size) (size:=3) _ rfl (.tmp 58) (.tmp 63) 29 rfl 118 i0 _ 32 Tryz.underlying29 Hi.out Hz0.out Hz1.out Hz2.out rfl (by decide) A' m c' _ rfl (Apd.below (ma HO.out _) ((af _ _).alloc ai _)) _ _ 1 1 (flat itC [((x1,x2),xs)]) rfl (Sl.of_bk (n:=1) (size:=3) (Bk.new _ _ _) rfl) (gX _) (by unfold maxLen;omega) (by omega) (by rw[Z9];exact Nat.le_succ_of_le zr) ?_;intro A4 c4 w4 ha4 hb4 hn4 hm4 _;rw[<-bu]at ha4;have HA4:=ah ha4;have HB4:Hid (Below w.heap.size w w4):=(Below.alloc (bM HBE.out _) zr _).trans hb4;clear ha4 hb4;go_wp2_with fail;go_roundw
      case rel=>exact⟨out++ [((x1,x2),xs)],A4,c4,i+1,j,by go_num,by go_num,by rw[ae,HM.out];rfl,by rw[ae,HM.out];exact hn4,hm4,HN.out,by rw[ae,HM.out];exact HA4.out,HB4.out⟩
      case measure=>simp[intOf];omega
  . have hi':i=n1:=by omega
    subst hi';have hiz:¬(i:Int)< (i:Int):=by omega
    by_cases hj:j<n2
    . have hjz: (j:Int)< (n2:Int):=by omega
      obtain⟨bb,ob,y,rfl,hbb,hy,y0,y1',y2'⟩:=(H1.out.below HBE.out hB).it hj;have HY:=ah hy;clear hy;obtain⟨⟨y1,y2⟩,ys⟩:=y;simp only at y0 y1' y2';have HN:Hid (i<=i/\j+1<=n2/\UAt a b i (j+1) (out++ [((y1,y2),ys)])):=⟨Nat.le_refl _,by omega,HAT.out.snd HAB.out HY.out (oD (by rw[HL1.out];exact Nat.le_refl _))⟩
      go_wp2_with fail
      go_quiet(fail)
      go_wp2_with (at_builtin;refine gq (.tmp 69) (.tmp 74) 29 rfl ?_)
      refine aF ?_;refine dw (base:=w.heap.size) (size:=3) _ rfl (.tmp 69) (.tmp 74) 29 rfl 118 i0 _ 32 Tryz.underlying29 Hi.out Hz0.out Hz1.out Hz2.out rfl (by decide) A' m c' _ rfl (Apd.below (ma HO.out _) ((af _ _).alloc ai _)) _ _ 1 1 (flat itC [((y1,y2),ys)]) rfl (Sl.of_bk (n:=1) (size:=3) (Bk.new _ _ _) rfl) (gX _) (by unfold maxLen;omega) (by omega) (by rw[Z9];exact Nat.le_succ_of_le zr) ?_;intro A4 c4 w4 ha4 hb4 hn4 hm4 _;rw[<-bu]at ha4;have HA4:=ah ha4;have HB4:Hid (Below w.heap.size w w4):=(Below.alloc (bM HBE.out _) zr _).trans hb4;clear ha4 hb4;go_wp2_with fail;go_roundw
      case rel=>exact⟨out++ [((y1,y2),ys)],A4,c4,i,j+1,by go_num,by go_num,by rw[ae,HM.out];rfl,by rw[ae,HM.out];exact hn4,hm4,HN.out,by rw[ae,HM.out];exact HA4.out,HB4.out⟩
      case measure=>simp[intOf];omega
    . have hj':j=n2:=by omega
      subst hj';have hjz:¬(j:Int)< (j:Int):=by omega
      have HU:Hid (UniR a b out):=HAT.out.done (by rw[HL1.out];exact Nat.le_refl _) (by rw[HL2.out];exact Nat.le_refl _);go_wp2_with fail;go_ret2
      exact⟨.inl ⟨out,A',c',HU.out,by rw[HM.out];rfl,by rw[HM.out];exact HO.out.sl,by rw[HM.out];exact hmc,hcm⟩,HBE.out⟩
def KeE(p:List Itm)(l:List Dig)(w:MQ)(e:Ending)(w':MQ):Prop :=
 ∃A c,e= .returned (.slice A (eG p l).length c)/\Sl w' w'.heap.size 3 A (eG p l).length (flat itC (eG p l))/\ (eG p l).length<=c/\c<=maxLen/\Below w.heap.size w w'
theorem EL{p:List Itm}{l:List Dig}{k:Nat}{x:Itm}(h:p[k]? =some x):eG (p.take (k+1)) l=if x.1∈l then eG (p.take k) l++ [x] else eG (p.take k) l:=by
 rw[aS h];unfold eG;rw[List.filter_append];by_cases hx:x.1∈l
 . rw[if_pos hx];congr 1;simp[hx]
 . rw[if_neg hx];simp[hx]
section
open Go.Maps
def inT(l:List Dig)(k:Nat):Dig->Bool:=fun d=>decide (d∈l.take k)
theorem IZ(l:List Dig):inT l 0=fun _=>false:=by funext d;simp[inT]
theorem Jo{l:List Dig}{k:Nat}{x:Dig}(h:l[k]? =some x):eO (inT l k) x=inT l (k+1):=by
 funext d
 rw[Bool.eq_iff_iff,setB_true];unfold inT;rw[decide_eq_true_iff,decide_eq_true_iff,aS h,List.mem_append,aa];exact⟨fun h=>h.symm,fun h=>h.symm⟩
theorem JA{l:List Dig}{k:Nat}(h:l.length<=k)(d:Dig):inT l k d=decide (d∈l):=by unfold inT;rw[ZW h]
theorem F9(A:OA)(n c B:Nat)(A1:OA)(n1 c1:Nat)(p:List Itm)(l:List Dig)(w:MQ)(h0:Sl w B 3 A n (flat itC p))(h1:Sl w B 2 A1 n1 (flat dgC l))(hB:B<=w.heap.size)(hn:n<=900000)(hn1:n1<=500000000)(hw:∀d∈l,WfD d)(hwp:∀i∈p,WfD i.1) :
  Calls Tryz.prog 21 #[.slice A n c,.slice A1 n1 c1] w (KeE p l w):=by
 have HL:=ah (h0.len bN (by omega));have HL1:=ah (h1.len fG (by omega));have H0:=ah h0;have H1:=ah h1;have HW:=ah hw;have HWP:=ah hwp;clear h0 h1 hw hwp;obtain⟨i0,hi,hz0,hz1,hz2⟩:=info_parts jQ;have Hi:=ah hi;have Hz0:=ah hz0;have Hz1:=ah hz1;have Hz2:=ah hz2;clear hi hz0 hz1 hz2;have hmm:=@run_makeMap Tryz.prog
 go_enter Tryz.func21,Tryz.ntmps21
 obtain⟨W0,hW0⟩:∃W,w.alloc (.map #[] 0)=W:=⟨_,rfl⟩
 have HS0:Hid (Sd W0 w.heap.size 0 (inT l 0)):=by rw[IZ,<-hW0];exact Sd.made w
 have HB0:Hid (Below w.heap.size w W0):=by rw[<-hW0];exact(af _ w).alloc ai _
 go_wp2_with fail;clear hmm hW0
 go_loopw[14] (fun i wr=>∃k:Nat,k<=n1/\i= .int .i64 k/\Hid (Sd wr w.heap.size k (inT l k))/\Hid (Below w.heap.size w wr)) (fun i _=>n1 - (intOf i).toNat)
 case atStart=>exact⟨0,ZZ _,rfl,HS0.out,HB0.out⟩
 case round =>
  obtain⟨k,hk,rfl,hS,hBel⟩:=hrel;have HS:=ah hS.out;have HBE:=ah hBel.out;have zr:w.heap.size<=wr.heap.size:=HBE.out.size;have hlts:w.heap.size<wr.heap.size:=HS.out.lt;clear hS hBel HS0 HB0;by_cases hlt:k<n1
  . obtain⟨bb,off,x,rfl,hbB,hx,y0,y1⟩:=(H1.out.below HBE.out hB).dg hlt
    have hlz: (k:Int)< (n1:Int):=by omega
    have HX:=ah hx;have HXW:=ah (jo (HW.out x (Z7 hx)));clear hx;obtain⟨x1,x2⟩:=x;simp only at y0 y1;obtain⟨W,hW⟩:∃W,wr.alloc (.cells #[.int .u64 x1,.int .u64 x2] 50)=W:=⟨_,rfl⟩
    have HS2:Hid (Sd W w.heap.size k (inT l k)):=by rw[<-hW];exact HS.out.below ((af wr.heap.size wr).alloc ai _) hlts
    have HB2:Hid (Below w.heap.size w W):=by rw[<-hW];exact HBE.out.alloc zr _
    have HK2:Hid (Bk W wr.heap.size 50 #[.int .u64 x1,.int .u64 x2]):=by rw[<-hW];exact Bk.new wr _ _
    obtain⟨r0,r1,_,_⟩:=HK2.out.two;have HWa:=ah hW;clear hW
    go_wp2_with (at_mapUpdate;refine aM ?_)
    rw[HWa.out]
    go_wp2_with (at_mapUpdate;refine aM ?_)
    refine aF ?_;refine wI rfl _ _ _ 105 rfl Tryz.underlying105 w.heap.size k _ rfl HS2.out (by unfold maxLen;omega) (x1,x2) HXW.out rfl rfl ?_;intro w3 hS3 hg3;rw[Jo HX.out]at hS3;have HS3:=ah hS3;have HB3:Hid (Below w.heap.size w w3):=HB2.out.grown hg3 HB2.out.size (fun g e=>by cases e;omega);clear hS3 hg3 HS2 HB2 HK2 r0 r1 y0 y1 HWa;go_wp2_with fail;go_roundw
    case rel=>exact⟨k+1,hlt,by go_num,HS3.out,HB3.out⟩
    case measure=>simp[intOf];omega
  . have hlz:¬(k:Int)< (n1:Int):=by omega
    obtain⟨wo,hwo⟩:∃wo,wo=wr:=⟨_,rfl⟩
    subst hwo;have HIN:Hid (∀d,inT l k d=decide (d∈l)):=JA (by rw[HL1.out];omega);obtain⟨s,hs⟩:∃s,inT l k=s:=⟨_,rfl⟩
    rw[hs]at HS HIN;clear hs;obtain⟨w0,hw0⟩:∃w0,w0=w:=⟨_,rfl⟩
    go_wp2_with fail
    go_loopw[8,23] (fun q i wr=>∃(k2 m:Nat)(A':OA)(c':Nat),k2<=n/\i= .int .i64 k2/\q= .slice A' m c'/\m<=c'/\c'<=maxLen/\m<=k2/\Hid ((eG (p.take k2) l).length=m)/\Hid (Apd wr wo.heap.size 118 3 A' m c' (flat itC (eG (p.take k2) l)))/\Hid (Below wo.heap.size wo wr)) (fun _ i _=>n - (intOf i).toNat)
    case atStart=>exact⟨0,0,none,0,ZZ _,rfl,rfl,Nat.le_refl _,ZZ _,Nat.le_refl _,rfl,.inr ⟨rfl,rfl,rfl⟩,af _ _⟩
    case round =>
     obtain⟨k2,m,A',c',hk2,rfl,rfl,hmc,hcm,hmk,hM,hO,hBel⟩:=hrel;have HM:=ah hM.out;have HO:=ah hO.out;have HBr:=ah hBel.out;have zo:wo.heap.size<=wr.heap.size:=HBr.out.size;clear hM hO hBel;by_cases hlt2:k2<n
     . obtain⟨bb,off,x,rfl,hbB,hx,y0,y1,y2⟩:=((H0.out.below HBE.out hB).below HBr.out (by omega)).it hlt2
       have hlz2: (k2:Int)< (n:Int):=by omega
       have HX:=ah hx;have HXW:=ah (jo (HWP.out x (Z7 hx)));clear hx;obtain⟨⟨x1,x2⟩,xs⟩:=x;simp only at y0 y1 y2 HXW;obtain⟨W,hW⟩:∃W,wr.alloc (.cells #[.int .u64 x1,.int .u64 x2,.string xs] 118)=W:=⟨_,rfl⟩
       have HBW:Hid (Below wr.heap.size wr W):=by rw[<-hW];exact(af _ wr).alloc ai _
       have HKW:Hid (Bk W wr.heap.size 118 #[.int .u64 x1,.int .u64 x2,.string xs]):=by rw[<-hW];exact Bk.new wr _ _
       have zW:wr.heap.size<W.heap.size:=HKW.out.lt;have HNB:Hid (Bk (W.alloc (.cells #[.int .u64 x1,.int .u64 x2,.string xs] 118)) (wr.heap.size+1) 118 #[.int .u64 x1,.int .u64 x2,.string xs]):=by
        have e:=Bk.new W 118 #[.int .u64 x1,.int .u64 x2,.string xs];rw[<-hW,Z9]at e;rw[<-hW];exact e
       have HOW:=ah (HO.out.below HBW.out);have HBo:Hid (Below wo.heap.size wo W):=HBr.out.trans (HBW.out.mono zo);have hlk:=Sd.look (d:=(x1,x2)) (HS.out.below HBo.out hlts) Tryz.underlying105 HXW.out;rw[HIN.out]at hlk;simp only at hlk;obtain⟨r0,r1,r2⟩:=HKW.out.three;have HWa:=ah hW;have HKS:Hid (eG (p.take (k2+1)) l=if((x1,x2):Dig)∈l then eG (p.take k2) l++ [((x1,x2),xs)] else eG (p.take k2) l):=EL HX.out;clear hW HBW HKW;by_cases hin: ((x1,x2):Dig)∈l
       . have HK:Hid (eG (p.take (k2+1)) l=eG (p.take k2) l++ [((x1,x2),xs)]):=by show _=_;rw[HKS.out,if_pos hin]
         have hdt:decide (((x1,x2):Dig)∈l)=true:=decide_eq_true hin;rw[hdt]at hlk;rw[<-HWa.out]at hlk r0 r1 r2;clear hin HKS hdt
         go_wp2_with (at_builtin;refine gq (.tmp 31) (.tmp 33) 29 rfl ?_)
         rw[HWa.out];refine aF ?_;refine dw (base:=wo.heap.size) (size:=3) _ rfl (.tmp 31) (.tmp 33) 29 rfl 118 i0 _ 32 Tryz.underlying29 Hi.out Hz0.out Hz1.out Hz2.out rfl (by decide) A' m c' _ rfl (Apd.below HOW.out ((af _ _).alloc ai _)) _ _ 1 1 (flat itC [((x1,x2),xs)]) rfl (Sl.of_bk (n:=1) (size:=3) HNB.out rfl) (gX _) (by unfold maxLen;omega) (by omega) (by rw[Z9];omega) ?_;intro A4 c4 w4 ha4 hb4 hn4 hm4 _;rw[<-bu,<-HK.out]at ha4;have HA4:=ah ha4;have HB4:Hid (Below wo.heap.size wo w4):=(Below.alloc HBo.out (by omega) _).trans hb4;have HM4:Hid ((eG (p.take (k2+1)) l).length=m+1):=by show _=_;rw[HK.out,ae,HM.out];rfl
         clear ha4 hb4;go_wp2_with fail;go_roundw
         case rel=>exact⟨k2+1,m+1,A4,c4,hlt2,by go_num,rfl,hn4,hm4,by omega,HM4.out,HA4.out,HB4.out⟩
         case measure=>simp[intOf];omega
       . have HK:Hid (eG (p.take (k2+1)) l=eG (p.take k2) l):=by show _=_;rw[HKS.out,if_neg hin]
         have hdt:decide (((x1,x2):Dig)∈l)=false:=decide_eq_false hin;rw[hdt]at hlk;rw[<-HWa.out]at hlk r0 r1 r2;clear hin HKS hdt;go_wp2_with fail;rw[HWa.out];go_roundw
         case rel=>exact⟨k2+1,m,A',c',hlt2,by go_num,rfl,hmc,hcm,by omega,by rw[HK.out];exact HM.out,by rw[HK.out];exact HOW.out,HBo.out⟩
         case measure=>simp[intOf];omega
     . have hlz2:¬(k2:Int)< (n:Int):=by omega
       have HT:Hid (p.take k2=p):=ZW (by rw[HL.out];omega);rw[HT.out]at HM HO;go_wp2_with fail;go_ret
       exact⟨A',c',by rw[HM.out];rfl,by rw[HM.out];exact HO.out.sl,by rw[HM.out];exact hmc,hcm,HBE.out.trans (HBr.out.mono HBE.out.size)⟩
end
section
open Go.Maps
def bkO(A:OA):Option Nat:=A.map Addr.block
theorem gM(A:OA)(n c:Nat): (Value.slice A n c).ownBlock=bkO A:=by cases A <;> rfl
section
variable {P : Program} {w : MQ} {base size n c : Nat} {e : TypeId} {A : OA} {xs : List MS}
theorem Dz(t ty:TypeId)(i:TypeInfo)(z:MS)(bytes:Nat)(ht:P.underlying t=some (.slice e))(hi:P.info? e=some i)(hz:i.zero=some z)
  (hsize:i.size=size) (hby:i.bytes=bytes) (hzs:z.cells.size=size) (hsz:0<size) (hown:w.ownsRow base e size (.slice A n c) n xs)
  {B:Nat} {A':OA} {m c':Nat} {ys:List MS} (hsl:Sl w B size A' m ys) (h1:∀u∈ys,u.oneCell'=true) (hm:0<m)
  (h63:n+m<=maxLen) (hbytes: (n+m)*bytes<=140737488355328) (hbase:base<=w.heap.size) :
  ∃A2 c2 w',(Builtin.append_ #[t,t] ty #[.slice A n c,.slice A' m c']).run P w= .ok (.slice A2 (n+m) c2) w'/\w'.ownsRow base e size (.slice A2 (n+m) c2) (n+m) (xs++ys)/\w.grownBy w' (bkO A)/\n+m<=c2/\c2<=maxLen/\∀g,bkO A2=some g->bkO A=some g∨w.heap.size<=g:=by
 obtain⟨A2,c2,w',hr,ho',hg,hc1,hc2⟩:=jV (P:=P) t ty i z bytes ht hi hz hsize hby hzs hsz hown (c:=c') hsl h1 h63 hbytes hbase;obtain⟨A3,c3,w3,row,hr2,_,_,_,h5⟩:=Dr (P:=P) t ty i z bytes ht hi hz hsize hby hzs hsz (Que.of_own hown) (c':=c') hsl h1 hm h63 hbytes hbase;rw[hr]at hr2;injection hr2 with e1 e2;injection e1 with e3 e4 e5;subst e3;subst e5;subst e2;rw[gM]at hg;refine⟨A2,c2,w',hr,ho',hg,hc1,hc2,fun g hgb=>?_⟩;rcases ho'.2 with ⟨hv,_⟩ | ⟨g',cap,cur,hv,_⟩
 . simp at hv
   rw[hv.1]at hgb;cases hgb
 . simp at hv
   obtain⟨rfl,_⟩:=hv;have:g'=g:=Option.some.inj hgb;subst this;rcases h5 g' 0 rfl with ⟨_,off,h⟩ | h
   . rw[h];exact .inl rfl
   . exact .inr h
theorem qU{ops:Array Oper}{rest:List Oper}{o:Oper}{a:Act}{Q:Exit->Act->MQ->Prop}(hgd:o.guard=none)(s x:Operand)(t:TypeId)
  (ho:o.op= .call {callee:= .builtin .append,args:=#[s,x],argTypes:=#[t,t]})
  (e:TypeId) (i:TypeInfo) (z:MS) (bytes:Nat) (ht:P.underlying t=some (.slice e)) (hi:P.info? e=some i) (hz:i.zero=some z)
  (hsize:i.size=size) (hby:i.bytes=bytes) (hzs:z.cells.size=size) (hsz:0<size)
  (A:OA) (n c:Nat) (xs:List MS) (hs:a.eval s= .slice A n c) (hown:w.ownsRow base e size (.slice A n c) n xs)
  (B:Nat) (A':OA) (m c':Nat) (ys:List MS) (hx:a.eval x= .slice A' m c') (hsl:Sl w B size A' m ys) (h1:∀u∈ys,u.oneCell'=true) (hm:0<m)
  (h63:n+m<=maxLen) (hbytes: (n+m)*bytes<=140737488355328) (hbase:base<=w.heap.size)
  (h:∀A2 c2 w',w'.ownsRow base e size (.slice A2 (n+m) c2) (n+m) (xs++ys)->w.grownBy w' (bkO A)->n+m<=c2->c2<=maxLen-> (∀g,bkO A2=some g->bkO A=some g∨w.heap.size<=g)->wpList P ops Q rest (a.put o.dst (.slice A2 (n+m) c2)) w'):wpList P ops Q (o::rest) a w:=by
 refine wpList_plain hgd fun K hK=>?_;obtain⟨A2,c2,w',hr,ho',hg,hc1,hc2,hd⟩:=Dz (P:=P) t o.type i z bytes ht hi hz hsize hby hzs hsz hown (c':=c') hsl h1 hm h63 hbytes hbase;unfold Oper.wp;simp[execOp,ho,resolve,invoke,builtin,hs,hx,hr,Result.andThen];exact hK _ _ (h A2 c2 w' ho' hg hc1 hc2 hd)
end
structure Rw3(w:MQ)(base:Nat)(e:TypeId)(A1:OA)(n1 c1:Nat)(A2:OA)(n2 c2:Nat)(A3:OA)(n3 c3:Nat)(l1 l2 l3:List Dig):Prop where
 a:w.ownsRow base e 2 (.slice A1 n1 c1) n1 (flat dgC l1)
 b:w.ownsRow base e 2 (.slice A2 n2 c2) n2 (flat dgC l2)
 c:w.ownsRow base e 2 (.slice A3 n3 c3) n3 (flat dgC l3)
 ab:∀g,bkO A1=some g->bkO A2≠some g
 bc:∀g,bkO A2=some g->bkO A3≠some g
 ca:∀g,bkO A3=some g->bkO A1≠some g
section
variable {w w' : MQ} {base n1 c1 n2 c2 n3 c3 : Nat} {e : TypeId} {A1 A2 A3 : OA} {l1 l2 l3 : List Dig}
theorem Rw3.rot(h:Rw3 w base e A1 n1 c1 A2 n2 c2 A3 n3 c3 l1 l2 l3):Rw3 w base e A2 n2 c2 A3 n3 c3 A1 n1 c1 l2 l3 l1:=⟨h.b,h.c,h.a,h.bc,h.ca,h.ab⟩
theorem Rw3.upon(h:Rw3 w base e A1 n1 c1 A2 n2 c2 A3 n3 c3 l1 l2 l3)(hb:Below w.heap.size w w'):Rw3 w' base e A1 n1 c1 A2 n2 c2 A3 n3 c3 l1 l2 l3 :=
 ⟨fJ h.a hb,fJ h.b hb,fJ h.c hb,h.ab,h.bc,h.ca⟩
theorem mh{n c:Nat}{A:OA}{xs:List MS}{row:Option Nat}(h:w.ownsRow base e 2 (.slice A n c) n xs)(hg:w.grownBy w' row)(hn:∀g,bkO A=some g->row≠some g):w'.ownsRow base e 2 (.slice A n c) n xs:=by
 refine⟨h.1,?_⟩;rcases h.2 with h2 | ⟨g,cap,cur,hv,h1,h2,h3⟩
 . exact .inl h2
 . refine .inr ⟨g,cap,cur,hv,h1,(hg.block g (Array.getElem?_eq_some_iff.1 h2).1 fun e=>?_).trans h2,h3⟩
   simp at hv;exact hn g (by rw[hv.1];rfl) e.symm
theorem Rw3.grown{row:Nat}(h:Rw3 w base e A1 n1 c1 A2 n2 c2 A3 n3 c3 l1 l2 l3)(hg:w.grownBy w' (some row))(hn:∀cs,w.heap[row]? ≠some (.cells cs e (0,0))):Rw3 w' base e A1 n1 c1 A2 n2 c2 A3 n3 c3 l1 l2 l3:=by
 have key:∀{n c:Nat}{A:OA}{xs:List MS},w.ownsRow base e 2 (.slice A n c) n xs->w'.ownsRow base e 2 (.slice A n c) n xs:=fun {n c A xs} h=>mh h hg fun g hgb e=>by
  cases e
  rcases h.2 with ⟨hv,_⟩ | ⟨g,cap,cur,hv,_,h2,_⟩
  . simp at hv;rw[hv.1]at hgb;cases hgb
  . simp at hv;rw[hv.1]at hgb;cases hgb;exact hn cur h2
 exact⟨key h.a,key h.b,key h.c,h.ab,h.bc,h.ca⟩
theorem Rw3.app{A:OA}{n c:Nat}{l:List Dig}(h:Rw3 w base e A1 n1 c1 A2 n2 c2 A3 n3 c3 l1 l2 l3)(ho:w'.ownsRow base e 2 (.slice A n c) n (flat dgC l))(hg:w.grownBy w' (bkO A1))(hd:∀g,bkO A=some g->bkO A1=some g∨w.heap.size<=g):Rw3 w' base e A n c A2 n2 c2 A3 n3 c3 l l2 l3:=by
 have lt:∀{n c:Nat}{A:OA}{xs:List MS},w.ownsRow base e 2 (.slice A n c) n xs->∀g,bkO A=some g->g<w.heap.size:=fun {n c A xs} h g hgb=>(h.lt g (by rw[gM];exact hgb)).2;refine⟨ho,mh h.b hg fun g h2 e=>h.ab g e h2,mh h.c hg fun g h2 e=>h.ca g h2 e,fun g hgb h2=>?_,h.bc,fun g h2 hgb=>?_⟩
 . rcases hd g hgb with h3 | h3
   . exact h.ab g h3 h2
   . have:=lt h.b g h2;omega
 . rcases hd g hgb with h3 | h3
   . exact h.ca g h2 h3
   . have:=lt h.c g h2;omega
theorem JY{n c:Nat}{A:OA}{l:List Dig}{d:Dig}(h:w.ownsRow base e 2 (.slice A (n+1) c) (n+1) (flat dgC (l++ [d]))):w.ownsRow base e 2 (.slice A n c) n (flat dgC l):=by
 have hl: (flat dgC l).length=n*2:=by
  have h1:=h.1;rw[bu,ae]at h1;have: (flat dgC [d]).length=2:=rfl;omega
 refine⟨hl,?_⟩;rcases h.2 with ⟨_,h2⟩ | ⟨g,cap,cur,hv,h1,h2,h3,h4,h5,h6⟩
 . omega
 . simp at hv
   obtain⟨rfl,rfl⟩:=hv;refine .inr ⟨g,c,cur,rfl,h1,h2,by omega,h4,h5,?_⟩;have:=congrArg (List.take (n*2)) h6;rw[List.take_take,bu,<-hl,List.take_left]at this;rw[hl]at this;have e2:min (n*2) ((n+1)*2)=n*2:=by omega
   rwa[e2]at this
theorem Rw3.pop{d:Dig}(h:Rw3 w base e A1 (n1+1) c1 A2 n2 c2 A3 n3 c3 (l1++ [d]) l2 l3):Rw3 w base e A1 n1 c1 A2 n2 c2 A3 n3 c3 l1 l2 l3 :=
 ⟨JY h.a,h.b,h.c,h.ab,h.bc,h.ca⟩
end
def CK(l:List Dig)(n:Nat)(w:MQ)(e:Ending)(w':MQ):Prop :=
 ∃A c,e= .returned (.slice A n c)/\w'.ownsRow w.heap.size 50 2 (.slice A n c) n (flat dgC l)/\Below w.heap.size w w'
theorem FD(A:OA)(n c B:Nat)(l:List Dig)(w:MQ)(h0:Sl w B 2 A n (flat dgC l))(hB:B<=w.heap.size)(hn:n<=1000000) :
  Calls Tryz.prog 51 #[.slice A n c] w (CK l n w):=by
 have H0:=ah h0;have HL:=ah (h0.len fG (by omega));obtain⟨i0,hi,hz0,hz1,hz2⟩:=info_parts jv;have Hi:=ah hi;have Hz0:=ah hz0;have Hz1:=ah hz1;have Hz2:=ah hz2;clear hi hz0 hz1 hz2 h0;cases A with
 | none =>
   have hn0:n=0:=by
    rcases Nat.eq_zero_or_pos n with h | h
    . exact h
    . obtain⟨_,_,e,_⟩:=H0.out.2 h;cases e
   subst hn0;have hl:l= []:=List.eq_nil_of_length_eq_zero HL.out;subst hl;have hnil:∀W,(binOp .eql 47 (.slice none 0 c) (.slice none 0 0)).run Tryz.prog W= .ok (.bool true) W:=fun W=>Lib.run_eql_slice_nil_nil W _ _ Tryz.underlying47
   go_enter Tryz.func51,Tryz.ntmps51
   go_wp2_with fail;go_ret
   exact⟨none,0,rfl,⟨rfl,.inl ⟨rfl,rfl⟩⟩,af _ _⟩
 | some a =>
   obtain⟨W,hW⟩:∃W,w.alloc (.cells #[] 50)=W:=⟨_,rfl⟩
   have hb:Below w.heap.size w W:=by rw[<-hW];exact(af _ w).alloc ai _
   have HO:Hid (W.ownsRow w.heap.size 50 2 (.slice (some ⟨w.heap.size,0,none⟩) 0 0) 0 []):=by
    rw[<-hW];exact⟨rfl,.inr ⟨w.heap.size,0,#[],rfl,Nat.le_refl _,heap_alloc_new w _,Nat.le_refl _,ZZ _,rfl,rfl⟩⟩
   have HS:=ah (H0.out.below hb hB);have HB:=ah hb;have HW:=ah hW;have hnil:∀W,(binOp .eql 47 (.slice (some a) n c) (.slice none 0 0)).run Tryz.prog W= .ok (.bool false) W:=fun W=>Lib.run_eql_slice_some_nil W _ _ _ Tryz.underlying47;clear hW hb
   go_enter Tryz.func51,Tryz.ntmps51
   go_wp2_with (at_builtin;refine gq (.tmp 5) (.tmp 6) 47 rfl ?_)
   rw[HW.out];refine aF ?_;refine iL (base:=w.heap.size) (size:=2) _ rfl (.tmp 5) (.tmp 6) 47 rfl 50 i0 _ 16 Tryz.underlying47 Hi.out Hz0.out Hz1.out Hz2.out rfl (by decide) _ 0 [] rfl HO.out B (some a) n c (flat dgC l) rfl HS.out (jm _) (by unfold maxLen;omega) (by omega) HB.out.size ?_;intro A2 c2 w2 ho2 hg2 _ _;rw[List.nil_append]at ho2;have HO2:=ah ho2;have HB2:Hid (Below w.heap.size w w2):=HB.out.grown hg2 HB.out.size (fun g e=>by cases e;exact Nat.le_refl _);clear ho2 hg2;rw[Nat.zero_add]at HO2 ⊢;go_wp2_with fail;go_ret
   exact⟨A2,c2,rfl,HO2.out,HB2.out⟩
end
end Go.Proofs.YtknefelegjlgnaaGreatDoor
namespace Go.Proofs
open Go.Shelf
def Tryz.sortDig_ren:Go.Shelf.Ren:=⟨fun | 6=>54 | 15=>115 | 14=>114 | 28=>191 | 29=>192 | 20=>183 | 21=>184 | 22=>185 | 23=>186 | 24=>187 | 25=>188 | 26=>189 | 27=>190 | 46=>253 | 47=>254 | 48=>255 | 49=>256 | 50=>257 | 57=>296 | n=>n,fun | 22=>47 | 24=>50 | 25=>114 | 3=>3 | 39=>188 | 0=>0 | 53=>267 | 55=>48 | 4=>4 | 46=>261 | 45=>260 | 50=>181 | 5=>5 | 9=>9 | 66=>328 | 70=>332 | 76=>361 | 77=>362 | n=>n,fun | n=>n⟩
theorem Tryz.sortDig:Go.Proofs.SlLaysF0.n6 Tryz.prog Tryz.sortDig_ren:={
 mixed:=by kernel_rfl
 f6:=⟨Tryz.f54.name,by decide,Tryz.func54.trans (congrArg some (by kernel_rfl))⟩
 f14:=⟨Tryz.f114.name,by decide,Tryz.func114.trans (congrArg some (by kernel_rfl))⟩
 f15:=Tryz.func115.trans (congrArg some (by kernel_rfl))
 f20:=⟨Tryz.f183.name,by decide,Tryz.func183.trans (congrArg some (by kernel_rfl))⟩
 f21:=⟨Tryz.f184.name,by decide,Tryz.func184.trans (congrArg some (by kernel_rfl))⟩
 f22:=⟨Tryz.f185.name,by decide,Tryz.func185.trans (congrArg some (by kernel_rfl))⟩
 f23:=⟨Tryz.f186.name,by decide,Tryz.func186.trans (congrArg some (by kernel_rfl))⟩
 f24:=⟨Tryz.f187.name,by decide,Tryz.func187.trans (congrArg some (by kernel_rfl))⟩
 f25:=⟨Tryz.f188.name,by decide,Tryz.func188.trans (congrArg some (by kernel_rfl))⟩
 f26:=⟨Tryz.f189.name,by decide,Tryz.func189.trans (congrArg some (by kernel_rfl))⟩
 f27:=⟨Tryz.f190.name,by decide,Tryz.func190.trans (congrArg some (by kernel_rfl))⟩
 f28:=Tryz.func191.trans (congrArg some (by kernel_rfl))
 f29:=Tryz.func192.trans (congrArg some (by kernel_rfl))
 f46:=⟨Tryz.f253.name,by decide,Tryz.func253.trans (congrArg some (by kernel_rfl))⟩
 f47:=Tryz.func254.trans (congrArg some (by kernel_rfl))
 f48:=Tryz.func255.trans (congrArg some (by kernel_rfl))
 f49:=⟨Tryz.f256.name,by decide,Tryz.func256.trans (congrArg some (by kernel_rfl))⟩
 f50:=⟨Tryz.f257.name,by decide,Tryz.func257.trans (congrArg some (by kernel_rfl))⟩
 f57:=⟨Tryz.f296.name,by decide,Tryz.func296.trans (congrArg some (by kernel_rfl))⟩
 t0:=Tryz.underlying0
 a0:=Tryz.isAgg0
 z0:=Tryz.sizeOf0
 v0:=Tryz.zeroValue0
 t3:=Tryz.underlying3
 a3:=Tryz.isAgg3
 z3:=Tryz.sizeOf3
 v3:=Tryz.zeroValue3
 t4:=Tryz.underlying4
 a4:=Tryz.isAgg4
 z4:=Tryz.sizeOf4
 v4:=Tryz.zeroValue4
 t5:=Tryz.underlying5
 a5:=Tryz.isAgg5
 z5:=Tryz.sizeOf5
 v5:=Tryz.zeroValue5
 t9:=Tryz.underlying9
 a9:=Tryz.isAgg9
 z9:=Tryz.sizeOf9
 v9:=Tryz.zeroValue9
 t22:=Tryz.underlying47
 a22:=Tryz.isAgg47
 z22:=Tryz.sizeOf47
 v22:=Tryz.zeroValue47
 t25:=Tryz.underlying114
 a25:=Tryz.isAgg114
 z25:=Tryz.sizeOf114
 v25:=Tryz.zeroValue114
 t39:=Tryz.underlying188
 a39:=Tryz.isAgg188
 z39:=Tryz.sizeOf188
 v39:=Tryz.zeroValue188
 t45:=Tryz.underlying260
 a45:=Tryz.isAgg260
 z45:=Tryz.sizeOf260
 v45:=Tryz.zeroValue260
 t46:=Tryz.underlying261
 a46:=Tryz.isAgg261
 z46:=Tryz.sizeOf261
 v46:=Tryz.zeroValue261
 t50:=Tryz.underlying181
 a50:=Tryz.isAgg181
 z50:=Tryz.sizeOf181
 v50:=Tryz.zeroValue181
 t53:=Tryz.underlying267
 a53:=Tryz.isAgg267
 z53:=Tryz.sizeOf267
 v53:=Tryz.zeroValue267
 t55:=Tryz.underlying48
 a55:=Tryz.isAgg48
 z55:=Tryz.sizeOf48
 v55:=Tryz.zeroValue48
 t66:=Tryz.underlying328
 a66:=Tryz.isAgg328
 z66:=Tryz.sizeOf328
 v66:=Tryz.zeroValue328
 t70:=Tryz.underlying332
 a70:=Tryz.isAgg332
 z70:=Tryz.sizeOf332
 v70:=Tryz.zeroValue332
 t76:=Tryz.underlying361
 a76:=Tryz.isAgg361
 z76:=Tryz.sizeOf361
 v76:=Tryz.zeroValue361
 t77:=Tryz.underlying362
 a77:=Tryz.isAgg362
 z77:=Tryz.sizeOf362
 v77:=Tryz.zeroValue362}
end Go.Proofs
namespace Go.Proofs.YtknefelegjlgnaaGreatDoor
open Go.RowKit
section
open Go.RowKit Go.Shelf Go.Sort Go.Lib
attribute [local go_sem] Oper.semAt_some
instance :Inhabited Fl:=⟨(⟨#[]⟩,⟨#[]⟩)⟩
theorem wG(off n:Nat)(d:Array MS)(cur:Array MS)(hd:d.size=n)(ho:off=0)(hn:n<=cur.size): (putCells id off d cur).toList.take n=d.toList:=by
 subst ho hd;apply List.ext_getElem?
 intro k;rw[List.getElem?_take];by_cases hk:k<d.size
 . have hk2:k<cur.size:=by omega
   rw[if_pos hk];simp[putCells,hk,hk2]
 . rw[if_neg hk,List.getElem?_eq_none (by simp;omega)]
end
section
open Go.RowKit Go.Shelf Go.Sort Go.Lib
attribute [local go_sem] Oper.semAt_some
def Gro(w w':MQ):Prop:=∃q os',w'=grow (w.drewN q) os'
section
variable {a b c : MQ}
theorem Gro.refl(w:MQ):Gro w w:=⟨0,#[],by rw[grow_empty];rfl⟩
theorem Gro.alloc(h:Gro a b)(o:Obj):Gro a (b.alloc o):=by
 obtain⟨q,os,rfl⟩:=h;exact⟨q,os++ #[o],by rw[alloc_eq_grow,grow_grow]⟩
theorem FP(w:MQ)(os:Array Obj)(k:Nat): (grow w os).drewN k=grow (w.drewN k) os:=by
 simp[World.drewN,grow]
theorem drewN_drewN(w:MQ)(i j:Nat): (w.drewN i).drewN j=w.drewN (i+j):=by
 simp[World.drewN,Nat.add_assoc]
theorem Gro.drew(h:Gro a b):Gro a b.drew:=by
 obtain⟨q,os,rfl⟩:=h;exact⟨q+1,os,by rw[drew_grow,<-drewN_drewN];rfl⟩
theorem Gro.trans(h:Gro a b)(g:Gro b c):Gro a c:=by
 obtain⟨q,os,rfl⟩:=h;obtain⟨q2,os2,rfl⟩:=g;exact⟨q+q2,os++os2,by rw[FP,grow_grow,drewN_drewN]⟩
theorem Gro.bel(h:Gro a b):Below a.heap.size a b:=by
 obtain⟨q,os,rfl⟩:=h;exact⟨rfl,rfl,rfl,by simp[grow,World.drewN],fun k hk=>by
  simp only[grow,World.drewN];rw[Array.getElem?_append_left (by simpa using hk)]⟩
end
def CmG(a b:Dig)(w:MQ)(e:Ending)(w':MQ):Prop:=e= .returned (.int .i64 (bW a b))/\Gro w w'
theorem Gu(a b:Dig)(w:MQ):Calls Tryz.prog 55 #[aB a,aB b] w (CmG a b w):=by
 obtain⟨a1,a2⟩:=a;obtain⟨b1,b2⟩:=b;obtain⟨z,hz⟩:∃z,bW (a1,a2) (b1,b2)=z:=⟨_,rfl⟩
 have HZ:=ah hz;have HN:Hid (((a1,a2):Dig)≠ (b1,b2)->z=orI [bK a1 b1,bK a2 b2]):=fun h=>by rw[<-hz];exact uR _ _ h
 clear hz;unfold CmG;rw[HZ.out];have HD:Hid ((a1 == b1 && a2 == b2)=decide (((a1,a2):Dig)= (b1,b2))):=by
  show _=_;rw[Bool.eq_iff_iff];simp
 simp only[aB];obtain⟨wz,hW⟩:∃wz,(w.alloc (.cells #[.int .u64 a1,.int .u64 a2] 50)).alloc (.cells #[.int .u64 b1,.int .u64 b2] 50)=wz:=⟨_,rfl⟩
 have HA:Hid (Bk wz w.heap.size 50 #[.int .u64 a1,.int .u64 a2]):=by rw[<-hW];exact(Bk.new w _ _).alloc _
 have HB:Hid (Bk wz (w.heap.size+1) 50 #[.int .u64 b1,.int .u64 b2]):=by
  rw[<-hW];have:=Bk.new (w.alloc (.cells #[.int .u64 a1,.int .u64 a2] 50)) 50 #[.int .u64 b1,.int .u64 b2];rw[Z9]at this;exact this
 have HL:Hid (Gro w wz):=by rw[<-hW];exact((Gro.refl w).alloc _).alloc _
 have hzW:w.heap.size+2=wz.heap.size:=by rw[<-hW];simp
 obtain⟨c0,c1,_,_⟩:=HA.out.two;obtain⟨c2,c3,_,_⟩:=HB.out.two;have HC1:=ah (fun w=>kF a1 b1 w);have HC2:=ah (fun w=>kF a2 b2 w);by_cases h: ((a1,a2):Dig)= (b1,b2)
 . have hd:=HD.out
   rw[decide_eq_true h]at hd;have H0:Hid (z=0):=by show _=_;rw[<-HZ.out];exact(mg _ _).2 h
   clear h
   go_enter Tryz.func55,Tryz.ntmps55
   go_wp2_with fail;go_ret
   exact⟨by rw[H0.out];rfl,HL.out⟩
 . have hd:=HD.out
   rw[decide_eq_false h]at hd;have H0:Hid (z=orI [bK a1 b1,bK a2 b2]):=HN.out h;clear h
   go_enter Tryz.func55,Tryz.ntmps55
   go_wp2_with fail;have HSP:Hid (∀x∈ [(10,SlP a1 a2 b1 b2)],∀v W W',x.2 v W->Below W.heap.size W W'->x.2 v W'):=fun x hx v W W' h hb=>by
    simp only[aa]at hx;subst hx;obtain⟨b0,h1,h2⟩:=h;exact⟨b0,h1,h2.below hb h2.lt⟩
   have k0:=c0;have k1:=c1;have k2:=c2;have k3:=c3;refine jB 12 (8::9::10::11::12::13::14::15::16::17::18::19:: []) (by kernel_rfl) (by kernel_rfl) (by kernel_rfl) (fun W=>Gro wz W) (fun W W'=>Gro W W')
    (lH [(10,SlP a1 a2 b1 b2)] ((.pointer (some ⟨w.heap.size,0,none⟩)):: (.int .u64 a1):: (.pointer (some ⟨w.heap.size+1,0,none⟩)):: (.int .u64 b1):: (.int .i64 (bK a1 b1)):: (.pointer (some ⟨w.heap.size,1,none⟩)):: (.int .u64 a2):: (.pointer (some ⟨w.heap.size+1,1,none⟩)):: (.int .u64 b2):: (.int .i64 (bK a2 b2)):: (undef):: (.int .i64 (orI [bK a1 b1,bK a2 b2])):: [])) (fun W W' h1 h2=>h1.trans h2) (fun i v W W' h hb=>sQ HSP.out i v W W' h hb.bel) (Gro.refl _).drew ?stepA ?tailA
   case stepA =>
    intro i o vs W hi ho hv hR hphi;obtain⟨v0,v1,v2,v3,v4,v5,v6,v7,v8,v9,v10,v11,rfl⟩:=qR hv;simp only[List.zip,List.zipWith,aR,Act.put,List.setIfInBounds_toArray,List.set];have hWz:=hR.bel.size;have c0:=(hR.bel.cell (p:=⟨w.heap.size,0,none⟩) (by show w.heap.size<_;omega)).trans k0;have c1:=(hR.bel.cell (p:=⟨w.heap.size,1,none⟩) (by show w.heap.size<_;omega)).trans k1;have c2:=(hR.bel.cell (p:=⟨w.heap.size+1,0,none⟩) (by show w.heap.size+1<_;omega)).trans k2;have c3:=(hR.bel.cell (p:=⟨w.heap.size+1,1,none⟩) (by show w.heap.size+1<_;omega)).trans k3
    match i,hi,ho with
    | 0,_,rfl =>
      exact .inl ⟨rfl,aJ (v:= .pointer (some ⟨w.heap.size,0,none⟩)) (w':=W) (by go_simp) ⟨Gro.refl _,fun _=>aI⟩⟩
    | 1,_,rfl =>
      have e0:v0=_:=hphi ⟨0,.data⟩ (by simp) rfl v0 rfl _ rfl;subst e0;exact .inl ⟨rfl,aJ (v:= .int .u64 a1) (w':=W) (by go_simp) ⟨Gro.refl _,fun _=>aI⟩⟩
    | 2,_,rfl =>
      exact .inl ⟨rfl,aJ (v:= .pointer (some ⟨w.heap.size+1,0,none⟩)) (w':=W) (by go_simp) ⟨Gro.refl _,fun _=>aI⟩⟩
    | 3,_,rfl =>
      have e2:v2=_:=hphi ⟨2,.data⟩ (by simp) rfl v2 rfl _ rfl;subst e2;exact .inl ⟨rfl,aJ (v:= .int .u64 b1) (w':=W) (by go_simp) ⟨Gro.refl _,fun _=>aI⟩⟩
    | 4,_,rfl =>
      have e1:v1=_:=hphi ⟨1,.data⟩ (by simp) rfl v1 rfl _ rfl;have e3:v3=_:=hphi ⟨3,.data⟩ (by simp) rfl v3 rfl _ rfl;subst e1 e3;refine .inl ⟨rfl,iM (f:=117) (args:=#[.int .u64 a1,.int .u64 b1]) (by go_simp) ((HC1.out W).mono ?_)⟩;rintro e W' ⟨rfl,rfl⟩;exact⟨_,rfl,Gro.refl _,fun _=>aI⟩
    | 5,_,rfl =>
      exact .inl ⟨rfl,aJ (v:= .pointer (some ⟨w.heap.size,1,none⟩)) (w':=W) (by go_simp) ⟨Gro.refl _,fun _=>aI⟩⟩
    | 6,_,rfl =>
      have e5:v5=_:=hphi ⟨5,.data⟩ (by simp) rfl v5 rfl _ rfl;subst e5;exact .inl ⟨rfl,aJ (v:= .int .u64 a2) (w':=W) (by go_simp) ⟨Gro.refl _,fun _=>aI⟩⟩
    | 7,_,rfl =>
      exact .inl ⟨rfl,aJ (v:= .pointer (some ⟨w.heap.size+1,1,none⟩)) (w':=W) (by go_simp) ⟨Gro.refl _,fun _=>aI⟩⟩
    | 8,_,rfl =>
      have e7:v7=_:=hphi ⟨7,.data⟩ (by simp) rfl v7 rfl _ rfl;subst e7;exact .inl ⟨rfl,aJ (v:= .int .u64 b2) (w':=W) (by go_simp) ⟨Gro.refl _,fun _=>aI⟩⟩
    | 9,_,rfl =>
      have e6:v6=_:=hphi ⟨6,.data⟩ (by simp) rfl v6 rfl _ rfl;have e8:v8=_:=hphi ⟨8,.data⟩ (by simp) rfl v8 rfl _ rfl;subst e6 e8;refine .inl ⟨rfl,iM (f:=117) (args:=#[.int .u64 a2,.int .u64 b2]) (by go_simp) ((HC2.out W).mono ?_)⟩;rintro e W' ⟨rfl,rfl⟩;exact⟨_,rfl,Gro.refl _,fun _=>aI⟩
    | 10,_,rfl =>
      have e4:v4=_:=hphi ⟨4,.data⟩ (by simp) rfl v4 rfl _ rfl;have e9:v9=_:=hphi ⟨9,.data⟩ (by simp) rfl v9 rfl _ rfl;subst e4 e9;exact .inl ⟨rfl,aJ (v:= .slice (some ⟨W.heap.size,0,none⟩) 2 2) (w':=W.alloc (.cells #[.int .i64 (bK a1 b1),.int .i64 (bK a2 b2)] 3)) (by go_simp) ⟨(Gro.refl W).alloc _,W.heap.size,rfl,Bk.new W _ _⟩⟩
    | 11,_,rfl =>
      obtain⟨b0,rfl,hbk⟩: (SlP a1 a2 b1 b2) v10 W:=hphi ⟨10,.data⟩ (by simp) rfl v10 rfl;refine .inl ⟨rfl,iM (f:=116) (args:=#[.slice (some ⟨b0,0,none⟩) 2 2]) (by go_simp) ((Bq b0 3 _ _ W hbk).mono ?_)⟩;rintro e W' ⟨rfl,rfl⟩;exact⟨_,rfl,Gro.refl _,fun _=>aI⟩
    | i+12,hi,_=>exact absurd hi (by omega)
   case tailA =>
    intro vs W hv hR hphi;obtain⟨v0,v1,v2,v3,v4,v5,v6,v7,v8,v9,v10,v11,rfl⟩:=qR hv;simp only[List.zip,List.zipWith,aR,Act.put,List.setIfInBounds_toArray,List.set,List.drop];have e0:v0=_:=hphi 0 v0 rfl _ rfl;have e1:v1=_:=hphi 1 v1 rfl _ rfl;have e2:v2=_:=hphi 2 v2 rfl _ rfl;have e3:v3=_:=hphi 3 v3 rfl _ rfl;have e4:v4=_:=hphi 4 v4 rfl _ rfl;have e5:v5=_:=hphi 5 v5 rfl _ rfl;have e6:v6=_:=hphi 6 v6 rfl _ rfl;have e7:v7=_:=hphi 7 v7 rfl _ rfl;have e8:v8=_:=hphi 8 v8 rfl _ rfl;have e9:v9=_:=hphi 9 v9 rfl _ rfl;have e10: (SlP a1 a2 b1 b2) v10 W:=hphi 10 v10 rfl;have e11:v11=_:=hphi 11 v11 rfl _ rfl;subst e0 e1 e2 e3 e4 e5 e6 e7 e8 e9 e11;clear hphi hv;obtain⟨b0,rfl,_⟩:=e10;go_wp2_with fail;go_ret
    exact⟨by rw[H0.out];rfl,HL.out.trans hR⟩
theorem Gp(x y:Dig)(W:MQ):Calls Tryz.prog 55 #[.agg (dgC x).toArray,.agg (dgC y).toArray] W fun e w'=>e= .returned (.int .i64 (bW x y))/\∃q os',w'=grow (W.drewN q) os':=Gu x y W
theorem mQ(x y:Dig):ltOf bW x y=decide (ltD x y):=by
 unfold ltOf;rw[Bool.eq_iff_iff,decide_eq_true_iff,decide_eq_true_iff];exact uE x y
theorem swoD:SWO (ltOf bW) where
 irrefl x:=by rw[mQ];exact decide_eq_false (gI x)
 trans x y z h1 h2:=by
  rw[mQ,decide_eq_true_iff]at *;exact iO h1 h2
 ntrans x y z h1 h2:=by
  rw[mQ,decide_eq_false_iff_not]at *;intro h3;by_cases h4:ltD z y
  . exact h1 (iO h3 h4)
  . have:=kI h2 h4
    rw[this]at h1;exact h1 h3
def vP(ts:List Dig):Prop:=ts.Pairwise (fun a b=>¬ltD b a)
theorem xD(ts:List Dig): (flatK dgC 2 ts.toArray).toList=flat dgC ts:=by
 apply List.ext_getElem?
 intro t;by_cases ht:t<ts.length*2
 . have hk:t / 2<ts.length:=by omega
   have hx:ts[t / 2]? =some ts[t / 2]:=Z6 hk;have h1:=gy fG ts (t / 2) (t % 2) _ hx (by omega);rw[show t / 2*2+t % 2=t by omega]at h1;have h2:t< (flatK dgC 2 ts.toArray).size:=by simpa using ht
   rw[h1,Array.getElem?_toList,Array.getElem?_eq_getElem h2];have h3:=get_flatK dgC 2 ts.toArray t (by simpa using ht);rw[getElem!_pos (flatK dgC 2 ts.toArray) t h2]at h3;rw[h3,show ts.toArray[t / 2]! =ts[t / 2] by simp[hk]];have h4:t % 2< (dgC ts[t / 2]).length:=by rw[fG];omega
   rw[getElem!_pos (dgC ts[t / 2]) (t % 2) h4,Z6 h4]
 . rw[List.getElem?_eq_none (by simp;omega),List.getElem?_eq_none (by rw[gD fG];omega)]
theorem Jd{w:MQ}{base n c:Nat}{A:OA}{e:TypeId}{ts:List Dig}(h:w.ownsRow base e 2 (.slice A n c) n (flat dgC ts)):ts.length=n:=by
 have:=h.1;rw[gD fG]at this;omega
theorem xz(base n c:Nat)(A:OA)(ts:List Dig)(w:MQ)(h:w.ownsRow base 50 2 (.slice A n c) n (flat dgC ts))(hn:n<=1000000000) :
  Calls Tryz.prog 54 #[.slice A n c,.func (.func 55) #[] #[]] w fun e w'=>e= .returned (.tuple #[])/\∃us,us.Perm ts/\vP us/\w'.ownsRow base 50 2 (.slice A n c) n (flat dgC us)/\w.grownBy w' (Value.slice A n c).ownBlock:=by
 have hl:=Jd h;have eg:∀args w,(callFunc 55 args).run Tryz.prog w= .ok (.enter 55 args) w:=enters_of Tryz.func55 (by kernel_rfl) rfl;rcases h.2 with ⟨hv,h0⟩ | ⟨g,cap,cur,hv,h1,h2,h3,h4,h5,h6⟩
 . simp only[Value.slice.injEq]at hv
   obtain⟨rfl,_,rfl⟩:=hv;subst h0;obtain rfl:ts= []:=List.eq_nil_of_length_eq_zero hl;have hc:=AnyF.slices_SortFunc_none Tryz.sortDig none 0 (.func (.func 55) #[] #[]) w;change Calls Tryz.prog 54 _ _ _ at hc;refine hc.mono ?_;rintro e w' ⟨rfl,rfl⟩;exact⟨rfl,[],.refl _,List.Pairwise.nil,h,rfl,rfl,rfl,Nat.le_refl _,fun _ _ _=>rfl⟩
 . simp only[Value.slice.injEq]at hv
   obtain⟨rfl,_,rfl⟩:=hv;have hsz:n*2<=cur.size:=by omega
   have hlt:=(Array.getElem?_eq_some_iff.1 h2).1;have hH:HoldsK dgC 2 w g 0 ts.toArray:=by
    intro j hj;have hj':j<ts.length*2:=by simpa using hj
    refine⟨?_,by simp[World.frozen?,h2]⟩;have h7: (flat dgC ts)[j]? =some ((flatK dgC 2 ts.toArray)[j]!):=by
     rw[<-xD,Array.getElem?_toList,Array.getElem?_eq_getElem (by simpa using hj'),getElem!_pos (flatK dgC 2 ts.toArray) j (by simpa using hj')]
    rw[<-h6,List.getElem?_take,if_pos (by omega)]at h7;show w.cell? ⟨g,0+j,none⟩=_;simp[World.cell?,h2]
    simpa using h7
   have hc:=AnyQ.slices_SortFunc Tryz.sortDig 2 Tryz.isAgg50 Tryz.sizeOf50 dgC fG (fun x v hv=>by simp[dgC]at hv;rcases hv with rfl | rfl <;> rfl) bW swoD 55 #[] g 0 c ts.toArray w eg (fun _ _ _ _ x y=>Gp x y _) hH hlt (by simp;omega);change Calls Tryz.prog 54 _ _ _ at hc;rw[List.size_toArray,hl]at hc;refine hc.mono ?_;rintro e w' ⟨rfl,d',k,os,hp,hs,rfl⟩;have hd:d'.size=n:=by rw[hp.1];simpa using hl
   have hpp:d'.toList.Perm ts:=by
    have:=hp.2.2;have e1:d'.extract 0 n=d':=by rw[<-hd];simp
    have e2:ts.toArray.extract 0 n=ts.toArray:=by rw[<-hl];simp
    rw[e1,e2]at this
    simpa using this
   have hso:vP d'.toList:=by
    unfold vP;rw[List.pairwise_iff_getElem];intro i j hi hj hij;have hi':i<d'.size:=by simpa using hi
    have hj':j<d'.size:=by simpa using hj
    have:=hs i j (ZZ _) hij (by omega);rw[mQ,decide_eq_false_iff_not,getElem!_pos d' j hj',getElem!_pos d' i hi']at this
    simpa using this
   have hfs: (flatK dgC 2 d').size=n*2:=by rw[size_flatK,hd]
   refine⟨rfl,d'.toList,hpp,hso,⟨by rw[gD fG,Array.length_toList,hd],.inr ⟨g,c,putCells id 0 (flatK dgC 2 d') cur,rfl,h1,?_,h3,h4,by simp[putCells];omega,?_⟩⟩,rfl,rfl,rfl,by simp[sortWorldK,putRowK,grow,putRow,mapBlock,Sort.ahead],fun b hb hr=>?_⟩
   . simp only[sortWorldK,putRowK,grow,putRow,mapBlock,Sort.ahead]
     rw[Array.getElem?_append_left (by simpa using hlt),Array.getElem?_modify,if_pos rfl,h2];rfl
   . rw[wG 0 (n*2) _ cur hfs rfl hsz,<-xD]
   . simp only[sortWorldK,putRowK,grow,putRow,mapBlock,Sort.ahead]
     rw[Array.getElem?_append_left (by simpa using hb),Array.getElem?_modify,if_neg (fun e=>hr (by rw[e];rfl))]
end
end Go.Proofs.YtknefelegjlgnaaGreatDoor
