/-
  Lemmas of the card.
-/
import Derived.Lib.BufferMore
import Derived.Shelf.SlSortCmp.NoneTotal
import Derived.Test.YtknefelegjlgnaaGreatDoorACAt13
set_option maxRecDepth 100000
set_option maxHeartbeats 16000000
namespace Go.Proofs.YtknefelegjlgnaaGreatDoor
open Go.RowKit
def UnE(a b:List Itm)(w:MZ)(e:Ending)(w':MZ):Prop :=
 ((∃r A c,UniR a b r/\e= .returned (.tuple #[.slice A r.length c,.int .i64 0])/\Sl w' w'.heap.size 3 A r.length (flat itC r)/\r.length<=c/\c<=maxLen)∨ (iY a b/\e= .returned (.tuple #[.slice none 0 0,.int .i64 16])))/\Below w.heap.size w w'
theorem EZ(A B:OA)(n1 c1 n2 c2 Bs:Nat)(a b:List Itm)(w:MZ)(h0:Sl w Bs 3 A n1 (flat itC a))(h1:Sl w Bs 3 B n2 (flat itC b))(hB:Bs<=w.heap.size)(hn1:n1<=400000)(hn2:n2<=400000)(ha:AscI a)(hb:AscI b) :
  Calls Tryz.prog 75 #[.slice A n1 c1,.slice B n2 c2] w (UnE a b w):=by
 have Q:=ah (h0.len bO (by omega));have R:=ah (h1.len bO (by omega));have H0:=ah h0;have H1:=ah h1;have K:=ah ha;have L:=ah hb;clear h0 h1 ha hb;obtain⟨i0,hi,S,T,U⟩:=info_parts jS;have Hi:=ah hi;have F:=ah S;have G:=ah T;have H:=ah U;clear hi S T U
 go_enter Tryz.func75,Tryz.ntmps75
 go_wp2_with fail
 go_loopw[6,7,8] (fun q u v wr=>∃(out:List Itm)(A':OA)(c' i j:Nat),u= .int .i64 (i:Int)/\v= .int .i64 (j:Int)/\q= .slice A' out.length c'/\out.length<=c'/\c'<=maxLen/\Hid (i<=n1/\j<=n2/\UAt a b i j out)/\Hid (Apd wr w.heap.size 118 3 A' out.length c' (flat itC out))/\Hid (Below w.heap.size w wr)) (fun _ u v _=>(n1 - (intOf u).toNat)+ (n2 - (intOf v).toNat))
 case atStart=>exact⟨[],none,0,0,0,rfl,rfl,rfl,Nat.le_refl _,ZZ _,⟨ZZ _,ZZ _,UAt.start a b⟩,.inr ⟨rfl,rfl,rfl⟩,af _ _⟩
 case round =>
  obtain⟨out,A',c',i,j,rfl,rfl,rfl,V,ag,X,hO,M⟩:=hrel;have HO:=ah hO.o;have d:=ah M.o;obtain⟨aq,ar,N⟩:=X.o;have C:=ah N
  have al:=N.len;obtain⟨m,hm⟩:=NX9 out.length
  have HM:=ah hm;rw[hm]at V al HO ⊢;have zr:w.heap.size<=wr.heap.size:=d.o.size;clear hO M hm X N
  by_cases hi:i<n1
  . have am: (i:Int)< (n1:Int):=by omega
    have au: ((i:Int) == (n1:Int))=false:=by rw[beq_eq_false_iff_ne];omega
    obtain⟨ba,oa,x,rfl,av,hx,x0,I,O⟩:=(H0.o.below d.o hB).it hi;have HX:=ah hx;clear hx;obtain⟨⟨x1,x2⟩,xs⟩:=x;simp only at x0 I O;by_cases hj:j<n2
    . have Y: (j:Int)< (n2:Int):=by omega
      have aw: ((j:Int) == (n2:Int))=false:=by rw[beq_eq_false_iff_ne];omega
      obtain⟨bb,ob,y,rfl,an,hy,y0,t,J⟩:=(H1.o.below d.o hB).it hj;have HY:=ah hy;clear hy;obtain⟨⟨y1,y2⟩,ys⟩:=y;simp only at y0 t J;have z:=ah (fun W=>tC (x1,x2) (y1,y2) W);unfold CmE at z;simp only[aB]at z;obtain⟨cz,g⟩:=NX9 (bX (x1,x2) (y1,y2))
      rw[g]at z;have Z:=ah g;clear g;have H3:Hid (cz= -1/\ltD (x1,x2) (y1,y2)∨cz=0/\ (x1,x2)= (y1,y2)∨cz=1/\ltD (y1,y2) (x1,x2)):=by
       show _∨_∨_;rw[<-Z.o];unfold bX;by_cases e: (x1,x2)= (y1,y2)
       . rw[if_pos e];exact .inr (.inl ⟨rfl,e⟩)
       . rw[if_neg e]
         by_cases l:ltD (x1,x2) (y1,y2)
         . rw[if_pos l];exact .inl ⟨rfl,l⟩
         . rw[if_neg l]
           refine .inr (.inr ⟨rfl,?_⟩);by_cases l2:ltD (y1,y2) (x1,x2)
           . exact l2
           . exact absurd (kG l l2) e
      have aD:ba<wr.heap.size:=by omega
      have aE:bb<wr.heap.size:=by omega
      go_wp2_with fail
      go_region_held3 (fun w'=>w'.cell? ⟨ba,oa+i*3,none⟩=some (.int .u64 x1)/\w'.cell? ⟨ba,oa+i*3+1,none⟩=some (.int .u64 x2)/\w'.cell? ⟨bb,ob+j*3,none⟩=some (.int .u64 y1)/\w'.cell? ⟨bb,ob+j*3+1,none⟩=some (.int .u64 y2))
       (first | exact⟨x0,I,y0,t⟩ | exact⟨n0.o,ab.o,ad.o,n3.o⟩)
       (first
         | (go_at_call 55;refine(z.o _).mono ?_;rintro e w8 ⟨rfl,D⟩
            have n0:=ah ((D.cell (p:=⟨ba,oa+i*3,none⟩) (by show ba<_;simp;omega)).trans x0);have ab:=ah ((D.cell (p:=⟨ba,oa+i*3+1,none⟩) (by show ba<_;simp;omega)).trans I);have ad:=ah ((D.cell (p:=⟨bb,ob+j*3,none⟩) (by show bb<_;simp;omega)).trans y0);have n3:=ah ((D.cell (p:=⟨bb,ob+j*3+1,none⟩) (by show bb<_;simp;omega)).trans t);have h:Hid (Below wr.heap.size wr w8):=(af _ wr).drew.trans D;clear D))
      have x0:=(h.o.cell (p:=⟨ba,oa+i*3,none⟩) (by show ba<_;omega)).trans x0;have I:=(h.o.cell (p:=⟨ba,oa+i*3+1,none⟩) (by show ba<_;omega)).trans I;have O:=(h.o.cell (p:=⟨ba,oa+i*3+2,none⟩) (by show ba<_;omega)).trans O;have y0:=(h.o.cell (p:=⟨bb,ob+j*3,none⟩) (by show bb<_;omega)).trans y0;have t:=(h.o.cell (p:=⟨bb,ob+j*3+1,none⟩) (by show bb<_;omega)).trans t;have J:=(h.o.cell (p:=⟨bb,ob+j*3+2,none⟩) (by show bb<_;omega)).trans J
      replace HO:=ah (HO.o.below h.o)
      replace d:Hid (Below w.heap.size w w8):=d.o.trans (h.o.mono zr)
      have E:w.heap.size<=w8.heap.size:=d.o.size;clear n0 ab ad n3 h Z;rcases H3.o with ⟨g,hl⟩ | ⟨g,he⟩ | ⟨g,hl⟩
      . have HN:Hid (i+1<=n1/\j<=n2/\UAt a b (i+1) j (out++ [((x1,x2),xs)])):=⟨by omega,by omega,C.o.fst K.o HX.o (oH L.o HY.o hl)⟩
        subst g;clear H3 hl z;go_wp2_with fail
        go_quiet(fail)
        go_wp2_with (at_builtin;refine gB (.tmp 58) (.tmp 63) 29 rfl ?_)
        refine aF ?_;refine dB (base:=w.heap.size) (size:=3) _ rfl (.tmp 58) (.tmp 63) 29 rfl 118 i0 _ 32 Tryz.underlying29 Hi.o F.o G.o H.o rfl (by decide) A' m c' _ rfl (Apd.below (mh HO.o _) ((af _ _).alloc ai _)) _ _ 1 1 (flat itC [((x1,x2),xs)]) rfl (Sl.of_bk (n:=1) (size:=3) (Bk.new _ _ _) rfl) (gZ _) (by unfold maxLen;omega) (by omega) (by rw[Z9];exact Nat.le_succ_of_le E) ?_;intro A4 c4 w4 c f k o _;rw[<-bu]at c;have r:=ah c;have s:Hid (Below w.heap.size w w4):=(Below.alloc (bN d.o _) E _).trans f;clear c f;go_wp2_with fail;go_roundw
        case rel=>exact⟨out++ [((x1,x2),xs)],A4,c4,i+1,j,by go_num,by go_num,by rw[ae,HM.o];rfl,by rw[ae,HM.o];exact k,o,HN.o,by rw[ae,HM.o];exact r.o,s.o⟩
        case measure=>simp[intOf];omega
      . injection he with he1 he2
        subst he1;subst he2;subst g;have t2:=jK xs ys;have l1: (xs.toList != ys.toList)=!(decide (xs=ys)):=by rw[<-jK];rfl
        clear H3 z;by_cases hs:xs=ys
        . subst hs
          have HN:Hid (i+1<=n1/\j+1<=n2/\UAt a b (i+1) (j+1) (out++ [((x1,x2),xs)])):=⟨by omega,by omega,C.o.both K.o L.o HX.o HY.o⟩
          rw[decide_eq_true rfl]at t2 l1;go_wp2_with fail
          go_quiet(fail)
          go_wp2_with (at_builtin;refine gB (.tmp 58) (.tmp 63) 29 rfl ?_)
          refine aF ?_;refine dB (base:=w.heap.size) (size:=3) _ rfl (.tmp 58) (.tmp 63) 29 rfl 118 i0 _ 32 Tryz.underlying29 Hi.o F.o G.o H.o rfl (by decide) A' m c' _ rfl (Apd.below (mh HO.o _) ((af _ _).alloc ai _)) _ _ 1 1 (flat itC [((x1,x2),xs)]) rfl (Sl.of_bk (n:=1) (size:=3) (Bk.new _ _ _) rfl) (gZ _) (by unfold maxLen;omega) (by omega) (by rw[Z9];exact Nat.le_succ_of_le E) ?_;intro A4 c4 w4 c f k o _;rw[<-bu]at c;have r:=ah c;have s:Hid (Below w.heap.size w w4):=(Below.alloc (bN d.o _) E _).trans f;clear c f;go_wp2_with fail;go_roundw
          case rel=>exact⟨out++ [((x1,x2),xs)],A4,c4,i+1,j+1,by go_num,by go_num,by rw[ae,HM.o];rfl,by rw[ae,HM.o];exact k,o,HN.o,by rw[ae,HM.o];exact r.o,s.o⟩
          case measure=>simp[intOf];omega
        . have ao:Hid (iY a b):=zJ HX.o HY.o rfl hs
          rw[decide_eq_false hs]at t2 l1;clear hs;go_wp2_with fail
          go_quiet(fail)
          go_wp2_with fail;go_ret2
          exact⟨.inr ⟨ao.o,rfl⟩,bN d.o _⟩
      . have HN:Hid (i<=n1/\j+1<=n2/\UAt a b i (j+1) (out++ [((y1,y2),ys)])):=⟨by omega,by omega,C.o.snd L.o HY.o (oH K.o HX.o hl)⟩
        subst g;clear H3 hl z;go_wp2_with fail
        go_quiet(fail)
        go_wp2_with (at_builtin;refine gB (.tmp 69) (.tmp 74) 29 rfl ?_)
        refine aF ?_;refine dB (base:=w.heap.size) (size:=3) _ rfl (.tmp 69) (.tmp 74) 29 rfl 118 i0 _ 32 Tryz.underlying29 Hi.o F.o G.o H.o rfl (by decide) A' m c' _ rfl (Apd.below (mh HO.o _) ((af _ _).alloc ai _)) _ _ 1 1 (flat itC [((y1,y2),ys)]) rfl (Sl.of_bk (n:=1) (size:=3) (Bk.new _ _ _) rfl) (gZ _) (by unfold maxLen;omega) (by omega) (by rw[Z9];exact Nat.le_succ_of_le E) ?_;intro A4 c4 w4 c f k o _;rw[<-bu]at c;have r:=ah c;have s:Hid (Below w.heap.size w w4):=(Below.alloc (bN d.o _) E _).trans f;clear c f;go_wp2_with fail;go_roundw
        case rel=>exact⟨out++ [((y1,y2),ys)],A4,c4,i,j+1,by go_num,by go_num,by rw[ae,HM.o];rfl,by rw[ae,HM.o];exact k,o,HN.o,by rw[ae,HM.o];exact r.o,s.o⟩
        case measure=>simp[intOf];omega
    . have P:j=n2:=by omega
      subst P;have HN:Hid (i+1<=n1/\j<=j/\UAt a b (i+1) j (out++ [((x1,x2),xs)])):=⟨by omega,Nat.le_refl _,C.o.fst K.o HX.o (oK (by rw[R.o];exact Nat.le_refl _))⟩
      go_wp2_with fail
      go_quiet(fail)
      go_wp2_with (at_builtin;refine gB (.tmp 58) (.tmp 63) 29 rfl ?_)
      refine aF ?_;refine dB (base:=w.heap.size) (size:=3) _ rfl (.tmp 58) (.tmp 63) 29 rfl 118 i0 _ 32 Tryz.underlying29 Hi.o F.o G.o H.o rfl (by decide) A' m c' _ rfl (Apd.below (mh HO.o _) ((af _ _).alloc ai _)) _ _ 1 1 (flat itC [((x1,x2),xs)]) rfl (Sl.of_bk (n:=1) (size:=3) (Bk.new _ _ _) rfl) (gZ _) (by unfold maxLen;omega) (by omega) (by rw[Z9];exact Nat.le_succ_of_le zr) ?_;intro A4 c4 w4 c f k o _;rw[<-bu]at c;have r:=ah c;have s:Hid (Below w.heap.size w w4):=(Below.alloc (bN d.o _) zr _).trans f;clear c f;go_wp2_with fail;go_roundw
      case rel=>exact⟨out++ [((x1,x2),xs)],A4,c4,i+1,j,by go_num,by go_num,by rw[ae,HM.o];rfl,by rw[ae,HM.o];exact k,o,HN.o,by rw[ae,HM.o];exact r.o,s.o⟩
      case measure=>simp[intOf];omega
  . have ap:i=n1:=by omega
    subst ap;have am:¬(i:Int)< (i:Int):=by omega
    by_cases hj:j<n2
    . have Y: (j:Int)< (n2:Int):=by omega
      obtain⟨bb,ob,y,rfl,an,hy,y0,t,J⟩:=(H1.o.below d.o hB).it hj;have HY:=ah hy;clear hy;obtain⟨⟨y1,y2⟩,ys⟩:=y;simp only at y0 t J;have HN:Hid (i<=i/\j+1<=n2/\UAt a b i (j+1) (out++ [((y1,y2),ys)])):=⟨Nat.le_refl _,by omega,C.o.snd L.o HY.o (oK (by rw[Q.o];exact Nat.le_refl _))⟩
      go_wp2_with fail
      go_quiet(fail)
      go_wp2_with (at_builtin;refine gB (.tmp 69) (.tmp 74) 29 rfl ?_)
      refine aF ?_;refine dB (base:=w.heap.size) (size:=3) _ rfl (.tmp 69) (.tmp 74) 29 rfl 118 i0 _ 32 Tryz.underlying29 Hi.o F.o G.o H.o rfl (by decide) A' m c' _ rfl (Apd.below (mh HO.o _) ((af _ _).alloc ai _)) _ _ 1 1 (flat itC [((y1,y2),ys)]) rfl (Sl.of_bk (n:=1) (size:=3) (Bk.new _ _ _) rfl) (gZ _) (by unfold maxLen;omega) (by omega) (by rw[Z9];exact Nat.le_succ_of_le zr) ?_;intro A4 c4 w4 c f k o _;rw[<-bu]at c;have r:=ah c;have s:Hid (Below w.heap.size w w4):=(Below.alloc (bN d.o _) zr _).trans f;clear c f;go_wp2_with fail;go_roundw
      case rel=>exact⟨out++ [((y1,y2),ys)],A4,c4,i,j+1,by go_num,by go_num,by rw[ae,HM.o];rfl,by rw[ae,HM.o];exact k,o,HN.o,by rw[ae,HM.o];exact r.o,s.o⟩
      case measure=>simp[intOf];omega
    . have P:j=n2:=by omega
      subst P;have Y:¬(j:Int)< (j:Int):=by omega
      have HU:Hid (UniR a b out):=C.o.done (by rw[Q.o];exact Nat.le_refl _) (by rw[R.o];exact Nat.le_refl _);go_wp2_with fail;go_ret2
      exact⟨.inl ⟨out,A',c',HU.o,by rw[HM.o];rfl,by rw[HM.o];exact HO.o.sl,by rw[HM.o];exact V,ag⟩,d.o⟩
def KeE(p:List Itm)(l:List Dig)(w:MZ)(e:Ending)(w':MZ):Prop :=
 ∃A c,e= .returned (.slice A (eG p l).length c)/\Sl w' w'.heap.size 3 A (eG p l).length (flat itC (eG p l))/\ (eG p l).length<=c/\c<=maxLen/\Below w.heap.size w w'
theorem Fw{p:List Itm}{l:List Dig}{k:Nat}{x:Itm}(h:p[k]? =some x):eG (p.take (k+1)) l=if x.1∈l then eG (p.take k) l++ [x] else eG (p.take k) l:=by
 rw[aS h];unfold eG;rw[List.filter_append];by_cases hx:x.1∈l
 . rw[if_pos hx];congr 1;simp[hx]
 . rw[if_neg hx];simp[hx]
section
open Go.Maps
def inT(l:List Dig)(k:Nat):Dig->Bool:=fun d=>decide (d∈l.take k)
theorem Iu(l:List Dig):inT l 0=fun _=>false:=by funext d;simp[inT]
theorem IZ{l:List Dig}{k:Nat}{x:Dig}(h:l[k]? =some x):eP (inT l k) x=inT l (k+1):=by
 funext d
 rw[Bool.eq_iff_iff,setB_true];unfold inT;rw[decide_eq_true_iff,decide_eq_true_iff,aS h,List.mem_append,aa];exact⟨fun h=>h.symm,fun h=>h.symm⟩
theorem Kr{l:List Dig}{k:Nat}(h:l.length<=k)(d:Dig):inT l k d=decide (d∈l):=by unfold inT;rw[ZW h]
theorem Gd(A:OA)(n c B:Nat)(A1:OA)(n1 c1:Nat)(p:List Itm)(l:List Dig)(w:MZ)(h0:Sl w B 3 A n (flat itC p))(h1:Sl w B 2 A1 n1 (flat dgC l))(hB:B<=w.heap.size)(hn:n<=900000)(hn1:n1<=500000000)(hw:∀d∈l,WfD d)(hwp:∀i∈p,WfD i.1) :
  Calls Tryz.prog 21 #[.slice A n c,.slice A1 n1 c1] w (KeE p l w):=by
 have HL:=ah (h0.len bO (by omega));have U:=ah (h1.len fI (by omega));have H0:=ah h0;have H1:=ah h1;have HW:=ah hw;have V:=ah hwp;clear h0 h1 hw hwp;obtain⟨i0,hi,G,H,I⟩:=info_parts jS;have Hi:=ah hi;have X:=ah G;have Y:=ah H;have Z:=ah I;clear hi G H I;have ab:=@run_makeMap Tryz.prog
 go_enter Tryz.func21,Tryz.ntmps21
 obtain⟨W0,v⟩:=NX9 (w.alloc (.map #[] 0))
 have J:Hid (Sd W0 w.heap.size 0 (inT l 0)):=by rw[Iu,<-v];exact Sd.made w
 have K:Hid (Below w.heap.size w W0):=by rw[<-v];exact(af _ w).alloc ai _
 go_wp2_with fail;clear ab v
 go_loopw[14] (fun i wr=>∃k:Nat,k<=n1/\i= .int .i64 k/\Hid (Sd wr w.heap.size k (inT l k))/\Hid (Below w.heap.size w wr)) (fun i _=>n1 - (intOf i).toNat)
 case atStart=>exact⟨0,ZZ _,rfl,J.o,K.o⟩
 case round =>
  obtain⟨k,hk,rfl,hS,a⟩:=hrel;have HS:=ah hS.o;have f:=ah a.o;have zr:w.heap.size<=wr.heap.size:=f.o.size;have u:w.heap.size<wr.heap.size:=HS.o.lt;clear hS a J K;by_cases hlt:k<n1
  . obtain⟨bb,ad,x,rfl,ag,hx,y0,y1⟩:=(H1.o.below f.o hB).dg hlt
    have al: (k:Int)< (n1:Int):=by omega
    have HX:=ah hx;have o:=ah (jo (HW.o x (Z7 hx)));clear hx;obtain⟨x1,x2⟩:=x;simp only at y0 y1;obtain⟨W,hW⟩:=NX9 (wr.alloc (.cells #[.int .u64 x1,.int .u64 x2] 50))
    have L:Hid (Sd W w.heap.size k (inT l k)):=by rw[<-hW];exact HS.o.below ((af wr.heap.size wr).alloc ai _) u
    have y:Hid (Below w.heap.size w W):=by rw[<-hW];exact f.o.alloc zr _
    have M:Hid (Bk W wr.heap.size 50 #[.int .u64 x1,.int .u64 x2]):=by rw[<-hW];exact Bk.new wr _ _
    obtain⟨r0,r1,_,_⟩:=M.o.two;have b:=ah hW;clear hW
    go_wp2_with (at_mapUpdate;refine aN ?_)
    rw[b.o]
    go_wp2_with (at_mapUpdate;refine aN ?_)
    refine aF ?_;refine wW rfl _ _ _ 105 rfl Tryz.underlying105 w.heap.size k _ rfl L.o (by unfold maxLen;omega) (x1,x2) o.o rfl rfl ?_;intro w3 z N;rw[IZ HX.o]at z;have am:=ah z;have an:Hid (Below w.heap.size w w3):=y.o.grown N y.o.size (fun g e=>by cases e;omega);clear z N L y M r0 r1 y0 y1 b;go_wp2_with fail;go_roundw
    case rel=>exact⟨k+1,hlt,by go_num,am.o,an.o⟩
    case measure=>simp[intOf];omega
  . have al:¬(k:Int)< (n1:Int):=by omega
    obtain⟨wo,ao⟩:∃wo,wo=wr:=⟨_,rfl⟩
    subst ao;have O:Hid (∀d,inT l k d=decide (d∈l)):=Kr (by rw[U.o];omega);obtain⟨s,hs⟩:=NX9 (inT l k)
    rw[hs]at HS O;clear hs;obtain⟨w0,aD⟩:∃w0,w0=w:=⟨_,rfl⟩
    go_wp2_with fail
    go_loopw[8,23] (fun q i wr=>∃(k2 m:Nat)(A':OA)(c':Nat),k2<=n/\i= .int .i64 k2/\q= .slice A' m c'/\m<=c'/\c'<=maxLen/\m<=k2/\Hid ((eG (p.take k2) l).length=m)/\Hid (Apd wr wo.heap.size 118 3 A' m c' (flat itC (eG (p.take k2) l)))/\Hid (Below wo.heap.size wo wr)) (fun _ i _=>n - (intOf i).toNat)
    case atStart=>exact⟨0,0,none,0,ZZ _,rfl,rfl,Nat.le_refl _,ZZ _,Nat.le_refl _,rfl,.inr ⟨rfl,rfl,rfl⟩,af _ _⟩
    case round =>
     obtain⟨k2,m,A',c',aE,rfl,rfl,P,Q,ba,hM,hO,a⟩:=hrel;have HM:=ah hM.o;have HO:=ah hO.o;have r:=ah a.o;have zo:wo.heap.size<=wr.heap.size:=r.o.size;clear hM hO a;by_cases hlt2:k2<n
     . obtain⟨bb,ad,x,rfl,ag,hx,y0,y1,y2⟩:=((H0.o.below f.o hB).below r.o (by omega)).it hlt2
       have R: (k2:Int)< (n:Int):=by omega
       have HX:=ah hx;have o:=ah (jo (V.o x (Z7 hx)));clear hx;obtain⟨⟨x1,x2⟩,xs⟩:=x;simp only at y0 y1 y2 o;obtain⟨W,hW⟩:=NX9 (wr.alloc (.cells #[.int .u64 x1,.int .u64 x2,.string xs] 118))
       have C:Hid (Below wr.heap.size wr W):=by rw[<-hW];exact(af _ wr).alloc ai _
       have D:Hid (Bk W wr.heap.size 118 #[.int .u64 x1,.int .u64 x2,.string xs]):=by rw[<-hW];exact Bk.new wr _ _
       have zW:wr.heap.size<W.heap.size:=D.o.lt;have ap:Hid (Bk (W.alloc (.cells #[.int .u64 x1,.int .u64 x2,.string xs] 118)) (wr.heap.size+1) 118 #[.int .u64 x1,.int .u64 x2,.string xs]):=by
        have e:=Bk.new W 118 #[.int .u64 x1,.int .u64 x2,.string xs];rw[<-hW,Z9]at e;rw[<-hW];exact e
       have S:=ah (HO.o.below C.o);have E:Hid (Below wo.heap.size wo W):=r.o.trans (C.o.mono zo);have h:=Sd.look (d:=(x1,x2)) (HS.o.below E.o u) Tryz.underlying105 o.o;rw[O.o]at h;simp only at h;obtain⟨r0,r1,r2⟩:=D.o.three;have b:=ah hW;have t:Hid (eG (p.take (k2+1)) l=if((x1,x2):Dig)∈l then eG (p.take k2) l++ [((x1,x2),xs)] else eG (p.take k2) l):=Fw HX.o;clear hW C D;by_cases hin: ((x1,x2):Dig)∈l
       . have HK:Hid (eG (p.take (k2+1)) l=eG (p.take k2) l++ [((x1,x2),xs)]):=by show _=_;rw[t.o,if_pos hin]
         have j:decide (((x1,x2):Dig)∈l)=true:=decide_eq_true hin;rw[j]at h;rw[<-b.o]at h r0 r1 r2;clear hin t j
         go_wp2_with (at_builtin;refine gB (.tmp 31) (.tmp 33) 29 rfl ?_)
         rw[b.o];refine aF ?_;refine dB (base:=wo.heap.size) (size:=3) _ rfl (.tmp 31) (.tmp 33) 29 rfl 118 i0 _ 32 Tryz.underlying29 Hi.o X.o Y.o Z.o rfl (by decide) A' m c' _ rfl (Apd.below S.o ((af _ _).alloc ai _)) _ _ 1 1 (flat itC [((x1,x2),xs)]) rfl (Sl.of_bk (n:=1) (size:=3) ap.o rfl) (gZ _) (by unfold maxLen;omega) (by omega) (by rw[Z9];omega) ?_;intro A4 c4 w4 F T aq ar _;rw[<-bu,<-HK.o]at F;have au:=ah F;have av:Hid (Below wo.heap.size wo w4):=(Below.alloc E.o (by omega) _).trans T;have aw:Hid ((eG (p.take (k2+1)) l).length=m+1):=by show _=_;rw[HK.o,ae,HM.o];rfl
         clear F T;go_wp2_with fail;go_roundw
         case rel=>exact⟨k2+1,m+1,A4,c4,hlt2,by go_num,rfl,aq,ar,by omega,aw.o,au.o,av.o⟩
         case measure=>simp[intOf];omega
       . have HK:Hid (eG (p.take (k2+1)) l=eG (p.take k2) l):=by show _=_;rw[t.o,if_neg hin]
         have j:decide (((x1,x2):Dig)∈l)=false:=decide_eq_false hin;rw[j]at h;rw[<-b.o]at h r0 r1 r2;clear hin t j;go_wp2_with fail;rw[b.o];go_roundw
         case rel=>exact⟨k2+1,m,A',c',hlt2,by go_num,rfl,P,Q,by omega,by rw[HK.o];exact HM.o,by rw[HK.o];exact S.o,E.o⟩
         case measure=>simp[intOf];omega
     . have R:¬(k2:Int)< (n:Int):=by omega
       have HT:Hid (p.take k2=p):=ZW (by rw[HL.o];omega);rw[HT.o]at HM HO;go_wp2_with fail;go_ret
       exact⟨A',c',by rw[HM.o];rfl,by rw[HM.o];exact HO.o.sl,by rw[HM.o];exact P,Q,f.o.trans (r.o.mono f.o.size)⟩
end
section
open Go.Maps
def bkO(A:OA):Option Nat:=A.map Addr.block
theorem gQ(A:OA)(n c:Nat): (Value.slice A n c).ownBlock=bkO A:=by cases A <;> rfl
section
variable {P : Program} {w : MZ} {base size n c : Nat} {e : TypeId} {A : OA} {xs : List M4}
theorem DN(t ty:TypeId)(i:TypeInfo)(z:M4)(bytes:Nat)(ht:P.underlying t=some (.slice e))(hi:P.info? e=some i)(hz:i.zero=some z)
  (hsize:i.size=size) (hby:i.bytes=bytes) (hzs:z.cells.size=size) (hsz:0<size) (hown:w.ownsRow base e size (.slice A n c) n xs)
  {B:Nat} {A':OA} {m c':Nat} {ys:List M4} (hsl:Sl w B size A' m ys) (h1:∀u∈ys,u.oneCell'=true) (hm:0<m)
  (h63:n+m<=maxLen) (hbytes: (n+m)*bytes<=140737488355328) (hbase:base<=w.heap.size) :
  ∃A2 c2 w',(Builtin.append_ #[t,t] ty #[.slice A n c,.slice A' m c']).run P w= .ok (.slice A2 (n+m) c2) w'/\w'.ownsRow base e size (.slice A2 (n+m) c2) (n+m) (xs++ys)/\w.grownBy w' (bkO A)/\n+m<=c2/\c2<=maxLen/\∀g,bkO A2=some g->bkO A=some g∨w.heap.size<=g:=by
 obtain⟨A2,c2,w',hr,a,hg,d,f⟩:=jW (P:=P) t ty i z bytes ht hi hz hsize hby hzs hsz hown (c:=c') hsl h1 h63 hbytes hbase;obtain⟨A3,c3,w3,j,b,_,_,_,h5⟩:=DF (P:=P) t ty i z bytes ht hi hz hsize hby hzs hsz (Que.of_own hown) (c':=c') hsl h1 hm h63 hbytes hbase;rw[hr]at b;injection b with e1 e2;injection e1 with e3 e4 e5;subst e3;subst e5;subst e2;rw[gQ]at hg;refine⟨A2,c2,w',hr,a,hg,d,f,fun g hgb=>?_⟩;rcases a.2 with ⟨hv,_⟩ | ⟨g',cap,cur,hv,_⟩
 . simp at hv
   rw[hv.1]at hgb;cases hgb
 . simp at hv
   obtain⟨rfl,_⟩:=hv;have:g'=g:=Option.some.inj hgb;subst this;rcases h5 g' 0 rfl with ⟨_,k,h⟩ | h
   . rw[h];exact .inl rfl
   . exact .inr h
theorem qY{ops:Array Oper}{rest:List Oper}{o:Oper}{a:Act}{Q:Exit->Act->MZ->Prop}(hgd:o.guard=none)(s x:Operand)(t:TypeId)
  (ho:o.op= .call {callee:= .builtin .append,args:=#[s,x],argTypes:=#[t,t]})
  (e:TypeId) (i:TypeInfo) (z:M4) (bytes:Nat) (ht:P.underlying t=some (.slice e)) (hi:P.info? e=some i) (hz:i.zero=some z)
  (hsize:i.size=size) (hby:i.bytes=bytes) (hzs:z.cells.size=size) (hsz:0<size)
  (A:OA) (n c:Nat) (xs:List M4) (hs:a.eval s= .slice A n c) (hown:w.ownsRow base e size (.slice A n c) n xs)
  (B:Nat) (A':OA) (m c':Nat) (ys:List M4) (hx:a.eval x= .slice A' m c') (hsl:Sl w B size A' m ys) (h1:∀u∈ys,u.oneCell'=true) (hm:0<m)
  (h63:n+m<=maxLen) (hbytes: (n+m)*bytes<=140737488355328) (hbase:base<=w.heap.size)
  (h:∀A2 c2 w',w'.ownsRow base e size (.slice A2 (n+m) c2) (n+m) (xs++ys)->w.grownBy w' (bkO A)->n+m<=c2->c2<=maxLen-> (∀g,bkO A2=some g->bkO A=some g∨w.heap.size<=g)->wpList P ops Q rest (a.put o.dst (.slice A2 (n+m) c2)) w'):wpList P ops Q (o::rest) a w:=by
 refine wpList_plain hgd fun K hK=>?_;obtain⟨A2,c2,w',hr,b,hg,d,f,hd⟩:=DN (P:=P) t o.type i z bytes ht hi hz hsize hby hzs hsz hown (c':=c') hsl h1 hm h63 hbytes hbase;unfold Oper.wp;simp[execOp,ho,resolve,invoke,builtin,hs,hx,hr,Result.andThen];exact hK _ _ (h A2 c2 w' b hg d f hd)
end
structure Rw3(w:MZ)(base:Nat)(e:TypeId)(A1:OA)(n1 c1:Nat)(A2:OA)(n2 c2:Nat)(A3:OA)(n3 c3:Nat)(l1 l2 l3:List Dig):Prop where
 a:w.ownsRow base e 2 (.slice A1 n1 c1) n1 (flat dgC l1)
 b:w.ownsRow base e 2 (.slice A2 n2 c2) n2 (flat dgC l2)
 c:w.ownsRow base e 2 (.slice A3 n3 c3) n3 (flat dgC l3)
 ab:∀g,bkO A1=some g->bkO A2≠some g
 bc:∀g,bkO A2=some g->bkO A3≠some g
 ca:∀g,bkO A3=some g->bkO A1≠some g
section
variable {w w' : MZ} {base n1 c1 n2 c2 n3 c3 : Nat} {e : TypeId} {A1 A2 A3 : OA} {l1 l2 l3 : List Dig}
theorem Rw3.rot(h:Rw3 w base e A1 n1 c1 A2 n2 c2 A3 n3 c3 l1 l2 l3):Rw3 w base e A2 n2 c2 A3 n3 c3 A1 n1 c1 l2 l3 l1:=⟨h.b,h.c,h.a,h.bc,h.ca,h.ab⟩
theorem Rw3.upon(h:Rw3 w base e A1 n1 c1 A2 n2 c2 A3 n3 c3 l1 l2 l3)(hb:Below w.heap.size w w'):Rw3 w' base e A1 n1 c1 A2 n2 c2 A3 n3 c3 l1 l2 l3 :=
 ⟨fM h.a hb,fM h.b hb,fM h.c hb,h.ab,h.bc,h.ca⟩
theorem mq{n c:Nat}{A:OA}{xs:List M4}{row:Option Nat}(h:w.ownsRow base e 2 (.slice A n c) n xs)(hg:w.grownBy w' row)(hn:∀g,bkO A=some g->row≠some g):w'.ownsRow base e 2 (.slice A n c) n xs:=by
 refine⟨h.1,?_⟩;rcases h.2 with h2 | ⟨g,cap,cur,hv,h1,h2,h3⟩
 . exact .inl h2
 . refine .inr ⟨g,cap,cur,hv,h1,(hg.block g (Array.getElem?_eq_some_iff.1 h2).1 fun e=>?_).trans h2,h3⟩
   simp at hv;exact hn g (by rw[hv.1];rfl) e.symm
theorem Rw3.grown{row:Nat}(h:Rw3 w base e A1 n1 c1 A2 n2 c2 A3 n3 c3 l1 l2 l3)(hg:w.grownBy w' (some row))(hn:∀cs,w.heap[row]? ≠some (.cells cs e (0,0))):Rw3 w' base e A1 n1 c1 A2 n2 c2 A3 n3 c3 l1 l2 l3:=by
 have d:∀{n c:Nat}{A:OA}{xs:List M4},w.ownsRow base e 2 (.slice A n c) n xs->w'.ownsRow base e 2 (.slice A n c) n xs:=fun {n c A xs} h=>mq h hg fun g hgb e=>by
  cases e
  rcases h.2 with ⟨hv,_⟩ | ⟨g,cap,cur,hv,_,h2,_⟩
  . simp at hv;rw[hv.1]at hgb;cases hgb
  . simp at hv;rw[hv.1]at hgb;cases hgb;exact hn cur h2
 exact⟨d h.a,d h.b,d h.c,h.ab,h.bc,h.ca⟩
theorem Rw3.app{A:OA}{n c:Nat}{l:List Dig}(h:Rw3 w base e A1 n1 c1 A2 n2 c2 A3 n3 c3 l1 l2 l3)(ho:w'.ownsRow base e 2 (.slice A n c) n (flat dgC l))(hg:w.grownBy w' (bkO A1))(hd:∀g,bkO A=some g->bkO A1=some g∨w.heap.size<=g):Rw3 w' base e A n c A2 n2 c2 A3 n3 c3 l l2 l3:=by
 have lt:∀{n c:Nat}{A:OA}{xs:List M4},w.ownsRow base e 2 (.slice A n c) n xs->∀g,bkO A=some g->g<w.heap.size:=fun {n c A xs} h g hgb=>(h.lt g (by rw[gQ];exact hgb)).2;refine⟨ho,mq h.b hg fun g h2 e=>h.ab g e h2,mq h.c hg fun g h2 e=>h.ca g h2 e,fun g hgb h2=>?_,h.bc,fun g h2 hgb=>?_⟩
 . rcases hd g hgb with h3 | h3
   . exact h.ab g h3 h2
   . have:=lt h.b g h2;omega
 . rcases hd g hgb with h3 | h3
   . exact h.ca g h2 h3
   . have:=lt h.c g h2;omega
theorem J2{n c:Nat}{A:OA}{l:List Dig}{d:Dig}(h:w.ownsRow base e 2 (.slice A (n+1) c) (n+1) (flat dgC (l++ [d]))):w.ownsRow base e 2 (.slice A n c) n (flat dgC l):=by
 have hl: (flat dgC l).length=n*2:=by
  have h1:=h.1;rw[bu,ae]at h1;have: (flat dgC [d]).length=2:=rfl;omega
 refine⟨hl,?_⟩;rcases h.2 with ⟨_,h2⟩ | ⟨g,cap,cur,hv,h1,h2,h3,h4,h5,h6⟩
 . omega
 . simp at hv
   obtain⟨rfl,rfl⟩:=hv;refine .inr ⟨g,c,cur,rfl,h1,h2,by omega,h4,h5,?_⟩;have:=congrArg (List.take (n*2)) h6;rw[List.take_take,bu,<-hl,List.take_left]at this;rw[hl]at this;have e2:min (n*2) ((n+1)*2)=n*2:=by omega
   rwa[e2]at this
theorem Rw3.pop{d:Dig}(h:Rw3 w base e A1 (n1+1) c1 A2 n2 c2 A3 n3 c3 (l1++ [d]) l2 l3):Rw3 w base e A1 n1 c1 A2 n2 c2 A3 n3 c3 l1 l2 l3 :=
 ⟨J2 h.a,h.b,h.c,h.ab,h.bc,h.ca⟩
end
def Dc(l:List Dig)(n:Nat)(w:MZ)(e:Ending)(w':MZ):Prop :=
 ∃A c,e= .returned (.slice A n c)/\w'.ownsRow w.heap.size 50 2 (.slice A n c) n (flat dgC l)/\Below w.heap.size w w'
theorem F3(A:OA)(n c B:Nat)(l:List Dig)(w:MZ)(h0:Sl w B 2 A n (flat dgC l))(hB:B<=w.heap.size)(hn:n<=1000000) :
  Calls Tryz.prog 51 #[.slice A n c] w (Dc l n w):=by
 have H0:=ah h0;have HL:=ah (h0.len fI (by omega));obtain⟨i0,hi,d,f,i⟩:=info_parts jw;have Hi:=ah hi;have o:=ah d;have p:=ah f;have q:=ah i;clear hi d f i h0;cases A with
 | none =>
   have r:n=0:=by
    rcases Nat.eq_zero_or_pos n with h | h
    . exact h
    . obtain⟨_,_,e,_⟩:=H0.o.2 h;cases e
   subst r;have hl:l= []:=List.eq_nil_of_length_eq_zero HL.o;subst hl;have j:∀W,(binOp .eql 47 (.slice none 0 c) (.slice none 0 0)).run Tryz.prog W= .ok (.bool true) W:=fun W=>Lib.run_eql_slice_nil_nil W _ _ Tryz.underlying47
   go_enter Tryz.func51,Tryz.ntmps51
   go_wp2_with fail;go_ret
   exact⟨none,0,rfl,⟨rfl,.inl ⟨rfl,rfl⟩⟩,af _ _⟩
 | some a =>
   obtain⟨W,hW⟩:=NX9 (w.alloc (.cells #[] 50))
   have hb:Below w.heap.size w W:=by rw[<-hW];exact(af _ w).alloc ai _
   have HO:Hid (W.ownsRow w.heap.size 50 2 (.slice (some ⟨w.heap.size,0,none⟩) 0 0) 0 []):=by
    rw[<-hW];exact⟨rfl,.inr ⟨w.heap.size,0,#[],rfl,Nat.le_refl _,heap_alloc_new w _,Nat.le_refl _,ZZ _,rfl,rfl⟩⟩
   have HS:=ah (H0.o.below hb hB);have HB:=ah hb;have HW:=ah hW;have j:∀W,(binOp .eql 47 (.slice (some a) n c) (.slice none 0 0)).run Tryz.prog W= .ok (.bool false) W:=fun W=>Lib.run_eql_slice_some_nil W _ _ _ Tryz.underlying47;clear hW hb
   go_enter Tryz.func51,Tryz.ntmps51
   go_wp2_with (at_builtin;refine gB (.tmp 5) (.tmp 6) 47 rfl ?_)
   rw[HW.o];refine aF ?_;refine iM (base:=w.heap.size) (size:=2) _ rfl (.tmp 5) (.tmp 6) 47 rfl 50 i0 _ 16 Tryz.underlying47 Hi.o o.o p.o q.o rfl (by decide) _ 0 [] rfl HO.o B (some a) n c (flat dgC l) rfl HS.o (jl _) (by unfold maxLen;omega) (by omega) HB.o.size ?_;intro A2 c2 w2 b k _ _;rw[List.nil_append]at b;have m:=ah b;have s:Hid (Below w.heap.size w w2):=HB.o.grown k HB.o.size (fun g e=>by cases e;exact Nat.le_refl _);clear b k;rw[Nat.zero_add]at m ⊢;go_wp2_with fail;go_ret
   exact⟨A2,c2,rfl,m.o,s.o⟩
end
end Go.Proofs.YtknefelegjlgnaaGreatDoor
namespace Go.Proofs
open Go.Shelf
def Tryz.sortDig_ren:Go.Shelf.Ren:=⟨fun | 6=>54 | 15=>115 | 14=>114 | 28=>191 | 29=>192 | 20=>183 | 21=>184 | 22=>185 | 23=>186 | 24=>187 | 25=>188 | 26=>189 | 27=>190 | 46=>253 | 47=>254 | 48=>255 | 49=>256 | 50=>257 | 57=>296 | n=>n,fun | 22=>47 | 24=>50 | 25=>114 | 3=>3 | 39=>188 | 0=>0 | 53=>267 | 55=>48 | 4=>4 | 46=>261 | 45=>260 | 50=>181 | 5=>5 | 9=>9 | 66=>328 | 70=>332 | 76=>361 | 77=>362 | n=>n,fun | n=>n⟩
theorem Tryz.sortDig:Go.Proofs.SlLaysF0.n6 Tryz.prog Tryz.sortDig_ren:={
 mixed:=by kernel_rfl
 f6:=⟨Tryz.f54.name,by decide,Tryz.func54.trans (congrArg some (by kernel_rfl))⟩
 f14:=⟨Tryz.f114.name,by decide,Tryz.func114.trans (congrArg some (by kernel_rfl))⟩
 f15:=Tryz.func115.trans (congrArg some (by kernel_rfl))
 f20:=⟨Tryz.f183.name,by decide,Tryz.func183.trans (congrArg some (by kernel_rfl))⟩
 f21:=⟨Tryz.f184.name,by decide,Tryz.func184.trans (congrArg some (by kernel_rfl))⟩
 f22:=⟨Tryz.f185.name,by decide,Tryz.func185.trans (congrArg some (by kernel_rfl))⟩
 f23:=⟨Tryz.f186.name,by decide,Tryz.func186.trans (congrArg some (by kernel_rfl))⟩
 f24:=⟨Tryz.f187.name,by decide,Tryz.func187.trans (congrArg some (by kernel_rfl))⟩
 f25:=⟨Tryz.f188.name,by decide,Tryz.func188.trans (congrArg some (by kernel_rfl))⟩
 f26:=⟨Tryz.f189.name,by decide,Tryz.func189.trans (congrArg some (by kernel_rfl))⟩
 f27:=⟨Tryz.f190.name,by decide,Tryz.func190.trans (congrArg some (by kernel_rfl))⟩
 f28:=Tryz.func191.trans (congrArg some (by kernel_rfl))
 f29:=Tryz.func192.trans (congrArg some (by kernel_rfl))
 f46:=⟨Tryz.f253.name,by decide,Tryz.func253.trans (congrArg some (by kernel_rfl))⟩
 f47:=Tryz.func254.trans (congrArg some (by kernel_rfl))
 f48:=Tryz.func255.trans (congrArg some (by kernel_rfl))
 f49:=⟨Tryz.f256.name,by decide,Tryz.func256.trans (congrArg some (by kernel_rfl))⟩
 f50:=⟨Tryz.f257.name,by decide,Tryz.func257.trans (congrArg some (by kernel_rfl))⟩
 f57:=⟨Tryz.f296.name,by decide,Tryz.func296.trans (congrArg some (by kernel_rfl))⟩
 t0:=Tryz.underlying0
 a0:=Tryz.isAgg0
 z0:=Tryz.sizeOf0
 v0:=Tryz.zeroValue0
 t3:=Tryz.underlying3
 a3:=Tryz.isAgg3
 z3:=Tryz.sizeOf3
 v3:=Tryz.zeroValue3
 t4:=Tryz.underlying4
 a4:=Tryz.isAgg4
 z4:=Tryz.sizeOf4
 v4:=Tryz.zeroValue4
 t5:=Tryz.underlying5
 a5:=Tryz.isAgg5
 z5:=Tryz.sizeOf5
 v5:=Tryz.zeroValue5
 t9:=Tryz.underlying9
 a9:=Tryz.isAgg9
 z9:=Tryz.sizeOf9
 v9:=Tryz.zeroValue9
 t22:=Tryz.underlying47
 a22:=Tryz.isAgg47
 z22:=Tryz.sizeOf47
 v22:=Tryz.zeroValue47
 t25:=Tryz.underlying114
 a25:=Tryz.isAgg114
 z25:=Tryz.sizeOf114
 v25:=Tryz.zeroValue114
 t39:=Tryz.underlying188
 a39:=Tryz.isAgg188
 z39:=Tryz.sizeOf188
 v39:=Tryz.zeroValue188
 t45:=Tryz.underlying260
 a45:=Tryz.isAgg260
 z45:=Tryz.sizeOf260
 v45:=Tryz.zeroValue260
 t46:=Tryz.underlying261
 a46:=Tryz.isAgg261
 z46:=Tryz.sizeOf261
 v46:=Tryz.zeroValue261
 t50:=Tryz.underlying181
 a50:=Tryz.isAgg181
 z50:=Tryz.sizeOf181
 v50:=Tryz.zeroValue181
 t53:=Tryz.underlying267
 a53:=Tryz.isAgg267
 z53:=Tryz.sizeOf267
 v53:=Tryz.zeroValue267
 t55:=Tryz.underlying48
 a55:=Tryz.isAgg48
 z55:=Tryz.sizeOf48
 v55:=Tryz.zeroValue48
 t66:=Tryz.underlying328
 a66:=Tryz.isAgg328
 z66:=Tryz.sizeOf328
 v66:=Tryz.zeroValue328
 t70:=Tryz.underlying332
 a70:=Tryz.isAgg332
 z70:=Tryz.sizeOf332
 v70:=Tryz.zeroValue332
 t76:=Tryz.underlying361
 a76:=Tryz.isAgg361
 z76:=Tryz.sizeOf361
 v76:=Tryz.zeroValue361
 t77:=Tryz.underlying362
 a77:=Tryz.isAgg362
 z77:=Tryz.sizeOf362
 v77:=Tryz.zeroValue362}
end Go.Proofs
namespace Go.Proofs.YtknefelegjlgnaaGreatDoor
open Go.RowKit
section
open Go.RowKit Go.Shelf Go.Sort Go.Lib
attribute [local go_sem] Oper.semAt_some
instance :Inhabited Fl:=⟨(⟨#[]⟩,⟨#[]⟩)⟩
theorem wM(off n:Nat)(d:Array M4)(cur:Array M4)(hd:d.size=n)(ho:off=0)(hn:n<=cur.size): (putCells id off d cur).toList.take n=d.toList:=by
 subst ho hd;apply List.ext_getElem?
 intro k;rw[List.getElem?_take];by_cases hk:k<d.size
 . have a:k<cur.size:=by omega
   rw[if_pos hk];simp[putCells,hk,a]
 . rw[if_neg hk,List.getElem?_eq_none (by simp;omega)]
end
section
open Go.RowKit Go.Shelf Go.Sort Go.Lib
attribute [local go_sem] Oper.semAt_some
def Gro(w w':MZ):Prop:=∃q os',w'=grow (w.drewN q) os'
section
variable {a b c : MZ}
theorem Gro.refl(w:MZ):Gro w w:=⟨0,#[],by rw[grow_empty];rfl⟩
theorem Gro.alloc(h:Gro a b)(o:Obj):Gro a (b.alloc o):=by
 obtain⟨q,os,rfl⟩:=h;exact⟨q,os++ #[o],by rw[alloc_eq_grow,grow_grow]⟩
theorem Fq(w:MZ)(os:Array Obj)(k:Nat): (grow w os).drewN k=grow (w.drewN k) os:=by
 simp[World.drewN,grow]
theorem drewN_drewN(w:MZ)(i j:Nat): (w.drewN i).drewN j=w.drewN (i+j):=by
 simp[World.drewN,Nat.add_assoc]
theorem Gro.drew(h:Gro a b):Gro a b.drew:=by
 obtain⟨q,os,rfl⟩:=h;exact⟨q+1,os,by rw[drew_grow,<-drewN_drewN];rfl⟩
theorem Gro.trans(h:Gro a b)(g:Gro b c):Gro a c:=by
 obtain⟨q,os,rfl⟩:=h;obtain⟨q2,d,rfl⟩:=g;exact⟨q+q2,os++d,by rw[Fq,grow_grow,drewN_drewN]⟩
theorem Gro.bel(h:Gro a b):Below a.heap.size a b:=by
 obtain⟨q,os,rfl⟩:=h;exact⟨rfl,rfl,rfl,by simp[grow,World.drewN],fun k hk=>by
  simp only[grow,World.drewN];rw[Array.getElem?_append_left (by simpa using hk)]⟩
end
def CmG(a b:Dig)(w:MZ)(e:Ending)(w':MZ):Prop:=e= .returned (.int .i64 (bX a b))/\Gro w w'
theorem Ho(a b:Dig)(w:MZ):Calls Tryz.prog 55 #[aB a,aB b] w (CmG a b w):=by
 obtain⟨a1,a2⟩:=a;obtain⟨b1,b2⟩:=b;obtain⟨z,hz⟩:=NX9 (bX (a1,a2) (b1,b2))
 have HZ:=ah hz;have HN:Hid (((a1,a2):Dig)≠ (b1,b2)->z=orI [bK a1 b1,bK a2 b2]):=fun h=>by rw[<-hz];exact uN _ _ h
 clear hz;unfold CmG;rw[HZ.o];have HD:Hid ((a1 == b1 && a2 == b2)=decide (((a1,a2):Dig)= (b1,b2))):=by
  show _=_;rw[Bool.eq_iff_iff];simp
 simp only[aB];obtain⟨wz,hW⟩:=NX9 ((w.alloc (.cells #[.int .u64 a1,.int .u64 a2] 50)).alloc (.cells #[.int .u64 b1,.int .u64 b2] 50))
 have HA:Hid (Bk wz w.heap.size 50 #[.int .u64 a1,.int .u64 a2]):=by rw[<-hW];exact(Bk.new w _ _).alloc _
 have HB:Hid (Bk wz (w.heap.size+1) 50 #[.int .u64 b1,.int .u64 b2]):=by
  rw[<-hW];have:=Bk.new (w.alloc (.cells #[.int .u64 a1,.int .u64 a2] 50)) 50 #[.int .u64 b1,.int .u64 b2];rw[Z9]at this;exact this
 have HL:Hid (Gro w wz):=by rw[<-hW];exact((Gro.refl w).alloc _).alloc _
 have r:w.heap.size+2=wz.heap.size:=by rw[<-hW];simp
 obtain⟨c0,c1,_,_⟩:=HA.o.two;obtain⟨c2,c3,_,_⟩:=HB.o.two;have j:=ah (fun w=>kL a1 b1 w);have k:=ah (fun w=>kL a2 b2 w);by_cases h: ((a1,a2):Dig)= (b1,b2)
 . have hd:=HD.o
   rw[decide_eq_true h]at hd;have H0:Hid (z=0):=by show _=_;rw[<-HZ.o];exact(mf _ _).2 h
   clear h
   go_enter Tryz.func55,Tryz.ntmps55
   go_wp2_with fail;go_ret
   exact⟨by rw[H0.o];rfl,HL.o⟩
 . have hd:=HD.o
   rw[decide_eq_false h]at hd;have H0:Hid (z=orI [bK a1 b1,bK a2 b2]):=HN.o h;clear h
   go_enter Tryz.func55,Tryz.ntmps55
   go_wp2_with fail;have l:Hid (∀x∈ [(10,SlP a1 a2 b1 b2)],∀v W W',x.2 v W->Below W.heap.size W W'->x.2 v W'):=fun x hx v W W' h hb=>by
    simp only[aa]at hx;subst hx;obtain⟨b0,h1,h2⟩:=h;exact⟨b0,h1,h2.below hb h2.lt⟩
   have k0:=c0;have k1:=c1;have k2:=c2;have k3:=c3;refine jC 12 (8::9::10::11::12::13::14::15::16::17::18::19:: []) (by kernel_rfl) (by kernel_rfl) (by kernel_rfl) (fun W=>Gro wz W) (fun W W'=>Gro W W')
    (lK [(10,SlP a1 a2 b1 b2)] ((.pointer (some ⟨w.heap.size,0,none⟩)):: (.int .u64 a1):: (.pointer (some ⟨w.heap.size+1,0,none⟩)):: (.int .u64 b1):: (.int .i64 (bK a1 b1)):: (.pointer (some ⟨w.heap.size,1,none⟩)):: (.int .u64 a2):: (.pointer (some ⟨w.heap.size+1,1,none⟩)):: (.int .u64 b2):: (.int .i64 (bK a2 b2)):: (undef):: (.int .i64 (orI [bK a1 b1,bK a2 b2])):: [])) (fun W W' h1 h2=>h1.trans h2) (fun i v W W' h hb=>sH l.o i v W W' h hb.bel) (Gro.refl _).drew ?stepA ?tailA
   case stepA =>
    intro i o vs W hi ho hv hR c;obtain⟨v0,v1,v2,v3,v4,v5,v6,v7,v8,v9,d,g,rfl⟩:=qU hv;simp only[List.zip,List.zipWith,aR,Act.put,List.setIfInBounds_toArray,List.set];have s:=hR.bel.size;have c0:=(hR.bel.cell (p:=⟨w.heap.size,0,none⟩) (by show w.heap.size<_;omega)).trans k0;have c1:=(hR.bel.cell (p:=⟨w.heap.size,1,none⟩) (by show w.heap.size<_;omega)).trans k1;have c2:=(hR.bel.cell (p:=⟨w.heap.size+1,0,none⟩) (by show w.heap.size+1<_;omega)).trans k2;have c3:=(hR.bel.cell (p:=⟨w.heap.size+1,1,none⟩) (by show w.heap.size+1<_;omega)).trans k3
    match i,hi,ho with
    | 0,_,rfl =>
      exact .inl ⟨rfl,aJ (v:= .pointer (some ⟨w.heap.size,0,none⟩)) (w':=W) (by go_simp) ⟨Gro.refl _,fun _=>aI⟩⟩
    | 1,_,rfl =>
      have e0:v0=_:=c ⟨0,.data⟩ (by simp) rfl v0 rfl _ rfl;subst e0;exact .inl ⟨rfl,aJ (v:= .int .u64 a1) (w':=W) (by go_simp) ⟨Gro.refl _,fun _=>aI⟩⟩
    | 2,_,rfl =>
      exact .inl ⟨rfl,aJ (v:= .pointer (some ⟨w.heap.size+1,0,none⟩)) (w':=W) (by go_simp) ⟨Gro.refl _,fun _=>aI⟩⟩
    | 3,_,rfl =>
      have e2:v2=_:=c ⟨2,.data⟩ (by simp) rfl v2 rfl _ rfl;subst e2;exact .inl ⟨rfl,aJ (v:= .int .u64 b1) (w':=W) (by go_simp) ⟨Gro.refl _,fun _=>aI⟩⟩
    | 4,_,rfl =>
      have e1:v1=_:=c ⟨1,.data⟩ (by simp) rfl v1 rfl _ rfl;have e3:v3=_:=c ⟨3,.data⟩ (by simp) rfl v3 rfl _ rfl;subst e1 e3;refine .inl ⟨rfl,iN (f:=117) (args:=#[.int .u64 a1,.int .u64 b1]) (by go_simp) ((j.o W).mono ?_)⟩;rintro e W' ⟨rfl,rfl⟩;exact⟨_,rfl,Gro.refl _,fun _=>aI⟩
    | 5,_,rfl =>
      exact .inl ⟨rfl,aJ (v:= .pointer (some ⟨w.heap.size,1,none⟩)) (w':=W) (by go_simp) ⟨Gro.refl _,fun _=>aI⟩⟩
    | 6,_,rfl =>
      have e5:v5=_:=c ⟨5,.data⟩ (by simp) rfl v5 rfl _ rfl;subst e5;exact .inl ⟨rfl,aJ (v:= .int .u64 a2) (w':=W) (by go_simp) ⟨Gro.refl _,fun _=>aI⟩⟩
    | 7,_,rfl =>
      exact .inl ⟨rfl,aJ (v:= .pointer (some ⟨w.heap.size+1,1,none⟩)) (w':=W) (by go_simp) ⟨Gro.refl _,fun _=>aI⟩⟩
    | 8,_,rfl =>
      have e7:v7=_:=c ⟨7,.data⟩ (by simp) rfl v7 rfl _ rfl;subst e7;exact .inl ⟨rfl,aJ (v:= .int .u64 b2) (w':=W) (by go_simp) ⟨Gro.refl _,fun _=>aI⟩⟩
    | 9,_,rfl =>
      have e6:v6=_:=c ⟨6,.data⟩ (by simp) rfl v6 rfl _ rfl;have e8:v8=_:=c ⟨8,.data⟩ (by simp) rfl v8 rfl _ rfl;subst e6 e8;refine .inl ⟨rfl,iN (f:=117) (args:=#[.int .u64 a2,.int .u64 b2]) (by go_simp) ((k.o W).mono ?_)⟩;rintro e W' ⟨rfl,rfl⟩;exact⟨_,rfl,Gro.refl _,fun _=>aI⟩
    | 10,_,rfl =>
      have e4:v4=_:=c ⟨4,.data⟩ (by simp) rfl v4 rfl _ rfl;have e9:v9=_:=c ⟨9,.data⟩ (by simp) rfl v9 rfl _ rfl;subst e4 e9;exact .inl ⟨rfl,aJ (v:= .slice (some ⟨W.heap.size,0,none⟩) 2 2) (w':=W.alloc (.cells #[.int .i64 (bK a1 b1),.int .i64 (bK a2 b2)] 3)) (by go_simp) ⟨(Gro.refl W).alloc _,W.heap.size,rfl,Bk.new W _ _⟩⟩
    | 11,_,rfl =>
      obtain⟨b0,rfl,m⟩: (SlP a1 a2 b1 b2) d W:=c ⟨10,.data⟩ (by simp) rfl d rfl;refine .inl ⟨rfl,iN (f:=116) (args:=#[.slice (some ⟨b0,0,none⟩) 2 2]) (by go_simp) ((BF b0 3 _ _ W m).mono ?_)⟩;rintro e W' ⟨rfl,rfl⟩;exact⟨_,rfl,Gro.refl _,fun _=>aI⟩
    | i+12,hi,_=>exact absurd hi (by omega)
   case tailA =>
    intro vs W hv hR c;obtain⟨v0,v1,v2,v3,v4,v5,v6,v7,v8,v9,d,g,rfl⟩:=qU hv;simp only[List.zip,List.zipWith,aR,Act.put,List.setIfInBounds_toArray,List.set,List.drop];have e0:v0=_:=c 0 v0 rfl _ rfl;have e1:v1=_:=c 1 v1 rfl _ rfl;have e2:v2=_:=c 2 v2 rfl _ rfl;have e3:v3=_:=c 3 v3 rfl _ rfl;have e4:v4=_:=c 4 v4 rfl _ rfl;have e5:v5=_:=c 5 v5 rfl _ rfl;have e6:v6=_:=c 6 v6 rfl _ rfl;have e7:v7=_:=c 7 v7 rfl _ rfl;have e8:v8=_:=c 8 v8 rfl _ rfl;have e9:v9=_:=c 9 v9 rfl _ rfl;have n: (SlP a1 a2 b1 b2) d W:=c 10 d rfl;have q:g=_:=c 11 g rfl _ rfl;subst e0 e1 e2 e3 e4 e5 e6 e7 e8 e9 q;clear c hv;obtain⟨b0,rfl,_⟩:=n;go_wp2_with fail;go_ret
    exact⟨by rw[H0.o];rfl,HL.o.trans hR⟩
theorem GR(x y:Dig)(W:MZ):Calls Tryz.prog 55 #[.agg (dgC x).toArray,.agg (dgC y).toArray] W fun e w'=>e= .returned (.int .i64 (bX x y))/\∃q os',w'=grow (W.drewN q) os':=Ho x y W
theorem mP(x y:Dig):ltOf bX x y=decide (ltD x y):=by
 unfold ltOf;rw[Bool.eq_iff_iff,decide_eq_true_iff,decide_eq_true_iff];exact uW x y
theorem swoD:SWO (ltOf bX) where
 irrefl x:=by rw[mP];exact decide_eq_false (gK x)
 trans x y z h1 h2:=by
  rw[mP,decide_eq_true_iff]at *;exact iP h1 h2
 ntrans x y z h1 h2:=by
  rw[mP,decide_eq_false_iff_not]at *;intro h3;by_cases h4:ltD z y
  . exact h1 (iP h3 h4)
  . have:=kG h2 h4
    rw[this]at h1;exact h1 h3
def vX(ts:List Dig):Prop:=ts.Pairwise (fun a b=>¬ltD b a)
theorem xC(ts:List Dig): (flatK dgC 2 ts.toArray).toList=flat dgC ts:=by
 apply List.ext_getElem?
 intro t;by_cases ht:t<ts.length*2
 . have hk:t / 2<ts.length:=by omega
   have hx:ts[t / 2]? =some ts[t / 2]:=Z6 hk;have h1:=gG fI ts (t / 2) (t % 2) _ hx (by omega);rw[show t / 2*2+t % 2=t by omega]at h1;have h2:t< (flatK dgC 2 ts.toArray).size:=by simpa using ht
   rw[h1,Array.getElem?_toList,Array.getElem?_eq_getElem h2];have h3:=get_flatK dgC 2 ts.toArray t (by simpa using ht);rw[getElem!_pos (flatK dgC 2 ts.toArray) t h2]at h3;rw[h3,show ts.toArray[t / 2]! =ts[t / 2] by simp[hk]];have h4:t % 2< (dgC ts[t / 2]).length:=by rw[fI];omega
   rw[getElem!_pos (dgC ts[t / 2]) (t % 2) h4,Z6 h4]
 . rw[List.getElem?_eq_none (by simp;omega),List.getElem?_eq_none (by rw[gF fI];omega)]
theorem Jc{w:MZ}{base n c:Nat}{A:OA}{e:TypeId}{ts:List Dig}(h:w.ownsRow base e 2 (.slice A n c) n (flat dgC ts)):ts.length=n:=by
 have:=h.1;rw[gF fI]at this;omega
theorem xL(base n c:Nat)(A:OA)(ts:List Dig)(w:MZ)(h:w.ownsRow base 50 2 (.slice A n c) n (flat dgC ts))(hn:n<=1000000000) :
  Calls Tryz.prog 54 #[.slice A n c,.func (.func 55) #[] #[]] w fun e w'=>e= .returned (.tuple #[])/\∃us,us.Perm ts/\vX us/\w'.ownsRow base 50 2 (.slice A n c) n (flat dgC us)/\w.grownBy w' (Value.slice A n c).ownBlock:=by
 have hl:=Jc h;have eg:∀args w,(callFunc 55 args).run Tryz.prog w= .ok (.enter 55 args) w:=enters_of Tryz.func55 (by kernel_rfl) rfl;rcases h.2 with ⟨hv,h0⟩ | ⟨g,cap,cur,hv,h1,h2,h3,h4,h5,h6⟩
 . simp only[Value.slice.injEq]at hv
   obtain⟨rfl,_,rfl⟩:=hv;subst h0;obtain rfl:ts= []:=List.eq_nil_of_length_eq_zero hl;have hc:=AnyF.slices_SortFunc_none Tryz.sortDig none 0 (.func (.func 55) #[] #[]) w;change Calls Tryz.prog 54 _ _ _ at hc;refine hc.mono ?_;rintro e w' ⟨rfl,rfl⟩;exact⟨rfl,[],.refl _,List.Pairwise.nil,h,rfl,rfl,rfl,Nat.le_refl _,fun _ _ _=>rfl⟩
 . simp only[Value.slice.injEq]at hv
   obtain⟨rfl,_,rfl⟩:=hv;have f:n*2<=cur.size:=by omega
   have d:=(Array.getElem?_eq_some_iff.1 h2).1;have hH:HoldsK dgC 2 w g 0 ts.toArray:=by
    intro j hj;have a:j<ts.length*2:=by simpa using hj
    refine⟨?_,by simp[World.frozen?,h2]⟩;have h7: (flat dgC ts)[j]? =some ((flatK dgC 2 ts.toArray)[j]!):=by
     rw[<-xC,Array.getElem?_toList,Array.getElem?_eq_getElem (by simpa using a),getElem!_pos (flatK dgC 2 ts.toArray) j (by simpa using a)]
    rw[<-h6,List.getElem?_take,if_pos (by omega)]at h7;show w.cell? ⟨g,0+j,none⟩=_;simp[World.cell?,h2]
    simpa using h7
   have hc:=AnyQ.slices_SortFunc Tryz.sortDig 2 Tryz.isAgg50 Tryz.sizeOf50 dgC fI (fun x v hv=>by simp[dgC]at hv;rcases hv with rfl | rfl <;> rfl) bX swoD 55 #[] g 0 c ts.toArray w eg (fun _ _ _ _ x y=>GR x y _) hH d (by simp;omega);change Calls Tryz.prog 54 _ _ _ at hc;rw[List.size_toArray,hl]at hc;refine hc.mono ?_;rintro e w' ⟨rfl,d',k,os,hp,hs,rfl⟩;have hd:d'.size=n:=by rw[hp.1];simpa using hl
   have l:d'.toList.Perm ts:=by
    have:=hp.2.2;have e1:d'.extract 0 n=d':=by rw[<-hd];simp
    have e2:ts.toArray.extract 0 n=ts.toArray:=by rw[<-hl];simp
    rw[e1,e2]at this
    simpa using this
   have m:vX d'.toList:=by
    unfold vX;rw[List.pairwise_iff_getElem];intro i j hi hj o;have p:i<d'.size:=by simpa using hi
    have a:j<d'.size:=by simpa using hj
    have:=hs i j (ZZ _) o (by omega);rw[mP,decide_eq_false_iff_not,getElem!_pos d' j a,getElem!_pos d' i p]at this
    simpa using this
   have q: (flatK dgC 2 d').size=n*2:=by rw[size_flatK,hd]
   refine⟨rfl,d'.toList,l,m,⟨by rw[gF fI,Array.length_toList,hd],.inr ⟨g,c,putCells id 0 (flatK dgC 2 d') cur,rfl,h1,?_,h3,h4,by simp[putCells];omega,?_⟩⟩,rfl,rfl,rfl,by simp[sortWorldK,putRowK,grow,putRow,mapBlock,Sort.ahead],fun b hb hr=>?_⟩
   . simp only[sortWorldK,putRowK,grow,putRow,mapBlock,Sort.ahead]
     rw[Array.getElem?_append_left (by simpa using d),Array.getElem?_modify,if_pos rfl,h2];rfl
   . rw[wM 0 (n*2) _ cur q rfl f,<-xC]
   . simp only[sortWorldK,putRowK,grow,putRow,mapBlock,Sort.ahead]
     rw[Array.getElem?_append_left (by simpa using hb),Array.getElem?_modify,if_neg (fun e=>hr (by rw[e];rfl))]
end
