/-
  Lemmas of the card.
-/
import Derived.Test.YtknefelegjlgnaaGreatDoorCCCp11
set_option maxRecDepth 100000
set_option maxHeartbeats 16000000
namespace Go.Proofs.YtknefelegjlgnaaGreatDoor
open Go.RowKit
theorem JJ(A:OA)(n c B:Nat)(l:List Ent)(w:UW)(h0:Sl w B 4 A n (flat enC l))(hB:B<=w.heap.size)(hwf:∀e∈l,WfD e.dg)(hs:∀e∈l,e.nm.size<=65536)(hn2:n<=200) :
  Calls Tryz.prog 264 #[.slice A n c] w fun e w'=>(∃x:Int,e= .returned (.int .i64 x)/\ (x=0->jV l))/\U0 w w':=by
 have HL:=ai (h0.len tN (by omega));have H0:=ai h0;have E:=ai hwf;have F:=ai hs;clear h0 hwf hs;have hnz:¬(200:Int)< (n:Int):=by omega
 go_enter Tryz.func264,Tryz.ntmps264
 go_wp2_with fail
 go_loopw[10] (fun i wr=>∃k:Nat,i= .int .i64 (k:Int)/\k<=n/\U6 w wr/\Hid (∀j e,j<k->l[j]? =some e->je e)/\Hid (∀(j:Nat) a b,j+1<k->l[j]? =some a->l[j+1]? =some b->less a.nm b.nm=true)) (fun i _=>n - (intOf i).toNat)
 case atStart=>exact⟨0,rfl,ZX _,ah _ _,fun j e h=>absurd h (by omega),fun j a b h=>absurd h (by omega)⟩
 case round =>
  obtain⟨k,rfl,hk,hbw,u,y⟩:=hrel;have q:=ai u.o;have r:=ai y.o;clear u y;have G:=hbw.o.size;by_cases hlt:k<n
  . have hlz: (k:Int)< (n:Int):=by omega
    obtain⟨bb,off,en,rfl,hbB,he,y0,y1,y2,y3⟩:=(H0.o.below hbw.o hB).en hlt;have HE:=ai he;have z:=ai (E.o en (Z7 he));have hns:=F.o en (Z7 he);obtain⟨wb,hwb⟩:=NX9 (wr.alloc (.cells #[.string en.nm,.bool en.dir,.int .u64 en.dg.1,.int .u64 en.dg.2] 185))
    have H:U6 wr wb:=by rw[<-hwb];exact(ah _ wr).alloc aj _
    have d:Hid (Bk wb wr.heap.size 185 #[.string en.nm,.bool en.dir,.int .u64 en.dg.1,.int .u64 en.dg.2]):=by rw[<-hwb];exact Bk.new wr _ _
    have o:U6 w wb:=hbw.o.trans (H.o.mono G);have L:wb.heap.size=wr.heap.size+1:=by rw[<-hwb];simp
    have C:Hid (∀j,k=j+1->∃p,Hid (∃pe:Ent,l[j]? =some pe/\pe.nm=p)/\wb.cell? ⟨bb,off+j*4,none⟩=some (.string p)):=by
     intro j hj;obtain⟨bb',off',p,hpe,_,hp,z0,_⟩:=(H0.o.below o.o hB).en (k:=j) (by omega);cases hpe
     exact⟨p.nm,⟨p,hp,rfl⟩,z0⟩
    have x0:=d.o.cell 0;have x2:=d.o.cell 2;have x3:=d.o.cell 3;simp at x0 x2 x3;have s:=x0;rw[<-hwb]at s;have t:=ai hwb;clear hwb he;obtain⟨nm,dir,d1,d2⟩:=en;simp only at hns y0 y1 y2 y3 x0 x2 x3 s t d C z;by_cases hnm:nameB nm=true
    case neg =>
     have hnf:nameB nm=false:=by simpa using hnm
     clear hnm
     go_wp2_with (first | (go_at_call 195;refine(jC nm _ (by unfold maxLen;omega)).mono ?_;rintro e w1 ⟨rfl,rfl⟩;rw[hnf]))
     try rw[t.o]
     go_ret
     exact⟨⟨_,rfl,fun h=>by simp at h⟩,o.o⟩
    have I:=ai hnm
    go_upto_region 8 with (first | (go_at_call 195;refine(jC nm _ (by unfold maxLen;omega)).mono ?_;rintro e w1 ⟨rfl,rfl⟩;rw[hnm]))
    rw[t.o];clear s
    go_cut[20] from 21 to 33 (fun f wx=>∃v:Bool,f= .bool v/\Hid (v=false->∀j pe,k=j+1->l[j]? =some pe->less pe.nm nm=true)/\U6 wb wx)
    case first =>
     cases k with
     | zero =>
       go_quiet(fail)
       simp only[Exit.then]
       go_step
       go_meet
       exact⟨false,rfl,fun _ j pe h=>by omega,dm (ah _ _) _⟩
     | succ j =>
       obtain⟨p,HP,z0⟩:=C.o j rfl;have hkp: (0:Int)< ((j+1:Nat):Int):=by omega
       have hw1:IntKind.i64.wrap (((j+1:Nat):Int) - 1)= (j:Int):=by rw[yf (by omega) (by omega)];omega
       have hj1:¬(j:Int)<0:=by omega
       have hj2: (j:Int)< (n:Int):=by omega
       have g:Hid (∀v:Bool,(v=false->less p nm=true)-> (v=false->∀j' pe,j+1=j'+1->l[j']? =some pe->less pe.nm nm=true)):=fun v hv h j' pe hj' hpe=>by
        have:j=j':=by omega
        subst this;obtain⟨M,h1,rfl⟩:=HP.o;rw[h1]at hpe;cases hpe;exact hv h
       cases hb1:Op.bytesLess nm.toList p.toList with
       | true =>
         go_quiet(fail)
         simp only[Exit.then]
         go_step
         go_meet
         exact⟨true,rfl,g.o true (fun h=>by cases h),dm (ah _ _) _⟩
       | false =>
         cases hb2: (nm.toList == p.toList) with
         | true =>
           go_quiet(fail)
           simp only[Exit.then]
           go_step
           go_meet
           exact⟨true,rfl,g.o true (fun h=>by cases h),dm (ah _ _) _⟩
         | false =>
           have J:Hid (less p nm=true):=by
            show _=_;rw[xQ]at hb1;cases hx:less p nm with
            | true=>rfl
            | false=>have:=l9 hb1 hx;rw[this,TL]at hb2;cases hb2
           go_quiet(fail)
           simp only[Exit.then]
           go_step
           go_meet
           exact⟨false,rfl,g.o false (fun _=>J.o),dm (ah _ _) _⟩
    case rest =>
     obtain⟨v,rfl,hvv,HBc⟩:=hcut;have HVV:=ai hvv.o;have m:U6 w wc:=o.o.trans (HBc.o.mono o.o.size);have D:=ai (d.o.below HBc.o d.o.lt);clear x0 x2 x3 y0 y1 y2 y3 hvv hnm;have x2:=D.o.cell 2;have x3:=D.o.cell 3;simp at x2 x3;cases v with
     | true =>
       go_wp2_with fail;go_ret
       exact⟨⟨_,rfl,fun h=>by simp at h⟩,m.o⟩
     | false =>
       by_cases hz: ((d1,d2):Dig)=zD
       . have e1:d1=0:=congrArg Prod.fst hz
         have e2:d2=0:=congrArg Prod.snd hz;subst e1 e2;clear hz;go_wp2_with fail;go_ret
         exact⟨⟨_,rfl,fun h=>by simp at h⟩,m.o⟩
       . have hdz:=lJ hz
         simp only at hdz;have K:Hid (je ⟨nm,dir,(d1,d2)⟩):=⟨I.o,z.o,hz⟩
         clear hz;go_wp2_with fail;go_roundw
         case rel =>
          refine⟨k+1,by go_num,hlt,m.o,fun j e hj hje=>?_,fun j a b hj hja hjb=>?_⟩
          . rcases Nat.lt_or_ge j k with h | h
            . exact q.o j e h hje
            . have:j=k:=by omega
              subst this;rw[HE.o]at hje;cases hje;exact K.o
          . rcases Nat.lt_or_ge (j+1) k with h | h
            . exact r.o j a b h hja hjb
            . have:k=j+1:=by omega
              rw[this]at HE;rw[HE.o]at hjb;cases hjb;exact HVV.o rfl j a this hja
         case measure=>simp[intOf];omega
  . have hlz:¬(k:Int)< (n:Int):=by omega
    go_wp2_with fail;go_ret
    refine⟨⟨_,rfl,fun _=>⟨by rw[HL.o];omega,fun e he=>?_,fun j a b ha hb=>?_⟩⟩,hbw.o⟩
    . obtain⟨j,hj⟩:=List.mem_iff_getElem?.1 he
      exact q.o j e (by have:=(List.getElem?_eq_some_iff.1 hj).1;rw[HL.o]at this;omega) hj
    . exact r.o j a b (by have:=(List.getElem?_eq_some_iff.1 hb).1;rw[HL.o]at this;omega) ha hb
theorem J9(o:Ob)(s:Osl)(B:Nat)(w:UW)(hm:ObM w B o s)(hB:B<=w.heap.size)(hwt:WfD o.tree)(hwp:∀d∈o.pars,WfD d)(hn8:o.pars.length<=8)(has:o.auth.size<=65536)(hmz:o.msg.size<=65536) :
  Calls Tryz.prog 265 #[obV o s] w fun e w'=>(∃x:Int,e= .returned (.int .i64 x)/\ (x=0->OkC o))/\U0 w w':=by
 have HL:=ai hm.plen;have HP:=ai hm.p;have hn:s.pn<=8:=by rw[HL.o]at hn8;exact hn8
 have hpc:=hm.ple;have hpm:=hm.pmx;have E:=ai hwt;have F:=ai hwp;have G:=ai hn8;obtain⟨kind,data,t,⟨t1,t2⟩,pars,auth,time,msg⟩:=o;obtain⟨eA,en,ec,pA,n,pc⟩:=s;simp only at HL HP hn hpc hpm E F G has hmz;have y:Hid (((t1,t2):Dig)≠zD-> (∀d∈pars,d≠zD)->pars.Nodup->nameB auth=true->0<=time->time<=1099511627776->msg.size<=200->OkC ⟨kind,data,t,(t1,t2),pars,auth,time,msg⟩):=fun a b c d e f g=>⟨E.o,a,⟨G.o,F.o,b,c⟩,d,e,f,g⟩
 obtain⟨P,hP⟩:∃P:Prop,OkC ⟨kind,data,t,(t1,t2),pars,auth,time,msg⟩=P:=⟨_,rfl⟩
 rw[hP]at y ⊢;simp only[obV,obC];have hnm:n<=9223372036854775807:=by omega
 have hnz:¬(8:Int)< (n:Int):=by omega
 obtain⟨W0,hW⟩:=NX9 (w.alloc (.cells #[.int .i64 kind,.string data,.slice eA en ec,.int .u64 t1,.int .u64 t2,.slice pA n pc,.string auth,.int .i64 time,.string msg] 109))
 have HB0:U6 w W0:=by rw[<-hW];exact(ah _ w).alloc aj _
 have HK:Hid (Bk W0 w.heap.size 109 #[.int .i64 kind,.string data,.slice eA en ec,.int .u64 t1,.int .u64 t2,.slice pA n pc,.string auth,.int .i64 time,.string msg]):=by rw[<-hW];exact Bk.new w _ _
 have V:w.heap.size<W0.heap.size:=HK.o.lt;obtain⟨c0,c1,c2,c3,c4,c5,c6,c7,c8⟩:=HK.o.nine;clear hm hwt hwp hn8 hP;by_cases htz0: ((t1,t2):Dig)=zD
 . have e1:t1=0:=congrArg Prod.fst htz0
   have e2:t2=0:=congrArg Prod.snd htz0;subst e1 e2;clear htz0
   go_enter Tryz.func265,Tryz.ntmps265
   go_wp2_with fail;go_ret
   exact⟨⟨_,rfl,fun h=>by simp at h⟩,HB0.o⟩
 have N:=ai htz0;have htz:=lJ htz0;simp only at htz;clear htz0
 go_enter Tryz.func265,Tryz.ntmps265
 go_wp2_with fail;clear hW
 go_loopw[16] (fun i wr=>∃k:Nat,i= .int .i64 (k:Int)/\k<=n/\U6 W0 wr/\Hid (∀d∈pars.take k,d≠zD)/\Hid ((pars.take k).Nodup)) (fun i _=>n - (intOf i).toNat)
 case atStart=>exact⟨0,rfl,ZX _,ah _ _,fun d hd=>by simp at hd,List.nodup_nil⟩
 case round =>
  obtain⟨k,rfl,hk,hbw,H,I⟩:=hrel;have z:=ai H.o;have A:=ai I.o;clear H I;have C:=hbw.o.size;have q:U6 w wr:=HB0.o.trans (hbw.o.mono HB0.o.size);clear c0 c1 c2 c3 c4 c5 c6 c7 c8;obtain⟨c0,c1,c2,c3,c4,c5,c6,c7,c8⟩:=(HK.o.below hbw.o V).nine;by_cases hlt:k<n
  . have hlz: (k:Int)< (n:Int):=by omega
    obtain⟨bb,off,d,rfl,hbB,hd,y0,y1⟩:=(HP.o.below q.o hB).dg hlt;have HD:=ai hd;obtain⟨d1,d2⟩:=d;simp only at y0 y1;by_cases hz: ((d1,d2):Dig)=zD
    . have e1:d1=0:=congrArg Prod.fst hz
      have e2:d2=0:=congrArg Prod.snd hz;subst e1 e2;have hbx:U0 W0 (wr.alloc (.cells #[.int .u64 0,.int .u64 0] 50)):=hbw.o.trans ((ah _ wr).alloc C _);have O:Hid (U0 w (wr.alloc (.cells #[.int .u64 0,.int .u64 0] 50))):=HB0.o.trans (hbx.mono HB0.o.size);clear hz hd hbx;go_wp2_with fail;go_ret
      exact⟨⟨_,rfl,fun h=>by simp at h⟩,O.o⟩
    have hdz:=lJ hz;simp only at hdz;have Q:=ai hz;obtain⟨v,hv⟩:=NX9 (decide ((d1,d2)∈pars.take k))
    have HV:=ai hv;clear hz hv;obtain⟨wb,hwb⟩:=NX9 (wr.alloc (.cells #[.int .u64 d1,.int .u64 d2] 50))
    have D:U6 wr wb:=by rw[<-hwb];exact(ah _ wr).alloc aj _
    have J:Hid (Bk wb wr.heap.size 50 #[.int .u64 d1,.int .u64 d2]):=by rw[<-hwb];exact Bk.new wr _ _
    have X:wb.heap.size=wr.heap.size+1:=by rw[<-hwb];simp
    have m:U6 w wb:=q.o.trans (D.o.mono (by omega));have R:Hid (∀Z,U0 wb Z->Calls Tryz.prog 310 #[.slice (some ⟨bb,off,none⟩) k pc,.agg #[.int .u64 d1,.int .u64 d2]] Z fun e w'=>e= .returned (.bool v)/\U0 Z w'):=fun Z hZ=>by
     have hs:Sl Z B 2 (some ⟨bb,off,none⟩) k (flat dgC (pars.take k)):=by
      have h1:=(HP.o.below m.o hB).below hZ (by have:=m.o.size;omega);refine⟨by rw[gZ ig,List.length_take,HL.o];rw[Nat.min_eq_left (by omega)],fun h0=>?_⟩;obtain⟨b',o',e1,e2,e3⟩:=h1.2 (by omega);refine⟨b',o',e1,e2,fun j u hu=>e3 j u ?_⟩;rw[rO ig]at hu;have hjl:=(List.getElem?_eq_some_iff.1 hu).1;rw[List.getElem?_take,if_pos (by rw[List.length_take]at hjl;omega)]at hu;exact hu
     have h:=Az (some ⟨bb,off,none⟩) k pc B (pars.take k) (d1,d2) Z hs (by have:=hZ.size;have:=m.o.size;omega) (by omega);rw[HV.o]at h;exact h
    have b0:=J.o.cell 0;have b1:=J.o.cell 1;simp at b0 b1;have e5:=(HK.o.below (hbw.o.trans (D.o.mono C)) V).nine.2.2.2.2.2.1;have hsl:∀Z:UW,(Instr.sliceAt 47 (.slice (some ⟨bb,off,none⟩) n pc) none (some (.int .i64 k)) none).run Tryz.prog Z= .ok (.slice (some ⟨bb,off,none⟩) k pc) Z:=fun Z=>by
     obtain⟨i0,hi0,_⟩:=info_parts lM;exact qU 47 i0 Tryz.underlying47 hi0 _ n pc k (by omega) Z
    have S:=ai hwb;clear hd hwb
    go_upto_region 10 with fail
    rw[S.o];refine lV 5 (24::25::26::27::28:: []) (by kernel_rfl) (by kernel_rfl) (by kernel_rfl) (fun W=>U0 wb W) (fun W W'=>U0 W W')
     (nX ((.pointer (some ⟨w.heap.size,5,none⟩)):: (.slice (some ⟨bb,off,none⟩) n pc):: (.int .i64 (k:Int)):: (.slice (some ⟨bb,off,none⟩) k pc):: (.agg #[.int .u64 d1,.int .u64 d2]):: [])) (fun W W' h1 h2=>h1.trans (h2.mono h1.size)) (fun i v W W' h _=>h) (ah _ _).drew ?stepC ?tailC
    case stepC =>
     intro i o vs W hi ho hv hR l;obtain⟨v0,v1,v2,v3,v4,rfl⟩:=ls5 hv;simp only[List.zip,List.zipWith,aX,Act.put,List.setIfInBounds_toArray,List.set];have Y:=hR.size;have g5:=(hR.cell (p:=⟨w.heap.size,5,none⟩) (by show w.heap.size<_;omega)).trans e5;have g0:=(hR.cell (p:=⟨wr.heap.size,0,none⟩) (by show wr.heap.size<_;omega)).trans b0;have g1:=(hR.cell (p:=⟨wr.heap.size,1,none⟩) (by show wr.heap.size<_;omega)).trans b1
     match i,hi,ho with
     | 0,_,rfl =>
       exact .inl ⟨rfl,aS (v:= .pointer (some ⟨w.heap.size,5,none⟩)) (w':=W) (by go_simp) ⟨ah _ _,fun _=>aT⟩⟩
     | 1,_,rfl =>
       have e0:v0=_:=l ⟨0,.data⟩ (by simp) rfl v0 rfl _ rfl;subst e0;exact .inl ⟨rfl,aS (v:= .slice (some ⟨bb,off,none⟩) n pc) (w':=W) (by go_simp) ⟨ah _ _,fun _=>aT⟩⟩
     | 2,_,rfl =>
       exact .inl ⟨rfl,aS (v:= .int .i64 (k:Int)) (w':=W) (by go_simp) ⟨ah _ _,fun _=>aT⟩⟩
     | 3,_,rfl =>
       have e1:v1=_:=l ⟨1,.data⟩ (by simp) rfl v1 rfl _ rfl;have e2:v2=_:=l ⟨2,.data⟩ (by simp) rfl v2 rfl _ rfl;subst e1 e2;exact .inl ⟨rfl,aS (v:= .slice (some ⟨bb,off,none⟩) k pc) (w':=W) (by go_simp) ⟨ah _ _,fun _=>aT⟩⟩
     | 4,_,rfl =>
       exact .inl ⟨rfl,aS (v:= .agg #[.int .u64 d1,.int .u64 d2]) (w':=W) (by go_simp) ⟨ah _ _,fun _=>aT⟩⟩
     | i+5,hi,_=>exact absurd hi (by omega)
    case tailC =>
     intro vs W hv hR l;obtain⟨v0,v1,v2,v3,v4,rfl⟩:=ls5 hv;simp only[List.zip,List.zipWith,aX,Act.put,List.setIfInBounds_toArray,List.set,List.drop];have e0:v0=_:=l 0 v0 rfl _ rfl;have e1:v1=_:=l 1 v1 rfl _ rfl;have e2:v2=_:=l 2 v2 rfl _ rfl;have e3:v3=_:=l 3 v3 rfl _ rfl;have e4:v4=_:=l 4 v4 rfl _ rfl;subst e0 e1 e2 e3 e4;clear l hv;have K:U6 W0 W:=hbw.o.trans ((D.o.trans (hR.mono (by omega))).mono C);have HR:=ai hR;clear hR
     go_wp2_with (first | (go_at_call 310;refine(R.o _ HR.o).mono ?_;rintro e w3 ⟨rfl,hb3⟩;refine aN ?_))
     refine aH ?_;have HB3:U6 W0 w3:=K.o.trans (hb3.mono K.o.size);have L:U6 w w3:=HB0.o.trans (HB3.o.mono HB0.o.size);clear hb3;cases v with
     | true =>
       go_wp2_with fail;go_ret
       exact⟨⟨_,rfl,fun h=>by simp at h⟩,L.o⟩
     | false =>
       have HT1:=ai (bJ HD.o);have T:Hid ((d1,d2)∉pars.take k):=of_decide_eq_false HV.o;go_wp2_with fail;go_roundw
       case rel =>
        refine⟨k+1,by go_num,hlt,HB3.o,fun d hd=>?_,?_⟩
        . rw[HT1.o,List.mem_append,ae]at hd
          rcases hd with hd | rfl
          . exact z.o d hd
          . exact Q.o
        . show List.Nodup _
          rw[HT1.o,List.nodup_append];exact⟨A.o,by simp,fun a ha b hb e=>by rw[List.mem_singleton.1 hb]at e;exact T.o (e ▸ ha)⟩
       case measure=>simp[intOf];omega
  . have hlz:¬(k:Int)< (n:Int):=by omega
    have U:Hid (pars.take k=pars):=ZU (by rw[HL.o];omega);rw[U.o]at z A;have hcs:nameB auth=false∨ (nameB auth=true/\ (time<0∨ (0<=time/\ ((1099511627776:Int)<time∨ (time<=1099511627776/\ ((200:Int)< (msg.size:Int)∨msg.size<=200)))))):=by
     cases nameB auth
     . exact .inl rfl
     . right;refine⟨rfl,?_⟩;omega
    rcases hcs with r | ⟨r,ht | ⟨ht0,ht | ⟨ht1,hms | hms⟩⟩⟩
    case inr.inr.inr.inr =>
     have hq1:¬time<0:=by omega
     have hq2:¬(1099511627776:Int)<time:=by omega
     have hq3:¬(200:Int)< (msg.size:Int):=by omega
     have M:=ai (y.o N.o z.o A.o r ht0 ht1 hms)
     go_wp2_with (first | (go_at_call 195;refine(jC auth _ (by unfold maxLen;omega)).mono ?_;rintro e w1 ⟨rfl,rfl⟩;rw[r]))
     go_ret
     exact⟨⟨_,rfl,fun _=>M.o⟩,q.o⟩
    all_goals
     try have hq1:¬time<0:=by omega
     try have hq2:¬(1099511627776:Int)<time:=by omega
     go_wp2_with (first | (go_at_call 195;refine(jC auth _ (by unfold maxLen;omega)).mono ?_;rintro e w1 ⟨rfl,rfl⟩;rw[r]))
     go_ret
     exact⟨⟨_,rfl,fun h=>by simp at h⟩,q.o⟩
inductive RdO(o:Ob):Prop
 | blob (k:o.kind=1∨o.kind=4) (e:o.ents= []) (c:NoC o) (d:o.data.size<=65536)
 | tree (k:o.kind=2) (d:o.data= ⟨#[]⟩) (c:NoC o) (few:o.ents.length<=200) (wf:∀e∈o.ents,WfD e.dg) (sz:∀e∈o.ents,e.nm.size<=65536)
 | commit (k:o.kind=3) (d:o.data= ⟨#[]⟩) (e:o.ents= []) (wt:WfD o.tree) (wp:∀d∈o.pars,WfD d) (few:o.pars.length<=8) (au:o.auth.size<=65536) (ms:o.msg.size<=65536)
 | other (k:o.kind≠1/\o.kind≠2/\o.kind≠3/\o.kind≠4) (d:o.data= ⟨#[]⟩) (e:o.ents= []) (c:NoC o)
theorem LZ(o:Ob)(s:Osl)(B:Nat)(w:UW)(hm:ObM w B o s)(hB:B<=w.heap.size)(hr:RdO o)(hf:¬OkF o) :
  Calls Tryz.prog 204 #[obV o s] w fun e w'=>(∃x:Int,e= .returned (.int .i64 x)/\x≠0)/\U0 w w':=by
 obtain⟨W0,hW⟩:=NX9 (w.alloc (.cells (obC o s) 109))
 have HB0:U6 w W0:=by rw[<-hW];exact(ah _ w).alloc aj _
 have HK:Hid (Bk W0 w.heap.size 109 (obC o s)):=by rw[<-hW];exact Bk.new w _ _
 have hm0:=hm.below (HB0.o.mono hB) aj;have hel:=hm.elen;have hpl:=hm.plen;cases hr with
 | blob k e c d=>exact absurd (.blob k e c d) hf
 | tree k d c few wf sz =>
   obtain⟨h1,h2,h3,h4,h5⟩:=c.flds;have hp0:s.pn=0:=by rw[<-hpl];exact h2
   have hnf:¬jV o.ents:=fun h=>hf (.tree k d c h);have b:=ai hnf;have HE:=ai (JJ s.eA s.en s.ec B o.ents W0 hm0.e (by have:=HB0.o.size;omega) wf sz (by rw[<-hel];exact few));obtain⟨kind,data,ents,tree,f,a,time,msg⟩:=o;obtain⟨eA,en,ec,pA,n,pc⟩:=s;simp only at h1 h3 h4 h5 hp0 k d HE b;subst h1 h3 h4 h5 hp0 k d;simp only[obV,obC]at hW HK ⊢;obtain⟨c0,c1,c2,c3,c4,c5,c6,c7,c8⟩:=HK.o.nine;clear hm hm0 hel hpl c h2 hf hnf few wf sz
   go_enter Tryz.func204,Tryz.ntmps204
   go_wp2_with (first | (go_at_call 264;refine HE.o.mono ?_;rintro e w1 ⟨⟨x,rfl,hx⟩,hb⟩))
   all_goals
    go_ret
    exact⟨⟨x,rfl,fun h=>b.o (hx h)⟩,HB0.o.trans (hb.mono HB0.o.size)⟩
 | commit k d e wt wp few au ms =>
   have he0:s.en=0:=by rw[<-hel,e];rfl
   have hnf:¬OkC o:=fun h=>hf (.commit k d e h);have b:=ai hnf;have HC:=ai (J9 o s B W0 hm0 (by have:=HB0.o.size;omega) wt wp few au ms);obtain⟨kind,data,ents,⟨t1,t2⟩,f,a,time,msg⟩:=o;obtain⟨eA,en,ec,pA,n,pc⟩:=s;simp only at he0 k d;subst he0 k d;simp only[obV,obC]at hW HK HC ⊢;obtain⟨c0,c1,c2,c3,c4,c5,c6,c7,c8⟩:=HK.o.nine;clear hm hm0 hel hpl e hf hnf wt wp few au ms;have fin:∀(x:Int)(w1:UW),(x=0->OkC ⟨3,⟨#[]⟩,ents,(t1,t2),f,a,time,msg⟩)->U0 W0 w1-> (∃y:Int,Ending.returned (.int .i64 x)= .returned (.int .i64 y)/\y≠0)/\U0 w w1:=fun x w1 hx hb=>⟨⟨x,rfl,fun h=>b.o (hx h)⟩,HB0.o.trans (hb.mono HB0.o.size)⟩
   have FIN:=ai fin;have hcs: ((t1 == 0 && t2 == 0)=false)∨ ((t1=0/\t2=0)/\ ((0:Int)< (n:Int)∨ (n=0/\ ((a.toList == ([]:List UInt8))=false∨ ((a.toList == ([]:List UInt8))=true/\ ((time != 0)=true∨ (time=0/\ ((msg.toList == ([]:List UInt8))=false∨ (msg.toList == ([]:List UInt8))=true)))))))):=by
    by_cases h1:t1=0/\t2=0
    . refine .inr ⟨h1,?_⟩
      rcases Nat.eq_zero_or_pos n with h | h
      . refine .inr ⟨h,?_⟩
        cases (a.toList == ([]:List UInt8)) with
        | false=>exact .inl rfl
        | true =>
          refine .inr ⟨rfl,?_⟩;by_cases ht:time=0
          . refine .inr ⟨ht,?_⟩
            cases (msg.toList == ([]:List UInt8)) with
            | false=>exact .inl rfl
            | true=>exact .inr rfl
          . exact .inl (by simpa using ht)
      . exact .inl (by omega)
    . left
      rw[Bool.eq_false_iff];intro h;rw[Bool.and_eq_true,beq_iff_eq,beq_iff_eq]at h;exact h1 h
   clear fin b;rcases hcs with htz | ⟨⟨rfl,rfl⟩,hn | ⟨rfl,ha | ⟨ha,ht | ⟨rfl,hm | hm⟩⟩⟩⟩
   all_goals
    go_enter Tryz.func204,Tryz.ntmps204
    go_wp2_with (first | (go_at_call 265;refine HC.o.mono ?_;rintro e w1 ⟨⟨x,rfl,hx⟩,hb⟩))
    go_ret
    exact FIN.o x _ hx hb
 | other k d e c =>
   obtain⟨h1,h2,h3,h4,h5⟩:=c.flds;have he0:s.en=0:=by rw[<-hel,e];rfl
   have hp0:s.pn=0:=by rw[<-hpl];exact h2
   obtain⟨kind,data,ents,tree,f,a,time,msg⟩:=o;obtain⟨eA,en,ec,pA,n,pc⟩:=s;simp only at h1 h3 h4 h5 he0 hp0 k d;subst h1 h3 h4 h5 he0 hp0 d;simp only[obV,obC]at hW HK ⊢;obtain⟨c0,c1,c2,c3,c4,c5,c6,c7,c8⟩:=HK.o.nine;have k1: (kind == 1)=false:=by simpa using k.1
   have k2: (kind == 2)=false:=by simpa using k.2.1
   have k3: (kind == 3)=false:=by simpa using k.2.2.1
   have k4: (kind == 4)=false:=by simpa using k.2.2.2
   clear hm hm0 hel hpl e c h2 hf k
   go_enter Tryz.func204,Tryz.ntmps204
   go_wp2_with fail;go_ret
   exact⟨⟨9,rfl,by decide⟩,HB0.o⟩
def UA(w:UW)(e:Ending)(w':UW):Prop:=(∃x:Int,e= .returned (.tuple #[.string ⟨#[]⟩,.int .i64 x])/\x≠0)/\U0 w w'
theorem pF(o:Ob)(s:Osl)(B:Nat)(w:UW)(hm:ObM w B o s)(hB:B<=w.heap.size)(hr:RdO o)(hf:¬OkF o) :
  Calls Tryz.prog 113 #[obV o s] w fun e w'=>(∃x:Int,e= .returned (.int .i64 x)/\x≠0)/\U0 w w':=by
 have enc:∀W:UW,U0 w W->Calls Tryz.prog 125 #[obV o s] W (UA W):=fun W hW=>by
  obtain⟨W0,hW0⟩:=NX9 (W.alloc (.cells (obC o s) 109))
  have HB0:U6 W W0:=by rw[<-hW0];exact(ah _ W).alloc aj _
  have a:Hid (Bk W0 W.heap.size 109 (obC o s)):=by rw[<-hW0];exact Bk.new W _ _
  have HC:=ai (LZ o s B W0 (hm.below (hW.trans (HB0.o.mono hW.size)) hB) (by have:=hW.size;have:=HB0.o.size;omega) hr hf);obtain⟨kind,data,b,⟨t1,t2⟩,c,d,time,msg⟩:=o;obtain⟨eA,en,ec,pA,pn,pc⟩:=s;simp only[obV,obC]at hW0 a HC ⊢;obtain⟨c0,c1,c2,c3,c4,c5,c6,c7,c8⟩:=a.o.nine;clear hm hr hf hW hB
  go_enter Tryz.func125,Tryz.ntmps125
  go_wp2_with fail;refine HC.o.mono ?_;rintro e w1 ⟨⟨x,rfl,hx⟩,hb1⟩;have hxb: (x != 0)=true:=by simpa using hx
  have HX:=ai hx;clear hx;go_wp2_with fail;go_ret2
  exact⟨⟨x,rfl,HX.o⟩,HB0.o.trans (hb1.mono HB0.o.size)⟩
 obtain⟨W0,hW0⟩:=NX9 (w.alloc (.cells (obC o s) 109))
 have HB0:U6 w W0:=by rw[<-hW0];exact(ah _ w).alloc aj _
 have a:Hid (Bk W0 w.heap.size 109 (obC o s)):=by rw[<-hW0];exact Bk.new w _ _
 have HC:=ai (enc W0 HB0.o);clear enc hm hr hf;obtain⟨kind,data,b,⟨t1,t2⟩,c,d,time,msg⟩:=o;obtain⟨eA,en,ec,pA,pn,pc⟩:=s;simp only[obV,obC]at hW0 a HC ⊢;obtain⟨c0,c1,c2,c3,c4,c5,c6,c7,c8⟩:=a.o.nine
 go_enter Tryz.func113,Tryz.ntmps113
 go_wp2_with (first | (go_at_call 125;refine HC.o.mono ?_;rintro e w1 ⟨⟨x,rfl,hx⟩,hb1⟩))
 go_ret
 exact⟨⟨x,rfl,hx⟩,HB0.o.trans (hb1.mono HB0.o.size)⟩
theorem TU{b:UZ}{o:Ob}{r:RS}(h:qO b= (o,r))(hb:r.2=false):RdO o:=by
 obtain⟨r1,r2⟩:=r;simp only at hb;subst hb;unfold qO at h;obtain⟨x,hx⟩:=NX9 (qN (b,false))
 rw[hx]at h;obtain⟨k,st⟩:=x;simp only at h;split at h
 . rename_i hk
   simp only[Prod.mk.injEq]at h;obtain⟨rfl,h⟩:=h;have e:=kM (s:=st) (t:=(qT st).1) (r:=r1) (Prod.ext rfl h);refine .blob (by simp only;omega) rfl ⟨rfl,rfl,rfl,rfl,rfl⟩ e.2
 . split at h
   . rename_i hk
     simp only[Prod.mk.injEq]at h;obtain⟨rfl,h⟩:=h;obtain⟨e1,e2,e3⟩:=tK (enc:=aU) (P:=fun e=>WfD e.dg/\e.nm.size<=65536) (fun s x r h=>⟨(yU h).1,(yU h).2,by
      unfold qE at h;simp only[Prod.mk.injEq]at h;obtain⟨rfl,h⟩:=h;have h3:=nJ (Prod.ext rfl h:qD _= (_,r,false));have h4:=congrArg Prod.snd h3.1;simp only[Bool.or_eq_false_iff]at h4;have h2:=nH (Prod.ext rfl (Prod.ext rfl h4.1):qN _= (_,_,false));have h5:=congrArg Prod.snd h2.1;exact(kM (Prod.ext rfl (Prod.ext rfl h5):qT _= (_,_,false))).2⟩) (s:=st) (l:=(qLs qE 200 st).1) (r:=r1) (Prod.ext rfl h)
     exact .tree rfl rfl ⟨rfl,rfl,rfl,rfl,rfl⟩ e2 (fun e he=>(e3 e he).1) (fun e he=>(e3 e he).2)
   . split at h
     . unfold qC at h
       simp only[Prod.mk.injEq]at h;obtain⟨rfl,h⟩:=h;have e1:=kM (Prod.ext rfl h:qT _= (_,r1,false));have e2:=nH (Prod.ext rfl (Prod.ext rfl (by rw[e1.1])):qN _= (_,_,false));have e3:=kM (Prod.ext rfl (Prod.ext rfl (by rw[e2.1])):qT _= (_,_,false));obtain⟨f1,f2,f3⟩:=tK (enc:=ay) (P:=WfD) (fun s x r h=>nJ h) (Prod.ext rfl (Prod.ext rfl (by rw[e3.1])):qLs qD 8 _= (_,_,false));have e5:=nJ (Prod.ext rfl (Prod.ext rfl (by rw[f1])):qD _= (_,_,false));exact .commit rfl rfl rfl e5.2 f3 f2 e3.2 e1.2
     . rename_i h1 h2 h3
       simp only[Prod.mk.injEq]at h;obtain⟨rfl,_⟩:=h;refine .other ?_ rfl rfl ⟨rfl,rfl,rfl,rfl,rfl⟩;simp only;omega
theorem SE{b:UZ}(hb:b.length<=65536)(hn:¬∃o,OkO o/\b=aI o): (qO b).2.2=true∨ (qO b).2.1≠ []∨¬OkF (qO b).1:=by
 refine Classical.byContradiction fun h=>hn ?_;simp only[not_or,Classical.not_not,ne_eq,Bool.not_eq_true]at h;obtain⟨h1,h2,h3⟩:=h;have e:b=aI (qO b).1:=Tc (Prod.ext rfl (Prod.ext h2 h1)) h3;exact⟨_,⟨h3,by rw[<-e];exact hb⟩,e⟩
theorem Ho{α:Type}{g:RS->α×RS}(hg:∀s,(g s).2.1.length<=s.1.length):∀(n:Nat)(s:RS),(qL g n s).2.1.length<=s.1.length
 | 0,s=>Nat.le_refl _
 | n+1,s=>by
   rw[qL];split
   . exact Nat.le_refl _
   . exact ZY (Ho hg n _) (hg s)
theorem QL{α:Type}{g:RS->α×RS}{m:Nat}(hg:∀s,(g s).2.1.length<=s.1.length)(s:RS): (qLs g m s).2.1.length<=s.1.length:=ZY (Ho hg _ _) (lG s)
def KdE(w:UW)(e:Ending)(w':UW):Prop:=e= .returned (.tuple #[.agg #[.int .i64 0,.string ⟨#[]⟩,.slice none 0 0,.int .u64 0,.int .u64 0,.slice none 0 0,.string ⟨#[]⟩,.int .i64 0,.string ⟨#[]⟩],.int .i64 13])/\U0 w w'
theorem KE(b:UZ)(w:UW)(hb:b.length<=65536)(hn:¬∃o,OkO o/\b=aI o):Calls Tryz.prog 81 #[.string (ofL b)] w (KdE w):=by
 have HQ:=ai (SE hb hn);have i:Hid ((qO b).2.2=false->RdO (qO b).1):=fun h=>TU (o:=(qO b).1) (r:=(qO b).2) rfl h;obtain⟨s,hs⟩:=NX9 (ofL b)
 rw[hs];obtain⟨W1,hW1⟩:=NX9 ((w.alloc (.cells #[.int .i64 0,.string ⟨#[]⟩,.slice none 0 0,.int .u64 0,.int .u64 0,.slice none 0 0,.string ⟨#[]⟩,.int .i64 0,.string ⟨#[]⟩] 109)).alloc (.cells #[.string s,.bool false] 229))
 have HZ1:Hid (Bk W1 w.heap.size 109 zrC):=by rw[<-hW1];exact(Bk.new w _ _).alloc _
 have HR1:Hid (Rds W1 (w.heap.size+1) (b,false)):=by
  show Bk _ _ _ #[.string (ofL b),.bool false];rw[hs,<-hW1];have:=Bk.new (w.alloc (.cells #[.int .i64 0,.string ⟨#[]⟩,.slice none 0 0,.int .u64 0,.int .u64 0,.slice none 0 0,.string ⟨#[]⟩,.int .i64 0,.string ⟨#[]⟩] 109)) 229 #[.string s,.bool false]
  rwa[Z9]at this
 have HB1:U6 w W1:=by rw[<-hW1];exact((ah _ w).alloc aj _).alloc (by simp) _
 have kU:W1.heap.size=w.heap.size+2:=by rw[<-hW1];simp
 have N:=ai (l7 (w.heap.size+1) (b,false) W1 HR1.o (by show b.length<=_;omega));have hl1:=lG (b,false);obtain⟨⟨k,st⟩,hx⟩:∃x,qN (b,false)=x:=⟨_,rfl⟩
 have HX:=ai hx;rw[hx]at N hl1;simp only at N hl1;have hst:st.1.length<=1000000:=by omega
 have HST:=ai hst;clear hs hb hn hx hl1 hst
 go_enter Tryz.func81,Tryz.ntmps81
 go_wp2_with fail;refine N.o.mono ?_;rintro e w2 ⟨rfl,hr,hg⟩;have HR2:=ai hr;have HG2:U6 w w2:=HB1.o.trans (hg.below (by omega) (fun q hq e=>by omega));have HZ2:=ai (hg.bk HZ1.o (by show ¬w.heap.size=w.heap.size+1;omega));have z2:w.heap.size+2<=w2.heap.size:=by have:=hg.size;omega
 clear hr hg hW1 N HB1 HZ1 HR1;obtain⟨W3,hW3⟩:=NX9 (w2.alloc (.cells #[.int .i64 (k:Nat),.string ⟨#[]⟩,.slice none 0 0,.int .u64 0,.int .u64 0,.slice none 0 0,.string ⟨#[]⟩,.int .i64 0,.string ⟨#[]⟩] 109))
 have hb3:U0 w2 W3:=by rw[<-hW3];exact(ah _ w2).alloc aj _
 have u:Hid (Bk W3 w2.heap.size 109 #[.int .i64 (k:Nat),.string ⟨#[]⟩,.slice none 0 0,.int .u64 0,.int .u64 0,.slice none 0 0,.string ⟨#[]⟩,.int .i64 0,.string ⟨#[]⟩]):=by rw[<-hW3];exact Bk.new w2 _ _
 have HR3:Hid (Rds W3 (w.heap.size+1) st):=Bk.below HR2.o hb3 (by omega);have HZ3:=ai (HZ2.o.below hb3 (by omega));have HB3:U6 w W3:=HG2.o.trans (hb3.mono (by omega));have z3:W3.heap.size=w2.heap.size+1:=by rw[<-hW3];simp
 have c0:=u.o.nine.1;rw[<-hW3]at c0;have HW3:=ai hW3;clear hb3 hW3 HR2 HZ2 HG2;rcases (show k=1∨k=4∨k=2∨k=3∨ (k≠1/\k≠2/\k≠3/\k≠4) by omega) with rfl | rfl | rfl | rfl | hk
 . have HE:Hid (qO b= (⟨1,ofL (qT st).1,[],zD,[],⟨#[]⟩,0,⟨#[]⟩⟩,(qT st).2)):=by
     show _=_;unfold qO;rw[HX.o];rfl
   have HW3:Hid (w2.alloc (.cells #[.int .i64 1,.string ⟨#[]⟩,.slice none 0 0,.int .u64 0,.int .u64 0,.slice none 0 0,.string ⟨#[]⟩,.int .i64 0,.string ⟨#[]⟩] 109)=W3):=HW3.o;have u:Hid (Bk W3 w2.heap.size 109 #[.int .i64 1,.string ⟨#[]⟩,.slice none 0 0,.int .u64 0,.int .u64 0,.slice none 0 0,.string ⟨#[]⟩,.int .i64 0,.string ⟨#[]⟩]):=u.o;have c0: (w2.alloc (.cells #[.int .i64 1,.string ⟨#[]⟩,.slice none 0 0,.int .u64 0,.int .u64 0,.slice none 0 0,.string ⟨#[]⟩,.int .i64 0,.string ⟨#[]⟩] 109)).cell? ⟨w2.heap.size,0,none⟩=some (.int .i64 1):=c0;have v:=ai (lZ (w.heap.size+1) st W3 HR3.o HST.o);obtain⟨⟨t,q4⟩,hq⟩:∃x,qT st=x:=⟨_,rfl⟩
   rw[hq]at v HE;simp only at v HE;rw[HE.o]at HQ i;simp only at HQ i;clear hq;go_wp2_with fail;rw[HW3.o];refine v.o.mono ?_;rintro e v4 ⟨rfl,hr,hg⟩;have j:=ai hr;have c:=ai (hg.bk u.o (by show ¬w2.heap.size=w.heap.size+1;omega));have l:=ai (hg.bk HZ3.o (by show ¬w.heap.size=w.heap.size+1;omega));have n:U6 w v4:=HB3.o.trans (hg.below (by have:=HB3.o.size;omega) (fun q hq e=>by omega));have S:=hg.size;clear c0 hr hg v HB3 HZ3 u HR3;obtain⟨c0,c1,c2,c3,c4,c5,c6,c7,c8⟩:=c.o.nine;have f1:=c.o.free 1;obtain⟨W4,d⟩:=NX9 ((v4.setCell ⟨w2.heap.size,1,none⟩ (.string (ofL t))))
   have z:Hid (Bk W4 w2.heap.size 109 (obC ⟨1,ofL t,[],zD,[],⟨#[]⟩,0,⟨#[]⟩⟩ ⟨none,0,0,none,0,0⟩)):=by rw[<-d];have:=(c.o.set 1 (.string (ofL t)));show Bk _ _ _ _;simpa [obC,zD] using this
   have HR4:Hid (Rds W4 (w.heap.size+1) q4):=by rw[<-d];exact(Bk.far j.o (p:=⟨w2.heap.size,1,none⟩) (by show w.heap.size+1≠w2.heap.size;omega) _)
   have f:Hid (Bk W4 w.heap.size 109 zrC):=by rw[<-d];exact(Bk.far l.o (p:=⟨w2.heap.size,1,none⟩) (by show w.heap.size≠w2.heap.size;omega) _)
   have HB4:U6 w W4:=by rw[<-d];exact(Below.setCell n.o (p:=⟨w2.heap.size,1,none⟩) (by show w.heap.size<=w2.heap.size;omega) _)
   have M:w2.heap.size<W4.heap.size:=z.o.lt;have C:Hid (ObM W4 W4.heap.size ⟨1,ofL t,[],zD,[],⟨#[]⟩,0,⟨#[]⟩⟩ ⟨none,0,0,none,0,0⟩):=⟨Sl.nil _ _ _ _,Sl.nil _ _ _ _,Nat.le_refl _,ZX _,Nat.le_refl _,ZX _⟩
   clear j c l n HE
   go_upto_region 15 with fail
   try rw[d]
   clear d c0 c1 c2 c3 c4 c5 c6 c7 c8 f1;obtain⟨bs,bad⟩:=q4;simp only at HQ i;obtain⟨q0,q1,_,_⟩:=Bk.two (show Bk W4 (w.heap.size+1) 229 #[.string (ofL bs),.bool bad] from HR4.o);obtain⟨d0,d1,d2,d3,d4,d5,d6,d7,d8⟩:=f.o.nine;obtain⟨f0,f1,f2,f3,f4,f5,f6,f7,f8⟩:=fr9 f.o;cases bad with
   | true =>
     go_wp2_with fail;refine ZW (fC Tryz.results81 rfl (fD f.o _ _ _ _ _ _ _ _ _) rfl) rfl ⟨rfl,fB HB4.o aj _ _ _ _ _ _ _ _ _⟩
   | false =>
     by_cases hbs:bs= []
     . subst hbs
       have D:Hid (¬OkF _):=HQ.o.resolve_left (by simp) |>.resolve_left (by simp);have y:=ai (pF _ _ W4.heap.size W4 C.o aj (i.o rfl) D.o);simp only[obV,obC,zD]at y z;obtain⟨k0,k1,k2,k3,k4,k5,k6,k7,k8⟩:=z.o.nine;have q0':W4.cell? ⟨w.heap.size+1,0,none⟩=some (.string ⟨#[]⟩):=q0;clear q0;go_wp2_with fail;refine y.o.mono ?_;rintro e w8 ⟨⟨x,rfl,hx⟩,hb8⟩;have hxb: (x != 0)=true:=by simpa using hx
       have g:=ai (f.o.below hb8 f.o.lt);have A:U6 w w8:=HB4.o.trans (hb8.mono HB4.o.size);clear k0 k1 k2 k3 k4 k5 k6 k7 k8 q0' q1 d0 d1 d2 d3 d4 d5 d6 d7 d8 f0 f1 f2 f3 f4 f5 f6 f7 f8 hb8 y hx;obtain⟨d0,d1,d2,d3,d4,d5,d6,d7,d8⟩:=g.o.nine;obtain⟨f0,f1,f2,f3,f4,f5,f6,f7,f8⟩:=fr9 g.o;go_wp2_with fail;refine ZW (fC Tryz.results81 rfl (fD g.o _ _ _ _ _ _ _ _ _) rfl) rfl ⟨rfl,fB A.o aj _ _ _ _ _ _ _ _ _⟩
     . have hs1: ((ofL bs).toList == ([]:List UInt8))=false:=by
         rw[pU];exact decide_eq_false fun h=>hbs (by have:=congrArg toL h;rw[dw]at this;exact this)
       clear hbs;go_wp2_with fail;refine ZW (fC Tryz.results81 rfl (fD f.o _ _ _ _ _ _ _ _ _) rfl) rfl ⟨rfl,fB HB4.o aj _ _ _ _ _ _ _ _ _⟩
 . have HE:Hid (qO b= (⟨4,ofL (qT st).1,[],zD,[],⟨#[]⟩,0,⟨#[]⟩⟩,(qT st).2)):=by
     show _=_;unfold qO;rw[HX.o];rfl
   have HW3:Hid (w2.alloc (.cells #[.int .i64 4,.string ⟨#[]⟩,.slice none 0 0,.int .u64 0,.int .u64 0,.slice none 0 0,.string ⟨#[]⟩,.int .i64 0,.string ⟨#[]⟩] 109)=W3):=HW3.o;have u:Hid (Bk W3 w2.heap.size 109 #[.int .i64 4,.string ⟨#[]⟩,.slice none 0 0,.int .u64 0,.int .u64 0,.slice none 0 0,.string ⟨#[]⟩,.int .i64 0,.string ⟨#[]⟩]):=u.o;have c0: (w2.alloc (.cells #[.int .i64 4,.string ⟨#[]⟩,.slice none 0 0,.int .u64 0,.int .u64 0,.slice none 0 0,.string ⟨#[]⟩,.int .i64 0,.string ⟨#[]⟩] 109)).cell? ⟨w2.heap.size,0,none⟩=some (.int .i64 4):=c0;have v:=ai (lZ (w.heap.size+1) st W3 HR3.o HST.o);obtain⟨⟨t,q4⟩,hq⟩:∃x,qT st=x:=⟨_,rfl⟩
   rw[hq]at v HE;simp only at v HE;rw[HE.o]at HQ i;simp only at HQ i;clear hq;go_wp2_with fail;rw[HW3.o];refine v.o.mono ?_;rintro e v4 ⟨rfl,hr,hg⟩;have j:=ai hr;have c:=ai (hg.bk u.o (by show ¬w2.heap.size=w.heap.size+1;omega));have l:=ai (hg.bk HZ3.o (by show ¬w.heap.size=w.heap.size+1;omega));have n:U6 w v4:=HB3.o.trans (hg.below (by have:=HB3.o.size;omega) (fun q hq e=>by omega));have S:=hg.size;clear c0 hr hg v HB3 HZ3 u HR3;obtain⟨c0,c1,c2,c3,c4,c5,c6,c7,c8⟩:=c.o.nine;have f1:=c.o.free 1;obtain⟨W4,d⟩:=NX9 ((v4.setCell ⟨w2.heap.size,1,none⟩ (.string (ofL t))))
   have z:Hid (Bk W4 w2.heap.size 109 (obC ⟨4,ofL t,[],zD,[],⟨#[]⟩,0,⟨#[]⟩⟩ ⟨none,0,0,none,0,0⟩)):=by rw[<-d];have:=(c.o.set 1 (.string (ofL t)));show Bk _ _ _ _;simpa [obC,zD] using this
   have HR4:Hid (Rds W4 (w.heap.size+1) q4):=by rw[<-d];exact(Bk.far j.o (p:=⟨w2.heap.size,1,none⟩) (by show w.heap.size+1≠w2.heap.size;omega) _)
   have f:Hid (Bk W4 w.heap.size 109 zrC):=by rw[<-d];exact(Bk.far l.o (p:=⟨w2.heap.size,1,none⟩) (by show w.heap.size≠w2.heap.size;omega) _)
   have HB4:U6 w W4:=by rw[<-d];exact(Below.setCell n.o (p:=⟨w2.heap.size,1,none⟩) (by show w.heap.size<=w2.heap.size;omega) _)
   have M:w2.heap.size<W4.heap.size:=z.o.lt;have C:Hid (ObM W4 W4.heap.size ⟨4,ofL t,[],zD,[],⟨#[]⟩,0,⟨#[]⟩⟩ ⟨none,0,0,none,0,0⟩):=⟨Sl.nil _ _ _ _,Sl.nil _ _ _ _,Nat.le_refl _,ZX _,Nat.le_refl _,ZX _⟩
   clear j c l n HE
   go_upto_region 15 with fail
   try rw[d]
   clear d c0 c1 c2 c3 c4 c5 c6 c7 c8 f1;obtain⟨bs,bad⟩:=q4;simp only at HQ i;obtain⟨q0,q1,_,_⟩:=Bk.two (show Bk W4 (w.heap.size+1) 229 #[.string (ofL bs),.bool bad] from HR4.o);obtain⟨d0,d1,d2,d3,d4,d5,d6,d7,d8⟩:=f.o.nine;obtain⟨f0,f1,f2,f3,f4,f5,f6,f7,f8⟩:=fr9 f.o;cases bad with
   | true =>
     go_wp2_with fail;refine ZW (fC Tryz.results81 rfl (fD f.o _ _ _ _ _ _ _ _ _) rfl) rfl ⟨rfl,fB HB4.o aj _ _ _ _ _ _ _ _ _⟩
   | false =>
     by_cases hbs:bs= []
     . subst hbs
       have D:Hid (¬OkF _):=HQ.o.resolve_left (by simp) |>.resolve_left (by simp);have y:=ai (pF _ _ W4.heap.size W4 C.o aj (i.o rfl) D.o);simp only[obV,obC,zD]at y z;obtain⟨k0,k1,k2,k3,k4,k5,k6,k7,k8⟩:=z.o.nine;have q0':W4.cell? ⟨w.heap.size+1,0,none⟩=some (.string ⟨#[]⟩):=q0;clear q0;go_wp2_with fail;refine y.o.mono ?_;rintro e w8 ⟨⟨x,rfl,hx⟩,hb8⟩;have hxb: (x != 0)=true:=by simpa using hx
       have g:=ai (f.o.below hb8 f.o.lt);have A:U6 w w8:=HB4.o.trans (hb8.mono HB4.o.size);clear k0 k1 k2 k3 k4 k5 k6 k7 k8 q0' q1 d0 d1 d2 d3 d4 d5 d6 d7 d8 f0 f1 f2 f3 f4 f5 f6 f7 f8 hb8 y hx;obtain⟨d0,d1,d2,d3,d4,d5,d6,d7,d8⟩:=g.o.nine;obtain⟨f0,f1,f2,f3,f4,f5,f6,f7,f8⟩:=fr9 g.o;go_wp2_with fail;refine ZW (fC Tryz.results81 rfl (fD g.o _ _ _ _ _ _ _ _ _) rfl) rfl ⟨rfl,fB A.o aj _ _ _ _ _ _ _ _ _⟩
     . have hs1: ((ofL bs).toList == ([]:List UInt8))=false:=by
         rw[pU];exact decide_eq_false fun h=>hbs (by have:=congrArg toL h;rw[dw]at this;exact this)
       clear hbs;go_wp2_with fail;refine ZW (fC Tryz.results81 rfl (fD f.o _ _ _ _ _ _ _ _ _) rfl) rfl ⟨rfl,fB HB4.o aj _ _ _ _ _ _ _ _ _⟩
 . have HW3:Hid (w2.alloc (.cells #[.int .i64 2,.string ⟨#[]⟩,.slice none 0 0,.int .u64 0,.int .u64 0,.slice none 0 0,.string ⟨#[]⟩,.int .i64 0,.string ⟨#[]⟩] 109)=W3):=HW3.o
   have u:Hid (Bk W3 w2.heap.size 109 #[.int .i64 2,.string ⟨#[]⟩,.slice none 0 0,.int .u64 0,.int .u64 0,.slice none 0 0,.string ⟨#[]⟩,.int .i64 0,.string ⟨#[]⟩]):=u.o;have c0: (w2.alloc (.cells #[.int .i64 2,.string ⟨#[]⟩,.slice none 0 0,.int .u64 0,.int .u64 0,.slice none 0 0,.string ⟨#[]⟩,.int .i64 0,.string ⟨#[]⟩] 109)).cell? ⟨w2.heap.size,0,none⟩=some (.int .i64 2):=c0;obtain⟨⟨L,q4⟩,h4⟩:∃x,qLs qE 200 st=x:=⟨_,rfl⟩
   have HE:Hid (qO b= (⟨2,⟨#[]⟩,L,zD,[],⟨#[]⟩,0,⟨#[]⟩⟩,q4)):=by
    show _=_;unfold qO;rw[HX.o];show(_,(qLs qE 200 st).2)=_;rw[h4]
   have H4:=ai h4;rw[HE.o]at HQ i;simp only at HQ i;clear h4 HE;have v:=ai (Ci (w.heap.size+1) st W3 HR3.o HST.o);rw[H4.o]at v;simp only at v;go_wp2_with fail;rw[HW3.o];refine v.o.mono ?_;rintro e v4 ⟨A4,K,rfl,hn4,hm4,hap,hr,hg⟩;have j:=ai hr;have c:=ai (hg.bk u.o (by show ¬w2.heap.size=w.heap.size+1;omega));have l:=ai (hg.bk HZ3.o (by show ¬w.heap.size=w.heap.size+1;omega));have n:U6 w v4:=HB3.o.trans (hg.below (by have:=HB3.o.size;omega) (fun q hq e=>by omega));have S:=hg.size;have B:=ai hap;clear c0 hr hg hap v HB3 HZ3 u HR3;obtain⟨c0,c1,c2,c3,c4,c5,c6,c7,c8⟩:=c.o.nine;have f2:=c.o.free 2;obtain⟨W4,d⟩:=NX9 ((v4.setCell ⟨w2.heap.size,2,none⟩ (.slice A4 L.length K)))
   have z:Hid (Bk W4 w2.heap.size 109 #[.int .i64 2,.string ⟨#[]⟩,.slice A4 L.length K,.int .u64 0,.int .u64 0,.slice none 0 0,.string ⟨#[]⟩,.int .i64 0,.string ⟨#[]⟩]):=by rw[<-d];have:=(c.o.set 2 (.slice A4 L.length K));show Bk _ _ _ _;simpa using this
   have HR4:Hid (Rds W4 (w.heap.size+1) q4):=by rw[<-d];exact(Bk.far j.o (p:=⟨w2.heap.size,2,none⟩) (by show w.heap.size+1≠w2.heap.size;omega) _)
   have f:Hid (Bk W4 w.heap.size 109 zrC):=by rw[<-d];exact(Bk.far l.o (p:=⟨w2.heap.size,2,none⟩) (by show w.heap.size≠w2.heap.size;omega) _)
   have HB4:U6 w W4:=by rw[<-d];exact(Below.setCell n.o (p:=⟨w2.heap.size,2,none⟩) (by show w.heap.size<=w2.heap.size;omega) _)
   have M:v4.heap.size<=W4.heap.size:=by rw[<-d];simp[World.setCell]
   have W:=ai ((Apd.setCell B.o (a:=⟨w2.heap.size,2,none⟩) (by show w2.heap.size<_;omega) (.slice A4 L.length K)));rw[d]at W;clear j c l n B;have X:=i;have fU:=HQ;have C:Hid (ObM W4 W4.heap.size ⟨2,⟨#[]⟩,L,zD,[],⟨#[]⟩,0,⟨#[]⟩⟩ ⟨A4,L.length,K,none,0,0⟩):=⟨W.o.sl,Sl.nil _ _ _ _,hn4,hm4,Nat.le_refl _,ZX _⟩
   have F:Hid (Bk W4 w2.heap.size 109 (obC ⟨2,⟨#[]⟩,L,zD,[],⟨#[]⟩,0,⟨#[]⟩⟩ ⟨A4,L.length,K,none,0,0⟩)):=z.o;have Y:w2.heap.size<W4.heap.size:=z.o.lt
   go_upto_region 15 with fail
   try rw[d]
   clear d c0 c1 c2 c3 c4 c5 c6 c7 c8 f2;obtain⟨bs,bad⟩:=q4;simp only at HQ i;obtain⟨q0,q1,_,_⟩:=Bk.two (show Bk W4 (w.heap.size+1) 229 #[.string (ofL bs),.bool bad] from HR4.o);obtain⟨d0,d1,d2,d3,d4,d5,d6,d7,d8⟩:=f.o.nine;obtain⟨f0,f1,f2,f3,f4,f5,f6,f7,f8⟩:=fr9 f.o;cases bad with
   | true =>
     go_wp2_with fail;refine ZW (fC Tryz.results81 rfl (fD f.o _ _ _ _ _ _ _ _ _) rfl) rfl ⟨rfl,fB HB4.o aj _ _ _ _ _ _ _ _ _⟩
   | false =>
     by_cases hbs:bs= []
     . subst hbs
       have D:Hid (¬OkF _):=HQ.o.resolve_left (by simp) |>.resolve_left (by simp);have y:=ai (pF _ _ W4.heap.size W4 C.o aj (i.o rfl) D.o);simp only[obV,obC,zD]at y F;obtain⟨k0,k1,k2,k3,k4,k5,k6,k7,k8⟩:=F.o.nine;have q0':W4.cell? ⟨w.heap.size+1,0,none⟩=some (.string ⟨#[]⟩):=q0;clear q0;go_wp2_with fail;refine y.o.mono ?_;rintro e w8 ⟨⟨x,rfl,hx⟩,hb8⟩;have hxb: (x != 0)=true:=by simpa using hx
       have g:=ai (f.o.below hb8 f.o.lt);have A:U6 w w8:=HB4.o.trans (hb8.mono HB4.o.size);clear k0 k1 k2 k3 k4 k5 k6 k7 k8 q0' q1 d0 d1 d2 d3 d4 d5 d6 d7 d8 f0 f1 f2 f3 f4 f5 f6 f7 f8 hb8 y hx;obtain⟨d0,d1,d2,d3,d4,d5,d6,d7,d8⟩:=g.o.nine;obtain⟨f0,f1,f2,f3,f4,f5,f6,f7,f8⟩:=fr9 g.o;go_wp2_with fail;refine ZW (fC Tryz.results81 rfl (fD g.o _ _ _ _ _ _ _ _ _) rfl) rfl ⟨rfl,fB A.o aj _ _ _ _ _ _ _ _ _⟩
     . have hs1: ((ofL bs).toList == ([]:List UInt8))=false:=by
         rw[pU];exact decide_eq_false fun h=>hbs (by have:=congrArg toL h;rw[dw]at this;exact this)
       clear hbs;go_wp2_with fail;refine ZW (fC Tryz.results81 rfl (fD f.o _ _ _ _ _ _ _ _ _) rfl) rfl ⟨rfl,fB HB4.o aj _ _ _ _ _ _ _ _ _⟩
 . have HW3:Hid (w2.alloc (.cells #[.int .i64 3,.string ⟨#[]⟩,.slice none 0 0,.int .u64 0,.int .u64 0,.slice none 0 0,.string ⟨#[]⟩,.int .i64 0,.string ⟨#[]⟩] 109)=W3):=HW3.o
   have u:Hid (Bk W3 w2.heap.size 109 #[.int .i64 3,.string ⟨#[]⟩,.slice none 0 0,.int .u64 0,.int .u64 0,.slice none 0 0,.string ⟨#[]⟩,.int .i64 0,.string ⟨#[]⟩]):=u.o;have c0: (w2.alloc (.cells #[.int .i64 3,.string ⟨#[]⟩,.slice none 0 0,.int .u64 0,.int .u64 0,.slice none 0 0,.string ⟨#[]⟩,.int .i64 0,.string ⟨#[]⟩] 109)).cell? ⟨w2.heap.size,0,none⟩=some (.int .i64 3):=c0;have l1:=tX st;obtain⟨⟨⟨d1,d2⟩,s1⟩,h4⟩:∃x,qD st=x:=⟨_,rfl⟩
   have l2:=QL (m:=8) tX s1;obtain⟨⟨L,s2⟩,h5⟩:∃x,qLs qD 8 s1=x:=⟨_,rfl⟩
   have l3:=yR s2;obtain⟨⟨t,s3⟩,h6⟩:∃x,qT s2=x:=⟨_,rfl⟩
   have l4:=lG s3;obtain⟨⟨k4,s4⟩,h7⟩:∃x,qN s3=x:=⟨_,rfl⟩
   obtain⟨⟨t5,s5⟩,h8⟩:∃x,qT s4=x:=⟨_,rfl⟩
   have HE:Hid (qO b= (⟨3,⟨#[]⟩,[],(d1,d2),L,ofL t,(k4:Nat),ofL t5⟩,s5)):=by
    show _=_;unfold qO;rw[HX.o];show qC st=_;unfold qC;simp only[h4,h5,h6,h7,h8]
   rw[h4]at l1;rw[h5]at l2;rw[h6]at l3;rw[h7]at l4;simp only at l1 l2 l3 l4;have hst:=HST.o;have m1:Hid (s1.1.length<=1000000):=by show _<=_;omega
   have m2:Hid (s2.1.length<=1000000):=by show _<=_;omega
   have m3:Hid (s3.1.length<=1000000):=by show _<=_;omega
   have m4:Hid (s4.1.length<=1000000):=by show _<=_;omega
   have H4:=ai h4;have H5:=ai h5;have H6:=ai h6;have H7:=ai h7;have H8:=ai h8;rw[HE.o]at HQ i;simp only at HQ i;clear h4 h5 h6 h7 h8 l1 l2 l3 l4 hst HE;have v:=ai (lY (w.heap.size+1) st W3 HR3.o HST.o);rw[H4.o]at v;simp only at v;go_wp2_with fail;rw[HW3.o];refine v.o.mono ?_;rintro e v4 ⟨rfl,hr,hg⟩;simp only[aA];have j:=ai hr;have c:=ai (hg.bk u.o (by show ¬w2.heap.size=w.heap.size+1;omega));have l:=ai (hg.bk HZ3.o (by show ¬w.heap.size=w.heap.size+1;omega));have n:U6 w v4:=HB3.o.trans (hg.below (by have:=HB3.o.size;omega) (fun q hq e=>by omega));have S:=hg.size;clear c0 hr hg v HB3 HZ3 u HR3;obtain⟨c0,c1,c2,c3,c4,c5,c6,c7,c8⟩:=c.o.nine;have f3:=c.o.free 3;have f4:=c.o.free 4;obtain⟨W4,d⟩:=NX9 (((v4.setCell ⟨w2.heap.size,3,none⟩ (.int .u64 d1)).setCell ⟨w2.heap.size,4,none⟩ (.int .u64 d2)))
   have z:Hid (Bk W4 w2.heap.size 109 #[.int .i64 3,.string ⟨#[]⟩,.slice none 0 0,.int .u64 d1,.int .u64 d2,.slice none 0 0,.string ⟨#[]⟩,.int .i64 0,.string ⟨#[]⟩]):=by rw[<-d];have:=((c.o.set 3 (.int .u64 d1)).set 4 (.int .u64 d2));show Bk _ _ _ _;simpa using this
   have HR4:Hid (Rds W4 (w.heap.size+1) s1):=by rw[<-d];exact(Bk.far (Bk.far j.o (p:=⟨w2.heap.size,3,none⟩) (by show w.heap.size+1≠w2.heap.size;omega) _) (p:=⟨w2.heap.size,4,none⟩) (by show w.heap.size+1≠w2.heap.size;omega) _)
   have f:Hid (Bk W4 w.heap.size 109 zrC):=by rw[<-d];exact(Bk.far (Bk.far l.o (p:=⟨w2.heap.size,3,none⟩) (by show w.heap.size≠w2.heap.size;omega) _) (p:=⟨w2.heap.size,4,none⟩) (by show w.heap.size≠w2.heap.size;omega) _)
   have HB4:U6 w W4:=by rw[<-d];exact(Below.setCell (Below.setCell n.o (p:=⟨w2.heap.size,3,none⟩) (by show w.heap.size<=w2.heap.size;omega) _) (p:=⟨w2.heap.size,4,none⟩) (by show w.heap.size<=w2.heap.size;omega) _)
   have M:v4.heap.size<=W4.heap.size:=by rw[<-d];simp[World.setCell]
   clear j c l n;have O:=ai (Cf (w.heap.size+1) s1 W4 HR4.o m1.o);rw[H5.o]at O;simp only at O;go_wp2_with fail;refine O.o.mono ?_;rintro e v5 ⟨A5,E,rfl,gu,iU,hap,hr,hg⟩;have j:=ai hr;have c:=ai (hg.bk z.o (by show ¬w2.heap.size=w.heap.size+1;omega));have l:=ai (hg.bk f.o (by show ¬w.heap.size=w.heap.size+1;omega));have n:U6 w v5:=HB4.o.trans (hg.below (by have:=HB4.o.size;omega) (fun q hq e=>by omega));have lg:=hg.size;have B:=ai hap;clear c0 c1 c2 c3 c4 c5 c6 c7 c8;clear hr hg hap O HB4 f z HR4 d;obtain⟨c0,c1,c2,c3,c4,c5,c6,c7,c8⟩:=c.o.nine;have f5:=c.o.free 5;obtain⟨W5,H⟩:=NX9 ((v5.setCell ⟨w2.heap.size,5,none⟩ (.slice A5 L.length E)))
   have Z:Hid (Bk W5 w2.heap.size 109 #[.int .i64 3,.string ⟨#[]⟩,.slice none 0 0,.int .u64 d1,.int .u64 d2,.slice A5 L.length E,.string ⟨#[]⟩,.int .i64 0,.string ⟨#[]⟩]):=by rw[<-H];have:=(c.o.set 5 (.slice A5 L.length E));show Bk _ _ _ _;simpa using this
   have ag:Hid (Rds W5 (w.heap.size+1) s2):=by rw[<-H];exact(Bk.far j.o (p:=⟨w2.heap.size,5,none⟩) (by show w.heap.size+1≠w2.heap.size;omega) _)
   have au:Hid (Bk W5 w.heap.size 109 zrC):=by rw[<-H];exact(Bk.far l.o (p:=⟨w2.heap.size,5,none⟩) (by show w.heap.size≠w2.heap.size;omega) _)
   have T:U6 w W5:=by rw[<-H];exact(Below.setCell n.o (p:=⟨w2.heap.size,5,none⟩) (by show w.heap.size<=w2.heap.size;omega) _)
   have lq:v5.heap.size<=W5.heap.size:=by rw[<-H];simp[World.setCell]
   have bf:=ai ((Apd.setCell B.o (a:=⟨w2.heap.size,5,none⟩) (by show w2.heap.size<_;omega) (.slice A5 L.length E)));rw[H]at bf;clear j c l n B;have P:=ai (lZ (w.heap.size+1) s2 W5 ag.o m2.o);rw[H6.o]at P;simp only at P;go_wp2_with fail;refine P.o.mono ?_;rintro e v6 ⟨rfl,hr,hg⟩;have j:=ai hr;have c:=ai (hg.bk Z.o (by show ¬w2.heap.size=w.heap.size+1;omega));have l:=ai (hg.bk au.o (by show ¬w.heap.size=w.heap.size+1;omega));have n:U6 w v6:=T.o.trans (hg.below (by have:=T.o.size;omega) (fun q hq e=>by omega));have nz:=hg.size;have B:=ai (bf.o.gb hg (by omega));clear c0 c1 c2 c3 c4 c5 c6 c7 c8;clear hr hg P T au Z ag H;obtain⟨c0,c1,c2,c3,c4,c5,c6,c7,c8⟩:=c.o.nine;have f6:=c.o.free 6;obtain⟨W6,I⟩:=NX9 ((v6.setCell ⟨w2.heap.size,6,none⟩ (.string (ofL t))))
   have bg:Hid (Bk W6 w2.heap.size 109 #[.int .i64 3,.string ⟨#[]⟩,.slice none 0 0,.int .u64 d1,.int .u64 d2,.slice A5 L.length E,.string (ofL t),.int .i64 0,.string ⟨#[]⟩]):=by rw[<-I];have:=(c.o.set 6 (.string (ofL t)));show Bk _ _ _ _;simpa using this
   have bn:Hid (Rds W6 (w.heap.size+1) s3):=by rw[<-I];exact(Bk.far j.o (p:=⟨w2.heap.size,6,none⟩) (by show w.heap.size+1≠w2.heap.size;omega) _)
   have bz:Hid (Bk W6 w.heap.size 109 zrC):=by rw[<-I];exact(Bk.far l.o (p:=⟨w2.heap.size,6,none⟩) (by show w.heap.size≠w2.heap.size;omega) _)
   have U:U6 w W6:=by rw[<-I];exact(Below.setCell n.o (p:=⟨w2.heap.size,6,none⟩) (by show w.heap.size<=w2.heap.size;omega) _)
   have nO:v6.heap.size<=W6.heap.size:=by rw[<-I];simp[World.setCell]
   have cu:=ai ((Apd.setCell B.o (a:=⟨w2.heap.size,6,none⟩) (by show w2.heap.size<_;omega) (.string (ofL t))));rw[I]at cu;clear j c l n B;have Q:=ai (l7 (w.heap.size+1) s3 W6 bn.o m3.o);rw[H7.o]at Q;simp only at Q;go_wp2_with fail;refine Q.o.mono ?_;rintro e v7 ⟨rfl,hr,hg⟩;have j:=ai hr;have c:=ai (hg.bk bg.o (by show ¬w2.heap.size=w.heap.size+1;omega));have l:=ai (hg.bk bz.o (by show ¬w.heap.size=w.heap.size+1;omega));have n:U6 w v7:=U.o.trans (hg.below (by have:=U.o.size;omega) (fun q hq e=>by omega));have nU:=hg.size;have B:=ai (cu.o.gb hg (by omega));clear c0 c1 c2 c3 c4 c5 c6 c7 c8;clear hr hg Q U bz bg bn I;obtain⟨c0,c1,c2,c3,c4,c5,c6,c7,c8⟩:=c.o.nine;have f7:=c.o.free 7;obtain⟨W7,J⟩:=NX9 ((v7.setCell ⟨w2.heap.size,7,none⟩ (.int .i64 (k4:Nat))))
   have cO:Hid (Bk W7 w2.heap.size 109 #[.int .i64 3,.string ⟨#[]⟩,.slice none 0 0,.int .u64 d1,.int .u64 d2,.slice A5 L.length E,.string (ofL t),.int .i64 (k4:Nat),.string ⟨#[]⟩]):=by rw[<-J];have:=(c.o.set 7 (.int .i64 (k4:Nat)));show Bk _ _ _ _;simpa using this
   have dn:Hid (Rds W7 (w.heap.size+1) s4):=by rw[<-J];exact(Bk.far j.o (p:=⟨w2.heap.size,7,none⟩) (by show w.heap.size+1≠w2.heap.size;omega) _)
   have dN:Hid (Bk W7 w.heap.size 109 zrC):=by rw[<-J];exact(Bk.far l.o (p:=⟨w2.heap.size,7,none⟩) (by show w.heap.size≠w2.heap.size;omega) _)
   have V:U6 w W7:=by rw[<-J];exact(Below.setCell n.o (p:=⟨w2.heap.size,7,none⟩) (by show w.heap.size<=w2.heap.size;omega) _)
   have oO:v7.heap.size<=W7.heap.size:=by rw[<-J];simp[World.setCell]
   have ed:=ai ((Apd.setCell B.o (a:=⟨w2.heap.size,7,none⟩) (by show w2.heap.size<_;omega) (.int .i64 (k4:Nat))));rw[J]at ed;clear j c l n B;have R:=ai (lZ (w.heap.size+1) s4 W7 dn.o m4.o);rw[H8.o]at R;simp only at R;go_wp2_with fail;refine R.o.mono ?_;rintro e v8 ⟨rfl,hr,hg⟩;have j:=ai hr;have c:=ai (hg.bk cO.o (by show ¬w2.heap.size=w.heap.size+1;omega));have l:=ai (hg.bk dN.o (by show ¬w.heap.size=w.heap.size+1;omega));have n:U6 w v8:=V.o.trans (hg.below (by have:=V.o.size;omega) (fun q hq e=>by omega));have oU:=hg.size;have B:=ai (ed.o.gb hg (by omega));clear c0 c1 c2 c3 c4 c5 c6 c7 c8;clear hr hg R V dN cO dn J;obtain⟨c0,c1,c2,c3,c4,c5,c6,c7,c8⟩:=c.o.nine;have f8:=c.o.free 8;obtain⟨W8,G⟩:=NX9 ((v8.setCell ⟨w2.heap.size,8,none⟩ (.string (ofL t5))))
   have fA:Hid (Bk W8 w2.heap.size 109 #[.int .i64 3,.string ⟨#[]⟩,.slice none 0 0,.int .u64 d1,.int .u64 d2,.slice A5 L.length E,.string (ofL t),.int .i64 (k4:Nat),.string (ofL t5)]):=by rw[<-G];have:=(c.o.set 8 (.string (ofL t5)));show Bk _ _ _ _;simpa using this
   have ku:Hid (Rds W8 (w.heap.size+1) s5):=by rw[<-G];exact(Bk.far j.o (p:=⟨w2.heap.size,8,none⟩) (by show w.heap.size+1≠w2.heap.size;omega) _)
   have g:Hid (Bk W8 w.heap.size 109 zrC):=by rw[<-G];exact(Bk.far l.o (p:=⟨w2.heap.size,8,none⟩) (by show w.heap.size≠w2.heap.size;omega) _)
   have A:U6 w W8:=by rw[<-G];exact(Below.setCell n.o (p:=⟨w2.heap.size,8,none⟩) (by show w.heap.size<=w2.heap.size;omega) _)
   have qc:v8.heap.size<=W8.heap.size:=by rw[<-G];simp[World.setCell]
   have fO:=ai ((Apd.setCell B.o (a:=⟨w2.heap.size,8,none⟩) (by show w2.heap.size<_;omega) (.string (ofL t5))));rw[G]at fO;clear j c l n B;have X:=i;have fU:=HQ;have C:Hid (ObM W8 W8.heap.size ⟨3,⟨#[]⟩,[],(d1,d2),L,ofL t,(k4:Nat),ofL t5⟩ ⟨none,0,0,A5,L.length,E⟩):=⟨Sl.nil _ _ _ _,fO.o.sl,Nat.le_refl _,ZX _,gu,iU⟩
   have F:Hid (Bk W8 w2.heap.size 109 (obC ⟨3,⟨#[]⟩,[],(d1,d2),L,ofL t,(k4:Nat),ofL t5⟩ ⟨none,0,0,A5,L.length,E⟩)):=fA.o;have Y:w2.heap.size<W8.heap.size:=fA.o.lt
   go_upto_region 15 with fail
   try rw[G]
   clear G c0 c1 c2 c3 c4 c5 c6 c7 c8 f8;obtain⟨bs,bad⟩:=s5;simp only at HQ i;obtain⟨q0,q1,_,_⟩:=Bk.two (show Bk W8 (w.heap.size+1) 229 #[.string (ofL bs),.bool bad] from ku.o);obtain⟨d0,d1,d2,d3,d4,d5,d6,d7,d8⟩:=g.o.nine;obtain⟨f0,f1,f2,f3,f4,f5,f6,f7,f8⟩:=fr9 g.o;cases bad with
   | true =>
     go_wp2_with fail;refine ZW (fC Tryz.results81 rfl (fD g.o _ _ _ _ _ _ _ _ _) rfl) rfl ⟨rfl,fB A.o aj _ _ _ _ _ _ _ _ _⟩
   | false =>
     by_cases hbs:bs= []
     . subst hbs
       have D:Hid (¬OkF _):=HQ.o.resolve_left (by simp) |>.resolve_left (by simp);have y:=ai (pF _ _ W8.heap.size W8 C.o aj (i.o rfl) D.o);simp only[obV,obC]at y F;obtain⟨k0,k1,k2,k3,k4,k5,k6,k7,k8⟩:=F.o.nine;have q0':W8.cell? ⟨w.heap.size+1,0,none⟩=some (.string ⟨#[]⟩):=q0;clear q0;go_wp2_with fail;refine y.o.mono ?_;rintro e w8 ⟨⟨x,rfl,hx⟩,hb8⟩;have hxb: (x != 0)=true:=by simpa using hx
       have g:=ai (g.o.below hb8 g.o.lt);have A:U6 w w8:=A.o.trans (hb8.mono A.o.size);clear k0 k1 k2 k3 k4 k5 k6 k7 k8 q0' q1 d0 d1 d2 d3 d4 d5 d6 d7 d8 f0 f1 f2 f3 f4 f5 f6 f7 f8 hb8 y hx;obtain⟨d0,d1,d2,d3,d4,d5,d6,d7,d8⟩:=g.o.nine;obtain⟨f0,f1,f2,f3,f4,f5,f6,f7,f8⟩:=fr9 g.o;go_wp2_with fail;refine ZW (fC Tryz.results81 rfl (fD g.o _ _ _ _ _ _ _ _ _) rfl) rfl ⟨rfl,fB A.o aj _ _ _ _ _ _ _ _ _⟩
     . have hs1: ((ofL bs).toList == ([]:List UInt8))=false:=by
         rw[pU];exact decide_eq_false fun h=>hbs (by have:=congrArg toL h;rw[dw]at this;exact this)
       clear hbs;go_wp2_with fail;refine ZW (fC Tryz.results81 rfl (fD g.o _ _ _ _ _ _ _ _ _) rfl) rfl ⟨rfl,fB A.o aj _ _ _ _ _ _ _ _ _⟩
 . have HE:Hid (qO b= (⟨(k:Nat),⟨#[]⟩,[],zD,[],⟨#[]⟩,0,⟨#[]⟩⟩,st)):=by
     show _=_;unfold qO;rw[HX.o];simp only;rw[if_neg (by omega),if_neg (by omega),if_neg (by omega)]
   rw[HE.o]at HQ i;simp only at HQ i;have k1: (((k:Nat):Int) == 1)=false:=by rw[beq_eq_false_iff_ne];omega
   have k2: (((k:Nat):Int) == 2)=false:=by rw[beq_eq_false_iff_ne];omega
   have k3: (((k:Nat):Int) == 3)=false:=by rw[beq_eq_false_iff_ne];omega
   have k4: (((k:Nat):Int) == 4)=false:=by rw[beq_eq_false_iff_ne];omega
   have HR4:=HR3;have f:=HZ3;have HB4:=HB3;have M:w2.heap.size<W3.heap.size:=u.o.lt;have z:Hid (Bk W3 w2.heap.size 109 (obC ⟨(k:Nat),⟨#[]⟩,[],zD,[],⟨#[]⟩,0,⟨#[]⟩⟩ ⟨none,0,0,none,0,0⟩)):=u.o;have C:Hid (ObM W3 W3.heap.size ⟨(k:Nat),⟨#[]⟩,[],zD,[],⟨#[]⟩,0,⟨#[]⟩⟩ ⟨none,0,0,none,0,0⟩):=⟨Sl.nil _ _ _ _,Sl.nil _ _ _ _,Nat.le_refl _,ZX _,Nat.le_refl _,ZX _⟩
   go_upto_region 15 with fail
   rw[HW3.o];obtain⟨W4,d⟩:=NX9 W3
   rw[d]at HR4 f HB4 z C M ⊢;obtain⟨q4,hq4⟩:=NX9 st
   rw[hq4]at HR4 HQ i;clear d c0 k1 k2 k3 k4 HR3 HZ3 HB3 u HE HST hq4;obtain⟨bs,bad⟩:=q4;simp only at HQ i;obtain⟨q0,q1,_,_⟩:=Bk.two (show Bk W4 (w.heap.size+1) 229 #[.string (ofL bs),.bool bad] from HR4.o);obtain⟨d0,d1,d2,d3,d4,d5,d6,d7,d8⟩:=f.o.nine;obtain⟨f0,f1,f2,f3,f4,f5,f6,f7,f8⟩:=fr9 f.o;cases bad with
   | true =>
     go_wp2_with fail;refine ZW (fC Tryz.results81 rfl (fD f.o _ _ _ _ _ _ _ _ _) rfl) rfl ⟨rfl,fB HB4.o aj _ _ _ _ _ _ _ _ _⟩
   | false =>
     by_cases hbs:bs= []
     . subst hbs
       have D:Hid (¬OkF _):=HQ.o.resolve_left (by simp) |>.resolve_left (by simp);have y:=ai (pF _ _ W4.heap.size W4 C.o aj (i.o rfl) D.o);simp only[obV,obC,zD]at y z;obtain⟨k0,k1,k2,k3,k4,k5,k6,k7,k8⟩:=z.o.nine;have q0':W4.cell? ⟨w.heap.size+1,0,none⟩=some (.string ⟨#[]⟩):=q0;clear q0;go_wp2_with fail;refine y.o.mono ?_;rintro e w8 ⟨⟨x,rfl,hx⟩,hb8⟩;have hxb: (x != 0)=true:=by simpa using hx
       have g:=ai (f.o.below hb8 f.o.lt);have A:U6 w w8:=HB4.o.trans (hb8.mono HB4.o.size);clear k0 k1 k2 k3 k4 k5 k6 k7 k8 q0' q1 d0 d1 d2 d3 d4 d5 d6 d7 d8 f0 f1 f2 f3 f4 f5 f6 f7 f8 hb8 y hx;obtain⟨d0,d1,d2,d3,d4,d5,d6,d7,d8⟩:=g.o.nine;obtain⟨f0,f1,f2,f3,f4,f5,f6,f7,f8⟩:=fr9 g.o;go_wp2_with fail;refine ZW (fC Tryz.results81 rfl (fD g.o _ _ _ _ _ _ _ _ _) rfl) rfl ⟨rfl,fB A.o aj _ _ _ _ _ _ _ _ _⟩
     . have hs1: ((ofL bs).toList == ([]:List UInt8))=false:=by
         rw[pU];exact decide_eq_false fun h=>hbs (by have:=congrArg toL h;rw[dw]at this;exact this)
       clear hbs;go_wp2_with fail;refine ZW (fC Tryz.results81 rfl (fD f.o _ _ _ _ _ _ _ _ _) rfl) rfl ⟨rfl,fB HB4.o aj _ _ _ _ _ _ _ _ _⟩
