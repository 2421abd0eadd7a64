/-
  Lemmas of the card.
-/
import Derived.Test.YtknefelegjlgnaaGreatDoorDCDu14
set_option maxRecDepth 100000
set_option maxHeartbeats 32000000
namespace Go.Proofs.YtknefelegjlgnaaGreatDoor
open Go.RowKit
section
open Go.Maps
def ReE(p:List Itm)(rs:List Dig)(w:MQ)(e:Ending)(w':MQ):Prop :=
 ∃l m A1 c1 A2 c2,e= .returned (.tuple #[.slice A1 l.length c1,.slice A2 m.length c2])/\qB p rs l m/\Sl w' w'.heap.size 2 A1 l.length (flat dgC l)/\l.length<=42000000/\ (∀d∈l,WfD d)/\Below w.heap.size w w'
theorem JZ:fH zD:=jo jR
theorem En{o:Ob}(h:OkO o):o.ents.length<=200:=by
 cases h.f with
 | blob _ e _ _=>rw[e];simp
 | tree _ _ _ e=>exact e.few
 | commit _ _ e _=>rw[e];simp
theorem ui{w w':MQ}{B size n:Nat}{A:OA}{xs:List MS}{row:Option Nat}(h:Sl w B size A n xs)(hg:w.grownBy w' row)(hB:B<=w.heap.size)(hd:0<n->∀g,bkO A=some g->row≠some g):Sl w' B size A n xs:=by
 refine⟨h.1,fun h0=>?_⟩;obtain⟨b',off,rfl,hb',hc⟩:=h.2 h0;exact⟨b',off,rfl,hb',fun j u hu=>(World.cell?_of_block (hg.block b' (by omega) (fun e=>hd h0 b' rfl e.symm))).trans (hc j u hu)⟩
theorem vo{w:MQ}{base n c mb N:Nat}{A:OA}{xs:List MS}{met:Dig->Bool}(h:w.ownsRow base 50 2 (.slice A n c) n xs)(hs:Sd w mb N met):∀g,bkO A=some g->g≠mb:=by
 intro g hg e;subst e;rcases h.2 with ⟨hv,_⟩ | ⟨g',cap,cur,hv,_,h2,_⟩
 . simp at hv;rw[hv.1]at hg;cases hg
 . simp at hv
   rw[hv.1]at hg;have:g'=g:=Option.some.inj hg;subst this;obtain⟨D,⟨es,clock,h3,_⟩,_⟩:=hs;rw[h3]at h2;cases h2
theorem Iw{p:List Itm}{rs:List Dig}(hp:PlOk p)(hn:p.length<=200000)(hr:rs.length<=1000): (reU p rs).length<=42000000:=by
 unfold reU;rw[ae];have h:=xK (n:=209) (l:=p) (f:=fun i=>bQ (nJ i.2)) fun i hi=>by
  obtain⟨o,ho,e⟩:=hp.1 i hi;rw[e,oW ho];exact yQ ho
 have:=Nat.mul_le_mul_right 209 hn;omega
theorem xM(p:List Itm)(pA:OA)(pn pc:Nat)(rs:List Dig)(hA:OA)(hn hc:Nat)(B:Nat)(w:MQ)
  (h0:Sl w B 3 pA pn (flat itC p)) (h1:Sl w B 2 hA hn (flat dgC rs)) (hB:B<=w.heap.size) (hpo:PlOk p) (hpn:pn<=200000) (hh:∀d∈rs,WfD d) (hhn:hn<=1000) :
  Calls Tryz.prog 18 #[.slice pA pn pc,.slice hA hn hc] w (ReE p rs w):=by
 have HPO:=ah hpo;have HH:=ah hh;have HP:=ah h0;have HR:=ah h1;have HPL:=ah (h0.len bN (by omega));have HRL:=ah (h1.len fG (by omega));have HUL:Hid ((reU p rs).length<=42000000):=Iw hpo (by rw[HPL.out];omega) (by rw[HRL.out];omega);obtain⟨i0,hi,hz0,hz1,hz2⟩:=info_parts jv;have Hi:=ah hi;have Hz0:=ah hz0;have Hz1:=ah hz1;have Hz2:=ah hz2;have hmm:=@run_makeMap Tryz.prog;obtain⟨W1,hput,hS1,hg1⟩:=(Sd.made w).put jU Tryz.underlying105 (by unfold maxLen;omega) JZ (.bool true);have hput2: (Instr.mapUpdate 105 (.map (some w.heap.size)) (.agg #[.int .u64 0,.int .u64 0]) (.bool true)).run Tryz.prog (w.alloc (.map #[] 0))= .ok () W1:=hput;have HS1:Hid (Sd W1 w.heap.size 1 (eO (fun _=>false) zD)):=by
  show Gm _ _ _ _ _ _ _ (sv _);rw[<-BX];exact hS1
 have HB1:Hid (Below w.heap.size w W1):=((af w.heap.size w).alloc ai _).grown hg1 (by simp) (fun g e=>by cases e;exact Nat.le_refl _);have HC:=ah (FD hA hn hc W1.heap.size rs W1 ((h1.below HB1.out hB).more (by have:=HB1.out.size;omega)) ai (by omega));unfold CK at HC;clear hpo hh h0 h1 hi hz0 hz1 hz2 hput hS1 hg1
 go_enter Tryz.func18,Tryz.ntmps18
 go_wp2_with fail;refine HC.out.mono ?_;rintro e w2 ⟨A3,c3,rfl,ho3,hb2⟩;have HO3:=ah (jX ho3 HB1.out.size);have HS2:=ah (HS1.out.below hb2 HS1.out.lt);have HB2:Hid (Below w.heap.size w w2):=HB1.out.trans (hb2.mono HB1.out.size);have z2:w.heap.size<w2.heap.size:=HS2.out.lt;clear ho3 hb2 HC hmm hput2 HS1 HB1;go_wp2_with fail
 go_loopg [6,7,9] 200000000000 (fun gk v6 v7 v9 wr=>∃(met:Dig->Bool)(N n1 n2 n3:Nat)(rl rm op:List Dig)(A1 A2 A3:OA)(c1 c2 c3:Nat),v6= .slice A1 n1 c1/\v7= .slice A2 n2 c2/\v9= .slice A3 n3 c3/\Hid (ReI p rs met rl rm op)/\Hid (Sd wr w.heap.size N met)/\Hid (Rw3 wr w.heap.size 50 A1 n1 c1 A2 n2 c2 A3 n3 c3 rl rm op)/\Hid (Below w.heap.size w wr)/\Hid (rl.length=n1/\rm.length=n2/\op.length=n3)/\Hid (nD (reU p rs) met*1000+n3<=gk)/\gk<=200000000000/\N+gk<=400000000000)
 case atStart =>
  exact⟨_,1,0,0,hn,[],[],rs,none,none,A3,0,0,c3,rfl,rfl,rfl,ReI.start p rs,HS2.out,⟨⟨rfl,.inl ⟨rfl,rfl⟩⟩,⟨rfl,.inl ⟨rfl,rfl⟩⟩,HO3.out,(fun g h=>by cases h),(fun g h=>by cases h),(fun g _ h=>by cases h)⟩,HB2.out,⟨rfl,rfl,HRL.out⟩,by have:=IY (reU p rs) (eO (fun _=>false) zD);have:=HUL.out;show _<=_;omega,Nat.le_refl _,by omega⟩
 case round =>
  obtain⟨met,N,n1,n2,n3,rl,rm,op,A1,A2,A3,c1,c2,c3,rfl,rfl,rfl,hI,hS,hRw,hBw,hlens,hU,hgk,hNk⟩:=hrel;have HI:=ah hI.out;have HS:=ah hS.out;have HRw:=ah hRw.out;have HBw:=ah hBw.out;have HLN:=ah hlens.out;have HU:=ah hU.out;have hl1:n1<=42000000:=by
   rw[<-HLN.out.1];exact Z0 (pz HI.out.nl fun x hx=>uP HPO.out (HI.out.l x hx).2.1) HUL.out
  have hl2:n2<=42000000:=by
   rw[<-HLN.out.2.1];exact Z0 (pz HI.out.nm fun x hx=>uP HPO.out (HI.out.m x hx).2.1) HUL.out
  have hl3:n3<=200000000000:=by have:=HU.out;omega
  have zr:w.heap.size<=wr.heap.size:=HBw.out.size;have hms:w.heap.size<wr.heap.size:=HS.out.lt;clear hI hS hRw hBw hlens hU HS2 HB2 HO3;by_cases h30:n3=0
  . subst h30
    have hop:op= []:=List.eq_nil_of_length_eq_zero HLN.out.2.2;subst hop;obtain⟨wo,hwo⟩:∃wo,wo=wr:=⟨_,rfl⟩
    subst hwo;have HSA:=ah (xz w.heap.size n1 c1 A1 rl wo HRw.out.a (by omega));go_wp2_with fail;refine HSA.out.mono ?_;rintro e w4 ⟨rfl,us,hpe,_,hou,hgu⟩;rw[gM]at hgu;have HOB:Hid (w4.ownsRow w.heap.size 50 2 (.slice A2 n2 c2) n2 (flat dgC rm)):=mh HRw.out.b hgu fun g h2 e=>HRw.out.ab g e h2;have HOA:=ah hou;have HPE:=ah hpe;have HB4:Hid (Below w.heap.size w w4):=HBw.out.grown hgu zr (fun g e=>(HRw.out.a.lt g (by rw[gM];exact e)).1);have HSB:=ah (xz w.heap.size n2 c2 A2 rm w4 HOB.out (by omega));clear hpe hou hgu HSA;go_wp2_with fail;refine HSB.out.mono ?_;rintro e w5 ⟨rfl,us2,hpe2,_,hou2,hgu2⟩;rw[gM]at hgu2;have HOA5:Hid (w5.ownsRow w.heap.size 50 2 (.slice A1 n1 c1) n1 (flat dgC us)):=mh HOA.out hgu2 fun g h2 e=>HRw.out.ab g h2 e;have HB5:Hid (Below w.heap.size w w5):=HB4.out.grown hgu2 HB4.out.size (fun g e=>(HOB.out.lt g (by rw[gM];exact e)).1);have HPE2:=ah hpe2;clear hpe2 hou2 hgu2 HSB;go_wp2_with fail;go_ret2
    have e1:us.length=n1:=by rw[HPE.out.length_eq];exact HLN.out.1
    have e2:us2.length=n2:=by rw[HPE2.out.length_eq];exact HLN.out.2.1
    refine⟨us,us2,A1,c1,A2,c2,by rw[e1,e2];rfl,HI.out.end_ HPO.out (fun d=>HPE.out.mem_iff) (fun d=>HPE2.out.mem_iff),by rw[e1];exact Sl.of_own HOA5.out,by rw[e1];exact hl1,fun d hd=>uH HPO.out HH.out (HI.out.l d (HPE.out.mem_iff.1 hd)).2.1,HB5.out⟩
  . obtain⟨m,rfl⟩:∃m,n3=m+1:=⟨n3 - 1,by omega⟩
    have hne:op≠ []:=by intro e;have:=HLN.out.2.2;rw[e]at this;simp at this
    obtain⟨l,d,hld⟩:∃l d,op=l++ [d]:=⟨_,_,(List.dropLast_concat_getLast hne).symm⟩
    subst hld;have hlm:l.length=m:=by have:=HLN.out.2.2;simpa using this
    obtain⟨bb,off,x,rfl,hbB,hx,y0,y1⟩:=(Sl.of_own HRw.out.c).dg (k:=m) (by omega);have hxd:x=d:=by rw[<-hlm,List.getElem?_append_right ai]at hx;simpa using hx.symm
    subst hxd;have hdU:x∈reU p rs:=uP HPO.out (HI.out.o x (List.mem_append_right _ (List.mem_singleton.2 rfl)));have HDU:=ah hdU;have HDW:Hid (WfD x):=uH HPO.out HH.out (HI.out.o x (List.mem_append_right _ (List.mem_singleton.2 rfl)));have hmc:=(Que.of_own HRw.out.c).le;have HRp:=ah (HRw.out.rot.rot.pop);have HLM:=ah hlm;obtain⟨d1,d2⟩:=x;simp only at y0 y1;obtain⟨W,hW⟩:∃W,wr.alloc (.cells #[.int .u64 d1,.int .u64 d2] 50)=W:=⟨_,rfl⟩
    have hbW:Below wr.heap.size wr W:=by rw[<-hW];exact(af _ wr).alloc ai _
    have HKW:Hid (Bk W wr.heap.size 50 #[.int .u64 d1,.int .u64 d2]):=by rw[<-hW];exact Bk.new wr _ _
    have HSW:=ah (HS.out.below hbW hms);have HRW:=ah (HRp.out.upon hbW);have HBW:Hid (Below w.heap.size w W):=HBw.out.trans (hbW.mono zr);have hlk:=Sd.look (d:=(d1,d2)) HSW.out Tryz.underlying105 (jo HDW.out);have tk:=nS (P:=Tryz.prog) 47 i0 Tryz.underlying47 Hi.out (some ⟨bb,off,none⟩) (m+1) c3 m (by omega);have hw1:IntKind.i64.wrap (((m+1:Nat):Int) - 1)= (m:Int):=by rw[uC (by omega) (by omega)];omega
    have hj0: (0:Int)< ((m+1:Nat):Int):=by omega
    have hj1:¬(m:Int)<0:=by omega
    have hj2: (m:Int)< ((m+1:Nat):Int):=by omega
    obtain⟨r0,r1,_,_⟩:=HKW.out.two;rw[<-hW]at r0 r1 hlk;have HWa:=ah hW;simp only at hlk;clear hx hne hlm hdU hW hbW HRw h30 HRp;cases hmd:met (d1,d2) with
    | true =>
      rw[hmd]at hlk;have HIN:=ah (HI.out.skip hmd);clear hmd;go_wp2_with fail;rw[HWa.out]
      go_roundg (gk - 1)
      case rel=>exact⟨met,N,n1,n2,m,rl,rm,l,A1,A2,_,c1,c2,c3,rfl,rfl,rfl,HIN.out,HSW.out,HRW.out.rot,HBW.out,⟨HLN.out.1,HLN.out.2.1,HLM.out⟩,by have:=HU.out;show _<=_;omega,by omega,by omega⟩
      case measure=>have:=HU.out;omega
    | false =>
      rw[hmd]at hlk;have HMF:=ah hmd;have HUM:=ah (Fz (U:=reU p rs) (met:=met) HDU.out hmd);clear hmd
      go_wp2_with (at_mapUpdate;refine aM ?_)
      rw[HWa.out]
      go_wp2_with (at_mapUpdate;refine aM ?_)
      refine aF ?_;refine wI rfl _ _ _ 105 rfl Tryz.underlying105 w.heap.size N met rfl HSW.out (by unfold maxLen;omega) (d1,d2) (jo HDW.out) rfl rfl ?_;intro w3 hS3 hg3;have HS3:=ah hS3;have HR3:=ah (HRW.out.grown hg3 fun cs e=>by obtain⟨D,⟨es,clock,h3,_⟩,_⟩:=HSW.out;rw[h3]at e;cases e);have HB3:Hid (Below w.heap.size w w3):=HBW.out.grown hg3 HBW.out.size (fun g e=>by cases e;exact Nat.le_refl _);have hne9:wr.heap.size≠w.heap.size:=by omega
      have HK3:=ah (HKW.out.grown hg3 (fun e=>hne9 (Option.some.inj e)));have hs3:wr.heap.size<w3.heap.size:=HK3.out.lt;clear hS3 hg3 r0 r1 hlk tk hw1 HWa HSW HRW HBW HKW hj0 hj1 hj2 y0 y1;have HG:=ah (um pA pn pc B p (d1,d2) w3 (HP.out.below HB3.out hB) (by omega) (by omega) HPO.out);unfold GeE at HG;simp only[aB]at HG;obtain⟨r0,r1,_,_⟩:=HK3.out.two;go_wp2_with fail;refine HG.out.mono ?_;rintro e w4 ⟨hq,hb4⟩;have HS4:=ah (HS3.out.below hb4 HS3.out.lt);have HR4:=ah (HR3.out.upon hb4);have HB4:Hid (Below w.heap.size w w4):=HB3.out.trans (hb4.mono HB3.out.size);have HK4:=ah (HK3.out.below hb4 hs3);have z34:w3.heap.size<=w4.heap.size:=hb4.size;have HLT:Hid (∀g,bkO A1=some g->g<w3.heap.size):=fun g h=>(HR3.out.b.lt g (by rw[gM];exact h)).2;clear hb4 HG r0 r1 HS3 HR3 HB3 HK3;have hk4:wr.heap.size<w4.heap.size:=HK4.out.lt;rcases hq with ⟨o,s,hg,hok,rfl,hom,hno,hnp⟩ | ⟨hg,rfl⟩
      case inr =>
       have HIN:=ah (HI.out.miss HMF.out hg);clear hg;simp only[obV,obC,zOb,zOs,zD];obtain⟨W5,hW5⟩:∃W,w4.alloc (.cells #[.int .i64 0,.string ⟨#[]⟩,.slice none 0 0,.int .u64 0,.int .u64 0,.slice none 0 0,.string ⟨#[]⟩,.int .i64 0,.string ⟨#[]⟩] 109)=W:=⟨_,rfl⟩
       have hb5:Below w4.heap.size w4 W5:=by rw[<-hW5];exact(af _ w4).alloc ai _
       have e5:W5.heap.size=w4.heap.size+1:=by rw[<-hW5];simp
       have HK5:=ah (HK4.out.below hb5 hk4);have HNB:Hid (Bk (W5.alloc (.cells #[.int .u64 d1,.int .u64 d2] 50)) (w4.heap.size+1) 50 #[.int .u64 d1,.int .u64 d2]):=by
        have e:=Bk.new W5 50 #[.int .u64 d1,.int .u64 d2]
        rwa[e5]at e
       have hb6:Below w4.heap.size w4 (W5.alloc (.cells #[.int .u64 d1,.int .u64 d2] 50)):=hb5.alloc (by omega) _;have HR6:=ah (HR4.out.upon hb6);have HS6:=ah (HS4.out.below hb6 HS4.out.lt);have HB6:Hid (Below w.heap.size w (W5.alloc (.cells #[.int .u64 d1,.int .u64 d2] 50))):=HB4.out.trans (hb6.mono HB4.out.size);obtain⟨r0,r1,_,_⟩:=HK5.out.two;rw[<-hW5]at r0 r1;have HWa:=ah hW5;clear hW5 hb5 hb6 e5
       go_wp2_with (at_builtin;refine gq (.tmp 47) (.tmp 49) 47 rfl ?_)
       rw[HWa.out];refine aF ?_;refine qU (base:=w.heap.size) (size:=2) rfl (.tmp 47) (.tmp 49) 47 rfl 50 i0 _ 16 Tryz.underlying47 Hi.out Hz0.out Hz1.out Hz2.out rfl (by decide) A2 n2 c2 (flat dgC rm) rfl HR6.out.rot.rot.a _ _ 1 1 (flat dgC [(d1,d2)]) rfl (Sl.of_bk (n:=1) (size:=2) HNB.out rfl) (jm _) (by omega) (by unfold maxLen;omega) (by omega) HB6.out.size ?_;intro A6 c6 w6 ho6 hg6 _ _ hd6;rw[<-bu]at ho6;have HR7:=ah (HR6.out.rot.rot.app ho6 hg6 hd6);have HS7:=ah (HS6.out.kept hg6 fun e=>vo HR6.out.rot.rot.a HS6.out _ e.symm rfl);have HB7:Hid (Below w.heap.size w w6):=HB6.out.grown hg6 HB6.out.size (fun g e=>(HR6.out.rot.rot.a.lt g (by rw[gM];exact e)).1);clear ho6 hg6 hd6 r0 r1;go_wp2_with fail
       go_roundg (gk - 1)
       case rel=>exact⟨_,N+1,n1,n2+1,m,rl,rm++ [(d1,d2)],l,A1,A6,_,c1,c6,c3,rfl,rfl,rfl,HIN.out,HS7.out,HR7.out.rot.rot,HB7.out,⟨HLN.out.1,by rw[ae,HLN.out.2.1];rfl,HLM.out⟩,by have:=HU.out;have:=HUM.out;show _<=_;omega,by omega,by have:=HU.out;omega⟩
       case measure=>have:=HU.out;omega
      case inl =>
       have HRD:Hid (Rchd p rs (d1,d2)):=HI.out.o _ (List.mem_append_right _ (List.mem_singleton.2 rfl));have HJ0:=ah (HI.out.got HMF.out hg);have HG4:=ah hg;have HOK:=ah hok;obtain⟨W5,hW5⟩:∃W,w4.alloc (.cells (obC o s) 109)=W:=⟨_,rfl⟩
       have hb5:Below w4.heap.size w4 W5:=by rw[<-hW5];exact(af _ w4).alloc ai _
       have e5:W5.heap.size=w4.heap.size+1:=by rw[<-hW5];simp
       have HOB5:Hid (Bk W5 w4.heap.size 109 (obC o s)):=by rw[<-hW5];exact Bk.new w4 _ _
       have HK5:=ah (HK4.out.below hb5 hk4);obtain⟨W6,hW6⟩:∃W,W5.alloc (.cells #[.int .u64 d1,.int .u64 d2] 50)=W:=⟨_,rfl⟩
       have hb56:Below W5.heap.size W5 W6:=by rw[<-hW6];exact(af _ W5).alloc ai _
       have HNB:Hid (Bk W6 (w4.heap.size+1) 50 #[.int .u64 d1,.int .u64 d2]):=by
        have e:=Bk.new W5 50 #[.int .u64 d1,.int .u64 d2];rw[e5,hW6]at e;exact e
       have hb6:Below w4.heap.size w4 W6:=hb5.trans (hb56.mono hb5.size);have HR6:=ah (HR4.out.upon hb6);have HS6:=ah (HS4.out.below hb6 HS4.out.lt);have HB6:Hid (Below w.heap.size w W6):=HB4.out.trans (hb6.mono HB4.out.size);have HOB6:=ah (HOB5.out.below hb56 HOB5.out.lt);have HOM6:=ah (hom.below hb6 ai);have z46:w4.heap.size+1<W6.heap.size:=HNB.out.lt;have hrow:∀g,bkO A1=some g->g<w3.heap.size:=HLT.out;have HNOW:Hid (∀g,bkO A1=some g-> (0<s.en->∀g',bkO s.eA=some g'->some g≠some g')/\ (0<s.pn->∀g',bkO s.pA=some g'->some g≠some g')/\g≠w4.heap.size):=fun g hgb=>by
        have h3:=hrow g hgb;refine⟨fun h0 g' hg' e=>?_,fun h0 g' hg' e=>?_,by omega⟩
        . cases e
          cases hA:s.eA with
          | none=>rw[hA]at hg';cases hg'
          | some a=>rw[hA]at hg';have:=(hno a h0 hA).1;have e2:a.block=g:=Option.some.inj hg';omega
        . cases e
          cases hA:s.pA with
          | none=>rw[hA]at hg';cases hg'
          | some a=>rw[hA]at hg';have:=(hnp a h0 hA).1;have e2:a.block=g:=Option.some.inj hg';omega
       obtain⟨r0,r1,_,_⟩:=HK5.out.two;rw[<-hW5]at r0 r1;have HWa:=ah hW5;have HWb:=ah hW6;have HENL:Hid (s.en<=200/\s.pn<=8):=⟨by rw[<-hom.elen];exact En hok,by rw[<-hom.plen];exact(yT hok).1⟩
       clear hW5 hW6 hb5 hb6 hb56 e5 hrow hno hnp hom hg hok;unfold obV;unfold obC at HWa HOB5 HOB6 r0 r1 ⊢
       go_wp2_with (at_builtin;refine gq (.tmp 51) (.tmp 53) 47 rfl ?_)
       rw[HWa.out,HWb.out];refine aF ?_;refine qU (base:=w.heap.size) (size:=2) rfl (.tmp 51) (.tmp 53) 47 rfl 50 i0 _ 16 Tryz.underlying47 Hi.out Hz0.out Hz1.out Hz2.out rfl (by decide) A1 n1 c1 (flat dgC rl) rfl HR6.out.rot.a _ _ 1 1 (flat dgC [(d1,d2)]) rfl (Sl.of_bk (n:=1) (size:=2) HNB.out rfl) (jm _) (by omega) (by unfold maxLen;omega) (by omega) HB6.out.size ?_;intro A6 c6 w7 ho6 hg6 _ _ hd6;rw[<-bu]at ho6;have HR7:=ah (HR6.out.rot.app ho6 hg6 hd6);have HS7:=ah (HS6.out.kept hg6 fun e=>vo HR6.out.rot.a HS6.out _ e.symm rfl);have HB7:Hid (Below w.heap.size w w7):=HB6.out.grown hg6 HB6.out.size (fun g e=>(HR6.out.rot.a.lt g (by rw[gM];exact e)).1);have z7:W6.heap.size<=w7.heap.size:=hg6.size;have HOB7:Hid (Bk w7 w4.heap.size 109 #[.int .i64 o.kind,.string o.data,.slice s.eA s.en s.ec,.int .u64 o.tree.1,.int .u64 o.tree.2,.slice s.pA s.pn s.pc,.string o.auth,.int .i64 o.time,.string o.msg]):=HOB6.out.grown hg6 (fun e=>(HNOW.out _ e.symm).2.2 rfl);have HOM7:Hid (ObM w7 w4.heap.size o s):=⟨ui HOM6.out.e hg6 (by omega) (fun h0 g hgb e=>(HNOW.out g e).1 h0 g hgb rfl),ui HOM6.out.p hg6 (by omega) (fun h0 g hgb e=>(HNOW.out g e).2.1 h0 g hgb rfl),HOM6.out.ele,HOM6.out.emx,HOM6.out.ple,HOM6.out.pmx⟩
       clear ho6 hg6 hd6 r0 r1 HNB HR6 HS6 HB6 HOB6 HOM6 HK5 HNOW;have HLK:=ah (Gj o s w4.heap.size w7 HOM7.out (by omega) HOK.out (by have:=HENL.out.1;omega) (by have:=HENL.out.2;omega));unfold obV obC LkE at HLK;obtain⟨q0,q1,q2,q3,q4,q5,q6,q7,q8⟩:=HOB7.out.nine;go_wp2_with fail;refine HLK.out.mono ?_;rintro e w8 ⟨A9,n9,c9,hn9,rfl,ha9,hb8⟩;have HR8:=ah (HR7.out.upon hb8);have HS8:=ah (HS7.out.below hb8 HS7.out.lt);have HB8:Hid (Below w.heap.size w w8):=HB7.out.trans (hb8.mono HB7.out.size);have HL9:=ah ha9.sl;have HD9:Hid (0<n9->∀g,bkO A9=some g->bkO (some (⟨bb,off,none⟩:Addr))≠some g):=fun h0 g hgb e=>by
        have h3:=(HR7.out.c.lt g (by rw[gM];exact e)).2;rcases ha9 with h4 | ⟨h4,_⟩
        . have:=(h4.lt g (by rw[gM];exact hgb)).1;omega
        . omega
       have HN9:=ah hn9;have h209:n9<=209:=by rw[hn9];exact yQ HOK.out
       have hm3:m<=200000000000:=by omega
       obtain⟨wo,hwo⟩:∃wo,wo=wr:=⟨_,rfl⟩
       subst hwo;clear hn9 ha9 hb8 HLK q0 q1 q2 q3 q4 q5 q6 q7 q8 HOB7 HOM7 HR7 HS7 HB7 HR4 HS4 HB4 HK4 HOB5;obtain⟨A3',hA3⟩:∃A,(some ⟨bb,off,none⟩:OA)=A:=⟨_,rfl⟩
       rw[hA3]at HR8 HD9;rw[hA3];clear hA3;go_wp2_with fail
       go_loopw[9,58] (fun v9 i wi=>∃(j n c:Nat)(A:OA)(op':List Dig),v9= .slice A n c/\i= .int .i64 j/\j<=n9/\n<=m+j/\Hid (op'.length=n)/\Hid (ReJ p rs (eO met (d1,d2)) (rl++ [(d1,d2)]) rm op' (d1,d2) ((bQ o).take j))/\Hid (Sd wi w.heap.size (N+1) (eO met (d1,d2)))/\Hid (Rw3 wi w.heap.size 50 A6 (n1+1) c6 A2 n2 c2 A n c (rl++ [(d1,d2)]) rm op')/\Hid (Below w.heap.size w wi)/\Hid (Sl wi w8.heap.size 2 A9 n9 (flat dgC (bQ o)))/\Hid (0<n9->∀g,bkO A9=some g->bkO A≠some g)/\w8.heap.size<=wi.heap.size) (fun _ i _=>n9 - (intOf i).toNat)
       case atStart=>exact⟨0,m,c3,_,l,rfl,rfl,ZZ _,Nat.le_refl _,HLM.out,HJ0.out,HS8.out,HR8.out,HB8.out,HL9.out,HD9.out,Nat.le_refl _⟩
       case round =>
        obtain⟨j,n,c,A,op',rfl,rfl,hj,hnj,hol,hJ,hS,hRw,hBw,hSl,hDj,hz8⟩:=hrel;have HOL:=ah hol.out;have HJ:=ah hJ.out;have HSi:=ah hS.out;have HRi:=ah hRw.out;have HBi:=ah hBw.out;have HLi:=ah hSl.out;have HDi:=ah hDj.out;clear hol hJ hS hRw hBw hSl hDj HS8 HR8 HB8 HL9 HD9 HJ0;have hmi:w.heap.size<wr.heap.size:=HSi.out.lt;by_cases hlt:j<n9
        . obtain⟨b9,o9,x,rfl,hb9,hx,y0,y1⟩:=HLi.out.dg hlt
          have hlz: (j:Int)< (n9:Int):=by omega
          have HTK:=ah (aS hx);have HRX:Hid (Rchd p rs x):= .link HRD.out HG4.out (Z7 hx);have HXW:Hid (WfD x):=uH HPO.out HH.out HRX.out;obtain⟨x1,x2⟩:=x;simp only at y0 y1;obtain⟨W,hW⟩:∃W,wr.alloc (.cells #[.int .u64 x1,.int .u64 x2] 50)=W:=⟨_,rfl⟩
          have hbW:Below wr.heap.size wr W:=by rw[<-hW];exact(af _ wr).alloc ai _
          have eW:W.heap.size=wr.heap.size+1:=by rw[<-hW];simp
          have HKW:Hid (Bk W wr.heap.size 50 #[.int .u64 x1,.int .u64 x2]):=by rw[<-hW];exact Bk.new wr _ _
          have HSW:=ah (HSi.out.below hbW hmi);have HRW:=ah (HRi.out.upon hbW);have HBW:Hid (Below w.heap.size w W):=HBi.out.trans (hbW.mono (by omega));have HLW:=ah (HLi.out.below hbW hz8);have hlk:=Sd.look (d:=(x1,x2)) HSW.out Tryz.underlying105 (jo HXW.out);obtain⟨r0,r1,_,_⟩:=HKW.out.two;rw[<-hW]at r0 r1 hlk;simp only at hlk;have hzW:w8.heap.size<=W.heap.size:=by omega
          have HWa:=ah hW;cases hsm:eO met (d1,d2) (x1,x2) with
          | true =>
            rw[hsm]at hlk;have HJN:=ah (HJ.out.pass hsm);rw[<-HTK.out]at HJN;clear hW hbW eW hx hsm;go_wp2_with fail;rw[HWa.out];go_roundw
            case rel=>exact⟨j+1,n,c,A,op',rfl,by go_num,hlt,by omega,HOL.out,HJN.out,HSW.out,HRW.out,HBW.out,HLW.out,HDi.out,hzW⟩
            case measure=>simp[intOf];omega
          | false =>
            rw[hsm]at hlk;have HJN:=ah (HJ.out.push HRX.out);rw[<-HTK.out]at HJN;have HNB:Hid (Bk (W.alloc (.cells #[.int .u64 x1,.int .u64 x2] 50)) (wr.heap.size+1) 50 #[.int .u64 x1,.int .u64 x2]):=by
             have e:=Bk.new W 50 #[.int .u64 x1,.int .u64 x2]
             rwa[eW]at e
            have hbx:Below W.heap.size W (W.alloc (.cells #[.int .u64 x1,.int .u64 x2] 50)):=(af _ W).alloc ai _;have HRX2:=ah (HRW.out.upon hbx);have HSX2:=ah (HSW.out.below hbx HSW.out.lt);have HBX2:Hid (Below w.heap.size w (W.alloc (.cells #[.int .u64 x1,.int .u64 x2] 50))):=HBW.out.trans (hbx.mono HBW.out.size);have HLX2:=ah (HLW.out.below hbx hzW);have hzx:w8.heap.size<= (W.alloc (.cells #[.int .u64 x1,.int .u64 x2] 50)).heap.size:=Z0 hzW hbx.size;have HZX:=ah hzx;clear hW hbW eW hx hsm hbx hzx
            go_wp2_with (at_builtin;refine gq (.tmp 66) (.tmp 68) 47 rfl ?_)
            rw[HWa.out];refine aF ?_;refine qU (base:=w.heap.size) (size:=2) rfl (.tmp 66) (.tmp 68) 47 rfl 50 i0 _ 16 Tryz.underlying47 Hi.out Hz0.out Hz1.out Hz2.out rfl (by decide) A n c (flat dgC op') rfl HRX2.out.rot.rot.a _ _ 1 1 (flat dgC [(x1,x2)]) rfl (Sl.of_bk (n:=1) (size:=2) HNB.out rfl) (jm _) (by omega) (by unfold maxLen;omega) (by omega) HBX2.out.size ?_;intro A7 c7 w9 ho9 hg9 _ _ hd9;rw[<-bu]at ho9;have HR9:=ah (HRX2.out.rot.rot.app ho9 hg9 hd9);have HS9:=ah (HSX2.out.kept hg9 fun e=>vo HRX2.out.rot.rot.a HSX2.out _ e.symm rfl);have HB9:Hid (Below w.heap.size w w9):=HBX2.out.grown hg9 HBX2.out.size (fun g e=>(HRX2.out.rot.rot.a.lt g (by rw[gM];exact e)).1);have HL9:Hid (Sl w9 w8.heap.size 2 (some ⟨b9,o9,none⟩) n9 (flat dgC (bQ o))):=ui HLX2.out hg9 HZX.out (fun h0 g hgb=>HDi.out h0 g hgb);have HD9:Hid (0<n9->∀g,bkO (some (⟨b9,o9,none⟩:Addr))=some g->bkO A7≠some g):=fun h0 g hgb e=>by
             rcases hd9 g e with h | h
             . exact HDi.out h0 g hgb h
             . have e2:b9=g:=Option.some.inj hgb
               have:=HZX.out;omega
            have HZ9:Hid (w8.heap.size<=w9.heap.size):=Z0 HZX.out hg9.size;clear ho9 hg9 hd9 r0 r1;go_wp2_with fail;go_roundw
            case rel=>exact⟨j+1,n+1,c7,A7,op'++ [(x1,x2)],rfl,by go_num,hlt,by omega,by show _=_;rw[ae,HOL.out];rfl,HJN.out,HS9.out,HR9.out.rot,HB9.out,HL9.out,HD9.out,HZ9.out⟩
            case measure=>simp[intOf];omega
        . have hlz:¬(j:Int)< (n9:Int):=by omega
          have HT:Hid ((bQ o).take j=bQ o):=ZW (by rw[<-HN9.out];omega);rw[HT.out]at HJ;have HIN:=ah (HJ.out.fin HG4.out);go_wp2_with fail
          go_roundg (gk - 1)
          case rel=>exact⟨_,N+1,n1+1,n2,n,rl++ [(d1,d2)],rm,op',A6,A2,A,c6,c2,c,rfl,rfl,rfl,HIN.out,HSi.out,HRi.out,HBi.out,⟨by rw[ae,HLN.out.1];rfl,HLN.out.2.1,HOL.out⟩,by have:=HU.out;have:=HUM.out;show _<=_;omega,by omega,by have:=HU.out;omega⟩
          case measure=>have:=HU.out;omega
end
theorem GM{p:List Itm}{ds l m:List Dig}(h:qB p ds l m):m= []↔¬Miss p ds:=by
 constructor
 . rintro rfl ⟨x,h1,h2,h3⟩
   cases (h.miss x).2 ⟨h1,h2,h3⟩
 . intro hn
   cases m with
   | nil=>rfl
   | cons x m=>exact absurd ⟨x,(h.miss x).1 (by simp)⟩ hn
theorem wP(p:List Itm)(A:OA)(n c B:Nat)(d:Dig)(w:MQ)(h0:Sl w B 3 A n (flat itC p))(hB:B<=w.heap.size)(hn:n<=200000)(hp:PlOk p)(hd:WfD d) :
  Calls Tryz.prog 40 #[.slice A n c,aB d] w fun e w'=>e= .returned (.int .i64 (dm p d))/\Below w.heap.size w w':=by
 obtain⟨d1,d2⟩:=d;obtain⟨W,hW⟩:∃W,w.alloc (.cells #[.int .u64 d1,.int .u64 d2] 50)=W:=⟨_,rfl⟩
 have HB0:Hid (Below w.heap.size w W):=by rw[<-hW];exact(af _ w).alloc ai _
 have HK:Hid (Bk W w.heap.size 50 #[.int .u64 d1,.int .u64 d2]):=by rw[<-hW];exact Bk.new w _ _
 have zW:w.heap.size<W.heap.size:=HK.out.lt;have HP:Hid (Sl W B 3 A n (flat itC p)):=h0.below HB0.out hB;have HG:=ah (um A n c B p (d1,d2) W HP.out (by omega) (by omega) hp);unfold GeE at HG;have HPO:=ah hp;have HD:=ah hd;have HW:=ah hW;simp only[aB]at HG ⊢;obtain⟨cv,hcv⟩:∃cv,dm p (d1,d2)=cv:=⟨_,rfl⟩
 rw[hcv];have HCV:=ah hcv;clear hcv;obtain⟨k0,k1,_,_⟩:=HK.out.two;rw[<-hW]at k0 k1;clear hp hd h0 hW
 go_enter Tryz.func40,Tryz.ntmps40
 go_wp2_with fail;rw[HW.out];refine HG.out.mono ?_;rintro e w1 ⟨hq,hb1⟩;have HK1:=ah (HK.out.below hb1 zW);have HB1:Hid (Below w.heap.size w w1):=HB0.out.trans (hb1.mono HB0.out.size);have HP1:=ah (HP.out.below hb1 (by omega));have z1:w.heap.size<w1.heap.size:=HK1.out.lt;clear hb1 HG k0 k1;rcases hq with ⟨o,s,hg,hok,rfl,hom,_,_⟩ | ⟨hg,rfl⟩
 case inr =>
  have HC:Hid (dm p (d1,d2)=8):=by show _=_;unfold dm;rw[hg]
  rw[HCV.out]at HC;clear hg;simp only[obV,obC,zOb,zOs,zD]
  go_wp2
  go_ret
  exact⟨by rw[HC.out];rfl,HB1.out.alloc HB1.out.size _⟩
 case inl =>
  have HGH:=ah hg;simp only[obV,obC];obtain⟨W2,hW2⟩:∃W2,w1.alloc (.cells #[.int .i64 o.kind,.string o.data,.slice s.eA s.en s.ec,.int .u64 o.tree.1,.int .u64 o.tree.2,.slice s.pA s.pn s.pc,.string o.auth,.int .i64 o.time,.string o.msg] 109)=W2:=⟨_,rfl⟩
  have hb2:Below w1.heap.size w1 W2:=by rw[<-hW2];exact(af _ w1).alloc ai _
  have HO2:Hid (Bk W2 w1.heap.size 109 #[.int .i64 o.kind,.string o.data,.slice s.eA s.en s.ec,.int .u64 o.tree.1,.int .u64 o.tree.2,.slice s.pA s.pn s.pc,.string o.auth,.int .i64 o.time,.string o.msg]):=by rw[<-hW2];exact Bk.new w1 _ _
  have HK2:=ah (HK1.out.below hb2 z1);have HB2:Hid (Below w.heap.size w W2):=HB1.out.trans (hb2.mono HB1.out.size);have HP2:=ah (HP1.out.below hb2 (by omega));have z2:W2.heap.size=w1.heap.size+1:=by rw[<-hW2];simp
  obtain⟨c0,_⟩:=HO2.out.nine;obtain⟨k0,k1,_,_⟩:=HK2.out.two;rw[<-hW2]at c0 k0 k1;have HW2:=ah hW2;have hne:w.heap.size≠w1.heap.size:=by omega
  obtain⟨W3,hW3⟩:∃W3,W2.alloc (.cells #[.int .u64 d1,.int .u64 d2] 50)=W3:=⟨_,rfl⟩
  have hb3:Below w1.heap.size w1 W3:=by rw[<-hW3];exact hb2.alloc (by omega) _
  have HNB:Hid (Bk W3 (w1.heap.size+1) 50 #[.int .u64 d1,.int .u64 d2]):=by
   have e:=Bk.new W2 50 #[.int .u64 d1,.int .u64 d2]
   rwa[z2,hW3]at e
  have HR:=ah (xM p A n c [(d1,d2)] (some ⟨w1.heap.size+1,0,none⟩) 1 1 W3.heap.size W3 ((HP2.out.below (by rw[<-hW3];exact(af _ W2).alloc ai _) (by omega)).more (by have:=hb3.size;omega)) (Sl.of_bk (n:=1) (size:=2) HNB.out rfl) ai HPO.out hn (fun d hd=>by rw[List.mem_singleton.1 hd];exact HD.out) (by omega));unfold ReE at HR;have HB3:Hid (Below w.heap.size w W3):=HB1.out.trans (hb3.mono HB1.out.size);have HW3:=ah hW3;clear hW3;clear hb2 hb3 hW2 hg hok hom;by_cases h3:o.kind=3
  . have H3:=ah h3
    have h3b: (o.kind != 3)=false:=by simp[h3]
    clear h3;go_wp2_with fail;rw[HW2.out,HW3.out];refine HR.out.mono ?_;rintro e w4 ⟨l,m,A1,c1,A2,c2,rfl,hr,_,_,_,hb4⟩;have HB4:Hid (Below w.heap.size w w4):=HB3.out.trans (hb4.mono HB3.out.size);have hm:=GM hr;clear hr hb4 HR;by_cases hmi:m= []
    . have hx:=hm.1 hmi
      have HC:Hid (cv=0):=by show _=_;rw[<-HCV.out];unfold dm;rw[HGH.out];simp[H3.out,hx]
      subst hmi;clear hm hx
      go_wp2
      go_ret
      exact⟨by rw[HC.out];rfl,HB4.out⟩
    . have hx:Miss p [(d1,d2)]:=Classical.byContradiction fun hx=>hmi (hm.2 hx)
      have HC:Hid (cv=8):=by show _=_;rw[<-HCV.out];unfold dm;rw[HGH.out];simp[H3.out,hx]
      have hl:0<m.length:=List.length_pos_iff.2 hmi;have hli: (0:Int)< (m.length:Int):=by omega
      clear hm hx hmi hl
      go_wp2
      go_ret
      exact⟨by rw[HC.out];rfl,HB4.out⟩
  . have HC:Hid (cv=9):=by show _=_;rw[<-HCV.out];unfold dm;rw[HGH.out];simp[h3]
    have h3b: (o.kind != 3)=true:=by simp[h3]
    clear h3
    go_wp2
    rw[HW2.out];go_ret
    exact⟨by rw[HC.out];rfl,HB2.out⟩
section
open Go.RowKit Go.Shelf
attribute [local go_sem] Oper.semAt_some
theorem rX{w:MQ}{a:Array MS}{r:Nat}{x:Bool}(ha:a[2]?.getD undef= .pointer (some ⟨r,0,none⟩))(h:w.heap[r]? =some (.cells #[.bool x] 4 (0,0))) :
  (results Tryz.f122 a).run Tryz.prog w= .ok (.bool x) w:=by
 have hc:=cell_of_one h;simp[results,Tryz.results122,ha,go_sem,hc]
theorem wQ(s:MR)(w:MQ)(hs:s.size<=maxLen) :
  Calls Tryz.prog 122 #[.string s] w fun e w'=>e= .returned (.bool (bL s))/\Below w.heap.size w w':=by
 refine(callsIn_wide (n:=6)).1 ?_;unfold maxLen at hs;have HL:=ah (gK s);have hf65:Fence.wide.fn 194:=trivial;have hf66:Fence.wide.fn 195:=trivial;refine callsIn_of_wp_marks Tryz.func122 rfl trivial ?_ rfl;simp only[Tryz.ntmps122,List.size_toArray,Z5,List.length_nil,Nat.reduceAdd,Nat.reduceSub,Array.replicate_succ,Array.replicate_zero,List.push_toArray,List.append_toArray,List.nil_append,List.cons_append];by_cases c1:100< (s.size:Int)
 . have hv:Hid (bL s=false):=by
     show _=_;have:=HL.out;unfold bL bl;rw[decide_eq_false (by omega),Bool.false_and]
   gi_wp2_with fail
   refine⟨_,rX rfl (World.alloc_heap_new w _),?_⟩;exact⟨aY hv.out.symm,(af _ _).alloc ai _⟩
 have c1': (s.size:Int)<=100:=by omega
 have HN:Hid (bL s= (aZ (bl s)).all gP):=by
  show _=_;have:=HL.out;unfold bL;rw[decide_eq_true (by unfold bl;omega),Bool.true_and]
 gi_wp2_with (gi_at_call 194;refine(callsIn_wide.2 (wV _ _)).mono ?_;rintro e w' ⟨rfl,rfl⟩)
 obtain⟨W0,hW0⟩:∃W0,(((w.alloc (.cells #[.bool false] 4)).alloc (.cells #[.string s] 9)).alloc (.cells #[.string ⟨#[47]⟩] 9)).alloc (.cells #[.int .i64 0] 3)=W0:=⟨_,rfl⟩
 have hz:W0.heap.size=w.heap.size+4:=by rw[<-hW0];simp
 have g0:W0.heap[w.heap.size]? =some (.cells #[.bool false] 4 (0,0)):=by
  rw[<-hW0];exact(Below.heap_alloc _ _ _ (by simp;omega)).trans ((Below.heap_alloc _ _ _ (by simp;omega)).trans ((Below.heap_alloc _ _ _ (by simp)).trans (World.alloc_heap_new w _)))
 have g1:W0.heap[w.heap.size+1]? =some (.cells #[.string s] 9 (0,0)):=by
  rw[<-hW0];refine(Below.heap_alloc _ _ _ (by simp)).trans ((Below.heap_alloc _ _ _ (by simp)).trans ?_);have:=World.alloc_heap_new (w.alloc (.cells #[.bool false] 4)) (.cells #[.string s] 9);rwa[Z9]at this
 have g2:W0.heap[w.heap.size+1+1]? =some (.cells #[.string ⟨#[47]⟩] 9 (0,0)):=by
  rw[<-hW0];refine(Below.heap_alloc _ _ _ (by simp)).trans ?_;have:=World.alloc_heap_new ((w.alloc (.cells #[.bool false] 4)).alloc (.cells #[.string s] 9)) (.cells #[.string ⟨#[47]⟩] 9);rwa[Z9,Z9]at this
 have g3:W0.heap[w.heap.size+1+2]? =some (.cells #[.int .i64 0] 3 (0,0)):=by
  rw[<-hW0];have:=World.alloc_heap_new (((w.alloc (.cells #[.bool false] 4)).alloc (.cells #[.string s] 9)).alloc (.cells #[.string ⟨#[47]⟩] 9)) (.cells #[.int .i64 0] 3);rwa[Z9,Z9,Z9]at this
 have hb0:Below w.heap.size w W0:=by
  rw[<-hW0];exact((((af _ w).alloc ai _).alloc (by simp) _).alloc (by simp;omega) _).alloc (by simp;omega) _
 rw[hW0];refine rE (F:=Fence.wide) (n:=6) rfl (by omega) (gf:=297) (lb:=#[.pointer (some ⟨w.heap.size+1+1,0,none⟩),.pointer (some ⟨w.heap.size+1,0,none⟩),.pointer (some ⟨w.heap.size+1+2,0,none⟩)]) rfl trivial (enters_of Tryz.func297 (by kernel_rfl) rfl)
  (ym 5 (w.heap.size+1) (by omega) s W0 (by omega) (by omega) g1 g2 g3) BC (fun W l o hl=>yA (m:=w.heap.size+4) (by omega) W l o (by omega)) (xP) (af _ _) (fun _=>rfl)
  (fun pre W=>W.heap[w.heap.size]? =some (.cells #[.bool false] 4 (0,0))/\Hid (∀x∈pre,bI x=true)/\Below w.heap.size w W/\w.heap.size+4<=W.heap.size)
  (fun c pre W=>c= .ret/\W.heap[w.heap.size]? =some (.cells #[.bool false] 4 (0,0))/\Hid (∃x∈pre,bI x=false)/\Below w.heap.size w W)
  ?hI ?hIx ?hIS ⟨g0,by simp[Hid],hb0,by omega⟩ ?a1 ?assign ?body ?done ?stop
 case assign =>
  intro l x W K hK;have HKK:=ah hK;clear hK
  gi_wp2
  exact HKK.out
 case hI =>
  rintro pre A B row ⟨h1,h2,h3,h4⟩ hg hr;refine⟨oq h1 hg (fun e=>?_),h2,h3.grown hg h3.size (fun k e=>?_),Z0 h4 hg.size⟩
  . have:=(hr _ e.symm).1;omega
  . have:=(hr _ e).1;omega
 case hIx =>
  rintro c pre A B row ⟨h0,h1,h2,h3⟩ hg hr;refine⟨h0,oq h1 hg (fun e=>?_),h2,h3.grown hg h3.size (fun k e=>?_)⟩
  . have:=(hr _ e.symm).1;omega
  . have:=(hr _ e).1;omega
 case hIS =>
  rintro pre A B ⟨h1,h2,h3,h4⟩ ⟨v,rfl⟩;exact⟨(Z8 _ _ _ _ (by simp)).trans h1,h2,h3.setCell (p:=⟨w.heap.size+1,0,none⟩) (by simp) _,by simpa [World.setCell] using h4⟩
 case body =>
  rintro l pre x W ⟨r,hr⟩ ⟨h1,h2,h3,h4⟩;have hxs:x.size<=maxLen:=by
   have hm:bl x∈aZ (bl s):=by rw[<-hr];simp
   have h5:=l7 (bl s) _ hm;have h6:=gK x;have h7:=HL.out;unfold bl at h5;unfold maxLen;omega
  have c0:=cell_of_one h1;have f0:=free_of_one h1;have H1:=ah h1;have H3:=ah h3;clear h1 h3 g0 g1 g2 g3 hb0 hW0 hr;cases hv:bI x with
  | true =>
    have HV:=ah hv;clear hv
    gi_wp2_with (gi_at_call 195;refine(CallsIn.inRound l (callsIn_wide.2 (iA x _ hxs))).mono ?_;rintro e w' ⟨rfl,rfl⟩;rw[HV.out])
    refine⟨⟨Nat.le_refl _,fun k o hk _=>hk⟩,fun k h5 h6=>rfl,H1.out,?_,H3.out,h4⟩;intro y hy;rcases List.mem_append.1 hy with h | h
    . exact h2.out y h
    . simp at h;subst h;exact HV.out
  | false =>
    have HV:=ah hv;clear hv
    gi_wp2_with (gi_at_call 195;refine(CallsIn.inRound l (callsIn_wide.2 (iA x _ hxs))).mono ?_;rintro e w' ⟨rfl,rfl⟩;rw[HV.out])
    exact⟨KeepsOthers.setCell _ _ _,rfl,one_setCell H1.out,⟨x,by simp,HV.out⟩,H3.out.setCell (p:=⟨w.heap.size,0,none⟩) ai _⟩
 case done =>
  rintro D xs W hD hS ⟨h1,h2,h3,h4⟩ hK;have c0:=cell_of_one h1;have f0:=free_of_one h1;have H1:=ah h1;have H3:=ah h3;have HK:=ah hK;have HS:=ah hS;clear h1 h3 hK hS
  gi_wp2
  have hK2:=(KeepsOthers.setCell W ⟨w.heap.size,0,none⟩ (.bool true)).same D _ HK.out rfl;refine⟨by simp,.inl ⟨_,_,rfl,run_takeDeferred hK2,?_⟩⟩;refine⟨_,rX rfl ((World.putObj_heap_other (by omega)).trans (one_setCell H1.out)),aY ?_,?_⟩
  . rw[HN.out]
    symm
    rw[List.all_eq_true];intro y hy;have hy':y∈xs.map bl:=by rw[HS.out];exact hy
    obtain⟨x,hx,rfl⟩:=List.mem_map.1 hy';exact h2.out x hx
  . exact(H3.out.setCell (p:=⟨w.heap.size,0,none⟩) ai _).grown (grownBy_putObj' _ _ _) ((H3.out.setCell (p:=⟨w.heap.size,0,none⟩) ai _).size) (fun k e=>by cases e;omega)
 case stop =>
  rintro D c pre W hD hS ⟨rfl,h1,h2,h3⟩ hK;have H1:=ah h1;have H3:=ah h3;have HK:=ah hK;have HS:=ah hS;clear h1 h3 hK hS
  gi_wp2
  refine⟨by simp,.inl ⟨_,_,rfl,run_takeDeferred HK.out,?_⟩⟩;refine⟨_,rX rfl ((World.putObj_heap_other (by omega)).trans H1.out),aY ?_,?_⟩
  . rw[HN.out]
    symm
    rw[List.all_eq_false];obtain⟨x,hx,hxv⟩:=h2.out;obtain⟨r,hr⟩:=HS.out;refine⟨bl x,?_,by simpa [bI] using hxv⟩;rw[<-hr];exact List.mem_append.2 (.inl (List.mem_map.2 ⟨x,hx,rfl⟩))
  . exact H3.out.grown (grownBy_putObj' _ _ _) H3.out.size (fun k e=>by cases e;omega)
end
section
open Go.Maps
@[go_sem] theorem ME : Tryz.prog.eqGuardType Tryz.prog.depth 50 = false := by kernel_rfl
@[go_sem] theorem MF : Tryz.prog.eqGuardType Tryz.prog.depth 85 = false := by kernel_rfl
@[go_sem] theorem MH : Tryz.prog.eqGuardType Tryz.prog.depth 52 = false := by kernel_rfl
theorem vU(dd:Nat)(a b c d:Int)(w:MQ): (Op.equalIn (dd+2) 50 (.agg #[.int .u64 a,.int .u64 b]) (.agg #[.int .u64 c,.int .u64 d])).run Tryz.prog w= .ok (a == c && b == d) w:=by
 have u3:=Tryz.underlying48;have a3:=Tryz.isAgg48;have z3:=Tryz.sizeOf48;rw[Op.equalIn];simp only[Sem.run_bind,run_underlying Tryz.underlying50,Result.andThen_ok];simp only[Std.Legacy.Range.forIn_eq_forIn_range',Std.Legacy.Range.size,Nat.sub_zero,Nat.add_sub_cancel,Nat.div_one,List.range'_succ,List.range'_zero,List.forIn_cons,List.forIn_nil]
 go_simp
 by_cases h1:a=c <;> by_cases h2:b=d <;> simp[h1,h2]
@[go_sem high] theorem MM (a b c d : Int) (w : MQ) : (Op.equalIn 10000 50 (.agg #[.int .u64 a, .int .u64 b]) (.agg #[.int .u64 c, .int .u64 d])).run Tryz.prog w = .ok (a == c && b == d) w := vU 9998 a b c d w
theorem KO:Tryz.prog.stoodInHeld 52=false:=by kernel_rfl
theorem KH:Tryz.prog.stoodInHeld 85=false:=by kernel_rfl
@[go_sem high] theorem MI (s t : MR) (a b c d : Int) (w : MQ) : (Op.equalIn 10000 52 (.agg #[.string s, .int .u64 a, .int .u64 b]) (.agg #[.string t, .int .u64 c, .int .u64 d])).run Tryz.prog w = .ok (s.toList == t.toList && (a == c && b == d)) w := by
 have hS:Tryz.prog.underlying 52=some (.struct (Tryz.prog.fieldsOf 52)):=by kernel_rfl
 have a28:=Tryz.isAgg50;have z28:=Tryz.sizeOf50;have a9:=Tryz.isAgg9;have u9:=Tryz.underlying9;have e28:=fun w=>vU 9997 a b c d w;rw[show(10000:Nat)=9999+1 from rfl,run_equalIn_agg w 9999 52 _ _ hS KO];simp only[Program.fieldsOf,Tryz.underlying52]
 go_simp
 by_cases h1:s.toList=t.toList <;> by_cases h2:a=c <;> by_cases h3:b=d <;> simp[h1,h2,h3]
@[go_sem high] theorem ML (s t : MR) (a b c d a' b' c' d' : Int) (w : MQ) :
  (Op.equalIn 10000 85 (.agg #[.string s,.int .u64 a,.int .u64 b,.int .u64 c,.int .u64 d]) (.agg #[.string t,.int .u64 a',.int .u64 b',.int .u64 c',.int .u64 d'])).run Tryz.prog w= .ok (s.toList == t.toList && (a == a' && b == b') && (c == c' && d == d')) w:=by
 have hS:Tryz.prog.underlying 85=some (.struct (Tryz.prog.fieldsOf 85)):=by kernel_rfl
 have a28:=Tryz.isAgg50;have z28:=Tryz.sizeOf50;have a9:=Tryz.isAgg9;have u9:=Tryz.underlying9;have e28:=fun a b c d w=>vU 9997 a b c d w;rw[show(10000:Nat)=9999+1 from rfl,run_equalIn_agg w 9999 85 _ _ hS KH];simp only[Program.fieldsOf,Tryz.underlying85]
 go_simp
 by_cases h1:s.toList=t.toList <;> by_cases h2:a=a' <;> by_cases h3:b=b' <;> by_cases h4:c=c' <;> by_cases h5:d=d' <;> simp[h1,h2,h3,h4,h5]
theorem rJ{d e:Dig}(h:d=e): (d.1 == e.1 && d.2 == e.2)=true:=by simp[h]
theorem rq{d e:Dig}(h:d≠e): (d.1 == e.1 && d.2 == e.2)=false:=by
 rw[Bool.eq_false_iff];intro hh;simp at hh;exact h (Prod.ext hh.1 hh.2)
theorem Md{W w1:MQ}{B:Nat}(hb:Below B W w1):∀b o,b<B->w1.cell? ⟨b,o,none⟩=W.cell? ⟨b,o,none⟩:=fun b o h=>hb.cell (p:=⟨b,o,none⟩) h
theorem qX(u:Upd)(w:MQ)(hs:u.1.size<=maxLen) :
  Calls Tryz.prog 152 #[Dc u] w fun e w'=>e= .returned (.int .i64 (df u))/\Below w.heap.size w w':=by
 obtain⟨s,⟨a,b⟩,⟨c,d⟩⟩:=u;have hP:Hid (df (s,(a,b),(c,d))=if bL s then(if(a,b)= (c,d) then 1 else 0) else 6):=rfl;generalize df (s,(a,b),(c,d))=pe at *;show Calls Tryz.prog 152 #[.agg #[.string s,.int .u64 a,.int .u64 b,.int .u64 c,.int .u64 d]] w _;have HS:=ah hs;clear hs
 go_enter Tryz.func152,Tryz.ntmps152
 go_wp2_with fail;refine(wQ s _ HS.out).mono ?_;rintro e w1 ⟨rfl,hb⟩;have hc:=Md hb;have H1:=hc w.heap.size 1 (by simp);have H2:=hc w.heap.size 2 (by simp);have H3:=hc w.heap.size 3 (by simp);have H4:=hc w.heap.size 4 (by simp);have HB:=ah (((af _ _).alloc ai _).trans (hb.mono (by simp)));clear hc hb;simp at H1 H2 H3 H4;cases hn:bL s with
 | false =>
   go_wp2
   go_ret
   exact⟨uN (by rw[hP.out,hn];rfl),HB.out⟩
 | true =>
   by_cases e: (a,b)= ((c,d):Dig)
   . have t1:=rJ e
     simp only at t1;have HE:=ah e;clear e
     go_wp2
     go_ret
     exact⟨uN (by rw[hP.out,hn,if_pos HE.out];rfl),HB.out⟩
   . have t1:=rq e
     simp only at t1;have HE:=ah e;clear e
     go_wp2
     go_ret
     exact⟨uN (by rw[hP.out,hn,if_neg HE.out];rfl),HB.out⟩
def nA(us:List Upd):Bool:=us.any (fun u=>decide (150<u.1.size)) || decide (12<us.length)
theorem Sl.upd{w:MQ}{B n k:Nat}{A:OA}{us:List Upd}(h:Sl w B 5 A n (flat upC us))(hk:k<n) :
  ∃b off u,A=some ⟨b,off,none⟩/\b<B/\us[k]? =some u/\w.cell? ⟨b,off+k*5,none⟩=some (.string u.1)/\w.cell? ⟨b,off+k*5+1,none⟩=some (.int .u64 u.2.1.1)
   /\w.cell? ⟨b,off+k*5+2,none⟩=some (.int .u64 u.2.1.2)/\w.cell? ⟨b,off+k*5+3,none⟩=some (.int .u64 u.2.2.1)/\w.cell? ⟨b,off+k*5+4,none⟩=some (.int .u64 u.2.2.2):=by
 obtain⟨b,off,u,rfl,hb,hu,hc⟩:=h.at_ eB (by omega) hk;exact⟨b,off,u,rfl,hb,hu,hc 0 _ rfl,hc 1 _ rfl,hc 2 _ rfl,hc 3 _ rfl,hc 4 _ rfl⟩
theorem Sl.ref{w:MQ}{B n k:Nat}{A:OA}{rs:List Rf}(h:Sl w B 3 A n (flat rfC rs))(hk:k<n) :
  ∃b off r,A=some ⟨b,off,none⟩/\b<B/\rs[k]? =some r/\w.cell? ⟨b,off+k*3,none⟩=some (.string r.1)/\w.cell? ⟨b,off+k*3+1,none⟩=some (.int .u64 r.2.1)
   /\w.cell? ⟨b,off+k*3+2,none⟩=some (.int .u64 r.2.2):=by
 obtain⟨b,off,u,rfl,hb,hu,hc⟩:=h.at_ gN (by omega) hk;exact⟨b,off,u,rfl,hb,hu,hc 0 _ rfl,hc 1 _ rfl,hc 2 _ rfl⟩
theorem EH(A:OA)(n c B:Nat)(us:List Upd)(w:MQ)(hS:Sl w B 5 A n (flat upC us))(hm:n<=maxLen) :
  Calls Tryz.prog 121 #[.slice A n c] w fun e w'=>e= .returned (.bool (nA us))/\w=w':=by
 unfold maxLen at hm;have HL:=ah (hS.len eB (by omega));have HS:=ah hS;clear hS;have hM:Hid (nA us= (us.any (fun u=>decide (150<u.1.size)) || decide (12<us.length))):=rfl;generalize nA us=mb at *
 go_enter Tryz.func121,Tryz.ntmps121
 go_wp2
 go_loop[3] (fun i=>∃k:Nat,k<=n/\i= .int .i64 k/\Hid ((us.take k).any (fun u=>decide (150<u.1.size))=false)) (fun i=>n - (intOf i).toNat)
 case atStart=>exact⟨0,ZZ _,rfl,by simp[Hid]⟩
 case round =>
  obtain⟨k,hk,rfl,hno⟩:=hrel;by_cases hlt:k<n
  . obtain⟨b,off,u,rfl,hb,hu,h0,_,_,_,_⟩:=HS.out.upd hlt
    have HU:=ah hu;clear hu;by_cases hbig:150<u.1.size
    . go_wp2
      go_ret
      refine⟨aY ?_,rfl⟩;rw[hM.out];have:us.any (fun u=>decide (150<u.1.size))=true:=List.any_eq_true.2 ⟨u,Z7 HU.out,by simpa using hbig⟩;rw[this];rfl
    . have hn:Hid ((us.take (k+1)).any (fun u=>decide (150<u.1.size))=false):=by
        show _=false;rw[aS HU.out,List.any_append,hno.out];simpa using hbig
      go_wp2
      go_round
      case rel=>exact⟨k+1,by omega,by go_num,hn⟩
      case measure=>simp[intOf];omega
  . have hall:Hid (us.any (fun u=>decide (150<u.1.size))=false):=by
      have:=hno.out
      rwa[ZW (by rw[HL.out];omega)]at this
    have hd:decide (12<n)=decide (12< (n:Int)):=by
     rw[decide_eq_decide];omega
    have HD:=ah hd;clear hd
    go_wp2
    go_ret
    refine⟨aY ?_,rfl⟩;rw[hM.out,hall.out,HL.out,HD.out];rfl
theorem DL(A0 A1:OA)(n0 c0 n1 c1 B:Nat)(rs qs:List Rf)(w:MQ)(h0:Sl w B 3 A0 n0 (flat rfC rs))(h1:Sl w B 3 A1 n1 (flat rfC qs))(m0:n0<=maxLen) :
  Calls Tryz.prog 56 #[.slice A0 n0 c0,.slice A1 n1 c1] w fun e w'=>e= .returned (.bool (decide (rs=qs)))/\∃k,w'=w.drewN k:=by
 unfold maxLen at m0;have HL0:=ah (h0.len gN (by omega));have HL1:=ah (h1.len gN (by omega));have H0:=ah h0;have H1:=ah h1;clear h0 h1;have hM:Hid (decide (rs=qs)=true↔rs=qs):=decide_eq_true_iff;generalize decide (rs=qs)=mb at *;by_cases hn:n0=n1
 . subst hn
   go_enter Tryz.func56,Tryz.ntmps56
   go_wp2
   go_loopw[5] (fun i wr=>∃k nq:Nat,k<=n0/\i= .int .i64 k/\wr=w.drewN nq/\Hid (rs.take k=qs.take k)) (fun i _=>n0 - (intOf i).toNat)
   case atStart=>exact⟨0,0,ZZ _,rfl,rfl,rfl⟩
   case round =>
    obtain⟨k,nq,hk,rfl,rfl,heq⟩:=hrel;by_cases hlt:k<n0
    . obtain⟨b0,o0,r,rfl,_,hr,x0,x1,x2⟩:=H0.out.ref hlt
      obtain⟨b1,o1,q,rfl,_,hq,y0,y1,y2⟩:=H1.out.ref hlt;have HR:=ah hr;have HQ:=ah hq;clear hr hq;have hlz: (k:Int)< (n0:Int):=by omega
      by_cases e:r=q
      . have t1: (r.1.toList == q.1.toList && (r.2.1 == q.2.1 && r.2.2 == q.2.2))=true:=by rw[e];simp
        have HE:=ah e;clear e;have hnx:Hid (rs.take (k+1)=qs.take (k+1)):=by
         show _=_;rw[aS HR.out,aS HQ.out,heq.out,HE.out]
        go_wp2
        go_quiet(fail)
        go_wp2
        go_roundw
        case rel=>exact⟨k+1,_,by omega,by go_num,rfl,hnx⟩
        case measure=>simp[intOf];omega
      . have t1: (r.1.toList == q.1.toList && (r.2.1 == q.2.1 && r.2.2 == q.2.2))=false:=by
          rw[Bool.eq_false_iff];intro hh;simp only[Bool.and_eq_true,beq_iff_eq,ByteArray.toList_eq]at hh;apply e
          exact Prod.ext (iP hh.1) (Prod.ext hh.2.1 hh.2.2)
        have HE:=ah e;clear e
        go_wp2
        go_quiet(fail)
        go_wp2
        go_ret
        refine⟨aY ?_,⟨_,World.drewN_drewN _ _ _⟩⟩
        symm
        rw[Bool.eq_false_iff];intro hh;have:=hM.out.1 hh;subst this;exact HE.out (Option.some.inj (HR.out.symm.trans HQ.out))
    . have hall:Hid (mb=true):=by
        have:=heq.out;rw[ZW (by rw[HL0.out];omega),ZW (by rw[HL1.out];omega)]at this;exact hM.out.2 this
      go_wp2
      go_ret
      exact⟨aY hall.out.symm,_,rfl⟩
 . have hne: ((n0:Int) != (n1:Int))=true:=by rw[bne_iff_ne];omega
   go_enter Tryz.func56,Tryz.ntmps56
   go_wp2
   go_ret
   refine⟨aY ?_,0,rfl⟩
   symm
   rw[Bool.eq_false_iff];intro hh;have:=hM.out.1 hh;subst this;exact hn (HL0.out.symm.trans HL1.out)
theorem DV(A0 A1:OA)(n0 c0 n1 c1 B:Nat)(rs qs:List Upd)(w:MQ)(h0:Sl w B 5 A0 n0 (flat upC rs))(h1:Sl w B 5 A1 n1 (flat upC qs))(m0:n0<=maxLen) :
  Calls Tryz.prog 57 #[.slice A0 n0 c0,.slice A1 n1 c1] w fun e w'=>e= .returned (.bool (decide (rs=qs)))/\∃k,w'=w.drewN k:=by
 unfold maxLen at m0;have HL0:=ah (h0.len eB (by omega));have HL1:=ah (h1.len eB (by omega));have H0:=ah h0;have H1:=ah h1;clear h0 h1;have hM:Hid (decide (rs=qs)=true↔rs=qs):=decide_eq_true_iff;generalize decide (rs=qs)=mb at *;by_cases hn:n0=n1
 . subst hn
   go_enter Tryz.func57,Tryz.ntmps57
   go_wp2
   go_loopw[5] (fun i wr=>∃k nq:Nat,k<=n0/\i= .int .i64 k/\wr=w.drewN nq/\Hid (rs.take k=qs.take k)) (fun i _=>n0 - (intOf i).toNat)
   case atStart=>exact⟨0,0,ZZ _,rfl,rfl,rfl⟩
   case round =>
    obtain⟨k,nq,hk,rfl,rfl,heq⟩:=hrel;by_cases hlt:k<n0
    . obtain⟨b0,o0,r,rfl,_,hr,x0,x1,x2,x3,x4⟩:=H0.out.upd hlt
      obtain⟨b1,o1,q,rfl,_,hq,y0,y1,y2,y3,y4⟩:=H1.out.upd hlt;have HR:=ah hr;have HQ:=ah hq;clear hr hq;have hlz: (k:Int)< (n0:Int):=by omega
      by_cases e:r=q
      . have t1: (r.1.toList == q.1.toList && (r.2.1.1 == q.2.1.1 && r.2.1.2 == q.2.1.2) && (r.2.2.1 == q.2.2.1 && r.2.2.2 == q.2.2.2))=true:=by rw[e];simp
        have HE:=ah e;clear e;have hnx:Hid (rs.take (k+1)=qs.take (k+1)):=by
         show _=_;rw[aS HR.out,aS HQ.out,heq.out,HE.out]
        go_wp2
        go_quiet(fail)
        go_wp2
        go_roundw
        case rel=>exact⟨k+1,_,by omega,by go_num,rfl,hnx⟩
        case measure=>simp[intOf];omega
      . have t1: (r.1.toList == q.1.toList && (r.2.1.1 == q.2.1.1 && r.2.1.2 == q.2.1.2) && (r.2.2.1 == q.2.2.1 && r.2.2.2 == q.2.2.2))=false:=by
          rw[Bool.eq_false_iff];intro hh;simp only[Bool.and_eq_true,beq_iff_eq,ByteArray.toList_eq]at hh;apply e
          exact Prod.ext (iP hh.1.1) (Prod.ext (Prod.ext hh.1.2.1 hh.1.2.2) (Prod.ext hh.2.1 hh.2.2))
        have HE:=ah e;clear e
        go_wp2
        go_quiet(fail)
        go_wp2
        go_ret
        refine⟨aY ?_,⟨_,World.drewN_drewN _ _ _⟩⟩
        symm
        rw[Bool.eq_false_iff];intro hh;have:=hM.out.1 hh;subst this;exact HE.out (Option.some.inj (HR.out.symm.trans HQ.out))
    . have hall:Hid (mb=true):=by
        have:=heq.out;rw[ZW (by rw[HL0.out];omega),ZW (by rw[HL1.out];omega)]at this;exact hM.out.2 this
      go_wp2
      go_ret
      exact⟨aY hall.out.symm,_,rfl⟩
 . have hne: ((n0:Int) != (n1:Int))=true:=by rw[bne_iff_ne];omega
   go_enter Tryz.func57,Tryz.ntmps57
   go_wp2
   go_ret
   refine⟨aY ?_,0,rfl⟩
   symm
   rw[Bool.eq_false_iff];intro hh;have:=hM.out.1 hh;subst this;exact hn (HL0.out.symm.trans HL1.out)
theorem lL{B:Nat}{a w:MQ}(h:Below B a w)(n:Nat):Below B a (w.drewN n):=⟨h.os,h.tape,h.output,h.size,h.block⟩
theorem EP(A0 A1 A2 A3:OA)(n0 c0 n1 c1 n2 c2 n3 c3 B:Nat)(rs qs:List Rf)(us vs:List Upd)(w:MQ)(h0:Sl w B 3 A0 n0 (flat rfC rs))(h1:Sl w B 5 A1 n1 (flat upC us))(h2:Sl w B 3 A2 n2 (flat rfC qs))(h3:Sl w B 5 A3 n3 (flat upC vs))(hB:B<=w.heap.size)(m0:n0<=maxLen)(m1:n1<=maxLen) :
  Calls Tryz.prog 19 #[.agg #[.slice A0 n0 c0,.slice A1 n1 c1],.agg #[.slice A2 n2 c2,.slice A3 n3 c3]] w fun e w'=>e= .returned (.bool (decide (rs=qs) && decide (us=vs)))/\Below w.heap.size w w':=by
 have hz:B<= (w.alloc (.cells #[.slice A0 n0 c0,.slice A1 n1 c1] 33)).heap.size:=by simp;omega
 have HB:=ah (((af w.heap.size w).alloc ai (.cells #[.slice A0 n0 c0,.slice A1 n1 c1] 33)).alloc (by simp) (.cells #[.slice A2 n2 c2,.slice A3 n3 c3] 33));have H0:=ah ((h0.alloc hB (.cells #[.slice A0 n0 c0,.slice A1 n1 c1] 33)).alloc hz (.cells #[.slice A2 n2 c2,.slice A3 n3 c3] 33));have H1:=ah ((h1.alloc hB (.cells #[.slice A0 n0 c0,.slice A1 n1 c1] 33)).alloc hz (.cells #[.slice A2 n2 c2,.slice A3 n3 c3] 33));have H2:=ah ((h2.alloc hB (.cells #[.slice A0 n0 c0,.slice A1 n1 c1] 33)).alloc hz (.cells #[.slice A2 n2 c2,.slice A3 n3 c3] 33));have H3:=ah ((h3.alloc hB (.cells #[.slice A0 n0 c0,.slice A1 n1 c1] 33)).alloc hz (.cells #[.slice A2 n2 c2,.slice A3 n3 c3] 33));have M0:=ah m0;have M1:=ah m1;clear h0 h1 h2 h3 m0 m1 hz
 go_enter Tryz.func19,Tryz.ntmps19
 go_wp2_with fail;refine(DL A0 A2 n0 c0 n2 c2 B rs qs _ H0.out H2.out M0.out).mono ?_;rintro e w1 ⟨rfl,k1,rfl⟩;cases hd:decide (rs=qs) with
 | false =>
   go_wp2_with fail;go_ret
   exact⟨aY (by rw[hd];rfl),lL HB.out _⟩
 | true =>
   go_wp2_with fail;refine(DV A1 A3 n1 c1 n3 c3 B us vs _ (H1.out.drewN _) (H3.out.drewN _) M1.out).mono ?_;rintro e w2 ⟨rfl,k2,rfl⟩;go_wp2_with fail;go_ret
   exact⟨aY (by rw[hd,Bool.true_and]),lL HB.out _⟩
end
section
open Go.Maps
theorem zL{w:MQ}{b n:Nat}{l:List Rf}(h:Rm w Tryz.prog 9 b n (gL l)){s:MR}(hs:s.size<=maxLen): (Instr.lookup 132 (.map (some b)) (.string s) false).run Tryz.prog w= .ok (aB (cZ l s)) w:=by
 rw[<-AU];exact h.look Tryz.underlying9 Tryz.underlying132 (Tryz.zeroValue50 w) hs
theorem iq{w w':MQ}(h:Below w.heap.size w w')(row:Option Nat):w.grownBy w' row:=⟨h.os,h.tape,h.output,h.size,fun k hk _=>h.block k hk⟩
def vC(b n:Nat)(r:List Rf×Int)(w:MQ)(e:Ending)(w':MQ):Prop :=
 e= .returned (.int .i64 r.2)/\Rm w' Tryz.prog 9 b n (gL r.1)/\w.grownBy w' (some b)
theorem yM(b n:Nat)(l:List Rf)(u:Upd)(w:MQ)(hown:Rm w Tryz.prog 9 b n (gL l))(hl:dY l)(hn:n<maxLen)(hs:u.1.size<=maxLen) :
  Calls Tryz.prog 85 #[.map (some b),Dc u] w (vC b (n+1) (stepG l u) w):=by
 obtain⟨s,⟨o0,o1⟩,⟨q0,q1⟩⟩:=u;show Calls Tryz.prog 85 #[.map (some b),.agg #[.string s,.int .u64 o0,.int .u64 o1,.int .u64 q0,.int .u64 q1]] w _;have HS:Hid (s.size<=maxLen):=hs;clear hs;have HN:=ah hn;have HL:=ah hl;have HO:=ah hown;have hblt:=hown.lt;clear hn hl hown;have HR:Hid (∀r,stepG l (s,(o0,o1),(q0,q1))=r->∀e w',vC b (n+1) r w e w'->vC b (n+1) (stepG l (s,(o0,o1),(q0,q1))) w e w'):=fun r h e w' hh=>by rw[h];exact hh
 go_enter Tryz.func85,Tryz.ntmps85
 go_wp2_with fail;refine(qX (s,(o0,o1),(q0,q1)) _ HS.out).mono ?_;rintro e w1 ⟨rfl,hb1⟩;have k1:Bk w1 w.heap.size 85 #[.string s,.int .u64 o0,.int .u64 o1,.int .u64 q0,.int .u64 q1]:=(Bk.new w 85 _).below hb1 (by simp);have HB1:Hid (Below w.heap.size w w1):=((af _ w).alloc ai _).trans (hb1.mono (by simp));clear hb1;have HO1:Hid (Rm w1 Tryz.prog 9 b n (gL l)):=HO.out.kept (iq HB1.out none) (by simp);have u0:=k1.cell 0;have u1:=k1.cell 1;have u2:=k1.cell 2;have u3:=k1.cell 3;have u4:=k1.cell 4;simp at u0 u1 u2 u3 u4;clear k1;by_cases hp:df (s,(o0,o1),(q0,q1))=0
 . have HP:=ah hp
   rw[HP.out];clear hp;have hlk:=zL HO1.out HS.out;obtain⟨⟨g0,g1⟩,hg⟩:∃g:Dig,cZ l s=g:=⟨_,rfl⟩
   rw[hg]at hlk;have HG:=ah hg;clear hg;simp only[aB]at hlk;by_cases heq: ((g0,g1):Dig)= (o0,o1)
   . have t1:=rJ heq
     simp only at t1;have herr:Hid (bD l (s,(o0,o1),(q0,q1))=0):=by
      show _=_;unfold bD;rw[if_neg (by rw[HP.out];simp),if_neg (by rw[show cZ l (s,(o0,o1),(q0,q1)).1=cZ l s from rfl,HG.out,heq];simp)]
     have hst:Hid (stepG l (s,(o0,o1),(q0,q1))= (bU l s (q0,q1),0)):=by
      show _=_;unfold stepG;rw[herr.out,if_neg (by simp)]
     clear heq;by_cases hz: ((q0,q1):Dig)= (0,0)
     . have t2:=rJ hz
       simp only at t2;have HZ:=ah hz;clear hz
       go_wp2_with (at_delete;refine Dx rfl _ _ 132 9 rfl 50 Tryz.underlying9 Tryz.underlying132 b n (gL l) rfl HO1.out s HS.out rfl ?_;intro w2 hown2 hturn2)
       rw[Lj s HL.out,<-HZ.out]at hown2;have HO2:=ah (hown2.more (Nat.le_succ n));have HT2:=ah hturn2;clear hown2 hturn2
       go_wp2
       go_ret
       exact HR.out _ hst.out _ _ ⟨rfl,HO2.out,(iq HB1.out (some b)).trans HT2.out⟩
     . have t2:=rq hz
       simp only at t2;have HZ:=ah hz;clear hz
       go_wp2_with (at_mapUpdate;refine lK rfl _ _ _ 132 rfl 9 50 Tryz.underlying9 Tryz.underlying132 b n (gL l) rfl HO1.out HN.out s HS.out (aB (q0,q1)) rfl rfl ?_;intro w2 hown2 hturn2)
       rw[Li s HZ.out HL.out]at hown2;have HO2:=ah hown2;have HT2:=ah hturn2;clear hown2 hturn2
       go_wp2
       go_ret
       exact HR.out _ hst.out _ _ ⟨rfl,HO2.out,(iq HB1.out (some b)).trans HT2.out⟩
   . have t1:=rq heq
     simp only at t1;have hst:Hid (stepG l (s,(o0,o1),(q0,q1))= (l,17)):=by
      show _=_;have e1:bD l (s,(o0,o1),(q0,q1))=17:=by
       unfold bD;rw[if_neg (by rw[HP.out];simp),if_pos (by rw[show cZ l (s,(o0,o1),(q0,q1)).1=cZ l s from rfl,HG.out];exact heq)]
      unfold stepG;rw[e1,if_pos (by simp)]
     clear heq
     go_wp2
     go_ret
     exact HR.out _ hst.out _ _ ⟨rfl,HO1.out.more (Nat.le_succ n),iq HB1.out (some b)⟩
 . have hne: (df (s,(o0,o1),(q0,q1)) != 0)=true:=by rw[bne_iff_ne];exact hp
   have hst:Hid (stepG l (s,(o0,o1),(q0,q1))= (l,df (s,(o0,o1),(q0,q1)))):=by
    show _=_;have e1:bD l (s,(o0,o1),(q0,q1))=df (s,(o0,o1),(q0,q1)):=if_pos hp;unfold stepG;rw[e1,if_pos hp]
   clear hp
   go_wp2
   go_ret
   exact HR.out _ hst.out _ _ ⟨rfl,HO1.out.more (Nat.le_succ n),iq HB1.out (some b)⟩
def vB(n:Nat)(r:List Rf×Int)(w:MQ)(e:Ending)(w':MQ):Prop :=
 ∃mb:Option Nat,e= .returned (.tuple #[.map mb,.int .i64 r.2])/\Below w.heap.size w w'/\ (r.2=0->∃b,mb=some b/\w.heap.size<=b/\Rm w' Tryz.prog 9 b n (gL r.1))
theorem ES(A:OA)(n c B:Nat)(us:List Upd)(w:MQ)(h:Sl w B 5 A n (flat upC us))(hB:B<=w.heap.size)(hn:n<=1000)(hs:∀u∈us,u.1.size<=maxLen) :
  Calls Tryz.prog 132 #[.slice A n c] w (vB n (aO [] us) w):=by
 have HL:=ah (h.len eB (by omega));have H:=ah h;have HS:=ah hs;clear h hs;have HR:Hid (∀r,aO [] us=r->∀e w',vB n r w e w'->vB n (aO [] us) w e w'):=fun r h e w' hh=>by rw[h];exact hh
 have hmax:1000<maxLen:=by unfold maxLen;omega
 have hmm:=@run_makeMap Tryz.prog
 go_enter Tryz.func132,Tryz.ntmps132
 go_wp2
 go_loopw[11] (fun i wr=>∃(k:Nat)(l:List Rf),k<=n/\i= .int .i64 k/\Hid (Rm wr Tryz.prog 9 w.heap.size k (gL l))/\Hid (dY l)/\Hid (Below w.heap.size w wr)/\w.heap.size+1<=wr.heap.size/\Hid (aO [] us=aO l (us.drop k))) (fun i _=>n - (intOf i).toNat)
 case atStart=>exact⟨0,[],ZZ _,rfl,Rm.made w _ _,List.Pairwise.nil,(af _ _).alloc ai _,by simp,rfl⟩
 case round =>
  obtain⟨k,l,hk,rfl,O,SR,hBel,hwz,hrun⟩:=hrel;by_cases hlt:k<n
  . obtain⟨b,off,u,rfl,hbB,hu,y0,y1,y2,y3,y4⟩:=(H.out.below hBel.out hB).upd hlt
    have HUk:=ah hu;have HUS:=ah (HS.out u (Z7 hu));clear hu;have hst2:Hid (aO [] us=if(stepG l u).2≠0 then stepG l u else aO (stepG l u).1 (us.drop (k+1))):=by
     show _=_;have hl:=List.getElem?_eq_some_iff.1 HUk.out;rw[hrun.out,List.drop_eq_getElem_cons hl.1,hl.2,Hd]
    obtain⟨s,⟨o0,o1⟩,⟨q0,q1⟩⟩:=u;have hlz: (k:Int)< (n:Int):=by omega
    go_wp2_with fail;refine(yM w.heap.size k l (s,(o0,o1),(q0,q1)) _ (by first | exact O.out.alloc _ | trace_state) SR.out (by omega) HUS.out).mono ?_;rintro e w2 ⟨rfl,hown2,hg2⟩;have hzz:wr.heap.size<=w2.heap.size:=by have:=hg2.size;simp at this;omega
    have HO2:=ah hown2;have HB2:Hid (Below w.heap.size w w2):=(hBel.out.alloc (by omega) _).grown hg2 (by simp;omega) (fun k e=>by cases e;exact Nat.le_refl _);have SR2:Hid (dY (stepG l (s,(o0,o1),(q0,q1))).1):=yu SR.out;clear hown2 hg2 y0 y1 y2 y3 y4;generalize hgg:stepG l (s,(o0,o1),(q0,q1))=r at *;obtain⟨l2,x⟩:=r;simp only at HO2 SR2 hst2 ⊢;by_cases hx:x=0
    . subst hx
      have hnx:Hid (aO [] us=aO l2 (us.drop (k+1))):=by
       show _=_;rw[hst2.out,if_neg (by simp)]
      go_wp2
      go_roundw
      case rel=>exact⟨k+1,l2,by omega,by go_num,HO2.out,SR2.out,HB2.out,by omega,hnx.out⟩
      case measure=>simp[intOf];omega
    . have hne: (x != 0)=true:=by rw[bne_iff_ne];exact hx
      have hfin:Hid (aO [] us= (l2,x)):=by
       show _=_;rw[hst2.out,if_pos hx]
      have HX:=ah hx;clear hx
      go_wp2
      go_ret2
      exact HR.out _ hfin.out _ _ ⟨none,rfl,HB2.out,fun h=>absurd h HX.out⟩
  . have hfin:Hid (aO [] us= (l,0)):=by
      show _=_;rw[hrun.out,List.drop_of_length_le (by rw[HL.out];omega)];rfl
    go_wp2
    go_ret2
    exact HR.out _ hfin.out _ _ ⟨some w.heap.size,rfl,hBel.out,fun _=>⟨_,rfl,Nat.le_refl _,O.out.more hk⟩⟩
end
section
open Go.RowKit Go.Maps Go.Sort Go.Shelf
attribute [local go_sem] Oper.semAt_some
theorem FY(gf:Nat)(lb:Array MS)(eg:∀args w,(callFunc gf args).run Tryz.prog w= .ok (.enter gf args) w)(S Sp:List (List UInt8)->Prop)(N:Nat)(w:MQ)(hn:N<=1000000)(hseq:SeqStops Fence.wide 5 Tryz.prog gf lb encStr S Sp N w) :
  Calls Tryz.prog 199 #[.func (.func gf) #[] lb] w fun e w' =>
   ∃A c ss,e= .returned (.slice A ss.length c)/\S ss/\w'.ownsRow w.heap.size 9 1 (.slice A ss.length c) ss.length (strs (ss.map ub))/\Below w.heap.size w w':=by
 have HA:=ah (rT gf lb eg S Sp N none 0 0 [] w w (World.ownsRow_nil _ _ _ _) (af _ _) (by omega) hseq);clear hseq
 go_enter Tryz.func199,Tryz.ntmps199
 go_wp2_with (go_at_call 201;refine HA.out.mono ?_;rintro e w1 ⟨A,c,ss,rfl,h⟩;rw[Nat.zero_add,List.nil_append]at h;have HH:=ah h;clear h)
 go_ret
 exact⟨A,c,ss,rfl,HH.out⟩
theorem Ev(gf:Nat)(lb:Array MS)(eg:∀args w,(callFunc gf args).run Tryz.prog w= .ok (.enter gf args) w)(S Sp:List (List UInt8)->Prop)(N:Nat)(w:MQ)(hn:N<=1000000)(hS:∀ss,S ss->ss.length<=N)(hseq:SeqStops Fence.wide 5 Tryz.prog gf lb encStr S Sp N w) :
  Calls Tryz.prog 153 #[.func (.func gf) #[] lb] w fun e w' =>
   ∃A c ss,e= .returned (.slice A ss.length c)/\S ss/\w'.ownsRow w.heap.size 9 1 (.slice A ss.length c) ss.length (strs (gG (ss.map ub)))/\Below w.heap.size w w':=by
 have HA:=ah (FY gf lb eg S Sp N w (by omega) hseq);clear hseq
 go_enter Tryz.func153,Tryz.ntmps153
 go_wp2_with fail;refine HA.out.mono ?_;rintro e w1 ⟨A,c,ss,rfl,hs,hrow,hb⟩;have HSS:=ah hs;have HB:=ah hb;have HROW:=ah hrow;have hl:=hS ss hs;have HS:=ah (Ay w.heap.size ss.length c A (ss.map ub) w1 hrow (by omega));clear hs hb hrow HA;go_wp2_with fail;refine HS.out.mono ?_;rintro e w2 ⟨rfl,h1,h2⟩;have HB2:Hid (Below w.heap.size w w2):=HB.out.grown h2 HB.out.size (fun k hk=>iw HROW.out k hk);have H1:=ah h1;clear h1 h2 HS;go_wp2_with fail;go_ret
 exact⟨A,c,ss,rfl,HSS.out,H1.out,HB2.out⟩
def SkE(g:MR->Option MS)(N:Nat)(w:MQ)(e:Ending)(w':MQ):Prop :=
 ∃A c ks,e= .returned (.slice A ks.length c)/\Asc ks/\ (∀x,x∈ks↔ (g x).isSome=true)/\ks.length<=N/\w'.ownsRow w.heap.size 9 1 (.slice A ks.length c) ks.length (strs ks)/\Below w.heap.size w w'
theorem Fh{gf:Nat}{lb:Array MS}{g:MR->Option MS}{N:Nat}{w:MQ}(eg:∀args w,(callFunc gf args).run Tryz.prog w= .ok (.enter gf args) w)(hn:N<=1000000)
  (h:∃S Sp,SeqStops Fence.wide 5 Tryz.prog gf lb encStr S Sp N w/\∀ss,S ss->iX g N (ss.map ub)):Calls Tryz.prog 153 #[.func (.func gf) #[] lb] w (SkE g N w):=by
 obtain⟨S,Sp,h1,h2⟩:=h;refine(Ev gf lb eg S Sp N w hn (fun ss hs=>by have:=(h2 ss hs).few;rwa[List.length_map]at this) h1).mono ?_;rintro e w' ⟨A,c,ss,rfl,hs,hr,hb⟩;have hk:=h2 ss hs;have hl: (gG (ss.map ub)).length=ss.length:=by rw[zS,List.length_map]
 exact⟨A,c,gG (ss.map ub),by rw[hl],AJ hk.nod,fun x=>by rw[Aa];exact hk.mem x,by rw[hl];have:=hk.few;rwa[List.length_map]at this,by rw[hl];exact hr,hb⟩
end
end Go.Proofs.YtknefelegjlgnaaGreatDoor
