/-
  Lemmas of the card.
-/
import Derived.Test.YtknefelegjlgnaaGreatDoorDCDu19
set_option maxRecDepth 100000
set_option maxHeartbeats 16000000
namespace Go.Proofs.YtknefelegjlgnaaGreatDoor
open Go.RowKit
section
open Go.Maps
theorem Jt: (Tryz.prog.info? 82).map (fun i=>(i.zero,i.size,i.bytes))=some (some (.agg #[.string ⟨#[]⟩,.string ⟨#[]⟩]),2,32):=by kernel_rfl
theorem IA(s:MR): (Value.agg (fV s))=obV (dR s) zOs:=rfl
theorem IK(w:MQ)(B:Nat)(s:MR):ObM w B (dR s) zOs:=⟨Sl.nil _ _ _ _,Sl.nil _ _ _ _,Nat.le_refl _,ZZ _,Nat.le_refl _,ZZ _⟩
theorem Iy(w:MQ)(x y:MR):∀j u,[Value.string x,.string y][j]? =some u-> (w.alloc (.cells #[.string x,.string y] 82)).cell? (Addr.add ⟨w.heap.size,0,none⟩ j)=some u:=by
 intro j u hj;have hb:Bk (w.alloc (.cells #[.string x,.string y] 82)) w.heap.size 82 #[.string x,.string y]:=Bk.new w _ _;rw[Addr.add_lit,hb.cell];rcases j with _ | _ | j
 . simpa using hj
 . simpa using hj
 . simp at hj
theorem LA{l:List Fl}(h: (l.map Prod.fst).Nodup){k:Nat}{f:Fl}(hf:l[k]? =some f):f.1∉ (l.take k).map Prod.fst:=by
 intro hm;rw[List.map_take]at hm;obtain⟨i,hi,e⟩:=List.getElem_of_mem hm;rw[List.length_take]at hi;rw[List.getElem_take]at e;obtain⟨h1,h2⟩:=List.getElem?_eq_some_iff.1 hf;have h3: (l.map Prod.fst)[k]'(by simpa using h1)=f.1:=by rw[List.getElem_map,h2]
 exact List.pairwise_iff_getElem.1 h i k (by omega) (by simpa using h1) (by omega) (e.trans h3.symm)
section
variable {w w' : MQ} {base : Nat} {A0 A A' : OA} {c0 c c' : Nat} {p q q' : List Itm}
theorem Ply.below(h:Ply w base A0 c0 p A c q)(hb:Below w.heap.size w w'):Ply w' base A0 c0 p A c q:=by
 rcases h with h | h
 . exact .inl h
 . exact .inr (fJ h hb)
theorem Ply.box(h:Ply w base A0 c0 p A c q){b:Nat}{t:TypeId}{cs:Array MS}(hb:Bk w b t cs)(hne:118≠t)(i:Nat)(x:MS):Ply (w.setCell ⟨b,i,none⟩ x) base A0 c0 p A c q:=by
 rcases h with h | h
 . exact .inl h
 . exact .inr (iN h hb hne i x)
theorem Ply.others(h:Ply w base A0 c0 p A c q){e:TypeId}(ho:OthersKept e w w')(hne:118≠e):Ply w' base A0 c0 p A c q:=by
 rcases h with h | h
 . exact .inl h
 . exact .inr (ho _ _ _ _ _ _ hne h)
theorem Ply.trans{n':Nat}(h:Ply w base A0 c0 p A c q)(hb:Below w.heap.size w w')(k:Ply w' n' A c q A' c' q')(hn:base<=n'):Ply w' base A0 c0 p A' c' q':=by
 rcases k with ⟨rfl,rfl,rfl⟩ | k
 . exact h.below hb
 . exact .inr (jX k hn)
theorem Ply.sl{B:Nat}(h:Ply w base A0 c0 p A c q)(h0:Sl w B 3 A0 p.length (flat itC p))(hB:B<=w.heap.size):Sl w w.heap.size 3 A q.length (flat itC q):=by
 rcases h with ⟨rfl,_,rfl⟩ | h
 . exact h0.more hB
 . exact Sl.of_own h
end
def vQ(k:Nat)(l:List Fl)(A0:OA)(c0:Nat)(p:List Itm)(w:MQ)(e:Ending)(w':MQ):Prop :=
 ((∃q d A c,sto k p l=some (q,d)/\nG p q d l/\e= .returned (.tuple #[.slice A q.length c,aB d,.int .i64 0])/\Sl w' w'.heap.size 3 A q.length (flat itC q)/\q.length<=c/\c<=maxLen/\Ply w' w.heap.size A0 c0 p A c q)∨ (sto k p l=none/\e= .returned (.tuple #[.slice none 0 0,aB zD,.int .i64 16])))/\Below w.heap.size w w'
def vW(k:Nat):Prop:=∀(l:List Fl),OkL l-> (∀f∈l,f.1.size<=k)->∀(p:List Itm)(A:OA)(n c:Nat)(A1:OA)(m c1 B:Nat)(w:MQ),
  Sl w B 3 A n (flat itC p)->Sl w B 2 A1 m (flat flC l)->B<=w.heap.size->n<=c->c<=maxLen->PlOk p->n+wt l<=800000 ->
  Calls Tryz.prog 124 #[.slice A n c,.slice A1 m c1] w (vQ (k+1) l A c p w)
theorem xJ(k:Nat)(ih:∀k',k=k'+1->vW k'):vW k:=by
 intro l hl hlk p A n c A1 m c1 B w hp0 hl0 hB hnc hcm hpo hsz;have HPL:=ah (hp0.len bN (by omega));have HLL:=ah (hl0.len kP (by omega));have HP0:=ah hp0;have HL0:=ah hl0;have HOL:=ah hl;have HLK:=ah hlk;have HNC:=ah hnc;have HCM:=ah hcm;have HPO:=ah hpo;have HSZ:=ah hsz;have IH:=ah ih;have HPQ:Hid (∀(W:MQ)(Ax:OA)(cx:Nat)(qx:List Itm),Ply W w.heap.size A c p Ax cx qx->Below w.heap.size w W->Sl W W.heap.size 3 Ax qx.length (flat itC qx)):=fun W Ax cx qx h hb=>by
  have h1:=HP0.out;rw[<-HPL.out]at h1;exact h.sl (h1.below hb hB) (by have:=hb.size;omega)
 have hm2:m<=200:=by rw[<-HLL.out];exact hl.few
 clear hp0 hl0 hl hlk hnc hcm hpo hsz ih;have hmm:=@run_makeMap Tryz.prog;obtain⟨W0,hW0⟩:∃W,((w.alloc (.cells #[.int .u64 0,.int .u64 0] 50)).alloc (.map #[] 0)).alloc (.map #[] 0)=W:=⟨_,rfl⟩
 have HD0:Hid (Bk W0 w.heap.size 50 #[.int .u64 0,.int .u64 0]):=by rw[<-hW0];exact((Bk.new w _ _).alloc _).alloc _
 have HM0:Hid (StM W0 (w.heap.size+1) (w.heap.size+2) (w.heap.size+3) 0 (fun _=>none) (fun _=>none) (l.take 0)):=by
  show StM _ _ _ _ _ _ _ [];rw[<-hW0];have:=StM.start (w.alloc (.cells #[.int .u64 0,.int .u64 0] 50)) (w.heap.size+3);rw[Z9]at this;exact this
 have HB0:Hid (Below w.heap.size w W0):=by rw[<-hW0];exact(((af _ w).alloc ai _).alloc (by simp) _).alloc (by simp;omega) _
 have zW0:w.heap.size+3=W0.heap.size:=by rw[<-hW0];simp
 have HW0:=ah hW0;clear hW0
 go_enter Tryz.func124,Tryz.ntmps124
 go_wp2_with fail;rw[HW0.out];go_wp2_with fail
 go_loopw[26] (fun i wr=>∃(j:Nat)(gb gf:MR->Option MS),j<=m/\i= .int .i64 (j:Int)/\Hid (StM wr (w.heap.size+1) (w.heap.size+2) (w.heap.size+3) j gb gf (l.take j))/\Hid (Bk wr w.heap.size 50 #[.int .u64 0,.int .u64 0])/\Hid (Below w.heap.size w wr)/\w.heap.size+3<=wr.heap.size) (fun i _=>m - (intOf i).toNat)
 case atStart=>exact⟨0,_,_,ZZ _,rfl,HM0.out,HD0.out,HB0.out,by omega⟩
 case round =>
  clear HM0 HD0 HB0 HW0;obtain⟨j,gb,gf,hj,rfl,hS,hD,hBel,hwz⟩:=hrel;by_cases hlt:j<m
  . have hlz: (j:Int)< (m:Int):=by omega
    obtain⟨bb,off,f,rfl,hbB,hf,y0,y1⟩:=(HL0.out.below hBel.out hB).fl hlt;have HF:=ah hf;have hPT:=HOL.out.path f (Z7 hf);have hfs:f.1.size<=100:=sV hPT;have hns:=(zB (yY hPT)).2;have HND:=ah (LA HOL.out.nod hf);have HTK:=ah (aS hf);clear hf hPT;obtain⟨fp,fd⟩:=f;simp only at y0 y1 hfs hns;obtain⟨W1,hW1⟩:∃W,wr.alloc (.cells #[.string fp,.string fd] 82)=W:=⟨_,rfl⟩
    have HK1:Hid (Bk W1 wr.heap.size 82 #[.string fp,.string fd]):=by rw[<-hW1];exact Bk.new wr _ _
    have HB1:Hid (Below wr.heap.size wr W1):=by rw[<-hW1];exact(af _ wr).alloc ai _
    have HC:=ah (Kb fp W1 (by unfold maxLen;omega));have zW1:wr.heap.size<W1.heap.size:=HK1.out.lt;obtain⟨x0,x1,_,_⟩:=HK1.out.two;go_wp2_with fail;refine HC.out.mono ?_;rintro e w2 ⟨a,b,mo,rfl,hcr,hb2⟩;obtain⟨ha,hbq,hmo⟩:=JO hcr;have HA:=ah ha;have HBQ:=ah hbq;rw[<-ha]at hns;have HK2:=ah (HK1.out.below hb2 zW1);have HB2:Hid (Below wr.heap.size wr w2):=HB1.out.trans (hb2.mono HB1.out.size);have HS2:=ah (hS.out.below HB2.out);have HD2:=ah (hD.out.below HB2.out (by omega));have HBw:Hid (Below w.heap.size w w2):=hBel.out.trans (HB2.out.mono (by omega));have zw2:wr.heap.size<w2.heap.size:=Nat.lt_of_lt_of_le zW1 hb2.size;obtain⟨x0,x1,_,_⟩:=HK2.out.two;clear hcr ha hbq hb2 HC hW1 HK1 HB1 hS hD;cases mo with
    | false =>
      have HDN:Hid (deN fp=false):=hmo.symm;have HAF:Hid (a=fp):=by show _=_;rw[HA.out,kC HDN.out]
      have hsm:a.size<=maxLen:=by unfold maxLen;omega
      clear hmo
      go_wp2_with (at_mapUpdate;refine aM ?_)
      refine aF ?_;refine lK rfl _ _ _ 274 rfl 9 82 Tryz.underlying9 Tryz.underlying274 (w.heap.size+2) j gf rfl HS2.out.f (by unfold maxLen;omega) a hsm _ rfl rfl ?_;intro w3 hM3 hg3;rw[HAF.out]at hM3;have HS3:Hid (StM w3 (w.heap.size+1) (w.heap.size+2) (w.heap.size+3) (j+1) gb (upd gf fp (lu (fp,fd))) (l.take j++ [(fp,fd)])):=HS2.out.file (f:=(fp,fd)) (by omega) (by omega) HDN.out HND.out hM3 hg3;have HD3:=ah (HD2.out.grown hg3 (fun e=>by have:=Option.some.inj e;omega));have HB3:Hid (Below w.heap.size w w3):=HBw.out.grown hg3 (by omega) (fun k e=>by cases e;omega);have z3:=hg3.size;clear hM3 hg3 HS2 HD2;go_wp2_with fail;go_roundw
      case rel=>exact⟨j+1,gb,_,hlt,by go_num,by rw[HTK.out];exact HS3.out,HD3.out,HB3.out,by omega⟩
      case measure=>simp[intOf];omega
    | true =>
      have HDN:Hid (deN fp=true):=hmo.symm;have hsm:a.size<=maxLen:=by unfold maxLen;omega
      clear hmo;have hlk: (Instr.lookup 273 (.map (some (w.heap.size+1))) (.string a) false).run Tryz.prog w2= .ok ((gb a).getD il) w2:=HS2.out.b.look Tryz.underlying9 Tryz.underlying273 (Tryz.zeroValue63 _) hsm;obtain⟨i0,hi,hz0,hz1,hz2⟩:=info_parts Jt;have Hi:=ah hi;have Hz0:=ah hz0;have Hz1:=ah hz1;have Hz2:=ah hz2;clear hi hz0 hz1 hz2;have HIL:Hid ((inD (l.take j) a).length<=200):=by have:=Bn (l.take j) a;have h2:=HOL.out.few;rw[List.length_take]at this;show _<=_;omega
      go_wp2_with (at_builtin;refine aM ?_)
      refine aF ?_;refine wpList_append_lies _ rfl (.tmp 42) (.tmp 47) 63 rfl (w.heap.size+3) 82 i0 _ 2 32 Tryz.underlying63 Hi.out Hz0.out Hz1.out Hz2.out rfl (by decide) ((gb a).getD il) (inD (l.take j) a).length (flat flC (inD (l.take j) a)) rfl ?own _ 1 _ [.string b,.string fd] rfl rfl ?nw (by simp[Value.oneCell']) (by decide) ?l1 ?l2 ?l3 _ rfl ?_
      case own=>exact(HS2.out.alloc _).rows.own a
      case nw=>exact Iy w2 b fd
      case l1=>have:=HIL.out;unfold maxLen;omega
      case l2=>have:=HIL.out;omega
      case l3=>simp;omega
      intro g cap w4 ho hg hat hgl;have HO:=ah ho;have HG:=ah hg;have HAT:=ah hat
      have hrow:Hid (∀k,((gb a).getD il).ownBlock=some k->w.heap.size+3<=k):=fun k e=>((HS2.out.rows.own a).lt k e).1;have hz4:=hg.size;rw[Z9]at hz4;clear ho hg hat hgl hlk
      go_wp2_with (at_mapUpdate;refine aM ?_)
      refine aF ?_;refine lK rfl _ _ _ 273 rfl 9 63 Tryz.underlying9 Tryz.underlying273 (w.heap.size+1) j gb rfl ((HS2.out.alloc _).b.kept HG.out (fun e=>by have:=hrow.out _ e.symm;omega)) (by unfold maxLen;omega) a hsm _ rfl rfl ?_;intro w5 hM5 hg5;have HS5:Hid (StM w5 (w.heap.size+1) (w.heap.size+2) (w.heap.size+3) (j+1) (upd gb (fsN fp) (.slice (some ⟨g,0,none⟩) ((inD (l.take j) (fsN fp)).length+1) cap)) gf (l.take j++ [(fp,fd)])):=by
       have h1:=HO.out;have h2:=HG.out;have h3:=HAT.out;have h4:Rm w5 Tryz.prog 9 (w.heap.size+1) (j+1) (upd gb a (.slice (some ⟨g,0,none⟩) ((inD (l.take j) a).length+1) cap)):=hM5;rw[HA.out]at h1 h2 h3 h4;rw[HBQ.out]at h1;exact(HS2.out.alloc _).dir (f:=(fp,fd)) (by omega) HDN.out HND.out h1 h2 h3 h4 hg5
      have HB5:Hid (Below w.heap.size w w5):=((HBw.out.alloc (by omega) _).grown HG.out (by simp;omega) (fun k e=>by have:=hrow.out _ e;omega)).grown hg5 (by omega) (fun k e=>by cases e;omega);have HD5:=ah (((HD2.out.alloc _).grown HG.out (fun e=>by have:=hrow.out _ e.symm;omega)).grown hg5 (fun e=>by have:=Option.some.inj e;omega));have hz5:w.heap.size+3<=w5.heap.size:=by have:=hg5.size;omega
      clear hM5 hg5 HO HG HAT HS2 HD2 hrow;go_wp2_with fail;go_roundw
      case rel=>exact⟨j+1,_,gf,hlt,by go_num,by rw[HTK.out];exact HS5.out,HD5.out,HB5.out,hz5⟩
      case measure=>simp[intOf];omega
  . have hlz:¬(j:Int)< (m:Int):=by omega
    have hjm:j=m:=by omega
    have HS1:Hid (StM wr (w.heap.size+1) (w.heap.size+2) (w.heap.size+3) m gb gf l):=by
     have:=hS.out;rw[hjm,ZW (by rw[HLL.out];exact Nat.le_refl _)]at this;exact this
    obtain⟨wo,hwo⟩:∃wo,wo=wr:=⟨_,rfl⟩
    subst hwo;obtain⟨W3,hW3⟩:∃W,wo.alloc (.cells #[.map (some (w.heap.size+2))] 274)=W:=⟨_,rfl⟩
    have HK3:Hid (Bk W3 wo.heap.size 274 #[.map (some (w.heap.size+2))]):=by rw[<-hW3];exact Bk.new wo _ _
    have HB3:Hid (Below wo.heap.size wo W3):=by rw[<-hW3];exact(af _ wo).alloc ai _
    have HC3:=ah (Gn wo.heap.size (w.heap.size+2) m gf W3 (HS1.out.f.below HB3.out HS1.out.f.lt) (HK3.out.cell 0) HK3.out.lt (by omega));have HKF:=ah (G9 (w.heap.size+2) wo);have z3:wo.heap.size+1=W3.heap.size:=by rw[<-hW3];simp
    rw[hW3]at HKF;clear hS hW3;go_wp2_with fail;refine HKF.out.mono ?_;rintro e w' ⟨rfl,hw'⟩;have hw2:=hw'.symm;clear hw';subst hw2;go_wp2_with fail;refine HC3.out.mono ?_;rintro e w4 ⟨A4,c4,ks,rfl,hk4,hr4,hb4⟩;have HK4:=ah hk4;have HR4:=ah hr4;have HB4:=ah hb4;have HBo4:Hid (Below wo.heap.size wo w4):=HB3.out.trans (hb4.mono HB3.out.size);have z4:W3.heap.size<=w4.heap.size:=hb4.size;clear hk4 hr4 hb4 HC3 HKF;obtain⟨W5,hW5⟩:∃W,w4.alloc (.cells #[.map (some (w.heap.size+1))] 273)=W:=⟨_,rfl⟩
    have HK5:Hid (Bk W5 w4.heap.size 273 #[.map (some (w.heap.size+1))]):=by rw[<-hW5];exact Bk.new w4 _ _
    have HB5:Hid (Below w4.heap.size w4 W5):=by rw[<-hW5];exact(af _ w4).alloc ai _
    have HBo5:Hid (Below wo.heap.size wo W5):=HBo4.out.trans (HB5.out.mono HBo4.out.size);have HR5:Hid (W5.ownsRow W3.heap.size 9 1 (.slice A4 ks.length c4) ks.length (strs ks)):=by
     rw[<-hW5];exact HR4.out.kept (World.grownBy_alloc w4 _ none) (by cases hv: (Value.slice A4 ks.length c4).ownBlock with | none=>exact .inl rfl | some k=>exact .inr (by simp))
    have HC5:=ah (Jp w4.heap.size (w.heap.size+1) m gb A4 ks.length c4 ks W3 W5 (HS1.out.b.below HBo5.out HS1.out.b.lt) (HK5.out.cell 0) HK5.out.lt HR5.out (HB4.out.trans (HB5.out.mono z4)) (by have:=HK4.out.few;omega));have HKB:=ah (GV (w.heap.size+1) w4);rw[hW5]at HKB;clear hW5;go_wp2_with fail;refine HKB.out.mono ?_;rintro e w' ⟨rfl,hw'⟩;have hw2:=hw'.symm;clear hw';subst hw2;go_wp2_with fail;refine HC5.out.mono ?_;rintro e w6 ⟨A6,c6,qs,rfl,hq6,hr6,hb6⟩;have HNE:=ah (Je HOL.out HS1.out.gbs HS1.out.gfs HK4.out hq6);have hnl:ks.length+qs.length<=400:=by have:=HK4.out.few;have:=hq6.few;omega
    have HSO:=ah (Ay W3.heap.size (ks.length+qs.length) c6 A6 (ks++qs) w6 hr6 (by omega));have HB6:=ah hb6;have HRG:Hid (∀k,(Value.slice A6 (ks.length+qs.length) c6).ownBlock=some k->W3.heap.size<=k):=fun k hk=>(bT hr6 hk).1;clear hr6 hq6 hb6 HC5 HKB HK4 HR4 HR5;go_wp2_with fail;refine HSO.out.mono ?_;rintro e w7 ⟨rfl,hs7,hg7⟩;have HB7:Hid (Below W3.heap.size W3 w7):=HB6.out.grown hg7 HB6.out.size (fun k e=>HRG.out k e);have HS7:Hid (Sl w7 w7.heap.size 1 A6 (ks.length+qs.length) (strs (bR l))):=by
     have:=Sl.of_own hs7;rw[HNE.out.1]at this;exact this
    have HBo7:Hid (Below wo.heap.size wo w7):=HB3.out.trans (HB7.out.mono HB3.out.size);have HSM7:=ah (HS1.out.below HBo7.out);have HD7:=ah (hD.out.below HBo7.out (by omega));have HBw7:Hid (Below w.heap.size w w7):=hBel.out.trans (HBo7.out.mono (by omega));obtain⟨nn,hnn⟩:∃nn,ks.length+qs.length=nn:=⟨_,rfl⟩
    rw[hnn]at HS7 hnl;have HNL:Hid ((bR l).length=nn):=by have:=HS7.out.1;rw[oV]at this;show _=_;omega
    have z7:w.heap.size+3<=w7.heap.size:=by have:=HBo7.out.size;omega
    clear hs7 hg7 HRG HB6 HSO HB7 HBo7 HS1 hD hBel HB3 HK3 HB4 HBo4 HK5 HB5 HBo5;obtain⟨W8,hW8⟩:∃W,w7.alloc (.cells #[.int .i64 2,.string ⟨#[]⟩,.slice none 0 0,.int .u64 0,.int .u64 0,.slice none 0 0,.string ⟨#[]⟩,.int .i64 0,.string ⟨#[]⟩] 109)=W:=⟨_,rfl⟩
    have HW8:=ah hW8;clear hW8;go_wp2_with fail;have HO8:Hid (Bk W8 w7.heap.size 109 #[.int .i64 2,.string ⟨#[]⟩,.slice none 0 0,.int .u64 0,.int .u64 0,.slice none 0 0,.string ⟨#[]⟩,.int .i64 0,.string ⟨#[]⟩]):=by rw[<-HW8.out];exact Bk.new w7 _ _
    have HB8:Hid (Below w7.heap.size w7 W8):=by rw[<-HW8.out];exact(af _ w7).alloc ai _
    have z8:w7.heap.size+1=W8.heap.size:=by rw[<-HW8.out];simp
    rw[HW8.out];clear HW8;obtain⟨i0,hi,hz0,hz1,hz2⟩:=info_parts uW;have Hi:=ah hi;have Hz0:=ah hz0;have Hz1:=ah hz1;have Hz2:=ah hz2;clear hi hz0 hz1 hz2
    go_loopw[0,65] (fun pv i wr=>∃(j:Nat)(q:List Itm)(es:List Ent)(Aq:OA)(cq:Nat)(EA:OA)(ec:Nat),pv= .slice Aq q.length cq/\i= .int .i64 (j:Int)/\j<=nn/\Hid (StoAt k l p j q es)/\Hid (Ply wr w.heap.size A c p Aq cq q)/\q.length<=cq/\cq<=maxLen ∧
     Hid (Apd wr (w7.heap.size+1) 185 4 EA j ec (flat enC es))/\j<=ec/\ec<=maxLen/\Hid (Bk wr w7.heap.size 109 #[.int .i64 2,.string ⟨#[]⟩,.slice EA j ec,.int .u64 0,.int .u64 0,.slice none 0 0,.string ⟨#[]⟩,.int .i64 0,.string ⟨#[]⟩])/\Hid (Below w7.heap.size w7 wr)/\w7.heap.size+1<=wr.heap.size) (fun _ i _=>nn - (intOf i).toNat)
    case atStart=>exact⟨0,p,[],A,c,none,0,by rw[HPL.out],rfl,ZZ _,StoAt.start HPO.out,.inl ⟨rfl,rfl,rfl⟩,by rw[HPL.out];exact HNC.out,HCM.out,.inr ⟨rfl,rfl,rfl⟩,Nat.le_refl _,ZZ _,HO8.out,HB8.out,by omega⟩
    case round =>
     clear HO8 HB8;obtain⟨j,q,es,Aq,cq,EA,ec,rfl,rfl,hj,hSt,hPly,hqc,hcq,hAp,hje,hec,hOB,hBel,hwz⟩:=hrel;by_cases hlt:j<nn
     . have hlz: (j:Int)< (nn:Int):=by omega
       obtain⟨nb,noff,x,rfl,hnb,hx,y0⟩:=(HS7.out.below hBel.out ai).str_at hlt;have HX:=ah hx;have hxn:=(zB (vG HOL.out hx)).2;have hxd:=HNE.out.2 x (Z7 hx);clear hx;obtain⟨We,hWe⟩:∃W,wr.alloc (.cells #[.string x,.bool false,.int .u64 0,.int .u64 0] 185)=W:=⟨_,rfl⟩
       have HEe:Hid (Bk We wr.heap.size 185 #[.string x,.bool false,.int .u64 0,.int .u64 0]):=by rw[<-hWe];exact Bk.new wr _ _
       have HBe:Hid (Below wr.heap.size wr We):=by rw[<-hWe];exact(af _ wr).alloc ai _
       have ze:wr.heap.size+1=We.heap.size:=by rw[<-hWe];simp
       have HSMe:=ah (HSM7.out.below (hBel.out.trans (HBe.out.mono (by omega))));have hsm:x.size<=maxLen:=by unfold maxLen;omega
       have hlk: (Instr.lookup 274 (.map (some (w.heap.size+1+1))) (.string x) true).run Tryz.prog (wr.alloc (.cells #[.string x,.bool false,.int .u64 0,.int .u64 0] 185))= .ok (.tuple #[(gf x).getD (.agg #[.string ⟨#[]⟩,.string ⟨#[]⟩]),.bool (gf x).isSome]) (wr.alloc (.cells #[.string x,.bool false,.int .u64 0,.int .u64 0] 185)):=by
        rw[hWe];exact HSMe.out.f.look_ok Tryz.underlying9 Tryz.underlying274 (Tryz.zeroValue82 _) hsm
       have hgf:=HSMe.out.gfs x;rw[hxd]at hgf;have HPLN:Hid (q.length<=800000):=by have h1:=hSt.out.plen;have h2:=HSZ.out;rw[<-HPL.out]at h2;show _<=_;omega
       have HPC0:=ah hPly;have HWe:=ah hWe;clear hWe;cases hlf:dM l x with
       | some s =>
         have HLF:=ah hlf;rw[hlf]at hgf;simp only[Bool.false_eq_true,if_false,Option.map_some]at hgf;rw[hgf]at hlk;simp only[Option.getD_some,Option.isSome_some,lu]at hlk;clear hgf hlf;have hsd:=HOL.out.data _ ((lY HOL.out.nod).1 HLF.out);simp only at hsd;obtain⟨W9,hW9⟩:∃W,We.alloc (.cells #[.string x,.string s] 82)=W:=⟨_,rfl⟩
         have HE9:Hid (Bk W9 wr.heap.size 185 #[.string x,.bool false,.int .u64 0,.int .u64 0]):=by rw[<-hW9];exact HEe.out.alloc _
         have HB9:Hid (Below wr.heap.size wr W9):=by rw[<-hW9];exact HBe.out.alloc HBe.out.size _
         have HF9:Hid (Bk W9 We.heap.size 82 #[.string x,.string s]):=by rw[<-hW9];exact Bk.new We _ _
         have z9:We.heap.size+1=W9.heap.size:=by rw[<-hW9];simp
         have HW9:=ah hW9;have HBL:=ah (zq s W9);clear hW9;go_wp2_with fail;rw[HWe.out,HW9.out];refine HBL.out.mono ?_;rintro e w10 ⟨rfl,hb10⟩;have HE10:=ah (HE9.out.below hb10 (by omega));have HB10:Hid (Below wr.heap.size wr w10):=HB9.out.trans (hb10.mono HB9.out.size);have z10:W9.heap.size<=w10.heap.size:=hb10.size;clear hb10 HBL HE9 HB9 HF9 HW9 HWe HEe HBe;obtain⟨⟨d1,d2⟩,hdd⟩:∃d,dgO (dR s)=d:=⟨_,rfl⟩
         have HPC:=ah (uj Aq q.length cq w10.heap.size q (dR s) zOs w10 (HPQ.out _ _ _ _ (hPly.out.below HB10.out) (HBw7.out.trans ((hBel.out.mono (by omega)).trans (HB10.out.mono (by omega))))) (IK _ _ _) ai hqc hcq (by have:=HPLN.out;omega) hSt.out.ok.asc (pE hsd));unfold PuE at HPC;rw[hdd]at HPC;simp only[aB,<-IA]at HPC;have HDD:=ah hdd;clear hdd;go_wp2_with fail;refine HPC.out.mono ?_;rintro e w11 ⟨hq,hb11⟩;have HE11:=ah (HE10.out.below hb11 (by omega));have HB11:Hid (Below wr.heap.size wr w11):=HB10.out.trans (hb11.mono HB10.out.size);have z11:w10.heap.size<=w11.heap.size:=hb11.size;clear hb11 HE10 HB10;rcases hq with ⟨q2,A2,c2,hz,rfl,hs11,hc2,hm2',hy⟩ | ⟨hz,rfl⟩
         . have HZ:=ah hz;have HY:=ah hy
           have HST:=ah ((by have h9:=hSt.out.file HOL.out HX.out HLF.out HZ.out;rw[HDD.out]at h9;exact h9:StoAt k l p (j+1) q2 (es++ [⟨x,false,(d1,d2)⟩])));clear hz hy hs11 HPC;obtain⟨W12,hW12⟩:∃W,(w11.setCell ⟨wr.heap.size,2,none⟩ (.int .u64 d1)).setCell ⟨wr.heap.size,3,none⟩ (.int .u64 d2)=W:=⟨_,rfl⟩
           have HE12:Hid (Bk W12 wr.heap.size 185 #[.string x,.bool false,.int .u64 d1,.int .u64 d2]):=by rw[<-hW12];exact(HE11.out.set 2 (.int .u64 d1)).set 3 (.int .u64 d2)
           have HB12:Hid (Below wr.heap.size wr W12):=by rw[<-hW12];exact(HB11.out.setCell (p:=⟨wr.heap.size,2,none⟩) ai _).setCell (p:=⟨wr.heap.size,3,none⟩) ai _
           have HY12:Hid (Ply W12 w.heap.size A c p A2 c2 q2):=by
            rw[<-hW12];exact((hPly.out.trans HB11.out HY.out (by omega)).box HE11.out (by decide) 2 _).box (HE11.out.set 2 (.int .u64 d1)) (by decide) 3 _
           have z12:wr.heap.size<W12.heap.size:=by rw[<-hW12];simp;omega
           have HO12:=ah (hOB.out.below HB12.out (by omega));have HA12:=ah (hAp.out.below HB12.out);have f2:=HE11.out.free 2;have f3:=HE11.out.free 3;have u2:=HE11.out.cell 2;have u3:=HE11.out.cell 3;simp at u2 u3;obtain⟨v0,v1,v2,v3⟩:=HE12.out.four;obtain⟨o0,o1,o2,o3,o4,o5,o6,o7,o8⟩:=HO12.out.nine
           go_wp2_with (at_builtin;refine aM ?_)
           refine aF ?_;refine dw (base:=w7.heap.size+1) (size:=4) _ rfl (.tmp 104) (.tmp 106) 107 rfl 185 i0 _ 40 Tryz.underlying107 Hi.out Hz0.out Hz1.out Hz2.out rfl (by decide) EA j ec (flat enC es) rfl ?own_1 (W12.heap.size+1) _ 1 _ (enC ⟨x,false,(d1,d2)⟩) rfl ?nw_1 (by simp[enC,Value.oneCell']) ?m1_1 ?m2_1 ?m3_1 ?_
           case own_1=>exact HA12.out.below ((af _ W12).alloc ai _)
           case nw_1 =>
            have:=Sl.of_bk (n:=1) (size:=4) (Bk.new W12 185 #[.string x,.bool false,.int .u64 d1,.int .u64 d2]) rfl;rw[Z9]at this;exact this
           case m1_1=>unfold maxLen;omega
           case m2_1=>omega
           case m3_1=>simp;omega
           intro A4 c4 w13 ha4 hb4 hn4 hm4 hok4;have HA13:Hid (Apd w13 (w7.heap.size+1) 185 4 A4 (j+1) c4 (flat enC (es++ [⟨x,false,(d1,d2)⟩]))):=by
            show Apd _ _ _ _ _ _ _ _;rw[bu]
            simpa [flat] using ha4
           have HB13:Hid (Below (w7.heap.size+1) W12 w13):=((af (w7.heap.size+1) W12).alloc (by omega) _).trans hb4;have HO13:=ah (HO12.out.below HB13.out (Nat.lt_succ_self _));have HY13:=ah ((HY12.out.below ((af _ W12).alloc ai (.cells #[.string x,.bool false,.int .u64 d1,.int .u64 d2] 185))).others hok4 (by decide));have HBB:Hid (Below w7.heap.size w7 w13):=hBel.out.trans ((HB12.out.mono (by omega)).trans (HB13.out.mono (by omega)));have hz13:w7.heap.size+1<=w13.heap.size:=by have:=HB13.out.size;omega
           clear ha4 hb4 hok4 o0 o1 o2 o3 o4 o5 o6 o7 o8 v0 v1 v2 v3 u2 u3 f2 f3 hW12 HE11 HB11 HA12 HO12;obtain⟨o0,o1,o2,o3,o4,o5,o6,o7,o8⟩:=HO13.out.nine;have g2:=HO13.out.free 2;go_wp2_with fail;go_roundw
           case rel=>exact⟨j+1,q2,_,A2,c2,A4,c4,by go_num,by go_num,hlt,HST.out,HY13.out.box HO13.out (by decide) 2 _,hc2,hm2',HA13.out.setCell (a:=⟨w7.heap.size,2,none⟩) (Nat.lt_succ_self _) _,hn4,hm4,HO13.out.set 2 (.slice A4 (j+1) c4),HBB.out.setCell (p:=⟨w7.heap.size,2,none⟩) ai _,by simpa using hz13⟩
           case measure=>simp[intOf];omega
         . have HN:Hid (sto (k+1) p l=none):=hSt.out.filex HX.out HLF.out hz
           have HDx:=ah (HD7.out.below (hBel.out.trans (HB11.out.mono (by omega))) (by omega));have HBx:Hid (Below w.heap.size w w11):=HBw7.out.trans ((hBel.out.trans (HB11.out.mono (by omega))).mono (by omega));clear hz HPC;have f2:=HE11.out.free 2;have f3:=HE11.out.free 3;have u2:=HE11.out.cell 2;have u3:=HE11.out.cell 3;simp at u2 u3;obtain⟨W12,hW12⟩:∃W,(w11.setCell ⟨wr.heap.size,2,none⟩ (.int .u64 zD.1)).setCell ⟨wr.heap.size,3,none⟩ (.int .u64 zD.2)=W:=⟨_,rfl⟩
           have HDy:Hid (Bk W12 w.heap.size 50 #[.int .u64 0,.int .u64 0]):=by rw[<-hW12];exact(HDx.out.far (p:=⟨wr.heap.size,2,none⟩) (by show w.heap.size≠wr.heap.size;omega) _).far (p:=⟨wr.heap.size,3,none⟩) (by show w.heap.size≠wr.heap.size;omega) _
           have HBy:Hid (Below w.heap.size w W12):=by rw[<-hW12];exact(HBx.out.setCell (p:=⟨wr.heap.size,2,none⟩) (by show w.heap.size<=wr.heap.size;omega) _).setCell (p:=⟨wr.heap.size,3,none⟩) (by show w.heap.size<=wr.heap.size;omega) _
           obtain⟨d0',d1',_,_⟩:=HDy.out.two;have e0:=HDy.out.free 0;have e1:=HDy.out.free 1;go_wp2_with fail;refine ZY (iQ Tryz.results124 rfl rfl (HDy.out.set2 _ _) rfl) rfl ⟨.inr ⟨HN.out,rfl⟩,dQ HBy.out ai _ _⟩
       | none =>
         have HLF:=ah hlf;have HNE2:=ah (Le (Z7 HX.out) hlf);rw[hlf]at hgf;simp only[Bool.false_eq_true,if_false,Option.map_none]at hgf;rw[hgf]at hlk;simp only[Option.getD_none,Option.isSome_none]at hlk;clear hgf hlf;obtain⟨W9,hW9⟩:∃W,((wr.alloc (.cells #[.string x,.bool false,.int .u64 0,.int .u64 0] 185)).alloc (.cells #[.string ⟨#[]⟩,.string ⟨#[]⟩] 82)).setCell ⟨wr.heap.size,1,none⟩ (.bool true)=W:=⟨_,rfl⟩
         have HEx:Hid (Bk ((wr.alloc (.cells #[.string x,.bool false,.int .u64 0,.int .u64 0] 185)).alloc (.cells #[.string ⟨#[]⟩,.string ⟨#[]⟩] 82)) wr.heap.size 185 #[.string x,.bool false,.int .u64 0,.int .u64 0]):=(Bk.new wr _ _).alloc _;have HE9:Hid (Bk W9 wr.heap.size 185 #[.string x,.bool true,.int .u64 0,.int .u64 0]):=by rw[<-hW9];exact HEx.out.set 1 (.bool true)
         have HB9:Hid (Below wr.heap.size wr W9):=by rw[<-hW9];exact(((af _ wr).alloc ai _).alloc (by simp) _).setCell (p:=⟨wr.heap.size,1,none⟩) ai _
         have z9:wr.heap.size+2=W9.heap.size:=by rw[<-hW9];simp
         have HSM9:=ah (HSM7.out.below (hBel.out.trans (HB9.out.mono (by omega))));have hlb: (Instr.lookup 273 (.map (some (w.heap.size+1))) (.string x) false).run Tryz.prog (((wr.alloc (.cells #[.string x,.bool false,.int .u64 0,.int .u64 0] 185)).alloc (.cells #[.string ⟨#[]⟩,.string ⟨#[]⟩] 82)).setCell ⟨wr.heap.size,1,none⟩ (.bool true))= .ok ((gb x).getD il) (((wr.alloc (.cells #[.string x,.bool false,.int .u64 0,.int .u64 0] 185)).alloc (.cells #[.string ⟨#[]⟩,.string ⟨#[]⟩] 82)).setCell ⟨wr.heap.size,1,none⟩ (.bool true)):=by
          rw[hW9];exact HSM9.out.b.look Tryz.underlying9 Tryz.underlying273 (Tryz.zeroValue63 _) hsm
         have HW9:=ah hW9;have y1:=HEx.out.cell 1;simp at y1;have f1:=HEx.out.free 1;clear hW9;have HOW:=ah (HSM9.out.rows.own x);obtain⟨vb,hvb⟩:∃v,(gb x).getD il=v:=⟨_,rfl⟩
         simp only[hvb]at HOW;have HV:Hid (∃Ab cb,vb= .slice Ab (inD l x).length cb):=by
          rcases HOW.out.2 with ⟨h1,h2⟩ | ⟨g,cap,cur,h1,_⟩
          . exact⟨none,0,by rw[h1,h2]⟩
          . exact⟨_,_,h1⟩
         obtain⟨Ab,cb,rfl⟩:=HV.out;rw[hvb]at hlb;have HSB:=ah (Sl.of_own HOW.out);have HLN:Hid (q.length+wt (inD l x)<=800000):=by
          have h1:=hSt.out.len;rw[tT HX.out]at h1;have h2:=Ch l x;have h3:=HSZ.out;rw[<-HPL.out]at h3;show _<=_;omega
         obtain⟨k',rfl⟩:∃k',k=k'+1:=by
          obtain⟨f,hf⟩:=List.exists_mem_of_ne_nil _ HNE2.out;obtain⟨g,hg,h1,_,_⟩:=mem_inD.1 hf;have h3:=(sO (HOL.out.path g hg) h1).2;have h4:=HLK.out g hg;exact⟨k - 1,by omega⟩
         have HPC:=ah (IH.out k' rfl (inD l x) (HOL.out.sub x) (fun f hf=>by
          obtain⟨g,hg,h1,h2,rfl⟩:=mem_inD.1 hf;have h3:=(sO (HOL.out.path g hg) h1).2;have h4:=HLK.out g hg;simp only;omega) q Aq q.length cq Ab (inD l x).length cb W9.heap.size W9 (HPQ.out _ _ _ _ (hPly.out.below HB9.out) (HBw7.out.trans ((hBel.out.mono (by omega)).trans (HB9.out.mono (by omega))))) HSB.out ai hqc hcq hSt.out.ok HLN.out)
         unfold vQ at HPC;simp only[aB]at HPC;obtain⟨ib,hib⟩:∃ib,(inD l x).length=ib:=⟨_,rfl⟩
         rw[hib]at hlb HPC;clear hvb hib HOW;go_wp2_with fail;rw[HW9.out];refine HPC.out.mono ?_;rintro e w11 ⟨hq,hb11⟩;have HE11:=ah (HE9.out.below hb11 (by omega));have HB11:Hid (Below wr.heap.size wr w11):=HB9.out.trans (hb11.mono HB9.out.size);have z11:W9.heap.size<=w11.heap.size:=hb11.size;clear hb11 HE9 HB9 HW9 hlb y1 f1 HEx HWe HEe HBe;rcases hq with ⟨q2,⟨d1,d2⟩,A2,c2,hz,hrr,rfl,hs11,hc2,hm2',hy⟩ | ⟨hz,rfl⟩
         . have HZ:=ah hz;have HY:=ah hy
           have HRR:=ah hrr;clear hrr;have HST:=ah (hSt.out.dir HOL.out HX.out HLF.out HZ.out HRR.out HNE2.out);clear hz hy hs11 HPC;obtain⟨W12,hW12⟩:∃W,(w11.setCell ⟨wr.heap.size,2,none⟩ (.int .u64 d1)).setCell ⟨wr.heap.size,3,none⟩ (.int .u64 d2)=W:=⟨_,rfl⟩
           have HE12:Hid (Bk W12 wr.heap.size 185 #[.string x,.bool true,.int .u64 d1,.int .u64 d2]):=by rw[<-hW12];exact(HE11.out.set 2 (.int .u64 d1)).set 3 (.int .u64 d2)
           have HB12:Hid (Below wr.heap.size wr W12):=by rw[<-hW12];exact(HB11.out.setCell (p:=⟨wr.heap.size,2,none⟩) ai _).setCell (p:=⟨wr.heap.size,3,none⟩) ai _
           have HY12:Hid (Ply W12 w.heap.size A c p A2 c2 q2):=by
            rw[<-hW12];exact((hPly.out.trans HB11.out HY.out (by omega)).box HE11.out (by decide) 2 _).box (HE11.out.set 2 (.int .u64 d1)) (by decide) 3 _
           have z12:wr.heap.size<W12.heap.size:=by rw[<-hW12];simp;omega
           have HO12:=ah (hOB.out.below HB12.out (by omega));have HA12:=ah (hAp.out.below HB12.out);have f2:=HE11.out.free 2;have f3:=HE11.out.free 3;have u2:=HE11.out.cell 2;have u3:=HE11.out.cell 3;simp at u2 u3;obtain⟨v0,v1,v2,v3⟩:=HE12.out.four;obtain⟨o0,o1,o2,o3,o4,o5,o6,o7,o8⟩:=HO12.out.nine
           go_wp2_with (at_builtin;refine aM ?_)
           refine aF ?_;refine dw (base:=w7.heap.size+1) (size:=4) _ rfl (.tmp 104) (.tmp 106) 107 rfl 185 i0 _ 40 Tryz.underlying107 Hi.out Hz0.out Hz1.out Hz2.out rfl (by decide) EA j ec (flat enC es) rfl ?own_1 (W12.heap.size+1) _ 1 _ (enC ⟨x,true,(d1,d2)⟩) rfl ?nw_1 (by simp[enC,Value.oneCell']) ?m1_1 ?m2_1 ?m3_1 ?_
           case own_1=>exact HA12.out.below ((af _ W12).alloc ai _)
           case nw_1 =>
            have:=Sl.of_bk (n:=1) (size:=4) (Bk.new W12 185 #[.string x,.bool true,.int .u64 d1,.int .u64 d2]) rfl;rw[Z9]at this;exact this
           case m1_1=>unfold maxLen;omega
           case m2_1=>omega
           case m3_1=>simp;omega
           intro A4 c4 w13 ha4 hb4 hn4 hm4 hok4;have HA13:Hid (Apd w13 (w7.heap.size+1) 185 4 A4 (j+1) c4 (flat enC (es++ [⟨x,true,(d1,d2)⟩]))):=by
            show Apd _ _ _ _ _ _ _ _;rw[bu]
            simpa [flat] using ha4
           have HB13:Hid (Below (w7.heap.size+1) W12 w13):=((af (w7.heap.size+1) W12).alloc (by omega) _).trans hb4;have HO13:=ah (HO12.out.below HB13.out (Nat.lt_succ_self _));have HY13:=ah ((HY12.out.below ((af _ W12).alloc ai (.cells #[.string x,.bool true,.int .u64 d1,.int .u64 d2] 185))).others hok4 (by decide));have HBB:Hid (Below w7.heap.size w7 w13):=hBel.out.trans ((HB12.out.mono (by omega)).trans (HB13.out.mono (by omega)));have hz13:w7.heap.size+1<=w13.heap.size:=by have:=HB13.out.size;omega
           clear ha4 hb4 hok4 o0 o1 o2 o3 o4 o5 o6 o7 o8 v0 v1 v2 v3 u2 u3 f2 f3 hW12 HE11 HB11 HA12 HO12;obtain⟨o0,o1,o2,o3,o4,o5,o6,o7,o8⟩:=HO13.out.nine;have g2:=HO13.out.free 2;go_wp2_with fail;go_roundw
           case rel=>exact⟨j+1,q2,_,A2,c2,A4,c4,by go_num,by go_num,hlt,HST.out,HY13.out.box HO13.out (by decide) 2 _,hc2,hm2',HA13.out.setCell (a:=⟨w7.heap.size,2,none⟩) (Nat.lt_succ_self _) _,hn4,hm4,HO13.out.set 2 (.slice A4 (j+1) c4),HBB.out.setCell (p:=⟨w7.heap.size,2,none⟩) ai _,by simpa using hz13⟩
           case measure=>simp[intOf];omega
         . have HN:Hid (sto (k'+1+1) p l=none):=hSt.out.dirx HX.out HLF.out hz
           have HDx:=ah (HD7.out.below (hBel.out.trans (HB11.out.mono (by omega))) (by omega));have HBx:Hid (Below w.heap.size w w11):=HBw7.out.trans ((hBel.out.trans (HB11.out.mono (by omega))).mono (by omega));clear hz HPC;have f2:=HE11.out.free 2;have f3:=HE11.out.free 3;have u2:=HE11.out.cell 2;have u3:=HE11.out.cell 3;simp at u2 u3;obtain⟨W12,hW12⟩:∃W,(w11.setCell ⟨wr.heap.size,2,none⟩ (.int .u64 zD.1)).setCell ⟨wr.heap.size,3,none⟩ (.int .u64 zD.2)=W:=⟨_,rfl⟩
           have HDy:Hid (Bk W12 w.heap.size 50 #[.int .u64 0,.int .u64 0]):=by rw[<-hW12];exact(HDx.out.far (p:=⟨wr.heap.size,2,none⟩) (by show w.heap.size≠wr.heap.size;omega) _).far (p:=⟨wr.heap.size,3,none⟩) (by show w.heap.size≠wr.heap.size;omega) _
           have HBy:Hid (Below w.heap.size w W12):=by rw[<-hW12];exact(HBx.out.setCell (p:=⟨wr.heap.size,2,none⟩) (by show w.heap.size<=wr.heap.size;omega) _).setCell (p:=⟨wr.heap.size,3,none⟩) (by show w.heap.size<=wr.heap.size;omega) _
           obtain⟨d0',d1',_,_⟩:=HDy.out.two;have e0:=HDy.out.free 0;have e1:=HDy.out.free 1;go_wp2_with fail;refine ZY (iQ Tryz.results124 rfl rfl (HDy.out.set2 _ _) rfl) rfl ⟨.inr ⟨HN.out,rfl⟩,dQ HBy.out ai _ _⟩
     . have hlz:¬(j:Int)< (nn:Int):=by omega
       have HJN:Hid (j=nn):=by show _=_;omega
       have HBz:Hid (Below w.heap.size w wr):=HBw7.out.trans (hBel.out.mono (by omega));have HDz:=ah (HD7.out.below hBel.out (by omega));have HELN:Hid (es.length=j):=hSt.out.elen (by rw[HNL.out];exact hj);have HES:=ah (hSt.out.es HOL.out);have HPC:=ah (uj Aq q.length cq wr.heap.size q (dI es) ⟨EA,j,ec,none,0,0⟩ wr (HPQ.out _ _ _ _ hPly.out HBz.out) ⟨hAp.out.sl,Sl.nil _ _ _ _,hje,hec,Nat.le_refl _,ZZ _⟩ ai hqc hcq (by have h1:=hSt.out.plen;have h2:=HSZ.out;rw[<-HPL.out]at h2;omega) hSt.out.ok.asc (sD HES.out));unfold PuE at HPC;obtain⟨⟨d1,d2⟩,hdd⟩:∃d,dgO (dI es)=d:=⟨_,rfl⟩
       have HDD:=ah hdd;rw[hdd]at HPC;simp only[aB,obV,obC,dI]at HPC;clear hdd;obtain⟨o0,o1,o2,o3,o4,o5,o6,o7,o8⟩:=hOB.out.nine;go_wp2_with fail;refine HPC.out.mono ?_;rintro e w11 ⟨hq,hb11⟩;have HB11:Hid (Below w.heap.size w w11):=HBz.out.trans (hb11.mono HBz.out.size);have HD11:=ah (HDz.out.below hb11 (by omega));obtain⟨t0,t1,_,_⟩:=HD11.out.two;have e0:=HD11.out.free 0;have e1:=HD11.out.free 1;have HBW:=ah hb11;clear hb11 HPC o0 o1 o2 o3 o4 o5 o6 o7 o8;rcases hq with ⟨q2,A2,c2,hz,rfl,hs11,hc2,hm2',hy⟩ | ⟨hz,rfl⟩
       . have HN:Hid (sto (k+1) p l=some (q2,(d1,d2))):=by
           have:=hSt.out.done (by rw[HNL.out,HJN.out];exact Nat.le_refl _) hz;rw[HDD.out]at this;exact this
         have HRR:Hid (nG p q2 (d1,d2) l):=by
          have:=hSt.out.res HOL.out hz;rw[HDD.out]at this;exact this
         have HY:Hid (Ply w11 w.heap.size A c p A2 c2 q2):=hPly.out.trans HBW.out hy (by have:=HBz.out.size;omega);have HY2:Hid (Ply ((w11.setCell ⟨w.heap.size,0,none⟩ (.int .u64 d1)).setCell ⟨w.heap.size,1,none⟩ (.int .u64 d2)) w.heap.size A c p A2 c2 q2):=(HY.out.box HD11.out (by decide) 0 _).box (HD11.out.set 0 (.int .u64 d1)) (by decide) 1 _;clear hz hy hs11;go_wp2_with fail;refine ZY (iQ Tryz.results124 rfl rfl (HD11.out.set2 _ _) rfl) rfl ⟨.inl ⟨q2,(d1,d2),A2,c2,HN.out,HRR.out,rfl,?_,hc2,hm2',HY2.out⟩,dQ HB11.out ai _ _⟩;exact HPQ.out _ _ _ _ HY2.out (dQ HB11.out ai _ _)
       . have HN:Hid (sto (k+1) p l=none):=hSt.out.donex (by rw[HNL.out,HJN.out];exact Nat.le_refl _) hz
         clear hz;go_wp2_with fail;refine ZY (iQ Tryz.results124 rfl rfl (HD11.out.set2 _ _) rfl) rfl ⟨.inr ⟨HN.out,rfl⟩,dQ HB11.out ai _ _⟩
theorem FW:∀k,vW k:=by
 intro k
 induction k with
 | zero=>exact xJ 0 (fun k' h=>by omega)
 | succ k ih=>exact xJ (k+1) (fun k' h=>by obtain rfl:k'=k:=(by omega);exact ih)
end
def Mo(q:List Itm)(g:Dig->List Fl->Prop)(l:List Fl)(e:Ent):Prop :=
 (e.dir=false/\∃s,(e.nm,s)∈l/\aL q e.dg=some (dR s))∨ (e.dir=true/\inD l e.nm≠ []/\ (∀f∈l,f.1≠e.nm)/\g e.dg (inD l e.nm))
def Std(q:List Itm):Nat->Dig->List Fl->Prop
 | 0,_,_=>False
 | k+1,d,l=>∃es,aL q d=some (dI es)/\es.map Ent.nm=bR l/\∀e∈es,Mo q (Std q k) l e
structure OkT(l:List Fl):Prop where
 path:∀f∈l,bL f.1=true
 data:∀f∈l,f.2.size<=60000
 nod: (l.map Prod.fst).Nodup
 nob:∀f∈l,∀g∈l,iH f.1 g.1=false
section
variable {p : List Itm} {le : Ent -> List Fl} {es : List Ent}
variable (hes : jT es) (hle : ∀ e ∈ es, e.dir = true -> OkT (le e) /\ le e ≠ [] /\ ∀ g ∈ le e, (e.nm ++ slB ++ g.1).size <= 100) (hfl : ∀ e ∈ es, e.dir = false -> ∃ s, s.size <= 60000 /\ aL p e.dg = some (dR s))
include hes hle hfl
end
structure FCh where
 path:MR
 ho:Bool
 hn:Bool
 old:MR
 new:MR
def CS(x:FCh):Prop:=x.ho≠x.hn∨x.old≠x.new
instance (x:FCh):Decidable (CS x):=by unfold CS;infer_instance
section
variable {l m : List Fl} {c : List FCh} {j : Nat} {x : FCh}
end
theorem BM:∀{p:Option MR}{fs:List Fl},eU p fs=0-> (∀f∈fs,upB p f.1=true)/\AscF fs/\∀f∈fs,bL f.1=true
 | p,[],_=>⟨fun f h=>(by cases h),List.Pairwise.nil,fun f h=>(by cases h)⟩
 | p,f::r,h=>by
   unfold eU at h;by_cases h1:bL f.1=true
   . rw[if_pos h1]at h
     by_cases h2:upB p f.1=true
     . rw[if_pos h2]at h
       obtain⟨i1,i2,i3⟩:=BM h;refine⟨fun g hg=>?_,List.pairwise_cons.2 ⟨fun g hg=>i1 g hg,i2⟩,fun g hg=>?_⟩
       . rcases List.mem_cons.1 hg with rfl | hg
         . exact h2
         . cases p with
           | none=>rfl
           | some q=>exact lU h2 (i1 g hg)
       . rcases List.mem_cons.1 hg with rfl | hg
         . exact h1
         . exact i3 g hg
     . rw[if_neg h2]at h;cases h
   . rw[if_neg h1]at h;cases h
theorem yw:∀{p:Option MR}{fs:List Fl},(∀f∈fs,upB p f.1=true)->AscF fs-> (∀f∈fs,bL f.1=true)->eU p fs=0
 | p,[],_,_,_=>rfl
 | p,f::r,h1,h2,h3=>by
   unfold eU;rw[if_pos (h3 f (by simp)),if_pos (h1 f (by simp))];exact yw (fun g hg=>h2.head hg) h2.tail (fun g hg=>h3 g (by simp[hg]))
theorem Cx{fs:List Fl}(h:TckR fs 0)(hd:∀f∈fs,f.2.size<=60000):OkL fs/\AscF fs:=by
 rcases h with ⟨_,h⟩ | ⟨_,h1,h2⟩ | ⟨h1,h2,h3⟩
 . cases h
 . exact absurd h2.symm h1
 . obtain⟨_,h4,h5⟩:=BM h2
   rcases h3 with ⟨_,h⟩ | ⟨h3,_⟩
   . cases h
   . refine⟨⟨h5,hd,h1,GY h4,fun f hf g hg=>?_⟩,h4⟩
     cases hb:iH f.1 g.1 with
     | false=>rfl
     | true=>exact absurd (JR hf hg hb) h3
theorem JQ{fs:List Fl}(h:OkL fs)(ha:AscF fs):TckR fs 0 :=
 .inr (.inr ⟨h.few,yw (fun _ _=>rfl) ha h.path,.inr ⟨Ky h.nob,rfl⟩⟩)
def CW(p:List Itm)(l:List Fl)(w:MQ)(e:Ending)(w':MQ):Prop :=
 ((∃z,TckR l z/\z≠0/\e= .returned (.tuple #[.slice none 0 0,aB zD,.int .i64 z])) ∨
  (TckR l 0/\ ((∃q d A c,sto 101 p l=some (q,d)/\nG p q d l/\e= .returned (.tuple #[.slice A q.length c,aB d,.int .i64 0])/\Sl w' w'.heap.size 3 A q.length (flat itC q)/\q.length<=c/\c<=maxLen)∨ (sto 101 p l=none/\e= .returned (.tuple #[.slice none 0 0,aB zD,.int .i64 16])))))/\Below w.heap.size w w'
theorem Cz{l:List Fl}(h:OkL l):wt l<=20200:=by
 have h1:=LQ (l:=l) (k:=100) (fun f hf=>sV (h.path f hf));have h2:=h.few;have: (100+1)*l.length<=101*200:=Nat.mul_le_mul_left 101 h2;omega
theorem Fu(A:OA)(n c B:Nat)(p:List Itm)(A1:OA)(m c1:Nat)(l:List Fl)(w:MQ)(h0:Sl w B 3 A n (flat itC p))(h1:Sl w B 2 A1 m (flat flC l))(hB:B<=w.heap.size)(hnc:n<=c)(hcm:c<=maxLen)(hn:n<=700000)(hm:m<=1000000)(hp:PlOk p)(hsz:∀f∈l,f.1.size<=1000000/\f.2.size<=60000) :
  Calls Tryz.prog 67 #[.slice A n c,.slice A1 m c1] w (CW p l w):=by
 have HP:=ah hp;have H0:=ah h0;have H1:=ah h1;have HSZ:=ah hsz;have HNC:=ah hnc;have HCM:=ah hcm;obtain⟨W,hW⟩:∃W,w.alloc (.cells #[.int .u64 0,.int .u64 0] 50)=W:=⟨_,rfl⟩
 have HB0:Hid (Below w.heap.size w W):=by rw[<-hW];exact(af _ w).alloc ai _
 have HD:Hid (Bk W w.heap.size 50 #[.int .u64 0,.int .u64 0]):=by rw[<-hW];exact Bk.new w _ _
 have HC:=ah (Fe A1 m c1 B l W (h1.below HB0.out hB) (Z0 hB HB0.out.size) hm hsz);have HW:=ah hW;have zW:w.heap.size<W.heap.size:=HD.out.lt;clear hp h0 h1 hsz hnc hcm hW
 go_enter Tryz.func67,Tryz.ntmps67
 go_wp2_with fail;rw[HW.out];refine HC.out.mono ?_;rintro e w2 ⟨z,rfl,hz,hb⟩;have HZ:=ah hz;have HB2:Hid (Below w.heap.size w w2):=HB0.out.trans (hb.mono HB0.out.size);have HD2:=ah (HD.out.below hb zW);obtain⟨y0,y1,_,_⟩:=HD2.out.two;have g0:=HD2.out.free 0;have g1:=HD2.out.free 1;have z2:=hb.size;clear hz hb HC;by_cases h0:z=0
 . have t1: (z != 0)=false:=by rw[h0];rfl
   have HZ0:Hid (TckR l 0):=by show TckR l 0;rw[<-h0];exact HZ.out
   obtain⟨hok,_⟩:=Cx HZ0.out (fun f hf=>(HSZ.out f hf).2);have hwt:=Cz hok;have HS:=ah (FW 100 l hok (fun f hf=>sV (hok.path f hf)) p A n c A1 m c1 B w2 (H0.out.below HB2.out hB) (H1.out.below HB2.out hB) (Z0 hB HB2.out.size) HNC.out HCM.out HP.out (by omega));unfold vQ at HS;simp only[aB]at HS;clear h0 hok hwt;go_wp2_with fail;refine HS.out.mono ?_;rintro e w3 ⟨hq,hb⟩;have HB3:Hid (Below w.heap.size w w3):=HB2.out.trans (hb.mono HB2.out.size);have HD3:=ah (HD2.out.below hb (by omega));obtain⟨y0,y1,_,_⟩:=HD3.out.two;have g0:=HD3.out.free 0;have g1:=HD3.out.free 1;clear hb HS;rcases hq with ⟨q,⟨d1,d2⟩,A2,c2,hs,hr,rfl,hsl,hc2,hm2,_⟩ | ⟨hs,rfl⟩
   . have HN:=ah hs;have HR:=ah hr;have HSL:=ah hsl
     have HNE:=ah (HSL.out.dgbox HD3.out);clear hs hr hsl;go_wp2_with fail;refine ZY (iQ Tryz.results67 rfl rfl (HD3.out.set2 _ _) rfl) rfl ⟨.inr ⟨HZ0.out,.inl ⟨q,(d1,d2),A2,c2,HN.out,HR.out,rfl,?_,hc2,hm2⟩⟩,dQ HB3.out ai _ _⟩;have:=HSL.out.ne (b:=w.heap.size) HNE.out (fun k hk=>(Z8 (w3.setCell ⟨w.heap.size,0,none⟩ (.int .u64 d1)) ⟨w.heap.size,1,none⟩ (.int .u64 d2) k hk).trans (Z8 w3 ⟨w.heap.size,0,none⟩ (.int .u64 d1) k hk))
     simpa using this
   . have HN:=ah hs
     clear hs;go_wp2_with fail;refine ZY (iQ Tryz.results67 rfl rfl (HD3.out.set2 _ _) rfl) rfl ⟨.inr ⟨HZ0.out,.inr ⟨HN.out,rfl⟩⟩,dQ HB3.out ai _ _⟩
 . have t1: (z != 0)=true:=by rw[bne_iff_ne];exact h0
   have H0':=ah h0;clear h0;go_wp2_with fail;refine ZY (iQ Tryz.results67 rfl rfl (HD2.out.set2 _ _) rfl) rfl ⟨.inl ⟨z,HZ.out,H0'.out,rfl⟩,dQ HB2.out ai _ _⟩
section
def bF(root old:Dig)(au ms:MR)(tm:Int):Ob:=⟨3,⟨#[]⟩,[],root,if old=zD then [] else [old],au,tm,ms⟩
structure nH(au ms:MR)(tm:Int):Prop where
 au:bI au=true
 t0:0<=tm
 t1:tm<=1099511627776
 ms:ms.size<=200
theorem qw{root old:Dig}{au ms:MR}{tm:Int}(h:nH au ms tm)(hr:WfD root)(hz:root≠zD)(ho:WfD old):OkO (bF root old au ms tm):=by
 have hs:=gJ h.au;have hms:=h.ms;have hps:vS (if old=zD then [] else [old]):=by
  split
  . exact⟨by simp,by simp,by simp,List.nodup_nil⟩
  . rename_i hn
    exact⟨by simp,fun d hd=>by rw[List.mem_singleton.1 hd];exact ho,fun d hd=>by rw[List.mem_singleton.1 hd];exact hn,by simp⟩
 refine⟨.commit rfl rfl rfl ⟨hr,hz,hps,h.au,h.t0,h.t1,h.ms⟩,?_⟩;have hl: (if old=zD then [] else [old]:List Dig).length<=1:=by split <;> simp
 have hfl: ((if old=zD then [] else [old]:List Dig).flatMap ax).length<=16:=by split <;> simp[fF]
 have a1:=ek (n:=3) (by omega);have a2:=ek (n:=(if old=zD then [] else [old]:List Dig).length) (by omega);have a3:=ek (n:=tm.toNat) (by have:=h.t1;omega);have a4:=ek (n:=(toL au).length) (by rw[<-aP];omega);have a5:=ek (n:=(toL ms).length) (by rw[<-aP];omega);have b1: (toL au).length<=24:=by rw[<-aP];exact hs
 have b2: (toL ms).length<=200:=by rw[<-aP];exact hms
 show(aj 3++fE _).length<=65536;unfold fE bF;simp only[if_true];rw[if_neg (by omega)];simp only[ae,ak,fF];omega
open Classical in
noncomputable def gH(p:List Itm)(rs:List Rf)(lg:List Upd)(nm:MR)(l:List Fl)(au ms:MR)(tm:Int):fw×Dig :=
 if(bV rs lg nm).2≠0/\ (bV rs lg nm).2≠8 then(.no,zD) else
 if TckR l 0 then match sto 101 p l with
  | none=>(.no,zD)
  | some (q,root) =>
    if(bV rs lg nm).1≠zD/\∃o,aL p (bV rs lg nm).1=some o/\o.tree=root then(.keep,zD)
    else match bC q (bF root (bV rs lg nm).1 au ms tm) with
     | none=>(.no,zD)
     | some q2=>(cK p rs lg q2 [(nm,(bV rs lg nm).1,dgO (bF root (bV rs lg nm).1 au ms tm))],dgO (bF root (bV rs lg nm).1 au ms tm))
 else(.no,zD)
def iZ(r:Rp)(d:Dig)(x:Int)(w:MQ)(e:Ending)(w':MQ):Prop:=∃s,e= .returned (.tuple #[rpV r s,aB d,.int .i64 x])/\RpM w' w'.heap.size r s/\Below w.heap.size w w'
def CmtE(r:Rp)(a u:Nat)(t:fw×Dig)(w:MQ)(e:Ending)(w':MQ):Prop:=match t.1 with
 | .no=>∃x:Int,x≠0/\x≠20/\iZ zRp zD x w e w'
 | .keep=>iZ r zD 0 w e w'
 | .app g p rs lg=>iZ (after r (cB r.d a u (aN g)) p rs lg).1 (if(after r (cB r.d a u (aN g)) p rs lg).2=0 then t.2 else zD) (after r (cB r.d a u (aN g)) p rs lg).2 w e w'
 | .rew _ _ _ _=>False
theorem CmtE.of{r:Rp}{a u:Nat}{pl:fw}{w W w':MQ}{e:Ending}(hne: (∃g p rs lg,pl= .app g p rs lg)∨pl= .no)(h:ExE r a u pl W e w') :
  ∃(r':Rp)(x:Int),dO r' x W e w'/\∀(pd:Dig)(wf:MQ)(s':Rsl),RpM wf wf.heap.size r' s'->Below w.heap.size w wf->CmtE r a u (pl,pd) w (.returned (.tuple #[rpV r' s',aB (if x=0 then pd else zD),.int .i64 x])) wf:=by
 rcases hne with ⟨g,p,rs,lg,rfl⟩ | rfl
 . exact⟨_,_,h,fun pd wf s' h1 h2=>⟨s',rfl,h1,h2⟩⟩
 . obtain⟨x,h1,h2,h3⟩:=h
   exact⟨_,x,h3,fun pd wf s' h4 h5=>⟨x,h1,h2,s',by rw[if_neg h1],h4,h5⟩⟩
theorem JL(rs:List Rf)(lg:List Upd)(nm:MR): (bV rs lg nm).2≠20:=by
 have h:aV rs lg≠20:=by
  unfold aV
  repeat' split
  . decide
  . exact uJ lg []
  . decide
  . decide
 unfold bV
 repeat' split
 . exact h
 all_goals simp
theorem K8(rs:List Rf)(lg:List Upd)(nm:MR): ((bV rs lg nm).2=8-> (bV rs lg nm).1=zD)/\ ((bV rs lg nm).2=0-> (bV rs lg nm).1≠zD):=by
 unfold bV
 repeat' split
 . rename_i h;exact⟨fun _=>rfl,fun h2=>absurd h2 h⟩
 . exact⟨fun _=>rfl,fun h2=>by simp at h2⟩
 . rename_i h;exact⟨fun h2=>by simp at h2,fun _=>h⟩
 . exact⟨fun _=>rfl,fun h2=>by simp at h2⟩
theorem KQ{l:List Fl}{z:Int}(h:TckR l z):z≠20:=by
 have ht:∀(l:List Fl)(p:Option MR),eU p l≠20:=by
  intro l
  induction l with
  | nil=>intro p;simp[eU]
  | cons f l ih=>intro p;unfold eU;repeat' split
                 . exact ih _
                 . decide
                 . decide
 rcases h with ⟨_,rfl⟩ | ⟨_,_,rfl⟩ | ⟨_,_,⟨_,rfl⟩ | ⟨_,rfl⟩⟩
 . decide
 . exact ht _ _
 . decide
 . decide
theorem JH{p q:List Itm}{rs:List Rf}{lg us:List Upd}(hu:us≠ []): (∃g p' rs' lg',cK p rs lg q us= .app g p' rs' lg')∨cK p rs lg q us= .no:=by
 unfold cK;split
 . rw[if_neg (fun h=>hu h.2)];exact .inl ⟨_,_,_,_,rfl⟩
 . exact .inr rfl
theorem Be{rs:List Rf}{lg:List Upd}{nm:MR}(h:∀r∈rs,WfD r.2):WfD (bV rs lg nm).1:=by
 have hg:∀l:List Rf,(∀r∈l,WfD r.2)->WfD (cZ l nm):=by
  intro l
  induction l with
  | nil=>intro _;exact jR
  | cons r l ih =>
    intro h;unfold cZ;split
    . exact h r (by simp)
    . exact ih (fun x hx=>h x (by simp[hx]))
 unfold bV
 repeat' split
 . exact jR
 . exact jR
 . exact hg rs h
 . exact jR
end
theorem kW{a b:List Itm}(ha:AscI a)(hb:AscI b)(hc:¬iW a b):∀(n i j:Nat)(out:List Itm),(a.length - i)+ (b.length - j)<=n->UAt a b i j out->∃r,UniR a b r
 | 0,i,j,out,hn,h=>⟨out,h.done (by omega) (by omega)⟩
 | n+1,i,j,out,hn,h=>by
   rcases Nat.lt_or_ge i a.length with hi | hi
   . have hx:a[i]? =some a[i]:=Z6 hi
     rcases Nat.lt_or_ge j b.length with hj | hj
     . have hy:b[j]? =some b[j]:=Z6 hj
       by_cases h1:ltD a[i].1 b[j].1
       . exact kW ha hb hc n _ _ _ (by omega) (h.fst ha hx (oI hb hy h1))
       by_cases h2:ltD b[j].1 a[i].1
       . exact kW ha hb hc n _ _ _ (by omega) (h.snd hb hy (oI ha hx h2))
       have h3:=kI h1 h2;by_cases h4:a[i].2=b[j].2
       . exact kW ha hb hc n _ _ _ (by omega) (h.both ha hb hx (by rw[hy,Prod.ext h3 h4]))
       . exact absurd (zu hx hy h3 h4) hc
     . exact kW ha hb hc n _ _ _ (by omega) (h.fst ha hx (oD hj))
   . rcases Nat.lt_or_ge j b.length with hj | hj
     . have hy:b[j]? =some b[j]:=Z6 hj
       exact kW ha hb hc n _ _ _ (by omega) (h.snd hb hy (oD hi))
     . exact⟨out,h.done hi hj⟩
theorem KZ{a b:List Itm}(ha:PlOk a)(hb:PlOk b)(hc:¬iW a b):∃r,UniR a b r:=kW ha.asc hb.asc hc _ 0 0 [] ai (UAt.start a b)
/-! ### acts -/
structure Ac where
 kind:Int
 nm:MR
 fs:List Fl
 pl:List Itm
 us:List Upd
 left:Int
 pk:List Int
structure AcF(x:Ac):Prop where
 pn:x.pl.length<=40
 ps:∀i∈x.pl,i.2.size<=500
 pw:∀i∈x.pl,WfD i.1
 un:x.us.length<=12
 us:∀u∈x.us,u.1.size<=150
 uw:∀u∈x.us,WfU u
 fn:x.fs.length<=10
 fs:∀f∈x.fs,f.1.size<=120/\f.2.size<=200
 kn:x.pk.length<=20
 nm:x.nm.size<=120
 lm:x.left<=9223372036854775807
def dB:MR:=⟨#[97,110,110]⟩
def nL:MR:=⟨#[109,101,115,115,97,103,101]⟩
theorem Mc:nH dB nL 7:=⟨by decide +kernel,by decide,by decide,by decide⟩
noncomputable def iG(x:Ac)(p:List Itm)(rs:List Rf)(lg:List Upd):fw :=
 if x.kind=0 then(gH p rs lg x.nm x.fs dB nL 7).1 else if x.kind=1 then cK p rs lg x.pl x.us else fB p rs lg
def jw(gs:List Gru):fw->Prop
 | .app g p rs lg=>dS (aN g)=true->Mt (gs++ [g]) p rs lg
 | .rew g p rs lg=>Mt [g] p rs lg
 | _=>True
theorem tN{gs:List Gru}{p q:List Itm}{rs:List Rf}{lg us:List Upd}(h:Mt gs p rs lg)(hu:∀u∈us,u.1.size<=65536/\WfU u):jw gs (cK p rs lg q us):=by
 cases hpl:cK p rs lg q us with
 | no=>trivial
 | keep=>trivial
 | app g p' rs' lg' =>
   have hh:=hpl;unfold cK at hh;split at hh
   . rename_i hc
     split at hh
     . cases hh
     . intro hf
       have hg: (us,aU (dA p q))=g:=by injection hh
       have h1:=(fitB_iff.1 hf).1;rw[<-hg]at h1;simp only[aN,aU,Z5,List.length_map]at h1;exact(h.app hu (by omega) hpl (fun hc'=>KZ h.pl hc.1 hc')).2
   . cases hh
 | rew g p' rs' lg' =>
   exfalso
   unfold cK at hpl;split at hpl
   . split at hpl <;> cases hpl
   . cases hpl
theorem uu{gs:List Gru}{p:List Itm}{rs:List Rf}{lg:List Upd}{nm au ms:MR}{l:List Fl}{tm:Int}(h:Mt gs p rs lg)(hn:nm.size<=65536):jw gs (gH p rs lg nm l au ms tm).1:=by
 have hw:WfD (bV rs lg nm).1:=Be (fun x hx=>by
  obtain⟨⟨o,ho,_⟩,_⟩:=compl_zero.1 (h.co x hx);rw[mW h.pl ho];exact eP _)
 unfold gH;split
 . trivial
 . split
   . split
     . trivial
     . split
       . trivial
       . split
         . trivial
         . exact tN h (fun u hu=>by rw[List.mem_singleton.1 hu];exact⟨hn,hw,eP _⟩)
   . trivial
theorem I7{gs:List Gru}{p:List Itm}{rs:List Rf}{lg:List Upd}(h:Mt gs p rs lg)(hp:p.length<=49000):jw gs (fB p rs lg):=by
 cases hpl:fB p rs lg with
 | no=>trivial
 | keep=>trivial
 | app g p' rs' lg' =>
   exfalso
   unfold fB at hpl;split at hpl <;> cases hpl
 | rew g p' rs' lg'=>exact(h.rew (by omega) hpl).2
theorem Al:∀(os:List Dop)(d:Dk),(os.foldl doO d).sz=d.sz/\ (os.foldl doO d).ss.length=d.ss.length
 | [],d=>⟨rfl,rfl⟩
 | o::os,d=>by
   obtain⟨h1,h2⟩:=Al os (doO d o);obtain⟨k1,k2⟩:=tJ d o;exact⟨h1.trans k1,h2.trans k2⟩
theorem jJ(os:List Dop)(d:Dk): (aH d os).1.sz=d.sz/\ (aH d os).1.ss.length=d.ss.length:=by
 obtain⟨pre,suf,_,h2,_⟩:=mq os d;rw[h2];exact Al pre d
theorem Bv:∀(os:List Dop)(d:Dk),(os.foldl doO d).pn.length<=d.pn.length+os.length
 | [],d=>Nat.le_refl _
 | o::os,d=>by
   have h1:=Bv os (doO d o);have h2: (doO d o).pn.length<=d.pn.length+1:=by cases o <;> simp[doO]
   rw[List.foldl_cons,Z5];omega
theorem Co(os:List Dop)(d:Dk): (aH d os).1.pn.length<=d.pn.length+os.length:=by
 obtain⟨pre,suf,h1,h2,_⟩:=mq os d;have:=Bv pre d;rw[h2,h1,ae];omega
theorem yo(p e sz:Nat)(S:List MU): (dh p S e sz).length<=S.length+1:=by
 unfold dh;rw[ae,List.length_map,List.length_zipIdx];split <;> simp
theorem Ee(S:List MU): (gZ S).length=S.length:=by cases S <;> rfl
theorem CB(ss:List MU):hf ss<=ss.length:=by unfold hf;omega
theorem yj(gs:List Gru)(g:Gru):recs (gs++ [g])=recs gs++aN g:=by simp[recs]
theorem Iz(g:Gru):recs [g]=aN g:=by simp[recs]
def Out(d:Dk)(old l new:List MU)(y:Dk×Int):Prop :=
 (dS l=true/\y.1.sz=d.sz/\y.1.ss.length=d.ss.length/\y.1.pn.length<=d.ss.length+4/\ ((y.2=0/\Dur y.1 new)∨ (y.2=20/\Brk y.1 old new)))∨ (y.2≠0/\y.2≠20)
theorem KD{d:Dk}{rs l:List MU}{a u:Nat}(h:Dur d rs)(hj:Jn d.sz d.ss a rs u):Out d rs l (rs++l) (cB d a u l):=by
 unfold cB;by_cases h1:dS l=true
 . rw[if_neg (by simpa using h1)]
   by_cases h2:hf d.ss - u< (secs d.sz (az l)).length
   . rw[if_pos h2];exact .inr ⟨by decide,by decide⟩
   . rw[if_neg h2]
     have h3:=Co (eD d.sz d.ss a u (secs d.sz (az l))) d;have h4:=yo (aC d.ss a+u) (aC d.ss a+hf d.ss) d.sz (gZ (secs d.sz (az l)));rw[Ee]at h4;rw[h.pn]at h3;have h5:=CB d.ss;refine .inl ⟨h1,(jJ _ d).1,(jJ _ d).2,by unfold eD at h3;simp only[ae,List.length_map,Z5,List.length_nil]at h3;exact Z0 h3 (by omega),KC h hj ⟨fitB_iff.1 h1,rfl⟩ (by omega)⟩
 . rw[if_pos (by simpa using h1)];exact .inr ⟨by decide,by decide⟩
theorem Ko{d:Dk}{rs l:List MU}{a u:Nat}(h:Dur d rs)(hj:Jn d.sz d.ss a rs u):Out d rs l l (dC d a l):=by
 unfold dC;by_cases h1:dS l=true
 . rw[if_neg (by simpa using h1)]
   by_cases h2:hf d.ss< (secs d.sz (az l)).length
   . rw[if_pos h2];exact .inr ⟨by decide,by decide⟩
   . rw[if_neg h2]
     have h3:=Co (eY d.sz d.ss a (secs d.sz (az l))) d;have h4:=yo (aC d.ss (3 - a)) (aC d.ss (3 - a)+hf d.ss) d.sz (secs d.sz (az l));rw[h.pn]at h3;have h5:=CB d.ss;refine .inl ⟨h1,(jJ _ d).1,(jJ _ d).2,by unfold eY at h3;simp only[ae,List.length_map,Z5,List.length_nil]at h3;exact Z0 h3 (by omega),JF h hj ⟨fitB_iff.1 h1,rfl⟩ (by omega)⟩
 . rw[if_pos (by simpa using h1)];exact .inr ⟨by decide,by decide⟩
def jS(r:Rp)(y:Dk×Int)(p:List Itm)(rs:List Rf)(lg:List Upd):Rp×Int :=
 if y.2=0 then(⟨y.1,p,rs,lg⟩,0) else if y.2=20 then({r with d:=y.1},20) else(r,y.2)
structure RI(r:Rp):Prop where
 n:r.d.ss.length<=100
 z:r.d.sz<=128
 pn:r.d.pn.length<=1000
 st: (∃gs,Dur r.d (recs gs)/\Mt gs r.p r.rs r.lg)∨ (∃gs gs' p' rs' lg',Brk r.d (recs gs) (recs gs')/\Mt gs r.p r.rs r.lg/\Mt gs' p' rs' lg')
theorem RI.ok{r:Rp}(h:RI r):r.d.Ok:=by
 rcases h.st with ⟨_,h,_⟩ | ⟨_,_,_,_,_,h,_⟩
 . exact h.ok
 . exact h.ok
theorem RI.live{r:Rp}(h:RI r)(hl:r.d.lf≠0):∃gs a u,Dur r.d (recs gs)/\Jn r.d.sz r.d.ss a (recs gs) u/\Mt gs r.p r.rs r.lg:=by
 rcases h.st with ⟨gs,h,m⟩ | ⟨_,_,_,_,_,h,_⟩
 . obtain⟨a,u,hj⟩:=h.jn
   exact⟨gs,a,u,h,hj,m⟩
 . exact absurd h.lf hl
theorem zK{r:Rp}{gs gs':List Gru}{y:Dk×Int}{l:List MU}{p:List Itm}{rs:List Rf}{lg:List Upd}(hr:RI r)(hM:Mt gs r.p r.rs r.lg)(ho:Out r.d (recs gs) l (recs gs') y)(hM':dS l=true->Mt gs' p rs lg):RI (jS r y p rs lg).1:=by
 unfold jS;have hn:=hr.n;rcases ho with ⟨hf,h1,h2,hp,⟨h3,h4⟩ | ⟨h3,h4⟩⟩ | ⟨h3,h4⟩
 . rw[if_pos h3]
   exact⟨by show y.1.ss.length<=100;rw[h2];exact hr.n,by show y.1.sz<=128;rw[h1];exact hr.z,by show y.1.pn.length<=1000;omega,.inl ⟨gs',h4,hM' hf⟩⟩
 . rw[if_neg (by rw[h3];decide),if_pos h3]
   exact⟨by show y.1.ss.length<=100;rw[h2];exact hr.n,by show y.1.sz<=128;rw[h1];exact hr.z,by show y.1.pn.length<=1000;omega,.inr ⟨gs,gs',p,rs,lg,h4,hM,hM' hf⟩⟩
 . rw[if_neg h3,if_neg h4];exact hr
def gU(r:Rp)(left:Int):Rp:=if r.d.lf= -1/\0<=left then {r with d:={r.d with lf:=left % 40}} else r
theorem Kr{r:Rp}(h:RI r){left:Int}:RI (gU r left):=by
 unfold gU;split
 . rename_i hc
   obtain⟨gs,a,u,h1,h2,h3⟩:=h.live (by rw[hc.1];decide);refine⟨h.n,h.z,h.pn,.inl ⟨gs,⟨?_,h1.pn,⟨a,u,h2⟩⟩,h3⟩⟩;exact {h1.ok with lf:=by show -1<=left % 40;omega,lm:=by show left % 40<=_;omega}
 . exact h
theorem RI.cut{r:Rp}(h:RI r)(ps:List Int):∃gs p rs lg,Dur (dJ r.d ps) (recs gs)/\Mt gs p rs lg/\RI ⟨dJ r.d ps,p,rs,lg⟩/\ (r.d.lf≠0->p=r.p/\rs=r.rs/\lg=r.lg):=by
 have hn: (dJ r.d ps).ss.length<=100:=by show(bS _ _ _ _).length<=100;rw[kv];exact h.n
 have hz: (dJ r.d ps).sz<=128:=h.z;rcases h.st with ⟨gs,h1,m⟩ | ⟨gs,gs',p',rs',lg',h1,m,m'⟩
 . exact⟨gs,r.p,r.rs,r.lg,h1.cut ps,m,⟨hn,hz,ZZ _,.inl ⟨gs,h1.cut ps,m⟩⟩,fun _=>⟨rfl,rfl,rfl⟩⟩
 . rcases h1.cut ps with h2 | h2
   . exact⟨gs,r.p,r.rs,r.lg,h2,m,⟨hn,hz,ZZ _,.inl ⟨gs,h2,m⟩⟩,fun h=>absurd h1.lf h⟩
   . exact⟨gs',p',rs',lg',h2,m',⟨hn,hz,ZZ _,.inl ⟨gs',h2,m'⟩⟩,fun h=>absurd h1.lf h⟩
end Go.Proofs.YtknefelegjlgnaaGreatDoor
