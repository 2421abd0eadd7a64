/-
  Lemmas of the card.
-/
import Derived.Test.YtknefelegjlgnaaGreatDoorCCCp13
set_option maxRecDepth 100000
set_option maxHeartbeats 16000000
namespace Go.Proofs.YtknefelegjlgnaaGreatDoor
open Go.RowKit
section
open Go.Maps
theorem Qz: (Tryz.prog.info? 82).map (fun i=>(i.zero,i.size,i.bytes))=some (some (.agg #[.string ⟨#[]⟩,.string ⟨#[]⟩]),2,32):=by kernel_rfl
theorem Qr(s:UX): (Value.agg (iI s))=obV (eU s) zOs:=rfl
theorem O8(w:UW)(B:Nat)(s:UX):ObM w B (eU s) zOs:=⟨Sl.nil _ _ _ _,Sl.nil _ _ _ _,Nat.le_refl _,ZX _,Nat.le_refl _,ZX _⟩
theorem Qo(w:UW)(x y:UX):∀j u,[Value.string x,.string y][j]? =some u-> (w.alloc (.cells #[.string x,.string y] 82)).cell? (Addr.add ⟨w.heap.size,0,none⟩ j)=some u:=by
 intro j u hj;have hb:Bk (w.alloc (.cells #[.string x,.string y] 82)) w.heap.size 82 #[.string x,.string y]:=Bk.new w _ _;rw[Addr.add_lit,hb.cell];rcases j with _ | _ | j
 . simpa using hj
 . simpa using hj
 . simp at hj
theorem SC{l:List Fl}(h: (l.map Prod.fst).Nodup){k:Nat}{f:Fl}(hf:l[k]? =some f):f.1∉ (l.take k).map Prod.fst:=by
 intro hm;rw[List.map_take]at hm;obtain⟨i,hi,e⟩:=List.getElem_of_mem hm;rw[List.length_take]at hi;rw[List.getElem_take]at e;obtain⟨h1,h2⟩:=List.getElem?_eq_some_iff.1 hf;have h3: (l.map Prod.fst)[k]'(by simpa using h1)=f.1:=by rw[List.getElem_map,h2]
 exact List.pairwise_iff_getElem.1 h i k (by omega) (by simpa using h1) (by omega) (e.trans h3.symm)
section
variable {w w' : UW} {base : Nat} {A0 A A' : OA} {c0 c c' : Nat} {p q q' : List Itm}
theorem Ply.below(h:Ply w base A0 c0 p A c q)(hb:U0 w w'):Ply w' base A0 c0 p A c q:=by
 rcases h with h | h
 . exact .inl h
 . exact .inr (gJ h hb)
theorem Ply.box(h:Ply w base A0 c0 p A c q){b:Nat}{t:TypeId}{cs:Array UY}(hb:Bk w b t cs)(hne:118≠t)(i:Nat)(x:UY):Ply (w.setCell ⟨b,i,none⟩ x) base A0 c0 p A c q:=by
 rcases h with h | h
 . exact .inl h
 . exact .inr (ji h hb hne i x)
theorem Ply.others(h:Ply w base A0 c0 p A c q){e:TypeId}(ho:OthersKept e w w')(hne:118≠e):Ply w' base A0 c0 p A c q:=by
 rcases h with h | h
 . exact .inl h
 . exact .inr (ho _ _ _ _ _ _ hne h)
theorem Ply.trans{n':Nat}(h:Ply w base A0 c0 p A c q)(hb:U0 w w')(k:Ply w' n' A c q A' c' q')(hn:base<=n'):Ply w' base A0 c0 p A' c' q':=by
 rcases k with ⟨rfl,rfl,rfl⟩ | k
 . exact h.below hb
 . exact .inr (kW k hn)
theorem Ply.sl{B:Nat}(h:Ply w base A0 c0 p A c q)(h0:Sl w B 3 A0 p.length (flat itC p))(hB:B<=w.heap.size):Sl w w.heap.size 3 A q.length (flat itC q):=by
 rcases h with ⟨rfl,_,rfl⟩ | h
 . exact h0.more hB
 . exact Sl.of_own h
end
def zN(k:Nat)(l:List Fl)(A0:OA)(c0:Nat)(p:List Itm)(w:UW)(e:Ending)(w':UW):Prop :=
 ((∃q d A c,sto k p l=some (q,d)/\qJ p q d l/\e= .returned (.tuple #[.slice A q.length c,aA d,.int .i64 0])/\Sl w' w'.heap.size 3 A q.length (flat itC q)/\q.length<=c/\c<=maxLen/\Ply w' w.heap.size A0 c0 p A c q)∨ (sto k p l=none/\e= .returned (.tuple #[.slice none 0 0,aA zD,.int .i64 16])))/\U0 w w'
def zH(k:Nat):Prop:=∀(l:List Fl),OkL l-> (∀f∈l,f.1.size<=k)->∀(p:List Itm)(A:OA)(n c:Nat)(A1:OA)(m c1 B:Nat)(w:UW),
  Sl w B 3 A n (flat itC p)->Sl w B 2 A1 m (flat flC l)->B<=w.heap.size->n<=c->c<=maxLen->PlOk p->n+wt l<=800000 ->
  Calls Tryz.prog 124 #[.slice A n c,.slice A1 m c1] w (zN (k+1) l A c p w)
theorem BQ(k:Nat)(ih:∀k',k=k'+1->zH k'):zH k:=by
 intro l hl hlk p A n c A1 m c1 B w hp0 hl0 hB hnc hcm hpo hsz;have X:=ai (hp0.len di (by omega));have BB:=ai (hl0.len jb (by omega));have Vf:=ai hp0;have Vg:=ai hl0;have C:=ai hl;have KF:=ai hlk;have Vh:=ai hnc;have HCM:=ai hcm;have Vj:=ai hpo;have uA:=ai hsz;have IH:=ai ih;have fU:Hid (∀(W:UW)(Ax:OA)(cx:Nat)(qx:List Itm),Ply W w.heap.size A c p Ax cx qx->U0 w W->Sl W W.heap.size 3 Ax qx.length (flat itC qx)):=fun W Ax cx qx h hb=>by
  have h1:=Vf.o;rw[<-X.o]at h1;exact h.sl (h1.below hb hB) (by have:=hb.size;omega)
 have hm2:m<=200:=by rw[<-BB.o];exact hl.few
 clear hp0 hl0 hl hlk hnc hcm hpo hsz ih;have hmm:=@run_makeMap Tryz.prog;obtain⟨W0,hW0⟩:=NX9 (((w.alloc (.cells #[.int .u64 0,.int .u64 0] 50)).alloc (.map #[] 0)).alloc (.map #[] 0))
 have HD0:Hid (Bk W0 w.heap.size 50 #[.int .u64 0,.int .u64 0]):=by rw[<-hW0];exact((Bk.new w _ _).alloc _).alloc _
 have KR:Hid (StM W0 (w.heap.size+1) (w.heap.size+2) (w.heap.size+3) 0 (fun _=>none) (fun _=>none) (l.take 0)):=by
  show StM _ _ _ _ _ _ _ [];rw[<-hW0];have:=StM.start (w.alloc (.cells #[.int .u64 0,.int .u64 0] 50)) (w.heap.size+3);rw[Z9]at this;exact this
 have HB0:U6 w W0:=by rw[<-hW0];exact(((ah _ w).alloc aj _).alloc (by simp) _).alloc (by simp;omega) _
 have VD:w.heap.size+3=W0.heap.size:=by rw[<-hW0];simp
 have HW0:=ai hW0;clear hW0
 go_enter Tryz.func124,Tryz.ntmps124
 go_wp2_with fail;rw[HW0.o];go_wp2_with fail
 go_loopw[26] (fun i wr=>∃(j:Nat)(gb gf:UX->Option UY),j<=m/\i= .int .i64 (j:Int)/\Hid (StM wr (w.heap.size+1) (w.heap.size+2) (w.heap.size+3) j gb gf (l.take j))/\Hid (Bk wr w.heap.size 50 #[.int .u64 0,.int .u64 0])/\U6 w wr/\w.heap.size+3<=wr.heap.size) (fun i _=>m - (intOf i).toNat)
 case atStart=>exact⟨0,_,_,ZX _,rfl,KR.o,HD0.o,HB0.o,by omega⟩
 case round =>
  clear KR HD0 HB0 HW0;obtain⟨j,gb,gf,hj,rfl,hS,hD,hBel,hwz⟩:=hrel;by_cases hlt:j<m
  . have hlz: (j:Int)< (m:Int):=by omega
    obtain⟨bb,off,f,rfl,hbB,hf,y0,y1⟩:=(Vg.o.below hBel.o hB).fl hlt;have HF:=ai hf;have uD:=C.o.path f (Z7 hf);have hfs:f.1.size<=100:=sF uD;have hns:=(xE (CS uD)).2;have Nc:=ai (SC C.o.nod hf);have PR:=ai (bJ hf);clear hf uD;obtain⟨fp,fd⟩:=f;simp only at y0 y1 hfs hns;obtain⟨W1,hW1⟩:=NX9 (wr.alloc (.cells #[.string fp,.string fd] 82))
    have gu:Hid (Bk W1 wr.heap.size 82 #[.string fp,.string fd]):=by rw[<-hW1];exact Bk.new wr _ _
    have HB1:U6 wr W1:=by rw[<-hW1];exact(ah _ wr).alloc aj _
    have HC:=ai (RP fp W1 (by unfold maxLen;omega));have UB:wr.heap.size<W1.heap.size:=gu.o.lt;obtain⟨x0,x1,_,_⟩:=gu.o.two;go_wp2_with fail;refine HC.o.mono ?_;rintro e w2 ⟨a,b,mo,rfl,hcr,hb2⟩;obtain⟨ha,hbq,hmo⟩:=Rj hcr;have HA:=ai ha;have Vk:=ai hbq;rw[<-ha]at hns;have Vl:=ai (gu.o.below hb2 UB);have HB2:U6 wr w2:=HB1.o.trans (hb2.mono HB1.o.size);have HS2:=ai (hS.o.below HB2.o);have HD2:=ai (hD.o.below HB2.o (by omega));have UE:U6 w w2:=hBel.o.trans (HB2.o.mono (by omega));have VE:wr.heap.size<w2.heap.size:=Nat.lt_of_lt_of_le UB hb2.size;obtain⟨x0,x1,_,_⟩:=Vl.o.two;clear hcr ha hbq hb2 HC hW1 gu HB1 hS hD;cases mo with
    | false =>
      have iU:Hid (deN fp=false):=hmo.symm;have Vm:Hid (a=fp):=by show _=_;rw[HA.o,mQ iU.o]
      have hsm:a.size<=maxLen:=by unfold maxLen;omega
      clear hmo
      go_wp2_with (at_mapUpdate;refine aN ?_)
      refine aH ?_;refine nZ rfl _ _ _ 274 rfl 9 82 Tryz.underlying9 Tryz.underlying274 (w.heap.size+2) j gf rfl HS2.o.f (by unfold maxLen;omega) a hsm _ rfl rfl ?_;intro w3 wz hg3;rw[Vm.o]at wz;have Vo:Hid (StM w3 (w.heap.size+1) (w.heap.size+2) (w.heap.size+3) (j+1) gb (upd gf fp (nP (fp,fd))) (l.take j++ [(fp,fd)])):=HS2.o.file (f:=(fp,fd)) (by omega) (by omega) iU.o Nc.o wz hg3;have HD3:=ai (HD2.o.grown hg3 (fun e=>by have:=Option.some.inj e;omega));have HB3:U6 w w3:=UE.o.grown hg3 (by omega) (fun k e=>by cases e;omega);have z3:=hg3.size;clear wz hg3 HS2 HD2;go_wp2_with fail;go_roundw
      case rel=>exact⟨j+1,gb,_,hlt,by go_num,by rw[PR.o];exact Vo.o,HD3.o,HB3.o,by omega⟩
      case measure=>simp[intOf];omega
    | true =>
      have iU:Hid (deN fp=true):=hmo.symm;have hsm:a.size<=maxLen:=by unfold maxLen;omega
      clear hmo;have hlk: (Instr.lookup 273 (.map (some (w.heap.size+1))) (.string a) false).run Tryz.prog w2= .ok ((gb a).getD jw) w2:=HS2.o.b.look Tryz.underlying9 Tryz.underlying273 (Tryz.zeroValue63 _) hsm;obtain⟨i0,hi,hz0,hz1,hz2⟩:=info_parts Qz;have Hi:=ai hi;have ku:=ai hz0;have kU:=ai hz1;have lg:=ai hz2;clear hi hz0 hz1 hz2;have UF:Hid ((inD (l.take j) a).length<=200):=by have:=FY (l.take j) a;have h2:=C.o.few;rw[List.length_take]at this;show _<=_;omega
      go_wp2_with (at_builtin;refine aN ?_)
      refine aH ?_;refine wpList_append_lies _ rfl (.tmp 42) (.tmp 47) 63 rfl (w.heap.size+3) 82 i0 _ 2 32 Tryz.underlying63 Hi.o ku.o kU.o lg.o rfl (by decide) ((gb a).getD jw) (inD (l.take j) a).length (flat flC (inD (l.take j) a)) rfl ?own _ 1 _ [.string b,.string fd] rfl rfl ?nw (by simp[Value.oneCell']) (by decide) ?l1 ?l2 ?l3 _ rfl ?_
      case own=>exact(HS2.o.alloc _).rows.own a
      case nw=>exact Qo w2 b fd
      case l1=>have:=UF.o;unfold maxLen;omega
      case l2=>have:=UF.o;omega
      case l3=>simp;omega
      intro g cap w4 ho hg hat hgl;have HO:=ai ho;have HG:=ai hg;have HAT:=ai hat
      have hrow:Hid (∀k,((gb a).getD jw).ownBlock=some k->w.heap.size+3<=k):=fun k e=>((HS2.o.rows.own a).lt k e).1;have Vp:=hg.size;rw[Z9]at Vp;clear ho hg hat hgl hlk
      go_wp2_with (at_mapUpdate;refine aN ?_)
      refine aH ?_;refine nZ rfl _ _ _ 273 rfl 9 63 Tryz.underlying9 Tryz.underlying273 (w.heap.size+1) j gb rfl ((HS2.o.alloc _).b.kept HG.o (fun e=>by have:=hrow.o _ e.symm;omega)) (by unfold maxLen;omega) a hsm _ rfl rfl ?_;intro w5 UG hg5;have Vq:Hid (StM w5 (w.heap.size+1) (w.heap.size+2) (w.heap.size+3) (j+1) (upd gb (fsN fp) (.slice (some ⟨g,0,none⟩) ((inD (l.take j) (fsN fp)).length+1) cap)) gf (l.take j++ [(fp,fd)])):=by
       have h1:=HO.o;have h2:=HG.o;have h3:=HAT.o;have h4:Rm w5 Tryz.prog 9 (w.heap.size+1) (j+1) (upd gb a (.slice (some ⟨g,0,none⟩) ((inD (l.take j) a).length+1) cap)):=UG;rw[HA.o]at h1 h2 h3 h4;rw[Vk.o]at h1;exact(HS2.o.alloc _).dir (f:=(fp,fd)) (by omega) iU.o Nc.o h1 h2 h3 h4 hg5
      have ag:U6 w w5:=((UE.o.alloc (by omega) _).grown HG.o (by simp;omega) (fun k e=>by have:=hrow.o _ e;omega)).grown hg5 (by omega) (fun k e=>by cases e;omega);have HD5:=ai (((HD2.o.alloc _).grown HG.o (fun e=>by have:=hrow.o _ e.symm;omega)).grown hg5 (fun e=>by have:=Option.some.inj e;omega));have Vr:w.heap.size+3<=w5.heap.size:=by have:=hg5.size;omega
      clear UG hg5 HO HG HAT HS2 HD2 hrow;go_wp2_with fail;go_roundw
      case rel=>exact⟨j+1,_,gf,hlt,by go_num,by rw[PR.o];exact Vq.o,HD5.o,ag.o,Vr⟩
      case measure=>simp[intOf];omega
  . have hlz:¬(j:Int)< (m:Int):=by omega
    have hjm:j=m:=by omega
    have N:Hid (StM wr (w.heap.size+1) (w.heap.size+2) (w.heap.size+3) m gb gf l):=by
     have:=hS.o;rw[hjm,ZU (by rw[BB.o];exact Nat.le_refl _)]at this;exact this
    obtain⟨O,hwo⟩:∃O,O=wr:=⟨_,rfl⟩
    subst hwo;obtain⟨W3,hW3⟩:=NX9 (O.alloc (.cells #[.map (some (w.heap.size+2))] 274))
    have xe:Hid (Bk W3 O.heap.size 274 #[.map (some (w.heap.size+2))]):=by rw[<-hW3];exact Bk.new O _ _
    have HB3:U6 O W3:=by rw[<-hW3];exact(ah _ O).alloc aj _
    have UH:=ai (N7 O.heap.size (w.heap.size+2) m gf W3 (N.o.f.below HB3.o N.o.f.lt) (xe.o.cell 0) xe.o.lt (by omega));have xn:=ai (NS (w.heap.size+2) O);have z3:O.heap.size+1=W3.heap.size:=by rw[<-hW3];simp
    rw[hW3]at xn;clear hS hW3;go_wp2_with fail;refine xn.o.mono ?_;rintro e w' ⟨rfl,hw'⟩;have hw2:=hw'.symm;clear hw';subst hw2;go_wp2_with fail;refine UH.o.mono ?_;rintro e w4 ⟨A4,c4,ks,rfl,hk4,hr4,hb4⟩;have lq:=ai hk4;have HR4:=ai hr4;have HB4:=ai hb4;have au:U6 O w4:=HB3.o.trans (hb4.mono HB3.o.size);have z4:W3.heap.size<=w4.heap.size:=hb4.size;clear hk4 hr4 hb4 UH xn;obtain⟨W5,bf⟩:=NX9 (w4.alloc (.cells #[.map (some (w.heap.size+1))] 273))
    have xA:Hid (Bk W5 w4.heap.size 273 #[.map (some (w.heap.size+1))]):=by rw[<-bf];exact Bk.new w4 _ _
    have ag:U6 w4 W5:=by rw[<-bf];exact(ah _ w4).alloc aj _
    have oO:U6 O W5:=au.o.trans (ag.o.mono au.o.size);have UI:Hid (W5.ownsRow W3.heap.size 9 1 (.slice A4 ks.length c4) ks.length (strs ks)):=by
     rw[<-bf];exact HR4.o.kept (World.grownBy_alloc w4 _ none) (by cases hv: (Value.slice A4 ks.length c4).ownBlock with | none=>exact .inl rfl | some k=>exact .inr (by simp))
    have UJ:=ai (P8 w4.heap.size (w.heap.size+1) m gb A4 ks.length c4 ks W3 W5 (N.o.b.below oO.o N.o.b.lt) (xA.o.cell 0) xA.o.lt UI.o (HB4.o.trans (ag.o.mono z4)) (by have:=lq.o.few;omega));have HKB:=ai (ND (w.heap.size+1) w4);rw[bf]at HKB;clear bf;go_wp2_with fail;refine HKB.o.mono ?_;rintro e w' ⟨rfl,hw'⟩;have hw2:=hw'.symm;clear hw';subst hw2;go_wp2_with fail;refine UJ.o.mono ?_;rintro e w6 ⟨A6,c6,qs,rfl,hq6,zf,hb6⟩;have UK:=ai (Qu C.o N.o.gbs N.o.gfs lq.o hq6);have hnl:ks.length+qs.length<=400:=by have:=lq.o.few;have:=hq6.few;omega
    have UL:=ai (Ee W3.heap.size (ks.length+qs.length) c6 A6 (ks++qs) w6 zf (by omega));have zk:=ai hb6;have UM:Hid (∀k,(Value.slice A6 (ks.length+qs.length) c6).ownBlock=some k->W3.heap.size<=k):=fun k hk=>(bT zf hk).1;clear zf hq6 hb6 UJ HKB lq HR4 UI;go_wp2_with fail;refine UL.o.mono ?_;rintro e w7 ⟨rfl,hs7,UN⟩;have UO:U6 W3 w7:=zk.o.grown UN zk.o.size (fun k e=>UM.o k e);have zo:Hid (Sl w7 w7.heap.size 1 A6 (ks.length+qs.length) (strs (cZ l))):=by
     have:=Sl.of_own hs7;rw[UK.o.1]at this;exact this
    have P:U6 O w7:=HB3.o.trans (UO.o.mono HB3.o.size);have oU:=ai (N.o.below P.o);have HD7:=ai (hD.o.below P.o (by omega));have Q:U6 w w7:=hBel.o.trans (P.o.mono (by omega));obtain⟨nn,hnn⟩:=NX9 (ks.length+qs.length)
    rw[hnn]at zo hnl;have zt:Hid ((cZ l).length=nn):=by have:=zo.o.1;rw[sH]at this;show _=_;omega
    have z7:w.heap.size+3<=w7.heap.size:=by have:=P.o.size;omega
    clear hs7 UN UM zk UL UO P N hD hBel HB3 xe HB4 au xA ag oO;obtain⟨W8,UQ⟩:=NX9 (w7.alloc (.cells #[.int .i64 2,.string ⟨#[]⟩,.slice none 0 0,.int .u64 0,.int .u64 0,.slice none 0 0,.string ⟨#[]⟩,.int .i64 0,.string ⟨#[]⟩] 109))
    have bg:=ai UQ;clear UQ;go_wp2_with fail;have UR:Hid (Bk W8 w7.heap.size 109 #[.int .i64 2,.string ⟨#[]⟩,.slice none 0 0,.int .u64 0,.int .u64 0,.slice none 0 0,.string ⟨#[]⟩,.int .i64 0,.string ⟨#[]⟩]):=by rw[<-bg.o];exact Bk.new w7 _ _
    have UT:U6 w7 W8:=by rw[<-bg.o];exact(ah _ w7).alloc aj _
    have z8:w7.heap.size+1=W8.heap.size:=by rw[<-bg.o];simp
    rw[bg.o];clear bg;obtain⟨i0,hi,hz0,hz1,hz2⟩:=info_parts GX;have Hi:=ai hi;have ku:=ai hz0;have kU:=ai hz1;have lg:=ai hz2;clear hi hz0 hz1 hz2
    go_loopw[0,65] (fun pv i wr=>∃(j:Nat)(q:List Itm)(es:List Ent)(Aq:OA)(cq:Nat)(EA:OA)(ec:Nat),pv= .slice Aq q.length cq/\i= .int .i64 (j:Int)/\j<=nn/\Hid (StoAt k l p j q es)/\Hid (Ply wr w.heap.size A c p Aq cq q)/\q.length<=cq/\cq<=maxLen ∧
     Hid (Apd wr (w7.heap.size+1) 185 4 EA j ec (flat enC es))/\j<=ec/\ec<=maxLen/\Hid (Bk wr w7.heap.size 109 #[.int .i64 2,.string ⟨#[]⟩,.slice EA j ec,.int .u64 0,.int .u64 0,.slice none 0 0,.string ⟨#[]⟩,.int .i64 0,.string ⟨#[]⟩])/\U6 w7 wr/\w7.heap.size+1<=wr.heap.size) (fun _ i _=>nn - (intOf i).toNat)
    case atStart=>exact⟨0,p,[],A,c,none,0,by rw[X.o],rfl,ZX _,StoAt.start Vj.o,.inl ⟨rfl,rfl,rfl⟩,by rw[X.o];exact Vh.o,HCM.o,.inr ⟨rfl,rfl,rfl⟩,Nat.le_refl _,ZX _,UR.o,UT.o,by omega⟩
    case round =>
     clear UR UT;obtain⟨j,q,es,Aq,cq,EA,ec,rfl,rfl,hj,hSt,F,hqc,hcq,zx,hje,Vs,zT,hBel,hwz⟩:=hrel;by_cases hlt:j<nn
     . have hlz: (j:Int)< (nn:Int):=by omega
       obtain⟨nb,VA,x,rfl,hnb,hx,y0⟩:=(zo.o.below hBel.o aj).str_at hlt;have HX:=ai hx;have VF:=(xE (zi C.o hx)).2;have hxd:=UK.o.2 x (Z7 hx);clear hx;obtain⟨We,Y⟩:=NX9 (wr.alloc (.cells #[.string x,.bool false,.int .u64 0,.int .u64 0] 185))
       have zW:Hid (Bk We wr.heap.size 185 #[.string x,.bool false,.int .u64 0,.int .u64 0]):=by rw[<-Y];exact Bk.new wr _ _
       have bn:U6 wr We:=by rw[<-Y];exact(ah _ wr).alloc aj _
       have ze:wr.heap.size+1=We.heap.size:=by rw[<-Y];simp
       have qc:=ai (oU.o.below (hBel.o.trans (bn.o.mono (by omega))));have hsm:x.size<=maxLen:=by unfold maxLen;omega
       have hlk: (Instr.lookup 274 (.map (some (w.heap.size+1+1))) (.string x) true).run Tryz.prog (wr.alloc (.cells #[.string x,.bool false,.int .u64 0,.int .u64 0] 185))= .ok (.tuple #[(gf x).getD (.agg #[.string ⟨#[]⟩,.string ⟨#[]⟩]),.bool (gf x).isSome]) (wr.alloc (.cells #[.string x,.bool false,.int .u64 0,.int .u64 0] 185)):=by
        rw[Y];exact qc.o.f.look_ok Tryz.underlying9 Tryz.underlying274 (Tryz.zeroValue82 _) hsm
       have hgf:=qc.o.gfs x;rw[hxd]at hgf;have UU:Hid (q.length<=800000):=by have h1:=hSt.o.plen;have h2:=uA.o;rw[<-X.o]at h2;show _<=_;omega
       have VB:=ai F;have zX:=ai Y;clear Y;cases hlf:eG l x with
       | some s =>
         have Z:=ai hlf;rw[hlf]at hgf;simp only[Bool.false_eq_true,if_false,Option.map_some]at hgf;rw[hgf]at hlk;simp only[Option.getD_some,Option.isSome_some,nP]at hlk;clear hgf hlf;have hsd:=C.o.data _ ((oD C.o.nod).1 Z.o);simp only at hsd;obtain⟨W9,E⟩:=NX9 (We.alloc (.cells #[.string x,.string s] 82))
         have bz:Hid (Bk W9 wr.heap.size 185 #[.string x,.bool false,.int .u64 0,.int .u64 0]):=by rw[<-E];exact zW.o.alloc _
         have K:U6 wr W9:=by rw[<-E];exact bn.o.alloc bn.o.size _
         have Vt:Hid (Bk W9 We.heap.size 82 #[.string x,.string s]):=by rw[<-E];exact Bk.new We _ _
         have z9:We.heap.size+1=W9.heap.size:=by rw[<-E];simp
         have cu:=ai E;have Va:=ai (Ff s W9);clear E;go_wp2_with fail;rw[zX.o,cu.o];refine Va.o.mono ?_;rintro e w10 ⟨rfl,V⟩;have qA:=ai (bz.o.below V (by omega));have R:U6 wr w10:=K.o.trans (V.mono K.o.size);have z10:W9.heap.size<=w10.heap.size:=V.size;clear V Va bz K Vt cu zX zW bn;obtain⟨⟨d1,d2⟩,hdd⟩:∃d,dgO (eU s)=d:=⟨_,rfl⟩
         have y:=ai (xK Aq q.length cq w10.heap.size q (eU s) zOs w10 (fU.o _ _ _ _ (F.o.below R.o) (Q.o.trans ((hBel.o.mono (by omega)).trans (R.o.mono (by omega))))) (O8 _ _ _) aj hqc hcq (by have:=UU.o;omega) hSt.o.ok.asc (sK hsd));unfold PuE at y;rw[hdd]at y;simp only[aA,<-Qr]at y;have nz:=ai hdd;clear hdd;go_wp2_with fail;refine y.o.mono ?_;rintro e z ⟨hq,v⟩;have o:=ai (qA.o.below v (by omega));have u:U6 wr z:=R.o.trans (v.mono R.o.size);have z11:w10.heap.size<=z.heap.size:=v.size;clear v qA R;rcases hq with ⟨q2,A2,c2,hz,rfl,hs11,hc2,S,hy⟩ | ⟨hz,rfl⟩
         . have HZ:=ai hz;have HY:=ai hy
           have HST:=ai ((by have h9:=hSt.o.file C.o HX.o Z.o HZ.o;rw[nz.o]at h9;exact h9:StoAt k l p (j+1) q2 (es++ [⟨x,false,(d1,d2)⟩])));clear hz hy hs11 y;obtain⟨r,t⟩:=NX9 ((z.setCell ⟨wr.heap.size,2,none⟩ (.int .u64 d1)).setCell ⟨wr.heap.size,3,none⟩ (.int .u64 d2))
           have cO:Hid (Bk r wr.heap.size 185 #[.string x,.bool false,.int .u64 d1,.int .u64 d2]):=by rw[<-t];exact(o.o.set 2 (.int .u64 d1)).set 3 (.int .u64 d2)
           have G:U6 wr r:=by rw[<-t];exact(u.o.setCell (p:=⟨wr.heap.size,2,none⟩) aj _).setCell (p:=⟨wr.heap.size,3,none⟩) aj _
           have dn:Hid (Ply r w.heap.size A c p A2 c2 q2):=by
            rw[<-t];exact((F.o.trans u.o HY.o (by omega)).box o.o (by decide) 2 _).box (o.o.set 2 (.int .u64 d1)) (by decide) 3 _
           have z12:wr.heap.size<r.heap.size:=by rw[<-t];simp;omega
           have H:=ai (zT.o.below G.o (by omega));have T:=ai (zx.o.below G.o);have f2:=o.o.free 2;have f3:=o.o.free 3;have u2:=o.o.cell 2;have u3:=o.o.cell 3;simp at u2 u3;obtain⟨v0,v1,v2,v3⟩:=cO.o.four;obtain⟨o0,o1,o2,o3,o4,o5,o6,o7,o8⟩:=H.o.nine
           go_wp2_with (at_builtin;refine aN ?_)
           refine aH ?_;refine dZ (base:=w7.heap.size+1) (size:=4) _ rfl (.tmp 104) (.tmp 106) 107 rfl 185 i0 _ 40 Tryz.underlying107 Hi.o ku.o kU.o lg.o rfl (by decide) EA j ec (flat enC es) rfl ?own_1 (r.heap.size+1) _ 1 _ (enC ⟨x,false,(d1,d2)⟩) rfl ?nw_1 (by simp[enC,Value.oneCell']) ?m1_1 ?m2_1 ?m3_1 ?_
           case own_1=>exact T.o.below ((ah _ r).alloc aj _)
           case nw_1 =>
            have:=Sl.of_bk (n:=1) (size:=4) (Bk.new r 185 #[.string x,.bool false,.int .u64 d1,.int .u64 d2]) rfl;rw[Z9]at this;exact this
           case m1_1=>unfold maxLen;omega
           case m2_1=>omega
           case m3_1=>simp;omega
           intro A4 c4 L dN hb4 hn4 hm4 U;have ed:Hid (Apd L (w7.heap.size+1) 185 4 A4 (j+1) c4 (flat enC (es++ [⟨x,false,(d1,d2)⟩]))):=by
            show Apd _ _ _ _ _ _ _ _;rw[bI]
            simpa [flat] using dN
           have I:Hid (Below (w7.heap.size+1) r L):=((ah (w7.heap.size+1) r).alloc (by omega) _).trans hb4;have D:=ai (H.o.below I.o (Nat.lt_succ_self _));have fA:=ai ((dn.o.below ((ah _ r).alloc aj (.cells #[.string x,.bool false,.int .u64 d1,.int .u64 d2] 185))).others U (by decide));have Aj:U6 w7 L:=hBel.o.trans ((G.o.mono (by omega)).trans (I.o.mono (by omega)));have fO:w7.heap.size+1<=L.heap.size:=by have:=I.o.size;omega
           clear dN hb4 U o0 o1 o2 o3 o4 o5 o6 o7 o8 v0 v1 v2 v3 u2 u3 f2 f3 t o u T H;obtain⟨o0,o1,o2,o3,o4,o5,o6,o7,o8⟩:=D.o.nine;have g2:=D.o.free 2;go_wp2_with fail;go_roundw
           case rel=>exact⟨j+1,q2,_,A2,c2,A4,c4,by go_num,by go_num,hlt,HST.o,fA.o.box D.o (by decide) 2 _,hc2,S,ed.o.setCell (a:=⟨w7.heap.size,2,none⟩) (Nat.lt_succ_self _) _,hn4,hm4,D.o.set 2 (.slice A4 (j+1) c4),Aj.o.setCell (p:=⟨w7.heap.size,2,none⟩) aj _,by simpa using fO⟩
           case measure=>simp[intOf];omega
         . have HN:Hid (sto (k+1) p l=none):=hSt.o.filex HX.o Z.o hz
           have Ak:=ai (HD7.o.below (hBel.o.trans (u.o.mono (by omega))) (by omega));have Au:U6 w z:=Q.o.trans ((hBel.o.trans (u.o.mono (by omega))).mono (by omega));clear hz y;have f2:=o.o.free 2;have f3:=o.o.free 3;have u2:=o.o.cell 2;have u3:=o.o.cell 3;simp at u2 u3;obtain⟨r,t⟩:=NX9 ((z.setCell ⟨wr.heap.size,2,none⟩ (.int .u64 zD.1)).setCell ⟨wr.heap.size,3,none⟩ (.int .u64 zD.2))
           have M:Hid (Bk r w.heap.size 50 #[.int .u64 0,.int .u64 0]):=by rw[<-t];exact(Ak.o.far (p:=⟨wr.heap.size,2,none⟩) (by show w.heap.size≠wr.heap.size;omega) _).far (p:=⟨wr.heap.size,3,none⟩) (by show w.heap.size≠wr.heap.size;omega) _
           have AP:U6 w r:=by rw[<-t];exact(Au.o.setCell (p:=⟨wr.heap.size,2,none⟩) (by show w.heap.size<=wr.heap.size;omega) _).setCell (p:=⟨wr.heap.size,3,none⟩) (by show w.heap.size<=wr.heap.size;omega) _
           obtain⟨d0',d1',_,_⟩:=M.o.two;have e0:=M.o.free 0;have e1:=M.o.free 1;go_wp2_with fail;refine ZW (jO Tryz.results124 rfl rfl (M.o.set2 _ _) rfl) rfl ⟨.inr ⟨HN.o,rfl⟩,eP AP.o aj _ _⟩
       | none =>
         have Z:=ai hlf;have rf:=ai (SG (Z7 HX.o) hlf);rw[hlf]at hgf;simp only[Bool.false_eq_true,if_false,Option.map_none]at hgf;rw[hgf]at hlk;simp only[Option.getD_none,Option.isSome_none]at hlk;clear hgf hlf;obtain⟨W9,E⟩:=NX9 (((wr.alloc (.cells #[.string x,.bool false,.int .u64 0,.int .u64 0] 185)).alloc (.cells #[.string ⟨#[]⟩,.string ⟨#[]⟩] 82)).setCell ⟨wr.heap.size,1,none⟩ (.bool true))
         have nO:Hid (Bk ((wr.alloc (.cells #[.string x,.bool false,.int .u64 0,.int .u64 0] 185)).alloc (.cells #[.string ⟨#[]⟩,.string ⟨#[]⟩] 82)) wr.heap.size 185 #[.string x,.bool false,.int .u64 0,.int .u64 0]):=(Bk.new wr _ _).alloc _;have bz:Hid (Bk W9 wr.heap.size 185 #[.string x,.bool true,.int .u64 0,.int .u64 0]):=by rw[<-E];exact nO.o.set 1 (.bool true)
         have K:U6 wr W9:=by rw[<-E];exact(((ah _ wr).alloc aj _).alloc (by simp) _).setCell (p:=⟨wr.heap.size,1,none⟩) aj _
         have z9:wr.heap.size+2=W9.heap.size:=by rw[<-E];simp
         have uw:=ai (oU.o.below (hBel.o.trans (K.o.mono (by omega))));have hlb: (Instr.lookup 273 (.map (some (w.heap.size+1))) (.string x) false).run Tryz.prog (((wr.alloc (.cells #[.string x,.bool false,.int .u64 0,.int .u64 0] 185)).alloc (.cells #[.string ⟨#[]⟩,.string ⟨#[]⟩] 82)).setCell ⟨wr.heap.size,1,none⟩ (.bool true))= .ok ((gb x).getD jw) (((wr.alloc (.cells #[.string x,.bool false,.int .u64 0,.int .u64 0] 185)).alloc (.cells #[.string ⟨#[]⟩,.string ⟨#[]⟩] 82)).setCell ⟨wr.heap.size,1,none⟩ (.bool true)):=by
          rw[E];exact uw.o.b.look Tryz.underlying9 Tryz.underlying273 (Tryz.zeroValue63 _) hsm
         have cu:=ai E;have y1:=nO.o.cell 1;simp at y1;have f1:=nO.o.free 1;clear E;have HOW:=ai (uw.o.rows.own x);obtain⟨vb,hvb⟩:=NX9 ((gb x).getD jw)
         simp only[hvb]at HOW;have HV:Hid (∃Ab cb,vb= .slice Ab (inD l x).length cb):=by
          rcases HOW.o.2 with ⟨h1,h2⟩ | ⟨g,cap,cur,h1,_⟩
          . exact⟨none,0,by rw[h1,h2]⟩
          . exact⟨_,_,h1⟩
         obtain⟨Ab,cb,rfl⟩:=HV.o;rw[hvb]at hlb;have Vu:=ai (Sl.of_own HOW.o);have Vw:Hid (q.length+wt (inD l x)<=800000):=by
          have h1:=hSt.o.len;rw[xU HX.o]at h1;have h2:=Hg l x;have h3:=uA.o;rw[<-X.o]at h3;show _<=_;omega
         obtain⟨k',rfl⟩:∃k',k=k'+1:=by
          obtain⟨f,hf⟩:=List.exists_mem_of_ne_nil _ rf.o;obtain⟨g,hg,h1,_,_⟩:=mem_inD.1 hf;have h3:=(wK (C.o.path g hg) h1).2;have h4:=KF.o g hg;exact⟨k - 1,by omega⟩
         have y:=ai (IH.o k' rfl (inD l x) (C.o.sub x) (fun f hf=>by
          obtain⟨g,hg,h1,h2,rfl⟩:=mem_inD.1 hf;have h3:=(wK (C.o.path g hg) h1).2;have h4:=KF.o g hg;simp only;omega) q Aq q.length cq Ab (inD l x).length cb W9.heap.size W9 (fU.o _ _ _ _ (F.o.below K.o) (Q.o.trans ((hBel.o.mono (by omega)).trans (K.o.mono (by omega))))) Vu.o aj hqc hcq hSt.o.ok Vw.o)
         unfold zN at y;simp only[aA]at y;obtain⟨ib,hib⟩:=NX9 ((inD l x).length)
         rw[hib]at hlb y;clear hvb hib HOW;go_wp2_with fail;rw[cu.o];refine y.o.mono ?_;rintro e z ⟨hq,v⟩;have o:=ai (bz.o.below v (by omega));have u:U6 wr z:=K.o.trans (v.mono K.o.size);have z11:W9.heap.size<=z.heap.size:=v.size;clear v bz K cu hlb y1 f1 nO zX zW bn;rcases hq with ⟨q2,⟨d1,d2⟩,A2,c2,hz,hrr,rfl,hs11,hc2,S,hy⟩ | ⟨hz,rfl⟩
         . have HZ:=ai hz;have HY:=ai hy
           have HRR:=ai hrr;clear hrr;have HST:=ai (hSt.o.dir C.o HX.o Z.o HZ.o HRR.o rf.o);clear hz hy hs11 y;obtain⟨r,t⟩:=NX9 ((z.setCell ⟨wr.heap.size,2,none⟩ (.int .u64 d1)).setCell ⟨wr.heap.size,3,none⟩ (.int .u64 d2))
           have cO:Hid (Bk r wr.heap.size 185 #[.string x,.bool true,.int .u64 d1,.int .u64 d2]):=by rw[<-t];exact(o.o.set 2 (.int .u64 d1)).set 3 (.int .u64 d2)
           have G:U6 wr r:=by rw[<-t];exact(u.o.setCell (p:=⟨wr.heap.size,2,none⟩) aj _).setCell (p:=⟨wr.heap.size,3,none⟩) aj _
           have dn:Hid (Ply r w.heap.size A c p A2 c2 q2):=by
            rw[<-t];exact((F.o.trans u.o HY.o (by omega)).box o.o (by decide) 2 _).box (o.o.set 2 (.int .u64 d1)) (by decide) 3 _
           have z12:wr.heap.size<r.heap.size:=by rw[<-t];simp;omega
           have H:=ai (zT.o.below G.o (by omega));have T:=ai (zx.o.below G.o);have f2:=o.o.free 2;have f3:=o.o.free 3;have u2:=o.o.cell 2;have u3:=o.o.cell 3;simp at u2 u3;obtain⟨v0,v1,v2,v3⟩:=cO.o.four;obtain⟨o0,o1,o2,o3,o4,o5,o6,o7,o8⟩:=H.o.nine
           go_wp2_with (at_builtin;refine aN ?_)
           refine aH ?_;refine dZ (base:=w7.heap.size+1) (size:=4) _ rfl (.tmp 104) (.tmp 106) 107 rfl 185 i0 _ 40 Tryz.underlying107 Hi.o ku.o kU.o lg.o rfl (by decide) EA j ec (flat enC es) rfl ?own_1 (r.heap.size+1) _ 1 _ (enC ⟨x,true,(d1,d2)⟩) rfl ?nw_1 (by simp[enC,Value.oneCell']) ?m1_1 ?m2_1 ?m3_1 ?_
           case own_1=>exact T.o.below ((ah _ r).alloc aj _)
           case nw_1 =>
            have:=Sl.of_bk (n:=1) (size:=4) (Bk.new r 185 #[.string x,.bool true,.int .u64 d1,.int .u64 d2]) rfl;rw[Z9]at this;exact this
           case m1_1=>unfold maxLen;omega
           case m2_1=>omega
           case m3_1=>simp;omega
           intro A4 c4 L dN hb4 hn4 hm4 U;have ed:Hid (Apd L (w7.heap.size+1) 185 4 A4 (j+1) c4 (flat enC (es++ [⟨x,true,(d1,d2)⟩]))):=by
            show Apd _ _ _ _ _ _ _ _;rw[bI]
            simpa [flat] using dN
           have I:Hid (Below (w7.heap.size+1) r L):=((ah (w7.heap.size+1) r).alloc (by omega) _).trans hb4;have D:=ai (H.o.below I.o (Nat.lt_succ_self _));have fA:=ai ((dn.o.below ((ah _ r).alloc aj (.cells #[.string x,.bool true,.int .u64 d1,.int .u64 d2] 185))).others U (by decide));have Aj:U6 w7 L:=hBel.o.trans ((G.o.mono (by omega)).trans (I.o.mono (by omega)));have fO:w7.heap.size+1<=L.heap.size:=by have:=I.o.size;omega
           clear dN hb4 U o0 o1 o2 o3 o4 o5 o6 o7 o8 v0 v1 v2 v3 u2 u3 f2 f3 t o u T H;obtain⟨o0,o1,o2,o3,o4,o5,o6,o7,o8⟩:=D.o.nine;have g2:=D.o.free 2;go_wp2_with fail;go_roundw
           case rel=>exact⟨j+1,q2,_,A2,c2,A4,c4,by go_num,by go_num,hlt,HST.o,fA.o.box D.o (by decide) 2 _,hc2,S,ed.o.setCell (a:=⟨w7.heap.size,2,none⟩) (Nat.lt_succ_self _) _,hn4,hm4,D.o.set 2 (.slice A4 (j+1) c4),Aj.o.setCell (p:=⟨w7.heap.size,2,none⟩) aj _,by simpa using fO⟩
           case measure=>simp[intOf];omega
         . have HN:Hid (sto (k'+1+1) p l=none):=hSt.o.dirx HX.o Z.o hz
           have Ak:=ai (HD7.o.below (hBel.o.trans (u.o.mono (by omega))) (by omega));have Au:U6 w z:=Q.o.trans ((hBel.o.trans (u.o.mono (by omega))).mono (by omega));clear hz y;have f2:=o.o.free 2;have f3:=o.o.free 3;have u2:=o.o.cell 2;have u3:=o.o.cell 3;simp at u2 u3;obtain⟨r,t⟩:=NX9 ((z.setCell ⟨wr.heap.size,2,none⟩ (.int .u64 zD.1)).setCell ⟨wr.heap.size,3,none⟩ (.int .u64 zD.2))
           have M:Hid (Bk r w.heap.size 50 #[.int .u64 0,.int .u64 0]):=by rw[<-t];exact(Ak.o.far (p:=⟨wr.heap.size,2,none⟩) (by show w.heap.size≠wr.heap.size;omega) _).far (p:=⟨wr.heap.size,3,none⟩) (by show w.heap.size≠wr.heap.size;omega) _
           have AP:U6 w r:=by rw[<-t];exact(Au.o.setCell (p:=⟨wr.heap.size,2,none⟩) (by show w.heap.size<=wr.heap.size;omega) _).setCell (p:=⟨wr.heap.size,3,none⟩) (by show w.heap.size<=wr.heap.size;omega) _
           obtain⟨d0',d1',_,_⟩:=M.o.two;have e0:=M.o.free 0;have e1:=M.o.free 1;go_wp2_with fail;refine ZW (jO Tryz.results124 rfl rfl (M.o.set2 _ _) rfl) rfl ⟨.inr ⟨HN.o,rfl⟩,eP AP.o aj _ _⟩
     . have hlz:¬(j:Int)< (nn:Int):=by omega
       have Vb:Hid (j=nn):=by show _=_;omega
       have nU:U6 w wr:=Q.o.trans (hBel.o.mono (by omega));have Vx:=ai (HD7.o.below hBel.o (by omega));have VC:Hid (es.length=j):=hSt.o.elen (by rw[zt.o];exact hj);have Vy:=ai (hSt.o.es C.o);have y:=ai (xK Aq q.length cq wr.heap.size q (dY es) ⟨EA,j,ec,none,0,0⟩ wr (fU.o _ _ _ _ F.o nU.o) ⟨zx.o.sl,Sl.nil _ _ _ _,hje,Vs,Nat.le_refl _,ZX _⟩ aj hqc hcq (by have h1:=hSt.o.plen;have h2:=uA.o;rw[<-X.o]at h2;omega) hSt.o.ok.asc (wQ Vy.o));unfold PuE at y;obtain⟨⟨d1,d2⟩,hdd⟩:∃d,dgO (dY es)=d:=⟨_,rfl⟩
       have nz:=ai hdd;rw[hdd]at y;simp only[aA,obV,obC,dY]at y;clear hdd;obtain⟨o0,o1,o2,o3,o4,o5,o6,o7,o8⟩:=zT.o.nine;go_wp2_with fail;refine y.o.mono ?_;rintro e z ⟨hq,v⟩;have u:U6 w z:=nU.o.trans (v.mono nU.o.size);have J:=ai (Vx.o.below v (by omega));obtain⟨t0,t1,_,_⟩:=J.o.two;have e0:=J.o.free 0;have e1:=J.o.free 1;have Vz:=ai v;clear v y o0 o1 o2 o3 o4 o5 o6 o7 o8;rcases hq with ⟨q2,A2,c2,hz,rfl,hs11,hc2,S,hy⟩ | ⟨hz,rfl⟩
       . have HN:Hid (sto (k+1) p l=some (q2,(d1,d2))):=by
           have:=hSt.o.done (by rw[zt.o,Vb.o];exact Nat.le_refl _) hz;rw[nz.o]at this;exact this
         have HRR:Hid (qJ p q2 (d1,d2) l):=by
          have:=hSt.o.res C.o hz;rw[nz.o]at this;exact this
         have HY:Hid (Ply z w.heap.size A c p A2 c2 q2):=F.o.trans Vz.o hy (by have:=nU.o.size;omega);have Ve:Hid (Ply ((z.setCell ⟨w.heap.size,0,none⟩ (.int .u64 d1)).setCell ⟨w.heap.size,1,none⟩ (.int .u64 d2)) w.heap.size A c p A2 c2 q2):=(HY.o.box J.o (by decide) 0 _).box (J.o.set 0 (.int .u64 d1)) (by decide) 1 _;clear hz hy hs11;go_wp2_with fail;refine ZW (jO Tryz.results124 rfl rfl (J.o.set2 _ _) rfl) rfl ⟨.inl ⟨q2,(d1,d2),A2,c2,HN.o,HRR.o,rfl,?_,hc2,S,Ve.o⟩,eP u.o aj _ _⟩;exact fU.o _ _ _ _ Ve.o (eP u.o aj _ _)
       . have HN:Hid (sto (k+1) p l=none):=hSt.o.donex (by rw[zt.o,Vb.o];exact Nat.le_refl _) hz
         clear hz;go_wp2_with fail;refine ZW (jO Tryz.results124 rfl rfl (J.o.set2 _ _) rfl) rfl ⟨.inr ⟨HN.o,rfl⟩,eP u.o aj _ _⟩
theorem NW:∀k,zH k:=by
 intro k
 induction k with
 | zero=>exact BQ 0 (fun k' h=>by omega)
 | succ k ih=>exact BQ (k+1) (fun k' h=>by obtain rfl:k'=k:=(by omega);exact ih)
end
def Ur(q:List Itm)(g:Dig->List Fl->Prop)(l:List Fl)(e:Ent):Prop :=
 (e.dir=false/\∃s,(e.nm,s)∈l/\aG q e.dg=some (eU s))∨ (e.dir=true/\inD l e.nm≠ []/\ (∀f∈l,f.1≠e.nm)/\g e.dg (inD l e.nm))
def Std(q:List Itm):Nat->Dig->List Fl->Prop
 | 0,_,_=>False
 | k+1,d,l=>∃es,aG q d=some (dY es)/\es.map Ent.nm=cZ l/\∀e∈es,Ur q (Std q k) l e
structure OkT(l:List Fl):Prop where
 path:∀f∈l,bP f.1=true
 data:∀f∈l,f.2.size<=60000
 nod: (l.map Prod.fst).Nodup
 nob:∀f∈l,∀g∈l,jJ f.1 g.1=false
section
variable {p : List Itm} {le : Ent -> List Fl} {es : List Ent}
variable (hes : jV es) (hle : ∀ e ∈ es, e.dir = true -> OkT (le e) /\ le e ≠ [] /\ ∀ g ∈ le e, (e.nm ++ slB ++ g.1).size <= 100) (hfl : ∀ e ∈ es, e.dir = false -> ∃ s, s.size <= 60000 /\ aG p e.dg = some (eU s))
include hes hle hfl
end
noncomputable def jh(p:List Itm)(d:Dig):UX×Int:=match aG p d with
 | none=>(⟨#[]⟩,8)
 | some o=>if o.kind=1 then(o.data,0) else(⟨#[]⟩,9)
section
variable {p : List Itm} {k : Nat} {d : Dig} {s : UX}
theorem wE(h:aG p d=none):jh p d= (⟨#[]⟩,8):=by unfold jh;rw[h]
theorem vX{o:Ob}(h:aG p d=some o)(hk:o.kind≠1):jh p d= (⟨#[]⟩,9):=by unfold jh;rw[h];simp only[if_neg hk]
theorem DR{o:Ob}(h:aG p d=some o)(hk:o.kind=1):jh p d= (o.data,0):=by unfold jh;rw[h];simp only[if_pos hk]
end
structure FCh where
 path:UX
 ho:Bool
 hn:Bool
 old:UX
 new:UX
def IK(x:FCh):Prop:=x.ho≠x.hn∨x.old≠x.new
instance (x:FCh):Decidable (IK x):=by unfold IK;infer_instance
section
variable {l m : List Fl} {c : List FCh} {j : Nat} {x : FCh}
end
theorem FW:∀{p:Option UX}{fs:List Fl},gm p fs=0-> (∀f∈fs,upB p f.1=true)/\AscF fs/\∀f∈fs,bP f.1=true
 | p,[],_=>⟨fun f h=>(by cases h),List.Pairwise.nil,fun f h=>(by cases h)⟩
 | p,f::r,h=>by
   unfold gm at h;by_cases h1:bP f.1=true
   . rw[if_pos h1]at h
     by_cases h2:upB p f.1=true
     . rw[if_pos h2]at h
       obtain⟨i1,i2,i3⟩:=FW h;refine⟨fun g hg=>?_,List.pairwise_cons.2 ⟨fun g hg=>i1 g hg,i2⟩,fun g hg=>?_⟩
       . rcases List.mem_cons.1 hg with rfl | hg
         . exact h2
         . cases p with
           | none=>rfl
           | some q=>exact jZ h2 (i1 g hg)
       . rcases List.mem_cons.1 hg with rfl | hg
         . exact h1
         . exact i3 g hg
     . rw[if_neg h2]at h;cases h
   . rw[if_neg h1]at h;cases h
theorem Df:∀{p:Option UX}{fs:List Fl},(∀f∈fs,upB p f.1=true)->AscF fs-> (∀f∈fs,bP f.1=true)->gm p fs=0
 | p,[],_,_,_=>rfl
 | p,f::r,h1,h2,h3=>by
   unfold gm;rw[if_pos (h3 f (by simp)),if_pos (h1 f (by simp))];exact Df (fun g hg=>h2.head hg) h2.tail (fun g hg=>h3 g (by simp[hg]))
theorem Ip{fs:List Fl}(h:TckR fs 0)(hd:∀f∈fs,f.2.size<=60000):OkL fs/\AscF fs:=by
 rcases h with ⟨_,h⟩ | ⟨_,h1,h2⟩ | ⟨h1,h2,h3⟩
 . cases h
 . exact absurd h2.symm h1
 . obtain⟨_,h4,h5⟩:=FW h2
   rcases h3 with ⟨_,h⟩ | ⟨h3,_⟩
   . cases h
   . refine⟨⟨h5,hd,h1,NF h4,fun f hf g hg=>?_⟩,h4⟩
     cases hb:jJ f.1 g.1 with
     | false=>rfl
     | true=>exact absurd (RV hf hg hb) h3
theorem Q7{fs:List Fl}(h:OkL fs)(ha:AscF fs):TckR fs 0 :=
 .inr (.inr ⟨h.few,Df (fun _ _=>rfl) ha h.path,.inr ⟨Ry h.nob,rfl⟩⟩)
def IG(p:List Itm)(l:List Fl)(w:UW)(e:Ending)(w':UW):Prop :=
 ((∃z,TckR l z/\z≠0/\e= .returned (.tuple #[.slice none 0 0,aA zD,.int .i64 z])) ∨
  (TckR l 0/\ ((∃q d A c,sto 101 p l=some (q,d)/\qJ p q d l/\e= .returned (.tuple #[.slice A q.length c,aA d,.int .i64 0])/\Sl w' w'.heap.size 3 A q.length (flat itC q)/\q.length<=c/\c<=maxLen)∨ (sto 101 p l=none/\e= .returned (.tuple #[.slice none 0 0,aA zD,.int .i64 16])))))/\U0 w w'
theorem Iq{l:List Fl}(h:OkL l):wt l<=20200:=by
 have h1:=TV (l:=l) (k:=100) (fun f hf=>sF (h.path f hf));have h2:=h.few;have: (100+1)*l.length<=101*200:=Nat.mul_le_mul_left 101 h2;omega
theorem KZ(A:OA)(n c B:Nat)(p:List Itm)(A1:OA)(m c1:Nat)(l:List Fl)(w:UW)(h0:Sl w B 3 A n (flat itC p))(h1:Sl w B 2 A1 m (flat flC l))(hB:B<=w.heap.size)(hnc:n<=c)(hcm:c<=maxLen)(hn:n<=700000)(hm:m<=1000000)(hp:PlOk p)(hsz:∀f∈l,f.1.size<=1000000/\f.2.size<=60000) :
  Calls Tryz.prog 67 #[.slice A n c,.slice A1 m c1] w (IG p l w):=by
 have HP:=ai hp;have H0:=ai h0;have H1:=ai h1;have d:=ai hsz;have g:=ai hnc;have HCM:=ai hcm;obtain⟨W,hW⟩:=NX9 (w.alloc (.cells #[.int .u64 0,.int .u64 0] 50))
 have HB0:U6 w W:=by rw[<-hW];exact(ah _ w).alloc aj _
 have HD:Hid (Bk W w.heap.size 50 #[.int .u64 0,.int .u64 0]):=by rw[<-hW];exact Bk.new w _ _
 have HC:=ai (MJ A1 m c1 B l W (h1.below HB0.o hB) (ZY hB HB0.o.size) hm hsz);have HW:=ai hW;have i:w.heap.size<W.heap.size:=HD.o.lt;clear hp h0 h1 hsz hnc hcm hW
 go_enter Tryz.func67,Tryz.ntmps67
 go_wp2_with fail;rw[HW.o];refine HC.o.mono ?_;rintro e w2 ⟨z,rfl,hz,hb⟩;have HZ:=ai hz;have HB2:U6 w w2:=HB0.o.trans (hb.mono HB0.o.size);have HD2:=ai (HD.o.below hb i);obtain⟨y0,y1,_,_⟩:=HD2.o.two;have g0:=HD2.o.free 0;have g1:=HD2.o.free 1;have z2:=hb.size;clear hz hb HC;by_cases h0:z=0
 . have t1: (z != 0)=false:=by rw[h0];rfl
   have HZ0:Hid (TckR l 0):=by show TckR l 0;rw[<-h0];exact HZ.o
   obtain⟨hok,_⟩:=Ip HZ0.o (fun f hf=>(d.o f hf).2);have hwt:=Iq hok;have HS:=ai (NW 100 l hok (fun f hf=>sF (hok.path f hf)) p A n c A1 m c1 B w2 (H0.o.below HB2.o hB) (H1.o.below HB2.o hB) (ZY hB HB2.o.size) g.o HCM.o HP.o (by omega));unfold zN at HS;simp only[aA]at HS;clear h0 hok hwt;go_wp2_with fail;refine HS.o.mono ?_;rintro e w3 ⟨hq,hb⟩;have HB3:U6 w w3:=HB2.o.trans (hb.mono HB2.o.size);have HD3:=ai (HD2.o.below hb (by omega));obtain⟨y0,y1,_,_⟩:=HD3.o.two;have g0:=HD3.o.free 0;have g1:=HD3.o.free 1;clear hb HS;rcases hq with ⟨q,⟨d1,d2⟩,A2,c2,hs,hr,rfl,hsl,hc2,hm2,_⟩ | ⟨hs,rfl⟩
   . have HN:=ai hs;have HR:=ai hr;have a:=ai hsl
     have h:=ai (a.o.dgbox HD3.o);clear hs hr hsl;go_wp2_with fail;refine ZW (jO Tryz.results67 rfl rfl (HD3.o.set2 _ _) rfl) rfl ⟨.inr ⟨HZ0.o,.inl ⟨q,(d1,d2),A2,c2,HN.o,HR.o,rfl,?_,hc2,hm2⟩⟩,eP HB3.o aj _ _⟩;have:=a.o.ne (b:=w.heap.size) h.o (fun k hk=>(Z8 (w3.setCell ⟨w.heap.size,0,none⟩ (.int .u64 d1)) ⟨w.heap.size,1,none⟩ (.int .u64 d2) k hk).trans (Z8 w3 ⟨w.heap.size,0,none⟩ (.int .u64 d1) k hk))
     simpa using this
   . have HN:=ai hs
     clear hs;go_wp2_with fail;refine ZW (jO Tryz.results67 rfl rfl (HD3.o.set2 _ _) rfl) rfl ⟨.inr ⟨HZ0.o,.inr ⟨HN.o,rfl⟩⟩,eP HB3.o aj _ _⟩
 . have t1: (z != 0)=true:=by rw[bne_iff_ne];exact h0
   have H0':=ai h0;clear h0;go_wp2_with fail;refine ZW (jO Tryz.results67 rfl rfl (HD2.o.set2 _ _) rfl) rfl ⟨.inl ⟨z,HZ.o,H0'.o,rfl⟩,eP HB2.o aj _ _⟩
