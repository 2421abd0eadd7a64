/-Lemmas.-/
import Derived.Test.YtknefelegjlgnaaGreatDoorCCCm15
set_option maxRecDepth 100000
set_option maxHeartbeats 16000000
namespace Go.Proofs.YtknefelegjlgnaaGreatDoor
open Go.RowKit
section
open Go.Maps
theorem Q7: (Tryz.prog.info? 82).map (fun i=>(i.zero,i.size,i.bytes))=some (some (.agg #[.string ⟨#[]⟩,.string ⟨#[]⟩]),2,32):=by kernel_rfl
theorem Q3(s:VB): (Value.agg (iL s))=obV (dU s) zOs:=rfl
theorem PN(w:VA)(B:Nat)(s:VB):ObM w B (dU s) zOs:=⟨Sl.nil _ _ _ _,Sl.nil _ _ _ _,Nat.le_refl _,ZX _,Nat.le_refl _,ZX _⟩
theorem PT(w:VA)(x y:VB):∀j u,[Value.string x,.string y][j]? =some u-> (w.alloc (.cells #[.string x,.string y] 82)).cell? (Addr.add ⟨w.heap.size,0,none⟩ j)=some u:=by
 intro j u hj;have hb:Bk (w.alloc (.cells #[.string x,.string y] 82)) w.heap.size 82 #[.string x,.string y]:=Bk.new w _ _;rw[Addr.add_lit,hb.cell];rcases j with _ | _ | j
 . simpa using hj
 . simpa using hj
 . simp at hj
theorem Ur{l:List Fl}(h: (l.map Prod.fst).Nodup){k:Nat}{f:Fl}(hf:l[k]? =some f):f.1∉ (l.take k).map Prod.fst:=by
 intro hm;rw[List.map_take]at hm;obtain⟨i,hi,e⟩:=List.getElem_of_mem hm;rw[List.length_take]at hi;rw[List.getElem_take]at e;obtain⟨h1,h2⟩:=List.getElem?_eq_some_iff.1 hf;have h3: (l.map Prod.fst)[k]'(by simpa using h1)=f.1:=by rw[List.getElem_map,h2]
 exact List.pairwise_iff_getElem.1 h i k (by omega) (by simpa using h1) (by omega) (e.trans h3.symm)
section
variable {w w' : VA} {base : Nat} {A0 A A' : OA} {c0 c c' : Nat} {p q q' : List Itm}
theorem Ply.below(h:Ply w base A0 c0 p A c q)(hb:VE w w'):Ply w' base A0 c0 p A c q:=by
 rcases h with h | h
 . exact .inl h
 . exact .inr (gQ h hb)
theorem Ply.box(h:Ply w base A0 c0 p A c q){b:Nat}{t:TypeId}{cs:Array VC}(hb:Bk w b t cs)(hne:118≠t)(i:Nat)(x:VC):Ply (w.setCell ⟨b,i,none⟩ x) base A0 c0 p A c q:=by
 rcases h with h | h
 . exact .inl h
 . exact .inr (jq h hb hne i x)
theorem Ply.others(h:Ply w base A0 c0 p A c q){e:TypeId}(ho:OthersKept e w w')(hne:118≠e):Ply w' base A0 c0 p A c q:=by
 rcases h with h | h
 . exact .inl h
 . exact .inr (ho _ _ _ _ _ _ hne h)
theorem Ply.trans{n':Nat}(h:Ply w base A0 c0 p A c q)(hb:VE w w')(k:Ply w' n' A c q A' c' q')(hn:base<=n'):Ply w' base A0 c0 p A' c' q':=by
 rcases k with ⟨rfl,rfl,rfl⟩ | k
 . exact h.below hb
 . exact .inr (lG k hn)
theorem Ply.sl{B:Nat}(h:Ply w base A0 c0 p A c q)(h0:Sl w B 3 A0 p.length (flat itC p))(hB:B<=w.heap.size):Sl w w.heap.size 3 A q.length (flat itC q):=by
 rcases h with ⟨rfl,_,rfl⟩ | h
 . exact h0.more hB
 . exact Sl.of_own h
end
def Af(k:Nat)(l:List Fl)(A0:OA)(c0:Nat)(p:List Itm)(w:VA)(e:Ending)(w':VA):Prop :=
 ((∃q d A c,sto k p l=some (q,d)/\qV p q d l/\e= .returned (.tuple #[.slice A q.length c,az d,.int .i64 0])/\Sl w' w'.heap.size 3 A q.length (flat itC q)/\q.length<=c/\c<=maxLen/\Ply w' w.heap.size A0 c0 p A c q)∨ (sto k p l=none/\e= .returned (.tuple #[.slice none 0 0,az zD,.int .i64 16])))/\VE w w'
def zZ(k:Nat):Prop:=∀(l:List Fl),OkL l-> (∀f∈l,f.1.size<=k)->∀(p:List Itm)(A:OA)(n c:Nat)(A1:OA)(m c1 B:Nat)(w:VA),
  Sl w B 3 A n (flat itC p)->Sl w B 2 A1 m (flat flC l)->B<=w.heap.size->n<=c->c<=maxLen->PlOk p->n+wt l<=800000 ->
  Calls Tryz.prog 124 #[.slice A n c,.slice A1 m c1] w (Af (k+1) l A c p w)
theorem CG(k:Nat)(ih:∀k',k=k'+1->zZ k'):zZ k:=by
 intro l hl hlk p A n c A1 m c1 B w hp0 hl0 hB hnc hcm hpo hsz;have X:=ai (hp0.len dD (by omega));have BB:=ai (hl0.len iw (by omega));have VI:=ai hp0;have VJ:=ai hl0;have C:=ai hl;have KF:=ai hlk;have VK:=ai hnc;have HCM:=ai hcm;have VL:=ai hpo;have uA:=ai hsz;have IH:=ai ih;have fU:Hid (∀(W:VA)(Ax:OA)(cx:Nat)(qx:List Itm),Ply W w.heap.size A c p Ax cx qx->VE w W->Sl W W.heap.size 3 Ax qx.length (flat itC qx)):=fun W Ax cx qx h hb=>by
  have h1:=VI.o;rw[<-X.o]at h1;exact h.sl (h1.below hb hB) (by have:=hb.size;omega)
 have hm2:m<=200:=by rw[<-BB.o];exact hl.few
 clear hp0 hl0 hl hlk hnc hcm hpo hsz ih;have hmm:=@run_makeMap Tryz.prog;obtain⟨W0,hW0⟩:=NX9 (((w.alloc (.cells #[.int .u64 0,.int .u64 0] 50)).alloc (.map #[] 0)).alloc (.map #[] 0))
 have HD0:Hid (Bk W0 w.heap.size 50 #[.int .u64 0,.int .u64 0]):=by rw[<-hW0];exact((Bk.new w _ _).alloc _).alloc _
 have KR:Hid (StM W0 (w.heap.size+1) (w.heap.size+2) (w.heap.size+3) 0 (fun _=>none) (fun _=>none) (l.take 0)):=by
  show StM _ _ _ _ _ _ _ [];rw[<-hW0];have:=StM.start (w.alloc (.cells #[.int .u64 0,.int .u64 0] 50)) (w.heap.size+3);rw[Z9]at this;exact this
 have HB0:VF w W0:=by rw[<-hW0];exact(((ah _ w).alloc aj _).alloc (by simp) _).alloc (by simp;omega) _
 have Wl:w.heap.size+3=W0.heap.size:=by rw[<-hW0];simp
 have HW0:=ai hW0;clear hW0
 go_enter Tryz.func124,Tryz.ntmps124
 go_wp2_with fail;rw[HW0.o];go_wp2_with fail
 go_loopw[26] (fun i wr=>∃(j:Nat)(gb gf:VB->Option VC),j<=m/\i= .int .i64 (j:Int)/\Hid (StM wr (w.heap.size+1) (w.heap.size+2) (w.heap.size+3) j gb gf (l.take j))/\Hid (Bk wr w.heap.size 50 #[.int .u64 0,.int .u64 0])/\VF w wr/\w.heap.size+3<=wr.heap.size) (fun i _=>m - (intOf i).toNat)
 case atStart=>exact⟨0,_,_,ZX _,rfl,KR.o,HD0.o,HB0.o,by omega⟩
 case round =>
  clear KR HD0 HB0 HW0;obtain⟨j,gb,gf,hj,rfl,hS,hD,hBel,hwz⟩:=hrel;by_cases hlt:j<m
  . have hlz: (j:Int)< (m:Int):=by omega
    obtain⟨bb,off,f,rfl,hbB,hf,y0,y1⟩:=(VJ.o.below hBel.o hB).fl hlt;have HF:=ai hf;have uD:=C.o.path f (Z7 hf);have hfs:f.1.size<=100:=tu uD;have hns:=(sO (rZ uD)).2;have Nc:=ai (Ur C.o.nod hf);have PR:=ai (aV hf);clear hf uD;obtain⟨fp,fd⟩:=f;simp only at y0 y1 hfs hns;obtain⟨W1,hW1⟩:=NX9 (wr.alloc (.cells #[.string fp,.string fd] 82))
    have gu:Hid (Bk W1 wr.heap.size 82 #[.string fp,.string fd]):=by rw[<-hW1];exact Bk.new wr _ _
    have HB1:VF wr W1:=by rw[<-hW1];exact(ah _ wr).alloc aj _
    have HC:=ai (Sr fp W1 (by unfold maxLen;omega));have UB:wr.heap.size<W1.heap.size:=gu.o.lt;obtain⟨x0,x1,_,_⟩:=gu.o.two;go_wp2_with fail;refine HC.o.mono ?_;rintro e w2 ⟨a,b,mo,rfl,hcr,hb2⟩;obtain⟨ha,hbq,hmo⟩:=Su hcr;have HA:=ai ha;have VM:=ai hbq;rw[<-ha]at hns;have VN:=ai (gu.o.below hb2 UB);have HB2:VF wr w2:=HB1.o.trans (hb2.mono HB1.o.size);have HS2:=ai (hS.o.below HB2.o);have HD2:=ai (hD.o.below HB2.o (by omega));have Vf:VF w w2:=hBel.o.trans (HB2.o.mono (by omega));have Wn:wr.heap.size<w2.heap.size:=Nat.lt_of_lt_of_le UB hb2.size;obtain⟨x0,x1,_,_⟩:=VN.o.two;clear hcr ha hbq hb2 HC hW1 gu HB1 hS hD;cases mo with
    | false =>
      have iU:Hid (deN fp=false):=hmo.symm;have VO:Hid (a=fp):=by show _=_;rw[HA.o,lI iU.o]
      have hsm:a.size<=maxLen:=by unfold maxLen;omega
      clear hmo
      go_wp2_with (at_mapUpdate;refine aO ?_)
      refine aH ?_;refine oH rfl _ _ _ 274 rfl 9 82 Tryz.underlying9 Tryz.underlying274 (w.heap.size+2) j gf rfl HS2.o.f (by unfold maxLen;omega) a hsm _ rfl rfl ?_;intro w3 wz hg3;rw[VO.o]at wz;have VP:Hid (StM w3 (w.heap.size+1) (w.heap.size+2) (w.heap.size+3) (j+1) gb (upd gf fp (oh (fp,fd))) (l.take j++ [(fp,fd)])):=HS2.o.file (f:=(fp,fd)) (by omega) (by omega) iU.o Nc.o wz hg3;have HD3:=ai (HD2.o.grown hg3 (fun e=>by have:=Option.some.inj e;omega));have HB3:VF w w3:=Vf.o.grown hg3 (by omega) (fun k e=>by cases e;omega);have z3:=hg3.size;clear wz hg3 HS2 HD2;go_wp2_with fail;go_roundw
      case rel=>exact⟨j+1,gb,_,hlt,by go_num,by rw[PR.o];exact VP.o,HD3.o,HB3.o,by omega⟩
      case measure=>simp[intOf];omega
    | true =>
      have iU:Hid (deN fp=true):=hmo.symm;have hsm:a.size<=maxLen:=by unfold maxLen;omega
      clear hmo;have hlk: (Instr.lookup 273 (.map (some (w.heap.size+1))) (.string a) false).run Tryz.prog w2= .ok ((gb a).getD jD) w2:=HS2.o.b.look Tryz.underlying9 Tryz.underlying273 (Tryz.zeroValue63 _) hsm;obtain⟨i0,hi,hz0,hz1,hz2⟩:=info_parts Q7;have Hi:=ai hi;have ku:=ai hz0;have kU:=ai hz1;have lg:=ai hz2;clear hi hz0 hz1 hz2;have Vj:Hid ((inD (l.take j) a).length<=200):=by have:=Hm (l.take j) a;have h2:=C.o.few;rw[List.length_take]at this;show _<=_;omega
      go_wp2_with (at_builtin;refine aO ?_)
      refine aH ?_;refine wpList_append_lies _ rfl (.tmp 42) (.tmp 47) 63 rfl (w.heap.size+3) 82 i0 _ 2 32 Tryz.underlying63 Hi.o ku.o kU.o lg.o rfl (by decide) ((gb a).getD jD) (inD (l.take j) a).length (flat flC (inD (l.take j) a)) rfl ?own _ 1 _ [.string b,.string fd] rfl rfl ?nw (by simp[Value.oneCell']) (by decide) ?l1 ?l2 ?l3 _ rfl ?_
      case own=>exact(HS2.o.alloc _).rows.own a
      case nw=>exact PT w2 b fd
      case l1=>have:=Vj.o;unfold maxLen;omega
      case l2=>have:=Vj.o;omega
      case l3=>simp;omega
      intro g cap w4 ho hg hat hgl;have HO:=ai ho;have HG:=ai hg;have HAT:=ai hat
      have hrow:Hid (∀k,((gb a).getD jD).ownBlock=some k->w.heap.size+3<=k):=fun k e=>((HS2.o.rows.own a).lt k e).1;have VQ:=hg.size;rw[Z9]at VQ;clear ho hg hat hgl hlk
      go_wp2_with (at_mapUpdate;refine aO ?_)
      refine aH ?_;refine oH rfl _ _ _ 273 rfl 9 63 Tryz.underlying9 Tryz.underlying273 (w.heap.size+1) j gb rfl ((HS2.o.alloc _).b.kept HG.o (fun e=>by have:=hrow.o _ e.symm;omega)) (by unfold maxLen;omega) a hsm _ rfl rfl ?_;intro w5 Vk hg5;have VR:Hid (StM w5 (w.heap.size+1) (w.heap.size+2) (w.heap.size+3) (j+1) (upd gb (fsN fp) (.slice (some ⟨g,0,none⟩) ((inD (l.take j) (fsN fp)).length+1) cap)) gf (l.take j++ [(fp,fd)])):=by
       have h1:=HO.o;have h2:=HG.o;have h3:=HAT.o;have h4:Rm w5 Tryz.prog 9 (w.heap.size+1) (j+1) (upd gb a (.slice (some ⟨g,0,none⟩) ((inD (l.take j) a).length+1) cap)):=Vk;rw[HA.o]at h1 h2 h3 h4;rw[VM.o]at h1;exact(HS2.o.alloc _).dir (f:=(fp,fd)) (by omega) iU.o Nc.o h1 h2 h3 h4 hg5
      have ag:VF w w5:=((Vf.o.alloc (by omega) _).grown HG.o (by simp;omega) (fun k e=>by have:=hrow.o _ e;omega)).grown hg5 (by omega) (fun k e=>by cases e;omega);have HD5:=ai (((HD2.o.alloc _).grown HG.o (fun e=>by have:=hrow.o _ e.symm;omega)).grown hg5 (fun e=>by have:=Option.some.inj e;omega));have VS:w.heap.size+3<=w5.heap.size:=by have:=hg5.size;omega
      clear Vk hg5 HO HG HAT HS2 HD2 hrow;go_wp2_with fail;go_roundw
      case rel=>exact⟨j+1,_,gf,hlt,by go_num,by rw[PR.o];exact VR.o,HD5.o,ag.o,VS⟩
      case measure=>simp[intOf];omega
  . have hlz:¬(j:Int)< (m:Int):=by omega
    have hjm:j=m:=by omega
    have N:Hid (StM wr (w.heap.size+1) (w.heap.size+2) (w.heap.size+3) m gb gf l):=by
     have:=hS.o;rw[hjm,ZU (by rw[BB.o];exact Nat.le_refl _)]at this;exact this
    obtain⟨O,hwo⟩:∃O,O=wr:=⟨_,rfl⟩
    subst hwo;obtain⟨W3,hW3⟩:=NX9 (O.alloc (.cells #[.map (some (w.heap.size+2))] 274))
    have xe:Hid (Bk W3 O.heap.size 274 #[.map (some (w.heap.size+2))]):=by rw[<-hW3];exact Bk.new O _ _
    have HB3:VF O W3:=by rw[<-hW3];exact(ah _ O).alloc aj _
    have Vl:=ai (OL O.heap.size (w.heap.size+2) m gf W3 (N.o.f.below HB3.o N.o.f.lt) (xe.o.cell 0) xe.o.lt (by omega));have xn:=ai (N8 (w.heap.size+2) O);have z3:O.heap.size+1=W3.heap.size:=by rw[<-hW3];simp
    rw[hW3]at xn;clear hS hW3;go_wp2_with fail;refine xn.o.mono ?_;rintro e w' ⟨rfl,hw'⟩;have hw2:=hw'.symm;clear hw';subst hw2;go_wp2_with fail;refine Vl.o.mono ?_;rintro e w4 ⟨A4,c4,ks,rfl,hk4,hr4,hb4⟩;have lq:=ai hk4;have HR4:=ai hr4;have HB4:=ai hb4;have au:VF O w4:=HB3.o.trans (hb4.mono HB3.o.size);have z4:W3.heap.size<=w4.heap.size:=hb4.size;clear hk4 hr4 hb4 Vl xn;obtain⟨W5,bf⟩:=NX9 (w4.alloc (.cells #[.map (some (w.heap.size+1))] 273))
    have xA:Hid (Bk W5 w4.heap.size 273 #[.map (some (w.heap.size+1))]):=by rw[<-bf];exact Bk.new w4 _ _
    have ag:VF w4 W5:=by rw[<-bf];exact(ah _ w4).alloc aj _
    have oO:VF O W5:=au.o.trans (ag.o.mono au.o.size);have Vm:Hid (W5.ownsRow W3.heap.size 9 1 (.slice A4 ks.length c4) ks.length (strs ks)):=by
     rw[<-bf];exact HR4.o.kept (World.grownBy_alloc w4 _ none) (by cases hv: (Value.slice A4 ks.length c4).ownBlock with | none=>exact .inl rfl | some k=>exact .inr (by simp))
    have Vo:=ai (PW w4.heap.size (w.heap.size+1) m gb A4 ks.length c4 ks W3 W5 (N.o.b.below oO.o N.o.b.lt) (xA.o.cell 0) xA.o.lt Vm.o (HB4.o.trans (ag.o.mono z4)) (by have:=lq.o.few;omega));have HKB:=ai (Ph (w.heap.size+1) w4);rw[bf]at HKB;clear bf;go_wp2_with fail;refine HKB.o.mono ?_;rintro e w' ⟨rfl,hw'⟩;have hw2:=hw'.symm;clear hw';subst hw2;go_wp2_with fail;refine Vo.o.mono ?_;rintro e w6 ⟨A6,c6,qs,rfl,hq6,zf,hb6⟩;have Vp:=ai (PH C.o N.o.gbs N.o.gfs lq.o hq6);have hnl:ks.length+qs.length<=400:=by have:=lq.o.few;have:=hq6.few;omega
    have Vq:=ai (EI W3.heap.size (ks.length+qs.length) c6 A6 (ks++qs) w6 zf (by omega));have zk:=ai hb6;have Vr:Hid (∀k,(Value.slice A6 (ks.length+qs.length) c6).ownBlock=some k->W3.heap.size<=k):=fun k hk=>(bV zf hk).1;clear zf hq6 hb6 Vo HKB lq HR4 Vm;go_wp2_with fail;refine Vq.o.mono ?_;rintro e w7 ⟨rfl,hs7,Vs⟩;have Vt:VF W3 w7:=zk.o.grown Vs zk.o.size (fun k e=>Vr.o k e);have zo:Hid (Sl w7 w7.heap.size 1 A6 (ks.length+qs.length) (strs (bJ l))):=by
     have:=Sl.of_own hs7;rw[Vp.o.1]at this;exact this
    have P:VF O w7:=HB3.o.trans (Vt.o.mono HB3.o.size);have oU:=ai (N.o.below P.o);have HD7:=ai (hD.o.below P.o (by omega));have Q:VF w w7:=hBel.o.trans (P.o.mono (by omega));obtain⟨nn,hnn⟩:=NX9 (ks.length+qs.length)
    rw[hnn]at zo hnl;have zt:Hid ((bJ l).length=nn):=by have:=zo.o.1;rw[tN]at this;show _=_;omega
    have z7:w.heap.size+3<=w7.heap.size:=by have:=P.o.size;omega
    clear hs7 Vs Vr zk Vq Vt P N hD hBel HB3 xe HB4 au xA ag oO;obtain⟨W8,Vu⟩:=NX9 (w7.alloc (.cells #[.int .i64 2,.string ⟨#[]⟩,.slice none 0 0,.int .u64 0,.int .u64 0,.slice none 0 0,.string ⟨#[]⟩,.int .i64 0,.string ⟨#[]⟩] 109))
    have bg:=ai Vu;clear Vu;go_wp2_with fail;have Vw:Hid (Bk W8 w7.heap.size 109 #[.int .i64 2,.string ⟨#[]⟩,.slice none 0 0,.int .u64 0,.int .u64 0,.slice none 0 0,.string ⟨#[]⟩,.int .i64 0,.string ⟨#[]⟩]):=by rw[<-bg.o];exact Bk.new w7 _ _
    have Vx:VF w7 W8:=by rw[<-bg.o];exact(ah _ w7).alloc aj _
    have z8:w7.heap.size+1=W8.heap.size:=by rw[<-bg.o];simp
    rw[bg.o];clear bg;obtain⟨i0,hi,hz0,hz1,hz2⟩:=info_parts Hy;have Hi:=ai hi;have ku:=ai hz0;have kU:=ai hz1;have lg:=ai hz2;clear hi hz0 hz1 hz2
    go_loopw[0,65] (fun pv i wr=>∃(j:Nat)(q:List Itm)(es:List Ent)(Aq:OA)(cq:Nat)(EA:OA)(ec:Nat),pv= .slice Aq q.length cq/\i= .int .i64 (j:Int)/\j<=nn/\Hid (StoAt k l p j q es)/\Hid (Ply wr w.heap.size A c p Aq cq q)/\q.length<=cq/\cq<=maxLen ∧
     Hid (Apd wr (w7.heap.size+1) 185 4 EA j ec (flat enC es))/\j<=ec/\ec<=maxLen/\Hid (Bk wr w7.heap.size 109 #[.int .i64 2,.string ⟨#[]⟩,.slice EA j ec,.int .u64 0,.int .u64 0,.slice none 0 0,.string ⟨#[]⟩,.int .i64 0,.string ⟨#[]⟩])/\VF w7 wr/\w7.heap.size+1<=wr.heap.size) (fun _ i _=>nn - (intOf i).toNat)
    case atStart=>exact⟨0,p,[],A,c,none,0,by rw[X.o],rfl,ZX _,StoAt.start VL.o,.inl ⟨rfl,rfl,rfl⟩,by rw[X.o];exact VK.o,HCM.o,.inr ⟨rfl,rfl,rfl⟩,Nat.le_refl _,ZX _,Vw.o,Vx.o,by omega⟩
    case round =>
     clear Vw Vx;obtain⟨j,q,es,Aq,cq,EA,ec,rfl,rfl,hj,hSt,F,hqc,hcq,zx,hje,VT,zT,hBel,hwz⟩:=hrel;by_cases hlt:j<nn
     . have hlz: (j:Int)< (nn:Int):=by omega
       obtain⟨nb,Wh,x,rfl,hnb,hx,y0⟩:=(zo.o.below hBel.o aj).str_at hlt;have HX:=ai hx;have Wp:=(sO (zJ C.o hx)).2;have hxd:=Vp.o.2 x (Z7 hx);clear hx;obtain⟨We,Y⟩:=NX9 (wr.alloc (.cells #[.string x,.bool false,.int .u64 0,.int .u64 0] 185))
       have zW:Hid (Bk We wr.heap.size 185 #[.string x,.bool false,.int .u64 0,.int .u64 0]):=by rw[<-Y];exact Bk.new wr _ _
       have bn:VF wr We:=by rw[<-Y];exact(ah _ wr).alloc aj _
       have ze:wr.heap.size+1=We.heap.size:=by rw[<-Y];simp
       have qc:=ai (oU.o.below (hBel.o.trans (bn.o.mono (by omega))));have hsm:x.size<=maxLen:=by unfold maxLen;omega
       have hlk: (Instr.lookup 274 (.map (some (w.heap.size+1+1))) (.string x) true).run Tryz.prog (wr.alloc (.cells #[.string x,.bool false,.int .u64 0,.int .u64 0] 185))= .ok (.tuple #[(gf x).getD (.agg #[.string ⟨#[]⟩,.string ⟨#[]⟩]),.bool (gf x).isSome]) (wr.alloc (.cells #[.string x,.bool false,.int .u64 0,.int .u64 0] 185)):=by
        rw[Y];exact qc.o.f.look_ok Tryz.underlying9 Tryz.underlying274 (Tryz.zeroValue82 _) hsm
       have hgf:=qc.o.gfs x;rw[hxd]at hgf;have Vy:Hid (q.length<=800000):=by have h1:=hSt.o.plen;have h2:=uA.o;rw[<-X.o]at h2;show _<=_;omega
       have Wi:=ai F;have zX:=ai Y;clear Y;cases hlf:eF l x with
       | some s =>
         have Z:=ai hlf;rw[hlf]at hgf;simp only[Bool.false_eq_true,if_false,Option.map_some]at hgf;rw[hgf]at hlk;simp only[Option.getD_some,Option.isSome_some,oh]at hlk;clear hgf hlf;have hsd:=C.o.data _ ((jX C.o.nod).1 Z.o);simp only at hsd;obtain⟨W9,E⟩:=NX9 (We.alloc (.cells #[.string x,.string s] 82))
         have bz:Hid (Bk W9 wr.heap.size 185 #[.string x,.bool false,.int .u64 0,.int .u64 0]):=by rw[<-E];exact zW.o.alloc _
         have K:VF wr W9:=by rw[<-E];exact bn.o.alloc bn.o.size _
         have VU:Hid (Bk W9 We.heap.size 82 #[.string x,.string s]):=by rw[<-E];exact Bk.new We _ _
         have z9:We.heap.size+1=W9.heap.size:=by rw[<-E];simp
         have cu:=ai E;have Vz:=ai (Eu s W9);clear E;go_wp2_with fail;rw[zX.o,cu.o];refine Vz.o.mono ?_;rintro e w10 ⟨rfl,V⟩;have qA:=ai (bz.o.below V (by omega));have R:VF wr w10:=K.o.trans (V.mono K.o.size);have z10:W9.heap.size<=w10.heap.size:=V.size;clear V Vz bz K VU cu zX zW bn;obtain⟨⟨d1,d2⟩,hdd⟩:∃d,dgO (dU s)=d:=⟨_,rfl⟩
         have y:=ai (xu Aq q.length cq w10.heap.size q (dU s) zOs w10 (fU.o _ _ _ _ (F.o.below R.o) (Q.o.trans ((hBel.o.mono (by omega)).trans (R.o.mono (by omega))))) (PN _ _ _) aj hqc hcq (by have:=Vy.o;omega) hSt.o.ok.asc (pU hsd));unfold PuE at y;rw[hdd]at y;simp only[az,<-Q3]at y;have nz:=ai hdd;clear hdd;go_wp2_with fail;refine y.o.mono ?_;rintro e z ⟨hq,v⟩;have o:=ai (qA.o.below v (by omega));have u:VF wr z:=R.o.trans (v.mono R.o.size);have z11:w10.heap.size<=z.heap.size:=v.size;clear v qA R;rcases hq with ⟨q2,A2,c2,hz,rfl,hs11,hc2,S,hy⟩ | ⟨hz,rfl⟩
         . have HZ:=ai hz;have HY:=ai hy
           have HST:=ai ((by have h9:=hSt.o.file C.o HX.o Z.o HZ.o;rw[nz.o]at h9;exact h9:StoAt k l p (j+1) q2 (es++ [⟨x,false,(d1,d2)⟩])));clear hz hy hs11 y;obtain⟨r,t⟩:=NX9 ((z.setCell ⟨wr.heap.size,2,none⟩ (.int .u64 d1)).setCell ⟨wr.heap.size,3,none⟩ (.int .u64 d2))
           have cO:Hid (Bk r wr.heap.size 185 #[.string x,.bool false,.int .u64 d1,.int .u64 d2]):=by rw[<-t];exact(o.o.set 2 (.int .u64 d1)).set 3 (.int .u64 d2)
           have G:VF wr r:=by rw[<-t];exact(u.o.setCell (p:=⟨wr.heap.size,2,none⟩) aj _).setCell (p:=⟨wr.heap.size,3,none⟩) aj _
           have dn:Hid (Ply r w.heap.size A c p A2 c2 q2):=by
            rw[<-t];exact((F.o.trans u.o HY.o (by omega)).box o.o (by decide) 2 _).box (o.o.set 2 (.int .u64 d1)) (by decide) 3 _
           have z12:wr.heap.size<r.heap.size:=by rw[<-t];simp;omega
           have H:=ai (zT.o.below G.o (by omega));have T:=ai (zx.o.below G.o);have f2:=o.o.free 2;have f3:=o.o.free 3;have u2:=o.o.cell 2;have u3:=o.o.cell 3;simp at u2 u3;obtain⟨v0,v1,v2,v3⟩:=cO.o.four;obtain⟨o0,o1,o2,o3,o4,o5,o6,o7,o8⟩:=H.o.nine
           go_wp2_with (at_builtin;refine aO ?_)
           refine aH ?_;refine eG (base:=w7.heap.size+1) (size:=4) _ rfl (.tmp 104) (.tmp 106) 107 rfl 185 i0 _ 40 Tryz.underlying107 Hi.o ku.o kU.o lg.o rfl (by decide) EA j ec (flat enC es) rfl ?own_1 (r.heap.size+1) _ 1 _ (enC ⟨x,false,(d1,d2)⟩) rfl ?nw_1 (by simp[enC,Value.oneCell']) ?m1_1 ?m2_1 ?m3_1 ?_
           case own_1=>exact T.o.below ((ah _ r).alloc aj _)
           case nw_1 =>
            have:=Sl.of_bk (n:=1) (size:=4) (Bk.new r 185 #[.string x,.bool false,.int .u64 d1,.int .u64 d2]) rfl;rw[Z9]at this;exact this
           case m1_1=>unfold maxLen;omega
           case m2_1=>omega
           case m3_1=>simp;omega
           intro A4 c4 L dN hb4 hn4 hm4 U;have ed:Hid (Apd L (w7.heap.size+1) 185 4 A4 (j+1) c4 (flat enC (es++ [⟨x,false,(d1,d2)⟩]))):=by
            show Apd _ _ _ _ _ _ _ _;rw[bQ]
            simpa [flat] using dN
           have I:Hid (Below (w7.heap.size+1) r L):=((ah (w7.heap.size+1) r).alloc (by omega) _).trans hb4;have D:=ai (H.o.below I.o (Nat.lt_succ_self _));have fA:=ai ((dn.o.below ((ah _ r).alloc aj (.cells #[.string x,.bool false,.int .u64 d1,.int .u64 d2] 185))).others U (by decide));have Aj:VF w7 L:=hBel.o.trans ((G.o.mono (by omega)).trans (I.o.mono (by omega)));have fO:w7.heap.size+1<=L.heap.size:=by have:=I.o.size;omega
           clear dN hb4 U o0 o1 o2 o3 o4 o5 o6 o7 o8 v0 v1 v2 v3 u2 u3 f2 f3 t o u T H;obtain⟨o0,o1,o2,o3,o4,o5,o6,o7,o8⟩:=D.o.nine;have g2:=D.o.free 2;go_wp2_with fail;go_roundw
           case rel=>exact⟨j+1,q2,_,A2,c2,A4,c4,by go_num,by go_num,hlt,HST.o,fA.o.box D.o (by decide) 2 _,hc2,S,ed.o.setCell (a:=⟨w7.heap.size,2,none⟩) (Nat.lt_succ_self _) _,hn4,hm4,D.o.set 2 (.slice A4 (j+1) c4),Aj.o.setCell (p:=⟨w7.heap.size,2,none⟩) aj _,by simpa using fO⟩
           case measure=>simp[intOf];omega
         . have HN:Hid (sto (k+1) p l=none):=hSt.o.filex HX.o Z.o hz
           have Ak:=ai (HD7.o.below (hBel.o.trans (u.o.mono (by omega))) (by omega));have Au:VF w z:=Q.o.trans ((hBel.o.trans (u.o.mono (by omega))).mono (by omega));clear hz y;have f2:=o.o.free 2;have f3:=o.o.free 3;have u2:=o.o.cell 2;have u3:=o.o.cell 3;simp at u2 u3;obtain⟨r,t⟩:=NX9 ((z.setCell ⟨wr.heap.size,2,none⟩ (.int .u64 zD.1)).setCell ⟨wr.heap.size,3,none⟩ (.int .u64 zD.2))
           have M:Hid (Bk r w.heap.size 50 #[.int .u64 0,.int .u64 0]):=by rw[<-t];exact(Ak.o.far (p:=⟨wr.heap.size,2,none⟩) (by show w.heap.size≠wr.heap.size;omega) _).far (p:=⟨wr.heap.size,3,none⟩) (by show w.heap.size≠wr.heap.size;omega) _
           have AP:VF w r:=by rw[<-t];exact(Au.o.setCell (p:=⟨wr.heap.size,2,none⟩) (by show w.heap.size<=wr.heap.size;omega) _).setCell (p:=⟨wr.heap.size,3,none⟩) (by show w.heap.size<=wr.heap.size;omega) _
           obtain⟨d0',d1',_,_⟩:=M.o.two;have e0:=M.o.free 0;have e1:=M.o.free 1;go_wp2_with fail;refine ZW (kC Tryz.results124 rfl rfl (M.o.set2 _ _) rfl) rfl ⟨.inr ⟨HN.o,rfl⟩,eX AP.o aj _ _⟩
       | none =>
         have Z:=ai hlf;have rf:=ai (Iz (Z7 HX.o) hlf);rw[hlf]at hgf;simp only[Bool.false_eq_true,if_false,Option.map_none]at hgf;rw[hgf]at hlk;simp only[Option.getD_none,Option.isSome_none]at hlk;clear hgf hlf;obtain⟨W9,E⟩:=NX9 (((wr.alloc (.cells #[.string x,.bool false,.int .u64 0,.int .u64 0] 185)).alloc (.cells #[.string ⟨#[]⟩,.string ⟨#[]⟩] 82)).setCell ⟨wr.heap.size,1,none⟩ (.bool true))
         have nO:Hid (Bk ((wr.alloc (.cells #[.string x,.bool false,.int .u64 0,.int .u64 0] 185)).alloc (.cells #[.string ⟨#[]⟩,.string ⟨#[]⟩] 82)) wr.heap.size 185 #[.string x,.bool false,.int .u64 0,.int .u64 0]):=(Bk.new wr _ _).alloc _;have bz:Hid (Bk W9 wr.heap.size 185 #[.string x,.bool true,.int .u64 0,.int .u64 0]):=by rw[<-E];exact nO.o.set 1 (.bool true)
         have K:VF wr W9:=by rw[<-E];exact(((ah _ wr).alloc aj _).alloc (by simp) _).setCell (p:=⟨wr.heap.size,1,none⟩) aj _
         have z9:wr.heap.size+2=W9.heap.size:=by rw[<-E];simp
         have uw:=ai (oU.o.below (hBel.o.trans (K.o.mono (by omega))));have hlb: (Instr.lookup 273 (.map (some (w.heap.size+1))) (.string x) false).run Tryz.prog (((wr.alloc (.cells #[.string x,.bool false,.int .u64 0,.int .u64 0] 185)).alloc (.cells #[.string ⟨#[]⟩,.string ⟨#[]⟩] 82)).setCell ⟨wr.heap.size,1,none⟩ (.bool true))= .ok ((gb x).getD jD) (((wr.alloc (.cells #[.string x,.bool false,.int .u64 0,.int .u64 0] 185)).alloc (.cells #[.string ⟨#[]⟩,.string ⟨#[]⟩] 82)).setCell ⟨wr.heap.size,1,none⟩ (.bool true)):=by
          rw[E];exact uw.o.b.look Tryz.underlying9 Tryz.underlying273 (Tryz.zeroValue63 _) hsm
         have cu:=ai E;have y1:=nO.o.cell 1;simp at y1;have f1:=nO.o.free 1;clear E;have HOW:=ai (uw.o.rows.own x);obtain⟨vb,hvb⟩:=NX9 ((gb x).getD jD)
         simp only[hvb]at HOW;have HV:Hid (∃Ab cb,vb= .slice Ab (inD l x).length cb):=by
          rcases HOW.o.2 with ⟨h1,h2⟩ | ⟨g,cap,cur,h1,_⟩
          . exact⟨none,0,by rw[h1,h2]⟩
          . exact⟨_,_,h1⟩
         obtain⟨Ab,cb,rfl⟩:=HV.o;rw[hvb]at hlb;have VV:=ai (Sl.of_own HOW.o);have VW:Hid (q.length+wt (inD l x)<=800000):=by
          have h1:=hSt.o.len;rw[yg HX.o]at h1;have h2:=IA l x;have h3:=uA.o;rw[<-X.o]at h3;show _<=_;omega
         obtain⟨k',rfl⟩:∃k',k=k'+1:=by
          obtain⟨f,hf⟩:=List.exists_mem_of_ne_nil _ rf.o;obtain⟨g,hg,h1,_,_⟩:=mem_inD.1 hf;have h3:=(wJ (C.o.path g hg) h1).2;have h4:=KF.o g hg;exact⟨k - 1,by omega⟩
         have y:=ai (IH.o k' rfl (inD l x) (C.o.sub x) (fun f hf=>by
          obtain⟨g,hg,h1,h2,rfl⟩:=mem_inD.1 hf;have h3:=(wJ (C.o.path g hg) h1).2;have h4:=KF.o g hg;simp only;omega) q Aq q.length cq Ab (inD l x).length cb W9.heap.size W9 (fU.o _ _ _ _ (F.o.below K.o) (Q.o.trans ((hBel.o.mono (by omega)).trans (K.o.mono (by omega))))) VV.o aj hqc hcq hSt.o.ok VW.o)
         unfold Af at y;simp only[az]at y;obtain⟨ib,hib⟩:=NX9 ((inD l x).length)
         rw[hib]at hlb y;clear hvb hib HOW;go_wp2_with fail;rw[cu.o];refine y.o.mono ?_;rintro e z ⟨hq,v⟩;have o:=ai (bz.o.below v (by omega));have u:VF wr z:=K.o.trans (v.mono K.o.size);have z11:W9.heap.size<=z.heap.size:=v.size;clear v bz K cu hlb y1 f1 nO zX zW bn;rcases hq with ⟨q2,⟨d1,d2⟩,A2,c2,hz,hrr,rfl,hs11,hc2,S,hy⟩ | ⟨hz,rfl⟩
         . have HZ:=ai hz;have HY:=ai hy
           have HRR:=ai hrr;clear hrr;have HST:=ai (hSt.o.dir C.o HX.o Z.o HZ.o HRR.o rf.o);clear hz hy hs11 y;obtain⟨r,t⟩:=NX9 ((z.setCell ⟨wr.heap.size,2,none⟩ (.int .u64 d1)).setCell ⟨wr.heap.size,3,none⟩ (.int .u64 d2))
           have cO:Hid (Bk r wr.heap.size 185 #[.string x,.bool true,.int .u64 d1,.int .u64 d2]):=by rw[<-t];exact(o.o.set 2 (.int .u64 d1)).set 3 (.int .u64 d2)
           have G:VF wr r:=by rw[<-t];exact(u.o.setCell (p:=⟨wr.heap.size,2,none⟩) aj _).setCell (p:=⟨wr.heap.size,3,none⟩) aj _
           have dn:Hid (Ply r w.heap.size A c p A2 c2 q2):=by
            rw[<-t];exact((F.o.trans u.o HY.o (by omega)).box o.o (by decide) 2 _).box (o.o.set 2 (.int .u64 d1)) (by decide) 3 _
           have z12:wr.heap.size<r.heap.size:=by rw[<-t];simp;omega
           have H:=ai (zT.o.below G.o (by omega));have T:=ai (zx.o.below G.o);have f2:=o.o.free 2;have f3:=o.o.free 3;have u2:=o.o.cell 2;have u3:=o.o.cell 3;simp at u2 u3;obtain⟨v0,v1,v2,v3⟩:=cO.o.four;obtain⟨o0,o1,o2,o3,o4,o5,o6,o7,o8⟩:=H.o.nine
           go_wp2_with (at_builtin;refine aO ?_)
           refine aH ?_;refine eG (base:=w7.heap.size+1) (size:=4) _ rfl (.tmp 104) (.tmp 106) 107 rfl 185 i0 _ 40 Tryz.underlying107 Hi.o ku.o kU.o lg.o rfl (by decide) EA j ec (flat enC es) rfl ?own_1 (r.heap.size+1) _ 1 _ (enC ⟨x,true,(d1,d2)⟩) rfl ?nw_1 (by simp[enC,Value.oneCell']) ?m1_1 ?m2_1 ?m3_1 ?_
           case own_1=>exact T.o.below ((ah _ r).alloc aj _)
           case nw_1 =>
            have:=Sl.of_bk (n:=1) (size:=4) (Bk.new r 185 #[.string x,.bool true,.int .u64 d1,.int .u64 d2]) rfl;rw[Z9]at this;exact this
           case m1_1=>unfold maxLen;omega
           case m2_1=>omega
           case m3_1=>simp;omega
           intro A4 c4 L dN hb4 hn4 hm4 U;have ed:Hid (Apd L (w7.heap.size+1) 185 4 A4 (j+1) c4 (flat enC (es++ [⟨x,true,(d1,d2)⟩]))):=by
            show Apd _ _ _ _ _ _ _ _;rw[bQ]
            simpa [flat] using dN
           have I:Hid (Below (w7.heap.size+1) r L):=((ah (w7.heap.size+1) r).alloc (by omega) _).trans hb4;have D:=ai (H.o.below I.o (Nat.lt_succ_self _));have fA:=ai ((dn.o.below ((ah _ r).alloc aj (.cells #[.string x,.bool true,.int .u64 d1,.int .u64 d2] 185))).others U (by decide));have Aj:VF w7 L:=hBel.o.trans ((G.o.mono (by omega)).trans (I.o.mono (by omega)));have fO:w7.heap.size+1<=L.heap.size:=by have:=I.o.size;omega
           clear dN hb4 U o0 o1 o2 o3 o4 o5 o6 o7 o8 v0 v1 v2 v3 u2 u3 f2 f3 t o u T H;obtain⟨o0,o1,o2,o3,o4,o5,o6,o7,o8⟩:=D.o.nine;have g2:=D.o.free 2;go_wp2_with fail;go_roundw
           case rel=>exact⟨j+1,q2,_,A2,c2,A4,c4,by go_num,by go_num,hlt,HST.o,fA.o.box D.o (by decide) 2 _,hc2,S,ed.o.setCell (a:=⟨w7.heap.size,2,none⟩) (Nat.lt_succ_self _) _,hn4,hm4,D.o.set 2 (.slice A4 (j+1) c4),Aj.o.setCell (p:=⟨w7.heap.size,2,none⟩) aj _,by simpa using fO⟩
           case measure=>simp[intOf];omega
         . have HN:Hid (sto (k'+1+1) p l=none):=hSt.o.dirx HX.o Z.o hz
           have Ak:=ai (HD7.o.below (hBel.o.trans (u.o.mono (by omega))) (by omega));have Au:VF w z:=Q.o.trans ((hBel.o.trans (u.o.mono (by omega))).mono (by omega));clear hz y;have f2:=o.o.free 2;have f3:=o.o.free 3;have u2:=o.o.cell 2;have u3:=o.o.cell 3;simp at u2 u3;obtain⟨r,t⟩:=NX9 ((z.setCell ⟨wr.heap.size,2,none⟩ (.int .u64 zD.1)).setCell ⟨wr.heap.size,3,none⟩ (.int .u64 zD.2))
           have M:Hid (Bk r w.heap.size 50 #[.int .u64 0,.int .u64 0]):=by rw[<-t];exact(Ak.o.far (p:=⟨wr.heap.size,2,none⟩) (by show w.heap.size≠wr.heap.size;omega) _).far (p:=⟨wr.heap.size,3,none⟩) (by show w.heap.size≠wr.heap.size;omega) _
           have AP:VF w r:=by rw[<-t];exact(Au.o.setCell (p:=⟨wr.heap.size,2,none⟩) (by show w.heap.size<=wr.heap.size;omega) _).setCell (p:=⟨wr.heap.size,3,none⟩) (by show w.heap.size<=wr.heap.size;omega) _
           obtain⟨d0',d1',_,_⟩:=M.o.two;have e0:=M.o.free 0;have e1:=M.o.free 1;go_wp2_with fail;refine ZW (kC Tryz.results124 rfl rfl (M.o.set2 _ _) rfl) rfl ⟨.inr ⟨HN.o,rfl⟩,eX AP.o aj _ _⟩
     . have hlz:¬(j:Int)< (nn:Int):=by omega
       have VG:Hid (j=nn):=by show _=_;omega
       have nU:VF w wr:=Q.o.trans (hBel.o.mono (by omega));have VX:=ai (HD7.o.below hBel.o (by omega));have Wj:Hid (es.length=j):=hSt.o.elen (by rw[zt.o];exact hj);have VY:=ai (hSt.o.es C.o);have y:=ai (xu Aq q.length cq wr.heap.size q (dK es) ⟨EA,j,ec,none,0,0⟩ wr (fU.o _ _ _ _ F.o nU.o) ⟨zx.o.sl,Sl.nil _ _ _ _,hje,VT,Nat.le_refl _,ZX _⟩ aj hqc hcq (by have h1:=hSt.o.plen;have h2:=uA.o;rw[<-X.o]at h2;omega) hSt.o.ok.asc (sH VY.o));unfold PuE at y;obtain⟨⟨d1,d2⟩,hdd⟩:∃d,dgO (dK es)=d:=⟨_,rfl⟩
       have nz:=ai hdd;rw[hdd]at y;simp only[az,obV,obC,dK]at y;clear hdd;obtain⟨o0,o1,o2,o3,o4,o5,o6,o7,o8⟩:=zT.o.nine;go_wp2_with fail;refine y.o.mono ?_;rintro e z ⟨hq,v⟩;have u:VF w z:=nU.o.trans (v.mono nU.o.size);have J:=ai (VX.o.below v (by omega));obtain⟨t0,t1,_,_⟩:=J.o.two;have e0:=J.o.free 0;have e1:=J.o.free 1;have VZ:=ai v;clear v y o0 o1 o2 o3 o4 o5 o6 o7 o8;rcases hq with ⟨q2,A2,c2,hz,rfl,hs11,hc2,S,hy⟩ | ⟨hz,rfl⟩
       . have HN:Hid (sto (k+1) p l=some (q2,(d1,d2))):=by
           have:=hSt.o.done (by rw[zt.o,VG.o];exact Nat.le_refl _) hz;rw[nz.o]at this;exact this
         have HRR:Hid (qV p q2 (d1,d2) l):=by
          have:=hSt.o.res C.o hz;rw[nz.o]at this;exact this
         have HY:Hid (Ply z w.heap.size A c p A2 c2 q2):=F.o.trans VZ.o hy (by have:=nU.o.size;omega);have VH:Hid (Ply ((z.setCell ⟨w.heap.size,0,none⟩ (.int .u64 d1)).setCell ⟨w.heap.size,1,none⟩ (.int .u64 d2)) w.heap.size A c p A2 c2 q2):=(HY.o.box J.o (by decide) 0 _).box (J.o.set 0 (.int .u64 d1)) (by decide) 1 _;clear hz hy hs11;go_wp2_with fail;refine ZW (kC Tryz.results124 rfl rfl (J.o.set2 _ _) rfl) rfl ⟨.inl ⟨q2,(d1,d2),A2,c2,HN.o,HRR.o,rfl,?_,hc2,S,VH.o⟩,eX u.o aj _ _⟩;exact fU.o _ _ _ _ VH.o (eX u.o aj _ _)
       . have HN:Hid (sto (k+1) p l=none):=hSt.o.donex (by rw[zt.o,VG.o];exact Nat.le_refl _) hz
         clear hz;go_wp2_with fail;refine ZW (kC Tryz.results124 rfl rfl (J.o.set2 _ _) rfl) rfl ⟨.inr ⟨HN.o,rfl⟩,eX u.o aj _ _⟩
theorem OO:∀k,zZ k:=by
 intro k
 induction k with
 | zero=>exact CG 0 (fun k' h=>by omega)
 | succ k ih=>exact CG (k+1) (fun k' h=>by obtain rfl:k'=k:=(by omega);exact ih)
end
theorem Bi{α β:Type}(f:α->β){l:List α}(h: (l.map f).Nodup):l.Nodup:=by
 unfold List.Nodup at h ⊢;rw[List.pairwise_map]at h;exact h.imp (fun hn e=>hn (by rw[e]))
def EntS(q:List Itm)(g:Dig->List Fl->Prop)(l:List Fl)(e:Ent):Prop :=
 (e.dir=false/\∃s,(e.nm,s)∈l/\aC q e.dg=some (dU s))∨ (e.dir=true/\inD l e.nm≠ []/\ (∀f∈l,f.1≠e.nm)/\g e.dg (inD l e.nm))
def Std(q:List Itm):Nat->Dig->List Fl->Prop
 | 0,_,_=>False
 | k+1,d,l=>∃es,aC q d=some (dK es)/\es.map Ent.nm=bJ l/\∀e∈es,EntS q (Std q k) l e
theorem EntS.mono{q q':List Itm}{g g':Dig->List Fl->Prop}{l:List Fl}{e:Ent}(hq:PlOk q)(hq':PlOk q')(hs:subP q q')(hg:∀d l,g d l->g' d l)(h:EntS q g l e):EntS q' g' l e:=by
 rcases h with ⟨h1,s,h2,h3⟩ | ⟨h1,h2,h3,h4⟩
 . exact .inl ⟨h1,s,h2,jH hq hq' hs h3⟩
 . exact .inr ⟨h1,h2,h3,hg _ _ h4⟩
theorem Std.mono{q q':List Itm}(hq:PlOk q)(hq':PlOk q')(hs:subP q q'):∀{k:Nat}{d:Dig}{l:List Fl},Std q k d l->Std q' k d l:=by
 intro k
 induction k with
 | zero=>intro d l h;exact h
 | succ k ih =>
   rintro d l ⟨es,h1,h2,h3⟩;exact⟨es,jH hq hq' hs h1,h2,fun e he=>(h3 e he).mono hq hq' hs (fun d l h=>ih h)⟩
theorem P9{k:Nat}(ih:∀(p:List Itm)(l:List Fl)(q:List Itm)(d:Dig),OkL l->PlOk p->sto k p l=some (q,d)->Std q k d l/\PlOk q/\subP p q){l:List Fl}(hl:OkL l) :
  ∀(ns:List VB)(p:List Itm)(es:List Ent)(q:List Itm)(es':List Ent),PlOk p-> (∀n∈ns,n∈bJ l)->dP (sto k) l p ns es=some (q,es')->PlOk q/\subP p q/\∃fs,es'=es++fs/\fs.map Ent.nm=ns/\∀e∈fs,EntS q (Std q k) l e:=by
 intro ns
 induction ns with
 | nil =>
   intro p es q es' hp _ h;rw[dP]at h;cases h
   exact⟨hp,subP.refl _,[],by simp,rfl,fun e h=>by cases h⟩
 | cons n r ihr =>
   intro p es q es' hp hns h;cases hk:eF l n with
   | some s =>
     have hm:=(jX hl.nod).1 hk;cases hpp:bC p (dU s) with
     | none=>rw[BZ hk hpp]at h;cases h
     | some p1 =>
       rw[pq hk hpp]at h;have hob:=pU (hl.data _ hm);have hp1:=lN hp hob hpp;obtain⟨a,b,fs,c,d,e⟩:=ihr p1 _ q es' hp1 (fun m hm=>hns m (by simp[hm])) h;refine⟨a,(kz hp hpp).trans b,⟨n,false,dgO (dU s)⟩::fs,by rw[c];simp,by rw[List.map_cons,d],fun x hx=>?_⟩;rcases List.mem_cons.1 hx with rfl | hx
       . exact .inl ⟨rfl,s,hm,jH hp1 a b (jZ hp hob hpp)⟩
       . exact e x hx
   | none =>
     cases hpp:sto k p (inD l n) with
     | none=>rw[DY hk hpp]at h;cases h
     | some pd =>
       obtain⟨p1,d1⟩:=pd;rw[xU hk hpp]at h;obtain⟨h1,hp1,hs1⟩:=ih p _ p1 d1 (hl.sub n) hp hpp;obtain⟨a,b,fs,c,d,e⟩:=ihr p1 _ q es' hp1 (fun m hm=>hns m (by simp[hm])) h;refine⟨a,hs1.trans b,⟨n,true,d1⟩::fs,by rw[c];simp,by rw[List.map_cons,d],fun x hx=>?_⟩;rcases List.mem_cons.1 hx with rfl | hx
       . exact .inr ⟨rfl,Iz (hns n (by simp)) hk,fun f hf e=>look9_none.1 hk f hf e,h1.mono hp1 a b⟩
       . exact e x hx
theorem Ru{es:List Ent}{l:List Fl}{q:List Itm}{g:Dig->List Fl->Prop}(hl:OkL l)(h2:es.map Ent.nm=bJ l)(h:∀e∈es,EntS q g l e)(hg:∀d l,g d l->WfD d/\d≠zD)(hq:PlOk q):jU es where
 few:=by
  have:=congrArg List.length h2;rw[List.length_map]at this;have:=Gs l;have:=hl.few;omega
 all e he:=by
  have hn:e.nm∈bJ l:=by rw[<-h2];exact List.mem_map_of_mem he
  obtain⟨f,hf,e1⟩:=nms_mem.1 hn;have hnm:nameB e.nm=true:=by rw[e1];exact rZ (hl.path f hf)
  rcases h e he with ⟨_,s,_,c⟩ | ⟨_,_,_,c⟩
  . have:=jK hq c
    exact⟨hnm,by rw[this];exact eY _,by rw[this];exact jL _⟩
  . exact⟨hnm,(hg _ _ c).1,(hg _ _ c).2⟩
 asc j a b ha hb:=FB (by rw[h2];exact uh l) ha hb
theorem Ig{q:List Itm}(hq:PlOk q){k:Nat}{d:Dig}{l:List Fl}(h:Std q k d l):WfD d/\d≠zD:=by
 cases k with
 | zero=>exact h.elim
 | succ k =>
   obtain⟨es,h1,_⟩:=h;have:=jK hq h1;exact⟨by rw[this];exact eY _,by rw[this];exact jL _⟩
theorem Ry:∀(k:Nat)(p:List Itm)(l:List Fl)(q:List Itm)(d:Dig),OkL l->PlOk p->sto k p l=some (q,d)->Std q k d l/\PlOk q/\subP p q:=by
 intro k
 induction k with
 | zero=>intro p l q d _ _ h;rw[sto]at h;cases h
 | succ k ih =>
   intro p l q d hl hp h;rw[sto]at h;cases hE:dP (sto k) l p (bJ l) [] with
   | none=>rw[hE]at h;cases h
   | some pe =>
     obtain⟨p1,es⟩:=pe;rw[hE]at h;simp only at h;cases hpp:bC p1 (dK es) with
     | none=>rw[hpp]at h;cases h
     | some p2 =>
       rw[hpp]at h;cases h
       obtain⟨a,b,fs,c,e1,e2⟩:=P9 ih hl (bJ l) p [] p1 es hp (fun n hn=>hn) hE;rw[List.nil_append]at c;subst c;have hes:=Ru hl e1 e2 (fun d l h=>Ig a h) a;have hob:=sH hes;have hok:=lN a hob hpp;have hsb:=kz a hpp;exact⟨⟨es,jZ a hob hpp,e1,fun e he=>(e2 e he).mono a hok hsb (fun d l h=>h.mono a hok hsb)⟩,hok,b.trans hsb⟩
theorem MZ{q:List Itm}{k:Nat}{l:List Fl}(hl:OkL l)(hq:PlOk q)(ih:∀(d:Dig)(l:List Fl),OkL l->Std q k d l->sto k q l=some (q,d)):∀(fs es:List Ent),(∀e∈fs,EntS q (Std q k) l e)->dP (sto k) l q (fs.map Ent.nm) es=some (q,es++fs):=by
 intro fs
 induction fs with
 | nil=>intro es _;rw[List.map_nil,dP,List.append_nil]
 | cons e r ihr =>
   intro es h;obtain⟨n,dir,dg⟩:=e;rw[List.map_cons];have hr:=fun es=>ihr es (fun e he=>h e (by simp[he]));rcases h _ (List.mem_cons_self ..) with ⟨a,s,b,c⟩ | ⟨a,b,c,d⟩
   . simp only at a b c
     subst a;have hd:=jK hq c;rw[pq ((jX hl.nod).2 b) (Dh hq (by rw[<-hd];exact c)),hr,<-hd];simp
   . simp only at a b c d
     subst a;rw[xU (look9_none.2 c) (ih _ _ (hl.sub n) d),hr];simp
theorem RV{q:List Itm}(hq:PlOk q):∀(k:Nat)(d:Dig)(l:List Fl),OkL l->Std q k d l->sto k q l=some (q,d):=by
 intro k
 induction k with
 | zero=>intro d l _ h;exact h.elim
 | succ k ih =>
   rintro d l hl ⟨es,h1,h2,h3⟩;have hE:=MZ hl hq ih es [] h3;rw[List.nil_append,h2]at hE;have hd:=jK hq h1;rw[sto,hE];simp only;rw[Dh hq (by rw[<-hd];exact h1),<-hd]
theorem Qk{g:Dig->VB->List Fl×Int}{p:List Itm}{pre:VB}:∀{es:List Ent},(∀e∈es,(pre++e.nm).size<=100/\ ((e.dir=true/\ (g e.dg (pre++e.nm++slB)).2=0)∨ (e.dir=false/\∃o,aC p e.dg=some o/\o.kind=1))) ->
  (vsE g p pre es).2=0/\∀f,f∈ (vsE g p pre es).1↔∃e∈es,(e.dir=true/\f∈ (g e.dg (pre++e.nm++slB)).1)∨ (e.dir=false/\∃o,aC p e.dg=some o/\f= (pre++e.nm,o.data)):=by
 intro es
 induction es with
 | nil=>intro _;exact⟨rfl,fun f=>by simp[vsE]⟩
 | cons e es ih =>
   intro h;obtain⟨i1,i2⟩:=ih (fun e he=>h e (by simp[he]));obtain⟨h1,h2⟩:=h e (by simp);have hf:¬100< (pre++e.nm).size:=by omega
   rcases h2 with ⟨hd,hz⟩ | ⟨hd,o,ho,hk⟩
   . rw[uo hf hd (s:=(g e.dg (pre++e.nm++slB)).1) (by rw[<-hz])]
     refine⟨i1,fun f=>?_⟩;simp only;rw[List.mem_append,i2];constructor
     . rintro (h | ⟨e',he,h⟩)
       . exact⟨e,by simp,.inl ⟨hd,h⟩⟩
       . exact⟨e',by simp[he],h⟩
     . rintro ⟨e',he,hw⟩
       rcases List.mem_cons.1 he with rfl | he
       . rcases hw with ⟨_,hw⟩ | ⟨h0,_⟩
         . exact .inl hw
         . rw[hd]at h0;cases h0
       . exact .inr ⟨e',he,hw⟩
   . rw[sZ hf hd ho hk]
     refine⟨i1,fun f=>?_⟩;simp only;rw[List.mem_cons,i2];constructor
     . rintro (h | ⟨e',he,h⟩)
       . exact⟨e,by simp,.inr ⟨hd,o,ho,h⟩⟩
       . exact⟨e',by simp[he],h⟩
     . rintro ⟨e',he,hw⟩
       rcases List.mem_cons.1 he with rfl | he
       . rcases hw with ⟨h0,_⟩ | ⟨_,o',ho',hw⟩
         . rw[hd]at h0;cases h0
         . rw[ho]at ho';cases ho';exact .inl hw
       . exact .inr ⟨e',he,hw⟩
theorem kP(a b:VB): (a++b).size=a.size+b.size:=by rw[<-ik,jA,af,ik,ik]
theorem CQ(a b c:VB):a++b++c=a++ (b++c):=by apply nV;simp[jA]
theorem yJ{s:VB}(h:deN s=true):s=fsN s++slB++rsN s:=by apply nV;rw[jA,jA,zi,ZZ];exact jI h
theorem Rl{q:List Itm}:∀(k:Nat)(d:Dig)(l:List Fl),OkL l->Std q k d l->∀(n:Nat)(pre:VB),(∀f∈l,pre.size+f.1.size<=100)->102<=n+pre.size-> (l= []->pre= ⟨#[]⟩) ->
  (vis q n d pre).2=0/\∀f,f∈ (vis q n d pre).1↔∃g∈l,f= (pre++g.1,g.2):=by
 intro k
 induction k with
 | zero=>intro d l _ h;exact h.elim
 | succ k ih =>
   rintro d l hl ⟨es,h1,h2,h3⟩ n pre hsz hn hne;have hn1:1<=n:=by
    cases l with
    | nil=>rw[hne rfl]at hn;have: (⟨#[]⟩:VB).size=0:=rfl;omega
    | cons f l=>have:=hsz f (by simp);omega
   obtain⟨n,rfl⟩:∃m,n=m+1:=⟨n - 1,by omega⟩
   have hes:¬((dK es).ents= []/\pre≠ ⟨#[]⟩):=by
    rintro ⟨he,hp⟩;have he':es= []:=he;subst he';cases l with
    | nil=>exact hp (hne rfl)
    | cons f l =>
      have:fsN f.1∈bJ (f::l):=nms_mem.2 ⟨f,by simp,rfl⟩;rw[<-h2]at this;cases this
   rw[ER h1 rfl hes];show(vsE (vis q n) q pre es).2=0/\∀f,f∈ (vsE (vis q n) q pre es).1↔∃g∈l,f= (pre++g.1,g.2)
   have key:∀e∈es,(pre++e.nm).size<=100/\ ((e.dir=true/\ (vis q n e.dg (pre++e.nm++slB)).2=0/\∀f,f∈ (vis q n e.dg (pre++e.nm++slB)).1↔∃g∈inD l e.nm,f= (pre++e.nm++slB++g.1,g.2))∨ (e.dir=false/\∃s,(e.nm,s)∈l/\aC q e.dg=some (dU s))):=by
    intro e he;rcases h3 e he with ⟨a,s,b,c⟩ | ⟨a,b,c,f⟩
    . exact⟨by rw[kP];exact hsz _ b,.inr ⟨a,s,b,c⟩⟩
    . have hs:∀x∈inD l e.nm,(pre++e.nm++slB).size+x.1.size<=100:=fun x hx=>by
        obtain⟨g,hg,g1,g2,rfl⟩:=mem_inD.1 hx;have h4:=hsz g hg;have h5:=congrArg ByteArray.size (yJ g1);rw[kP,kP,g2]at h5;rw[kP,kP];simp only;omega
      have hnm:1<=e.nm.size:=by
       obtain⟨x,hx⟩:=List.exists_mem_of_ne_nil _ b;obtain⟨g,hg,_,g2,_⟩:=mem_inD.1 hx;rw[<-g2];exact(sO (rZ (hl.path g hg))).1
      have hs0:slB.size=1:=rfl;obtain⟨i1,i2⟩:=ih e.dg (inD l e.nm) (hl.sub _) f n (pre++e.nm++slB) hs (by rw[kP,kP];omega) (fun h=>absurd h b);refine⟨?_,.inl ⟨a,i1,i2⟩⟩;obtain⟨x,hx⟩:=List.exists_mem_of_ne_nil _ b;have:=hs x hx;rw[kP]at this;omega
   obtain⟨v1,v2⟩:=Qk (g:=vis q n) (p:=q) (pre:=pre) (es:=es) (fun e he=>by
    obtain⟨a,b⟩:=key e he;refine⟨a,?_⟩;rcases b with ⟨b1,b2,_⟩ | ⟨b1,s,_,b3⟩
    . exact .inl ⟨b1,b2⟩
    . exact .inr ⟨b1,_,b3,rfl⟩)
   refine⟨v1,fun f=>?_⟩;rw[v2];constructor
   . rintro ⟨e,he,h⟩
     obtain⟨_,b⟩:=key e he;rcases h with ⟨hd,hf⟩ | ⟨hd,o,ho,rfl⟩
     . rcases b with ⟨_,_,b3⟩ | ⟨b1,_⟩
       . obtain⟨g,hg,rfl⟩:=(b3 f).1 hf
         obtain⟨g',hg',g1,g2,rfl⟩:=mem_inD.1 hg;refine⟨g',hg',?_⟩;have:=yJ g1;rw[g2]at this;simp only;rw[Prod.mk.injEq];refine⟨?_,rfl⟩
         conv=>rhs;rw[this]
         simp only[CQ]
       . rw[hd]at b1;cases b1
     . rcases b with ⟨b1,_⟩ | ⟨_,s,b2,b3⟩
       . rw[hd]at b1;cases b1
       . rw[b3]at ho;cases ho
         exact⟨_,b2,rfl⟩
   . rintro ⟨g,hg,rfl⟩
     have hgn:fsN g.1∈es.map Ent.nm:=by rw[h2];exact nms_mem.2 ⟨g,hg,rfl⟩
     obtain⟨e,he,hen⟩:=List.mem_map.1 hgn;refine⟨e,he,?_⟩;obtain⟨_,b⟩:=key e he;cases hd:deN g.1 with
     | true =>
       have hin: (rsN g.1,g.2)∈inD l e.nm:=mem_inD.2 ⟨g,hg,hd,hen.symm,rfl⟩;rcases b with ⟨b1,_,b3⟩ | ⟨b1,s,b2,_⟩
       . refine .inl ⟨b1,(b3 _).2 ⟨_,hin,?_⟩⟩
         have:=yJ hd;rw[<-hen]at this;rw[Prod.mk.injEq];refine⟨?_,rfl⟩
         conv=>lhs;rw[this]
         simp only[CQ]
       . have h5:=hl.nob _ b2 g hg
         rw[Bool.eq_false_iff]at h5;refine absurd ((sS _ _).2 ⟨bl (rsN g.1),?_⟩) h5;rw[jI hd,hen]
     | false =>
       have hfl:=lI hd;rcases h3 e he with ⟨a,s,b2,c⟩ | ⟨_,_,c,_⟩
       . refine .inr ⟨a,_,c,?_⟩
         have:g= (e.nm,s):=by
          have h6: (e.nm,g.2)∈l:=by rw[hen,hfl];exact hg
          have h7:=(jX hl.nod).2 h6;rw[(jX hl.nod).2 b2]at h7;cases h7
          rw[hen,hfl]
         rw[this];rfl
       . exact absurd (by rw[hen,hfl]) (c g hg)
theorem EX{q:List Itm}{k:Nat}{d:Dig}{l:List Fl}(hq:PlOk q)(hl:OkL l)(h:Std q k d l)(ha:AscF l):kY q d l:=by
 have e0: (⟨#[]⟩:VB).size=0:=rfl;obtain⟨h1,h2⟩:=Rl k d l hl h 102 ⟨#[]⟩ (fun f hf=>by have:=tu (hl.path f hf);omega) (by omega) (fun _=>rfl);have hnd:=Dq hq 102 d ⟨#[]⟩;have hem:∀s:VB,(⟨#[]⟩:VB)++s=s:=fun s=>by apply nV;rw[jA];rfl
 have hp:l.Perm (iC q d).1:=by
  refine(List.perm_ext_iff_of_nodup (Bi Prod.fst hl.nod) (Bi Prod.fst hnd)).2 (fun f=>?_);show f∈l↔f∈ (vis q 102 d ⟨#[]⟩).1;rw[h2];constructor
  . intro hf;exact⟨f,hf,by rw[hem]⟩
  . rintro ⟨g,hg,rfl⟩;rw[hem];exact hg
 exact⟨by rw[<-hp.length_eq];exact hl.few,h1,hp,ha⟩
structure OkT(l:List Fl):Prop where
 path:∀f∈l,dh f.1=true
 data:∀f∈l,f.2.size<=60000
 nod: (l.map Prod.fst).Nodup
 nob:∀f∈l,∀g∈l,jR f.1 g.1=false
section
variable {p : List Itm} {le : Ent -> List Fl} {es : List Ent}
variable (hes : jU es) (hle : ∀ e ∈ es, e.dir = true -> OkT (le e) /\ le e ≠ [] /\ ∀ g ∈ le e, (e.nm ++ slB ++ g.1).size <= 100) (hfl : ∀ e ∈ es, e.dir = false -> ∃ s, s.size <= 60000 /\ aC p e.dg = some (dU s))
include hes hle hfl
end
noncomputable def ji(p:List Itm)(d:Dig):VB×Int:=match aC p d with
 | none=>(⟨#[]⟩,8)
 | some o=>if o.kind=1 then(o.data,0) else(⟨#[]⟩,9)
section
variable {p : List Itm} {k : Nat} {d : Dig} {s : VB}
theorem wS(h:aC p d=none):ji p d= (⟨#[]⟩,8):=by unfold ji;rw[h]
theorem wK{o:Ob}(h:aC p d=some o)(hk:o.kind≠1):ji p d= (⟨#[]⟩,9):=by unfold ji;rw[h];simp only[if_neg hk]
theorem DR{o:Ob}(h:aC p d=some o)(hk:o.kind=1):ji p d= (o.data,0):=by unfold ji;rw[h];simp only[if_pos hk]
end
structure FCh where
 path:VB
 ho:Bool
 hn:Bool
 old:VB
 new:VB
def Jy(x:FCh):Prop:=x.ho≠x.hn∨x.old≠x.new
instance (x:FCh):Decidable (Jy x):=by unfold Jy;infer_instance
section
variable {l m : List Fl} {c : List FCh} {j : Nat} {x : FCh}
end
theorem Ho:∀{p:Option VB}{fs:List Fl},gp p fs=0-> (∀f∈fs,upB p f.1=true)/\AscF fs/\∀f∈fs,dh f.1=true
 | p,[],_=>⟨fun f h=>(by cases h),List.Pairwise.nil,fun f h=>(by cases h)⟩
 | p,f::r,h=>by
   unfold gp at h;by_cases h1:dh f.1=true
   . rw[if_pos h1]at h
     by_cases h2:upB p f.1=true
     . rw[if_pos h2]at h
       obtain⟨i1,i2,i3⟩:=Ho h;refine⟨fun g hg=>?_,List.pairwise_cons.2 ⟨fun g hg=>i1 g hg,i2⟩,fun g hg=>?_⟩
       . rcases List.mem_cons.1 hg with rfl | hg
         . exact h2
         . cases p with
           | none=>rfl
           | some q=>exact jW h2 (i1 g hg)
       . rcases List.mem_cons.1 hg with rfl | hg
         . exact h1
         . exact i3 g hg
     . rw[if_neg h2]at h;cases h
   . rw[if_neg h1]at h;cases h
theorem Eb:∀{p:Option VB}{fs:List Fl},(∀f∈fs,upB p f.1=true)->AscF fs-> (∀f∈fs,dh f.1=true)->gp p fs=0
 | p,[],_,_,_=>rfl
 | p,f::r,h1,h2,h3=>by
   unfold gp;rw[if_pos (h3 f (by simp)),if_pos (h1 f (by simp))];exact Eb (fun g hg=>h2.head hg) h2.tail (fun g hg=>h3 g (by simp[hg]))
theorem zI{fs:List Fl}(h:TckR fs 0)(hd:∀f∈fs,f.2.size<=60000):OkL fs/\AscF fs:=by
 rcases h with ⟨_,h⟩ | ⟨_,h1,h2⟩ | ⟨h1,h2,h3⟩
 . cases h
 . exact absurd h2.symm h1
 . obtain⟨_,h4,h5⟩:=Ho h2
   rcases h3 with ⟨_,h⟩ | ⟨h3,_⟩
   . cases h
   . refine⟨⟨h5,hd,h1,NU h4,fun f hf g hg=>?_⟩,h4⟩
     cases hb:jR f.1 g.1 with
     | false=>rfl
     | true=>exact absurd (RY hf hg hb) h3
theorem RU{fs:List Fl}(h:OkL fs)(ha:AscF fs):TckR fs 0 :=
 .inr (.inr ⟨h.few,Eb (fun _ _=>rfl) ha h.path,.inr ⟨Q9 h.nob,rfl⟩⟩)
def Jp(p:List Itm)(l:List Fl)(w:VA)(e:Ending)(w':VA):Prop :=
 ((∃z,TckR l z/\z≠0/\e= .returned (.tuple #[.slice none 0 0,az zD,.int .i64 z])) ∨
  (TckR l 0/\ ((∃q d A c,sto 101 p l=some (q,d)/\qV p q d l/\e= .returned (.tuple #[.slice A q.length c,az d,.int .i64 0])/\Sl w' w'.heap.size 3 A q.length (flat itC q)/\q.length<=c/\c<=maxLen)∨ (sto 101 p l=none/\e= .returned (.tuple #[.slice none 0 0,az zD,.int .i64 16])))))/\VE w w'
theorem IW{l:List Fl}(h:OkL l):wt l<=20200:=by
 have h1:=UA (l:=l) (k:=100) (fun f hf=>tu (h.path f hf));have h2:=h.few;have: (100+1)*l.length<=101*200:=Nat.mul_le_mul_left 101 h2;omega
theorem LM(A:OA)(n c B:Nat)(p:List Itm)(A1:OA)(m c1:Nat)(l:List Fl)(w:VA)(h0:Sl w B 3 A n (flat itC p))(h1:Sl w B 2 A1 m (flat flC l))(hB:B<=w.heap.size)(hnc:n<=c)(hcm:c<=maxLen)(hn:n<=700000)(hm:m<=1000000)(hp:PlOk p)(hsz:∀f∈l,f.1.size<=1000000/\f.2.size<=60000) :
  Calls Tryz.prog 67 #[.slice A n c,.slice A1 m c1] w (Jp p l w):=by
 have HP:=ai hp;have H0:=ai h0;have H1:=ai h1;have d:=ai hsz;have g:=ai hnc;have HCM:=ai hcm;obtain⟨W,hW⟩:=NX9 (w.alloc (.cells #[.int .u64 0,.int .u64 0] 50))
 have HB0:VF w W:=by rw[<-hW];exact(ah _ w).alloc aj _
 have HD:Hid (Bk W w.heap.size 50 #[.int .u64 0,.int .u64 0]):=by rw[<-hW];exact Bk.new w _ _
 have HC:=ai (Nr A1 m c1 B l W (h1.below HB0.o hB) (ZY hB HB0.o.size) hm hsz);have HW:=ai hW;have i:w.heap.size<W.heap.size:=HD.o.lt;clear hp h0 h1 hsz hnc hcm hW
 go_enter Tryz.func67,Tryz.ntmps67
 go_wp2_with fail;rw[HW.o];refine HC.o.mono ?_;rintro e w2 ⟨z,rfl,hz,hb⟩;have HZ:=ai hz;have HB2:VF w w2:=HB0.o.trans (hb.mono HB0.o.size);have HD2:=ai (HD.o.below hb i);obtain⟨y0,y1,_,_⟩:=HD2.o.two;have g0:=HD2.o.free 0;have g1:=HD2.o.free 1;have z2:=hb.size;clear hz hb HC;by_cases h0:z=0
 . have t1: (z != 0)=false:=by rw[h0];rfl
   have HZ0:Hid (TckR l 0):=by show TckR l 0;rw[<-h0];exact HZ.o
   obtain⟨hok,_⟩:=zI HZ0.o (fun f hf=>(d.o f hf).2);have hwt:=IW hok;have HS:=ai (OO 100 l hok (fun f hf=>tu (hok.path f hf)) p A n c A1 m c1 B w2 (H0.o.below HB2.o hB) (H1.o.below HB2.o hB) (ZY hB HB2.o.size) g.o HCM.o HP.o (by omega));unfold Af at HS;simp only[az]at HS;clear h0 hok hwt;go_wp2_with fail;refine HS.o.mono ?_;rintro e w3 ⟨hq,hb⟩;have HB3:VF w w3:=HB2.o.trans (hb.mono HB2.o.size);have HD3:=ai (HD2.o.below hb (by omega));obtain⟨y0,y1,_,_⟩:=HD3.o.two;have g0:=HD3.o.free 0;have g1:=HD3.o.free 1;clear hb HS;rcases hq with ⟨q,⟨d1,d2⟩,A2,c2,hs,hr,rfl,hsl,hc2,hm2,_⟩ | ⟨hs,rfl⟩
   . have HN:=ai hs;have HR:=ai hr;have a:=ai hsl
     have h:=ai (a.o.dgbox HD3.o);clear hs hr hsl;go_wp2_with fail;refine ZW (kC Tryz.results67 rfl rfl (HD3.o.set2 _ _) rfl) rfl ⟨.inr ⟨HZ0.o,.inl ⟨q,(d1,d2),A2,c2,HN.o,HR.o,rfl,?_,hc2,hm2⟩⟩,eX HB3.o aj _ _⟩;have:=a.o.ne (b:=w.heap.size) h.o (fun k hk=>(Z8 (w3.setCell ⟨w.heap.size,0,none⟩ (.int .u64 d1)) ⟨w.heap.size,1,none⟩ (.int .u64 d2) k hk).trans (Z8 w3 ⟨w.heap.size,0,none⟩ (.int .u64 d1) k hk))
     simpa using this
   . have HN:=ai hs
     clear hs;go_wp2_with fail;refine ZW (kC Tryz.results67 rfl rfl (HD3.o.set2 _ _) rfl) rfl ⟨.inr ⟨HZ0.o,.inr ⟨HN.o,rfl⟩⟩,eX HB3.o aj _ _⟩
 . have t1: (z != 0)=true:=by rw[bne_iff_ne];exact h0
   have H0':=ai h0;clear h0;go_wp2_with fail;refine ZW (kC Tryz.results67 rfl rfl (HD2.o.set2 _ _) rfl) rfl ⟨.inl ⟨z,HZ.o,H0'.o,rfl⟩,eX HB2.o aj _ _⟩
section
def aY(root old:Dig)(au ms:VB)(tm:Int):Ob:=⟨3,⟨#[]⟩,[],root,if old=zD then [] else [old],au,tm,ms⟩
structure lC(au ms:VB)(tm:Int):Prop where
 au:nameB au=true
 t0:0<=tm
 t1:tm<=1099511627776
 ms:ms.size<=200
theorem qI{root old:Dig}{au ms:VB}{tm:Int}(h:lC au ms tm)(hr:WfD root)(hz:root≠zD)(ho:WfD old):OkO (aY root old au ms tm):=by
 have hs:=iZ h.au;have hms:=h.ms;have hps:Ae (if old=zD then [] else [old]):=by
  split
  . exact⟨by simp,by simp,by simp,List.nodup_nil⟩
  . rename_i hn
    exact⟨by simp,fun d hd=>by rw[List.mem_singleton.1 hd];exact ho,fun d hd=>by rw[List.mem_singleton.1 hd];exact hn,by simp⟩
 refine⟨.commit rfl rfl rfl ⟨hr,hz,hps,h.au,h.t0,h.t1,h.ms⟩,?_⟩;have hl: (if old=zD then [] else [old]:List Dig).length<=1:=by split <;> simp
 have hfl: ((if old=zD then [] else [old]:List Dig).flatMap ay).length<=16:=by split <;> simp[iE]
 have a1:=fK (n:=3) (by omega);have a2:=fK (n:=(if old=zD then [] else [old]:List Dig).length) (by omega);have a3:=fK (n:=tm.toNat) (by have:=h.t1;omega);have a4:=fK (n:=(toL au).length) (by rw[<-aQ];omega);have a5:=fK (n:=(toL ms).length) (by rw[<-aQ];omega);have b1: (toL au).length<=24:=by rw[<-aQ];exact hs
 have b2: (toL ms).length<=200:=by rw[<-aQ];exact hms
 show(ak 3++gX _).length<=65536;unfold gX aY;simp only[if_true];rw[if_neg (by omega)];simp only[af,ax,iE];omega
open Classical in
noncomputable def eU(p:List Itm)(rs:List Rf)(lg:List Upd)(nm:VB)(l:List Fl)(au ms:VB)(tm:Int):gI×Dig :=
 if(aW rs lg nm).2≠0/\ (aW rs lg nm).2≠8 then(.no,zD) else
 if TckR l 0 then match sto 101 p l with
  | none=>(.no,zD)
  | some (q,root) =>
    if(aW rs lg nm).1≠zD/\∃o,aC p (aW rs lg nm).1=some o/\o.tree=root then(.keep,zD)
    else match bC q (aY root (aW rs lg nm).1 au ms tm) with
     | none=>(.no,zD)
     | some q2=>(dm p rs lg q2 [(nm,(aW rs lg nm).1,dgO (aY root (aW rs lg nm).1 au ms tm))],dgO (aY root (aW rs lg nm).1 au ms tm))
 else(.no,zD)
def jm(r:Rp)(d:Dig)(x:Int)(w:VA)(e:Ending)(w':VA):Prop:=∃s,e= .returned (.tuple #[rpV r s,az d,.int .i64 x])/\RpM w' w'.heap.size r s/\VE w w'
def CmtE(r:Rp)(a u:Nat)(t:gI×Dig)(w:VA)(e:Ending)(w':VA):Prop:=match t.1 with
 | .no=>∃x:Int,x≠0/\x≠20/\jm zRp zD x w e w'
 | .keep=>jm r zD 0 w e w'
 | .app g p rs lg=>jm (after r (dG r.d a u (aN g)) p rs lg).1 (if(after r (dG r.d a u (aN g)) p rs lg).2=0 then t.2 else zD) (after r (dG r.d a u (aN g)) p rs lg).2 w e w'
 | .rew _ _ _ _=>False
theorem CmtE.of{r:Rp}{a u:Nat}{pl:gI}{w W w':VA}{e:Ending}(hne: (∃g p rs lg,pl= .app g p rs lg)∨pl= .no)(h:ExE r a u pl W e w') :
  ∃(r':Rp)(x:Int),fG r' x W e w'/\∀(pd:Dig)(wf:VA)(s':Rsl),RpM wf wf.heap.size r' s'->VE w wf->CmtE r a u (pl,pd) w (.returned (.tuple #[rpV r' s',az (if x=0 then pd else zD),.int .i64 x])) wf:=by
 rcases hne with ⟨g,p,rs,lg,rfl⟩ | rfl
 . exact⟨_,_,h,fun pd wf s' h1 h2=>⟨s',rfl,h1,h2⟩⟩
 . obtain⟨x,h1,h2,h3⟩:=h
   exact⟨_,x,h3,fun pd wf s' h4 h5=>⟨x,h1,h2,s',by rw[if_neg h1],h4,h5⟩⟩
theorem SS(rs:List Rf)(lg:List Upd)(nm:VB): (aW rs lg nm).2≠20:=by
 have h:bu rs lg≠20:=by
  unfold bu
  repeat' split
  . decide
  . exact yD lg []
  . decide
  . decide
 unfold aW
 repeat' split
 . exact h
 all_goals simp
theorem TP(rs:List Rf)(lg:List Upd)(nm:VB): ((aW rs lg nm).2=8-> (aW rs lg nm).1=zD)/\ ((aW rs lg nm).2=0-> (aW rs lg nm).1≠zD):=by
 unfold aW
 repeat' split
 . rename_i h;exact⟨fun _=>rfl,fun h2=>absurd h2 h⟩
 . exact⟨fun _=>rfl,fun h2=>by simp at h2⟩
 . rename_i h;exact⟨fun h2=>by simp at h2,fun _=>h⟩
 . exact⟨fun _=>rfl,fun h2=>by simp at h2⟩
theorem Ul{l:List Fl}{z:Int}(h:TckR l z):z≠20:=by
 have ht:∀(l:List Fl)(p:Option VB),gp p l≠20:=by
  intro l
  induction l with
  | nil=>intro p;simp[gp]
  | cons f l ih=>intro p;unfold gp;repeat' split
                 . exact ih _
                 . decide
                 . decide
 rcases h with ⟨_,rfl⟩ | ⟨_,_,rfl⟩ | ⟨_,_,⟨_,rfl⟩ | ⟨_,rfl⟩⟩
 . decide
 . exact ht _ _
 . decide
 . decide
theorem SE{p q:List Itm}{rs:List Rf}{lg us:List Upd}(hu:us≠ []): (∃g p' rs' lg',dm p rs lg q us= .app g p' rs' lg')∨dm p rs lg q us= .no:=by
 unfold dm;split
 . rw[if_neg (fun h=>hu h.2)];exact .inl ⟨_,_,_,_,rfl⟩
 . exact .inr rfl
theorem yC{rs:List Rf}{lg:List Upd}{nm:VB}(h:∀r∈rs,WfD r.2):WfD (aW rs lg nm).1:=by
 have hg:∀l:List Rf,(∀r∈l,WfD r.2)->WfD (dB l nm):=by
  intro l
  induction l with
  | nil=>intro _;exact l7
  | cons r l ih =>
    intro h;unfold dB;split
    . exact h r (by simp)
    . exact ih (fun x hx=>h x (by simp[hx]))
 unfold aW
 repeat' split
 . exact l7
 . exact l7
 . exact hg rs h
 . exact l7
end
theorem nT{a b:List Itm}(ha:AscI a)(hb:AscI b)(hc:¬jM a b):∀(n i j:Nat)(out:List Itm),(a.length - i)+ (b.length - j)<=n->UAt a b i j out->∃r,UniR a b r
 | 0,i,j,out,hn,h=>⟨out,h.done (by omega) (by omega)⟩
 | n+1,i,j,out,hn,h=>by
   rcases Nat.lt_or_ge i a.length with hi | hi
   . have hx:a[i]? =some a[i]:=Z5 hi
     rcases Nat.lt_or_ge j b.length with hj | hj
     . have hy:b[j]? =some b[j]:=Z5 hj
       by_cases h1:ltD a[i].1 b[j].1
       . exact nT ha hb hc n _ _ _ (by omega) (h.fst ha hx (rY hb hy h1))
       by_cases h2:ltD b[j].1 a[i].1
       . exact nT ha hb hc n _ _ _ (by omega) (h.snd hb hy (rY ha hx h2))
       have h3:=nC h1 h2;by_cases h4:a[i].2=b[j].2
       . exact nT ha hb hc n _ _ _ (by omega) (h.both ha hb hx (by rw[hy,Prod.ext h3 h4]))
       . exact absurd (FC hx hy h3 h4) hc
     . exact nT ha hb hc n _ _ _ (by omega) (h.fst ha hx (sD hj))
   . rcases Nat.lt_or_ge j b.length with hj | hj
     . have hy:b[j]? =some b[j]:=Z5 hj
       exact nT ha hb hc n _ _ _ (by omega) (h.snd hb hy (sD hi))
     . exact⟨out,h.done hi hj⟩
theorem Ih{a b:List Itm}(ha:PlOk a)(hb:PlOk b)(hc:¬jM a b):∃r,UniR a b r:=nT ha.asc hb.asc hc _ 0 0 [] aj (UAt.start a b)
/-! ### acts -/
structure Ac where
 kind:Int
 nm:VB
 fs:List Fl
 pl:List Itm
 us:List Upd
 left:Int
 pk:List Int
structure AcF(x:Ac):Prop where
 pn:x.pl.length<=40
 ps:∀i∈x.pl,i.2.size<=500
 pw:∀i∈x.pl,WfD i.1
 un:x.us.length<=12
 us:∀u∈x.us,u.1.size<=150
 uw:∀u∈x.us,WfU u
 fn:x.fs.length<=10
 fs:∀f∈x.fs,f.1.size<=120/\f.2.size<=200
 kn:x.pk.length<=20
 nm:x.nm.size<=120
 lm:x.left<=9223372036854775807
def dW:VB:=⟨#[97,110,110]⟩
def qZ:VB:=⟨#[109,101,115,115,97,103,101]⟩
theorem UG:lC dW qZ 7:=⟨by decide +kernel,by decide,by decide,by decide⟩
noncomputable def jS(x:Ac)(p:List Itm)(rs:List Rf)(lg:List Upd):gI :=
 if x.kind=0 then(eU p rs lg x.nm x.fs dW qZ 7).1 else if x.kind=1 then dm p rs lg x.pl x.us else gZ p rs lg
def kZ(gs:List Gru):gI->Prop
 | .app g p rs lg=>fC (aN g)=true->Mt (gs++ [g]) p rs lg
 | .rew g p rs lg=>Mt [g] p rs lg
 | _=>True
theorem xO{gs:List Gru}{p q:List Itm}{rs:List Rf}{lg us:List Upd}(h:Mt gs p rs lg)(hu:∀u∈us,u.1.size<=65536/\WfU u):kZ gs (dm p rs lg q us):=by
 cases hpl:dm p rs lg q us with
 | no=>trivial
 | keep=>trivial
 | app g p' rs' lg' =>
   have hh:=hpl;unfold dm at hh;split at hh
   . rename_i hc
     split at hh
     . cases hh
     . intro hf
       have hg: (us,bD (dS p q))=g:=by injection hh
       have h1:=(fitB_iff.1 hf).1;rw[<-hg]at h1;simp only[aN,bD,Z4,List.length_map]at h1;exact(h.app hu (by omega) hpl (fun hc'=>Ih h.pl hc.1 hc')).2
   . cases hh
 | rew g p' rs' lg' =>
   exfalso
   unfold dm at hpl;split at hpl
   . split at hpl <;> cases hpl
   . cases hpl
theorem tC{gs:List Gru}{p:List Itm}{rs:List Rf}{lg:List Upd}{nm au ms:VB}{l:List Fl}{tm:Int}(h:Mt gs p rs lg)(hn:nm.size<=65536):kZ gs (eU p rs lg nm l au ms tm).1:=by
 have hw:WfD (aW rs lg nm).1:=yC (fun x hx=>by
  obtain⟨⟨o,ho,_⟩,_⟩:=compl_zero.1 (h.co x hx);rw[jK h.pl ho];exact eY _)
 unfold eU;split
 . trivial
 . split
   . split
     . trivial
     . split
       . trivial
       . split
         . trivial
         . exact xO h (fun u hu=>by rw[List.mem_singleton.1 hu];exact⟨hn,hw,eY _⟩)
   . trivial
theorem QJ{gs:List Gru}{p:List Itm}{rs:List Rf}{lg:List Upd}(h:Mt gs p rs lg)(hp:p.length<=49000):kZ gs (gZ p rs lg):=by
 cases hpl:gZ p rs lg with
 | no=>trivial
 | keep=>trivial
 | app g p' rs' lg' =>
   exfalso
   unfold gZ at hpl;split at hpl <;> cases hpl
 | rew g p' rs' lg'=>exact(h.rew (by omega) hpl).2
theorem Ei:∀(os:List Dop)(d:Dk),(os.foldl doO d).sz=d.sz/\ (os.foldl doO d).ss.length=d.ss.length
 | [],d=>⟨rfl,rfl⟩
 | o::os,d=>by
   obtain⟨h1,h2⟩:=Ei os (doO d o);obtain⟨k1,k2⟩:=xJ d o;exact⟨h1.trans k1,h2.trans k2⟩
theorem lM(os:List Dop)(d:Dk): (aJ d os).1.sz=d.sz/\ (aJ d os).1.ss.length=d.ss.length:=by
 obtain⟨pre,a,_,h2,_⟩:=pg os d;rw[h2];exact Ei pre d
theorem FY:∀(os:List Dop)(d:Dk),(os.foldl doO d).pn.length<=d.pn.length+os.length
 | [],d=>Nat.le_refl _
 | o::os,d=>by
   have h1:=FY os (doO d o);have h2: (doO d o).pn.length<=d.pn.length+1:=by cases o <;> simp[doO]
   rw[List.foldl_cons,Z4];omega
theorem Iq(os:List Dop)(d:Dk): (aJ d os).1.pn.length<=d.pn.length+os.length:=by
 obtain⟨pre,a,h1,h2,_⟩:=pg os d;have:=FY pre d;rw[h2,h1,af];omega
theorem DT(p e sz:Nat)(S:List VD): (dL p S e sz).length<=S.length+1:=by
 unfold dL;rw[af,List.length_map,List.length_zipIdx];split <;> simp
theorem Lp(S:List VD): (jw S).length=S.length:=by cases S <;> rfl
theorem IX(ss:List VD):hf ss<=ss.length:=by unfold hf;omega
theorem wW(gs:List Gru)(g:Gru):recs (gs++ [g])=recs gs++aN g:=by simp[recs]
theorem PU(g:Gru):recs [g]=aN g:=by simp[recs]
def Out(d:Dk)(old l new:List VD)(y:Dk×Int):Prop :=
 (fC l=true/\y.1.sz=d.sz/\y.1.ss.length=d.ss.length/\y.1.pn.length<=d.ss.length+4/\ ((y.2=0/\Dur y.1 new)∨ (y.2=20/\Brk y.1 old new)))∨ (y.2≠0/\y.2≠20)
theorem Hr{d:Dk}{rs l:List VD}{a u:Nat}(h:Dur d rs)(hj:Jn d.sz d.ss a rs u):Out d rs l (rs++l) (dG d a u l):=by
 unfold dG;by_cases h1:fC l=true
 . rw[if_neg (by simpa using h1)]
   by_cases h2:hf d.ss - u< (secs d.sz (aB l)).length
   . rw[if_pos h2];exact .inr ⟨by decide,by decide⟩
   . rw[if_neg h2]
     have h3:=Iq (fM d.sz d.ss a u (secs d.sz (aB l))) d;have h4:=DT (aG d.ss a+u) (aG d.ss a+hf d.ss) d.sz (jw (secs d.sz (aB l)));rw[Lp]at h4;rw[h.pn]at h3;have h5:=IX d.ss;refine .inl ⟨h1,(lM _ d).1,(lM _ d).2,by unfold fM at h3;simp only[af,List.length_map,Z4,List.length_nil]at h3;exact ZY h3 (by omega),Tj h hj ⟨fitB_iff.1 h1,rfl⟩ (by omega)⟩
 . rw[if_pos (by simpa using h1)];exact .inr ⟨by decide,by decide⟩
theorem RG{d:Dk}{rs l:List VD}{a u:Nat}(h:Dur d rs)(hj:Jn d.sz d.ss a rs u):Out d rs l l (dV d a l):=by
 unfold dV;by_cases h1:fC l=true
 . rw[if_neg (by simpa using h1)]
   by_cases h2:hf d.ss< (secs d.sz (aB l)).length
   . rw[if_pos h2];exact .inr ⟨by decide,by decide⟩
   . rw[if_neg h2]
     have h3:=Iq (gB d.sz d.ss a (secs d.sz (aB l))) d;have h4:=DT (aG d.ss (3 - a)) (aG d.ss (3 - a)+hf d.ss) d.sz (secs d.sz (aB l));rw[h.pn]at h3;have h5:=IX d.ss;refine .inl ⟨h1,(lM _ d).1,(lM _ d).2,by unfold gB at h3;simp only[af,List.length_map,Z4,List.length_nil]at h3;exact ZY h3 (by omega),RN h hj ⟨fitB_iff.1 h1,rfl⟩ (by omega)⟩
 . rw[if_pos (by simpa using h1)];exact .inr ⟨by decide,by decide⟩
def mf(r:Rp)(y:Dk×Int)(p:List Itm)(rs:List Rf)(lg:List Upd):Rp×Int :=
 if y.2=0 then(⟨y.1,p,rs,lg⟩,0) else if y.2=20 then({r with d:=y.1},20) else(r,y.2)
structure RI(r:Rp):Prop where
 n:r.d.ss.length<=100
 z:r.d.sz<=128
 pn:r.d.pn.length<=1000
 st: (∃gs,Dur r.d (recs gs)/\Mt gs r.p r.rs r.lg)∨ (∃gs gs' p' rs' lg',Brk r.d (recs gs) (recs gs')/\Mt gs r.p r.rs r.lg/\Mt gs' p' rs' lg')
theorem RI.ok{r:Rp}(h:RI r):r.d.Ok:=by
 rcases h.st with ⟨_,h,_⟩ | ⟨_,_,_,_,_,h,_⟩
 . exact h.ok
 . exact h.ok
theorem RI.live{r:Rp}(h:RI r)(hl:r.d.lf≠0):∃gs a u,Dur r.d (recs gs)/\Jn r.d.sz r.d.ss a (recs gs) u/\Mt gs r.p r.rs r.lg:=by
 rcases h.st with ⟨gs,h,m⟩ | ⟨_,_,_,_,_,h,_⟩
 . obtain⟨a,u,hj⟩:=h.jn
   exact⟨gs,a,u,h,hj,m⟩
 . exact absurd h.lf hl
theorem Es{r:Rp}{gs gs':List Gru}{y:Dk×Int}{l:List VD}{p:List Itm}{rs:List Rf}{lg:List Upd}(hr:RI r)(hM:Mt gs r.p r.rs r.lg)(ho:Out r.d (recs gs) l (recs gs') y)(hM':fC l=true->Mt gs' p rs lg):RI (mf r y p rs lg).1:=by
 unfold mf;have hn:=hr.n;rcases ho with ⟨hf,h1,h2,hp,⟨h3,h4⟩ | ⟨h3,h4⟩⟩ | ⟨h3,h4⟩
 . rw[if_pos h3]
   exact⟨by show y.1.ss.length<=100;rw[h2];exact hr.n,by show y.1.sz<=128;rw[h1];exact hr.z,by show y.1.pn.length<=1000;omega,.inl ⟨gs',h4,hM' hf⟩⟩
 . rw[if_neg (by rw[h3];decide),if_pos h3]
   exact⟨by show y.1.ss.length<=100;rw[h2];exact hr.n,by show y.1.sz<=128;rw[h1];exact hr.z,by show y.1.pn.length<=1000;omega,.inr ⟨gs,gs',p,rs,lg,h4,hM,hM' hf⟩⟩
 . rw[if_neg h3,if_neg h4];exact hr
def jk(r:Rp)(left:Int):Rp:=if r.d.lf= -1/\0<=left then {r with d:={r.d with lf:=left % 40}} else r
theorem Sj{r:Rp}(h:RI r){left:Int}:RI (jk r left):=by
 unfold jk;split
 . rename_i hc
   obtain⟨gs,a,u,h1,h2,h3⟩:=h.live (by rw[hc.1];decide);refine⟨h.n,h.z,h.pn,.inl ⟨gs,⟨?_,h1.pn,⟨a,u,h2⟩⟩,h3⟩⟩;exact {h1.ok with lf:=by show -1<=left % 40;omega,lm:=by show left % 40<=_;omega}
 . exact h
theorem RI.cut{r:Rp}(h:RI r)(ps:List Int):∃gs p rs lg,Dur (gJ r.d ps) (recs gs)/\Mt gs p rs lg/\RI ⟨gJ r.d ps,p,rs,lg⟩/\ (r.d.lf≠0->p=r.p/\rs=r.rs/\lg=r.lg):=by
 have hn: (gJ r.d ps).ss.length<=100:=by show(dA _ _ _ _).length<=100;rw[mZ];exact h.n
 have hz: (gJ r.d ps).sz<=128:=h.z;rcases h.st with ⟨gs,h1,m⟩ | ⟨gs,gs',p',rs',lg',h1,m,m'⟩
 . exact⟨gs,r.p,r.rs,r.lg,h1.cut ps,m,⟨hn,hz,ZX _,.inl ⟨gs,h1.cut ps,m⟩⟩,fun _=>⟨rfl,rfl,rfl⟩⟩
 . rcases h1.cut ps with h2 | h2
   . exact⟨gs,r.p,r.rs,r.lg,h2,m,⟨hn,hz,ZX _,.inl ⟨gs,h2,m⟩⟩,fun h=>absurd h1.lf h⟩
   . exact⟨gs',p',rs',lg',h2,m',⟨hn,hz,ZX _,.inl ⟨gs',h2,m'⟩⟩,fun h=>absurd h1.lf h⟩
structure Acs where
 fA:OA
 fc:Nat
 pA:OA
 pc:Nat
 uA:OA
 uc:Nat
 kA:OA
 kc:Nat
abbrev AcX:=Ac×Acs
def acC(x:AcX):List VC:= [.int .i64 x.1.kind,.string x.1.nm,.slice x.2.fA x.1.fs.length x.2.fc,.slice x.2.pA x.1.pl.length x.2.pc,.slice x.2.uA x.1.us.length x.2.uc,.int .i64 x.1.left,.slice x.2.kA x.1.pk.length x.2.kc]
def acA(x:AcX):Array VC:=#[.int .i64 x.1.kind,.string x.1.nm,.slice x.2.fA x.1.fs.length x.2.fc,.slice x.2.pA x.1.pl.length x.2.pc,.slice x.2.uA x.1.us.length x.2.uc,.int .i64 x.1.left,.slice x.2.kA x.1.pk.length x.2.kc]
theorem um(x:AcX): (acC x).length=7:=rfl
structure AcM(w:VA)(B:Nat)(x:AcX):Prop where
 f:Sl w B 2 x.2.fA x.1.fs.length (flat flC x.1.fs)
 p:Sl w B 3 x.2.pA x.1.pl.length (flat itC x.1.pl)
 u:Sl w B 5 x.2.uA x.1.us.length (flat upC x.1.us)
 k:Sl w B 1 x.2.kA x.1.pk.length (flat lh x.1.pk)
theorem AcM.below{w w':VA}{B B':Nat}{x:AcX}(h:AcM w B x)(hb:Below B' w w')(hB:B<=B'):AcM w' B x:=⟨h.f.below hb hB,h.p.below hb hB,h.u.below hb hB,h.k.below hb hB⟩
theorem AcM.more{w:VA}{B B':Nat}{x:AcX}(h:AcM w B x)(hB:B<=B'):AcM w B' x:=⟨h.f.more hB,h.p.more hB,h.u.more hB,h.k.more hB⟩
structure AcB(x:Ac):Prop where
 fn:x.fs.length<=maxLen
 fs:∀f∈x.fs,f.1.size<=maxLen/\f.2.size<=maxLen
 pn:x.pl.length<=maxLen
 ps:∀i∈x.pl,WfD i.1/\i.2.size<=maxLen
 un:x.us.length<=maxLen
 us:∀u∈x.us,u.1.size<=maxLen/\WfU u
 kn:x.pk.length<=maxLen
 nm:x.nm.size<=maxLen
 lm:x.left<=9223372036854775807
structure AcsM(w:VA)(B:Nat)(A:OA)(n:Nat)(l:List AcX):Prop where
 s:Sl w B 7 A n (flat acC l)
 m:∀x∈l,AcM w B x
theorem AcsM.below{w w':VA}{B B':Nat}{A:OA}{n:Nat}{l:List AcX}(h:AcsM w B A n l)(hb:Below B' w w')(hB:B<=B'):AcsM w' B A n l:=⟨h.s.below hb hB,fun x hx=>(h.m x hx).below hb hB⟩
theorem Sl.ac{w:VA}{B n k:Nat}{A:OA}{l:List AcX}(h:Sl w B 7 A n (flat acC l))(hk:k<n) :
  ∃b off x,A=some ⟨b,off,none⟩/\b<B/\l[k]? =some x/\ (w.cell? ⟨b,off+k*7,none⟩=some (.int .i64 x.1.kind)/\w.cell? ⟨b,off+k*7+1,none⟩=some (.string x.1.nm)/\w.cell? ⟨b,off+k*7+2,none⟩=some (.slice x.2.fA x.1.fs.length x.2.fc)/\w.cell? ⟨b,off+k*7+3,none⟩=some (.slice x.2.pA x.1.pl.length x.2.pc))
   /\w.cell? ⟨b,off+k*7+4,none⟩=some (.slice x.2.uA x.1.us.length x.2.uc)/\w.cell? ⟨b,off+k*7+5,none⟩=some (.int .i64 x.1.left)/\w.cell? ⟨b,off+k*7+6,none⟩=some (.slice x.2.kA x.1.pk.length x.2.kc):=by
 obtain⟨b,off,u,rfl,hb,hu,hc⟩:=h.at_ um (by omega) hk;exact⟨b,off,u,rfl,hb,hu,⟨hc 0 _ rfl,hc 1 _ rfl,hc 2 _ rfl,hc 3 _ rfl⟩,hc 4 _ rfl,hc 5 _ rfl,hc 6 _ rfl⟩
def kJ(n z:Int)(A:OA)(m c:Nat):VC:= .agg #[.int .i64 n,.int .i64 z,.slice A m c]
