/-
  Lemmas of the card.
-/
import Derived.Test.YtknefelegjlgnaaGreatDoorACAt19
set_option maxRecDepth 100000
set_option maxHeartbeats 16000000
namespace Go.Proofs.YtknefelegjlgnaaGreatDoor
open Go.RowKit
section
open Go.Maps
theorem JE: (Tryz.prog.info? 82).map (fun i=>(i.zero,i.size,i.bytes))=some (some (.agg #[.string ⟨#[]⟩,.string ⟨#[]⟩]),2,32):=by kernel_rfl
theorem Iy(s:M3): (Value.agg (gp s))=obV (dS s) zOs:=rfl
theorem JA(w:MZ)(B:Nat)(s:M3):ObM w B (dS s) zOs:=⟨Sl.nil _ _ _ _,Sl.nil _ _ _ _,Nat.le_refl _,ZZ _,Nat.le_refl _,ZZ _⟩
theorem Ja(w:MZ)(x y:M3):∀j u,[Value.string x,.string y][j]? =some u-> (w.alloc (.cells #[.string x,.string y] 82)).cell? (Addr.add ⟨w.heap.size,0,none⟩ j)=some u:=by
 intro j u hj;have hb:Bk (w.alloc (.cells #[.string x,.string y] 82)) w.heap.size 82 #[.string x,.string y]:=Bk.new w _ _;rw[Addr.add_lit,hb.cell];rcases j with _ | _ | j
 . simpa using hj
 . simpa using hj
 . simp at hj
theorem Lu{l:List Fl}(h: (l.map Prod.fst).Nodup){k:Nat}{f:Fl}(hf:l[k]? =some f):f.1∉ (l.take k).map Prod.fst:=by
 intro hm;rw[List.map_take]at hm;obtain⟨i,hi,e⟩:=List.getElem_of_mem hm;rw[List.length_take]at hi;rw[List.getElem_take]at e;obtain⟨h1,h2⟩:=List.getElem?_eq_some_iff.1 hf;have h3: (l.map Prod.fst)[k]'(by simpa using h1)=f.1:=by rw[List.getElem_map,h2]
 exact List.pairwise_iff_getElem.1 h i k (by omega) (by simpa using h1) (by omega) (e.trans h3.symm)
section
variable {w w' : MZ} {base : Nat} {A0 A A' : OA} {c0 c c' : Nat} {p q q' : List Itm}
theorem Ply.below(h:Ply w base A0 c0 p A c q)(hb:Below w.heap.size w w'):Ply w' base A0 c0 p A c q:=by
 rcases h with h | h
 . exact .inl h
 . exact .inr (fM h hb)
theorem Ply.box(h:Ply w base A0 c0 p A c q){b:Nat}{t:TypeId}{cs:Array M4}(hb:Bk w b t cs)(hne:118≠t)(i:Nat)(x:M4):Ply (w.setCell ⟨b,i,none⟩ x) base A0 c0 p A c q:=by
 rcases h with h | h
 . exact .inl h
 . exact .inr (iO h hb hne i x)
theorem Ply.others(h:Ply w base A0 c0 p A c q){e:TypeId}(ho:OthersKept e w w')(hne:118≠e):Ply w' base A0 c0 p A c q:=by
 rcases h with h | h
 . exact .inl h
 . exact .inr (ho _ _ _ _ _ _ hne h)
theorem Ply.trans{n':Nat}(h:Ply w base A0 c0 p A c q)(hb:Below w.heap.size w w')(k:Ply w' n' A c q A' c' q')(hn:base<=n'):Ply w' base A0 c0 p A' c' q':=by
 rcases k with ⟨rfl,rfl,rfl⟩ | k
 . exact h.below hb
 . exact .inr (jY k hn)
theorem Ply.sl{B:Nat}(h:Ply w base A0 c0 p A c q)(h0:Sl w B 3 A0 p.length (flat itC p))(hB:B<=w.heap.size):Sl w w.heap.size 3 A q.length (flat itC q):=by
 rcases h with ⟨rfl,_,rfl⟩ | h
 . exact h0.more hB
 . exact Sl.of_own h
end
def wh(k:Nat)(l:List Fl)(A0:OA)(c0:Nat)(p:List Itm)(w:MZ)(e:Ending)(w':MZ):Prop :=
 ((∃q d A c,sto k p l=some (q,d)/\nH p q d l/\e= .returned (.tuple #[.slice A q.length c,aB d,.int .i64 0])/\Sl w' w'.heap.size 3 A q.length (flat itC q)/\q.length<=c/\c<=maxLen/\Ply w' w.heap.size A0 c0 p A c q)∨ (sto k p l=none/\e= .returned (.tuple #[.slice none 0 0,aB zD,.int .i64 16])))/\Below w.heap.size w w'
def vW(k:Nat):Prop:=∀(l:List Fl),OkL l-> (∀f∈l,f.1.size<=k)->∀(p:List Itm)(A:OA)(n c:Nat)(A1:OA)(m c1 B:Nat)(w:MZ),
  Sl w B 3 A n (flat itC p)->Sl w B 2 A1 m (flat flC l)->B<=w.heap.size->n<=c->c<=maxLen->PlOk p->n+wt l<=800000 ->
  Calls Tryz.prog 124 #[.slice A n c,.slice A1 m c1] w (wh (k+1) l A c p w)
theorem xP(k:Nat)(ih:∀k',k=k'+1->vW k'):vW k:=by
 intro l hl O p A n c A1 m c1 B w cu cv hB dp dq dr ds;have ap:=ah (cu.len bO (by omega));have dt:=ah (cv.len kT (by omega));have fa:=ah cu;have fb:=ah cv;have E:=ah hl;have du:=ah O;have fc:=ah dp;have ff:=ah dq;have fg:=ah dr;have cw:=ah ds;have IH:=ah ih;have bx:Hid (∀(W:MZ)(Ax:OA)(cx:Nat)(qx:List Itm),Ply W w.heap.size A c p Ax cx qx->Below w.heap.size w W->Sl W W.heap.size 3 Ax qx.length (flat itC qx)):=fun W Ax cx qx h hb=>by
  have h1:=fa.o;rw[<-ap.o]at h1;exact h.sl (h1.below hb hB) (by have:=hb.size;omega)
 have gn:m<=200:=by rw[<-dt.o];exact hl.few
 clear cu cv hl O dp dq dr ds ih;have gr:=@run_makeMap Tryz.prog;obtain⟨W0,aq⟩:=NX9 (((w.alloc (.cells #[.int .u64 0,.int .u64 0] 50)).alloc (.map #[] 0)).alloc (.map #[] 0))
 have dv:Hid (Bk W0 w.heap.size 50 #[.int .u64 0,.int .u64 0]):=by rw[<-aq];exact((Bk.new w _ _).alloc _).alloc _
 have dx:Hid (StM W0 (w.heap.size+1) (w.heap.size+2) (w.heap.size+3) 0 (fun _=>none) (fun _=>none) (l.take 0)):=by
  show StM _ _ _ _ _ _ _ [];rw[<-aq];have:=StM.start (w.alloc (.cells #[.int .u64 0,.int .u64 0] 50)) (w.heap.size+3);rw[Z9]at this;exact this
 have dy:Hid (Below w.heap.size w W0):=by rw[<-aq];exact(((af _ w).alloc ai _).alloc (by simp) _).alloc (by simp;omega) _
 have gs:w.heap.size+3=W0.heap.size:=by rw[<-aq];simp
 have dN:=ah aq;clear aq
 go_enter Tryz.func124,Tryz.ntmps124
 go_wp2_with fail;rw[dN.o];go_wp2_with fail
 go_loopw[26] (fun i wr=>∃(j:Nat)(gb gf:M3->Option M4),j<=m/\i= .int .i64 (j:Int)/\Hid (StM wr (w.heap.size+1) (w.heap.size+2) (w.heap.size+3) j gb gf (l.take j))/\Hid (Bk wr w.heap.size 50 #[.int .u64 0,.int .u64 0])/\Hid (Below w.heap.size w wr)/\w.heap.size+3<=wr.heap.size) (fun i _=>m - (intOf i).toNat)
 case atStart=>exact⟨0,_,_,ZZ _,rfl,dx.o,dv.o,dy.o,by omega⟩
 case round =>
  clear dx dv dy dN;obtain⟨j,gb,gf,hj,rfl,hS,hD,r,fh⟩:=hrel;by_cases hlt:j<m
  . have cy: (j:Int)< (m:Int):=by omega
    obtain⟨bb,gt,f,rfl,gu,hf,y0,y1⟩:=(fb.o.below r.o hB).fl hlt;have HF:=ah hf;have cz:=E.o.path f (Z7 hf);have fi:f.1.size<=100:=ug cz;have dT:=(AU (yL cz)).2;have ea:=ah (Lu E.o.nod hf);have eb:=ah (aS hf);clear hf cz;obtain⟨fp,fd⟩:=f;simp only at y0 y1 fi dT;obtain⟨W1,cA⟩:=NX9 (wr.alloc (.cells #[.string fp,.string fd] 82))
    have bz:Hid (Bk W1 wr.heap.size 82 #[.string fp,.string fd]):=by rw[<-cA];exact Bk.new wr _ _
    have cC:Hid (Below wr.heap.size wr W1):=by rw[<-cA];exact(af _ wr).alloc ai _
    have HC:=ah (JW fp W1 (by unfold maxLen;omega));have ed:wr.heap.size<W1.heap.size:=bz.o.lt;obtain⟨x0,x1,_,_⟩:=bz.o.two;go_wp2_with fail;refine HC.o.mono ?_;rintro e w2 ⟨a,b,mo,rfl,ee,ca⟩;obtain⟨ha,ef,cc⟩:=Kl ee;have HA:=ah ha;have fj:=ah ef;rw[<-ha]at dT;have fk:=ah (bz.o.below ca ed);have cD:Hid (Below wr.heap.size wr w2):=cC.o.trans (ca.mono cC.o.size);have P:=ah (hS.o.below cD.o);have cd:=ah (hD.o.below cD.o (by omega));have eg:Hid (Below w.heap.size w w2):=r.o.trans (cD.o.mono (by omega));have gv:wr.heap.size<w2.heap.size:=Nat.lt_of_lt_of_le ed ca.size;obtain⟨x0,x1,_,_⟩:=fk.o.two;clear ee ha ef ca HC cA bz cC hS hD;cases mo with
    | false =>
      have ce:Hid (deN fp=false):=cc.symm;have fm:Hid (a=fp):=by show _=_;rw[HA.o,kH ce.o]
      have al:a.size<=maxLen:=by unfold maxLen;omega
      clear cc
      go_wp2_with (at_mapUpdate;refine aN ?_)
      refine aF ?_;refine lL rfl _ _ _ 274 rfl 9 82 Tryz.underlying9 Tryz.underlying274 (w.heap.size+2) j gf rfl P.o.f (by unfold maxLen;omega) a al _ rfl rfl ?_;intro w3 cE av;rw[fm.o]at cE;have fn:Hid (StM w3 (w.heap.size+1) (w.heap.size+2) (w.heap.size+3) (j+1) gb (upd gf fp (lF (fp,fd))) (l.take j++ [(fp,fd)])):=P.o.file (f:=(fp,fd)) (by omega) (by omega) ce.o ea.o cE av;have fr:=ah (cd.o.grown av (fun e=>by have:=Option.some.inj e;omega));have T:Hid (Below w.heap.size w w3):=eg.o.grown av (by omega) (fun k e=>by cases e;omega);have z3:=av.size;clear cE av P cd;go_wp2_with fail;go_roundw
      case rel=>exact⟨j+1,gb,_,hlt,by go_num,by rw[eb.o];exact fn.o,fr.o,T.o,by omega⟩
      case measure=>simp[intOf];omega
    | true =>
      have ce:Hid (deN fp=true):=cc.symm;have al:a.size<=maxLen:=by unfold maxLen;omega
      clear cc;have O: (Instr.lookup 273 (.map (some (w.heap.size+1))) (.string a) false).run Tryz.prog w2= .ok ((gb a).getD iq) w2:=P.o.b.look Tryz.underlying9 Tryz.underlying273 (Tryz.zeroValue63 _) al;obtain⟨i0,hi,aw,aD,aE⟩:=info_parts JE;have Hi:=ah hi;have cf:=ah aw;have cg:=ah aD;have ch:=ah aE;clear hi aw aD aE;have eh:Hid ((inD (l.take j) a).length<=200):=by have:=Bv (l.take j) a;have h2:=E.o.few;rw[List.length_take]at this;show _<=_;omega
      go_wp2_with (at_builtin;refine aN ?_)
      refine aF ?_;refine wpList_append_lies _ rfl (.tmp 42) (.tmp 47) 63 rfl (w.heap.size+3) 82 i0 _ 2 32 Tryz.underlying63 Hi.o cf.o cg.o ch.o rfl (by decide) ((gb a).getD iq) (inD (l.take j) a).length (flat flC (inD (l.take j) a)) rfl ?own _ 1 _ [.string b,.string fd] rfl rfl ?nw (by simp[Value.oneCell']) (by decide) ?l1 ?l2 ?l3 _ rfl ?_
      case own=>exact(P.o.alloc _).rows.own a
      case nw=>exact Ja w2 b fd
      case l1=>have:=eh.o;unfold maxLen;omega
      case l2=>have:=eh.o;omega
      case l3=>simp;omega
      intro g cF w4 ho hg ei fs;have HO:=ah ho;have HG:=ah hg;have ej:=ah ei
      have an:Hid (∀k,((gb a).getD iq).ownBlock=some k->w.heap.size+3<=k):=fun k e=>((P.o.rows.own a).lt k e).1;have ft:=hg.size;rw[Z9]at ft;clear ho hg ei fs O
      go_wp2_with (at_mapUpdate;refine aN ?_)
      refine aF ?_;refine lL rfl _ _ _ 273 rfl 9 63 Tryz.underlying9 Tryz.underlying273 (w.heap.size+1) j gb rfl ((P.o.alloc _).b.kept HG.o (fun e=>by have:=an.o _ e.symm;omega)) (by unfold maxLen;omega) a al _ rfl rfl ?_;intro w5 el ba;have fv:Hid (StM w5 (w.heap.size+1) (w.heap.size+2) (w.heap.size+3) (j+1) (upd gb (fsN fp) (.slice (some ⟨g,0,none⟩) ((inD (l.take j) (fsN fp)).length+1) cF)) gf (l.take j++ [(fp,fd)])):=by
       have h1:=HO.o;have h2:=HG.o;have h3:=ej.o;have h4:Rm w5 Tryz.prog 9 (w.heap.size+1) (j+1) (upd gb a (.slice (some ⟨g,0,none⟩) ((inD (l.take j) a).length+1) cF)):=el;rw[HA.o]at h1 h2 h3 h4;rw[fj.o]at h1;exact(P.o.alloc _).dir (f:=(fp,fd)) (by omega) ce.o ea.o h1 h2 h3 h4 ba
      have bd:Hid (Below w.heap.size w w5):=((eg.o.alloc (by omega) _).grown HG.o (by simp;omega) (fun k e=>by have:=an.o _ e;omega)).grown ba (by omega) (fun k e=>by cases e;omega);have fx:=ah (((cd.o.alloc _).grown HG.o (fun e=>by have:=an.o _ e.symm;omega)).grown ba (fun e=>by have:=Option.some.inj e;omega));have fy:w.heap.size+3<=w5.heap.size:=by have:=ba.size;omega
      clear el ba HO HG ej P cd an;go_wp2_with fail;go_roundw
      case rel=>exact⟨j+1,_,gf,hlt,by go_num,by rw[eb.o];exact fv.o,fx.o,bd.o,fy⟩
      case measure=>simp[intOf];omega
  . have cy:¬(j:Int)< (m:Int):=by omega
    have fz:j=m:=by omega
    have U:Hid (StM wr (w.heap.size+1) (w.heap.size+2) (w.heap.size+3) m gb gf l):=by
     have:=hS.o;rw[fz,ZW (by rw[dt.o];exact Nat.le_refl _)]at this;exact this
    obtain⟨wo,fA⟩:∃wo,wo=wr:=⟨_,rfl⟩
    subst fA;obtain⟨W3,bf⟩:=NX9 (wo.alloc (.cells #[.map (some (w.heap.size+2))] 274))
    have cG:Hid (Bk W3 wo.heap.size 274 #[.map (some (w.heap.size+2))]):=by rw[<-bf];exact Bk.new wo _ _
    have T:Hid (Below wo.heap.size wo W3):=by rw[<-bf];exact(af _ wo).alloc ai _
    have em:=ah (Ha wo.heap.size (w.heap.size+2) m gf W3 (U.o.f.below T.o U.o.f.lt) (cG.o.cell 0) cG.o.lt (by omega));have cH:=ah (GI (w.heap.size+2) wo);have z3:wo.heap.size+1=W3.heap.size:=by rw[<-bf];simp
    rw[bf]at cH;clear hS bf;go_wp2_with fail;refine cH.o.mono ?_;rintro e w' ⟨rfl,bg⟩;have cI:=bg.symm;clear bg;subst cI;go_wp2_with fail;refine em.o.mono ?_;rintro e w4 ⟨A4,c4,ks,rfl,en,eo,M⟩;have ci:=ah en;have ep:=ah eo;have er:=ah M;have bh:Hid (Below wo.heap.size wo w4):=T.o.trans (M.mono T.o.size);have z4:W3.heap.size<=w4.heap.size:=M.size;clear en eo M em cH;obtain⟨W5,bi⟩:=NX9 (w4.alloc (.cells #[.map (some (w.heap.size+1))] 273))
    have cJ:Hid (Bk W5 w4.heap.size 273 #[.map (some (w.heap.size+1))]):=by rw[<-bi];exact Bk.new w4 _ _
    have bd:Hid (Below w4.heap.size w4 W5):=by rw[<-bi];exact(af _ w4).alloc ai _
    have cn:Hid (Below wo.heap.size wo W5):=bh.o.trans (bd.o.mono bh.o.size);have et:Hid (W5.ownsRow W3.heap.size 9 1 (.slice A4 ks.length c4) ks.length (strs ks)):=by
     rw[<-bi];exact ep.o.kept (World.grownBy_alloc w4 _ none) (by cases hv: (Value.slice A4 ks.length c4).ownBlock with | none=>exact .inl rfl | some k=>exact .inr (by simp))
    have ev:=ah (Jr w4.heap.size (w.heap.size+1) m gb A4 ks.length c4 ks W3 W5 (U.o.b.below cn.o U.o.b.lt) (cJ.o.cell 0) cJ.o.lt et.o (er.o.trans (bd.o.mono z4)) (by have:=ci.o.few;omega));have cL:=ah (GK (w.heap.size+1) w4);rw[bi]at cL;clear bi;go_wp2_with fail;refine cL.o.mono ?_;rintro e w' ⟨rfl,bg⟩;have cI:=bg.symm;clear bg;subst cI;go_wp2_with fail;refine ev.o.mono ?_;rintro e w6 ⟨A6,c6,qs,rfl,cM,cN,ew⟩;have ex:=ah (Jp E.o U.o.gbs U.o.gfs ci.o cM);have fL:ks.length+qs.length<=400:=by have:=ci.o.few;have:=cM.few;omega
    have ey:=ah (zU W3.heap.size (ks.length+qs.length) c6 A6 (ks++qs) w6 cN (by omega));have cO:=ah ew;have ez:Hid (∀k,(Value.slice A6 (ks.length+qs.length) c6).ownBlock=some k->W3.heap.size<=k):=fun k hk=>(bU cN hk).1;clear cN cM ew ev cL ci ep et;go_wp2_with fail;refine ey.o.mono ?_;rintro e w7 ⟨rfl,eA,eC⟩;have eE:Hid (Below W3.heap.size W3 w7):=cO.o.grown eC cO.o.size (fun k e=>ez.o k e);have cP:Hid (Sl w7 w7.heap.size 1 A6 (ks.length+qs.length) (strs (bT l))):=by
     have:=Sl.of_own eA;rw[ex.o.1]at this;exact this
    have V:Hid (Below wo.heap.size wo w7):=T.o.trans (eE.o.mono T.o.size);have co:=ah (U.o.below V.o);have cQ:=ah (hD.o.below V.o (by omega));have X:Hid (Below w.heap.size w w7):=r.o.trans (V.o.mono (by omega));obtain⟨nn,fN⟩:=NX9 (ks.length+qs.length)
    rw[fN]at cP fL;have cR:Hid ((bT l).length=nn):=by have:=cP.o.1;rw[pz]at this;show _=_;omega
    have z7:w.heap.size+3<=w7.heap.size:=by have:=V.o.size;omega
    clear eA eC ez cO ey eE V U hD r T cG er bh cJ bd cn;obtain⟨W8,eI⟩:=NX9 (w7.alloc (.cells #[.int .i64 2,.string ⟨#[]⟩,.slice none 0 0,.int .u64 0,.int .u64 0,.slice none 0 0,.string ⟨#[]⟩,.int .i64 0,.string ⟨#[]⟩] 109))
    have bj:=ah eI;clear eI;go_wp2_with fail;have eJ:Hid (Bk W8 w7.heap.size 109 #[.int .i64 2,.string ⟨#[]⟩,.slice none 0 0,.int .u64 0,.int .u64 0,.slice none 0 0,.string ⟨#[]⟩,.int .i64 0,.string ⟨#[]⟩]):=by rw[<-bj.o];exact Bk.new w7 _ _
    have eK:Hid (Below w7.heap.size w7 W8):=by rw[<-bj.o];exact(af _ w7).alloc ai _
    have z8:w7.heap.size+1=W8.heap.size:=by rw[<-bj.o];simp
    rw[bj.o];clear bj;obtain⟨i0,hi,aw,aD,aE⟩:=info_parts u7;have Hi:=ah hi;have cf:=ah aw;have cg:=ah aD;have ch:=ah aE;clear hi aw aD aE
    go_loopw[0,65] (fun pv i wr=>∃(j:Nat)(q:List Itm)(es:List Ent)(Aq:OA)(cq:Nat)(EA:OA)(ec:Nat),pv= .slice Aq q.length cq/\i= .int .i64 (j:Int)/\j<=nn/\Hid (StoAt k l p j q es)/\Hid (Ply wr w.heap.size A c p Aq cq q)/\q.length<=cq/\cq<=maxLen ∧
     Hid (Apd wr (w7.heap.size+1) 185 4 EA j ec (flat enC es))/\j<=ec/\ec<=maxLen/\Hid (Bk wr w7.heap.size 109 #[.int .i64 2,.string ⟨#[]⟩,.slice EA j ec,.int .u64 0,.int .u64 0,.slice none 0 0,.string ⟨#[]⟩,.int .i64 0,.string ⟨#[]⟩])/\Hid (Below w7.heap.size w7 wr)/\w7.heap.size+1<=wr.heap.size) (fun _ i _=>nn - (intOf i).toNat)
    case atStart=>exact⟨0,p,[],A,c,none,0,by rw[ap.o],rfl,ZZ _,StoAt.start fg.o,.inl ⟨rfl,rfl,rfl⟩,by rw[ap.o];exact fc.o,ff.o,.inr ⟨rfl,rfl,rfl⟩,Nat.le_refl _,ZZ _,eJ.o,eK.o,by omega⟩
    case round =>
     clear eJ eK;obtain⟨j,q,es,Aq,cq,EA,ec,rfl,rfl,hj,C,H,cS,cT,cU,fO,fR,cV,r,fh⟩:=hrel;by_cases hlt:j<nn
     . have cy: (j:Int)< (nn:Int):=by omega
       obtain⟨nb,gj,x,rfl,gw,hx,y0⟩:=(cP.o.below r.o ai).str_at hlt;have HX:=ah hx;have gx:=(AU (vK E.o hx)).2;have fS:=ex.o.2 x (Z7 hx);clear hx;obtain⟨We,ar⟩:=NX9 (wr.alloc (.cells #[.string x,.bool false,.int .u64 0,.int .u64 0] 185))
       have cW:Hid (Bk We wr.heap.size 185 #[.string x,.bool false,.int .u64 0,.int .u64 0]):=by rw[<-ar];exact Bk.new wr _ _
       have bk:Hid (Below wr.heap.size wr We):=by rw[<-ar];exact(af _ wr).alloc ai _
       have ze:wr.heap.size+1=We.heap.size:=by rw[<-ar];simp
       have cp:=ah (co.o.below (r.o.trans (bk.o.mono (by omega))));have al:x.size<=maxLen:=by unfold maxLen;omega
       have O: (Instr.lookup 274 (.map (some (w.heap.size+1+1))) (.string x) true).run Tryz.prog (wr.alloc (.cells #[.string x,.bool false,.int .u64 0,.int .u64 0] 185))= .ok (.tuple #[(gf x).getD (.agg #[.string ⟨#[]⟩,.string ⟨#[]⟩]),.bool (gf x).isSome]) (wr.alloc (.cells #[.string x,.bool false,.int .u64 0,.int .u64 0] 185)):=by
        rw[ar];exact cp.o.f.look_ok Tryz.underlying9 Tryz.underlying274 (Tryz.zeroValue82 _) al
       have Q:=cp.o.gfs x;rw[fS]at Q;have eL:Hid (q.length<=800000):=by have h1:=C.o.plen;have h2:=cw.o;rw[<-ap.o]at h2;show _<=_;omega
       have gk:=ah H;have cX:=ah ar;clear ar;cases hlf:dP l x with
       | some s =>
         have au:=ah hlf;rw[hlf]at Q;simp only[Bool.false_eq_true,if_false,Option.map_some]at Q;rw[Q]at O;simp only[Option.getD_some,Option.isSome_some,lF]at O;clear Q hlf;have eM:=E.o.data _ ((ma E.o.nod).1 au.o);simp only at eM;obtain⟨W9,G⟩:=NX9 (We.alloc (.cells #[.string x,.string s] 82))
         have bm:Hid (Bk W9 wr.heap.size 185 #[.string x,.bool false,.int .u64 0,.int .u64 0]):=by rw[<-G];exact cW.o.alloc _
         have N:Hid (Below wr.heap.size wr W9):=by rw[<-G];exact bk.o.alloc bk.o.size _
         have fU:Hid (Bk W9 We.heap.size 82 #[.string x,.string s]):=by rw[<-G];exact Bk.new We _ _
         have z9:We.heap.size+1=W9.heap.size:=by rw[<-G];simp
         have bn:=ah G;have eN:=ah (AQ s W9);clear G;go_wp2_with fail;rw[cX.o,bn.o];refine eN.o.mono ?_;rintro e bo ⟨rfl,ao⟩;have cr:=ah (bm.o.below ao (by omega));have Y:Hid (Below wr.heap.size wr bo):=N.o.trans (ao.mono N.o.size);have gA:W9.heap.size<=bo.heap.size:=ao.size;clear ao eN bm N fU bn cX cW bk;obtain⟨⟨d1,d2⟩,am⟩:∃d,dgO (dS s)=d:=⟨_,rfl⟩
         have z:=ah (uC Aq q.length cq bo.heap.size q (dS s) zOs bo (bx.o _ _ _ _ (H.o.below Y.o) (X.o.trans ((r.o.mono (by omega)).trans (Y.o.mono (by omega))))) (JA _ _ _) ai cS cT (by have:=eL.o;omega) C.o.ok.asc (pg eM));unfold PuE at z;rw[am]at z;simp only[aB,<-Iy]at z;have cj:=ah am;clear am;go_wp2_with fail;refine z.o.mono ?_;rintro e D ⟨hq,y⟩;have o:=ah (cr.o.below y (by omega));have v:Hid (Below wr.heap.size wr D):=Y.o.trans (y.mono Y.o.size);have fW:bo.heap.size<=D.heap.size:=y.size;clear y cr Y;rcases hq with ⟨q2,A2,c2,hz,rfl,Z,bp,ab,hy⟩ | ⟨hz,rfl⟩
         . have HZ:=ah hz;have HY:=ah hy
           have cY:=ah ((by have h9:=C.o.file E.o HX.o au.o HZ.o;rw[cj.o]at h9;exact h9:StoAt k l p (j+1) q2 (es++ [⟨x,false,(d1,d2)⟩])));clear hz hy Z z;obtain⟨t,u⟩:=NX9 ((D.setCell ⟨wr.heap.size,2,none⟩ (.int .u64 d1)).setCell ⟨wr.heap.size,3,none⟩ (.int .u64 d2))
           have bq:Hid (Bk t wr.heap.size 185 #[.string x,.bool false,.int .u64 d1,.int .u64 d2]):=by rw[<-u];exact(o.o.set 2 (.int .u64 d1)).set 3 (.int .u64 d2)
           have I:Hid (Below wr.heap.size wr t):=by rw[<-u];exact(v.o.setCell (p:=⟨wr.heap.size,2,none⟩) ai _).setCell (p:=⟨wr.heap.size,3,none⟩) ai _
           have br:Hid (Ply t w.heap.size A c p A2 c2 q2):=by
            rw[<-u];exact((H.o.trans v.o HY.o (by omega)).box o.o (by decide) 2 _).box (o.o.set 2 (.int .u64 d1)) (by decide) 3 _
           have fX:wr.heap.size<t.heap.size:=by rw[<-u];simp;omega
           have J:=ah (cV.o.below I.o (by omega));have ad:=ah (cU.o.below I.o);have f2:=o.o.free 2;have f3:=o.o.free 3;have u2:=o.o.cell 2;have u3:=o.o.cell 3;simp at u2 u3;obtain⟨v0,v1,v2,v3⟩:=bq.o.four;obtain⟨o0,o1,o2,o3,o4,o5,o6,o7,o8⟩:=J.o.nine
           go_wp2_with (at_builtin;refine aN ?_)
           refine aF ?_;refine dB (base:=w7.heap.size+1) (size:=4) _ rfl (.tmp 104) (.tmp 106) 107 rfl 185 i0 _ 40 Tryz.underlying107 Hi.o cf.o cg.o ch.o rfl (by decide) EA j ec (flat enC es) rfl ?own_1 (t.heap.size+1) _ 1 _ (enC ⟨x,false,(d1,d2)⟩) rfl ?nw_1 (by simp[enC,Value.oneCell']) ?m1_1 ?m2_1 ?m3_1 ?_
           case own_1=>exact ad.o.below ((af _ t).alloc ai _)
           case nw_1 =>
            have:=Sl.of_bk (n:=1) (size:=4) (Bk.new t 185 #[.string x,.bool false,.int .u64 d1,.int .u64 d2]) rfl;rw[Z9]at this;exact this
           case m1_1=>unfold maxLen;omega
           case m2_1=>omega
           case m3_1=>simp;omega
           intro A4 c4 R bs M da db ag;have bt:Hid (Apd R (w7.heap.size+1) 185 4 A4 (j+1) c4 (flat enC (es++ [⟨x,false,(d1,d2)⟩]))):=by
            show Apd _ _ _ _ _ _ _ _;rw[bu]
            simpa [flat] using bs
           have K:Hid (Below (w7.heap.size+1) t R):=((af (w7.heap.size+1) t).alloc (by omega) _).trans M;have F:=ah (J.o.below K.o (Nat.lt_succ_self _));have bv:=ah ((br.o.below ((af _ t).alloc ai (.cells #[.string x,.bool false,.int .u64 d1,.int .u64 d2] 185))).others ag (by decide));have dc:Hid (Below w7.heap.size w7 R):=r.o.trans ((I.o.mono (by omega)).trans (K.o.mono (by omega)));have bw:w7.heap.size+1<=R.heap.size:=by have:=K.o.size;omega
           clear bs M ag o0 o1 o2 o3 o4 o5 o6 o7 o8 v0 v1 v2 v3 u2 u3 f2 f3 u o v ad J;obtain⟨o0,o1,o2,o3,o4,o5,o6,o7,o8⟩:=F.o.nine;have g2:=F.o.free 2;go_wp2_with fail;go_roundw
           case rel=>exact⟨j+1,q2,_,A2,c2,A4,c4,by go_num,by go_num,hlt,cY.o,bv.o.box F.o (by decide) 2 _,bp,ab,bt.o.setCell (a:=⟨w7.heap.size,2,none⟩) (Nat.lt_succ_self _) _,da,db,F.o.set 2 (.slice A4 (j+1) c4),dc.o.setCell (p:=⟨w7.heap.size,2,none⟩) ai _,by simpa using bw⟩
           case measure=>simp[intOf];omega
         . have HN:Hid (sto (k+1) p l=none):=C.o.filex HX.o au.o hz
           have dd:=ah (cQ.o.below (r.o.trans (v.o.mono (by omega))) (by omega));have de:Hid (Below w.heap.size w D):=X.o.trans ((r.o.trans (v.o.mono (by omega))).mono (by omega));clear hz z;have f2:=o.o.free 2;have f3:=o.o.free 3;have u2:=o.o.cell 2;have u3:=o.o.cell 3;simp at u2 u3;obtain⟨t,u⟩:=NX9 ((D.setCell ⟨wr.heap.size,2,none⟩ (.int .u64 zD.1)).setCell ⟨wr.heap.size,3,none⟩ (.int .u64 zD.2))
           have S:Hid (Bk t w.heap.size 50 #[.int .u64 0,.int .u64 0]):=by rw[<-u];exact(dd.o.far (p:=⟨wr.heap.size,2,none⟩) (by show w.heap.size≠wr.heap.size;omega) _).far (p:=⟨wr.heap.size,3,none⟩) (by show w.heap.size≠wr.heap.size;omega) _
           have dj:Hid (Below w.heap.size w t):=by rw[<-u];exact(de.o.setCell (p:=⟨wr.heap.size,2,none⟩) (by show w.heap.size<=wr.heap.size;omega) _).setCell (p:=⟨wr.heap.size,3,none⟩) (by show w.heap.size<=wr.heap.size;omega) _
           obtain⟨fY,ga,_,_⟩:=S.o.two;have e0:=S.o.free 0;have e1:=S.o.free 1;go_wp2_with fail;refine ZY (iR Tryz.results124 rfl rfl (S.o.set2 _ _) rfl) rfl ⟨.inr ⟨HN.o,rfl⟩,dR dj.o ai _ _⟩
       | none =>
         have au:=ah hlf;have cs:=ah (Lb (Z7 HX.o) hlf);rw[hlf]at Q;simp only[Bool.false_eq_true,if_false,Option.map_none]at Q;rw[Q]at O;simp only[Option.getD_none,Option.isSome_none]at O;clear Q hlf;obtain⟨W9,G⟩:=NX9 (((wr.alloc (.cells #[.string x,.bool false,.int .u64 0,.int .u64 0] 185)).alloc (.cells #[.string ⟨#[]⟩,.string ⟨#[]⟩] 82)).setCell ⟨wr.heap.size,1,none⟩ (.bool true))
         have ck:Hid (Bk ((wr.alloc (.cells #[.string x,.bool false,.int .u64 0,.int .u64 0] 185)).alloc (.cells #[.string ⟨#[]⟩,.string ⟨#[]⟩] 82)) wr.heap.size 185 #[.string x,.bool false,.int .u64 0,.int .u64 0]):=(Bk.new wr _ _).alloc _;have bm:Hid (Bk W9 wr.heap.size 185 #[.string x,.bool true,.int .u64 0,.int .u64 0]):=by rw[<-G];exact ck.o.set 1 (.bool true)
         have N:Hid (Below wr.heap.size wr W9):=by rw[<-G];exact(((af _ wr).alloc ai _).alloc (by simp) _).setCell (p:=⟨wr.heap.size,1,none⟩) ai _
         have z9:wr.heap.size+2=W9.heap.size:=by rw[<-G];simp
         have ct:=ah (co.o.below (r.o.trans (N.o.mono (by omega))));have dk: (Instr.lookup 273 (.map (some (w.heap.size+1))) (.string x) false).run Tryz.prog (((wr.alloc (.cells #[.string x,.bool false,.int .u64 0,.int .u64 0] 185)).alloc (.cells #[.string ⟨#[]⟩,.string ⟨#[]⟩] 82)).setCell ⟨wr.heap.size,1,none⟩ (.bool true))= .ok ((gb x).getD iq) (((wr.alloc (.cells #[.string x,.bool false,.int .u64 0,.int .u64 0] 185)).alloc (.cells #[.string ⟨#[]⟩,.string ⟨#[]⟩] 82)).setCell ⟨wr.heap.size,1,none⟩ (.bool true)):=by
          rw[G];exact ct.o.b.look Tryz.underlying9 Tryz.underlying273 (Tryz.zeroValue63 _) al
         have bn:=ah G;have y1:=ck.o.cell 1;simp at y1;have f1:=ck.o.free 1;clear G;have cl:=ah (ct.o.rows.own x);obtain⟨vb,dl⟩:=NX9 ((gb x).getD iq)
         simp only[dl]at cl;have HV:Hid (∃Ab cb,vb= .slice Ab (inD l x).length cb):=by
          rcases cl.o.2 with ⟨h1,h2⟩ | ⟨g,cF,cur,h1,_⟩
          . exact⟨none,0,by rw[h1,h2]⟩
          . exact⟨_,_,h1⟩
         obtain⟨Ab,cb,rfl⟩:=HV.o;rw[dl]at dk;have gc:=ah (Sl.of_own cl.o);have gd:Hid (q.length+wt (inD l x)<=800000):=by
          have h1:=C.o.len;rw[tO HX.o]at h1;have h2:=Cw l x;have h3:=cw.o;rw[<-ap.o]at h3;show _<=_;omega
         obtain⟨k',rfl⟩:∃k',k=k'+1:=by
          obtain⟨f,hf⟩:=List.exists_mem_of_ne_nil _ cs.o;obtain⟨g,hg,h1,_,_⟩:=mem_inD.1 hf;have h3:=(sO (E.o.path g hg) h1).2;have h4:=du.o g hg;exact⟨k - 1,by omega⟩
         have z:=ah (IH.o k' rfl (inD l x) (E.o.sub x) (fun f hf=>by
          obtain⟨g,hg,h1,h2,rfl⟩:=mem_inD.1 hf;have h3:=(sO (E.o.path g hg) h1).2;have h4:=du.o g hg;simp only;omega) q Aq q.length cq Ab (inD l x).length cb W9.heap.size W9 (bx.o _ _ _ _ (H.o.below N.o) (X.o.trans ((r.o.mono (by omega)).trans (N.o.mono (by omega))))) gc.o ai cS cT C.o.ok gd.o)
         unfold wh at z;simp only[aB]at z;obtain⟨ib,eR⟩:=NX9 ((inD l x).length)
         rw[eR]at dk z;clear dl eR cl;go_wp2_with fail;rw[bn.o];refine z.o.mono ?_;rintro e D ⟨hq,y⟩;have o:=ah (bm.o.below y (by omega));have v:Hid (Below wr.heap.size wr D):=N.o.trans (y.mono N.o.size);have fW:W9.heap.size<=D.heap.size:=y.size;clear y bm N bn dk y1 f1 ck cX cW bk;rcases hq with ⟨q2,⟨d1,d2⟩,A2,c2,hz,eS,rfl,Z,bp,ab,hy⟩ | ⟨hz,rfl⟩
         . have HZ:=ah hz;have HY:=ah hy
           have dn:=ah eS;clear eS;have cY:=ah (C.o.dir E.o HX.o au.o HZ.o dn.o cs.o);clear hz hy Z z;obtain⟨t,u⟩:=NX9 ((D.setCell ⟨wr.heap.size,2,none⟩ (.int .u64 d1)).setCell ⟨wr.heap.size,3,none⟩ (.int .u64 d2))
           have bq:Hid (Bk t wr.heap.size 185 #[.string x,.bool true,.int .u64 d1,.int .u64 d2]):=by rw[<-u];exact(o.o.set 2 (.int .u64 d1)).set 3 (.int .u64 d2)
           have I:Hid (Below wr.heap.size wr t):=by rw[<-u];exact(v.o.setCell (p:=⟨wr.heap.size,2,none⟩) ai _).setCell (p:=⟨wr.heap.size,3,none⟩) ai _
           have br:Hid (Ply t w.heap.size A c p A2 c2 q2):=by
            rw[<-u];exact((H.o.trans v.o HY.o (by omega)).box o.o (by decide) 2 _).box (o.o.set 2 (.int .u64 d1)) (by decide) 3 _
           have fX:wr.heap.size<t.heap.size:=by rw[<-u];simp;omega
           have J:=ah (cV.o.below I.o (by omega));have ad:=ah (cU.o.below I.o);have f2:=o.o.free 2;have f3:=o.o.free 3;have u2:=o.o.cell 2;have u3:=o.o.cell 3;simp at u2 u3;obtain⟨v0,v1,v2,v3⟩:=bq.o.four;obtain⟨o0,o1,o2,o3,o4,o5,o6,o7,o8⟩:=J.o.nine
           go_wp2_with (at_builtin;refine aN ?_)
           refine aF ?_;refine dB (base:=w7.heap.size+1) (size:=4) _ rfl (.tmp 104) (.tmp 106) 107 rfl 185 i0 _ 40 Tryz.underlying107 Hi.o cf.o cg.o ch.o rfl (by decide) EA j ec (flat enC es) rfl ?own_1 (t.heap.size+1) _ 1 _ (enC ⟨x,true,(d1,d2)⟩) rfl ?nw_1 (by simp[enC,Value.oneCell']) ?m1_1 ?m2_1 ?m3_1 ?_
           case own_1=>exact ad.o.below ((af _ t).alloc ai _)
           case nw_1 =>
            have:=Sl.of_bk (n:=1) (size:=4) (Bk.new t 185 #[.string x,.bool true,.int .u64 d1,.int .u64 d2]) rfl;rw[Z9]at this;exact this
           case m1_1=>unfold maxLen;omega
           case m2_1=>omega
           case m3_1=>simp;omega
           intro A4 c4 R bs M da db ag;have bt:Hid (Apd R (w7.heap.size+1) 185 4 A4 (j+1) c4 (flat enC (es++ [⟨x,true,(d1,d2)⟩]))):=by
            show Apd _ _ _ _ _ _ _ _;rw[bu]
            simpa [flat] using bs
           have K:Hid (Below (w7.heap.size+1) t R):=((af (w7.heap.size+1) t).alloc (by omega) _).trans M;have F:=ah (J.o.below K.o (Nat.lt_succ_self _));have bv:=ah ((br.o.below ((af _ t).alloc ai (.cells #[.string x,.bool true,.int .u64 d1,.int .u64 d2] 185))).others ag (by decide));have dc:Hid (Below w7.heap.size w7 R):=r.o.trans ((I.o.mono (by omega)).trans (K.o.mono (by omega)));have bw:w7.heap.size+1<=R.heap.size:=by have:=K.o.size;omega
           clear bs M ag o0 o1 o2 o3 o4 o5 o6 o7 o8 v0 v1 v2 v3 u2 u3 f2 f3 u o v ad J;obtain⟨o0,o1,o2,o3,o4,o5,o6,o7,o8⟩:=F.o.nine;have g2:=F.o.free 2;go_wp2_with fail;go_roundw
           case rel=>exact⟨j+1,q2,_,A2,c2,A4,c4,by go_num,by go_num,hlt,cY.o,bv.o.box F.o (by decide) 2 _,bp,ab,bt.o.setCell (a:=⟨w7.heap.size,2,none⟩) (Nat.lt_succ_self _) _,da,db,F.o.set 2 (.slice A4 (j+1) c4),dc.o.setCell (p:=⟨w7.heap.size,2,none⟩) ai _,by simpa using bw⟩
           case measure=>simp[intOf];omega
         . have HN:Hid (sto (k'+1+1) p l=none):=C.o.dirx HX.o au.o hz
           have dd:=ah (cQ.o.below (r.o.trans (v.o.mono (by omega))) (by omega));have de:Hid (Below w.heap.size w D):=X.o.trans ((r.o.trans (v.o.mono (by omega))).mono (by omega));clear hz z;have f2:=o.o.free 2;have f3:=o.o.free 3;have u2:=o.o.cell 2;have u3:=o.o.cell 3;simp at u2 u3;obtain⟨t,u⟩:=NX9 ((D.setCell ⟨wr.heap.size,2,none⟩ (.int .u64 zD.1)).setCell ⟨wr.heap.size,3,none⟩ (.int .u64 zD.2))
           have S:Hid (Bk t w.heap.size 50 #[.int .u64 0,.int .u64 0]):=by rw[<-u];exact(dd.o.far (p:=⟨wr.heap.size,2,none⟩) (by show w.heap.size≠wr.heap.size;omega) _).far (p:=⟨wr.heap.size,3,none⟩) (by show w.heap.size≠wr.heap.size;omega) _
           have dj:Hid (Below w.heap.size w t):=by rw[<-u];exact(de.o.setCell (p:=⟨wr.heap.size,2,none⟩) (by show w.heap.size<=wr.heap.size;omega) _).setCell (p:=⟨wr.heap.size,3,none⟩) (by show w.heap.size<=wr.heap.size;omega) _
           obtain⟨fY,ga,_,_⟩:=S.o.two;have e0:=S.o.free 0;have e1:=S.o.free 1;go_wp2_with fail;refine ZY (iR Tryz.results124 rfl rfl (S.o.set2 _ _) rfl) rfl ⟨.inr ⟨HN.o,rfl⟩,dR dj.o ai _ _⟩
     . have cy:¬(j:Int)< (nn:Int):=by omega
       have eV:Hid (j=nn):=by show _=_;omega
       have cm:Hid (Below w.heap.size w wr):=X.o.trans (r.o.mono (by omega));have ge:=ah (cQ.o.below r.o (by omega));have gl:Hid (es.length=j):=C.o.elen (by rw[cR.o];exact hj);have gg:=ah (C.o.es E.o);have z:=ah (uC Aq q.length cq wr.heap.size q (dK es) ⟨EA,j,ec,none,0,0⟩ wr (bx.o _ _ _ _ H.o cm.o) ⟨cU.o.sl,Sl.nil _ _ _ _,fO,fR,Nat.le_refl _,ZZ _⟩ ai cS cT (by have h1:=C.o.plen;have h2:=cw.o;rw[<-ap.o]at h2;omega) C.o.ok.asc (sI gg.o));unfold PuE at z;obtain⟨⟨d1,d2⟩,am⟩:∃d,dgO (dK es)=d:=⟨_,rfl⟩
       have cj:=ah am;rw[am]at z;simp only[aB,obV,obC,dK]at z;clear am;obtain⟨o0,o1,o2,o3,o4,o5,o6,o7,o8⟩:=cV.o.nine;go_wp2_with fail;refine z.o.mono ?_;rintro e D ⟨hq,y⟩;have v:Hid (Below w.heap.size w D):=cm.o.trans (y.mono cm.o.size);have L:=ah (ge.o.below y (by omega));obtain⟨t0,t1,_,_⟩:=L.o.two;have e0:=L.o.free 0;have e1:=L.o.free 1;have gh:=ah y;clear y z o0 o1 o2 o3 o4 o5 o6 o7 o8;rcases hq with ⟨q2,A2,c2,hz,rfl,Z,bp,ab,hy⟩ | ⟨hz,rfl⟩
       . have HN:Hid (sto (k+1) p l=some (q2,(d1,d2))):=by
           have:=C.o.done (by rw[cR.o,eV.o];exact Nat.le_refl _) hz;rw[cj.o]at this;exact this
         have dn:Hid (nH p q2 (d1,d2) l):=by
          have:=C.o.res E.o hz;rw[cj.o]at this;exact this
         have HY:Hid (Ply D w.heap.size A c p A2 c2 q2):=H.o.trans gh.o hy (by have:=cm.o.size;omega);have eW:Hid (Ply ((D.setCell ⟨w.heap.size,0,none⟩ (.int .u64 d1)).setCell ⟨w.heap.size,1,none⟩ (.int .u64 d2)) w.heap.size A c p A2 c2 q2):=(HY.o.box L.o (by decide) 0 _).box (L.o.set 0 (.int .u64 d1)) (by decide) 1 _;clear hz hy Z;go_wp2_with fail;refine ZY (iR Tryz.results124 rfl rfl (L.o.set2 _ _) rfl) rfl ⟨.inl ⟨q2,(d1,d2),A2,c2,HN.o,dn.o,rfl,?_,bp,ab,eW.o⟩,dR v.o ai _ _⟩;exact bx.o _ _ _ _ eW.o (dR v.o ai _ _)
       . have HN:Hid (sto (k+1) p l=none):=C.o.donex (by rw[cR.o,eV.o];exact Nat.le_refl _) hz
         clear hz;go_wp2_with fail;refine ZY (iR Tryz.results124 rfl rfl (L.o.set2 _ _) rfl) rfl ⟨.inr ⟨HN.o,rfl⟩,dR v.o ai _ _⟩
theorem Gu:∀k,vW k:=by
 intro k
 induction k with
 | zero=>exact xP 0 (fun k' h=>by omega)
 | succ k ih=>exact xP (k+1) (fun k' h=>by obtain rfl:k'=k:=(by omega);exact ih)
end
def MC(q:List Itm)(g:Dig->List Fl->Prop)(l:List Fl)(e:Ent):Prop :=
 (e.dir=false/\∃s,(e.nm,s)∈l/\aL q e.dg=some (dS s))∨ (e.dir=true/\inD l e.nm≠ []/\ (∀f∈l,f.1≠e.nm)/\g e.dg (inD l e.nm))
def Std(q:List Itm):Nat->Dig->List Fl->Prop
 | 0,_,_=>False
 | k+1,d,l=>∃es,aL q d=some (dK es)/\es.map Ent.nm=bT l/\∀e∈es,MC q (Std q k) l e
structure OkT(l:List Fl):Prop where
 path:∀f∈l,bL f.1=true
 data:∀f∈l,f.2.size<=60000
 nod: (l.map Prod.fst).Nodup
 nob:∀f∈l,∀g∈l,iK f.1 g.1=false
section
variable {p : List Itm} {le : Ent -> List Fl} {es : List Ent}
variable (hes : jU es) (hle : ∀ e ∈ es, e.dir = true -> OkT (le e) /\ le e ≠ [] /\ ∀ g ∈ le e, (e.nm ++ slB ++ g.1).size <= 100) (hfl : ∀ e ∈ es, e.dir = false -> ∃ s, s.size <= 60000 /\ aL p e.dg = some (dS s))
include hes hle hfl
end
structure FCh where
 path:M3
 ho:Bool
 hn:Bool
 old:M3
 new:M3
def Dq(x:FCh):Prop:=x.ho≠x.hn∨x.old≠x.new
instance (x:FCh):Decidable (Dq x):=by unfold Dq;infer_instance
section
variable {l m : List Fl} {c : List FCh} {j : Nat} {x : FCh}
end
theorem BD:∀{p:Option M3}{fs:List Fl},eY p fs=0-> (∀f∈fs,upB p f.1=true)/\AscF fs/\∀f∈fs,bL f.1=true
 | p,[],_=>⟨fun f h=>(by cases h),List.Pairwise.nil,fun f h=>(by cases h)⟩
 | p,f::r,h=>by
   unfold eY at h;by_cases h1:bL f.1=true
   . rw[if_pos h1]at h
     by_cases h2:upB p f.1=true
     . rw[if_pos h2]at h
       obtain⟨i1,i2,i3⟩:=BD h;refine⟨fun g hg=>?_,List.pairwise_cons.2 ⟨fun g hg=>i1 g hg,i2⟩,fun g hg=>?_⟩
       . rcases List.mem_cons.1 hg with rfl | hg
         . exact h2
         . cases p with
           | none=>rfl
           | some q=>exact lN h2 (i1 g hg)
       . rcases List.mem_cons.1 hg with rfl | hg
         . exact h1
         . exact i3 g hg
     . rw[if_neg h2]at h;cases h
   . rw[if_neg h1]at h;cases h
theorem yV:∀{p:Option M3}{fs:List Fl},(∀f∈fs,upB p f.1=true)->AscF fs-> (∀f∈fs,bL f.1=true)->eY p fs=0
 | p,[],_,_,_=>rfl
 | p,f::r,h1,h2,h3=>by
   unfold eY;rw[if_pos (h3 f (by simp)),if_pos (h1 f (by simp))];exact yV (fun g hg=>h2.head hg) h2.tail (fun g hg=>h3 g (by simp[hg]))
theorem CU{fs:List Fl}(h:TckR fs 0)(hd:∀f∈fs,f.2.size<=60000):OkL fs/\AscF fs:=by
 rcases h with ⟨_,h⟩ | ⟨_,h1,h2⟩ | ⟨h1,h2,h3⟩
 . cases h
 . exact absurd h2.symm h1
 . obtain⟨_,h4,h5⟩:=BD h2
   rcases h3 with ⟨_,h⟩ | ⟨h3,_⟩
   . cases h
   . refine⟨⟨h5,hd,h1,Gq h4,fun f hf g hg=>?_⟩,h4⟩
     cases hb:iK f.1 g.1 with
     | false=>rfl
     | true=>exact absurd (Ky hf hg hb) h3
theorem KL{fs:List Fl}(h:OkL fs)(ha:AscF fs):TckR fs 0 :=
 .inr (.inr ⟨h.few,yV (fun _ _=>rfl) ha h.path,.inr ⟨Kk h.nob,rfl⟩⟩)
def Da(p:List Itm)(l:List Fl)(w:MZ)(e:Ending)(w':MZ):Prop :=
 ((∃z,TckR l z/\z≠0/\e= .returned (.tuple #[.slice none 0 0,aB zD,.int .i64 z])) ∨
  (TckR l 0/\ ((∃q d A c,sto 101 p l=some (q,d)/\nH p q d l/\e= .returned (.tuple #[.slice A q.length c,aB d,.int .i64 0])/\Sl w' w'.heap.size 3 A q.length (flat itC q)/\q.length<=c/\c<=maxLen)∨ (sto 101 p l=none/\e= .returned (.tuple #[.slice none 0 0,aB zD,.int .i64 16])))))/\Below w.heap.size w w'
theorem CW{l:List Fl}(h:OkL l):wt l<=20200:=by
 have h1:=LZ (l:=l) (k:=100) (fun f hf=>ug (h.path f hf));have h2:=h.few;have: (100+1)*l.length<=101*200:=Nat.mul_le_mul_left 101 h2;omega
theorem Fu(A:OA)(n c B:Nat)(p:List Itm)(A1:OA)(m c1:Nat)(l:List Fl)(w:MZ)(h0:Sl w B 3 A n (flat itC p))(h1:Sl w B 2 A1 m (flat flC l))(hB:B<=w.heap.size)(hnc:n<=c)(hcm:c<=maxLen)(hn:n<=700000)(hm:m<=1000000)(hp:PlOk p)(hsz:∀f∈l,f.1.size<=1000000/\f.2.size<=60000) :
  Calls Tryz.prog 67 #[.slice A n c,.slice A1 m c1] w (Da p l w):=by
 have HP:=ah hp;have H0:=ah h0;have H1:=ah h1;have t:=ah hsz;have u:=ah hnc;have v:=ah hcm;obtain⟨W,hW⟩:=NX9 (w.alloc (.cells #[.int .u64 0,.int .u64 0] 50))
 have h:Hid (Below w.heap.size w W):=by rw[<-hW];exact(af _ w).alloc ai _
 have HD:Hid (Bk W w.heap.size 50 #[.int .u64 0,.int .u64 0]):=by rw[<-hW];exact Bk.new w _ _
 have HC:=ah (Fz A1 m c1 B l W (h1.below h.o hB) (Z0 hB h.o.size) hm hsz);have HW:=ah hW;have zW:w.heap.size<W.heap.size:=HD.o.lt;clear hp h0 h1 hsz hnc hcm hW
 go_enter Tryz.func67,Tryz.ntmps67
 go_wp2_with fail;rw[HW.o];refine HC.o.mono ?_;rintro e w2 ⟨z,rfl,hz,hb⟩;have HZ:=ah hz;have a:Hid (Below w.heap.size w w2):=h.o.trans (hb.mono h.o.size);have g:=ah (HD.o.below hb zW);obtain⟨y0,y1,_,_⟩:=g.o.two;have g0:=g.o.free 0;have g1:=g.o.free 1;have z2:=hb.size;clear hz hb HC;by_cases h0:z=0
 . have t1: (z != 0)=false:=by rw[h0];rfl
   have j:Hid (TckR l 0):=by show TckR l 0;rw[<-h0];exact HZ.o
   obtain⟨i,_⟩:=CU j.o (fun f hf=>(t.o f hf).2);have x:=CW i;have HS:=ah (Gu 100 l i (fun f hf=>ug (i.path f hf)) p A n c A1 m c1 B w2 (H0.o.below a.o hB) (H1.o.below a.o hB) (Z0 hB a.o.size) u.o v.o HP.o (by omega));unfold wh at HS;simp only[aB]at HS;clear h0 i x;go_wp2_with fail;refine HS.o.mono ?_;rintro e w3 ⟨hq,hb⟩;have o:Hid (Below w.heap.size w w3):=a.o.trans (hb.mono a.o.size);have d:=ah (g.o.below hb (by omega));obtain⟨y0,y1,_,_⟩:=d.o.two;have g0:=d.o.free 0;have g1:=d.o.free 1;clear hb HS;rcases hq with ⟨q,⟨d1,d2⟩,A2,c2,hs,hr,rfl,r,y,C,_⟩ | ⟨hs,rfl⟩
   . have HN:=ah hs;have HR:=ah hr;have s:=ah r
     have D:=ah (s.o.dgbox d.o);clear hs hr r;go_wp2_with fail;refine ZY (iR Tryz.results67 rfl rfl (d.o.set2 _ _) rfl) rfl ⟨.inr ⟨j.o,.inl ⟨q,(d1,d2),A2,c2,HN.o,HR.o,rfl,?_,y,C⟩⟩,dR o.o ai _ _⟩;have:=s.o.ne (b:=w.heap.size) D.o (fun k hk=>(Z8 (w3.setCell ⟨w.heap.size,0,none⟩ (.int .u64 d1)) ⟨w.heap.size,1,none⟩ (.int .u64 d2) k hk).trans (Z8 w3 ⟨w.heap.size,0,none⟩ (.int .u64 d1) k hk))
     simpa using this
   . have HN:=ah hs
     clear hs;go_wp2_with fail;refine ZY (iR Tryz.results67 rfl rfl (d.o.set2 _ _) rfl) rfl ⟨.inr ⟨j.o,.inr ⟨HN.o,rfl⟩⟩,dR o.o ai _ _⟩
 . have t1: (z != 0)=true:=by rw[bne_iff_ne];exact h0
   have E:=ah h0;clear h0;go_wp2_with fail;refine ZY (iR Tryz.results67 rfl rfl (g.o.set2 _ _) rfl) rfl ⟨.inl ⟨z,HZ.o,E.o,rfl⟩,dR a.o ai _ _⟩
section
def bF(root old:Dig)(au ms:M3)(tm:Int):Ob:=⟨3,⟨#[]⟩,[],root,if old=zD then [] else [old],au,tm,ms⟩
structure nM(au ms:M3)(tm:Int):Prop where
 au:bI au=true
 t0:0<=tm
 t1:tm<=1099511627776
 ms:ms.size<=200
theorem qG{root old:Dig}{au ms:M3}{tm:Int}(h:nM au ms tm)(hr:WfD root)(hz:root≠zD)(ho:WfD old):OkO (bF root old au ms tm):=by
 have hs:=gM h.au;have a:=h.ms;have b:vU (if old=zD then [] else [old]):=by
  split
  . exact⟨by simp,by simp,by simp,List.nodup_nil⟩
  . rename_i hn
    exact⟨by simp,fun d hd=>by rw[List.mem_singleton.1 hd];exact ho,fun d hd=>by rw[List.mem_singleton.1 hd];exact hn,by simp⟩
 refine⟨.commit rfl rfl rfl ⟨hr,hz,b,h.au,h.t0,h.t1,h.ms⟩,?_⟩;have hl: (if old=zD then [] else [old]:List Dig).length<=1:=by split <;> simp
 have c: ((if old=zD then [] else [old]:List Dig).flatMap ax).length<=16:=by split <;> simp[fH]
 have a1:=eB (n:=3) (by omega);have a2:=eB (n:=(if old=zD then [] else [old]:List Dig).length) (by omega);have a3:=eB (n:=tm.toNat) (by have:=h.t1;omega);have a4:=eB (n:=(toL au).length) (by rw[<-aP];omega);have a5:=eB (n:=(toL ms).length) (by rw[<-aP];omega);have b1: (toL au).length<=24:=by rw[<-aP];exact hs
 have b2: (toL ms).length<=200:=by rw[<-aP];exact a
 show(aj 3++fF _).length<=65536;unfold fF bF;simp only[if_true];rw[if_neg (by omega)];simp only[ae,ak,fH];omega
open Classical in
noncomputable def gJ(p:List Itm)(rs:List Rf)(lg:List Upd)(nm:M3)(l:List Fl)(au ms:M3)(tm:Int):fC×Dig :=
 if(bW rs lg nm).2≠0/\ (bW rs lg nm).2≠8 then(.no,zD) else
 if TckR l 0 then match sto 101 p l with
  | none=>(.no,zD)
  | some (q,root) =>
    if(bW rs lg nm).1≠zD/\∃o,aL p (bW rs lg nm).1=some o/\o.tree=root then(.keep,zD)
    else match bA q (bF root (bW rs lg nm).1 au ms tm) with
     | none=>(.no,zD)
     | some q2=>(dh p rs lg q2 [(nm,(bW rs lg nm).1,dgO (bF root (bW rs lg nm).1 au ms tm))],dgO (bF root (bW rs lg nm).1 au ms tm))
 else(.no,zD)
def jb(r:Rp)(d:Dig)(x:Int)(w:MZ)(e:Ending)(w':MZ):Prop:=∃s,e= .returned (.tuple #[rpV r s,aB d,.int .i64 x])/\RpM w' w'.heap.size r s/\Below w.heap.size w w'
def CmtE(r:Rp)(a u:Nat)(t:fC×Dig)(w:MZ)(e:Ending)(w':MZ):Prop:=match t.1 with
 | .no=>∃x:Int,x≠0/\x≠20/\jb zRp zD x w e w'
 | .keep=>jb r zD 0 w e w'
 | .app g p rs lg=>jb (after r (bS r.d a u (aM g)) p rs lg).1 (if(after r (bS r.d a u (aM g)) p rs lg).2=0 then t.2 else zD) (after r (bS r.d a u (aM g)) p rs lg).2 w e w'
 | .rew _ _ _ _=>False
theorem CmtE.of{r:Rp}{a u:Nat}{pl:fC}{w W w':MZ}{e:Ending}(hne: (∃g p rs lg,pl= .app g p rs lg)∨pl= .no)(h:ExE r a u pl W e w') :
  ∃(r':Rp)(x:Int),dw r' x W e w'/\∀(pd:Dig)(wf:MZ)(s':Rsl),RpM wf wf.heap.size r' s'->Below w.heap.size w wf->CmtE r a u (pl,pd) w (.returned (.tuple #[rpV r' s',aB (if x=0 then pd else zD),.int .i64 x])) wf:=by
 rcases hne with ⟨g,p,rs,lg,rfl⟩ | rfl
 . exact⟨_,_,h,fun pd wf s' h1 h2=>⟨s',rfl,h1,h2⟩⟩
 . obtain⟨x,h1,h2,h3⟩:=h
   exact⟨_,x,h3,fun pd wf s' h4 h5=>⟨x,h1,h2,s',by rw[if_neg h1],h4,h5⟩⟩
theorem JR(rs:List Rf)(lg:List Upd)(nm:M3): (bW rs lg nm).2≠20:=by
 have h:aV rs lg≠20:=by
  unfold aV
  repeat' split
  . decide
  . exact uZ lg []
  . decide
  . decide
 unfold bW
 repeat' split
 . exact h
 all_goals simp
theorem Li(rs:List Rf)(lg:List Upd)(nm:M3): ((bW rs lg nm).2=8-> (bW rs lg nm).1=zD)/\ ((bW rs lg nm).2=0-> (bW rs lg nm).1≠zD):=by
 unfold bW
 repeat' split
 . rename_i h;exact⟨fun _=>rfl,fun h2=>absurd h2 h⟩
 . exact⟨fun _=>rfl,fun h2=>by simp at h2⟩
 . rename_i h;exact⟨fun h2=>by simp at h2,fun _=>h⟩
 . exact⟨fun _=>rfl,fun h2=>by simp at h2⟩
theorem LK{l:List Fl}{z:Int}(h:TckR l z):z≠20:=by
 have ht:∀(l:List Fl)(p:Option M3),eY p l≠20:=by
  intro l
  induction l with
  | nil=>intro p;simp[eY]
  | cons f l ih=>intro p;unfold eY;repeat' split
                 . exact ih _
                 . decide
                 . decide
 rcases h with ⟨_,rfl⟩ | ⟨_,_,rfl⟩ | ⟨_,_,⟨_,rfl⟩ | ⟨_,rfl⟩⟩
 . decide
 . exact ht _ _
 . decide
 . decide
theorem Kc{p q:List Itm}{rs:List Rf}{lg us:List Upd}(hu:us≠ []): (∃g p' rs' lg',dh p rs lg q us= .app g p' rs' lg')∨dh p rs lg q us= .no:=by
 unfold dh;split
 . rw[if_neg (fun h=>hu h.2)];exact .inl ⟨_,_,_,_,rfl⟩
 . exact .inr rfl
theorem Bg{rs:List Rf}{lg:List Upd}{nm:M3}(h:∀r∈rs,WfD r.2):WfD (bW rs lg nm).1:=by
 have hg:∀l:List Rf,(∀r∈l,WfD r.2)->WfD (df l nm):=by
  intro l
  induction l with
  | nil=>intro _;exact jT
  | cons r l ih =>
    intro h;unfold df;split
    . exact h r (by simp)
    . exact ih (fun x hx=>h x (by simp[hx]))
 unfold bW
 repeat' split
 . exact jT
 . exact jT
 . exact hg rs h
 . exact jT
end
theorem kX{a b:List Itm}(ha:AscI a)(hb:AscI b)(hc:¬iY a b):∀(n i j:Nat)(out:List Itm),(a.length - i)+ (b.length - j)<=n->UAt a b i j out->∃r,UniR a b r
 | 0,i,j,out,hn,h=>⟨out,h.done (by omega) (by omega)⟩
 | n+1,i,j,out,hn,h=>by
   rcases Nat.lt_or_ge i a.length with hi | hi
   . have hx:a[i]? =some a[i]:=Z6 hi
     rcases Nat.lt_or_ge j b.length with hj | hj
     . have hy:b[j]? =some b[j]:=Z6 hj
       by_cases h1:ltD a[i].1 b[j].1
       . exact kX ha hb hc n _ _ _ (by omega) (h.fst ha hx (oH hb hy h1))
       by_cases h2:ltD b[j].1 a[i].1
       . exact kX ha hb hc n _ _ _ (by omega) (h.snd hb hy (oH ha hx h2))
       have h3:=kG h1 h2;by_cases h4:a[i].2=b[j].2
       . exact kX ha hb hc n _ _ _ (by omega) (h.both ha hb hx (by rw[hy,Prod.ext h3 h4]))
       . exact absurd (zJ hx hy h3 h4) hc
     . exact kX ha hb hc n _ _ _ (by omega) (h.fst ha hx (oK hj))
   . rcases Nat.lt_or_ge j b.length with hj | hj
     . have hy:b[j]? =some b[j]:=Z6 hj
       exact kX ha hb hc n _ _ _ (by omega) (h.snd hb hy (oK hi))
     . exact⟨out,h.done hi hj⟩
theorem LD{a b:List Itm}(ha:PlOk a)(hb:PlOk b)(hc:¬iY a b):∃r,UniR a b r:=kX ha.asc hb.asc hc _ 0 0 [] ai (UAt.start a b)
/-! ### acts -/
structure Ac where
 kind:Int
 nm:M3
 fs:List Fl
 pl:List Itm
 us:List Upd
 left:Int
 pk:List Int
structure AcF(x:Ac):Prop where
 pn:x.pl.length<=40
 ps:∀i∈x.pl,i.2.size<=500
 pw:∀i∈x.pl,WfD i.1
 un:x.us.length<=12
 us:∀u∈x.us,u.1.size<=150
 uw:∀u∈x.us,WfU u
 fn:x.fs.length<=10
 fs:∀f∈x.fs,f.1.size<=120/\f.2.size<=200
 kn:x.pk.length<=20
 nm:x.nm.size<=120
 lm:x.left<=9223372036854775807
def dG:M3:=⟨#[97,110,110]⟩
def nL:M3:=⟨#[109,101,115,115,97,103,101]⟩
theorem Ml:nM dG nL 7:=⟨by decide +kernel,by decide,by decide,by decide⟩
noncomputable def iw(x:Ac)(p:List Itm)(rs:List Rf)(lg:List Upd):fC :=
 if x.kind=0 then(gJ p rs lg x.nm x.fs dG nL 7).1 else if x.kind=1 then dh p rs lg x.pl x.us else fD p rs lg
def jy(gs:List Gru):fC->Prop
 | .app g p rs lg=>dF (aM g)=true->Mt (gs++ [g]) p rs lg
 | .rew g p rs lg=>Mt [g] p rs lg
 | _=>True
theorem uB{gs:List Gru}{p q:List Itm}{rs:List Rf}{lg us:List Upd}(h:Mt gs p rs lg)(hu:∀u∈us,u.1.size<=65536/\WfU u):jy gs (dh p rs lg q us):=by
 cases hpl:dh p rs lg q us with
 | no=>trivial
 | keep=>trivial
 | app g p' rs' lg' =>
   have hh:=hpl;unfold dh at hh;split at hh
   . rename_i hc
     split at hh
     . cases hh
     . intro hf
       have hg: (us,aU (dC p q))=g:=by injection hh
       have h1:=(fitB_iff.1 hf).1;rw[<-hg]at h1;simp only[aM,aU,Z5,List.length_map]at h1;exact(h.app hu (by omega) hpl (fun hc'=>LD h.pl hc.1 hc')).2
   . cases hh
 | rew g p' rs' lg' =>
   exfalso
   unfold dh at hpl;split at hpl
   . split at hpl <;> cases hpl
   . cases hpl
theorem tY{gs:List Gru}{p:List Itm}{rs:List Rf}{lg:List Upd}{nm au ms:M3}{l:List Fl}{tm:Int}(h:Mt gs p rs lg)(hn:nm.size<=65536):jy gs (gJ p rs lg nm l au ms tm).1:=by
 have hw:WfD (bW rs lg nm).1:=Bg (fun x hx=>by
  obtain⟨⟨o,ho,_⟩,_⟩:=compl_zero.1 (h.co x hx);rw[mY h.pl ho];exact eQ _)
 unfold gJ;split
 . trivial
 . split
   . split
     . trivial
     . split
       . trivial
       . split
         . trivial
         . exact uB h (fun u hu=>by rw[List.mem_singleton.1 hu];exact⟨hn,hw,eQ _⟩)
   . trivial
theorem Iw{gs:List Gru}{p:List Itm}{rs:List Rf}{lg:List Upd}(h:Mt gs p rs lg)(hp:p.length<=49000):jy gs (fD p rs lg):=by
 cases hpl:fD p rs lg with
 | no=>trivial
 | keep=>trivial
 | app g p' rs' lg' =>
   exfalso
   unfold fD at hpl;split at hpl <;> cases hpl
 | rew g p' rs' lg'=>exact(h.rew (by omega) hpl).2
theorem zG:∀(os:List Dop)(d:Dk),(os.foldl doO d).sz=d.sz/\ (os.foldl doO d).ss.length=d.ss.length
 | [],d=>⟨rfl,rfl⟩
 | o::os,d=>by
   obtain⟨h1,h2⟩:=zG os (doO d o);obtain⟨k1,k2⟩:=uq d o;exact⟨h1.trans k1,h2.trans k2⟩
theorem jL(os:List Dop)(d:Dk): (aH d os).1.sz=d.sz/\ (aH d os).1.ss.length=d.ss.length:=by
 obtain⟨pre,a,_,h2,_⟩:=mr os d;rw[h2];exact zG pre d
theorem BI:∀(os:List Dop)(d:Dk),(os.foldl doO d).pn.length<=d.pn.length+os.length
 | [],d=>Nat.le_refl _
 | o::os,d=>by
   have h1:=BI os (doO d o);have h2: (doO d o).pn.length<=d.pn.length+1:=by cases o <;> simp[doO]
   rw[List.foldl_cons,Z5];omega
theorem Cs(os:List Dop)(d:Dk): (aH d os).1.pn.length<=d.pn.length+os.length:=by
 obtain⟨pre,a,h1,h2,_⟩:=mr os d;have:=BI pre d;rw[h2,h1,ae];omega
theorem yE(p e sz:Nat)(S:List M5): (dm p S e sz).length<=S.length+1:=by
 unfold dm;rw[ae,List.length_map,List.length_zipIdx];split <;> simp
theorem Ex(S:List M5): (ic S).length=S.length:=by cases S <;> rfl
theorem CR(ss:List M5):hf ss<=ss.length:=by unfold hf;omega
theorem sV(gs:List Gru)(g:Gru):recs (gs++ [g])=recs gs++aM g:=by simp[recs]
theorem Aw(g:Gru):recs [g]=aM g:=by simp[recs]
def Out(d:Dk)(old l new:List M5)(y:Dk×Int):Prop :=
 (dF l=true/\y.1.sz=d.sz/\y.1.ss.length=d.ss.length/\y.1.pn.length<=d.ss.length+4/\ ((y.2=0/\Dur y.1 new)∨ (y.2=20/\Brk y.1 old new)))∨ (y.2≠0/\y.2≠20)
theorem BV{d:Dk}{rs l:List M5}{a u:Nat}(h:Dur d rs)(hj:Jn d.sz d.ss a rs u):Out d rs l (rs++l) (bS d a u l):=by
 unfold bS;by_cases h1:dF l=true
 . rw[if_neg (by simpa using h1)]
   by_cases h2:hf d.ss - u< (secs d.sz (az l)).length
   . rw[if_pos h2];exact .inr ⟨by decide,by decide⟩
   . rw[if_neg h2]
     have h3:=Cs (eF d.sz d.ss a u (secs d.sz (az l))) d;have h4:=yE (aC d.ss a+u) (aC d.ss a+hf d.ss) d.sz (ic (secs d.sz (az l)));rw[Ex]at h4;rw[h.pn]at h3;have h5:=CR d.ss;refine .inl ⟨h1,(jL _ d).1,(jL _ d).2,by unfold eF at h3;simp only[ae,List.length_map,Z5,List.length_nil]at h3;exact Z0 h3 (by omega),JS h hj ⟨fitB_iff.1 h1,rfl⟩ (by omega)⟩
 . rw[if_pos (by simpa using h1)];exact .inr ⟨by decide,by decide⟩
theorem BJ{d:Dk}{rs l:List M5}{a u:Nat}(h:Dur d rs)(hj:Jn d.sz d.ss a rs u):Out d rs l l (bZ d a l):=by
 unfold bZ;by_cases h1:dF l=true
 . rw[if_neg (by simpa using h1)]
   by_cases h2:hf d.ss< (secs d.sz (az l)).length
   . rw[if_pos h2];exact .inr ⟨by decide,by decide⟩
   . rw[if_neg h2]
     have h3:=Cs (fe d.sz d.ss a (secs d.sz (az l))) d;have h4:=yE (aC d.ss (3 - a)) (aC d.ss (3 - a)+hf d.ss) d.sz (secs d.sz (az l));rw[h.pn]at h3;have h5:=CR d.ss;refine .inl ⟨h1,(jL _ d).1,(jL _ d).2,by unfold fe at h3;simp only[ae,List.length_map,Z5,List.length_nil]at h3;exact Z0 h3 (by omega),J3 h hj ⟨fitB_iff.1 h1,rfl⟩ (by omega)⟩
 . rw[if_pos (by simpa using h1)];exact .inr ⟨by decide,by decide⟩
def eX(r:Rp)(y:Dk×Int)(p:List Itm)(rs:List Rf)(lg:List Upd):Rp×Int :=
 if y.2=0 then(⟨y.1,p,rs,lg⟩,0) else if y.2=20 then({r with d:=y.1},20) else(r,y.2)
structure RI(r:Rp):Prop where
 n:r.d.ss.length<=100
 z:r.d.sz<=128
 pn:r.d.pn.length<=1000
 st: (∃gs,Dur r.d (recs gs)/\Mt gs r.p r.rs r.lg)∨ (∃gs gs' p' rs' lg',Brk r.d (recs gs) (recs gs')/\Mt gs r.p r.rs r.lg/\Mt gs' p' rs' lg')
theorem RI.ok{r:Rp}(h:RI r):r.d.Ok:=by
 rcases h.st with ⟨_,h,_⟩ | ⟨_,_,_,_,_,h,_⟩
 . exact h.ok
 . exact h.ok
theorem RI.live{r:Rp}(h:RI r)(hl:r.d.lf≠0):∃gs a u,Dur r.d (recs gs)/\Jn r.d.sz r.d.ss a (recs gs) u/\Mt gs r.p r.rs r.lg:=by
 rcases h.st with ⟨gs,h,m⟩ | ⟨_,_,_,_,_,h,_⟩
 . obtain⟨a,u,hj⟩:=h.jn
   exact⟨gs,a,u,h,hj,m⟩
 . exact absurd h.lf hl
theorem zZ{r:Rp}{gs gs':List Gru}{y:Dk×Int}{l:List M5}{p:List Itm}{rs:List Rf}{lg:List Upd}(hr:RI r)(hM:Mt gs r.p r.rs r.lg)(ho:Out r.d (recs gs) l (recs gs') y)(hM':dF l=true->Mt gs' p rs lg):RI (eX r y p rs lg).1:=by
 unfold eX;have hn:=hr.n;rcases ho with ⟨hf,h1,h2,hp,⟨h3,h4⟩ | ⟨h3,h4⟩⟩ | ⟨h3,h4⟩
 . rw[if_pos h3]
   exact⟨by show y.1.ss.length<=100;rw[h2];exact hr.n,by show y.1.sz<=128;rw[h1];exact hr.z,by show y.1.pn.length<=1000;omega,.inl ⟨gs',h4,hM' hf⟩⟩
 . rw[if_neg (by rw[h3];decide),if_pos h3]
   exact⟨by show y.1.ss.length<=100;rw[h2];exact hr.n,by show y.1.sz<=128;rw[h1];exact hr.z,by show y.1.pn.length<=1000;omega,.inr ⟨gs,gs',p,rs,lg,h4,hM,hM' hf⟩⟩
 . rw[if_neg h3,if_neg h4];exact hr
def dL(r:Rp)(left:Int):Rp:=if r.d.lf= -1/\0<=left then {r with d:={r.d with lf:=left % 40}} else r
theorem mX{r:Rp}(h:RI r){left:Int}:RI (dL r left):=by
 unfold dL;split
 . rename_i hc
   obtain⟨gs,a,u,h1,h2,h3⟩:=h.live (by rw[hc.1];decide);refine⟨h.n,h.z,h.pn,.inl ⟨gs,⟨?_,h1.pn,⟨a,u,h2⟩⟩,h3⟩⟩;exact {h1.ok with lf:=by show -1<=left % 40;omega,lm:=by show left % 40<=_;omega}
 . exact h
theorem RI.cut{r:Rp}(h:RI r)(ps:List Int):∃gs p rs lg,Dur (ek r.d ps) (recs gs)/\Mt gs p rs lg/\RI ⟨ek r.d ps,p,rs,lg⟩/\ (r.d.lf≠0->p=r.p/\rs=r.rs/\lg=r.lg):=by
 have hn: (ek r.d ps).ss.length<=100:=by show(bM _ _ _ _).length<=100;rw[jF];exact h.n
 have hz: (ek r.d ps).sz<=128:=h.z;rcases h.st with ⟨gs,h1,m⟩ | ⟨gs,gs',p',rs',lg',h1,m,m'⟩
 . exact⟨gs,r.p,r.rs,r.lg,h1.cut ps,m,⟨hn,hz,ZZ _,.inl ⟨gs,h1.cut ps,m⟩⟩,fun _=>⟨rfl,rfl,rfl⟩⟩
 . rcases h1.cut ps with h2 | h2
   . exact⟨gs,r.p,r.rs,r.lg,h2,m,⟨hn,hz,ZZ _,.inl ⟨gs,h2,m⟩⟩,fun h=>absurd h1.lf h⟩
   . exact⟨gs',p',rs',lg',h2,m',⟨hn,hz,ZZ _,.inl ⟨gs',h2,m'⟩⟩,fun h=>absurd h1.lf h⟩
