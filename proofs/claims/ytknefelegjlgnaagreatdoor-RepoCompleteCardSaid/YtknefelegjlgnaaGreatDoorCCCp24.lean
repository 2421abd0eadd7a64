/-
  Lemmas of the card.
-/
import Derived.Test.YtknefelegjlgnaaGreatDoorCCCp23
set_option maxRecDepth 100000
set_option maxHeartbeats 16000000
namespace Go.Proofs.YtknefelegjlgnaaGreatDoor
open Go.RowKit
section
attribute [local go_sem] Oper.semAt_some
theorem GK{sz:Nat}(hz:0<sz):∀(n:Nat)(b:UZ)(rs:List UZ)(u:Nat),b.length<=n->frs sz b=some (rs,u)-> (∀t∈rs,t.length<=65536)/\rs.length<=1000*u
 | n,b,rs,u,hn,h=>by
   by_cases h0:zer b
   . rw[kF h0]at h
     simp only[Option.some.injEq,Prod.mk.injEq]at h;obtain⟨rfl,rfl⟩:=h;simp
   . cases hdec:dP b with
     | none=>rw[pI h0 hdec]at h;cases h
     | some q =>
       obtain⟨l,c⟩:=q;rw[kZ hz h0 hdec]at h;obtain⟨hf,rfl,r,rfl⟩:=mX hdec;have h2:=mV l;have hk:=mO hz (c:=(aB l).length) (by omega);have hks:=Nat.mul_pos hk hz;split at h
       . cases h
       . rename_i r' u' hr
         simp only[Option.some.injEq,Prod.mk.injEq]at h;obtain⟨rfl,rfl⟩:=h;cases n with
         | zero=>rw[af]at hn;omega
         | succ n =>
           obtain⟨i1,i2⟩:=GK hz n _ _ _ (by rw[List.length_drop];omega) hr;refine⟨fun t ht=>?_,by rw[af];have:=hf.1;omega⟩;rcases List.mem_append.1 ht with ht | ht
           . exact hf.2 t ht
           . exact i1 t ht
theorem Jn.fit{sz a u:Nat}{ss rs:List UZ}(h:Jn sz ss a rs u)(hn:ss.length<=100): (∀t∈rs,t.length<=65536)/\rs.length<=49000:=by
 obtain⟨h1,h2⟩:=GK h.sz0 _ _ _ _ aj h.recs;have:=h.u_le;unfold hf at this;exact⟨h1,by omega⟩
theorem SY{p:List Itm}(hp:PlOk p){L:List UZ}(h:∀i∈p,toL i.2∈L):p.length<=L.length:=by
 have hn: (p.map fun i=>toL i.2).Nodup:=by
  rw[List.Nodup,List.pairwise_map];refine hp.asc.imp_of_mem ?_;intro a b ha hb hl e;have:a.1=b.1:=by rw[hp.dg a ha,hp.dg b hb,e]
  rw[this]at hl;exact iW _ hl
 have:=rX hn (m:=L) (fun x hx=>by obtain⟨i,hi,rfl⟩:=List.mem_map.1 hx;exact h i hi)
 rwa[List.length_map]at this
theorem tZ:∀gs:List Gru,(grO gs).length<= (recs gs).length
 | []=>by simp[grO,recs]
 | g::gs=>by
   have:=tZ gs;simp only[grO,recs,aP,List.flatMap_cons,af,Z4]at this ⊢;omega
theorem Mt.few{gs:List Gru}{p:List Itm}{rs:List Rf}{lg:List Upd}(h:Mt gs p rs lg){sz a u:Nat}{ss:List UZ}(hj:Jn sz ss a (recs gs) u)(hn:ss.length<=100):p.length<=49000/\lg.length<=1000/\ (∀u∈lg,u.1.size<=65536/\WfU u):=by
 have h1:=(hj.fit hn).2;have h2:=tZ gs;refine⟨ZY (SY h.pl fun i hi=>(h.ob _).2 ⟨i,hi,rfl⟩) (by omega),jl h.rf,fun u hu=>?_⟩;rw[h.lo]at hu;obtain⟨g,hg,hu⟩:=List.mem_flatMap.1 hu;exact(h.ok g hg).us u hu
theorem QE(l:List Upd):∀u∈flat upC l,u.oneCell'=true:=fun u hu=>by
 unfold flat at hu;obtain⟨i,_,h⟩:=List.mem_flatMap.1 hu;simp[upC]at h;rcases h with rfl | rfl | rfl | rfl | rfl <;> rfl
theorem xx(gs:List Gru)(g:Gru):grO (gs++ [g])=grO gs++g.2:=by simp[grO]
theorem xw(gs:List Gru)(g:Gru):grU (gs++ [g])=grU gs++g.1:=by simp[grU]
theorem Sl.putLp{w:UW}{B size n l:Nat}{A:OA}{xs:List UY}(h:Sl w B size A n xs)(h0:0<size){r:Loop}{o':Obj}(hl:w.heap[l]? =some (.loop r)):Sl (w.putObj l o') B size A n xs :=
 h.avoid fun b off e hn hc=>World.putObj_heap_other (fun e=>by
  subst e;have hll:0<xs.length:=by rw[h.1];exact Nat.mul_pos hn h0
  have:=hc 0 _ (Z5 hll);simp[World.cell?,hl]at this)
theorem Sl.noCell{w w':UW}{B size n b:Nat}{A:OA}{xs:List UY}(h:Sl w B size A n xs)(h0:0<size)(hb:∀o,w.cell? ⟨b,o,none⟩=none)(hw:∀k,k≠b->w'.heap[k]? =w.heap[k]?):Sl w' B size A n xs :=
 h.avoid fun g off e hn hc=>hw g (fun e=>by
  subst e;have hll:0<xs.length:=by rw[h.1];exact Nat.mul_pos hn h0
  have:=hc 0 _ (Z5 hll);rw[hb]at this;cases this)
theorem RpM.noCell{w w':UW}{B b:Nat}{r:Rp}{s:Rsl}(h:RpM w B r s)(hb:∀o,w.cell? ⟨b,o,none⟩=none)(hw:∀k,k≠b->w'.heap[k]? =w.heap[k]?):RpM w' B r s :=
 ⟨⟨h.d.ss.noCell (by omega) hb hw,h.d.pn.noCell (by omega) hb hw⟩,h.p.noCell (by omega) hb hw,h.rf.noCell (by omega) hb hw,h.l.noCell (by omega) hb hw,h.pc,h.pm⟩
theorem SV{fn:Func}{c1 c2:Tmp}(h:fn.results= #[.cell c1 35,.cell c2 36]){w:UW}{a:Array UY}{b1 b2:Nat}{x0 x1 x2 x3 x4 x5 x6 e:UY}(h1:a[c1]?.getD undef= .pointer (some ⟨b1,0,none⟩))(h2:a[c2]?.getD undef= .pointer (some ⟨b2,0,none⟩))(k1:Bk w b1 35 #[x0,x1,x2,x3,x4,x5,x6])(k2:Bk w b2 36 #[e]) :
  (results fn a).run Tryz.prog w= .ok (.tuple #[.agg #[x0,x1,x2,x3,x4,x5,x6],e]) w:=by
 obtain⟨⟨p0,p1,p2,p3⟩,p4,p5,p6⟩:=k1.seven;have c2':=k2.cell 0;simp at c2';simp[results,h,h1,h2,go_sem,p0,p1,p2,p3,p4,p5,p6,c2']
structure OpI(w V:UW)(s:Nat)(pre:List Gx)(no nu:Nat)(Ao:OA)(co:Nat)(Au:OA)(cu:Nat)(W:UW):Prop where
 low:∀k,k<s+4->k≠s+1->k≠s+2->W.heap[k]? =V.heap[k]?
 kO:Bk W (s+1) 22 #[.slice Ao no co]
 kU:Bk W (s+1+1) 31 #[.slice Au nu cu]
 oO:W.ownsRow (s+6) 9 1 (.slice Ao no co) no (flat aC (grO (gxG pre)))
 oU:W.ownsRow (s+6) 85 5 (.slice Au nu cu) nu (flat upC (grU (gxG pre)))
 b:U0 w W
 z:s+4<=W.heap.size
 co:no<=co/\co<=maxLen
 cu:nu<=cu/\cu<=maxLen
section
variable {w V W W' : UW} {s no nu co cu : Nat} {pre : List Gx} {Ao Au : OA}
theorem OpI.keep(h:OpI w V s pre no nu Ao co Au cu W)(hb:Below w.heap.size W W')(hk:∀k,k<s+4->W'.heap[k]? =W.heap[k]?)(hr:∀k e cur,s+6<=k->W.heap[k]? =some (.cells cur e (0,0))->W'.heap[k]? =W.heap[k]?):OpI w V s pre no nu Ao co Au cu W' :=
 ⟨fun k h1 h2 h3=>(hk k h1).trans (h.low k h1 h2 h3),(hk _ (by omega)).trans h.kO,(hk _ (by omega)).trans h.kU,iY h.oO fun k e=>by obtain⟨h1,cur,h2⟩:=bT h.oO e;exact hr k _ cur h1 h2,iY h.oU fun k e=>by obtain⟨h1,cur,h2⟩:=bT h.oU e;exact hr k _ cur h1 h2,h.b.trans hb,ZY h.z hb.size,h.co,h.cu⟩
end
end
def PlP(r:Rp)(a u:Nat)(pl:gX)(r':Rp)(y:Int):Prop:=match pl with
 | .no=>r'=r/\y≠0/\y≠20
 | .keep=>r'=r/\y=0
 | .app g p rs lg=>r'= (lS r (dF r.d a u (aP g)) p rs lg).1/\y= (dF r.d a u (aP g)).2
 | .rew g p rs lg=>r'= (lS r (dQ r.d a (aP g)) p rs lg).1/\y= (dQ r.d a (aP g)).2
theorem after_done{r:Rp}{Y:Dk×Int}{p:List Itm}{rs:List Rf}{lg:List Upd}: (after r Y p rs lg).2=Y.2/\ (if(after r Y p rs lg).2=0∨ (after r Y p rs lg).2=20 then(after r Y p rs lg).1 else r)= (lS r Y p rs lg).1:=by
 unfold after lS;by_cases h1:Y.2=0
 . rw[if_pos h1,if_pos h1];exact⟨h1.symm,if_pos (.inl rfl)⟩
 . rw[if_neg h1,if_neg h1]
   by_cases h2:Y.2=20
   . rw[if_pos h2,if_pos h2];exact⟨h2.symm,if_pos (.inr rfl)⟩
   . rw[if_neg h2,if_neg h2];exact⟨rfl,if_neg (fun h=>h.elim h1 h2)⟩
theorem PlP.of{r r':Rp}{Y:Dk×Int}{p:List Itm}{rs:List Rf}{lg:List Upd}{y:Int}(h1:r'= (after r Y p rs lg).1)(h2:y= (after r Y p rs lg).2): (if y=0∨y=20 then r' else r)= (lS r Y p rs lg).1/\y=Y.2:=by
 subst h1;subst h2;exact⟨after_done.2,after_done.1⟩
theorem ExE.o{r:Rp}{a u:Nat}{pl:gX}{w w':UW}{e:Ending}(h:ExE r a u pl w e w'):∃r' y,eQ r' y w e w'/\PlP r a u pl (if y=0∨y=20 then r' else r) y:=by
 cases pl with
 | no =>
   obtain⟨x,h1,h2,h3⟩:=h;exact⟨_,_,h3,if_neg (fun h=>h.elim h1 h2),h1,h2⟩
 | keep=>exact⟨_,_,h,if_pos (.inl rfl),rfl⟩
 | app g p rs lg=>exact⟨_,_,h,PlP.of rfl rfl⟩
 | rew g p rs lg=>exact⟨_,_,h,PlP.of rfl rfl⟩
theorem CmtE.o{r:Rp}{a u:Nat}{t:gX×Dig}{w w':UW}{e:Ending}(h:CmtE r a u t w e w'):∃r' d y,jU r' d y w e w'/\PlP r a u t.1 (if y=0∨y=20 then r' else r) y:=by
 obtain⟨pl,d⟩:=t;cases pl with
 | no =>
   obtain⟨x,h1,h2,h3⟩:=h;exact⟨_,_,_,h3,if_neg (fun h=>h.elim h1 h2),h1,h2⟩
 | keep=>exact⟨_,_,_,h,if_pos (.inl rfl),rfl⟩
 | app g p rs lg=>exact⟨_,_,_,h,PlP.of rfl rfl⟩
 | rew g p rs lg=>exact h.elim
theorem MO(p:List Itm)(rs:List Rf)(lg:List Upd):gV p rs lg= .keep∨∃g p' rs' lg',gV p rs lg= .rew g p' rs' lg':=by
 unfold gV;split
 . exact .inl rfl
 . exact .inr ⟨_,_,_,_,rfl⟩
theorem CoE.o{r:Rp}{a u:Nat}{w w':UW}{e:Ending}(h:CoE r a (gV r.p r.rs r.lg) w e w'):∃r' n y,nR r' n y w e w'/\PlP r a u (gV r.p r.rs r.lg) (if y=0∨y=20 then r' else r) y:=by
 rcases MO r.p r.rs r.lg with h1 | ⟨g,p',rs',lg',h1⟩ <;> rw[h1]at h ⊢
 . exact⟨_,_,_,h,if_pos (.inl rfl),rfl⟩
 . exact⟨_,_,_,h,PlP.of rfl rfl⟩
def DoP(r:Rp)(a u:Nat)(x:Ac)(r':Rp)(y:Int):Prop :=
 ((0<=x.kind/\x.kind<=2)/\r.d.lf=0/\r'=r/\y=20)∨ ((0<=x.kind/\x.kind<=2)/\r.d.lf≠0/\PlP r a u (jH x r.p r.rs r.lg) r' y)∨ (¬(0<=x.kind/\x.kind<=2)/\RI r')
structure Lvs(r:Rp)(gs:List Gru)(a u:Nat):Prop where
 d:Dur r.d (recs gs)
 j:Jn r.d.sz r.d.ss a (recs gs) u
 m:Mt gs r.p r.rs r.lg
 n:r.p.length<=49000
theorem RI.lv{r:Rp}(h:RI r)(hl:r.d.lf≠0):∃gs a u,Lvs r gs a u:=by
 obtain⟨gs,a,u,h1,h2,h3⟩:=h.live hl;exact⟨gs,a,u,h1,h2,h3,(h3.few h2 h.n).1⟩
theorem PY{gs:List Gru}{x:Ac}{p:List Itm}{rs:List Rf}{lg:List Upd}(h:Mt gs p rs lg)(hp:p.length<=49000)(hx:AcF x):kN gs (jH x p rs lg):=by
 unfold jH;split
 . exact xq h (by have:=hx.nm;omega)
 . split
   . exact xJ h (fun u hu=>⟨by have:=hx.us u hu;omega,hx.uw u hu⟩)
   . exact Qk h hp
theorem PlP.ri{r r':Rp}{gs:List Gru}{a u:Nat}{pl:gX}{y:Int}(hr:RI r)(h:Lvs r gs a u)(hp:kN gs pl)(hd:PlP r a u pl r' y):RI r':=by
 cases pl with
 | no=>rw[hd.1];exact hr
 | keep=>rw[hd.1];exact hr
 | app g p rs lg =>
   rw[hd.1];have ho:=QB h.d h.j (l:=aP g);rw[<-Dw]at ho;exact D7 hr h.m ho hp
 | rew g p rs lg =>
   rw[hd.1];have ho:=RX h.d h.j (l:=aP g);refine D7 (gs':= [g]) (l:=aP g) hr h.m ?_ (fun _=>hp);rw[O4];exact ho
theorem DoP.ri{r r':Rp}{gs:List Gru}{a u:Nat}{x:Ac}{y:Int}(hr:RI r)(h:r.d.lf≠0->Lvs r gs a u)(hx:AcF x)(hd:DoP r a u x r' y):RI r':=by
 rcases hd with ⟨_,_,h1,_⟩ | ⟨_,h1,h2⟩ | ⟨_,h1⟩
 . rw[h1];exact hr
 . exact h2.ri hr (h h1) (PY (h h1).m (h h1).n hx)
 . exact h1
section
attribute [local go_sem] Oper.semAt_some
theorem EI(r:Rp)(gs:List Gru)(a u:Nat)(s:Dsl)(B:Nat)(w:UW)(hd:r.d.Ok)(hpn:r.d.pn= [])(hj:Jn r.d.sz r.d.ss a (recs gs) u)(hM:Mt gs r.p r.rs r.lg)(hm:DkM w B r.d s)(hB:B<=w.heap.size)(hn:r.d.ss.length<=100) :
  Calls Tryz.prog 11 #[dkV r.d s] w (eQ r 0 w):=by
 refine(callsIn_wide (n:=6)).1 ?_;obtain⟨d,p,rs,lg⟩:=r;simp only at hd hpn hj hM hm hn ⊢;obtain⟨hrs,hrn⟩:=hj.fit hn;obtain⟨WI,hlf,UL⟩:=hM.few hj hn;have hrf:=nC hM.rf;obtain⟨W,hW⟩:=NX9 (((w.alloc (.cells (dkC d s) 25)).alloc (.cells rzC 35)).alloc (.cells #[.int .i64 0] 36))
 have zW:W.heap.size=w.heap.size+3:=by rw[<-hW];simp
 have HB0:U6 w W:=by rw[<-hW];exact(((ah _ w).alloc aj _).alloc (by simp) _).alloc (by simp;omega) _
 have HK:Hid (Bk W w.heap.size 25 (dkC d s)):=by rw[<-hW];exact((Bk.new w _ _).alloc _).alloc _
 have HR1:Hid (Bk W (w.heap.size+1) 35 rzC):=by rw[<-hW];exact((Bk.new _ _ _).at_ (by simp)).alloc _
 have HR2:Hid (Bk W (w.heap.size+1+1) 36 #[.int .i64 0]):=by rw[<-hW];exact(Bk.new _ _ _).at_ (by simp)
 have HM:Hid (DkM W B d s):=hm.below HB0.o hB;have ku:=ai (Kv d s B a u (recs gs) W hd hpn hj HM.o (by omega));unfold Iz at ku;have HW:=ai hW;have H:=ai hM;have VT:=ai hrs;have VU:=ai UL;have VV:=ai (CP hM.rf);have Aq:=ai hM.lo;clear hW hm hd hj hM hrs UL;have hp0:d.pn.length=0:=by rw[hpn];rfl
 obtain⟨n,hnn⟩:=NX9 d.ss.length
 have HN:=ai hnn;have VW:=ai hp0;obtain⟨m,hmm⟩:=NX9 ((recs gs).length)
 have UM:=ai hmm;simp only[dkV,dkC,hnn,hp0,hmm]at ku HK HW hn hrn ⊢;clear hnn hp0 hpn hmm;refine callsIn_of_wp_marks Tryz.func11 rfl trivial ?_ rfl;simp only[Tryz.ntmps11,List.size_toArray,Z4,List.length_nil,Nat.reduceAdd,Nat.reduceSub,Array.replicate_succ,Array.replicate_zero,List.push_toArray,List.append_toArray,List.nil_append,List.cons_append];obtain⟨k0,k1,k2,k3⟩:=HK.o.dk4
 gi_wp2_with fail
 rw[HW.o];refine⟨trivial,(callsIn_wide.2 ku.o).mono ?_⟩;rintro e w1 ⟨A,c,rfl,hs1,hmc,hcm,hb1⟩;obtain⟨k0,k1,k2,k3⟩:=(HK.o.below hb1 (by omega)).dk4;have VX:=ai hs1;have HB1:=ai hb1;have z1:=hb1.size;clear hb1 hs1 ku;obtain⟨s1,hs1⟩:=NX9 w1.heap.size
 obtain⟨w6,hw6⟩:=NX9 ((((w1.alloc (.cells #[.int .i64 d.sz,.slice s.a1 n s.c1,.slice s.a2 0 s.c2,.int .i64 d.lf,.slice none 0 0,.slice none 0 0,.slice none 0 0] 35)).alloc (.cells #[.slice none 0 0] 22)).alloc (.cells #[.slice none 0 0] 31)))
 gi_wp2_with fail
 refine⟨trivial,(callsIn_wide.2 (LW A m c w6)).mono ?_⟩;rintro e w7 ⟨rfl,hw7⟩;have z6:w6.heap.size=s1+3:=by rw[<-hw6,<-hs1];simp
 have z7:w7.heap.size=s1+4:=by rw[hw7];simp;omega
 have hb6:Below s1 w1 w6:=by rw[<-hw6,<-hs1];exact(((ah _ w1).alloc aj _).alloc (by simp) _).alloc (by simp;omega) _
 have I:Below (s1+3) w6 w7:=by rw[hw7,<-z6];exact(ah _ w6).alloc aj _
 have V:Hid (Bk w7 s1 35 #[.int .i64 d.sz,.slice s.a1 n s.c1,.slice s.a2 0 s.c2,.int .i64 d.lf,.slice none 0 0,.slice none 0 0,.slice none 0 0]):=by
  have:Bk w6 s1 35 #[.int .i64 d.sz,.slice s.a1 n s.c1,.slice s.a2 0 s.c2,.int .i64 d.lf,.slice none 0 0,.slice none 0 0,.slice none 0 0]:=by rw[<-hw6,<-hs1];exact((Bk.new w1 _ _).alloc _).alloc _
  exact this.below I (by omega)
 have AP:Hid (Bk w7 (s1+1) 22 #[.slice none 0 0]):=by
  have:Bk w6 (s1+1) 22 #[.slice none 0 0]:=by rw[<-hw6,<-hs1];exact((Bk.new _ _ _).at_ (by simp)).alloc _
  exact this.below I (by omega)
 have BB:Hid (Bk w7 (s1+1+1) 31 #[.slice none 0 0]):=by
  have:Bk w6 (s1+1+1) 31 #[.slice none 0 0]:=by rw[<-hw6,<-hs1];exact(Bk.new _ _ _).at_ (by simp)
  exact this.below I (by omega)
 have HY:Hid (Bk w7 (s1+3) 22 #[.slice A m c]):=by rw[hw7];exact(Bk.new _ _ _).at_ z6
 have M:Hid (Below s1 w1 w7):=hb6.trans (I.mono (by omega));have X:U6 w w7:=HB0.o.trans ((HB1.o.trans (M.o.mono (by omega))).mono (by omega));have KF:Hid (Sl w7 s1 1 A m (flat aC (recs gs))):=by have:=VX.o.below M.o (by omega);rw[hs1]at this;exact this
 have HI0:Hid (OpI w w7 s1 [] 0 0 none 0 none 0 w7):=⟨fun _ _ _ _=>rfl,AP.o,BB.o,World.ownsRow_nil _ _ _ _,World.ownsRow_nil _ _ _ _,X.o,by omega,⟨Nat.le_refl _,ZX _⟩,⟨Nat.le_refl _,ZX _⟩⟩
 have hws:w.heap.size+3<=s1:=by omega
 have UN:Hid (∀g∈gs,GOk g):=H.o.ok;obtain⟨iS,UO,hS0,hS1,hS2⟩:=info_parts jP;obtain⟨iU,UQ,UR,UT,UU⟩:=info_parts uq;have VY:=ai UO;have VZ:=ai hS0;have Va:=ai hS1;have HS2:=ai hS2;have We:=ai UQ;have Wh:=ai UR;have Wi:=ai UT;have Wj:=ai UU;clear hw7 hw6 hb6 I k0 k1 k2 k3 hs1 UO hS0 hS1 hS2 UQ UR UT UU
 gi_wp2
 refine AQ (α:=Gx) (F:=Fence.wide) (n:=6) rfl (by omega) (gf:=79) (lb:=#[.pointer (some ⟨s1+3,0,none⟩)]) rfl trivial (enters_of Tryz.func79 (by kernel_rfl) rfl)
  (KY 5 (s1+3) s1 (w7.heap.size+2) (by omega) A m c gs w7 HY.o KF.o (by omega) hmc (by omega) UN.o VT.o) KeepG.trans (fun W l r o' hl hlr=>⟨fun k hk=>World.putObj_heap_other (by omega),World.putObj_heap_other (by omega)⟩) (fun A C h hA=>⟨h.block _ (by omega),h.block _ (by omega)⟩) (ah _ _) (fun _=>rfl)
  (fun pre W=>∃Ao co q G,OpI w w7 s1 pre (grO (gxG pre)).length (grU (gxG pre)).length Ao co q G W) (fun _ _ _=>False)
  ?hI ?hIx ?hIS ⟨none,0,none,0,HI0.o⟩
  (fun xs b W=>s1+6<=b/\∀pre x,xs=pre++ [x]->Bk W b 92 #[.slice x.1.1 x.1.2.1 x.1.2.2,.slice x.2.1.1 x.2.1.2.1 x.2.1.2.2,.bool false]/\GxM W x/\∃rest,gxG xs++rest=gs)
  ?hAp ?a1 ?assign ?body ?done ?stop
 case hI =>
  rintro pre A1 C row ⟨Ao,co,q,G,h⟩ hg hr;refine⟨Ao,co,q,G,h.keep ((ah _ A1).grown hg h.b.size (fun k e=>by have:=(hr _ e).1;omega)) (fun k hk=>hg.block k (by have:=h.z;omega) (fun e=>by have:=(hr _ e.symm).1;omega)) (fun k e cur hk hc=>hg.block k (Array.getElem?_eq_some_iff.1 hc).1 (fun e2=>?_))⟩;obtain⟨_,o,ho,hcc⟩:=hr _ e2.symm;rw[hc]at ho;cases ho;cases hcc
 case hIx=>rintro c pre A1 C row hf _ _;exact hf
 case hIS =>
  rintro pre A1 C ⟨Ao,co,q,G,h⟩ hs;exact⟨Ao,co,q,G,h.keep (hs.mono h.b.size) (fun k hk=>hs.block k (by have:=h.z;omega)) (fun k e cur hk hc=>hs.block k (Array.getElem?_eq_some_iff.1 hc).1)⟩
 case hAp =>
  rintro xs b W l r o hl ⟨hb,hx⟩;refine⟨hb,fun pre x e=>?_⟩;obtain⟨h1,h2,h3⟩:=hx pre x e;refine⟨(World.putObj_heap_other (fun e=>?_)).trans h1,⟨h2.u.keepB (fun k cur _ hc=>World.putObj_heap_other (fun e=>by subst e;rw[hl]at hc;cases hc)),by have:=h2.o.putLp (by omega) hl (o':=o);simpa using this,h2.ul,h2.ol⟩,h3⟩;subst e;have:W.heap[b]? =_:=h1;rw[hl]at this;cases this
 case assign =>
  rintro l pre x W' K hP Vb ⟨Ao,co,q,G,h⟩ hK;have HKK:=ai hK;have HI:=ai h;have HP:=ai (hP pre x rfl);clear hK h hP;simp only[gxV]
  gi_wp2
  have hb:Below W'.heap.size W' (W'.alloc (.cells #[.slice x.1.1 x.1.2.1 x.1.2.2,.slice x.2.1.1 x.2.1.2.1 x.2.1.2.2,.bool false] 92)):=(ah _ W').alloc aj _;have hkn:=Bk.new W' 92 #[.slice x.1.1 x.1.2.1 x.1.2.2,.slice x.2.1.1 x.2.1.2.1 x.2.1.2.2,.bool false];have hbz:=HI.o.z;obtain⟨bx,hbx⟩:=NX9 W'.heap.size
  rw[hbx]at hb hkn Vb hbz ⊢;refine HKK.o bx _ ⟨hb.block _ (by omega),hb.block _ (by omega)⟩ ⟨fun k hk=>hb.block _ (by omega),hb.block _ (by omega)⟩ ⟨Ao,co,q,G,HI.o.keep (hb.mono (by have:=HI.o.b.size;omega)) (fun k hk=>hb.block k (by omega)) (fun k e cur hk hc=>hb.block k (by have:=(Array.getElem?_eq_some_iff.1 hc).1;omega))⟩ ⟨by omega,fun pre' y he=>?_⟩;have e:=congrArg List.getLast? he;simp at e;subst e;exact⟨hkn,⟨HP.o.2.u.keepB (fun k cur _ hc=>hb.block k (by have:=(Array.getElem?_eq_some_iff.1 hc).1;omega)),(HP.o.2.o.below hb (by omega)).more (by simp),HP.o.2.ul,HP.o.2.ol⟩,HP.o.1⟩
 case body =>
  rintro l pre x bx W' Vb ⟨Ao,co,q,G,h⟩ ⟨hbx,hx⟩;obtain⟨hk,hgm,hrest⟩:=hx pre x rfl;have HI:=ai h;have KR:=ai hk;have Y:=ai hgm;have Z:Hid (gxG (pre++ [x])=gxG pre++ [x.2.2]):=mW _ _;have hbl:=hk.lt;have hlenO: (grO (gxG pre)).length+x.2.1.2.1<=49000:=by
   obtain⟨rest,hr⟩:=hrest;rw[hgm.ol,<-af,<-xx,<-mW];have h1:=tZ gs;have h2:=UM.o;rw[<-hr]at h1 h2;have h3: (grO (gxG (pre++ [x]))).length<= (grO (gxG (pre++ [x])++rest)).length:=by simp[grO]
   omega
  have ag: (grU (gxG pre)).length+x.1.2.1<=1000:=by
   obtain⟨rest,hr⟩:=hrest;rw[hgm.ul,<-af,<-xw,<-mW];have h1:=Aq.o;rw[<-hr]at h1;have h3: (grU (gxG (pre++ [x]))).length<= (grU (gxG (pre++ [x])++rest)).length:=by simp[grU]
   rw[<-h1]at h3;omega
  obtain⟨L,N⟩:=NX9 ((grO (gxG pre)).length)
  obtain⟨O,Nc⟩:=NX9 ((grU (gxG pre)).length)
  rw[N]at hlenO HI;rw[Nc]at ag HI;have Wl:=ai N;have Wn:=ai Nc;have cO:=HI.o.kO.cell 0;have fO:=HI.o.kO.free 0;have cU:=HI.o.kU.cell 0;have fU:=HI.o.kU.free 0;obtain⟨g0,g1,g2⟩:=hk.three;simp at cO cU;obtain⟨⟨uA,un,uc⟩,⟨oA,on,oc⟩,gu,go⟩:=x;simp only at Y KR hlenO ag g0 g1 g2 Z;have HZ:=HI.o.z;clear h hk hgm hx hrest N Nc HI0 V AP BB HY M X KF
  gi_wp2_with (gi_at_builtin;refine aN ?_)
  refine aH ?_;refine nY (base:=s1+6) (size:=1) rfl (.tmp 31) (.tmp 33) 22 rfl 9 iS _ 16 Tryz.underlying22 VY.o VZ.o Va.o HS2.o rfl (by decide) (.slice Ao L co) L _ rfl HI.o.oO W'.heap.size oA on oc (flat aC go) rfl Y.o.o (fun v hv=>by unfold flat aC at hv;simp at hv;obtain⟨_,_,rfl⟩:=hv;rfl) (by unfold maxLen;omega) (by omega) (by omega) ?_;intro A4 c4 w4 PR hg4 qc qx;rw[<-bI]at PR;have WJ:=hg4.size;have UB:Hid (∀k,k<s1+6->w4.heap[k]? =W'.heap[k]?):=fun k hk=>hg4.block k (by omega) (fun e=>by have:=(bT HI.o.oO e.symm).1;omega);have HT4:Hid (∀(k:Nat)(e:TypeId)(cur:Array UY),e≠9->W'.heap[k]? =some (.cells cur e (0,0))->w4.heap[k]? =W'.heap[k]?):=fun k e cur he hc=>hg4.block k (Array.getElem?_eq_some_iff.1 hc).1 (fun e2=>by
   obtain⟨_,cur',h2⟩:=bT HI.o.oO e2.symm;rw[hc]at h2;cases h2;exact he rfl)
  have HB4:U6 w w4:=HI.o.b.grown hg4 HI.o.b.size (fun k e=>by have:=(bT HI.o.oO e).1;omega);have Ve:Hid (Bk w4 bx 92 #[.slice uA un uc,.slice oA on oc,.bool false]):=(HT4.o bx _ _ (by decide) KR.o).trans KR.o;have P:Hid (Bk w4 (s1+1) 22 #[.slice Ao L co]):=(UB.o _ (by omega)).trans HI.o.kO;have au:Hid (Bk w4 (s1+1+1) 31 #[.slice q O G]):=(UB.o _ (by omega)).trans HI.o.kU;have Vg:Hid (w4.ownsRow (s1+6) 85 5 (.slice q O G) O (flat upC (grU (gxG pre)))):=iY HI.o.oU fun k e=>by obtain⟨_,cur,h2⟩:=bT HI.o.oU e;exact HT4.o k _ cur (by decide) h2
  have Wp:Hid (Apd w4 0 85 5 uA un uc (flat upC gu)):=Y.o.u.keepB fun k cur _ hc=>HT4.o k _ cur (by decide) hc;have Vh:=ai PR;have Vj:=ai qc;have Vk:=ai qx;clear PR hg4 qc qx cO fO cU fU g0 g1 g2;have cO:=P.o.cell 0;have fO:=P.o.free 0;have cU:=au.o.cell 0;have fU:=au.o.free 0;obtain⟨g0,g1,g2⟩:=Ve.o.three;simp at cO cU;have hne1:s1+1+1≠s1+1:=by omega
  have hne2:bx≠s1+1:=by omega
  have Vl:bx≠s1+1+1:=by omega
  gi_wp2_with (gi_at_builtin;refine aN ?_)
  obtain⟨W5,T⟩:=NX9 (w4.setCell ⟨s1+1,0,none⟩ (.slice A4 (L+on) c4))
  have bf:Hid (∀k,k≠s1+1->W5.heap[k]? =w4.heap[k]?):=fun k hk=>by rw[<-T];exact Z8 _ _ _ k hk
  have Vm:Hid (Bk W5 (s1+1) 22 #[.slice A4 (L+on) c4]):=by rw[<-T];show Bk _ _ _ _;have:=P.o.set 0 (.slice A4 (L+on) c4);simpa using this
  have Vo:U6 w W5:=by rw[<-T];exact HB4.o.setCell (p:=⟨s1+1,0,none⟩) (by show w.heap.size<=s1+1;omega) _
  have z5:W5.heap.size=w4.heap.size:=by rw[<-T];simp
  rw[T];have lq:Hid (W5.ownsRow (s1+6) 85 5 (.slice q O G) O (flat upC (grU (gxG pre)))):=iY Vg.o fun k e=>bf.o k (by have:=(bT Vg.o e).1;omega);have Wq:Hid (Apd W5 0 85 5 uA un uc (flat upC gu)):=Wp.o.keepB fun k cur _ hc=>bf.o k (fun e=>by
   subst e;have h1:w4.heap[s1+1]? =_:=P.o;rw[hc]at h1;cases h1)
  have qA:Hid (W5.ownsRow (s1+6) 9 1 (.slice A4 (L+on) c4) (L+on) (flat aC (grO (gxG pre)++go))):=iY Vh.o fun k e=>bf.o k (by have:=(bT Vh.o e).1;omega);have Vp:Hid (Bk W5 (s1+1+1) 31 #[.slice q O G]):=(bf.o _ hne1).trans au.o;clear T cO fO cU fU g0 g1 g2;refine aH ?_;refine nY (base:=s1+6) (size:=5) rfl (.tmp 35) (.tmp 37) 31 rfl 85 iU _ 48 Tryz.underlying31 We.o Wh.o Wi.o Wj.o rfl (by decide) (.slice q O G) O _ rfl lq.o W5.heap.size uA un uc (flat upC gu) rfl Wq.o.sl (QE gu) (by unfold maxLen;omega) (by omega) (by omega) ?_;intro A6 c6 t UE bg uw uD;rw[<-bI]at UE;have WL:=bg.size;have UF:Hid (∀k,k<s1+6->t.heap[k]? =W5.heap[k]?):=fun k hk=>bg.block k (by omega) (fun e=>by have:=(bT lq.o e.symm).1;omega);have V:Hid (∀(k:Nat)(e:TypeId)(cur:Array UY),e≠85->W5.heap[k]? =some (.cells cur e (0,0))->t.heap[k]? =W5.heap[k]?):=fun k e cur he hc=>bg.block k (Array.getElem?_eq_some_iff.1 hc).1 (fun e2=>by
   obtain⟨_,cur',h2⟩:=bT lq.o e2.symm;rw[hc]at h2;cases h2;exact he rfl)
  have Ws:U6 w t:=Vo.o.grown bg Vo.o.size (fun k e=>by have:=(bT lq.o e).1;omega);have wo:Hid (t.ownsRow (s1+6) 9 1 (.slice A4 (L+on) c4) (L+on) (flat aC (grO (gxG pre)++go))):=iY qA.o fun k e=>by obtain⟨_,cur,h2⟩:=bT qA.o e;exact V.o k _ cur (by decide) h2
  have Vq:Hid (Bk t (s1+1) 22 #[.slice A4 (L+on) c4]):=(UF.o _ (by omega)).trans Vm.o;have bn:Hid (Bk t (s1+1+1) 31 #[.slice q O G]):=(UF.o _ (by omega)).trans Vp.o;have Vr:=ai UE;have Vs:=ai uw;have Vt:=ai uD;clear UE bg uw uD;have cU:=bn.o.cell 0;have fU:=bn.o.free 0;simp at cU
  gi_wp2
  have hoth:∀k,k≠s1+1+1-> (t.setCell ⟨s1+1+1,0,none⟩ (.slice A6 (O+un) c6)).heap[k]? =t.heap[k]? :=fun k hk=>Z8 _ _ _ k hk;have f:∀k,k<s1+6->k≠s1+1->k≠s1+1+1-> (t.setCell ⟨s1+1+1,0,none⟩ (.slice A6 (O+un) c6)).heap[k]? =W'.heap[k]? :=fun k h1 h2 h3=>(hoth k h3).trans ((UF.o k h1).trans ((bf.o k h2).trans (UB.o k h1)));have Vu: (grO (gxG (pre++ [((uA,un,uc),(oA,on,oc),gu,go)]))).length=L+on:=by rw[Z.o,xx,af,Wl.o];show L+go.length=L+on;have:=Y.o.ol;simp only at this;omega
  have Vw: (grU (gxG (pre++ [((uA,un,uc),(oA,on,oc),gu,go)]))).length=O+un:=by rw[Z.o,xw,af,Wn.o];show O+gu.length=O+un;have:=Y.o.ul;simp only at this;omega
  refine⟨⟨f _ (by omega) (by omega) (by omega),f _ (by omega) (by omega) (by omega)⟩,⟨fun k hk=>f k (by omega) (by omega) (by omega),f _ (by omega) (by omega) (by omega)⟩,A4,c4,A6,c6,?_⟩;rw[Vu,Vw];refine⟨fun k h1 h2 h3=>(f k (by omega) h2 h3).trans (HI.o.low k h1 h2 h3),(hoth _ (by omega)).trans Vq.o,?_,?_,?_,Ws.o.setCell (p:=⟨s1+1+1,0,none⟩) (by show w.heap.size<=s1+1+1;omega) _,by simp;omega,⟨Vj.o,Vk.o⟩,⟨Vs.o,Vt.o⟩⟩
  . have:=bn.o.set 0 (.slice A6 (O+un) c6);simpa using this
  . rw[Z.o,xx];exact iY wo.o fun k e=>hoth k (by have:=(bT wo.o e).1;omega)
  . rw[Z.o,xw];exact iY Vr.o fun k e=>hoth k (by have:=(bT Vr.o e).1;omega)
 case stop=>intro D c pre W _ _ h;exact h.elim
 case done =>
  rintro D xs W' hD hS ⟨Ao,co,q,G,hi⟩ hK;rw[hS]at hi;have Vx: (grU gs).length=lg.length:=by rw[<-Aq.o]
  have Wu: (grO gs).length<=49000:=by have h1:=tZ gs;have h2:=UM.o;omega
  obtain⟨L,N⟩:=NX9 ((grO gs).length)
  rw[Vx,N]at hi;rw[N]at Wu;have hk6:Bk W' s1 35 #[.int .i64 d.sz,.slice s.a1 n s.c1,.slice s.a2 0 s.c2,.int .i64 d.lf,.slice none 0 0,.slice none 0 0,.slice none 0 0]:=(hi.low s1 (by omega) (by omega) (by omega)).trans V.o;have HD0:Hid (W'.heap[D]? =some (.deferred (some []))):=hK;have UG:=hi.oO;have UH:=hi.oU;rw[hS]at UG UH;have HI:=ai hi;have Wv:=ai hk6;have hDl:D<W'.heap.size:=(Array.getElem?_eq_some_iff.1 hK).1;have cO:=hi.kO.cell 0;have cU:=hi.kU.cell 0;simp at cO cU;have Wx:Hid (grU gs=lg):=Aq.o.symm;have Vy:Hid (Bk W' (w.heap.size+1) 35 rzC):=(hi.low _ (by omega) (by omega) (by omega)).trans (HR1.o.below (HB1.o.trans (M.o.mono (by omega))) (by omega));have Vz:Hid (Bk W' (w.heap.size+1+1) 36 #[.int .i64 0]):=(hi.low _ (by omega) (by omega) (by omega)).trans (HR2.o.below (HB1.o.trans (M.o.mono (by omega))) (by omega));have Wy:Hid (DkM W' s1 d s):=by
   have:=(HM.o.below (HB1.o.trans (M.o.mono (by omega))) (by omega)).more (show B<=w.heap.size by omega);have key:∀k,k<w.heap.size->W'.heap[k]? =w7.heap[k]? :=fun k hk=>hi.low k (by omega) (by omega) (by omega);exact⟨(this.ss.low key).more (by omega),(this.pn.low key).more (by omega)⟩
  have VA:=ai (MC p (grO gs) Ao L co W'.heap.size W' (Sl.of_own UG) aj (by omega) H.o.pl (fun b hb=>(H.o.ob b).1 hb) (fun i hi=>(H.o.ob _).2 ⟨i,hi,rfl⟩));have WM:=hi.z;have VB:U6 w W':=hi.b;have WA:Hid (Sl W' W'.heap.size 5 q lg.length (flat upC lg)):=by have:=Sl.of_own UH;rw[Wx.o]at this;exact this
  clear hi hk6 hK hS UG UH Vx N HI0 V AP BB HY M X KF HI
  gi_wp2_with fail
  refine⟨trivial,(callsIn_wide.2 VA.o).mono ?_⟩;rintro e w8 ⟨pA,pc,rfl,hsp,hpc,hpm,hb8⟩;have z8:=hb8.size;have VC:=ai hsp;have J:=ai (Wv.o.below hb8 (by omega));have wz:=ai (Vy.o.below hb8 (by omega));have xe:=ai (Vz.o.below hb8 (by omega));have VD:=ai (Wy.o.below hb8 (by omega));have VE:=ai (WA.o.below hb8 aj);have VF:Hid (w8.heap[D]? =some (.deferred (some []))):=(hb8.block D (by omega)).trans HD0.o;have VG:U6 w w8:=VB.o.trans (hb8.mono VB.o.size);have WB:=(hb8.cell (p:=⟨s1+1+1,0,none⟩) (by show s1+1+1<_;omega)).trans cU;clear hsp hb8 VA cO cU;obtain⟨⟨t0,t1,t2,t3⟩,t4,t5,t6⟩:=J.o.seven;have f4:=J.o.free 4;have xA:Hid (RpM w8 w8.heap.size ⟨d,p,[],lg⟩ ⟨s,pA,pc,none,0,q,G⟩):=⟨VD.o.more (by omega),VC.o,Sl.nil _ _ _ _,VE.o.more z8,hpc,hpm⟩
  have hne1:s1+1+1≠s1:=by omega
  gi_wp2_with fail
  obtain⟨w9,U⟩:=NX9 (w8.setCell ⟨s1,4,none⟩ (.slice pA p.length pc))
  have bz:Hid (∀k,k≠s1->w9.heap[k]? =w8.heap[k]?):=fun k hk=>by rw[<-U];exact Z8 _ _ _ k hk
  have z9:w9.heap.size=w8.heap.size:=by rw[<-U];simp
  have zk:Hid (Bk w9 s1 35 #[.int .i64 d.sz,.slice s.a1 n s.c1,.slice s.a2 0 s.c2,.int .i64 d.lf,.slice pA p.length pc,.slice none 0 0,.slice none 0 0]):=by rw[<-U];show Bk _ _ _ _;have:=J.o.set 4 (.slice pA p.length pc);simpa using this
  have Q:Hid (RpM w9 w9.heap.size ⟨d,p,[],lg⟩ ⟨s,pA,pc,none,0,q,G⟩):=by have:=xA.o.box J.o (by simp[bxV]) bz.o;exact this.more (by omega)
  have UI:U6 w w9:=by rw[<-U];exact VG.o.setCell (p:=⟨s1,4,none⟩) (by show w.heap.size<=s1;omega) _
  have zo:Hid (Bk w9 (w.heap.size+1) 35 rzC):=(bz.o _ (by omega)).trans wz.o;have zt:Hid (Bk w9 (w.heap.size+1+1) 36 #[.int .i64 0]):=(bz.o _ (by omega)).trans xe.o;have VH:Hid (w9.heap[D]? =some (.deferred (some []))):=(bz.o D (by omega)).trans VF.o;rw[U];clear U t0 t1 t2 t3 t4 t5 t6 f4 WB J wz xe VD VE VF VG xA VC bz;have nz:=ai (Bo none none q 0 0 0 0 lg.length G w9.heap.size [] [] lg w9 (Sl.nil _ _ _ _) (Sl.nil _ _ _ _) Q.o.l aj (by unfold maxLen;omega) (by unfold maxLen;omega) (by omega) (fun u hu=>by have:=(VU.o u hu).1;unfold maxLen;omega) (fun u hu=>by cases hu));unfold nM at nz;rw[VV.o]at nz;refine⟨trivial,(callsIn_wide.2 nz.o).mono ?_⟩;rintro e wa ⟨rA,rn,rc,lA,ln,lc,rfl,UJ,hrc,_,hsl,_,_,hba⟩;have hrn:rs.length=rn:=UJ.len jm (by omega);have hln:lg.length=ln:=hsl.len gy (by omega);subst hrn hln;have za:=hba.size;have j:=ai (zk.o.below hba (by omega));have zx:=ai (zo.o.below hba (by omega));have zT:=ai (zt.o.below hba (by omega));have VI:Hid (wa.heap[D]? =some (.deferred (some []))):=(hba.block D (by omega)).trans VH.o;have VJ:U6 w wa:=UI.o.trans (hba.mono UI.o.size);have zX:Hid (RpM wa wa.heap.size ⟨d,p,rs,lg⟩ ⟨s,pA,pc,rA,rc,lA,lc⟩):=⟨(Q.o.d.below hba aj).more hba.size,(Q.o.p.below hba aj).more hba.size,UJ,hsl,hpc,hpm⟩
  clear UJ hsl hba nz Q zk zo zt VH UI;obtain⟨⟨t0,t1,t2,t3⟩,t4,t5,t6⟩:=j.o.seven;have f5:=j.o.free 5;have f6:=j.o.free 6
  gi_wp2_with fail
  obtain⟨wb,hwb⟩:=NX9 ((wa.setCell ⟨s1,5,none⟩ (.slice rA rs.length rc)).setCell ⟨s1,6,none⟩ (.slice lA lg.length lc))
  have dn:Hid (∀k,k≠s1->wb.heap[k]? =wa.heap[k]?):=fun k hk=>by rw[<-hwb];exact(Z8 _ _ _ k hk).trans (Z8 _ _ _ k hk)
  have zb:wb.heap.size=wa.heap.size:=by rw[<-hwb];simp
  have VK:Hid (Bk wb s1 35 #[.int .i64 d.sz,.slice s.a1 n s.c1,.slice s.a2 0 s.c2,.int .i64 d.lf,.slice pA p.length pc,.slice rA rs.length rc,.slice lA lg.length lc]):=by rw[<-hwb];show Bk _ _ _ _;have:=(j.o.set 5 (.slice rA rs.length rc)).set 6 (.slice lA lg.length lc);simpa using this
  have R:Hid (RpM wb wb.heap.size ⟨d,p,rs,lg⟩ ⟨s,pA,pc,rA,rc,lA,lc⟩):=by have:=zX.o.box j.o (by simp[bxV]) dn.o;exact this.more (by omega)
  have VL:U6 w wb:=by rw[<-hwb];exact(VJ.o.setCell (p:=⟨s1,5,none⟩) (by show w.heap.size<=s1;omega) _).setCell (p:=⟨s1,6,none⟩) (by show w.heap.size<=s1;omega) _
  have Aj:Hid (Bk wb (w.heap.size+1) 35 rzC):=(dn.o _ (by omega)).trans zx.o;have Ak:Hid (Bk wb (w.heap.size+1+1) 36 #[.int .i64 0]):=(dn.o _ (by omega)).trans zT.o;have VM:Hid (wb.heap[D]? =some (.deferred (some []))):=(dn.o D (by omega)).trans VI.o;have VN:Hid (∀x∈rs,WfD x.2):=fun x hx=>by
   have h0:=compl_zero.1 (H.o.co x hx);obtain⟨⟨o,ho,_⟩,_⟩:=h0;rw[nD H.o.pl ho];exact fJ _
  rw[hwb];clear hwb t0 t1 t2 t3 t4 t5 t6 f5 f6 j zx zT VI VJ zX dn
  gi_loopw [63] (fun i wr=>∃k:Nat,k<=rs.length/\i= .int .i64 k/\U6 wb wr) (fun i _=>rs.length - (intOf i).toNat)
  case atStart=>exact⟨0,ZX _,rfl,ah _ _⟩
  case round =>
   obtain⟨k,hk,rfl,hBr⟩:=hrel;have E:=ai hBr.o;have zr:=E.o.size;clear hBr;by_cases hlt:k<rs.length
   . obtain⟨bb,off,x,hA,hbb,hx,hc⟩:=(R.o.rf.below E.o aj).at_ jm (by omega) hlt
     have x0:=hc 0 _ rfl;have x1:=hc 1 _ rfl;have x2:=hc 2 _ rfl;simp only at hA;subst hA;have hlz: (k:Int)< (rs.length:Int):=by omega
     have hxm:=Z7 hx;have VO:Hid (dL p x.2=0):=H.o.co x hxm;have VP:Hid (WfD x.2):=VN.o x hxm;obtain⟨xn,x3,x4⟩:=x;simp only[Nat.add_zero]at x0 x1 x2 VO VP;obtain⟨W3,hW3⟩:=NX9 (wr.alloc (.cells #[.string xn,.int .u64 x3,.int .u64 x4] 52))
     have hb3:U0 wr W3:=by rw[<-hW3];exact(ah _ wr).alloc aj _
     have HB3:U6 wb W3:=E.o.trans (hb3.mono zr);have HCM:=ai (AL p pA p.length pc wb.heap.size (x3,x4) W3 (R.o.p.below HB3.o aj) HB3.o.size (by omega) H.o.pl VP.o);rw[VO.o]at HCM;simp only[aA]at HCM;have hk3:Bk W3 wr.heap.size 52 #[.string xn,.int .u64 x3,.int .u64 x4]:=by rw[<-hW3];exact Bk.new wr _ _
     obtain⟨y0,y1,y2⟩:=hk3.three;clear hc hx hxm hb3 hk3
     gi_wp2_with fail
     refine⟨trivial,(callsIn_wide.2 HCM.o).mono ?_⟩;rintro e w4 ⟨rfl,hb4⟩;have HB4:U6 wb w4:=HB3.o.trans (hb4.mono HB3.o.size);clear hb4 HCM x0 x1 x2 hW3 y0 y1 y2
     gi_wp2
     go_roundw
     case rel=>exact⟨k+1,hlt,by go_num,HB4.o⟩
     case measure=>simp[intOf];omega
   . have hlz:¬(k:Int)< (rs.length:Int):=by omega
     have WC:=ai (VK.o.below E.o (by omega));have S:=ai (Aj.o.below E.o (by omega));have dN:=ai (Ak.o.below E.o (by omega));have WE:Hid (wr.heap[D]? =some (.deferred (some []))):=(E.o.block D (by omega)).trans VM.o;have WG:U6 w wr:=VL.o.trans (E.o.mono (by omega));have VQ:Hid (RpM wr wr.heap.size ⟨d,p,rs,lg⟩ ⟨s,pA,pc,rA,rc,lA,lc⟩):=(R.o.below E.o aj).more zr;obtain⟨⟨t0,t1,t2,t3⟩,t4,t5,t6⟩:=WC.o.seven;obtain⟨⟨q0,q1,q2,q3⟩,q4,q5,q6⟩:=S.o.seven;obtain⟨⟨f0,f1,f2,f3⟩,f4,f5,f6⟩:=S.o.free7;have e0:=dN.o.cell 0;have e1:=dN.o.free 0;simp at e0;have Vl:w.heap.size+1≠w.heap.size+1+1:=by omega
     clear VK Aj Ak VM VL R
     gi_wp2
     obtain⟨V7,ed⟩:=NX9 (((((((wr.setCell ⟨w.heap.size+1,0,none⟩ (.int .i64 d.sz)).setCell ⟨w.heap.size+1,1,none⟩ (.slice s.a1 n s.c1)).setCell ⟨w.heap.size+1,2,none⟩ (.slice s.a2 0 s.c2)).setCell ⟨w.heap.size+1,3,none⟩ (.int .i64 d.lf)).setCell ⟨w.heap.size+1,4,none⟩ (.slice pA p.length pc)).setCell ⟨w.heap.size+1,5,none⟩ (.slice rA rs.length rc)).setCell ⟨w.heap.size+1,6,none⟩ (.slice lA lg.length lc))
     obtain⟨Vf,fA⟩:=NX9 (V7.setCell ⟨w.heap.size+1+1,0,none⟩ (.int .i64 0))
     have UK:∀k,k≠w.heap.size+1->V7.heap[k]? =wr.heap[k]? :=fun k hk=>by rw[<-ed];exact iJ _ _ _ _ _ _ _ _ _ k hk
     have hof:∀k,k≠w.heap.size+1+1->Vf.heap[k]? =V7.heap[k]? :=fun k hk=>by rw[<-fA];exact Z8 _ _ _ k hk
     have WH:Bk V7 (w.heap.size+1) 35 #[.int .i64 d.sz,.slice s.a1 n s.c1,.slice s.a2 0 s.c2,.int .i64 d.lf,.slice pA p.length pc,.slice rA rs.length rc,.slice lA lg.length lc]:=by rw[<-ed];exact S.o.set7 _ _ _ _ _ _ _
     have VR:Bk V7 (w.heap.size+1+1) 36 #[.int .i64 0]:=(UK _ (by omega)).trans dN.o;have k1:Bk Vf (w.heap.size+1) 35 #[.int .i64 d.sz,.slice s.a1 n s.c1,.slice s.a2 0 s.c2,.int .i64 d.lf,.slice pA p.length pc,.slice rA rs.length rc,.slice lA lg.length lc]:=(hof _ (by omega)).trans WH;have k2:Bk Vf (w.heap.size+1+1) 36 #[.int .i64 0]:=by rw[<-fA];have:=VR.set 0 (.int .i64 0);simpa using this
     have hbf:U0 w Vf:=by rw[<-fA,<-ed];exact(dM WG.o (by omega) _ _ _ _ _ _ _).setCell (p:=⟨w.heap.size+1+1,0,none⟩) (by show w.heap.size<=w.heap.size+1+1;omega) _
     have zf:Vf.heap.size=wr.heap.size:=by rw[<-fA,<-ed];simp
     have hrm:RpM Vf wr.heap.size ⟨d,p,rs,lg⟩ ⟨s,pA,pc,rA,rc,lA,lc⟩:=(VQ.o.box S.o (by simp[bxV]) UK).box VR (by simp[bxV]) hof;have VS:Vf.heap[D]? =some (.deferred (some [])):=(hof D (by omega)).trans ((UK D (by omega)).trans WE.o);have hnc:∀o,Vf.cell? ⟨D,o,none⟩=none:=fun o=>by simp[World.cell?,VS]
     rw[ed,fA];refine⟨by simp,.inl ⟨_,_,rfl,run_takeDeferred VS,?_⟩⟩;refine⟨_,SV rfl rfl rfl ((World.putObj_heap_other (by omega)).trans k1) ((World.putObj_heap_other (by omega)).trans k2),⟨s,pA,pc,rA,rc,lA,lc⟩,?_,?_,?_⟩
     . simp only[rpV,rpC,HN.o,VW.o]
     . have:=(hrm.noCell (w':=Vf.putObj D (.deferred none)) hnc (fun k hk=>World.putObj_heap_other hk)).more (show wr.heap.size<= (Vf.putObj D (.deferred none)).heap.size by simp;omega)
       exact this
     . exact hbf.grown (grownBy_putObj' _ _ _) (by have:=hbf.size;simpa using this) (fun k e=>by cases e;omega)
end
@[go_sem high] theorem UL (a b c d : Int) (w : UW) : (Op.equalIn 9999 50 (.agg #[.int .u64 a, .int .u64 b]) (.agg #[.int .u64 c, .int .u64 d])).run Tryz.prog w = .ok (a == c && b == d) w := yY 9997 a b c d w
theorem Rl(A0 A1:OA)(n c0 c1 B:Nat)(l:List Itm)(w:UW)(h0:Sl w B 3 A0 n (flat itC l))(h1:Sl w B 3 A1 n (flat itC l))(m0:n<=1000000000) :
  Calls Tryz.prog 61 #[.slice A0 n c0,.slice A1 n c1] w fun e w'=>e= .returned (.bool true)/\∃k,w'=w.drewN k:=by
 have H0:=ai h0;have H1:=ai h1;clear h0 h1
 go_enter Tryz.func61,Tryz.ntmps61
 go_wp2
 go_loopw[13] (fun i wr=>∃k nq:Nat,k<=n/\i= .int .i64 k/\wr=w.drewN nq) (fun i _=>n - (intOf i).toNat)
 case atStart=>exact⟨0,0,ZX _,rfl,rfl⟩
 case round =>
  obtain⟨k,nq,hk,rfl,rfl⟩:=hrel;by_cases hlt:k<n
  . obtain⟨b0,o0,r,rfl,_,hr,hc0⟩:=H0.o.at_ di (by omega) hlt
    obtain⟨b1,o1,q,rfl,_,hq,hc1⟩:=H1.o.at_ di (by omega) hlt;rw[hr]at hq;cases hq;have x0:=hc0 0 _ rfl;have y0:=hc1 0 _ rfl;have x1:=hc0 1 _ rfl;have y1:=hc1 1 _ rfl;have x2:=hc0 2 _ rfl;have y2:=hc1 2 _ rfl;simp only[Nat.add_zero]at x0 y0 x1 y1 x2 y2;clear hc0 hc1 hr;have hlz: (k:Int)< (n:Int):=by omega
    go_wp2
    go_region
    go_wp2
    go_roundw
    case rel=>exact⟨k+1,nq+1,by omega,by go_num,World.drewN_drewN _ _ 1⟩
    case measure=>simp[intOf];omega
  . have hlz:¬(k:Int)< (n:Int):=by omega
    go_wp2
    go_ret
    exact⟨rfl,_,rfl⟩
theorem QO(A0 A1:OA)(n c0 c1 B:Nat)(l:List Rf)(w:UW)(h0:Sl w B 3 A0 n (flat rfC l))(h1:Sl w B 3 A1 n (flat rfC l))(m0:n<=1000000000) :
  Calls Tryz.prog 62 #[.slice A0 n c0,.slice A1 n c1] w fun e w'=>e= .returned (.bool true)/\∃k,w'=w.drewN k:=by
 have H0:=ai h0;have H1:=ai h1;clear h0 h1
 go_enter Tryz.func62,Tryz.ntmps62
 go_wp2
 go_loopw[13] (fun i wr=>∃k nq:Nat,k<=n/\i= .int .i64 k/\wr=w.drewN nq) (fun i _=>n - (intOf i).toNat)
 case atStart=>exact⟨0,0,ZX _,rfl,rfl⟩
 case round =>
  obtain⟨k,nq,hk,rfl,rfl⟩:=hrel;by_cases hlt:k<n
  . obtain⟨b0,o0,r,rfl,_,hr,hc0⟩:=H0.o.at_ jm (by omega) hlt
    obtain⟨b1,o1,q,rfl,_,hq,hc1⟩:=H1.o.at_ jm (by omega) hlt;rw[hr]at hq;cases hq;have x0:=hc0 0 _ rfl;have y0:=hc1 0 _ rfl;have x1:=hc0 1 _ rfl;have y1:=hc1 1 _ rfl;have x2:=hc0 2 _ rfl;have y2:=hc1 2 _ rfl;simp only[Nat.add_zero]at x0 y0 x1 y1 x2 y2;clear hc0 hc1 hr;have hlz: (k:Int)< (n:Int):=by omega
    go_wp2
    go_region
    go_wp2
    go_roundw
    case rel=>exact⟨k+1,nq+1,by omega,by go_num,World.drewN_drewN _ _ 1⟩
    case measure=>simp[intOf];omega
  . have hlz:¬(k:Int)< (n:Int):=by omega
    go_wp2
    go_ret
    exact⟨rfl,_,rfl⟩
theorem Ri(A0 A1:OA)(n c0 c1 B:Nat)(l:List Upd)(w:UW)(h0:Sl w B 5 A0 n (flat upC l))(h1:Sl w B 5 A1 n (flat upC l))(m0:n<=1000000000) :
  Calls Tryz.prog 63 #[.slice A0 n c0,.slice A1 n c1] w fun e w'=>e= .returned (.bool true)/\∃k,w'=w.drewN k:=by
 have H0:=ai h0;have H1:=ai h1;clear h0 h1
 go_enter Tryz.func63,Tryz.ntmps63
 go_wp2
 go_loopw[13] (fun i wr=>∃k nq:Nat,k<=n/\i= .int .i64 k/\wr=w.drewN nq) (fun i _=>n - (intOf i).toNat)
 case atStart=>exact⟨0,0,ZX _,rfl,rfl⟩
 case round =>
  obtain⟨k,nq,hk,rfl,rfl⟩:=hrel;by_cases hlt:k<n
  . obtain⟨b0,o0,r,rfl,_,hr,hc0⟩:=H0.o.at_ gy (by omega) hlt
    obtain⟨b1,o1,q,rfl,_,hq,hc1⟩:=H1.o.at_ gy (by omega) hlt;rw[hr]at hq;cases hq;have x0:=hc0 0 _ rfl;have y0:=hc1 0 _ rfl;have x1:=hc0 1 _ rfl;have y1:=hc1 1 _ rfl;have x2:=hc0 2 _ rfl;have y2:=hc1 2 _ rfl;have x3:=hc0 3 _ rfl;have y3:=hc1 3 _ rfl;have x4:=hc0 4 _ rfl;have y4:=hc1 4 _ rfl;simp only[Nat.add_zero]at x0 y0 x1 y1 x2 y2 x3 y3 x4 y4;clear hc0 hc1 hr;have hlz: (k:Int)< (n:Int):=by omega
    go_wp2
    go_region
    go_wp2
    go_roundw
    case rel=>exact⟨k+1,nq+1,by omega,by go_num,World.drewN_drewN _ _ 1⟩
    case measure=>simp[intOf];omega
  . have hlz:¬(k:Int)< (n:Int):=by omega
    go_wp2
    go_ret
    exact⟨rfl,_,rfl⟩
section
attribute [local go_sem] Oper.semAt_some
def IW(p:List Itm)(d:Dig)(w:UW)(e:Ending)(w':UW):Prop:=e= .returned (.tuple #[.string (jh p d).1,.int .i64 (jh p d).2])/\U0 w w'
theorem Na(A:OA)(n c B:Nat)(p:List Itm)(d:Dig)(w:UW)(h0:Sl w B 3 A n (flat itC p))(hB:B<=w.heap.size)(hn:n<=1000000)(hp:PlOk p) :
  Calls Tryz.prog 268 #[.slice A n c,aA d] w (IW p d w):=by
 obtain⟨d1,d2⟩:=d;obtain⟨W,hW⟩:=NX9 (w.alloc (.cells #[.int .u64 d1,.int .u64 d2] 50))
 have HB0:U6 w W:=by rw[<-hW];exact(ah _ w).alloc aj _
 have HC:=ai (mG A n c B p (d1,d2) W (h0.below HB0.o hB) (ZY hB HB0.o.size) hn hp);have HW:=ai hW;clear hW hp h0;unfold GeE at HC;simp only[aA]at HC ⊢
 go_enter Tryz.func268,Tryz.ntmps268
 go_wp2_with fail;rw[HW.o];refine HC.o.mono ?_;rintro e w2 ⟨hq,hb⟩;have HB2:U6 w w2:=HB0.o.trans (hb.mono HB0.o.size);clear hb HC;rcases hq with ⟨o,s,hg,_,rfl,_,_⟩ | ⟨hg,rfl⟩
 . by_cases hk:o.kind=1
   . have HD:=ai (DR hg hk)
     have t1: (o.kind != 1)=false:=by rw[hk];rfl
     simp only[obV,obC];clear hg hk;go_wp2_with fail;go_ret2
     exact⟨by rw[HD.o];rfl,HB2.o.alloc HB2.o.size _⟩
   . have HD:=ai (vX hg hk)
     have t1: (o.kind != 1)=true:=by rw[bne_iff_ne];exact hk
     simp only[obV,obC];clear hg hk;go_wp2_with fail;go_ret2
     exact⟨by rw[HD.o];rfl,HB2.o.alloc HB2.o.size _⟩
 . have HD:=ai (wE hg)
   simp only[obV,obC,zOb,zOs];clear hg;go_wp2_with fail;go_ret2
   exact⟨by rw[HD.o];rfl,HB2.o.alloc HB2.o.size _⟩
/-! ### what is yielded -/
abbrev Vd:=Fl×Int
def zF:Fl:=(⟨#[]⟩,⟨#[]⟩)
def vdA(x:Vd):Array UY:=#[.agg #[.string x.1.1,.string x.1.2,.int .i64 x.2]]
def vok(f:Fl):Vd:=(f,0)
def vsT(z:Int):List Vd:=if z=0 then [] else [(zF,z)]
def vsL(r:List Fl×Int):List Vd:=r.1.map vok++vsT r.2
theorem Tn(s:List Fl):vsL (s,0)=s.map vok:=by simp[vsL,vsT]
theorem jc(s:List Fl){z:Int}(h:z≠0):vsL (s,z)=s.map vok++ [(zF,z)]:=by simp[vsL,vsT,h]
structure KpV(B0 hz:Nat)(A B:UW):Prop where
 size:A.heap.size<=B.heap.size
 block:∀k,k<A.heap.size-> (k<B0∨ (hz<=k/\¬isRow 82 A.heap[k]?))->B.heap[k]? =A.heap[k]?
section
variable {B0 hz : Nat} {A B C : UW}
theorem KpV.of_below(h:U0 A B):KpV B0 hz A B:=⟨h.size,fun k hk _=>h.block k hk⟩
theorem KpV.trans(h:KpV B0 hz A B)(g:KpV B0 hz B C):KpV B0 hz A C :=
 ⟨ZY h.size g.size,fun k hk hc=>by
   have h1:=h.block k hk hc;rw[<-h1]at hc ⊢;exact g.block k (Nat.lt_of_lt_of_le hk h.size) hc⟩
theorem KpV.refl(B0 hz:Nat)(A:UW):KpV B0 hz A A:=⟨Nat.le_refl _,fun _ _ _=>rfl⟩
theorem KpV.bk(h:KpV B0 hz A B){b:Nat}{t:TypeId}{cs:Array UY}(hb:hz<=b)(ht:t≠82)(hk:Bk A b t cs):Bk B b t cs:=by
 refine(h.block b hk.lt (.inr ⟨hb,?_⟩)).trans hk;have h1:A.heap[b]? =some (.cells cs t (0,0)):=hk;rw[h1];exact ht
theorem KpV.sl(h:KpV B0 hz A B){B' size n:Nat}{a:OA}{xs:List UY}(hs:Sl A B' size a n xs)(h1:B'<=B0)(h2:B0<=A.heap.size):Sl B B' size a n xs :=
 hs.keep fun p hp=>World.cell?_of_block (h.block p.block (by omega) (.inl (by omega)))
theorem KpV.ents(h:KpV B0 hz A B){s:Osl}{es:List Ent}(hn:NewO A hz s)(hs:Sl A A.heap.size 4 s.eA s.en (flat enC es)):Sl B B.heap.size 4 s.eA s.en (flat enC es)/\NewO B hz s:=by
 refine⟨⟨hs.1,fun h0=>?_⟩,fun a h0 ha=>?_⟩
 . obtain⟨b,off,e1,hb,hc⟩:=hs.2 h0
   obtain⟨h3,cur,h4⟩:=hn _ h0 e1;have hbl:B.heap[b]? =A.heap[b]? :=h.block b hb (.inr ⟨h3,by
    have h4':A.heap[b]? =some (.cells cur 185 (0,0)):=h4;rw[h4'];show ¬(185=82);decide⟩)
   exact⟨b,off,e1,Nat.lt_of_lt_of_le hb h.size,fun j u hu=>(World.cell?_of_block hbl).trans (hc j u hu)⟩
 . obtain⟨b,off,e1,hb,_⟩:=hs.2 h0
   obtain⟨h3,cur,h4⟩:=hn a h0 ha;refine⟨h3,cur,(h.block a.block (Array.getElem?_eq_some_iff.1 h4).1 (.inr ⟨h3,?_⟩)).trans h4⟩;rw[h4];show ¬(185=82);decide
end
theorem RoundIn.wide{n m:Nat}{P:Program}{l f:Nat}{tmps:Array UY}{assign body:Code}{w:UW}{R:Ending->UW->Prop}(h:RoundIn Fence.wide n P l f tmps assign body w R):RoundIn Fence.wide m P l f tmps assign body w R :=
 ⟨h.1,fun c cs _=>h.2 c cs (room_wide _)⟩
def IE(m l B0 hz:Nat)(ALL:List Vd)(J Jx:List Vd->UW->Prop):Prop :=
 ∀(pre:List Vd)(x:Vd)(W1:UW),(∃t,pre++ [x]++t=ALL)->J pre W1->YieldAt Fence.wide m Tryz.prog l (vdA x) W1 fun e W' =>
  (e= .returned (.bool true)/\J (pre++ [x]) W'/\KpV B0 hz W1 W')∨ (e= .returned (.bool false)/\Jx (pre++ [x]) W')
def Ul(r:List Fl×Int)(pr0 ALL:List Vd)(B0 hz:Nat)(J Jx:List Vd->UW->Prop)(W:UW)(e:Ending)(W':UW):Prop :=
 (e= .returned (.bool true)/\r.2=0/\J (pr0++r.1.map vok) W'/\KpV B0 hz W W')∨ (e= .returned (.bool false)/\ ((∃q t,q++t=ALL/\Jx q W')∨ (r.2≠0/\J (pr0++vsL r) W')))
def zJ(n:Nat):Prop:=∀(p:List Itm)(d:Dig)(pr:UX)(A:OA)(np cp B B0 hz l m:Nat)(ALL pr0:List Vd)(J Jx:List Vd->UW->Prop)(W:UW),
  PlOk p->Sl W B 3 A np (flat itC p)->B<=B0->B0<=hz->hz<=W.heap.size->np<=1000000->pr.size<=101->102<=n+pr.size-> (∃t,pr0++vsL (vis p n d pr)++t=ALL) ->
  (∀pre A B,J pre A->U0 A B->J pre B)->IE m l B0 hz ALL J Jx->J pr0 W ->
  Calls Tryz.prog 213 #[.slice A np cp,aA d,.string pr,.func (.yield l) #[] #[]] W (Ul (vis p n d pr) pr0 ALL B0 hz J Jx W)
def Uy(pr0 ALL:List Vd)(z:Int)(J Jx:List Vd->UW->Prop)(e:Ending)(W':UW):Prop:=e= .returned (.bool false)/\ ((∃q t,q++t=ALL/\Jx q W')∨J (pr0++ [(zF,z)]) W')
theorem oP(m l B0 hz bx:Nat)(ALL pr0:List Vd)(z:Int)(J Jx:List Vd->UW->Prop)(W:UW)(hk:Bk W bx 289 #[.func (.yield l) #[] #[]])(hY:IE m l B0 hz ALL J Jx)(hj:J pr0 W)(ht:∃t,pr0++ [(zF,z)]++t=ALL) :
  Calls Tryz.prog 267 #[.int .i64 z,.pointer (some ⟨bx,0,none⟩)] W (Uy pr0 ALL z J Jx):=by
 refine(callsIn_wide (n:=6)).1 ?_;obtain⟨fn,tmps,assign,body,hy,hR⟩:=hY pr0 (zF,z) W ht hj;have HR:=ai (RoundIn.wide (m:=5) hR);have c0:=hk.cell 0;simp at c0;have HT:=ai ht;simp only[vdA,zF]at hy;clear hk hY hj hR ht;refine callsIn_of_wp Tryz.func267 rfl trivial ?_ rfl;simp only[Tryz.ntmps267,List.size_toArray,Z4,List.length_nil,Nat.reduceAdd,Nat.reduceSub,Array.replicate_succ,Array.replicate_zero,List.push_toArray,List.append_toArray,List.nil_append,List.cons_append]
 gi_wp2
 refine HR.o.mono ?_;rintro e W3 (⟨rfl,hJ3,_⟩ | ⟨rfl,hJ3⟩)
 . have a:=ai hJ3
   clear hJ3 HR hy c0
   gi_wp2
   go_ret
   exact⟨rfl,.inr a.o⟩
 . have a:=ai hJ3
   clear hJ3 HR hy c0
   gi_wp2
   go_ret
   obtain⟨t,ht⟩:=HT.o;exact⟨rfl,.inl ⟨_,t,ht,a.o⟩⟩
end
