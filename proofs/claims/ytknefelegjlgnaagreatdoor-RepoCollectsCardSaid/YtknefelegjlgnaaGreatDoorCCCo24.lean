/-
  Lemmas of the card.
-/
import Derived.Test.YtknefelegjlgnaaGreatDoorCCCo23
set_option maxRecDepth 100000
set_option maxHeartbeats 16000000
namespace Go.Proofs.YtknefelegjlgnaaGreatDoor
open Go.RowKit
section
variable {F : Fence} {n : Nat} {P : Program}
theorem IC{α:Type}{g:Operand}{ps:Array Tmp}{assign body:Code}{Q:Exit->Act->SX->Prop}{a:Act}{w:SX}
  (hro:F.round=none) (h1:1<=n) {gf:Nat} {lb:Array Tc} (hg:a.eval g= .func (.func gf) #[] lb) (hFg:F.fn gf) (eg:∀args w,(callFunc gf args).run P w= .ok (.enter gf args) w)
  {encs:α->Array Tc} {Kp St:SX->SX->Prop} {Pf:SX->List α->Prop} {S Sp:List α->Prop} {w0:SX} (hseq:uJ F (n - 1) P gf lb encs Kp St Pf S Sp (w.heap.size+2) w0)
  (hKt:∀{A B C:SX},Kp A B->Kp B C->Kp A C) (hKb:∀(W:SX)(l:Nat)(r:Loop)(o':Obj),w.heap.size+1=l->W.heap[l]? =some (.loop r)->Kp W (W.putObj l o')) (hSo:∀A B,St A B->w.heap.size+2<=A.heap.size->jZ w.heap.size A B) (hb0:Tf w0 w) (hps:∀x,(encs x).size=ps.size)
  (I:List α->SX->Prop) (Ix:Code->List α->SX->Prop) (hI:OwnFrom w.heap.size I) (hIx:∀c,OwnFrom w.heap.size (Ix c)) (hIS:∀pre A B,I pre A->St A B->I pre B) (h0:I [] w) (As:List α->Nat->SX->Prop) (hAp:∀x b W l (r:Loop) (o:Obj),W.heap[l]? =some (.loop r)->As x b W->As x b (W.putObj l o)) (a₁:α->Nat->Act)
  (hassign:∀(l:Nat)(pre:List α)(x:α)(W:SX)(K:Act->SX->Prop),Pf W (pre++ [x])->w.heap.size+2<=W.heap.size->I pre W-> (∀b W',jZ w.heap.size W W'->Kp W W'->I pre W'->As (pre++ [x]) b W'->K (a₁ x b) W') ->
    assign.wpIn (F.inRound l) (n - 1 - 1) P (Exit.then K (fun _ _ _=>False)) {tmps:=(ps.zip (encs x)).foldl (fun t (p,v)=>t.setIfInBounds p v) a.tmps,defers:= []} W)
  (hbody:∀(l:Nat)(pre:List α)(x:α)(b:Nat)(W:SX),w.heap.size+2<=W.heap.size->I pre W->As (pre++ [x]) b W->body.wpIn (F.inRound l) (n - 1 - 1) P (EF w.heap.size Kp I Ix (pre++ [x]) W) (a₁ x b) W)
  (hdone:∀(D:Nat)(xs:List α)(W:SX),w.heap.size<=D->S xs->I xs W->W.heap[D]? =some (.deferred (some []))->Q .normal {a with defers:={target:= .collected D,args:=#[]}::a.defers} W)
  (hstop:∀(D:Nat)(c:Code)(pre:List α)(W:SX),w.heap.size<=D->Sp pre->Ix c pre W->W.heap[D]? =some (.deferred (some []))->c.wpIn F n P Q {a with defers:={target:= .collected D,args:=#[]}::a.defers} W) :
  (Code.rangeFunc g ps assign body).wpIn F n P Q a w:=by
 refine wpIn_rangeFunc ?_;intro fn hfn;rw[hro]
 -- the loop's record in block L,the block of its deferred calls in block D
 obtain⟨D,hD⟩:=NX9 w.heap.size
 obtain⟨rec,hrec⟩:∃rec:LoopState->Option Code->Loop,rec=fun st pe=>{state:=st,pending:=pe,fn,tmps:=a.tmps,params:=ps,assign,body,defers:=D}:=⟨_,rfl⟩
 obtain⟨W1,hW1⟩:=NX9 ((w.alloc (.deferred (some []))).alloc (.loop (rec .ready none)))
 have hL1:W1.heap[D+1]? =some (.loop (rec .ready none)):=by
  rw[<-hW1,<-hD];have:=World.alloc_heap_new (w.alloc (.deferred (some []))) (.loop (rec .ready none));rwa[Z9]at this
 have hK1:W1.heap[D]? =some (.deferred (some [])):=by
  rw[<-hW1,<-hD];exact(Below.heap_alloc _ _ _ (by simp)).trans (World.alloc_heap_new w _)
 have hI1:I [] W1:=by rw[<-hW1];exact hI.alloc _ (hI.alloc _ h0)
 have hb1:Tf w0 W1:=by
  rw[<-hW1];exact hb0.trans ((((ah _ w).alloc aj _).alloc (by simp) _).mono hb0.size)
 refine⟨D+1,[{target:= .collected D,args:=#[]}],W1,{target:= .fn (.func gf) lb,args:=#[.func (.yield (D+1)) #[] #[]]},W1,gf,
  #[.func (.yield (D+1)) #[] #[]]++lb,W1,?_,?_,?_,?_,fun _=>h1,?_⟩
 . rw[<-hW1,hrec,<-hD];exact run_enterLoop_outer _ _ _ _ _
 . simp only[resolve,hg]
   simp[go_sem]
 . intro f' hf';simp[Target.leads]at hf';subst hf';exact hFg
 . simp[invoke,go_sem,eg]
 . refine(hseq (D+1)
     (fun pre W=>I pre W/\W.heap[D+1]? =some (.loop (rec .ready none))/\W.heap[D]? =some (.deferred (some [])))
     (fun pre W=>∃c,Ix c pre W/\W.heap[D+1]? =some (.loop (rec .done (some c)))/\W.heap[D]? =some (.deferred (some [])))
     W1 hb1 (by rw[<-hW1];simp)
     (fun pre A B hs hst=>by
       have hz2:=(Array.getElem?_eq_some_iff.1 hs.2.1).1;have hr:=hSo A B hst (by omega);rw[hD]at hr;exact⟨hIS pre A B hs.1 hst,hr.2.trans hs.2.1,hr.1.trans hs.2.2⟩)
     ?_ ⟨hI1,hL1,hK1⟩).mono ?_
   . rintro pre x W d ⟨hi,hl,hk⟩
     have hlt:D+1<W.heap.size:=(Array.getElem?_eq_some_iff.1 hl).1;have hy:=run_yield (P:=P) (args:=encs x) hl (by rw[hrec];exact hps x);rw[hrec]at hy;refine⟨fn,_,assign,body,hy,roundIn_of_wpIn hfn (hassign _ pre x W _ d (by omega) hi fun b V hrv hkv hiv hav=>?_)⟩;rw[hD]at hrv;have hlv:V.heap[D+1]? =some (.loop (rec .ready none)):=hrv.2.trans hl;have hkd:V.heap[D]? =some (.deferred (some [])):=hrv.1.trans hk;have hltv:D+1<V.heap.size:=(Array.getElem?_eq_some_iff.1 hlv).1;refine⟨_,run_beginRound hlv (by rw[hrec]),?_⟩;obtain⟨W2,hW2⟩:∃W2,V.putObj (D+1) (.loop {rec .ready none with state:= .busy})=W2:=⟨_,rfl⟩
     have hl2:W2.heap[D+1]? =some (.loop {rec .ready none with state:= .busy}):=by rw[<-hW2];exact World.putObj_heap_same hltv
     have hk2:W2.heap[D]? =some (.deferred (some [])):=by rw[<-hW2];exact(World.putObj_heap_other (by omega)).trans hkd
     have hw2:Kp W W2:=by rw[<-hW2];exact hKt hkv (hKb _ _ _ _ (by omega) hlv)
     have hi2:I pre W2:=by rw[<-hW2];exact hI.putObj _ hiv (by omega) hlv rfl
     have ha2:As (pre++ [x]) b W2:=by rw[<-hW2];exact hAp _ _ _ _ _ _ hlv hav
     rw[hW2];refine wpIn_mono (hbody _ pre x b _ (by have:=(Array.getElem?_eq_some_iff.1 hl2).1;omega) hi2 ha2) ?_;have fin:∀(jump:Option Code)(W3:SX),jZ w.heap.size W2 W3 ->
       (Instr.endRound (D+1) jump).run P W3= .ok (.bool jump.isNone) (W3.putObj (D+1) (.loop (rec (if jump.isNone then .ready else .done) jump))) ∧
       W3.heap[D+1]? =some (.loop {rec .ready none with state:= .busy}) ∧
       (W3.putObj (D+1) (.loop (rec (if jump.isNone then .ready else .done) jump))).heap[D+1]? =some (.loop (rec (if jump.isNone then .ready else .done) jump)) ∧
       (W3.putObj (D+1) (.loop (rec (if jump.isNone then .ready else .done) jump))).heap[D]? =some (.deferred (some [])):=fun jump W3 hk3=>by
      rw[hD]at hk3;have hl3:=hk3.2.trans hl2;have:=run_endRound (P:=P) jump hl3;rw[hrec]at this ⊢;exact⟨this,by rw[hrec]at hl3;exact hl3,World.putObj_heap_same (Array.getElem?_eq_some_iff.1 hl3).1,(World.putObj_heap_other (by omega)).trans (hk3.1.trans hk2)⟩
     rintro e a3 W3 hp;cases e with
     | normal =>
       obtain⟨hk3,hkp3,hi3⟩:=hp;obtain⟨hr,hl3,hl4,hk4⟩:=fin none W3 hk3;exact⟨_,_,hr,.inl ⟨rfl,⟨hI.putObj _ hi3 (by omega) hl3 rfl,hl4,hk4⟩,hKt (hKt hw2 hkp3) (hKb _ _ _ _ (by omega) hl3)⟩⟩
     | ret =>
       obtain⟨hk3,hi3⟩:=hp;obtain⟨hr,hl3,hl4,hk4⟩:=fin (some .ret) W3 hk3;exact⟨_,_,hr,.inr ⟨rfl,.ret,(hIx _).putObj _ hi3 (by omega) hl3 rfl,hl4,hk4⟩⟩
     | exit id =>
       obtain⟨hk3,hi3⟩:=hp;obtain⟨hr,hl3,hl4,hk4⟩:=fin (some (.exit id)) W3 hk3;exact⟨_,_,hr,.inr ⟨rfl,.exit id,(hIx _).putObj _ hi3 (by omega) hl3 rfl,hl4,hk4⟩⟩
     | goto t =>
       obtain⟨hk3,hi3⟩:=hp;obtain⟨hr,hl3,hl4,hk4⟩:=fin (some (.goto t)) W3 hk3;exact⟨_,_,hr,.inr ⟨rfl,.goto t,(hIx _).putObj _ hi3 (by omega) hl3 rfl,hl4,hk4⟩⟩
     | panic ch=>exact hp.elim
     | outgrown=>exact hp.elim
   . rintro e W2 ⟨⟨v,rfl⟩,(⟨xs,hS,hi,hl,hk⟩ | ⟨pre,hSp,c,hi,hl,hk⟩)⟩
     . exact⟨none,_,by have:=run_endLoop (P:=P) hl (by rw[hrec];simp);rw[hrec]at this;exact this,hdone _ xs _ (by omega) hS (hI.putObj _ hi (by omega) hl rfl) ((World.putObj_heap_other (by omega)).trans hk)⟩
     . exact⟨some c,_,by have:=run_endLoop (P:=P) hl (by rw[hrec];simp);rw[hrec]at this;exact this,hstop _ c pre _ (by omega) hSp ((hIx c).putObj _ hi (by omega) hl rfl) ((World.putObj_heap_other (by omega)).trans hk)⟩
end
section
attribute [local go_sem] Oper.semAt_some
theorem FK{sz:Nat}(hz:0<sz):∀(n:Nat)(b:Td)(rs:List Td)(u:Nat),b.length<=n->frs sz b=some (rs,u)-> (∀t∈rs,t.length<=65536)/\rs.length<=1000*u
 | n,b,rs,u,hn,h=>by
   by_cases h0:zer b
   . rw[kJ h0]at h
     simp only[Option.some.injEq,Prod.mk.injEq]at h;obtain⟨rfl,rfl⟩:=h;simp
   . cases hdec:dV b with
     | none=>rw[qg h0 hdec]at h;cases h
     | some q =>
       obtain⟨l,c⟩:=q;rw[kY hz h0 hdec]at h;obtain⟨hf,rfl,r,rfl⟩:=mg hdec;have h2:=mG l;have hk:=mO hz (c:=(aC l).length) (by omega);have hks:=Nat.mul_pos hk hz;split at h
       . cases h
       . rename_i r' u' hr
         simp only[Option.some.injEq,Prod.mk.injEq]at h;obtain⟨rfl,rfl⟩:=h;cases n with
         | zero=>rw[af]at hn;omega
         | succ n =>
           obtain⟨i1,i2⟩:=FK hz n _ _ _ (by rw[List.length_drop];omega) hr;refine⟨fun t ht=>?_,by rw[af];have:=hf.1;omega⟩;rcases List.mem_append.1 ht with ht | ht
           . exact hf.2 t ht
           . exact i1 t ht
theorem Jn.fit{sz a u:Nat}{ss rs:List Td}(h:Jn sz ss a rs u)(hn:ss.length<=100): (∀t∈rs,t.length<=65536)/\rs.length<=49000:=by
 obtain⟨h1,h2⟩:=FK h.sz0 _ _ _ _ aj h.recs;have:=h.u_le;unfold hf at this;exact⟨h1,by omega⟩
theorem QL{p:List Itm}(hp:PlOk p){L:List Td}(h:∀i∈p,toL i.2∈L):p.length<=L.length:=by
 have hn: (p.map fun i=>toL i.2).Nodup:=by
  rw[List.Nodup,List.pairwise_map];refine hp.asc.imp_of_mem ?_;intro a b ha hb hl e;have:a.1=b.1:=by rw[hp.dg a ha,hp.dg b hb,e]
  rw[this]at hl;exact iI _ hl
 have:=mi hn (m:=L) (fun x hx=>by obtain⟨i,hi,rfl⟩:=List.mem_map.1 hx;exact h i hi)
 rwa[List.length_map]at this
theorem ui:∀gs:List Gru,(grO gs).length<= (recs gs).length
 | []=>by simp[grO,recs]
 | g::gs=>by
   have:=ui gs;simp only[grO,recs,aQ,List.flatMap_cons,af,Z4]at this ⊢;omega
theorem Mt.few{gs:List Gru}{p:List Itm}{rs:List Rf}{lg:List Upd}(h:Mt gs p rs lg){sz a u:Nat}{ss:List Td}(hj:Jn sz ss a (recs gs) u)(hn:ss.length<=100):p.length<=49000/\lg.length<=1000/\ (∀u∈lg,u.1.size<=65536/\WfU u):=by
 have h1:=(hj.fit hn).2;have h2:=ui gs;refine⟨ZY (QL h.pl fun i hi=>(h.ob _).2 ⟨i,hi,rfl⟩) (by omega),ja h.rf,fun u hu=>?_⟩;rw[h.lo]at hu;obtain⟨g,hg,hu⟩:=List.mem_flatMap.1 hu;exact(h.ok g hg).us u hu
theorem PE(l:List Upd):∀u∈flat upC l,u.oneCell'=true:=fun u hu=>by
 unfold flat at hu;obtain⟨i,_,h⟩:=List.mem_flatMap.1 hu;simp[upC]at h;rcases h with rfl | rfl | rfl | rfl | rfl <;> rfl
theorem wS(gs:List Gru)(g:Gru):grO (gs++ [g])=grO gs++g.2:=by simp[grO]
theorem xh(gs:List Gru)(g:Gru):grU (gs++ [g])=grU gs++g.1:=by simp[grU]
theorem Sl.putLp{w:SX}{B size n l:Nat}{A:OA}{xs:List Tc}(h:Sl w B size A n xs)(h0:0<size){r:Loop}{o':Obj}(hl:w.heap[l]? =some (.loop r)):Sl (w.putObj l o') B size A n xs :=
 h.avoid fun b off e hn hc=>World.putObj_heap_other (fun e=>by
  subst e;have hll:0<xs.length:=by rw[h.1];exact Nat.mul_pos hn h0
  have:=hc 0 _ (Z5 hll);simp[World.cell?,hl]at this)
theorem Sl.noCell{w w':SX}{B size n b:Nat}{A:OA}{xs:List Tc}(h:Sl w B size A n xs)(h0:0<size)(hb:∀o,w.cell? ⟨b,o,none⟩=none)(hw:∀k,k≠b->w'.heap[k]? =w.heap[k]?):Sl w' B size A n xs :=
 h.avoid fun g off e hn hc=>hw g (fun e=>by
  subst e;have hll:0<xs.length:=by rw[h.1];exact Nat.mul_pos hn h0
  have:=hc 0 _ (Z5 hll);rw[hb]at this;cases this)
theorem RpM.noCell{w w':SX}{B b:Nat}{r:Rp}{s:Rsl}(h:RpM w B r s)(hb:∀o,w.cell? ⟨b,o,none⟩=none)(hw:∀k,k≠b->w'.heap[k]? =w.heap[k]?):RpM w' B r s :=
 ⟨⟨h.d.ss.noCell (by omega) hb hw,h.d.pn.noCell (by omega) hb hw⟩,h.p.noCell (by omega) hb hw,h.rf.noCell (by omega) hb hw,h.l.noCell (by omega) hb hw,h.pc,h.pm⟩
theorem QV{fn:Func}{c1 c2:Tmp}(h:fn.results= #[.cell c1 35,.cell c2 36]){w:SX}{a:Array Tc}{b1 b2:Nat}{x0 x1 x2 x3 x4 x5 x6 e:Tc}(h1:a[c1]?.getD undef= .pointer (some ⟨b1,0,none⟩))(h2:a[c2]?.getD undef= .pointer (some ⟨b2,0,none⟩))(k1:Bk w b1 35 #[x0,x1,x2,x3,x4,x5,x6])(k2:Bk w b2 36 #[e]) :
  (results fn a).run Tryz.prog w= .ok (.tuple #[.agg #[x0,x1,x2,x3,x4,x5,x6],e]) w:=by
 obtain⟨⟨p0,p1,p2,p3⟩,p4,p5,p6⟩:=k1.seven;have c2':=k2.cell 0;simp at c2';simp[results,h,h1,h2,go_sem,p0,p1,p2,p3,p4,p5,p6,c2']
structure OpI(w V:SX)(s:Nat)(pre:List Gx)(no nu:Nat)(Ao:OA)(co:Nat)(Au:OA)(cu:Nat)(W:SX):Prop where
 low:∀k,k<s+4->k≠s+1->k≠s+2->W.heap[k]? =V.heap[k]?
 kO:Bk W (s+1) 22 #[.slice Ao no co]
 kU:Bk W (s+1+1) 31 #[.slice Au nu cu]
 oO:W.ownsRow (s+6) 9 1 (.slice Ao no co) no (flat aF (grO (gxG pre)))
 oU:W.ownsRow (s+6) 85 5 (.slice Au nu cu) nu (flat upC (grU (gxG pre)))
 b:Tf w W
 z:s+4<=W.heap.size
 co:no<=co/\co<=maxLen
 cu:nu<=cu/\cu<=maxLen
section
variable {w V W W' : SX} {s no nu co cu : Nat} {pre : List Gx} {Ao Au : OA}
theorem OpI.keep(h:OpI w V s pre no nu Ao co Au cu W)(hb:Below w.heap.size W W')(hk:∀k,k<s+4->W'.heap[k]? =W.heap[k]?)(hr:∀k e cur,s+6<=k->W.heap[k]? =some (.cells cur e (0,0))->W'.heap[k]? =W.heap[k]?):OpI w V s pre no nu Ao co Au cu W' :=
 ⟨fun k h1 h2 h3=>(hk k h1).trans (h.low k h1 h2 h3),(hk _ (by omega)).trans h.kO,(hk _ (by omega)).trans h.kU,jf h.oO fun k e=>by obtain⟨h1,cur,h2⟩:=bZ h.oO e;exact hr k _ cur h1 h2,jf h.oU fun k e=>by obtain⟨h1,cur,h2⟩:=bZ h.oU e;exact hr k _ cur h1 h2,h.b.trans hb,ZY h.z hb.size,h.co,h.cu⟩
end
end
def PlP(r:Rp)(a u:Nat)(pl:gV)(r':Rp)(y:Int):Prop:=match pl with
 | .no=>r'=r/\y≠0/\y≠20
 | .keep=>r'=r/\y=0
 | .app g p rs lg=>r'= (lQ r (dG r.d a u (aQ g)) p rs lg).1/\y= (dG r.d a u (aQ g)).2
 | .rew g p rs lg=>r'= (lQ r (dQ r.d a (aQ g)) p rs lg).1/\y= (dQ r.d a (aQ g)).2
theorem after_done{r:Rp}{Y:Dk×Int}{p:List Itm}{rs:List Rf}{lg:List Upd}: (after r Y p rs lg).2=Y.2/\ (if(after r Y p rs lg).2=0∨ (after r Y p rs lg).2=20 then(after r Y p rs lg).1 else r)= (lQ r Y p rs lg).1:=by
 unfold after lQ;by_cases h1:Y.2=0
 . rw[if_pos h1,if_pos h1];exact⟨h1.symm,if_pos (.inl rfl)⟩
 . rw[if_neg h1,if_neg h1]
   by_cases h2:Y.2=20
   . rw[if_pos h2,if_pos h2];exact⟨h2.symm,if_pos (.inr rfl)⟩
   . rw[if_neg h2,if_neg h2];exact⟨rfl,if_neg (fun h=>h.elim h1 h2)⟩
theorem PlP.of{r r':Rp}{Y:Dk×Int}{p:List Itm}{rs:List Rf}{lg:List Upd}{y:Int}(h1:r'= (after r Y p rs lg).1)(h2:y= (after r Y p rs lg).2): (if y=0∨y=20 then r' else r)= (lQ r Y p rs lg).1/\y=Y.2:=by
 subst h1;subst h2;exact⟨after_done.2,after_done.1⟩
theorem ExE.o{r:Rp}{a u:Nat}{pl:gV}{w w':SX}{e:Ending}(h:ExE r a u pl w e w'):∃r' y,fH r' y w e w'/\PlP r a u pl (if y=0∨y=20 then r' else r) y:=by
 cases pl with
 | no =>
   obtain⟨x,h1,h2,h3⟩:=h;exact⟨_,_,h3,if_neg (fun h=>h.elim h1 h2),h1,h2⟩
 | keep=>exact⟨_,_,h,if_pos (.inl rfl),rfl⟩
 | app g p rs lg=>exact⟨_,_,h,PlP.of rfl rfl⟩
 | rew g p rs lg=>exact⟨_,_,h,PlP.of rfl rfl⟩
theorem CmtE.o{r:Rp}{a u:Nat}{t:gV×Dig}{w w':SX}{e:Ending}(h:CmtE r a u t w e w'):∃r' d y,jY r' d y w e w'/\PlP r a u t.1 (if y=0∨y=20 then r' else r) y:=by
 obtain⟨pl,d⟩:=t;cases pl with
 | no =>
   obtain⟨x,h1,h2,h3⟩:=h;exact⟨_,_,_,h3,if_neg (fun h=>h.elim h1 h2),h1,h2⟩
 | keep=>exact⟨_,_,_,h,if_pos (.inl rfl),rfl⟩
 | app g p rs lg=>exact⟨_,_,_,h,PlP.of rfl rfl⟩
 | rew g p rs lg=>exact h.elim
theorem JK(p:List Itm)(rs:List Rf)(lg:List Upd):dW p rs lg= .keep∨∃g p' rs' lg',dW p rs lg= .rew g p' rs' lg':=by
 unfold dW;split
 . exact .inl rfl
 . exact .inr ⟨_,_,_,_,rfl⟩
theorem CoE.o{r:Rp}{a u:Nat}{w w':SX}{e:Ending}(h:CoE r a (dW r.p r.rs r.lg) w e w'):∃r' n y,kR r' n y w e w'/\PlP r a u (dW r.p r.rs r.lg) (if y=0∨y=20 then r' else r) y:=by
 rcases JK r.p r.rs r.lg with h1 | ⟨g,p',rs',lg',h1⟩ <;> rw[h1]at h ⊢
 . exact⟨_,_,_,h,if_pos (.inl rfl),rfl⟩
 . exact⟨_,_,_,h,PlP.of rfl rfl⟩
def DoP(r:Rp)(a u:Nat)(x:Ac)(r':Rp)(y:Int):Prop :=
 ((0<=x.kind/\x.kind<=2)/\r.d.lf=0/\r'=r/\y=20)∨ ((0<=x.kind/\x.kind<=2)/\r.d.lf≠0/\PlP r a u (jF x r.p r.rs r.lg) r' y)∨ (¬(0<=x.kind/\x.kind<=2)/\RI r')
structure Lvs(r:Rp)(gs:List Gru)(a u:Nat):Prop where
 d:Dur r.d (recs gs)
 j:Jn r.d.sz r.d.ss a (recs gs) u
 m:Mt gs r.p r.rs r.lg
 n:r.p.length<=49000
theorem RI.lv{r:Rp}(h:RI r)(hl:r.d.lf≠0):∃gs a u,Lvs r gs a u:=by
 obtain⟨gs,a,u,h1,h2,h3⟩:=h.live hl;exact⟨gs,a,u,h1,h2,h3,(h3.few h2 h.n).1⟩
theorem OW{gs:List Gru}{x:Ac}{p:List Itm}{rs:List Rf}{lg:List Upd}(h:Mt gs p rs lg)(hp:p.length<=49000)(hx:AcF x):kQ gs (jF x p rs lg):=by
 unfold jF;split
 . exact xM h (by have:=hx.nm;omega)
 . split
   . exact wY h (fun u hu=>⟨by have:=hx.us u hu;omega,hx.uw u hu⟩)
   . exact OC h hp
theorem PlP.ri{r r':Rp}{gs:List Gru}{a u:Nat}{pl:gV}{y:Int}(hr:RI r)(h:Lvs r gs a u)(hp:kQ gs pl)(hd:PlP r a u pl r' y):RI r':=by
 cases pl with
 | no=>rw[hd.1];exact hr
 | keep=>rw[hd.1];exact hr
 | app g p rs lg =>
   rw[hd.1];have ho:=Qh h.d h.j (l:=aQ g);rw[<-Dp]at ho;exact DD hr h.m ho hp
 | rew g p rs lg =>
   rw[hd.1];have ho:=Fj h.d h.j (l:=aQ g);refine DD (gs':= [g]) (l:=aQ g) hr h.m ?_ (fun _=>hp);rw[xH];exact ho
theorem DoP.ri{r r':Rp}{gs:List Gru}{a u:Nat}{x:Ac}{y:Int}(hr:RI r)(h:r.d.lf≠0->Lvs r gs a u)(hx:AcF x)(hd:DoP r a u x r' y):RI r':=by
 rcases hd with ⟨_,_,h1,_⟩ | ⟨_,h1,h2⟩ | ⟨_,h1⟩
 . rw[h1];exact hr
 . exact h2.ri hr (h h1) (OW (h h1).m (h h1).n hx)
 . exact h1
section
attribute [local go_sem] Oper.semAt_some
theorem NT(r:Rp)(gs:List Gru)(a u:Nat)(s:Dsl)(B:Nat)(w:SX)(hd:r.d.Ok)(hpn:r.d.pn= [])(hj:Jn r.d.sz r.d.ss a (recs gs) u)(hM:Mt gs r.p r.rs r.lg)(hm:DkM w B r.d s)(hB:B<=w.heap.size)(hn:r.d.ss.length<=100) :
  Calls Tryz.prog 11 #[dkV r.d s] w (fH r 0 w):=by
 refine(callsIn_wide (n:=6)).1 ?_;obtain⟨d,p,rs,lg⟩:=r;simp only at hd hpn hj hM hm hn ⊢;obtain⟨hrs,hrn⟩:=hj.fit hn;obtain⟨UL,hlf,SH⟩:=hM.few hj hn;have hrf:=qh hM.rf;obtain⟨W,hW⟩:=NX9 (((w.alloc (.cells (dkC d s) 25)).alloc (.cells rzC 35)).alloc (.cells #[.int .i64 0] 36))
 have zW:W.heap.size=w.heap.size+3:=by rw[<-hW];simp
 have HB0:Ti w W:=by rw[<-hW];exact(((ah _ w).alloc aj _).alloc (by simp) _).alloc (by simp;omega) _
 have HK:Hid (Bk W w.heap.size 25 (dkC d s)):=by rw[<-hW];exact((Bk.new w _ _).alloc _).alloc _
 have HR1:Hid (Bk W (w.heap.size+1) 35 rzC):=by rw[<-hW];exact((Bk.new _ _ _).at_ (by simp)).alloc _
 have HR2:Hid (Bk W (w.heap.size+1+1) 36 #[.int .i64 0]):=by rw[<-hW];exact(Bk.new _ _ _).at_ (by simp)
 have HM:Hid (DkM W B d s):=hm.below HB0.o hB;have ku:=ai (Ju d s B a u (recs gs) W hd hpn hj HM.o (by omega));unfold GM at ku;have HW:=ai hW;have H:=ai hM;have Ui:=ai hrs;have Uj:=ai SH;have Uk:=ai (Dh hM.rf);have Ak:=ai hM.lo;clear hW hm hd hj hM hrs SH;have hp0:d.pn.length=0:=by rw[hpn];rfl
 obtain⟨n,hnn⟩:=NX9 d.ss.length
 have HN:=ai hnn;have Ul:=ai hp0;obtain⟨m,hmm⟩:=NX9 ((recs gs).length)
 have SI:=ai hmm;simp only[dkV,dkC,hnn,hp0,hmm]at ku HK HW hn hrn ⊢;clear hnn hp0 hpn hmm;refine callsIn_of_wp_marks Tryz.func11 rfl trivial ?_ rfl;simp only[Tryz.ntmps11,List.size_toArray,Z4,List.length_nil,Nat.reduceAdd,Nat.reduceSub,Array.replicate_succ,Array.replicate_zero,List.push_toArray,List.append_toArray,List.nil_append,List.cons_append];obtain⟨k0,k1,k2,k3⟩:=HK.o.dk4
 gi_wp2_with fail
 rw[HW.o];refine⟨trivial,(callsIn_wide.2 ku.o).mono ?_⟩;rintro e w1 ⟨A,c,rfl,hs1,hmc,hcm,hb1⟩;obtain⟨k0,k1,k2,k3⟩:=(HK.o.below hb1 (by omega)).dk4;have Um:=ai hs1;have HB1:=ai hb1;have z1:=hb1.size;clear hb1 hs1 ku;obtain⟨s1,hs1⟩:=NX9 w1.heap.size
 obtain⟨w6,hw6⟩:=NX9 ((((w1.alloc (.cells #[.int .i64 d.sz,.slice s.a1 n s.c1,.slice s.a2 0 s.c2,.int .i64 d.lf,.slice none 0 0,.slice none 0 0,.slice none 0 0] 35)).alloc (.cells #[.slice none 0 0] 22)).alloc (.cells #[.slice none 0 0] 31)))
 gi_wp2_with fail
 refine⟨trivial,(callsIn_wide.2 (Kw A m c w6)).mono ?_⟩;rintro e w7 ⟨rfl,hw7⟩;have z6:w6.heap.size=s1+3:=by rw[<-hw6,<-hs1];simp
 have z7:w7.heap.size=s1+4:=by rw[hw7];simp;omega
 have hb6:Below s1 w1 w6:=by rw[<-hw6,<-hs1];exact(((ah _ w1).alloc aj _).alloc (by simp) _).alloc (by simp;omega) _
 have I:Below (s1+3) w6 w7:=by rw[hw7,<-z6];exact(ah _ w6).alloc aj _
 have V:Hid (Bk w7 s1 35 #[.int .i64 d.sz,.slice s.a1 n s.c1,.slice s.a2 0 s.c2,.int .i64 d.lf,.slice none 0 0,.slice none 0 0,.slice none 0 0]):=by
  have:Bk w6 s1 35 #[.int .i64 d.sz,.slice s.a1 n s.c1,.slice s.a2 0 s.c2,.int .i64 d.lf,.slice none 0 0,.slice none 0 0,.slice none 0 0]:=by rw[<-hw6,<-hs1];exact((Bk.new w1 _ _).alloc _).alloc _
  exact this.below I (by omega)
 have Aq:Hid (Bk w7 (s1+1) 22 #[.slice none 0 0]):=by
  have:Bk w6 (s1+1) 22 #[.slice none 0 0]:=by rw[<-hw6,<-hs1];exact((Bk.new _ _ _).at_ (by simp)).alloc _
  exact this.below I (by omega)
 have AP:Hid (Bk w7 (s1+1+1) 31 #[.slice none 0 0]):=by
  have:Bk w6 (s1+1+1) 31 #[.slice none 0 0]:=by rw[<-hw6,<-hs1];exact(Bk.new _ _ _).at_ (by simp)
  exact this.below I (by omega)
 have BB:Hid (Bk w7 (s1+3) 22 #[.slice A m c]):=by rw[hw7];exact(Bk.new _ _ _).at_ z6
 have M:Hid (Below s1 w1 w7):=hb6.trans (I.mono (by omega));have X:Ti w w7:=HB0.o.trans ((HB1.o.trans (M.o.mono (by omega))).mono (by omega));have HY:Hid (Sl w7 s1 1 A m (flat aF (recs gs))):=by have:=Um.o.below M.o (by omega);rw[hs1]at this;exact this
 have HI0:Hid (OpI w w7 s1 [] 0 0 none 0 none 0 w7):=⟨fun _ _ _ _=>rfl,Aq.o,AP.o,World.ownsRow_nil _ _ _ _,World.ownsRow_nil _ _ _ _,X.o,by omega,⟨Nat.le_refl _,ZX _⟩,⟨Nat.le_refl _,ZX _⟩⟩
 have hws:w.heap.size+3<=s1:=by omega
 have SK:Hid (∀g∈gs,GOk g):=H.o.ok;obtain⟨iS,SL,hS0,hS1,hS2⟩:=info_parts jQ;obtain⟨iU,SN,SQ,SS,SV⟩:=info_parts uk;have Un:=ai SL;have Uo:=ai hS0;have Tj:=ai hS1;have HS2:=ai hS2;have Ur:=ai SN;have Us:=ai SQ;have Ut:=ai SS;have Uu:=ai SV;clear hw7 hw6 hb6 I k0 k1 k2 k3 hs1 SL hS0 hS1 hS2 SN SQ SS SV
 gi_wp2
 refine IC (α:=Gx) (F:=Fence.wide) (n:=6) rfl (by omega) (gf:=79) (lb:=#[.pointer (some ⟨s1+3,0,none⟩)]) rfl trivial (enters_of Tryz.func79 (by kernel_rfl) rfl)
  (Kv 5 (s1+3) s1 (w7.heap.size+2) (by omega) A m c gs w7 BB.o HY.o (by omega) hmc (by omega) SK.o Ui.o) KeepG.trans (fun W l r o' hl hlr=>⟨fun k hk=>World.putObj_heap_other (by omega),World.putObj_heap_other (by omega)⟩) (fun A C h hA=>⟨h.block _ (by omega),h.block _ (by omega)⟩) (ah _ _) (fun _=>rfl)
  (fun pre W=>∃Ao co q G,OpI w w7 s1 pre (grO (gxG pre)).length (grU (gxG pre)).length Ao co q G W) (fun _ _ _=>False)
  ?hI ?hIx ?hIS ⟨none,0,none,0,HI0.o⟩
  (fun xs b W=>s1+6<=b/\∀pre x,xs=pre++ [x]->Bk W b 92 #[.slice x.1.1 x.1.2.1 x.1.2.2,.slice x.2.1.1 x.2.1.2.1 x.2.1.2.2,.bool false]/\GxM W x/\∃rest,gxG xs++rest=gs)
  ?hAp ?a1 ?assign ?body ?done ?stop
 case hI =>
  rintro pre A1 C row ⟨Ao,co,q,G,h⟩ hg hr;refine⟨Ao,co,q,G,h.keep ((ah _ A1).grown hg h.b.size (fun k e=>by have:=(hr _ e).1;omega)) (fun k hk=>hg.block k (by have:=h.z;omega) (fun e=>by have:=(hr _ e.symm).1;omega)) (fun k e cur hk hc=>hg.block k (Array.getElem?_eq_some_iff.1 hc).1 (fun e2=>?_))⟩;obtain⟨_,o,ho,hcc⟩:=hr _ e2.symm;rw[hc]at ho;cases ho;cases hcc
 case hIx=>rintro c pre A1 C row hf _ _;exact hf
 case hIS =>
  rintro pre A1 C ⟨Ao,co,q,G,h⟩ hs;exact⟨Ao,co,q,G,h.keep (hs.mono h.b.size) (fun k hk=>hs.block k (by have:=h.z;omega)) (fun k e cur hk hc=>hs.block k (Array.getElem?_eq_some_iff.1 hc).1)⟩
 case hAp =>
  rintro xs b W l r o hl ⟨hb,hx⟩;refine⟨hb,fun pre x e=>?_⟩;obtain⟨h1,h2,h3⟩:=hx pre x e;refine⟨(World.putObj_heap_other (fun e=>?_)).trans h1,⟨h2.u.keepB (fun k cur _ hc=>World.putObj_heap_other (fun e=>by subst e;rw[hl]at hc;cases hc)),by have:=h2.o.putLp (by omega) hl (o':=o);simpa using this,h2.ul,h2.ol⟩,h3⟩;subst e;have:W.heap[b]? =_:=h1;rw[hl]at this;cases this
 case assign =>
  rintro l pre x W' K hP Tm ⟨Ao,co,q,G,h⟩ hK;have HKK:=ai hK;have HI:=ai h;have HP:=ai (hP pre x rfl);clear hK h hP;simp only[gxV]
  gi_wp2
  have hb:Below W'.heap.size W' (W'.alloc (.cells #[.slice x.1.1 x.1.2.1 x.1.2.2,.slice x.2.1.1 x.2.1.2.1 x.2.1.2.2,.bool false] 92)):=(ah _ W').alloc aj _;have hkn:=Bk.new W' 92 #[.slice x.1.1 x.1.2.1 x.1.2.2,.slice x.2.1.1 x.2.1.2.1 x.2.1.2.2,.bool false];have hbz:=HI.o.z;obtain⟨bx,hbx⟩:=NX9 W'.heap.size
  rw[hbx]at hb hkn Tm hbz ⊢;refine HKK.o bx _ ⟨hb.block _ (by omega),hb.block _ (by omega)⟩ ⟨fun k hk=>hb.block _ (by omega),hb.block _ (by omega)⟩ ⟨Ao,co,q,G,HI.o.keep (hb.mono (by have:=HI.o.b.size;omega)) (fun k hk=>hb.block k (by omega)) (fun k e cur hk hc=>hb.block k (by have:=(Array.getElem?_eq_some_iff.1 hc).1;omega))⟩ ⟨by omega,fun pre' y he=>?_⟩;have e:=congrArg List.getLast? he;simp at e;subst e;exact⟨hkn,⟨HP.o.2.u.keepB (fun k cur _ hc=>hb.block k (by have:=(Array.getElem?_eq_some_iff.1 hc).1;omega)),(HP.o.2.o.below hb (by omega)).more (by simp),HP.o.2.ul,HP.o.2.ol⟩,HP.o.1⟩
 case body =>
  rintro l pre x bx W' Tm ⟨Ao,co,q,G,h⟩ ⟨hbx,hx⟩;obtain⟨hk,hgm,hrest⟩:=hx pre x rfl;have HI:=ai h;have KF:=ai hk;have Y:=ai hgm;have Z:Hid (gxG (pre++ [x])=gxG pre++ [x.2.2]):=mf _ _;have hbl:=hk.lt;have hlenO: (grO (gxG pre)).length+x.2.1.2.1<=49000:=by
   obtain⟨rest,hr⟩:=hrest;rw[hgm.ol,<-af,<-wS,<-mf];have h1:=ui gs;have h2:=SI.o;rw[<-hr]at h1 h2;have h3: (grO (gxG (pre++ [x]))).length<= (grO (gxG (pre++ [x])++rest)).length:=by simp[grO]
   omega
  have ag: (grU (gxG pre)).length+x.1.2.1<=1000:=by
   obtain⟨rest,hr⟩:=hrest;rw[hgm.ul,<-af,<-xh,<-mf];have h1:=Ak.o;rw[<-hr]at h1;have h3: (grU (gxG (pre++ [x]))).length<= (grU (gxG (pre++ [x])++rest)).length:=by simp[grU]
   rw[<-h1]at h3;omega
  obtain⟨L,N⟩:=NX9 ((grO (gxG pre)).length)
  obtain⟨O,KR⟩:=NX9 ((grU (gxG pre)).length)
  rw[N]at hlenO HI;rw[KR]at ag HI;have Uw:=ai N;have Ux:=ai KR;have cO:=HI.o.kO.cell 0;have fO:=HI.o.kO.free 0;have cU:=HI.o.kU.cell 0;have fU:=HI.o.kU.free 0;obtain⟨g0,g1,g2⟩:=hk.three;simp at cO cU;obtain⟨⟨uA,un,uc⟩,⟨oA,on,oc⟩,gu,go⟩:=x;simp only at Y KF hlenO ag g0 g1 g2 Z;have HZ:=HI.o.z;clear h hk hgm hx hrest N KR HI0 V Aq AP BB M X HY
  gi_wp2_with (gi_at_builtin;refine aP ?_)
  refine aI ?_;refine qQ (base:=s1+6) (size:=1) rfl (.tmp 31) (.tmp 33) 22 rfl 9 iS _ 16 Tryz.underlying22 Un.o Uo.o Tj.o HS2.o rfl (by decide) (.slice Ao L co) L _ rfl HI.o.oO W'.heap.size oA on oc (flat aF go) rfl Y.o.o (fun v hv=>by unfold flat aF at hv;simp at hv;obtain⟨_,_,rfl⟩:=hv;rfl) (by unfold maxLen;omega) (by omega) (by omega) ?_;intro A4 c4 w4 Nc hg4 qc qx;rw[<-bD]at Nc;have UM:=hg4.size;have PR:Hid (∀k,k<s1+6->w4.heap[k]? =W'.heap[k]?):=fun k hk=>hg4.block k (by omega) (fun e=>by have:=(bZ HI.o.oO e.symm).1;omega);have HT4:Hid (∀(k:Nat)(e:TypeId)(cur:Array Tc),e≠9->W'.heap[k]? =some (.cells cur e (0,0))->w4.heap[k]? =W'.heap[k]?):=fun k e cur he hc=>hg4.block k (Array.getElem?_eq_some_iff.1 hc).1 (fun e2=>by
   obtain⟨_,cur',h2⟩:=bZ HI.o.oO e2.symm;rw[hc]at h2;cases h2;exact he rfl)
  have HB4:Ti w w4:=HI.o.b.grown hg4 HI.o.b.size (fun k e=>by have:=(bZ HI.o.oO e).1;omega);have Tn:Hid (Bk w4 bx 92 #[.slice uA un uc,.slice oA on oc,.bool false]):=(HT4.o bx _ _ (by decide) KF.o).trans KF.o;have P:Hid (Bk w4 (s1+1) 22 #[.slice Ao L co]):=(PR.o _ (by omega)).trans HI.o.kO;have au:Hid (Bk w4 (s1+1+1) 31 #[.slice q O G]):=(PR.o _ (by omega)).trans HI.o.kU;have Tq:Hid (w4.ownsRow (s1+6) 85 5 (.slice q O G) O (flat upC (grU (gxG pre)))):=jf HI.o.oU fun k e=>by obtain⟨_,cur,h2⟩:=bZ HI.o.oU e;exact HT4.o k _ cur (by decide) h2
  have Uy:Hid (Apd w4 0 85 5 uA un uc (flat upC gu)):=Y.o.u.keepB fun k cur _ hc=>HT4.o k _ cur (by decide) hc;have Tt:=ai Nc;have Tu:=ai qc;have Tv:=ai qx;clear Nc hg4 qc qx cO fO cU fU g0 g1 g2;have cO:=P.o.cell 0;have fO:=P.o.free 0;have cU:=au.o.cell 0;have fU:=au.o.free 0;obtain⟨g0,g1,g2⟩:=Tn.o.three;simp at cO cU;have hne1:s1+1+1≠s1+1:=by omega
  have hne2:bx≠s1+1:=by omega
  have Tz:bx≠s1+1+1:=by omega
  gi_wp2_with (gi_at_builtin;refine aP ?_)
  obtain⟨W5,T⟩:=NX9 (w4.setCell ⟨s1+1,0,none⟩ (.slice A4 (L+on) c4))
  have bf:Hid (∀k,k≠s1+1->W5.heap[k]? =w4.heap[k]?):=fun k hk=>by rw[<-T];exact Z8 _ _ _ k hk
  have TA:Hid (Bk W5 (s1+1) 22 #[.slice A4 (L+on) c4]):=by rw[<-T];show Bk _ _ _ _;have:=P.o.set 0 (.slice A4 (L+on) c4);simpa using this
  have TB:Ti w W5:=by rw[<-T];exact HB4.o.setCell (p:=⟨s1+1,0,none⟩) (by show w.heap.size<=s1+1;omega) _
  have z5:W5.heap.size=w4.heap.size:=by rw[<-T];simp
  rw[T];have lq:Hid (W5.ownsRow (s1+6) 85 5 (.slice q O G) O (flat upC (grU (gxG pre)))):=jf Tq.o fun k e=>bf.o k (by have:=(bZ Tq.o e).1;omega);have Uz:Hid (Apd W5 0 85 5 uA un uc (flat upC gu)):=Uy.o.keepB fun k cur _ hc=>bf.o k (fun e=>by
   subst e;have h1:w4.heap[s1+1]? =_:=P.o;rw[hc]at h1;cases h1)
  have qA:Hid (W5.ownsRow (s1+6) 9 1 (.slice A4 (L+on) c4) (L+on) (flat aF (grO (gxG pre)++go))):=jf Tt.o fun k e=>bf.o k (by have:=(bZ Tt.o e).1;omega);have TC:Hid (Bk W5 (s1+1+1) 31 #[.slice q O G]):=(bf.o _ hne1).trans au.o;clear T cO fO cU fU g0 g1 g2;refine aI ?_;refine qQ (base:=s1+6) (size:=5) rfl (.tmp 35) (.tmp 37) 31 rfl 85 iU _ 48 Tryz.underlying31 Ur.o Us.o Ut.o Uu.o rfl (by decide) (.slice q O G) O _ rfl lq.o W5.heap.size uA un uc (flat upC gu) rfl Uz.o.sl (PE gu) (by unfold maxLen;omega) (by omega) (by omega) ?_;intro A6 c6 t Sv bg uw uD;rw[<-bD]at Sv;have UN:=bg.size;have Sz:Hid (∀k,k<s1+6->t.heap[k]? =W5.heap[k]?):=fun k hk=>bg.block k (by omega) (fun e=>by have:=(bZ lq.o e.symm).1;omega);have V:Hid (∀(k:Nat)(e:TypeId)(cur:Array Tc),e≠85->W5.heap[k]? =some (.cells cur e (0,0))->t.heap[k]? =W5.heap[k]?):=fun k e cur he hc=>bg.block k (Array.getElem?_eq_some_iff.1 hc).1 (fun e2=>by
   obtain⟨_,cur',h2⟩:=bZ lq.o e2.symm;rw[hc]at h2;cases h2;exact he rfl)
  have UA:Ti w t:=TB.o.grown bg TB.o.size (fun k e=>by have:=(bZ lq.o e).1;omega);have wo:Hid (t.ownsRow (s1+6) 9 1 (.slice A4 (L+on) c4) (L+on) (flat aF (grO (gxG pre)++go))):=jf qA.o fun k e=>by obtain⟨_,cur,h2⟩:=bZ qA.o e;exact V.o k _ cur (by decide) h2
  have TD:Hid (Bk t (s1+1) 22 #[.slice A4 (L+on) c4]):=(Sz.o _ (by omega)).trans TA.o;have bn:Hid (Bk t (s1+1+1) 31 #[.slice q O G]):=(Sz.o _ (by omega)).trans TC.o;have TE:=ai Sv;have TF:=ai uw;have TG:=ai uD;clear Sv bg uw uD;have cU:=bn.o.cell 0;have fU:=bn.o.free 0;simp at cU
  gi_wp2
  have hoth:∀k,k≠s1+1+1-> (t.setCell ⟨s1+1+1,0,none⟩ (.slice A6 (O+un) c6)).heap[k]? =t.heap[k]? :=fun k hk=>Z8 _ _ _ k hk;have f:∀k,k<s1+6->k≠s1+1->k≠s1+1+1-> (t.setCell ⟨s1+1+1,0,none⟩ (.slice A6 (O+un) c6)).heap[k]? =W'.heap[k]? :=fun k h1 h2 h3=>(hoth k h3).trans ((Sz.o k h1).trans ((bf.o k h2).trans (PR.o k h1)));have TI: (grO (gxG (pre++ [((uA,un,uc),(oA,on,oc),gu,go)]))).length=L+on:=by rw[Z.o,wS,af,Uw.o];show L+go.length=L+on;have:=Y.o.ol;simp only at this;omega
  have TJ: (grU (gxG (pre++ [((uA,un,uc),(oA,on,oc),gu,go)]))).length=O+un:=by rw[Z.o,xh,af,Ux.o];show O+gu.length=O+un;have:=Y.o.ul;simp only at this;omega
  refine⟨⟨f _ (by omega) (by omega) (by omega),f _ (by omega) (by omega) (by omega)⟩,⟨fun k hk=>f k (by omega) (by omega) (by omega),f _ (by omega) (by omega) (by omega)⟩,A4,c4,A6,c6,?_⟩;rw[TI,TJ];refine⟨fun k h1 h2 h3=>(f k (by omega) h2 h3).trans (HI.o.low k h1 h2 h3),(hoth _ (by omega)).trans TD.o,?_,?_,?_,UA.o.setCell (p:=⟨s1+1+1,0,none⟩) (by show w.heap.size<=s1+1+1;omega) _,by simp;omega,⟨Tu.o,Tv.o⟩,⟨TF.o,TG.o⟩⟩
  . have:=bn.o.set 0 (.slice A6 (O+un) c6);simpa using this
  . rw[Z.o,wS];exact jf wo.o fun k e=>hoth k (by have:=(bZ wo.o e).1;omega)
  . rw[Z.o,xh];exact jf TE.o fun k e=>hoth k (by have:=(bZ TE.o e).1;omega)
 case stop=>intro D c pre W _ _ h;exact h.elim
 case done =>
  rintro D xs W' hD hS ⟨Ao,co,q,G,hi⟩ hK;rw[hS]at hi;have TK: (grU gs).length=lg.length:=by rw[<-Ak.o]
  have UB: (grO gs).length<=49000:=by have h1:=ui gs;have h2:=SI.o;omega
  obtain⟨L,N⟩:=NX9 ((grO gs).length)
  rw[TK,N]at hi;rw[N]at UB;have hk6:Bk W' s1 35 #[.int .i64 d.sz,.slice s.a1 n s.c1,.slice s.a2 0 s.c2,.int .i64 d.lf,.slice none 0 0,.slice none 0 0,.slice none 0 0]:=(hi.low s1 (by omega) (by omega) (by omega)).trans V.o;have HD0:Hid (W'.heap[D]? =some (.deferred (some []))):=hK;have SA:=hi.oO;have SB:=hi.oU;rw[hS]at SA SB;have HI:=ai hi;have UC:=ai hk6;have hDl:D<W'.heap.size:=(Array.getElem?_eq_some_iff.1 hK).1;have cO:=hi.kO.cell 0;have cU:=hi.kU.cell 0;simp at cO cU;have UD:Hid (grU gs=lg):=Ak.o.symm;have TL:Hid (Bk W' (w.heap.size+1) 35 rzC):=(hi.low _ (by omega) (by omega) (by omega)).trans (HR1.o.below (HB1.o.trans (M.o.mono (by omega))) (by omega));have TM:Hid (Bk W' (w.heap.size+1+1) 36 #[.int .i64 0]):=(hi.low _ (by omega) (by omega) (by omega)).trans (HR2.o.below (HB1.o.trans (M.o.mono (by omega))) (by omega));have UE:Hid (DkM W' s1 d s):=by
   have:=(HM.o.below (HB1.o.trans (M.o.mono (by omega))) (by omega)).more (show B<=w.heap.size by omega);have key:∀k,k<w.heap.size->W'.heap[k]? =w7.heap[k]? :=fun k hk=>hi.low k (by omega) (by omega) (by omega);exact⟨(this.ss.low key).more (by omega),(this.pn.low key).more (by omega)⟩
  have TN:=ai (KP p (grO gs) Ao L co W'.heap.size W' (Sl.of_own SA) aj (by omega) H.o.pl (fun b hb=>(H.o.ob b).1 hb) (fun i hi=>(H.o.ob _).2 ⟨i,hi,rfl⟩));have UO:=hi.z;have TP:Ti w W':=hi.b;have UF:Hid (Sl W' W'.heap.size 5 q lg.length (flat upC lg)):=by have:=Sl.of_own SB;rw[UD.o]at this;exact this
  clear hi hk6 hK hS SA SB TK N HI0 V Aq AP BB M X HY HI
  gi_wp2_with fail
  refine⟨trivial,(callsIn_wide.2 TN.o).mono ?_⟩;rintro e w8 ⟨pA,pc,rfl,hsp,hpc,hpm,hb8⟩;have z8:=hb8.size;have TQ:=ai hsp;have J:=ai (UC.o.below hb8 (by omega));have wz:=ai (TL.o.below hb8 (by omega));have xe:=ai (TM.o.below hb8 (by omega));have TR:=ai (UE.o.below hb8 (by omega));have TS:=ai (UF.o.below hb8 aj);have TT:Hid (w8.heap[D]? =some (.deferred (some []))):=(hb8.block D (by omega)).trans HD0.o;have TU:Ti w w8:=TP.o.trans (hb8.mono TP.o.size);have UG:=(hb8.cell (p:=⟨s1+1+1,0,none⟩) (by show s1+1+1<_;omega)).trans cU;clear hsp hb8 TN cO cU;obtain⟨⟨t0,t1,t2,t3⟩,t4,t5,t6⟩:=J.o.seven;have f4:=J.o.free 4;have xA:Hid (RpM w8 w8.heap.size ⟨d,p,[],lg⟩ ⟨s,pA,pc,none,0,q,G⟩):=⟨TR.o.more (by omega),TQ.o,Sl.nil _ _ _ _,TS.o.more z8,hpc,hpm⟩
  have hne1:s1+1+1≠s1:=by omega
  gi_wp2_with fail
  obtain⟨w9,U⟩:=NX9 (w8.setCell ⟨s1,4,none⟩ (.slice pA p.length pc))
  have bz:Hid (∀k,k≠s1->w9.heap[k]? =w8.heap[k]?):=fun k hk=>by rw[<-U];exact Z8 _ _ _ k hk
  have z9:w9.heap.size=w8.heap.size:=by rw[<-U];simp
  have yc:Hid (Bk w9 s1 35 #[.int .i64 d.sz,.slice s.a1 n s.c1,.slice s.a2 0 s.c2,.int .i64 d.lf,.slice pA p.length pc,.slice none 0 0,.slice none 0 0]):=by rw[<-U];show Bk _ _ _ _;have:=J.o.set 4 (.slice pA p.length pc);simpa using this
  have Q:Hid (RpM w9 w9.heap.size ⟨d,p,[],lg⟩ ⟨s,pA,pc,none,0,q,G⟩):=by have:=xA.o.box J.o (by simp[bxV]) bz.o;exact this.more (by omega)
  have SC:Ti w w9:=by rw[<-U];exact TU.o.setCell (p:=⟨s1,4,none⟩) (by show w.heap.size<=s1;omega) _
  have zk:Hid (Bk w9 (w.heap.size+1) 35 rzC):=(bz.o _ (by omega)).trans wz.o;have zo:Hid (Bk w9 (w.heap.size+1+1) 36 #[.int .i64 0]):=(bz.o _ (by omega)).trans xe.o;have TV:Hid (w9.heap[D]? =some (.deferred (some []))):=(bz.o D (by omega)).trans TT.o;rw[U];clear U t0 t1 t2 t3 t4 t5 t6 f4 UG J wz xe TR TS TT TU xA TQ bz;have nz:=ai (AZ none none q 0 0 0 0 lg.length G w9.heap.size [] [] lg w9 (Sl.nil _ _ _ _) (Sl.nil _ _ _ _) Q.o.l aj (by unfold maxLen;omega) (by unfold maxLen;omega) (by omega) (fun u hu=>by have:=(Uj.o u hu).1;unfold maxLen;omega) (fun u hu=>by cases hu));unfold nJ at nz;rw[Uk.o]at nz;refine⟨trivial,(callsIn_wide.2 nz.o).mono ?_⟩;rintro e wa ⟨rA,rn,rc,lA,ln,lc,rfl,SE,hrc,_,hsl,_,_,hba⟩;have hrn:rs.length=rn:=SE.len jg (by omega);have hln:lg.length=ln:=hsl.len gB (by omega);subst hrn hln;have za:=hba.size;have j:=ai (yc.o.below hba (by omega));have zt:=ai (zk.o.below hba (by omega));have zx:=ai (zo.o.below hba (by omega));have TW:Hid (wa.heap[D]? =some (.deferred (some []))):=(hba.block D (by omega)).trans TV.o;have TY:Ti w wa:=SC.o.trans (hba.mono SC.o.size);have zT:Hid (RpM wa wa.heap.size ⟨d,p,rs,lg⟩ ⟨s,pA,pc,rA,rc,lA,lc⟩):=⟨(Q.o.d.below hba aj).more hba.size,(Q.o.p.below hba aj).more hba.size,SE,hsl,hpc,hpm⟩
  clear SE hsl hba nz Q yc zk zo TV SC;obtain⟨⟨t0,t1,t2,t3⟩,t4,t5,t6⟩:=j.o.seven;have f5:=j.o.free 5;have f6:=j.o.free 6
  gi_wp2_with fail
  obtain⟨wb,hwb⟩:=NX9 ((wa.setCell ⟨s1,5,none⟩ (.slice rA rs.length rc)).setCell ⟨s1,6,none⟩ (.slice lA lg.length lc))
  have dn:Hid (∀k,k≠s1->wb.heap[k]? =wa.heap[k]?):=fun k hk=>by rw[<-hwb];exact(Z8 _ _ _ k hk).trans (Z8 _ _ _ k hk)
  have zb:wb.heap.size=wa.heap.size:=by rw[<-hwb];simp
  have TZ:Hid (Bk wb s1 35 #[.int .i64 d.sz,.slice s.a1 n s.c1,.slice s.a2 0 s.c2,.int .i64 d.lf,.slice pA p.length pc,.slice rA rs.length rc,.slice lA lg.length lc]):=by rw[<-hwb];show Bk _ _ _ _;have:=(j.o.set 5 (.slice rA rs.length rc)).set 6 (.slice lA lg.length lc);simpa using this
  have R:Hid (RpM wb wb.heap.size ⟨d,p,rs,lg⟩ ⟨s,pA,pc,rA,rc,lA,lc⟩):=by have:=zT.o.box j.o (by simp[bxV]) dn.o;exact this.more (by omega)
  have Ua:Ti w wb:=by rw[<-hwb];exact(TY.o.setCell (p:=⟨s1,5,none⟩) (by show w.heap.size<=s1;omega) _).setCell (p:=⟨s1,6,none⟩) (by show w.heap.size<=s1;omega) _
  have zX:Hid (Bk wb (w.heap.size+1) 35 rzC):=(dn.o _ (by omega)).trans zt.o;have Aj:Hid (Bk wb (w.heap.size+1+1) 36 #[.int .i64 0]):=(dn.o _ (by omega)).trans zx.o;have Ub:Hid (wb.heap[D]? =some (.deferred (some []))):=(dn.o D (by omega)).trans TW.o;have Uc:Hid (∀x∈rs,WfD x.2):=fun x hx=>by
   have h0:=compl_zero.1 (H.o.co x hx);obtain⟨⟨o,ho,_⟩,_⟩:=h0;rw[ni H.o.pl ho];exact fG _
  rw[hwb];clear hwb t0 t1 t2 t3 t4 t5 t6 f5 f6 j zt zx TW TY zT dn
  gi_loopw [63] (fun i wr=>∃k:Nat,k<=rs.length/\i= .int .i64 k/\Ti wb wr) (fun i _=>rs.length - (intOf i).toNat)
  case atStart=>exact⟨0,ZX _,rfl,ah _ _⟩
  case round =>
   obtain⟨k,hk,rfl,hBr⟩:=hrel;have E:=ai hBr.o;have zr:=E.o.size;clear hBr;by_cases hlt:k<rs.length
   . obtain⟨bb,off,x,hA,hbb,hx,hc⟩:=(R.o.rf.below E.o aj).at_ jg (by omega) hlt
     have x0:=hc 0 _ rfl;have x1:=hc 1 _ rfl;have x2:=hc 2 _ rfl;simp only at hA;subst hA;have hlz: (k:Int)< (rs.length:Int):=by omega
     have hxm:=Z7 hx;have Ud:Hid (dP p x.2=0):=H.o.co x hxm;have Ue:Hid (WfD x.2):=Uc.o x hxm;obtain⟨xn,x3,x4⟩:=x;simp only[Nat.add_zero]at x0 x1 x2 Ud Ue;obtain⟨W3,hW3⟩:=NX9 (wr.alloc (.cells #[.string xn,.int .u64 x3,.int .u64 x4] 52))
     have hb3:Tf wr W3:=by rw[<-hW3];exact(ah _ wr).alloc aj _
     have HB3:Ti wb W3:=E.o.trans (hb3.mono zr);have HCM:=ai (Ae p pA p.length pc wb.heap.size (x3,x4) W3 (R.o.p.below HB3.o aj) HB3.o.size (by omega) H.o.pl Ue.o);rw[Ud.o]at HCM;simp only[aG]at HCM;have hk3:Bk W3 wr.heap.size 52 #[.string xn,.int .u64 x3,.int .u64 x4]:=by rw[<-hW3];exact Bk.new wr _ _
     obtain⟨y0,y1,y2⟩:=hk3.three;clear hc hx hxm hb3 hk3
     gi_wp2_with fail
     refine⟨trivial,(callsIn_wide.2 HCM.o).mono ?_⟩;rintro e w4 ⟨rfl,hb4⟩;have HB4:Ti wb w4:=HB3.o.trans (hb4.mono HB3.o.size);clear hb4 HCM x0 x1 x2 hW3 y0 y1 y2
     gi_wp2
     go_roundw
     case rel=>exact⟨k+1,hlt,by go_num,HB4.o⟩
     case measure=>simp[intOf];omega
   . have hlz:¬(k:Int)< (rs.length:Int):=by omega
     have UH:=ai (TZ.o.below E.o (by omega));have S:=ai (zX.o.below E.o (by omega));have dN:=ai (Aj.o.below E.o (by omega));have UI:Hid (wr.heap[D]? =some (.deferred (some []))):=(E.o.block D (by omega)).trans Ub.o;have UJ:Ti w wr:=Ua.o.trans (E.o.mono (by omega));have Uf:Hid (RpM wr wr.heap.size ⟨d,p,rs,lg⟩ ⟨s,pA,pc,rA,rc,lA,lc⟩):=(R.o.below E.o aj).more zr;obtain⟨⟨t0,t1,t2,t3⟩,t4,t5,t6⟩:=UH.o.seven;obtain⟨⟨q0,q1,q2,q3⟩,q4,q5,q6⟩:=S.o.seven;obtain⟨⟨f0,f1,f2,f3⟩,f4,f5,f6⟩:=S.o.free7;have e0:=dN.o.cell 0;have e1:=dN.o.free 0;simp at e0;have Tz:w.heap.size+1≠w.heap.size+1+1:=by omega
     clear TZ zX Aj Ub Ua R
     gi_wp2
     obtain⟨V7,ed⟩:=NX9 (((((((wr.setCell ⟨w.heap.size+1,0,none⟩ (.int .i64 d.sz)).setCell ⟨w.heap.size+1,1,none⟩ (.slice s.a1 n s.c1)).setCell ⟨w.heap.size+1,2,none⟩ (.slice s.a2 0 s.c2)).setCell ⟨w.heap.size+1,3,none⟩ (.int .i64 d.lf)).setCell ⟨w.heap.size+1,4,none⟩ (.slice pA p.length pc)).setCell ⟨w.heap.size+1,5,none⟩ (.slice rA rs.length rc)).setCell ⟨w.heap.size+1,6,none⟩ (.slice lA lg.length lc))
     obtain⟨Vf,fA⟩:=NX9 (V7.setCell ⟨w.heap.size+1+1,0,none⟩ (.int .i64 0))
     have SG:∀k,k≠w.heap.size+1->V7.heap[k]? =wr.heap[k]? :=fun k hk=>by rw[<-ed];exact iJ _ _ _ _ _ _ _ _ _ k hk
     have hof:∀k,k≠w.heap.size+1+1->Vf.heap[k]? =V7.heap[k]? :=fun k hk=>by rw[<-fA];exact Z8 _ _ _ k hk
     have UK:Bk V7 (w.heap.size+1) 35 #[.int .i64 d.sz,.slice s.a1 n s.c1,.slice s.a2 0 s.c2,.int .i64 d.lf,.slice pA p.length pc,.slice rA rs.length rc,.slice lA lg.length lc]:=by rw[<-ed];exact S.o.set7 _ _ _ _ _ _ _
     have Ug:Bk V7 (w.heap.size+1+1) 36 #[.int .i64 0]:=(SG _ (by omega)).trans dN.o;have k1:Bk Vf (w.heap.size+1) 35 #[.int .i64 d.sz,.slice s.a1 n s.c1,.slice s.a2 0 s.c2,.int .i64 d.lf,.slice pA p.length pc,.slice rA rs.length rc,.slice lA lg.length lc]:=(hof _ (by omega)).trans UK;have k2:Bk Vf (w.heap.size+1+1) 36 #[.int .i64 0]:=by rw[<-fA];have:=Ug.set 0 (.int .i64 0);simpa using this
     have hbf:Tf w Vf:=by rw[<-fA,<-ed];exact(dS UJ.o (by omega) _ _ _ _ _ _ _).setCell (p:=⟨w.heap.size+1+1,0,none⟩) (by show w.heap.size<=w.heap.size+1+1;omega) _
     have zf:Vf.heap.size=wr.heap.size:=by rw[<-fA,<-ed];simp
     have hrm:RpM Vf wr.heap.size ⟨d,p,rs,lg⟩ ⟨s,pA,pc,rA,rc,lA,lc⟩:=(Uf.o.box S.o (by simp[bxV]) SG).box Ug (by simp[bxV]) hof;have Uh:Vf.heap[D]? =some (.deferred (some [])):=(hof D (by omega)).trans ((SG D (by omega)).trans UI.o);have hnc:∀o,Vf.cell? ⟨D,o,none⟩=none:=fun o=>by simp[World.cell?,Uh]
     rw[ed,fA];refine⟨by simp,.inl ⟨_,_,rfl,run_takeDeferred Uh,?_⟩⟩;refine⟨_,QV rfl rfl rfl ((World.putObj_heap_other (by omega)).trans k1) ((World.putObj_heap_other (by omega)).trans k2),⟨s,pA,pc,rA,rc,lA,lc⟩,?_,?_,?_⟩
     . simp only[rpV,rpC,HN.o,Ul.o]
     . have:=(hrm.noCell (w':=Vf.putObj D (.deferred none)) hnc (fun k hk=>World.putObj_heap_other hk)).more (show wr.heap.size<= (Vf.putObj D (.deferred none)).heap.size by simp;omega)
       exact this
     . exact hbf.grown (grownBy_putObj' _ _ _) (by have:=hbf.size;simpa using this) (fun k e=>by cases e;omega)
end
@[go_sem high] theorem SQ (a b c d : Int) (w : SX) : (Op.equalIn 9999 50 (.agg #[.int .u64 a, .int .u64 b]) (.agg #[.int .u64 c, .int .u64 d])).run Tryz.prog w = .ok (a == c && b == d) w := yQ 9997 a b c d w
section
attribute [local go_sem] Oper.semAt_some
section
variable {B0 hz : Nat} {A B C : SX}
end
end
@[go_sem] theorem SA : Tryz.prog.eqGuardType Tryz.prog.depth 118 = false := by kernel_rfl
theorem Qq:Tryz.prog.stoodInHeld 118=false:=by kernel_rfl
theorem RD(a b c d:Int)(w:SX): (Op.equalIn 9999 50 (.agg #[.int .u64 a,.int .u64 b]) (.agg #[.int .u64 c,.int .u64 d])).run Tryz.prog w= .ok (a == c && b == d) w:=yQ 9997 a b c d w
@[go_sem high] theorem SV (a b c d : Int) (s t : SY) (w : SX) : (Op.equalIn 10000 118 (.agg #[.int .u64 a, .int .u64 b, .string s]) (.agg #[.int .u64 c, .int .u64 d, .string t])).run Tryz.prog w = .ok ((a == c && b == d) && s.toList == t.toList) w := by
 have hS:Tryz.prog.underlying 118=some (.struct (Tryz.prog.fieldsOf 118)):=by kernel_rfl
 have a9:=Tryz.isAgg9;have u9:=Tryz.underlying9;have aD:=Tryz.isAgg50;have uD:=Tryz.underlying50;have zD:=Tryz.sizeOf50;have hd:=RD a b c d w;rw[show(10000:Nat)=9999+1 from rfl,run_equalIn_agg w 9999 118 _ _ hS Qq];simp only[Program.fieldsOf,Tryz.underlying118]
 go_simp
 by_cases h1:a=c <;> by_cases h2:b=d <;> by_cases h3:s.toList=t.toList <;> simp[h1,h2,h3]
instance :DecidableEq FCh:=fun a b=>decidable_of_iff (a.path=b.path/\a.ho=b.ho/\a.hn=b.hn/\a.old=b.old/\a.new=b.new) ⟨fun h=>by cases a;cases b;simp_all,fun h=>by subst h;simp⟩
theorem CV(A0 A1:OA)(n0 c0 n1 c1 B:Nat)(rs qs:List Itm)(w:SX)(h0:Sl w B 3 A0 n0 (flat itC rs))(h1:Sl w B 3 A1 n1 (flat itC qs))(m0:n0<=maxLen) :
  Calls Tryz.prog 20 #[.slice A0 n0 c0,.slice A1 n1 c1] w fun e w'=>e= .returned (.bool (decide (rs=qs)))/\∃k,w'=w.drewN k:=by
 unfold maxLen at m0;have a:=ai (h0.len dA (by omega));have b:=ai (h1.len dA (by omega));have H0:=ai h0;have H1:=ai h1;clear h0 h1;have hM:Hid (decide (rs=qs)=true↔rs=qs):=decide_eq_true_iff;generalize decide (rs=qs)=mb at *;by_cases hn:n0=n1
 . subst hn
   go_enter Tryz.func20,Tryz.ntmps20
   go_wp2
   go_loopw[5] (fun i wr=>∃k nq:Nat,k<=n0/\i= .int .i64 k/\wr=w.drewN nq/\Hid (rs.take k=qs.take k)) (fun i _=>n0 - (intOf i).toNat)
   case atStart=>exact⟨0,0,ZX _,rfl,rfl,rfl⟩
   case round =>
    obtain⟨k,nq,hk,rfl,rfl,heq⟩:=hrel;by_cases hlt:k<n0
    . obtain⟨b0,o0,r,rfl,_,hr,x0,x1,x2⟩:=H0.o.it hlt
      obtain⟨b1,o1,q,rfl,_,hq,y0,y1,y2⟩:=H1.o.it hlt;have HR:=ai hr;have HQ:=ai hq;clear hr hq;have hlz: (k:Int)< (n0:Int):=by omega
      by_cases e:r=q
      . have t1: ((r.1.1 == q.1.1 && r.1.2 == q.1.2) && r.2.toList == q.2.toList)=true:=by rw[e];simp
        have HE:=ai e;clear e;have hnx:Hid (rs.take (k+1)=qs.take (k+1)):=by
         show _=_;rw[aW HR.o,aW HQ.o,heq.o,HE.o]
        go_wp2
        go_quiet(fail)
        go_wp2
        go_roundw
        case rel=>exact⟨k+1,_,by omega,by go_num,rfl,hnx⟩
        case measure=>simp[intOf];omega
      . have t1: ((r.1.1 == q.1.1 && r.1.2 == q.1.2) && r.2.toList == q.2.toList)=false:=by
          rw[Bool.eq_false_iff];intro hh;simp only[Bool.and_eq_true,beq_iff_eq,ByteArray.toList_eq]at hh;apply e
          exact Prod.ext (Prod.ext hh.1.1 hh.1.2) (jM hh.2)
        have HE:=ai e;clear e
        go_wp2
        go_quiet(fail)
        go_wp2
        go_ret
        refine⟨bF ?_,⟨_,World.drewN_drewN _ _ _⟩⟩
        symm
        rw[Bool.eq_false_iff];intro hh;have:=hM.o.1 hh;subst this;exact HE.o (Option.some.inj (HR.o.symm.trans HQ.o))
    . have hall:Hid (mb=true):=by
        have:=heq.o;rw[ZU (by rw[a.o];omega),ZU (by rw[b.o];omega)]at this;exact hM.o.2 this
      have hlz:¬(k:Int)< (n0:Int):=by omega
      go_wp2
      go_ret
      exact⟨bF hall.o.symm,_,rfl⟩
 . have hne: ((n0:Int) != (n1:Int))=true:=by rw[bne_iff_ne];omega
   go_enter Tryz.func20,Tryz.ntmps20
   go_wp2
   go_ret
   refine⟨bF ?_,0,rfl⟩
   symm
   rw[Bool.eq_false_iff];intro hh;have:=hM.o.1 hh;subst this;exact hn (a.o.symm.trans b.o)
abbrev St:=Td×Bool
def rn(st:St):Nat×St:=if st.2=true∨ (aB st.1).2.2≠0 then(0,st.1,true) else((aB st.1).1,st.1.drop (aB st.1).2.1,false)
def pw(k t:Nat)(j:Nat):Bool:=decide (j<8*k∨ (8*k+8 - t<=j/\j<8*k+8))
def Gt(n:Nat)(p:List Itm)(w:SX)(e:Ending)(w':SX):Prop:=∃r:Bool,e= .returned (.bool r)/\ (r=false->n<=40/\∀i∈p,i.2.size<=500)/\w=w'
theorem J3(A:OA)(n c B:Nat)(p:List Itm)(w:SX)(h0:Sl w B 3 A n (flat itC p))(hn:n<=maxLen)(hs:∀i∈p,i.2.size<=maxLen) :
  Calls Tryz.prog 120 #[.slice A n c] w (Gt n p w):=by
 unfold maxLen at hn;have a:=ai (h0.len dA (by omega));have H0:=ai h0;clear h0;have HS:=ai hs;clear hs
 go_enter Tryz.func120,Tryz.ntmps120
 by_cases hbig: (40:Int)< (n:Int)
 . go_wp2
   go_ret
   exact⟨true,rfl,(fun e=>by cases e),rfl⟩
 go_wp2
 go_loopw[3] (fun i wr=>∃k:Nat,k<=n/\i= .int .i64 k/\wr=w/\Hid (∀f∈p.take k,f.2.size<=500)) (fun i _=>n - (intOf i).toNat)
 case atStart=>exact⟨0,ZX _,rfl,rfl,fun y hy=>by simp at hy⟩
 case round =>
  obtain⟨k,hk,rfl,rfl,hN⟩:=hrel;by_cases hlt:k<n
  . obtain⟨b,off,f,rfl,hb,hf,y0,y1,y2⟩:=H0.o.it hlt
    have hkz: (k:Int)< (n:Int):=by omega
    have hf2:f.2.size<=9223372036854775807:=by have:=HS.o f (Z7 hf);unfold maxLen at this;exact this
    have HF:=ai hf;clear hf;by_cases c2: (500:Int)< (f.2.size:Int)
    . go_wp2
      go_ret
      exact⟨true,rfl,(fun e=>by cases e),rfl⟩
    have HN:Hid (∀f∈p.take (k+1),f.2.size<=500):=fun y hy=>by
     rw[aW HF.o]at hy;rcases List.mem_append.1 hy with hy | hy
     . exact hN.o y hy
     . rw[List.mem_singleton.1 hy];omega
    go_wp2
    go_roundw
    case rel=>exact⟨k+1,hlt,by go_num,trivial,HN.o⟩
    case measure=>simp[intOf];omega
  . have hkz:¬(k:Int)< (n:Int):=by omega
    have HN:Hid (∀f∈p,f.2.size<=500):=by
     have:=hN.o
     rwa[ZU (by rw[a.o];omega)]at this
    go_wp2
    go_ret
    exact⟨false,rfl,(fun _=>⟨by omega,HN.o⟩),rfl⟩
section
open Go.Maps
def Gw(n:Nat)(fs:List Fl)(w:SX)(e:Ending)(w':SX):Prop:=∃r:Bool,e= .returned (.bool r)/\ (r=false->n<=10/\∀f∈fs,f.1.size<=120/\f.2.size<=200)/\w=w'
theorem KA(A:OA)(n c B:Nat)(fs:List Fl)(w:SX)(h0:Sl w B 2 A n (flat flC fs))(hn:n<=maxLen)(hs:∀f∈fs,f.1.size<=maxLen/\f.2.size<=maxLen) :
  Calls Tryz.prog 65 #[.slice A n c] w (Gw n fs w):=by
 unfold maxLen at hn;have a:=ai (h0.len mZ (by omega));have H0:=ai h0;clear h0;have HS:=ai hs;clear hs
 go_enter Tryz.func65,Tryz.ntmps65
 by_cases hbig: (10:Int)< (n:Int)
 . go_wp2
   go_ret
   exact⟨true,rfl,(fun e=>by cases e),rfl⟩
 go_wp2
 go_loopw[3] (fun i wr=>∃k:Nat,k<=n/\i= .int .i64 k/\wr=w/\Hid (∀f∈fs.take k,f.1.size<=120/\f.2.size<=200)) (fun i _=>n - (intOf i).toNat)
 case atStart=>exact⟨0,ZX _,rfl,rfl,fun y hy=>by simp at hy⟩
 case round =>
  obtain⟨k,hk,rfl,rfl,hN⟩:=hrel;by_cases hlt:k<n
  . obtain⟨b,off,f,rfl,hb,hf,y0,y1⟩:=H0.o.fl hlt
    have hkz: (k:Int)< (n:Int):=by omega
    have hfs:=HS.o f (Z7 hf);have hf1:f.1.size<=9223372036854775807:=by have:=hfs.1;unfold maxLen at this;exact this
    have hf2:f.2.size<=9223372036854775807:=by have:=hfs.2;unfold maxLen at this;exact this
    have HF:=ai hf;clear hf hfs;by_cases c1: (120:Int)< (f.1.size:Int)
    . go_wp2
      go_ret
      exact⟨true,rfl,(fun e=>by cases e),rfl⟩
    by_cases c2: (200:Int)< (f.2.size:Int)
    . go_wp2
      go_ret
      exact⟨true,rfl,(fun e=>by cases e),rfl⟩
    have HN:Hid (∀f∈fs.take (k+1),f.1.size<=120/\f.2.size<=200):=fun y hy=>by
     rw[aW HF.o]at hy;rcases List.mem_append.1 hy with hy | hy
     . exact hN.o y hy
     . rw[List.mem_singleton.1 hy];exact⟨by omega,by omega⟩
    go_wp2
    go_roundw
    case rel=>exact⟨k+1,hlt,by go_num,trivial,HN.o⟩
    case measure=>simp[intOf];omega
  . have hkz:¬(k:Int)< (n:Int):=by omega
    have HN:Hid (∀f∈fs,f.1.size<=120/\f.2.size<=200):=by
     have:=hN.o
     rwa[ZU (by rw[a.o];omega)]at this
    go_wp2
    go_ret
    exact⟨false,rfl,(fun _=>⟨by omega,HN.o⟩),rfl⟩
end
