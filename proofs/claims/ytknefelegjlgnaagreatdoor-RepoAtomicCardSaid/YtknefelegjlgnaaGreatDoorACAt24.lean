/-
  Lemmas of the card.
-/
import Derived.Test.YtknefelegjlgnaaGreatDoorACAt23
set_option maxRecDepth 100000
set_option maxHeartbeats 16000000
namespace Go.Proofs.YtknefelegjlgnaaGreatDoor
open Go.RowKit
section
variable {F : Fence} {n : Nat} {P : Program}
theorem D7{α:Type}{g:Operand}{ps:Array Tmp}{assign body:Code}{Q:Exit->Act->MZ->Prop}{a:Act}{w:MZ}
  (hro:F.round=none) (h1:1<=n) {gf:Nat} {lb:Array M4} (hg:a.eval g= .func (.func gf) #[] lb) (hFg:F.fn gf) (eg:∀args w,(callFunc gf args).run P w= .ok (.enter gf args) w)
  {encs:α->Array M4} {Kp St:MZ->MZ->Prop} {Pf:MZ->List α->Prop} {S Sp:List α->Prop} {w0:MZ} (hseq:qQ F (n - 1) P gf lb encs Kp St Pf S Sp (w.heap.size+2) w0)
  (hKt:∀{A B C:MZ},Kp A B->Kp B C->Kp A C) (hKb:∀(W:MZ)(l:Nat)(r:Loop)(o':Obj),w.heap.size+1=l->W.heap[l]? =some (.loop r)->Kp W (W.putObj l o')) (hSo:∀A B,St A B->w.heap.size+2<=A.heap.size->jc w.heap.size A B) (hb0:Below w0.heap.size w0 w) (hps:∀x,(encs x).size=ps.size)
  (I:List α->MZ->Prop) (Ix:Code->List α->MZ->Prop) (hI:OwnFrom w.heap.size I) (hIx:∀c,OwnFrom w.heap.size (Ix c)) (hIS:∀pre A B,I pre A->St A B->I pre B) (h0:I [] w) (As:List α->Nat->MZ->Prop) (hAp:∀x b W l (r:Loop) (o:Obj),W.heap[l]? =some (.loop r)->As x b W->As x b (W.putObj l o)) (a₁:α->Nat->Act)
  (hassign:∀(l:Nat)(pre:List α)(x:α)(W:MZ)(K:Act->MZ->Prop),Pf W (pre++ [x])->w.heap.size+2<=W.heap.size->I pre W-> (∀b W',jc w.heap.size W W'->Kp W W'->I pre W'->As (pre++ [x]) b W'->K (a₁ x b) W') ->
    assign.wpIn (F.inRound l) (n - 1 - 1) P (Exit.then K (fun _ _ _=>False)) {tmps:=(ps.zip (encs x)).foldl (fun t (p,v)=>t.setIfInBounds p v) a.tmps,defers:= []} W)
  (hbody:∀(l:Nat)(pre:List α)(x:α)(b:Nat)(W:MZ),w.heap.size+2<=W.heap.size->I pre W->As (pre++ [x]) b W->body.wpIn (F.inRound l) (n - 1 - 1) P (Bc w.heap.size Kp I Ix (pre++ [x]) W) (a₁ x b) W)
  (hdone:∀(D:Nat)(xs:List α)(W:MZ),w.heap.size<=D->S xs->I xs W->W.heap[D]? =some (.deferred (some []))->Q .normal {a with defers:={target:= .collected D,args:=#[]}::a.defers} W)
  (hstop:∀(D:Nat)(c:Code)(pre:List α)(W:MZ),w.heap.size<=D->Sp pre->Ix c pre W->W.heap[D]? =some (.deferred (some []))->c.wpIn F n P Q {a with defers:={target:= .collected D,args:=#[]}::a.defers} W) :
  (Code.rangeFunc g ps assign body).wpIn F n P Q a w:=by
 refine wpIn_rangeFunc ?_;intro fn G;rw[hro]
 -- the loop's record in block L,the block of its deferred calls in block D
 obtain⟨D,hD⟩:=NX9 w.heap.size
 obtain⟨rec,d⟩:∃rec:LoopState->Option Code->Loop,rec=fun st pe=>{state:=st,pending:=pe,fn,tmps:=a.tmps,params:=ps,assign,body,defers:=D}:=⟨_,rfl⟩
 obtain⟨W1,m⟩:=NX9 ((w.alloc (.deferred (some []))).alloc (.loop (rec .ready none)))
 have H:W1.heap[D+1]? =some (.loop (rec .ready none)):=by
  rw[<-m,<-hD];have:=World.alloc_heap_new (w.alloc (.deferred (some []))) (.loop (rec .ready none));rwa[Z9]at this
 have J:W1.heap[D]? =some (.deferred (some [])):=by
  rw[<-m,<-hD];exact(Below.heap_alloc _ _ _ (by simp)).trans (World.alloc_heap_new w _)
 have M:I [] W1:=by rw[<-m];exact hI.alloc _ (hI.alloc _ h0)
 have N:Below w0.heap.size w0 W1:=by
  rw[<-m];exact hb0.trans ((((af _ w).alloc ai _).alloc (by simp) _).mono hb0.size)
 refine⟨D+1,[{target:= .collected D,args:=#[]}],W1,{target:= .fn (.func gf) lb,args:=#[.func (.yield (D+1)) #[] #[]]},W1,gf,
  #[.func (.yield (D+1)) #[] #[]]++lb,W1,?_,?_,?_,?_,fun _=>h1,?_⟩
 . rw[<-m,d,<-hD];exact run_enterLoop_outer _ _ _ _ _
 . simp only[resolve,hg]
   simp[go_sem]
 . intro f' u;simp[Target.leads]at u;subst u;exact hFg
 . simp[invoke,go_sem,eg]
 . refine(hseq (D+1)
     (fun pre W=>I pre W/\W.heap[D+1]? =some (.loop (rec .ready none))/\W.heap[D]? =some (.deferred (some [])))
     (fun pre W=>∃c,Ix c pre W/\W.heap[D+1]? =some (.loop (rec .done (some c)))/\W.heap[D]? =some (.deferred (some [])))
     W1 N (by rw[<-m];simp)
     (fun pre A B hs hst=>by
       have Z:=(Array.getElem?_eq_some_iff.1 hs.2.1).1;have hr:=hSo A B hst (by omega);rw[hD]at hr;exact⟨hIS pre A B hs.1 hst,hr.2.trans hs.2.1,hr.1.trans hs.2.2⟩)
     ?_ ⟨M,H,J⟩).mono ?_
   . rintro pre x W O ⟨hi,hl,hk⟩
     have ab:D+1<W.heap.size:=(Array.getElem?_eq_some_iff.1 hl).1;have hy:=run_yield (P:=P) (args:=encs x) hl (by rw[d];exact hps x);rw[d]at hy;refine⟨fn,_,assign,body,hy,roundIn_of_wpIn G (hassign _ pre x W _ O (by omega) hi fun b V hrv hkv hiv hav=>?_)⟩;rw[hD]at hrv;have s:V.heap[D+1]? =some (.loop (rec .ready none)):=hrv.2.trans hl;have R:V.heap[D]? =some (.deferred (some [])):=hrv.1.trans hk;have y:D+1<V.heap.size:=(Array.getElem?_eq_some_iff.1 s).1;refine⟨_,run_beginRound s (by rw[d]),?_⟩;obtain⟨W2,q⟩:∃W2,V.putObj (D+1) (.loop {rec .ready none with state:= .busy})=W2:=⟨_,rfl⟩
     have z:W2.heap[D+1]? =some (.loop {rec .ready none with state:= .busy}):=by rw[<-q];exact World.putObj_heap_same y
     have T:W2.heap[D]? =some (.deferred (some [])):=by rw[<-q];exact(World.putObj_heap_other (by omega)).trans R
     have U:Kp W W2:=by rw[<-q];exact hKt hkv (hKb _ _ _ _ (by omega) s)
     have X:I pre W2:=by rw[<-q];exact hI.putObj _ hiv (by omega) s rfl
     have Y:As (pre++ [x]) b W2:=by rw[<-q];exact hAp _ _ _ _ _ _ s hav
     rw[q];refine wpIn_mono (hbody _ pre x b _ (by have:=(Array.getElem?_eq_some_iff.1 z).1;omega) X Y) ?_;have fin:∀(jump:Option Code)(W3:MZ),jc w.heap.size W2 W3 ->
       (Instr.endRound (D+1) jump).run P W3= .ok (.bool jump.isNone) (W3.putObj (D+1) (.loop (rec (if jump.isNone then .ready else .done) jump))) ∧
       W3.heap[D+1]? =some (.loop {rec .ready none with state:= .busy}) ∧
       (W3.putObj (D+1) (.loop (rec (if jump.isNone then .ready else .done) jump))).heap[D+1]? =some (.loop (rec (if jump.isNone then .ready else .done) jump)) ∧
       (W3.putObj (D+1) (.loop (rec (if jump.isNone then .ready else .done) jump))).heap[D]? =some (.deferred (some [])):=fun jump W3 h=>by
      rw[hD]at h;have f:=h.2.trans z;have:=run_endRound (P:=P) jump f;rw[d]at this ⊢;exact⟨this,by rw[d]at f;exact f,World.putObj_heap_same (Array.getElem?_eq_some_iff.1 f).1,(World.putObj_heap_other (by omega)).trans (h.1.trans T)⟩
     rintro e a3 W3 hp;cases e with
     | normal =>
       obtain⟨h,E,i⟩:=hp;obtain⟨hr,f,j,k⟩:=fin none W3 h;exact⟨_,_,hr,.inl ⟨rfl,⟨hI.putObj _ i (by omega) f rfl,j,k⟩,hKt (hKt U E) (hKb _ _ _ _ (by omega) f)⟩⟩
     | ret =>
       obtain⟨h,i⟩:=hp;obtain⟨hr,f,j,k⟩:=fin (some .ret) W3 h;exact⟨_,_,hr,.inr ⟨rfl,.ret,(hIx _).putObj _ i (by omega) f rfl,j,k⟩⟩
     | exit id =>
       obtain⟨h,i⟩:=hp;obtain⟨hr,f,j,k⟩:=fin (some (.exit id)) W3 h;exact⟨_,_,hr,.inr ⟨rfl,.exit id,(hIx _).putObj _ i (by omega) f rfl,j,k⟩⟩
     | goto t =>
       obtain⟨h,i⟩:=hp;obtain⟨hr,f,j,k⟩:=fin (some (.goto t)) W3 h;exact⟨_,_,hr,.inr ⟨rfl,.goto t,(hIx _).putObj _ i (by omega) f rfl,j,k⟩⟩
     | panic ch=>exact hp.elim
     | outgrown=>exact hp.elim
   . rintro e W2 ⟨⟨v,rfl⟩,(⟨xs,hS,hi,hl,hk⟩ | ⟨pre,hSp,c,hi,hl,hk⟩)⟩
     . exact⟨none,_,by have:=run_endLoop (P:=P) hl (by rw[d];simp);rw[d]at this;exact this,hdone _ xs _ (by omega) hS (hI.putObj _ hi (by omega) hl rfl) ((World.putObj_heap_other (by omega)).trans hk)⟩
     . exact⟨some c,_,by have:=run_endLoop (P:=P) hl (by rw[d];simp);rw[d]at this;exact this,hstop _ c pre _ (by omega) hSp ((hIx c).putObj _ hi (by omega) hl rfl) ((World.putObj_heap_other (by omega)).trans hk)⟩
end
section
attribute [local go_sem] Oper.semAt_some
theorem Bw{sz:Nat}(hz:0<sz):∀(n:Nat)(b:M5)(rs:List M5)(u:Nat),b.length<=n->frs sz b=some (rs,u)-> (∀t∈rs,t.length<=65536)/\rs.length<=1000*u
 | n,b,rs,u,hn,h=>by
   by_cases h0:zer b
   . rw[jq h0]at h
     simp only[Option.some.injEq,Prod.mk.injEq]at h;obtain⟨rfl,rfl⟩:=h;simp
   . cases hdec:dE b with
     | none=>rw[mQ h0 hdec]at h;cases h
     | some q =>
       obtain⟨l,c⟩:=q;rw[jE hz h0 hdec]at h;obtain⟨hf,rfl,r,rfl⟩:=kJ hdec;have h2:=kD l;have hk:=kF hz (c:=(az l).length) (by omega);have hks:=Nat.mul_pos hk hz;split at h
       . cases h
       . rename_i r' u' hr
         simp only[Option.some.injEq,Prod.mk.injEq]at h;obtain⟨rfl,rfl⟩:=h;cases n with
         | zero=>rw[ae]at hn;omega
         | succ n =>
           obtain⟨i1,i2⟩:=Bw hz n _ _ _ (by rw[List.length_drop];omega) hr;refine⟨fun t ht=>?_,by rw[ae];have:=hf.1;omega⟩;rcases List.mem_append.1 ht with ht | ht
           . exact hf.2 t ht
           . exact i1 t ht
theorem Jn.fit{sz a u:Nat}{ss rs:List M5}(h:Jn sz ss a rs u)(hn:ss.length<=100): (∀t∈rs,t.length<=65536)/\rs.length<=49000:=by
 obtain⟨h1,h2⟩:=Bw h.sz0 _ _ _ _ ai h.recs;have:=h.u_le;unfold hf at this;exact⟨h1,by omega⟩
theorem Lr{p:List Itm}(hp:PlOk p){L:List M5}(h:∀i∈p,toL i.2∈L):p.length<=L.length:=by
 have hn: (p.map fun i=>toL i.2).Nodup:=by
  rw[List.Nodup,List.pairwise_map];refine hp.asc.imp_of_mem ?_;intro a b ha hb hl e;have:a.1=b.1:=by rw[hp.dg a ha,hp.dg b hb,e]
  rw[this]at hl;exact gK _ hl
 have:=oM hn (m:=L) (fun x hx=>by obtain⟨i,hi,rfl⟩:=List.mem_map.1 hx;exact h i hi)
 rwa[List.length_map]at this
theorem qg:∀gs:List Gru,(grO gs).length<= (recs gs).length
 | []=>by simp[grO,recs]
 | g::gs=>by
   have:=qg gs;simp only[grO,recs,aM,List.flatMap_cons,ae,Z5]at this ⊢;omega
theorem Mt.few{gs:List Gru}{p:List Itm}{rs:List Rf}{lg:List Upd}(h:Mt gs p rs lg){sz a u:Nat}{ss:List M5}(hj:Jn sz ss a (recs gs) u)(hn:ss.length<=100):p.length<=49000/\lg.length<=1000/\ (∀u∈lg,u.1.size<=65536/\WfU u):=by
 have h1:=(hj.fit hn).2;have h2:=qg gs;refine⟨Z0 (Lr h.pl fun i hi=>(h.ob _).2 ⟨i,hi,rfl⟩) (by omega),gY h.rf,fun u hu=>?_⟩;rw[h.lo]at hu;obtain⟨g,hg,hu⟩:=List.mem_flatMap.1 hu;exact(h.ok g hg).us u hu
theorem Kh(l:List Upd):∀u∈flat upC l,u.oneCell'=true:=fun u hu=>by
 unfold flat at hu;obtain⟨i,_,h⟩:=List.mem_flatMap.1 hu;simp[upC]at h;rcases h with rfl | rfl | rfl | rfl | rfl <;> rfl
theorem tF(gs:List Gru)(g:Gru):grO (gs++ [g])=grO gs++g.2:=by simp[grO]
theorem uo(gs:List Gru)(g:Gru):grU (gs++ [g])=grU gs++g.1:=by simp[grU]
theorem Sl.putLp{w:MZ}{B size n l:Nat}{A:OA}{xs:List M4}(h:Sl w B size A n xs)(h0:0<size){r:Loop}{o':Obj}(hl:w.heap[l]? =some (.loop r)):Sl (w.putObj l o') B size A n xs :=
 h.avoid fun b off e hn hc=>World.putObj_heap_other (fun e=>by
  subst e;have hll:0<xs.length:=by rw[h.1];exact Nat.mul_pos hn h0
  have:=hc 0 _ (Z6 hll);simp[World.cell?,hl]at this)
theorem Sl.noCell{w w':MZ}{B size n b:Nat}{A:OA}{xs:List M4}(h:Sl w B size A n xs)(h0:0<size)(hb:∀o,w.cell? ⟨b,o,none⟩=none)(hw:∀k,k≠b->w'.heap[k]? =w.heap[k]?):Sl w' B size A n xs :=
 h.avoid fun g off e hn hc=>hw g (fun e=>by
  subst e;have hll:0<xs.length:=by rw[h.1];exact Nat.mul_pos hn h0
  have:=hc 0 _ (Z6 hll);rw[hb]at this;cases this)
theorem RpM.noCell{w w':MZ}{B b:Nat}{r:Rp}{s:Rsl}(h:RpM w B r s)(hb:∀o,w.cell? ⟨b,o,none⟩=none)(hw:∀k,k≠b->w'.heap[k]? =w.heap[k]?):RpM w' B r s :=
 ⟨⟨h.d.ss.noCell (by omega) hb hw,h.d.pn.noCell (by omega) hb hw⟩,h.p.noCell (by omega) hb hw,h.rf.noCell (by omega) hb hw,h.l.noCell (by omega) hb hw,h.pc,h.pm⟩
theorem LF{fn:Func}{c1 c2:Tmp}(h:fn.results= #[.cell c1 35,.cell c2 36]){w:MZ}{a:Array M4}{b1 b2:Nat}{x0 x1 x2 x3 x4 x5 x6 e:M4}(h1:a[c1]?.getD undef= .pointer (some ⟨b1,0,none⟩))(h2:a[c2]?.getD undef= .pointer (some ⟨b2,0,none⟩))(k1:Bk w b1 35 #[x0,x1,x2,x3,x4,x5,x6])(k2:Bk w b2 36 #[e]) :
  (results fn a).run Tryz.prog w= .ok (.tuple #[.agg #[x0,x1,x2,x3,x4,x5,x6],e]) w:=by
 obtain⟨⟨p0,p1,p2,p3⟩,p4,p5,p6⟩:=k1.seven;have b:=k2.cell 0;simp at b;simp[results,h,h1,h2,go_sem,p0,p1,p2,p3,p4,p5,p6,b]
structure OpI(w V:MZ)(s:Nat)(pre:List Gx)(no nu:Nat)(Ao:OA)(co:Nat)(Au:OA)(cu:Nat)(W:MZ):Prop where
 low:∀k,k<s+4->k≠s+1->k≠s+2->W.heap[k]? =V.heap[k]?
 kO:Bk W (s+1) 22 #[.slice Ao no co]
 kU:Bk W (s+1+1) 31 #[.slice Au nu cu]
 oO:W.ownsRow (s+6) 9 1 (.slice Ao no co) no (flat aA (grO (gxG pre)))
 oU:W.ownsRow (s+6) 85 5 (.slice Au nu cu) nu (flat upC (grU (gxG pre)))
 b:Below w.heap.size w W
 z:s+4<=W.heap.size
 co:no<=co/\co<=maxLen
 cu:nu<=cu/\cu<=maxLen
section
variable {w V W W' : MZ} {s no nu co cu : Nat} {pre : List Gx} {Ao Au : OA}
theorem OpI.keep(h:OpI w V s pre no nu Ao co Au cu W)(hb:Below w.heap.size W W')(hk:∀k,k<s+4->W'.heap[k]? =W.heap[k]?)(hr:∀k e cur,s+6<=k->W.heap[k]? =some (.cells cur e (0,0))->W'.heap[k]? =W.heap[k]?):OpI w V s pre no nu Ao co Au cu W' :=
 ⟨fun k h1 h2 h3=>(hk k h1).trans (h.low k h1 h2 h3),(hk _ (by omega)).trans h.kO,(hk _ (by omega)).trans h.kU,gX h.oO fun k e=>by obtain⟨h1,cur,h2⟩:=bU h.oO e;exact hr k _ cur h1 h2,gX h.oU fun k e=>by obtain⟨h1,cur,h2⟩:=bU h.oU e;exact hr k _ cur h1 h2,h.b.trans hb,Z0 h.z hb.size,h.co,h.cu⟩
end
end
def PlP(r:Rp)(a u:Nat)(pl:fC)(r':Rp)(y:Int):Prop:=match pl with
 | .no=>r'=r/\y≠0/\y≠20
 | .keep=>r'=r/\y=0
 | .app g p rs lg=>r'= (eX r (bS r.d a u (aM g)) p rs lg).1/\y= (bS r.d a u (aM g)).2
 | .rew g p rs lg=>r'= (eX r (bZ r.d a (aM g)) p rs lg).1/\y= (bZ r.d a (aM g)).2
theorem after_done{r:Rp}{Y:Dk×Int}{p:List Itm}{rs:List Rf}{lg:List Upd}: (after r Y p rs lg).2=Y.2/\ (if(after r Y p rs lg).2=0∨ (after r Y p rs lg).2=20 then(after r Y p rs lg).1 else r)= (eX r Y p rs lg).1:=by
 unfold after eX;by_cases h1:Y.2=0
 . rw[if_pos h1,if_pos h1];exact⟨h1.symm,if_pos (.inl rfl)⟩
 . rw[if_neg h1,if_neg h1]
   by_cases h2:Y.2=20
   . rw[if_pos h2,if_pos h2];exact⟨h2.symm,if_pos (.inr rfl)⟩
   . rw[if_neg h2,if_neg h2];exact⟨rfl,if_neg (fun h=>h.elim h1 h2)⟩
theorem PlP.of{r r':Rp}{Y:Dk×Int}{p:List Itm}{rs:List Rf}{lg:List Upd}{y:Int}(h1:r'= (after r Y p rs lg).1)(h2:y= (after r Y p rs lg).2): (if y=0∨y=20 then r' else r)= (eX r Y p rs lg).1/\y=Y.2:=by
 subst h1;subst h2;exact⟨after_done.2,after_done.1⟩
theorem ExE.o{r:Rp}{a u:Nat}{pl:fC}{w w':MZ}{e:Ending}(h:ExE r a u pl w e w'):∃r' y,dw r' y w e w'/\PlP r a u pl (if y=0∨y=20 then r' else r) y:=by
 cases pl with
 | no =>
   obtain⟨x,h1,h2,h3⟩:=h;exact⟨_,_,h3,if_neg (fun h=>h.elim h1 h2),h1,h2⟩
 | keep=>exact⟨_,_,h,if_pos (.inl rfl),rfl⟩
 | app g p rs lg=>exact⟨_,_,h,PlP.of rfl rfl⟩
 | rew g p rs lg=>exact⟨_,_,h,PlP.of rfl rfl⟩
theorem CmtE.o{r:Rp}{a u:Nat}{t:fC×Dig}{w w':MZ}{e:Ending}(h:CmtE r a u t w e w'):∃r' d y,jb r' d y w e w'/\PlP r a u t.1 (if y=0∨y=20 then r' else r) y:=by
 obtain⟨pl,d⟩:=t;cases pl with
 | no =>
   obtain⟨x,h1,h2,h3⟩:=h;exact⟨_,_,_,h3,if_neg (fun h=>h.elim h1 h2),h1,h2⟩
 | keep=>exact⟨_,_,_,h,if_pos (.inl rfl),rfl⟩
 | app g p rs lg=>exact⟨_,_,_,h,PlP.of rfl rfl⟩
 | rew g p rs lg=>exact h.elim
theorem Fg(p:List Itm)(rs:List Rf)(lg:List Upd):fD p rs lg= .keep∨∃g p' rs' lg',fD p rs lg= .rew g p' rs' lg':=by
 unfold fD;split
 . exact .inl rfl
 . exact .inr ⟨_,_,_,_,rfl⟩
theorem CoE.o{r:Rp}{a u:Nat}{w w':MZ}{e:Ending}(h:CoE r a (fD r.p r.rs r.lg) w e w'):∃r' n y,lD r' n y w e w'/\PlP r a u (fD r.p r.rs r.lg) (if y=0∨y=20 then r' else r) y:=by
 rcases Fg r.p r.rs r.lg with h1 | ⟨g,p',rs',lg',h1⟩ <;> rw[h1]at h ⊢
 . exact⟨_,_,_,h,if_pos (.inl rfl),rfl⟩
 . exact⟨_,_,_,h,PlP.of rfl rfl⟩
def DoP(r:Rp)(a u:Nat)(x:Ac)(r':Rp)(y:Int):Prop :=
 ((0<=x.kind/\x.kind<=2)/\r.d.lf=0/\r'=r/\y=20)∨ ((0<=x.kind/\x.kind<=2)/\r.d.lf≠0/\PlP r a u (iw x r.p r.rs r.lg) r' y)∨ (¬(0<=x.kind/\x.kind<=2)/\RI r')
structure Lvs(r:Rp)(gs:List Gru)(a u:Nat):Prop where
 d:Dur r.d (recs gs)
 j:Jn r.d.sz r.d.ss a (recs gs) u
 m:Mt gs r.p r.rs r.lg
 n:r.p.length<=49000
theorem RI.lv{r:Rp}(h:RI r)(hl:r.d.lf≠0):∃gs a u,Lvs r gs a u:=by
 obtain⟨gs,a,u,h1,h2,h3⟩:=h.live hl;exact⟨gs,a,u,h1,h2,h3,(h3.few h2 h.n).1⟩
theorem zP{gs:List Gru}{x:Ac}{p:List Itm}{rs:List Rf}{lg:List Upd}(h:Mt gs p rs lg)(hp:p.length<=49000)(hx:AcF x):jy gs (iw x p rs lg):=by
 unfold iw;split
 . exact tY h (by have:=hx.nm;omega)
 . split
   . exact uB h (fun u hu=>⟨by have:=hx.us u hu;omega,hx.uw u hu⟩)
   . exact Iw h hp
theorem PlP.ri{r r':Rp}{gs:List Gru}{a u:Nat}{pl:fC}{y:Int}(hr:RI r)(h:Lvs r gs a u)(hp:jy gs pl)(hd:PlP r a u pl r' y):RI r':=by
 cases pl with
 | no=>rw[hd.1];exact hr
 | keep=>rw[hd.1];exact hr
 | app g p rs lg =>
   rw[hd.1];have ho:=BV h.d h.j (l:=aM g);rw[<-sV]at ho;exact zZ hr h.m ho hp
 | rew g p rs lg =>
   rw[hd.1];have ho:=BJ h.d h.j (l:=aM g);refine zZ (gs':= [g]) (l:=aM g) hr h.m ?_ (fun _=>hp);rw[Aw];exact ho
theorem DoP.ri{r r':Rp}{gs:List Gru}{a u:Nat}{x:Ac}{y:Int}(hr:RI r)(h:r.d.lf≠0->Lvs r gs a u)(hx:AcF x)(hd:DoP r a u x r' y):RI r':=by
 rcases hd with ⟨_,_,h1,_⟩ | ⟨_,h1,h2⟩ | ⟨_,h1⟩
 . rw[h1];exact hr
 . exact h2.ri hr (h h1) (zP (h h1).m (h h1).n hx)
 . exact h1
section
attribute [local go_sem] Oper.semAt_some
theorem tu(r:Rp)(gs:List Gru)(a u:Nat)(s:Dsl)(B:Nat)(w:MZ)(hd:r.d.Ok)(hpn:r.d.pn= [])(hj:Jn r.d.sz r.d.ss a (recs gs) u)(hM:Mt gs r.p r.rs r.lg)(hm:DkM w B r.d s)(hB:B<=w.heap.size)(hn:r.d.ss.length<=100) :
  Calls Tryz.prog 11 #[dkV r.d s] w (dw r 0 w):=by
 refine(callsIn_wide (n:=6)).1 ?_;obtain⟨d,p,rs,lg⟩:=r;simp only at hd hpn hj hM hm hn ⊢;obtain⟨cQ,ck⟩:=hj.fit hn;obtain⟨gv,gw,cR⟩:=hM.few hj hn;have gx:=kR hM.rf;obtain⟨W,hW⟩:=NX9 (((w.alloc (.cells (dkC d s) 25)).alloc (.cells rzC 35)).alloc (.cells #[.int .i64 0] 36))
 have zW:W.heap.size=w.heap.size+3:=by rw[<-hW];simp
 have cS:Hid (Below w.heap.size w W):=by rw[<-hW];exact(((af _ w).alloc ai _).alloc (by simp) _).alloc (by simp;omega) _
 have HK:Hid (Bk W w.heap.size 25 (dkC d s)):=by rw[<-hW];exact((Bk.new w _ _).alloc _).alloc _
 have fc:Hid (Bk W (w.heap.size+1) 35 rzC):=by rw[<-hW];exact((Bk.new _ _ _).at_ (by simp)).alloc _
 have fd:Hid (Bk W (w.heap.size+1+1) 36 #[.int .i64 0]):=by rw[<-hW];exact(Bk.new _ _ _).at_ (by simp)
 have HM:Hid (DkM W B d s):=hm.below cS.o hB;have bf:=ah (EM d s B a u (recs gs) W hd hpn hj HM.o (by omega));unfold CY at bf;have HW:=ah hW;have J:=ah hM;have ff:=ah cQ;have fg:=ah cR;have fh:=ah (yB hM.rf);have cl:=ah hM.lo;clear hW hm hd hj hM cQ cR;have cm:d.pn.length=0:=by rw[hpn];rfl
 obtain⟨n,cn⟩:=NX9 d.ss.length
 have HN:=ah cn;have fi:=ah cm;obtain⟨m,cp⟩:=NX9 ((recs gs).length)
 have cT:=ah cp;simp only[dkV,dkC,cn,cm,cp]at bf HK HW hn ck ⊢;clear cn cm hpn cp;refine callsIn_of_wp_marks Tryz.func11 rfl trivial ?_ rfl;simp only[Tryz.ntmps11,List.size_toArray,Z5,List.length_nil,Nat.reduceAdd,Nat.reduceSub,Array.replicate_succ,Array.replicate_zero,List.push_toArray,List.append_toArray,List.nil_append,List.cons_append];obtain⟨k0,k1,k2,k3⟩:=HK.o.dk4
 gi_wp2_with fail
 rw[HW.o];refine⟨trivial,(callsIn_wide.2 bf.o).mono ?_⟩;rintro e w1 ⟨A,c,rfl,t,fj,gA,bg⟩;obtain⟨k0,k1,k2,k3⟩:=(HK.o.below bg (by omega)).dk4;have fk:=ah t;have bh:=ah bg;have z1:=bg.size;clear bg t bf;obtain⟨s1,t⟩:=NX9 w1.heap.size
 obtain⟨w6,X⟩:=NX9 ((((w1.alloc (.cells #[.int .i64 d.sz,.slice s.a1 n s.c1,.slice s.a2 0 s.c2,.int .i64 d.lf,.slice none 0 0,.slice none 0 0,.slice none 0 0] 35)).alloc (.cells #[.slice none 0 0] 22)).alloc (.cells #[.slice none 0 0] 31)))
 gi_wp2_with fail
 refine⟨trivial,(callsIn_wide.2 (FJ A m c w6)).mono ?_⟩;rintro e w7 ⟨rfl,bi⟩;have z6:w6.heap.size=s1+3:=by rw[<-X,<-t];simp
 have z7:w7.heap.size=s1+4:=by rw[bi];simp;omega
 have cV:Below s1 w1 w6:=by rw[<-X,<-t];exact(((af _ w1).alloc ai _).alloc (by simp) _).alloc (by simp;omega) _
 have L:Below (s1+3) w6 w7:=by rw[bi,<-z6];exact(af _ w6).alloc ai _
 have ad:Hid (Bk w7 s1 35 #[.int .i64 d.sz,.slice s.a1 n s.c1,.slice s.a2 0 s.c2,.int .i64 d.lf,.slice none 0 0,.slice none 0 0,.slice none 0 0]):=by
  have:Bk w6 s1 35 #[.int .i64 d.sz,.slice s.a1 n s.c1,.slice s.a2 0 s.c2,.int .i64 d.lf,.slice none 0 0,.slice none 0 0,.slice none 0 0]:=by rw[<-X,<-t];exact((Bk.new w1 _ _).alloc _).alloc _
  exact this.below L (by omega)
 have cq:Hid (Bk w7 (s1+1) 22 #[.slice none 0 0]):=by
  have:Bk w6 (s1+1) 22 #[.slice none 0 0]:=by rw[<-X,<-t];exact((Bk.new _ _ _).at_ (by simp)).alloc _
  exact this.below L (by omega)
 have cr:Hid (Bk w7 (s1+1+1) 31 #[.slice none 0 0]):=by
  have:Bk w6 (s1+1+1) 31 #[.slice none 0 0]:=by rw[<-X,<-t];exact(Bk.new _ _ _).at_ (by simp)
  exact this.below L (by omega)
 have cs:Hid (Bk w7 (s1+3) 22 #[.slice A m c]):=by rw[bi];exact(Bk.new _ _ _).at_ z6
 have O:Hid (Below s1 w1 w7):=cV.trans (L.mono (by omega));have ag:Hid (Below w.heap.size w w7):=cS.o.trans ((bh.o.trans (O.o.mono (by omega))).mono (by omega));have ct:Hid (Sl w7 s1 1 A m (flat aA (recs gs))):=by have:=fk.o.below O.o (by omega);rw[t]at this;exact this
 have cv:Hid (OpI w w7 s1 [] 0 0 none 0 none 0 w7):=⟨fun _ _ _ _=>rfl,cq.o,cr.o,World.ownsRow_nil _ _ _ _,World.ownsRow_nil _ _ _ _,ag.o,by omega,⟨Nat.le_refl _,ZZ _⟩,⟨Nat.le_refl _,ZZ _⟩⟩
 have gC:w.heap.size+3<=s1:=by omega
 have cW:Hid (∀g∈gs,GOk g):=J.o.ok;obtain⟨iS,cX,cY,da,db⟩:=info_parts iT;obtain⟨iU,dc,dd,de,dj⟩:=info_parts qo;have fl:=ah cX;have fm:=ah cY;have dk:=ah da;have fn:=ah db;have fp:=ah dc;have fr:=ah dd;have fs:=ah de;have ft:=ah dj;clear bi X cV L k0 k1 k2 k3 t cX cY da db dc dd de dj
 gi_wp2
 refine D7 (α:=Gx) (F:=Fence.wide) (n:=6) rfl (by omega) (gf:=79) (lb:=#[.pointer (some ⟨s1+3,0,none⟩)]) rfl trivial (enters_of Tryz.func79 (by kernel_rfl) rfl)
  (FR 5 (s1+3) s1 (w7.heap.size+2) (by omega) A m c gs w7 cs.o ct.o (by omega) fj (by omega) cW.o ff.o) KeepG.trans (fun W l r o' hl hlr=>⟨fun k hk=>World.putObj_heap_other (by omega),World.putObj_heap_other (by omega)⟩) (fun A C h hA=>⟨h.block _ (by omega),h.block _ (by omega)⟩) (af _ _) (fun _=>rfl)
  (fun pre W=>∃Ao co Au cu,OpI w w7 s1 pre (grO (gxG pre)).length (grU (gxG pre)).length Ao co Au cu W) (fun _ _ _=>False)
  ?hI ?hIx ?hIS ⟨none,0,none,0,cv.o⟩
  (fun xs b W=>s1+6<=b/\∀pre x,xs=pre++ [x]->Bk W b 92 #[.slice x.1.1 x.1.2.1 x.1.2.2,.slice x.2.1.1 x.2.1.2.1 x.2.1.2.2,.bool false]/\GxM W x/\∃M,gxG xs++M=gs)
  ?hAp ?a1 ?assign ?body ?done ?stop
 case hI =>
  rintro pre A1 C fv ⟨Ao,co,Au,cu,h⟩ hg hr;refine⟨Ao,co,Au,cu,h.keep ((af _ A1).grown hg h.b.size (fun k e=>by have:=(hr _ e).1;omega)) (fun k hk=>hg.block k (by have:=h.z;omega) (fun e=>by have:=(hr _ e.symm).1;omega)) (fun k e f hk hc=>hg.block k (Array.getElem?_eq_some_iff.1 hc).1 (fun e2=>?_))⟩;obtain⟨_,o,ho,fx⟩:=hr _ e2.symm;rw[hc]at ho;cases ho;cases fx
 case hIx=>rintro c pre A1 C fv hf _ _;exact hf
 case hIS =>
  rintro pre A1 C ⟨Ao,co,Au,cu,h⟩ hs;exact⟨Ao,co,Au,cu,h.keep (hs.mono h.b.size) (fun k hk=>hs.block k (by have:=h.z;omega)) (fun k e f hk hc=>hs.block k (Array.getElem?_eq_some_iff.1 hc).1)⟩
 case hAp =>
  rintro xs b W l r o hl ⟨hb,hx⟩;refine⟨hb,fun pre x e=>?_⟩;obtain⟨h1,h2,h3⟩:=hx pre x e;refine⟨(World.putObj_heap_other (fun e=>?_)).trans h1,⟨h2.u.keepB (fun k f _ hc=>World.putObj_heap_other (fun e=>by subst e;rw[hl]at hc;cases hc)),by have:=h2.o.putLp (by omega) hl (o':=o);simpa using this,h2.ul,h2.ol⟩,h3⟩;subst e;have:W.heap[b]? =_:=h1;rw[hl]at this;cases this
 case assign =>
  rintro l pre x W' K hP dl ⟨Ao,co,Au,cu,h⟩ hK;have fy:=ah hK;have HI:=ah h;have HP:=ah (hP pre x rfl);clear hK h hP;simp only[gxV]
  gi_wp2
  have hb:Below W'.heap.size W' (W'.alloc (.cells #[.slice x.1.1 x.1.2.1 x.1.2.2,.slice x.2.1.1 x.2.1.2.1 x.2.1.2.2,.bool false] 92)):=(af _ W').alloc ai _;have dn:=Bk.new W' 92 #[.slice x.1.1 x.1.2.1 x.1.2.2,.slice x.2.1.1 x.2.1.2.1 x.2.1.2.2,.bool false];have fz:=HI.o.z;obtain⟨bx,dp⟩:=NX9 W'.heap.size
  rw[dp]at hb dn dl fz ⊢;refine fy.o bx _ ⟨hb.block _ (by omega),hb.block _ (by omega)⟩ ⟨fun k hk=>hb.block _ (by omega),hb.block _ (by omega)⟩ ⟨Ao,co,Au,cu,HI.o.keep (hb.mono (by have:=HI.o.b.size;omega)) (fun k hk=>hb.block k (by omega)) (fun k e f hk hc=>hb.block k (by have:=(Array.getElem?_eq_some_iff.1 hc).1;omega))⟩ ⟨by omega,fun pre' y he=>?_⟩;have e:=congrArg List.getLast? he;simp at e;subst e;exact⟨dn,⟨HP.o.2.u.keepB (fun k f _ hc=>hb.block k (by have:=(Array.getElem?_eq_some_iff.1 hc).1;omega)),(HP.o.2.o.below hb (by omega)).more (by simp),HP.o.2.ul,HP.o.2.ol⟩,HP.o.1⟩
 case body =>
  rintro l pre x bx W' dl ⟨Ao,co,Au,cu,h⟩ ⟨dp,hx⟩;obtain⟨hk,bj,P⟩:=hx pre x rfl;have HI:=ah h;have cw:=ah hk;have al:=ah bj;have am:Hid (gxG (pre++ [x])=gxG pre++ [x.2.2]):=kK _ _;have gE:=hk.lt;have an: (grO (gxG pre)).length+x.2.1.2.1<=49000:=by
   obtain⟨M,hr⟩:=P;rw[bj.ol,<-ae,<-tF,<-kK];have h1:=qg gs;have h2:=cT.o;rw[<-hr]at h1 h2;have h3: (grO (gxG (pre++ [x]))).length<= (grO (gxG (pre++ [x])++M)).length:=by simp[grO]
   omega
  have ao: (grU (gxG pre)).length+x.1.2.1<=1000:=by
   obtain⟨M,hr⟩:=P;rw[bj.ul,<-ae,<-uo,<-kK];have h1:=cl.o;rw[<-hr]at h1;have h3: (grU (gxG (pre++ [x]))).length<= (grU (gxG (pre++ [x])++M)).length:=by simp[grU]
   rw[<-h1]at h3;omega
  obtain⟨nO,Q⟩:=NX9 ((grO (gxG pre)).length)
  obtain⟨nU,cx⟩:=NX9 ((grU (gxG pre)).length)
  rw[Q]at an HI;rw[cx]at ao HI;have fA:=ah Q;have fL:=ah cx;have cO:=HI.o.kO.cell 0;have fO:=HI.o.kO.free 0;have cU:=HI.o.kU.cell 0;have fU:=HI.o.kU.free 0;obtain⟨g0,g1,g2⟩:=hk.three;simp at cO cU;obtain⟨⟨uA,un,uc⟩,⟨oA,on,oc⟩,gu,go⟩:=x;simp only at al cw an ao g0 g1 g2 am;have HZ:=HI.o.z;clear h hk bj hx P Q cx cv ad cq cr cs O ag ct
  gi_wp2_with (gi_at_builtin;refine aN ?_)
  refine aF ?_;refine nP (base:=s1+6) (size:=1) rfl (.tmp 31) (.tmp 33) 22 rfl 9 iS _ 16 Tryz.underlying22 fl.o fm.o dk.o fn.o rfl (by decide) (.slice Ao nO co) nO _ rfl HI.o.oO W'.heap.size oA on oc (flat aA go) rfl al.o.o (fun v hv=>by unfold flat aA at hv;simp at hv;obtain⟨_,_,rfl⟩:=hv;rfl) (by unfold maxLen;omega) (by omega) (by omega) ?_;intro A4 c4 w4 cy ap bp bq;rw[<-bu]at cy;have gO:=ap.size;have cz:Hid (∀k,k<s1+6->w4.heap[k]? =W'.heap[k]?):=fun k hk=>ap.block k (by omega) (fun e=>by have:=(bU HI.o.oO e.symm).1;omega);have cA:Hid (∀(k:Nat)(e:TypeId)(f:Array M4),e≠9->W'.heap[k]? =some (.cells f e (0,0))->w4.heap[k]? =W'.heap[k]?):=fun k e f he hc=>ap.block k (Array.getElem?_eq_some_iff.1 hc).1 (fun e2=>by
   obtain⟨_,dq,h2⟩:=bU HI.o.oO e2.symm;rw[hc]at h2;cases h2;exact he rfl)
  have cC:Hid (Below w.heap.size w w4):=HI.o.b.grown ap HI.o.b.size (fun k e=>by have:=(bU HI.o.oO e).1;omega);have dr:Hid (Bk w4 bx 92 #[.slice uA un uc,.slice oA on oc,.bool false]):=(cA.o bx _ _ (by decide) cw.o).trans cw.o;have R:Hid (Bk w4 (s1+1) 22 #[.slice Ao nO co]):=(cz.o _ (by omega)).trans HI.o.kO;have aq:Hid (Bk w4 (s1+1+1) 31 #[.slice Au nU cu]):=(cz.o _ (by omega)).trans HI.o.kU;have ds:Hid (w4.ownsRow (s1+6) 85 5 (.slice Au nU cu) nU (flat upC (grU (gxG pre)))):=gX HI.o.oU fun k e=>by obtain⟨_,f,h2⟩:=bU HI.o.oU e;exact cA.o k _ f (by decide) h2
  have fN:Hid (Apd w4 0 85 5 uA un uc (flat upC gu)):=al.o.u.keepB fun k f _ hc=>cA.o k _ f (by decide) hc;have dt:=ah cy;have du:=ah bp;have dv:=ah bq;clear cy ap bp bq cO fO cU fU g0 g1 g2;have cO:=R.o.cell 0;have fO:=R.o.free 0;have cU:=aq.o.cell 0;have fU:=aq.o.free 0;obtain⟨g0,g1,g2⟩:=dr.o.three;simp at cO cU;have br:s1+1+1≠s1+1:=by omega
  have gt:bx≠s1+1:=by omega
  have dx:bx≠s1+1+1:=by omega
  gi_wp2_with (gi_at_builtin;refine aN ?_)
  obtain⟨W5,Y⟩:=NX9 (w4.setCell ⟨s1+1,0,none⟩ (.slice A4 (nO+on) c4))
  have ar:Hid (∀k,k≠s1+1->W5.heap[k]? =w4.heap[k]?):=fun k hk=>by rw[<-Y];exact Z8 _ _ _ k hk
  have dy:Hid (Bk W5 (s1+1) 22 #[.slice A4 (nO+on) c4]):=by rw[<-Y];show Bk _ _ _ _;have:=R.o.set 0 (.slice A4 (nO+on) c4);simpa using this
  have dN:Hid (Below w.heap.size w W5):=by rw[<-Y];exact cC.o.setCell (p:=⟨s1+1,0,none⟩) (by show w.heap.size<=s1+1;omega) _
  have z5:W5.heap.size=w4.heap.size:=by rw[<-Y];simp
  rw[Y];have bk:Hid (W5.ownsRow (s1+6) 85 5 (.slice Au nU cu) nU (flat upC (grU (gxG pre)))):=gX ds.o fun k e=>ar.o k (by have:=(bU ds.o e).1;omega);have fR:Hid (Apd W5 0 85 5 uA un uc (flat upC gu)):=fN.o.keepB fun k f _ hc=>ar.o k (fun e=>by
   subst e;have h1:w4.heap[s1+1]? =_:=R.o;rw[hc]at h1;cases h1)
  have bs:Hid (W5.ownsRow (s1+6) 9 1 (.slice A4 (nO+on) c4) (nO+on) (flat aA (grO (gxG pre)++go))):=gX dt.o fun k e=>ar.o k (by have:=(bU dt.o e).1;omega);have dT:Hid (Bk W5 (s1+1+1) 31 #[.slice Au nU cu]):=(ar.o _ br).trans aq.o;clear Y cO fO cU fU g0 g1 g2;refine aF ?_;refine nP (base:=s1+6) (size:=5) rfl (.tmp 35) (.tmp 37) 31 rfl 85 iU _ 48 Tryz.underlying31 fp.o fr.o fs.o ft.o rfl (by decide) (.slice Au nU cu) nU _ rfl bk.o W5.heap.size uA un uc (flat upC gu) rfl fR.o.sl (Kh gu) (by unfold maxLen;omega) (by omega) (by omega) ?_;intro A6 c6 H cD au bt bv;rw[<-bu]at cD;have gR:=au.size;have cE:Hid (∀k,k<s1+6->H.heap[k]? =W5.heap[k]?):=fun k hk=>au.block k (by omega) (fun e=>by have:=(bU bk.o e.symm).1;omega);have ad:Hid (∀(k:Nat)(e:TypeId)(f:Array M4),e≠85->W5.heap[k]? =some (.cells f e (0,0))->H.heap[k]? =W5.heap[k]?):=fun k e f he hc=>au.block k (Array.getElem?_eq_some_iff.1 hc).1 (fun e2=>by
   obtain⟨_,dq,h2⟩:=bU bk.o e2.symm;rw[hc]at h2;cases h2;exact he rfl)
  have fS:Hid (Below w.heap.size w H):=dN.o.grown au dN.o.size (fun k e=>by have:=(bU bk.o e).1;omega);have bw:Hid (H.ownsRow (s1+6) 9 1 (.slice A4 (nO+on) c4) (nO+on) (flat aA (grO (gxG pre)++go))):=gX bs.o fun k e=>by obtain⟨_,f,h2⟩:=bU bs.o e;exact ad.o k _ f (by decide) h2
  have ea:Hid (Bk H (s1+1) 22 #[.slice A4 (nO+on) c4]):=(cE.o _ (by omega)).trans dy.o;have av:Hid (Bk H (s1+1+1) 31 #[.slice Au nU cu]):=(cE.o _ (by omega)).trans dT.o;have eb:=ah cD;have ec:=ah bt;have ed:=ah bv;clear cD au bt bv;have cU:=av.o.cell 0;have fU:=av.o.free 0;simp at cU
  gi_wp2
  have S:∀k,k≠s1+1+1-> (H.setCell ⟨s1+1+1,0,none⟩ (.slice A6 (nU+un) c6)).heap[k]? =H.heap[k]? :=fun k hk=>Z8 _ _ _ k hk;have j:∀k,k<s1+6->k≠s1+1->k≠s1+1+1-> (H.setCell ⟨s1+1+1,0,none⟩ (.slice A6 (nU+un) c6)).heap[k]? =W'.heap[k]? :=fun k h1 h2 h3=>(S k h3).trans ((cE.o k h1).trans ((ar.o k h2).trans (cz.o k h1)));have ee: (grO (gxG (pre++ [((uA,un,uc),(oA,on,oc),gu,go)]))).length=nO+on:=by rw[am.o,tF,ae,fA.o];show nO+go.length=nO+on;have:=al.o.ol;simp only at this;omega
  have ef: (grU (gxG (pre++ [((uA,un,uc),(oA,on,oc),gu,go)]))).length=nU+un:=by rw[am.o,uo,ae,fL.o];show nU+gu.length=nU+un;have:=al.o.ul;simp only at this;omega
  refine⟨⟨j _ (by omega) (by omega) (by omega),j _ (by omega) (by omega) (by omega)⟩,⟨fun k hk=>j k (by omega) (by omega) (by omega),j _ (by omega) (by omega) (by omega)⟩,A4,c4,A6,c6,?_⟩;rw[ee,ef];refine⟨fun k h1 h2 h3=>(j k (by omega) h2 h3).trans (HI.o.low k h1 h2 h3),(S _ (by omega)).trans ea.o,?_,?_,?_,fS.o.setCell (p:=⟨s1+1+1,0,none⟩) (by show w.heap.size<=s1+1+1;omega) _,by simp;omega,⟨du.o,dv.o⟩,⟨ec.o,ed.o⟩⟩
  . have:=av.o.set 0 (.slice A6 (nU+un) c6);simpa using this
  . rw[am.o,tF];exact gX bw.o fun k e=>S k (by have:=(bU bw.o e).1;omega)
  . rw[am.o,uo];exact gX eb.o fun k e=>S k (by have:=(bU eb.o e).1;omega)
 case stop=>intro D c pre W _ _ h;exact h.elim
 case done =>
  rintro D xs W' hD hS ⟨Ao,co,Au,cu,hi⟩ hK;rw[hS]at hi;have eg: (grU gs).length=lg.length:=by rw[<-cl.o]
  have fW: (grO gs).length<=49000:=by have h1:=qg gs;have h2:=cT.o;omega
  obtain⟨nO,Q⟩:=NX9 ((grO gs).length)
  rw[eg,Q]at hi;rw[Q]at fW;have eh:Bk W' s1 35 #[.int .i64 d.sz,.slice s.a1 n s.c1,.slice s.a2 0 s.c2,.int .i64 d.lf,.slice none 0 0,.slice none 0 0,.slice none 0 0]:=(hi.low s1 (by omega) (by omega) (by omega)).trans ad.o;have fX:Hid (W'.heap[D]? =some (.deferred (some []))):=hK;have cF:=hi.oO;have cG:=hi.oU;rw[hS]at cF cG;have HI:=ah hi;have fY:=ah eh;have gS:D<W'.heap.size:=(Array.getElem?_eq_some_iff.1 hK).1;have cO:=hi.kO.cell 0;have cU:=hi.kU.cell 0;simp at cO cU;have ga:Hid (grU gs=lg):=cl.o.symm;have ei:Hid (Bk W' (w.heap.size+1) 35 rzC):=(hi.low _ (by omega) (by omega) (by omega)).trans (fc.o.below (bh.o.trans (O.o.mono (by omega))) (by omega));have ej:Hid (Bk W' (w.heap.size+1+1) 36 #[.int .i64 0]):=(hi.low _ (by omega) (by omega) (by omega)).trans (fd.o.below (bh.o.trans (O.o.mono (by omega))) (by omega));have gb:Hid (DkM W' s1 d s):=by
   have:=(HM.o.below (bh.o.trans (O.o.mono (by omega))) (by omega)).more (show B<=w.heap.size by omega);have el:∀k,k<w.heap.size->W'.heap[k]? =w7.heap[k]? :=fun k hk=>hi.low k (by omega) (by omega) (by omega);exact⟨(this.ss.low el).more (by omega),(this.pn.low el).more (by omega)⟩
  have em:=ah (FB p (grO gs) Ao nO co W'.heap.size W' (Sl.of_own cF) ai (by omega) J.o.pl (fun b hb=>(J.o.ob b).1 hb) (fun i hi=>(J.o.ob _).2 ⟨i,hi,rfl⟩));have ha:=hi.z;have en:Hid (Below w.heap.size w W'):=hi.b;have gc:Hid (Sl W' W'.heap.size 5 Au lg.length (flat upC lg)):=by have:=Sl.of_own cG;rw[ga.o]at this;exact this
  clear hi eh hK hS cF cG eg Q cv ad cq cr cs O ag ct HI
  gi_wp2_with fail
  refine⟨trivial,(callsIn_wide.2 em.o).mono ?_⟩;rintro e w8 ⟨pA,pc,rfl,eo,ep,er,E⟩;have z8:=E.size;have es:=ah eo;have N:=ah (fY.o.below E (by omega));have bz:=ah (ei.o.below E (by omega));have ca:=ah (ej.o.below E (by omega));have et:=ah (gb.o.below E (by omega));have ev:=ah (gc.o.below E ai);have ew:Hid (w8.heap[D]? =some (.deferred (some []))):=(E.block D (by omega)).trans fX.o;have ex:Hid (Below w.heap.size w w8):=en.o.trans (E.mono en.o.size);have gd:=(E.cell (p:=⟨s1+1+1,0,none⟩) (by show s1+1+1<_;omega)).trans cU;clear eo E em cO cU;obtain⟨⟨t0,t1,t2,t3⟩,t4,t5,t6⟩:=N.o.seven;have f4:=N.o.free 4;have cb:Hid (RpM w8 w8.heap.size ⟨d,p,[],lg⟩ ⟨s,pA,pc,none,0,Au,cu⟩):=⟨et.o.more (by omega),es.o,Sl.nil _ _ _ _,ev.o.more z8,ep,er⟩
  have br:s1+1+1≠s1:=by omega
  gi_wp2_with fail
  obtain⟨w9,Z⟩:=NX9 (w8.setCell ⟨s1,4,none⟩ (.slice pA p.length pc))
  have aw:Hid (∀k,k≠s1->w9.heap[k]? =w8.heap[k]?):=fun k hk=>by rw[<-Z];exact Z8 _ _ _ k hk
  have z9:w9.heap.size=w8.heap.size:=by rw[<-Z];simp
  have cc:Hid (Bk w9 s1 35 #[.int .i64 d.sz,.slice s.a1 n s.c1,.slice s.a2 0 s.c2,.int .i64 d.lf,.slice pA p.length pc,.slice none 0 0,.slice none 0 0]):=by rw[<-Z];show Bk _ _ _ _;have:=N.o.set 4 (.slice pA p.length pc);simpa using this
  have T:Hid (RpM w9 w9.heap.size ⟨d,p,[],lg⟩ ⟨s,pA,pc,none,0,Au,cu⟩):=by have:=cb.o.box N.o (by simp[bxV]) aw.o;exact this.more (by omega)
  have cH:Hid (Below w.heap.size w w9):=by rw[<-Z];exact ex.o.setCell (p:=⟨s1,4,none⟩) (by show w.heap.size<=s1;omega) _
  have cd:Hid (Bk w9 (w.heap.size+1) 35 rzC):=(aw.o _ (by omega)).trans bz.o;have ce:Hid (Bk w9 (w.heap.size+1+1) 36 #[.int .i64 0]):=(aw.o _ (by omega)).trans ca.o;have ey:Hid (w9.heap[D]? =some (.deferred (some []))):=(aw.o D (by omega)).trans ew.o;rw[Z];clear Z t0 t1 t2 t3 t4 t5 t6 f4 gd N bz ca et ev ew ex cb es aw;have bm:=ah (xI none none Au 0 0 0 0 lg.length cu w9.heap.size [] [] lg w9 (Sl.nil _ _ _ _) (Sl.nil _ _ _ _) T.o.l ai (by unfold maxLen;omega) (by unfold maxLen;omega) (by omega) (fun u hu=>by have:=(fg.o u hu).1;unfold maxLen;omega) (fun u hu=>by cases hu));unfold lh at bm;rw[fh.o]at bm;refine⟨trivial,(callsIn_wide.2 bm.o).mono ?_⟩;rintro e wa ⟨rA,rn,rc,lA,ln,lc,rfl,cI,hh,_,cJ,_,_,q⟩;have ck:rs.length=rn:=cI.len gP (by omega);have ge:lg.length=ln:=cJ.len eD (by omega);subst ck ge;have za:=q.size;have G:=ah (cc.o.below q (by omega));have cf:=ah (cd.o.below q (by omega));have cg:=ah (ce.o.below q (by omega));have ez:Hid (wa.heap[D]? =some (.deferred (some []))):=(q.block D (by omega)).trans ey.o;have eA:Hid (Below w.heap.size w wa):=cH.o.trans (q.mono cH.o.size);have ch:Hid (RpM wa wa.heap.size ⟨d,p,rs,lg⟩ ⟨s,pA,pc,rA,rc,lA,lc⟩):=⟨(T.o.d.below q ai).more q.size,(T.o.p.below q ai).more q.size,cI,cJ,ep,er⟩
  clear cI cJ q bm T cc cd ce ey cH;obtain⟨⟨t0,t1,t2,t3⟩,t4,t5,t6⟩:=G.o.seven;have f5:=G.o.free 5;have f6:=G.o.free 6
  gi_wp2_with fail
  obtain⟨wb,ab⟩:=NX9 ((wa.setCell ⟨s1,5,none⟩ (.slice rA rs.length rc)).setCell ⟨s1,6,none⟩ (.slice lA lg.length lc))
  have aD:Hid (∀k,k≠s1->wb.heap[k]? =wa.heap[k]?):=fun k hk=>by rw[<-ab];exact(Z8 _ _ _ k hk).trans (Z8 _ _ _ k hk)
  have zb:wb.heap.size=wa.heap.size:=by rw[<-ab];simp
  have eC:Hid (Bk wb s1 35 #[.int .i64 d.sz,.slice s.a1 n s.c1,.slice s.a2 0 s.c2,.int .i64 d.lf,.slice pA p.length pc,.slice rA rs.length rc,.slice lA lg.length lc]):=by rw[<-ab];show Bk _ _ _ _;have:=(G.o.set 5 (.slice rA rs.length rc)).set 6 (.slice lA lg.length lc);simpa using this
  have U:Hid (RpM wb wb.heap.size ⟨d,p,rs,lg⟩ ⟨s,pA,pc,rA,rc,lA,lc⟩):=by have:=ch.o.box G.o (by simp[bxV]) aD.o;exact this.more (by omega)
  have eE:Hid (Below w.heap.size w wb):=by rw[<-ab];exact(eA.o.setCell (p:=⟨s1,5,none⟩) (by show w.heap.size<=s1;omega) _).setCell (p:=⟨s1,6,none⟩) (by show w.heap.size<=s1;omega) _
  have ci:Hid (Bk wb (w.heap.size+1) 35 rzC):=(aD.o _ (by omega)).trans cf.o;have cj:Hid (Bk wb (w.heap.size+1+1) 36 #[.int .i64 0]):=(aD.o _ (by omega)).trans cg.o;have eI:Hid (wb.heap[D]? =some (.deferred (some []))):=(aD.o D (by omega)).trans ez.o;have eJ:Hid (∀x∈rs,WfD x.2):=fun x hx=>by
   have h0:=compl_zero.1 (J.o.co x hx);obtain⟨⟨o,ho,_⟩,_⟩:=h0;rw[mY J.o.pl ho];exact eQ _
  rw[ab];clear ab t0 t1 t2 t3 t4 t5 t6 f5 f6 G cf cg ez eA ch aD
  gi_loopw [63] (fun i wr=>∃k:Nat,k<=rs.length/\i= .int .i64 k/\Hid (Below wb.heap.size wb wr)) (fun i _=>rs.length - (intOf i).toNat)
  case atStart=>exact⟨0,ZZ _,rfl,af _ _⟩
  case round =>
   obtain⟨k,hk,rfl,eK⟩:=hrel;have I:=ah eK.o;have zr:=I.o.size;clear eK;by_cases hlt:k<rs.length
   . obtain⟨bb,hp,x,hA,hq,hx,hc⟩:=(U.o.rf.below I.o ai).at_ gP (by omega) hlt
     have x0:=hc 0 _ rfl;have x1:=hc 1 _ rfl;have x2:=hc 2 _ rfl;simp only at hA;subst hA;have gg: (k:Int)< (rs.length:Int):=by omega
     have cL:=Z7 hx;have eL:Hid (dz p x.2=0):=J.o.co x cL;have eM:Hid (WfD x.2):=eJ.o x cL;obtain⟨xn,x3,x4⟩:=x;simp only[Nat.add_zero]at x0 x1 x2 eL eM;obtain⟨W3,cM⟩:=NX9 (wr.alloc (.cells #[.string xn,.int .u64 x3,.int .u64 x4] 52))
     have eN:Below wr.heap.size wr W3:=by rw[<-cM];exact(af _ wr).alloc ai _
     have bn:Hid (Below wb.heap.size wb W3):=I.o.trans (eN.mono zr);have bo:=ah (xq p pA p.length pc wb.heap.size (x3,x4) W3 (U.o.p.below bn.o ai) bn.o.size (by omega) J.o.pl eM.o);rw[eL.o]at bo;simp only[aB]at bo;have eR:Bk W3 wr.heap.size 52 #[.string xn,.int .u64 x3,.int .u64 x4]:=by rw[<-cM];exact Bk.new wr _ _
     obtain⟨y0,y1,y2⟩:=eR.three;clear hc hx cL eN eR
     gi_wp2_with fail
     refine⟨trivial,(callsIn_wide.2 bo.o).mono ?_⟩;rintro e w4 ⟨rfl,eS⟩;have cC:Hid (Below wb.heap.size wb w4):=bn.o.trans (eS.mono bn.o.size);clear eS bo x0 x1 x2 cM y0 y1 y2
     gi_wp2
     go_roundw
     case rel=>exact⟨k+1,hlt,by go_num,cC.o⟩
     case measure=>simp[intOf];omega
   . have gg:¬(k:Int)< (rs.length:Int):=by omega
     have gh:=ah (eC.o.below I.o (by omega));have V:=ah (ci.o.below I.o (by omega));have aE:=ah (cj.o.below I.o (by omega));have gj:Hid (wr.heap[D]? =some (.deferred (some []))):=(I.o.block D (by omega)).trans eI.o;have gk:Hid (Below w.heap.size w wr):=eE.o.trans (I.o.mono (by omega));have eV:Hid (RpM wr wr.heap.size ⟨d,p,rs,lg⟩ ⟨s,pA,pc,rA,rc,lA,lc⟩):=(U.o.below I.o ai).more zr;obtain⟨⟨t0,t1,t2,t3⟩,t4,t5,t6⟩:=gh.o.seven;obtain⟨⟨q0,q1,q2,q3⟩,q4,q5,q6⟩:=V.o.seven;obtain⟨⟨f0,f1,f2,f3⟩,f4,f5,f6⟩:=V.o.free7;have e0:=aE.o.cell 0;have e1:=aE.o.free 0;simp at e0;have dx:w.heap.size+1≠w.heap.size+1+1:=by omega
     clear eC ci cj eI eE U
     gi_wp2
     obtain⟨V7,ba⟩:=NX9 (((((((wr.setCell ⟨w.heap.size+1,0,none⟩ (.int .i64 d.sz)).setCell ⟨w.heap.size+1,1,none⟩ (.slice s.a1 n s.c1)).setCell ⟨w.heap.size+1,2,none⟩ (.slice s.a2 0 s.c2)).setCell ⟨w.heap.size+1,3,none⟩ (.int .i64 d.lf)).setCell ⟨w.heap.size+1,4,none⟩ (.slice pA p.length pc)).setCell ⟨w.heap.size+1,5,none⟩ (.slice rA rs.length rc)).setCell ⟨w.heap.size+1,6,none⟩ (.slice lA lg.length lc))
     obtain⟨Vf,bd⟩:=NX9 (V7.setCell ⟨w.heap.size+1+1,0,none⟩ (.int .i64 0))
     have cN:∀k,k≠w.heap.size+1->V7.heap[k]? =wr.heap[k]? :=fun k hk=>by rw[<-ba];exact gq _ _ _ _ _ _ _ _ _ k hk
     have cP:∀k,k≠w.heap.size+1+1->Vf.heap[k]? =V7.heap[k]? :=fun k hk=>by rw[<-bd];exact Z8 _ _ _ k hk
     have gl:Bk V7 (w.heap.size+1) 35 #[.int .i64 d.sz,.slice s.a1 n s.c1,.slice s.a2 0 s.c2,.int .i64 d.lf,.slice pA p.length pc,.slice rA rs.length rc,.slice lA lg.length lc]:=by rw[<-ba];exact V.o.set7 _ _ _ _ _ _ _
     have eW:Bk V7 (w.heap.size+1+1) 36 #[.int .i64 0]:=(cN _ (by omega)).trans aE.o;have k1:Bk Vf (w.heap.size+1) 35 #[.int .i64 d.sz,.slice s.a1 n s.c1,.slice s.a2 0 s.c2,.int .i64 d.lf,.slice pA p.length pc,.slice rA rs.length rc,.slice lA lg.length lc]:=(cP _ (by omega)).trans gl;have k2:Bk Vf (w.heap.size+1+1) 36 #[.int .i64 0]:=by rw[<-bd];have:=eW.set 0 (.int .i64 0);simpa using this
     have fa:Below w.heap.size w Vf:=by rw[<-bd,<-ba];exact(cZ gk.o (by omega) _ _ _ _ _ _ _).setCell (p:=⟨w.heap.size+1+1,0,none⟩) (by show w.heap.size<=w.heap.size+1+1;omega) _
     have zf:Vf.heap.size=wr.heap.size:=by rw[<-bd,<-ba];simp
     have gn:RpM Vf wr.heap.size ⟨d,p,rs,lg⟩ ⟨s,pA,pc,rA,rc,lA,lc⟩:=(eV.o.box V.o (by simp[bxV]) cN).box eW (by simp[bxV]) cP;have fb:Vf.heap[D]? =some (.deferred (some [])):=(cP D (by omega)).trans ((cN D (by omega)).trans gj.o);have gr:∀o,Vf.cell? ⟨D,o,none⟩=none:=fun o=>by simp[World.cell?,fb]
     rw[ba,bd];refine⟨by simp,.inl ⟨_,_,rfl,run_takeDeferred fb,?_⟩⟩;refine⟨_,LF rfl rfl rfl ((World.putObj_heap_other (by omega)).trans k1) ((World.putObj_heap_other (by omega)).trans k2),⟨s,pA,pc,rA,rc,lA,lc⟩,?_,?_,?_⟩
     . simp only[rpV,rpC,HN.o,fi.o]
     . have:=(gn.noCell (w':=Vf.putObj D (.deferred none)) gr (fun k hk=>World.putObj_heap_other hk)).more (show wr.heap.size<= (Vf.putObj D (.deferred none)).heap.size by simp;omega)
       exact this
     . exact fa.grown (grownBy_putObj' _ _ _) (by have:=fa.size;simpa using this) (fun k e=>by cases e;omega)
end
@[go_sem high] theorem MQ (a b c d : Int) (w : MZ) : (Op.equalIn 9999 50 (.agg #[.int .u64 a, .int .u64 b]) (.agg #[.int .u64 c, .int .u64 d])).run Tryz.prog w = .ok (a == c && b == d) w := vF 9997 a b c d w
theorem Kw(A0 A1:OA)(n c0 c1 B:Nat)(l:List Itm)(w:MZ)(h0:Sl w B 3 A0 n (flat itC l))(h1:Sl w B 3 A1 n (flat itC l))(m0:n<=1000000000) :
  Calls Tryz.prog 61 #[.slice A0 n c0,.slice A1 n c1] w fun e w'=>e= .returned (.bool true)/\∃k,w'=w.drewN k:=by
 have H0:=ah h0;have H1:=ah h1;clear h0 h1
 go_enter Tryz.func61,Tryz.ntmps61
 go_wp2
 go_loopw[13] (fun i wr=>∃k nq:Nat,k<=n/\i= .int .i64 k/\wr=w.drewN nq) (fun i _=>n - (intOf i).toNat)
 case atStart=>exact⟨0,0,ZZ _,rfl,rfl⟩
 case round =>
  obtain⟨k,nq,hk,rfl,rfl⟩:=hrel;by_cases hlt:k<n
  . obtain⟨b0,o0,r,rfl,_,hr,a⟩:=H0.o.at_ bO (by omega) hlt
    obtain⟨b1,o1,q,rfl,_,hq,b⟩:=H1.o.at_ bO (by omega) hlt;rw[hr]at hq;cases hq;have x0:=a 0 _ rfl;have y0:=b 0 _ rfl;have x1:=a 1 _ rfl;have y1:=b 1 _ rfl;have x2:=a 2 _ rfl;have y2:=b 2 _ rfl;simp only[Nat.add_zero]at x0 y0 x1 y1 x2 y2;clear a b hr;have c: (k:Int)< (n:Int):=by omega
    go_wp2
    go_region
    go_wp2
    go_roundw
    case rel=>exact⟨k+1,nq+1,by omega,by go_num,World.drewN_drewN _ _ 1⟩
    case measure=>simp[intOf];omega
  . have c:¬(k:Int)< (n:Int):=by omega
    go_wp2
    go_ret
    exact⟨rfl,_,rfl⟩
theorem KI(A0 A1:OA)(n c0 c1 B:Nat)(l:List Rf)(w:MZ)(h0:Sl w B 3 A0 n (flat rfC l))(h1:Sl w B 3 A1 n (flat rfC l))(m0:n<=1000000000) :
  Calls Tryz.prog 62 #[.slice A0 n c0,.slice A1 n c1] w fun e w'=>e= .returned (.bool true)/\∃k,w'=w.drewN k:=by
 have H0:=ah h0;have H1:=ah h1;clear h0 h1
 go_enter Tryz.func62,Tryz.ntmps62
 go_wp2
 go_loopw[13] (fun i wr=>∃k nq:Nat,k<=n/\i= .int .i64 k/\wr=w.drewN nq) (fun i _=>n - (intOf i).toNat)
 case atStart=>exact⟨0,0,ZZ _,rfl,rfl⟩
 case round =>
  obtain⟨k,nq,hk,rfl,rfl⟩:=hrel;by_cases hlt:k<n
  . obtain⟨b0,o0,r,rfl,_,hr,a⟩:=H0.o.at_ gP (by omega) hlt
    obtain⟨b1,o1,q,rfl,_,hq,b⟩:=H1.o.at_ gP (by omega) hlt;rw[hr]at hq;cases hq;have x0:=a 0 _ rfl;have y0:=b 0 _ rfl;have x1:=a 1 _ rfl;have y1:=b 1 _ rfl;have x2:=a 2 _ rfl;have y2:=b 2 _ rfl;simp only[Nat.add_zero]at x0 y0 x1 y1 x2 y2;clear a b hr;have c: (k:Int)< (n:Int):=by omega
    go_wp2
    go_region
    go_wp2
    go_roundw
    case rel=>exact⟨k+1,nq+1,by omega,by go_num,World.drewN_drewN _ _ 1⟩
    case measure=>simp[intOf];omega
  . have c:¬(k:Int)< (n:Int):=by omega
    go_wp2
    go_ret
    exact⟨rfl,_,rfl⟩
theorem KC(A0 A1:OA)(n c0 c1 B:Nat)(l:List Upd)(w:MZ)(h0:Sl w B 5 A0 n (flat upC l))(h1:Sl w B 5 A1 n (flat upC l))(m0:n<=1000000000) :
  Calls Tryz.prog 63 #[.slice A0 n c0,.slice A1 n c1] w fun e w'=>e= .returned (.bool true)/\∃k,w'=w.drewN k:=by
 have H0:=ah h0;have H1:=ah h1;clear h0 h1
 go_enter Tryz.func63,Tryz.ntmps63
 go_wp2
 go_loopw[13] (fun i wr=>∃k nq:Nat,k<=n/\i= .int .i64 k/\wr=w.drewN nq) (fun i _=>n - (intOf i).toNat)
 case atStart=>exact⟨0,0,ZZ _,rfl,rfl⟩
 case round =>
  obtain⟨k,nq,hk,rfl,rfl⟩:=hrel;by_cases hlt:k<n
  . obtain⟨b0,o0,r,rfl,_,hr,a⟩:=H0.o.at_ eD (by omega) hlt
    obtain⟨b1,o1,q,rfl,_,hq,b⟩:=H1.o.at_ eD (by omega) hlt;rw[hr]at hq;cases hq;have x0:=a 0 _ rfl;have y0:=b 0 _ rfl;have x1:=a 1 _ rfl;have y1:=b 1 _ rfl;have x2:=a 2 _ rfl;have y2:=b 2 _ rfl;have x3:=a 3 _ rfl;have y3:=b 3 _ rfl;have x4:=a 4 _ rfl;have y4:=b 4 _ rfl;simp only[Nat.add_zero]at x0 y0 x1 y1 x2 y2 x3 y3 x4 y4;clear a b hr;have c: (k:Int)< (n:Int):=by omega
    go_wp2
    go_region
    go_wp2
    go_roundw
    case rel=>exact⟨k+1,nq+1,by omega,by go_num,World.drewN_drewN _ _ 1⟩
    case measure=>simp[intOf];omega
  . have c:¬(k:Int)< (n:Int):=by omega
    go_wp2
    go_ret
    exact⟨rfl,_,rfl⟩
section
attribute [local go_sem] Oper.semAt_some
section
variable {B0 hz : Nat} {A B C : MZ}
end
end
@[go_sem] theorem MK : Tryz.prog.eqGuardType Tryz.prog.depth 118 = false := by kernel_rfl
theorem KU:Tryz.prog.stoodInHeld 118=false:=by kernel_rfl
theorem Md(a b c d:Int)(w:MZ): (Op.equalIn 9999 50 (.agg #[.int .u64 a,.int .u64 b]) (.agg #[.int .u64 c,.int .u64 d])).run Tryz.prog w= .ok (a == c && b == d) w:=vF 9997 a b c d w
@[go_sem high] theorem MX (a b c d : Int) (s t : M3) (w : MZ) : (Op.equalIn 10000 118 (.agg #[.int .u64 a, .int .u64 b, .string s]) (.agg #[.int .u64 c, .int .u64 d, .string t])).run Tryz.prog w = .ok ((a == c && b == d) && s.toList == t.toList) w := by
 have hS:Tryz.prog.underlying 118=some (.struct (Tryz.prog.fieldsOf 118)):=by kernel_rfl
 have a9:=Tryz.isAgg9;have u9:=Tryz.underlying9;have aD:=Tryz.isAgg50;have uD:=Tryz.underlying50;have zD:=Tryz.sizeOf50;have hd:=Md a b c d w;rw[show(10000:Nat)=9999+1 from rfl,run_equalIn_agg w 9999 118 _ _ hS KU];simp only[Program.fieldsOf,Tryz.underlying118]
 go_simp
 by_cases h1:a=c <;> by_cases h2:b=d <;> by_cases h3:s.toList=t.toList <;> simp[h1,h2,h3]
instance :DecidableEq FCh:=fun a b=>decidable_of_iff (a.path=b.path/\a.ho=b.ho/\a.hn=b.hn/\a.old=b.old/\a.new=b.new) ⟨fun h=>by cases a;cases b;simp_all,fun h=>by subst h;simp⟩
theorem Gr(A0 A1:OA)(n0 c0 n1 c1 B:Nat)(rs qs:List Itm)(w:MZ)(h0:Sl w B 3 A0 n0 (flat itC rs))(h1:Sl w B 3 A1 n1 (flat itC qs))(m0:n0<=maxLen) :
  Calls Tryz.prog 20 #[.slice A0 n0 c0,.slice A1 n1 c1] w fun e w'=>e= .returned (.bool (decide (rs=qs)))/\∃k,w'=w.drewN k:=by
 unfold maxLen at m0;have a:=ah (h0.len bO (by omega));have b:=ah (h1.len bO (by omega));have H0:=ah h0;have H1:=ah h1;clear h0 h1;have hM:Hid (decide (rs=qs)=true↔rs=qs):=decide_eq_true_iff;generalize decide (rs=qs)=mb at *;by_cases hn:n0=n1
 . subst hn
   go_enter Tryz.func20,Tryz.ntmps20
   go_wp2
   go_loopw[5] (fun i wr=>∃k nq:Nat,k<=n0/\i= .int .i64 k/\wr=w.drewN nq/\Hid (rs.take k=qs.take k)) (fun i _=>n0 - (intOf i).toNat)
   case atStart=>exact⟨0,0,ZZ _,rfl,rfl,rfl⟩
   case round =>
    obtain⟨k,nq,hk,rfl,rfl,c⟩:=hrel;by_cases hlt:k<n0
    . obtain⟨b0,o0,r,rfl,_,hr,x0,x1,x2⟩:=H0.o.it hlt
      obtain⟨b1,o1,q,rfl,_,hq,y0,y1,y2⟩:=H1.o.it hlt;have HR:=ah hr;have HQ:=ah hq;clear hr hq;have f: (k:Int)< (n0:Int):=by omega
      by_cases e:r=q
      . have t1: ((r.1.1 == q.1.1 && r.1.2 == q.1.2) && r.2.toList == q.2.toList)=true:=by rw[e];simp
        have HE:=ah e;clear e;have g:Hid (rs.take (k+1)=qs.take (k+1)):=by
         show _=_;rw[aS HR.o,aS HQ.o,c.o,HE.o]
        go_wp2
        go_quiet(fail)
        go_wp2
        go_roundw
        case rel=>exact⟨k+1,_,by omega,by go_num,rfl,g⟩
        case measure=>simp[intOf];omega
      . have t1: ((r.1.1 == q.1.1 && r.1.2 == q.1.2) && r.2.toList == q.2.toList)=false:=by
          rw[Bool.eq_false_iff];intro hh;simp only[Bool.and_eq_true,beq_iff_eq,ByteArray.toList_eq]at hh;apply e
          exact Prod.ext (Prod.ext hh.1.1 hh.1.2) (iQ hh.2)
        have HE:=ah e;clear e
        go_wp2
        go_quiet(fail)
        go_wp2
        go_ret
        refine⟨aY ?_,⟨_,World.drewN_drewN _ _ _⟩⟩
        symm
        rw[Bool.eq_false_iff];intro hh;have:=hM.o.1 hh;subst this;exact HE.o (Option.some.inj (HR.o.symm.trans HQ.o))
    . have d:Hid (mb=true):=by
        have:=c.o;rw[ZW (by rw[a.o];omega),ZW (by rw[b.o];omega)]at this;exact hM.o.2 this
      have f:¬(k:Int)< (n0:Int):=by omega
      go_wp2
      go_ret
      exact⟨aY d.o.symm,_,rfl⟩
 . have h: ((n0:Int) != (n1:Int))=true:=by rw[bne_iff_ne];omega
   go_enter Tryz.func20,Tryz.ntmps20
   go_wp2
   go_ret
   refine⟨aY ?_,0,rfl⟩
   symm
   rw[Bool.eq_false_iff];intro hh;have:=hM.o.1 hh;subst this;exact hn (a.o.symm.trans b.o)
abbrev St:=M5×Bool
def rn(st:St):Nat×St:=if st.2=true∨ (ay st.1).2.2≠0 then(0,st.1,true) else((ay st.1).1,st.1.drop (ay st.1).2.1,false)
def pw(k t:Nat)(j:Nat):Bool:=decide (j<8*k∨ (8*k+8 - t<=j/\j<8*k+8))
def CO(n:Nat)(p:List Itm)(w:MZ)(e:Ending)(w':MZ):Prop:=∃r:Bool,e= .returned (.bool r)/\ (r=false->n<=40/\∀i∈p,i.2.size<=500)/\w=w'
theorem FU(A:OA)(n c B:Nat)(p:List Itm)(w:MZ)(h0:Sl w B 3 A n (flat itC p))(hn:n<=maxLen)(hs:∀i∈p,i.2.size<=maxLen) :
  Calls Tryz.prog 120 #[.slice A n c] w (CO n p w):=by
 unfold maxLen at hn;have a:=ah (h0.len bO (by omega));have H0:=ah h0;clear h0;have HS:=ah hs;clear hs
 go_enter Tryz.func120,Tryz.ntmps120
 by_cases hbig: (40:Int)< (n:Int)
 . go_wp2
   go_ret
   exact⟨true,rfl,(fun e=>by cases e),rfl⟩
 go_wp2
 go_loopw[3] (fun i wr=>∃k:Nat,k<=n/\i= .int .i64 k/\wr=w/\Hid (∀f∈p.take k,f.2.size<=500)) (fun i _=>n - (intOf i).toNat)
 case atStart=>exact⟨0,ZZ _,rfl,rfl,fun y hy=>by simp at hy⟩
 case round =>
  obtain⟨k,hk,rfl,rfl,hN⟩:=hrel;by_cases hlt:k<n
  . obtain⟨b,g,f,rfl,hb,hf,y0,y1,y2⟩:=H0.o.it hlt
    have d: (k:Int)< (n:Int):=by omega
    have h:f.2.size<=9223372036854775807:=by have:=HS.o f (Z7 hf);unfold maxLen at this;exact this
    have HF:=ah hf;clear hf;by_cases c2: (500:Int)< (f.2.size:Int)
    . go_wp2
      go_ret
      exact⟨true,rfl,(fun e=>by cases e),rfl⟩
    have HN:Hid (∀f∈p.take (k+1),f.2.size<=500):=fun y hy=>by
     rw[aS HF.o]at hy;rcases List.mem_append.1 hy with hy | hy
     . exact hN.o y hy
     . rw[List.mem_singleton.1 hy];omega
    go_wp2
    go_roundw
    case rel=>exact⟨k+1,hlt,by go_num,trivial,HN.o⟩
    case measure=>simp[intOf];omega
  . have d:¬(k:Int)< (n:Int):=by omega
    have HN:Hid (∀f∈p,f.2.size<=500):=by
     have:=hN.o
     rwa[ZW (by rw[a.o];omega)]at this
    go_wp2
    go_ret
    exact⟨false,rfl,(fun _=>⟨by omega,HN.o⟩),rfl⟩
section
open Go.Maps
def CL(n:Nat)(fs:List Fl)(w:MZ)(e:Ending)(w':MZ):Prop:=∃r:Bool,e= .returned (.bool r)/\ (r=false->n<=10/\∀f∈fs,f.1.size<=120/\f.2.size<=200)/\w=w'
theorem Ff(A:OA)(n c B:Nat)(fs:List Fl)(w:MZ)(h0:Sl w B 2 A n (flat flC fs))(hn:n<=maxLen)(hs:∀f∈fs,f.1.size<=maxLen/\f.2.size<=maxLen) :
  Calls Tryz.prog 65 #[.slice A n c] w (CL n fs w):=by
 unfold maxLen at hn;have d:=ah (h0.len kT (by omega));have H0:=ah h0;clear h0;have HS:=ah hs;clear hs
 go_enter Tryz.func65,Tryz.ntmps65
 by_cases hbig: (10:Int)< (n:Int)
 . go_wp2
   go_ret
   exact⟨true,rfl,(fun e=>by cases e),rfl⟩
 go_wp2
 go_loopw[3] (fun i wr=>∃k:Nat,k<=n/\i= .int .i64 k/\wr=w/\Hid (∀f∈fs.take k,f.1.size<=120/\f.2.size<=200)) (fun i _=>n - (intOf i).toNat)
 case atStart=>exact⟨0,ZZ _,rfl,rfl,fun y hy=>by simp at hy⟩
 case round =>
  obtain⟨k,hk,rfl,rfl,hN⟩:=hrel;by_cases hlt:k<n
  . obtain⟨b,h,f,rfl,hb,hf,y0,y1⟩:=H0.o.fl hlt
    have g: (k:Int)< (n:Int):=by omega
    have a:=HS.o f (Z7 hf);have j:f.1.size<=9223372036854775807:=by have:=a.1;unfold maxLen at this;exact this
    have l:f.2.size<=9223372036854775807:=by have:=a.2;unfold maxLen at this;exact this
    have HF:=ah hf;clear hf a;by_cases c1: (120:Int)< (f.1.size:Int)
    . go_wp2
      go_ret
      exact⟨true,rfl,(fun e=>by cases e),rfl⟩
    by_cases c2: (200:Int)< (f.2.size:Int)
    . go_wp2
      go_ret
      exact⟨true,rfl,(fun e=>by cases e),rfl⟩
    have HN:Hid (∀f∈fs.take (k+1),f.1.size<=120/\f.2.size<=200):=fun y hy=>by
     rw[aS HF.o]at hy;rcases List.mem_append.1 hy with hy | hy
     . exact hN.o y hy
     . rw[List.mem_singleton.1 hy];exact⟨by omega,by omega⟩
    go_wp2
    go_roundw
    case rel=>exact⟨k+1,hlt,by go_num,trivial,HN.o⟩
    case measure=>simp[intOf];omega
  . have g:¬(k:Int)< (n:Int):=by omega
    have HN:Hid (∀f∈fs,f.1.size<=120/\f.2.size<=200):=by
     have:=hN.o
     rwa[ZW (by rw[d.o];omega)]at this
    go_wp2
    go_ret
    exact⟨false,rfl,(fun _=>⟨by omega,HN.o⟩),rfl⟩
end
