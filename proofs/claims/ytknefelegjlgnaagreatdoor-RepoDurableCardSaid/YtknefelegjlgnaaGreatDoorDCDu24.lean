/-
  Lemmas of the card.
-/
import Derived.Test.YtknefelegjlgnaaGreatDoorDCDu23
set_option maxRecDepth 100000
set_option maxHeartbeats 16000000
namespace Go.Proofs.YtknefelegjlgnaaGreatDoor
open Go.RowKit
section
variable {F : Fence} {n : Nat} {P : Program}
theorem DN{α:Type}{g:Operand}{ps:Array Tmp}{assign body:Code}{Q:Exit->Act->MQ->Prop}{a:Act}{w:MQ}
  (hro:F.round=none) (h1:1<=n) {gf:Nat} {lb:Array MS} (hg:a.eval g= .func (.func gf) #[] lb) (hFg:F.fn gf) (eg:∀args w,(callFunc gf args).run P w= .ok (.enter gf args) w)
  {encs:α->Array MS} {Kp St:MQ->MQ->Prop} {Pf:MQ->List α->Prop} {S Sp:List α->Prop} {w0:MQ} (hseq:qH F (n - 1) P gf lb encs Kp St Pf S Sp (w.heap.size+2) w0)
  (hKt:∀{A B C:MQ},Kp A B->Kp B C->Kp A C) (hKb:∀(W:MQ)(l:Nat)(r:Loop)(o':Obj),w.heap.size+1=l->W.heap[l]? =some (.loop r)->Kp W (W.putObj l o')) (hSo:∀A B,St A B->w.heap.size+2<=A.heap.size->ja w.heap.size A B) (hb0:Below w0.heap.size w0 w) (hps:∀x,(encs x).size=ps.size)
  (I:List α->MQ->Prop) (Ix:Code->List α->MQ->Prop) (hI:OwnFrom w.heap.size I) (hIx:∀c,OwnFrom w.heap.size (Ix c)) (hIS:∀pre A B,I pre A->St A B->I pre B) (h0:I [] w) (As:List α->Nat->MQ->Prop) (hAp:∀x b W l (r:Loop) (o:Obj),W.heap[l]? =some (.loop r)->As x b W->As x b (W.putObj l o)) (a₁:α->Nat->Act)
  (hassign:∀(l:Nat)(pre:List α)(x:α)(W:MQ)(K:Act->MQ->Prop),Pf W (pre++ [x])->w.heap.size+2<=W.heap.size->I pre W-> (∀b W',ja w.heap.size W W'->Kp W W'->I pre W'->As (pre++ [x]) b W'->K (a₁ x b) W') ->
    assign.wpIn (F.inRound l) (n - 1 - 1) P (Exit.then K (fun _ _ _=>False)) {tmps:=(ps.zip (encs x)).foldl (fun t (p,v)=>t.setIfInBounds p v) a.tmps,defers:= []} W)
  (hbody:∀(l:Nat)(pre:List α)(x:α)(b:Nat)(W:MQ),w.heap.size+2<=W.heap.size->I pre W->As (pre++ [x]) b W->body.wpIn (F.inRound l) (n - 1 - 1) P (AO w.heap.size Kp I Ix (pre++ [x]) W) (a₁ x b) W)
  (hdone:∀(D:Nat)(xs:List α)(W:MQ),w.heap.size<=D->S xs->I xs W->W.heap[D]? =some (.deferred (some []))->Q .normal {a with defers:={target:= .collected D,args:=#[]}::a.defers} W)
  (hstop:∀(D:Nat)(c:Code)(pre:List α)(W:MQ),w.heap.size<=D->Sp pre->Ix c pre W->W.heap[D]? =some (.deferred (some []))->c.wpIn F n P Q {a with defers:={target:= .collected D,args:=#[]}::a.defers} W) :
  (Code.rangeFunc g ps assign body).wpIn F n P Q a w:=by
 refine wpIn_rangeFunc ?_;intro fn hfn;rw[hro]
 -- the loop's record in block L,the block of its deferred calls in block D
 obtain⟨D,hD⟩:∃D,w.heap.size=D:=⟨_,rfl⟩
 obtain⟨rec,hrec⟩:∃rec:LoopState->Option Code->Loop,rec=fun st pe=>{state:=st,pending:=pe,fn,tmps:=a.tmps,params:=ps,assign,body,defers:=D}:=⟨_,rfl⟩
 obtain⟨W1,hW1⟩:∃W1,(w.alloc (.deferred (some []))).alloc (.loop (rec .ready none))=W1:=⟨_,rfl⟩
 have hL1:W1.heap[D+1]? =some (.loop (rec .ready none)):=by
  rw[<-hW1,<-hD];have:=World.alloc_heap_new (w.alloc (.deferred (some []))) (.loop (rec .ready none));rwa[Z9]at this
 have hK1:W1.heap[D]? =some (.deferred (some [])):=by
  rw[<-hW1,<-hD];exact(Below.heap_alloc _ _ _ (by simp)).trans (World.alloc_heap_new w _)
 have hI1:I [] W1:=by rw[<-hW1];exact hI.alloc _ (hI.alloc _ h0)
 have hb1:Below w0.heap.size w0 W1:=by
  rw[<-hW1];exact hb0.trans ((((af _ w).alloc ai _).alloc (by simp) _).mono hb0.size)
 refine⟨D+1,[{target:= .collected D,args:=#[]}],W1,{target:= .fn (.func gf) lb,args:=#[.func (.yield (D+1)) #[] #[]]},W1,gf,
  #[.func (.yield (D+1)) #[] #[]]++lb,W1,?_,?_,?_,?_,fun _=>h1,?_⟩
 . rw[<-hW1,hrec,<-hD];exact run_enterLoop_outer _ _ _ _ _
 . simp only[resolve,hg]
   simp[go_sem]
 . intro f' hf';simp[Target.leads]at hf';subst hf';exact hFg
 . simp[invoke,go_sem,eg]
 . refine(hseq (D+1)
     (fun pre W=>I pre W/\W.heap[D+1]? =some (.loop (rec .ready none))/\W.heap[D]? =some (.deferred (some [])))
     (fun pre W=>∃c,Ix c pre W/\W.heap[D+1]? =some (.loop (rec .done (some c)))/\W.heap[D]? =some (.deferred (some [])))
     W1 hb1 (by rw[<-hW1];simp)
     (fun pre A B hs hst=>by
       have hz2:=(Array.getElem?_eq_some_iff.1 hs.2.1).1;have hr:=hSo A B hst (by omega);rw[hD]at hr;exact⟨hIS pre A B hs.1 hst,hr.2.trans hs.2.1,hr.1.trans hs.2.2⟩)
     ?_ ⟨hI1,hL1,hK1⟩).mono ?_
   . rintro pre x W hpf ⟨hi,hl,hk⟩
     have hlt:D+1<W.heap.size:=(Array.getElem?_eq_some_iff.1 hl).1;have hy:=run_yield (P:=P) (args:=encs x) hl (by rw[hrec];exact hps x);rw[hrec]at hy;refine⟨fn,_,assign,body,hy,roundIn_of_wpIn hfn (hassign _ pre x W _ hpf (by omega) hi fun b V hrv hkv hiv hav=>?_)⟩;rw[hD]at hrv;have hlv:V.heap[D+1]? =some (.loop (rec .ready none)):=hrv.2.trans hl;have hkd:V.heap[D]? =some (.deferred (some [])):=hrv.1.trans hk;have hltv:D+1<V.heap.size:=(Array.getElem?_eq_some_iff.1 hlv).1;refine⟨_,run_beginRound hlv (by rw[hrec]),?_⟩;obtain⟨W2,hW2⟩:∃W2,V.putObj (D+1) (.loop {rec .ready none with state:= .busy})=W2:=⟨_,rfl⟩
     have hl2:W2.heap[D+1]? =some (.loop {rec .ready none with state:= .busy}):=by rw[<-hW2];exact World.putObj_heap_same hltv
     have hk2:W2.heap[D]? =some (.deferred (some [])):=by rw[<-hW2];exact(World.putObj_heap_other (by omega)).trans hkd
     have hw2:Kp W W2:=by rw[<-hW2];exact hKt hkv (hKb _ _ _ _ (by omega) hlv)
     have hi2:I pre W2:=by rw[<-hW2];exact hI.putObj _ hiv (by omega) hlv rfl
     have ha2:As (pre++ [x]) b W2:=by rw[<-hW2];exact hAp _ _ _ _ _ _ hlv hav
     rw[hW2];refine wpIn_mono (hbody _ pre x b _ (by have:=(Array.getElem?_eq_some_iff.1 hl2).1;omega) hi2 ha2) ?_;have fin:∀(jump:Option Code)(W3:MQ),ja w.heap.size W2 W3 ->
       (Instr.endRound (D+1) jump).run P W3= .ok (.bool jump.isNone) (W3.putObj (D+1) (.loop (rec (if jump.isNone then .ready else .done) jump))) ∧
       W3.heap[D+1]? =some (.loop {rec .ready none with state:= .busy}) ∧
       (W3.putObj (D+1) (.loop (rec (if jump.isNone then .ready else .done) jump))).heap[D+1]? =some (.loop (rec (if jump.isNone then .ready else .done) jump)) ∧
       (W3.putObj (D+1) (.loop (rec (if jump.isNone then .ready else .done) jump))).heap[D]? =some (.deferred (some [])):=fun jump W3 hk3=>by
      rw[hD]at hk3;have hl3:=hk3.2.trans hl2;have:=run_endRound (P:=P) jump hl3;rw[hrec]at this ⊢;exact⟨this,by rw[hrec]at hl3;exact hl3,World.putObj_heap_same (Array.getElem?_eq_some_iff.1 hl3).1,(World.putObj_heap_other (by omega)).trans (hk3.1.trans hk2)⟩
     rintro e a3 W3 hp;cases e with
     | normal =>
       obtain⟨hk3,hkp3,hi3⟩:=hp;obtain⟨hr,hl3,hl4,hk4⟩:=fin none W3 hk3;exact⟨_,_,hr,.inl ⟨rfl,⟨hI.putObj _ hi3 (by omega) hl3 rfl,hl4,hk4⟩,hKt (hKt hw2 hkp3) (hKb _ _ _ _ (by omega) hl3)⟩⟩
     | ret =>
       obtain⟨hk3,hi3⟩:=hp;obtain⟨hr,hl3,hl4,hk4⟩:=fin (some .ret) W3 hk3;exact⟨_,_,hr,.inr ⟨rfl,.ret,(hIx _).putObj _ hi3 (by omega) hl3 rfl,hl4,hk4⟩⟩
     | exit id =>
       obtain⟨hk3,hi3⟩:=hp;obtain⟨hr,hl3,hl4,hk4⟩:=fin (some (.exit id)) W3 hk3;exact⟨_,_,hr,.inr ⟨rfl,.exit id,(hIx _).putObj _ hi3 (by omega) hl3 rfl,hl4,hk4⟩⟩
     | goto t =>
       obtain⟨hk3,hi3⟩:=hp;obtain⟨hr,hl3,hl4,hk4⟩:=fin (some (.goto t)) W3 hk3;exact⟨_,_,hr,.inr ⟨rfl,.goto t,(hIx _).putObj _ hi3 (by omega) hl3 rfl,hl4,hk4⟩⟩
     | panic ch=>exact hp.elim
     | outgrown=>exact hp.elim
   . rintro e W2 ⟨⟨v,rfl⟩,(⟨xs,hS,hi,hl,hk⟩ | ⟨pre,hSp,c,hi,hl,hk⟩)⟩
     . exact⟨none,_,by have:=run_endLoop (P:=P) hl (by rw[hrec];simp);rw[hrec]at this;exact this,hdone _ xs _ (by omega) hS (hI.putObj _ hi (by omega) hl rfl) ((World.putObj_heap_other (by omega)).trans hk)⟩
     . exact⟨some c,_,by have:=run_endLoop (P:=P) hl (by rw[hrec];simp);rw[hrec]at this;exact this,hstop _ c pre _ (by omega) hSp ((hIx c).putObj _ hi (by omega) hl rfl) ((World.putObj_heap_other (by omega)).trans hk)⟩
end
section
attribute [local go_sem] Oper.semAt_some
theorem BJ{sz:Nat}(hz:0<sz):∀(n:Nat)(b:MU)(rs:List MU)(u:Nat),b.length<=n->frs sz b=some (rs,u)-> (∀t∈rs,t.length<=65536)/\rs.length<=1000*u
 | n,b,rs,u,hn,h=>by
   by_cases h0:zer b
   . rw[jl h0]at h
     simp only[Option.some.injEq,Prod.mk.injEq]at h;obtain⟨rfl,rfl⟩:=h;simp
   . cases hdec:dD b with
     | none=>rw[mX h0 hdec]at h;cases h
     | some q =>
       obtain⟨l,c⟩:=q;rw[jG hz h0 hdec]at h;obtain⟨hf,rfl,r,rfl⟩:=kG hdec;have h2:=kD l;have hk:=kK hz (c:=(az l).length) (by omega);have hks:=Nat.mul_pos hk hz;split at h
       . cases h
       . rename_i r' u' hr
         simp only[Option.some.injEq,Prod.mk.injEq]at h;obtain⟨rfl,rfl⟩:=h;cases n with
         | zero=>rw[ae]at hn;omega
         | succ n =>
           obtain⟨i1,i2⟩:=BJ hz n _ _ _ (by rw[List.length_drop];omega) hr;refine⟨fun t ht=>?_,by rw[ae];have:=hf.1;omega⟩;rcases List.mem_append.1 ht with ht | ht
           . exact hf.2 t ht
           . exact i1 t ht
theorem Jn.fit{sz a u:Nat}{ss rs:List MU}(h:Jn sz ss a rs u)(hn:ss.length<=100): (∀t∈rs,t.length<=65536)/\rs.length<=49000:=by
 obtain⟨h1,h2⟩:=BJ h.sz0 _ _ _ _ ai h.recs;have:=h.u_le;unfold hf at this;exact⟨h1,by omega⟩
theorem Lu{p:List Itm}(hp:PlOk p){L:List MU}(h:∀i∈p,toL i.2∈L):p.length<=L.length:=by
 have hn: (p.map fun i=>toL i.2).Nodup:=by
  rw[List.Nodup,List.pairwise_map];refine hp.asc.imp_of_mem ?_;intro a b ha hb hl e;have:a.1=b.1:=by rw[hp.dg a ha,hp.dg b hb,e]
  rw[this]at hl;exact gI _ hl
 have:=pz hn (m:=L) (fun x hx=>by obtain⟨i,hi,rfl⟩:=List.mem_map.1 hx;exact h i hi)
 rwa[List.length_map]at this
theorem qg:∀gs:List Gru,(grO gs).length<= (recs gs).length
 | []=>by simp[grO,recs]
 | g::gs=>by
   have:=qg gs;simp only[grO,recs,aN,List.flatMap_cons,ae,Z5]at this ⊢;omega
theorem Mt.few{gs:List Gru}{p:List Itm}{rs:List Rf}{lg:List Upd}(h:Mt gs p rs lg){sz a u:Nat}{ss:List MU}(hj:Jn sz ss a (recs gs) u)(hn:ss.length<=100):p.length<=49000/\lg.length<=1000/\ (∀u∈lg,u.1.size<=65536/\WfU u):=by
 have h1:=(hj.fit hn).2;have h2:=qg gs;refine⟨Z0 (Lu h.pl fun i hi=>(h.ob _).2 ⟨i,hi,rfl⟩) (by omega),gY h.rf,fun u hu=>?_⟩;rw[h.lo]at hu;obtain⟨g,hg,hu⟩:=List.mem_flatMap.1 hu;exact(h.ok g hg).us u hu
theorem Ku(l:List Upd):∀u∈flat upC l,u.oneCell'=true:=fun u hu=>by
 unfold flat at hu;obtain⟨i,_,h⟩:=List.mem_flatMap.1 hu;simp[upC]at h;rcases h with rfl | rfl | rfl | rfl | rfl <;> rfl
theorem ug(gs:List Gru)(g:Gru):grO (gs++ [g])=grO gs++g.2:=by simp[grO]
theorem tZ(gs:List Gru)(g:Gru):grU (gs++ [g])=grU gs++g.1:=by simp[grU]
theorem Sl.putLp{w:MQ}{B size n l:Nat}{A:OA}{xs:List MS}(h:Sl w B size A n xs)(h0:0<size){r:Loop}{o':Obj}(hl:w.heap[l]? =some (.loop r)):Sl (w.putObj l o') B size A n xs :=
 h.avoid fun b off e hn hc=>World.putObj_heap_other (fun e=>by
  subst e;have hll:0<xs.length:=by rw[h.1];exact Nat.mul_pos hn h0
  have:=hc 0 _ (Z6 hll);simp[World.cell?,hl]at this)
theorem Sl.noCell{w w':MQ}{B size n b:Nat}{A:OA}{xs:List MS}(h:Sl w B size A n xs)(h0:0<size)(hb:∀o,w.cell? ⟨b,o,none⟩=none)(hw:∀k,k≠b->w'.heap[k]? =w.heap[k]?):Sl w' B size A n xs :=
 h.avoid fun g off e hn hc=>hw g (fun e=>by
  subst e;have hll:0<xs.length:=by rw[h.1];exact Nat.mul_pos hn h0
  have:=hc 0 _ (Z6 hll);rw[hb]at this;cases this)
theorem RpM.noCell{w w':MQ}{B b:Nat}{r:Rp}{s:Rsl}(h:RpM w B r s)(hb:∀o,w.cell? ⟨b,o,none⟩=none)(hw:∀k,k≠b->w'.heap[k]? =w.heap[k]?):RpM w' B r s :=
 ⟨⟨h.d.ss.noCell (by omega) hb hw,h.d.pn.noCell (by omega) hb hw⟩,h.p.noCell (by omega) hb hw,h.rf.noCell (by omega) hb hw,h.l.noCell (by omega) hb hw,h.pc,h.pm⟩
theorem Ld{fn:Func}{c1 c2:Tmp}(h:fn.results= #[.cell c1 35,.cell c2 36]){w:MQ}{a:Array MS}{b1 b2:Nat}{x0 x1 x2 x3 x4 x5 x6 e:MS}(h1:a[c1]?.getD undef= .pointer (some ⟨b1,0,none⟩))(h2:a[c2]?.getD undef= .pointer (some ⟨b2,0,none⟩))(k1:Bk w b1 35 #[x0,x1,x2,x3,x4,x5,x6])(k2:Bk w b2 36 #[e]) :
  (results fn a).run Tryz.prog w= .ok (.tuple #[.agg #[x0,x1,x2,x3,x4,x5,x6],e]) w:=by
 obtain⟨⟨p0,p1,p2,p3⟩,p4,p5,p6⟩:=k1.seven;have c2':=k2.cell 0;simp at c2';simp[results,h,h1,h2,go_sem,p0,p1,p2,p3,p4,p5,p6,c2']
structure OpI(w V:MQ)(s:Nat)(pre:List Gx)(no nu:Nat)(Ao:OA)(co:Nat)(Au:OA)(cu:Nat)(W:MQ):Prop where
 low:∀k,k<s+4->k≠s+1->k≠s+2->W.heap[k]? =V.heap[k]?
 kO:Bk W (s+1) 22 #[.slice Ao no co]
 kU:Bk W (s+1+1) 31 #[.slice Au nu cu]
 oO:W.ownsRow (s+6) 9 1 (.slice Ao no co) no (flat aA (grO (gxG pre)))
 oU:W.ownsRow (s+6) 85 5 (.slice Au nu cu) nu (flat upC (grU (gxG pre)))
 b:Below w.heap.size w W
 z:s+4<=W.heap.size
 co:no<=co/\co<=maxLen
 cu:nu<=cu/\cu<=maxLen
section
variable {w V W W' : MQ} {s no nu co cu : Nat} {pre : List Gx} {Ao Au : OA}
theorem OpI.keep(h:OpI w V s pre no nu Ao co Au cu W)(hb:Below w.heap.size W W')(hk:∀k,k<s+4->W'.heap[k]? =W.heap[k]?)(hr:∀k e cur,s+6<=k->W.heap[k]? =some (.cells cur e (0,0))->W'.heap[k]? =W.heap[k]?):OpI w V s pre no nu Ao co Au cu W' :=
 ⟨fun k h1 h2 h3=>(hk k h1).trans (h.low k h1 h2 h3),(hk _ (by omega)).trans h.kO,(hk _ (by omega)).trans h.kU,gW h.oO fun k e=>by obtain⟨h1,cur,h2⟩:=bT h.oO e;exact hr k _ cur h1 h2,gW h.oU fun k e=>by obtain⟨h1,cur,h2⟩:=bT h.oU e;exact hr k _ cur h1 h2,h.b.trans hb,Z0 h.z hb.size,h.co,h.cu⟩
end
end
def PlP(r:Rp)(a u:Nat)(pl:fw)(r':Rp)(y:Int):Prop:=match pl with
 | .no=>r'=r/\y≠0/\y≠20
 | .keep=>r'=r/\y=0
 | .app g p rs lg=>r'= (jS r (cB r.d a u (aN g)) p rs lg).1/\y= (cB r.d a u (aN g)).2
 | .rew g p rs lg=>r'= (jS r (dC r.d a (aN g)) p rs lg).1/\y= (dC r.d a (aN g)).2
theorem after_done{r:Rp}{Y:Dk×Int}{p:List Itm}{rs:List Rf}{lg:List Upd}: (after r Y p rs lg).2=Y.2/\ (if(after r Y p rs lg).2=0∨ (after r Y p rs lg).2=20 then(after r Y p rs lg).1 else r)= (jS r Y p rs lg).1:=by
 unfold after jS;by_cases h1:Y.2=0
 . rw[if_pos h1,if_pos h1];exact⟨h1.symm,if_pos (.inl rfl)⟩
 . rw[if_neg h1,if_neg h1]
   by_cases h2:Y.2=20
   . rw[if_pos h2,if_pos h2];exact⟨h2.symm,if_pos (.inr rfl)⟩
   . rw[if_neg h2,if_neg h2];exact⟨rfl,if_neg (fun h=>h.elim h1 h2)⟩
theorem PlP.of{r r':Rp}{Y:Dk×Int}{p:List Itm}{rs:List Rf}{lg:List Upd}{y:Int}(h1:r'= (after r Y p rs lg).1)(h2:y= (after r Y p rs lg).2): (if y=0∨y=20 then r' else r)= (jS r Y p rs lg).1/\y=Y.2:=by
 subst h1;subst h2;exact⟨after_done.2,after_done.1⟩
theorem ExE.out{r:Rp}{a u:Nat}{pl:fw}{w w':MQ}{e:Ending}(h:ExE r a u pl w e w'):∃r' y,dO r' y w e w'/\PlP r a u pl (if y=0∨y=20 then r' else r) y:=by
 cases pl with
 | no =>
   obtain⟨x,h1,h2,h3⟩:=h;exact⟨_,_,h3,if_neg (fun h=>h.elim h1 h2),h1,h2⟩
 | keep=>exact⟨_,_,h,if_pos (.inl rfl),rfl⟩
 | app g p rs lg=>exact⟨_,_,h,PlP.of rfl rfl⟩
 | rew g p rs lg=>exact⟨_,_,h,PlP.of rfl rfl⟩
theorem CmtE.out{r:Rp}{a u:Nat}{t:fw×Dig}{w w':MQ}{e:Ending}(h:CmtE r a u t w e w'):∃r' d y,iZ r' d y w e w'/\PlP r a u t.1 (if y=0∨y=20 then r' else r) y:=by
 obtain⟨pl,d⟩:=t;cases pl with
 | no =>
   obtain⟨x,h1,h2,h3⟩:=h;exact⟨_,_,_,h3,if_neg (fun h=>h.elim h1 h2),h1,h2⟩
 | keep=>exact⟨_,_,_,h,if_pos (.inl rfl),rfl⟩
 | app g p rs lg=>exact⟨_,_,_,h,PlP.of rfl rfl⟩
 | rew g p rs lg=>exact h.elim
theorem Fw(p:List Itm)(rs:List Rf)(lg:List Upd):fB p rs lg= .keep∨∃g p' rs' lg',fB p rs lg= .rew g p' rs' lg':=by
 unfold fB;split
 . exact .inl rfl
 . exact .inr ⟨_,_,_,_,rfl⟩
theorem CoE.out{r:Rp}{a u:Nat}{w w':MQ}{e:Ending}(h:CoE r a (fB r.p r.rs r.lg) w e w'):∃r' n y,lC r' n y w e w'/\PlP r a u (fB r.p r.rs r.lg) (if y=0∨y=20 then r' else r) y:=by
 rcases Fw r.p r.rs r.lg with h1 | ⟨g,p',rs',lg',h1⟩ <;> rw[h1]at h ⊢
 . exact⟨_,_,_,h,if_pos (.inl rfl),rfl⟩
 . exact⟨_,_,_,h,PlP.of rfl rfl⟩
def DoP(r:Rp)(a u:Nat)(x:Ac)(r':Rp)(y:Int):Prop :=
 ((0<=x.kind/\x.kind<=2)/\r.d.lf=0/\r'=r/\y=20)∨ ((0<=x.kind/\x.kind<=2)/\r.d.lf≠0/\PlP r a u (iG x r.p r.rs r.lg) r' y)∨ (¬(0<=x.kind/\x.kind<=2)/\RI r')
structure Lvs(r:Rp)(gs:List Gru)(a u:Nat):Prop where
 d:Dur r.d (recs gs)
 j:Jn r.d.sz r.d.ss a (recs gs) u
 m:Mt gs r.p r.rs r.lg
 n:r.p.length<=49000
theorem RI.lv{r:Rp}(h:RI r)(hl:r.d.lf≠0):∃gs a u,Lvs r gs a u:=by
 obtain⟨gs,a,u,h1,h2,h3⟩:=h.live hl;exact⟨gs,a,u,h1,h2,h3,(h3.few h2 h.n).1⟩
theorem Hu{gs:List Gru}{x:Ac}{p:List Itm}{rs:List Rf}{lg:List Upd}(h:Mt gs p rs lg)(hp:p.length<=49000)(hx:AcF x):jw gs (iG x p rs lg):=by
 unfold iG;split
 . exact uu h (by have:=hx.nm;omega)
 . split
   . exact tN h (fun u hu=>⟨by have:=hx.us u hu;omega,hx.uw u hu⟩)
   . exact I7 h hp
theorem PlP.ri{r r':Rp}{gs:List Gru}{a u:Nat}{pl:fw}{y:Int}(hr:RI r)(h:Lvs r gs a u)(hp:jw gs pl)(hd:PlP r a u pl r' y):RI r':=by
 cases pl with
 | no=>rw[hd.1];exact hr
 | keep=>rw[hd.1];exact hr
 | app g p rs lg =>
   rw[hd.1];have ho:=KD h.d h.j (l:=aN g);rw[<-yj]at ho;exact zK hr h.m ho hp
 | rew g p rs lg =>
   rw[hd.1];have ho:=Ko h.d h.j (l:=aN g);refine zK (gs':= [g]) (l:=aN g) hr h.m ?_ (fun _=>hp);rw[Iz];exact ho
theorem DoP.ri{r r':Rp}{gs:List Gru}{a u:Nat}{x:Ac}{y:Int}(hr:RI r)(h:r.d.lf≠0->Lvs r gs a u)(hx:AcF x)(hd:DoP r a u x r' y):RI r':=by
 rcases hd with ⟨_,_,h1,_⟩ | ⟨_,h1,h2⟩ | ⟨_,h1⟩
 . rw[h1];exact hr
 . exact h2.ri hr (h h1) (Hu (h h1).m (h h1).n hx)
 . exact h1
section
attribute [local go_sem] Oper.semAt_some
theorem uq(r:Rp)(gs:List Gru)(a u:Nat)(s:Dsl)(B:Nat)(w:MQ)(hd:r.d.Ok)(hpn:r.d.pn= [])(hj:Jn r.d.sz r.d.ss a (recs gs) u)(hM:Mt gs r.p r.rs r.lg)(hm:DkM w B r.d s)(hB:B<=w.heap.size)(hn:r.d.ss.length<=100) :
  Calls Tryz.prog 11 #[dkV r.d s] w (dO r 0 w):=by
 refine(callsIn_wide (n:=6)).1 ?_;obtain⟨d,p,rs,lg⟩:=r;simp only at hd hpn hj hM hm hn ⊢;obtain⟨hrs,hrn⟩:=hj.fit hn;obtain⟨hpf,hlf,hlw⟩:=hM.few hj hn;have hrf:=kS hM.rf;obtain⟨W,hW⟩:∃W,((w.alloc (.cells (dkC d s) 25)).alloc (.cells rzC 35)).alloc (.cells #[.int .i64 0] 36)=W:=⟨_,rfl⟩
 have zW:W.heap.size=w.heap.size+3:=by rw[<-hW];simp
 have HB0:Hid (Below w.heap.size w W):=by rw[<-hW];exact(((af _ w).alloc ai _).alloc (by simp) _).alloc (by simp;omega) _
 have HK:Hid (Bk W w.heap.size 25 (dkC d s)):=by rw[<-hW];exact((Bk.new w _ _).alloc _).alloc _
 have HR1:Hid (Bk W (w.heap.size+1) 35 rzC):=by rw[<-hW];exact((Bk.new _ _ _).at_ (by simp)).alloc _
 have HR2:Hid (Bk W (w.heap.size+1+1) 36 #[.int .i64 0]):=by rw[<-hW];exact(Bk.new _ _ _).at_ (by simp)
 have HM:Hid (DkM W B d s):=hm.below HB0.out hB;have HRC:=ah (Ej d s B a u (recs gs) W hd hpn hj HM.out (by omega));unfold CG at HRC;have HW:=ah hW;have HMT:=ah hM;have HRS:=ah hrs;have HLW:=ah hlw;have HLG:=ah (yG hM.rf);have HLO:=ah hM.lo;clear hW hm hd hj hM hrs hlw;have hp0:d.pn.length=0:=by rw[hpn];rfl
 obtain⟨n,hnn⟩:∃n,d.ss.length=n:=⟨_,rfl⟩
 have HN:=ah hnn;have HPN:=ah hp0;obtain⟨m,hmm⟩:∃m,(recs gs).length=m:=⟨_,rfl⟩
 have HMM:=ah hmm;simp only[dkV,dkC,hnn,hp0,hmm]at HRC HK HW hn hrn ⊢;clear hnn hp0 hpn hmm;refine callsIn_of_wp_marks Tryz.func11 rfl trivial ?_ rfl;simp only[Tryz.ntmps11,List.size_toArray,Z5,List.length_nil,Nat.reduceAdd,Nat.reduceSub,Array.replicate_succ,Array.replicate_zero,List.push_toArray,List.append_toArray,List.nil_append,List.cons_append];obtain⟨k0,k1,k2,k3⟩:=HK.out.dk4
 gi_wp2_with fail
 rw[HW.out];refine⟨trivial,(callsIn_wide.2 HRC.out).mono ?_⟩;rintro e w1 ⟨A,c,rfl,hs1,hmc,hcm,hb1⟩;obtain⟨k0,k1,k2,k3⟩:=(HK.out.below hb1 (by omega)).dk4;have HS1:=ah hs1;have HB1:=ah hb1;have z1:=hb1.size;clear hb1 hs1 HRC;obtain⟨s1,hs1⟩:∃s1,w1.heap.size=s1:=⟨_,rfl⟩
 obtain⟨w6,hw6⟩:∃w6,(((w1.alloc (.cells #[.int .i64 d.sz,.slice s.a1 n s.c1,.slice s.a2 0 s.c2,.int .i64 d.lf,.slice none 0 0,.slice none 0 0,.slice none 0 0] 35)).alloc (.cells #[.slice none 0 0] 22)).alloc (.cells #[.slice none 0 0] 31))=w6:=⟨_,rfl⟩
 gi_wp2_with fail
 refine⟨trivial,(callsIn_wide.2 (FN A m c w6)).mono ?_⟩;rintro e w7 ⟨rfl,hw7⟩;have z6:w6.heap.size=s1+3:=by rw[<-hw6,<-hs1];simp
 have z7:w7.heap.size=s1+4:=by rw[hw7];simp;omega
 have hb6:Below s1 w1 w6:=by rw[<-hw6,<-hs1];exact(((af _ w1).alloc ai _).alloc (by simp) _).alloc (by simp;omega) _
 have hb67:Below (s1+3) w6 w7:=by rw[hw7,<-z6];exact(af _ w6).alloc ai _
 have HT6:Hid (Bk w7 s1 35 #[.int .i64 d.sz,.slice s.a1 n s.c1,.slice s.a2 0 s.c2,.int .i64 d.lf,.slice none 0 0,.slice none 0 0,.slice none 0 0]):=by
  have:Bk w6 s1 35 #[.int .i64 d.sz,.slice s.a1 n s.c1,.slice s.a2 0 s.c2,.int .i64 d.lf,.slice none 0 0,.slice none 0 0,.slice none 0 0]:=by rw[<-hw6,<-hs1];exact((Bk.new w1 _ _).alloc _).alloc _
  exact this.below hb67 (by omega)
 have HT7:Hid (Bk w7 (s1+1) 22 #[.slice none 0 0]):=by
  have:Bk w6 (s1+1) 22 #[.slice none 0 0]:=by rw[<-hw6,<-hs1];exact((Bk.new _ _ _).at_ (by simp)).alloc _
  exact this.below hb67 (by omega)
 have HT8:Hid (Bk w7 (s1+1+1) 31 #[.slice none 0 0]):=by
  have:Bk w6 (s1+1+1) 31 #[.slice none 0 0]:=by rw[<-hw6,<-hs1];exact(Bk.new _ _ _).at_ (by simp)
  exact this.below hb67 (by omega)
 have HT9:Hid (Bk w7 (s1+3) 22 #[.slice A m c]):=by rw[hw7];exact(Bk.new _ _ _).at_ z6
 have HB7:Hid (Below s1 w1 w7):=hb6.trans (hb67.mono (by omega));have HBW7:Hid (Below w.heap.size w w7):=HB0.out.trans ((HB1.out.trans (HB7.out.mono (by omega))).mono (by omega));have HS7:Hid (Sl w7 s1 1 A m (flat aA (recs gs))):=by have:=HS1.out.below HB7.out (by omega);rw[hs1]at this;exact this
 have HI0:Hid (OpI w w7 s1 [] 0 0 none 0 none 0 w7):=⟨fun _ _ _ _=>rfl,HT7.out,HT8.out,World.ownsRow_nil _ _ _ _,World.ownsRow_nil _ _ _ _,HBW7.out,by omega,⟨Nat.le_refl _,ZZ _⟩,⟨Nat.le_refl _,ZZ _⟩⟩
 have hws:w.heap.size+3<=s1:=by omega
 have HGOK:Hid (∀g∈gs,GOk g):=HMT.out.ok;obtain⟨iS,hiS,hS0,hS1,hS2⟩:=info_parts iR;obtain⟨iU,hiU,hU0,hU1,hU2⟩:=info_parts qo;have HiS:=ah hiS;have HS0:=ah hS0;have HS1':=ah hS1;have HS2:=ah hS2;have HiU:=ah hiU;have HU0:=ah hU0;have HU1:=ah hU1;have HU2:=ah hU2;clear hw7 hw6 hb6 hb67 k0 k1 k2 k3 hs1 hiS hS0 hS1 hS2 hiU hU0 hU1 hU2
 gi_wp2
 refine DN (α:=Gx) (F:=Fence.wide) (n:=6) rfl (by omega) (gf:=79) (lb:=#[.pointer (some ⟨s1+3,0,none⟩)]) rfl trivial (enters_of Tryz.func79 (by kernel_rfl) rfl)
  (EZ 5 (s1+3) s1 (w7.heap.size+2) (by omega) A m c gs w7 HT9.out HS7.out (by omega) hmc (by omega) HGOK.out HRS.out) KeepG.trans (fun W l r o' hl hlr=>⟨fun k hk=>World.putObj_heap_other (by omega),World.putObj_heap_other (by omega)⟩) (fun A C h hA=>⟨h.block _ (by omega),h.block _ (by omega)⟩) (af _ _) (fun _=>rfl)
  (fun pre W=>∃Ao co Au cu,OpI w w7 s1 pre (grO (gxG pre)).length (grU (gxG pre)).length Ao co Au cu W) (fun _ _ _=>False)
  ?hI ?hIx ?hIS ⟨none,0,none,0,HI0.out⟩
  (fun xs b W=>s1+6<=b/\∀pre x,xs=pre++ [x]->Bk W b 92 #[.slice x.1.1 x.1.2.1 x.1.2.2,.slice x.2.1.1 x.2.1.2.1 x.2.1.2.2,.bool false]/\GxM W x/\∃rest,gxG xs++rest=gs)
  ?hAp ?a1 ?assign ?body ?done ?stop
 case hI =>
  rintro pre A1 C row ⟨Ao,co,Au,cu,h⟩ hg hr;refine⟨Ao,co,Au,cu,h.keep ((af _ A1).grown hg h.b.size (fun k e=>by have:=(hr _ e).1;omega)) (fun k hk=>hg.block k (by have:=h.z;omega) (fun e=>by have:=(hr _ e.symm).1;omega)) (fun k e cur hk hc=>hg.block k (Array.getElem?_eq_some_iff.1 hc).1 (fun e2=>?_))⟩;obtain⟨_,o,ho,hcc⟩:=hr _ e2.symm;rw[hc]at ho;cases ho;cases hcc
 case hIx=>rintro c pre A1 C row hf _ _;exact hf
 case hIS =>
  rintro pre A1 C ⟨Ao,co,Au,cu,h⟩ hs;exact⟨Ao,co,Au,cu,h.keep (hs.mono h.b.size) (fun k hk=>hs.block k (by have:=h.z;omega)) (fun k e cur hk hc=>hs.block k (Array.getElem?_eq_some_iff.1 hc).1)⟩
 case hAp =>
  rintro xs b W l r o hl ⟨hb,hx⟩;refine⟨hb,fun pre x e=>?_⟩;obtain⟨h1,h2,h3⟩:=hx pre x e;refine⟨(World.putObj_heap_other (fun e=>?_)).trans h1,⟨h2.u.keepB (fun k cur _ hc=>World.putObj_heap_other (fun e=>by subst e;rw[hl]at hc;cases hc)),by have:=h2.o.putLp (by omega) hl (o':=o);simpa using this,h2.ul,h2.ol⟩,h3⟩;subst e;have:W.heap[b]? =_:=h1;rw[hl]at this;cases this
 case assign =>
  rintro l pre x W' K hP hWz ⟨Ao,co,Au,cu,h⟩ hK;have HKK:=ah hK;have HI:=ah h;have HP:=ah (hP pre x rfl);clear hK h hP;simp only[gxV]
  gi_wp2
  have hb:Below W'.heap.size W' (W'.alloc (.cells #[.slice x.1.1 x.1.2.1 x.1.2.2,.slice x.2.1.1 x.2.1.2.1 x.2.1.2.2,.bool false] 92)):=(af _ W').alloc ai _;have hkn:=Bk.new W' 92 #[.slice x.1.1 x.1.2.1 x.1.2.2,.slice x.2.1.1 x.2.1.2.1 x.2.1.2.2,.bool false];have hbz:=HI.out.z;obtain⟨bx,hbx⟩:∃bx,W'.heap.size=bx:=⟨_,rfl⟩
  rw[hbx]at hb hkn hWz hbz ⊢;refine HKK.out bx _ ⟨hb.block _ (by omega),hb.block _ (by omega)⟩ ⟨fun k hk=>hb.block _ (by omega),hb.block _ (by omega)⟩ ⟨Ao,co,Au,cu,HI.out.keep (hb.mono (by have:=HI.out.b.size;omega)) (fun k hk=>hb.block k (by omega)) (fun k e cur hk hc=>hb.block k (by have:=(Array.getElem?_eq_some_iff.1 hc).1;omega))⟩ ⟨by omega,fun pre' y he=>?_⟩;have e:=congrArg List.getLast? he;simp at e;subst e;exact⟨hkn,⟨HP.out.2.u.keepB (fun k cur _ hc=>hb.block k (by have:=(Array.getElem?_eq_some_iff.1 hc).1;omega)),(HP.out.2.o.below hb (by omega)).more (by simp),HP.out.2.ul,HP.out.2.ol⟩,HP.out.1⟩
 case body =>
  rintro l pre x bx W' hWz ⟨Ao,co,Au,cu,h⟩ ⟨hbx,hx⟩;obtain⟨hk,hgm,hrest⟩:=hx pre x rfl;have HI:=ah h;have HK9:=ah hk;have HGM:=ah hgm;have HGS:Hid (gxG (pre++ [x])=gxG pre++ [x.2.2]):=kE _ _;have hbl:=hk.lt;have hlenO: (grO (gxG pre)).length+x.2.1.2.1<=49000:=by
   obtain⟨rest,hr⟩:=hrest;rw[hgm.ol,<-ae,<-ug,<-kE];have h1:=qg gs;have h2:=HMM.out;rw[<-hr]at h1 h2;have h3: (grO (gxG (pre++ [x]))).length<= (grO (gxG (pre++ [x])++rest)).length:=by simp[grO]
   omega
  have hlenU: (grU (gxG pre)).length+x.1.2.1<=1000:=by
   obtain⟨rest,hr⟩:=hrest;rw[hgm.ul,<-ae,<-tZ,<-kE];have h1:=HLO.out;rw[<-hr]at h1;have h3: (grU (gxG (pre++ [x]))).length<= (grU (gxG (pre++ [x])++rest)).length:=by simp[grU]
   rw[<-h1]at h3;omega
  obtain⟨nO,hnO⟩:∃nO,(grO (gxG pre)).length=nO:=⟨_,rfl⟩
  obtain⟨nU,hnU⟩:∃nU,(grU (gxG pre)).length=nU:=⟨_,rfl⟩
  rw[hnO]at hlenO HI;rw[hnU]at hlenU HI;have HNO:=ah hnO;have HNU:=ah hnU;have cO:=HI.out.kO.cell 0;have fO:=HI.out.kO.free 0;have cU:=HI.out.kU.cell 0;have fU:=HI.out.kU.free 0;obtain⟨g0,g1,g2⟩:=hk.three;simp at cO cU;obtain⟨⟨uA,un,uc⟩,⟨oA,on,oc⟩,gu,go⟩:=x;simp only at HGM HK9 hlenO hlenU g0 g1 g2 HGS;have HZ:=HI.out.z;clear h hk hgm hx hrest hnO hnU HI0 HT6 HT7 HT8 HT9 HB7 HBW7 HS7
  gi_wp2_with (gi_at_builtin;refine aM ?_)
  refine aF ?_;refine nM (base:=s1+6) (size:=1) rfl (.tmp 31) (.tmp 33) 22 rfl 9 iS _ 16 Tryz.underlying22 HiS.out HS0.out HS1'.out HS2.out rfl (by decide) (.slice Ao nO co) nO _ rfl HI.out.oO W'.heap.size oA on oc (flat aA go) rfl HGM.out.o (fun v hv=>by unfold flat aA at hv;simp at hv;obtain⟨_,_,rfl⟩:=hv;rfl) (by unfold maxLen;omega) (by omega) (by omega) ?_;intro A4 c4 w4 ho4 hg4 hc41 hc42;rw[<-bu]at ho4;have hz4:=hg4.size;have HL4:Hid (∀k,k<s1+6->w4.heap[k]? =W'.heap[k]?):=fun k hk=>hg4.block k (by omega) (fun e=>by have:=(bT HI.out.oO e.symm).1;omega);have HT4:Hid (∀(k:Nat)(e:TypeId)(cur:Array MS),e≠9->W'.heap[k]? =some (.cells cur e (0,0))->w4.heap[k]? =W'.heap[k]?):=fun k e cur he hc=>hg4.block k (Array.getElem?_eq_some_iff.1 hc).1 (fun e2=>by
   obtain⟨_,cur',h2⟩:=bT HI.out.oO e2.symm;rw[hc]at h2;cases h2;exact he rfl)
  have HB4:Hid (Below w.heap.size w w4):=HI.out.b.grown hg4 HI.out.b.size (fun k e=>by have:=(bT HI.out.oO e).1;omega);have HK94:Hid (Bk w4 bx 92 #[.slice uA un uc,.slice oA on oc,.bool false]):=(HT4.out bx _ _ (by decide) HK9.out).trans HK9.out;have HKO4:Hid (Bk w4 (s1+1) 22 #[.slice Ao nO co]):=(HL4.out _ (by omega)).trans HI.out.kO;have HKU4:Hid (Bk w4 (s1+1+1) 31 #[.slice Au nU cu]):=(HL4.out _ (by omega)).trans HI.out.kU;have HU4:Hid (w4.ownsRow (s1+6) 85 5 (.slice Au nU cu) nU (flat upC (grU (gxG pre)))):=gW HI.out.oU fun k e=>by obtain⟨_,cur,h2⟩:=bT HI.out.oU e;exact HT4.out k _ cur (by decide) h2
  have HG4:Hid (Apd w4 0 85 5 uA un uc (flat upC gu)):=HGM.out.u.keepB fun k cur _ hc=>HT4.out k _ cur (by decide) hc;have HO4:=ah ho4;have HC41:=ah hc41;have HC42:=ah hc42;clear ho4 hg4 hc41 hc42 cO fO cU fU g0 g1 g2;have cO:=HKO4.out.cell 0;have fO:=HKO4.out.free 0;have cU:=HKU4.out.cell 0;have fU:=HKU4.out.free 0;obtain⟨g0,g1,g2⟩:=HK94.out.three;simp at cO cU;have hne1:s1+1+1≠s1+1:=by omega
  have hne2:bx≠s1+1:=by omega
  have hne3:bx≠s1+1+1:=by omega
  gi_wp2_with (gi_at_builtin;refine aM ?_)
  obtain⟨W5,hW5⟩:∃W5,w4.setCell ⟨s1+1,0,none⟩ (.slice A4 (nO+on) c4)=W5:=⟨_,rfl⟩
  have HO5:Hid (∀k,k≠s1+1->W5.heap[k]? =w4.heap[k]?):=fun k hk=>by rw[<-hW5];exact Z8 _ _ _ k hk
  have HKO5:Hid (Bk W5 (s1+1) 22 #[.slice A4 (nO+on) c4]):=by rw[<-hW5];show Bk _ _ _ _;have:=HKO4.out.set 0 (.slice A4 (nO+on) c4);simpa using this
  have HB5:Hid (Below w.heap.size w W5):=by rw[<-hW5];exact HB4.out.setCell (p:=⟨s1+1,0,none⟩) (by show w.heap.size<=s1+1;omega) _
  have z5:W5.heap.size=w4.heap.size:=by rw[<-hW5];simp
  rw[hW5];have HU5:Hid (W5.ownsRow (s1+6) 85 5 (.slice Au nU cu) nU (flat upC (grU (gxG pre)))):=gW HU4.out fun k e=>HO5.out k (by have:=(bT HU4.out e).1;omega);have HG5:Hid (Apd W5 0 85 5 uA un uc (flat upC gu)):=HG4.out.keepB fun k cur _ hc=>HO5.out k (fun e=>by
   subst e;have h1:w4.heap[s1+1]? =_:=HKO4.out;rw[hc]at h1;cases h1)
  have HOO5:Hid (W5.ownsRow (s1+6) 9 1 (.slice A4 (nO+on) c4) (nO+on) (flat aA (grO (gxG pre)++go))):=gW HO4.out fun k e=>HO5.out k (by have:=(bT HO4.out e).1;omega);have HKU5:Hid (Bk W5 (s1+1+1) 31 #[.slice Au nU cu]):=(HO5.out _ hne1).trans HKU4.out;clear hW5 cO fO cU fU g0 g1 g2;refine aF ?_;refine nM (base:=s1+6) (size:=5) rfl (.tmp 35) (.tmp 37) 31 rfl 85 iU _ 48 Tryz.underlying31 HiU.out HU0.out HU1.out HU2.out rfl (by decide) (.slice Au nU cu) nU _ rfl HU5.out W5.heap.size uA un uc (flat upC gu) rfl HG5.out.sl (Ku gu) (by unfold maxLen;omega) (by omega) (by omega) ?_;intro A6 c6 w6x ho6 hg6 hc61 hc62;rw[<-bu]at ho6;have hz6:=hg6.size;have HL6:Hid (∀k,k<s1+6->w6x.heap[k]? =W5.heap[k]?):=fun k hk=>hg6.block k (by omega) (fun e=>by have:=(bT HU5.out e.symm).1;omega);have HT6:Hid (∀(k:Nat)(e:TypeId)(cur:Array MS),e≠85->W5.heap[k]? =some (.cells cur e (0,0))->w6x.heap[k]? =W5.heap[k]?):=fun k e cur he hc=>hg6.block k (Array.getElem?_eq_some_iff.1 hc).1 (fun e2=>by
   obtain⟨_,cur',h2⟩:=bT HU5.out e2.symm;rw[hc]at h2;cases h2;exact he rfl)
  have HB6:Hid (Below w.heap.size w w6x):=HB5.out.grown hg6 HB5.out.size (fun k e=>by have:=(bT HU5.out e).1;omega);have HOO6:Hid (w6x.ownsRow (s1+6) 9 1 (.slice A4 (nO+on) c4) (nO+on) (flat aA (grO (gxG pre)++go))):=gW HOO5.out fun k e=>by obtain⟨_,cur,h2⟩:=bT HOO5.out e;exact HT6.out k _ cur (by decide) h2
  have HKO6:Hid (Bk w6x (s1+1) 22 #[.slice A4 (nO+on) c4]):=(HL6.out _ (by omega)).trans HKO5.out;have HKU6:Hid (Bk w6x (s1+1+1) 31 #[.slice Au nU cu]):=(HL6.out _ (by omega)).trans HKU5.out;have HO6:=ah ho6;have HC61:=ah hc61;have HC62:=ah hc62;clear ho6 hg6 hc61 hc62;have cU:=HKU6.out.cell 0;have fU:=HKU6.out.free 0;simp at cU
  gi_wp2
  have hoth:∀k,k≠s1+1+1-> (w6x.setCell ⟨s1+1+1,0,none⟩ (.slice A6 (nU+un) c6)).heap[k]? =w6x.heap[k]? :=fun k hk=>Z8 _ _ _ k hk;have hlow7:∀k,k<s1+6->k≠s1+1->k≠s1+1+1-> (w6x.setCell ⟨s1+1+1,0,none⟩ (.slice A6 (nU+un) c6)).heap[k]? =W'.heap[k]? :=fun k h1 h2 h3=>(hoth k h3).trans ((HL6.out k h1).trans ((HO5.out k h2).trans (HL4.out k h1)));have hnO2: (grO (gxG (pre++ [((uA,un,uc),(oA,on,oc),gu,go)]))).length=nO+on:=by rw[HGS.out,ug,ae,HNO.out];show nO+go.length=nO+on;have:=HGM.out.ol;simp only at this;omega
  have hnU2: (grU (gxG (pre++ [((uA,un,uc),(oA,on,oc),gu,go)]))).length=nU+un:=by rw[HGS.out,tZ,ae,HNU.out];show nU+gu.length=nU+un;have:=HGM.out.ul;simp only at this;omega
  refine⟨⟨hlow7 _ (by omega) (by omega) (by omega),hlow7 _ (by omega) (by omega) (by omega)⟩,⟨fun k hk=>hlow7 k (by omega) (by omega) (by omega),hlow7 _ (by omega) (by omega) (by omega)⟩,A4,c4,A6,c6,?_⟩;rw[hnO2,hnU2];refine⟨fun k h1 h2 h3=>(hlow7 k (by omega) h2 h3).trans (HI.out.low k h1 h2 h3),(hoth _ (by omega)).trans HKO6.out,?_,?_,?_,HB6.out.setCell (p:=⟨s1+1+1,0,none⟩) (by show w.heap.size<=s1+1+1;omega) _,by simp;omega,⟨HC41.out,HC42.out⟩,⟨HC61.out,HC62.out⟩⟩
  . have:=HKU6.out.set 0 (.slice A6 (nU+un) c6);simpa using this
  . rw[HGS.out,ug];exact gW HOO6.out fun k e=>hoth k (by have:=(bT HOO6.out e).1;omega)
  . rw[HGS.out,tZ];exact gW HO6.out fun k e=>hoth k (by have:=(bT HO6.out e).1;omega)
 case stop=>intro D c pre W _ _ h;exact h.elim
 case done =>
  rintro D xs W' hD hS ⟨Ao,co,Au,cu,hi⟩ hK;rw[hS]at hi;have hlU: (grU gs).length=lg.length:=by rw[<-HLO.out]
  have hOl: (grO gs).length<=49000:=by have h1:=qg gs;have h2:=HMM.out;omega
  obtain⟨nO,hnO⟩:∃nO,(grO gs).length=nO:=⟨_,rfl⟩
  rw[hlU,hnO]at hi;rw[hnO]at hOl;have hk6:Bk W' s1 35 #[.int .i64 d.sz,.slice s.a1 n s.c1,.slice s.a2 0 s.c2,.int .i64 d.lf,.slice none 0 0,.slice none 0 0,.slice none 0 0]:=(hi.low s1 (by omega) (by omega) (by omega)).trans HT6.out;have HD0:Hid (W'.heap[D]? =some (.deferred (some []))):=hK;have hoO:=hi.oO;have hoU:=hi.oU;rw[hS]at hoO hoU;have HI:=ah hi;have HK6:=ah hk6;have hDl:D<W'.heap.size:=(Array.getElem?_eq_some_iff.1 hK).1;have cO:=hi.kO.cell 0;have cU:=hi.kU.cell 0;simp at cO cU;have HLU:Hid (grU gs=lg):=HLO.out.symm;have HR1W:Hid (Bk W' (w.heap.size+1) 35 rzC):=(hi.low _ (by omega) (by omega) (by omega)).trans (HR1.out.below (HB1.out.trans (HB7.out.mono (by omega))) (by omega));have HR2W:Hid (Bk W' (w.heap.size+1+1) 36 #[.int .i64 0]):=(hi.low _ (by omega) (by omega) (by omega)).trans (HR2.out.below (HB1.out.trans (HB7.out.mono (by omega))) (by omega));have HMW:Hid (DkM W' s1 d s):=by
   have:=(HM.out.below (HB1.out.trans (HB7.out.mono (by omega))) (by omega)).more (show B<=w.heap.size by omega);have key:∀k,k<w.heap.size->W'.heap[k]? =w7.heap[k]? :=fun k hk=>hi.low k (by omega) (by omega) (by omega);exact⟨(this.ss.low key).more (by omega),(this.pn.low key).more (by omega)⟩
  have HGA:=ah (FT p (grO gs) Ao nO co W'.heap.size W' (Sl.of_own hoO) ai (by omega) HMT.out.pl (fun b hb=>(HMT.out.ob b).1 hb) (fun i hi=>(HMT.out.ob _).2 ⟨i,hi,rfl⟩));have zWs:=hi.z;have HBW:Hid (Below w.heap.size w W'):=hi.b;have HUW:Hid (Sl W' W'.heap.size 5 Au lg.length (flat upC lg)):=by have:=Sl.of_own hoU;rw[HLU.out]at this;exact this
  clear hi hk6 hK hS hoO hoU hlU hnO HI0 HT6 HT7 HT8 HT9 HB7 HBW7 HS7 HI
  gi_wp2_with fail
  refine⟨trivial,(callsIn_wide.2 HGA.out).mono ?_⟩;rintro e w8 ⟨pA,pc,rfl,hsp,hpc,hpm,hb8⟩;have z8:=hb8.size;have HP8:=ah hsp;have HK68:=ah (HK6.out.below hb8 (by omega));have HR18:=ah (HR1W.out.below hb8 (by omega));have HR28:=ah (HR2W.out.below hb8 (by omega));have HM8:=ah (HMW.out.below hb8 (by omega));have HU8:=ah (HUW.out.below hb8 ai);have HD8:Hid (w8.heap[D]? =some (.deferred (some []))):=(hb8.block D (by omega)).trans HD0.out;have HB8:Hid (Below w.heap.size w w8):=HBW.out.trans (hb8.mono HBW.out.size);have cU8:=(hb8.cell (p:=⟨s1+1+1,0,none⟩) (by show s1+1+1<_;omega)).trans cU;clear hsp hb8 HGA cO cU;obtain⟨⟨t0,t1,t2,t3⟩,t4,t5,t6⟩:=HK68.out.seven;have f4:=HK68.out.free 4;have HRM8:Hid (RpM w8 w8.heap.size ⟨d,p,[],lg⟩ ⟨s,pA,pc,none,0,Au,cu⟩):=⟨HM8.out.more (by omega),HP8.out,Sl.nil _ _ _ _,HU8.out.more z8,hpc,hpm⟩
  have hne1:s1+1+1≠s1:=by omega
  gi_wp2_with fail
  obtain⟨w9,hw9⟩:∃w9,w8.setCell ⟨s1,4,none⟩ (.slice pA p.length pc)=w9:=⟨_,rfl⟩
  have HO9:Hid (∀k,k≠s1->w9.heap[k]? =w8.heap[k]?):=fun k hk=>by rw[<-hw9];exact Z8 _ _ _ k hk
  have z9:w9.heap.size=w8.heap.size:=by rw[<-hw9];simp
  have HK69:Hid (Bk w9 s1 35 #[.int .i64 d.sz,.slice s.a1 n s.c1,.slice s.a2 0 s.c2,.int .i64 d.lf,.slice pA p.length pc,.slice none 0 0,.slice none 0 0]):=by rw[<-hw9];show Bk _ _ _ _;have:=HK68.out.set 4 (.slice pA p.length pc);simpa using this
  have HRM9:Hid (RpM w9 w9.heap.size ⟨d,p,[],lg⟩ ⟨s,pA,pc,none,0,Au,cu⟩):=by have:=HRM8.out.box HK68.out (by simp[bxV]) HO9.out;exact this.more (by omega)
  have HB9:Hid (Below w.heap.size w w9):=by rw[<-hw9];exact HB8.out.setCell (p:=⟨s1,4,none⟩) (by show w.heap.size<=s1;omega) _
  have HR19:Hid (Bk w9 (w.heap.size+1) 35 rzC):=(HO9.out _ (by omega)).trans HR18.out;have HR29:Hid (Bk w9 (w.heap.size+1+1) 36 #[.int .i64 0]):=(HO9.out _ (by omega)).trans HR28.out;have HD9:Hid (w9.heap[D]? =some (.deferred (some []))):=(HO9.out D (by omega)).trans HD8.out;rw[hw9];clear hw9 t0 t1 t2 t3 t4 t5 t6 f4 cU8 HK68 HR18 HR28 HM8 HU8 HD8 HB8 HRM8 HP8 HO9;have HAP:=ah (xw none none Au 0 0 0 0 lg.length cu w9.heap.size [] [] lg w9 (Sl.nil _ _ _ _) (Sl.nil _ _ _ _) HRM9.out.l ai (by unfold maxLen;omega) (by unfold maxLen;omega) (by omega) (fun u hu=>by have:=(HLW.out u hu).1;unfold maxLen;omega) (fun u hu=>by cases hu));unfold lh at HAP;rw[HLG.out]at HAP;refine⟨trivial,(callsIn_wide.2 HAP.out).mono ?_⟩;rintro e wa ⟨rA,rn,rc,lA,ln,lc,rfl,hsr,hrc,_,hsl,_,_,hba⟩;have hrn:rs.length=rn:=hsr.len gN (by omega);have hln:lg.length=ln:=hsl.len eB (by omega);subst hrn hln;have za:=hba.size;have HK6a:=ah (HK69.out.below hba (by omega));have HR1a:=ah (HR19.out.below hba (by omega));have HR2a:=ah (HR29.out.below hba (by omega));have HDa:Hid (wa.heap[D]? =some (.deferred (some []))):=(hba.block D (by omega)).trans HD9.out;have HBa:Hid (Below w.heap.size w wa):=HB9.out.trans (hba.mono HB9.out.size);have HRMa:Hid (RpM wa wa.heap.size ⟨d,p,rs,lg⟩ ⟨s,pA,pc,rA,rc,lA,lc⟩):=⟨(HRM9.out.d.below hba ai).more hba.size,(HRM9.out.p.below hba ai).more hba.size,hsr,hsl,hpc,hpm⟩
  clear hsr hsl hba HAP HRM9 HK69 HR19 HR29 HD9 HB9;obtain⟨⟨t0,t1,t2,t3⟩,t4,t5,t6⟩:=HK6a.out.seven;have f5:=HK6a.out.free 5;have f6:=HK6a.out.free 6
  gi_wp2_with fail
  obtain⟨wb,hwb⟩:∃wb,(wa.setCell ⟨s1,5,none⟩ (.slice rA rs.length rc)).setCell ⟨s1,6,none⟩ (.slice lA lg.length lc)=wb:=⟨_,rfl⟩
  have HOb:Hid (∀k,k≠s1->wb.heap[k]? =wa.heap[k]?):=fun k hk=>by rw[<-hwb];exact(Z8 _ _ _ k hk).trans (Z8 _ _ _ k hk)
  have zb:wb.heap.size=wa.heap.size:=by rw[<-hwb];simp
  have HKb:Hid (Bk wb s1 35 #[.int .i64 d.sz,.slice s.a1 n s.c1,.slice s.a2 0 s.c2,.int .i64 d.lf,.slice pA p.length pc,.slice rA rs.length rc,.slice lA lg.length lc]):=by rw[<-hwb];show Bk _ _ _ _;have:=(HK6a.out.set 5 (.slice rA rs.length rc)).set 6 (.slice lA lg.length lc);simpa using this
  have HRMb:Hid (RpM wb wb.heap.size ⟨d,p,rs,lg⟩ ⟨s,pA,pc,rA,rc,lA,lc⟩):=by have:=HRMa.out.box HK6a.out (by simp[bxV]) HOb.out;exact this.more (by omega)
  have HBb:Hid (Below w.heap.size w wb):=by rw[<-hwb];exact(HBa.out.setCell (p:=⟨s1,5,none⟩) (by show w.heap.size<=s1;omega) _).setCell (p:=⟨s1,6,none⟩) (by show w.heap.size<=s1;omega) _
  have HR1b:Hid (Bk wb (w.heap.size+1) 35 rzC):=(HOb.out _ (by omega)).trans HR1a.out;have HR2b:Hid (Bk wb (w.heap.size+1+1) 36 #[.int .i64 0]):=(HOb.out _ (by omega)).trans HR2a.out;have HDb:Hid (wb.heap[D]? =some (.deferred (some []))):=(HOb.out D (by omega)).trans HDa.out;have HWFR:Hid (∀x∈rs,WfD x.2):=fun x hx=>by
   have h0:=compl_zero.1 (HMT.out.co x hx);obtain⟨⟨o,ho,_⟩,_⟩:=h0;rw[mW HMT.out.pl ho];exact eP _
  rw[hwb];clear hwb t0 t1 t2 t3 t4 t5 t6 f5 f6 HK6a HR1a HR2a HDa HBa HRMa HOb
  gi_loopw [63] (fun i wr=>∃k:Nat,k<=rs.length/\i= .int .i64 k/\Hid (Below wb.heap.size wb wr)) (fun i _=>rs.length - (intOf i).toNat)
  case atStart=>exact⟨0,ZZ _,rfl,af _ _⟩
  case round =>
   obtain⟨k,hk,rfl,hBr⟩:=hrel;have HBr:=ah hBr.out;have zr:=HBr.out.size;clear hBr;by_cases hlt:k<rs.length
   . obtain⟨bb,off,x,hA,hbb,hx,hc⟩:=(HRMb.out.rf.below HBr.out ai).at_ gN (by omega) hlt
     have x0:=hc 0 _ rfl;have x1:=hc 1 _ rfl;have x2:=hc 2 _ rfl;simp only at hA;subst hA;have hlz: (k:Int)< (rs.length:Int):=by omega
     have hxm:=Z7 hx;have HCO:Hid (dm p x.2=0):=HMT.out.co x hxm;have HXW:Hid (WfD x.2):=HWFR.out x hxm;obtain⟨xn,x3,x4⟩:=x;simp only[Nat.add_zero]at x0 x1 x2 HCO HXW;obtain⟨W3,hW3⟩:∃W3,wr.alloc (.cells #[.string xn,.int .u64 x3,.int .u64 x4] 52)=W3:=⟨_,rfl⟩
     have hb3:Below wr.heap.size wr W3:=by rw[<-hW3];exact(af _ wr).alloc ai _
     have HB3:Hid (Below wb.heap.size wb W3):=HBr.out.trans (hb3.mono zr);have HCM:=ah (wP p pA p.length pc wb.heap.size (x3,x4) W3 (HRMb.out.p.below HB3.out ai) HB3.out.size (by omega) HMT.out.pl HXW.out);rw[HCO.out]at HCM;simp only[aB]at HCM;have hk3:Bk W3 wr.heap.size 52 #[.string xn,.int .u64 x3,.int .u64 x4]:=by rw[<-hW3];exact Bk.new wr _ _
     obtain⟨y0,y1,y2⟩:=hk3.three;clear hc hx hxm hb3 hk3
     gi_wp2_with fail
     refine⟨trivial,(callsIn_wide.2 HCM.out).mono ?_⟩;rintro e w4 ⟨rfl,hb4⟩;have HB4:Hid (Below wb.heap.size wb w4):=HB3.out.trans (hb4.mono HB3.out.size);clear hb4 HCM x0 x1 x2 hW3 y0 y1 y2
     gi_wp2
     go_roundw
     case rel=>exact⟨k+1,hlt,by go_num,HB4.out⟩
     case measure=>simp[intOf];omega
   . have hlz:¬(k:Int)< (rs.length:Int):=by omega
     have HKr:=ah (HKb.out.below HBr.out (by omega));have HR1r:=ah (HR1b.out.below HBr.out (by omega));have HR2r:=ah (HR2b.out.below HBr.out (by omega));have HDr:Hid (wr.heap[D]? =some (.deferred (some []))):=(HBr.out.block D (by omega)).trans HDb.out;have HBw:Hid (Below w.heap.size w wr):=HBb.out.trans (HBr.out.mono (by omega));have HRMr:Hid (RpM wr wr.heap.size ⟨d,p,rs,lg⟩ ⟨s,pA,pc,rA,rc,lA,lc⟩):=(HRMb.out.below HBr.out ai).more zr;obtain⟨⟨t0,t1,t2,t3⟩,t4,t5,t6⟩:=HKr.out.seven;obtain⟨⟨q0,q1,q2,q3⟩,q4,q5,q6⟩:=HR1r.out.seven;obtain⟨⟨f0,f1,f2,f3⟩,f4,f5,f6⟩:=HR1r.out.free7;have e0:=HR2r.out.cell 0;have e1:=HR2r.out.free 0;simp at e0;have hne3:w.heap.size+1≠w.heap.size+1+1:=by omega
     clear HKb HR1b HR2b HDb HBb HRMb
     gi_wp2
     obtain⟨V7,hV7⟩:∃V7,((((((wr.setCell ⟨w.heap.size+1,0,none⟩ (.int .i64 d.sz)).setCell ⟨w.heap.size+1,1,none⟩ (.slice s.a1 n s.c1)).setCell ⟨w.heap.size+1,2,none⟩ (.slice s.a2 0 s.c2)).setCell ⟨w.heap.size+1,3,none⟩ (.int .i64 d.lf)).setCell ⟨w.heap.size+1,4,none⟩ (.slice pA p.length pc)).setCell ⟨w.heap.size+1,5,none⟩ (.slice rA rs.length rc)).setCell ⟨w.heap.size+1,6,none⟩ (.slice lA lg.length lc)=V7:=⟨_,rfl⟩
     obtain⟨Vf,hVf⟩:∃Vf,V7.setCell ⟨w.heap.size+1+1,0,none⟩ (.int .i64 0)=Vf:=⟨_,rfl⟩
     have ho7:∀k,k≠w.heap.size+1->V7.heap[k]? =wr.heap[k]? :=fun k hk=>by rw[<-hV7];exact fZ _ _ _ _ _ _ _ _ _ k hk
     have hof:∀k,k≠w.heap.size+1+1->Vf.heap[k]? =V7.heap[k]? :=fun k hk=>by rw[<-hVf];exact Z8 _ _ _ k hk
     have hk7:Bk V7 (w.heap.size+1) 35 #[.int .i64 d.sz,.slice s.a1 n s.c1,.slice s.a2 0 s.c2,.int .i64 d.lf,.slice pA p.length pc,.slice rA rs.length rc,.slice lA lg.length lc]:=by rw[<-hV7];exact HR1r.out.set7 _ _ _ _ _ _ _
     have he7:Bk V7 (w.heap.size+1+1) 36 #[.int .i64 0]:=(ho7 _ (by omega)).trans HR2r.out;have k1:Bk Vf (w.heap.size+1) 35 #[.int .i64 d.sz,.slice s.a1 n s.c1,.slice s.a2 0 s.c2,.int .i64 d.lf,.slice pA p.length pc,.slice rA rs.length rc,.slice lA lg.length lc]:=(hof _ (by omega)).trans hk7;have k2:Bk Vf (w.heap.size+1+1) 36 #[.int .i64 0]:=by rw[<-hVf];have:=he7.set 0 (.int .i64 0);simpa using this
     have hbf:Below w.heap.size w Vf:=by rw[<-hVf,<-hV7];exact(dz HBw.out (by omega) _ _ _ _ _ _ _).setCell (p:=⟨w.heap.size+1+1,0,none⟩) (by show w.heap.size<=w.heap.size+1+1;omega) _
     have zf:Vf.heap.size=wr.heap.size:=by rw[<-hVf,<-hV7];simp
     have hrm:RpM Vf wr.heap.size ⟨d,p,rs,lg⟩ ⟨s,pA,pc,rA,rc,lA,lc⟩:=(HRMr.out.box HR1r.out (by simp[bxV]) ho7).box he7 (by simp[bxV]) hof;have hkf:Vf.heap[D]? =some (.deferred (some [])):=(hof D (by omega)).trans ((ho7 D (by omega)).trans HDr.out);have hnc:∀o,Vf.cell? ⟨D,o,none⟩=none:=fun o=>by simp[World.cell?,hkf]
     rw[hV7,hVf];refine⟨by simp,.inl ⟨_,_,rfl,run_takeDeferred hkf,?_⟩⟩;refine⟨_,Ld rfl rfl rfl ((World.putObj_heap_other (by omega)).trans k1) ((World.putObj_heap_other (by omega)).trans k2),⟨s,pA,pc,rA,rc,lA,lc⟩,?_,?_,?_⟩
     . simp only[rpV,rpC,HN.out,HPN.out]
     . have:=(hrm.noCell (w':=Vf.putObj D (.deferred none)) hnc (fun k hk=>World.putObj_heap_other hk)).more (show wr.heap.size<= (Vf.putObj D (.deferred none)).heap.size by simp;omega)
       exact this
     . exact hbf.grown (grownBy_putObj' _ _ _) (by have:=hbf.size;simpa using this) (fun k e=>by cases e;omega)
end
@[go_sem high] theorem MJ (a b c d : Int) (w : MQ) : (Op.equalIn 9999 50 (.agg #[.int .u64 a, .int .u64 b]) (.agg #[.int .u64 c, .int .u64 d])).run Tryz.prog w = .ok (a == c && b == d) w := vE 9997 a b c d w
theorem J7(A0 A1:OA)(n c0 c1 B:Nat)(l:List Itm)(w:MQ)(h0:Sl w B 3 A0 n (flat itC l))(h1:Sl w B 3 A1 n (flat itC l))(m0:n<=1000000000) :
  Calls Tryz.prog 61 #[.slice A0 n c0,.slice A1 n c1] w fun e w'=>e= .returned (.bool true)/\∃k,w'=w.drewN k:=by
 have H0:=ah h0;have H1:=ah h1;clear h0 h1
 go_enter Tryz.func61,Tryz.ntmps61
 go_wp2
 go_loopw[13] (fun i wr=>∃k nq:Nat,k<=n/\i= .int .i64 k/\wr=w.drewN nq) (fun i _=>n - (intOf i).toNat)
 case atStart=>exact⟨0,0,ZZ _,rfl,rfl⟩
 case round =>
  obtain⟨k,nq,hk,rfl,rfl⟩:=hrel;by_cases hlt:k<n
  . obtain⟨b0,o0,r,rfl,_,hr,hc0⟩:=H0.out.at_ bN (by omega) hlt
    obtain⟨b1,o1,q,rfl,_,hq,hc1⟩:=H1.out.at_ bN (by omega) hlt;rw[hr]at hq;cases hq;have x0:=hc0 0 _ rfl;have y0:=hc1 0 _ rfl;have x1:=hc0 1 _ rfl;have y1:=hc1 1 _ rfl;have x2:=hc0 2 _ rfl;have y2:=hc1 2 _ rfl;simp only[Nat.add_zero]at x0 y0 x1 y1 x2 y2;clear hc0 hc1 hr;have hlz: (k:Int)< (n:Int):=by omega
    go_wp2
    go_region
    go_wp2
    go_roundw
    case rel=>exact⟨k+1,nq+1,by omega,by go_num,World.drewN_drewN _ _ 1⟩
    case measure=>simp[intOf];omega
  . have hlz:¬(k:Int)< (n:Int):=by omega
    go_wp2
    go_ret
    exact⟨rfl,_,rfl⟩
theorem J2(A0 A1:OA)(n c0 c1 B:Nat)(l:List Rf)(w:MQ)(h0:Sl w B 3 A0 n (flat rfC l))(h1:Sl w B 3 A1 n (flat rfC l))(m0:n<=1000000000) :
  Calls Tryz.prog 62 #[.slice A0 n c0,.slice A1 n c1] w fun e w'=>e= .returned (.bool true)/\∃k,w'=w.drewN k:=by
 have H0:=ah h0;have H1:=ah h1;clear h0 h1
 go_enter Tryz.func62,Tryz.ntmps62
 go_wp2
 go_loopw[13] (fun i wr=>∃k nq:Nat,k<=n/\i= .int .i64 k/\wr=w.drewN nq) (fun i _=>n - (intOf i).toNat)
 case atStart=>exact⟨0,0,ZZ _,rfl,rfl⟩
 case round =>
  obtain⟨k,nq,hk,rfl,rfl⟩:=hrel;by_cases hlt:k<n
  . obtain⟨b0,o0,r,rfl,_,hr,hc0⟩:=H0.out.at_ gN (by omega) hlt
    obtain⟨b1,o1,q,rfl,_,hq,hc1⟩:=H1.out.at_ gN (by omega) hlt;rw[hr]at hq;cases hq;have x0:=hc0 0 _ rfl;have y0:=hc1 0 _ rfl;have x1:=hc0 1 _ rfl;have y1:=hc1 1 _ rfl;have x2:=hc0 2 _ rfl;have y2:=hc1 2 _ rfl;simp only[Nat.add_zero]at x0 y0 x1 y1 x2 y2;clear hc0 hc1 hr;have hlz: (k:Int)< (n:Int):=by omega
    go_wp2
    go_region
    go_wp2
    go_roundw
    case rel=>exact⟨k+1,nq+1,by omega,by go_num,World.drewN_drewN _ _ 1⟩
    case measure=>simp[intOf];omega
  . have hlz:¬(k:Int)< (n:Int):=by omega
    go_wp2
    go_ret
    exact⟨rfl,_,rfl⟩
theorem Ka(A0 A1:OA)(n c0 c1 B:Nat)(l:List Upd)(w:MQ)(h0:Sl w B 5 A0 n (flat upC l))(h1:Sl w B 5 A1 n (flat upC l))(m0:n<=1000000000) :
  Calls Tryz.prog 63 #[.slice A0 n c0,.slice A1 n c1] w fun e w'=>e= .returned (.bool true)/\∃k,w'=w.drewN k:=by
 have H0:=ah h0;have H1:=ah h1;clear h0 h1
 go_enter Tryz.func63,Tryz.ntmps63
 go_wp2
 go_loopw[13] (fun i wr=>∃k nq:Nat,k<=n/\i= .int .i64 k/\wr=w.drewN nq) (fun i _=>n - (intOf i).toNat)
 case atStart=>exact⟨0,0,ZZ _,rfl,rfl⟩
 case round =>
  obtain⟨k,nq,hk,rfl,rfl⟩:=hrel;by_cases hlt:k<n
  . obtain⟨b0,o0,r,rfl,_,hr,hc0⟩:=H0.out.at_ eB (by omega) hlt
    obtain⟨b1,o1,q,rfl,_,hq,hc1⟩:=H1.out.at_ eB (by omega) hlt;rw[hr]at hq;cases hq;have x0:=hc0 0 _ rfl;have y0:=hc1 0 _ rfl;have x1:=hc0 1 _ rfl;have y1:=hc1 1 _ rfl;have x2:=hc0 2 _ rfl;have y2:=hc1 2 _ rfl;have x3:=hc0 3 _ rfl;have y3:=hc1 3 _ rfl;have x4:=hc0 4 _ rfl;have y4:=hc1 4 _ rfl;simp only[Nat.add_zero]at x0 y0 x1 y1 x2 y2 x3 y3 x4 y4;clear hc0 hc1 hr;have hlz: (k:Int)< (n:Int):=by omega
    go_wp2
    go_region
    go_wp2
    go_roundw
    case rel=>exact⟨k+1,nq+1,by omega,by go_num,World.drewN_drewN _ _ 1⟩
    case measure=>simp[intOf];omega
  . have hlz:¬(k:Int)< (n:Int):=by omega
    go_wp2
    go_ret
    exact⟨rfl,_,rfl⟩
section
attribute [local go_sem] Oper.semAt_some
section
variable {B0 hz : Nat} {A B C : MQ}
end
end
@[go_sem] theorem MG : Tryz.prog.eqGuardType Tryz.prog.depth 118 = false := by kernel_rfl
theorem KE:Tryz.prog.stoodInHeld 118=false:=by kernel_rfl
theorem LU(a b c d:Int)(w:MQ): (Op.equalIn 9999 50 (.agg #[.int .u64 a,.int .u64 b]) (.agg #[.int .u64 c,.int .u64 d])).run Tryz.prog w= .ok (a == c && b == d) w:=vE 9997 a b c d w
@[go_sem high] theorem MP (a b c d : Int) (s t : MR) (w : MQ) : (Op.equalIn 10000 118 (.agg #[.int .u64 a, .int .u64 b, .string s]) (.agg #[.int .u64 c, .int .u64 d, .string t])).run Tryz.prog w = .ok ((a == c && b == d) && s.toList == t.toList) w := by
 have hS:Tryz.prog.underlying 118=some (.struct (Tryz.prog.fieldsOf 118)):=by kernel_rfl
 have a9:=Tryz.isAgg9;have u9:=Tryz.underlying9;have aD:=Tryz.isAgg50;have uD:=Tryz.underlying50;have zD:=Tryz.sizeOf50;have hd:=LU a b c d w;rw[show(10000:Nat)=9999+1 from rfl,run_equalIn_agg w 9999 118 _ _ hS KE];simp only[Program.fieldsOf,Tryz.underlying118]
 go_simp
 by_cases h1:a=c <;> by_cases h2:b=d <;> by_cases h3:s.toList=t.toList <;> simp[h1,h2,h3]
instance :DecidableEq FCh:=fun a b=>decidable_of_iff (a.path=b.path/\a.ho=b.ho/\a.hn=b.hn/\a.old=b.old/\a.new=b.new) ⟨fun h=>by cases a;cases b;simp_all,fun h=>by subst h;simp⟩
theorem Gz(A0 A1:OA)(n0 c0 n1 c1 B:Nat)(rs qs:List Itm)(w:MQ)(h0:Sl w B 3 A0 n0 (flat itC rs))(h1:Sl w B 3 A1 n1 (flat itC qs))(m0:n0<=maxLen) :
  Calls Tryz.prog 20 #[.slice A0 n0 c0,.slice A1 n1 c1] w fun e w'=>e= .returned (.bool (decide (rs=qs)))/\∃k,w'=w.drewN k:=by
 unfold maxLen at m0;have HL0:=ah (h0.len bN (by omega));have HL1:=ah (h1.len bN (by omega));have H0:=ah h0;have H1:=ah h1;clear h0 h1;have hM:Hid (decide (rs=qs)=true↔rs=qs):=decide_eq_true_iff;generalize decide (rs=qs)=mb at *;by_cases hn:n0=n1
 . subst hn
   go_enter Tryz.func20,Tryz.ntmps20
   go_wp2
   go_loopw[5] (fun i wr=>∃k nq:Nat,k<=n0/\i= .int .i64 k/\wr=w.drewN nq/\Hid (rs.take k=qs.take k)) (fun i _=>n0 - (intOf i).toNat)
   case atStart=>exact⟨0,0,ZZ _,rfl,rfl,rfl⟩
   case round =>
    obtain⟨k,nq,hk,rfl,rfl,heq⟩:=hrel;by_cases hlt:k<n0
    . obtain⟨b0,o0,r,rfl,_,hr,x0,x1,x2⟩:=H0.out.it hlt
      obtain⟨b1,o1,q,rfl,_,hq,y0,y1,y2⟩:=H1.out.it hlt;have HR:=ah hr;have HQ:=ah hq;clear hr hq;have hlz: (k:Int)< (n0:Int):=by omega
      by_cases e:r=q
      . have t1: ((r.1.1 == q.1.1 && r.1.2 == q.1.2) && r.2.toList == q.2.toList)=true:=by rw[e];simp
        have HE:=ah e;clear e;have hnx:Hid (rs.take (k+1)=qs.take (k+1)):=by
         show _=_;rw[aS HR.out,aS HQ.out,heq.out,HE.out]
        go_wp2
        go_quiet(fail)
        go_wp2
        go_roundw
        case rel=>exact⟨k+1,_,by omega,by go_num,rfl,hnx⟩
        case measure=>simp[intOf];omega
      . have t1: ((r.1.1 == q.1.1 && r.1.2 == q.1.2) && r.2.toList == q.2.toList)=false:=by
          rw[Bool.eq_false_iff];intro hh;simp only[Bool.and_eq_true,beq_iff_eq,ByteArray.toList_eq]at hh;apply e
          exact Prod.ext (Prod.ext hh.1.1 hh.1.2) (iP hh.2)
        have HE:=ah e;clear e
        go_wp2
        go_quiet(fail)
        go_wp2
        go_ret
        refine⟨aY ?_,⟨_,World.drewN_drewN _ _ _⟩⟩
        symm
        rw[Bool.eq_false_iff];intro hh;have:=hM.out.1 hh;subst this;exact HE.out (Option.some.inj (HR.out.symm.trans HQ.out))
    . have hall:Hid (mb=true):=by
        have:=heq.out;rw[ZW (by rw[HL0.out];omega),ZW (by rw[HL1.out];omega)]at this;exact hM.out.2 this
      have hlz:¬(k:Int)< (n0:Int):=by omega
      go_wp2
      go_ret
      exact⟨aY hall.out.symm,_,rfl⟩
 . have hne: ((n0:Int) != (n1:Int))=true:=by rw[bne_iff_ne];omega
   go_enter Tryz.func20,Tryz.ntmps20
   go_wp2
   go_ret
   refine⟨aY ?_,0,rfl⟩
   symm
   rw[Bool.eq_false_iff];intro hh;have:=hM.out.1 hh;subst this;exact hn (HL0.out.symm.trans HL1.out)
abbrev St:=MU×Bool
def rn(st:St):Nat×St:=if st.2=true∨ (ay st.1).2.2≠0 then(0,st.1,true) else((ay st.1).1,st.1.drop (ay st.1).2.1,false)
def pw(k t:Nat)(j:Nat):Bool:=decide (j<8*k∨ (8*k+8 - t<=j/\j<8*k+8))
def Cu(n:Nat)(p:List Itm)(w:MQ)(e:Ending)(w':MQ):Prop:=∃r:Bool,e= .returned (.bool r)/\ (r=false->n<=40/\∀i∈p,i.2.size<=500)/\w=w'
theorem Fg(A:OA)(n c B:Nat)(p:List Itm)(w:MQ)(h0:Sl w B 3 A n (flat itC p))(hn:n<=maxLen)(hs:∀i∈p,i.2.size<=maxLen) :
  Calls Tryz.prog 120 #[.slice A n c] w (Cu n p w):=by
 unfold maxLen at hn;have HL0:=ah (h0.len bN (by omega));have H0:=ah h0;clear h0;have HS:=ah hs;clear hs
 go_enter Tryz.func120,Tryz.ntmps120
 by_cases hbig: (40:Int)< (n:Int)
 . go_wp2
   go_ret
   exact⟨true,rfl,(fun e=>by cases e),rfl⟩
 go_wp2
 go_loopw[3] (fun i wr=>∃k:Nat,k<=n/\i= .int .i64 k/\wr=w/\Hid (∀f∈p.take k,f.2.size<=500)) (fun i _=>n - (intOf i).toNat)
 case atStart=>exact⟨0,ZZ _,rfl,rfl,fun y hy=>by simp at hy⟩
 case round =>
  obtain⟨k,hk,rfl,rfl,hN⟩:=hrel;by_cases hlt:k<n
  . obtain⟨b,off,f,rfl,hb,hf,y0,y1,y2⟩:=H0.out.it hlt
    have hkz: (k:Int)< (n:Int):=by omega
    have hf2:f.2.size<=9223372036854775807:=by have:=HS.out f (Z7 hf);unfold maxLen at this;exact this
    have HF:=ah hf;clear hf;by_cases c2: (500:Int)< (f.2.size:Int)
    . go_wp2
      go_ret
      exact⟨true,rfl,(fun e=>by cases e),rfl⟩
    have HN:Hid (∀f∈p.take (k+1),f.2.size<=500):=fun y hy=>by
     rw[aS HF.out]at hy;rcases List.mem_append.1 hy with hy | hy
     . exact hN.out y hy
     . rw[List.mem_singleton.1 hy];omega
    go_wp2
    go_roundw
    case rel=>exact⟨k+1,hlt,by go_num,trivial,HN.out⟩
    case measure=>simp[intOf];omega
  . have hkz:¬(k:Int)< (n:Int):=by omega
    have HN:Hid (∀f∈p,f.2.size<=500):=by
     have:=hN.out
     rwa[ZW (by rw[HL0.out];omega)]at this
    go_wp2
    go_ret
    exact⟨false,rfl,(fun _=>⟨by omega,HN.out⟩),rfl⟩
section
open Go.Maps
def Cv(n:Nat)(fs:List Fl)(w:MQ)(e:Ending)(w':MQ):Prop:=∃r:Bool,e= .returned (.bool r)/\ (r=false->n<=10/\∀f∈fs,f.1.size<=120/\f.2.size<=200)/\w=w'
theorem EJ(A:OA)(n c B:Nat)(fs:List Fl)(w:MQ)(h0:Sl w B 2 A n (flat flC fs))(hn:n<=maxLen)(hs:∀f∈fs,f.1.size<=maxLen/\f.2.size<=maxLen) :
  Calls Tryz.prog 65 #[.slice A n c] w (Cv n fs w):=by
 unfold maxLen at hn;have HL0:=ah (h0.len kP (by omega));have H0:=ah h0;clear h0;have HS:=ah hs;clear hs
 go_enter Tryz.func65,Tryz.ntmps65
 by_cases hbig: (10:Int)< (n:Int)
 . go_wp2
   go_ret
   exact⟨true,rfl,(fun e=>by cases e),rfl⟩
 go_wp2
 go_loopw[3] (fun i wr=>∃k:Nat,k<=n/\i= .int .i64 k/\wr=w/\Hid (∀f∈fs.take k,f.1.size<=120/\f.2.size<=200)) (fun i _=>n - (intOf i).toNat)
 case atStart=>exact⟨0,ZZ _,rfl,rfl,fun y hy=>by simp at hy⟩
 case round =>
  obtain⟨k,hk,rfl,rfl,hN⟩:=hrel;by_cases hlt:k<n
  . obtain⟨b,off,f,rfl,hb,hf,y0,y1⟩:=H0.out.fl hlt
    have hkz: (k:Int)< (n:Int):=by omega
    have hfs:=HS.out f (Z7 hf);have hf1:f.1.size<=9223372036854775807:=by have:=hfs.1;unfold maxLen at this;exact this
    have hf2:f.2.size<=9223372036854775807:=by have:=hfs.2;unfold maxLen at this;exact this
    have HF:=ah hf;clear hf hfs;by_cases c1: (120:Int)< (f.1.size:Int)
    . go_wp2
      go_ret
      exact⟨true,rfl,(fun e=>by cases e),rfl⟩
    by_cases c2: (200:Int)< (f.2.size:Int)
    . go_wp2
      go_ret
      exact⟨true,rfl,(fun e=>by cases e),rfl⟩
    have HN:Hid (∀f∈fs.take (k+1),f.1.size<=120/\f.2.size<=200):=fun y hy=>by
     rw[aS HF.out]at hy;rcases List.mem_append.1 hy with hy | hy
     . exact hN.out y hy
     . rw[List.mem_singleton.1 hy];exact⟨by omega,by omega⟩
    go_wp2
    go_roundw
    case rel=>exact⟨k+1,hlt,by go_num,trivial,HN.out⟩
    case measure=>simp[intOf];omega
  . have hkz:¬(k:Int)< (n:Int):=by omega
    have HN:Hid (∀f∈fs,f.1.size<=120/\f.2.size<=200):=by
     have:=hN.out
     rwa[ZW (by rw[HL0.out];omega)]at this
    go_wp2
    go_ret
    exact⟨false,rfl,(fun _=>⟨by omega,HN.out⟩),rfl⟩
end
end Go.Proofs.YtknefelegjlgnaaGreatDoor
