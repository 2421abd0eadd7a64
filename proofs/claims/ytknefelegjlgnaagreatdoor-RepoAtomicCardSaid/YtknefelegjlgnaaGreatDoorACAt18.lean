/-
  Lemmas of the card.
-/
import Derived.Test.YtknefelegjlgnaaGreatDoorACAt17
set_option maxRecDepth 100000
set_option maxHeartbeats 8000000
namespace Go.Proofs.YtknefelegjlgnaaGreatDoor
open Go.RowKit
section
attribute [local go_sem] Oper.semAt_some
theorem xy(d:Dk)(s:Dsl)(B:Nat)(w:MZ)(hd:d.Ok)(hm:DkM w B d s)(hB:B<=w.heap.size)(hp:d.pn.length<=1000000):Calls Tryz.prog 95 #[dkV d s] w fun e w'=>e= .returned (.int .i64 (if d.ss.length<3 then 2 else 0))/\Below w.heap.size w w':=by
 obtain⟨W,hW⟩:=NX9 (w.alloc (.cells (dkC d s) 25))
 have c:Hid (Below w.heap.size w W):=by rw[<-hW];exact(af _ w).alloc ai _
 have zW:W.heap.size=w.heap.size+1:=by rw[<-hW];simp
 have HK:Hid (Bk W w.heap.size 25 (dkC d s)):=by rw[<-hW];exact Bk.new w _ _
 have HC:=ah (ow d s B W hd (hm.below c.o hB) (by omega) hp);have HW:=ah hW;clear hW hm hd;obtain⟨n,f⟩:=NX9 d.ss.length
 simp only[dkV,dkC,f]at HC HK HW ⊢;obtain⟨k0,k1,k2,k3⟩:=HK.o.dk4;clear f
 go_enter Tryz.func95,Tryz.ntmps95
 go_wp2_with fail;rw[HW.o];refine HC.o.mono ?_;rintro e w1 ⟨rfl,b⟩;obtain⟨k0,k1,k2,k3⟩:=(HK.o.below b (by omega)).dk4;have a:Hid (Below w.heap.size w w1):=c.o.trans (b.mono (by omega));clear b HC;by_cases hni: (n:Int)<3
 . have hx:Hid ((if n<3 then 2 else 0:Int)=2):=if_pos (by omega)
   go_wp2
   go_ret
   first | exact⟨rfl,a.o⟩ | exact⟨by rw[hx.o];rfl,a.o⟩
 . have hx:Hid ((if n<3 then 2 else 0:Int)=0):=if_neg (by omega)
   go_wp2
   go_ret
   first | exact⟨rfl,a.o⟩ | exact⟨by rw[hx.o];rfl,a.o⟩
theorem yu(d:Dk)(s:Dsl)(B:Nat)(w:MZ)(hd:d.Ok)(hn:3<=d.ss.length)(hm:DkM w B d s)(hB:B<=w.heap.size)(hp:d.pn.length<=1000000):Calls Tryz.prog 95 #[dkV d s] w fun e w'=>e= .returned (.int .i64 0)/\Below w.heap.size w w' :=
 (xy d s B w hd hm hB hp).mono fun _ _ h=>⟨by rw[h.1,if_neg (by omega)],h.2⟩
theorem Fb(s:M3)(sz:Nat)(w:MZ) :
  Calls Tryz.prog 140 #[.string s,.int .i64 sz] w fun e w'=>e= .returned (.func (.func 221) #[] #[.pointer (some ⟨w.heap.size,0,none⟩),.pointer (some ⟨w.heap.size+1,0,none⟩)]) ∧
   w'= (w.alloc (.cells #[.string s] 9)).alloc (.cells #[.int .i64 sz] 3):=by
 go_enter Tryz.func140,Tryz.ntmps140
 go_wp2
 go_ret
 exact⟨rfl,rfl⟩
theorem wU{P:Program}{e:TypeId}{size:Nat}(t:TypeId)(i:TypeInfo)(ht:P.underlying t=some (.slice e))(hi:P.info? e=some i)(hsz:i.size=size)(A:OA)(n c k m:Nat)(hk:k+m<=c) :
  ∃Ak,(∀w:MZ,(Instr.sliceAt t (.slice A n c) (some (.int .i64 k)) (some (.int .i64 ((k:Int)+ (m:Int)))) none).run P w= .ok (.slice Ak m (c - k)) w)/\∀(w:MZ)(B:Nat)(xs:List M4),0<size->Sl w B size A n xs->k+m<=n->Sl w B size Ak m ((xs.drop (k*size)).take (m*size)):=by
 refine⟨if c=k then A else A.map (·.add (k*size)),fun w=>?_,fun w B xs hs h hn=>?_⟩
 . simp[Instr.sliceAt,Instr.slice,run_underlying ht,Instr.sliceBounds,Instr.sliceBound,asIntOf,sizeOf,typeInfo,hi,hsz]
   rw[if_pos (by omega),if_pos (by omega),show((k:Int)+ (m:Int)).toNat - k=m by omega]
 . have hl:m*size+k*size<=n*size:=by rw[<-Nat.add_mul,Nat.add_comm];exact Nat.mul_le_mul_right _ hn
   refine⟨by rw[List.length_take,List.length_drop,h.1];omega,fun hm=>?_⟩;obtain⟨b,a,rfl,hb,hc⟩:=h.2 (by omega);rw[if_neg (by omega)];refine⟨b,a+k*size,by simp[Addr.add_lit],hb,fun j u hu=>?_⟩;rw[Nat.add_assoc];refine hc _ u ?_;rw[List.getElem?_take]at hu;split at hu
   . rw[List.getElem?_drop]at hu;exact hu
   . cases hu
theorem yM(L:List M5)(k m:Nat): ((flat aA L).drop (k*1)).take (m*1)=flat aA ((L.drop k).take m):=by
 rw[<-yC dI,<-oI dI]
theorem Sl.putLoop{w:MZ}{B n l:Nat}{A:OA}{L:List M5}(h:Sl w B 1 A n (flat aA L)){r:Loop}{o':Obj}(hl:w.heap[l]? =some (.loop r)):Sl (w.putObj l o') B 1 A n (flat aA L) :=
 h.avoid fun b off e hn hc=>World.putObj_heap_other (fun e=>by
  subst e;have hll:=h.len dI (by omega);have h1:=gG (enc:=aA) dI L 0 0 _ (Z6 (by omega)) (by omega);have:=hc 0 _ h1;simp[World.cell?,hl]at this)
theorem FrP.put{sz:Nat}{b:M5}{W:MZ}{xs:List Fr}(h:FrP sz b W xs){l:Nat}{r:Loop}{o':Obj}(hl:W.heap[l]? =some (.loop r)):FrP sz b (W.putObj l o') xs:=fun pre x he=>by
 rcases h pre x he with h | ⟨u,h1,h2,h3⟩
 . exact .inl h
 . exact .inr ⟨u,h1,by have:=h2.putLoop (o':=o') hl;simpa using this,h3⟩
theorem LM{fn:Func}{c1 c2:Tmp}(h:fn.results= #[.cell c1 142,.cell c2 36]){w:MZ}{a:Array M4}{b1 b2:Nat}{x y z e:M4}(h1:a[c1]?.getD undef= .pointer (some ⟨b1,0,none⟩))(h2:a[c2]?.getD undef= .pointer (some ⟨b2,0,none⟩))(k1:Bk w b1 142 #[x,y,z])(k2:Bk w b2 36 #[e]) :
  (results fn a).run Tryz.prog w= .ok (.tuple #[.agg #[x,y,z],e]) w:=by
 obtain⟨p0,p1,p2⟩:=k1.three;have b:=k2.cell 0;simp at b;simp[results,h,h1,h2,go_sem,p0,p1,p2,b]
structure JoI(s0 bc base:Nat)(v0:Int)(w:MZ)(pre:List Fr)(A:OA)(c:Nat)(W:MZ):Prop where
 k:Bk W bc 142 #[.int .i64 v0,.slice A (frL pre).length c,.int .i64 (frU pre)]
 own:W.ownsRow base 9 1 (.slice A (frL pre).length c) (frL pre).length (flat aA (frL pre))
 r1:Bk W (s0+1) 142 #[.int .i64 0,.slice none 0 0,.int .i64 0]
 r2:Bk W (s0+1+1) 36 #[.int .i64 0]
 b:Below s0 w W
 c1: (frL pre).length<=c
 c2:c<=maxLen
 nn:0<=frU pre
section
variable {s0 bc base : Nat} {v0 : Int} {w W W' : MZ} {pre : List Fr} {A : OA} {c : Nat}
theorem JoI.grown{row:Option Nat}(h:JoI s0 bc base v0 w pre A c W)(hg:W.grownBy W' row)(h1:some (s0+1)≠row)(h2:some (s0+1+1)≠row)(h3:some bc≠row)(h4: (Value.slice A (frL pre).length c).ownBlock=none∨ (Value.slice A (frL pre).length c).ownBlock≠row)(h5:∀k,row=some k->s0<=k):JoI s0 bc base v0 w pre A c W' :=
 ⟨h.k.grown hg h3,h.own.kept hg h4,h.r1.grown hg h1,h.r2.grown hg h2,h.b.grown hg (by have:=h.r2.lt;omega) h5,h.c1,h.c2,h.nn⟩
theorem JoI.below(h:JoI s0 bc base v0 w pre A c W)(hb:Below W.heap.size W W'):JoI s0 bc base v0 w pre A c W' :=
 ⟨h.k.below hb h.k.lt,fM h.own hb,h.r1.below hb h.r1.lt,h.r2.below hb h.r2.lt,h.b.trans (hb.mono (by have:=h.r2.lt;omega)),h.c1,h.c2,h.nn⟩
end
theorem KeepF.trans{b1 b2:Nat}{A B C:MZ}(h:KeepF b1 b2 A B)(k:KeepF b1 b2 B C):KeepF b1 b2 A C:=⟨k.1.trans h.1,k.2.trans h.2⟩
def Mh(a u:Nat)(rs:List M5)(w:MZ)(e:Ending)(w':MZ):Prop:=∃A c,e= .returned (.tuple #[.agg #[.int .i64 a,.slice A rs.length c,.int .i64 u],.int .i64 0])/\Sl w' w'.heap.size 1 A rs.length (flat aA rs)/\rs.length<=c/\c<=maxLen/\Below w.heap.size w w'
theorem sW(d:Dk)(s:Dsl)(B a u:Nat)(rs:List M5)(w:MZ)(hd:d.Ok)(hpn:d.pn= [])(hj:Jn d.sz d.ss a rs u)(hm:DkM w B d s)(hB:B<=w.heap.size) :
  Calls Tryz.prog 78 #[dkV d s] w (Mh a u rs w):=by
 refine(callsIn_wide (n:=6)).1 ?_;obtain⟨W,hW⟩:=NX9 (((w.alloc (.cells (dkC d s) 25)).alloc (.cells #[.int .i64 0,.slice none 0 0,.int .i64 0] 142)).alloc (.cells #[.int .i64 0] 36))
 have zW:W.heap.size=w.heap.size+3:=by rw[<-hW];simp
 have bd:Hid (Below w.heap.size w W):=by rw[<-hW];exact(((af _ w).alloc ai _).alloc (by simp) _).alloc (by simp;omega) _
 have HK:Hid (Bk W w.heap.size 25 (dkC d s)):=by rw[<-hW];exact((Bk.new w _ _).alloc _).alloc _
 have ck:Hid (Bk W (w.heap.size+1) 142 #[.int .i64 0,.slice none 0 0,.int .i64 0]):=by
  rw[<-hW];have:=Bk.new (w.alloc (.cells (dkC d s) 25)) 142 #[.int .i64 0,.slice none 0 0,.int .i64 0];rw[Z9]at this;exact this.alloc _
 have cl:Hid (Bk W (w.heap.size+1+1) 36 #[.int .i64 0]):=by
  rw[<-hW];have:=Bk.new ((w.alloc (.cells (dkC d s) 25)).alloc (.cells #[.int .i64 0,.slice none 0 0,.int .i64 0] 142)) 36 #[.int .i64 0];rw[Z9,Z9]at this;exact this
 have HM:Hid (DkM W B d s):=hm.below bd.o hB;have HC:=ah (yu d s B W hd hj.n3 HM.o (by omega) (by rw[hpn];simp));have ad:=ah (fun w' (h:DkM w' B d s) hb=>ym s.a1 d.ss.length s.c1 B d.ss w' h.ss hb (by have:=hd.n1;omega));have ag:=ah (fun w'=>mg d s a w' (by have:=hj.n3;omega) hd.n1 hj.act);have al:=ah (fun w'=>oN d s w' (by have:=hj.n3;omega) hd.n1);have HW:=ah hW;have HD:=ah hd;have HJ:=ah hj;have z:=hj.act;have am:=hj.n3;obtain⟨ms,L⟩:=NX9 (ofL (bY d.sz a))
 have cL:0<ms.size:=by rw[<-L,bG];simp[bY,bB]
 have cM:ms[0].toNat=a:=by
  subst L;show(bY d.sz a)[0].toNat=a;rcases z with rfl | rfl <;> rfl
 have bf:Hid ((flat aA d.ss)[0]? =some (.string ms)):=by
  have:=gG (enc:=aA) dI d.ss 0 0 _ hj.mark (by omega);show _=_;rw[<-L];simpa [aA] using this
 clear hW hm hd hj L;have bg:d.pn.length=0:=by rw[hpn];rfl
 obtain⟨n,hn⟩:=NX9 d.ss.length
 have HN:=ah hn;simp only[dkV,dkC,hn,bg]at HC ad HK HW ag al am ⊢;clear hn bg hpn;refine callsIn_of_wp_marks Tryz.func78 rfl trivial ?_ rfl;simp only[Tryz.ntmps78,List.size_toArray,Z5,List.length_nil,Nat.reduceAdd,Nat.reduceSub,Array.replicate_succ,Array.replicate_zero,List.push_toArray,List.append_toArray,List.nil_append,List.cons_append];obtain⟨k0,k1,k2,k3⟩:=HK.o.dk4
 gi_wp2_with fail
 rw[HW.o];refine⟨trivial,(callsIn_wide.2 HC.o).mono ?_⟩;rintro e w1 ⟨rfl,M⟩;obtain⟨k0,k1,k2,k3⟩:=(HK.o.below M (by omega)).dk4;have bh:=ah M;have z1:=M.size;clear M HC
 gi_wp2_with fail
 refine⟨trivial,(callsIn_wide.2 (ad.o w1 (HM.o.below bh.o (by omega)) (by omega))).mono ?_⟩;rintro e w2 ⟨A1,c1,rfl,bi,an,cN,cO⟩;have HO:∃gb,A1=some ⟨gb,0,none⟩/\w2.ownsRow w1.heap.size 9 1 (.slice (some ⟨gb,0,none⟩) n c1) n (flat aA d.ss):=by
  rcases bi with h | ⟨h,_⟩
  . rcases h.2 with ⟨_,h⟩ | ⟨g,cap,E,hv,_⟩
    . omega
    . cases hv;exact⟨g,rfl,h⟩
  . omega
 obtain⟨gb,rfl,ho⟩:=HO;have HO:=ah ho;obtain⟨cP,E,t,bj⟩:=ni ho;have cm:Hid (Sl w2 w2.heap.size 1 (some ⟨gb,0,none⟩) n (flat aA d.ss)):=Sl.of_own ho;have x0:w2.cell? ⟨gb,0,none⟩=some (.string ms):=by rw[t.cell];exact bj 0 _ bf.o
 have bk:Hid (Below W.heap.size W w2):=bh.o.trans (an.mono (by omega));have z2:w1.heap.size<=w2.heap.size:=an.size;have f:Hid (Bk w2 w.heap.size 25 #[.int .i64 d.sz,.slice s.a1 n s.c1,.slice s.a2 0 s.c2,.int .i64 d.lf]):=HK.o.below bk.o (by omega);obtain⟨k0,k1,k2,k3⟩:=f.o.dk4;clear bi ho t bj an bf ad
 gi_wp2_with fail
 gi_loopw [25] (fun i wr=>i= .int .i64 0/\w2=wr) (fun _ _=>0)
 case atStart=>exact⟨rfl,rfl⟩
 case round =>
  obtain⟨rfl,rfl⟩:=hrel;have bm:Hid (∀x:M4,Bk (w2.alloc (.cells #[x,.slice none 0 0,.int .i64 0] 142)) w.heap.size 25 #[.int .i64 d.sz,.slice s.a1 n s.c1,.slice s.a2 0 s.c2,.int .i64 d.lf]):=fun x=>f.o.alloc _;obtain⟨v0,bn⟩:∃v0:Int,v0= ((a:Nat):Int):=⟨_,rfl⟩
  have bo:=ah bn;clear bn;have ao:=gy (ss:=d.ss) HJ.o.act (by rw[HN.o];exact am);rw[HN.o]at ao;have ap:Hid (dU d.ss a= (d.ss.drop (aC d.ss a)).take (hf d.ss)):=rfl;have bp:Hid (frs d.sz (dU d.ss a).flatten=some (rs,u)):=HJ.o.recs;have N:Hid ((dU d.ss a).flatten.length=hf d.ss*d.sz):=by show _=_;rw[uX (iG HJ.o.len),zV HJ.o.act (by rw[HN.o];exact am)]
  obtain⟨st,aq⟩:=NX9 (aC d.ss a)
  obtain⟨h,hh⟩:=NX9 (hf d.ss)
  obtain⟨ar,bq⟩:=NX9 (dU d.ss a)
  rw[aq,hh]at ao ap;rw[hh]at N;rw[bq]at ap bp N;have G:=ah (fun w'=>ag.o w');have H:=ah (fun w'=>al.o w');rw[aq]at G;rw[hh]at H;clear ag al aq hh bq;have cQ:n<=1000:=by rw[<-HN.o];exact HD.o.n1
  obtain⟨i0,hi,br,au,bs⟩:=info_parts iT;obtain⟨Ak,cR,bt⟩:=wU (P:=Tryz.prog) 22 i0 Tryz.underlying22 hi au (some ⟨gb,0,none⟩) n c1 st h (by omega);have cn:Hid (Sl w2 w2.heap.size 1 Ak h (flat aA ar)):=by
   have:=bt w2 w2.heap.size _ (by omega) cm.o ao.1;rw[yM,<-ap.o]at this;exact this
  have Hi:=ah hi;have co:=ah br;have cp:=ah au;have cr:=ah bs;have cJ:=ah z;clear hi br au bs bt;have bv: (if st<=c1 then c1 - st else 0)=c1 - st:=by rw[if_pos (by omega)]
  clear bv;obtain⟨q0,q1,q2,q3⟩:=(bm.o (.int .i64 1)).dk4;obtain⟨p0,p1,p2,p3⟩:=(bm.o (.int .i64 2)).dk4;rcases z with rfl | rfl
  all_goals
   gi_wp2_with fail
   generalize hW3:w2.alloc _=W3;have cS:=ah hW3;have cs:Hid (Below w2.heap.size w2 W3):=by rw[<-hW3];exact(af _ w2).alloc ai _
   have z3:W3.heap.size=w2.heap.size+1:=by rw[<-hW3];simp
   have ct:Hid (Bk W3 w2.heap.size 142 #[.int .i64 v0,.slice none 0 0,.int .i64 0]):=by rw[<-hW3,bo.o];exact Bk.new w2 _ _
   clear hW3;refine⟨trivial,(callsIn_wide.2 (G.o _)).mono ?_⟩;rintro e w4 ⟨rfl,O⟩;have bw:Hid (Below w2.heap.size w2 w4):=cs.o.trans (O.mono (by omega));have cu:Hid (Bk w4 w2.heap.size 142 #[.int .i64 v0,.slice none 0 0,.int .i64 0]):=ct.o.below O (by omega);have z4:w2.heap.size+1<=w4.heap.size:=by have:=O.size;omega
   obtain⟨k0,k1,k2,k3⟩:=(f.o.below bw.o f.o.lt).dk4;clear O q0 q1 q2 q3 p0 p1 p2 p3
   gi_wp2_with fail
   refine⟨trivial,(callsIn_wide.2 (H.o _)).mono ?_⟩;rintro e w5 ⟨rfl,Q⟩;have av:Hid (Below w2.heap.size w2 w5):=bw.o.trans (Q.mono (by omega));have cv:Hid (Bk w5 w2.heap.size 142 #[.int .i64 v0,.slice none 0 0,.int .i64 0]):=cu.o.below Q (by omega);have z5:w2.heap.size+1<=w5.heap.size:=by have:=Q.size;omega
   obtain⟨k0,k1,k2,k3⟩:=(f.o.below av.o f.o.lt).dk4;have bx:=ah (Io Ak h (c1 - st) w2.heap.size ar w5 (cn.o.below av.o ai) (by omega) (by omega) (by omega) (by rw[N.o];exact Z0 (Nat.mul_le_mul (show h<=1000 by omega) HD.o.sz1) (by omega)) (by omega));clear Q
   gi_wp2_with fail
   refine⟨trivial,(callsIn_wide.2 bx.o).mono ?_⟩;rintro e w6 ⟨rfl,R⟩;have bz:Hid (Below w2.heap.size w2 w6):=av.o.trans (R.mono (by omega));have cw:Hid (Bk w6 w2.heap.size 142 #[.int .i64 v0,.slice none 0 0,.int .i64 0]):=cv.o.below R (by omega);have z6:w2.heap.size+1<=w6.heap.size:=by have:=R.size;omega
   obtain⟨k0,k1,k2,k3⟩:=(f.o.below bz.o f.o.lt).dk4;clear R bx H G
   gi_wp2_with fail
   refine⟨trivial,(callsIn_wide.2 (Fb (ofL ar.flatten) d.sz _)).mono ?_⟩;rintro e w7 ⟨rfl,I⟩;have aw:Below w6.heap.size w6 w7:=by rw[I];exact((af _ w6).alloc ai _).alloc (by simp) _
   have z7:w7.heap.size=w6.heap.size+2:=by rw[I];simp
   have cx:Hid (Bk w7 w6.heap.size 9 #[.string (ofL ar.flatten)]):=by rw[I];exact(Bk.new w6 _ _).alloc _
   have cy:Hid (Bk w7 (w6.heap.size+1) 3 #[.int .i64 d.sz]):=by
    rw[I];have:=Bk.new (w6.alloc (.cells #[.string (ofL ar.flatten)] 9)) 3 #[.int .i64 d.sz]
    rwa[Z9]at this
   have aD:Hid (Below W.heap.size W w7):=bk.o.trans ((bz.o.trans (aw.mono (by omega))).mono (by omega));have cz:Hid (JoI w.heap.size w2.heap.size (w7.heap.size+2) v0 w [] none 0 w7):=⟨cw.o.below aw (by omega),World.ownsRow_nil _ _ _ _,ck.o.below aD.o (by omega),cl.o.below aD.o (by omega),bd.o.trans (aD.o.mono (by omega)),Nat.le_refl _,ZZ _,Int.le_refl _⟩
   have T:Hid (frs d.sz (toL (ofL ar.flatten))=some (rs,u)):=by show _=_;rw[bP];exact bp.o
   have ca: (ofL ar.flatten).size<=1000000:=by rw[bG,N.o];exact Z0 (Nat.mul_le_mul (show h<=1000 by omega) HD.o.sz1) (by omega)
   clear I aw k0 k1 k2 k3
   gi_wp2
   refine EC (α:=Fr) (F:=Fence.wide) (n:=6) rfl (by omega) (gf:=221) (lb:=#[.pointer (some ⟨w6.heap.size,0,none⟩),.pointer (some ⟨w6.heap.size+1,0,none⟩)]) rfl trivial (enters_of Tryz.func221 (by kernel_rfl) rfl)
    (Fe 5 w6.heap.size (w6.heap.size+1) (w7.heap.size+2) (by omega) (ofL ar.flatten) d.sz w7 ca HD.o.sz0 HD.o.sz1 cx.o cy.o) KeepF.trans (fun W l r o' hl hlr=>⟨World.putObj_heap_other (by omega),World.putObj_heap_other (by omega)⟩) (fun W l r o' xs hl hlr hp=>hp.put hlr) (fun A C h hA=>⟨h.block _ (by omega),h.block _ (by omega)⟩) (af _ _) (fun _=>rfl)
    (fun pre W=>∃A c,JoI w.heap.size w2.heap.size (w7.heap.size+2) v0 w pre A c W) (fun _ _ _=>False)
    ?_ ?_ ?_ ⟨none,0,cz.o⟩ ?_ ?_ ?_ ?_ ?_
   . rintro pre A C cA ⟨Aq,cq,h⟩ hg hr
     refine⟨Aq,cq,h.grown hg (fun e=>?_) (fun e=>?_) (fun e=>?_) ?_ (fun k e=>?_)⟩
     . have:=(hr _ e.symm).1;omega
     . have:=(hr _ e.symm).1;omega
     . have:=(hr _ e.symm).1;omega
     . cases hv: (Value.slice Aq (frL pre).length cq).ownBlock with
       | none=>exact .inl rfl
       | some k =>
         refine .inr fun e=>?_;obtain⟨_,E,t⟩:=bU h.own hv;obtain⟨_,o,ho,hc⟩:=hr _ e.symm;rw[t]at ho;cases ho;cases hc
     . have:=(hr _ e).1;omega
   . intro c pre A C cA h;exact h.elim
   . rintro pre A C ⟨Aq,cq,h⟩ hb
     exact⟨Aq,cq,h.below hb⟩
   rotate_left 1
   . intro l x W K hK
     have cC:=ah hK;clear hK;simp only[frV]
     gi_wp2
     exact cC.o
   . rintro l pre x W' hP cT ⟨Aq,cq,hi⟩
     rcases hP pre x rfl with ⟨_,U⟩ | ⟨u',he,hs,hcc,hcm,hnl,hl1,hu1,hlen⟩
     . rw[T.o]at U;cases U
     . have cU:¬(u':Int)<0:=by omega
       have cb:frU (pre++ [x])= (u':Int):=by rw[uE,he]
       have aE:frL (pre++ [x])=frL pre++x.2.1:=tJ _ _;have cc:=ah cb;have ba:=ah aE;have V: (frL pre).length+x.1.2.1<=1000512000:=by rw[hnl,<-ae,<-aE];omega
       have HI:=ah hi;have HS:=ah hs;have cD:=HI.o.k.lt;obtain⟨c0,bb,c2⟩:=hi.k.three;have f1:=hi.k.free 1;have f2:=hi.k.free 2;have X:∀v∈flat aA x.2.1,v.oneCell'=true:=by
        intro v hv;unfold flat aA at hv;simp at hv;obtain⟨_,_,rfl⟩:=hv;rfl
       have Y:=ah X;obtain⟨⟨xA,xn,xc⟩,xl,xe⟩:=x;simp only at he hnl V hl1 HS Y ba ⊢;subst he;subst hnl;clear hi hs hP X cb aE
       gi_wp2_with (gi_at_builtin;refine aN ?_)
       refine aF ?_;refine nP (base:=w7.heap.size+2) (size:=1) rfl (.tmp 73) (.tmp 74) 22 rfl 9 i0 _ 16 Tryz.underlying22 Hi.o co.o cp.o cr.o rfl (by decide) (.slice Aq (frL pre).length cq) (frL pre).length (flat aA (frL pre)) rfl HI.o.own W'.heap.size xA xl.length xc (flat aA xl) rfl HS.o Y.o (by unfold maxLen;omega) (by omega) (by omega) ?_;intro A4 c4 w4 ho hg J Z;have hr:∀k,(Value.slice Aq (frL pre).length cq).ownBlock=some k->w7.heap.size+2<=k/\∃E,W'.heap[k]? =some (.cells E 9 (0,0)):=fun k hk=>bU HI.o.own hk;have j:∀k,k<w7.heap.size+2->w4.heap[k]? =W'.heap[k]? :=fun k hk=>hg.block k (by omega) (fun e=>by have:=(hr k e.symm).1;omega);have HR:Hid (∀k,k<w7.heap.size+2->w4.heap[k]? =W'.heap[k]?):=j;have q:Hid (Bk w4 w2.heap.size 142 #[.int .i64 v0,.slice Aq (frL pre).length cq,.int .i64 (frU pre)]):=(j _ (by omega)).trans HI.o.k;have cE:Hid (Below w.heap.size w w4):=HI.o.b.grown hg (by omega) (fun k e=>by have:=(hr k e).1;omega);have cd:Hid (Bk w4 (w.heap.size+1) 142 #[.int .i64 0,.slice none 0 0,.int .i64 0]):=(j _ (by omega)).trans HI.o.r1;have ce:Hid (Bk w4 (w.heap.size+1+1) 36 #[.int .i64 0]):=(j _ (by omega)).trans HI.o.r2;have S: (frL (pre++ [((xA,xl.length,xc),xl,(u':Int))])).length= (frL pre).length+xl.length:=by rw[ba.o,ae]
       have cF:Hid (w4.ownsRow (w7.heap.size+2) 9 1 (.slice A4 (frL (pre++ [((xA,xl.length,xc),xl,(u':Int))])).length c4) (frL (pre++ [((xA,xl.length,xc),xl,(u':Int))])).length (flat aA (frL (pre++ [((xA,xl.length,xc),xl,(u':Int))])))):=by
        show World.ownsRow _ _ _ _ _ _ _;rw[S,ba.o,bu];exact ho
       obtain⟨m,hm⟩:=NX9 ((frL pre).length)
       rw[hm]at S q J V ⊢;have cf:=ah S;have cg:=ah J;have ch:=ah Z;have bb:=q.o.cell 1;have cG:=q.o.cell 2;have f1:=q.o.free 1;have f2:=q.o.free 2;simp at bb cG;have cV:=hg.size;clear ho hg hr j c0 c2 S J Z hm
       gi_wp2
       refine⟨⟨?_,?_⟩,⟨?_,?_⟩,A4,c4,?_,?_,?_,?_,?_,?_,?_,?_⟩
       . exact(Z8 _ _ _ _ (by show _≠w2.heap.size;omega)).trans ((Z8 _ _ _ _ (by show _≠w2.heap.size;omega)).trans (HR.o _ (by omega)))
       . exact(Z8 _ _ _ _ (by show _≠w2.heap.size;omega)).trans ((Z8 _ _ _ _ (by show _≠w2.heap.size;omega)).trans (HR.o _ (by omega)))
       . exact(Z8 _ _ _ _ (by show _≠w2.heap.size;omega)).trans ((Z8 _ _ _ _ (by show _≠w2.heap.size;omega)).trans (HR.o _ (by omega)))
       . exact(Z8 _ _ _ _ (by show _≠w2.heap.size;omega)).trans ((Z8 _ _ _ _ (by show _≠w2.heap.size;omega)).trans (HR.o _ (by omega)))
       . rw[cf.o,cc.o]
         have:=(q.o.set 1 (.slice A4 (m+xl.length) c4)).set 2 (.int .i64 (u':Int))
         simpa using this
       . exact iO (iO cF.o q.o (by decide) 1 _) (q.o.set 1 (.slice A4 (m+xl.length) c4)) (by decide) 2 _
       . exact(cd.o.far (p:=⟨w2.heap.size,1,none⟩) (by show _≠w2.heap.size;omega) _).far (p:=⟨w2.heap.size,2,none⟩) (by show _≠w2.heap.size;omega) _
       . exact(ce.o.far (p:=⟨w2.heap.size,1,none⟩) (by show _≠w2.heap.size;omega) _).far (p:=⟨w2.heap.size,2,none⟩) (by show _≠w2.heap.size;omega) _
       . exact(cE.o.setCell (p:=⟨w2.heap.size,1,none⟩) (by show w.heap.size<=w2.heap.size;omega) _).setCell (p:=⟨w2.heap.size,2,none⟩) (by show w.heap.size<=w2.heap.size;omega) _
       . rw[cf.o];exact cg.o
       . exact ch.o
       . rw[cc.o];omega
   . rintro D xs W' hD hS ⟨Aq,cq,hi⟩ hK
     have ab:frL xs=rs/\frU xs= (u:Int):=by
      rcases hS with ⟨pre,x,rfl,hx⟩ | ⟨u',hu,hf⟩
      . have:=hi.nn;rw[uE,hx]at this;omega
      . rw[T.o]at hf
        simp only[Option.some.injEq,Prod.mk.injEq]at hf;exact⟨hf.1.symm,by rw[hu,hf.2]⟩
     have HI:=ah hi;have HE:=ah ab;have HK:=ah hK;have cD:=HI.o.k.lt;obtain⟨c0,bb,c2⟩:=hi.k.three;obtain⟨r0,r1,r2⟩:=hi.r1.three;have g0:=hi.r1.free 0;have g1:=hi.r1.free 1;have g2:=hi.r1.free 2;have e0:=hi.r2.cell 0;have e1:=hi.r2.free 0;simp at e0;clear hi hK hS ab
     gi_wp2
     refine⟨by simp,.inl ⟨_,_,rfl,run_takeDeferred ((Z8 _ _ _ _ (by simp;omega)).trans ((Z8 _ _ _ _ (by simp;omega)).trans ((Z8 _ _ _ _ (by simp;omega)).trans ((Z8 _ _ _ _ (by simp;omega)).trans HK.o)))),?_⟩⟩;obtain⟨Wf,y⟩:=NX9 ((((W'.setCell ⟨w.heap.size+1,0,none⟩ (.int .i64 v0)).setCell ⟨w.heap.size+1,1,none⟩ (.slice Aq (frL xs).length cq)).setCell ⟨w.heap.size+1,2,none⟩ (.int .i64 (frU xs))).setCell ⟨w.heap.size+1+1,0,none⟩ (.int .i64 0))
     have k1:Bk Wf (w.heap.size+1) 142 #[.int .i64 v0,.slice Aq (frL xs).length cq,.int .i64 (frU xs)]:=by
      rw[<-y];have:=(((HI.o.r1.set 0 (.int .i64 v0)).set 1 (.slice Aq (frL xs).length cq)).set 2 (.int .i64 (frU xs))).far (p:=⟨w.heap.size+1+1,0,none⟩) (by show w.heap.size+1≠w.heap.size+1+1;omega) (.int .i64 0)
      simpa using this
     have k2:Bk Wf (w.heap.size+1+1) 36 #[.int .i64 0]:=by
      rw[<-y];have:=(((HI.o.r2.far (p:=⟨w.heap.size+1,0,none⟩) (by show w.heap.size+1+1≠w.heap.size+1;omega) (.int .i64 v0)).far (p:=⟨w.heap.size+1,1,none⟩) (by show w.heap.size+1+1≠w.heap.size+1;omega) (.slice Aq (frL xs).length cq)).far (p:=⟨w.heap.size+1,2,none⟩) (by show w.heap.size+1+1≠w.heap.size+1;omega) (.int .i64 (frU xs))).set 0 (.int .i64 0)
      simpa using this
     have ci:Below w.heap.size w Wf:=by
      rw[<-y];exact(((HI.o.b.setCell (p:=⟨w.heap.size+1,0,none⟩) (by show w.heap.size<=w.heap.size+1;omega) _).setCell (p:=⟨w.heap.size+1,1,none⟩) (by show w.heap.size<=w.heap.size+1;omega) _).setCell (p:=⟨w.heap.size+1,2,none⟩) (by show w.heap.size<=w.heap.size+1;omega) _).setCell (p:=⟨w.heap.size+1+1,0,none⟩) (by show w.heap.size<=w.heap.size+1+1;omega) _
     have cj:Wf.ownsRow (w7.heap.size+2) 9 1 (.slice Aq (frL xs).length cq) (frL xs).length (flat aA (frL xs)):=by
      rw[<-y];exact iO (iO (iO (iO HI.o.own HI.o.r1 (by decide) 0 _) (HI.o.r1.set 0 _) (by decide) 1 _) ((HI.o.r1.set 0 (.int .i64 v0)).set 1 (.slice Aq (frL xs).length cq)) (by decide) 2 _)
       (((HI.o.r2.far (p:=⟨w.heap.size+1,0,none⟩) (by show w.heap.size+1+1≠w.heap.size+1;omega) (.int .i64 v0)).far (p:=⟨w.heap.size+1,1,none⟩) (by show w.heap.size+1+1≠w.heap.size+1;omega) (.slice Aq (frL xs).length cq)).far (p:=⟨w.heap.size+1,2,none⟩) (by show w.heap.size+1+1≠w.heap.size+1;omega) (.int .i64 (frU xs))) (by decide) 0 _
     have cH:Wf.heap[D]? =some (.deferred (some [])):=by
      rw[<-y];exact(Z8 _ _ _ _ (by simp;omega)).trans ((Z8 _ _ _ _ (by simp;omega)).trans ((Z8 _ _ _ _ (by simp;omega)).trans ((Z8 _ _ _ _ (by simp;omega)).trans HK.o)))
     rw[y];have cI:=gX (W':=Wf.putObj D (.deferred none)) cj (fun k hk=>World.putObj_heap_other (fun e=>by
      subst e;obtain⟨_,E,h2⟩:=bU cj hk;rw[cH]at h2;cases h2))
     refine⟨_,LM rfl rfl rfl ((World.putObj_heap_other (by omega)).trans k1) ((World.putObj_heap_other (by omega)).trans k2),Aq,cq,?_,?_,?_,HI.o.c2,?_⟩
     . rw[HE.o.1,HE.o.2,bo.o]
     . rw[<-HE.o.1];exact Sl.of_own cI
     . rw[<-HE.o.1];exact HI.o.c1
     . exact ci.grown (grownBy_putObj' _ _ _) (by have:=ci.size;simpa using this) (fun k e=>by cases e;omega)
   . intro D c pre W _ _ h;exact h.elim
end
theorem ES{s:M3}{T:M5}(h:s=ofL T)(a b:Nat):s.extract a b=ofL ((T.drop a).take (b - a)):=by
 subst h;rcases Nat.le_total a b with c | c
 . have:=rO (ofL T) a (b - a)
   rw[Nat.add_sub_cancel' c,bP]at this;exact this
 . rw[Nat.sub_eq_zero_of_le c,List.take_zero]
   apply ByteArray.ext
   apply Array.toList_inj.1
   show((ofL T).extract a b).data.toList= []
   rw[jX,Nat.sub_eq_zero_of_le c,List.take_zero]
def vQ(l:List M5)(sz:Nat)(w:MZ)(e:Ending)(w':MZ):Prop:=Below w.heap.size w w'/\if dF l=true/\l≠ [] then
  ∃A c,e= .returned (.tuple #[.slice A (secs sz (az l)).length c,.int .i64 0])/\w'.ownsRow w.heap.size 9 1 (.slice A (secs sz (az l)).length c) (secs sz (az l)).length (flat aA (secs sz (az l)))/\ (secs sz (az l)).length<=c/\c<=maxLen
 else e= .returned (.tuple #[.slice none 0 0,.int .i64 (eU l).2])
theorem xH{sz:Nat}(hz:0<sz)(T:M5): (secs sz T).length<=T.length:=by
 rw[(kg hz _ T ai).1];unfold nsec;rcases Nat.eq_zero_or_pos T.length with h | h
 . rw[h,Nat.div_eq_of_lt (by omega)];omega
 . exact Nat.div_le_of_le_mul (by have:=Nat.mul_le_mul_right T.length (show 1<=sz from hz);rw[show sz*T.length= (sz - 1)*T.length+T.length by rw[<-Nat.succ_mul];congr 1;omega];have h2:=Nat.mul_le_mul_left (sz - 1) h;omega)
theorem wK(A:OA)(n c B sz:Nat)(l:List M5)(w:MZ)(h:Sl w B 1 A n (flat aA l))(hB:B<=w.heap.size)(hn:n<=maxLen)(hz0:0<sz)(hz1:sz<=512) :
  Calls Tryz.prog 109 #[.slice A n c,.int .i64 sz] w (vQ l sz w):=by
 have HL:=ah (h.len dI (by omega));have HP:=ah (Eb A n c B l w h hB hn);have ad:Hid (∀e w',dF l=true->l≠ []->Below w.heap.size w w'-> (∃A c,e= .returned (.tuple #[.slice A (secs sz (az l)).length c,.int .i64 0])/\w'.ownsRow w.heap.size 9 1 (.slice A (secs sz (az l)).length c) (secs sz (az l)).length (flat aA (secs sz (az l)))/\ (secs sz (az l)).length<=c/\c<=maxLen)->vQ l sz w e w'):=fun e w' h1 h2 h3 h4=>⟨h3,by rw[if_pos ⟨h1,h2⟩];exact h4⟩
 have K:Hid (∀e w',¬(dF l=true/\l≠ [])->Below w.heap.size w w'->e= .returned (.tuple #[.slice none 0 0,.int .i64 (eU l).2])->vQ l sz w e w'):=fun e w' h1 h2 h3=>⟨h2,by rw[if_neg h1];exact h3⟩
 unfold maxLen at hn;by_cases hf:dF l=true
 . have f:eU l= (bJ l,0):=by rw[eU,if_pos hf]
   have L:=fitB_iff.1 hf;have ag:=mE L;rw[f]at HP;unfold qH at HP;simp only at HP;have D:=ah f;have HF:=ah hf;clear h f L;by_cases hn0:n=0
   . subst hn0
     have M:l= []:=List.length_eq_zero_iff.1 HL.o;have al:=ah M;clear M hf
     go_enter Tryz.func109,Tryz.ntmps109
     go_wp2_with fail;refine HP.o.mono ?_;rintro e w1 ⟨rfl,b⟩;have j:=ah b;clear b HP
     go_wp2
     go_ret2
     exact K.o _ _ (fun h=>h.2 al.o) j.o (by rw[D.o];rfl)
   . have u:l≠ []:=by intro h;rw[h]at HL;exact hn0 HL.o.symm
     have am:=ah u;have bk:¬((n:Int)=0):=by omega
     have k:Hid ((ofL [1]++ofL (aj (bJ l).length))++ofL (bJ l)=ofL (az l)):=by
      show _=_;rw[mO,mO];rfl
     have N:=eB (n:=(bJ l).length) (by omega);have O:Hid ((az l).length<=65600000):=by
      show _<=_;simp only[az,Z5,ae];omega
     obtain⟨i0,hi,y,z,C⟩:=info_parts iT;have Hi:=ah hi;have an:=ah y;have ao:=ah z;have ap:=ah C;clear hi y z C u hf;have r:=ah (fun w'=>l8 (bJ l).length (by omega) w');have E: (ofL (bJ l)).size= (bJ l).length:=bG _;have aq: (ofL (aj (bJ l).length)).size<=6:=by rw[bG];exact N
     obtain⟨t1,F⟩:=NX9 (ofL (bJ l))
     obtain⟨t2,G⟩:=NX9 (ofL (aj (bJ l).length))
     rw[F,G]at k;rw[F]at E HP;rw[G]at aq r;rw[<-E]at ag r;have ar: (ofL [1]).size=1:=bG _;have b:¬(9223372036854775807< (ofL [1]).size+t2.size):=by omega
     have s:¬(9223372036854775807< (ofL [1]++t2).size+t1.size):=by rw[ByteArray.size_append];omega
     rw[show ofL [1]= (⟨#[1]⟩:M3) from rfl]at k b s;clear F G E ar N;obtain⟨T,hT⟩:=NX9 (az l)
     obtain⟨tx,H⟩:=NX9 (((⟨#[1]⟩:M3)++t2)++t1)
     rw[H]at k;rw[hT]at k O;have au:=ah hT;have bm:tx.size=T.length:=by rw[k.o,bG]
     have bn:T.length<=65600000:=O.o;have av:=ah H;clear hT H
     go_enter Tryz.func109,Tryz.ntmps109
     go_wp2_with fail;refine HP.o.mono ?_;rintro e w1 ⟨rfl,b⟩;have j:=ah b;clear b HP;go_wp2_with fail;refine(r.o _).mono ?_;rintro e w2 ⟨rfl,s⟩;have aw:Hid (Below w.heap.size w w2):=j.o.trans (s.mono j.o.size);clear s r;go_wp2_with fail;rw[av.o]
     go_loopw[10,11] (fun v i wr=>∃(a:Nat)(d:List M5)(A':OA)(c':Nat),i= .int .i64 a/\a<=T.length+512/\d.length<=a/\v= .slice A' d.length c'/\Hid (secs sz T=d++secs sz (T.drop a))/\Hid (wr.ownsRow w.heap.size 9 1 (.slice A' d.length c') d.length (flat aA d))/\d.length<=c'/\c'<=maxLen/\Hid (Below w.heap.size w wr)) (fun _ i _=>T.length+512 - (intOf i).toNat)
     case atStart=>exact⟨0,[],none,0,rfl,ZZ _,Nat.le_refl _,rfl,by show _=_;simp,World.ownsRow_nil _ _ _ _,Nat.le_refl _,ZZ _,aw.o⟩
     case round =>
      obtain⟨a,dd,A',c',rfl,ha,aD,rfl,hS,hO,P,Q,o⟩:=hrel;by_cases hlt:a<T.length
      . have aE: (a:Int)< (tx.size:Int):=by omega
        have ba:Hid (secs sz T= (dd++ [bB sz ((T.drop a).take sz)])++secs sz (T.drop (a+sz))):=by
         show _=_;rw[hS.o,sP hz0 (by intro h;have:=congrArg List.length h;rw[List.length_drop]at this;simp at this;omega),List.drop_drop];simp
        obtain⟨hi,R,bo⟩:∃hi:Nat,hi=min (a+sz) T.length/\min ((a:Int)+ (sz:Int)) (T.length:Int)= (hi:Int):=⟨_,rfl,by omega⟩
        have S:tx.extract a hi=ofL ((T.drop a).take sz):=by
         rw[ES k.o]
         congr 1
         rw[R];rcases Nat.le_total (a+sz) T.length with h | h
         . rw[Nat.min_eq_left h,Nat.add_sub_cancel_left]
         . rw[Nat.min_eq_right h,ZW (by rw[List.length_drop];omega),ZW (by rw[List.length_drop];omega)]
        have U:=ah (fun w'=>l7 ((T.drop a).take sz) sz w' (by rw[List.length_take];omega) hz1);rw[<-S]at U;have bi: (hi:Int)<= (T.length:Int):=by omega
        have bj: (a:Int)<= (hi:Int):=by omega
        have bp: (bB sz ((T.drop a).take sz)).length=sz:=gD (by rw[List.length_take];omega);clear hS S R;go_wp2_with fail;refine(U.o _).mono ?_;rintro e w3 ⟨rfl,I⟩;have V:Hid (w3.ownsRow w.heap.size 9 1 (.slice A' dd.length c') dd.length (flat aA dd)):=fM hO.o I;have W:Hid (Below w.heap.size w w3):=o.o.trans (I.mono o.o.size);obtain⟨v,hv⟩:=NX9 (ofL (bB sz ((T.drop a).take sz)))
        have HV:Hid (flat aA (dd++ [bB sz ((T.drop a).take sz)])=flat aA dd++ [.string v]):=by show _=_;rw[bu,<-hv];rfl
        have X:∀x∈ [(Value.string v)],x.oneCell'=true:=fun x hx=>by rw[List.mem_singleton.1 hx];rfl
        have t:Hid ((w3.alloc (.cells #[.string v] 9)).ownsRow w.heap.size 9 1 (.slice A' dd.length c') dd.length (flat aA dd)):=V.o.alloc _;have z3:=W.o.size;have Y: (dd++ [bB sz ((T.drop a).take sz)]).length=dd.length+1:=by simp
        have p:=ah Y;rw[hv];obtain⟨m,hm⟩:=NX9 dd.length
        rw[hm]at t p aD P ⊢;clear I hv Y hm hO V
        go_wp2_with (at_builtin;refine aN ?_)
        refine aF ?_;refine iM (base:=w.heap.size) (size:=1) _ rfl (.tmp 45) (.tmp 57) 22 rfl 9 i0 _ 16 Tryz.underlying22 Hi.o an.o ao.o ap.o rfl (by decide) (.slice A' m c') m (flat aA dd) (by rfl) t.o (w3.heap.size+1) (some ⟨w3.heap.size,0,none⟩) 1 1 [.string v] (by rfl) (Sl.new w3 9 [.string v] 1 rfl) X (by unfold maxLen;omega) (by omega) (by simp;omega) ?_;intro A4 c4 w4 J Z bb ab;rw[<-HV.o]at J;have bd:=ah J;have bf:Hid (Below w.heap.size w w4):=(W.o.alloc (by omega) _).grown Z (by simp;omega) (fun g hg=>iy t.o g hg);have bg:=ah ab;clear J Z ab t X;go_wp2_with fail;go_roundw
        case rel=>exact⟨a+sz,_,A4,c4,by go_num,by omega,by rw[p.o];omega,by rw[p.o],ba.o,by rw[p.o];exact bd.o,by rw[p.o];exact bb,bg.o,bf.o⟩
        case measure=>simp[intOf];omega
      . have aE:¬(a:Int)< (tx.size:Int):=by omega
        have q:Hid (secs sz (az l)=dd):=by
         show _=_;rw[au.o,hS.o,List.drop_of_length_le (by omega),zw,List.append_nil]
        clear hS;have bh:=ah Q;clear Q
        go_wp2
        go_ret2
        exact ad.o _ _ HF.o am.o o.o ⟨A',c',by rw[q.o];first | done | rfl,by rw[q.o];exact hO.o,by rw[q.o];exact P,bh.o⟩
 . have f:eU l= ([],4):=by rw[eU,if_neg hf]
   rw[f]at HP;have D:=ah f;have HF:=ah hf;clear h f hf
   go_enter Tryz.func109,Tryz.ntmps109
   go_wp2_with fail;refine HP.o.mono ?_;rintro e w1 ⟨rfl,b⟩;have j:=ah b;clear b HP
   go_wp2
   go_ret2
   exact K.o _ _ (fun h=>HF.o h.1) j.o (by rw[D.o];rfl)
theorem Gf(o x:M5)(w:MZ):Calls Tryz.prog 171 #[.string (ofL o),.string (ofL x)] w fun e w'=>e= .returned (.string (ofL x))/\w=w':=by
 go_enter Tryz.func171,Tryz.ntmps171
 go_wp2
 go_ret
 exact⟨rfl,rfl⟩
def gW(x:Int):List M4:= [.int .i64 x]
theorem IQ(x:Int): (gW x).length=1:=rfl
structure qM(sz:Nat)(qs:List Int)(nb pb db:Nat)(A:OA)(c:Nat)(x1 x2 x3:M4)(k:Nat)(w:MZ):Prop where
 n:Bk w nb 3 #[.int .i64 (min k qs.length:Nat)]
 p:Bk w pb 59 #[.slice A qs.length c]
 d:Bk w db 25 #[.int .i64 sz,x1,x2,x3]
 s:Sl w nb 1 A qs.length (flat gW qs)
theorem uk(sz:Nat)(p:Int):fQ sz p<=sz:=by
 unfold fQ;have:=Int.natAbs_tmod p (sz+1:Nat);rw[this];have:=Nat.mod_lt p.natAbs (show 0< ((sz+1:Nat):Int).natAbs by omega);omega
theorem Jz(sz:Nat)(p:Int)(h:sz<=512):max (p.tmod ((sz:Int)+1)) (wrap64 (-p.tmod ((sz:Int)+1)))= ((fQ sz p:Nat):Int):=by
 have hl:=uk sz p;unfold fQ at hl ⊢;have e: (((sz+1:Nat)):Int)= (sz:Int)+1:=by omega
 rw[e]at hl ⊢;generalize p.tmod ((sz:Int)+1)=t at *;unfold wrap64;omega
theorem Bh(x:M5)(i j:Nat): (ofL x).extract i j=ofL ((x.drop i).take (j - i)):=by
 unfold ofL;apply ByteArray.ext
 simp[ByteArray.data_extract]
theorem Lj{w:MZ}{b:Nat}{t:TypeId}{x:M4}(h:Bk w b t #[x])(y:M4):Bk (w.setCell ⟨b,0,none⟩ y) b t #[y]:=by
 have:=h.set 0 y
 simpa using this
theorem Gb.dN{p:Nat->Prop}{a b:MZ}(h:Gb p a b)(n:Nat):Gb p a (b.drewN n):=⟨h.os,h.tape,h.output,h.size,h.block⟩
theorem Ic{q:Nat}{x:M5}: (ofL x).extract 0 q=ofL (x.take q):=by rw[Bh];simp
theorem AO{q sz:Nat}{x:M5}(hx:x.length=sz): (ofL x).extract q sz=ofL (x.drop q):=by rw[Bh,ZW (by rw[List.length_drop];omega)]
theorem Il(sz:Nat)(qs:List Int)(nb pb db:Nat)(A:OA)(c:Nat)(x1 x2 x3:M4)(k:Nat)(o x:M5)(w:MZ)(h:qM sz qs nb pb db A c x1 x2 x3 k w)(hz:sz<=512)(hq:qs.length<=1000000)(ho:o.length=sz)(hx:x.length=sz)(h1:nb≠pb)(h2:nb≠db) :
  Calls Tryz.prog 60 #[.string (ofL o),.string (ofL x),.pointer (some ⟨nb,0,none⟩),.pointer (some ⟨pb,0,none⟩),.pointer (some ⟨db,0,none⟩)] w fun e w'=>e= .returned (.string (ofL (x.take (fQ sz (qs.getD k 0))++o.drop (fQ sz (qs.getD k 0)))))/\qM sz qs nb pb db A c x1 x2 x3 (k+1) w'/\Gb (fun b=>b=nb) w w':=by
 have H:=ah h;have n0:=h.n.cell 0;have nf:=h.n.free 0;have p0:=h.p.cell 0;have d0:=h.d.cell 0;simp at n0 p0 d0;have r: ((ofL o).size:Int)=sz:=by rw[bG,ho]
 have t: ((ofL x).size:Int)=sz:=by rw[bG,hx]
 have j: (ofL o).size=sz:=by rw[bG,ho]
 have l: (ofL x).size=sz:=by rw[bG,hx]
 clear h;obtain⟨m,hm⟩:=NX9 qs.length
 have HM:=ah hm;rw[hm]at n0 p0 hq;clear hm
 go_enter Tryz.func60,Tryz.ntmps60
 by_cases hk:k<m
 . have a:min k m=k:=by omega
   rw[a]at n0;clear a;obtain⟨b,u,p,hA,hb,hp,hc⟩:=H.o.s.at_ IQ (by omega) (by rw[HM.o];exact hk);have y0:=hc 0 _ rfl;simp only[Nat.mul_one,Nat.add_zero]at y0;rw[hA]at p0;have f:Hid (qs.getD k 0=p):=by show _=_;rw[List.getD_eq_getElem?_getD,hp];rfl
   clear hc hp;go_wp2_with fail
   go_quiet(fail)
   go_wp2_with fail;rw[Jz sz p hz];obtain⟨q,g⟩:=NX9 (fQ sz p)
   have i:=uk sz p;rw[g]at i ⊢;have HQ:=ah g;clear g;have v: (q:Int)<= (sz:Int):=by omega
   go_quiet(fail)
   go_wp2_with fail;go_ret
   refine⟨?_,⟨?_,((H.o.p.drewN _).far (p:=⟨nb,0,none⟩) h1.symm _).drewN _,((H.o.d.drewN _).far (p:=⟨nb,0,none⟩) h2.symm _).drewN _,((H.o.s.drewN _).setCell (p:=⟨nb,0,none⟩) ai _).drewN _⟩,?_⟩
   . rw[f.o,HQ.o,<-mO,<-Ic,<-AO ho];rfl
   . rw[HM.o,show min (k+1) m=k+1 by omega]
     exact(Lj (H.o.n.drewN _) _).drewN _
   . exact(((Gb.refl _ w).dN _).trans (Gb.set (p:=fun b=>b=nb) rfl 0 _)).dN _
 . have a:min k m=m:=by omega
   rw[a]at n0;clear a;have f:Hid (fQ sz (qs.getD k 0)=0):=by
    show _=_;rw[List.getD_eq_getElem?_getD,List.getElem?_eq_none (by rw[HM.o];omega)];unfold fQ;simp
   have y: (0:Int)<= (sz:Int):=by omega
   go_wp2_with fail
   go_quiet(fail)
   go_wp2_with fail;go_ret
   refine⟨?_,⟨?_,H.o.p.drewN _,H.o.d.drewN _,H.o.s.drewN _⟩,?_⟩
   . rw[f.o,List.take_zero,List.nil_append,<-AO ho];rfl
   . have:=H.o.n
     rw[HM.o,show min k m=m by omega]at this;rw[HM.o,show min (k+1) m=m by omega];exact this.drewN _
   . exact(Gb.refl _ w).dN _
theorem G8(d:Dk)(s:Dsl)(B:Nat)(w:MZ)(hd:d.Ok)(hm:DkM w B d s)(hB:B<=w.heap.size)(hp:d.pn.length<=900000) :
  Calls Tryz.prog 100 #[dkV d s] w (aW (if d.lf=0 then d else doO d none) (if d.lf=0 then 20 else 0) w):=by
 obtain⟨W,hW⟩:=NX9 ((w.alloc (.cells (dkC d s) 25)).alloc (.cells #[.int .i64 0,.slice none 0 0,.slice none 0 0,.int .i64 0] 25))
 have q:Hid (Below w.heap.size w W):=by rw[<-hW];exact((af _ w).alloc ai _).alloc (by simp) _
 have HK:Hid (Bk W w.heap.size 25 (dkC d s)):=by rw[<-hW];exact(Bk.new w _ _).alloc _
 have HZ:Hid (Bk W (w.heap.size+1) 25 #[.int .i64 0,.slice none 0 0,.slice none 0 0,.int .i64 0]):=by
  rw[<-hW];have:=Bk.new (w.alloc (.cells (dkC d s) 25)) 25 #[.int .i64 0,.slice none 0 0,.slice none 0 0,.int .i64 0]
  rwa[Z9]at this
 have zW:W.heap.size=w.heap.size+2:=by rw[<-hW];simp
 have HM:Hid (DkM W B d s):=hm.below q.o hB;have H:=ah hm;have HC:=ah (ow d s B W hd HM.o (by omega) (by omega));have HD:=ah hd;have r:Hid (∀W1,Below W.heap.size W W1->Calls Tryz.prog 59 #[dkV d s,.func (.func 171) #[] #[]] W1 fun e w'=>∃s',e= .returned (.agg #[.int .i64 d.sz,.slice s'.a1 (settle d.ss d.pn).length s'.c1,.slice s'.a2 0 s'.c2,.int .i64 d.lf])/\DkM w' w'.heap.size {d with ss:=settle d.ss d.pn,pn:= []} s'/\Below W1.heap.size W1 w'):=fun W1 h1=>by
  have M:=h1.size;have:=xO d s B 171 #[] (fun _ _ x=>x) w.heap.size (fun _ W2=>W2.heap[w.heap.size]? =W1.heap[w.heap.size]?) W1 hd (HM.o.below h1 (by omega)) (by omega) (by omega) (by omega)
   ⟨.inl ⟨rfl,rfl⟩,by omega,fun k o x W2 hi _ _=>(Gf o x W2).mono (by rintro e w' ⟨rfl,rfl⟩;exact⟨rfl,hi,Gb.refl _ _⟩),fun _ _ _ _ h=>h,fun _ W2 W3 hi _ hb=>(hb.block _ (by omega)).trans hi⟩ rfl
  rw[xE]at this;refine this.mono ?_;rintro e w' ⟨s',rfl,h2,h3,h4⟩;exact⟨s',rfl,h2,h3.os,h3.tape,h3.output,h3.size,fun i hi=>by
   by_cases e:i=w.heap.size
   . rw[e];exact h4
   . exact h3.block i hi e⟩
 obtain⟨lf,l⟩:=NX9 d.lf
 have A:=hd.lf;have C:=hd.lm;have E:=ah l;obtain⟨n2,t⟩:=NX9 ((settle d.ss d.pn).length)
 have I:=ah t;have HW:=ah hW;have N:Hid (∀(w':MZ) s',DkM w' w'.heap.size {d with ss:=settle d.ss d.pn,pn:= [],lf:=lf} s'->DkM w' w'.heap.size (doO d none) s'):=fun _ _ h=>by rw[<-l]at h;rw[doO];exact⟨h.ss,h.pn⟩
 simp only[dkV,dkC,l,t]at HC HW HK r A C ⊢;clear hd hm hW l t;by_cases h0:lf=0
 . subst h0
   simp only[if_true];obtain⟨D,hD⟩:=NX9 (aW d 20 w)
   have u:=ah hD;rw[hD];clear hD
   go_enter Tryz.func100,Tryz.ntmps100
   go_wp2_with fail;rw[HW.o];refine HC.o.mono ?_;rintro e w2 ⟨rfl,j⟩;have a:Hid (Below W.heap.size W w2):=j;have g:=ah (HK.o.below a.o (by omega));have b:=ah (HZ.o.below a.o (by omega));obtain⟨k0,k1,k2,k3⟩:=g.o.dk4;obtain⟨z0,z1,z2,z3⟩:=b.o.dk4;obtain⟨f0,f1,f2,f3⟩:=fr4 b.o;clear j HC;go_wp2_with fail;have HE:=ah (b.o.set4 (.int .i64 d.sz) (.slice s.a1 d.ss.length s.c1) (.slice s.a2 d.pn.length s.c2) (.int .i64 0));refine ZY (fw Tryz.results100 rfl HE.o rfl) rfl ?_;rw[<-u.o];have v:=dH (q.o.trans (a.o.mono (by omega))) (show w.heap.size<=w.heap.size+1 by omega) (.int .i64 d.sz) (.slice s.a1 d.ss.length s.c1) (.slice s.a2 d.pn.length s.c2) (.int .i64 0);exact⟨s,by simp only[dkV,dkC,E.o];rfl,(H.o.below v hB).more (by have:=v.size;omega),v⟩
 . have O: (lf == 0)=false:=by simpa using h0
   simp only[if_neg h0];obtain⟨D,hD⟩:=NX9 (aW (doO d none) 0 w)
   have u:=ah hD;rw[hD];have HL:=ah (fun W=>yY lf W A C);clear hD h0
   go_enter Tryz.func100,Tryz.ntmps100
   go_wp2_with fail;rw[HW.o];refine HC.o.mono ?_;rintro e w1 ⟨rfl,m⟩;have y:Hid (Below W.heap.size W w1):=m;obtain⟨k0,k1,k2,k3⟩:=(HK.o.below m (by omega)).dk4;have g0:=(HK.o.below m (by omega)).free 0;clear m HC;go_wp2_with fail;refine(r.o w1 y.o).mono ?_;rintro e w2 ⟨s',rfl,F,j⟩;have J:=ah F;have a:Hid (Below W.heap.size W w2):=y.o.trans (j.mono y.o.size);have g:=ah (HK.o.below a.o (by omega));have b:=ah (HZ.o.below a.o (by omega));obtain⟨k0,k1,k2,k3⟩:=g.o.dk4;obtain⟨z0,z1,z2,z3⟩:=b.o.dk4;obtain⟨e0,e1,e2,e3⟩:=fr4 g.o;obtain⟨f0,f1,f2,f3⟩:=fr4 b.o;clear F j r g0;go_wp2_with fail;obtain⟨W5,c⟩:=NX9 ((((w2.setCell ⟨w.heap.size,0,none⟩ (.int .i64 d.sz)).setCell ⟨w.heap.size,1,none⟩ (.slice s'.a1 n2 s'.c1)).setCell ⟨w.heap.size,2,none⟩ (.slice s'.a2 0 s'.c2)).setCell ⟨w.heap.size,3,none⟩ (.int .i64 lf))
   have z:Hid (Bk W5 w.heap.size 25 #[.int .i64 d.sz,.slice s'.a1 n2 s'.c1,.slice s'.a2 0 s'.c2,.int .i64 lf]):=by rw[<-c];exact g.o.set4 _ _ _ _
   have n:Hid (Bk W5 (w.heap.size+1) 25 #[.int .i64 0,.slice none 0 0,.slice none 0 0,.int .i64 0]):=by
    rw[<-c];have f:w.heap.size+1≠w.heap.size:=by omega
    exact(((b.o.far (p:=⟨w.heap.size,0,none⟩) f _).far (p:=⟨w.heap.size,1,none⟩) f _).far (p:=⟨w.heap.size,2,none⟩) f _).far (p:=⟨w.heap.size,3,none⟩) f _
   have K:Hid (DkM W5 w2.heap.size {d with ss:=settle d.ss d.pn,pn:= [],lf:=lf} s'):=by rw[<-c];exact J.o.box g.o _ _ _ _
   have L:Hid (Below w.heap.size w W5):=by rw[<-c];exact dH (q.o.trans (a.o.mono (by omega))) ai _ _ _ _
   have z5:w2.heap.size=W5.heap.size:=by rw[<-c];simp
   rw[c];clear c k0 k1 k2 k3 z0 z1 z2 z3 e0 e1 e2 e3 f0 f1 f2 f3;obtain⟨k0,k1,k2,k3⟩:=z.o.dk4;obtain⟨z0,z1,z2,z3⟩:=n.o.dk4;have e3:=z.o.free 3;obtain⟨f0,f1,f2,f3⟩:=fr4 n.o;refine(HL.o _).mono ?_;rintro e w5 ⟨rfl,rfl⟩;go_wp2_with fail;have f:w.heap.size+1≠w.heap.size:=by omega
   have HE:=ah ((n.o.far (p:=⟨w.heap.size,3,none⟩) f (.int .i64 (eH lf))).set4 (.int .i64 d.sz) (.slice s'.a1 n2 s'.c1) (.slice s'.a2 0 s'.c2) (.int .i64 (eH lf)));refine ZY (fw Tryz.results100 rfl HE.o rfl) rfl ?_;rw[<-u.o];have G:=(K.o.box1 z.o 3 (.int .i64 (eH lf))).box (n.o.far (p:=⟨w.heap.size,3,none⟩) f (.int .i64 (eH lf))) (.int .i64 d.sz) (.slice s'.a1 n2 s'.c1) (.slice s'.a2 0 s'.c2) (.int .i64 (eH lf));refine⟨s',?_,?_,dH (L.o.setCell (p:=⟨w.heap.size,3,none⟩) ai _) (by omega) _ _ _ _⟩
   . simp only[dkV,dkC,doO,E.o,I.o];rfl
   . exact⟨G.ss.more (by simp;omega),G.pn.more (by simp;omega)⟩
def OpV(w:MZ)(B:Nat)(v:M4):Dop->Prop
 | none=>v= .func (.func 100) #[] #[]
 | some x=>∃b1 b2,b1<B/\b2<B/\v= .func (.func 169) #[] #[.pointer (some ⟨b1,0,none⟩),.pointer (some ⟨b2,0,none⟩)]/\Bk w b1 3 #[.int .i64 x.1]/\Bk w b2 9 #[.string (ofL x.2)]
theorem OpV.below{w w':MZ}{B B':Nat}{v:M4}{o:Dop}(h:OpV w B v o)(hb:Below B' w w')(hB:B<=B'):OpV w' B v o:=by
 cases o with
 | none=>exact h
 | some x =>
   obtain⟨b1,b2,h1,h2,e,k1,k2⟩:=h;exact⟨b1,b2,h1,h2,e,k1.below hb (by omega),k2.below hb (by omega)⟩
theorem OpV.more{w:MZ}{B B':Nat}{v:M4}{o:Dop}(h:OpV w B v o)(hB:B<=B'):OpV w B' v o:=by
 cases o with
 | none=>exact h
 | some x =>
   obtain⟨b1,b2,h1,h2,e⟩:=h;exact⟨b1,b2,by omega,by omega,e⟩
structure OpsM(w:MZ)(B:Nat)(A:OA)(n:Nat)(vs:List M4)(os:List Dop):Prop where
 sl:Sl w B 1 A n vs
 len:os.length=n
 op:∀(i:Nat) v o,vs[i]? =some v->os[i]? =some o->OpV w B v o
theorem OpsM.below{w w':MZ}{B B':Nat}{A:OA}{n:Nat}{vs:List M4}{os:List Dop}(h:OpsM w B A n vs os)(hb:Below B' w w')(hB:B<=B'):OpsM w' B A n vs os:=⟨h.sl.below hb hB,h.len,fun i v o hv ho=>(h.op i v o hv ho).below hb hB⟩
theorem jZ(i:Nat)(x:M5)(w:MZ):Calls Tryz.prog 98 #[.int .i64 i,.string (ofL x)] w fun e w'=>∃v,e= .returned v/\OpV w' w'.heap.size v (some (i,x))/\Below w.heap.size w w':=by
 obtain⟨W,hW⟩:=NX9 ((w.alloc (.cells #[.int .i64 i] 3)).alloc (.cells #[.string (ofL x)] 9))
 have HB:Hid (Below w.heap.size w W):=by rw[<-hW];exact((af _ w).alloc ai _).alloc (by simp) _
 have a:Hid (Bk W w.heap.size 3 #[.int .i64 i]):=by rw[<-hW];exact(Bk.new w _ _).alloc _
 have b:Hid (Bk W (w.heap.size+1) 9 #[.string (ofL x)]):=by
  rw[<-hW];have:=Bk.new (w.alloc (.cells #[.int .i64 i] 3)) 9 #[.string (ofL x)]
  rwa[Z9]at this
 have HW:=ah hW;clear hW
 go_enter Tryz.func98,Tryz.ntmps98
 go_wp2_with fail;rw[HW.o];go_ret
 exact⟨_,rfl,⟨w.heap.size,w.heap.size+1,a.o.lt,b.o.lt,rfl,a.o,b.o⟩,HB.o⟩
theorem J8(d:Dk)(s:Dsl)(B i b1 b2:Nat)(x:M5)(w:MZ)(hd:d.Ok)(hm:DkM w B d s)(hB:B<=w.heap.size)(hp:d.pn.length<=900000)(hi:i<d.ss.length)(hx:x.length=d.sz)(k1:Bk w b1 3 #[.int .i64 i])(k2:Bk w b2 9 #[.string (ofL x)]) :
  Calls Tryz.prog 169 #[dkV d s,.pointer (some ⟨b1,0,none⟩),.pointer (some ⟨b2,0,none⟩)] w (aW (if d.lf=0 then d else doO d (some (i,x))) (if d.lf=0 then 20 else 0) w):=by
 obtain⟨W,hW⟩:=NX9 ((w.alloc (.cells (dkC d s) 25)).alloc (.cells #[.int .i64 0,.slice none 0 0,.slice none 0 0,.int .i64 0] 25))
 have c:Hid (Below w.heap.size w W):=by rw[<-hW];exact((af _ w).alloc ai _).alloc (by simp) _
 have HZ:Hid (Bk W (w.heap.size+1) 25 #[.int .i64 0,.slice none 0 0,.slice none 0 0,.int .i64 0]):=by
  rw[<-hW];have:=Bk.new (w.alloc (.cells (dkC d s) 25)) 25 #[.int .i64 0,.slice none 0 0,.slice none 0 0,.int .i64 0]
  rwa[Z9]at this
 obtain⟨l,m,n,o⟩:W.cell? ⟨w.heap.size,0,none⟩=_/\W.cell? ⟨w.heap.size,1,none⟩=_/\W.cell? ⟨w.heap.size,2,none⟩=_/\W.cell? ⟨w.heap.size,3,none⟩=_:=by rw[<-hW];exact((Bk.new w 25 (dkC d s)).alloc _).dk4
 have zW:W.heap.size=w.heap.size+2:=by rw[<-hW];simp
 have c1:=k1.cell 0;have c2:=k2.cell 0;have l1:=k1.lt;have l2:=k2.lt;simp at c1 c2;have HC:=ah (FL d s B i x W hd (hm.below c.o hB) (by omega) hp hi hx);obtain⟨d2,f⟩:=NX9 ((if d.lf=0 then d else doO d (some (i,x))))
 obtain⟨x2,g⟩:∃x2:Int,(if d.lf=0 then 20 else 0)=x2:=⟨_,rfl⟩
 rw[f,g]at HC ⊢;have HW:=ah hW;unfold aW at HC;clear hd hm f g hW hi hx k1 k2;simp only[dkV,dkC]at *
 go_enter Tryz.func169,Tryz.ntmps169
 go_wp2_with fail;rw[HW.o];refine HC.o.mono ?_;rintro e w2 ⟨s',rfl,h,b⟩;have j:=ah h;have k:=ah b;have a:=ah (HZ.o.below b (by omega));obtain⟨z0,z1,z2,z3⟩:=a.o.dk4;obtain⟨f0,f1,f2,f3⟩:=fr4 a.o;clear h b HC;go_wp2_with fail;have HE:=ah (a.o.set4 (.int .i64 d2.sz) (.slice s'.a1 d2.ss.length s'.c1) (.slice s'.a2 d2.pn.length s'.c2) (.int .i64 d2.lf));refine ZY (fw Tryz.results169 rfl HE.o rfl) rfl ?_;exact⟨s',rfl,(j.o.box a.o _ _ _ _).more (by simp),dH (c.o.trans (k.o.mono (by omega))) (by omega) _ _ _ _⟩
theorem uM(d:Dk)(s:Dsl)(B:Nat)(A:OA)(n c:Nat)(vs:List M4)(os:List Dop)(w:MZ)(hd:d.Ok)(hm:DkM w B d s)(hB:B<=w.heap.size)(ho:OpsM w B A n vs os)(hf:∀o∈os,iZ d o)(hp:d.pn.length+os.length<=900000) :
  Calls Tryz.prog 97 #[dkV d s,.slice A n c] w (aW (aH d os).1 (aH d os).2 w):=by
 obtain⟨W,hW⟩:=NX9 ((w.alloc (.cells (dkC d s) 25)).alloc (.cells #[.int .i64 0,.slice none 0 0,.slice none 0 0,.int .i64 0] 25))
 have F:Hid (Below w.heap.size w W):=by rw[<-hW];exact((af _ w).alloc ai _).alloc (by simp) _
 have HK:Hid (Bk W w.heap.size 25 (dkC d s)):=by rw[<-hW];exact(Bk.new w _ _).alloc _
 have HZ:Hid (Bk W (w.heap.size+1) 25 #[.int .i64 0,.slice none 0 0,.slice none 0 0,.int .i64 0]):=by
  rw[<-hW];have:=Bk.new (w.alloc (.cells (dkC d s) 25)) 25 #[.int .i64 0,.slice none 0 0,.slice none 0 0,.int .i64 0]
  rwa[Z9]at this
 have zW:W.heap.size=w.heap.size+2:=by rw[<-hW];simp
 have HM:Hid (DkM W B d s):=hm.below F.o hB;have HO:=ah (ho.below F.o hB);have Y:=ah ho;have HD:=ah hd;have HF:=ah hf;have HP:=ah hp;have HW:=ah hW;have ab:n<=900000:=by have:=ho.len;omega
 obtain⟨D,G⟩:=NX9 (aW (aH d os).1 (aH d os).2 w)
 have M:=ah G;rw[G];clear hd hm ho hf hp hW G;simp only[dkV,dkC]
 go_enter Tryz.func97,Tryz.ntmps97
 go_wp2_with fail;rw[show(w.alloc (.cells #[.int .i64 d.sz,.slice s.a1 d.ss.length s.c1,.slice s.a2 d.pn.length s.c2,.int .i64 d.lf] 25)).alloc (.cells #[.int .i64 0,.slice none 0 0,.slice none 0 0,.int .i64 0] 25)=W from HW.o]
 go_loopw[11] (fun i wr=>∃(k:Nat)(dk:Dk)(s':Dsl),k<=n/\i= .int .i64 k/\Hid (aH d os=aH dk (os.drop k))/\Hid dk.Ok/\Hid (dk.sz=d.sz/\dk.ss.length=d.ss.length)/\Hid (dk.pn.length+ (n - k)<=900000)/\Hid (Bk wr w.heap.size 25 (dkC dk s'))/\Hid (Bk wr (w.heap.size+1) 25 #[.int .i64 0,.slice none 0 0,.slice none 0 0,.int .i64 0])/\Hid (DkM wr wr.heap.size dk s')/\Hid (Below w.heap.size w wr)) (fun i _=>n - (intOf i).toNat)
 case atStart=>exact⟨0,d,s,ZZ _,rfl,rfl,HD.o,⟨rfl,rfl⟩,(by show _<=_;have:=HP.o;have:=HO.o.len;omega),HK.o,HZ.o,HM.o.more (by omega),F.o⟩
 case round =>
  obtain⟨k,dk,s',hk,rfl,q,H,u,I,hK,hZ,hM,l⟩:=hrel;have zr:w.heap.size+2<=wr.heap.size:=by have:=hZ.o.lt;omega
  obtain⟨k0,k1,k2,k3⟩:=hK.o.dk4;obtain⟨z0,z1,z2,z3⟩:=hZ.o.dk4;obtain⟨e0,e1,e2,e3⟩:=fr4 hK.o;obtain⟨f0,f1,f2,f3⟩:=fr4 hZ.o;by_cases hlt:k<n
  . have N:Hid (OpsM wr B A n vs os):=Y.o.below l.o hB
    obtain⟨o,ho⟩:∃o,os[k]? =some o:=⟨_,Z6 (by have:=HO.o.len;omega)⟩
    obtain⟨v,hv⟩:∃v,vs[k]? =some v:=⟨_,Z6 (by have:=HO.o.sl.1;omega)⟩
    obtain⟨b,ad,rfl,hb,hc⟩:=N.o.sl.2 (by omega);have x0:=hc k v hv;have r:=N.o.op k v o hv ho;have j:Hid (aH d os=if dk.lf=0 then(dk,20) else aH (doO dk o) (os.drop (k+1))):=by
     show _=_;have hl:=List.getElem?_eq_some_iff.1 ho;rw[q.o,List.drop_eq_getElem_cons hl.1,hl.2,aH]
    have J:iZ dk o:=fun w hw=>by rw[u.o.1,u.o.2];exact HF.o o (Z7 ho) w hw
    have a:Hid (∀fn cs,v= .func (.func fn) #[] cs->Calls Tryz.prog fn (#[dkV dk s']++cs) wr (aW (if dk.lf=0 then dk else doO dk o) (if dk.lf=0 then 20 else 0) wr)):=by
     intro fn cs y;cases o with
     | none =>
       rw[r]at y;cases y
       exact G8 dk s' wr.heap.size wr H.o hM.o ai (by have:=I.o;omega)
     | some x =>
       obtain⟨b1,b2,_,_,e,q1,q2⟩:=r;rw[e]at y;cases y
       obtain⟨g1,g2⟩:=J x rfl;exact J8 dk s' wr.heap.size x.1 b1 b2 x.2 wr H.o hM.o ai (by have:=I.o;omega) g1 g2 q1 q2
    have O:=ah J;have P:Hid ((doO dk o).pn.length<=dk.pn.length+1):=by
     show _<=_;cases o with
     | none=>simp[doO]
     | some x=>simp[doO]
    have Q:v= .func (.func 100) #[] #[]∨ (∃p1 p2,v= .func (.func 169) #[] #[p1,p2]):=by
     cases o with
     | none=>exact .inl r
     | some x=>obtain⟨b1,b2,_,_,e,_⟩:=r;exact .inr ⟨_,_,e⟩
    have R:=hK.o.lt;have S:=hZ.o.lt;clear r hc hv J q;by_cases h0:dk.lf=0
    . have T:Hid (aH d os= (dk,20)):=by show _=_;rw[j.o,if_pos h0]
      simp only[if_pos h0]at a;clear h0 ho;rcases Q with rfl | ⟨p1,p2,rfl⟩
      all_goals
       have HC:=ah (a.o _ _ rfl);unfold aW at HC;simp only[List.append_toArray,Array.append_empty,List.cons_append,List.nil_append,dkV,dkC]at HC;clear a;go_wp2_with fail;refine HC.o.mono ?_;rintro e w2 ⟨s2,rfl,t,g⟩;have K:=ah t;have L:Hid (Below w.heap.size w w2):=l.o.trans (g.mono (by omega));have h:=ah (hK.o.below g R);have m:=ah (hZ.o.below g S);have zz:=g.size;obtain⟨k0,k1,k2,k3⟩:=h.o.dk4;obtain⟨z0,z1,z2,z3⟩:=m.o.dk4;obtain⟨e0,e1,e2,e3⟩:=fr4 h.o;obtain⟨f0,f1,f2,f3⟩:=fr4 m.o;clear t g HC;go_wp2_with fail;have f:w.heap.size+1≠w.heap.size:=by omega
       have HE:=ah (((((m.o.far (p:=⟨w.heap.size,0,none⟩) f (.int .i64 dk.sz)).far (p:=⟨w.heap.size,1,none⟩) f (.slice s2.a1 dk.ss.length s2.c1)).far (p:=⟨w.heap.size,2,none⟩) f (.slice s2.a2 dk.pn.length s2.c2)).far (p:=⟨w.heap.size,3,none⟩) f (.int .i64 dk.lf)).set4 (.int .i64 dk.sz) (.slice s2.a1 dk.ss.length s2.c1) (.slice s2.a2 dk.pn.length s2.c2) (.int .i64 dk.lf));refine ZY (fw Tryz.results97 rfl HE.o rfl) rfl ?_;rw[<-M.o,T.o];have Z:=(K.o.box h.o (.int .i64 dk.sz) (.slice s2.a1 dk.ss.length s2.c1) (.slice s2.a2 dk.pn.length s2.c2) (.int .i64 dk.lf)).box ((((m.o.far (p:=⟨w.heap.size,0,none⟩) f (.int .i64 dk.sz)).far (p:=⟨w.heap.size,1,none⟩) f (.slice s2.a1 dk.ss.length s2.c1)).far (p:=⟨w.heap.size,2,none⟩) f (.slice s2.a2 dk.pn.length s2.c2)).far (p:=⟨w.heap.size,3,none⟩) f (.int .i64 dk.lf)) (.int .i64 dk.sz) (.slice s2.a1 dk.ss.length s2.c1) (.slice s2.a2 dk.pn.length s2.c2) (.int .i64 dk.lf);exact⟨s2,rfl,Z.more (by simp),dH (dH L.o ai _ _ _ _) (by omega) _ _ _ _⟩
    . have U:Hid (aH d os=aH (doO dk o) (os.drop (k+1))):=by show _=_;rw[j.o,if_neg h0]
      simp only[if_neg h0]at a;have z:Hid (doO dk o).Ok:=H.o.doO O.o;have C:Hid ((doO dk o).sz=d.sz/\ (doO dk o).ss.length=d.ss.length):=by
       obtain⟨q1,q2⟩:=uq dk o;exact⟨q1.trans u.o.1,q2.trans u.o.2⟩
      have E:Hid ((doO dk o).pn.length+ (n - (k+1))<=900000):=by show _<=_;have:=I.o;have:=P.o;omega
      obtain⟨d2,V⟩:=NX9 (doO dk o)
      rw[V]at U z C E a;clear h0 ho V P O j;rcases Q with rfl | ⟨p1,p2,rfl⟩
      all_goals
       have HC:=ah (a.o _ _ rfl);unfold aW at HC;simp only[List.append_toArray,Array.append_empty,List.cons_append,List.nil_append,dkV,dkC]at HC;clear a;go_wp2_with fail;refine HC.o.mono ?_;rintro e w2 ⟨s2,rfl,t,g⟩;have K:=ah t;have L:Hid (Below w.heap.size w w2):=l.o.trans (g.mono (by omega));have h:=ah (hK.o.below g R);have m:=ah (hZ.o.below g S);obtain⟨k0,k1,k2,k3⟩:=h.o.dk4;obtain⟨e0,e1,e2,e3⟩:=fr4 h.o;clear t g HC z0 z1 z2 z3 f0 f1 f2 f3;go_wp2_with fail;have f:w.heap.size+1≠w.heap.size:=by omega
       go_roundw
       case rel=>exact⟨k+1,d2,s2,by omega,by go_num,U.o,z.o,C.o,E.o,h.o.set4 _ _ _ _,(((m.o.far (p:=⟨w.heap.size,0,none⟩) f _).far (p:=⟨w.heap.size,1,none⟩) f _).far (p:=⟨w.heap.size,2,none⟩) f _).far (p:=⟨w.heap.size,3,none⟩) f _,(K.o.box h.o _ _ _ _).more (by simp),dH L.o ai _ _ _ _⟩
       case measure=>simp[intOf];omega
  . have X:Hid (aH d os= (dk,0)):=by
      show _=_;rw[q.o,List.drop_of_length_le (by have:=HO.o.len;omega),aH]
    have HE:=ah (hZ.o.set4 (.int .i64 dk.sz) (.slice s'.a1 dk.ss.length s'.c1) (.slice s'.a2 dk.pn.length s'.c2) (.int .i64 dk.lf));go_wp2_with fail;refine ZY (fw Tryz.results97 rfl HE.o rfl) rfl ?_;rw[<-M.o,X.o];exact⟨s',rfl,(hM.o.box hZ.o _ _ _ _).more (by simp),dH l.o (by omega) _ _ _ _⟩
