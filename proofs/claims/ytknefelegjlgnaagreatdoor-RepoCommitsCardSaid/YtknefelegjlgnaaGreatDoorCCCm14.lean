/-Lemmas.-/
import Derived.Test.YtknefelegjlgnaaGreatDoorCCCm13
set_option maxRecDepth 100000
set_option maxHeartbeats 8000000
namespace Go.Proofs.YtknefelegjlgnaaGreatDoor
open Go.RowKit
section
attribute [local go_sem] Oper.semAt_some
theorem BR(d:Dk)(s:Dsl)(B:Nat)(w:VA)(hd:d.Ok)(hm:DkM w B d s)(hB:B<=w.heap.size)(hp:d.pn.length<=1000000):Calls Tryz.prog 95 #[dkV d s] w fun e w'=>e= .returned (.int .i64 (if d.ss.length<3 then 2 else 0))/\VE w w':=by
 obtain⟨W,hW⟩:=NX9 (w.alloc (.cells (dkC d s) 25))
 have HB0:VF w W:=by rw[<-hW];exact(ah _ w).alloc aj _
 have a:W.heap.size=w.heap.size+1:=by rw[<-hW];simp
 have HK:Hid (Bk W w.heap.size 25 (dkC d s)):=by rw[<-hW];exact Bk.new w _ _
 have HC:=ai (rV d s B W hd (hm.below HB0.o hB) (by omega) hp);have HW:=ai hW;clear hW hm hd;obtain⟨n,hnn⟩:=NX9 d.ss.length
 simp only[dkV,dkC,hnn]at HC HK HW ⊢;obtain⟨k0,k1,k2,k3⟩:=HK.o.dk4;clear hnn
 go_enter Tryz.func95,Tryz.ntmps95
 go_wp2_with fail;rw[HW.o];refine HC.o.mono ?_;rintro e w1 ⟨rfl,hb1⟩;obtain⟨k0,k1,k2,k3⟩:=(HK.o.below hb1 (by omega)).dk4;have HB1:VF w w1:=HB0.o.trans (hb1.mono (by omega));clear hb1 HC;by_cases hni: (n:Int)<3
 . have hx:Hid ((if n<3 then 2 else 0:Int)=2):=if_pos (by omega)
   go_wp2
   go_ret
   first | exact⟨rfl,HB1.o⟩ | exact⟨by rw[hx.o];rfl,HB1.o⟩
 . have hx:Hid ((if n<3 then 2 else 0:Int)=0):=if_neg (by omega)
   go_wp2
   go_ret
   first | exact⟨rfl,HB1.o⟩ | exact⟨by rw[hx.o];rfl,HB1.o⟩
theorem Ce(d:Dk)(s:Dsl)(B:Nat)(w:VA)(hd:d.Ok)(hn:3<=d.ss.length)(hm:DkM w B d s)(hB:B<=w.heap.size)(hp:d.pn.length<=1000000):Calls Tryz.prog 95 #[dkV d s] w fun e w'=>e= .returned (.int .i64 0)/\VE w w' :=
 (BR d s B w hd hm hB hp).mono fun _ _ h=>⟨by rw[h.1,if_neg (by omega)],h.2⟩
theorem L6(s:VB)(sz:Nat)(w:VA) :
  Calls Tryz.prog 140 #[.string s,.int .i64 sz] w fun e w'=>e= .returned (.func (.func 221) #[] #[.pointer (some ⟨w.heap.size,0,none⟩),.pointer (some ⟨w.heap.size+1,0,none⟩)]) ∧
   w'= (w.alloc (.cells #[.string s] 9)).alloc (.cells #[.int .i64 sz] 3):=by
 go_enter Tryz.func140,Tryz.ntmps140
 go_wp2
 go_ret
 exact⟨rfl,rfl⟩
theorem Bd{P:Program}{e:TypeId}{size:Nat}(t:TypeId)(i:TypeInfo)(ht:P.underlying t=some (.slice e))(hi:P.info? e=some i)(hsz:i.size=size)(A:OA)(n c k m:Nat)(hk:k+m<=c) :
  ∃Ak,(∀w:VA,(Instr.sliceAt t (.slice A n c) (some (.int .i64 k)) (some (.int .i64 ((k:Int)+ (m:Int)))) none).run P w= .ok (.slice Ak m (c - k)) w)/\∀(w:VA)(B:Nat)(xs:List VC),0<size->Sl w B size A n xs->k+m<=n->Sl w B size Ak m ((xs.drop (k*size)).take (m*size)):=by
 refine⟨if c=k then A else A.map (·.add (k*size)),fun w=>?_,fun w B xs hs h hn=>?_⟩
 . simp[Instr.sliceAt,Instr.slice,run_underlying ht,Instr.sliceBounds,Instr.sliceBound,asIntOf,sizeOf,typeInfo,hi,hsz]
   rw[if_pos (by omega),if_pos (by omega),show((k:Int)+ (m:Int)).toNat - k=m by omega]
 . have hl:m*size+k*size<=n*size:=by rw[<-Nat.add_mul,Nat.add_comm];exact Nat.mul_le_mul_right _ hn
   refine⟨by rw[List.length_take,List.length_drop,h.1];omega,fun hm=>?_⟩;obtain⟨b,off,rfl,hb,hc⟩:=h.2 (by omega);rw[if_neg (by omega)];refine⟨b,off+k*size,by simp[Addr.add_lit],hb,fun j u hu=>?_⟩;rw[Nat.add_assoc];refine hc _ u ?_;rw[List.getElem?_take]at hu;split at hu
   . rw[List.getElem?_drop]at hu;exact hu
   . cases hu
theorem D7(L:List VD)(k m:Nat): ((flat aF L).drop (k*1)).take (m*1)=flat aF ((L.drop k).take m):=by
 rw[<-DI dJ,<-rX dJ]
theorem Sl.putLoop{w:VA}{B n l:Nat}{A:OA}{L:List VD}(h:Sl w B 1 A n (flat aF L)){r:Loop}{o':Obj}(hl:w.heap[l]? =some (.loop r)):Sl (w.putObj l o') B 1 A n (flat aF L) :=
 h.avoid fun b off e hn hc=>World.putObj_heap_other (fun e=>by
  subst e;have hll:=h.len dJ (by omega);have h1:=iJ (enc:=aF) dJ L 0 0 _ (Z5 (by omega)) (by omega);have:=hc 0 _ h1;simp[World.cell?,hl]at this)
theorem FrP.put{sz:Nat}{b:VD}{W:VA}{xs:List Fr}(h:FrP sz b W xs){l:Nat}{r:Loop}{o':Obj}(hl:W.heap[l]? =some (.loop r)):FrP sz b (W.putObj l o') xs:=fun pre x he=>by
 rcases h pre x he with h | ⟨u,h1,h2,h3⟩
 . exact .inl h
 . exact .inr ⟨u,h1,by have:=h2.putLoop (o':=o') hl;simpa using this,h3⟩
theorem Uf{fn:Func}{c1 c2:Tmp}(h:fn.results= #[.cell c1 142,.cell c2 36]){w:VA}{a:Array VC}{b1 b2:Nat}{x y z e:VC}(h1:a[c1]?.getD undef= .pointer (some ⟨b1,0,none⟩))(h2:a[c2]?.getD undef= .pointer (some ⟨b2,0,none⟩))(k1:Bk w b1 142 #[x,y,z])(k2:Bk w b2 36 #[e]) :
  (results fn a).run Tryz.prog w= .ok (.tuple #[.agg #[x,y,z],e]) w:=by
 obtain⟨p0,p1,p2⟩:=k1.three;have c2':=k2.cell 0;simp at c2';simp[results,h,h1,h2,go_sem,p0,p1,p2,c2']
structure JoI(s0 bc base:Nat)(v0:Int)(w:VA)(pre:List Fr)(A:OA)(c:Nat)(W:VA):Prop where
 k:Bk W bc 142 #[.int .i64 v0,.slice A (frL pre).length c,.int .i64 (frU pre)]
 own:W.ownsRow base 9 1 (.slice A (frL pre).length c) (frL pre).length (flat aF (frL pre))
 r1:Bk W (s0+1) 142 #[.int .i64 0,.slice none 0 0,.int .i64 0]
 r2:Bk W (s0+1+1) 36 #[.int .i64 0]
 b:Below s0 w W
 c1: (frL pre).length<=c
 c2:c<=maxLen
 nn:0<=frU pre
section
variable {s0 bc base : Nat} {v0 : Int} {w W W' : VA} {pre : List Fr} {A : OA} {c : Nat}
theorem JoI.grown{row:Option Nat}(h:JoI s0 bc base v0 w pre A c W)(hg:W.grownBy W' row)(h1:some (s0+1)≠row)(h2:some (s0+1+1)≠row)(h3:some bc≠row)(h4: (Value.slice A (frL pre).length c).ownBlock=none∨ (Value.slice A (frL pre).length c).ownBlock≠row)(h5:∀k,row=some k->s0<=k):JoI s0 bc base v0 w pre A c W' :=
 ⟨h.k.grown hg h3,h.own.kept hg h4,h.r1.grown hg h1,h.r2.grown hg h2,h.b.grown hg (by have:=h.r2.lt;omega) h5,h.c1,h.c2,h.nn⟩
theorem JoI.below(h:JoI s0 bc base v0 w pre A c W)(hb:VE W W'):JoI s0 bc base v0 w pre A c W' :=
 ⟨h.k.below hb h.k.lt,gQ h.own hb,h.r1.below hb h.r1.lt,h.r2.below hb h.r2.lt,h.b.trans (hb.mono (by have:=h.r2.lt;omega)),h.c1,h.c2,h.nn⟩
end
theorem KeepF.trans{b1 b2:Nat}{A B C:VA}(h:KeepF b1 b2 A B)(k:KeepF b1 b2 B C):KeepF b1 b2 A C:=⟨k.1.trans h.1,k.2.trans h.2⟩
def UN(a u:Nat)(rs:List VD)(w:VA)(e:Ending)(w':VA):Prop:=∃A c,e= .returned (.tuple #[.agg #[.int .i64 a,.slice A rs.length c,.int .i64 u],.int .i64 0])/\Sl w' w'.heap.size 1 A rs.length (flat aF rs)/\rs.length<=c/\c<=maxLen/\VE w w'
theorem xh(d:Dk)(s:Dsl)(B a u:Nat)(rs:List VD)(w:VA)(hd:d.Ok)(hpn:d.pn= [])(hj:Jn d.sz d.ss a rs u)(hm:DkM w B d s)(hB:B<=w.heap.size) :
  Calls Tryz.prog 78 #[dkV d s] w (UN a u rs w):=by
 refine(callsIn_wide (n:=6)).1 ?_;obtain⟨W,hW⟩:=NX9 (((w.alloc (.cells (dkC d s) 25)).alloc (.cells #[.int .i64 0,.slice none 0 0,.int .i64 0] 142)).alloc (.cells #[.int .i64 0] 36))
 have zW:W.heap.size=w.heap.size+3:=by rw[<-hW];simp
 have HB0:VF w W:=by rw[<-hW];exact(((ah _ w).alloc aj _).alloc (by simp) _).alloc (by simp;omega) _
 have HK:Hid (Bk W w.heap.size 25 (dkC d s)):=by rw[<-hW];exact((Bk.new w _ _).alloc _).alloc _
 have HR1:Hid (Bk W (w.heap.size+1) 142 #[.int .i64 0,.slice none 0 0,.int .i64 0]):=by
  rw[<-hW];have:=Bk.new (w.alloc (.cells (dkC d s) 25)) 142 #[.int .i64 0,.slice none 0 0,.int .i64 0];rw[Z9]at this;exact this.alloc _
 have HR2:Hid (Bk W (w.heap.size+1+1) 36 #[.int .i64 0]):=by
  rw[<-hW];have:=Bk.new ((w.alloc (.cells (dkC d s) 25)).alloc (.cells #[.int .i64 0,.slice none 0 0,.int .i64 0] 142)) 36 #[.int .i64 0];rw[Z9,Z9]at this;exact this
 have HM:Hid (DkM W B d s):=hm.below HB0.o hB;have HC:=ai (Ce d s B W hd hj.n3 HM.o (by omega) (by rw[hpn];simp));have L:=ai (fun w' (h:DkM w' B d s) hb=>Cf s.a1 d.ss.length s.c1 B d.ss w' h.ss hb (by have:=hd.n1;omega));have M:=ai (fun w'=>oZ d s a w' (by have:=hj.n3;omega) hd.n1 hj.act);have N:=ai (fun w'=>sK d s w' (by have:=hj.n3;omega) hd.n1);have HW:=ai hW;have HD:=ai hd;have HJ:=ai hj;have hact:=hj.act;have hn3:=hj.n3;obtain⟨ms,hms⟩:=NX9 (ofL (dF d.sz a))
 have hm0:0<ms.size:=by rw[<-hms,bU];simp[dF,bK]
 have hmb:ms[0].toNat=a:=by
  subst hms;show(dF d.sz a)[0].toNat=a;rcases hact with rfl | rfl <;> rfl
 have hmk:Hid ((flat aF d.ss)[0]? =some (.string ms)):=by
  have:=iJ (enc:=aF) dJ d.ss 0 0 _ hj.mark (by omega);show _=_;rw[<-hms];simpa [aF] using this
 clear hW hm hd hj hms;have hp0:d.pn.length=0:=by rw[hpn];rfl
 obtain⟨n,hn⟩:=NX9 d.ss.length
 have HN:=ai hn;simp only[dkV,dkC,hn,hp0]at HC L HK HW M N hn3 ⊢;clear hn hp0 hpn;refine callsIn_of_wp_marks Tryz.func78 rfl trivial ?_ rfl;simp only[Tryz.ntmps78,List.size_toArray,Z4,List.length_nil,Nat.reduceAdd,Nat.reduceSub,Array.replicate_succ,Array.replicate_zero,List.push_toArray,List.append_toArray,List.nil_append,List.cons_append];obtain⟨k0,k1,k2,k3⟩:=HK.o.dk4
 gi_wp2_with fail
 rw[HW.o];refine⟨trivial,(callsIn_wide.2 HC.o).mono ?_⟩;rintro e w1 ⟨rfl,hb1⟩;obtain⟨k0,k1,k2,k3⟩:=(HK.o.below hb1 (by omega)).dk4;have HB1:=ai hb1;have z1:=hb1.size;clear hb1 HC
 gi_wp2_with fail
 refine⟨trivial,(callsIn_wide.2 (L.o w1 (HM.o.below HB1.o (by omega)) (by omega))).mono ?_⟩;rintro e w2 ⟨A1,c1,rfl,ha1,hb2,hc1,hm1⟩;have HO:∃gb,A1=some ⟨gb,0,none⟩/\w2.ownsRow w1.heap.size 9 1 (.slice (some ⟨gb,0,none⟩) n c1) n (flat aF d.ss):=by
  rcases ha1 with h | ⟨h,_⟩
  . rcases h.2 with ⟨_,h⟩ | ⟨g,cap,cur,hv,_⟩
    . omega
    . cases hv;exact⟨g,rfl,h⟩
  . omega
 obtain⟨gb,rfl,ho⟩:=HO;have HO:=ai ho;obtain⟨hgb,cur,t,T⟩:=qB ho;have dn:Hid (Sl w2 w2.heap.size 1 (some ⟨gb,0,none⟩) n (flat aF d.ss)):=Sl.of_own ho;have x0:w2.cell? ⟨gb,0,none⟩=some (.string ms):=by rw[t.cell];exact T 0 _ hmk.o
 have HB2:VF W w2:=HB1.o.trans (hb2.mono (by omega));have z2:w1.heap.size<=w2.heap.size:=hb2.size;have f:Hid (Bk w2 w.heap.size 25 #[.int .i64 d.sz,.slice s.a1 n s.c1,.slice s.a2 0 s.c2,.int .i64 d.lf]):=HK.o.below HB2.o (by omega);obtain⟨k0,k1,k2,k3⟩:=f.o.dk4;clear ha1 ho t T hb2 hmk L
 gi_wp2_with fail
 gi_loopw [25] (fun i wr=>i= .int .i64 0/\w2=wr) (fun _ _=>0)
 case atStart=>exact⟨rfl,rfl⟩
 case round =>
  obtain⟨rfl,rfl⟩:=hrel;have U:Hid (∀x:VC,Bk (w2.alloc (.cells #[x,.slice none 0 0,.int .i64 0] 142)) w.heap.size 25 #[.int .i64 d.sz,.slice s.a1 n s.c1,.slice s.a2 0 s.c2,.int .i64 d.lf]):=fun x=>f.o.alloc _;obtain⟨v0,hv0⟩:∃v0:Int,v0= ((a:Nat):Int):=⟨_,rfl⟩
  have V:=ai hv0;clear hv0;have hfa:=iO (ss:=d.ss) HJ.o.act (by rw[HN.o];exact hn3);rw[HN.o]at hfa;have O:Hid (fB d.ss a= (d.ss.drop (aG d.ss a)).take (hf d.ss)):=rfl;have X:Hid (frs d.sz (fB d.ss a).flatten=some (rs,u)):=HJ.o.recs;have G:Hid ((fB d.ss a).flatten.length=hf d.ss*d.sz):=by show _=_;rw[yu (jJ HJ.o.len),EY HJ.o.act (by rw[HN.o];exact hn3)]
  obtain⟨st,hst⟩:=NX9 (aG d.ss a)
  obtain⟨h,hh⟩:=NX9 (hf d.ss)
  obtain⟨ar,har⟩:=NX9 (fB d.ss a)
  rw[hst,hh]at hfa O;rw[hh]at G;rw[har]at O X G;have y:=ai (fun w'=>M.o w');have z:=ai (fun w'=>N.o w');rw[hst]at y;rw[hh]at z;clear M N hst hh har;have hn1:n<=1000:=by rw[<-HN.o];exact HD.o.n1
  obtain⟨i0,hi,hz0,hz1,hz2⟩:=info_parts kD;obtain⟨Ak,nO,hsk⟩:=Bd (P:=Tryz.prog) 22 i0 Tryz.underlying22 hi hz1 (some ⟨gb,0,none⟩) n c1 st h (by omega);have hsm:Hid (Sl w2 w2.heap.size 1 Ak h (flat aF ar)):=by
   have:=hsk w2 w2.heap.size _ (by omega) dn.o hfa.1;rw[D7,<-O.o]at this;exact this
  have Hi:=ai hi;have dN:=ai hz0;have ed:=ai hz1;have fA:=ai hz2;have nz:=ai hact;clear hi hz0 hz1 hz2 hsk;have Y: (if st<=c1 then c1 - st else 0)=c1 - st:=by rw[if_pos (by omega)]
  clear Y;obtain⟨q0,q1,q2,q3⟩:=(U.o (.int .i64 1)).dk4;obtain⟨p0,p1,p2,p3⟩:=(U.o (.int .i64 2)).dk4;rcases hact with rfl | rfl
  all_goals
   gi_wp2_with fail
   generalize hW3:w2.alloc _=W3;have HW3:=ai hW3;have HB3:VF w2 W3:=by rw[<-hW3];exact(ah _ w2).alloc aj _
   have z3:W3.heap.size=w2.heap.size+1:=by rw[<-hW3];simp
   have fO:Hid (Bk W3 w2.heap.size 142 #[.int .i64 v0,.slice none 0 0,.int .i64 0]):=by rw[<-hW3,V.o];exact Bk.new w2 _ _
   clear hW3;refine⟨trivial,(callsIn_wide.2 (y.o _)).mono ?_⟩;rintro e w4 ⟨rfl,hb4⟩;have HB4:VF w2 w4:=HB3.o.trans (hb4.mono (by omega));have fU:Hid (Bk w4 w2.heap.size 142 #[.int .i64 v0,.slice none 0 0,.int .i64 0]):=fO.o.below hb4 (by omega);have z4:w2.heap.size+1<=w4.heap.size:=by have:=hb4.size;omega
   obtain⟨k0,k1,k2,k3⟩:=(f.o.below HB4.o f.o.lt).dk4;clear hb4 q0 q1 q2 q3 p0 p1 p2 p3
   gi_wp2_with fail
   refine⟨trivial,(callsIn_wide.2 (z.o _)).mono ?_⟩;rintro e w5 ⟨rfl,hb5⟩;have Q:VF w2 w5:=HB4.o.trans (hb5.mono (by omega));have gu:Hid (Bk w5 w2.heap.size 142 #[.int .i64 v0,.slice none 0 0,.int .i64 0]):=fU.o.below hb5 (by omega);have z5:w2.heap.size+1<=w5.heap.size:=by have:=hb5.size;omega
   obtain⟨k0,k1,k2,k3⟩:=(f.o.below Q.o f.o.lt).dk4;have Z:=ai (QI Ak h (c1 - st) w2.heap.size ar w5 (hsm.o.below Q.o aj) (by omega) (by omega) (by omega) (by rw[G.o];exact ZY (Nat.mul_le_mul (show h<=1000 by omega) HD.o.sz1) (by omega)) (by omega));clear hb5
   gi_wp2_with fail
   refine⟨trivial,(callsIn_wide.2 Z.o).mono ?_⟩;rintro e w6 ⟨rfl,hb6⟩;have ag:VF w2 w6:=Q.o.trans (hb6.mono (by omega));have iU:Hid (Bk w6 w2.heap.size 142 #[.int .i64 v0,.slice none 0 0,.int .i64 0]):=gu.o.below hb6 (by omega);have z6:w2.heap.size+1<=w6.heap.size:=by have:=hb6.size;omega
   obtain⟨k0,k1,k2,k3⟩:=(f.o.below ag.o f.o.lt).dk4;clear hb6 Z z y
   gi_wp2_with fail
   refine⟨trivial,(callsIn_wide.2 (L6 (ofL ar.flatten) d.sz _)).mono ?_⟩;rintro e w7 ⟨rfl,hw7⟩;have hb7:VE w6 w7:=by rw[hw7];exact((ah _ w6).alloc aj _).alloc (by simp) _
   have z7:w7.heap.size=w6.heap.size+2:=by rw[hw7];simp
   have ku:Hid (Bk w7 w6.heap.size 9 #[.string (ofL ar.flatten)]):=by rw[hw7];exact(Bk.new w6 _ _).alloc _
   have kU:Hid (Bk w7 (w6.heap.size+1) 3 #[.int .i64 d.sz]):=by
    rw[hw7];have:=Bk.new (w6.alloc (.cells #[.string (ofL ar.flatten)] 9)) 3 #[.int .i64 d.sz]
    rwa[Z9]at this
   have R:VF W w7:=HB2.o.trans ((ag.o.trans (hb7.mono (by omega))).mono (by omega));have HI0:Hid (JoI w.heap.size w2.heap.size (w7.heap.size+2) v0 w [] none 0 w7):=⟨iU.o.below hb7 (by omega),World.ownsRow_nil _ _ _ _,HR1.o.below R.o (by omega),HR2.o.below R.o (by omega),HB0.o.trans (R.o.mono (by omega)),Nat.le_refl _,ZX _,Int.le_refl _⟩
   have H:Hid (frs d.sz (toL (ofL ar.flatten))=some (rs,u)):=by show _=_;rw[dE];exact X.o
   have au: (ofL ar.flatten).size<=1000000:=by rw[bU,G.o];exact ZY (Nat.mul_le_mul (show h<=1000 by omega) HD.o.sz1) (by omega)
   clear hw7 hb7 k0 k1 k2 k3
   gi_wp2
   refine KE (α:=Fr) (F:=Fence.wide) (n:=6) rfl (by omega) (gf:=221) (lb:=#[.pointer (some ⟨w6.heap.size,0,none⟩),.pointer (some ⟨w6.heap.size+1,0,none⟩)]) rfl trivial (enters_of Tryz.func221 (by kernel_rfl) rfl)
    (ND 5 w6.heap.size (w6.heap.size+1) (w7.heap.size+2) (by omega) (ofL ar.flatten) d.sz w7 au HD.o.sz0 HD.o.sz1 ku.o kU.o) KeepF.trans (fun W l r o' hl hlr=>⟨World.putObj_heap_other (by omega),World.putObj_heap_other (by omega)⟩) (fun W l r o' xs hlr hp=>hp.put hlr) (fun _=>⟨rfl,rfl⟩) (fun A C h hA=>⟨h.block _ (by omega),h.block _ (by omega)⟩) (ah _ _) (fun _=>rfl)
    (fun pre W=>∃A c,JoI w.heap.size w2.heap.size (w7.heap.size+2) v0 w pre A c W) (fun _ _ _=>False)
    ?_ ?_ ?_ ⟨none,0,HI0.o⟩ ?_ ?_ ?_ ?_ ?_
   . rintro pre A C row ⟨j,cq,h⟩ hg hr
     refine⟨j,cq,h.grown hg (fun e=>?_) (fun e=>?_) (fun e=>?_) ?_ (fun k e=>?_)⟩
     . have:=(hr _ e.symm).1;omega
     . have:=(hr _ e.symm).1;omega
     . have:=(hr _ e.symm).1;omega
     . cases hv: (Value.slice j (frL pre).length cq).ownBlock with
       | none=>exact .inl rfl
       | some k =>
         refine .inr fun e=>?_;obtain⟨_,cur,t⟩:=bV h.own hv;obtain⟨_,o,ho,hc⟩:=hr _ e.symm;rw[t]at ho;cases ho;cases hc
     . have:=(hr _ e).1;omega
   . intro c pre A C row h;exact h.elim
   . rintro pre A C ⟨j,cq,h⟩ hb
     exact⟨j,cq,h.below hb⟩
   rotate_left 1
   . intro l x W K hK
     have HKK:=ai hK;clear hK;simp only[frV]
     gi_wp2
     exact HKK.o
   . rintro l pre x W' hP nU ⟨j,cq,hi⟩
     rcases hP pre x rfl with ⟨_,hbad⟩ | ⟨u',he,hs,hcc,hcm,hnl,hl1,hu1,hlen⟩
     . rw[H.o]at hbad;cases hbad
     . have hlz:¬(u':Int)<0:=by omega
       have hfu:frU (pre++ [x])= (u':Int):=by rw[xB,he]
       have hfl:frL (pre++ [x])=frL pre++x.2.1:=xQ _ _;have bf:=ai hfu;have S:=ai hfl;have hsum: (frL pre).length+x.1.2.1<=1000512000:=by rw[hnl,<-af,<-hfl];omega
       have HI:=ai hi;have HS:=ai hs;have hbx:=HI.o.k.lt;obtain⟨c0,c1',c2⟩:=hi.k.three;have f1:=hi.k.free 1;have f2:=hi.k.free 2;have hone:∀v∈flat aF x.2.1,v.oneCell'=true:=by
        intro v hv;unfold flat aF at hv;simp at hv;obtain⟨_,_,rfl⟩:=hv;rfl
       have I:=ai hone;obtain⟨⟨xA,xn,xc⟩,xl,xe⟩:=x;simp only at he hnl hsum hl1 HS I S ⊢;subst he;subst hnl;clear hi hs hP hone hfu hfl
       gi_wp2_with (gi_at_builtin;refine aO ?_)
       refine aH ?_;refine oG (base:=w7.heap.size+2) (size:=1) rfl (.tmp 73) (.tmp 74) 22 rfl 9 i0 _ 16 Tryz.underlying22 Hi.o dN.o ed.o fA.o rfl (by decide) (.slice j (frL pre).length cq) (frL pre).length (flat aF (frL pre)) rfl HI.o.own W'.heap.size xA xl.length xc (flat aF xl) rfl HS.o I.o (by unfold maxLen;omega) (by omega) (by omega) ?_;intro A4 c4 w4 ho hg E J;have hr:∀k,(Value.slice j (frL pre).length cq).ownBlock=some k->w7.heap.size+2<=k/\∃cur,W'.heap[k]? =some (.cells cur 9 (0,0)):=fun k hk=>bV HI.o.own hk;have hlow:∀k,k<w7.heap.size+2->w4.heap[k]? =W'.heap[k]? :=fun k hk=>hg.block k (by omega) (fun e=>by have:=(hr k e.symm).1;omega);have HR:Hid (∀k,k<w7.heap.size+2->w4.heap[k]? =W'.heap[k]?):=hlow;have q:Hid (Bk w4 w2.heap.size 142 #[.int .i64 v0,.slice j (frL pre).length cq,.int .i64 (frU pre)]):=(hlow _ (by omega)).trans HI.o.k;have lg:VF w w4:=HI.o.b.grown hg (by omega) (fun k e=>by have:=(hr k e).1;omega);have bg:Hid (Bk w4 (w.heap.size+1) 142 #[.int .i64 0,.slice none 0 0,.int .i64 0]):=(hlow _ (by omega)).trans HI.o.r1;have bn:Hid (Bk w4 (w.heap.size+1+1) 36 #[.int .i64 0]):=(hlow _ (by omega)).trans HI.o.r2;have hln: (frL (pre++ [((xA,xl.length,xc),xl,(u':Int))])).length= (frL pre).length+xl.length:=by rw[S.o,af]
       have HOW:Hid (w4.ownsRow (w7.heap.size+2) 9 1 (.slice A4 (frL (pre++ [((xA,xl.length,xc),xl,(u':Int))])).length c4) (frL (pre++ [((xA,xl.length,xc),xl,(u':Int))])).length (flat aF (frL (pre++ [((xA,xl.length,xc),xl,(u':Int))])))):=by
        show World.ownsRow _ _ _ _ _ _ _;rw[hln,S.o,bQ];exact ho
       obtain⟨m,hm⟩:=NX9 ((frL pre).length)
       rw[hm]at hln q E hsum ⊢;have bz:=ai hln;have cu:=ai E;have cO:=ai J;have c1':=q.o.cell 1;have c2':=q.o.cell 2;have f1:=q.o.free 1;have f2:=q.o.free 2;simp at c1' c2';have oO:=hg.size;clear ho hg hr hlow c0 c2 hln E J hm
       gi_wp2
       refine⟨⟨?_,?_⟩,⟨?_,?_⟩,A4,c4,?_,?_,?_,?_,?_,?_,?_,?_⟩
       . exact(Z8 _ _ _ _ (by show _≠w2.heap.size;omega)).trans ((Z8 _ _ _ _ (by show _≠w2.heap.size;omega)).trans (HR.o _ (by omega)))
       . exact(Z8 _ _ _ _ (by show _≠w2.heap.size;omega)).trans ((Z8 _ _ _ _ (by show _≠w2.heap.size;omega)).trans (HR.o _ (by omega)))
       . exact(Z8 _ _ _ _ (by show _≠w2.heap.size;omega)).trans ((Z8 _ _ _ _ (by show _≠w2.heap.size;omega)).trans (HR.o _ (by omega)))
       . exact(Z8 _ _ _ _ (by show _≠w2.heap.size;omega)).trans ((Z8 _ _ _ _ (by show _≠w2.heap.size;omega)).trans (HR.o _ (by omega)))
       . rw[bz.o,bf.o]
         have:=(q.o.set 1 (.slice A4 (m+xl.length) c4)).set 2 (.int .i64 (u':Int))
         simpa using this
       . exact jq (jq HOW.o q.o (by decide) 1 _) (q.o.set 1 (.slice A4 (m+xl.length) c4)) (by decide) 2 _
       . exact(bg.o.far (p:=⟨w2.heap.size,1,none⟩) (by show _≠w2.heap.size;omega) _).far (p:=⟨w2.heap.size,2,none⟩) (by show _≠w2.heap.size;omega) _
       . exact(bn.o.far (p:=⟨w2.heap.size,1,none⟩) (by show _≠w2.heap.size;omega) _).far (p:=⟨w2.heap.size,2,none⟩) (by show _≠w2.heap.size;omega) _
       . exact(lg.o.setCell (p:=⟨w2.heap.size,1,none⟩) (by show w.heap.size<=w2.heap.size;omega) _).setCell (p:=⟨w2.heap.size,2,none⟩) (by show w.heap.size<=w2.heap.size;omega) _
       . rw[bz.o];exact cu.o
       . exact cO.o
       . rw[bf.o];omega
   . rintro D xs W' hD hS ⟨j,cq,hi⟩ hK
     have hend:frL xs=rs/\frU xs= (u:Int):=by
      rcases hS with ⟨pre,x,rfl,hx⟩ | ⟨u',hu,hf⟩
      . have:=hi.nn;rw[xB,hx]at this;omega
      . rw[H.o]at hf
        simp only[Option.some.injEq,Prod.mk.injEq]at hf;exact⟨hf.1.symm,by rw[hu,hf.2]⟩
     have HI:=ai hi;have HE:=ai hend;have HK:=ai hK;have hbx:=HI.o.k.lt;obtain⟨c0,c1',c2⟩:=hi.k.three;obtain⟨r0,r1,r2⟩:=hi.r1.three;have g0:=hi.r1.free 0;have g1:=hi.r1.free 1;have g2:=hi.r1.free 2;have e0:=hi.r2.cell 0;have e1:=hi.r2.free 0;simp at e0;clear hi hK hS hend
     gi_wp2
     refine⟨by simp,.inl ⟨_,_,rfl,run_takeDeferred ((Z8 _ _ _ _ (by simp;omega)).trans ((Z8 _ _ _ _ (by simp;omega)).trans ((Z8 _ _ _ _ (by simp;omega)).trans ((Z8 _ _ _ _ (by simp;omega)).trans HK.o)))),?_⟩⟩;obtain⟨Wf,hWf⟩:=NX9 ((((W'.setCell ⟨w.heap.size+1,0,none⟩ (.int .i64 v0)).setCell ⟨w.heap.size+1,1,none⟩ (.slice j (frL xs).length cq)).setCell ⟨w.heap.size+1,2,none⟩ (.int .i64 (frU xs))).setCell ⟨w.heap.size+1+1,0,none⟩ (.int .i64 0))
     have k1:Bk Wf (w.heap.size+1) 142 #[.int .i64 v0,.slice j (frL xs).length cq,.int .i64 (frU xs)]:=by
      rw[<-hWf];have:=(((HI.o.r1.set 0 (.int .i64 v0)).set 1 (.slice j (frL xs).length cq)).set 2 (.int .i64 (frU xs))).far (p:=⟨w.heap.size+1+1,0,none⟩) (by show w.heap.size+1≠w.heap.size+1+1;omega) (.int .i64 0)
      simpa using this
     have k2:Bk Wf (w.heap.size+1+1) 36 #[.int .i64 0]:=by
      rw[<-hWf];have:=(((HI.o.r2.far (p:=⟨w.heap.size+1,0,none⟩) (by show w.heap.size+1+1≠w.heap.size+1;omega) (.int .i64 v0)).far (p:=⟨w.heap.size+1,1,none⟩) (by show w.heap.size+1+1≠w.heap.size+1;omega) (.slice j (frL xs).length cq)).far (p:=⟨w.heap.size+1,2,none⟩) (by show w.heap.size+1+1≠w.heap.size+1;omega) (.int .i64 (frU xs))).set 0 (.int .i64 0)
      simpa using this
     have hbf:VE w Wf:=by
      rw[<-hWf];exact(((HI.o.b.setCell (p:=⟨w.heap.size+1,0,none⟩) (by show w.heap.size<=w.heap.size+1;omega) _).setCell (p:=⟨w.heap.size+1,1,none⟩) (by show w.heap.size<=w.heap.size+1;omega) _).setCell (p:=⟨w.heap.size+1,2,none⟩) (by show w.heap.size<=w.heap.size+1;omega) _).setCell (p:=⟨w.heap.size+1+1,0,none⟩) (by show w.heap.size<=w.heap.size+1+1;omega) _
     have hof:Wf.ownsRow (w7.heap.size+2) 9 1 (.slice j (frL xs).length cq) (frL xs).length (flat aF (frL xs)):=by
      rw[<-hWf];exact jq (jq (jq (jq HI.o.own HI.o.r1 (by decide) 0 _) (HI.o.r1.set 0 _) (by decide) 1 _) ((HI.o.r1.set 0 (.int .i64 v0)).set 1 (.slice j (frL xs).length cq)) (by decide) 2 _)
       (((HI.o.r2.far (p:=⟨w.heap.size+1,0,none⟩) (by show w.heap.size+1+1≠w.heap.size+1;omega) (.int .i64 v0)).far (p:=⟨w.heap.size+1,1,none⟩) (by show w.heap.size+1+1≠w.heap.size+1;omega) (.slice j (frL xs).length cq)).far (p:=⟨w.heap.size+1,2,none⟩) (by show w.heap.size+1+1≠w.heap.size+1;omega) (.int .i64 (frU xs))) (by decide) 0 _
     have lq:Wf.heap[D]? =some (.deferred (some [])):=by
      rw[<-hWf];exact(Z8 _ _ _ _ (by simp;omega)).trans ((Z8 _ _ _ _ (by simp;omega)).trans ((Z8 _ _ _ _ (by simp;omega)).trans ((Z8 _ _ _ _ (by simp;omega)).trans HK.o)))
     rw[hWf];have hop:=jc (W':=Wf.putObj D (.deferred none)) hof (fun k hk=>World.putObj_heap_other (fun e=>by
      subst e;obtain⟨_,cur,h2⟩:=bV hof hk;rw[lq]at h2;cases h2))
     refine⟨_,Uf rfl rfl rfl ((World.putObj_heap_other (by omega)).trans k1) ((World.putObj_heap_other (by omega)).trans k2),j,cq,?_,?_,?_,HI.o.c2,?_⟩
     . rw[HE.o.1,HE.o.2,V.o]
     . rw[<-HE.o.1];exact Sl.of_own hop
     . rw[<-HE.o.1];exact HI.o.c1
     . exact hbf.grown (grownBy_putObj' _ _ _) (by have:=hbf.size;simpa using this) (fun k e=>by cases e;omega)
   . intro D c pre W _ _ h;exact h.elim
end
theorem LD{s:VB}{T:VD}(h:s=ofL T)(a b:Nat):s.extract a b=ofL ((T.drop a).take (b - a)):=by
 subst h;rcases Nat.le_total a b with hab | hab
 . have:=vP (ofL T) a (b - a)
   rw[Nat.add_sub_cancel' hab,dE]at this;exact this
 . rw[Nat.sub_eq_zero_of_le hab,List.take_zero]
   apply ByteArray.ext
   apply Array.toList_inj.1
   show((ofL T).extract a b).data.toList= []
   rw[mG,Nat.sub_eq_zero_of_le hab,List.take_zero]
def zN(l:List VD)(sz:Nat)(w:VA)(e:Ending)(w':VA):Prop:=VE w w'/\if fC l=true/\l≠ [] then
  ∃A c,e= .returned (.tuple #[.slice A (secs sz (aB l)).length c,.int .i64 0])/\w'.ownsRow w.heap.size 9 1 (.slice A (secs sz (aB l)).length c) (secs sz (aB l)).length (flat aF (secs sz (aB l)))/\ (secs sz (aB l)).length<=c/\c<=maxLen
 else e= .returned (.tuple #[.slice none 0 0,.int .i64 (gm l).2])
theorem BH{sz:Nat}(hz:0<sz)(T:VD): (secs sz T).length<=T.length:=by
 rw[(mV hz _ T aj).1];unfold nsec;rcases Nat.eq_zero_or_pos T.length with h | h
 . rw[h,Nat.div_eq_of_lt (by omega)];omega
 . exact Nat.div_le_of_le_mul (by have:=Nat.mul_le_mul_right T.length (show 1<=sz from hz);rw[show sz*T.length= (sz - 1)*T.length+T.length by rw[<-Nat.succ_mul];congr 1;omega];have h2:=Nat.mul_le_mul_left (sz - 1) h;omega)
theorem AA(A:OA)(n c B sz:Nat)(l:List VD)(w:VA)(h:Sl w B 1 A n (flat aF l))(hB:B<=w.heap.size)(hn:n<=maxLen)(hz0:0<sz)(hz1:sz<=512) :
  Calls Tryz.prog 109 #[.slice A n c,.int .i64 sz] w (zN l sz w):=by
 have HL:=ai (h.len dJ (by omega));have HP:=ai (J7 A n c B l w h hB hn);have HR1:Hid (∀e w',fC l=true->l≠ []->VE w w'-> (∃A c,e= .returned (.tuple #[.slice A (secs sz (aB l)).length c,.int .i64 0])/\w'.ownsRow w.heap.size 9 1 (.slice A (secs sz (aB l)).length c) (secs sz (aB l)).length (flat aF (secs sz (aB l)))/\ (secs sz (aB l)).length<=c/\c<=maxLen)->zN l sz w e w'):=fun e w' h1 h2 h3 h4=>⟨h3,by rw[if_pos ⟨h1,h2⟩];exact h4⟩
 have HR2:Hid (∀e w',¬(fC l=true/\l≠ [])->VE w w'->e= .returned (.tuple #[.slice none 0 0,.int .i64 (gm l).2])->zN l sz w e w'):=fun e w' h1 h2 h3=>⟨h2,by rw[if_neg h1];exact h3⟩
 unfold maxLen at hn;by_cases hf:fC l=true
 . have hpt:gm l= (bY l,0):=by rw[gm,if_pos hf]
   have u:=fitB_iff.1 hf;have hle:=pR u;rw[hpt]at HP;unfold uT at HP;simp only at HP;have s:=ai hpt;have HF:=ai hf;clear h hpt u;by_cases hn0:n=0
   . subst hn0
     have hl0:l= []:=List.length_eq_zero_iff.1 HL.o;have E:=ai hl0;clear hl0 hf
     go_enter Tryz.func109,Tryz.ntmps109
     go_wp2_with fail;refine HP.o.mono ?_;rintro e w1 ⟨rfl,hb1⟩;have HB1:=ai hb1;clear hb1 HP
     go_wp2
     go_ret2
     exact HR2.o _ _ (fun h=>h.2 E.o) HB1.o (by rw[s.o];rfl)
   . have o:l≠ []:=by intro h;rw[h]at HL;exact hn0 HL.o.symm
     have F:=ai o;have hni:¬((n:Int)=0):=by omega
     have b:Hid ((ofL [1]++ofL (ak (bY l).length))++ofL (bY l)=ofL (aB l)):=by
      show _=_;rw[qo,qo];rfl
     have y:=fK (n:=(bY l).length) (by omega);have z:Hid ((aB l).length<=65600000):=by
      show _<=_;simp only[aB,Z4,af];omega
     obtain⟨i0,hi,p,q,r⟩:=info_parts kD;have Hi:=ai hi;have G:=ai p;have H:=ai q;have I:=ai r;clear hi p q r o hf;have j:=ai (fun w'=>rQ (bY l).length (by omega) w');have hs1: (ofL (bY l)).size= (bY l).length:=bU _;have hs2: (ofL (ak (bY l).length)).size<=6:=by rw[bU];exact y
     obtain⟨t1,ht1⟩:=NX9 (ofL (bY l))
     obtain⟨t2,ht2⟩:=NX9 (ofL (ak (bY l).length))
     rw[ht1,ht2]at b;rw[ht1]at hs1 HP;rw[ht2]at hs2 j;rw[<-hs1]at hle j;have hs3: (ofL [1]).size=1:=bU _;have hb1:¬(9223372036854775807< (ofL [1]).size+t2.size):=by omega
     have hb2:¬(9223372036854775807< (ofL [1]++t2).size+t1.size):=by rw[ByteArray.size_append];omega
     rw[show ofL [1]= (⟨#[1]⟩:VB) from rfl]at b hb1 hb2;clear ht1 ht2 hs1 hs3 y;obtain⟨T,hT⟩:=NX9 (aB l)
     obtain⟨tx,htx⟩:=NX9 (((⟨#[1]⟩:VB)++t2)++t1)
     rw[htx]at b;rw[hT]at b z;have J:=ai hT;have hts:tx.size=T.length:=by rw[b.o,bU]
     have htl:T.length<=65600000:=z.o;have K:=ai htx;clear hT htx
     go_enter Tryz.func109,Tryz.ntmps109
     go_wp2_with fail;refine HP.o.mono ?_;rintro e w1 ⟨rfl,hb1⟩;have HB1:=ai hb1;clear hb1 HP;go_wp2_with fail;refine(j.o _).mono ?_;rintro e w2 ⟨rfl,hb2⟩;have HB2:VF w w2:=HB1.o.trans (hb2.mono HB1.o.size);clear hb2 j;go_wp2_with fail;rw[K.o]
     go_loopw[10,11] (fun v i wr=>∃(a:Nat)(d:List VD)(A':OA)(c':Nat),i= .int .i64 a/\a<=T.length+512/\d.length<=a/\v= .slice A' d.length c'/\Hid (secs sz T=d++secs sz (T.drop a))/\Hid (wr.ownsRow w.heap.size 9 1 (.slice A' d.length c') d.length (flat aF d))/\d.length<=c'/\c'<=maxLen/\VF w wr) (fun _ i _=>T.length+512 - (intOf i).toNat)
     case atStart=>exact⟨0,[],none,0,rfl,ZX _,Nat.le_refl _,rfl,by show _=_;simp,World.ownsRow_nil _ _ _ _,Nat.le_refl _,ZX _,HB2.o⟩
     case round =>
      obtain⟨a,dd,A',c',rfl,ha,L,rfl,hS,hO,hdc,hcm,hBel⟩:=hrel;by_cases hlt:a<T.length
      . have hlz: (a:Int)< (tx.size:Int):=by omega
        have hsc:Hid (secs sz T= (dd++ [bK sz ((T.drop a).take sz)])++secs sz (T.drop (a+sz))):=by
         show _=_;rw[hS.o,wO hz0 (by intro h;have:=congrArg List.length h;rw[List.length_drop]at this;simp at this;omega),List.drop_drop];simp
        obtain⟨hi,hhi,O⟩:∃hi:Nat,hi=min (a+sz) T.length/\min ((a:Int)+ (sz:Int)) (T.length:Int)= (hi:Int):=⟨_,rfl,by omega⟩
        have hex:tx.extract a hi=ofL ((T.drop a).take sz):=by
         rw[LD b.o]
         congr 1
         rw[hhi];rcases Nat.le_total (a+sz) T.length with h | h
         . rw[Nat.min_eq_left h,Nat.add_sub_cancel_left]
         . rw[Nat.min_eq_right h,ZU (by rw[List.length_drop];omega),ZU (by rw[List.length_drop];omega)]
        have C:=ai (fun w'=>oW ((T.drop a).take sz) sz w' (by rw[List.length_take];omega) hz1);rw[<-hex]at C;have hhi1: (hi:Int)<= (T.length:Int):=by omega
        have hhi2: (a:Int)<= (hi:Int):=by omega
        have hpl: (bK sz ((T.drop a).take sz)).length=sz:=iQ (by rw[List.length_take];omega);clear hS hex hhi;go_wp2_with fail;refine(C.o _).mono ?_;rintro e w3 ⟨rfl,hb3⟩;have D:Hid (w3.ownsRow w.heap.size 9 1 (.slice A' dd.length c') dd.length (flat aF dd)):=gQ hO.o hb3;have HB3:VF w w3:=hBel.o.trans (hb3.mono hBel.o.size);obtain⟨v,hv⟩:=NX9 (ofL (bK sz ((T.drop a).take sz)))
        have HV:Hid (flat aF (dd++ [bK sz ((T.drop a).take sz)])=flat aF dd++ [.string v]):=by show _=_;rw[bQ,<-hv];rfl
        have hv1:∀x∈ [(Value.string v)],x.oneCell'=true:=fun x hx=>by rw[List.mem_singleton.1 hx];rfl
        have k:Hid ((w3.alloc (.cells #[.string v] 9)).ownsRow w.heap.size 9 1 (.slice A' dd.length c') dd.length (flat aF dd)):=D.o.alloc _;have z3:=HB3.o.size;have hln: (dd++ [bK sz ((T.drop a).take sz)]).length=dd.length+1:=by simp
        have f:=ai hln;rw[hv];obtain⟨m,hm⟩:=NX9 dd.length
        rw[hm]at k f L hdc ⊢;clear hb3 hv hln hm hO D
        go_wp2_with (at_builtin;refine aO ?_)
        refine aH ?_;refine jV (base:=w.heap.size) (size:=1) _ rfl (.tmp 45) (.tmp 57) 22 rfl 9 i0 _ 16 Tryz.underlying22 Hi.o G.o H.o I.o rfl (by decide) (.slice A' m c') m (flat aF dd) (by rfl) k.o (w3.heap.size+1) (some ⟨w3.heap.size,0,none⟩) 1 1 [.string v] (by rfl) (Sl.new w3 9 [.string v] 1 rfl) hv1 (by unfold maxLen;omega) (by omega) (by simp;omega) ?_;intro A4 c4 w4 t hg4 hc4 hm4;rw[<-HV.o]at t;have M:=ai t;have HB4:VF w w4:=(HB3.o.alloc (by omega) _).grown hg4 (by simp;omega) (fun g hg=>jF k.o g hg);have N:=ai hm4;clear t hg4 hm4 k hv1;go_wp2_with fail;go_roundw
        case rel=>exact⟨a+sz,_,A4,c4,by go_num,by omega,by rw[f.o];omega,by rw[f.o],hsc.o,by rw[f.o];exact M.o,by rw[f.o];exact hc4,N.o,HB4.o⟩
        case measure=>simp[intOf];omega
      . have hlz:¬(a:Int)< (tx.size:Int):=by omega
        have hfin:Hid (secs sz (aB l)=dd):=by
         show _=_;rw[J.o,hS.o,List.drop_of_length_le (by omega),FO,List.append_nil]
        clear hS;have HCM:=ai hcm;clear hcm
        go_wp2
        go_ret2
        exact HR1.o _ _ HF.o F.o hBel.o ⟨A',c',by rw[hfin.o];first | done | rfl,by rw[hfin.o];exact hO.o,by rw[hfin.o];exact hdc,HCM.o⟩
 . have hpt:gm l= ([],4):=by rw[gm,if_neg hf]
   rw[hpt]at HP;have s:=ai hpt;have HF:=ai hf;clear h hpt hf
   go_enter Tryz.func109,Tryz.ntmps109
   go_wp2_with fail;refine HP.o.mono ?_;rintro e w1 ⟨rfl,hb1⟩;have HB1:=ai hb1;clear hb1 HP
   go_wp2
   go_ret2
   exact HR2.o _ _ (fun h=>HF.o h.1) HB1.o (by rw[s.o];rfl)
theorem OY(o x:VD)(w:VA):Calls Tryz.prog 171 #[.string (ofL o),.string (ofL x)] w fun e w'=>e= .returned (.string (ofL x))/\w=w':=by
 go_enter Tryz.func171,Tryz.ntmps171
 go_wp2
 go_ret
 exact⟨rfl,rfl⟩
def lh(x:Int):List VC:= [.int .i64 x]
theorem Qu(x:Int): (lh x).length=1:=rfl
structure vk(sz:Nat)(qs:List Int)(nb pb db:Nat)(A:OA)(c:Nat)(x1 x2 x3:VC)(k:Nat)(w:VA):Prop where
 n:Bk w nb 3 #[.int .i64 (min k qs.length:Nat)]
 p:Bk w pb 59 #[.slice A qs.length c]
 d:Bk w db 25 #[.int .i64 sz,x1,x2,x3]
 s:Sl w nb 1 A qs.length (flat lh qs)
theorem xx(sz:Nat)(p:Int):iF sz p<=sz:=by
 unfold iF;have:=Int.natAbs_tmod p (sz+1:Nat);rw[this];have:=Nat.mod_lt p.natAbs (show 0< ((sz+1:Nat):Int).natAbs by omega);omega
theorem QS(sz:Nat)(p:Int)(h:sz<=512):max (p.tmod ((sz:Int)+1)) (wrap64 (-p.tmod ((sz:Int)+1)))= ((iF sz p:Nat):Int):=by
 have hl:=xx sz p;unfold iF at hl ⊢;have e: (((sz+1:Nat)):Int)= (sz:Int)+1:=by omega
 rw[e]at hl ⊢;generalize p.tmod ((sz:Int)+1)=t at *;unfold wrap64;omega
theorem Gg(x:VD)(i j:Nat): (ofL x).extract i j=ofL ((x.drop i).take (j - i)):=by
 unfold ofL;apply ByteArray.ext
 simp[ByteArray.data_extract]
theorem Uc{w:VA}{b:Nat}{t:TypeId}{x:VC}(h:Bk w b t #[x])(y:VC):Bk (w.setCell ⟨b,0,none⟩ y) b t #[y]:=by
 have:=h.set 0 y
 simpa using this
theorem Gb.dN{p:Nat->Prop}{a b:VA}(h:Gb p a b)(n:Nat):Gb p a (b.drewN n):=⟨h.os,h.tape,h.output,h.size,h.block⟩
theorem PD{q:Nat}{x:VD}: (ofL x).extract 0 q=ofL (x.take q):=by rw[Gg];simp
theorem Eo{q sz:Nat}{x:VD}(hx:x.length=sz): (ofL x).extract q sz=ofL (x.drop q):=by rw[Gg,ZU (by rw[List.length_drop];omega)]
theorem Qp(sz:Nat)(qs:List Int)(nb pb db:Nat)(A:OA)(c:Nat)(x1 x2 x3:VC)(k:Nat)(o x:VD)(w:VA)(h:vk sz qs nb pb db A c x1 x2 x3 k w)(hz:sz<=512)(hq:qs.length<=1000000)(ho:o.length=sz)(hx:x.length=sz)(h1:nb≠pb)(h2:nb≠db) :
  Calls Tryz.prog 60 #[.string (ofL o),.string (ofL x),.pointer (some ⟨nb,0,none⟩),.pointer (some ⟨pb,0,none⟩),.pointer (some ⟨db,0,none⟩)] w fun e w'=>e= .returned (.string (ofL (x.take (iF sz (qs.getD k 0))++o.drop (iF sz (qs.getD k 0)))))/\vk sz qs nb pb db A c x1 x2 x3 (k+1) w'/\Gb (fun b=>b=nb) w w':=by
 have H:=ai h;have n0:=h.n.cell 0;have nf:=h.n.free 0;have p0:=h.p.cell 0;have d0:=h.d.cell 0;simp at n0 p0 d0;have j: ((ofL o).size:Int)=sz:=by rw[bU,ho]
 have hxz: ((ofL x).size:Int)=sz:=by rw[bU,hx]
 have g: (ofL o).size=sz:=by rw[bU,ho]
 have i: (ofL x).size=sz:=by rw[bU,hx]
 clear h;obtain⟨m,hm⟩:=NX9 qs.length
 have HM:=ai hm;rw[hm]at n0 p0 hq;clear hm
 go_enter Tryz.func60,Tryz.ntmps60
 by_cases hk:k<m
 . have a:min k m=k:=by omega
   rw[a]at n0;clear a;obtain⟨b,off,p,hA,hb,hp,hc⟩:=H.o.s.at_ Qu (by omega) (by rw[HM.o];exact hk);have y0:=hc 0 _ rfl;simp only[Nat.mul_one,Nat.add_zero]at y0;rw[hA]at p0;have hpk:Hid (qs.getD k 0=p):=by show _=_;rw[List.getD_eq_getElem?_getD,hp];rfl
   clear hc hp;go_wp2_with fail
   go_quiet(fail)
   go_wp2_with fail;rw[QS sz p hz];obtain⟨q,hqq⟩:=NX9 (iF sz p)
   have f:=xx sz p;rw[hqq]at f ⊢;have HQ:=ai hqq;clear hqq;have hqi: (q:Int)<= (sz:Int):=by omega
   go_quiet(fail)
   go_wp2_with fail;go_ret
   refine⟨?_,⟨?_,((H.o.p.drewN _).far (p:=⟨nb,0,none⟩) h1.symm _).drewN _,((H.o.d.drewN _).far (p:=⟨nb,0,none⟩) h2.symm _).drewN _,((H.o.s.drewN _).setCell (p:=⟨nb,0,none⟩) aj _).drewN _⟩,?_⟩
   . rw[hpk.o,HQ.o,<-qo,<-PD,<-Eo ho];rfl
   . rw[HM.o,show min (k+1) m=k+1 by omega]
     exact(Uc (H.o.n.drewN _) _).drewN _
   . exact(((Gb.refl _ w).dN _).trans (Gb.set (p:=fun b=>b=nb) rfl 0 _)).dN _
 . have a:min k m=m:=by omega
   rw[a]at n0;clear a;have hpk:Hid (iF sz (qs.getD k 0)=0):=by
    show _=_;rw[List.getD_eq_getElem?_getD,List.getElem?_eq_none (by rw[HM.o];omega)];unfold iF;simp
   have h00: (0:Int)<= (sz:Int):=by omega
   go_wp2_with fail
   go_quiet(fail)
   go_wp2_with fail;go_ret
   refine⟨?_,⟨?_,H.o.p.drewN _,H.o.d.drewN _,H.o.s.drewN _⟩,?_⟩
   . rw[hpk.o,List.take_zero,List.nil_append,<-Eo ho];rfl
   . have:=H.o.n
     rw[HM.o,show min k m=m by omega]at this;rw[HM.o,show min (k+1) m=m by omega];exact this.drewN _
   . exact(Gb.refl _ w).dN _
theorem O7(d:Dk)(s:Dsl)(B:Nat)(w:VA)(hd:d.Ok)(hm:DkM w B d s)(hB:B<=w.heap.size)(hp:d.pn.length<=900000) :
  Calls Tryz.prog 100 #[dkV d s] w (bG (if d.lf=0 then d else doO d none) (if d.lf=0 then 20 else 0) w):=by
 obtain⟨W,hW⟩:=NX9 ((w.alloc (.cells (dkC d s) 25)).alloc (.cells #[.int .i64 0,.slice none 0 0,.slice none 0 0,.int .i64 0] 25))
 have HB0:VF w W:=by rw[<-hW];exact((ah _ w).alloc aj _).alloc (by simp) _
 have HK:Hid (Bk W w.heap.size 25 (dkC d s)):=by rw[<-hW];exact(Bk.new w _ _).alloc _
 have HZ:Hid (Bk W (w.heap.size+1) 25 #[.int .i64 0,.slice none 0 0,.slice none 0 0,.int .i64 0]):=by
  rw[<-hW];have:=Bk.new (w.alloc (.cells (dkC d s) 25)) 25 #[.int .i64 0,.slice none 0 0,.slice none 0 0,.int .i64 0]
  rwa[Z9]at this
 have v:W.heap.size=w.heap.size+2:=by rw[<-hW];simp
 have HM:Hid (DkM W B d s):=hm.below HB0.o hB;have m:=ai hm;have HC:=ai (rV d s B W hd HM.o (by omega) (by omega));have HD:=ai hd;have HST:Hid (∀W1,VE W W1->Calls Tryz.prog 59 #[dkV d s,.func (.func 171) #[] #[]] W1 fun e w'=>∃s',e= .returned (.agg #[.int .i64 d.sz,.slice s'.a1 (settle d.ss d.pn).length s'.c1,.slice s'.a2 0 s'.c2,.int .i64 d.lf])/\DkM w' w'.heap.size {d with ss:=settle d.ss d.pn,pn:= []} s'/\VE W1 w'):=fun W1 h1=>by
  have hz1:=h1.size;have:=BC d s B 171 #[] (fun _ _ x=>x) w.heap.size (fun _ W2=>W2.heap[w.heap.size]? =W1.heap[w.heap.size]?) W1 hd (HM.o.below h1 (by omega)) (by omega) (by omega) (by omega)
   ⟨.inl ⟨rfl,rfl⟩,by omega,fun k o x W2 hi _ _=>(OY o x W2).mono (by rintro e w' ⟨rfl,rfl⟩;exact⟨rfl,hi,Gb.refl _ _⟩),fun _ _ _ _ h=>h,fun _ W2 W3 hi _ hb=>(hb.block _ (by omega)).trans hi⟩ rfl
  rw[BP]at this;refine this.mono ?_;rintro e w' ⟨s',rfl,h2,h3,h4⟩;exact⟨s',rfl,h2,h3.os,h3.tape,h3.output,h3.size,fun i hi=>by
   by_cases e:i=w.heap.size
   . rw[e];exact h4
   . exact h3.block i hi e⟩
 obtain⟨lf,hlf⟩:=NX9 d.lf
 have hl1:=hd.lf;have hl2:=hd.lm;have j:=ai hlf;obtain⟨n2,hn2⟩:=NX9 ((settle d.ss d.pn).length)
 have n:=ai hn2;have HW:=ai hW;have u:Hid (∀(w':VA) s',DkM w' w'.heap.size {d with ss:=settle d.ss d.pn,pn:= [],lf:=lf} s'->DkM w' w'.heap.size (doO d none) s'):=fun _ _ h=>by rw[<-hlf]at h;rw[doO];exact⟨h.ss,h.pn⟩
 simp only[dkV,dkC,hlf,hn2]at HC HW HK HST hl1 hl2 ⊢;clear hd hm hW hlf hn2;by_cases h0:lf=0
 . subst h0
   simp only[if_true];obtain⟨D,hD⟩:=NX9 (bG d 20 w)
   have f:=ai hD;rw[hD];clear hD
   go_enter Tryz.func100,Tryz.ntmps100
   go_wp2_with fail;rw[HW.o];refine HC.o.mono ?_;rintro e w2 ⟨rfl,hb2⟩;have HB2:VF W w2:=hb2;have b:=ai (HK.o.below HB2.o (by omega));have HZ2:=ai (HZ.o.below HB2.o (by omega));obtain⟨k0,k1,k2,k3⟩:=b.o.dk4;obtain⟨z0,z1,z2,z3⟩:=HZ2.o.dk4;obtain⟨f0,f1,f2,f3⟩:=fr4 HZ2.o;clear hb2 HC;go_wp2_with fail;have HE:=ai (HZ2.o.set4 (.int .i64 d.sz) (.slice s.a1 d.ss.length s.c1) (.slice s.a2 d.pn.length s.c2) (.int .i64 0));refine ZW (gU Tryz.results100 rfl HE.o rfl) rfl ?_;rw[<-f.o];have hbw:=eu (HB0.o.trans (HB2.o.mono (by omega))) (show w.heap.size<=w.heap.size+1 by omega) (.int .i64 d.sz) (.slice s.a1 d.ss.length s.c1) (.slice s.a2 d.pn.length s.c2) (.int .i64 0);exact⟨s,by simp only[dkV,dkC,j.o];rfl,(m.o.below hbw hB).more (by have:=hbw.size;omega),hbw⟩
 . have hln: (lf == 0)=false:=by simpa using h0
   simp only[if_neg h0];obtain⟨D,hD⟩:=NX9 (bG (doO d none) 0 w)
   have f:=ai hD;rw[hD];have HL:=ai (fun W=>D8 lf W hl1 hl2);clear hD h0
   go_enter Tryz.func100,Tryz.ntmps100
   go_wp2_with fail;rw[HW.o];refine HC.o.mono ?_;rintro e w1 ⟨rfl,hb1⟩;have HB1:VF W w1:=hb1;obtain⟨k0,k1,k2,k3⟩:=(HK.o.below hb1 (by omega)).dk4;have g0:=(HK.o.below hb1 (by omega)).free 0;clear hb1 HC;go_wp2_with fail;refine(HST.o w1 HB1.o).mono ?_;rintro e w2 ⟨s',rfl,hm2,hb2⟩;have q:=ai hm2;have HB2:VF W w2:=HB1.o.trans (hb2.mono HB1.o.size);have b:=ai (HK.o.below HB2.o (by omega));have HZ2:=ai (HZ.o.below HB2.o (by omega));obtain⟨k0,k1,k2,k3⟩:=b.o.dk4;obtain⟨z0,z1,z2,z3⟩:=HZ2.o.dk4;obtain⟨e0,e1,e2,e3⟩:=fr4 b.o;obtain⟨f0,f1,f2,f3⟩:=fr4 HZ2.o;clear hm2 hb2 HST g0;go_wp2_with fail;obtain⟨W5,a⟩:=NX9 ((((w2.setCell ⟨w.heap.size,0,none⟩ (.int .i64 d.sz)).setCell ⟨w.heap.size,1,none⟩ (.slice s'.a1 n2 s'.c1)).setCell ⟨w.heap.size,2,none⟩ (.slice s'.a2 0 s'.c2)).setCell ⟨w.heap.size,3,none⟩ (.int .i64 lf))
   have g:Hid (Bk W5 w.heap.size 25 #[.int .i64 d.sz,.slice s'.a1 n2 s'.c1,.slice s'.a2 0 s'.c2,.int .i64 lf]):=by rw[<-a];exact b.o.set4 _ _ _ _
   have c:Hid (Bk W5 (w.heap.size+1) 25 #[.int .i64 0,.slice none 0 0,.slice none 0 0,.int .i64 0]):=by
    rw[<-a];have hne:w.heap.size+1≠w.heap.size:=by omega
    exact(((HZ2.o.far (p:=⟨w.heap.size,0,none⟩) hne _).far (p:=⟨w.heap.size,1,none⟩) hne _).far (p:=⟨w.heap.size,2,none⟩) hne _).far (p:=⟨w.heap.size,3,none⟩) hne _
   have r:Hid (DkM W5 w2.heap.size {d with ss:=settle d.ss d.pn,pn:= [],lf:=lf} s'):=by rw[<-a];exact q.o.box b.o _ _ _ _
   have t:VF w W5:=by rw[<-a];exact eu (HB0.o.trans (HB2.o.mono (by omega))) aj _ _ _ _
   have z5:w2.heap.size=W5.heap.size:=by rw[<-a];simp
   rw[a];clear a k0 k1 k2 k3 z0 z1 z2 z3 e0 e1 e2 e3 f0 f1 f2 f3;obtain⟨k0,k1,k2,k3⟩:=g.o.dk4;obtain⟨z0,z1,z2,z3⟩:=c.o.dk4;have e3:=g.o.free 3;obtain⟨f0,f1,f2,f3⟩:=fr4 c.o;refine(HL.o _).mono ?_;rintro e w5 ⟨rfl,rfl⟩;go_wp2_with fail;have hne:w.heap.size+1≠w.heap.size:=by omega
   have HE:=ai ((c.o.far (p:=⟨w.heap.size,3,none⟩) hne (.int .i64 (fP lf))).set4 (.int .i64 d.sz) (.slice s'.a1 n2 s'.c1) (.slice s'.a2 0 s'.c2) (.int .i64 (fP lf)));refine ZW (gU Tryz.results100 rfl HE.o rfl) rfl ?_;rw[<-f.o];have l:=(r.o.box1 g.o 3 (.int .i64 (fP lf))).box (c.o.far (p:=⟨w.heap.size,3,none⟩) hne (.int .i64 (fP lf))) (.int .i64 d.sz) (.slice s'.a1 n2 s'.c1) (.slice s'.a2 0 s'.c2) (.int .i64 (fP lf));refine⟨s',?_,?_,eu (t.o.setCell (p:=⟨w.heap.size,3,none⟩) aj _) (by omega) _ _ _ _⟩
   . simp only[dkV,dkC,doO,j.o,n.o];rfl
   . exact⟨l.ss.more (by simp;omega),l.pn.more (by simp;omega)⟩
def OpV(w:VA)(B:Nat)(v:VC):Dop->Prop
 | none=>v= .func (.func 100) #[] #[]
 | some x=>∃b1 b2,b1<B/\b2<B/\v= .func (.func 169) #[] #[.pointer (some ⟨b1,0,none⟩),.pointer (some ⟨b2,0,none⟩)]/\Bk w b1 3 #[.int .i64 x.1]/\Bk w b2 9 #[.string (ofL x.2)]
theorem OpV.below{w w':VA}{B B':Nat}{v:VC}{o:Dop}(h:OpV w B v o)(hb:Below B' w w')(hB:B<=B'):OpV w' B v o:=by
 cases o with
 | none=>exact h
 | some x =>
   obtain⟨b1,b2,h1,h2,e,k1,k2⟩:=h;exact⟨b1,b2,h1,h2,e,k1.below hb (by omega),k2.below hb (by omega)⟩
theorem OpV.more{w:VA}{B B':Nat}{v:VC}{o:Dop}(h:OpV w B v o)(hB:B<=B'):OpV w B' v o:=by
 cases o with
 | none=>exact h
 | some x =>
   obtain⟨b1,b2,h1,h2,e⟩:=h;exact⟨b1,b2,by omega,by omega,e⟩
structure OpsM(w:VA)(B:Nat)(A:OA)(n:Nat)(vs:List VC)(os:List Dop):Prop where
 sl:Sl w B 1 A n vs
 len:os.length=n
 op:∀(i:Nat) v o,vs[i]? =some v->os[i]? =some o->OpV w B v o
theorem OpsM.below{w w':VA}{B B':Nat}{A:OA}{n:Nat}{vs:List VC}{os:List Dop}(h:OpsM w B A n vs os)(hb:Below B' w w')(hB:B<=B'):OpsM w' B A n vs os:=⟨h.sl.below hb hB,h.len,fun i v o hv ho=>(h.op i v o hv ho).below hb hB⟩
theorem mP(i:Nat)(x:VD)(w:VA):Calls Tryz.prog 98 #[.int .i64 i,.string (ofL x)] w fun e w'=>∃v,e= .returned v/\OpV w' w'.heap.size v (some (i,x))/\VE w w':=by
 obtain⟨W,hW⟩:=NX9 ((w.alloc (.cells #[.int .i64 i] 3)).alloc (.cells #[.string (ofL x)] 9))
 have HB:VF w W:=by rw[<-hW];exact((ah _ w).alloc aj _).alloc (by simp) _
 have a:Hid (Bk W w.heap.size 3 #[.int .i64 i]):=by rw[<-hW];exact(Bk.new w _ _).alloc _
 have b:Hid (Bk W (w.heap.size+1) 9 #[.string (ofL x)]):=by
  rw[<-hW];have:=Bk.new (w.alloc (.cells #[.int .i64 i] 3)) 9 #[.string (ofL x)]
  rwa[Z9]at this
 have HW:=ai hW;clear hW
 go_enter Tryz.func98,Tryz.ntmps98
 go_wp2_with fail;rw[HW.o];go_ret
 exact⟨_,rfl,⟨w.heap.size,w.heap.size+1,a.o.lt,b.o.lt,rfl,a.o,b.o⟩,HB.o⟩
theorem Rz(d:Dk)(s:Dsl)(B i b1 b2:Nat)(x:VD)(w:VA)(hd:d.Ok)(hm:DkM w B d s)(hB:B<=w.heap.size)(hp:d.pn.length<=900000)(hi:i<d.ss.length)(hx:x.length=d.sz)(k1:Bk w b1 3 #[.int .i64 i])(k2:Bk w b2 9 #[.string (ofL x)]) :
  Calls Tryz.prog 169 #[dkV d s,.pointer (some ⟨b1,0,none⟩),.pointer (some ⟨b2,0,none⟩)] w (bG (if d.lf=0 then d else doO d (some (i,x))) (if d.lf=0 then 20 else 0) w):=by
 obtain⟨W,hW⟩:=NX9 ((w.alloc (.cells (dkC d s) 25)).alloc (.cells #[.int .i64 0,.slice none 0 0,.slice none 0 0,.int .i64 0] 25))
 have HB0:VF w W:=by rw[<-hW];exact((ah _ w).alloc aj _).alloc (by simp) _
 have HZ:Hid (Bk W (w.heap.size+1) 25 #[.int .i64 0,.slice none 0 0,.slice none 0 0,.int .i64 0]):=by
  rw[<-hW];have:=Bk.new (w.alloc (.cells (dkC d s) 25)) 25 #[.int .i64 0,.slice none 0 0,.slice none 0 0,.int .i64 0]
  rwa[Z9]at this
 obtain⟨b,c,f,g⟩:W.cell? ⟨w.heap.size,0,none⟩=_/\W.cell? ⟨w.heap.size,1,none⟩=_/\W.cell? ⟨w.heap.size,2,none⟩=_/\W.cell? ⟨w.heap.size,3,none⟩=_:=by rw[<-hW];exact((Bk.new w 25 (dkC d s)).alloc _).dk4
 have h:W.heap.size=w.heap.size+2:=by rw[<-hW];simp
 have c1:=k1.cell 0;have c2:=k2.cell 0;have l1:=k1.lt;have l2:=k2.lt;simp at c1 c2;have HC:=ai (Nz d s B i x W hd (hm.below HB0.o hB) (by omega) hp hi hx);obtain⟨d2,hd2⟩:=NX9 ((if d.lf=0 then d else doO d (some (i,x))))
 obtain⟨x2,hx2⟩:∃x2:Int,(if d.lf=0 then 20 else 0)=x2:=⟨_,rfl⟩
 rw[hd2,hx2]at HC ⊢;have HW:=ai hW;unfold bG at HC;clear hd hm hd2 hx2 hW hi hx k1 k2;simp only[dkV,dkC]at *
 go_enter Tryz.func169,Tryz.ntmps169
 go_wp2_with fail;rw[HW.o];refine HC.o.mono ?_;rintro e w2 ⟨s',rfl,hm2,hb2⟩;have a:=ai hm2;have HB2:=ai hb2;have HZ2:=ai (HZ.o.below hb2 (by omega));obtain⟨z0,z1,z2,z3⟩:=HZ2.o.dk4;obtain⟨f0,f1,f2,f3⟩:=fr4 HZ2.o;clear hm2 hb2 HC;go_wp2_with fail;have HE:=ai (HZ2.o.set4 (.int .i64 d2.sz) (.slice s'.a1 d2.ss.length s'.c1) (.slice s'.a2 d2.pn.length s'.c2) (.int .i64 d2.lf));refine ZW (gU Tryz.results169 rfl HE.o rfl) rfl ?_;exact⟨s',rfl,(a.o.box HZ2.o _ _ _ _).more (by simp),eu (HB0.o.trans (HB2.o.mono (by omega))) (by omega) _ _ _ _⟩
theorem yH(d:Dk)(s:Dsl)(B:Nat)(A:OA)(n c:Nat)(vs:List VC)(os:List Dop)(w:VA)(hd:d.Ok)(hm:DkM w B d s)(hB:B<=w.heap.size)(ho:OpsM w B A n vs os)(hf:∀o∈os,kH d o)(hp:d.pn.length+os.length<=900000) :
  Calls Tryz.prog 97 #[dkV d s,.slice A n c] w (bG (aJ d os).1 (aJ d os).2 w):=by
 obtain⟨W,hW⟩:=NX9 ((w.alloc (.cells (dkC d s) 25)).alloc (.cells #[.int .i64 0,.slice none 0 0,.slice none 0 0,.int .i64 0] 25))
 have HB0:VF w W:=by rw[<-hW];exact((ah _ w).alloc aj _).alloc (by simp) _
 have HK:Hid (Bk W w.heap.size 25 (dkC d s)):=by rw[<-hW];exact(Bk.new w _ _).alloc _
 have HZ:Hid (Bk W (w.heap.size+1) 25 #[.int .i64 0,.slice none 0 0,.slice none 0 0,.int .i64 0]):=by
  rw[<-hW];have:=Bk.new (w.alloc (.cells (dkC d s) 25)) 25 #[.int .i64 0,.slice none 0 0,.slice none 0 0,.int .i64 0]
  rwa[Z9]at this
 have C:W.heap.size=w.heap.size+2:=by rw[<-hW];simp
 have HM:Hid (DkM W B d s):=hm.below HB0.o hB;have HO:=ai (ho.below HB0.o hB);have u:=ai ho;have HD:=ai hd;have HF:=ai hf;have HP:=ai hp;have HW:=ai hW;have z:n<=900000:=by have:=ho.len;omega
 obtain⟨D,hDD⟩:=NX9 (bG (aJ d os).1 (aJ d os).2 w)
 have m:=ai hDD;rw[hDD];clear hd hm ho hf hp hW hDD;simp only[dkV,dkC]
 go_enter Tryz.func97,Tryz.ntmps97
 go_wp2_with fail;rw[show(w.alloc (.cells #[.int .i64 d.sz,.slice s.a1 d.ss.length s.c1,.slice s.a2 d.pn.length s.c2,.int .i64 d.lf] 25)).alloc (.cells #[.int .i64 0,.slice none 0 0,.slice none 0 0,.int .i64 0] 25)=W from HW.o]
 go_loopw[11] (fun i wr=>∃(k:Nat)(dk:Dk)(s':Dsl),k<=n/\i= .int .i64 k/\Hid (aJ d os=aJ dk (os.drop k))/\Hid dk.Ok/\Hid (dk.sz=d.sz/\dk.ss.length=d.ss.length)/\Hid (dk.pn.length+ (n - k)<=900000)/\Hid (Bk wr w.heap.size 25 (dkC dk s'))/\Hid (Bk wr (w.heap.size+1) 25 #[.int .i64 0,.slice none 0 0,.slice none 0 0,.int .i64 0])/\Hid (DkM wr wr.heap.size dk s')/\VF w wr) (fun i _=>n - (intOf i).toNat)
 case atStart=>exact⟨0,d,s,ZX _,rfl,rfl,HD.o,⟨rfl,rfl⟩,(by show _<=_;have:=HP.o;have:=HO.o.len;omega),HK.o,HZ.o,HM.o.more (by omega),HB0.o⟩
 case round =>
  obtain⟨k,dk,s',hk,rfl,hrun,hok,hsz,hpn,hK,hZ,hM,hBel⟩:=hrel;have zr:w.heap.size+2<=wr.heap.size:=by have:=hZ.o.lt;omega
  obtain⟨k0,k1,k2,k3⟩:=hK.o.dk4;obtain⟨z0,z1,z2,z3⟩:=hZ.o.dk4;obtain⟨e0,e1,e2,e3⟩:=fr4 hK.o;obtain⟨f0,f1,f2,f3⟩:=fr4 hZ.o;by_cases hlt:k<n
  . have q:Hid (OpsM wr B A n vs os):=u.o.below hBel.o hB
    obtain⟨o,ho⟩:∃o,os[k]? =some o:=⟨_,Z5 (by have:=HO.o.len;omega)⟩
    obtain⟨v,hv⟩:∃v,vs[k]? =some v:=⟨_,Z5 (by have:=HO.o.sl.1;omega)⟩
    obtain⟨b,off,rfl,hb,hc⟩:=q.o.sl.2 (by omega);have x0:=hc k v hv;have hop:=q.o.op k v o hv ho;have hrun2:Hid (aJ d os=if dk.lf=0 then(dk,20) else aJ (doO dk o) (os.drop (k+1))):=by
     show _=_;have hl:=List.getElem?_eq_some_iff.1 ho;rw[hrun.o,List.drop_eq_getElem_cons hl.1,hl.2,aJ]
    have hft:kH dk o:=fun w hw=>by rw[hsz.o.1,hsz.o.2];exact HF.o o (Z7 ho) w hw
    have a:Hid (∀fn cs,v= .func (.func fn) #[] cs->Calls Tryz.prog fn (#[dkV dk s']++cs) wr (bG (if dk.lf=0 then dk else doO dk o) (if dk.lf=0 then 20 else 0) wr)):=by
     intro fn cs hfn;cases o with
     | none =>
       rw[hop]at hfn;cases hfn
       exact O7 dk s' wr.heap.size wr hok.o hM.o aj (by have:=hpn.o;omega)
     | some x =>
       obtain⟨b1,b2,_,_,e,q1,q2⟩:=hop;rw[e]at hfn;cases hfn
       obtain⟨g1,g2⟩:=hft x rfl;exact Rz dk s' wr.heap.size x.1 b1 b2 x.2 wr hok.o hM.o aj (by have:=hpn.o;omega) g1 g2 q1 q2
    have r:=ai hft;have t:Hid ((doO dk o).pn.length<=dk.pn.length+1):=by
     show _<=_;cases o with
     | none=>simp[doO]
     | some x=>simp[doO]
    have hvv:v= .func (.func 100) #[] #[]∨ (∃p1 p2,v= .func (.func 169) #[] #[p1,p2]):=by
     cases o with
     | none=>exact .inl hop
     | some x=>obtain⟨b1,b2,_,_,e,_⟩:=hop;exact .inr ⟨_,_,e⟩
    have hkl:=hK.o.lt;have hzl:=hZ.o.lt;clear hop hc hv hft hrun;by_cases h0:dk.lf=0
    . have hfin:Hid (aJ d os= (dk,20)):=by show _=_;rw[hrun2.o,if_pos h0]
      simp only[if_pos h0]at a;clear h0 ho;rcases hvv with rfl | ⟨p1,p2,rfl⟩
      all_goals
       have HC:=ai (a.o _ _ rfl);unfold bG at HC;simp only[List.append_toArray,Array.append_empty,List.cons_append,List.nil_append,dkV,dkC]at HC;clear a;go_wp2_with fail;refine HC.o.mono ?_;rintro e w2 ⟨s2,rfl,hm2,hb2⟩;have l:=ai hm2;have HB2:VF w w2:=hBel.o.trans (hb2.mono (by omega));have f:=ai (hK.o.below hb2 hkl);have HZ2:=ai (hZ.o.below hb2 hzl);have zz:=hb2.size;obtain⟨k0,k1,k2,k3⟩:=f.o.dk4;obtain⟨z0,z1,z2,z3⟩:=HZ2.o.dk4;obtain⟨e0,e1,e2,e3⟩:=fr4 f.o;obtain⟨f0,f1,f2,f3⟩:=fr4 HZ2.o;clear hm2 hb2 HC;go_wp2_with fail;have hne:w.heap.size+1≠w.heap.size:=by omega
       have HE:=ai (((((HZ2.o.far (p:=⟨w.heap.size,0,none⟩) hne (.int .i64 dk.sz)).far (p:=⟨w.heap.size,1,none⟩) hne (.slice s2.a1 dk.ss.length s2.c1)).far (p:=⟨w.heap.size,2,none⟩) hne (.slice s2.a2 dk.pn.length s2.c2)).far (p:=⟨w.heap.size,3,none⟩) hne (.int .i64 dk.lf)).set4 (.int .i64 dk.sz) (.slice s2.a1 dk.ss.length s2.c1) (.slice s2.a2 dk.pn.length s2.c2) (.int .i64 dk.lf));refine ZW (gU Tryz.results97 rfl HE.o rfl) rfl ?_;rw[<-m.o,hfin.o];have y:=(l.o.box f.o (.int .i64 dk.sz) (.slice s2.a1 dk.ss.length s2.c1) (.slice s2.a2 dk.pn.length s2.c2) (.int .i64 dk.lf)).box ((((HZ2.o.far (p:=⟨w.heap.size,0,none⟩) hne (.int .i64 dk.sz)).far (p:=⟨w.heap.size,1,none⟩) hne (.slice s2.a1 dk.ss.length s2.c1)).far (p:=⟨w.heap.size,2,none⟩) hne (.slice s2.a2 dk.pn.length s2.c2)).far (p:=⟨w.heap.size,3,none⟩) hne (.int .i64 dk.lf)) (.int .i64 dk.sz) (.slice s2.a1 dk.ss.length s2.c1) (.slice s2.a2 dk.pn.length s2.c2) (.int .i64 dk.lf);exact⟨s2,rfl,y.more (by simp),eu (eu HB2.o aj _ _ _ _) (by omega) _ _ _ _⟩
    . have hgo:Hid (aJ d os=aJ (doO dk o) (os.drop (k+1))):=by show _=_;rw[hrun2.o,if_neg h0]
      simp only[if_neg h0]at a;have g:Hid (doO dk o).Ok:=hok.o.doO r.o;have h:Hid ((doO dk o).sz=d.sz/\ (doO dk o).ss.length=d.ss.length):=by
       obtain⟨q1,q2⟩:=xJ dk o;exact⟨q1.trans hsz.o.1,q2.trans hsz.o.2⟩
      have j:Hid ((doO dk o).pn.length+ (n - (k+1))<=900000):=by show _<=_;have:=hpn.o;have:=t.o;omega
      obtain⟨d2,hd2⟩:=NX9 (doO dk o)
      rw[hd2]at hgo g h j a;clear h0 ho hd2 t r hrun2;rcases hvv with rfl | ⟨p1,p2,rfl⟩
      all_goals
       have HC:=ai (a.o _ _ rfl);unfold bG at HC;simp only[List.append_toArray,Array.append_empty,List.cons_append,List.nil_append,dkV,dkC]at HC;clear a;go_wp2_with fail;refine HC.o.mono ?_;rintro e w2 ⟨s2,rfl,hm2,hb2⟩;have l:=ai hm2;have HB2:VF w w2:=hBel.o.trans (hb2.mono (by omega));have f:=ai (hK.o.below hb2 hkl);have HZ2:=ai (hZ.o.below hb2 hzl);obtain⟨k0,k1,k2,k3⟩:=f.o.dk4;obtain⟨e0,e1,e2,e3⟩:=fr4 f.o;clear hm2 hb2 HC z0 z1 z2 z3 f0 f1 f2 f3;go_wp2_with fail;have hne:w.heap.size+1≠w.heap.size:=by omega
       go_roundw
       case rel=>exact⟨k+1,d2,s2,by omega,by go_num,hgo.o,g.o,h.o,j.o,f.o.set4 _ _ _ _,(((HZ2.o.far (p:=⟨w.heap.size,0,none⟩) hne _).far (p:=⟨w.heap.size,1,none⟩) hne _).far (p:=⟨w.heap.size,2,none⟩) hne _).far (p:=⟨w.heap.size,3,none⟩) hne _,(l.o.box f.o _ _ _ _).more (by simp),eu HB2.o aj _ _ _ _⟩
       case measure=>simp[intOf];omega
  . have hend:Hid (aJ d os= (dk,0)):=by
      show _=_;rw[hrun.o,List.drop_of_length_le (by have:=HO.o.len;omega),aJ]
    have HE:=ai (hZ.o.set4 (.int .i64 dk.sz) (.slice s'.a1 dk.ss.length s'.c1) (.slice s'.a2 dk.pn.length s'.c2) (.int .i64 dk.lf));go_wp2_with fail;refine ZW (gU Tryz.results97 rfl HE.o rfl) rfl ?_;rw[<-m.o,hend.o];exact⟨s',rfl,(hM.o.box hZ.o _ _ _ _).more (by simp),eu hBel.o (by omega) _ _ _ _⟩
theorem zB: (Tryz.prog.info? 166).map (fun i=>(i.zero,i.size,i.bytes))=some (some .nilFunc,1,8):=by kernel_rfl
theorem OpV.grown{w w':VA}{B:Nat}{v:VC}{o:Dop}{row:Option Nat}(h:OpV w B v o)(hg:w.grownBy w' row)(hr:∀k,row=some k->∃cur,w.heap[k]? =some (.cells cur 166 (0,0))):OpV w' B v o:=by
 cases o with
 | none=>exact h
 | some x =>
   obtain⟨b1,b2,h1,h2,e,k1,k2⟩:=h;refine⟨b1,b2,h1,h2,e,k1.grown hg (fun e=>?_),k2.grown hg (fun e=>?_)⟩
   . obtain⟨cur,hc⟩:=hr b1 e.symm
     rw[show w.heap[b1]? =_ from k1]at hc;cases hc
   . obtain⟨cur,hc⟩:=hr b2 e.symm
     rw[show w.heap[b2]? =_ from k2]at hc;cases hc
theorem OpV.one{w:VA}{B:Nat}{v:VC}{o:Dop}(h:OpV w B v o):v.oneCell'=true:=by
 cases o with
 | none=>rw[show v=_ from h];rfl
 | some x=>obtain⟨_,_,_,_,e,_⟩:=h;rw[e];rfl
theorem OpV.fn{w:VA}{B:Nat}{v:VC}{x:Nat×VD}(h:OpV w B v (some x)):∃p1 p2,v= .func (.func 169) #[] #[p1,p2]:=by
 obtain⟨_,_,_,_,e,_⟩:=h;exact⟨_,_,e⟩
structure OpsO(w:VA)(base:Nat)(A:OA)(n c:Nat)(vs:List VC)(os:List Dop):Prop where
 own:w.ownsRow base 166 1 (.slice A n c) n vs
 len:os.length=n
 op:∀(i:Nat) v o,vs[i]? =some v->os[i]? =some o->OpV w w.heap.size v o
theorem OpsO.m{w:VA}{base:Nat}{A:OA}{n c:Nat}{vs:List VC}{os:List Dop}(h:OpsO w base A n c vs os):OpsM w w.heap.size A n vs os:=⟨Sl.of_own h.own,h.len,h.op⟩
theorem OpsO.below{w w':VA}{base:Nat}{A:OA}{n c:Nat}{vs:List VC}{os:List Dop}(h:OpsO w base A n c vs os)(hb:VE w w'):OpsO w' base A n c vs os :=
 ⟨h.own.kept (row:=none) ⟨hb.os,hb.tape,hb.output,hb.size,fun k hk _=>hb.block k hk⟩ (by cases hv: (Value.slice A n c).ownBlock with | none=>exact .inl rfl | some k=>exact .inr (by simp)),h.len,fun i v o hv ho=>((h.op i v o hv ho).below hb aj).more hb.size⟩
theorem OpsO.snoc{w w':VA}{base:Nat}{A A':OA}{n c c':Nat}{vs:List VC}{os:List Dop}{v:VC}{o:Dop}(h:OpsO w base A n c vs os)(hv:OpV w w.heap.size v o)(ho:w'.ownsRow base 166 1 (.slice A' (n+1) c') (n+1) (vs++ [v]))(hg:w.grownBy w' (Value.slice A n c).ownBlock):OpsO w' base A' (n+1) c' (vs++ [v]) (os++ [o]):=by
 have hr:∀k,(Value.slice A n c).ownBlock=some k->∃cur,w.heap[k]? =some (.cells cur 166 (0,0)):=fun k hk=>(bV h.own hk).2;have hl:vs.length=n:=by have:=h.own.1;omega
 refine⟨ho,by rw[af,h.len];rfl,fun i u p hu hp=>?_⟩;have hsz:=hg.size;rw[List.getElem?_append]at hu hp;rw[hl]at hu;rw[h.len]at hp;split at hu
 . rename_i hi
   rw[if_pos hi]at hp;exact((h.op i u p hu hp).grown hg hr).more hsz
 . rename_i hi
   rw[if_neg hi]at hp;have hi2:i - n=0:=by
    rcases Nat.eq_zero_or_pos (i - n) with h | h
    . exact h
    . rw[List.getElem?_eq_none (by simp;omega)]at hu;cases hu
   rw[hi2]at hu hp;cases hu;cases hp
   exact(hv.grown hg hr).more hsz
theorem QR{S:List VD}{k p:Nat}{x:VD}(h:S[k]? =some x): (((S.take (k+1)).zipIdx p).map (fun q=>(q.2,q.1))).map some= (((S.take k).zipIdx p).map (fun q=>(q.2,q.1))).map some++ [some (p+k,x)]:=by
 have hk:=(List.getElem?_eq_some_iff.1 h).1;rw[aV h,List.zipIdx_append,List.map_append,List.map_append,List.length_take,Nat.min_eq_left (by omega)];rfl
def UO(n:Nat)(os:List Dop)(w:VA)(e:Ending)(w':VA):Prop:=∃A' n' c' vs,e= .returned (.slice A' n' c')/\OpsO w' w.heap.size A' n' c' vs os/\VE w w'/\n'<=n+1/\n'<=c'/\c'<=maxLen
theorem EP(p e sz:Nat)(A:OA)(n c B:Nat)(S:List VD)(w:VA)(h:Sl w B 1 A n (flat aF S))(hB:B<=w.heap.size)(hn:n<=1000)(hp:p<=1000)(hz:sz<=512) :
  Calls Tryz.prog 111 #[.int .i64 p,.slice A n c,.int .i64 e,.int .i64 sz] w (UO n ((dL p S e sz).map some) w):=by
 have HL:=ai (h.len dJ (by omega));have H:=ai h;obtain⟨i0,hi,hz0,hz1,hz2⟩:=info_parts zB;have Hi:=ai hi;have s:=ai hz0;have t:=ai hz1;have y:=ai hz2;have HW:=ai (fun(i:Nat)(x:VD)(w:VA)=>mP i x w);clear hi hz0 hz1 hz2 h
 go_enter Tryz.func111,Tryz.ntmps111
 go_wp2_with fail
 go_loopw[0,9,14] (fun a v i wr=>∃(k:Nat)(A':OA)(c':Nat)(vs:List VC),k<=n/\i= .int .i64 k/\a= .int .i64 (p+k:Nat)/\v= .slice A' k c'/\Hid (OpsO wr w.heap.size A' k c' vs ((((S.take k).zipIdx p).map (fun q=>(q.2,q.1))).map some))/\VF w wr/\k<=c'/\c'<=maxLen) (fun _ _ i _=>n - (intOf i).toNat)
 case atStart=>exact⟨0,none,0,[],ZX _,rfl,rfl,rfl,⟨World.ownsRow_nil _ _ _ _,rfl,fun i v o hv=>by simp at hv⟩,ah _ _,Nat.le_refl _,ZX _⟩
 case round =>
  obtain⟨k,A',c',vs,hk,rfl,rfl,rfl,hO,hBel,hkc,hcm⟩:=hrel;by_cases hlt:k<n
  . obtain⟨b,off,x,rfl,hb,hx,hc⟩:=(H.o.below hBel.o hB).at_ dJ (by omega) hlt
    have x0:=hc 0 _ rfl;simp only[Nat.mul_one,Nat.add_zero]at x0;have HS:=ai (QR (p:=p) hx);clear hc hx;go_wp2_with fail;refine(HW.o (p+k) x _).mono ?_;rintro en w2 ⟨v,rfl,hv,hb2⟩;obtain⟨p1,p2,rfl⟩:=hv.fn;have l:=ai (hO.o.below hb2);have HB2:VF w w2:=hBel.o.trans (hb2.mono hBel.o.size);have HV:Hid (OpV (w2.alloc (.cells #[(.func (.func 169) #[] #[p1,p2])] 166)) (w2.alloc (.cells #[(.func (.func 169) #[] #[p1,p2])] 166)).heap.size (.func (.func 169) #[] #[p1,p2]) (some (p+k,x))):=(hv.below ((ah w2.heap.size w2).alloc aj _) aj).more (by simp);have hv1:∀u∈ [(Value.func (.func 169) #[] #[p1,p2])],u.oneCell'=true:=fun u hu=>by rw[List.mem_singleton.1 hu];exact hv.one
    have d:Hid (OpsO (w2.alloc (.cells #[(.func (.func 169) #[] #[p1,p2])] 166)) w.heap.size A' k c' vs ((((S.take k).zipIdx p).map (fun q=>(q.2,q.1))).map some)):=l.o.below ((ah w2.heap.size w2).alloc aj _);have z2:=HB2.o.size;clear hv hb2 hO
    go_wp2_with (at_builtin;refine aO ?_)
    refine aH ?_;refine jV (base:=w.heap.size) (size:=1) _ rfl (.tmp 18) (.tmp 22) 169 rfl 166 i0 _ 8 Tryz.underlying169 Hi.o s.o t.o y.o rfl (by decide) (.slice A' k c') k vs (by rfl) d.o.own (w2.heap.size+1) (some ⟨w2.heap.size,0,none⟩) 1 1 [(.func (.func 169) #[] #[p1,p2])] (by rfl) (Sl.new w2 166 [(.func (.func 169) #[] #[p1,p2])] 1 rfl) hv1 (by unfold maxLen;omega) (by omega) (by simp;omega) ?_;intro A4 c4 w4 f hg4 hc4 hm4;have j:=ai (d.o.snoc HV.o f hg4);rw[<-HS.o]at j;have HB4:VF w w4:=(HB2.o.alloc (by omega) _).grown hg4 (by simp;omega) (fun g hg=>jF d.o.own g hg);have m:=ai hm4;clear f hg4 hm4 HV d hv1;go_wp2_with fail;go_roundw
    case rel=>exact⟨k+1,A4,c4,_,by omega,by go_num,by go_num,rfl,j.o,HB4.o,hc4,m.o⟩
    case measure=>simp[intOf];omega
  . obtain rfl:k=n:=by omega
    have HE:Hid (S.take k=S):=by show _=_;rw[<-HL.o,List.take_length]
    rw[HE.o]at hO;have HF:Hid (dL p S e sz= (S.zipIdx p).map (fun q=>(q.2,q.1))++ (if p+k<e then [(p+k,bK sz [])] else [])):=by show _=_;unfold dL;rw[HL.o]
    have HO:=ai hO.o;clear hO;by_cases h2:p+k<e
    . have HF2:Hid ((dL p S e sz).map some= ((S.zipIdx p).map (fun q=>(q.2,q.1))).map some++ [some (p+k,bK sz [])]):=by show _=_;rw[HF.o,if_pos h2,List.map_append];rfl
      have z: (p:Int)+ (k:Int)< (e:Int):=by omega
      have r:=ai (oW [] sz wr (by simp) hz);rw[show ofL []= ⟨#[]⟩ from rfl]at r;go_wp2_with fail;refine r.o.mono ?_;rintro en w2 ⟨rfl,hb2⟩;have HB2:=ai hb2;clear hb2 r;go_wp2_with fail;refine(HW.o (p+k) (bK sz []) _).mono ?_;rintro en w3 ⟨v,rfl,hv,hb3⟩;obtain⟨p1,p2,rfl⟩:=hv.fn;have l:=ai ((HO.o.below HB2.o).below hb3);have HB3:VF w w3:=(hBel.o.trans (HB2.o.mono hBel.o.size)).trans (hb3.mono (ZY hBel.o.size HB2.o.size));have HV:Hid (OpV (w3.alloc (.cells #[(.func (.func 169) #[] #[p1,p2])] 166)) (w3.alloc (.cells #[(.func (.func 169) #[] #[p1,p2])] 166)).heap.size (.func (.func 169) #[] #[p1,p2]) (some (p+k,bK sz []))):=(hv.below ((ah w3.heap.size w3).alloc aj _) aj).more (by simp);have hv1:∀u∈ [(Value.func (.func 169) #[] #[p1,p2])],u.oneCell'=true:=fun u hu=>by rw[List.mem_singleton.1 hu];exact hv.one
      have d:Hid (OpsO (w3.alloc (.cells #[(.func (.func 169) #[] #[p1,p2])] 166)) w.heap.size A' k c' vs (((S.zipIdx p).map (fun q=>(q.2,q.1))).map some)):=l.o.below ((ah w3.heap.size w3).alloc aj _);have z3:=HB3.o.size;clear hv hb3 HO HB2
      go_wp2_with (at_builtin;refine aO ?_)
      refine aH ?_;refine jV (base:=w.heap.size) (size:=1) _ rfl (.tmp 30) (.tmp 35) 169 rfl 166 i0 _ 8 Tryz.underlying169 Hi.o s.o t.o y.o rfl (by decide) (.slice A' k c') k vs (by rfl) d.o.own (w3.heap.size+1) (some ⟨w3.heap.size,0,none⟩) 1 1 [(.func (.func 169) #[] #[p1,p2])] (by rfl) (Sl.new w3 166 [(.func (.func 169) #[] #[p1,p2])] 1 rfl) hv1 (by unfold maxLen;omega) (by omega) (by simp;omega) ?_;intro A4 c4 w4 f hg4 hc4 hm4;have j:=ai (d.o.snoc HV.o f hg4);rw[<-HF2.o]at j;have HB4:VF w w4:=(HB3.o.alloc (by omega) _).grown hg4 (by simp;omega) (fun g hg=>jF d.o.own g hg);have m:=ai hm4;clear f hg4 hm4 HV d hv1;go_wp2_with fail;go_ret
      exact⟨A4,k+1,c4,_,rfl,j.o,HB4.o,Nat.le_refl _,hc4,m.o⟩
    . have HF2:Hid ((dL p S e sz).map some= ((S.zipIdx p).map (fun q=>(q.2,q.1))).map some):=by show _=_;rw[HF.o,if_neg h2,List.append_nil]
      have z:¬(p:Int)+ (k:Int)< (e:Int):=by omega
      rw[<-HF2.o]at HO;go_wp2_with fail;go_ret
      exact⟨A',k,c',vs,rfl,HO.o,hBel.o,Nat.le_succ _,hkc,hcm⟩
section
variable {P : Program} {w : VA} {base size : Nat} {e : TypeId}
theorem AQ{ops:Array Oper}{o:Oper}{a:Act}{K:Act->VA->Prop}{Q:Exit->Act->VA->Prop}{E:Prop}(hgd:o.guard=none)(s x:Operand)(t:TypeId)
  (ho:o.op= .call {callee:= .builtin .append,args:=#[s,x],argTypes:=#[t,t]})
  (base:Nat) (e:TypeId) (i:TypeInfo) (z:VC) (size bytes:Nat) (ht:P.underlying t=some (.slice e)) (hi:P.info? e=some i) (hz:i.zero=some z)
  (hsize:i.size=size) (hby:i.bytes=bytes) (hzs:z.cells.size=size) (hsz:0<size)
  (v:VC) (n:Nat) (xs:List VC) (hs:a.eval s=v) (hown:w.ownsRow base e size v n xs)
  (B:Nat) (A:OA) (m c:Nat) (ys:List VC) (hx:a.eval x= .slice A m c) (hsl:Sl w B size A m ys) (h1:∀u∈ys,u.oneCell'=true)
  (h63:n+m<=maxLen) (hbytes: (n+m)*bytes<=140737488355328) (hbase:base<=w.heap.size)
  (h:∀A' c' w',w'.ownsRow base e size (.slice A' (n+m) c') (n+m) (xs++ys)->w.grownBy w' v.ownBlock->n+m<=c'->c'<=maxLen->K (a.put o.dst (.slice A' (n+m) c')) w') :
  if Region.wanted o (yielded ops a.tmps)=true then Oper.wp P o a w K Q else E:=by
 have hw:Region.wanted o (yielded ops a.tmps)=true:=by simp[Region.wanted,hgd]
 rw[if_pos hw];obtain⟨A',c',w',hr,ho',hg,hc1,hc2⟩:=mF (P:=P) t o.type i z bytes ht hi hz hsize hby hzs hsz hown (c:=c) hsl h1 h63 hbytes hbase;unfold Oper.wp;simp[execOp,ho,resolve,invoke,builtin,hs,hx,hr,Result.andThen];exact h A' c' w' ho' hg hc1 hc2
end
theorem OpsO.app{w w':VA}{base:Nat}{A A':OA}{n m c c':Nat}{vs vs2:List VC}{os os2:List Dop}(h:OpsO w base A n c vs os)(hl:os2.length=m)(hv:∀(i:Nat) v o,vs2[i]? =some v->os2[i]? =some o->OpV w w.heap.size v o)(ho:w'.ownsRow base 166 1 (.slice A' (n+m) c') (n+m) (vs++vs2))(hg:w.grownBy w' (Value.slice A n c).ownBlock):OpsO w' base A' (n+m) c' (vs++vs2) (os++os2):=by
 have hr:∀k,(Value.slice A n c).ownBlock=some k->∃cur,w.heap[k]? =some (.cells cur 166 (0,0)):=fun k hk=>(bV h.own hk).2;have hvl:vs.length=n:=by have:=h.own.1;omega
 refine⟨ho,by rw[af,h.len,hl],fun i u p hu hp=>?_⟩;have hsz:=hg.size;rw[List.getElem?_append]at hu hp;rw[hvl]at hu;rw[h.len]at hp;split at hu
 . rename_i hi
   rw[if_pos hi]at hp;exact((h.op i u p hu hp).grown hg hr).more hsz
 . rename_i hi
   rw[if_neg hi]at hp;exact((hv _ u p hu hp).grown hg hr).more hsz
def I5(rs:List VD)(w:VA)(e:Ending)(w':VA):Prop:=∃A c,e= .returned (.tuple #[.slice A rs.length c,.int .i64 0])/\Sl w' w'.heap.size 1 A rs.length (flat aF rs)/\rs.length<=c/\c<=maxLen/\VE w w'
theorem Lh(d:Dk)(s:Dsl)(B a u:Nat)(rs:List VD)(w:VA)(hd:d.Ok)(hpn:d.pn= [])(hj:Jn d.sz d.ss a rs u)(hm:DkM w B d s)(hB:B<=w.heap.size) :
  Calls Tryz.prog 36 #[dkV d s] w (I5 rs w):=by
 obtain⟨W,hW⟩:=NX9 (w.alloc (.cells (dkC d s) 25))
 have HB0:VF w W:=by rw[<-hW];exact(ah _ w).alloc aj _
 have f:W.heap.size=w.heap.size+1:=by rw[<-hW];simp
 have HK:Hid (Bk W w.heap.size 25 (dkC d s)):=by rw[<-hW];exact Bk.new w _ _
 have HO:=ai (xh d s B a u rs W hd hpn hj (hm.below HB0.o hB) (by omega));have HW:=ai hW;clear hW hm hd hj hpn;obtain⟨n,hn⟩:=NX9 d.ss.length
 obtain⟨m,hm⟩:=NX9 d.pn.length
 simp only[dkV,dkC,hn,hm]at HO HK HW ⊢;obtain⟨k0,k1,k2,k3⟩:=HK.o.dk4;clear hn hm
 go_enter Tryz.func36,Tryz.ntmps36
 go_wp2_with fail;rw[HW.o];refine HO.o.mono ?_;rintro e w1 ⟨A,c,rfl,hs,hc1,hc2,hb1⟩;have HS:=ai hs;have b:=ai hc1;have HC2:=ai hc2;have HB1:VF w w1:=HB0.o.trans (hb1.mono (by omega));clear hs hc1 hc2 hb1
 go_wp2
 go_ret2
 exact⟨A,c,rfl,(HS.o.alloc aj _).more (by simp),b.o,HC2.o,HB1.o.alloc HB1.o.size _⟩
