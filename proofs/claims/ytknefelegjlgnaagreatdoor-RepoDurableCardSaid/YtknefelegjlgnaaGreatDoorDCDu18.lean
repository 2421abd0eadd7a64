/-
  Lemmas of the card.
-/
import Derived.Test.YtknefelegjlgnaaGreatDoorDCDu17
set_option maxRecDepth 100000
set_option maxHeartbeats 8000000
namespace Go.Proofs.YtknefelegjlgnaaGreatDoor
open Go.RowKit
section
attribute [local go_sem] Oper.semAt_some
theorem xE(d:Dk)(s:Dsl)(B:Nat)(w:MQ)(hd:d.Ok)(hm:DkM w B d s)(hB:B<=w.heap.size)(hp:d.pn.length<=1000000):Calls Tryz.prog 95 #[dkV d s] w fun e w'=>e= .returned (.int .i64 (if d.ss.length<3 then 2 else 0))/\Below w.heap.size w w':=by
 obtain⟨W,hW⟩:∃W,w.alloc (.cells (dkC d s) 25)=W:=⟨_,rfl⟩
 have HB0:Hid (Below w.heap.size w W):=by rw[<-hW];exact(af _ w).alloc ai _
 have zW:W.heap.size=w.heap.size+1:=by rw[<-hW];simp
 have HK:Hid (Bk W w.heap.size 25 (dkC d s)):=by rw[<-hW];exact Bk.new w _ _
 have HC:=ah (oo d s B W hd (hm.below HB0.out hB) (by omega) hp);have HW:=ah hW;clear hW hm hd;obtain⟨n,hnn⟩:∃n,d.ss.length=n:=⟨_,rfl⟩
 simp only[dkV,dkC,hnn]at HC HK HW ⊢;obtain⟨k0,k1,k2,k3⟩:=HK.out.dk4;clear hnn
 go_enter Tryz.func95,Tryz.ntmps95
 go_wp2_with fail;rw[HW.out];refine HC.out.mono ?_;rintro e w1 ⟨rfl,hb1⟩;obtain⟨k0,k1,k2,k3⟩:=(HK.out.below hb1 (by omega)).dk4;have HB1:Hid (Below w.heap.size w w1):=HB0.out.trans (hb1.mono (by omega));clear hb1 HC;by_cases hni: (n:Int)<3
 . have hx:Hid ((if n<3 then 2 else 0:Int)=2):=if_pos (by omega)
   go_wp2
   go_ret
   first | exact⟨rfl,HB1.out⟩ | exact⟨by rw[hx.out];rfl,HB1.out⟩
 . have hx:Hid ((if n<3 then 2 else 0:Int)=0):=if_neg (by omega)
   go_wp2
   go_ret
   first | exact⟨rfl,HB1.out⟩ | exact⟨by rw[hx.out];rfl,HB1.out⟩
theorem yh(d:Dk)(s:Dsl)(B:Nat)(w:MQ)(hd:d.Ok)(hn:3<=d.ss.length)(hm:DkM w B d s)(hB:B<=w.heap.size)(hp:d.pn.length<=1000000):Calls Tryz.prog 95 #[dkV d s] w fun e w'=>e= .returned (.int .i64 0)/\Below w.heap.size w w' :=
 (xE d s B w hd hm hB hp).mono fun _ _ h=>⟨by rw[h.1,if_neg (by omega)],h.2⟩
theorem Fj(s:MR)(sz:Nat)(w:MQ) :
  Calls Tryz.prog 140 #[.string s,.int .i64 sz] w fun e w'=>e= .returned (.func (.func 221) #[] #[.pointer (some ⟨w.heap.size,0,none⟩),.pointer (some ⟨w.heap.size+1,0,none⟩)]) ∧
   w'= (w.alloc (.cells #[.string s] 9)).alloc (.cells #[.int .i64 sz] 3):=by
 go_enter Tryz.func140,Tryz.ntmps140
 go_wp2
 go_ret
 exact⟨rfl,rfl⟩
theorem wL{P:Program}{e:TypeId}{size:Nat}(t:TypeId)(i:TypeInfo)(ht:P.underlying t=some (.slice e))(hi:P.info? e=some i)(hsz:i.size=size)(A:OA)(n c k m:Nat)(hk:k+m<=c) :
  ∃Ak,(∀w:MQ,(Instr.sliceAt t (.slice A n c) (some (.int .i64 k)) (some (.int .i64 ((k:Int)+ (m:Int)))) none).run P w= .ok (.slice Ak m (c - k)) w)/\∀(w:MQ)(B:Nat)(xs:List MS),0<size->Sl w B size A n xs->k+m<=n->Sl w B size Ak m ((xs.drop (k*size)).take (m*size)):=by
 refine⟨if c=k then A else A.map (·.add (k*size)),fun w=>?_,fun w B xs hs h hn=>?_⟩
 . simp[Instr.sliceAt,Instr.slice,run_underlying ht,Instr.sliceBounds,Instr.sliceBound,asIntOf,sizeOf,typeInfo,hi,hsz]
   rw[if_pos (by omega),if_pos (by omega),show((k:Int)+ (m:Int)).toNat - k=m by omega]
 . have hl:m*size+k*size<=n*size:=by rw[<-Nat.add_mul,Nat.add_comm];exact Nat.mul_le_mul_right _ hn
   refine⟨by rw[List.length_take,List.length_drop,h.1];omega,fun hm=>?_⟩;obtain⟨b,off,rfl,hb,hc⟩:=h.2 (by omega);rw[if_neg (by omega)];refine⟨b,off+k*size,by simp[Addr.add_lit],hb,fun j u hu=>?_⟩;rw[Nat.add_assoc];refine hc _ u ?_;rw[List.getElem?_take]at hu;split at hu
   . rw[List.getElem?_drop]at hu;exact hu
   . cases hu
theorem yH(L:List MU)(k m:Nat): ((flat aA L).drop (k*1)).take (m*1)=flat aA ((L.drop k).take m):=by
 rw[<-yF dG,<-oJ dG]
theorem Sl.putLoop{w:MQ}{B n l:Nat}{A:OA}{L:List MU}(h:Sl w B 1 A n (flat aA L)){r:Loop}{o':Obj}(hl:w.heap[l]? =some (.loop r)):Sl (w.putObj l o') B 1 A n (flat aA L) :=
 h.avoid fun b off e hn hc=>World.putObj_heap_other (fun e=>by
  subst e;have hll:=h.len dG (by omega);have h1:=gy (enc:=aA) dG L 0 0 _ (Z6 (by omega)) (by omega);have:=hc 0 _ h1;simp[World.cell?,hl]at this)
theorem FrP.put{sz:Nat}{b:MU}{W:MQ}{xs:List Fr}(h:FrP sz b W xs){l:Nat}{r:Loop}{o':Obj}(hl:W.heap[l]? =some (.loop r)):FrP sz b (W.putObj l o') xs:=fun pre x he=>by
 rcases h pre x he with h | ⟨u,h1,h2,h3⟩
 . exact .inl h
 . exact .inr ⟨u,h1,by have:=h2.putLoop (o':=o') hl;simpa using this,h3⟩
theorem Lm{fn:Func}{c1 c2:Tmp}(h:fn.results= #[.cell c1 142,.cell c2 36]){w:MQ}{a:Array MS}{b1 b2:Nat}{x y z e:MS}(h1:a[c1]?.getD undef= .pointer (some ⟨b1,0,none⟩))(h2:a[c2]?.getD undef= .pointer (some ⟨b2,0,none⟩))(k1:Bk w b1 142 #[x,y,z])(k2:Bk w b2 36 #[e]) :
  (results fn a).run Tryz.prog w= .ok (.tuple #[.agg #[x,y,z],e]) w:=by
 obtain⟨p0,p1,p2⟩:=k1.three;have c2':=k2.cell 0;simp at c2';simp[results,h,h1,h2,go_sem,p0,p1,p2,c2']
structure JoI(s0 bc base:Nat)(v0:Int)(w:MQ)(pre:List Fr)(A:OA)(c:Nat)(W:MQ):Prop where
 k:Bk W bc 142 #[.int .i64 v0,.slice A (frL pre).length c,.int .i64 (frU pre)]
 own:W.ownsRow base 9 1 (.slice A (frL pre).length c) (frL pre).length (flat aA (frL pre))
 r1:Bk W (s0+1) 142 #[.int .i64 0,.slice none 0 0,.int .i64 0]
 r2:Bk W (s0+1+1) 36 #[.int .i64 0]
 b:Below s0 w W
 c1: (frL pre).length<=c
 c2:c<=maxLen
 nn:0<=frU pre
section
variable {s0 bc base : Nat} {v0 : Int} {w W W' : MQ} {pre : List Fr} {A : OA} {c : Nat}
theorem JoI.grown{row:Option Nat}(h:JoI s0 bc base v0 w pre A c W)(hg:W.grownBy W' row)(h1:some (s0+1)≠row)(h2:some (s0+1+1)≠row)(h3:some bc≠row)(h4: (Value.slice A (frL pre).length c).ownBlock=none∨ (Value.slice A (frL pre).length c).ownBlock≠row)(h5:∀k,row=some k->s0<=k):JoI s0 bc base v0 w pre A c W' :=
 ⟨h.k.grown hg h3,h.own.kept hg h4,h.r1.grown hg h1,h.r2.grown hg h2,h.b.grown hg (by have:=h.r2.lt;omega) h5,h.c1,h.c2,h.nn⟩
theorem JoI.below(h:JoI s0 bc base v0 w pre A c W)(hb:Below W.heap.size W W'):JoI s0 bc base v0 w pre A c W' :=
 ⟨h.k.below hb h.k.lt,fJ h.own hb,h.r1.below hb h.r1.lt,h.r2.below hb h.r2.lt,h.b.trans (hb.mono (by have:=h.r2.lt;omega)),h.c1,h.c2,h.nn⟩
end
theorem KeepF.trans{b1 b2:Nat}{A B C:MQ}(h:KeepF b1 b2 A B)(k:KeepF b1 b2 B C):KeepF b1 b2 A C:=⟨k.1.trans h.1,k.2.trans h.2⟩
def LV(a u:Nat)(rs:List MU)(w:MQ)(e:Ending)(w':MQ):Prop:=∃A c,e= .returned (.tuple #[.agg #[.int .i64 a,.slice A rs.length c,.int .i64 u],.int .i64 0])/\Sl w' w'.heap.size 1 A rs.length (flat aA rs)/\rs.length<=c/\c<=maxLen/\Below w.heap.size w w'
theorem sG(d:Dk)(s:Dsl)(B a u:Nat)(rs:List MU)(w:MQ)(hd:d.Ok)(hpn:d.pn= [])(hj:Jn d.sz d.ss a rs u)(hm:DkM w B d s)(hB:B<=w.heap.size) :
  Calls Tryz.prog 78 #[dkV d s] w (LV a u rs w):=by
 refine(callsIn_wide (n:=6)).1 ?_;obtain⟨W,hW⟩:∃W,((w.alloc (.cells (dkC d s) 25)).alloc (.cells #[.int .i64 0,.slice none 0 0,.int .i64 0] 142)).alloc (.cells #[.int .i64 0] 36)=W:=⟨_,rfl⟩
 have zW:W.heap.size=w.heap.size+3:=by rw[<-hW];simp
 have HB0:Hid (Below w.heap.size w W):=by rw[<-hW];exact(((af _ w).alloc ai _).alloc (by simp) _).alloc (by simp;omega) _
 have HK:Hid (Bk W w.heap.size 25 (dkC d s)):=by rw[<-hW];exact((Bk.new w _ _).alloc _).alloc _
 have HR1:Hid (Bk W (w.heap.size+1) 142 #[.int .i64 0,.slice none 0 0,.int .i64 0]):=by
  rw[<-hW];have:=Bk.new (w.alloc (.cells (dkC d s) 25)) 142 #[.int .i64 0,.slice none 0 0,.int .i64 0];rw[Z9]at this;exact this.alloc _
 have HR2:Hid (Bk W (w.heap.size+1+1) 36 #[.int .i64 0]):=by
  rw[<-hW];have:=Bk.new ((w.alloc (.cells (dkC d s) 25)).alloc (.cells #[.int .i64 0,.slice none 0 0,.int .i64 0] 142)) 36 #[.int .i64 0];rw[Z9,Z9]at this;exact this
 have HM:Hid (DkM W B d s):=hm.below HB0.out hB;have HC:=ah (yh d s B W hd hj.n3 HM.out (by omega) (by rw[hpn];simp));have HCL:=ah (fun w' (h:DkM w' B d s) hb=>xW s.a1 d.ss.length s.c1 B d.ss w' h.ss hb (by have:=hd.n1;omega));have HFI:=ah (fun w'=>mi d s a w' (by have:=hj.n3;omega) hd.n1 hj.act);have HHA:=ah (fun w'=>oQ d s w' (by have:=hj.n3;omega) hd.n1);have HW:=ah hW;have HD:=ah hd;have HJ:=ah hj;have hact:=hj.act;have hn3:=hj.n3;obtain⟨ms,hms⟩:∃ms,ofL (bX d.sz a)=ms:=⟨_,rfl⟩
 have hm0:0<ms.size:=by rw[<-hms,bG];simp[bX,bB]
 have hmb:ms[0].toNat=a:=by
  subst hms;show(bX d.sz a)[0].toNat=a;rcases hact with rfl | rfl <;> rfl
 have hmk:Hid ((flat aA d.ss)[0]? =some (.string ms)):=by
  have:=gy (enc:=aA) dG d.ss 0 0 _ hj.mark (by omega);show _=_;rw[<-hms];simpa [aA] using this
 clear hW hm hd hj hms;have hp0:d.pn.length=0:=by rw[hpn];rfl
 obtain⟨n,hn⟩:∃n,d.ss.length=n:=⟨_,rfl⟩
 have HN:=ah hn;simp only[dkV,dkC,hn,hp0]at HC HCL HK HW HFI HHA hn3 ⊢;clear hn hp0 hpn;refine callsIn_of_wp_marks Tryz.func78 rfl trivial ?_ rfl;simp only[Tryz.ntmps78,List.size_toArray,Z5,List.length_nil,Nat.reduceAdd,Nat.reduceSub,Array.replicate_succ,Array.replicate_zero,List.push_toArray,List.append_toArray,List.nil_append,List.cons_append];obtain⟨k0,k1,k2,k3⟩:=HK.out.dk4
 gi_wp2_with fail
 rw[HW.out];refine⟨trivial,(callsIn_wide.2 HC.out).mono ?_⟩;rintro e w1 ⟨rfl,hb1⟩;obtain⟨k0,k1,k2,k3⟩:=(HK.out.below hb1 (by omega)).dk4;have HB1:=ah hb1;have z1:=hb1.size;clear hb1 HC
 gi_wp2_with fail
 refine⟨trivial,(callsIn_wide.2 (HCL.out w1 (HM.out.below HB1.out (by omega)) (by omega))).mono ?_⟩;rintro e w2 ⟨A1,c1,rfl,ha1,hb2,hc1,hm1⟩;have HO:∃gb,A1=some ⟨gb,0,none⟩/\w2.ownsRow w1.heap.size 9 1 (.slice (some ⟨gb,0,none⟩) n c1) n (flat aA d.ss):=by
  rcases ha1 with h | ⟨h,_⟩
  . rcases h.2 with ⟨_,h⟩ | ⟨g,cap,cur,hv,_⟩
    . omega
    . cases hv;exact⟨g,rfl,h⟩
  . omega
 obtain⟨gb,rfl,ho⟩:=HO;have HO:=ah ho;obtain⟨hgb,cur,hcur,hcu⟩:=mZ ho;have HSL:Hid (Sl w2 w2.heap.size 1 (some ⟨gb,0,none⟩) n (flat aA d.ss)):=Sl.of_own ho;have x0:w2.cell? ⟨gb,0,none⟩=some (.string ms):=by rw[hcur.cell];exact hcu 0 _ hmk.out
 have HB2:Hid (Below W.heap.size W w2):=HB1.out.trans (hb2.mono (by omega));have z2:w1.heap.size<=w2.heap.size:=hb2.size;have HK2:Hid (Bk w2 w.heap.size 25 #[.int .i64 d.sz,.slice s.a1 n s.c1,.slice s.a2 0 s.c2,.int .i64 d.lf]):=HK.out.below HB2.out (by omega);obtain⟨k0,k1,k2,k3⟩:=HK2.out.dk4;clear ha1 ho hcur hcu hb2 hmk HCL
 gi_wp2_with fail
 gi_loopw [25] (fun i wr=>i= .int .i64 0/\w2=wr) (fun _ _=>0)
 case atStart=>exact⟨rfl,rfl⟩
 case round =>
  obtain⟨rfl,rfl⟩:=hrel;have HA3:Hid (∀x:MS,Bk (w2.alloc (.cells #[x,.slice none 0 0,.int .i64 0] 142)) w.heap.size 25 #[.int .i64 d.sz,.slice s.a1 n s.c1,.slice s.a2 0 s.c2,.int .i64 d.lf]):=fun x=>HK2.out.alloc _;obtain⟨v0,hv0⟩:∃v0:Int,v0= ((a:Nat):Int):=⟨_,rfl⟩
  have HV0:=ah hv0;clear hv0;have hfa:=gm (ss:=d.ss) HJ.out.act (by rw[HN.out];exact hn3);rw[HN.out]at hfa;have HAR:Hid (dU d.ss a= (d.ss.drop (aC d.ss a)).take (hf d.ss)):=rfl;have HRC:Hid (frs d.sz (dU d.ss a).flatten=some (rs,u)):=HJ.out.recs;have HAL:Hid ((dU d.ss a).flatten.length=hf d.ss*d.sz):=by show _=_;rw[uS (iD HJ.out.len),zi HJ.out.act (by rw[HN.out];exact hn3)]
  obtain⟨st,hst⟩:∃st,aC d.ss a=st:=⟨_,rfl⟩
  obtain⟨h,hh⟩:∃h,hf d.ss=h:=⟨_,rfl⟩
  obtain⟨ar,har⟩:∃ar,dU d.ss a=ar:=⟨_,rfl⟩
  rw[hst,hh]at hfa HAR;rw[hh]at HAL;rw[har]at HAR HRC HAL;have HFI2:=ah (fun w'=>HFI.out w');have HHA2:=ah (fun w'=>HHA.out w');rw[hst]at HFI2;rw[hh]at HHA2;clear HFI HHA hst hh har;have hn1:n<=1000:=by rw[<-HN.out];exact HD.out.n1
  obtain⟨i0,hi,hz0,hz1,hz2⟩:=info_parts iR;obtain⟨Ak,hsr,hsk⟩:=wL (P:=Tryz.prog) 22 i0 Tryz.underlying22 hi hz1 (some ⟨gb,0,none⟩) n c1 st h (by omega);have hsm:Hid (Sl w2 w2.heap.size 1 Ak h (flat aA ar)):=by
   have:=hsk w2 w2.heap.size _ (by omega) HSL.out hfa.1;rw[yH,<-HAR.out]at this;exact this
  have Hi:=ah hi;have Hz0:=ah hz0;have Hz1:=ah hz1;have Hz2:=ah hz2;have HACT:=ah hact;clear hi hz0 hz1 hz2 hsk;have hsr2: (if st<=c1 then c1 - st else 0)=c1 - st:=by rw[if_pos (by omega)]
  clear hsr2;obtain⟨q0,q1,q2,q3⟩:=(HA3.out (.int .i64 1)).dk4;obtain⟨p0,p1,p2,p3⟩:=(HA3.out (.int .i64 2)).dk4;rcases hact with rfl | rfl
  all_goals
   gi_wp2_with fail
   generalize hW3:w2.alloc _=W3;have HW3:=ah hW3;have HB3:Hid (Below w2.heap.size w2 W3):=by rw[<-hW3];exact(af _ w2).alloc ai _
   have z3:W3.heap.size=w2.heap.size+1:=by rw[<-hW3];simp
   have HC3:Hid (Bk W3 w2.heap.size 142 #[.int .i64 v0,.slice none 0 0,.int .i64 0]):=by rw[<-hW3,HV0.out];exact Bk.new w2 _ _
   clear hW3;refine⟨trivial,(callsIn_wide.2 (HFI2.out _)).mono ?_⟩;rintro e w4 ⟨rfl,hb4⟩;have HB4:Hid (Below w2.heap.size w2 w4):=HB3.out.trans (hb4.mono (by omega));have HC4:Hid (Bk w4 w2.heap.size 142 #[.int .i64 v0,.slice none 0 0,.int .i64 0]):=HC3.out.below hb4 (by omega);have z4:w2.heap.size+1<=w4.heap.size:=by have:=hb4.size;omega
   obtain⟨k0,k1,k2,k3⟩:=(HK2.out.below HB4.out HK2.out.lt).dk4;clear hb4 q0 q1 q2 q3 p0 p1 p2 p3
   gi_wp2_with fail
   refine⟨trivial,(callsIn_wide.2 (HHA2.out _)).mono ?_⟩;rintro e w5 ⟨rfl,hb5⟩;have HB5:Hid (Below w2.heap.size w2 w5):=HB4.out.trans (hb5.mono (by omega));have HC5:Hid (Bk w5 w2.heap.size 142 #[.int .i64 v0,.slice none 0 0,.int .i64 0]):=HC4.out.below hb5 (by omega);have z5:w2.heap.size+1<=w5.heap.size:=by have:=hb5.size;omega
   obtain⟨k0,k1,k2,k3⟩:=(HK2.out.below HB5.out HK2.out.lt).dk4;have HJN:=ah (Jm Ak h (c1 - st) w2.heap.size ar w5 (hsm.out.below HB5.out ai) (by omega) (by omega) (by omega) (by rw[HAL.out];exact Z0 (Nat.mul_le_mul (show h<=1000 by omega) HD.out.sz1) (by omega)) (by omega));clear hb5
   gi_wp2_with fail
   refine⟨trivial,(callsIn_wide.2 HJN.out).mono ?_⟩;rintro e w6 ⟨rfl,hb6⟩;have HB6:Hid (Below w2.heap.size w2 w6):=HB5.out.trans (hb6.mono (by omega));have HC6:Hid (Bk w6 w2.heap.size 142 #[.int .i64 v0,.slice none 0 0,.int .i64 0]):=HC5.out.below hb6 (by omega);have z6:w2.heap.size+1<=w6.heap.size:=by have:=hb6.size;omega
   obtain⟨k0,k1,k2,k3⟩:=(HK2.out.below HB6.out HK2.out.lt).dk4;clear hb6 HJN HHA2 HFI2
   gi_wp2_with fail
   refine⟨trivial,(callsIn_wide.2 (Fj (ofL ar.flatten) d.sz _)).mono ?_⟩;rintro e w7 ⟨rfl,hw7⟩;have hb7:Below w6.heap.size w6 w7:=by rw[hw7];exact((af _ w6).alloc ai _).alloc (by simp) _
   have z7:w7.heap.size=w6.heap.size+2:=by rw[hw7];simp
   have HBS:Hid (Bk w7 w6.heap.size 9 #[.string (ofL ar.flatten)]):=by rw[hw7];exact(Bk.new w6 _ _).alloc _
   have HBZ:Hid (Bk w7 (w6.heap.size+1) 3 #[.int .i64 d.sz]):=by
    rw[hw7];have:=Bk.new (w6.alloc (.cells #[.string (ofL ar.flatten)] 9)) 3 #[.int .i64 d.sz]
    rwa[Z9]at this
   have HB7:Hid (Below W.heap.size W w7):=HB2.out.trans ((HB6.out.trans (hb7.mono (by omega))).mono (by omega));have HI0:Hid (JoI w.heap.size w2.heap.size (w7.heap.size+2) v0 w [] none 0 w7):=⟨HC6.out.below hb7 (by omega),World.ownsRow_nil _ _ _ _,HR1.out.below HB7.out (by omega),HR2.out.below HB7.out (by omega),HB0.out.trans (HB7.out.mono (by omega)),Nat.le_refl _,ZZ _,Int.le_refl _⟩
   have HRC2:Hid (frs d.sz (toL (ofL ar.flatten))=some (rs,u)):=by show _=_;rw[bO];exact HRC.out
   have hasz: (ofL ar.flatten).size<=1000000:=by rw[bG,HAL.out];exact Z0 (Nat.mul_le_mul (show h<=1000 by omega) HD.out.sz1) (by omega)
   clear hw7 hb7 k0 k1 k2 k3
   gi_wp2
   refine Et (α:=Fr) (F:=Fence.wide) (n:=6) rfl (by omega) (gf:=221) (lb:=#[.pointer (some ⟨w6.heap.size,0,none⟩),.pointer (some ⟨w6.heap.size+1,0,none⟩)]) rfl trivial (enters_of Tryz.func221 (by kernel_rfl) rfl)
    (E8 5 w6.heap.size (w6.heap.size+1) (w7.heap.size+2) (by omega) (ofL ar.flatten) d.sz w7 hasz HD.out.sz0 HD.out.sz1 HBS.out HBZ.out) KeepF.trans (fun W l r o' hl hlr=>⟨World.putObj_heap_other (by omega),World.putObj_heap_other (by omega)⟩) (fun W l r o' xs hl hlr hp=>hp.put hlr) (fun A C h hA=>⟨h.block _ (by omega),h.block _ (by omega)⟩) (af _ _) (fun _=>rfl)
    (fun pre W=>∃A c,JoI w.heap.size w2.heap.size (w7.heap.size+2) v0 w pre A c W) (fun _ _ _=>False)
    ?_ ?_ ?_ ⟨none,0,HI0.out⟩ ?_ ?_ ?_ ?_ ?_
   . rintro pre A C row ⟨Aq,cq,h⟩ hg hr
     refine⟨Aq,cq,h.grown hg (fun e=>?_) (fun e=>?_) (fun e=>?_) ?_ (fun k e=>?_)⟩
     . have:=(hr _ e.symm).1;omega
     . have:=(hr _ e.symm).1;omega
     . have:=(hr _ e.symm).1;omega
     . cases hv: (Value.slice Aq (frL pre).length cq).ownBlock with
       | none=>exact .inl rfl
       | some k =>
         refine .inr fun e=>?_;obtain⟨_,cur,hcur⟩:=bT h.own hv;obtain⟨_,o,ho,hc⟩:=hr _ e.symm;rw[hcur]at ho;cases ho;cases hc
     . have:=(hr _ e).1;omega
   . intro c pre A C row h;exact h.elim
   . rintro pre A C ⟨Aq,cq,h⟩ hb
     exact⟨Aq,cq,h.below hb⟩
   rotate_left 1
   . intro l x W K hK
     have HKK:=ah hK;clear hK;simp only[frV]
     gi_wp2
     exact HKK.out
   . rintro l pre x W' hP hWz ⟨Aq,cq,hi⟩
     rcases hP pre x rfl with ⟨_,hbad⟩ | ⟨u',he,hs,hcc,hcm,hnl,hl1,hu1,hlen⟩
     . rw[HRC2.out]at hbad;cases hbad
     . have hlz:¬(u':Int)<0:=by omega
       have hfu:frU (pre++ [x])= (u':Int):=by rw[tF,he]
       have hfl:frL (pre++ [x])=frL pre++x.2.1:=tu _ _;have HFU:=ah hfu;have HFL:=ah hfl;have hsum: (frL pre).length+x.1.2.1<=1000512000:=by rw[hnl,<-ae,<-hfl];omega
       have HI:=ah hi;have HS:=ah hs;have hbx:=HI.out.k.lt;obtain⟨c0,c1',c2⟩:=hi.k.three;have f1:=hi.k.free 1;have f2:=hi.k.free 2;have hone:∀v∈flat aA x.2.1,v.oneCell'=true:=by
        intro v hv;unfold flat aA at hv;simp at hv;obtain⟨_,_,rfl⟩:=hv;rfl
       have HONE:=ah hone;obtain⟨⟨xA,xn,xc⟩,xl,xe⟩:=x;simp only at he hnl hsum hl1 HS HONE HFL ⊢;subst he;subst hnl;clear hi hs hP hone hfu hfl
       gi_wp2_with (gi_at_builtin;refine aM ?_)
       refine aF ?_;refine nM (base:=w7.heap.size+2) (size:=1) rfl (.tmp 73) (.tmp 74) 22 rfl 9 i0 _ 16 Tryz.underlying22 Hi.out Hz0.out Hz1.out Hz2.out rfl (by decide) (.slice Aq (frL pre).length cq) (frL pre).length (flat aA (frL pre)) rfl HI.out.own W'.heap.size xA xl.length xc (flat aA xl) rfl HS.out HONE.out (by unfold maxLen;omega) (by omega) (by omega) ?_;intro A4 c4 w4 ho hg hc41 hc42;have hr:∀k,(Value.slice Aq (frL pre).length cq).ownBlock=some k->w7.heap.size+2<=k/\∃cur,W'.heap[k]? =some (.cells cur 9 (0,0)):=fun k hk=>bT HI.out.own hk;have hlow:∀k,k<w7.heap.size+2->w4.heap[k]? =W'.heap[k]? :=fun k hk=>hg.block k (by omega) (fun e=>by have:=(hr k e.symm).1;omega);have HR:Hid (∀k,k<w7.heap.size+2->w4.heap[k]? =W'.heap[k]?):=hlow;have HC8:Hid (Bk w4 w2.heap.size 142 #[.int .i64 v0,.slice Aq (frL pre).length cq,.int .i64 (frU pre)]):=(hlow _ (by omega)).trans HI.out.k;have HBW:Hid (Below w.heap.size w w4):=HI.out.b.grown hg (by omega) (fun k e=>by have:=(hr k e).1;omega);have HR18:Hid (Bk w4 (w.heap.size+1) 142 #[.int .i64 0,.slice none 0 0,.int .i64 0]):=(hlow _ (by omega)).trans HI.out.r1;have HR28:Hid (Bk w4 (w.heap.size+1+1) 36 #[.int .i64 0]):=(hlow _ (by omega)).trans HI.out.r2;have hln: (frL (pre++ [((xA,xl.length,xc),xl,(u':Int))])).length= (frL pre).length+xl.length:=by rw[HFL.out,ae]
       have HOW:Hid (w4.ownsRow (w7.heap.size+2) 9 1 (.slice A4 (frL (pre++ [((xA,xl.length,xc),xl,(u':Int))])).length c4) (frL (pre++ [((xA,xl.length,xc),xl,(u':Int))])).length (flat aA (frL (pre++ [((xA,xl.length,xc),xl,(u':Int))])))):=by
        show World.ownsRow _ _ _ _ _ _ _;rw[hln,HFL.out,bu];exact ho
       obtain⟨m,hm⟩:∃m,(frL pre).length=m:=⟨_,rfl⟩
       rw[hm]at hln HC8 hc41 hsum ⊢;have HLN:=ah hln;have HC41:=ah hc41;have HC42:=ah hc42;have c1':=HC8.out.cell 1;have c2':=HC8.out.cell 2;have f1:=HC8.out.free 1;have f2:=HC8.out.free 2;simp at c1' c2';have hz4:=hg.size;clear ho hg hr hlow c0 c2 hln hc41 hc42 hm
       gi_wp2
       refine⟨⟨?_,?_⟩,⟨?_,?_⟩,A4,c4,?_,?_,?_,?_,?_,?_,?_,?_⟩
       . exact(Z8 _ _ _ _ (by show _≠w2.heap.size;omega)).trans ((Z8 _ _ _ _ (by show _≠w2.heap.size;omega)).trans (HR.out _ (by omega)))
       . exact(Z8 _ _ _ _ (by show _≠w2.heap.size;omega)).trans ((Z8 _ _ _ _ (by show _≠w2.heap.size;omega)).trans (HR.out _ (by omega)))
       . exact(Z8 _ _ _ _ (by show _≠w2.heap.size;omega)).trans ((Z8 _ _ _ _ (by show _≠w2.heap.size;omega)).trans (HR.out _ (by omega)))
       . exact(Z8 _ _ _ _ (by show _≠w2.heap.size;omega)).trans ((Z8 _ _ _ _ (by show _≠w2.heap.size;omega)).trans (HR.out _ (by omega)))
       . rw[HLN.out,HFU.out]
         have:=(HC8.out.set 1 (.slice A4 (m+xl.length) c4)).set 2 (.int .i64 (u':Int))
         simpa using this
       . exact iN (iN HOW.out HC8.out (by decide) 1 _) (HC8.out.set 1 (.slice A4 (m+xl.length) c4)) (by decide) 2 _
       . exact(HR18.out.far (p:=⟨w2.heap.size,1,none⟩) (by show _≠w2.heap.size;omega) _).far (p:=⟨w2.heap.size,2,none⟩) (by show _≠w2.heap.size;omega) _
       . exact(HR28.out.far (p:=⟨w2.heap.size,1,none⟩) (by show _≠w2.heap.size;omega) _).far (p:=⟨w2.heap.size,2,none⟩) (by show _≠w2.heap.size;omega) _
       . exact(HBW.out.setCell (p:=⟨w2.heap.size,1,none⟩) (by show w.heap.size<=w2.heap.size;omega) _).setCell (p:=⟨w2.heap.size,2,none⟩) (by show w.heap.size<=w2.heap.size;omega) _
       . rw[HLN.out];exact HC41.out
       . exact HC42.out
       . rw[HFU.out];omega
   . rintro D xs W' hD hS ⟨Aq,cq,hi⟩ hK
     have hend:frL xs=rs/\frU xs= (u:Int):=by
      rcases hS with ⟨pre,x,rfl,hx⟩ | ⟨u',hu,hf⟩
      . have:=hi.nn;rw[tF,hx]at this;omega
      . rw[HRC2.out]at hf
        simp only[Option.some.injEq,Prod.mk.injEq]at hf;exact⟨hf.1.symm,by rw[hu,hf.2]⟩
     have HI:=ah hi;have HE:=ah hend;have HK:=ah hK;have hbx:=HI.out.k.lt;obtain⟨c0,c1',c2⟩:=hi.k.three;obtain⟨r0,r1,r2⟩:=hi.r1.three;have g0:=hi.r1.free 0;have g1:=hi.r1.free 1;have g2:=hi.r1.free 2;have e0:=hi.r2.cell 0;have e1:=hi.r2.free 0;simp at e0;clear hi hK hS hend
     gi_wp2
     refine⟨by simp,.inl ⟨_,_,rfl,run_takeDeferred ((Z8 _ _ _ _ (by simp;omega)).trans ((Z8 _ _ _ _ (by simp;omega)).trans ((Z8 _ _ _ _ (by simp;omega)).trans ((Z8 _ _ _ _ (by simp;omega)).trans HK.out)))),?_⟩⟩;obtain⟨Wf,hWf⟩:∃Wf,(((W'.setCell ⟨w.heap.size+1,0,none⟩ (.int .i64 v0)).setCell ⟨w.heap.size+1,1,none⟩ (.slice Aq (frL xs).length cq)).setCell ⟨w.heap.size+1,2,none⟩ (.int .i64 (frU xs))).setCell ⟨w.heap.size+1+1,0,none⟩ (.int .i64 0)=Wf:=⟨_,rfl⟩
     have k1:Bk Wf (w.heap.size+1) 142 #[.int .i64 v0,.slice Aq (frL xs).length cq,.int .i64 (frU xs)]:=by
      rw[<-hWf];have:=(((HI.out.r1.set 0 (.int .i64 v0)).set 1 (.slice Aq (frL xs).length cq)).set 2 (.int .i64 (frU xs))).far (p:=⟨w.heap.size+1+1,0,none⟩) (by show w.heap.size+1≠w.heap.size+1+1;omega) (.int .i64 0)
      simpa using this
     have k2:Bk Wf (w.heap.size+1+1) 36 #[.int .i64 0]:=by
      rw[<-hWf];have:=(((HI.out.r2.far (p:=⟨w.heap.size+1,0,none⟩) (by show w.heap.size+1+1≠w.heap.size+1;omega) (.int .i64 v0)).far (p:=⟨w.heap.size+1,1,none⟩) (by show w.heap.size+1+1≠w.heap.size+1;omega) (.slice Aq (frL xs).length cq)).far (p:=⟨w.heap.size+1,2,none⟩) (by show w.heap.size+1+1≠w.heap.size+1;omega) (.int .i64 (frU xs))).set 0 (.int .i64 0)
      simpa using this
     have hbf:Below w.heap.size w Wf:=by
      rw[<-hWf];exact(((HI.out.b.setCell (p:=⟨w.heap.size+1,0,none⟩) (by show w.heap.size<=w.heap.size+1;omega) _).setCell (p:=⟨w.heap.size+1,1,none⟩) (by show w.heap.size<=w.heap.size+1;omega) _).setCell (p:=⟨w.heap.size+1,2,none⟩) (by show w.heap.size<=w.heap.size+1;omega) _).setCell (p:=⟨w.heap.size+1+1,0,none⟩) (by show w.heap.size<=w.heap.size+1+1;omega) _
     have hof:Wf.ownsRow (w7.heap.size+2) 9 1 (.slice Aq (frL xs).length cq) (frL xs).length (flat aA (frL xs)):=by
      rw[<-hWf];exact iN (iN (iN (iN HI.out.own HI.out.r1 (by decide) 0 _) (HI.out.r1.set 0 _) (by decide) 1 _) ((HI.out.r1.set 0 (.int .i64 v0)).set 1 (.slice Aq (frL xs).length cq)) (by decide) 2 _)
       (((HI.out.r2.far (p:=⟨w.heap.size+1,0,none⟩) (by show w.heap.size+1+1≠w.heap.size+1;omega) (.int .i64 v0)).far (p:=⟨w.heap.size+1,1,none⟩) (by show w.heap.size+1+1≠w.heap.size+1;omega) (.slice Aq (frL xs).length cq)).far (p:=⟨w.heap.size+1,2,none⟩) (by show w.heap.size+1+1≠w.heap.size+1;omega) (.int .i64 (frU xs))) (by decide) 0 _
     have hkf:Wf.heap[D]? =some (.deferred (some [])):=by
      rw[<-hWf];exact(Z8 _ _ _ _ (by simp;omega)).trans ((Z8 _ _ _ _ (by simp;omega)).trans ((Z8 _ _ _ _ (by simp;omega)).trans ((Z8 _ _ _ _ (by simp;omega)).trans HK.out)))
     rw[hWf];have hop:=gW (W':=Wf.putObj D (.deferred none)) hof (fun k hk=>World.putObj_heap_other (fun e=>by
      subst e;obtain⟨_,cur,h2⟩:=bT hof hk;rw[hkf]at h2;cases h2))
     refine⟨_,Lm rfl rfl rfl ((World.putObj_heap_other (by omega)).trans k1) ((World.putObj_heap_other (by omega)).trans k2),Aq,cq,?_,?_,?_,HI.out.c2,?_⟩
     . rw[HE.out.1,HE.out.2,HV0.out]
     . rw[<-HE.out.1];exact Sl.of_own hop
     . rw[<-HE.out.1];exact HI.out.c1
     . exact hbf.grown (grownBy_putObj' _ _ _) (by have:=hbf.size;simpa using this) (fun k e=>by cases e;omega)
   . intro D c pre W _ _ h;exact h.elim
end
theorem Eh{s:MR}{T:MU}(h:s=ofL T)(a b:Nat):s.extract a b=ofL ((T.drop a).take (b - a)):=by
 subst h;rcases Nat.le_total a b with hab | hab
 . have:=rH (ofL T) a (b - a)
   rw[Nat.add_sub_cancel' hab,bO]at this;exact this
 . rw[Nat.sub_eq_zero_of_le hab,List.take_zero]
   apply ByteArray.ext
   apply Array.toList_inj.1
   show((ofL T).extract a b).data.toList= []
   rw[jW,Nat.sub_eq_zero_of_le hab,List.take_zero]
def vK(l:List MU)(sz:Nat)(w:MQ)(e:Ending)(w':MQ):Prop:=Below w.heap.size w w'/\if dS l=true/\l≠ [] then
  ∃A c,e= .returned (.tuple #[.slice A (secs sz (az l)).length c,.int .i64 0])/\w'.ownsRow w.heap.size 9 1 (.slice A (secs sz (az l)).length c) (secs sz (az l)).length (flat aA (secs sz (az l)))/\ (secs sz (az l)).length<=c/\c<=maxLen
 else e= .returned (.tuple #[.slice none 0 0,.int .i64 (eQ l).2])
theorem xk{sz:Nat}(hz:0<sz)(T:MU): (secs sz T).length<=T.length:=by
 rw[(jY hz _ T ai).1];unfold nsec;rcases Nat.eq_zero_or_pos T.length with h | h
 . rw[h,Nat.div_eq_of_lt (by omega)];omega
 . exact Nat.div_le_of_le_mul (by have:=Nat.mul_le_mul_right T.length (show 1<=sz from hz);rw[show sz*T.length= (sz - 1)*T.length+T.length by rw[<-Nat.succ_mul];congr 1;omega];have h2:=Nat.mul_le_mul_left (sz - 1) h;omega)
theorem wB(A:OA)(n c B sz:Nat)(l:List MU)(w:MQ)(h:Sl w B 1 A n (flat aA l))(hB:B<=w.heap.size)(hn:n<=maxLen)(hz0:0<sz)(hz1:sz<=512) :
  Calls Tryz.prog 109 #[.slice A n c,.int .i64 sz] w (vK l sz w):=by
 have HL:=ah (h.len dG (by omega));have HP:=ah (DU A n c B l w h hB hn);have HR1:Hid (∀e w',dS l=true->l≠ []->Below w.heap.size w w'-> (∃A c,e= .returned (.tuple #[.slice A (secs sz (az l)).length c,.int .i64 0])/\w'.ownsRow w.heap.size 9 1 (.slice A (secs sz (az l)).length c) (secs sz (az l)).length (flat aA (secs sz (az l)))/\ (secs sz (az l)).length<=c/\c<=maxLen)->vK l sz w e w'):=fun e w' h1 h2 h3 h4=>⟨h3,by rw[if_pos ⟨h1,h2⟩];exact h4⟩
 have HR2:Hid (∀e w',¬(dS l=true/\l≠ [])->Below w.heap.size w w'->e= .returned (.tuple #[.slice none 0 0,.int .i64 (eQ l).2])->vK l sz w e w'):=fun e w' h1 h2 h3=>⟨h2,by rw[if_neg h1];exact h3⟩
 unfold maxLen at hn;by_cases hf:dS l=true
 . have hpt:eQ l= (bJ l,0):=by rw[eQ,if_pos hf]
   have hFT:=fitB_iff.1 hf;have hle:=mG hFT;rw[hpt]at HP;unfold qy at HP;simp only at HP;have HPT:=ah hpt;have HF:=ah hf;clear h hpt hFT;by_cases hn0:n=0
   . subst hn0
     have hl0:l= []:=List.length_eq_zero_iff.1 HL.out;have HL0:=ah hl0;clear hl0 hf
     go_enter Tryz.func109,Tryz.ntmps109
     go_wp2_with fail;refine HP.out.mono ?_;rintro e w1 ⟨rfl,hb1⟩;have HB1:=ah hb1;clear hb1 HP
     go_wp2
     go_ret2
     exact HR2.out _ _ (fun h=>h.2 HL0.out) HB1.out (by rw[HPT.out];rfl)
   . have hlne:l≠ []:=by intro h;rw[h]at HL;exact hn0 HL.out.symm
     have HNE:=ah hlne;have hni:¬((n:Int)=0):=by omega
     have HEF:Hid ((ofL [1]++ofL (aj (bJ l).length))++ofL (bJ l)=ofL (az l)):=by
      show _=_;rw[mM,mM];rfl
     have hl8:=ek (n:=(bJ l).length) (by omega);have HEL:Hid ((az l).length<=65600000):=by
      show _<=_;simp only[az,Z5,ae];omega
     obtain⟨i0,hi,hzz0,hzz1,hzz2⟩:=info_parts iR;have Hi:=ah hi;have Hz0:=ah hzz0;have Hz1:=ah hzz1;have Hz2:=ah hzz2;clear hi hzz0 hzz1 hzz2 hlne hf;have HPI:=ah (fun w'=>lX (bJ l).length (by omega) w');have hs1: (ofL (bJ l)).size= (bJ l).length:=bG _;have hs2: (ofL (aj (bJ l).length)).size<=6:=by rw[bG];exact hl8
     obtain⟨t1,ht1⟩:∃t1,ofL (bJ l)=t1:=⟨_,rfl⟩
     obtain⟨t2,ht2⟩:∃t2,ofL (aj (bJ l).length)=t2:=⟨_,rfl⟩
     rw[ht1,ht2]at HEF;rw[ht1]at hs1 HP;rw[ht2]at hs2 HPI;rw[<-hs1]at hle HPI;have hs3: (ofL [1]).size=1:=bG _;have hb1:¬(9223372036854775807< (ofL [1]).size+t2.size):=by omega
     have hb2:¬(9223372036854775807< (ofL [1]++t2).size+t1.size):=by rw[ByteArray.size_append];omega
     rw[show ofL [1]= (⟨#[1]⟩:MR) from rfl]at HEF hb1 hb2;clear ht1 ht2 hs1 hs3 hl8;obtain⟨T,hT⟩:∃T,az l=T:=⟨_,rfl⟩
     obtain⟨tx,htx⟩:∃tx,((⟨#[1]⟩:MR)++t2)++t1=tx:=⟨_,rfl⟩
     rw[htx]at HEF;rw[hT]at HEF HEL;have HTT:=ah hT;have hts:tx.size=T.length:=by rw[HEF.out,bG]
     have htl:T.length<=65600000:=HEL.out;have HTX:=ah htx;clear hT htx
     go_enter Tryz.func109,Tryz.ntmps109
     go_wp2_with fail;refine HP.out.mono ?_;rintro e w1 ⟨rfl,hb1⟩;have HB1:=ah hb1;clear hb1 HP;go_wp2_with fail;refine(HPI.out _).mono ?_;rintro e w2 ⟨rfl,hb2⟩;have HB2:Hid (Below w.heap.size w w2):=HB1.out.trans (hb2.mono HB1.out.size);clear hb2 HPI;go_wp2_with fail;rw[HTX.out]
     go_loopw[10,11] (fun v i wr=>∃(a:Nat)(d:List MU)(A':OA)(c':Nat),i= .int .i64 a/\a<=T.length+512/\d.length<=a/\v= .slice A' d.length c'/\Hid (secs sz T=d++secs sz (T.drop a))/\Hid (wr.ownsRow w.heap.size 9 1 (.slice A' d.length c') d.length (flat aA d))/\d.length<=c'/\c'<=maxLen/\Hid (Below w.heap.size w wr)) (fun _ i _=>T.length+512 - (intOf i).toNat)
     case atStart=>exact⟨0,[],none,0,rfl,ZZ _,Nat.le_refl _,rfl,by show _=_;simp,World.ownsRow_nil _ _ _ _,Nat.le_refl _,ZZ _,HB2.out⟩
     case round =>
      obtain⟨a,dd,A',c',rfl,ha,hda,rfl,hS,hO,hdc,hcm,hBel⟩:=hrel;by_cases hlt:a<T.length
      . have hlz: (a:Int)< (tx.size:Int):=by omega
        have hsc:Hid (secs sz T= (dd++ [bB sz ((T.drop a).take sz)])++secs sz (T.drop (a+sz))):=by
         show _=_;rw[hS.out,sw hz0 (by intro h;have:=congrArg List.length h;rw[List.length_drop]at this;simp at this;omega),List.drop_drop];simp
        obtain⟨hi,hhi,hmi⟩:∃hi:Nat,hi=min (a+sz) T.length/\min ((a:Int)+ (sz:Int)) (T.length:Int)= (hi:Int):=⟨_,rfl,by omega⟩
        have hex:tx.extract a hi=ofL ((T.drop a).take sz):=by
         rw[Eh HEF.out]
         congr 1
         rw[hhi];rcases Nat.le_total (a+sz) T.length with h | h
         . rw[Nat.min_eq_left h,Nat.add_sub_cancel_left]
         . rw[Nat.min_eq_right h,ZW (by rw[List.length_drop];omega),ZW (by rw[List.length_drop];omega)]
        have HPD:=ah (fun w'=>lZ ((T.drop a).take sz) sz w' (by rw[List.length_take];omega) hz1);rw[<-hex]at HPD;have hhi1: (hi:Int)<= (T.length:Int):=by omega
        have hhi2: (a:Int)<= (hi:Int):=by omega
        have hpl: (bB sz ((T.drop a).take sz)).length=sz:=gz (by rw[List.length_take];omega);clear hS hex hhi;go_wp2_with fail;refine(HPD.out _).mono ?_;rintro e w3 ⟨rfl,hb3⟩;have HO2:Hid (w3.ownsRow w.heap.size 9 1 (.slice A' dd.length c') dd.length (flat aA dd)):=fJ hO.out hb3;have HB3:Hid (Below w.heap.size w w3):=hBel.out.trans (hb3.mono hBel.out.size);obtain⟨v,hv⟩:∃v,ofL (bB sz ((T.drop a).take sz))=v:=⟨_,rfl⟩
        have HV:Hid (flat aA (dd++ [bB sz ((T.drop a).take sz)])=flat aA dd++ [.string v]):=by show _=_;rw[bu,<-hv];rfl
        have hv1:∀x∈ [(Value.string v)],x.oneCell'=true:=fun x hx=>by rw[List.mem_singleton.1 hx];rfl
        have HO3:Hid ((w3.alloc (.cells #[.string v] 9)).ownsRow w.heap.size 9 1 (.slice A' dd.length c') dd.length (flat aA dd)):=HO2.out.alloc _;have z3:=HB3.out.size;have hln: (dd++ [bB sz ((T.drop a).take sz)]).length=dd.length+1:=by simp
        have HLN:=ah hln;rw[hv];obtain⟨m,hm⟩:∃m,dd.length=m:=⟨_,rfl⟩
        rw[hm]at HO3 HLN hda hdc ⊢;clear hb3 hv hln hm hO HO2
        go_wp2_with (at_builtin;refine aM ?_)
        refine aF ?_;refine iL (base:=w.heap.size) (size:=1) _ rfl (.tmp 45) (.tmp 57) 22 rfl 9 i0 _ 16 Tryz.underlying22 Hi.out Hz0.out Hz1.out Hz2.out rfl (by decide) (.slice A' m c') m (flat aA dd) (by rfl) HO3.out (w3.heap.size+1) (some ⟨w3.heap.size,0,none⟩) 1 1 [.string v] (by rfl) (Sl.new w3 9 [.string v] 1 rfl) hv1 (by unfold maxLen;omega) (by omega) (by simp;omega) ?_;intro A4 c4 w4 ho4 hg4 hc4 hm4;rw[<-HV.out]at ho4;have HO4:=ah ho4;have HB4:Hid (Below w.heap.size w w4):=(HB3.out.alloc (by omega) _).grown hg4 (by simp;omega) (fun g hg=>iw HO3.out g hg);have HM4:=ah hm4;clear ho4 hg4 hm4 HO3 hv1;go_wp2_with fail;go_roundw
        case rel=>exact⟨a+sz,_,A4,c4,by go_num,by omega,by rw[HLN.out];omega,by rw[HLN.out],hsc.out,by rw[HLN.out];exact HO4.out,by rw[HLN.out];exact hc4,HM4.out,HB4.out⟩
        case measure=>simp[intOf];omega
      . have hlz:¬(a:Int)< (tx.size:Int):=by omega
        have hfin:Hid (secs sz (az l)=dd):=by
         show _=_;rw[HTT.out,hS.out,List.drop_of_length_le (by omega),zQ,List.append_nil]
        clear hS;have HCM:=ah hcm;clear hcm
        go_wp2
        go_ret2
        exact HR1.out _ _ HF.out HNE.out hBel.out ⟨A',c',by rw[hfin.out];first | done | rfl,by rw[hfin.out];exact hO.out,by rw[hfin.out];exact hdc,HCM.out⟩
 . have hpt:eQ l= ([],4):=by rw[eQ,if_neg hf]
   rw[hpt]at HP;have HPT:=ah hpt;have HF:=ah hf;clear h hpt hf
   go_enter Tryz.func109,Tryz.ntmps109
   go_wp2_with fail;refine HP.out.mono ?_;rintro e w1 ⟨rfl,hb1⟩;have HB1:=ah hb1;clear hb1 HP
   go_wp2
   go_ret2
   exact HR2.out _ _ (fun h=>HF.out h.1) HB1.out (by rw[HPT.out];rfl)
theorem F3(o x:MU)(w:MQ):Calls Tryz.prog 171 #[.string (ofL o),.string (ofL x)] w fun e w'=>e= .returned (.string (ofL x))/\w=w':=by
 go_enter Tryz.func171,Tryz.ntmps171
 go_wp2
 go_ret
 exact⟨rfl,rfl⟩
def gT(x:Int):List MS:= [.int .i64 x]
theorem IX(x:Int): (gT x).length=1:=rfl
structure qQ(sz:Nat)(qs:List Int)(nb pb db:Nat)(A:OA)(c:Nat)(x1 x2 x3:MS)(k:Nat)(w:MQ):Prop where
 n:Bk w nb 3 #[.int .i64 (min k qs.length:Nat)]
 p:Bk w pb 59 #[.slice A qs.length c]
 d:Bk w db 25 #[.int .i64 sz,x1,x2,x3]
 s:Sl w nb 1 A qs.length (flat gT qs)
theorem tO(sz:Nat)(p:Int):fK sz p<=sz:=by
 unfold fK;have:=Int.natAbs_tmod p (sz+1:Nat);rw[this];have:=Nat.mod_lt p.natAbs (show 0< ((sz+1:Nat):Int).natAbs by omega);omega
theorem Jb(sz:Nat)(p:Int)(h:sz<=512):max (p.tmod ((sz:Int)+1)) (wrap64 (-p.tmod ((sz:Int)+1)))= ((fK sz p:Nat):Int):=by
 have hl:=tO sz p;unfold fK at hl ⊢;have e: (((sz+1:Nat)):Int)= (sz:Int)+1:=by omega
 rw[e]at hl ⊢;generalize p.tmod ((sz:Int)+1)=t at *;unfold wrap64;omega
theorem Br(x:MU)(i j:Nat): (ofL x).extract i j=ofL ((x.drop i).take (j - i)):=by
 unfold ofL;apply ByteArray.ext
 simp[ByteArray.data_extract]
theorem LB{w:MQ}{b:Nat}{t:TypeId}{x:MS}(h:Bk w b t #[x])(y:MS):Bk (w.setCell ⟨b,0,none⟩ y) b t #[y]:=by
 have:=h.set 0 y
 simpa using this
theorem Gb.dN{p:Nat->Prop}{a b:MQ}(h:Gb p a b)(n:Nat):Gb p a (b.drewN n):=⟨h.os,h.tape,h.output,h.size,h.block⟩
theorem Jf{q:Nat}{x:MU}: (ofL x).extract 0 q=ofL (x.take q):=by rw[Br];simp
theorem zZ{q sz:Nat}{x:MU}(hx:x.length=sz): (ofL x).extract q sz=ofL (x.drop q):=by rw[Br,ZW (by rw[List.length_drop];omega)]
theorem Ij(sz:Nat)(qs:List Int)(nb pb db:Nat)(A:OA)(c:Nat)(x1 x2 x3:MS)(k:Nat)(o x:MU)(w:MQ)(h:qQ sz qs nb pb db A c x1 x2 x3 k w)(hz:sz<=512)(hq:qs.length<=1000000)(ho:o.length=sz)(hx:x.length=sz)(h1:nb≠pb)(h2:nb≠db) :
  Calls Tryz.prog 60 #[.string (ofL o),.string (ofL x),.pointer (some ⟨nb,0,none⟩),.pointer (some ⟨pb,0,none⟩),.pointer (some ⟨db,0,none⟩)] w fun e w'=>e= .returned (.string (ofL (x.take (fK sz (qs.getD k 0))++o.drop (fK sz (qs.getD k 0)))))/\qQ sz qs nb pb db A c x1 x2 x3 (k+1) w'/\Gb (fun b=>b=nb) w w':=by
 have H:=ah h;have n0:=h.n.cell 0;have nf:=h.n.free 0;have p0:=h.p.cell 0;have d0:=h.d.cell 0;simp at n0 p0 d0;have hoz: ((ofL o).size:Int)=sz:=by rw[bG,ho]
 have hxz: ((ofL x).size:Int)=sz:=by rw[bG,hx]
 have hoz': (ofL o).size=sz:=by rw[bG,ho]
 have hxz': (ofL x).size=sz:=by rw[bG,hx]
 clear h;obtain⟨m,hm⟩:∃m,qs.length=m:=⟨_,rfl⟩
 have HM:=ah hm;rw[hm]at n0 p0 hq;clear hm
 go_enter Tryz.func60,Tryz.ntmps60
 by_cases hk:k<m
 . have hkm:min k m=k:=by omega
   rw[hkm]at n0;clear hkm;obtain⟨b,off,p,hA,hb,hp,hc⟩:=H.out.s.at_ IX (by omega) (by rw[HM.out];exact hk);have y0:=hc 0 _ rfl;simp only[Nat.mul_one,Nat.add_zero]at y0;rw[hA]at p0;have hpk:Hid (qs.getD k 0=p):=by show _=_;rw[List.getD_eq_getElem?_getD,hp];rfl
   clear hc hp;go_wp2_with fail
   go_quiet(fail)
   go_wp2_with fail;rw[Jb sz p hz];obtain⟨q,hqq⟩:∃q,fK sz p=q:=⟨_,rfl⟩
   have hql:=tO sz p;rw[hqq]at hql ⊢;have HQ:=ah hqq;clear hqq;have hqi: (q:Int)<= (sz:Int):=by omega
   go_quiet(fail)
   go_wp2_with fail;go_ret
   refine⟨?_,⟨?_,((H.out.p.drewN _).far (p:=⟨nb,0,none⟩) h1.symm _).drewN _,((H.out.d.drewN _).far (p:=⟨nb,0,none⟩) h2.symm _).drewN _,((H.out.s.drewN _).setCell (p:=⟨nb,0,none⟩) ai _).drewN _⟩,?_⟩
   . rw[hpk.out,HQ.out,<-mM,<-Jf,<-zZ ho];rfl
   . rw[HM.out,show min (k+1) m=k+1 by omega]
     exact(LB (H.out.n.drewN _) _).drewN _
   . exact(((Gb.refl _ w).dN _).trans (Gb.set (p:=fun b=>b=nb) rfl 0 _)).dN _
 . have hkm:min k m=m:=by omega
   rw[hkm]at n0;clear hkm;have hpk:Hid (fK sz (qs.getD k 0)=0):=by
    show _=_;rw[List.getD_eq_getElem?_getD,List.getElem?_eq_none (by rw[HM.out];omega)];unfold fK;simp
   have h00: (0:Int)<= (sz:Int):=by omega
   go_wp2_with fail
   go_quiet(fail)
   go_wp2_with fail;go_ret
   refine⟨?_,⟨?_,H.out.p.drewN _,H.out.d.drewN _,H.out.s.drewN _⟩,?_⟩
   . rw[hpk.out,List.take_zero,List.nil_append,<-zZ ho];rfl
   . have:=H.out.n
     rw[HM.out,show min k m=m by omega]at this;rw[HM.out,show min (k+1) m=m by omega];exact this.drewN _
   . exact(Gb.refl _ w).dN _
theorem Gg(d:Dk)(s:Dsl)(B:Nat)(w:MQ)(hd:d.Ok)(hm:DkM w B d s)(hB:B<=w.heap.size)(hp:d.pn.length<=900000) :
  Calls Tryz.prog 100 #[dkV d s] w (aW (if d.lf=0 then d else doO d none) (if d.lf=0 then 20 else 0) w):=by
 obtain⟨W,hW⟩:∃W,(w.alloc (.cells (dkC d s) 25)).alloc (.cells #[.int .i64 0,.slice none 0 0,.slice none 0 0,.int .i64 0] 25)=W:=⟨_,rfl⟩
 have HB0:Hid (Below w.heap.size w W):=by rw[<-hW];exact((af _ w).alloc ai _).alloc (by simp) _
 have HK:Hid (Bk W w.heap.size 25 (dkC d s)):=by rw[<-hW];exact(Bk.new w _ _).alloc _
 have HZ:Hid (Bk W (w.heap.size+1) 25 #[.int .i64 0,.slice none 0 0,.slice none 0 0,.int .i64 0]):=by
  rw[<-hW];have:=Bk.new (w.alloc (.cells (dkC d s) 25)) 25 #[.int .i64 0,.slice none 0 0,.slice none 0 0,.int .i64 0]
  rwa[Z9]at this
 have zW:W.heap.size=w.heap.size+2:=by rw[<-hW];simp
 have HM:Hid (DkM W B d s):=hm.below HB0.out hB;have HM0:=ah hm;have HC:=ah (oo d s B W hd HM.out (by omega) (by omega));have HD:=ah hd;have HST:Hid (∀W1,Below W.heap.size W W1->Calls Tryz.prog 59 #[dkV d s,.func (.func 171) #[] #[]] W1 fun e w'=>∃s',e= .returned (.agg #[.int .i64 d.sz,.slice s'.a1 (settle d.ss d.pn).length s'.c1,.slice s'.a2 0 s'.c2,.int .i64 d.lf])/\DkM w' w'.heap.size {d with ss:=settle d.ss d.pn,pn:= []} s'/\Below W1.heap.size W1 w'):=fun W1 h1=>by
  have hz1:=h1.size;have:=xB d s B 171 #[] (fun _ _ x=>x) w.heap.size (fun _ W2=>W2.heap[w.heap.size]? =W1.heap[w.heap.size]?) W1 hd (HM.out.below h1 (by omega)) (by omega) (by omega) (by omega)
   ⟨.inl ⟨rfl,rfl⟩,by omega,fun k o x W2 hi _ _=>(F3 o x W2).mono (by rintro e w' ⟨rfl,rfl⟩;exact⟨rfl,hi,Gb.refl _ _⟩),fun _ _ _ _ h=>h,fun _ W2 W3 hi _ hb=>(hb.block _ (by omega)).trans hi⟩ rfl
  rw[xm]at this;refine this.mono ?_;rintro e w' ⟨s',rfl,h2,h3,h4⟩;exact⟨s',rfl,h2,h3.os,h3.tape,h3.output,h3.size,fun i hi=>by
   by_cases e:i=w.heap.size
   . rw[e];exact h4
   . exact h3.block i hi e⟩
 obtain⟨lf,hlf⟩:∃lf,d.lf=lf:=⟨_,rfl⟩
 have hl1:=hd.lf;have hl2:=hd.lm;have HLF:=ah hlf;obtain⟨n2,hn2⟩:∃n2,(settle d.ss d.pn).length=n2:=⟨_,rfl⟩
 have HN2:=ah hn2;have HW:=ah hW;have HDM:Hid (∀(w':MQ) s',DkM w' w'.heap.size {d with ss:=settle d.ss d.pn,pn:= [],lf:=lf} s'->DkM w' w'.heap.size (doO d none) s'):=fun _ _ h=>by rw[<-hlf]at h;rw[doO];exact⟨h.ss,h.pn⟩
 simp only[dkV,dkC,hlf,hn2]at HC HW HK HST hl1 hl2 ⊢;clear hd hm hW hlf hn2;by_cases h0:lf=0
 . subst h0
   simp only[if_true];obtain⟨D,hD⟩:∃D,aW d 20 w=D:=⟨_,rfl⟩
   have HDD:=ah hD;rw[hD];clear hD
   go_enter Tryz.func100,Tryz.ntmps100
   go_wp2_with fail;rw[HW.out];refine HC.out.mono ?_;rintro e w2 ⟨rfl,hb2⟩;have HB2:Hid (Below W.heap.size W w2):=hb2;have HK2:=ah (HK.out.below HB2.out (by omega));have HZ2:=ah (HZ.out.below HB2.out (by omega));obtain⟨k0,k1,k2,k3⟩:=HK2.out.dk4;obtain⟨z0,z1,z2,z3⟩:=HZ2.out.dk4;obtain⟨f0,f1,f2,f3⟩:=fr4 HZ2.out;clear hb2 HC;go_wp2_with fail;have HE:=ah (HZ2.out.set4 (.int .i64 d.sz) (.slice s.a1 d.ss.length s.c1) (.slice s.a2 d.pn.length s.c2) (.int .i64 0));refine ZY (fq Tryz.results100 rfl HE.out rfl) rfl ?_;rw[<-HDD.out];have hbw:=dF (HB0.out.trans (HB2.out.mono (by omega))) (show w.heap.size<=w.heap.size+1 by omega) (.int .i64 d.sz) (.slice s.a1 d.ss.length s.c1) (.slice s.a2 d.pn.length s.c2) (.int .i64 0);exact⟨s,by simp only[dkV,dkC,HLF.out];rfl,(HM0.out.below hbw hB).more (by have:=hbw.size;omega),hbw⟩
 . have hln: (lf == 0)=false:=by simpa using h0
   simp only[if_neg h0];obtain⟨D,hD⟩:∃D,aW (doO d none) 0 w=D:=⟨_,rfl⟩
   have HDD:=ah hD;rw[hD];have HL:=ah (fun W=>yO lf W hl1 hl2);clear hD h0
   go_enter Tryz.func100,Tryz.ntmps100
   go_wp2_with fail;rw[HW.out];refine HC.out.mono ?_;rintro e w1 ⟨rfl,hb1⟩;have HB1:Hid (Below W.heap.size W w1):=hb1;obtain⟨k0,k1,k2,k3⟩:=(HK.out.below hb1 (by omega)).dk4;have g0:=(HK.out.below hb1 (by omega)).free 0;clear hb1 HC;go_wp2_with fail;refine(HST.out w1 HB1.out).mono ?_;rintro e w2 ⟨s',rfl,hm2,hb2⟩;have HM2:=ah hm2;have HB2:Hid (Below W.heap.size W w2):=HB1.out.trans (hb2.mono HB1.out.size);have HK2:=ah (HK.out.below HB2.out (by omega));have HZ2:=ah (HZ.out.below HB2.out (by omega));obtain⟨k0,k1,k2,k3⟩:=HK2.out.dk4;obtain⟨z0,z1,z2,z3⟩:=HZ2.out.dk4;obtain⟨e0,e1,e2,e3⟩:=fr4 HK2.out;obtain⟨f0,f1,f2,f3⟩:=fr4 HZ2.out;clear hm2 hb2 HST g0;go_wp2_with fail;obtain⟨W5,hW5⟩:∃W5,(((w2.setCell ⟨w.heap.size,0,none⟩ (.int .i64 d.sz)).setCell ⟨w.heap.size,1,none⟩ (.slice s'.a1 n2 s'.c1)).setCell ⟨w.heap.size,2,none⟩ (.slice s'.a2 0 s'.c2)).setCell ⟨w.heap.size,3,none⟩ (.int .i64 lf)=W5:=⟨_,rfl⟩
   have HK5:Hid (Bk W5 w.heap.size 25 #[.int .i64 d.sz,.slice s'.a1 n2 s'.c1,.slice s'.a2 0 s'.c2,.int .i64 lf]):=by rw[<-hW5];exact HK2.out.set4 _ _ _ _
   have HZ5:Hid (Bk W5 (w.heap.size+1) 25 #[.int .i64 0,.slice none 0 0,.slice none 0 0,.int .i64 0]):=by
    rw[<-hW5];have hne:w.heap.size+1≠w.heap.size:=by omega
    exact(((HZ2.out.far (p:=⟨w.heap.size,0,none⟩) hne _).far (p:=⟨w.heap.size,1,none⟩) hne _).far (p:=⟨w.heap.size,2,none⟩) hne _).far (p:=⟨w.heap.size,3,none⟩) hne _
   have HM5:Hid (DkM W5 w2.heap.size {d with ss:=settle d.ss d.pn,pn:= [],lf:=lf} s'):=by rw[<-hW5];exact HM2.out.box HK2.out _ _ _ _
   have HB5:Hid (Below w.heap.size w W5):=by rw[<-hW5];exact dF (HB0.out.trans (HB2.out.mono (by omega))) ai _ _ _ _
   have z5:w2.heap.size=W5.heap.size:=by rw[<-hW5];simp
   rw[hW5];clear hW5 k0 k1 k2 k3 z0 z1 z2 z3 e0 e1 e2 e3 f0 f1 f2 f3;obtain⟨k0,k1,k2,k3⟩:=HK5.out.dk4;obtain⟨z0,z1,z2,z3⟩:=HZ5.out.dk4;have e3:=HK5.out.free 3;obtain⟨f0,f1,f2,f3⟩:=fr4 HZ5.out;refine(HL.out _).mono ?_;rintro e w5 ⟨rfl,rfl⟩;go_wp2_with fail;have hne:w.heap.size+1≠w.heap.size:=by omega
   have HE:=ah ((HZ5.out.far (p:=⟨w.heap.size,3,none⟩) hne (.int .i64 (eF lf))).set4 (.int .i64 d.sz) (.slice s'.a1 n2 s'.c1) (.slice s'.a2 0 s'.c2) (.int .i64 (eF lf)));refine ZY (fq Tryz.results100 rfl HE.out rfl) rfl ?_;rw[<-HDD.out];have hM6:=(HM5.out.box1 HK5.out 3 (.int .i64 (eF lf))).box (HZ5.out.far (p:=⟨w.heap.size,3,none⟩) hne (.int .i64 (eF lf))) (.int .i64 d.sz) (.slice s'.a1 n2 s'.c1) (.slice s'.a2 0 s'.c2) (.int .i64 (eF lf));refine⟨s',?_,?_,dF (HB5.out.setCell (p:=⟨w.heap.size,3,none⟩) ai _) (by omega) _ _ _ _⟩
   . simp only[dkV,dkC,doO,HLF.out,HN2.out];rfl
   . exact⟨hM6.ss.more (by simp;omega),hM6.pn.more (by simp;omega)⟩
def OpV(w:MQ)(B:Nat)(v:MS):Dop->Prop
 | none=>v= .func (.func 100) #[] #[]
 | some x=>∃b1 b2,b1<B/\b2<B/\v= .func (.func 169) #[] #[.pointer (some ⟨b1,0,none⟩),.pointer (some ⟨b2,0,none⟩)]/\Bk w b1 3 #[.int .i64 x.1]/\Bk w b2 9 #[.string (ofL x.2)]
theorem OpV.below{w w':MQ}{B B':Nat}{v:MS}{o:Dop}(h:OpV w B v o)(hb:Below B' w w')(hB:B<=B'):OpV w' B v o:=by
 cases o with
 | none=>exact h
 | some x =>
   obtain⟨b1,b2,h1,h2,e,k1,k2⟩:=h;exact⟨b1,b2,h1,h2,e,k1.below hb (by omega),k2.below hb (by omega)⟩
theorem OpV.more{w:MQ}{B B':Nat}{v:MS}{o:Dop}(h:OpV w B v o)(hB:B<=B'):OpV w B' v o:=by
 cases o with
 | none=>exact h
 | some x =>
   obtain⟨b1,b2,h1,h2,e⟩:=h;exact⟨b1,b2,by omega,by omega,e⟩
structure OpsM(w:MQ)(B:Nat)(A:OA)(n:Nat)(vs:List MS)(os:List Dop):Prop where
 sl:Sl w B 1 A n vs
 len:os.length=n
 op:∀(i:Nat) v o,vs[i]? =some v->os[i]? =some o->OpV w B v o
theorem OpsM.below{w w':MQ}{B B':Nat}{A:OA}{n:Nat}{vs:List MS}{os:List Dop}(h:OpsM w B A n vs os)(hb:Below B' w w')(hB:B<=B'):OpsM w' B A n vs os:=⟨h.sl.below hb hB,h.len,fun i v o hv ho=>(h.op i v o hv ho).below hb hB⟩
theorem kg(i:Nat)(x:MU)(w:MQ):Calls Tryz.prog 98 #[.int .i64 i,.string (ofL x)] w fun e w'=>∃v,e= .returned v/\OpV w' w'.heap.size v (some (i,x))/\Below w.heap.size w w':=by
 obtain⟨W,hW⟩:∃W,(w.alloc (.cells #[.int .i64 i] 3)).alloc (.cells #[.string (ofL x)] 9)=W:=⟨_,rfl⟩
 have HB:Hid (Below w.heap.size w W):=by rw[<-hW];exact((af _ w).alloc ai _).alloc (by simp) _
 have HK1:Hid (Bk W w.heap.size 3 #[.int .i64 i]):=by rw[<-hW];exact(Bk.new w _ _).alloc _
 have HK2:Hid (Bk W (w.heap.size+1) 9 #[.string (ofL x)]):=by
  rw[<-hW];have:=Bk.new (w.alloc (.cells #[.int .i64 i] 3)) 9 #[.string (ofL x)]
  rwa[Z9]at this
 have HW:=ah hW;clear hW
 go_enter Tryz.func98,Tryz.ntmps98
 go_wp2_with fail;rw[HW.out];go_ret
 exact⟨_,rfl,⟨w.heap.size,w.heap.size+1,HK1.out.lt,HK2.out.lt,rfl,HK1.out,HK2.out⟩,HB.out⟩
theorem Ke(d:Dk)(s:Dsl)(B i b1 b2:Nat)(x:MU)(w:MQ)(hd:d.Ok)(hm:DkM w B d s)(hB:B<=w.heap.size)(hp:d.pn.length<=900000)(hi:i<d.ss.length)(hx:x.length=d.sz)(k1:Bk w b1 3 #[.int .i64 i])(k2:Bk w b2 9 #[.string (ofL x)]) :
  Calls Tryz.prog 169 #[dkV d s,.pointer (some ⟨b1,0,none⟩),.pointer (some ⟨b2,0,none⟩)] w (aW (if d.lf=0 then d else doO d (some (i,x))) (if d.lf=0 then 20 else 0) w):=by
 obtain⟨W,hW⟩:∃W,(w.alloc (.cells (dkC d s) 25)).alloc (.cells #[.int .i64 0,.slice none 0 0,.slice none 0 0,.int .i64 0] 25)=W:=⟨_,rfl⟩
 have HB0:Hid (Below w.heap.size w W):=by rw[<-hW];exact((af _ w).alloc ai _).alloc (by simp) _
 have HZ:Hid (Bk W (w.heap.size+1) 25 #[.int .i64 0,.slice none 0 0,.slice none 0 0,.int .i64 0]):=by
  rw[<-hW];have:=Bk.new (w.alloc (.cells (dkC d s) 25)) 25 #[.int .i64 0,.slice none 0 0,.slice none 0 0,.int .i64 0]
  rwa[Z9]at this
 obtain⟨k00,k01,k02,k03⟩:W.cell? ⟨w.heap.size,0,none⟩=_/\W.cell? ⟨w.heap.size,1,none⟩=_/\W.cell? ⟨w.heap.size,2,none⟩=_/\W.cell? ⟨w.heap.size,3,none⟩=_:=by rw[<-hW];exact((Bk.new w 25 (dkC d s)).alloc _).dk4
 have zW:W.heap.size=w.heap.size+2:=by rw[<-hW];simp
 have c1:=k1.cell 0;have c2:=k2.cell 0;have l1:=k1.lt;have l2:=k2.lt;simp at c1 c2;have HC:=ah (FK d s B i x W hd (hm.below HB0.out hB) (by omega) hp hi hx);obtain⟨d2,hd2⟩:∃d2,(if d.lf=0 then d else doO d (some (i,x)))=d2:=⟨_,rfl⟩
 obtain⟨x2,hx2⟩:∃x2:Int,(if d.lf=0 then 20 else 0)=x2:=⟨_,rfl⟩
 rw[hd2,hx2]at HC ⊢;have HW:=ah hW;unfold aW at HC;clear hd hm hd2 hx2 hW hi hx k1 k2;simp only[dkV,dkC]at *
 go_enter Tryz.func169,Tryz.ntmps169
 go_wp2_with fail;rw[HW.out];refine HC.out.mono ?_;rintro e w2 ⟨s',rfl,hm2,hb2⟩;have HM2:=ah hm2;have HB2:=ah hb2;have HZ2:=ah (HZ.out.below hb2 (by omega));obtain⟨z0,z1,z2,z3⟩:=HZ2.out.dk4;obtain⟨f0,f1,f2,f3⟩:=fr4 HZ2.out;clear hm2 hb2 HC;go_wp2_with fail;have HE:=ah (HZ2.out.set4 (.int .i64 d2.sz) (.slice s'.a1 d2.ss.length s'.c1) (.slice s'.a2 d2.pn.length s'.c2) (.int .i64 d2.lf));refine ZY (fq Tryz.results169 rfl HE.out rfl) rfl ?_;exact⟨s',rfl,(HM2.out.box HZ2.out _ _ _ _).more (by simp),dF (HB0.out.trans (HB2.out.mono (by omega))) (by omega) _ _ _ _⟩
theorem uF(d:Dk)(s:Dsl)(B:Nat)(A:OA)(n c:Nat)(vs:List MS)(os:List Dop)(w:MQ)(hd:d.Ok)(hm:DkM w B d s)(hB:B<=w.heap.size)(ho:OpsM w B A n vs os)(hf:∀o∈os,iY d o)(hp:d.pn.length+os.length<=900000) :
  Calls Tryz.prog 97 #[dkV d s,.slice A n c] w (aW (aH d os).1 (aH d os).2 w):=by
 obtain⟨W,hW⟩:∃W,(w.alloc (.cells (dkC d s) 25)).alloc (.cells #[.int .i64 0,.slice none 0 0,.slice none 0 0,.int .i64 0] 25)=W:=⟨_,rfl⟩
 have HB0:Hid (Below w.heap.size w W):=by rw[<-hW];exact((af _ w).alloc ai _).alloc (by simp) _
 have HK:Hid (Bk W w.heap.size 25 (dkC d s)):=by rw[<-hW];exact(Bk.new w _ _).alloc _
 have HZ:Hid (Bk W (w.heap.size+1) 25 #[.int .i64 0,.slice none 0 0,.slice none 0 0,.int .i64 0]):=by
  rw[<-hW];have:=Bk.new (w.alloc (.cells (dkC d s) 25)) 25 #[.int .i64 0,.slice none 0 0,.slice none 0 0,.int .i64 0]
  rwa[Z9]at this
 have zW:W.heap.size=w.heap.size+2:=by rw[<-hW];simp
 have HM:Hid (DkM W B d s):=hm.below HB0.out hB;have HO:=ah (ho.below HB0.out hB);have HO0:=ah ho;have HD:=ah hd;have HF:=ah hf;have HP:=ah hp;have HW:=ah hW;have hn9:n<=900000:=by have:=ho.len;omega
 obtain⟨D,hDD⟩:∃D,aW (aH d os).1 (aH d os).2 w=D:=⟨_,rfl⟩
 have HDD:=ah hDD;rw[hDD];clear hd hm ho hf hp hW hDD;simp only[dkV,dkC]
 go_enter Tryz.func97,Tryz.ntmps97
 go_wp2_with fail;rw[show(w.alloc (.cells #[.int .i64 d.sz,.slice s.a1 d.ss.length s.c1,.slice s.a2 d.pn.length s.c2,.int .i64 d.lf] 25)).alloc (.cells #[.int .i64 0,.slice none 0 0,.slice none 0 0,.int .i64 0] 25)=W from HW.out]
 go_loopw[11] (fun i wr=>∃(k:Nat)(dk:Dk)(s':Dsl),k<=n/\i= .int .i64 k/\Hid (aH d os=aH dk (os.drop k))/\Hid dk.Ok/\Hid (dk.sz=d.sz/\dk.ss.length=d.ss.length)/\Hid (dk.pn.length+ (n - k)<=900000)/\Hid (Bk wr w.heap.size 25 (dkC dk s'))/\Hid (Bk wr (w.heap.size+1) 25 #[.int .i64 0,.slice none 0 0,.slice none 0 0,.int .i64 0])/\Hid (DkM wr wr.heap.size dk s')/\Hid (Below w.heap.size w wr)) (fun i _=>n - (intOf i).toNat)
 case atStart=>exact⟨0,d,s,ZZ _,rfl,rfl,HD.out,⟨rfl,rfl⟩,(by show _<=_;have:=HP.out;have:=HO.out.len;omega),HK.out,HZ.out,HM.out.more (by omega),HB0.out⟩
 case round =>
  obtain⟨k,dk,s',hk,rfl,hrun,hok,hsz,hpn,hK,hZ,hM,hBel⟩:=hrel;have zr:w.heap.size+2<=wr.heap.size:=by have:=hZ.out.lt;omega
  obtain⟨k0,k1,k2,k3⟩:=hK.out.dk4;obtain⟨z0,z1,z2,z3⟩:=hZ.out.dk4;obtain⟨e0,e1,e2,e3⟩:=fr4 hK.out;obtain⟨f0,f1,f2,f3⟩:=fr4 hZ.out;by_cases hlt:k<n
  . have HOB:Hid (OpsM wr B A n vs os):=HO0.out.below hBel.out hB
    obtain⟨o,ho⟩:∃o,os[k]? =some o:=⟨_,Z6 (by have:=HO.out.len;omega)⟩
    obtain⟨v,hv⟩:∃v,vs[k]? =some v:=⟨_,Z6 (by have:=HO.out.sl.1;omega)⟩
    obtain⟨b,off,rfl,hb,hc⟩:=HOB.out.sl.2 (by omega);have x0:=hc k v hv;have hop:=HOB.out.op k v o hv ho;have hrun2:Hid (aH d os=if dk.lf=0 then(dk,20) else aH (doO dk o) (os.drop (k+1))):=by
     show _=_;have hl:=List.getElem?_eq_some_iff.1 ho;rw[hrun.out,List.drop_eq_getElem_cons hl.1,hl.2,aH]
    have hft:iY dk o:=fun w hw=>by rw[hsz.out.1,hsz.out.2];exact HF.out o (Z7 ho) w hw
    have HCALL:Hid (∀fn cs,v= .func (.func fn) #[] cs->Calls Tryz.prog fn (#[dkV dk s']++cs) wr (aW (if dk.lf=0 then dk else doO dk o) (if dk.lf=0 then 20 else 0) wr)):=by
     intro fn cs hfn;cases o with
     | none =>
       rw[hop]at hfn;cases hfn
       exact Gg dk s' wr.heap.size wr hok.out hM.out ai (by have:=hpn.out;omega)
     | some x =>
       obtain⟨b1,b2,_,_,e,q1,q2⟩:=hop;rw[e]at hfn;cases hfn
       obtain⟨g1,g2⟩:=hft x rfl;exact Ke dk s' wr.heap.size x.1 b1 b2 x.2 wr hok.out hM.out ai (by have:=hpn.out;omega) g1 g2 q1 q2
    have HFT:=ah hft;have HPL:Hid ((doO dk o).pn.length<=dk.pn.length+1):=by
     show _<=_;cases o with
     | none=>simp[doO]
     | some x=>simp[doO]
    have hvv:v= .func (.func 100) #[] #[]∨ (∃p1 p2,v= .func (.func 169) #[] #[p1,p2]):=by
     cases o with
     | none=>exact .inl hop
     | some x=>obtain⟨b1,b2,_,_,e,_⟩:=hop;exact .inr ⟨_,_,e⟩
    have hkl:=hK.out.lt;have hzl:=hZ.out.lt;clear hop hc hv hft hrun;by_cases h0:dk.lf=0
    . have hfin:Hid (aH d os= (dk,20)):=by show _=_;rw[hrun2.out,if_pos h0]
      simp only[if_pos h0]at HCALL;clear h0 ho;rcases hvv with rfl | ⟨p1,p2,rfl⟩
      all_goals
       have HC:=ah (HCALL.out _ _ rfl);unfold aW at HC;simp only[List.append_toArray,Array.append_empty,List.cons_append,List.nil_append,dkV,dkC]at HC;clear HCALL;go_wp2_with fail;refine HC.out.mono ?_;rintro e w2 ⟨s2,rfl,hm2,hb2⟩;have HM2:=ah hm2;have HB2:Hid (Below w.heap.size w w2):=hBel.out.trans (hb2.mono (by omega));have HK2:=ah (hK.out.below hb2 hkl);have HZ2:=ah (hZ.out.below hb2 hzl);have zz:=hb2.size;obtain⟨k0,k1,k2,k3⟩:=HK2.out.dk4;obtain⟨z0,z1,z2,z3⟩:=HZ2.out.dk4;obtain⟨e0,e1,e2,e3⟩:=fr4 HK2.out;obtain⟨f0,f1,f2,f3⟩:=fr4 HZ2.out;clear hm2 hb2 HC;go_wp2_with fail;have hne:w.heap.size+1≠w.heap.size:=by omega
       have HE:=ah (((((HZ2.out.far (p:=⟨w.heap.size,0,none⟩) hne (.int .i64 dk.sz)).far (p:=⟨w.heap.size,1,none⟩) hne (.slice s2.a1 dk.ss.length s2.c1)).far (p:=⟨w.heap.size,2,none⟩) hne (.slice s2.a2 dk.pn.length s2.c2)).far (p:=⟨w.heap.size,3,none⟩) hne (.int .i64 dk.lf)).set4 (.int .i64 dk.sz) (.slice s2.a1 dk.ss.length s2.c1) (.slice s2.a2 dk.pn.length s2.c2) (.int .i64 dk.lf));refine ZY (fq Tryz.results97 rfl HE.out rfl) rfl ?_;rw[<-HDD.out,hfin.out];have hM6:=(HM2.out.box HK2.out (.int .i64 dk.sz) (.slice s2.a1 dk.ss.length s2.c1) (.slice s2.a2 dk.pn.length s2.c2) (.int .i64 dk.lf)).box ((((HZ2.out.far (p:=⟨w.heap.size,0,none⟩) hne (.int .i64 dk.sz)).far (p:=⟨w.heap.size,1,none⟩) hne (.slice s2.a1 dk.ss.length s2.c1)).far (p:=⟨w.heap.size,2,none⟩) hne (.slice s2.a2 dk.pn.length s2.c2)).far (p:=⟨w.heap.size,3,none⟩) hne (.int .i64 dk.lf)) (.int .i64 dk.sz) (.slice s2.a1 dk.ss.length s2.c1) (.slice s2.a2 dk.pn.length s2.c2) (.int .i64 dk.lf);exact⟨s2,rfl,hM6.more (by simp),dF (dF HB2.out ai _ _ _ _) (by omega) _ _ _ _⟩
    . have hgo:Hid (aH d os=aH (doO dk o) (os.drop (k+1))):=by show _=_;rw[hrun2.out,if_neg h0]
      simp only[if_neg h0]at HCALL;have HOK2:Hid (doO dk o).Ok:=hok.out.doO HFT.out;have HSZ2:Hid ((doO dk o).sz=d.sz/\ (doO dk o).ss.length=d.ss.length):=by
       obtain⟨q1,q2⟩:=tJ dk o;exact⟨q1.trans hsz.out.1,q2.trans hsz.out.2⟩
      have HPN2:Hid ((doO dk o).pn.length+ (n - (k+1))<=900000):=by show _<=_;have:=hpn.out;have:=HPL.out;omega
      obtain⟨d2,hd2⟩:∃d2,doO dk o=d2:=⟨_,rfl⟩
      rw[hd2]at hgo HOK2 HSZ2 HPN2 HCALL;clear h0 ho hd2 HPL HFT hrun2;rcases hvv with rfl | ⟨p1,p2,rfl⟩
      all_goals
       have HC:=ah (HCALL.out _ _ rfl);unfold aW at HC;simp only[List.append_toArray,Array.append_empty,List.cons_append,List.nil_append,dkV,dkC]at HC;clear HCALL;go_wp2_with fail;refine HC.out.mono ?_;rintro e w2 ⟨s2,rfl,hm2,hb2⟩;have HM2:=ah hm2;have HB2:Hid (Below w.heap.size w w2):=hBel.out.trans (hb2.mono (by omega));have HK2:=ah (hK.out.below hb2 hkl);have HZ2:=ah (hZ.out.below hb2 hzl);obtain⟨k0,k1,k2,k3⟩:=HK2.out.dk4;obtain⟨e0,e1,e2,e3⟩:=fr4 HK2.out;clear hm2 hb2 HC z0 z1 z2 z3 f0 f1 f2 f3;go_wp2_with fail;have hne:w.heap.size+1≠w.heap.size:=by omega
       go_roundw
       case rel=>exact⟨k+1,d2,s2,by omega,by go_num,hgo.out,HOK2.out,HSZ2.out,HPN2.out,HK2.out.set4 _ _ _ _,(((HZ2.out.far (p:=⟨w.heap.size,0,none⟩) hne _).far (p:=⟨w.heap.size,1,none⟩) hne _).far (p:=⟨w.heap.size,2,none⟩) hne _).far (p:=⟨w.heap.size,3,none⟩) hne _,(HM2.out.box HK2.out _ _ _ _).more (by simp),dF HB2.out ai _ _ _ _⟩
       case measure=>simp[intOf];omega
  . have hend:Hid (aH d os= (dk,0)):=by
      show _=_;rw[hrun.out,List.drop_of_length_le (by have:=HO.out.len;omega),aH]
    have HE:=ah (hZ.out.set4 (.int .i64 dk.sz) (.slice s'.a1 dk.ss.length s'.c1) (.slice s'.a2 dk.pn.length s'.c2) (.int .i64 dk.lf));go_wp2_with fail;refine ZY (fq Tryz.results97 rfl HE.out rfl) rfl ?_;rw[<-HDD.out,hend.out];exact⟨s',rfl,(hM.out.box hZ.out _ _ _ _).more (by simp),dF hBel.out (by omega) _ _ _ _⟩
end Go.Proofs.YtknefelegjlgnaaGreatDoor
