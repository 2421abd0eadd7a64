/-
  Lemmas of the card.
-/
import Derived.Test.YtknefelegjlgnaaGreatDoorACAt24
set_option maxRecDepth 100000
set_option maxHeartbeats 8000000
namespace Go.Proofs.YtknefelegjlgnaaGreatDoor
open Go.RowKit
theorem Er(A0 A1:OA)(n0 c0 n1 c1 B:Nat)(p:List Itm)(us:List Upd)(w:MZ)(h0:Sl w B 3 A0 n0 (flat itC p))(h1:Sl w B 5 A1 n1 (flat upC us))(m0:n0<=maxLen)(m1:n1<=maxLen)(hs:∀i∈p,i.2.size<=maxLen) :
  Calls Tryz.prog 64 #[.slice A0 n0 c0,.slice A1 n1 c1] w fun e w'=>∃r:Bool,e= .returned (.bool r)/\ (r=false->p.length<=40/\ (∀i∈p,i.2.size<=500)/\us.length<=12/\∀u∈us,u.1.size<=150)/\w=w':=by
 have HL:=ah (h0.len bO (by unfold maxLen at m0;omega));have HG:=ah (FU A0 n0 c0 B p w h0 m0 hs);unfold CO at HG;have HM:=ah (FQ A1 n1 c1 B us w h1 m1);obtain⟨mb,a⟩:=NX9 (nG us)
 rw[a]at HM;have b:=ah a;clear h0 h1 m0 m1 hs a
 go_enter Tryz.func64,Tryz.ntmps64
 go_wp2_with fail;refine HG.o.mono ?_;rintro e w1 ⟨g,rfl,hg,rfl⟩;have c:=ah hg;clear hg HG;cases g with
 | true =>
   go_wp2_with fail;go_ret
   exact⟨true,rfl,(fun h=>by cases h),rfl⟩
 | false =>
   go_wp2_with fail;refine HM.o.mono ?_;rintro e w1 ⟨rfl,rfl⟩;go_wp2_with fail;go_ret
   refine⟨mb,rfl,fun h=>?_,rfl⟩;have h1:=c.o (by simp);have h2:=b.o;rw[h]at h2;unfold nG at h2;simp only[Bool.or_eq_false_iff,decide_eq_false_iff_not]at h2;refine⟨by rw[HL.o];exact h1.1,h1.2,by omega,fun u hu=>?_⟩;have:=(List.any_eq_false.1 h2.1) u hu
   simpa using this
theorem Hz(r q:Rp)(s t:Rsl)(B:Nat)(w:MZ)(h0:RpM w B r s)(h1:RpM w B q t)(hB:B<=w.heap.size)(m0:r.p.length<=maxLen)(m1:r.rs.length<=maxLen)(m2:r.lg.length<=maxLen) :
  Calls Tryz.prog 23 #[rpV r s,rpV q t] w fun e w'=>e= .returned (.bool (decide (r.p=q.p) && (decide (r.rs=q.rs) && decide (r.lg=q.lg))))/\Below w.heap.size w w':=by
 obtain⟨W,hW⟩:=NX9 ((w.alloc (.cells (rpC r s) 35)).alloc (.cells (rpC q t) 35))
 have a:Hid (Below w.heap.size w W):=by rw[<-hW];exact((af _ w).alloc ai _).alloc (by simp) _
 have HK:Hid (Bk W w.heap.size 35 (rpC r s)):=by rw[<-hW];exact(Bk.new w _ _).alloc _
 have HZ:Hid (Bk W (w.heap.size+1) 35 (rpC q t)):=by rw[<-hW];exact(Bk.new _ _ _).at_ (by simp)
 have HS:=ah (Gr s.pA t.pA r.p.length s.pc q.p.length t.pc B r.p q.p W (h0.p.below a.o hB) (h1.p.below a.o hB) m0);have HE:=ah (fun k=>F9 s.rA s.lA t.rA t.lA r.rs.length s.rc r.lg.length s.lc q.rs.length t.rc q.lg.length t.lc B r.rs q.rs r.lg q.lg (W.drewN k) ((h0.rf.below a.o hB).drewN k) ((h0.l.below a.o hB).drewN k) ((h1.rf.below a.o hB).drewN k) ((h1.l.below a.o hB).drewN k) (Z0 hB a.o.size) m1 m2);have HW:=ah hW;obtain⟨b1,b⟩:=NX9 (decide (r.p=q.p))
 obtain⟨b2,c⟩:=NX9 ((decide (r.rs=q.rs) && decide (r.lg=q.lg)))
 rw[b]at HS;rw[c]at HE;rw[b,c];simp only[rpV,rpC]at HK HZ HW ⊢;clear hW h0 h1 hB m0 m1 m2 b c;obtain⟨_,k4,k5,k6⟩:=HK.o.seven;obtain⟨_,z4,z5,z6⟩:=HZ.o.seven
 go_enter Tryz.func23,Tryz.ntmps23
 go_wp2_with fail;rw[HW.o];refine HS.o.mono ?_;rintro e w1 ⟨rfl,k,rfl⟩;cases b1 with
 | false =>
   go_wp2_with fail;go_ret
   exact⟨rfl,bN a.o _⟩
 | true =>
   go_wp2_with fail;refine(HE.o k).mono ?_;rintro e w2 ⟨rfl,hb⟩;have d:Hid (Below w.heap.size w w2):=(bN a.o k).trans (hb.mono (bN a.o k).size);clear hb;go_wp2_with fail;go_ret
   exact⟨rfl,d.o⟩
def vY(x:Ac)(w:MZ)(e:Ending)(w':MZ):Prop:=∃r:Bool,e= .returned (.bool r)/\ (r=true->AcF x)/\Below w.heap.size w w'
theorem AJ(x:AcX)(B:Nat)(w:MZ)(h:AcM w B x)(hx:AcB x.1)(hB:B<=w.heap.size) :
  Calls Tryz.prog 25 #[.agg (acA x)] w (vY x.1 w):=by
 obtain⟨W,hW⟩:=NX9 (w.alloc (.cells (acA x) 65))
 have a:Hid (Below w.heap.size w W):=by rw[<-hW];exact(af _ w).alloc ai _
 have HK:Hid (Bk W w.heap.size 65 (acA x)):=by rw[<-hW];exact Bk.new w _ _
 have HM:=h.below a.o hB;have HG:=ah (Er x.2.pA x.2.uA x.1.pl.length x.2.pc x.1.us.length x.2.uc B x.1.pl x.1.us W HM.p HM.u hx.pn hx.un (fun i hi=>(hx.ps i hi).2));have HF:=ah (Ff x.2.fA x.1.fs.length x.2.fc B x.1.fs W HM.f hx.fn hx.fs);unfold CL at HF;have HX:=ah hx;have HW:=ah hW;clear hW h hB HM hx;simp only[acA]at HK HW ⊢;obtain⟨⟨k0,k1,k2,k3⟩,k4,k5,k6⟩:=HK.o.seven;have d:x.1.nm.size<=9223372036854775807:=by have:=HX.o.nm;unfold maxLen at this;exact this
 go_enter Tryz.func25,Tryz.ntmps25
 go_wp2_with fail;rw[HW.o];refine HG.o.mono ?_;rintro e w1 ⟨g,rfl,hg,rfl⟩;have b:=ah hg;clear hg HG;cases g with
 | true =>
   go_wp2_with fail;go_ret
   exact⟨false,rfl,(fun h=>by cases h),a.o⟩
 | false =>
   go_wp2_with fail;refine HF.o.mono ?_;rintro e w1 ⟨f,rfl,hf,rfl⟩;have c:=ah hf;clear hf HF;cases f with
   | true =>
     go_wp2_with fail;go_ret
     exact⟨false,rfl,(fun h=>by cases h),a.o⟩
   | false =>
     by_cases hk: (x.1.pk.length:Int)<=20
     . go_wp2_with fail
       go_ret
       refine⟨_,rfl,fun h=>?_,a.o⟩;have hn:=of_decide_eq_true h;obtain⟨a1,a2,a3,a4⟩:=b.o (by simp);obtain⟨f1,f2⟩:=c.o (by simp);exact⟨a1,a2,fun i hi=>(HX.o.ps i hi).1,a3,a4,fun u hu=>(HX.o.us u hu).2,f1,f2,by omega,by omega,HX.o.lm⟩
     . go_wp2_with fail
       go_ret
       exact⟨false,rfl,(fun h=>by cases h),a.o⟩
theorem uS{fn:Func}{c:Tmp}(h:fn.results= #[.cell c 35]){w:MZ}{b:Nat}{a:Array M4}{x0 x1 x2 x3 x4 x5 x6:M4}(h1:a[c]?.getD undef= .pointer (some ⟨b,0,none⟩))(hk:Bk w b 35 #[x0,x1,x2,x3,x4,x5,x6]) :
  (results fn a).run Tryz.prog w= .ok (.agg #[x0,x1,x2,x3,x4,x5,x6]) w:=by
 obtain⟨⟨e0,e1,e2,e3⟩,e4,e5,e6⟩:=hk.seven;simp[results,h,h1,go_sem,e0,e1,e2,e3,e4,e5,e6]
theorem RpM.pow{w:MZ}{B:Nat}{r:Rp}{s:Rsl}(h:RpM w B r s)(x:Int):RpM w B (dL r x) s:=by
 unfold dL;split
 . exact⟨⟨h.d.ss,h.d.pn⟩,h.p,h.rf,h.l,h.pc,h.pm⟩
 . exact h
theorem yQ(r:Rp)(s:Rsl)(x:Int)(B:Nat)(w:MZ)(h:RpM w B r s)(hB:B<=w.heap.size) :
  Calls Tryz.prog 27 #[rpV r s,.int .i64 x] w fun e w'=>e= .returned (rpV (dL r x) s)/\RpM w' w'.heap.size (dL r x) s/\Below w.heap.size w w':=by
 have hb:∀o1 o2,Below w.heap.size w ((w.alloc o1).alloc o2):=fun _ _=>((af _ w).alloc ai _).alloc (by simp) _;have a:Hid (∀w',Below w.heap.size w w'->RpM w' w'.heap.size (dL r x) s):=fun w' hb=>((h.below hb hB).more (Z0 hB hb.size)).pow x;clear h;by_cases hl:r.d.lf= -1
 . by_cases hx:0<=x
   . have HP:Hid (dL r x={r with d:={r.d with lf:=x % 40}}):=if_pos ⟨hl,hx⟩
     rw[HP.o]at a ⊢;simp only[rpV,rpC]at a ⊢;rw[hl];clear hl HP
     go_enter Tryz.func27,Tryz.ntmps27
     go_wp2_with fail;exact ZY (uS Tryz.results27 rfl ((Bk.new _ _ _).at_ (by simp))) rfl ⟨rfl,a.o _ (hb _ _),hb _ _⟩
   . have HP:Hid (dL r x=r):=if_neg (fun h=>hx h.2)
     rw[HP.o]at a ⊢;simp only[rpV,rpC]at a ⊢;rw[hl];clear hl HP
     go_enter Tryz.func27,Tryz.ntmps27
     go_wp2_with fail;exact ZY (uS Tryz.results27 rfl ((Bk.new _ _ _).at_ (by simp))) rfl ⟨rfl,a.o _ (hb _ _),hb _ _⟩
 . have HP:Hid (dL r x=r):=if_neg (fun h=>hl h.1)
   have b: (r.d.lf == -1)=false:=by rw[beq_eq_false_iff_ne];exact hl
   rw[HP.o]at a ⊢;simp only[rpV,rpC]at a ⊢;clear HP
   go_enter Tryz.func27,Tryz.ntmps27
   go_wp2_with fail;exact ZY (uS Tryz.results27 rfl ((Bk.new _ _ _).at_ (by simp))) rfl ⟨rfl,a.o _ (hb _ _),hb _ _⟩
theorem FP(r:Rp)(gs:List Gru)(a u:Nat)(s:Rsl)(B:Nat)(w:MZ)(hd:r.d.Ok)(hpn:r.d.pn= [])(hj:Jn r.d.sz r.d.ss a (recs gs) u)(hM:Mt gs r.p r.rs r.lg)(hm:RpM w B r s)(hB:B<=w.heap.size)(hn:r.d.ss.length<=100) :
  Calls Tryz.prog 24 #[rpV r s] w fun e w'=>e= .returned (.int .i64 0)/\Below w.heap.size w w':=by
 obtain⟨W,hW⟩:=NX9 (w.alloc (.cells (rpC r s) 35))
 have n:Below w.heap.size w W:=by rw[<-hW];exact(af _ w).alloc ai _
 have hz:W.heap.size=w.heap.size+1:=by rw[<-hW];simp
 have v:=ah n;have HK:Hid (Bk W w.heap.size 35 (rpC r s)):=by rw[<-hW];exact Bk.new w _ _
 have HM:=ah (hm.below n hB);have HO:=ah (tu r gs a u s.d B W hd hpn hj hM HM.o.d (by omega) hn);have K:=ah hB;have m:=hM.few hj hn;have HF:=ah m;have F:=ah (kR hM.rf);unfold dw at HO;simp only[rpV,rpC,dkV,dkC]at HK HO hW ⊢;have HW:=ah hW;clear hd hpn hj hM hm hW n m hn;obtain⟨⟨k0,k1,k2,k3⟩,k4,k5,k6⟩:=HK.o.seven
 go_enter Tryz.func24,Tryz.ntmps24
 go_wp2_with fail;rw[HW.o];refine HO.o.mono ?_;rintro e w1 ⟨t,rfl,x,b⟩;have o:Hid (Below w.heap.size w w1):=v.o.trans (b.mono (by omega));obtain⟨W2,g⟩:=NX9 (w1.alloc (.cells (rpC r t) 35))
 have c:Below w1.heap.size w1 W2:=by rw[<-g];exact(af _ w1).alloc ai _
 have G:Hid (Below w.heap.size w W2):=o.o.trans (c.mono (by have:=o.o.size;omega));have i:Hid (Bk W2 w.heap.size 35 (rpC r s)):=(HK.o.below b (by omega)).below c (by have:=b.size;omega);have j:Hid (Bk W2 w1.heap.size 35 (rpC r t)):=by rw[<-g];exact Bk.new w1 _ _
 have H:Hid (RpM W2 W2.heap.size r s):=((HM.o.below b (by omega)).below c (by have:=b.size;omega)).more (by have:=b.size;have:=c.size;omega);have I:Hid (RpM W2 W2.heap.size r t):=(x.below c ai).more c.size;have f:∀W,Below W2.heap.size W2 W->RpM W W2.heap.size r s/\RpM W W2.heap.size r t:=fun W hW=>⟨H.o.below hW ai,I.o.below hW ai⟩
 have y:=ah (fun W hW=>Kw t.pA s.pA r.p.length t.pc s.pc W2.heap.size r.p W (f W hW).2.p (f W hW).1.p (by have:=HF.o.1;omega));have z:=ah (fun W hW=>KI t.rA s.rA r.rs.length t.rc s.rc W2.heap.size r.rs W (f W hW).2.rf (f W hW).1.rf (by have:=F.o;omega));have A:=ah (fun W hW=>KC t.lA s.lA r.lg.length t.lc s.lc W2.heap.size r.lg W (f W hW).2.l (f W hW).1.l (by have:=HF.o.2.1;omega));have L:W2.heap.size=w1.heap.size+1:=by rw[<-g];simp
 have M:w.heap.size+1<=W2.heap.size/\w1.heap.size<W2.heap.size:=by have:=b.size;omega
 have q:=ah g;clear g b c x f HO HK HM v o;simp only[rpC]at i j q;clear k0 k1 k2 k3 k4 k5 k6;obtain⟨_,k4,k5,k6⟩:=i.o.seven;obtain⟨_,l4,l5,l6⟩:=j.o.seven
 go_upto_region 4 with fail
 rw[q.o];clear q;go_wp2_with fail;refine(y.o W2 (af _ _)).mono ?_;rintro e w3 ⟨rfl,q3,C⟩;have h:Hid (Below W2.heap.size W2 w3):=by rw[C];exact bN (af _ _) _
 clear C y k4 k5 k6 l4 l5 l6;obtain⟨_,k4,k5,k6⟩:=(i.o.below h.o (by omega)).seven;obtain⟨_,l4,l5,l6⟩:=(j.o.below h.o (by omega)).seven;go_wp2_with fail;refine(z.o w3 h.o).mono ?_;rintro e w4 ⟨rfl,q4,D⟩;have k:Hid (Below W2.heap.size W2 w4):=by rw[D];exact bN h.o _
 clear D z k4 k5 k6 l4 l5 l6 h;obtain⟨_,k4,k5,k6⟩:=(i.o.below k.o (by omega)).seven;obtain⟨_,l4,l5,l6⟩:=(j.o.below k.o (by omega)).seven;go_wp2_with fail;refine(A.o w4 k.o).mono ?_;rintro e w5 ⟨rfl,q5,E⟩;have J:Hid (Below w.heap.size w w5):=by rw[E];exact bN (G.o.trans (k.o.mono (by omega))) _
 clear E A k4 k5 k6 l4 l5 l6;go_wp2_with fail;go_ret
 exact⟨rfl,J.o⟩
def aT(n s:Nat):Dk:=⟨s,List.replicate n (List.replicate s 0),[],-1⟩
theorem qd{n s:Nat}(h1:1<=n)(h2:n<=1000)(h3:1<=s)(h4:s<=512): (aT n s).Ok :=
 ⟨h3,h4,by simp[aT];omega,by simp[aT];omega,fun x hx=>by rw[List.eq_of_mem_replicate hx];simp[aT],fun x hx=>absurd hx (by simp[aT]),by simp[aT],by simp[aT]⟩
theorem Ar(n s:Int)(w:MZ):Calls Tryz.prog 34 #[.int .i64 n,.int .i64 s] w (aW (if iJ n s=true then aT n.toNat s.toNat else zDk) (if iJ n s=true then 0 else 2) w):=by
 obtain⟨W,hW⟩:=NX9 (w.alloc (.cells #[.int .i64 0,.slice none 0 0,.slice none 0 0,.int .i64 0] 25))
 have y:Hid (Below w.heap.size w W):=by rw[<-hW];exact(af _ w).alloc ai _
 have zW:W.heap.size=w.heap.size+1:=by rw[<-hW];simp
 have HZ:Hid (Bk W w.heap.size 25 #[.int .i64 0,.slice none 0 0,.slice none 0 0,.int .i64 0]):=by rw[<-hW];exact Bk.new w _ _
 obtain⟨z0,z1,z2,z3⟩:=HZ.o.dk4;obtain⟨f0,f1,f2,f3⟩:=fr4 HZ.o;have d:=ah (AR n s W);have HW:=ah hW;clear hW;cases hr:iJ n s with
 | false =>
   rw[hr]at d;clear hr
   go_enter Tryz.func34,Tryz.ntmps34
   go_wp2_with fail;rw[HW.o];refine d.o.mono ?_;rintro e w1 ⟨rfl,rfl⟩;go_wp2_with fail;refine ZY (fw Tryz.results34 rfl (HZ.o.set4 _ _ _ _) rfl) rfl ?_;exact⟨⟨none,0,none,0⟩,rfl,nk _,dH y.o (by omega) _ _ _ _⟩
 | true =>
   rw[hr]at d;have hb:=of_decide_eq_true hr;obtain⟨n,rfl⟩:∃m:Nat,n=m:=⟨n.toNat,by omega⟩
   obtain⟨s,rfl⟩:∃m:Nat,s=m:=⟨s.toNat,by omega⟩
   have K:1<=n:=by omega
   have L:n<=1000:=by omega
   have M:1<=s:=by omega
   have N:s<=512:=by omega
   have z:=ah (fun w'=>xK s w' (by omega));obtain⟨zs,t⟩:=NX9 (ofL (List.replicate s 0))
   have h:Hid (∀w',Calls Tryz.prog 74 #[.string ⟨#[0]⟩,.int .i64 s] w' fun e w''=>e= .returned (.string zs)/\Below w'.heap.size w' w''):=fun w'=>by rw[<-t];exact z.o w'
   have D:=ah t;simp only[if_true,Int.toNat_natCast];obtain⟨i0,hi,l,o,q⟩:=info_parts iT;have r:i0.bytes*n<=281474976710656:=by rw[q];omega
   have Hi:=ah hi;have E:=ah l;have F:=ah o;have G:=ah r;clear hr hb t z hi l o q r
   go_enter Tryz.func34,Tryz.ntmps34
   go_wp2_with fail;rw[HW.o];refine d.o.mono ?_;rintro e w1 ⟨rfl,rfl⟩
   go_wp2_with (at_make;refine aN ?_)
   refine aF ?_;refine wpList_make_full _ rfl (.tmp 14) (.tmp 14) 22 rfl W.heap.size 9 i0 _ 1 Tryz.underlying22 Hi.o E.o F.o .i64 .i64 n n n rfl rfl rfl rfl G.o (by unfold maxLen;omega) ai ?_;intro w2 ho hg;have HO:=ah ho;have A:Below W.heap.size W w2:=(af _ W).grown hg ai (fun k e=>by cases e);have u:=ah A;clear ho hg A;go_wp2_with fail;refine(h.o _).mono ?_;rintro e w3 ⟨rfl,f⟩;have v:Hid (w3.ownsRow W.heap.size 9 1 (.slice (some ⟨W.heap.size,0,none⟩) n n) n (madeCells (Value.cells (.string ⟨#[]⟩)) (n*1)).toList):=fM HO.o f;have H:=u.o.size;have O:=f.size;have I:Hid (Below W.heap.size W w3):=u.o.trans (f.mono H);rw[zW]at v;clear f h HO u z0 z1 z2 z3 f0 f1 f2 f3;go_wp2_with fail
   go_loopw[20] (fun i wr=>∃(k:Nat)(xs:List M4),k<=n/\i= .int .i64 k/\Hid (xs.length=n/\∀j,j<k->xs[j]? =some (.string zs))/\Hid (wr.ownsRow (w.heap.size+1) 9 1 (.slice (some ⟨w.heap.size+1,0,none⟩) n n) n xs)/\Hid (Below W.heap.size W wr)) (fun i _=>n - (intOf i).toNat)
   case atStart=>exact⟨0,_,ZZ _,rfl,⟨by have:=v.o.1;omega,fun j hj=>absurd hj (by omega)⟩,v.o,I.o⟩
   case round =>
    obtain⟨k,xs,hk,rfl,a,hO,c⟩:=hrel;obtain⟨P,Q,b,x⟩:=ni hO.o;have zr:=b.lt;by_cases hlt:k<n
    . have J: (k:Int)< (n:Int):=by omega
      have B:xs[k]? =some (xs[k]'(by rw[a.o.1];exact hlt)):=Z6 _;have c0:wr.cell? ⟨w.heap.size+1,k,none⟩=some (xs[k]'(by rw[a.o.1];exact hlt)):=by rw[b.cell];exact x k _ B
      have c9:=b.free k;generalize xs[k]'(by rw[a.o.1];exact hlt)=old at *;clear b x B;go_wp2_with fail;go_roundw
      case rel =>
       refine⟨k+1,xs.set k (.string zs),by omega,by go_num,⟨by rw[List.length_set];exact a.o.1,fun j hj=>?_⟩,ry hO.o _,c.o.setCell (p:=⟨w.heap.size+1,k,none⟩) (by show W.heap.size<=w.heap.size+1;omega) _⟩;rw[List.getElem?_set];split
       . rename_i e;rw[if_pos (by rw[a.o.1];omega)]
       . exact a.o.2 j (by omega)
      case measure=>simp[intOf];omega
    . have J:¬(k:Int)< (n:Int):=by omega
      have C:xs=flat aA (List.replicate n (List.replicate s 0)):=by
       apply List.ext_getElem?
       intro j;by_cases hj:j<n
       . rw[a.o.2 j (by omega)]
         have:=gG (enc:=aA) dI (List.replicate n (List.replicate s 0)) j 0 _ (by rw[List.getElem?_replicate,if_pos hj]) (by omega);rw[Nat.mul_one,Nat.add_zero]at this;rw[this,<-D.o];rfl
       . rw[List.getElem?_eq_none (by rw[a.o.1];omega),List.getElem?_eq_none (by rw[gF dI,List.length_replicate];omega)]
      have g:=ah ((HZ.o.below c.o (by omega)));obtain⟨z0,z1,z2,z3⟩:=g.o.dk4;obtain⟨f0,f1,f2,f3⟩:=fr4 g.o;rw[C]at hO;have HM:Hid (DkM wr wr.heap.size (aT n s) ⟨some ⟨w.heap.size+1,0,none⟩,n,none,0⟩):=⟨by have:=Sl.of_own hO.o;show Sl _ _ _ _ (List.replicate n _).length _;rw[List.length_replicate];exact this,Sl.nil _ _ _ _⟩
      clear C a b x;go_wp2_with fail;refine ZY (fw Tryz.results34 rfl (g.o.set4 _ _ _ _) rfl) rfl ?_;exact⟨⟨some ⟨w.heap.size+1,0,none⟩,n,none,0⟩,by simp[dkV,dkC,aT],(HM.o.box g.o _ _ _ _).more (by simp),dH (y.o.trans (c.o.mono (by omega))) (by omega) _ _ _ _⟩
theorem IX{fn:Func}{c:Tmp}(h:fn.results= #[.cell c 25]){w:MZ}{a:Array M4}{b:Nat}{x0 x1 x2 x3:M4}(h1:a[c]?.getD undef= .pointer (some ⟨b,0,none⟩))(hk:Bk w b 25 #[x0,x1,x2,x3]) :
  (results fn a).run Tryz.prog w= .ok (.agg #[x0,x1,x2,x3]) w:=BS h h1 hk
theorem Aa(d:Dk)(s:Dsl)(B:Nat)(qs:List Int)(A:OA)(c B2:Nat)(w:MZ)(hd:d.Ok)(hm:DkM w B d s)(hB:B<=w.heap.size)(hp:d.pn.length<=900000)(hs:Sl w B2 1 A qs.length (flat gW qs))(hB2:B2<=w.heap.size)(hq:qs.length<=1000000) :
  Calls Tryz.prog 22 #[dkV d s,.slice A qs.length c] w fun e w'=>∃s',e= .returned (dkV (ek d qs) s')/\DkM w' w'.heap.size (ek d qs) s'/\Below w.heap.size w w':=by
 obtain⟨W,hW⟩:=NX9 (((w.alloc (.cells (dkC d s) 25)).alloc (.cells #[.slice A qs.length c] 59)).alloc (.cells #[.int .i64 0,.slice none 0 0,.slice none 0 0,.int .i64 0] 25))
 have z:Hid (Below w.heap.size w W):=by rw[<-hW];exact(((af _ w).alloc ai _).alloc (by simp) _).alloc (by simp;omega) _
 have zW:W.heap.size=w.heap.size+3:=by rw[<-hW];simp
 have HK:Hid (Bk W w.heap.size 25 (dkC d s)):=by rw[<-hW];exact((Bk.new w _ _).alloc _).alloc _
 have HP:Hid (Bk W (w.heap.size+1) 59 #[.slice A qs.length c]):=by
  rw[<-hW];have:=Bk.new (w.alloc (.cells (dkC d s) 25)) 59 #[.slice A qs.length c];rw[Z9]at this;exact this.alloc _
 have HZ:Hid (Bk W (w.heap.size+1+1) 25 #[.int .i64 0,.slice none 0 0,.slice none 0 0,.int .i64 0]):=by
  rw[<-hW];have:=Bk.new ((w.alloc (.cells (dkC d s) 25)).alloc (.cells #[.slice A qs.length c] 59)) 25 #[.int .i64 0,.slice none 0 0,.slice none 0 0,.int .i64 0];rw[Z9,Z9]at this;exact this
 have HM:Hid (DkM W B d s):=hm.below z.o hB;have HS:Hid (Sl W B2 1 A qs.length (flat gW qs)):=hs.below z.o hB2;have HC:=ah (ow d s B W hd HM.o (by omega) (by omega));have r:Hid (∀w1,Below W.heap.size W w1->Calls Tryz.prog 59 #[dkV d s,.func (.func 60) #[] #[.pointer (some ⟨w1.heap.size,0,none⟩),.pointer (some ⟨w.heap.size+1,0,none⟩),.pointer (some ⟨w.heap.size,0,none⟩)]] (w1.alloc (.cells #[.int .i64 0] 3)) fun e w'=>∃s',e= .returned (dkV {d with ss:=bM d.sz d.ss d.pn qs,pn:= []} s')/\DkM w' w'.heap.size {d with ss:=bM d.sz d.ss d.pn qs,pn:= []} s'/\Gb (fun b=>b=w1.heap.size) (w1.alloc (.cells #[.int .i64 0] 3)) w'):=by
  intro w1 h1;have Y:=h1.size;have t:Below w1.heap.size w1 (w1.alloc (.cells #[.int .i64 0] 3)):=(af _ w1).alloc ai _;have P:qM d.sz qs w1.heap.size (w.heap.size+1) w.heap.size A c (.slice s.a1 d.ss.length s.c1) (.slice s.a2 d.pn.length s.c2) (.int .i64 d.lf) 0 (w1.alloc (.cells #[.int .i64 0] 3)) :=
   ⟨by rw[Nat.zero_min];exact Bk.new w1 _ _,(HP.o.below h1 (by omega)).below t (by omega),(HK.o.below h1 (by omega)).below t (by omega),((HS.o.below h1 (by omega)).below t (by omega)).more (by omega)⟩
  have:=xO d s B 60 #[.pointer (some ⟨w1.heap.size,0,none⟩),.pointer (some ⟨w.heap.size+1,0,none⟩),.pointer (some ⟨w.heap.size,0,none⟩)] (fun k o x=>x.take (fQ d.sz (qs.getD k 0))++o.drop (fQ d.sz (qs.getD k 0))) w1.heap.size (qM d.sz qs w1.heap.size (w.heap.size+1) w.heap.size A c (.slice s.a1 d.ss.length s.c1) (.slice s.a2 d.pn.length s.c2) (.int .i64 d.lf)) _ hd ((HM.o.below h1 (by omega)).below t (by omega)) (by simp;omega) (by omega) (by omega)
   ⟨.inr ⟨_,_,_,rfl,rfl⟩,by simp,fun k o x W2 hi h1 h2=>Il d.sz qs w1.heap.size (w.heap.size+1) w.heap.size A c _ _ _ k o x W2 hi hd.sz1 hq h1 h2 (by omega) (by omega),fun k o x h1 h2=>by simp[h1,h2];have:=uk d.sz (qs.getD k 0);omega,fun k W2 W3 hi hz hb=>⟨hi.n.below hb (by simp),hi.p.below hb (by simp;omega),hi.d.below hb (by simp;omega),hi.s.below hb (by simp)⟩⟩ P
  rw[yD,List.drop_zero]at this;refine this.mono ?_;rintro e w' ⟨s',rfl,h2,h3,_⟩;exact⟨s',rfl,h2,h3⟩
 have HD:=ah hd;have HW:=ah hW;obtain⟨m,E⟩:=NX9 qs.length
 obtain⟨td,C⟩:=NX9 (bM d.sz d.ss d.pn qs)
 have Q:Hid (ek d qs={d with ss:=td,pn:= [],lf:= -1}):=by show _=_;rw[ek,C]
 rw[C]at r;rw[Q.o];clear hd hm hs hW C;rw[E]at HW HP ⊢;clear E;obtain⟨ns,F⟩:=NX9 d.ss.length
 obtain⟨np,G⟩:=NX9 d.pn.length
 simp only[dkV,dkC,F,G,List.length_nil]at HC r HW HK ⊢;clear F G;obtain⟨k0,k1,k2,k3⟩:=HK.o.dk4
 go_enter Tryz.func22,Tryz.ntmps22
 go_wp2_with fail;rw[HW.o];refine HC.o.mono ?_;rintro e w1 ⟨rfl,h⟩;have R:=ah h;have S:=h.size;have y:=ah (r.o w1 h);have q:=((HK.o.below h (by omega)).alloc (.cells #[.int .i64 0] 3)).dk4;obtain⟨q0,q1,q2,q3⟩:=q;clear h HC k0 k1 k2 k3 r;go_wp2_with fail;refine y.o.mono ?_;rintro e w3 ⟨s3,rfl,H,a⟩;have I:=ah H;have T:Hid (Below W.heap.size W (w1.alloc (.cells #[.int .i64 0] 3))):=R.o.alloc S _;have J:=a.size;rw[Z9]at J;have D:Hid (Below W.heap.size W w3):=T.o.trans ⟨a.os,a.tape,a.output,by rw[Z9];exact J,fun i hi=>a.block i (by rw[Z9];omega) (by omega)⟩;have j:=ah (HK.o.below D.o (by omega));have u:=ah (HZ.o.below D.o (by omega));obtain⟨q0,q1,q2,q3⟩:=j.o.dk4;obtain⟨z0,z1,z2,z3⟩:=u.o.dk4;obtain⟨e0,e1,e2,e3⟩:=fr4 j.o;obtain⟨f0,f1,f2,f3⟩:=fr4 u.o;clear H a y
 go_upto_region 5 with fail
 obtain⟨W4,f⟩:=NX9 (((((w3.setCell ⟨w.heap.size,0,none⟩ (.int .i64 d.sz)).setCell ⟨w.heap.size,1,none⟩ (.slice s3.a1 td.length s3.c1)).setCell ⟨w.heap.size,2,none⟩ (.slice s3.a2 0 s3.c2)).setCell ⟨w.heap.size,3,none⟩ (.int .i64 d.lf)))
 have l:Hid (Bk W4 w.heap.size 25 #[.int .i64 d.sz,.slice s3.a1 td.length s3.c1,.slice s3.a2 0 s3.c2,.int .i64 d.lf]):=by rw[<-f];exact j.o.set4 _ _ _ _
 have K:w.heap.size+1+1≠w.heap.size:=by omega
 have L:Hid (Bk W4 (w.heap.size+1+1) 25 #[.int .i64 0,.slice none 0 0,.slice none 0 0,.int .i64 0]):=by rw[<-f];exact(rZ _ _ _ _ _ _ _ K).trans u.o
 have M:Hid (DkM W4 W4.heap.size {d with ss:=td,pn:= []} s3):=by rw[<-f];exact(I.o.box j.o _ _ _ _).more (by simp)
 have N:Hid (Below w.heap.size w W4):=by rw[<-f];exact dH (z.o.trans (D.o.mono (by omega))) ai _ _ _ _
 rw[f];clear f q0 q1 q2 q3 z0 z1 z2 z3 e0 e1 e2 e3 f0 f1 f2 f3 j u I;have e3:=l.o.free 3;obtain⟨q0,q1,q2,q3⟩:=l.o.dk4
 go_upto_region 6 with fail
 obtain⟨W5,g⟩:=NX9 (W4.setCell ⟨w.heap.size,3,none⟩ (.int .i64 (-1)))
 have U:Hid (Bk W5 w.heap.size 25 #[.int .i64 d.sz,.slice s3.a1 td.length s3.c1,.slice s3.a2 0 s3.c2,.int .i64 (-1)]):=by rw[<-g];show Bk _ _ _ _;have:=l.o.set 3 (.int .i64 (-1));simpa using this
 have v:Hid (Bk W5 (w.heap.size+1+1) 25 #[.int .i64 0,.slice none 0 0,.slice none 0 0,.int .i64 0]):=by rw[<-g];exact L.o.far (p:=⟨w.heap.size,3,none⟩) K _
 have V:Hid (DkM W5 W5.heap.size {d with ss:=td,pn:= []} s3):=by rw[<-g];exact(M.o.box1 l.o 3 _).more (by simp)
 have X:Hid (Below w.heap.size w W5):=by rw[<-g];exact N.o.setCell (p:=⟨w.heap.size,3,none⟩) ai _
 rw[g];clear g q0 q1 q2 q3 e3 l L M N;obtain⟨q0,q1,q2,q3⟩:=U.o.dk4;obtain⟨z0,z1,z2,z3⟩:=v.o.dk4;obtain⟨f0,f1,f2,f3⟩:=fr4 v.o;go_wp2_with fail;refine ZY (IX Tryz.results22 rfl (v.o.set4 _ _ _ _)) rfl ?_;have O:=V.o.box v.o (.int .i64 d.sz) (.slice s3.a1 td.length s3.c1) (.slice s3.a2 0 s3.c2) (.int .i64 (-1));exact⟨s3,rfl,⟨O.ss.more (by simp),O.pn.more (by simp)⟩,dH X.o (by omega) _ _ _ _⟩
def stR(w:MZ)(b:Nat)(r:Rp)(s:Rsl):MZ :=
 ((((((w.setCell ⟨b,0,none⟩ (.int .i64 r.d.sz)).setCell ⟨b,1,none⟩ (.slice s.d.a1 r.d.ss.length s.d.c1)).setCell ⟨b,2,none⟩ (.slice s.d.a2 r.d.pn.length s.d.c2)).setCell ⟨b,3,none⟩ (.int .i64 r.d.lf)).setCell ⟨b,4,none⟩ (.slice s.pA r.p.length s.pc)).setCell ⟨b,5,none⟩ (.slice s.rA r.rs.length s.rc)).setCell ⟨b,6,none⟩ (.slice s.lA r.lg.length s.lc)
theorem iV(w:MZ)(b:Nat)(r:Rp)(s:Rsl) :
 ((((((w.setCell ⟨b,0,none⟩ (.int .i64 r.d.sz)).setCell ⟨b,1,none⟩ (.slice s.d.a1 r.d.ss.length s.d.c1)).setCell ⟨b,2,none⟩ (.slice s.d.a2 r.d.pn.length s.d.c2)).setCell ⟨b,3,none⟩ (.int .i64 r.d.lf)).setCell ⟨b,4,none⟩ (.slice s.pA r.p.length s.pc)).setCell ⟨b,5,none⟩ (.slice s.rA r.rs.length s.rc)).setCell ⟨b,6,none⟩ (.slice s.lA r.lg.length s.lc)=stR w b r s:=rfl
theorem fP(w:MZ)(b:Nat)(r:Rp)(s:Rsl): (stR w b r s).heap.size=w.heap.size:=by simp[stR]
theorem RpM.st{w:MZ}{B b:Nat}{r r0 q:Rp}{s s0 t:Rsl}(h:RpM w B r s)(hk:Bk w b 35 (rpC q t)):RpM (stR w b r0 s0) B r s :=
 h.box hk (by simp[rpC,bxV]) (fun k hk'=>gq _ _ _ _ _ _ _ _ _ k hk')
structure DoI(w:MZ)(r:Rp)(s:Rsl)(a u:Nat)(x:Ac)(r':Rp)(s':Rsl)(y:Int)(W:MZ):Prop where
 k:Bk W w.heap.size 35 (rpC r s)
 z:Bk W (w.heap.size+1+1) 35 rzC
 n:Bk W (w.heap.size+1+1+1) 35 (rpC r' s')
 rm:RpM W W.heap.size r s
 rm':RpM W W.heap.size r' s'
 b:Below w.heap.size w W
 sz:w.heap.size+4<=W.heap.size
 p:DoP r a u x (if y=0∨y=20 then r' else r) y
theorem DoI.of{w W w1:MZ}{B:Nat}{r r' q:Rp}{s s' t:Rsl}{a u:Nat}{x:Ac}{y:Int}(hK:Bk W w.heap.size 35 (rpC r s))(hZ:Bk W (w.heap.size+1+1) 35 rzC)(hN:Bk W (w.heap.size+1+1+1) 35 (rpC q t))
  (hb0:Below w.heap.size w W) (hz:w.heap.size+4<=W.heap.size) (hm:RpM w B r s) (hB:B<=w.heap.size) (h1:RpM w1 w1.heap.size r' s') (hb:Below W.heap.size W w1) (hp:DoP r a u x (if y=0∨y=20 then r' else r) y) :
  DoI w r s a u x r' s' y (stR w1 (w.heap.size+1+1+1) r' s'):=by
 have c:=hb.size;have b:=hN.below hb (by omega);have e:=fP w1 (w.heap.size+1+1+1) r' s';exact⟨(gq _ _ _ _ _ _ _ _ _ _ (by omega)).trans (hK.below hb (by omega)),(gq _ _ _ _ _ _ _ _ _ _ (by omega)).trans (hZ.below hb (by omega)),b.set7 _ _ _ _ _ _ _,
  ((hm.below (hb0.trans (hb.mono (by omega))) hB).st b).more (by rw[e];omega),(h1.st b).more (by rw[e];omega),cZ (hb0.trans (hb.mono (by omega))) (by omega) _ _ _ _ _ _ _,by rw[e];omega,hp⟩
theorem vB(hpck:iW)(r:Rp)(s:Rsl)(gs:List Gru)(a u:Nat)(x:AcX)(B:Nat)(w:MZ)(hI:RI r)(hL:r.d.lf≠0->Lvs r gs a u)(hm:RpM w B r s)(hx:AcM w B x)(hf:AcF x.1)(hB:B<=w.heap.size) :
  Calls Tryz.prog 26 #[rpV r s,.agg (acA x)] w fun e w'=>∃r' y,dw r' y w e w'/\DoP r a u x.1 r' y:=by
 obtain⟨W,hW⟩:=NX9 ((((w.alloc (.cells (rpC r s) 35)).alloc (.cells (acA x) 65)).alloc (.cells rzC 35)).alloc (.cells (rpC r s) 35))
 have U:Hid (Below w.heap.size w W):=by rw[<-hW];exact((((af _ w).alloc ai _).alloc (by simp) _).alloc (by simp;omega) _).alloc (by simp;omega) _
 have HK:Hid (Bk W w.heap.size 35 (rpC r s)):=by rw[<-hW];exact(((Bk.new w _ _).alloc _).alloc _).alloc _
 have HX:Hid (Bk W (w.heap.size+1) 65 (acA x)):=by rw[<-hW];exact(((Bk.new _ _ _).at_ (by simp)).alloc _).alloc _
 have HZ:Hid (Bk W (w.heap.size+1+1) 35 rzC):=by rw[<-hW];exact((Bk.new _ _ _).at_ (by simp)).alloc _
 have HN:Hid (Bk W (w.heap.size+1+1+1) 35 (rpC r s)):=by rw[<-hW];exact(Bk.new _ _ _).at_ (by simp)
 have zW:W.heap.size=w.heap.size+4:=by rw[<-hW];simp
 have M:Hid (RpM W B r s):=hm.below U.o hB;have Q:Hid (AcM W B x):=hx.below U.o hB;have HM:=ah hm;have HI:=ah hI;have HL:=ah hL;have HF:=ah hf;have R:=ah hB;have HW:=ah hW;clear hW hm hx hI hL hf;simp only[acA]at HX HW;obtain⟨⟨k0,k1,k2,k3⟩,k4,k5,k6⟩:=HK.o.seven;obtain⟨⟨x0,x1,x2,x3⟩,x4,x5,x6⟩:=HX.o.seven;have C:Hid (∀(r':Rp)(s':Rsl)(y:Int)(w1:MZ),RpM w1 w1.heap.size r' s'->Below W.heap.size W w1->DoP r a u x.1 (if y=0∨y=20 then r' else r) y->DoI w r s a u x.1 r' s' y (stR w1 (w.heap.size+1+1+1) r' s')):=fun r' s' y w1 h1 h2 h3=>DoI.of HK.o HZ.o HN.o U.o (by omega) HM.o R.o h1 h2 h3;obtain⟨kd,V⟩:=NX9 x.1.kind
 have G:=ah V;simp only[rpV,rpC,acA,V]at HK HZ HN HW HX ⊢;clear V k0 k1 k2 k3 k4 k5 k6 x0 x1 x2 x3 x4 x5 x6;by_cases hc:0<=kd/\kd<=2
 focus
  by_cases hl:r.d.lf=0
  . have HE:Hid (DoP r a u x.1 r 20):= .inl ⟨by rw[G.o];exact hc,hl,rfl,rfl⟩
    have au: (r.d.lf == 0)=true:=by rw[hl];rfl
    obtain⟨ad,av⟩:=hc;clear hl C
    go_enter Tryz.func26,Tryz.ntmps26
    go_wp2_with fail;refine ZY (dO Tryz.results26 rfl (((Bk.new _ _ _).at_ (by simp)).alloc _) rfl) rfl ⟨r,20,⟨s,rfl,?_,?_⟩,HE.o⟩
    . exact(HM.o.below (((((af _ w).alloc ai _).alloc (by simp) _).alloc (by simp;omega) _).alloc (by simp;omega) _) R.o).more (by simp;omega)
    . exact((((af _ w).alloc ai _).alloc (by simp) _).alloc (by simp;omega) _).alloc (by simp;omega) _
  have au: (r.d.lf == 0)=false:=by rw[beq_eq_false_iff_ne];exact hl
  have aw:=ah hl;have D:=ah (HL.o hl);have K:Hid (∀r' y,PlP r a u (iw x.1 r.p r.rs r.lg) r' y->DoP r a u x.1 r' y):=fun r' y h=> .inr (.inl ⟨by rw[G.o];exact hc,aw.o,h⟩);have aD:kd=0∨kd=1∨kd=2:=by omega
  clear hl hc;rcases aD with rfl | rfl | rfl
  focus
   have HC:=ah (rX hpck r s gs a u x.1.nm x.1.fs x.2.fA x.1.fs.length x.2.fc dG nL 7 B W HI.o.ok D.o.d.pn D.o.j D.o.m D.o.n M.o (by omega) Q.o.f (by have:=HF.o.nm;omega) (by have:=HF.o.fn;omega) (fun f hf=>by have:=HF.o.fs f hf;omega) Ml);obtain⟨pp,X⟩:=NX9 (gJ r.p r.rs r.lg x.1.nm x.1.fs dG nL 7)
   rw[X]at HC;have N:Hid (iw x.1 r.p r.rs r.lg=pp.1):=by show _=_;unfold iw;rw[if_pos G.o,X]
   unfold dG nL at HC;simp only[rpV,rpC]at HC;clear X
   go_enter Tryz.func26,Tryz.ntmps26
   go_wp2_with fail;rw[HW.o];refine HC.o.mono ?_;rintro e w1 H;obtain⟨r',d',y,⟨s',rfl,o,g⟩,I⟩:=H.o;have c:=ah (C.o r' s' y w1 o g (K.o _ _ (by rw[N.o];exact I)));have l:=ah (HN.o.below g (by omega));clear o g HC C K H I;simp only[rpV,rpC,aB];obtain⟨⟨v0,v1,v2,v3⟩,v4,v5,v6⟩:=l.o.seven;obtain⟨⟨f0,f1,f2,f3⟩,f4,f5,f6⟩:=l.o.free7
   go_upto_region 15 with fail
   rw[iV w1 (w.heap.size+1+1+1) r' s'];obtain⟨wt,A⟩:=NX9 (stR w1 (w.heap.size+1+1+1) r' s')
   rw[A]at c ⊢;clear A v0 v1 v2 v3 v4 v5 v6 f0 f1 f2 f3 f4 f5 f6 l
  rotate_left
  focus
   have HC:=ah (sS hpck r s gs a u x.1.pl x.2.pA x.1.pl.length x.2.pc x.1.us x.2.uA x.1.us.length x.2.uc B W HI.o.ok D.o.d.pn D.o.j D.o.m D.o.n M.o (by omega) Q.o.p Q.o.u (by have:=HF.o.pn;omega) (fun i hi=>by have:=HF.o.ps i hi;omega) HF.o.pw (by have:=HF.o.un;omega) (fun v hv=>⟨by have:=HF.o.us v hv;omega,HF.o.uw v hv⟩));have N:Hid (iw x.1 r.p r.rs r.lg=dh r.p r.rs r.lg x.1.pl x.1.us):=by show _=_;unfold iw;rw[if_neg (by rw[G.o];decide),if_pos G.o]
   simp only[rpV,rpC]at HC
   go_enter Tryz.func26,Tryz.ntmps26
   go_wp2_with fail;rw[HW.o];refine HC.o.mono ?_;rintro e w1 H;obtain⟨r',y,⟨s',rfl,o,g⟩,I⟩:=H.o;have c:=ah (C.o r' s' y w1 o g (K.o _ _ (by rw[N.o];exact I)));have l:=ah (HN.o.below g (by omega));clear o g HC C K H I;simp only[rpV,rpC];obtain⟨⟨v0,v1,v2,v3⟩,v4,v5,v6⟩:=l.o.seven;obtain⟨⟨f0,f1,f2,f3⟩,f4,f5,f6⟩:=l.o.free7
   go_upto_region 15 with fail
   rw[iV w1 (w.heap.size+1+1+1) r' s'];obtain⟨wt,A⟩:=NX9 (stR w1 (w.heap.size+1+1+1) r' s')
   rw[A]at c ⊢;clear A v0 v1 v2 v3 v4 v5 v6 f0 f1 f2 f3 f4 f5 f6 l
  rotate_left
  focus
   have HC:=ah (xx r s gs a u B W HI.o.ok D.o.d.pn D.o.j D.o.m D.o.n M.o (by omega));have N:Hid (iw x.1 r.p r.rs r.lg=fD r.p r.rs r.lg):=by show _=_;unfold iw;rw[if_neg (by rw[G.o];decide),if_neg (by rw[G.o];decide)]
   simp only[rpV,rpC]at HC
   go_enter Tryz.func26,Tryz.ntmps26
   go_wp2_with fail;rw[HW.o];refine HC.o.mono ?_;rintro e w1 H;obtain⟨r',n',y,⟨s',rfl,o,g⟩,I⟩:=H.o (u:=u);have c:=ah (C.o r' s' y w1 o g (K.o _ _ (by rw[N.o];exact I)));have l:=ah (HN.o.below g (by omega));clear o g HC C K H I;simp only[rpV,rpC];obtain⟨⟨v0,v1,v2,v3⟩,v4,v5,v6⟩:=l.o.seven;obtain⟨⟨f0,f1,f2,f3⟩,f4,f5,f6⟩:=l.o.free7
   go_upto_region 15 with fail
   rw[iV w1 (w.heap.size+1+1+1) r' s'];obtain⟨wt,A⟩:=NX9 (stR w1 (w.heap.size+1+1+1) r' s')
   rw[A]at c ⊢;clear A v0 v1 v2 v3 v4 v5 v6 f0 f1 f2 f3 f4 f5 f6 l
  rotate_left
 rotate_left 3
 focus
  by_cases h3:kd=3
  . subst h3
    have HC:=ah (yQ r s x.1.left B W M.o (by omega));have O:Hid (DoP r a u x.1 (if(0:Int)=0∨ (0:Int)=20 then dL r x.1.left else r) 0):= .inr (.inr ⟨by rw[G.o];decide,by rw[if_pos (.inl rfl)];exact mX HI.o⟩);obtain⟨r',L⟩:=NX9 (dL r x.1.left)
    rw[L]at HC O;simp only[rpV,rpC]at HC;clear L hc
    go_enter Tryz.func26,Tryz.ntmps26
    go_wp2_with fail;rw[HW.o];refine HC.o.mono ?_;rintro e w1 ⟨rfl,o,g⟩;have c:=ah (C.o r' s 0 w1 o g O.o);have l:=ah (HN.o.below g (by omega));clear o g HC C;obtain⟨⟨v0,v1,v2,v3⟩,v4,v5,v6⟩:=l.o.seven;obtain⟨⟨f0,f1,f2,f3⟩,f4,f5,f6⟩:=l.o.free7
    go_upto_region 15 with fail
    rw[iV w1 (w.heap.size+1+1+1) r' s];obtain⟨wt,A⟩:=NX9 (stR w1 (w.heap.size+1+1+1) r' s)
    rw[A]at c ⊢;clear A v0 v1 v2 v3 v4 v5 v6 f0 f1 f2 f3 f4 f5 f6 l;have zt:=c.o.sz;have F:=c.o.n;have E:=c.o.k;simp only[rpC]at F E;obtain⟨⟨v0,v1,v2,v3⟩,v4,v5,v6⟩:=F.seven;obtain⟨⟨k0,k1,k2,k3⟩,k4,k5,k6⟩:=E.seven;obtain⟨⟨z0,z1,z2,z3⟩,z4,z5,z6⟩:=c.o.z.seven;obtain⟨⟨f0,f1,f2,f3⟩,f4,f5,f6⟩:=c.o.z.free7;clear F E;go_wp2_with fail;exact ZY (dO Tryz.results26 rfl (c.o.z.set7 _ _ _ _ _ _ _) rfl) rfl ⟨r',0,⟨s,rfl,(c.o.rm'.st (q:=zRp) (t:=zRs) (r0:=r') (s0:=s) c.o.z).more (Nat.le_of_eq (fP wt (w.heap.size+1+1) r' s).symm),cZ c.o.b (by omega) _ _ _ _ _ _ _⟩,by have:=c.o.p;simpa using this⟩
  by_cases h4:kd=4
  . subst h4
    have HC:=ah (Aa r.d s.d B x.1.pk x.2.kA x.2.kc B W HI.o.ok M.o.d (by omega) (by have:=HI.o.pn;omega) Q.o.k (by omega) (by have:=HF.o.kn;omega));obtain⟨gc,p',Y,Z,S,ag,ab,_⟩:=HI.o.cut x.1.pk;obtain⟨ac,uc,al⟩:=S.jn;have J:=ah (fun(w1:MZ)(s1:Dsl)(h1:DkM w1 w1.heap.size (ek r.d x.1.pk) s1)=>tu ⟨ek r.d x.1.pk,p',Y,Z⟩ gc ac uc s1 w1.heap.size w1 S.ok S.pn al ag h1 ai ab.n);have O:Hid (DoP r a u x.1 (if(0:Int)=0∨ (0:Int)=20 then⟨ek r.d x.1.pk,p',Y,Z⟩ else r) 0):= .inr (.inr ⟨by rw[G.o];decide,by rw[if_pos (.inl rfl)];exact ab⟩);unfold dw at J;obtain⟨r',L⟩:=NX9 ((⟨ek r.d x.1.pk,p',Y,Z⟩:Rp))
    rw[L]at J O;have am:r'.d=ek r.d x.1.pk:=by rw[<-L]
    rw[am]at J;obtain⟨d',an⟩:=NX9 (ek r.d x.1.pk)
    rw[an]at HC J;simp only[dkV,dkC,rpV,rpC]at HC J;clear L an am hc S ag ab al
    go_enter Tryz.func26,Tryz.ntmps26
    go_wp2_with fail;rw[HW.o];refine HC.o.mono ?_;rintro e aE ⟨s1,rfl,ao,ap⟩;have aq:=ah ap;have HC:=ah (J.o aE s1 ao);clear J ao ap;go_wp2_with fail;refine HC.o.mono ?_;rintro e w1 ⟨s',rfl,o,T⟩;have g:Below W.heap.size W w1:=aq.o.trans (T.mono aq.o.size);clear T;have c:=ah (C.o r' s' 0 w1 o g O.o);have l:=ah (HN.o.below g (by omega));clear o g HC C;obtain⟨⟨v0,v1,v2,v3⟩,v4,v5,v6⟩:=l.o.seven;obtain⟨⟨f0,f1,f2,f3⟩,f4,f5,f6⟩:=l.o.free7
    go_upto_region 15 with fail
    rw[iV w1 (w.heap.size+1+1+1) r' s'];obtain⟨wt,A⟩:=NX9 (stR w1 (w.heap.size+1+1+1) r' s')
    rw[A]at c ⊢;clear A v0 v1 v2 v3 v4 v5 v6 f0 f1 f2 f3 f4 f5 f6 l;have zt:=c.o.sz;have F:=c.o.n;have E:=c.o.k;simp only[rpC]at F E;obtain⟨⟨v0,v1,v2,v3⟩,v4,v5,v6⟩:=F.seven;obtain⟨⟨k0,k1,k2,k3⟩,k4,k5,k6⟩:=E.seven;obtain⟨⟨z0,z1,z2,z3⟩,z4,z5,z6⟩:=c.o.z.seven;obtain⟨⟨f0,f1,f2,f3⟩,f4,f5,f6⟩:=c.o.z.free7;clear F E;go_wp2_with fail;exact ZY (dO Tryz.results26 rfl (c.o.z.set7 _ _ _ _ _ _ _) rfl) rfl ⟨r',0,⟨s',rfl,(c.o.rm'.st (q:=zRp) (t:=zRs) (r0:=r') (s0:=s') c.o.z).more (Nat.le_of_eq (fP wt (w.heap.size+1+1) r' s').symm),cZ c.o.b (by omega) _ _ _ _ _ _ _⟩,by have:=c.o.p;simpa using this⟩
  have ba: (kd == 0)=false:=by rw[beq_eq_false_iff_ne];omega
  have E: (kd == 1)=false:=by rw[beq_eq_false_iff_ne];omega
  have bb: (kd == 2)=false:=by rw[beq_eq_false_iff_ne];omega
  have bd: (kd == 3)=false:=by rw[beq_eq_false_iff_ne];omega
  have bf: (kd == 4)=false:=by rw[beq_eq_false_iff_ne];omega
  have HE:Hid (DoP r a u x.1 r 0):= .inr (.inr ⟨by rw[G.o];exact hc,HI.o⟩);have ar:Hid (∀o1 o2 o3 o4,RpM ((((w.alloc o1).alloc o2).alloc o3).alloc o4) ((((w.alloc o1).alloc o2).alloc o3).alloc o4).heap.size r s/\Below w.heap.size w ((((w.alloc o1).alloc o2).alloc o3).alloc o4)):=fun o1 o2 o3 o4=>by
   have hb:Below w.heap.size w ((((w.alloc o1).alloc o2).alloc o3).alloc o4):=((((af _ w).alloc ai _).alloc (by simp) _).alloc (by simp;omega) _).alloc (by simp;omega) _;exact⟨(HM.o.below hb R.o).more (Z0 R.o hb.size),hb⟩
  clear C h3 h4;by_cases ad:0<=kd
  . have av:¬kd<=2:=fun h=>hc ⟨ad,h⟩
    clear hc
    go_enter Tryz.func26,Tryz.ntmps26
    go_wp2_with fail;exact ZY (dO Tryz.results26 rfl (((Bk.new _ _ _).at_ (by simp)).alloc _) rfl) rfl ⟨r,0,⟨s,rfl,ar.o _ _ _ _⟩,HE.o⟩
  . clear hc
    go_enter Tryz.func26,Tryz.ntmps26
    go_wp2_with fail;exact ZY (dO Tryz.results26 rfl (((Bk.new _ _ _).at_ (by simp)).alloc _) rfl) rfl ⟨r,0,⟨s,rfl,ar.o _ _ _ _⟩,HE.o⟩
 all_goals
  have zt:=c.o.sz;have F:=c.o.n;have E:=c.o.k;simp only[rpC]at F E;obtain⟨⟨v0,v1,v2,v3⟩,v4,v5,v6⟩:=F.seven;obtain⟨⟨k0,k1,k2,k3⟩,k4,k5,k6⟩:=E.seven;obtain⟨⟨z0,z1,z2,z3⟩,z4,z5,z6⟩:=c.o.z.seven;obtain⟨⟨f0,f1,f2,f3⟩,f4,f5,f6⟩:=c.o.z.free7;clear F E;by_cases hy0:y=0
  . have P:Hid (DoP r a u x.1 r' 0):=ah (by have:=c.o.p;rw[hy0]at this;simpa using this)
    subst hy0;go_wp2_with fail;exact ZY (dO Tryz.results26 rfl (c.o.z.set7 _ _ _ _ _ _ _) rfl) rfl ⟨r',0,⟨s',rfl,(c.o.rm'.st (q:=zRp) (t:=zRs) (r0:=r') (s0:=s') c.o.z).more (Nat.le_of_eq (fP wt (w.heap.size+1+1) r' s').symm),cZ c.o.b (by omega) _ _ _ _ _ _ _⟩,P.o⟩
  by_cases hy2:y=20
  . have P:Hid (DoP r a u x.1 r' 20):=ah (by have:=c.o.p;rw[hy2]at this;simpa using this)
    subst hy2;go_wp2_with fail;exact ZY (dO Tryz.results26 rfl (c.o.z.set7 _ _ _ _ _ _ _) rfl) rfl ⟨r',20,⟨s',rfl,(c.o.rm'.st (q:=zRp) (t:=zRs) (r0:=r') (s0:=s') c.o.z).more (Nat.le_of_eq (fP wt (w.heap.size+1+1) r' s').symm),cZ c.o.b (by omega) _ _ _ _ _ _ _⟩,P.o⟩
  have P:Hid (DoP r a u x.1 r y):=by have:=c.o.p;rw[if_neg (fun h=>h.elim hy0 hy2)]at this;exact this
  have bg: (y != 0)=true:=by rw[bne_iff_ne];exact hy0
  have bh: (y != 20)=true:=by rw[bne_iff_ne];exact hy2
  clear hy0 hy2;go_wp2_with fail;exact ZY (dO Tryz.results26 rfl (c.o.z.set7 _ _ _ _ _ _ _) rfl) rfl ⟨r,y,⟨s,rfl,(c.o.rm.st (q:=zRp) (t:=zRs) (r0:=r) (s0:=s) c.o.z).more (Nat.le_of_eq (fP wt (w.heap.size+1+1) r s).symm),cZ c.o.b (by omega) _ _ _ _ _ _ _⟩,P.o⟩
theorem KJ{d:Dk}(hd:d.Ok)(hn:3<=d.ss.length):∀o∈bH d.sz d.ss,iZ d o:=by
 have h1:=gy (ss:=d.ss) (a:=1) (.inl rfl) hn;have h2:=gy (ss:=d.ss) (a:=2) (.inr rfl) hn;have hp: (bB d.sz []).length=d.sz:=gD (by simp);have hm: (bY d.sz 1).length=d.sz:=gD (by have:=hd.sz0;simp;omega);intro o ho w hw;simp only[bH,List.mem_cons,List.not_mem_nil,or_false]at ho;rcases ho with rfl | rfl | rfl | rfl | rfl <;> first | (cases hw;done) | (cases hw;exact⟨by simp only;omega,by assumption⟩)
theorem F5(d:Dk)(s:Dsl)(B:Nat)(w:MZ)(hd:d.Ok)(hn:3<=d.ss.length)(hpl:d.pn.length<=1000)(hm:DkM w B d s)(hB:B<=w.heap.size) :
  Calls Tryz.prog 44 #[dkV d s] w (aW (aH d (bH d.sz d.ss)).1 (aH d (bH d.sz d.ss)).2 w):=by
 obtain⟨W,hW⟩:=NX9 ((w.alloc (.cells (dkC d s) 25)).alloc (.cells #[.int .i64 0,.slice none 0 0,.slice none 0 0,.int .i64 0] 25))
 have M:Hid (Below w.heap.size w W):=by rw[<-hW];exact((af _ w).alloc ai _).alloc (by simp) _
 have HK:Hid (Bk W w.heap.size 25 (dkC d s)):=by rw[<-hW];exact(Bk.new w _ _).alloc _
 have HZ:Hid (Bk W (w.heap.size+1) 25 #[.int .i64 0,.slice none 0 0,.slice none 0 0,.int .i64 0]):=by
  rw[<-hW];have:=Bk.new (w.alloc (.cells (dkC d s) 25)) 25 #[.int .i64 0,.slice none 0 0,.slice none 0 0,.int .i64 0]
  rwa[Z9]at this
 have zW:W.heap.size=w.heap.size+2:=by rw[<-hW];simp
 have HM:Hid (DkM W B d s):=hm.below M.o hB;have HC:=ah (yu d s B W hd hn HM.o (by omega) (by omega));have D:=ah (fun w'=>l7 [] d.sz w' (ZZ _) hd.sz1);have N:=ah (fun w'=>l7 [1] d.sz w' hd.sz0 hd.sz1);have E:=ah (fun w'=>mg d s 1 w' (by omega) hd.n1 (.inl rfl));have F:=ah (fun w'=>mg d s 2 w' (by omega) hd.n1 (.inr rfl));have O:=ah (KJ hd hn);obtain⟨f1,G⟩:=NX9 (aC d.ss 1)
 obtain⟨f2,H⟩:=NX9 (aC d.ss 2)
 obtain⟨zs,P⟩:=NX9 (ofL (bB d.sz []))
 obtain⟨mk,I⟩:=NX9 (ofL (bY d.sz 1))
 have Q:=ah (fun w'=>jZ f1 (bB d.sz []) w');have R:=ah (fun w'=>jZ f2 (bB d.sz []) w');have S:=ah (fun w'=>jZ 0 (bY d.sz 1) w');have T:Hid ([some (f1,bB d.sz []),some (f2,bB d.sz []),none,some (0,bY d.sz 1),none]=bH d.sz d.ss):=by show _=_;unfold bH;rw[G,H]
 rw[G]at E;rw[H]at F;rw[P]at D Q R;rw[show ofL (bB d.sz [1])=mk from I]at N;rw[I]at S;obtain⟨l,z⟩:=NX9 ((aH d (bH d.sz d.ss)).1)
 obtain⟨au,A⟩:=NX9 ((aH d (bH d.sz d.ss)).2)
 have f:=ah (fun w' A' c' vs' (ho:OpsM w' w'.heap.size A' 5 vs' (bH d.sz d.ss)) (hm:DkM w' w'.heap.size d s)=>uM d s w'.heap.size A' 5 c' vs' (bH d.sz d.ss) w' hd hm ai ho O.o (by rw[ho.len];omega));unfold aW at f;rw[z,A]at f ⊢;have HW:=ah hW;clear hW hm hd G H P I z A;obtain⟨ns,U⟩:=NX9 d.ss.length
 obtain⟨np,V⟩:=NX9 d.pn.length
 simp only[dkV,dkC,U,V]at HC E F HK HW f ⊢;clear U V;obtain⟨k0,k1,k2,k3⟩:=HK.o.dk4
 go_enter Tryz.func44,Tryz.ntmps44
 go_wp2_with fail;rw[HW.o];refine HC.o.mono ?_;rintro e w1 ⟨rfl,m⟩;have al:=ah m;have am:=m.size;obtain⟨k0,k1,k2,k3⟩:=(HK.o.below m (by omega)).dk4;clear m HC;go_wp2_with fail;rw[show(⟨#[]⟩:M3)=ofL [] from rfl];refine(D.o _).mono ?_;rintro e w2 ⟨rfl,X⟩;have j:Hid (Below W.heap.size W w2):=al.o.trans (X.mono am);have av:=j.o.size;have J:=ah (HK.o.below j.o (by omega));have an:=ah (HZ.o.below j.o (by omega));obtain⟨q0,q1,q2,q3⟩:=J.o.dk4;have ao:Hid (DkM w2 W.heap.size d s):=(HM.o.more (by omega)).below j.o ai;have b:Hid (∀w',Below w2.heap.size w2 w'->Bk w' w.heap.size 25 #[.int .i64 d.sz,.slice s.a1 ns s.c1,.slice s.a2 np s.c2,.int .i64 d.lf]):=fun w' hb=>J.o.below hb J.o.lt;clear X D k0 k1 k2 k3;go_wp2_with fail
 go_region_held3 (fun w'=>w'.cell? ⟨w.heap.size,0,none⟩=some (.int .i64 d.sz)/\w'.cell? ⟨w.heap.size,1,none⟩=some (.slice s.a1 ns s.c1)/\w'.cell? ⟨w.heap.size,2,none⟩=some (.slice s.a2 np s.c2)/\w'.cell? ⟨w.heap.size,3,none⟩=some (.int .i64 d.lf))
  (first | exact Y9.o | exact S9.o | exact T8.o | exact S8.o | exact S7.o | exact S6.o | exact S5.o | exact S4.o | exact S3.o | exact⟨q0,q1,q2,q3⟩)
  (first
    | (have c:=a;go_at_call 97;refine(f.o _ _ 5 _ ap.o (ao.o.below (a.o.trans (Y.o.mono a.o.size)) (by omega) |>.more (by have:=a.o.size;simp;omega))).mono ?_
       rintro e w9 ⟨k,rfl,C,hb⟩;have Z:=ah C;have n:Hid (Below w2.heap.size w2 w9):=(a.o.trans (Y.o.mono a.o.size)).trans (hb.mono (by have:=a.o.size;simp;omega));have S9:=ah (b.o _ n.o).dk4;have q:=ah (an.o.below n.o (by omega));have g:w.heap.size≠w.heap.size+1:=by omega
       have Y9:=ah (((((b.o _ n.o).far (p:=⟨w.heap.size+1,0,none⟩) g (.int .i64 l.sz)).far (p:=⟨w.heap.size+1,1,none⟩) g (.slice k.a1 l.ss.length k.c1)).far (p:=⟨w.heap.size+1,2,none⟩) g (.slice k.a2 l.pn.length k.c2)).far (p:=⟨w.heap.size+1,3,none⟩) g (.int .i64 l.lf)).dk4;obtain⟨e0,e1,e2,e3⟩:=q.o.dk4;obtain⟨g0,g1,g2,g3⟩:=fr4 q.o;clear hb C)
    | (have c:=r;go_at_call 98;refine(S.o _).mono ?_;rintro e w8 ⟨v8,rfl,hv,hb⟩;obtain⟨p8,r8,rfl⟩:=hv.fn
       have a:Hid (Below w2.heap.size w2 w8):=r.o.trans (hb.mono r.o.size);have aw:Hid (Below w7.heap.size w7 w8):=hb;have aD:=ah hv;have S8:=ah (b.o _ a.o).dk4;have K:Hid (Below w6.heap.size w6 w8):=ab.o.trans (hb.mono ab.o.size);have ad:Hid (Below w4.heap.size w4 w8):=(L.o.trans (ag.o.mono L.o.size)).trans (K.o.mono (Z0 L.o.size ag.o.size));have h:Below w8.heap.size w8 (w8.alloc (.cells #[.func (.func 169) #[] #[p4,r4],.func (.func 169) #[] #[p6,r6],.func (.func 100) #[] #[],.func (.func 169) #[] #[p8,r8],.func (.func 100) #[] #[]] 166)):=(af _ w8).alloc ai _;have Y:=ah h;have T8:=ah (b.o _ (a.o.trans (h.mono a.o.size))).dk4;have ap:Hid (OpsM (w8.alloc (.cells #[.func (.func 169) #[] #[p4,r4],.func (.func 169) #[] #[p6,r6],.func (.func 100) #[] #[],.func (.func 169) #[] #[p8,r8],.func (.func 100) #[] #[]] 166)) (w8.alloc (.cells #[.func (.func 169) #[] #[p4,r4],.func (.func 169) #[] #[p6,r6],.func (.func 100) #[] #[],.func (.func 169) #[] #[p8,r8],.func (.func 100) #[] #[]] 166)).heap.size (some ⟨w8.heap.size,0,none⟩) 5 [.func (.func 169) #[] #[p4,r4],.func (.func 169) #[] #[p6,r6],.func (.func 100) #[] #[],.func (.func 169) #[] #[p8,r8],.func (.func 100) #[] #[]] (bH d.sz d.ss)):=by
        show OpsM _ _ _ _ _ _;rw[<-T.o];refine⟨(Sl.new w8 _ _ 5 rfl).more (by simp),rfl,fun i x o hx ho=>?_⟩
        match i,hx,ho with
        | 0,hx,ho=>cases hx;cases ho;exact(((aq.o.below ad.o ai).more ad.o.size).below h ai).more (by simp)
        | 1,hx,ho=>cases hx;cases ho;exact(((ar.o.below K.o ai).more K.o.size).below h ai).more (by simp)
        | 2,hx,ho=>cases hx;cases ho;rfl
        | 3,hx,ho=>cases hx;cases ho;exact(hv.below h ai).more (by simp)
        | 4,hx,ho=>cases hx;cases ho;rfl
       clear h;clear hb hv)
    | (have c:=t;go_at_call 96;refine(N.o _).mono ?_;rintro e w7 ⟨rfl,hb⟩
       have r:Hid (Below w2.heap.size w2 w7):=t.o.trans (hb.mono t.o.size);have S7:=ah (b.o _ r.o).dk4;have ab:Hid (Below w6.heap.size w6 w7):=hb;clear hb)
    | (have c:=u;go_at_call 98;refine(R.o _).mono ?_;rintro e w6 ⟨v6,rfl,hv,hb⟩;obtain⟨p6,r6,rfl⟩:=hv.fn
       have t:Hid (Below w2.heap.size w2 w6):=u.o.trans (hb.mono u.o.size);have ag:Hid (Below w5.heap.size w5 w6):=hb;have ar:=ah hv;have S6:=ah (b.o _ t.o).dk4;clear hb hv)
    | (have c:=v;go_at_call 99;refine(F.o _).mono ?_;rintro e w5 ⟨rfl,hb⟩
       have u:Hid (Below w2.heap.size w2 w5):=v.o.trans (hb.mono v.o.size);have S5:=ah (b.o _ u.o).dk4;have L:Hid (Below w4.heap.size w4 w5):=hb;clear hb)
    | (have c:=y;go_at_call 98;refine(Q.o _).mono ?_;rintro e w4 ⟨v4,rfl,hv,hb⟩;obtain⟨p4,r4,rfl⟩:=hv.fn
       have v:Hid (Below w2.heap.size w2 w4):=y.o.trans (hb.mono y.o.size);have aE:Hid (Below w3.heap.size w3 w4):=hb;have aq:=ah hv;have S4:=ah (b.o _ v.o).dk4;clear hb hv)
    | (go_at_call 99;refine(E.o _).mono ?_;rintro e w3 ⟨rfl,hb⟩
       have y:Hid (Below w2.heap.size w2 w3):=((af _ w2).drew).trans hb;have S3:=ah (b.o _ y.o).dk4;clear hb))
 go_wp2_with fail;refine ZY (fw Tryz.results44 rfl (q.o.set4 _ _ _ _) rfl) rfl ?_;exact⟨k,rfl,(Z.o.box q.o _ _ _ _).more (by simp),dH (M.o.trans ((j.o.trans (n.o.mono (by omega))).mono (by omega))) (by omega) _ _ _ _⟩
theorem EF(d:Dk)(s:Dsl)(B:Nat)(w:MZ)(hd:d.Ok)(hn:d.ss.length<3)(hpl:d.pn.length<=1000)(hm:DkM w B d s)(hB:B<=w.heap.size) :
  Calls Tryz.prog 44 #[dkV d s] w (aW zDk 2 w):=by
 obtain⟨W,hW⟩:=NX9 ((w.alloc (.cells (dkC d s) 25)).alloc (.cells #[.int .i64 0,.slice none 0 0,.slice none 0 0,.int .i64 0] 25))
 have c:Hid (Below w.heap.size w W):=by rw[<-hW];exact((af _ w).alloc ai _).alloc (by simp) _
 have HK:Hid (Bk W w.heap.size 25 (dkC d s)):=by rw[<-hW];exact(Bk.new w _ _).alloc _
 have HZ:Hid (Bk W (w.heap.size+1) 25 #[.int .i64 0,.slice none 0 0,.slice none 0 0,.int .i64 0]):=by
  rw[<-hW];have:=Bk.new (w.alloc (.cells (dkC d s) 25)) 25 #[.int .i64 0,.slice none 0 0,.slice none 0 0,.int .i64 0]
  rwa[Z9]at this
 have zW:W.heap.size=w.heap.size+2:=by rw[<-hW];simp
 have HM:Hid (DkM W B d s):=hm.below c.o hB;have HC:=ah (xy d s B W hd HM.o (by omega) (by omega));rw[if_pos hn]at HC;have HW:=ah hW;clear hW hm hd hn;obtain⟨ns,f⟩:=NX9 d.ss.length
 obtain⟨np,g⟩:=NX9 d.pn.length
 unfold aW zDk;simp only[dkV,dkC,f,g,List.length_nil]at HC HK HW ⊢;clear f g hpl;obtain⟨k0,k1,k2,k3⟩:=HK.o.dk4
 go_enter Tryz.func44,Tryz.ntmps44
 go_wp2_with fail;rw[HW.o];refine HC.o.mono ?_;rintro e w1 ⟨rfl,a⟩;have h:Hid (Below w.heap.size w w1):=c.o.trans (a.mono (by omega));have b:=ah (HZ.o.below a (by omega));clear a HC k0 k1 k2 k3;obtain⟨f0,f1,f2,f3⟩:=fr4 b.o;obtain⟨z0,z1,z2,z3⟩:=b.o.dk4;go_wp2_with fail;refine ZY (fw Tryz.results44 rfl (b.o.set4 _ _ _ _) rfl) rfl ⟨⟨none,0,none,0⟩,rfl,⟨Sl.nil _ _ _ _,Sl.nil _ _ _ _⟩,dH h.o (by omega) _ _ _ _⟩
theorem Hy(d:Dk)(s:Dsl)(B:Nat)(w:MZ)(hd:d.Ok)(hn:d.ss.length<3)(hpl:d.pn.length<=1000)(hm:DkM w B d s)(hB:B<=w.heap.size) :
  Calls Tryz.prog 13 #[dkV d s] w (dw zRp 2 w):=by
 obtain⟨W,hW⟩:=NX9 ((w.alloc (.cells (dkC d s) 25)).alloc (.cells rzC 35))
 have g:Hid (Below w.heap.size w W):=by rw[<-hW];exact((af _ w).alloc ai _).alloc (by simp) _
 have HK:Hid (Bk W w.heap.size 25 (dkC d s)):=by rw[<-hW];exact(Bk.new w _ _).alloc _
 have HZ:Hid (Bk W (w.heap.size+1) 35 rzC):=by rw[<-hW];exact(Bk.new _ _ _).at_ (by simp)
 have zW:W.heap.size=w.heap.size+2:=by rw[<-hW];simp
 have HF:=ah (EF d s B W hd hn hpl (hm.below g.o hB) (by omega));unfold aW zDk at HF;obtain⟨n1,h1⟩:=NX9 d.ss.length
 obtain⟨n2,h2⟩:=NX9 d.pn.length
 simp only[dkV,dkC,h1,h2,List.length_nil]at HF HK HZ hW ⊢;have HW:=ah hW;clear h1 h2 hW hd hm hpl;obtain⟨k0,k1,k2,k3⟩:=HK.o.dk4
 go_enter Tryz.func13,Tryz.ntmps13
 go_wp2_with fail;rw[HW.o];refine HF.o.mono ?_;rintro e w1 ⟨s',rfl,j,b⟩;have c:=ah (HK.o.below b (by omega));have h:=ah (HZ.o.below b (by omega));have i:Hid (Below w.heap.size w w1):=g.o.trans (b.mono (by omega));clear b j k0 k1 k2 k3 HF;obtain⟨k0,k1,k2,k3⟩:=c.o.dk4;obtain⟨f0,f1,f2,f3⟩:=fr4 c.o
 go_upto_region 2 with fail
 obtain⟨W2,a⟩:=NX9 (((((w1.setCell ⟨w.heap.size,0,none⟩ (.int .i64 0)).setCell ⟨w.heap.size,1,none⟩ (.slice s'.a1 0 s'.c1)).setCell ⟨w.heap.size,2,none⟩ (.slice s'.a2 0 s'.c2)).setCell ⟨w.heap.size,3,none⟩ (.int .i64 0)))
 have f:Hid (Bk W2 (w.heap.size+1) 35 rzC):=by rw[<-a];exact(rZ _ _ _ _ _ _ _ (by omega)).trans h.o
 have k:Hid (Below w.heap.size w W2):=by rw[<-a];exact dH i.o ai _ _ _ _
 first | rw[a] | (simp only[Int.natCast_zero]at a ⊢;rw[a])
 clear a k0 k1 k2 k3 f0 f1 f2 f3 c h i;obtain⟨⟨f0,f1,f2,f3⟩,f4,f5,f6⟩:=f.o.free7;obtain⟨⟨z0,z1,z2,z3⟩,z4,z5,z6⟩:=f.o.seven;go_wp2_with fail;refine ZY (dO Tryz.results13 rfl (f.o.set7 _ _ _ _ _ _ _) rfl) rfl ⟨zRs,rfl,RpM.zero _ _,cZ k.o (by omega) _ _ _ _ _ _ _⟩
theorem AZ(d:Dk)(s:Dsl)(B:Nat)(w:MZ)(hd:d.Ok)(hn:3<=d.ss.length)(hpl:d.pn.length<=1000)(hm:DkM w B d s)(hB:B<=w.heap.size) :
  Calls Tryz.prog 13 #[dkV d s] w (dw ⟨(aH d (bH d.sz d.ss)).1,[],[],[]⟩ (aH d (bH d.sz d.ss)).2 w):=by
 have g:Hid ((aH d (bH d.sz d.ss)).2=0∨ (aH d (bH d.sz d.ss)).2=20):=by
  obtain⟨_,_,_,_,h⟩:=mr (bH d.sz d.ss) d;exact h.imp (·.2) (·.1)
 obtain⟨W,hW⟩:=NX9 ((w.alloc (.cells (dkC d s) 25)).alloc (.cells rzC 35))
 have i:Hid (Below w.heap.size w W):=by rw[<-hW];exact((af _ w).alloc ai _).alloc (by simp) _
 have HK:Hid (Bk W w.heap.size 25 (dkC d s)):=by rw[<-hW];exact(Bk.new w _ _).alloc _
 have HZ:Hid (Bk W (w.heap.size+1) 35 rzC):=by rw[<-hW];exact(Bk.new _ _ _).at_ (by simp)
 have zW:W.heap.size=w.heap.size+2:=by rw[<-hW];simp
 have HF:=ah (F5 d s B W hd hn hpl (hm.below i.o hB) (by omega));obtain⟨⟨x,e0⟩,hx⟩:∃x,aH d (bH d.sz d.ss)=x:=⟨_,rfl⟩
 rw[hx]at g HF ⊢;simp only at g HF ⊢;unfold aW at HF;obtain⟨n1,h1⟩:=NX9 d.ss.length
 obtain⟨n2,h2⟩:=NX9 d.pn.length
 obtain⟨m1,g1⟩:=NX9 x.ss.length
 obtain⟨m2,g2⟩:=NX9 x.pn.length
 have o:=ah g1;have p:=ah g2;simp only[dkV,dkC,h1,h2,g1,g2]at HF HK HZ hW ⊢;have HW:=ah hW;clear h1 h2 g1 g2 hx hW hd hm hpl;obtain⟨k0,k1,k2,k3⟩:=HK.o.dk4
 go_enter Tryz.func13,Tryz.ntmps13
 go_wp2_with fail;rw[HW.o];refine HF.o.mono ?_;rintro e w1 ⟨s',rfl,j,f⟩;have l:=ah j;have b:=ah (HK.o.below f (by omega));have m:=ah (HZ.o.below f (by omega));have n:Hid (Below w.heap.size w w1):=i.o.trans (f.mono (by omega));clear f j k0 k1 k2 k3 HF;obtain⟨k0,k1,k2,k3⟩:=b.o.dk4;obtain⟨f0,f1,f2,f3⟩:=fr4 b.o
 go_upto_region 2 with fail
 obtain⟨W2,a⟩:=NX9 (((((w1.setCell ⟨w.heap.size,0,none⟩ (.int .i64 x.sz)).setCell ⟨w.heap.size,1,none⟩ (.slice s'.a1 m1 s'.c1)).setCell ⟨w.heap.size,2,none⟩ (.slice s'.a2 m2 s'.c2)).setCell ⟨w.heap.size,3,none⟩ (.int .i64 x.lf)))
 have q:Hid (DkM W2 W2.heap.size x s'):=by rw[<-a];exact(l.o.box b.o _ _ _ _).more (by simp)
 have r:Hid (Bk W2 w.heap.size 25 #[.int .i64 x.sz,.slice s'.a1 m1 s'.c1,.slice s'.a2 m2 s'.c2,.int .i64 x.lf]):=by rw[<-a];exact b.o.set4 _ _ _ _
 have c:Hid (Bk W2 (w.heap.size+1) 35 rzC):=by rw[<-a];exact(rZ _ _ _ _ _ _ _ (by omega)).trans m.o
 have t:Hid (Below w.heap.size w W2):=by rw[<-a];exact dH n.o ai _ _ _ _
 rw[a];clear a k0 k1 k2 k3 f0 f1 f2 f3 b m n l;obtain⟨k0,k1,k2,k3⟩:=r.o.dk4;obtain⟨⟨f0,f1,f2,f3⟩,f4,f5,f6⟩:=c.o.free7;obtain⟨⟨z0,z1,z2,z3⟩,z4,z5,z6⟩:=c.o.seven;have HE:Hid (∀w',Bk w' (w.heap.size+1) 35 #[.int .i64 x.sz,.slice s'.a1 m1 s'.c1,.slice s'.a2 m2 s'.c2,.int .i64 x.lf,.slice none 0 0,.slice none 0 0,.slice none 0 0]-> (∀k,k≠w.heap.size+1->w'.heap[k]? =W2.heap[k]?)->w'.heap.size=W2.heap.size->RpM w' w'.heap.size ⟨x,[],[],[]⟩ ⟨s',none,0,none,0,none,0⟩):=fun w' h1 h2 h3=>by
  have hr:RpM W2 W2.heap.size ⟨x,[],[],[]⟩ ⟨s',none,0,none,0,none,0⟩:=⟨q.o,Sl.nil _ _ _ _,Sl.nil _ _ _ _,Sl.nil _ _ _ _,Nat.le_refl _,ZZ _⟩
  exact(hr.box c.o (by simp[bxV]) h2).more (by omega)
 rcases g.o with rfl | rfl
 all_goals
  go_wp2_with fail;refine ZY (dO Tryz.results13 rfl (c.o.set7 _ _ _ _ _ _ _) rfl) rfl ⟨⟨s',none,0,none,0,none,0⟩,by simp only[rpV,rpC,o.o,p.o];rfl,HE.o _ (c.o.set7 _ _ _ _ _ _ _) (gq _ _ _ _ _ _ _ _ _) (by simp),cZ t.o (by omega) _ _ _ _ _ _ _⟩
