/-
  Lemmas of the card.
-/
import Derived.Test.YtknefelegjlgnaaGreatDoorDCDu24
set_option maxRecDepth 100000
set_option maxHeartbeats 8000000
namespace Go.Proofs.YtknefelegjlgnaaGreatDoor
open Go.RowKit
theorem EC(A0 A1:OA)(n0 c0 n1 c1 B:Nat)(p:List Itm)(us:List Upd)(w:MQ)(h0:Sl w B 3 A0 n0 (flat itC p))(h1:Sl w B 5 A1 n1 (flat upC us))(m0:n0<=maxLen)(m1:n1<=maxLen)(hs:∀i∈p,i.2.size<=maxLen) :
  Calls Tryz.prog 64 #[.slice A0 n0 c0,.slice A1 n1 c1] w fun e w'=>∃r:Bool,e= .returned (.bool r)/\ (r=false->p.length<=40/\ (∀i∈p,i.2.size<=500)/\us.length<=12/\∀u∈us,u.1.size<=150)/\w=w':=by
 have HL:=ah (h0.len bN (by unfold maxLen at m0;omega));have HG:=ah (Fg A0 n0 c0 B p w h0 m0 hs);unfold Cu at HG;have HM:=ah (EH A1 n1 c1 B us w h1 m1);obtain⟨mb,hmb⟩:∃mb,nA us=mb:=⟨_,rfl⟩
 rw[hmb]at HM;have HMB:=ah hmb;clear h0 h1 m0 m1 hs hmb
 go_enter Tryz.func64,Tryz.ntmps64
 go_wp2_with fail;refine HG.out.mono ?_;rintro e w1 ⟨g,rfl,hg,rfl⟩;have HGG:=ah hg;clear hg HG;cases g with
 | true =>
   go_wp2_with fail;go_ret
   exact⟨true,rfl,(fun h=>by cases h),rfl⟩
 | false =>
   go_wp2_with fail;refine HM.out.mono ?_;rintro e w1 ⟨rfl,rfl⟩;go_wp2_with fail;go_ret
   refine⟨mb,rfl,fun h=>?_,rfl⟩;have h1:=HGG.out (by simp);have h2:=HMB.out;rw[h]at h2;unfold nA at h2;simp only[Bool.or_eq_false_iff,decide_eq_false_iff_not]at h2;refine⟨by rw[HL.out];exact h1.1,h1.2,by omega,fun u hu=>?_⟩;have:=(List.any_eq_false.1 h2.1) u hu
   simpa using this
theorem GN(r q:Rp)(s t:Rsl)(B:Nat)(w:MQ)(h0:RpM w B r s)(h1:RpM w B q t)(hB:B<=w.heap.size)(m0:r.p.length<=maxLen)(m1:r.rs.length<=maxLen)(m2:r.lg.length<=maxLen) :
  Calls Tryz.prog 23 #[rpV r s,rpV q t] w fun e w'=>e= .returned (.bool (decide (r.p=q.p) && (decide (r.rs=q.rs) && decide (r.lg=q.lg))))/\Below w.heap.size w w':=by
 obtain⟨W,hW⟩:∃W,(w.alloc (.cells (rpC r s) 35)).alloc (.cells (rpC q t) 35)=W:=⟨_,rfl⟩
 have HB0:Hid (Below w.heap.size w W):=by rw[<-hW];exact((af _ w).alloc ai _).alloc (by simp) _
 have HK:Hid (Bk W w.heap.size 35 (rpC r s)):=by rw[<-hW];exact(Bk.new w _ _).alloc _
 have HZ:Hid (Bk W (w.heap.size+1) 35 (rpC q t)):=by rw[<-hW];exact(Bk.new _ _ _).at_ (by simp)
 have HS:=ah (Gz s.pA t.pA r.p.length s.pc q.p.length t.pc B r.p q.p W (h0.p.below HB0.out hB) (h1.p.below HB0.out hB) m0);have HE:=ah (fun k=>EP s.rA s.lA t.rA t.lA r.rs.length s.rc r.lg.length s.lc q.rs.length t.rc q.lg.length t.lc B r.rs q.rs r.lg q.lg (W.drewN k) ((h0.rf.below HB0.out hB).drewN k) ((h0.l.below HB0.out hB).drewN k) ((h1.rf.below HB0.out hB).drewN k) ((h1.l.below HB0.out hB).drewN k) (Z0 hB HB0.out.size) m1 m2);have HW:=ah hW;obtain⟨b1,hb1⟩:∃b,decide (r.p=q.p)=b:=⟨_,rfl⟩
 obtain⟨b2,hb2⟩:∃b,(decide (r.rs=q.rs) && decide (r.lg=q.lg))=b:=⟨_,rfl⟩
 rw[hb1]at HS;rw[hb2]at HE;rw[hb1,hb2];simp only[rpV,rpC]at HK HZ HW ⊢;clear hW h0 h1 hB m0 m1 m2 hb1 hb2;obtain⟨_,k4,k5,k6⟩:=HK.out.seven;obtain⟨_,z4,z5,z6⟩:=HZ.out.seven
 go_enter Tryz.func23,Tryz.ntmps23
 go_wp2_with fail;rw[HW.out];refine HS.out.mono ?_;rintro e w1 ⟨rfl,k,rfl⟩;cases b1 with
 | false =>
   go_wp2_with fail;go_ret
   exact⟨rfl,bM HB0.out _⟩
 | true =>
   go_wp2_with fail;refine(HE.out k).mono ?_;rintro e w2 ⟨rfl,hb⟩;have HB2:Hid (Below w.heap.size w w2):=(bM HB0.out k).trans (hb.mono (bM HB0.out k).size);clear hb;go_wp2_with fail;go_ret
   exact⟨rfl,HB2.out⟩
def CP(x:Ac)(w:MQ)(e:Ending)(w':MQ):Prop:=∃r:Bool,e= .returned (.bool r)/\ (r=true->AcF x)/\Below w.heap.size w w'
theorem Ii(x:AcX)(B:Nat)(w:MQ)(h:AcM w B x)(hx:AcB x.1)(hB:B<=w.heap.size) :
  Calls Tryz.prog 25 #[.agg (acA x)] w (CP x.1 w):=by
 obtain⟨W,hW⟩:∃W,w.alloc (.cells (acA x) 65)=W:=⟨_,rfl⟩
 have HB0:Hid (Below w.heap.size w W):=by rw[<-hW];exact(af _ w).alloc ai _
 have HK:Hid (Bk W w.heap.size 65 (acA x)):=by rw[<-hW];exact Bk.new w _ _
 have HM:=h.below HB0.out hB;have HG:=ah (EC x.2.pA x.2.uA x.1.pl.length x.2.pc x.1.us.length x.2.uc B x.1.pl x.1.us W HM.p HM.u hx.pn hx.un (fun i hi=>(hx.ps i hi).2));have HF:=ah (EJ x.2.fA x.1.fs.length x.2.fc B x.1.fs W HM.f hx.fn hx.fs);unfold Cv at HF;have HX:=ah hx;have HW:=ah hW;clear hW h hB HM hx;simp only[acA]at HK HW ⊢;obtain⟨⟨k0,k1,k2,k3⟩,k4,k5,k6⟩:=HK.out.seven;have hnm:x.1.nm.size<=9223372036854775807:=by have:=HX.out.nm;unfold maxLen at this;exact this
 go_enter Tryz.func25,Tryz.ntmps25
 go_wp2_with fail;rw[HW.out];refine HG.out.mono ?_;rintro e w1 ⟨g,rfl,hg,rfl⟩;have HGG:=ah hg;clear hg HG;cases g with
 | true =>
   go_wp2_with fail;go_ret
   exact⟨false,rfl,(fun h=>by cases h),HB0.out⟩
 | false =>
   go_wp2_with fail;refine HF.out.mono ?_;rintro e w1 ⟨f,rfl,hf,rfl⟩;have HFF:=ah hf;clear hf HF;cases f with
   | true =>
     go_wp2_with fail;go_ret
     exact⟨false,rfl,(fun h=>by cases h),HB0.out⟩
   | false =>
     by_cases hk: (x.1.pk.length:Int)<=20
     . go_wp2_with fail
       go_ret
       refine⟨_,rfl,fun h=>?_,HB0.out⟩;have hn:=of_decide_eq_true h;obtain⟨a1,a2,a3,a4⟩:=HGG.out (by simp);obtain⟨f1,f2⟩:=HFF.out (by simp);exact⟨a1,a2,fun i hi=>(HX.out.ps i hi).1,a3,a4,fun u hu=>(HX.out.us u hu).2,f1,f2,by omega,by omega,HX.out.lm⟩
     . go_wp2_with fail
       go_ret
       exact⟨false,rfl,(fun h=>by cases h),HB0.out⟩
theorem uK{fn:Func}{c:Tmp}(h:fn.results= #[.cell c 35]){w:MQ}{b:Nat}{a:Array MS}{x0 x1 x2 x3 x4 x5 x6:MS}(h1:a[c]?.getD undef= .pointer (some ⟨b,0,none⟩))(hk:Bk w b 35 #[x0,x1,x2,x3,x4,x5,x6]) :
  (results fn a).run Tryz.prog w= .ok (.agg #[x0,x1,x2,x3,x4,x5,x6]) w:=by
 obtain⟨⟨e0,e1,e2,e3⟩,e4,e5,e6⟩:=hk.seven;simp[results,h,h1,go_sem,e0,e1,e2,e3,e4,e5,e6]
theorem RpM.pow{w:MQ}{B:Nat}{r:Rp}{s:Rsl}(h:RpM w B r s)(x:Int):RpM w B (gU r x) s:=by
 unfold gU;split
 . exact⟨⟨h.d.ss,h.d.pn⟩,h.p,h.rf,h.l,h.pc,h.pm⟩
 . exact h
theorem FZ(r:Rp)(s:Rsl)(x:Int)(B:Nat)(w:MQ)(h:RpM w B r s)(hB:B<=w.heap.size) :
  Calls Tryz.prog 27 #[rpV r s,.int .i64 x] w fun e w'=>e= .returned (rpV (gU r x) s)/\RpM w' w'.heap.size (gU r x) s/\Below w.heap.size w w':=by
 have hb:∀o1 o2,Below w.heap.size w ((w.alloc o1).alloc o2):=fun _ _=>((af _ w).alloc ai _).alloc (by simp) _;have HFIN:Hid (∀w',Below w.heap.size w w'->RpM w' w'.heap.size (gU r x) s):=fun w' hb=>((h.below hb hB).more (Z0 hB hb.size)).pow x;clear h;by_cases hl:r.d.lf= -1
 . by_cases hx:0<=x
   . have HP:Hid (gU r x={r with d:={r.d with lf:=x % 40}}):=if_pos ⟨hl,hx⟩
     rw[HP.out]at HFIN ⊢;simp only[rpV,rpC]at HFIN ⊢;rw[hl];clear hl HP
     go_enter Tryz.func27,Tryz.ntmps27
     go_wp2_with fail;exact ZY (uK Tryz.results27 rfl ((Bk.new _ _ _).at_ (by simp))) rfl ⟨rfl,HFIN.out _ (hb _ _),hb _ _⟩
   . have HP:Hid (gU r x=r):=if_neg (fun h=>hx h.2)
     rw[HP.out]at HFIN ⊢;simp only[rpV,rpC]at HFIN ⊢;rw[hl];clear hl HP
     go_enter Tryz.func27,Tryz.ntmps27
     go_wp2_with fail;exact ZY (uK Tryz.results27 rfl ((Bk.new _ _ _).at_ (by simp))) rfl ⟨rfl,HFIN.out _ (hb _ _),hb _ _⟩
 . have HP:Hid (gU r x=r):=if_neg (fun h=>hl h.1)
   have hlb: (r.d.lf == -1)=false:=by rw[beq_eq_false_iff_ne];exact hl
   rw[HP.out]at HFIN ⊢;simp only[rpV,rpC]at HFIN ⊢;clear HP
   go_enter Tryz.func27,Tryz.ntmps27
   go_wp2_with fail;exact ZY (uK Tryz.results27 rfl ((Bk.new _ _ _).at_ (by simp))) rfl ⟨rfl,HFIN.out _ (hb _ _),hb _ _⟩
theorem EX(r:Rp)(gs:List Gru)(a u:Nat)(s:Rsl)(B:Nat)(w:MQ)(hd:r.d.Ok)(hpn:r.d.pn= [])(hj:Jn r.d.sz r.d.ss a (recs gs) u)(hM:Mt gs r.p r.rs r.lg)(hm:RpM w B r s)(hB:B<=w.heap.size)(hn:r.d.ss.length<=100) :
  Calls Tryz.prog 24 #[rpV r s] w fun e w'=>e= .returned (.int .i64 0)/\Below w.heap.size w w':=by
 obtain⟨W,hW⟩:∃W,w.alloc (.cells (rpC r s) 35)=W:=⟨_,rfl⟩
 have hb0:Below w.heap.size w W:=by rw[<-hW];exact(af _ w).alloc ai _
 have hz:W.heap.size=w.heap.size+1:=by rw[<-hW];simp
 have HB0:=ah hb0;have HK:Hid (Bk W w.heap.size 35 (rpC r s)):=by rw[<-hW];exact Bk.new w _ _
 have HM:=ah (hm.below hb0 hB);have HO:=ah (uq r gs a u s.d B W hd hpn hj hM HM.out.d (by omega) hn);have HBB:=ah hB;have hfew:=hM.few hj hn;have HF:=ah hfew;have HRF:=ah (kS hM.rf);unfold dO at HO;simp only[rpV,rpC,dkV,dkC]at HK HO hW ⊢;have HW:=ah hW;clear hd hpn hj hM hm hW hb0 hfew hn;obtain⟨⟨k0,k1,k2,k3⟩,k4,k5,k6⟩:=HK.out.seven
 go_enter Tryz.func24,Tryz.ntmps24
 go_wp2_with fail;rw[HW.out];refine HO.out.mono ?_;rintro e w1 ⟨t,rfl,hm1,hb1⟩;have HB1:Hid (Below w.heap.size w w1):=HB0.out.trans (hb1.mono (by omega));obtain⟨W2,hW2⟩:∃W2,w1.alloc (.cells (rpC r t) 35)=W2:=⟨_,rfl⟩
 have hb2:Below w1.heap.size w1 W2:=by rw[<-hW2];exact(af _ w1).alloc ai _
 have HB2:Hid (Below w.heap.size w W2):=HB1.out.trans (hb2.mono (by have:=HB1.out.size;omega));have HK2:Hid (Bk W2 w.heap.size 35 (rpC r s)):=(HK.out.below hb1 (by omega)).below hb2 (by have:=hb1.size;omega);have HL2:Hid (Bk W2 w1.heap.size 35 (rpC r t)):=by rw[<-hW2];exact Bk.new w1 _ _
 have HM2:Hid (RpM W2 W2.heap.size r s):=((HM.out.below hb1 (by omega)).below hb2 (by have:=hb1.size;omega)).more (by have:=hb1.size;have:=hb2.size;omega);have HT2:Hid (RpM W2 W2.heap.size r t):=(hm1.below hb2 ai).more hb2.size;have hpm:∀W,Below W2.heap.size W2 W->RpM W W2.heap.size r s/\RpM W W2.heap.size r t:=fun W hW=>⟨HM2.out.below hW ai,HT2.out.below hW ai⟩
 have HE1:=ah (fun W hW=>J7 t.pA s.pA r.p.length t.pc s.pc W2.heap.size r.p W (hpm W hW).2.p (hpm W hW).1.p (by have:=HF.out.1;omega));have HE2:=ah (fun W hW=>J2 t.rA s.rA r.rs.length t.rc s.rc W2.heap.size r.rs W (hpm W hW).2.rf (hpm W hW).1.rf (by have:=HRF.out;omega));have HE3:=ah (fun W hW=>Ka t.lA s.lA r.lg.length t.lc s.lc W2.heap.size r.lg W (hpm W hW).2.l (hpm W hW).1.l (by have:=HF.out.2.1;omega));have hz3:W2.heap.size=w1.heap.size+1:=by rw[<-hW2];simp
 have hz2:w.heap.size+1<=W2.heap.size/\w1.heap.size<W2.heap.size:=by have:=hb1.size;omega
 have HW2:=ah hW2;clear hW2 hb1 hb2 hm1 hpm HO HK HM HB0 HB1;simp only[rpC]at HK2 HL2 HW2;clear k0 k1 k2 k3 k4 k5 k6;obtain⟨_,k4,k5,k6⟩:=HK2.out.seven;obtain⟨_,l4,l5,l6⟩:=HL2.out.seven
 go_upto_region 4 with fail
 rw[HW2.out];clear HW2;go_wp2_with fail;refine(HE1.out W2 (af _ _)).mono ?_;rintro e w3 ⟨rfl,q3,hw3⟩;have HB3:Hid (Below W2.heap.size W2 w3):=by rw[hw3];exact bM (af _ _) _
 clear hw3 HE1 k4 k5 k6 l4 l5 l6;obtain⟨_,k4,k5,k6⟩:=(HK2.out.below HB3.out (by omega)).seven;obtain⟨_,l4,l5,l6⟩:=(HL2.out.below HB3.out (by omega)).seven;go_wp2_with fail;refine(HE2.out w3 HB3.out).mono ?_;rintro e w4 ⟨rfl,q4,hw4⟩;have HB4:Hid (Below W2.heap.size W2 w4):=by rw[hw4];exact bM HB3.out _
 clear hw4 HE2 k4 k5 k6 l4 l5 l6 HB3;obtain⟨_,k4,k5,k6⟩:=(HK2.out.below HB4.out (by omega)).seven;obtain⟨_,l4,l5,l6⟩:=(HL2.out.below HB4.out (by omega)).seven;go_wp2_with fail;refine(HE3.out w4 HB4.out).mono ?_;rintro e w5 ⟨rfl,q5,hw5⟩;have HB5:Hid (Below w.heap.size w w5):=by rw[hw5];exact bM (HB2.out.trans (HB4.out.mono (by omega))) _
 clear hw5 HE3 k4 k5 k6 l4 l5 l6;go_wp2_with fail;go_ret
 exact⟨rfl,HB5.out⟩
def aT(n s:Nat):Dk:=⟨s,List.replicate n (List.replicate s 0),[],-1⟩
theorem pR{n s:Nat}(h1:1<=n)(h2:n<=1000)(h3:1<=s)(h4:s<=512): (aT n s).Ok :=
 ⟨h3,h4,by simp[aT];omega,by simp[aT];omega,fun x hx=>by rw[List.eq_of_mem_replicate hx];simp[aT],fun x hx=>absurd hx (by simp[aT]),by simp[aT],by simp[aT]⟩
theorem Ae(n s:Int)(w:MQ):Calls Tryz.prog 34 #[.int .i64 n,.int .i64 s] w (aW (if iJ n s=true then aT n.toNat s.toNat else zDk) (if iJ n s=true then 0 else 2) w):=by
 obtain⟨W,hW⟩:∃W,w.alloc (.cells #[.int .i64 0,.slice none 0 0,.slice none 0 0,.int .i64 0] 25)=W:=⟨_,rfl⟩
 have HB0:Hid (Below w.heap.size w W):=by rw[<-hW];exact(af _ w).alloc ai _
 have zW:W.heap.size=w.heap.size+1:=by rw[<-hW];simp
 have HZ:Hid (Bk W w.heap.size 25 #[.int .i64 0,.slice none 0 0,.slice none 0 0,.int .i64 0]):=by rw[<-hW];exact Bk.new w _ _
 obtain⟨z0,z1,z2,z3⟩:=HZ.out.dk4;obtain⟨f0,f1,f2,f3⟩:=fr4 HZ.out;have HRG:=ah (zG n s W);have HW:=ah hW;clear hW;cases hr:iJ n s with
 | false =>
   rw[hr]at HRG;clear hr
   go_enter Tryz.func34,Tryz.ntmps34
   go_wp2_with fail;rw[HW.out];refine HRG.out.mono ?_;rintro e w1 ⟨rfl,rfl⟩;go_wp2_with fail;refine ZY (fq Tryz.results34 rfl (HZ.out.set4 _ _ _ _) rfl) rfl ?_;exact⟨⟨none,0,none,0⟩,rfl,ng _,dF HB0.out (by omega) _ _ _ _⟩
 | true =>
   rw[hr]at HRG;have hb:=of_decide_eq_true hr;obtain⟨n,rfl⟩:∃m:Nat,n=m:=⟨n.toNat,by omega⟩
   obtain⟨s,rfl⟩:∃m:Nat,s=m:=⟨s.toNat,by omega⟩
   have hn1:1<=n:=by omega
   have hn2:n<=1000:=by omega
   have hs1:1<=s:=by omega
   have hs2:s<=512:=by omega
   have HRP:=ah (fun w'=>xg s w' (by omega));obtain⟨zs,hzs⟩:∃zs,ofL (List.replicate s 0)=zs:=⟨_,rfl⟩
   have HRP2:Hid (∀w',Calls Tryz.prog 74 #[.string ⟨#[0]⟩,.int .i64 s] w' fun e w''=>e= .returned (.string zs)/\Below w'.heap.size w' w''):=fun w'=>by rw[<-hzs];exact HRP.out w'
   have HZS:=ah hzs;simp only[if_true,Int.toNat_natCast];obtain⟨i0,hi,hzz0,hzz1,hzz2⟩:=info_parts iR;have hbyt:i0.bytes*n<=281474976710656:=by rw[hzz2];omega
   have Hi:=ah hi;have Hz0:=ah hzz0;have Hz1:=ah hzz1;have HBY:=ah hbyt;clear hr hb hzs HRP hi hzz0 hzz1 hzz2 hbyt
   go_enter Tryz.func34,Tryz.ntmps34
   go_wp2_with fail;rw[HW.out];refine HRG.out.mono ?_;rintro e w1 ⟨rfl,rfl⟩
   go_wp2_with (at_make;refine aM ?_)
   refine aF ?_;refine wpList_make_full _ rfl (.tmp 14) (.tmp 14) 22 rfl W.heap.size 9 i0 _ 1 Tryz.underlying22 Hi.out Hz0.out Hz1.out .i64 .i64 n n n rfl rfl rfl rfl HBY.out (by unfold maxLen;omega) ai ?_;intro w2 ho hg;have HO:=ah ho;have hb2:Below W.heap.size W w2:=(af _ W).grown hg ai (fun k e=>by cases e);have HB2:=ah hb2;clear ho hg hb2;go_wp2_with fail;refine(HRP2.out _).mono ?_;rintro e w3 ⟨rfl,hb3⟩;have HO3:Hid (w3.ownsRow W.heap.size 9 1 (.slice (some ⟨W.heap.size,0,none⟩) n n) n (madeCells (Value.cells (.string ⟨#[]⟩)) (n*1)).toList):=fJ HO.out hb3;have z2s:=HB2.out.size;have z3s:=hb3.size;have HB3:Hid (Below W.heap.size W w3):=HB2.out.trans (hb3.mono z2s);rw[zW]at HO3;clear hb3 HRP2 HO HB2 z0 z1 z2 z3 f0 f1 f2 f3;go_wp2_with fail
   go_loopw[20] (fun i wr=>∃(k:Nat)(xs:List MS),k<=n/\i= .int .i64 k/\Hid (xs.length=n/\∀j,j<k->xs[j]? =some (.string zs))/\Hid (wr.ownsRow (w.heap.size+1) 9 1 (.slice (some ⟨w.heap.size+1,0,none⟩) n n) n xs)/\Hid (Below W.heap.size W wr)) (fun i _=>n - (intOf i).toNat)
   case atStart=>exact⟨0,_,ZZ _,rfl,⟨by have:=HO3.out.1;omega,fun j hj=>absurd hj (by omega)⟩,HO3.out,HB3.out⟩
   case round =>
    obtain⟨k,xs,hk,rfl,hxs,hO,hBel⟩:=hrel;obtain⟨hgb,cur,hcur,hcu⟩:=mZ hO.out;have zr:=hcur.lt;by_cases hlt:k<n
    . have hlz: (k:Int)< (n:Int):=by omega
      have hxk:xs[k]? =some (xs[k]'(by rw[hxs.out.1];exact hlt)):=Z6 _;have c0:wr.cell? ⟨w.heap.size+1,k,none⟩=some (xs[k]'(by rw[hxs.out.1];exact hlt)):=by rw[hcur.cell];exact hcu k _ hxk
      have c9:=hcur.free k;generalize xs[k]'(by rw[hxs.out.1];exact hlt)=old at *;clear hcur hcu hxk;go_wp2_with fail;go_roundw
      case rel =>
       refine⟨k+1,xs.set k (.string zs),by omega,by go_num,⟨by rw[List.length_set];exact hxs.out.1,fun j hj=>?_⟩,qZ hO.out _,hBel.out.setCell (p:=⟨w.heap.size+1,k,none⟩) (by show W.heap.size<=w.heap.size+1;omega) _⟩;rw[List.getElem?_set];split
       . rename_i e;rw[if_pos (by rw[hxs.out.1];omega)]
       . exact hxs.out.2 j (by omega)
      case measure=>simp[intOf];omega
    . have hlz:¬(k:Int)< (n:Int):=by omega
      have hxe:xs=flat aA (List.replicate n (List.replicate s 0)):=by
       apply List.ext_getElem?
       intro j;by_cases hj:j<n
       . rw[hxs.out.2 j (by omega)]
         have:=gy (enc:=aA) dG (List.replicate n (List.replicate s 0)) j 0 _ (by rw[List.getElem?_replicate,if_pos hj]) (by omega);rw[Nat.mul_one,Nat.add_zero]at this;rw[this,<-HZS.out];rfl
       . rw[List.getElem?_eq_none (by rw[hxs.out.1];omega),List.getElem?_eq_none (by rw[gD dG,List.length_replicate];omega)]
      have HZ3:=ah ((HZ.out.below hBel.out (by omega)));obtain⟨z0,z1,z2,z3⟩:=HZ3.out.dk4;obtain⟨f0,f1,f2,f3⟩:=fr4 HZ3.out;rw[hxe]at hO;have HM:Hid (DkM wr wr.heap.size (aT n s) ⟨some ⟨w.heap.size+1,0,none⟩,n,none,0⟩):=⟨by have:=Sl.of_own hO.out;show Sl _ _ _ _ (List.replicate n _).length _;rw[List.length_replicate];exact this,Sl.nil _ _ _ _⟩
      clear hxe hxs hcur hcu;go_wp2_with fail;refine ZY (fq Tryz.results34 rfl (HZ3.out.set4 _ _ _ _) rfl) rfl ?_;exact⟨⟨some ⟨w.heap.size+1,0,none⟩,n,none,0⟩,by simp[dkV,dkC,aT],(HM.out.box HZ3.out _ _ _ _).more (by simp),dF (HB0.out.trans (hBel.out.mono (by omega))) (by omega) _ _ _ _⟩
theorem H9{fn:Func}{c:Tmp}(h:fn.results= #[.cell c 25]){w:MQ}{a:Array MS}{b:Nat}{x0 x1 x2 x3:MS}(h1:a[c]?.getD undef= .pointer (some ⟨b,0,none⟩))(hk:Bk w b 25 #[x0,x1,x2,x3]) :
  (results fn a).run Tryz.prog w= .ok (.agg #[x0,x1,x2,x3]) w:=BH h h1 hk
theorem Av(d:Dk)(s:Dsl)(B:Nat)(qs:List Int)(A:OA)(c B2:Nat)(w:MQ)(hd:d.Ok)(hm:DkM w B d s)(hB:B<=w.heap.size)(hp:d.pn.length<=900000)(hs:Sl w B2 1 A qs.length (flat gT qs))(hB2:B2<=w.heap.size)(hq:qs.length<=1000000) :
  Calls Tryz.prog 22 #[dkV d s,.slice A qs.length c] w fun e w'=>∃s',e= .returned (dkV (dJ d qs) s')/\DkM w' w'.heap.size (dJ d qs) s'/\Below w.heap.size w w':=by
 obtain⟨W,hW⟩:∃W,((w.alloc (.cells (dkC d s) 25)).alloc (.cells #[.slice A qs.length c] 59)).alloc (.cells #[.int .i64 0,.slice none 0 0,.slice none 0 0,.int .i64 0] 25)=W:=⟨_,rfl⟩
 have HB0:Hid (Below w.heap.size w W):=by rw[<-hW];exact(((af _ w).alloc ai _).alloc (by simp) _).alloc (by simp;omega) _
 have zW:W.heap.size=w.heap.size+3:=by rw[<-hW];simp
 have HK:Hid (Bk W w.heap.size 25 (dkC d s)):=by rw[<-hW];exact((Bk.new w _ _).alloc _).alloc _
 have HP:Hid (Bk W (w.heap.size+1) 59 #[.slice A qs.length c]):=by
  rw[<-hW];have:=Bk.new (w.alloc (.cells (dkC d s) 25)) 59 #[.slice A qs.length c];rw[Z9]at this;exact this.alloc _
 have HZ:Hid (Bk W (w.heap.size+1+1) 25 #[.int .i64 0,.slice none 0 0,.slice none 0 0,.int .i64 0]):=by
  rw[<-hW];have:=Bk.new ((w.alloc (.cells (dkC d s) 25)).alloc (.cells #[.slice A qs.length c] 59)) 25 #[.int .i64 0,.slice none 0 0,.slice none 0 0,.int .i64 0];rw[Z9,Z9]at this;exact this
 have HM:Hid (DkM W B d s):=hm.below HB0.out hB;have HS:Hid (Sl W B2 1 A qs.length (flat gT qs)):=hs.below HB0.out hB2;have HC:=ah (oo d s B W hd HM.out (by omega) (by omega));have HST:Hid (∀w1,Below W.heap.size W w1->Calls Tryz.prog 59 #[dkV d s,.func (.func 60) #[] #[.pointer (some ⟨w1.heap.size,0,none⟩),.pointer (some ⟨w.heap.size+1,0,none⟩),.pointer (some ⟨w.heap.size,0,none⟩)]] (w1.alloc (.cells #[.int .i64 0] 3)) fun e w'=>∃s',e= .returned (dkV {d with ss:=bS d.sz d.ss d.pn qs,pn:= []} s')/\DkM w' w'.heap.size {d with ss:=bS d.sz d.ss d.pn qs,pn:= []} s'/\Gb (fun b=>b=w1.heap.size) (w1.alloc (.cells #[.int .i64 0] 3)) w'):=by
  intro w1 h1;have hz1:=h1.size;have hba:Below w1.heap.size w1 (w1.alloc (.cells #[.int .i64 0] 3)):=(af _ w1).alloc ai _;have hci:qQ d.sz qs w1.heap.size (w.heap.size+1) w.heap.size A c (.slice s.a1 d.ss.length s.c1) (.slice s.a2 d.pn.length s.c2) (.int .i64 d.lf) 0 (w1.alloc (.cells #[.int .i64 0] 3)) :=
   ⟨by rw[Nat.zero_min];exact Bk.new w1 _ _,(HP.out.below h1 (by omega)).below hba (by omega),(HK.out.below h1 (by omega)).below hba (by omega),((HS.out.below h1 (by omega)).below hba (by omega)).more (by omega)⟩
  have:=xB d s B 60 #[.pointer (some ⟨w1.heap.size,0,none⟩),.pointer (some ⟨w.heap.size+1,0,none⟩),.pointer (some ⟨w.heap.size,0,none⟩)] (fun k o x=>x.take (fK d.sz (qs.getD k 0))++o.drop (fK d.sz (qs.getD k 0))) w1.heap.size (qQ d.sz qs w1.heap.size (w.heap.size+1) w.heap.size A c (.slice s.a1 d.ss.length s.c1) (.slice s.a2 d.pn.length s.c2) (.int .i64 d.lf)) _ hd ((HM.out.below h1 (by omega)).below hba (by omega)) (by simp;omega) (by omega) (by omega)
   ⟨.inr ⟨_,_,_,rfl,rfl⟩,by simp,fun k o x W2 hi h1 h2=>Ij d.sz qs w1.heap.size (w.heap.size+1) w.heap.size A c _ _ _ k o x W2 hi hd.sz1 hq h1 h2 (by omega) (by omega),fun k o x h1 h2=>by simp[h1,h2];have:=tO d.sz (qs.getD k 0);omega,fun k W2 W3 hi hz hb=>⟨hi.n.below hb (by simp),hi.p.below hb (by simp;omega),hi.d.below hb (by simp;omega),hi.s.below hb (by simp)⟩⟩ hci
  rw[yI,List.drop_zero]at this;refine this.mono ?_;rintro e w' ⟨s',rfl,h2,h3,_⟩;exact⟨s',rfl,h2,h3⟩
 have HD:=ah hd;have HW:=ah hW;obtain⟨m,hmm⟩:∃m,qs.length=m:=⟨_,rfl⟩
 obtain⟨td,htd⟩:∃td,bS d.sz d.ss d.pn qs=td:=⟨_,rfl⟩
 have HTD:Hid (dJ d qs={d with ss:=td,pn:= [],lf:= -1}):=by show _=_;rw[dJ,htd]
 rw[htd]at HST;rw[HTD.out];clear hd hm hs hW htd;rw[hmm]at HW HP ⊢;clear hmm;obtain⟨ns,hns⟩:∃ns,d.ss.length=ns:=⟨_,rfl⟩
 obtain⟨np,hnp⟩:∃np,d.pn.length=np:=⟨_,rfl⟩
 simp only[dkV,dkC,hns,hnp,List.length_nil]at HC HST HW HK ⊢;clear hns hnp;obtain⟨k0,k1,k2,k3⟩:=HK.out.dk4
 go_enter Tryz.func22,Tryz.ntmps22
 go_wp2_with fail;rw[HW.out];refine HC.out.mono ?_;rintro e w1 ⟨rfl,hb1⟩;have HB1:=ah hb1;have z1s:=hb1.size;have HST1:=ah (HST.out w1 hb1);have q:=((HK.out.below hb1 (by omega)).alloc (.cells #[.int .i64 0] 3)).dk4;obtain⟨q0,q1,q2,q3⟩:=q;clear hb1 HC k0 k1 k2 k3 HST;go_wp2_with fail;refine HST1.out.mono ?_;rintro e w3 ⟨s3,rfl,hm3,hg3⟩;have HM3:=ah hm3;have HBA:Hid (Below W.heap.size W (w1.alloc (.cells #[.int .i64 0] 3))):=HB1.out.alloc z1s _;have hz3:=hg3.size;rw[Z9]at hz3;have HB3:Hid (Below W.heap.size W w3):=HBA.out.trans ⟨hg3.os,hg3.tape,hg3.output,by rw[Z9];exact hz3,fun i hi=>hg3.block i (by rw[Z9];omega) (by omega)⟩;have HK3:=ah (HK.out.below HB3.out (by omega));have HZ3:=ah (HZ.out.below HB3.out (by omega));obtain⟨q0,q1,q2,q3⟩:=HK3.out.dk4;obtain⟨z0,z1,z2,z3⟩:=HZ3.out.dk4;obtain⟨e0,e1,e2,e3⟩:=fr4 HK3.out;obtain⟨f0,f1,f2,f3⟩:=fr4 HZ3.out;clear hm3 hg3 HST1
 go_upto_region 5 with fail
 obtain⟨W4,hW4⟩:∃W4,((((w3.setCell ⟨w.heap.size,0,none⟩ (.int .i64 d.sz)).setCell ⟨w.heap.size,1,none⟩ (.slice s3.a1 td.length s3.c1)).setCell ⟨w.heap.size,2,none⟩ (.slice s3.a2 0 s3.c2)).setCell ⟨w.heap.size,3,none⟩ (.int .i64 d.lf))=W4:=⟨_,rfl⟩
 have HK4:Hid (Bk W4 w.heap.size 25 #[.int .i64 d.sz,.slice s3.a1 td.length s3.c1,.slice s3.a2 0 s3.c2,.int .i64 d.lf]):=by rw[<-hW4];exact HK3.out.set4 _ _ _ _
 have hne:w.heap.size+1+1≠w.heap.size:=by omega
 have HZ4:Hid (Bk W4 (w.heap.size+1+1) 25 #[.int .i64 0,.slice none 0 0,.slice none 0 0,.int .i64 0]):=by rw[<-hW4];exact(rQ _ _ _ _ _ _ _ hne).trans HZ3.out
 have HM4:Hid (DkM W4 W4.heap.size {d with ss:=td,pn:= []} s3):=by rw[<-hW4];exact(HM3.out.box HK3.out _ _ _ _).more (by simp)
 have HB4:Hid (Below w.heap.size w W4):=by rw[<-hW4];exact dF (HB0.out.trans (HB3.out.mono (by omega))) ai _ _ _ _
 rw[hW4];clear hW4 q0 q1 q2 q3 z0 z1 z2 z3 e0 e1 e2 e3 f0 f1 f2 f3 HK3 HZ3 HM3;have e3:=HK4.out.free 3;obtain⟨q0,q1,q2,q3⟩:=HK4.out.dk4
 go_upto_region 6 with fail
 obtain⟨W5,hW5⟩:∃W5,W4.setCell ⟨w.heap.size,3,none⟩ (.int .i64 (-1))=W5:=⟨_,rfl⟩
 have HK5:Hid (Bk W5 w.heap.size 25 #[.int .i64 d.sz,.slice s3.a1 td.length s3.c1,.slice s3.a2 0 s3.c2,.int .i64 (-1)]):=by rw[<-hW5];show Bk _ _ _ _;have:=HK4.out.set 3 (.int .i64 (-1));simpa using this
 have HZ5:Hid (Bk W5 (w.heap.size+1+1) 25 #[.int .i64 0,.slice none 0 0,.slice none 0 0,.int .i64 0]):=by rw[<-hW5];exact HZ4.out.far (p:=⟨w.heap.size,3,none⟩) hne _
 have HM5:Hid (DkM W5 W5.heap.size {d with ss:=td,pn:= []} s3):=by rw[<-hW5];exact(HM4.out.box1 HK4.out 3 _).more (by simp)
 have HB5:Hid (Below w.heap.size w W5):=by rw[<-hW5];exact HB4.out.setCell (p:=⟨w.heap.size,3,none⟩) ai _
 rw[hW5];clear hW5 q0 q1 q2 q3 e3 HK4 HZ4 HM4 HB4;obtain⟨q0,q1,q2,q3⟩:=HK5.out.dk4;obtain⟨z0,z1,z2,z3⟩:=HZ5.out.dk4;obtain⟨f0,f1,f2,f3⟩:=fr4 HZ5.out;go_wp2_with fail;refine ZY (H9 Tryz.results22 rfl (HZ5.out.set4 _ _ _ _)) rfl ?_;have HM6:=HM5.out.box HZ5.out (.int .i64 d.sz) (.slice s3.a1 td.length s3.c1) (.slice s3.a2 0 s3.c2) (.int .i64 (-1));exact⟨s3,rfl,⟨HM6.ss.more (by simp),HM6.pn.more (by simp)⟩,dF HB5.out (by omega) _ _ _ _⟩
def stR(w:MQ)(b:Nat)(r:Rp)(s:Rsl):MQ :=
 ((((((w.setCell ⟨b,0,none⟩ (.int .i64 r.d.sz)).setCell ⟨b,1,none⟩ (.slice s.d.a1 r.d.ss.length s.d.c1)).setCell ⟨b,2,none⟩ (.slice s.d.a2 r.d.pn.length s.d.c2)).setCell ⟨b,3,none⟩ (.int .i64 r.d.lf)).setCell ⟨b,4,none⟩ (.slice s.pA r.p.length s.pc)).setCell ⟨b,5,none⟩ (.slice s.rA r.rs.length s.rc)).setCell ⟨b,6,none⟩ (.slice s.lA r.lg.length s.lc)
theorem iT(w:MQ)(b:Nat)(r:Rp)(s:Rsl) :
 ((((((w.setCell ⟨b,0,none⟩ (.int .i64 r.d.sz)).setCell ⟨b,1,none⟩ (.slice s.d.a1 r.d.ss.length s.d.c1)).setCell ⟨b,2,none⟩ (.slice s.d.a2 r.d.pn.length s.d.c2)).setCell ⟨b,3,none⟩ (.int .i64 r.d.lf)).setCell ⟨b,4,none⟩ (.slice s.pA r.p.length s.pc)).setCell ⟨b,5,none⟩ (.slice s.rA r.rs.length s.rc)).setCell ⟨b,6,none⟩ (.slice s.lA r.lg.length s.lc)=stR w b r s:=rfl
theorem gB(w:MQ)(b:Nat)(r:Rp)(s:Rsl): (stR w b r s).heap.size=w.heap.size:=by simp[stR]
theorem RpM.st{w:MQ}{B b:Nat}{r r0 q:Rp}{s s0 t:Rsl}(h:RpM w B r s)(hk:Bk w b 35 (rpC q t)):RpM (stR w b r0 s0) B r s :=
 h.box hk (by simp[rpC,bxV]) (fun k hk'=>fZ _ _ _ _ _ _ _ _ _ k hk')
structure DoI(w:MQ)(r:Rp)(s:Rsl)(a u:Nat)(x:Ac)(r':Rp)(s':Rsl)(y:Int)(W:MQ):Prop where
 k:Bk W w.heap.size 35 (rpC r s)
 z:Bk W (w.heap.size+1+1) 35 rzC
 n:Bk W (w.heap.size+1+1+1) 35 (rpC r' s')
 rm:RpM W W.heap.size r s
 rm':RpM W W.heap.size r' s'
 b:Below w.heap.size w W
 sz:w.heap.size+4<=W.heap.size
 p:DoP r a u x (if y=0∨y=20 then r' else r) y
theorem DoI.of{w W w1:MQ}{B:Nat}{r r' q:Rp}{s s' t:Rsl}{a u:Nat}{x:Ac}{y:Int}(hK:Bk W w.heap.size 35 (rpC r s))(hZ:Bk W (w.heap.size+1+1) 35 rzC)(hN:Bk W (w.heap.size+1+1+1) 35 (rpC q t))
  (hb0:Below w.heap.size w W) (hz:w.heap.size+4<=W.heap.size) (hm:RpM w B r s) (hB:B<=w.heap.size) (h1:RpM w1 w1.heap.size r' s') (hb:Below W.heap.size W w1) (hp:DoP r a u x (if y=0∨y=20 then r' else r) y) :
  DoI w r s a u x r' s' y (stR w1 (w.heap.size+1+1+1) r' s'):=by
 have hz1:=hb.size;have hN1:=hN.below hb (by omega);have e:=gB w1 (w.heap.size+1+1+1) r' s';exact⟨(fZ _ _ _ _ _ _ _ _ _ _ (by omega)).trans (hK.below hb (by omega)),(fZ _ _ _ _ _ _ _ _ _ _ (by omega)).trans (hZ.below hb (by omega)),hN1.set7 _ _ _ _ _ _ _,
  ((hm.below (hb0.trans (hb.mono (by omega))) hB).st hN1).more (by rw[e];omega),(h1.st hN1).more (by rw[e];omega),dz (hb0.trans (hb.mono (by omega))) (by omega) _ _ _ _ _ _ _,by rw[e];omega,hp⟩
theorem Ls(hpck:iV)(r:Rp)(s:Rsl)(gs:List Gru)(a u:Nat)(x:AcX)(B:Nat)(w:MQ)(hI:RI r)(hL:r.d.lf≠0->Lvs r gs a u)(hm:RpM w B r s)(hx:AcM w B x)(hf:AcF x.1)(hB:B<=w.heap.size) :
  Calls Tryz.prog 26 #[rpV r s,.agg (acA x)] w fun e w'=>∃r' y,dO r' y w e w'/\DoP r a u x.1 r' y:=by
 obtain⟨W,hW⟩:∃W,(((w.alloc (.cells (rpC r s) 35)).alloc (.cells (acA x) 65)).alloc (.cells rzC 35)).alloc (.cells (rpC r s) 35)=W:=⟨_,rfl⟩
 have HB0:Hid (Below w.heap.size w W):=by rw[<-hW];exact((((af _ w).alloc ai _).alloc (by simp) _).alloc (by simp;omega) _).alloc (by simp;omega) _
 have HK:Hid (Bk W w.heap.size 35 (rpC r s)):=by rw[<-hW];exact(((Bk.new w _ _).alloc _).alloc _).alloc _
 have HX:Hid (Bk W (w.heap.size+1) 65 (acA x)):=by rw[<-hW];exact(((Bk.new _ _ _).at_ (by simp)).alloc _).alloc _
 have HZ:Hid (Bk W (w.heap.size+1+1) 35 rzC):=by rw[<-hW];exact((Bk.new _ _ _).at_ (by simp)).alloc _
 have HN:Hid (Bk W (w.heap.size+1+1+1) 35 (rpC r s)):=by rw[<-hW];exact(Bk.new _ _ _).at_ (by simp)
 have zW:W.heap.size=w.heap.size+4:=by rw[<-hW];simp
 have HRM:Hid (RpM W B r s):=hm.below HB0.out hB;have HAM:Hid (AcM W B x):=hx.below HB0.out hB;have HM:=ah hm;have HI:=ah hI;have HL:=ah hL;have HF:=ah hf;have HBB:=ah hB;have HW:=ah hW;clear hW hm hx hI hL hf;simp only[acA]at HX HW;obtain⟨⟨k0,k1,k2,k3⟩,k4,k5,k6⟩:=HK.out.seven;obtain⟨⟨x0,x1,x2,x3⟩,x4,x5,x6⟩:=HX.out.seven;have HOF:Hid (∀(r':Rp)(s':Rsl)(y:Int)(w1:MQ),RpM w1 w1.heap.size r' s'->Below W.heap.size W w1->DoP r a u x.1 (if y=0∨y=20 then r' else r) y->DoI w r s a u x.1 r' s' y (stR w1 (w.heap.size+1+1+1) r' s')):=fun r' s' y w1 h1 h2 h3=>DoI.of HK.out HZ.out HN.out HB0.out (by omega) HM.out HBB.out h1 h2 h3;obtain⟨kd,hkd⟩:∃k,x.1.kind=k:=⟨_,rfl⟩
 have HKD:=ah hkd;simp only[rpV,rpC,acA,hkd]at HK HZ HN HW HX ⊢;clear hkd k0 k1 k2 k3 k4 k5 k6 x0 x1 x2 x3 x4 x5 x6;by_cases hc:0<=kd/\kd<=2
 focus
  by_cases hl:r.d.lf=0
  . have HE:Hid (DoP r a u x.1 r 20):= .inl ⟨by rw[HKD.out];exact hc,hl,rfl,rfl⟩
    have hlb: (r.d.lf == 0)=true:=by rw[hl];rfl
    obtain⟨hc1,hc2⟩:=hc;clear hl HOF
    go_enter Tryz.func26,Tryz.ntmps26
    go_wp2_with fail;refine ZY (dL Tryz.results26 rfl (((Bk.new _ _ _).at_ (by simp)).alloc _) rfl) rfl ⟨r,20,⟨s,rfl,?_,?_⟩,HE.out⟩
    . exact(HM.out.below (((((af _ w).alloc ai _).alloc (by simp) _).alloc (by simp;omega) _).alloc (by simp;omega) _) HBB.out).more (by simp;omega)
    . exact((((af _ w).alloc ai _).alloc (by simp) _).alloc (by simp;omega) _).alloc (by simp;omega) _
  have hlb: (r.d.lf == 0)=false:=by rw[beq_eq_false_iff_ne];exact hl
  have HLF:=ah hl;have HLV:=ah (HL.out hl);have HPO:Hid (∀r' y,PlP r a u (iG x.1 r.p r.rs r.lg) r' y->DoP r a u x.1 r' y):=fun r' y h=> .inr (.inl ⟨by rw[HKD.out];exact hc,HLF.out,h⟩);have hkk:kd=0∨kd=1∨kd=2:=by omega
  clear hl hc;rcases hkk with rfl | rfl | rfl
  focus
   have HC:=ah (rV hpck r s gs a u x.1.nm x.1.fs x.2.fA x.1.fs.length x.2.fc dB nL 7 B W HI.out.ok HLV.out.d.pn HLV.out.j HLV.out.m HLV.out.n HRM.out (by omega) HAM.out.f (by have:=HF.out.nm;omega) (by have:=HF.out.fn;omega) (fun f hf=>by have:=HF.out.fs f hf;omega) Mc);obtain⟨pp,hpp⟩:∃p,gH r.p r.rs r.lg x.1.nm x.1.fs dB nL 7=p:=⟨_,rfl⟩
   rw[hpp]at HC;have HPP:Hid (iG x.1 r.p r.rs r.lg=pp.1):=by show _=_;unfold iG;rw[if_pos HKD.out,hpp]
   unfold dB nL at HC;simp only[rpV,rpC]at HC;clear hpp
   go_enter Tryz.func26,Tryz.ntmps26
   go_wp2_with fail;rw[HW.out];refine HC.out.mono ?_;rintro e w1 hce;obtain⟨r',d',y,⟨s',rfl,hm1,hb1⟩,hpl⟩:=hce.out;have HI1:=ah (HOF.out r' s' y w1 hm1 hb1 (HPO.out _ _ (by rw[HPP.out];exact hpl)));have HN1:=ah (HN.out.below hb1 (by omega));clear hm1 hb1 HC HOF HPO hce hpl;simp only[rpV,rpC,aB];obtain⟨⟨v0,v1,v2,v3⟩,v4,v5,v6⟩:=HN1.out.seven;obtain⟨⟨f0,f1,f2,f3⟩,f4,f5,f6⟩:=HN1.out.free7
   go_upto_region 15 with fail
   rw[iT w1 (w.heap.size+1+1+1) r' s'];obtain⟨wt,hwt⟩:∃W,stR w1 (w.heap.size+1+1+1) r' s'=W:=⟨_,rfl⟩
   rw[hwt]at HI1 ⊢;clear hwt v0 v1 v2 v3 v4 v5 v6 f0 f1 f2 f3 f4 f5 f6 HN1
  rotate_left
  focus
   have HC:=ah (sI hpck r s gs a u x.1.pl x.2.pA x.1.pl.length x.2.pc x.1.us x.2.uA x.1.us.length x.2.uc B W HI.out.ok HLV.out.d.pn HLV.out.j HLV.out.m HLV.out.n HRM.out (by omega) HAM.out.p HAM.out.u (by have:=HF.out.pn;omega) (fun i hi=>by have:=HF.out.ps i hi;omega) HF.out.pw (by have:=HF.out.un;omega) (fun v hv=>⟨by have:=HF.out.us v hv;omega,HF.out.uw v hv⟩));have HPP:Hid (iG x.1 r.p r.rs r.lg=cK r.p r.rs r.lg x.1.pl x.1.us):=by show _=_;unfold iG;rw[if_neg (by rw[HKD.out];decide),if_pos HKD.out]
   simp only[rpV,rpC]at HC
   go_enter Tryz.func26,Tryz.ntmps26
   go_wp2_with fail;rw[HW.out];refine HC.out.mono ?_;rintro e w1 hce;obtain⟨r',y,⟨s',rfl,hm1,hb1⟩,hpl⟩:=hce.out;have HI1:=ah (HOF.out r' s' y w1 hm1 hb1 (HPO.out _ _ (by rw[HPP.out];exact hpl)));have HN1:=ah (HN.out.below hb1 (by omega));clear hm1 hb1 HC HOF HPO hce hpl;simp only[rpV,rpC];obtain⟨⟨v0,v1,v2,v3⟩,v4,v5,v6⟩:=HN1.out.seven;obtain⟨⟨f0,f1,f2,f3⟩,f4,f5,f6⟩:=HN1.out.free7
   go_upto_region 15 with fail
   rw[iT w1 (w.heap.size+1+1+1) r' s'];obtain⟨wt,hwt⟩:∃W,stR w1 (w.heap.size+1+1+1) r' s'=W:=⟨_,rfl⟩
   rw[hwt]at HI1 ⊢;clear hwt v0 v1 v2 v3 v4 v5 v6 f0 f1 f2 f3 f4 f5 f6 HN1
  rotate_left
  focus
   have HC:=ah (xC r s gs a u B W HI.out.ok HLV.out.d.pn HLV.out.j HLV.out.m HLV.out.n HRM.out (by omega));have HPP:Hid (iG x.1 r.p r.rs r.lg=fB r.p r.rs r.lg):=by show _=_;unfold iG;rw[if_neg (by rw[HKD.out];decide),if_neg (by rw[HKD.out];decide)]
   simp only[rpV,rpC]at HC
   go_enter Tryz.func26,Tryz.ntmps26
   go_wp2_with fail;rw[HW.out];refine HC.out.mono ?_;rintro e w1 hce;obtain⟨r',n',y,⟨s',rfl,hm1,hb1⟩,hpl⟩:=hce.out (u:=u);have HI1:=ah (HOF.out r' s' y w1 hm1 hb1 (HPO.out _ _ (by rw[HPP.out];exact hpl)));have HN1:=ah (HN.out.below hb1 (by omega));clear hm1 hb1 HC HOF HPO hce hpl;simp only[rpV,rpC];obtain⟨⟨v0,v1,v2,v3⟩,v4,v5,v6⟩:=HN1.out.seven;obtain⟨⟨f0,f1,f2,f3⟩,f4,f5,f6⟩:=HN1.out.free7
   go_upto_region 15 with fail
   rw[iT w1 (w.heap.size+1+1+1) r' s'];obtain⟨wt,hwt⟩:∃W,stR w1 (w.heap.size+1+1+1) r' s'=W:=⟨_,rfl⟩
   rw[hwt]at HI1 ⊢;clear hwt v0 v1 v2 v3 v4 v5 v6 f0 f1 f2 f3 f4 f5 f6 HN1
  rotate_left
 rotate_left 3
 focus
  by_cases h3:kd=3
  . subst h3
    have HC:=ah (FZ r s x.1.left B W HRM.out (by omega));have HDP:Hid (DoP r a u x.1 (if(0:Int)=0∨ (0:Int)=20 then gU r x.1.left else r) 0):= .inr (.inr ⟨by rw[HKD.out];decide,by rw[if_pos (.inl rfl)];exact Kr HI.out⟩);obtain⟨r',hr'⟩:∃q,gU r x.1.left=q:=⟨_,rfl⟩
    rw[hr']at HC HDP;simp only[rpV,rpC]at HC;clear hr' hc
    go_enter Tryz.func26,Tryz.ntmps26
    go_wp2_with fail;rw[HW.out];refine HC.out.mono ?_;rintro e w1 ⟨rfl,hm1,hb1⟩;have HI1:=ah (HOF.out r' s 0 w1 hm1 hb1 HDP.out);have HN1:=ah (HN.out.below hb1 (by omega));clear hm1 hb1 HC HOF;obtain⟨⟨v0,v1,v2,v3⟩,v4,v5,v6⟩:=HN1.out.seven;obtain⟨⟨f0,f1,f2,f3⟩,f4,f5,f6⟩:=HN1.out.free7
    go_upto_region 15 with fail
    rw[iT w1 (w.heap.size+1+1+1) r' s];obtain⟨wt,hwt⟩:∃W,stR w1 (w.heap.size+1+1+1) r' s=W:=⟨_,rfl⟩
    rw[hwt]at HI1 ⊢;clear hwt v0 v1 v2 v3 v4 v5 v6 f0 f1 f2 f3 f4 f5 f6 HN1;have zt:=HI1.out.sz;have hn1:=HI1.out.n;have hk1:=HI1.out.k;simp only[rpC]at hn1 hk1;obtain⟨⟨v0,v1,v2,v3⟩,v4,v5,v6⟩:=hn1.seven;obtain⟨⟨k0,k1,k2,k3⟩,k4,k5,k6⟩:=hk1.seven;obtain⟨⟨z0,z1,z2,z3⟩,z4,z5,z6⟩:=HI1.out.z.seven;obtain⟨⟨f0,f1,f2,f3⟩,f4,f5,f6⟩:=HI1.out.z.free7;clear hn1 hk1;go_wp2_with fail;exact ZY (dL Tryz.results26 rfl (HI1.out.z.set7 _ _ _ _ _ _ _) rfl) rfl ⟨r',0,⟨s,rfl,(HI1.out.rm'.st (q:=zRp) (t:=zRs) (r0:=r') (s0:=s) HI1.out.z).more (Nat.le_of_eq (gB wt (w.heap.size+1+1) r' s).symm),dz HI1.out.b (by omega) _ _ _ _ _ _ _⟩,by have:=HI1.out.p;simpa using this⟩
  by_cases h4:kd=4
  . subst h4
    have HC:=ah (Av r.d s.d B x.1.pk x.2.kA x.2.kc B W HI.out.ok HRM.out.d (by omega) (by have:=HI.out.pn;omega) HAM.out.k (by omega) (by have:=HF.out.kn;omega));obtain⟨gc,p',rs',lg',hdc,hmc,hrc,_⟩:=HI.out.cut x.1.pk;obtain⟨ac,uc,hjc⟩:=hdc.jn;have HOP:=ah (fun(w1:MQ)(s1:Dsl)(h1:DkM w1 w1.heap.size (dJ r.d x.1.pk) s1)=>uq ⟨dJ r.d x.1.pk,p',rs',lg'⟩ gc ac uc s1 w1.heap.size w1 hdc.ok hdc.pn hjc hmc h1 ai hrc.n);have HDP:Hid (DoP r a u x.1 (if(0:Int)=0∨ (0:Int)=20 then⟨dJ r.d x.1.pk,p',rs',lg'⟩ else r) 0):= .inr (.inr ⟨by rw[HKD.out];decide,by rw[if_pos (.inl rfl)];exact hrc⟩);unfold dO at HOP;obtain⟨r',hr'⟩:∃q,(⟨dJ r.d x.1.pk,p',rs',lg'⟩:Rp)=q:=⟨_,rfl⟩
    rw[hr']at HOP HDP;have hrd:r'.d=dJ r.d x.1.pk:=by rw[<-hr']
    rw[hrd]at HOP;obtain⟨d',hd'⟩:∃d,dJ r.d x.1.pk=d:=⟨_,rfl⟩
    rw[hd']at HC HOP;simp only[dkV,dkC,rpV,rpC]at HC HOP;clear hr' hd' hrd hc hdc hmc hrc hjc
    go_enter Tryz.func26,Tryz.ntmps26
    go_wp2_with fail;rw[HW.out];refine HC.out.mono ?_;rintro e w1a ⟨s1,rfl,hma,hba⟩;have HBA:=ah hba;have HC:=ah (HOP.out w1a s1 hma);clear HOP hma hba;go_wp2_with fail;refine HC.out.mono ?_;rintro e w1 ⟨s',rfl,hm1,hb1'⟩;have hb1:Below W.heap.size W w1:=HBA.out.trans (hb1'.mono HBA.out.size);clear hb1';have HI1:=ah (HOF.out r' s' 0 w1 hm1 hb1 HDP.out);have HN1:=ah (HN.out.below hb1 (by omega));clear hm1 hb1 HC HOF;obtain⟨⟨v0,v1,v2,v3⟩,v4,v5,v6⟩:=HN1.out.seven;obtain⟨⟨f0,f1,f2,f3⟩,f4,f5,f6⟩:=HN1.out.free7
    go_upto_region 15 with fail
    rw[iT w1 (w.heap.size+1+1+1) r' s'];obtain⟨wt,hwt⟩:∃W,stR w1 (w.heap.size+1+1+1) r' s'=W:=⟨_,rfl⟩
    rw[hwt]at HI1 ⊢;clear hwt v0 v1 v2 v3 v4 v5 v6 f0 f1 f2 f3 f4 f5 f6 HN1;have zt:=HI1.out.sz;have hn1:=HI1.out.n;have hk1:=HI1.out.k;simp only[rpC]at hn1 hk1;obtain⟨⟨v0,v1,v2,v3⟩,v4,v5,v6⟩:=hn1.seven;obtain⟨⟨k0,k1,k2,k3⟩,k4,k5,k6⟩:=hk1.seven;obtain⟨⟨z0,z1,z2,z3⟩,z4,z5,z6⟩:=HI1.out.z.seven;obtain⟨⟨f0,f1,f2,f3⟩,f4,f5,f6⟩:=HI1.out.z.free7;clear hn1 hk1;go_wp2_with fail;exact ZY (dL Tryz.results26 rfl (HI1.out.z.set7 _ _ _ _ _ _ _) rfl) rfl ⟨r',0,⟨s',rfl,(HI1.out.rm'.st (q:=zRp) (t:=zRs) (r0:=r') (s0:=s') HI1.out.z).more (Nat.le_of_eq (gB wt (w.heap.size+1+1) r' s').symm),dz HI1.out.b (by omega) _ _ _ _ _ _ _⟩,by have:=HI1.out.p;simpa using this⟩
  have hk0: (kd == 0)=false:=by rw[beq_eq_false_iff_ne];omega
  have hk1: (kd == 1)=false:=by rw[beq_eq_false_iff_ne];omega
  have hk2: (kd == 2)=false:=by rw[beq_eq_false_iff_ne];omega
  have hk3: (kd == 3)=false:=by rw[beq_eq_false_iff_ne];omega
  have hk4: (kd == 4)=false:=by rw[beq_eq_false_iff_ne];omega
  have HE:Hid (DoP r a u x.1 r 0):= .inr (.inr ⟨by rw[HKD.out];exact hc,HI.out⟩);have HFN:Hid (∀o1 o2 o3 o4,RpM ((((w.alloc o1).alloc o2).alloc o3).alloc o4) ((((w.alloc o1).alloc o2).alloc o3).alloc o4).heap.size r s/\Below w.heap.size w ((((w.alloc o1).alloc o2).alloc o3).alloc o4)):=fun o1 o2 o3 o4=>by
   have hb:Below w.heap.size w ((((w.alloc o1).alloc o2).alloc o3).alloc o4):=((((af _ w).alloc ai _).alloc (by simp) _).alloc (by simp;omega) _).alloc (by simp;omega) _;exact⟨(HM.out.below hb HBB.out).more (Z0 HBB.out hb.size),hb⟩
  clear HOF h3 h4;by_cases hc1:0<=kd
  . have hc2:¬kd<=2:=fun h=>hc ⟨hc1,h⟩
    clear hc
    go_enter Tryz.func26,Tryz.ntmps26
    go_wp2_with fail;exact ZY (dL Tryz.results26 rfl (((Bk.new _ _ _).at_ (by simp)).alloc _) rfl) rfl ⟨r,0,⟨s,rfl,HFN.out _ _ _ _⟩,HE.out⟩
  . clear hc
    go_enter Tryz.func26,Tryz.ntmps26
    go_wp2_with fail;exact ZY (dL Tryz.results26 rfl (((Bk.new _ _ _).at_ (by simp)).alloc _) rfl) rfl ⟨r,0,⟨s,rfl,HFN.out _ _ _ _⟩,HE.out⟩
 all_goals
  have zt:=HI1.out.sz;have hn1:=HI1.out.n;have hk1:=HI1.out.k;simp only[rpC]at hn1 hk1;obtain⟨⟨v0,v1,v2,v3⟩,v4,v5,v6⟩:=hn1.seven;obtain⟨⟨k0,k1,k2,k3⟩,k4,k5,k6⟩:=hk1.seven;obtain⟨⟨z0,z1,z2,z3⟩,z4,z5,z6⟩:=HI1.out.z.seven;obtain⟨⟨f0,f1,f2,f3⟩,f4,f5,f6⟩:=HI1.out.z.free7;clear hn1 hk1;by_cases hy0:y=0
  . have HP1:Hid (DoP r a u x.1 r' 0):=ah (by have:=HI1.out.p;rw[hy0]at this;simpa using this)
    subst hy0;go_wp2_with fail;exact ZY (dL Tryz.results26 rfl (HI1.out.z.set7 _ _ _ _ _ _ _) rfl) rfl ⟨r',0,⟨s',rfl,(HI1.out.rm'.st (q:=zRp) (t:=zRs) (r0:=r') (s0:=s') HI1.out.z).more (Nat.le_of_eq (gB wt (w.heap.size+1+1) r' s').symm),dz HI1.out.b (by omega) _ _ _ _ _ _ _⟩,HP1.out⟩
  by_cases hy2:y=20
  . have HP1:Hid (DoP r a u x.1 r' 20):=ah (by have:=HI1.out.p;rw[hy2]at this;simpa using this)
    subst hy2;go_wp2_with fail;exact ZY (dL Tryz.results26 rfl (HI1.out.z.set7 _ _ _ _ _ _ _) rfl) rfl ⟨r',20,⟨s',rfl,(HI1.out.rm'.st (q:=zRp) (t:=zRs) (r0:=r') (s0:=s') HI1.out.z).more (Nat.le_of_eq (gB wt (w.heap.size+1+1) r' s').symm),dz HI1.out.b (by omega) _ _ _ _ _ _ _⟩,HP1.out⟩
  have HP1:Hid (DoP r a u x.1 r y):=by have:=HI1.out.p;rw[if_neg (fun h=>h.elim hy0 hy2)]at this;exact this
  have hz1: (y != 0)=true:=by rw[bne_iff_ne];exact hy0
  have hz2: (y != 20)=true:=by rw[bne_iff_ne];exact hy2
  clear hy0 hy2;go_wp2_with fail;exact ZY (dL Tryz.results26 rfl (HI1.out.z.set7 _ _ _ _ _ _ _) rfl) rfl ⟨r,y,⟨s,rfl,(HI1.out.rm.st (q:=zRp) (t:=zRs) (r0:=r) (s0:=s) HI1.out.z).more (Nat.le_of_eq (gB wt (w.heap.size+1+1) r s).symm),dz HI1.out.b (by omega) _ _ _ _ _ _ _⟩,HP1.out⟩
theorem J8{d:Dk}(hd:d.Ok)(hn:3<=d.ss.length):∀o∈bH d.sz d.ss,iY d o:=by
 have h1:=gm (ss:=d.ss) (a:=1) (.inl rfl) hn;have h2:=gm (ss:=d.ss) (a:=2) (.inr rfl) hn;have hp: (bB d.sz []).length=d.sz:=gz (by simp);have hm: (bX d.sz 1).length=d.sz:=gz (by have:=hd.sz0;simp;omega);intro o ho w hw;simp only[bH,List.mem_cons,List.not_mem_nil,or_false]at ho;rcases ho with rfl | rfl | rfl | rfl | rfl <;> first | (cases hw;done) | (cases hw;exact⟨by simp only;omega,by assumption⟩)
theorem FI(d:Dk)(s:Dsl)(B:Nat)(w:MQ)(hd:d.Ok)(hn:3<=d.ss.length)(hpl:d.pn.length<=1000)(hm:DkM w B d s)(hB:B<=w.heap.size) :
  Calls Tryz.prog 44 #[dkV d s] w (aW (aH d (bH d.sz d.ss)).1 (aH d (bH d.sz d.ss)).2 w):=by
 obtain⟨W,hW⟩:∃W,(w.alloc (.cells (dkC d s) 25)).alloc (.cells #[.int .i64 0,.slice none 0 0,.slice none 0 0,.int .i64 0] 25)=W:=⟨_,rfl⟩
 have HB0:Hid (Below w.heap.size w W):=by rw[<-hW];exact((af _ w).alloc ai _).alloc (by simp) _
 have HK:Hid (Bk W w.heap.size 25 (dkC d s)):=by rw[<-hW];exact(Bk.new w _ _).alloc _
 have HZ:Hid (Bk W (w.heap.size+1) 25 #[.int .i64 0,.slice none 0 0,.slice none 0 0,.int .i64 0]):=by
  rw[<-hW];have:=Bk.new (w.alloc (.cells (dkC d s) 25)) 25 #[.int .i64 0,.slice none 0 0,.slice none 0 0,.int .i64 0]
  rwa[Z9]at this
 have zW:W.heap.size=w.heap.size+2:=by rw[<-hW];simp
 have HM:Hid (DkM W B d s):=hm.below HB0.out hB;have HC:=ah (yh d s B W hd hn HM.out (by omega) (by omega));have HP0:=ah (fun w'=>lZ [] d.sz w' (ZZ _) hd.sz1);have HP1:=ah (fun w'=>lZ [1] d.sz w' hd.sz0 hd.sz1);have HF1:=ah (fun w'=>mi d s 1 w' (by omega) hd.n1 (.inl rfl));have HF2:=ah (fun w'=>mi d s 2 w' (by omega) hd.n1 (.inr rfl));have HFIT:=ah (J8 hd hn);obtain⟨f1,hf1⟩:∃x,aC d.ss 1=x:=⟨_,rfl⟩
 obtain⟨f2,hf2⟩:∃x,aC d.ss 2=x:=⟨_,rfl⟩
 obtain⟨zs,hzs⟩:∃x,ofL (bB d.sz [])=x:=⟨_,rfl⟩
 obtain⟨mk,hmk⟩:∃x,ofL (bX d.sz 1)=x:=⟨_,rfl⟩
 have HW1:=ah (fun w'=>kg f1 (bB d.sz []) w');have HW2:=ah (fun w'=>kg f2 (bB d.sz []) w');have HW3:=ah (fun w'=>kg 0 (bX d.sz 1) w');have HOPS:Hid ([some (f1,bB d.sz []),some (f2,bB d.sz []),none,some (0,bX d.sz 1),none]=bH d.sz d.ss):=by show _=_;unfold bH;rw[hf1,hf2]
 rw[hf1]at HF1;rw[hf2]at HF2;rw[hzs]at HP0 HW1 HW2;rw[show ofL (bB d.sz [1])=mk from hmk]at HP1;rw[hmk]at HW3;obtain⟨d12,hd12⟩:∃x,(aH d (bH d.sz d.ss)).1=x:=⟨_,rfl⟩
 obtain⟨x12,hx12⟩:∃x,(aH d (bH d.sz d.ss)).2=x:=⟨_,rfl⟩
 have HRUN:=ah (fun w' A' c' vs' (ho:OpsM w' w'.heap.size A' 5 vs' (bH d.sz d.ss)) (hm:DkM w' w'.heap.size d s)=>uF d s w'.heap.size A' 5 c' vs' (bH d.sz d.ss) w' hd hm ai ho HFIT.out (by rw[ho.len];omega));unfold aW at HRUN;rw[hd12,hx12]at HRUN ⊢;have HW:=ah hW;clear hW hm hd hf1 hf2 hzs hmk hd12 hx12;obtain⟨ns,hns⟩:∃ns,d.ss.length=ns:=⟨_,rfl⟩
 obtain⟨np,hnp⟩:∃np,d.pn.length=np:=⟨_,rfl⟩
 simp only[dkV,dkC,hns,hnp]at HC HF1 HF2 HK HW HRUN ⊢;clear hns hnp;obtain⟨k0,k1,k2,k3⟩:=HK.out.dk4
 go_enter Tryz.func44,Tryz.ntmps44
 go_wp2_with fail;rw[HW.out];refine HC.out.mono ?_;rintro e w1 ⟨rfl,hb1⟩;have HB1:=ah hb1;have z1s:=hb1.size;obtain⟨k0,k1,k2,k3⟩:=(HK.out.below hb1 (by omega)).dk4;clear hb1 HC;go_wp2_with fail;rw[show(⟨#[]⟩:MR)=ofL [] from rfl];refine(HP0.out _).mono ?_;rintro e w2 ⟨rfl,hb2⟩;have HB2:Hid (Below W.heap.size W w2):=HB1.out.trans (hb2.mono z1s);have z2s:=HB2.out.size;have HK2:=ah (HK.out.below HB2.out (by omega));have HZ2:=ah (HZ.out.below HB2.out (by omega));obtain⟨q0,q1,q2,q3⟩:=HK2.out.dk4;have HMW:Hid (DkM w2 W.heap.size d s):=(HM.out.more (by omega)).below HB2.out ai;have HKE:Hid (∀w',Below w2.heap.size w2 w'->Bk w' w.heap.size 25 #[.int .i64 d.sz,.slice s.a1 ns s.c1,.slice s.a2 np s.c2,.int .i64 d.lf]):=fun w' hb=>HK2.out.below hb HK2.out.lt;clear hb2 HP0 k0 k1 k2 k3;go_wp2_with fail
 go_region_held3 (fun w'=>w'.cell? ⟨w.heap.size,0,none⟩=some (.int .i64 d.sz)/\w'.cell? ⟨w.heap.size,1,none⟩=some (.slice s.a1 ns s.c1)/\w'.cell? ⟨w.heap.size,2,none⟩=some (.slice s.a2 np s.c2)/\w'.cell? ⟨w.heap.size,3,none⟩=some (.int .i64 d.lf))
  (first | exact Y9.out | exact S9.out | exact T8.out | exact S8.out | exact S7.out | exact S6.out | exact S5.out | exact S4.out | exact S3.out | exact⟨q0,q1,q2,q3⟩)
  (first
    | (have hchk:=HB8;go_at_call 97;refine(HRUN.out _ _ 5 _ HO8.out (HMW.out.below (HB8.out.trans (HBL.out.mono HB8.out.size)) (by omega) |>.more (by have:=HB8.out.size;simp;omega))).mono ?_
       rintro e w9 ⟨s12,rfl,hm12,hb⟩;have HM12:=ah hm12;have HB9:Hid (Below w2.heap.size w2 w9):=(HB8.out.trans (HBL.out.mono HB8.out.size)).trans (hb.mono (by have:=HB8.out.size;simp;omega));have S9:=ah (HKE.out _ HB9.out).dk4;have HZ9:=ah (HZ2.out.below HB9.out (by omega));have hne1:w.heap.size≠w.heap.size+1:=by omega
       have Y9:=ah (((((HKE.out _ HB9.out).far (p:=⟨w.heap.size+1,0,none⟩) hne1 (.int .i64 d12.sz)).far (p:=⟨w.heap.size+1,1,none⟩) hne1 (.slice s12.a1 d12.ss.length s12.c1)).far (p:=⟨w.heap.size+1,2,none⟩) hne1 (.slice s12.a2 d12.pn.length s12.c2)).far (p:=⟨w.heap.size+1,3,none⟩) hne1 (.int .i64 d12.lf)).dk4;obtain⟨e0,e1,e2,e3⟩:=HZ9.out.dk4;obtain⟨g0,g1,g2,g3⟩:=fr4 HZ9.out;clear hb hm12)
    | (have hchk:=HB7;go_at_call 98;refine(HW3.out _).mono ?_;rintro e w8 ⟨v8,rfl,hv,hb⟩;obtain⟨p8,r8,rfl⟩:=hv.fn
       have HB8:Hid (Below w2.heap.size w2 w8):=HB7.out.trans (hb.mono HB7.out.size);have HS8:Hid (Below w7.heap.size w7 w8):=hb;have HV8:=ah hv;have S8:=ah (HKE.out _ HB8.out).dk4;have H68:Hid (Below w6.heap.size w6 w8):=HS7.out.trans (hb.mono HS7.out.size);have H48:Hid (Below w4.heap.size w4 w8):=(HS5.out.trans (HS6.out.mono HS5.out.size)).trans (H68.out.mono (Z0 HS5.out.size HS6.out.size));have hbl:Below w8.heap.size w8 (w8.alloc (.cells #[.func (.func 169) #[] #[p4,r4],.func (.func 169) #[] #[p6,r6],.func (.func 100) #[] #[],.func (.func 169) #[] #[p8,r8],.func (.func 100) #[] #[]] 166)):=(af _ w8).alloc ai _;have HBL:=ah hbl;have T8:=ah (HKE.out _ (HB8.out.trans (hbl.mono HB8.out.size))).dk4;have HO8:Hid (OpsM (w8.alloc (.cells #[.func (.func 169) #[] #[p4,r4],.func (.func 169) #[] #[p6,r6],.func (.func 100) #[] #[],.func (.func 169) #[] #[p8,r8],.func (.func 100) #[] #[]] 166)) (w8.alloc (.cells #[.func (.func 169) #[] #[p4,r4],.func (.func 169) #[] #[p6,r6],.func (.func 100) #[] #[],.func (.func 169) #[] #[p8,r8],.func (.func 100) #[] #[]] 166)).heap.size (some ⟨w8.heap.size,0,none⟩) 5 [.func (.func 169) #[] #[p4,r4],.func (.func 169) #[] #[p6,r6],.func (.func 100) #[] #[],.func (.func 169) #[] #[p8,r8],.func (.func 100) #[] #[]] (bH d.sz d.ss)):=by
        show OpsM _ _ _ _ _ _;rw[<-HOPS.out];refine⟨(Sl.new w8 _ _ 5 rfl).more (by simp),rfl,fun i x o hx ho=>?_⟩
        match i,hx,ho with
        | 0,hx,ho=>cases hx;cases ho;exact(((HV4.out.below H48.out ai).more H48.out.size).below hbl ai).more (by simp)
        | 1,hx,ho=>cases hx;cases ho;exact(((HV6.out.below H68.out ai).more H68.out.size).below hbl ai).more (by simp)
        | 2,hx,ho=>cases hx;cases ho;rfl
        | 3,hx,ho=>cases hx;cases ho;exact(hv.below hbl ai).more (by simp)
        | 4,hx,ho=>cases hx;cases ho;rfl
       clear hbl;clear hb hv)
    | (have hchk:=HB6;go_at_call 96;refine(HP1.out _).mono ?_;rintro e w7 ⟨rfl,hb⟩
       have HB7:Hid (Below w2.heap.size w2 w7):=HB6.out.trans (hb.mono HB6.out.size);have S7:=ah (HKE.out _ HB7.out).dk4;have HS7:Hid (Below w6.heap.size w6 w7):=hb;clear hb)
    | (have hchk:=HB5;go_at_call 98;refine(HW2.out _).mono ?_;rintro e w6 ⟨v6,rfl,hv,hb⟩;obtain⟨p6,r6,rfl⟩:=hv.fn
       have HB6:Hid (Below w2.heap.size w2 w6):=HB5.out.trans (hb.mono HB5.out.size);have HS6:Hid (Below w5.heap.size w5 w6):=hb;have HV6:=ah hv;have S6:=ah (HKE.out _ HB6.out).dk4;clear hb hv)
    | (have hchk:=HB4;go_at_call 99;refine(HF2.out _).mono ?_;rintro e w5 ⟨rfl,hb⟩
       have HB5:Hid (Below w2.heap.size w2 w5):=HB4.out.trans (hb.mono HB4.out.size);have S5:=ah (HKE.out _ HB5.out).dk4;have HS5:Hid (Below w4.heap.size w4 w5):=hb;clear hb)
    | (have hchk:=HB3;go_at_call 98;refine(HW1.out _).mono ?_;rintro e w4 ⟨v4,rfl,hv,hb⟩;obtain⟨p4,r4,rfl⟩:=hv.fn
       have HB4:Hid (Below w2.heap.size w2 w4):=HB3.out.trans (hb.mono HB3.out.size);have HS4:Hid (Below w3.heap.size w3 w4):=hb;have HV4:=ah hv;have S4:=ah (HKE.out _ HB4.out).dk4;clear hb hv)
    | (go_at_call 99;refine(HF1.out _).mono ?_;rintro e w3 ⟨rfl,hb⟩
       have HB3:Hid (Below w2.heap.size w2 w3):=((af _ w2).drew).trans hb;have S3:=ah (HKE.out _ HB3.out).dk4;clear hb))
 go_wp2_with fail;refine ZY (fq Tryz.results44 rfl (HZ9.out.set4 _ _ _ _) rfl) rfl ?_;exact⟨s12,rfl,(HM12.out.box HZ9.out _ _ _ _).more (by simp),dF (HB0.out.trans ((HB2.out.trans (HB9.out.mono (by omega))).mono (by omega))) (by omega) _ _ _ _⟩
theorem Ei(d:Dk)(s:Dsl)(B:Nat)(w:MQ)(hd:d.Ok)(hn:d.ss.length<3)(hpl:d.pn.length<=1000)(hm:DkM w B d s)(hB:B<=w.heap.size) :
  Calls Tryz.prog 44 #[dkV d s] w (aW zDk 2 w):=by
 obtain⟨W,hW⟩:∃W,(w.alloc (.cells (dkC d s) 25)).alloc (.cells #[.int .i64 0,.slice none 0 0,.slice none 0 0,.int .i64 0] 25)=W:=⟨_,rfl⟩
 have HB0:Hid (Below w.heap.size w W):=by rw[<-hW];exact((af _ w).alloc ai _).alloc (by simp) _
 have HK:Hid (Bk W w.heap.size 25 (dkC d s)):=by rw[<-hW];exact(Bk.new w _ _).alloc _
 have HZ:Hid (Bk W (w.heap.size+1) 25 #[.int .i64 0,.slice none 0 0,.slice none 0 0,.int .i64 0]):=by
  rw[<-hW];have:=Bk.new (w.alloc (.cells (dkC d s) 25)) 25 #[.int .i64 0,.slice none 0 0,.slice none 0 0,.int .i64 0]
  rwa[Z9]at this
 have zW:W.heap.size=w.heap.size+2:=by rw[<-hW];simp
 have HM:Hid (DkM W B d s):=hm.below HB0.out hB;have HC:=ah (xE d s B W hd HM.out (by omega) (by omega));rw[if_pos hn]at HC;have HW:=ah hW;clear hW hm hd hn;obtain⟨ns,hns⟩:∃ns,d.ss.length=ns:=⟨_,rfl⟩
 obtain⟨np,hnp⟩:∃np,d.pn.length=np:=⟨_,rfl⟩
 unfold aW zDk;simp only[dkV,dkC,hns,hnp,List.length_nil]at HC HK HW ⊢;clear hns hnp hpl;obtain⟨k0,k1,k2,k3⟩:=HK.out.dk4
 go_enter Tryz.func44,Tryz.ntmps44
 go_wp2_with fail;rw[HW.out];refine HC.out.mono ?_;rintro e w1 ⟨rfl,hb1⟩;have HB1:Hid (Below w.heap.size w w1):=HB0.out.trans (hb1.mono (by omega));have HZ1:=ah (HZ.out.below hb1 (by omega));clear hb1 HC k0 k1 k2 k3;obtain⟨f0,f1,f2,f3⟩:=fr4 HZ1.out;obtain⟨z0,z1,z2,z3⟩:=HZ1.out.dk4;go_wp2_with fail;refine ZY (fq Tryz.results44 rfl (HZ1.out.set4 _ _ _ _) rfl) rfl ⟨⟨none,0,none,0⟩,rfl,⟨Sl.nil _ _ _ _,Sl.nil _ _ _ _⟩,dF HB1.out (by omega) _ _ _ _⟩
theorem Gv(d:Dk)(s:Dsl)(B:Nat)(w:MQ)(hd:d.Ok)(hn:d.ss.length<3)(hpl:d.pn.length<=1000)(hm:DkM w B d s)(hB:B<=w.heap.size) :
  Calls Tryz.prog 13 #[dkV d s] w (dO zRp 2 w):=by
 obtain⟨W,hW⟩:∃W,(w.alloc (.cells (dkC d s) 25)).alloc (.cells rzC 35)=W:=⟨_,rfl⟩
 have HB0:Hid (Below w.heap.size w W):=by rw[<-hW];exact((af _ w).alloc ai _).alloc (by simp) _
 have HK:Hid (Bk W w.heap.size 25 (dkC d s)):=by rw[<-hW];exact(Bk.new w _ _).alloc _
 have HZ:Hid (Bk W (w.heap.size+1) 35 rzC):=by rw[<-hW];exact(Bk.new _ _ _).at_ (by simp)
 have zW:W.heap.size=w.heap.size+2:=by rw[<-hW];simp
 have HF:=ah (Ei d s B W hd hn hpl (hm.below HB0.out hB) (by omega));unfold aW zDk at HF;obtain⟨n1,h1⟩:∃n,d.ss.length=n:=⟨_,rfl⟩
 obtain⟨n2,h2⟩:∃n,d.pn.length=n:=⟨_,rfl⟩
 simp only[dkV,dkC,h1,h2,List.length_nil]at HF HK HZ hW ⊢;have HW:=ah hW;clear h1 h2 hW hd hm hpl;obtain⟨k0,k1,k2,k3⟩:=HK.out.dk4
 go_enter Tryz.func13,Tryz.ntmps13
 go_wp2_with fail;rw[HW.out];refine HF.out.mono ?_;rintro e w1 ⟨s',rfl,hm1,hb1⟩;have HK1:=ah (HK.out.below hb1 (by omega));have HZ1:=ah (HZ.out.below hb1 (by omega));have HB1:Hid (Below w.heap.size w w1):=HB0.out.trans (hb1.mono (by omega));clear hb1 hm1 k0 k1 k2 k3 HF;obtain⟨k0,k1,k2,k3⟩:=HK1.out.dk4;obtain⟨f0,f1,f2,f3⟩:=fr4 HK1.out
 go_upto_region 2 with fail
 obtain⟨W2,hW2⟩:∃W2,((((w1.setCell ⟨w.heap.size,0,none⟩ (.int .i64 0)).setCell ⟨w.heap.size,1,none⟩ (.slice s'.a1 0 s'.c1)).setCell ⟨w.heap.size,2,none⟩ (.slice s'.a2 0 s'.c2)).setCell ⟨w.heap.size,3,none⟩ (.int .i64 0))=W2:=⟨_,rfl⟩
 have HZ2:Hid (Bk W2 (w.heap.size+1) 35 rzC):=by rw[<-hW2];exact(rQ _ _ _ _ _ _ _ (by omega)).trans HZ1.out
 have HB2:Hid (Below w.heap.size w W2):=by rw[<-hW2];exact dF HB1.out ai _ _ _ _
 first | rw[hW2] | (simp only[Int.natCast_zero]at hW2 ⊢;rw[hW2])
 clear hW2 k0 k1 k2 k3 f0 f1 f2 f3 HK1 HZ1 HB1;obtain⟨⟨f0,f1,f2,f3⟩,f4,f5,f6⟩:=HZ2.out.free7;obtain⟨⟨z0,z1,z2,z3⟩,z4,z5,z6⟩:=HZ2.out.seven;go_wp2_with fail;refine ZY (dL Tryz.results13 rfl (HZ2.out.set7 _ _ _ _ _ _ _) rfl) rfl ⟨zRs,rfl,RpM.zero _ _,dz HB2.out (by omega) _ _ _ _ _ _ _⟩
theorem zm(d:Dk)(s:Dsl)(B:Nat)(w:MQ)(hd:d.Ok)(hn:3<=d.ss.length)(hpl:d.pn.length<=1000)(hm:DkM w B d s)(hB:B<=w.heap.size) :
  Calls Tryz.prog 13 #[dkV d s] w (dO ⟨(aH d (bH d.sz d.ss)).1,[],[],[]⟩ (aH d (bH d.sz d.ss)).2 w):=by
 have HC2:Hid ((aH d (bH d.sz d.ss)).2=0∨ (aH d (bH d.sz d.ss)).2=20):=by
  obtain⟨_,_,_,_,h⟩:=mq (bH d.sz d.ss) d;exact h.imp (·.2) (·.1)
 obtain⟨W,hW⟩:∃W,(w.alloc (.cells (dkC d s) 25)).alloc (.cells rzC 35)=W:=⟨_,rfl⟩
 have HB0:Hid (Below w.heap.size w W):=by rw[<-hW];exact((af _ w).alloc ai _).alloc (by simp) _
 have HK:Hid (Bk W w.heap.size 25 (dkC d s)):=by rw[<-hW];exact(Bk.new w _ _).alloc _
 have HZ:Hid (Bk W (w.heap.size+1) 35 rzC):=by rw[<-hW];exact(Bk.new _ _ _).at_ (by simp)
 have zW:W.heap.size=w.heap.size+2:=by rw[<-hW];simp
 have HF:=ah (FI d s B W hd hn hpl (hm.below HB0.out hB) (by omega));obtain⟨⟨x,e0⟩,hx⟩:∃x,aH d (bH d.sz d.ss)=x:=⟨_,rfl⟩
 rw[hx]at HC2 HF ⊢;simp only at HC2 HF ⊢;unfold aW at HF;obtain⟨n1,h1⟩:∃n,d.ss.length=n:=⟨_,rfl⟩
 obtain⟨n2,h2⟩:∃n,d.pn.length=n:=⟨_,rfl⟩
 obtain⟨m1,g1⟩:∃n,x.ss.length=n:=⟨_,rfl⟩
 obtain⟨m2,g2⟩:∃n,x.pn.length=n:=⟨_,rfl⟩
 have HG1:=ah g1;have HG2:=ah g2;simp only[dkV,dkC,h1,h2,g1,g2,List.length_nil]at HF HK HZ hW ⊢;have HW:=ah hW;clear h1 h2 g1 g2 hx hW hd hm hpl;obtain⟨k0,k1,k2,k3⟩:=HK.out.dk4
 go_enter Tryz.func13,Tryz.ntmps13
 go_wp2_with fail;rw[HW.out];refine HF.out.mono ?_;rintro e w1 ⟨s',rfl,hm1,hb1⟩;have HM1:=ah hm1;have HK1:=ah (HK.out.below hb1 (by omega));have HZ1:=ah (HZ.out.below hb1 (by omega));have HB1:Hid (Below w.heap.size w w1):=HB0.out.trans (hb1.mono (by omega));clear hb1 hm1 k0 k1 k2 k3 HF;obtain⟨k0,k1,k2,k3⟩:=HK1.out.dk4;obtain⟨f0,f1,f2,f3⟩:=fr4 HK1.out
 go_upto_region 2 with fail
 obtain⟨W2,hW2⟩:∃W2,((((w1.setCell ⟨w.heap.size,0,none⟩ (.int .i64 x.sz)).setCell ⟨w.heap.size,1,none⟩ (.slice s'.a1 m1 s'.c1)).setCell ⟨w.heap.size,2,none⟩ (.slice s'.a2 m2 s'.c2)).setCell ⟨w.heap.size,3,none⟩ (.int .i64 x.lf))=W2:=⟨_,rfl⟩
 have HM2:Hid (DkM W2 W2.heap.size x s'):=by rw[<-hW2];exact(HM1.out.box HK1.out _ _ _ _).more (by simp)
 have HK2:Hid (Bk W2 w.heap.size 25 #[.int .i64 x.sz,.slice s'.a1 m1 s'.c1,.slice s'.a2 m2 s'.c2,.int .i64 x.lf]):=by rw[<-hW2];exact HK1.out.set4 _ _ _ _
 have HZ2:Hid (Bk W2 (w.heap.size+1) 35 rzC):=by rw[<-hW2];exact(rQ _ _ _ _ _ _ _ (by omega)).trans HZ1.out
 have HB2:Hid (Below w.heap.size w W2):=by rw[<-hW2];exact dF HB1.out ai _ _ _ _
 rw[hW2];clear hW2 k0 k1 k2 k3 f0 f1 f2 f3 HK1 HZ1 HB1 HM1;obtain⟨k0,k1,k2,k3⟩:=HK2.out.dk4;obtain⟨⟨f0,f1,f2,f3⟩,f4,f5,f6⟩:=HZ2.out.free7;obtain⟨⟨z0,z1,z2,z3⟩,z4,z5,z6⟩:=HZ2.out.seven;have HE:Hid (∀w',Bk w' (w.heap.size+1) 35 #[.int .i64 x.sz,.slice s'.a1 m1 s'.c1,.slice s'.a2 m2 s'.c2,.int .i64 x.lf,.slice none 0 0,.slice none 0 0,.slice none 0 0]-> (∀k,k≠w.heap.size+1->w'.heap[k]? =W2.heap[k]?)->w'.heap.size=W2.heap.size->RpM w' w'.heap.size ⟨x,[],[],[]⟩ ⟨s',none,0,none,0,none,0⟩):=fun w' h1 h2 h3=>by
  have hr:RpM W2 W2.heap.size ⟨x,[],[],[]⟩ ⟨s',none,0,none,0,none,0⟩:=⟨HM2.out,Sl.nil _ _ _ _,Sl.nil _ _ _ _,Sl.nil _ _ _ _,Nat.le_refl _,ZZ _⟩
  exact(hr.box HZ2.out (by simp[bxV]) h2).more (by omega)
 rcases HC2.out with rfl | rfl
 all_goals
  go_wp2_with fail;refine ZY (dL Tryz.results13 rfl (HZ2.out.set7 _ _ _ _ _ _ _) rfl) rfl ⟨⟨s',none,0,none,0,none,0⟩,by simp only[rpV,rpC,HG1.out,HG2.out];rfl,HE.out _ (HZ2.out.set7 _ _ _ _ _ _ _) (fZ _ _ _ _ _ _ _ _ _) (by simp),dz HB2.out (by omega) _ _ _ _ _ _ _⟩
end Go.Proofs.YtknefelegjlgnaaGreatDoor
