/-Lemmas.-/
import Derived.StillTailTactics
import Derived.Test.YtknefelegjlgnaaGreatDoorCCCm8
set_option maxRecDepth 100000
set_option maxHeartbeats 8000000
namespace Go.Proofs.YtknefelegjlgnaaGreatDoor
open Go.RowKit
theorem yR(b:Nat)(w:VA)(y0 y1 y2 y3 y4 y5 y6 y7 y8:VC)(k:Nat)(hk:k≠b): ((((((((((w.setCell ⟨b,0,none⟩ y0).setCell ⟨b,1,none⟩ y1).setCell ⟨b,2,none⟩ y2).setCell ⟨b,3,none⟩ y3).setCell ⟨b,4,none⟩ y4).setCell ⟨b,5,none⟩ y5).setCell ⟨b,6,none⟩ y6).setCell ⟨b,7,none⟩ y7).setCell ⟨b,8,none⟩ y8)).heap[k]? =w.heap[k]? :=by
 have h:=fun(W:VA)(i:Nat)(y:VC)=>Z8 W ⟨b,i,none⟩ y k hk;rw[h,h,h,h,h,h,h,h,h]
theorem Sl.ne{w w':VA}{B size n b:Nat}{A:OA}{xs:List VC}(h:Sl w B size A n xs)(hn:∀a,0<n->A=some a->a.block≠b)(hw:∀k,k≠b->w'.heap[k]? =w.heap[k]?):Sl w' B size A n xs:=by
 refine⟨h.1,fun h0=>?_⟩;obtain⟨b',off,rfl,hb',hc⟩:=h.2 h0;have hne:=hn _ h0 rfl;exact⟨b',off,rfl,hb',fun j u hu=>(World.cell?_of_block (hw b' hne)).trans (hc j u hu)⟩
def zrC:Array VC:=#[.int .i64 0,.string ⟨#[]⟩,.slice none 0 0,.int .u64 0,.int .u64 0,.slice none 0 0,.string ⟨#[]⟩,.int .i64 0,.string ⟨#[]⟩]
theorem PK:∀(i:Nat)(v:Bool),zrC[i]? ≠some (.bool v)
 | 0,_ | 1,_ | 2,_ | 3,_ | 4,_ | 5,_ | 6,_ | 7,_ | 8,_=>by simp[zrC]
 | i+9,_=>by simp[zrC]
theorem Td:∀(i:Nat)(x y:Int),zrC[i]? =some (.int .u64 x)->zrC[i+1]? =some (.int .u64 y)->x=0/\y=0
 | 0,_,_ | 1,_,_ | 2,_,_ | 4,_,_ | 5,_,_ | 6,_,_ | 7,_,_ | 8,_,_=>by simp[zrC]
 | 3,_,_=>by simp[zrC];omega
 | i+9,_,_=>by simp[zrC]
theorem RJ{o:Ob}(ho:OkO o):∀d∈o.pars,d≠zD:=by
 cases ho.f with
 | blob _ _ c _=>rw[c.pars];intro d h;cases h
 | tree _ _ c _=>rw[c.pars];intro d h;cases h
 | commit _ _ _ c=>exact c.pars.nz
theorem ObM.zero{w w':VA}{B b:Nat}{t:TypeId}{o:Ob}{s:Osl}(h:ObM w B o s)(ho:OkO o)(hz:Bk w b t zrC)(hw:∀k,k≠b->w'.heap[k]? =w.heap[k]?):ObM w' B o s:=by
 refine⟨h.e.ne (b:=b) ?_ hw,h.p.ne (b:=b) ?_ hw,h.ele,h.emx,h.ple,h.pmx⟩
 . rintro a h0 ha rfl
   obtain⟨b',off,e,rfl',_,_,_,h1,_⟩:=h.e.en h0;rw[ha]at rfl';cases rfl'
   rw[hz.cell]at h1;exact PK _ _ h1
 . rintro a h0 ha rfl
   obtain⟨b',off,d,rfl',_,hd,h1,h2⟩:=h.p.dg h0;rw[ha]at rfl';cases rfl'
   rw[hz.cell]at h1 h2;have:=Td _ _ _ h1 h2;exact RJ ho d (Z7 hd) (by obtain⟨x,y⟩:=d;obtain⟨h1,h2⟩:=this;simp only at h1 h2;rw[h1,h2];rfl)
def zOb:Ob:=⟨0,⟨#[]⟩,[],zD,[],⟨#[]⟩,0,⟨#[]⟩⟩
def zOs:Osl:=⟨none,0,0,none,0,0⟩
def GeE(p:List Itm)(d:Dig)(w:VA)(e:Ending)(w':VA):Prop :=
 ((∃o s,aC p d=some o/\OkO o/\e= .returned (.tuple #[obV o s,.int .i64 0])/\ObM w' w'.heap.size o s/\NewO w' w.heap.size s/\NewP w' w.heap.size s)∨ (aC p d=none/\e= .returned (.tuple #[obV zOb zOs,.int .i64 8])))/\VE w w'
theorem nI(A:OA)(n c B:Nat)(p:List Itm)(d:Dig)(w:VA)(h0:Sl w B 3 A n (flat itC p))(hB:B<=w.heap.size)(hn:n<=1000000)(hp:PlOk p) :
  Calls Tryz.prog 52 #[.slice A n c,az d] w (GeE p d w):=by
 have HP:=ai hp;have HL:=ai (h0.len dD (by omega));clear hp;obtain⟨d1,d2⟩:=d;obtain⟨W,hW⟩:=NX9 ((w.alloc (.cells #[.int .u64 d1,.int .u64 d2] 50)).alloc (.cells #[.int .i64 0,.string ⟨#[]⟩,.slice none 0 0,.int .u64 0,.int .u64 0,.slice none 0 0,.string ⟨#[]⟩,.int .i64 0,.string ⟨#[]⟩] 109))
 have HB0:VF w W:=by rw[<-hW];exact((ah _ w).alloc aj _).alloc (by simp) _
 have HK:Hid (Bk W w.heap.size 50 #[.int .u64 d1,.int .u64 d2]):=by rw[<-hW];exact(Bk.new w _ _).alloc _
 have HZ:Hid (Bk W (w.heap.size+1) 109 #[.int .i64 0,.string ⟨#[]⟩,.slice none 0 0,.int .u64 0,.int .u64 0,.slice none 0 0,.string ⟨#[]⟩,.int .i64 0,.string ⟨#[]⟩]):=by
  rw[<-hW];have:=Bk.new (w.alloc (.cells #[.int .u64 d1,.int .u64 d2] 50)) 109 #[.int .i64 0,.string ⟨#[]⟩,.slice none 0 0,.int .u64 0,.int .u64 0,.slice none 0 0,.string ⟨#[]⟩,.int .i64 0,.string ⟨#[]⟩];rw[Z9]at this;exact this
 have HC:=ai (xq A n c B p (d1,d2) W (h0.below HB0.o hB) (ZY hB HB0.o.size) hn HP.o.asc);have H0:=ai h0;clear h0;have l:w.heap.size+2=W.heap.size:=by rw[<-hW];simp
 have HW:=ai hW;clear hW;unfold BsE at HC;simp only[az]at HC ⊢;obtain⟨x0,x1,_,_⟩:=HK.o.two;cases hf:bT p (d1,d2) with
 | none =>
   have HN:Hid (aC p (d1,d2)=none):=getP_none.2 hf;rw[hf]at HC;simp only[Option.isSome_none]at HC;clear hf
   go_enter Tryz.func52,Tryz.ntmps52
   go_wp2_with fail;rw[HW.o];refine HC.o.mono ?_;rintro e w2 ⟨rfl,hb⟩;have HZ2:=ai (HZ.o.below hb (by omega));have HB2:VF w w2:=HB0.o.trans (hb.mono HB0.o.size);obtain⟨z0,z1,z2,z3,z4,z5,z6,z7,z8⟩:=HZ2.o.nine;obtain⟨g0,g1,g2,g3,g4,g5,g6,g7,g8⟩:=fr9 HZ2.o;clear hb HC;go_wp2_with fail;refine ZW (fE Tryz.results52 rfl (fF HZ2.o _ _ _ _ _ _ _ _ _) rfl) rfl ⟨.inr ⟨HN.o,rfl⟩,fD HB2.o (by omega) _ _ _ _ _ _ _ _ _⟩
 | some b =>
   have HM:Hid (((d1,d2),b)∈p):=(jo HP.o.asc).1 hf;obtain⟨o,ho,hbe⟩:=HP.o.enc _ HM.o;simp only at hbe;have HG:Hid (aC p (d1,d2)=some o):=(iI HP.o).2 ⟨ho,by rw[<-hbe];exact HM.o⟩;have HO:=ai ho;have HI:Hid (∃i,p[atD p (d1,d2)]? =some i/\i.2=b/\atD p (d1,d2)<n):=by
    unfold bT at hf;cases hi:p[atD p (d1,d2)]? with
    | none=>rw[hi]at hf;cases hf
    | some i =>
      rw[hi]at hf;simp only at hf;split at hf
      . exact⟨i,rfl,by cases hf;rfl,by rw[<-HL.o];exact(List.getElem?_eq_some_iff.1 hi).1⟩
      . cases hf
   obtain⟨i,hi,hib,hin⟩:=HI.o;rw[hf]at HC;simp only[Option.isSome_some]at HC;obtain⟨m,hm⟩:=NX9 (atD p (d1,d2))
   rw[hm]at HC hi hin;clear hf ho hm
   go_enter Tryz.func52,Tryz.ntmps52
   go_wp2_with fail;rw[HW.o];refine HC.o.mono ?_;rintro e w2 ⟨rfl,hb⟩;have HB2:VF w w2:=HB0.o.trans (hb.mono HB0.o.size);have HZ2:=ai (HZ.o.below hb (by omega));obtain⟨bb,off,i',rfl,hbB,hx,y0,y1,y2⟩:=(H0.o.below HB2.o hB).it hin;rw[hi]at hx;obtain rfl:=Option.some.inj hx;rw[hib,hbe]at y2;have HD:=ai (rH o w2 HO.o);have j:=hb.size;clear hb HC hi hib hbe hx;have hmn: (m:Int)< (n:Int):=by omega
   go_wp2_with fail;refine HD.o.mono ?_;rintro e w3 ⟨s,rfl,a,hb3,hn3,hp3⟩;have f:Hid (NewP w3 w.heap.size s):=hp3.mono HB2.o.size;have g:Hid (NewO w3 w.heap.size s):=hn3.mono HB2.o.size;have HZ3:=ai (HZ2.o.below hb3 (by omega));have HB3:VF w w3:=HB2.o.trans (hb3.mono HB2.o.size);have h:=ai a;simp only[obV,obC];obtain⟨z0,z1,z2,z3,z4,z5,z6,z7,z8⟩:=HZ3.o.nine;obtain⟨g0,g1,g2,g3,g4,g5,g6,g7,g8⟩:=fr9 HZ3.o;clear hb3 a hn3 hp3 HD;go_wp2_with fail;refine ZW (fE Tryz.results52 rfl (fF HZ3.o _ _ _ _ _ _ _ _ _) rfl) rfl ⟨.inl ⟨o,s,HG.o,HO.o,rfl,?_,?_,?_⟩,fD HB3.o (by omega) _ _ _ _ _ _ _ _ _⟩
   . have:=h.o.zero (t:=109) HO.o HZ3.o (fun k hk=>yR _ w3 (.int .i64 o.kind) (.string o.data) (.slice s.eA s.en s.ec) (.int .u64 o.tree.1) (.int .u64 o.tree.2) (.slice s.pA s.pn s.pc) (.string o.auth) (.int .i64 o.time) (.string o.msg) k hk)
     simpa using this
   . have:=g.o.keep (t:=109) HZ3.o (by decide) (fun k hk=>yR _ w3 (.int .i64 o.kind) (.string o.data) (.slice s.eA s.en s.ec) (.int .u64 o.tree.1) (.int .u64 o.tree.2) (.slice s.pA s.pn s.pc) (.string o.auth) (.int .i64 o.time) (.string o.msg) k hk)
     simpa using this
   . have:=f.o.keep (t:=109) HZ3.o (by decide) (fun k hk=>yR _ w3 (.int .i64 o.kind) (.string o.data) (.slice s.eA s.en s.ec) (.int .u64 o.tree.1) (.int .u64 o.tree.2) (.slice s.pA s.pn s.pc) (.string o.auth) (.int .i64 o.time) (.string o.msg) k hk)
     simpa using this
theorem Sl.dgbox{w:VA}{B n b:Nat}{t:TypeId}{A:OA}{q:List Itm}{x y:VC}(h:Sl w B 3 A n (flat itC q))(hk:Bk w b t #[x,y]):∀a,0<n->A=some a->a.block≠b:=by
 rintro a h0 ha rfl;obtain⟨b',off,i,rfl',_,_,_,_,h2⟩:=h.it h0;rw[ha]at rfl';cases rfl'
 rw[hk.cell]at h2;simp at h2
theorem kC{fn:Func}{r c i:Tmp}(h:fn.results= #[.tmp r,.cell c 50,.tmp i]){w:VA}{a:Array VC}{b:Nat}{x y u v:VC}(hr:a[r]?.getD undef=u)(ha:a[c]?.getD undef= .pointer (some ⟨b,0,none⟩))(hk:Bk w b 50 #[x,y])(hv:a[i]?.getD undef=v) :
  (results fn a).run Tryz.prog w= .ok (.tuple #[u,.agg #[x,y],v]) w:=by
 obtain⟨h0,h1,_,_⟩:=hk.two;simp[results,h,hr,ha,hv,go_sem,h0,h1]
def PuE(A0:OA)(c0:Nat)(p:List Itm)(o:Ob)(w:VA)(e:Ending)(w':VA):Prop :=
 ((∃q A c,bC p o=some q/\e= .returned (.tuple #[.slice A q.length c,az (dgO o),.int .i64 0])/\Sl w' w'.heap.size 3 A q.length (flat itC q)/\q.length<=c/\c<=maxLen/\Ply w' w.heap.size A0 c0 p A c q)∨ (bC p o=none/\e= .returned (.tuple #[.slice none 0 0,az zD,.int .i64 16])))/\VE w w'
theorem xu(A:OA)(n c B:Nat)(p:List Itm)(o:Ob)(s:Osl)(w:VA)(h0:Sl w B 3 A n (flat itC p))(hm:ObM w B o s)(hB:B<=w.heap.size)(hnc:n<=c)(hcm:c<=maxLen)(hn:n<=900000)(ha:AscI p)(ho:OkO o) :
  Calls Tryz.prog 68 #[.slice A n c,obV o s] w (PuE A c p o w):=by
 have HO:=ai ho;have HAS:=ai ha;have HCM:=ai hcm;have t:=ai hnc;have u:=ai hn;obtain⟨W,hW⟩:=NX9 ((w.alloc (.cells (obC o s) 109)).alloc (.cells #[.int .u64 0,.int .u64 0] 50))
 have HB0:VF w W:=by rw[<-hW];exact((ah _ w).alloc aj _).alloc (by simp) _
 have HK:Hid (Bk W w.heap.size 109 (obC o s)):=by rw[<-hW];exact(Bk.new w _ _).alloc _
 have HD:Hid (Bk W (w.heap.size+1) 50 #[.int .u64 0,.int .u64 0]):=by
  rw[<-hW];have:=Bk.new (w.alloc (.cells (obC o s) 109)) 50 #[.int .u64 0,.int .u64 0];rw[Z9]at this;exact this
 have y:w.heap.size+2=W.heap.size:=by rw[<-hW];simp
 have HE:=ai (vU o s B W (hm.below HB0.o hB) (by omega) ho);have H0:=ai h0;have hsz: (ofL (aI o)).size<=maxLen:=by rw[bU];have:=ho.len;unfold maxLen;omega
 have a:=ai (fun w=>uC (ofL (aI o)) w hsz);have j:Hid (ofB (toL (ofL (aI o)))=dgO o):=by show _=_;rw[dE];rfl
 unfold og at a;rw[j.o]at a;have g:Hid (bC p o=dC p (dgO o,ofL (aI o))):=rfl;unfold uM at HE;simp only[obV,obC]at HE hW HK ⊢;obtain⟨sb,hsb⟩:=NX9 (ofL (aI o))
 rw[hsb]at HE a g;obtain⟨⟨d1,d2⟩,hdd⟩:∃d,dgO o=d:=⟨_,rfl⟩
 unfold PuE;rw[hdd]at a g ⊢;rw[g.o];simp only[az]at a ⊢;obtain⟨c0,c1,c2,c3,c4,c5,c6,c7,c8⟩:=HK.o.nine;have HW:=ai hW;clear h0 hm ho ha hcm hn hsb hdd j hsz hW hnc
 go_enter Tryz.func68,Tryz.ntmps68
 go_wp2_with fail;rw[HW.o];go_wp2_with fail;refine HE.o.mono ?_;rintro e w2 ⟨rfl,hb⟩;have HB2:VF w w2:=HB0.o.trans (hb.mono HB0.o.size);have HD2:=ai (HD.o.below hb (by omega));have z2:w.heap.size+2<=w2.heap.size:=by have:=hb.size;omega
 clear hb HE c0 c1 c2 c3 c4 c5 c6 c7 c8;go_wp2_with fail;refine(a.o _).mono ?_;rintro e w3 ⟨rfl,hb⟩;have HB3:VF w w3:=HB2.o.trans (hb.mono HB2.o.size);have HD3:=ai (HD2.o.below hb (by omega));have z3:w.heap.size+2<=w3.heap.size:=by have:=hb.size;omega
 obtain⟨W3,hW3⟩:=NX9 (w3.alloc (.cells #[.int .u64 d1,.int .u64 d2] 50))
 have l:VF w3 W3:=by rw[<-hW3];exact(ah _ w3).alloc aj _
 have i:Hid (Bk W3 w3.heap.size 50 #[.int .u64 d1,.int .u64 d2]):=by rw[<-hW3];exact Bk.new w3 _ _
 have m:=ai (HD3.o.below l.o (by omega));have f:VF w W3:=HB3.o.trans (l.o.mono HB3.o.size);have r:w3.heap.size<W3.heap.size:=i.o.lt;have HI:=ai (Lm A n c B p ((d1,d2),sb) W3 (H0.o.below f.o hB) (by omega) t.o HCM.o u.o HAS.o);unfold Ju at HI;simp only[itV]at HI;obtain⟨x0,x1,_,_⟩:=i.o.two;clear hb;go_wp2_with fail;refine HI.o.mono ?_;rintro e w4 ⟨hq,hb⟩;have HB4:VF w w4:=f.o.trans (hb.mono f.o.size);have HD4:=ai (m.o.below hb (by omega));have v:=ai (i.o.below hb r);have z4:w3.heap.size<w4.heap.size:=Nat.lt_of_lt_of_le r hb.size;have g0:=HD4.o.free 0;have g1:=HD4.o.free 1;obtain⟨y0,y1,_,_⟩:=HD4.o.two;obtain⟨x0,x1,_,_⟩:=v.o.two;clear hb HI hW3;rcases hq with ⟨q,A',c',h1,rfl,h2,h3,h4,h5⟩ | ⟨h1,rfl⟩
 . have HQ:=ai h1;have HS:=ai h2;have H3:=ai h3;have H4:=ai h4;have x:=ai h5
   clear h1 h2 h3 h4 h5;go_wp2_with fail
   go_region
   go_wp2_with fail;refine ZW (kC Tryz.results68 rfl rfl ((HD4.o.set2 (.int .u64 d1) (.int .u64 d2)).drew) rfl) rfl ⟨.inl ⟨q,A',c',HQ.o,rfl,?_,H3.o,H4.o,?_⟩,(eX HB4.o (by omega) _ _).drew⟩
   . have:=HS.o.ne (b:=w.heap.size+1) (HS.o.dgbox HD4.o) (fun k hk=>(Z8 (w4.setCell ⟨w.heap.size+1,0,none⟩ (.int .u64 d1)) ⟨w.heap.size+1,1,none⟩ (.int .u64 d2) k hk).trans (Z8 w4 ⟨w.heap.size+1,0,none⟩ (.int .u64 d1) k hk))
     simpa using this.drew
   . rcases x.o with h | h
     . exact .inl h
     . exact .inr (jq (jq (lG h (by omega)) HD4.o (by decide) 0 _) (HD4.o.set 0 _) (by decide) 1 _).drew
 . have HQ:=ai h1
   clear h1;go_wp2_with fail;refine ZW (kC Tryz.results68 rfl rfl (HD4.o.set2 _ _) rfl) rfl ⟨.inr ⟨HQ.o,rfl⟩,eX HB4.o (by omega) _ _⟩
theorem uk{P:Program}{ops:Array Oper}{rest:List Oper}{o:Oper}{a:Act}{w:VA}{Q:Exit->Act->VA->Prop}(s x:Operand)(t:TypeId)(_:o.op= .call {callee:= .builtin .append,args:=#[s,x],argTypes:=#[t,t]})
  (h:Hid (wpList P ops Q (o::rest) a w)):wpList P ops Q (o::rest) a w:=h
structure Rsl where
 d:Dsl
 pA:OA
 pc:Nat
 rA:OA
 rc:Nat
 lA:OA
 lc:Nat
def rpC(r:Rp)(s:Rsl):Array VC:=#[.int .i64 r.d.sz,.slice s.d.a1 r.d.ss.length s.d.c1,.slice s.d.a2 r.d.pn.length s.d.c2,.int .i64 r.d.lf,.slice s.pA r.p.length s.pc,.slice s.rA r.rs.length s.rc,.slice s.lA r.lg.length s.lc]
def rpV(r:Rp)(s:Rsl):VC:= .agg (rpC r s)
structure RpM(w:VA)(B:Nat)(r:Rp)(s:Rsl):Prop where
 d:DkM w B r.d s.d
 p:Sl w B 3 s.pA r.p.length (flat itC r.p)
 rf:Sl w B 3 s.rA r.rs.length (flat rfC r.rs)
 l:Sl w B 5 s.lA r.lg.length (flat upC r.lg)
 pc:r.p.length<=s.pc
 pm:s.pc<=maxLen
theorem RpM.below{w w':VA}{B B':Nat}{r:Rp}{s:Rsl}(h:RpM w B r s)(hb:Below B' w w')(hB:B<=B'):RpM w' B r s:=⟨h.d.below hb hB,h.p.below hb hB,h.rf.below hb hB,h.l.below hb hB,h.pc,h.pm⟩
theorem RpM.more{w:VA}{B B':Nat}{r:Rp}{s:Rsl}(h:RpM w B r s)(hB:B<=B'):RpM w B' r s:=⟨h.d.more hB,h.p.more hB,h.rf.more hB,h.l.more hB,h.pc,h.pm⟩
def zRs:Rsl:=⟨⟨none,0,none,0⟩,none,0,none,0,none,0⟩
theorem RpM.zero(w:VA)(B:Nat):RpM w B zRp zRs:=⟨⟨Sl.nil _ _ _ _,Sl.nil _ _ _ _⟩,Sl.nil _ _ _ _,Sl.nil _ _ _ _,Sl.nil _ _ _ _,Nat.le_refl _,ZX _⟩
abbrev rzC:Array VC:=#[.int .i64 0,.slice none 0 0,.slice none 0 0,.int .i64 0,.slice none 0 0,.slice none 0 0,.slice none 0 0]
def fG(r:Rp)(x:Int)(w:VA)(e:Ending)(w':VA):Prop:=∃s,e= .returned (.tuple #[rpV r s,.int .i64 x])/\RpM w' w'.heap.size r s/\VE w w'
section
variable {w w' : VA} {b : Nat} {t : TypeId} {x0 x1 x2 x3 x4 x5 x6 : VC}
theorem Bk.seven(h:Bk w b t #[x0,x1,x2,x3,x4,x5,x6]): (w.cell? ⟨b,0,none⟩=some x0/\w.cell? ⟨b,1,none⟩=some x1/\w.cell? ⟨b,2,none⟩=some x2/\w.cell? ⟨b,3,none⟩=some x3)/\w.cell? ⟨b,4,none⟩=some x4/\w.cell? ⟨b,5,none⟩=some x5/\w.cell? ⟨b,6,none⟩=some x6:=by
 have c0:=h.cell 0;have c1:=h.cell 1;have c2:=h.cell 2;have c3:=h.cell 3;have c4:=h.cell 4;have c5:=h.cell 5;have c6:=h.cell 6;simp at c0 c1 c2 c3 c4 c5 c6;exact⟨⟨c0,c1,c2,c3⟩,c4,c5,c6⟩
theorem Bk.free7(h:Bk w b t #[x0,x1,x2,x3,x4,x5,x6]): (w.frozen? ⟨b,0,none⟩=false/\w.frozen? ⟨b,1,none⟩=false/\w.frozen? ⟨b,2,none⟩=false/\w.frozen? ⟨b,3,none⟩=false)/\w.frozen? ⟨b,4,none⟩=false/\w.frozen? ⟨b,5,none⟩=false/\w.frozen? ⟨b,6,none⟩=false :=
 ⟨⟨h.free 0,h.free 1,h.free 2,h.free 3⟩,h.free 4,h.free 5,h.free 6⟩
theorem Bk.at_{cs:Array VC}{b':Nat}(h:Bk w b t cs)(e:b=b'):Bk w b' t cs:=e ▸ h
theorem Bk.set7(h:Bk w b t #[x0,x1,x2,x3,x4,x5,x6])(y0 y1 y2 y3 y4 y5 y6:VC) :
  Bk (((((((w.setCell ⟨b,0,none⟩ y0).setCell ⟨b,1,none⟩ y1).setCell ⟨b,2,none⟩ y2).setCell ⟨b,3,none⟩ y3).setCell ⟨b,4,none⟩ y4).setCell ⟨b,5,none⟩ y5).setCell ⟨b,6,none⟩ y6) b t #[y0,y1,y2,y3,y4,y5,y6]:=by
 have:=((((((h.set 0 y0).set 1 y1).set 2 y2).set 3 y3).set 4 y4).set 5 y5).set 6 y6
 simpa using this
theorem dQ{B:Nat}{w0:VA}(h:Below B w0 w)(hb:B<=b)(y0 y1 y2 y3 y4 y5 y6:VC) :
  Below B w0 (((((((w.setCell ⟨b,0,none⟩ y0).setCell ⟨b,1,none⟩ y1).setCell ⟨b,2,none⟩ y2).setCell ⟨b,3,none⟩ y3).setCell ⟨b,4,none⟩ y4).setCell ⟨b,5,none⟩ y5).setCell ⟨b,6,none⟩ y6) :=
 ((((((h.setCell (p:=⟨b,0,none⟩) hb y0).setCell (p:=⟨b,1,none⟩) hb y1).setCell (p:=⟨b,2,none⟩) hb y2).setCell (p:=⟨b,3,none⟩) hb y3).setCell (p:=⟨b,4,none⟩) hb y4).setCell (p:=⟨b,5,none⟩) hb y5).setCell (p:=⟨b,6,none⟩) hb y6
theorem iM(w:VA)(b:Nat)(y0 y1 y2 y3 y4 y5 y6:VC)(k:Nat)(hk:k≠b) :
  (((((((w.setCell ⟨b,0,none⟩ y0).setCell ⟨b,1,none⟩ y1).setCell ⟨b,2,none⟩ y2).setCell ⟨b,3,none⟩ y3).setCell ⟨b,4,none⟩ y4).setCell ⟨b,5,none⟩ y5).setCell ⟨b,6,none⟩ y6).heap[k]? =w.heap[k]? :=by
 exact(Z8 _ ⟨b,6,none⟩ y6 k hk).trans ((Z8 _ ⟨b,5,none⟩ y5 k hk).trans ((Z8 _ ⟨b,4,none⟩ y4 k hk).trans ((Z8 _ ⟨b,3,none⟩ y3 k hk).trans ((Z8 _ ⟨b,2,none⟩ y2 k hk).trans ((Z8 _ ⟨b,1,none⟩ y1 k hk).trans (Z8 _ ⟨b,0,none⟩ y0 k hk))))))
def bxV:VC->Bool
 | .slice _ _ _=>true
 | .int _ _=>true
 | _=>false
theorem Sl.off{B size n:Nat}{A:OA}{xs:List VC}{cs:Array VC}(h:Sl w B size A n xs)(hk:Bk w b t cs)(hc:cs.all bxV=true)(hx:0<n->∃(j:Nat)(v:VC),xs[j]? =some v/\bxV v=false)(hw:∀k,k≠b->w'.heap[k]? =w.heap[k]?):Sl w' B size A n xs :=
 h.avoid fun g off e hn hcc=>hw g fun e2=>by
  subst e2;obtain⟨j,v,hv,hf⟩:=hx hn;have:=hcc j v hv;rw[hk.cell]at this;have hm:=Array.all_eq_true.1 hc (off+j) (Array.getElem?_eq_some_iff.1 this).1;rw[(Array.getElem?_eq_some_iff.1 this).2,hf]at hm;cases hm
theorem kR{α:Type}{enc:α->List VC}{k:Nat}(hl:∀a,(enc a).length=k)(l:List α)(i j:Nat)(a:α)(v:VC)(ha:l[i]? =some a)(hv: (enc a)[j]? =some v)(hj:j<k): (flat enc l)[i*k+j]? =some v:=by
 rw[iJ hl l i j a ha hj];exact hv
theorem RpM.box{B:Nat}{r:Rp}{s:Rsl}{cs:Array VC}(h:RpM w B r s)(hk:Bk w b t cs)(hc:cs.all bxV=true)(hw:∀k,k≠b->w'.heap[k]? =w.heap[k]?):RpM w' B r s:=by
 have get:∀{α:Type}(l:List α),0<l.length->∃a,l[0]? =some a:=fun l hl=>⟨_,Z5 hl⟩
 refine⟨⟨h.d.ss.off hk hc (fun hn=>?_) hw,h.d.pn.off hk hc (fun hn=>?_) hw⟩,h.p.off hk hc (fun hn=>?_) hw,h.rf.off hk hc (fun hn=>?_) hw,h.l.off hk hc (fun hn=>?_) hw,h.pc,h.pm⟩
 . obtain⟨a,ha⟩:=get _ hn
   exact⟨_,_,kR dJ _ 0 0 a _ ha rfl (by omega),rfl⟩
 . obtain⟨a,ha⟩:=get _ hn
   exact⟨_,_,kR uq _ 0 1 a _ ha rfl (by omega),rfl⟩
 . obtain⟨a,ha⟩:=get _ hn
   exact⟨_,_,kR dD _ 0 2 a _ ha rfl (by omega),rfl⟩
 . obtain⟨a,ha⟩:=get _ hn
   exact⟨_,_,kR jg _ 0 0 a _ ha rfl (by omega),rfl⟩
 . obtain⟨a,ha⟩:=get _ hn
   exact⟨_,_,kR gz _ 0 0 a _ ha rfl (by omega),rfl⟩
theorem vX(w:VA)(b:Nat)(y0 y1 y2 y3:VC)(k:Nat)(hk:k≠b): ((((w.setCell ⟨b,0,none⟩ y0).setCell ⟨b,1,none⟩ y1).setCell ⟨b,2,none⟩ y2).setCell ⟨b,3,none⟩ y3).heap[k]? =w.heap[k]? :=
 (Z8 _ ⟨b,3,none⟩ y3 k hk).trans ((Z8 _ ⟨b,2,none⟩ y2 k hk).trans ((Z8 _ ⟨b,1,none⟩ y1 k hk).trans (Z8 _ ⟨b,0,none⟩ y0 k hk)))
theorem eP{fn:Func}{c i:Tmp}(h:fn.results= #[.cell c 35,.tmp i]){a:Array VC}{v:VC}(h1:a[c]?.getD undef= .pointer (some ⟨b,0,none⟩))(hk:Bk w b 35 #[x0,x1,x2,x3,x4,x5,x6])(hv:a[i]?.getD undef=v) :
  (results fn a).run Tryz.prog w= .ok (.tuple #[.agg #[x0,x1,x2,x3,x4,x5,x6],v]) w:=by
 obtain⟨⟨k0,k1,k2,k3⟩,k4,k5,k6⟩:=hk.seven;simp[results,h,h1,hv,go_sem,k0,k1,k2,k3,k4,k5,k6]
end
theorem C9(r r2:Rp)(s s2:Rsl)(d:Dk)(q:Dsl)(x:Int)(w:VA) :
  Calls Tryz.prog 50 #[rpV r s,rpV r2 s2,dkV d q,.int .i64 x] w fun e w'=>e= .returned (.tuple #[if x=0 then rpV {r2 with d:=d} {s2 with d:=q} else if x=20 then rpV {r with d:=d} {s with d:=q} else rpV zRp zRs,.int .i64 x])/\VE w w':=by
 obtain⟨d1,p1,rs1,lg1⟩:=r;obtain⟨d2,p2,rs2,lg2⟩:=r2;simp only[rpV,rpC,dkV,dkC,zRp,zRs];obtain⟨n1,h1⟩:=NX9 d1.ss.length
 obtain⟨n2,h2⟩:=NX9 d1.pn.length
 obtain⟨n3,h3⟩:=NX9 p1.length
 obtain⟨n4,h4⟩:=NX9 rs1.length
 obtain⟨n5,h5⟩:=NX9 lg1.length
 obtain⟨m1,g1⟩:=NX9 d2.ss.length
 obtain⟨m2,g2⟩:=NX9 d2.pn.length
 obtain⟨m3,g3⟩:=NX9 p2.length
 obtain⟨m4,g4⟩:=NX9 rs2.length
 obtain⟨m5,g5⟩:=NX9 lg2.length
 obtain⟨k1,f1⟩:=NX9 d.ss.length
 obtain⟨k2,f2⟩:=NX9 d.pn.length
 simp only[h1,h2,h3,h4,h5,g1,g2,g3,g4,g5,f1,f2];clear h1 h2 h3 h4 h5 g1 g2 g3 g4 g5 f1 f2
 go_enter Tryz.func50,Tryz.ntmps50
 by_cases e0:x=0
 . subst e0
   go_wp2
   exact ZW (eP Tryz.results50 rfl ((Bk.new _ _ _).at_ (by simp)) rfl) rfl ⟨rfl,((((ah _ w).alloc aj _).alloc (by simp) _).alloc (by simp;omega) _).alloc (by simp;omega) _⟩
 . rw[if_neg e0]
   have e1: (x == 0)=false:=by simpa using e0
   by_cases e2:x=20
   . subst e2
     go_wp2
     exact ZW (eP Tryz.results50 rfl ((Bk.new _ _ _).at_ (by simp)) rfl) rfl ⟨rfl,((((ah _ w).alloc aj _).alloc (by simp) _).alloc (by simp;omega) _).alloc (by simp;omega) _⟩
   . rw[if_neg e2]
     have e3: (x == 20)=false:=by simpa using e2
     clear e0 e2
     go_wp2
     exact ZW (eP Tryz.results50 rfl ((Bk.new _ _ _).at_ (by simp)) rfl) rfl ⟨rfl,((((ah _ w).alloc aj _).alloc (by simp) _).alloc (by simp;omega) _).alloc (by simp;omega) _⟩
abbrev Pla:=Dig×VB
structure WkS where
 ne:Dig->Bool
 ed:Dig->Bool
 me:Pla->Bool
 op:List Pla
 wr:Bool
def setB{α:Type}[DecidableEq α](f:α->Bool)(x:α):α->Bool:=fun y=>decide (y=x) || f y
theorem setB_true{α:Type}[DecidableEq α]{f:α->Bool}{x y:α}:setB f x y=true↔y=x∨f y=true:=by simp[setB]
instance (a b:VD):Decidable (a <+: b):=decidable_of_iff (a.isPrefixOf b=true) List.isPrefixOf_iff_prefix
section
variable (p : List Itm) (com : Dig -> Bool) (pre : VB)
end
section
variable {p : List Itm} {com : Dig -> Bool} {pre : VB} {hs : List Dig} {stop : Dig -> Prop} {dep : Int}
end
section
variable {p : List Itm} {hs : List Dig} {stop : Dig -> Prop} {n j : Nat} {level next : List Dig} {pre : List (Dig × Nat)} {d : Dig}
theorem tH{α:Type}[DecidableEq α]{l m:List α}(h:l.Nodup)(hs:∀x∈l,x∈m):l.length<=m.length:=by
 induction l generalizing m with
 | nil=>simp
 | cons a l ih =>
   have h1:=List.nodup_cons.1 h;have h2:=ih (m:=m.erase a) h1.2 fun x hx=>(List.mem_erase_of_ne (fun e=>h1.1 (by rw[<-e];exact hx))).2 (hs x (List.mem_cons_of_mem _ hx));have h3:=List.length_erase_of_mem (hs a (by simp));have h4:0<m.length:=List.length_pos_of_mem (hs a (by simp));rw[Z4];omega
variable {dep : Int}
end
section
open Go.Maps
structure KeyE{α:Type}(P:Program)(k:TypeId)(enc:α->VC)(sb:α->List UInt8)(ok:α->Prop):Prop where
 law:WideMaps.KeyLaw P k
 of:∀a,ok a->keyOf P k (enc a)=some (.string (sb a))
 inv:∀v l,keyOf P k v=some l->∃a,ok a/\v=enc a
 inj:∀a b,enc a=enc b->a=b
theorem KeyE.sb_inj{α:Type}{P:Program}{k:TypeId}{enc:α->VC}{sb:α->List UInt8}{ok:α->Prop}(E:KeyE P k enc sb ok){a b:α}(ha:ok a)(hb:ok b)(h:sb a=sb b):a=b :=
 E.inj _ _ (E.law.inj (E.of a ha) (by rw[h];exact E.of b hb))
theorem KeyE.lit_ne{α:Type}{P:Program}{k:TypeId}{enc:α->VC}{sb:α->List UInt8}{ok:α->Prop}(E:KeyE P k enc sb ok){a b:α}(ha:ok a)(hb:ok b)(h:a≠b):Lit.string (sb a)≠ .string (sb b) :=
 fun e=>h (E.sb_inj ha hb (by injection e))
def Gm{α:Type}(w:VA)(P:Program)(k:TypeId)(sb:α->List UInt8)(ok:α->Prop)(b N:Nat)(g:α->Option VC):Prop :=
 ∃D:DataW VC,w.ownsMap P k jl b N D/\∀a,ok a->Maps.has D (.string (sb a))= (g a).isSome/\∀z,D.atKey (.string (sb a)) (.held z)= .held ((g a).getD z)
def jQ{α:Type}[DecidableEq α](g:α->Option VC)(s:α)(v:VC):α->Option VC:=fun t=>if t=s then some v else g t
theorem Oa{α:Type}[DecidableEq α](g:α->Option VC)(s:α)(v:VC):jQ g s v s=some v:=by simp[jQ]
theorem Nl{α:Type}[DecidableEq α](g:α->Option VC){s t:α}(v:VC)(h:t≠s):jQ g s v t=g t:=by simp[jQ,h]
section
variable {α : Type} [DecidableEq α] {w w' : VA} {P : Program} {k t e : TypeId} {enc : α -> VC} {sb : α -> List UInt8} {ok : α -> Prop} {b N : Nat} {g : α -> Option VC}
omit [DecidableEq α] in
theorem Gm.made(w:VA)(P:Program)(k:TypeId)(sb:α->List UInt8)(ok:α->Prop):Gm (w.alloc (.map #[] 0)) P k sb ok w.heap.size 0 (fun _=>none) :=
 ⟨.map [],World.ownsMap_made w P k jl,fun _ _=>⟨rfl,fun _=>rfl⟩⟩
omit [DecidableEq α] in
theorem Gm.lt(h:Gm w P k sb ok b N g):b<w.heap.size:=h.choose_spec.1.lt
omit [DecidableEq α] in
theorem Gm.kept{row:Option Nat}(h:Gm w P k sb ok b N g)(hg:w.grownBy w' row)(hr:some b≠row):Gm w' P k sb ok b N g:=by
 obtain⟨D,h1,h2⟩:=h;exact⟨D,h1.kept hg hr,h2⟩
omit [DecidableEq α] in
theorem Gm.block(h:Gm w P k sb ok b N g)(hb:w'.heap[b]? =w.heap[b]?):Gm w' P k sb ok b N g:=by
 obtain⟨D,⟨es,clock,h1,h2⟩,h3⟩:=h;exact⟨D,⟨es,clock,hb.trans h1,h2⟩,h3⟩
omit [DecidableEq α] in
theorem Gm.below{B:Nat}(h:Gm w P k sb ok b N g)(hb:Below B w w')(hB:b<B):Gm w' P k sb ok b N g:=h.block (hb.block b hB)
omit [DecidableEq α] in
theorem Gm.look(h:Gm w P k sb ok b N g)(E:KeyE P k enc sb ok)(ht:P.underlying t=some (.map k e)){z:VC}(hz: (zeroValue e).run P w= .ok z w){s:α}(hs:ok s) :
  (Instr.lookup t (.map (some b)) (enc s) false).run P w= .ok ((g s).getD z) w:=by
 obtain⟨D,h1,h2⟩:=h;obtain⟨v,ps,hrun,hv⟩:=h1.lookup (Keyed.of_law E.law) ht hz (zd:= .held z) (zp:= []) rfl (E.of s hs);rw[(h2 s hs).2 z]at hv;rw[hrun,tK hv]
omit [DecidableEq α] in
theorem Gm.look_ok(h:Gm w P k sb ok b N g)(E:KeyE P k enc sb ok)(ht:P.underlying t=some (.map k e)){z:VC}(hz: (zeroValue e).run P w= .ok z w){s:α}(hs:ok s) :
  (Instr.lookup t (.map (some b)) (enc s) true).run P w= .ok (.tuple #[(g s).getD z,.bool (g s).isSome]) w:=by
 obtain⟨D,h1,h2⟩:=h;obtain⟨v,ps,hrun,hv⟩:=h1.look_ok (Keyed.of_law E.law) ht hz (zd:= .held z) (zp:= []) rfl (E.of s hs);rw[(h2 s hs).2 z]at hv;rw[hrun,tK hv,(h2 s hs).1]
theorem Gm.put(h:Gm w P k sb ok b N g)(E:KeyE P k enc sb ok)(ht:P.underlying t=some (.map k e))(hn:N<maxLen){s:α}(hs:ok s)(v:VC) :
  ∃w',(Instr.mapUpdate t (.map (some b)) (enc s) v).run P w= .ok () w'/\Gm w' P k sb ok b (N+1) (jQ g s v)/\w.grownBy w' (some b):=by
 obtain⟨D,h1,h2⟩:=h;obtain⟨w',hrun,ho,hg⟩:=h1.update (Keyed.of_law E.law) ht hn (E.of s hs) (d:= .held v) (ps:= []) rfl;refine⟨w',hrun,⟨_,ho,fun r hr=>?_⟩,hg⟩;have hkl:=(Keyed.of_law E.law).key (E.of s hs);by_cases hrs:r=s
 . subst hrs
   rw[Oa,has_put_same h1.isMap hkl];exact⟨rfl,fun z=>atKey_put_same h1.isMap hkl _ _⟩
 . rw[Nl _ _ hrs,has_put_other (E.lit_ne hr hs hrs)]
   exact⟨(h2 r hr).1,fun z=>(atKey_put_other (E.lit_ne hr hs hrs) _ _).trans ((h2 r hr).2 z)⟩
theorem Be{ops:Array Oper}{rest:List Oper}{o:Oper}{a:Act}{Q:Exit->Act->VA->Prop}(hgd:o.guard=none)(m x y:Operand)(t:TypeId)(hop:o.op=Op.mapUpdate t m x y)
  (k e:TypeId) (E:KeyE P k enc sb ok) (ht:P.underlying t=some (.map k e)) (b N:Nat) (g:α->Option VC) (hm:a.eval m= .map (some b)) (h:Gm w P k sb ok b N g) (hn:N<maxLen)
  (s:α) (hs:ok s) (v:VC) (hx:a.eval x=enc s) (hy:a.eval y=v)
  (hK:∀w',Gm w' P k sb ok b (N+1) (jQ g s v)->w.grownBy w' (some b)->wpList P ops Q rest (a.put o.dst undef) w'):wpList P ops Q (o::rest) a w:=by
 refine wpList_plain hgd fun K' hK'=>?_;obtain⟨w',hrun,r1,r2⟩:=h.put E ht hn hs v;unfold Oper.wp;simp[execOp,hop,hm,hx,hy,hrun,Result.andThen];exact hK' _ _ (hK w' r1 r2)
/-! ### ranging -/
def GmR(w:VA)(P:Program)(k:TypeId)(sb:α->List UInt8)(ok:α->Prop)(b r N:Nat)(g:α->Option VC)(left:α->Bool)(cnt:Nat):Prop :=
 ∃(D:DataW VC)(lf:Lit->Bool),w.ranges P k jl b r N D lf cnt/\ (∀a,ok a->Maps.has D (.string (sb a))= (g a).isSome/\∀z,D.atKey (.string (sb a)) (.held z)= .held ((g a).getD z))/\∀a,ok a->lf (.string (sb a))=left a
variable {r cnt : Nat} {left : α -> Bool}
omit [DecidableEq α] in
theorem GmR.kept{row:Option Nat}(h:GmR w P k sb ok b r N g left cnt)(hg:w.grownBy w' row)(hb:some b≠row)(hr:some r≠row):GmR w' P k sb ok b r N g left cnt:=by
 obtain⟨D,lf,⟨es,clock,since,seen,c0,h1,F,hs,hD,h3,h4⟩,h2,h5⟩:=h;exact⟨D,lf,⟨es,clock,since,seen,c0,(hg.block b (Array.getElem?_eq_some_iff.1 h1).1 hb).trans h1,F,hs,hD,(hg.block r (Array.getElem?_eq_some_iff.1 h3).1 hr).trans h3,h4⟩,h2,h5⟩
omit [DecidableEq α] in
theorem GmR.blocks(h:GmR w P k sb ok b r N g left cnt)(hb:w'.heap[b]? =w.heap[b]?)(hr:w'.heap[r]? =w.heap[r]?):GmR w' P k sb ok b r N g left cnt:=by
 obtain⟨D,lf,⟨es,clock,since,seen,c0,h1,F,hs,hD,h3,h4⟩,h2,h5⟩:=h;exact⟨D,lf,⟨es,clock,since,seen,c0,hb.trans h1,F,hs,hD,hr.trans h3,h4⟩,h2,h5⟩
omit [DecidableEq α] in
theorem GmR.below{B:Nat}(h:GmR w P k sb ok b r N g left cnt)(hw:Below B w w')(hb:b<B)(hr:r<B):GmR w' P k sb ok b r N g left cnt:=h.blocks (hw.block b hb) (hw.block r hr)
omit [DecidableEq α] in
theorem JF{ops:Array Oper}{rest:List Oper}{o:Oper}{a:Act}{Q:Exit->Act->VA->Prop}(hgd:o.guard=none)(m:Operand)(t:TypeId)(hop:o.op=Op.range t m)
  (k e:TypeId) (E:KeyE P k enc sb ok) (ht:P.underlying t=some (.map k e)) (b N:Nat) (g:α->Option VC) (hm:a.eval m= .map (some b)) (h:Gm w P k sb ok b N g)
  (hK:∀w' cnt,GmR w' P k sb ok b w.heap.size N g (fun s=>(g s).isSome) cnt->w.grownBy w' none->w'.heap.size=w.heap.size+1->wpList P ops Q rest (a.put o.dst (.pointer (some ⟨w.heap.size,0,none⟩))) w'):wpList P ops Q (o::rest) a w:=by
 obtain⟨D,h1,h2⟩:=h;refine wpList_range_own w hgd m t hop k e (Keyed.of_law E.law) ht jl b N D hm h1 (fun w' h3 h4 h5=>hK w' _ ⟨D,_,h3,h2,fun s hs=>(h2 s hs).1⟩ h4 h5)
theorem RZ(E:KeyE P k enc sb ok){s z:α}(hs:ok s)(hz:ok z): (Lit.string (sb z)).sameKey (.string (sb s))=decide (z=s):=by
 rw[BX];by_cases h:z=s
 . subst h;simp
 . simp only[h,decide_false]
   rw[beq_eq_false_iff_ne];exact fun e=>h (E.sb_inj hz hs e)
theorem JJ{ops:Array Oper}{rest:List Oper}{o:Oper}{a:Act}{Q:Exit->Act->VA->Prop}(hgd:o.guard=none)(it:Operand)(hop:o.op=Op.next it false)
  (k:TypeId) (E:KeyE P k enc sb ok) (b r N:Nat) (g:α->Option VC) (left:α->Bool) (cnt:Nat) (hit:a.eval it= .pointer (some ⟨r,0,none⟩)) (h:GmR w P k sb ok b r N g left cnt)
  (hDone: (∀s,ok s->left s=false)->wpList P ops Q rest (a.put o.dst (.tuple #[.bool false])) w)
  (hMore:∀(s:α)(v:VC)(w':VA)(cnt':Nat),ok s->left s=true->g s=some v->GmR w' P k sb ok b r N g (fun z=>left z && !decide (z=s)) cnt'->cnt'<cnt->w.grownBy w' (some r)->w'.heap.size=w.heap.size ->
    (Instr.entry (.pointer (some ⟨r,0,none⟩))).run P w'= .ok (.tuple #[enc s,v]) w'->wpList P ops Q rest (a.put o.dst (.tuple #[.bool true,enc s,v])) w'):wpList P ops Q (o::rest) a w:=by
 obtain⟨D,lf,h1,h2,h3⟩:=h;refine wpList_next_ranges (α:={a:α // ok a}) (β:=VC) w hgd it hop k (Keyed.of_law E.law) jl (fun s=>enc s.1) id (fun key kl hkey=>?_) (fun v y _=>⟨v,rfl⟩) b r N D lf cnt hit h1
  (fun _ hl=>hDone fun s hs=>by rw[<-h3 s hs];exact hl _) (fun s v kl y w' cnt' hkey hlk hv hat hrg hlt hgr hsz hen=>?_)
 . obtain⟨a,ha,e⟩:=E.inv _ _ hkey;exact⟨⟨a,ha⟩,e⟩
 . obtain⟨s,hs⟩:=s
   have e2:kl= .string (sb s):=by rw[E.of s hs]at hkey;cases hkey;rfl
   subst e2;have hl:left s=true:=by rw[<-h3 s hs];exact hlk
   have hy:y= (.held v,[]):=by simp[jl]at hv;exact hv.symm
   subst hy;have hg1: (g s).isSome=true:=by rw[<-(h2 s hs).1];exact has_true_of_atKey hat
   obtain⟨u,hu⟩:=Option.isSome_iff_exists.1 hg1;have hg2:g s=some v:=by
    have e1:=(h2 s hs).2 v;rw[hat]at e1;rw[hu]at e1 ⊢;simp at e1;rw[e1]
   exact hMore s v w' cnt' hs hl hg2 ⟨D,_,hrg,h2,fun z hz=>by simp only[h3 z hz,RZ E hs hz]⟩ hlt hgr hsz hen
end
/-! ### digests as keys -/
def jT(d:Int×Int):List UInt8:=keyBytes [.int .u64 d.1,.int .u64 d.2]
def iy(d:Int×Int):Prop:=(Lit.int .u64 d.1).wf=true/\ (Lit.int .u64 d.2).wf=true
def dgV(d:Int×Int):VC:= .agg #[.int .u64 d.1,.int .u64 d.2]
theorem Ua{P:Program}{k e:TypeId}(A:WideMaps.ArrKey P k e 2)(he:P.underlying e=some (.int .u64))(hsz:∃m,P.types.size=m+1):KeyE P k dgV jT iy where
 law:=A.law
 of:=fun a ha=>WideMaps.keyOf_pair A he hsz ha.1 ha.2
 inv:=fun v l h=>by
  have hwide:=A.wide;obtain⟨xs,L,rfl,h1,_⟩:=Go.keyOf_top hwide h;obtain⟨m,hm⟩:=hsz;rw[hm]at h1;unfold Program.keyLits at h1;simp only[A.hu]at h1;split at h1
  . rename_i hl
    rw[A.size]at hl;obtain⟨xs⟩:=xs
    match xs,hl with
    | [c0,c1],_ =>
      rw[show List.range 2= [0,1] from rfl,List.mapM_cons,List.mapM_cons,List.mapM_nil]at h1;simp only[bind,Option.map_eq_some_iff,Option.bind_eq_some_iff,pure,Option.some.injEq,A.one]at h1;obtain⟨_,⟨y0,h0,_,⟨y1,h2,_,rfl,rfl⟩,rfl⟩,_⟩:=h1;have d:∀(c:VC)(y:List Lit),P.keyLits (m+1) e [c]=some y->∃x:Int,c= .int .u64 x/\ (Lit.int .u64 x).wf=true:=fun c y h=>by
       cases c <;> simp[Program.keyLits,he]at h
       obtain⟨⟨rfl,hw⟩,_⟩:=h;exact⟨_,rfl,hw⟩
      obtain⟨a,rfl,wa⟩:=d c0 _ h0;obtain⟨b,rfl,wb⟩:=d c1 _ h2;exact⟨(a,b),⟨wa,wb⟩,rfl⟩
  . cases h1
 inj:=fun a b h=>by
  unfold dgV at h;injection h with h;injection h with h;cases a;cases b
  simp at h;simp[h]
/-! ### a digest and a string as a key -/
def plOk(x: (Int×Int)×VB):Prop:=iy x.1/\x.2.size<=maxLen
end
section
open Go.Maps
theorem U0:Go.WideMaps.ArrKey Tryz.prog 50 48 2:=⟨Tryz.underlying50,by kernel_rfl,by kernel_rfl,by kernel_rfl⟩
theorem mg:KeyE Tryz.prog 50 dgV jT iy:=Ua U0 Tryz.underlying48 ⟨Tryz.prog.types.size - 1,by kernel_rfl⟩
theorem kS{d:Dig}(h:WfD d):iy d:=by
 obtain⟨h1,h2,h3,h4⟩:=h;have e:∀x:Int,0<=x->x<18446744073709551616-> (Lit.int .u64 x).wf=true:=fun x ha hb=>by
  show(decide (IntKind.u64.min<=x) && decide (x<=IntKind.u64.max))=true;rw[show IntKind.u64.min=0 from rfl,show IntKind.u64.max=18446744073709551615 from rfl,Bool.and_eq_true,decide_eq_true_iff,decide_eq_true_iff];omega
 exact⟨e _ h1 h2,e _ h3 h4⟩
def sv{α:Type}(s:α->Bool):α->Option VC:=fun d=>if s d=true then some (.bool true) else none
theorem TT{α:Type}(s:α->Bool)(d:α): (sv s d).getD (.bool false)= .bool (s d):=by
 unfold sv;cases s d <;> rfl
theorem Ie{α:Type}[DecidableEq α](s:α->Bool)(d:α):jQ (sv s) d (.bool true)=sv (setB s d):=by
 funext t
 unfold jQ sv setB;by_cases e:t=d
 . simp[e]
 . simp[e]
abbrev Sd(w:VA)(b N:Nat)(s:Dig->Bool):Prop:=Gm w Tryz.prog 50 jT iy b N (sv s)
theorem Sd.made(w:VA):Sd (w.alloc (.map #[] 0)) w.heap.size 0 (fun _=>false):=Gm.made w _ _ _ _
theorem Sd.look{w:VA}{b N:Nat}{s:Dig->Bool}{t:TypeId}(h:Sd w b N s)(ht:Tryz.prog.underlying t=some (.map 50 4)){d:Dig}(hd:iy d) :
  (Instr.lookup t (.map (some b)) (.agg #[.int .u64 d.1,.int .u64 d.2]) false).run Tryz.prog w= .ok (.bool (s d)) w:=by
 have:=Gm.look h mg ht (Tryz.zeroValue4 w) hd;rw[TT]at this;exact this
section
variable {w : VA} {ops : Array Oper} {rest : List Oper} {o : Oper} {a : Act} {Q : Exit -> Act -> VA -> Prop}
theorem AY(hgd:o.guard=none)(m x y:Operand)(t:TypeId)(hop:o.op=Op.mapUpdate t m x y)(ht:Tryz.prog.underlying t=some (.map 50 4))
  (b N:Nat) (s:Dig->Bool) (hm:a.eval m= .map (some b)) (h:Sd w b N s) (hn:N<maxLen) (d:Dig) (hd:iy d) (hx:a.eval x= .agg #[.int .u64 d.1,.int .u64 d.2]) (hy:a.eval y= .bool true)
  (hK:∀w',Sd w' b (N+1) (setB s d)->w.grownBy w' (some b)->wpList Tryz.prog ops Q rest (a.put o.dst undef) w'):wpList Tryz.prog ops Q (o::rest) a w :=
 Be hgd m x y t hop _ _ mg ht b N (sv s) hm h hn d hd _ hx hy (fun w' h1 h2=>hK w' (by show Gm _ _ _ _ _ _ _ (sv (setB s d));rw[<-Ie];exact h1) h2)
end
/-! ### places as keys -/
end
section
open Go.Maps
structure Wkb where
 b:Nat
 pA:OA
 pn:Nat
 pc:Nat
 pre:VB
 bc:Nat
 bn:Nat
 be:Nat
 bm:Nat
section
variable {base : Nat} {k : Wkb} {a b c : VA}
end
section
variable {w w' : VA} {base : Nat} {k : Wkb} {com : Dig -> Bool} {Nc N : Nat} {s : WkS}
end
section
variable {b : Nat} {x y z : VA}
end
end
section
open Go.Maps
end
section
open Go.Maps
theorem TS{α:Type}{w:VA}{P:Program}{k:TypeId}{sb:α->List UInt8}{ok:α->Prop}{b r N cnt:Nat}{g:α->Option VC}{left:α->Bool}(h:GmR w P k sb ok b r N g left cnt):cnt<=N:=by
 obtain⟨D,lf,⟨es,clock,since,seen,c0,h1,F,hs,hD,h3,_,h4,_⟩,_⟩:=h;rw[<-h4];refine ZY ?_ hs;unfold leftOf;exact Array.size_filter_le
theorem Rq{o:Ob}(h:OkO o):WfD o.tree:=by
 cases h.f with
 | blob _ _ c _=>rw[c.tree];exact l7
 | tree _ _ c _=>rw[c.tree];exact l7
 | commit _ _ _ c=>exact c.wf
theorem Dt{o:Ob}(h:OkO o):o.pars.length<=8/\∀d∈o.pars,WfD d:=by
 cases h.f with
 | blob _ _ c _=>rw[c.pars];exact⟨by simp,fun d h=>by cases h⟩
 | tree _ _ c _=>rw[c.pars];exact⟨by simp,fun d h=>by cases h⟩
 | commit _ _ _ c=>exact⟨c.pars.few,c.pars.wf⟩
section
variable {w w' : VA} {base : Nat} {k : Wkb} {com : Dig -> Bool} {Nc N : Nat} {s : WkS} {d : Dig}
end
end
section
open Go.Maps
theorem Qv{o:Ob}(h:OkO o):∀e∈o.ents,jh e:=by
 cases h.f with
 | blob _ e _ _=>rw[e];intro x hx;cases hx
 | tree _ _ _ e=>exact e.all
 | commit _ _ e _=>rw[e];intro x hx;cases hx
section
variable {p : List Itm} {hs : List Dig} {stop : Dig -> Prop} {dep : Int} {pre : VB} {s : WkS}
end
end
structure ReJ(p:List Itm)(rs:List Dig)(met:Dig->Bool)(rl rm op:List Dig)(d:Dig)(done:List Dig):Prop where
 l:∀d∈rl,d≠zD/\Rchd p rs d/\aC p d≠none
 m:∀d∈rm,d≠zD/\Rchd p rs d/\aC p d=none
 o:∀d∈op,Rchd p rs d
 me:∀d,met d=true↔d=zD∨d∈rl∨d∈rm
 ro:∀d∈rs,met d=true∨d∈op
 cl:∀e∈rl,∀o x,aC p e=some o->x∈df o-> (e=d->x∈done)->met x=true∨x∈op
 nl:rl.Nodup
 nm:rm.Nodup
structure ReI(p:List Itm)(rs:List Dig)(met:Dig->Bool)(rl rm op:List Dig):Prop where
 l:∀d∈rl,d≠zD/\Rchd p rs d/\aC p d≠none
 m:∀d∈rm,d≠zD/\Rchd p rs d/\aC p d=none
 o:∀d∈op,Rchd p rs d
 me:∀d,met d=true↔d=zD∨d∈rl∨d∈rm
 ro:∀d∈rs,met d=true∨d∈op
 cl:∀e∈rl,∀o x,aC p e=some o->x∈df o->met x=true∨x∈op
 nl:rl.Nodup
 nm:rm.Nodup
section
variable {p : List Itm} {rs rl rm op done : List Dig} {met : Dig -> Bool} {d x : Dig} {o : Ob}
theorem ReI.start(p:List Itm)(rs:List Dig):ReI p rs (setB (fun _=>false) zD) [] [] rs where
 l:=fun d h=>by cases h
 m:=fun d h=>by cases h
 o:=fun d h=> .root h
 me:=fun d=>by rw[setB_true];simp
 ro:=fun d h=> .inr h
 cl:=fun e h=>by cases h
 nl:=List.nodup_nil
 nm:=List.nodup_nil
theorem lQ{x d:Dig}(h:x∈op++ [d]):x∈op∨x=d:=by
 rcases List.mem_append.1 h with h | h
 . exact .inl h
 . exact .inr (List.mem_singleton.1 h)
theorem ReI.skip(h:ReI p rs met rl rm (op++ [d]))(hm:met d=true):ReI p rs met rl rm op where
 l:=h.l
 m:=h.m
 o:=fun x hx=>h.o x (List.mem_append_left _ hx)
 me:=h.me
 ro:=fun x hx=>(h.ro x hx).elim .inl fun h2=>(lQ h2).elim .inr fun e=> .inl (e ▸ hm)
 cl:=fun e he o x g hx=>(h.cl e he o x g hx).elim .inl fun h2=>(lQ h2).elim .inr fun e=> .inl (e ▸ hm)
 nl:=h.nl
 nm:=h.nm
theorem ReI.new(h:ReI p rs met rl rm (op++ [d]))(hm:met d=false):d≠zD/\d∉rl/\d∉rm/\Rchd p rs d:=by
 have h1:¬(d=zD∨d∈rl∨d∈rm):=fun h2=>by rw[(h.me d).2 h2]at hm;cases hm
 exact⟨fun e=>h1 (.inl e),fun e=>h1 (.inr (.inl e)),fun e=>h1 (.inr (.inr e)),h.o d (List.mem_append_right _ (List.mem_singleton.2 rfl))⟩
theorem ReI.miss(h:ReI p rs met rl rm (op++ [d]))(hm:met d=false)(hg:aC p d=none):ReI p rs (setB met d) rl (rm++ [d]) op:=by
 obtain⟨n1,n2,n3,n4⟩:=h.new hm;have up:∀{x},met x=true∨x∈op++ [d]->setB met d x=true∨x∈op:=fun h2=>h2.elim (fun h3=> .inl (setB_true.2 (.inr h3))) fun h3=>(lQ h3).elim .inr fun e=> .inl (setB_true.2 (.inl e));refine⟨h.l,fun x hx=>?_,fun x hx=>h.o x (List.mem_append_left _ hx),fun x=>?_,fun x hx=>up (h.ro x hx),fun e he o x g hx=>up (h.cl e he o x g hx),h.nl,?_⟩
 . rcases List.mem_append.1 hx with hx | hx
   . exact h.m x hx
   . rw[List.mem_singleton.1 hx];exact⟨n1,n4,hg⟩
 . rw[setB_true,h.me,List.mem_append,ae]
   constructor
   . rintro (e | e | e | e)
     . exact .inr (.inr (.inr e))
     . exact .inl e
     . exact .inr (.inl e)
     . exact .inr (.inr (.inl e))
   . rintro (e | e | e | e)
     . exact .inr (.inl e)
     . exact .inr (.inr (.inl e))
     . exact .inr (.inr (.inr e))
     . exact .inl e
 . exact List.nodup_append.2 ⟨h.nm,List.nodup_cons.2 ⟨by simp,List.nodup_nil⟩,fun a ha b hb e=>by rw[List.mem_singleton.1 hb]at e;exact n3 (e ▸ ha)⟩
theorem ReI.got(h:ReI p rs met rl rm (op++ [d]))(hm:met d=false)(hg:aC p d=some o):ReJ p rs (setB met d) (rl++ [d]) rm op d []:=by
 obtain⟨n1,n2,n3,n4⟩:=h.new hm;have up:∀{x},met x=true∨x∈op++ [d]->setB met d x=true∨x∈op:=fun h2=>h2.elim (fun h3=> .inl (setB_true.2 (.inr h3))) fun h3=>(lQ h3).elim .inr fun e=> .inl (setB_true.2 (.inl e));refine⟨fun x hx=>?_,h.m,fun x hx=>h.o x (List.mem_append_left _ hx),fun x=>?_,fun x hx=>up (h.ro x hx),fun e he o x g hx hd=>?_,?_,h.nm⟩
 . rcases List.mem_append.1 hx with hx | hx
   . exact h.l x hx
   . rw[List.mem_singleton.1 hx];exact⟨n1,n4,by rw[hg];simp⟩
 . rw[setB_true,h.me,List.mem_append,ae]
   constructor
   . rintro (e | e | e | e)
     . exact .inr (.inl (.inr e))
     . exact .inl e
     . exact .inr (.inl (.inl e))
     . exact .inr (.inr e)
   . rintro (e | (e | e) | e)
     . exact .inr (.inl e)
     . exact .inr (.inr (.inl e))
     . exact .inl e
     . exact .inr (.inr (.inr e))
 . rcases List.mem_append.1 he with he | he
   . exact up (h.cl e he o x g hx)
   . have:=hd (List.mem_singleton.1 he)
     cases this
 . exact List.nodup_append.2 ⟨h.nl,List.nodup_cons.2 ⟨by simp,List.nodup_nil⟩,fun a ha b hb e=>by rw[List.mem_singleton.1 hb]at e;exact n2 (e ▸ ha)⟩
theorem ReJ.pass(h:ReJ p rs met rl rm op d done)(hm:met x=true):ReJ p rs met rl rm op d (done++ [x]):=by
 refine⟨h.l,h.m,h.o,h.me,h.ro,fun e he o y g hy hd=>?_,h.nl,h.nm⟩;by_cases e2:y=x
 . exact .inl (e2 ▸ hm)
 . exact h.cl e he o y g hy fun e1=>(lQ (hd e1)).elim id fun e3=>absurd e3 e2
theorem ReJ.push(h:ReJ p rs met rl rm op d done)(hr:Rchd p rs x):ReJ p rs met rl rm (op++ [x]) d (done++ [x]):=by
 refine⟨h.l,h.m,fun y hy=>(lQ hy).elim (h.o y) (fun e=>e ▸ hr),h.me,fun y hy=>(h.ro y hy).elim .inl (fun h2=> .inr (List.mem_append_left _ h2)),fun e he o y g hy hd=>?_,h.nl,h.nm⟩;by_cases e2:y=x
 . exact .inr (by rw[e2];exact List.mem_append_right _ (List.mem_singleton.2 rfl))
 . exact(h.cl e he o y g hy fun e1=>(lQ (hd e1)).elim id fun e3=>absurd e3 e2).elim .inl fun h2=> .inr (List.mem_append_left _ h2)
theorem ReJ.fin(h:ReJ p rs met rl rm op d (df o))(hg:aC p d=some o):ReI p rs met rl rm op :=
 ⟨h.l,h.m,h.o,h.me,h.ro,fun e he o' x g hx=>h.cl e he o' x g hx fun e1=>by rw[e1,hg]at g;injection g with g;exact g ▸ hx,h.nl,h.nm⟩
theorem ReI.end_(hp:PlOk p)(h:ReI p rs met rl rm []){l m:List Dig}(hl:∀d,d∈l↔d∈rl)(hm:∀d,d∈m↔d∈rm)(hn:l.Nodup):uS p rs l m:=by
 have all:∀{d},Rchd p rs d->met d=true:=by
  intro d hd
  induction hd with
  | root hr=>exact(h.ro _ hr).elim id fun h2=>by cases h2
  | link _ g hx ih =>
    rcases (h.me _).1 ih with e | e | e
    . exact absurd e (qi hp g)
    . exact(h.cl _ e _ _ g hx).elim id fun h2=>by cases h2
    . have:=(h.m _ e).2.2;rw[g]at this;cases this
 refine⟨?_,?_,hn⟩
 . intro d
   rw[hl];constructor
   . exact h.l d
   . rintro ⟨h1,h2,h3⟩
     rcases (h.me d).1 (all h2) with e | e | e
     . exact absurd e h1
     . exact e
     . exact absurd (h.m d e).2.2 h3
 . intro d
   rw[hm];constructor
   . exact h.m d
   . rintro ⟨h1,h2,h3⟩
     rcases (h.me d).1 (all h2) with e | e | e
     . exact absurd e h1
     . exact absurd h3 (h.l d e).2.2
     . exact e
end
/-! ### bounds -/
noncomputable def reU(p:List Itm)(rs:List Dig):List Dig:=rs++p.flatMap fun i=>df (qW i.2)
theorem Sm{p:List Itm}{rs:List Dig}(hp:PlOk p){d x:Dig}{o:Ob}(g:aC p d=some o)(hx:x∈df o):x∈reU p rs:=by
 obtain⟨ho,hm⟩:=(iI hp).1 g;refine List.mem_append_right _ (List.mem_flatMap.2 ⟨_,hm,?_⟩);simp only;rw[tJ ho];exact hx
theorem yF{p:List Itm}{rs:List Dig}(hp:PlOk p){d:Dig}(h:Rchd p rs d):d∈reU p rs:=by
 cases h with
 | root h=>exact List.mem_append_left _ h
 | link _ g m=>exact Sm hp g m
theorem Dw{o:Ob}(h:OkO o): (df o).length<=209:=by
 unfold df;rw[af,List.length_map];cases h.f with
 | blob k e c _=>rw[e];rcases k with k | k <;> simp[k]
 | tree k _ _ e=>have:=e.few;simp[k];omega
 | commit k _ e c=>have:=c.pars.few;rw[e];simp[k];omega
theorem Qi{o:Ob}(h:OkO o):∀d∈df o,WfD d:=by
 intro d hd;unfold df at hd;rcases List.mem_append.1 hd with hd | hd
 . obtain⟨e,he,rfl⟩:=List.mem_map.1 hd
   exact(Qv h e he).dg
 . split at hd
   . rcases List.mem_cons.1 hd with rfl | hd
     . exact Rq h
     . exact(Dt h).2 d hd
   . cases hd
theorem yQ{p:List Itm}{rs:List Dig}(hp:PlOk p)(hr:∀d∈rs,WfD d){d:Dig}(h:Rchd p rs d):WfD d:=by
 cases h with
 | root h=>exact hr d h
 | link _ g m=>exact Qi (G7 hp g) d m
theorem CS{α β:Type}{f:α->List β}{n:Nat}:∀{l:List α},(∀x∈l,(f x).length<=n)-> (l.flatMap f).length<=l.length*n
 | [],_=>by simp
 | a::l,h=>by
   have h1:=h a (by simp);have h2:=CS (l:=l) (f:=f) (n:=n) fun x hx=>h x (by simp[hx]);rw[List.flatMap_cons,af,Z4,Nat.add_mul];omega
def qM(U:List Dig)(met:Dig->Bool):Nat:=U.countP fun d=>!met d
theorem Ip{f g:Dig->Bool}:∀{U:List Dig},(∀x,g x=true->f x=true)->U.countP g<=U.countP f
 | [],_=>by simp
 | a::U,h=>by
   have ih:=Ip (U:=U) h;rw[List.countP_cons,List.countP_cons];by_cases ha:g a=true
   . rw[if_pos ha,if_pos (h a ha)];omega
   . rw[if_neg ha];omega
theorem IG{f g:Dig->Bool}{d:Dig}(hf:f d=true)(hg:g d=false):∀{U:List Dig},(∀x,g x=true->f x=true)->d∈U->U.countP g+1<=U.countP f
 | [],_,hd=>by cases hd
 | a::U,h,hd=>by
   rw[List.countP_cons,List.countP_cons];rcases List.mem_cons.1 hd with rfl | hd
   . have:=Ip (U:=U) h
     rw[if_pos hf,if_neg (by rw[hg];simp)];omega
   . have ih:=IG hf hg h hd
     by_cases ha:g a=true
     . rw[if_pos ha,if_pos (h a ha)];omega
     . rw[if_neg ha];omega
theorem LZ{U:List Dig}{met:Dig->Bool}{d:Dig}(hd:d∈U)(hm:met d=false):qM U (setB met d)+1<=qM U met:=by
 unfold qM;refine IG (d:=d) (by simp[hm]) (by simp[setB]) (fun x hx=>?_) hd;simp[setB]at hx ⊢;exact hx.2
theorem QF(U:List Dig)(met:Dig->Bool):qM U met<=U.length:=List.countP_le_length
theorem kT(l:List Dig):∀u∈flat dgC l,u.oneCell'=true:=fun u hu=>by
 unfold flat at hu;obtain⟨i,_,h⟩:=List.mem_flatMap.1 hu;simp[dgC]at h;rcases h with rfl | rfl <;> rfl
section
open Go.RowKit Go.Shelf
def dw:List UInt8->Nat
 | []=>0
 | c::r=>if c=47 then 0 else dw r+1
theorem wU:∀{l:List UInt8}{k:Nat},(∀j,j<k->l[j]? ≠some 47)->k<=l.length-> (k=l.length∨l[k]? =some 47)->dw l=k
 | [],k,_,h,_=>by simp at h;simp[dw,h]
 | c::r,0,_,_,h3=>by
   rcases h3 with h3 | h3
   . simp at h3
   . simp at h3;simp[dw,h3]
 | c::r,k+1,h1,h2,h3=>by
   have hc:c≠47:=fun e=>h1 0 (by omega) (by simp[e]);simp only[dw,if_neg hc];rw[wU (k:=k) (fun j hj=>by have:=h1 (j+1) (by omega);simpa using this) (by simp at h2;omega) (by
    rcases h3 with h3 | h3
    . left;simp at h3;omega
    . right;simpa using h3)]
theorem Bg:∀(l:List UInt8),bI l=if dw l<l.length then l.take (dw l)::bI (l.drop (dw l+1)) else [l]
 | []=>rfl
 | c::r=>by
   by_cases hc:c=47
   . subst hc;simp[bI,dw]
   . have ih:=Bg r
     simp only[bI,dw,if_neg hc];rw[ih];by_cases h:dw r<r.length
     . rw[if_pos h,if_pos (by simp;exact h)];simp
     . rw[if_neg h,if_neg (by simp;omega)]
end
section
open Go.RowKit Go.Shelf
def vw(s a b:VB)(m:Bool):Prop :=
 (dw (bl s)<s.size/\a=s.extract 0 (dw (bl s))/\b=s.extract (dw (bl s)+1) s.size/\m=true)∨ (dw (bl s)=s.size/\a=s/\b= ⟨#[]⟩/\m=false)
def IL(s:VB)(w:VA)(e:Ending)(w':VA):Prop:=∃a b m,e= .returned (.tuple #[.string a,.string b,.bool m])/\vw s a b m/\VE w w'
end
section
open Go.Maps
def upB:Option VB->VB->Bool
 | none,_=>true
 | some q,s=>less q s
def gp:Option VB->List Fl->Int
 | _,[]=>0
 | p,f::r=>if dh f.1=true then(if upB p f.1=true then gp (some f.1) r else 10) else 6
def jB(fs:List Fl)(k:Nat):Option VB:=if k=0 then none else(fs[k - 1]?).map Prod.fst
theorem Tn{fs:List Fl}{k:Nat}{f:Fl}(h:fs[k]? =some f):gp (jB fs k) (fs.drop k)=if dh f.1=true then(if upB (jB fs k) f.1=true then gp (jB fs (k+1)) (fs.drop (k+1)) else 10) else 6:=by
 have hp:jB fs (k+1)=some f.1:=by unfold jB;rw[if_neg (by omega),Nat.add_sub_cancel,h];rfl
 rw[List.drop_eq_getElem_cons (List.getElem?_eq_some_iff.1 h).1,(List.getElem?_eq_some_iff.1 h).2,gp,hp]
def jC(ps:List VB)(s:VB)(k:Nat):Bool:=decide ((bl s)[k]? =some 47) && iH ps (s.extract 0 k)
def vg(fs:List Fl):Prop:=∃f∈fs,∃j,j<f.1.size/\jC (fs.map Prod.fst) f.1 j=true
def TckR(fs:List Fl)(err:Int):Prop :=
 (200<fs.length/\err=4)∨ (fs.length<=200/\gp none fs≠0/\err=gp none fs)∨ (fs.length<=200/\gp none fs=0/\ ((vg fs/\err=7)∨ (¬vg fs/\err=0)))
theorem TckR.same{fs:List Fl}{e f:Int}(h:TckR fs e)(g:TckR fs f):e=f:=by
 rcases h with ⟨h1,h2⟩ | ⟨h1,h2,h3⟩ | ⟨h1,h2,h3⟩
 . rcases g with ⟨_,g2⟩ | ⟨g1,_⟩ | ⟨g1,_⟩
   . rw[h2,g2]
   . omega
   . omega
 . rcases g with ⟨g1,_⟩ | ⟨_,_,g3⟩ | ⟨_,g2,_⟩
   . omega
   . rw[h3,g3]
   . exact absurd g2 h2
 . rcases g with ⟨g1,_⟩ | ⟨_,g2,_⟩ | ⟨_,_,g3⟩
   . omega
   . exact absurd h2 g2
   . rcases h3 with ⟨h3,h4⟩ | ⟨h3,h4⟩
     . rcases g3 with ⟨_,g4⟩ | ⟨g3,_⟩
       . rw[h4,g4]
       . exact absurd h3 g3
     . rcases g3 with ⟨g3,_⟩ | ⟨_,g4⟩
       . exact absurd g3 h3
       . rw[h4,g4]
theorem Nr(A:OA)(n c B:Nat)(fs:List Fl)(w:VA)(h0:Sl w B 2 A n (flat flC fs))(hB:B<=w.heap.size)(hn:n<=1000000)(hsz:∀f∈fs,f.1.size<=1000000/\f.2.size<=60000) :
  Calls Tryz.prog 123 #[.slice A n c] w fun e w'=>∃err,e= .returned (.int .i64 err)/\TckR fs err/\VE w w':=by
 have HL:=ai (h0.len iw (by omega));have H0:=ai h0;have H:=ai hsz;clear h0 hsz;have hmm:=@run_makeMap Tryz.prog;have hzz:=Tryz.zeroValue4
 go_enter Tryz.func123,Tryz.ntmps123
 by_cases hbig: (200:Int)< (n:Int)
 . have HE:Hid (TckR fs 4):= .inl ⟨by rw[HL.o];omega,rfl⟩
   go_wp2_with fail;go_ret
   exact⟨4,rfl,HE.o,ah _ _⟩
 have hsm:n<=200:=by omega
 have M:Hid (Rm (w.alloc (.map #[] 0)) Tryz.prog 9 w.heap.size 0 (pG ((fs.take 0).map Prod.fst))):=by
  show Rm _ _ _ _ _ (pG []);rw[TJ];exact Rm.made w Tryz.prog 9
 obtain⟨r,hr⟩:=NX9 (gp none fs)
 have HR:=ai hr;clear hr;go_wp2_with fail
 go_loopw[15] (fun i wr=>∃k:Nat,k<=n/\i= .int .i64 k/\Hid (Rm wr Tryz.prog 9 w.heap.size k (pG ((fs.take k).map Prod.fst)))/\Hid (r=gp (jB fs k) (fs.drop k))/\VF w wr/\w.heap.size<wr.heap.size) (fun i _=>n - (intOf i).toNat)
 case atStart=>exact⟨0,ZX _,rfl,M.o,HR.o.symm,(ah _ w).alloc aj _,by simp⟩
 case round =>
  obtain⟨k,hk,rfl,hM,hC,hBel,hwz⟩:=hrel;by_cases hlt:k<n
  . obtain⟨b,off,f,rfl,hbB,hf,y0,y1⟩:=(H0.o.below hBel.o hB).fl hlt
    have hlz: (k:Int)< (n:Int):=by omega
    have HF:=ai hf;have hfs:=H.o f (Z7 hf);have hfm:f.1.size<=maxLen:=by unfold maxLen;omega
    have HC:=hC;rw[Tn hf]at HC;obtain⟨W2,hW2⟩:=NX9 (wr.alloc (.cells #[.string f.1,.string f.2] 82))
    have s:Hid (Bk W2 wr.heap.size 82 #[.string f.1,.string f.2]):=by rw[<-hW2];exact Bk.new wr _ _
    have U:W2.heap.size=wr.heap.size+1:=by rw[<-hW2];simp
    have HB2:VF wr W2:=by rw[<-hW2];exact(ah _ wr).alloc aj _
    have I:=ai (MS f.1 W2 hfm);have x0:=s.o.cell 0;simp at x0;have J:=ai (aV hf);clear hf
    go_wp2_with (go_at_call 196;refine I.o.mono ?_;rintro e w3 ⟨rfl,hb3⟩;refine aO ?_)
    refine aH ?_;have HB3:VF wr w3:=HB2.o.trans (hb3.mono (by omega));have v:=ai (s.o.below hb3 (by omega));have hz3:=hb3.size;have x0:=v.o.cell 0;have x1:=v.o.cell 1;simp at x0 x1;clear hb3 I hW2;cases hp:dh f.1 with
    | false =>
      have HE:Hid (TckR fs 6):= .inr (.inl ⟨by rw[HL.o];omega,by rw[HR.o,HC.o,hp];simp,by rw[HR.o,HC.o,hp];simp⟩);clear hp;go_wp2_with fail;go_ret
      exact⟨6,rfl,HE.o,hBel.o.trans (HB3.o.mono (by omega))⟩
    | true =>
      rw[hp,if_pos rfl]at HC;have K:=ai (Eu f.2 w3);clear hp
      go_wp2_with (go_at_call 197;refine K.o.mono ?_;rintro e w4 ⟨rfl,hb4⟩;refine aO ?_)
      refine aH ?_;have L:=ai (Nw f.2 w4 hfs.2);have N:=ai (v.o.below hb4 (by omega));have HB4:VF wr w4:=HB3.o.trans (hb4.mono (by omega));have V:=hb4.size;clear hb4 K x0 x1
      go_wp2_with (go_at_call 113;refine L.o.mono ?_;rintro e w5 ⟨rfl,hb5⟩;refine aO ?_)
      refine aH ?_;have x:=ai (N.o.below hb5 (by omega));have o:VF wr w5:=HB4.o.trans (hb5.mono (by omega));have W:=hb5.size;clear hb5 L;obtain⟨q5,hq5⟩:∃q5:Nat,q5=0:=⟨0,rfl⟩
      cases k with
      | zero =>
        have HN:Hid (r=gp (jB fs 1) (fs.drop 1)):=by
         show _=_;rw[HC.o,if_pos];simp[jB,upB]
        have y:=ai (hM.o.below o.o hwz);clear HC hC;go_wp2_with fail
        go_quiet(fail)
        have z:=ai (x.o.drewN nq);have C:Hid (Rm (w5.drewN nq) Tryz.prog 9 w.heap.size 0 (pG ((fs.take 0).map Prod.fst))):=y.o.below (cZ (ah _ w5) nq) (by omega);have d:VF wr (w5.drewN nq):=cZ o.o nq;have x0:=z.o.cell 0;simp at x0
        go_wp2_with (at_mapUpdate;refine aO ?_)
        refine aH ?_;refine oH rfl _ _ _ 271 rfl 9 4 Tryz.underlying9 Tryz.underlying271 w.heap.size 0 _ rfl C.o (by unfold maxLen;omega) f.1 hfm _ rfl rfl ?_;intro w7 a l
        replace a:Rm w7 Tryz.prog 9 w.heap.size (0+1) (upd (pG ((fs.take 0).map Prod.fst)) f.1 (.bool true)):=a
        rw[<-GY]at a;have D:Hid (Rm w7 Tryz.prog 9 w.heap.size (0+1) (pG ((fs.take (0+1)).map Prod.fst))):=by show Rm _ _ _ _ _ _;rw[J.o,List.map_append];exact a
        have E:VF w w7:=(hBel.o.trans (d.o.mono (by omega))).grown l (by have:=d.o.size;omega) (fun q e=>by cases e;omega);have O:=l.size;have P:wr.heap.size<= (w5.drewN nq).heap.size:=d.o.size;clear a l x0;go_wp2_with fail;go_roundw
        case rel=>exact⟨0+1,by omega,by go_num,D.o,HN.o,E.o,by omega⟩
        case measure=>simp[intOf];omega
      | succ k =>
        have y:=ai (hM.o.below o.o hwz);have u:VE w w5:=hBel.o.trans (o.o.mono (by omega));obtain⟨b',off',p,hbe,_,hpp,p0,_⟩:=(H0.o.below u hB).fl (show k<n by omega);cases hbe
        obtain⟨le,hle⟩:=NX9 ((Op.bytesLess f.1.toList p.1.toList || f.1.toList == p.1.toList))
        have hls:=LH hle;have hpv:jB fs (k+1)=some p.1:=by unfold jB;rw[if_neg (by omega),Nat.add_sub_cancel,hpp];rfl
        rw[hpv,upB]at HC;have hg0:decide ((0:Int)< ((k+1:Nat):Int))=true:=by rw[decide_eq_true_iff];omega
        have x5:=x.o.cell 0;simp at x5;clear hpp hpv hC u;rw[hls]at HC;clear hls;cases le with
        | false =>
          have HN:Hid (r=gp (jB fs (k+1+1)) (fs.drop (k+1+1))):=by show _=_;rw[HC.o,if_pos (by decide)]
          clear HC;go_wp2_with fail
          go_quiet(fail)
          clear x5 p0 hle;have z:=ai (x.o.drewN nq);have C:Hid (Rm (w5.drewN nq) Tryz.prog 9 w.heap.size (k+1) (pG ((fs.take (k+1)).map Prod.fst))):=y.o.below (cZ (ah _ w5) nq) (by omega);have d:VF wr (w5.drewN nq):=cZ o.o nq;have x0:=z.o.cell 0;simp at x0
          go_wp2_with (at_mapUpdate;refine aO ?_)
          refine aH ?_;refine oH rfl _ _ _ 271 rfl 9 4 Tryz.underlying9 Tryz.underlying271 w.heap.size (k+1) _ rfl C.o (by unfold maxLen;omega) f.1 hfm _ rfl rfl ?_;intro w7 a l
          replace a:Rm w7 Tryz.prog 9 w.heap.size ((k+1)+1) (upd (pG ((fs.take (k+1)).map Prod.fst)) f.1 (.bool true)):=a
          rw[<-GY]at a;have D:Hid (Rm w7 Tryz.prog 9 w.heap.size ((k+1)+1) (pG ((fs.take ((k+1)+1)).map Prod.fst))):=by show Rm _ _ _ _ _ _;rw[J.o,List.map_append];exact a
          have E:VF w w7:=(hBel.o.trans (d.o.mono (by omega))).grown l (by have:=d.o.size;omega) (fun q e=>by cases e;omega);have O:=l.size;have P:wr.heap.size<= (w5.drewN nq).heap.size:=d.o.size;clear a l x0;go_wp2_with fail;go_roundw
          case rel=>exact⟨(k+1)+1,by omega,by go_num,D.o,HN.o,E.o,by omega⟩
          case measure=>simp[intOf];omega
        | true =>
          have HE:Hid (TckR fs 10):= .inr (.inl ⟨by rw[HL.o];omega,by rw[HR.o,HC.o];simp,by rw[HR.o,HC.o];simp⟩);clear HC;go_wp2_with fail
          go_quiet(fail)
          go_wp2_with fail;go_ret
          exact⟨10,rfl,HE.o,hBel.o.trans (cZ (o.o.mono (by omega)) _)⟩
  . have hlz:¬(k:Int)< (n:Int):=by omega
    have HZ:Hid (gp none fs=0):=by
     show _=_;rw[HR.o,hC.o,List.drop_of_length_le (by rw[HL.o];omega)];rfl
    have Q:Hid (Rm wr Tryz.prog 9 w.heap.size k (pG (fs.map Prod.fst))):=by
     have h1:=hM.o;rw[ZU (by rw[HL.o];omega)]at h1;exact h1
    have F:=ai hBel.o;obtain⟨we,hwe⟩:∃we,we=wr:=⟨_,rfl⟩
    subst hwe;clear hM hC hBel;go_wp2_with fail
    go_loopw[51] (fun i wr=>∃j:Nat,j<=n/\i= .int .i64 j/\Hid (∀f∈fs.take j,∀q,q<f.1.size->jC (fs.map Prod.fst) f.1 q=false)/\VF we wr) (fun i _=>n - (intOf i).toNat)
    case atStart=>exact⟨0,ZX _,rfl,fun f hf=>by simp at hf,ah _ _⟩
    case round =>
     obtain⟨j,hj,rfl,hNo,t⟩:=hrel;have R:=t.o.size;by_cases hjn:j<n
     . have hBw2:VE w wr:=F.o.trans (t.o.mono (by omega))
       obtain⟨b,off,f,rfl,hbB,hf,y0,y1⟩:=(H0.o.below hBw2 hB).fl hjn;have hjz: (j:Int)< (n:Int):=by omega
       have HF:=ai hf;have hfs:=H.o f (Z7 hf);obtain⟨W2,hW2⟩:=NX9 (wr.alloc (.cells #[.string f.1,.string f.2] 82))
       have s:Hid (Bk W2 wr.heap.size 82 #[.string f.1,.string f.2]):=by rw[<-hW2];exact Bk.new wr _ _
       have HB2:VF we W2:=by rw[<-hW2];exact t.o.alloc R _
       have S:=ai (Q.o.below HB2.o hwz);have x0:=s.o.cell 0;simp at x0;obtain⟨wm,hwm⟩:∃wm,wm=wr:=⟨_,rfl⟩
       subst hwm;clear hf hBw2;go_wp2_with fail;clear hW2
       go_loopw[58] (fun i wr=>∃q:Nat,q<=f.1.size/\i= .int .i64 q/\Hid (∀m,m<q->jC (fs.map Prod.fst) f.1 m=false)/\wr=W2) (fun i _=>f.1.size - (intOf i).toNat)
       case atStart=>exact⟨0,ZX _,rfl,fun m hm=>absurd hm (by omega),rfl⟩
       case round =>
        obtain⟨q,hq,rfl,hNq,rfl⟩:=hrel;by_cases hqs:q<f.1.size
        . have hqz: (q:Int)< (f.1.size:Int):=by omega
          have X: (q:Int)<= (f.1.size:Int):=by omega
          have hxs: (f.1.extract 0 q).size<=maxLen:=by simp;unfold maxLen;omega
          have hg:=EU f.1 q hqs;have HG:Hid ((bl f.1)[q]? =some f.1[q]):=hg;have hlk:=S.o.look Tryz.underlying9 Tryz.underlying271 (hzz _) hxs;rw[TV]at hlk;clear hg;by_cases h47:f.1[q]=47
          . have t1: (((f.1[q].toNat:Nat):Int) == 47)=true:=by simp[h47]
            cases hm:iH (fs.map Prod.fst) (f.1.extract 0 q) with
            | true =>
              have HE:Hid (TckR fs 7):= .inr (.inr ⟨by rw[HL.o];omega,HZ.o,.inl ⟨⟨f,Z7 HF.o,q,hqs,by unfold jC;rw[HG.o,h47,hm];rfl⟩,rfl⟩⟩);rw[hm]at hlk;clear hm h47;go_wp2_with fail;go_ret
              exact⟨7,rfl,HE.o,F.o.trans (HB2.o.mono (by omega))⟩
            | false =>
              have G:Hid (∀m,m<q+1->jC (fs.map Prod.fst) f.1 m=false):=fun m hm'=>by
               by_cases e:m=q
               . subst e;unfold jC;rw[hm];simp
               . exact hNq.o m (by omega)
              rw[hm]at hlk;clear hm h47 hNq;go_wp2_with fail;go_roundw
              case rel=>exact⟨q+1,hqs,by go_num,G.o,trivial⟩
              case measure=>simp[intOf];omega
          . have t1: (((f.1[q].toNat:Nat):Int) == 47)=false:=by
              rw[beq_eq_false_iff_ne];intro e;apply h47
              apply UInt8.toNat_inj.1
              show f.1[q].toNat=47;omega
            have G:Hid (∀m,m<q+1->jC (fs.map Prod.fst) f.1 m=false):=fun m hm'=>by
             by_cases e:m=q
             . subst e;unfold jC;rw[HG.o,decide_eq_false (fun e=>h47 (Option.some.inj e)),Bool.false_and]
             . exact hNq.o m (by omega)
            clear h47 hNq;go_wp2_with fail;go_roundw
            case rel=>exact⟨q+1,hqs,by go_num,G.o,trivial⟩
            case measure=>simp[intOf];omega
        . have hqz:¬(q:Int)< (f.1.size:Int):=by omega
          have T:Hid (∀g∈fs.take (j+1),∀q,q<g.1.size->jC (fs.map Prod.fst) g.1 q=false):=fun g hg=>by
           rw[aV HF.o]at hg;rcases List.mem_append.1 hg with hg | hg
           . exact hNo.o g hg
           . rw[List.mem_singleton.1 hg];exact fun m hm=>hNq.o m (by omega)
          clear hNq hNo;go_wp2_with fail;go_roundw
          case rel=>exact⟨j+1,hjn,by go_num,T.o,HB2.o⟩
          case measure=>simp[intOf];omega
     . have hjz:¬(j:Int)< (n:Int):=by omega
       have HE:Hid (TckR fs 0):= .inr (.inr ⟨by rw[HL.o];omega,HZ.o,.inr ⟨(fun h=>by
        obtain⟨f,hf,q,hq,hd⟩:=h;have:=hNo.o f (by rw[ZU (by rw[HL.o];omega)];exact hf) q hq;rw[this]at hd;cases hd),rfl⟩⟩)
       clear hNo;go_wp2_with fail;go_ret
       exact⟨0,rfl,HE.o,F.o.trans (t.o.mono (by omega))⟩
end
section
open Go.RowKit Go.Shelf
def jR(d p:VB):Bool:=decide (d.size<p.size) && (decide (p.extract 0 d.size=d) && decide ((bl p)[d.size]? =some 47))
end
section
open Go.RowKit Go.Shelf
theorem RY{fs:List Fl}{f g:Fl}(hf:f∈fs)(hg:g∈fs)(h:jR f.1 g.1=true):vg fs:=by
 unfold jR at h;simp only[Bool.and_eq_true,decide_eq_true_eq]at h;obtain⟨h1,h2,h3⟩:=h;refine⟨g,hg,f.1.size,h1,?_⟩;unfold jC;rw[h2,decide_eq_true h3,Bool.true_and,pI];exact List.mem_map_of_mem hf
theorem Q9{fs:List Fl}(h:∀f∈fs,∀g∈fs,jR f.1 g.1=false):¬vg fs:=by
 rintro ⟨g,hg,j,hj,hd⟩;unfold jC at hd;rw[Bool.and_eq_true,decide_eq_true_eq,pI]at hd;obtain⟨h1,h2⟩:=hd;obtain⟨f,hf,e⟩:=List.mem_map.1 h2;have:=h f hf g hg;have hs:f.1.size=j:=by
  have:=congrArg ByteArray.size e;rw[ByteArray.size_extract]at this;omega
 unfold jR at this;rw[hs,<-e,decide_eq_true hj,decide_eq_true h1]at this;simp at this
end
def slB:VB:=⟨#[47]⟩
noncomputable def vsE(g:Dig->VB->List Fl×Int)(p:List Itm)(pre:VB):List Ent->List Fl×Int
 | []=>([],0)
 | e::r =>
   if 100< (pre++e.nm).size then([],4)
   else if e.dir=true then
    (let s:=g e.dg (pre++e.nm++slB);if s.2=0 then(s.1++ (vsE g p pre r).1,(vsE g p pre r).2) else s)
   else match aC p e.dg with
    | none=>([],8)
    | some o=>if o.kind=1 then((pre++e.nm,o.data):: (vsE g p pre r).1,(vsE g p pre r).2) else([],9)
noncomputable def vis(p:List Itm):Nat->Dig->VB->List Fl×Int
 | 0,_,_=>([],4)
 | n+1,d,pre=>match aC p d with
   | none=>([],8)
   | some o=>if o.kind=2 then(if o.ents= []/\pre≠ ⟨#[]⟩ then([],1) else vsE (vis p n) p pre o.ents) else([],9)
theorem yS{g:Dig->VB->List Fl×Int}{p:List Itm}{pre:VB}{e:Ent}{r:List Ent}(h:100< (pre++e.nm).size):vsE g p pre (e::r)= ([],4):=by rw[vsE,if_pos h]
theorem uo{g:Dig->VB->List Fl×Int}{p:List Itm}{pre:VB}{e:Ent}{r:List Ent}(h:¬100< (pre++e.nm).size)(hd:e.dir=true){s:List Fl}(hs:g e.dg (pre++e.nm++slB)= (s,0)) :
  vsE g p pre (e::r)= (s++ (vsE g p pre r).1,(vsE g p pre r).2):=by rw[vsE,if_neg h,if_pos hd,hs];rfl
theorem yx{g:Dig->VB->List Fl×Int}{p:List Itm}{pre:VB}{e:Ent}{r:List Ent}(h:¬100< (pre++e.nm).size)(hd:e.dir=true){s:List Fl}{z:Int}(hz:z≠0)(hs:g e.dg (pre++e.nm++slB)= (s,z)) :
  vsE g p pre (e::r)= (s,z):=by rw[vsE,if_neg h,if_pos hd,hs];simp only[if_neg hz]
theorem yh{g:Dig->VB->List Fl×Int}{p:List Itm}{pre:VB}{e:Ent}{r:List Ent}(h:¬100< (pre++e.nm).size)(hd:e.dir=false)(hg:aC p e.dg=none) :
  vsE g p pre (e::r)= ([],8):=by rw[vsE,if_neg h,if_neg (by rw[hd];simp),hg]
theorem xR{g:Dig->VB->List Fl×Int}{p:List Itm}{pre:VB}{e:Ent}{r:List Ent}(h:¬100< (pre++e.nm).size)(hd:e.dir=false){o:Ob}(hg:aC p e.dg=some o)(hk:o.kind≠1) :
  vsE g p pre (e::r)= ([],9):=by rw[vsE,if_neg h,if_neg (by rw[hd];simp),hg];simp only[if_neg hk]
theorem sZ{g:Dig->VB->List Fl×Int}{p:List Itm}{pre:VB}{e:Ent}{r:List Ent}(h:¬100< (pre++e.nm).size)(hd:e.dir=false){o:Ob}(hg:aC p e.dg=some o)(hk:o.kind=1) :
  vsE g p pre (e::r)= ((pre++e.nm,o.data):: (vsE g p pre r).1,(vsE g p pre r).2):=by rw[vsE,if_neg h,if_neg (by rw[hd];simp),hg];simp only[if_pos hk]
def VisAt(g:Dig->VB->List Fl×Int)(p:List Itm)(pre:VB)(es:List Ent)(j:Nat)(fs:List Fl):Prop:=vsE g p pre es= (fs++ (vsE g p pre (es.drop j)).1,(vsE g p pre (es.drop j)).2)
theorem VisAt.start(g:Dig->VB->List Fl×Int)(p:List Itm)(pre:VB)(es:List Ent):VisAt g p pre es 0 []:=rfl
theorem yT{α:Type}{l:List α}{j:Nat}{x:α}(h:l[j]? =some x):l.drop j=x::l.drop (j+1):=by
 obtain⟨hl,rfl⟩:=List.getElem?_eq_some_iff.1 h;exact List.drop_eq_getElem_cons hl
theorem VisAt.done{g:Dig->VB->List Fl×Int}{p:List Itm}{pre:VB}{es:List Ent}{j:Nat}{fs:List Fl}(h:VisAt g p pre es j fs)(hj:es.length<=j):vsE g p pre es= (fs,0):=by
 unfold VisAt at h;rw[List.drop_of_length_le hj]at h;rw[h];simp[vsE]
theorem VisAt.fail{g:Dig->VB->List Fl×Int}{p:List Itm}{pre:VB}{es:List Ent}{j:Nat}{fs gs:List Fl}{z:Int}{e:Ent}(h:VisAt g p pre es j fs)(hj:es[j]? =some e)(hz:vsE g p pre (e::es.drop (j+1))= (gs,z)):vsE g p pre es= (fs++gs,z):=by
 unfold VisAt at h;rw[yT hj,hz]at h;exact h
theorem VisAt.more{g:Dig->VB->List Fl×Int}{p:List Itm}{pre:VB}{es:List Ent}{j:Nat}{fs gs:List Fl}{e:Ent}(h:VisAt g p pre es j fs)(hj:es[j]? =some e)
  (hz:vsE g p pre (e::es.drop (j+1))= (gs++ (vsE g p pre (es.drop (j+1))).1,(vsE g p pre (es.drop (j+1))).2)):VisAt g p pre es (j+1) (fs++gs):=by
 unfold VisAt at h ⊢;rw[yT hj,hz]at h;rw[h,ZZ]
theorem Qo{p:List Itm}{n:Nat}{d:Dig}{pre:VB}(h:aC p d=none):vis p (n+1) d pre= ([],8):=by rw[vis,h]
theorem QQ{p:List Itm}{n:Nat}{d:Dig}{pre:VB}{o:Ob}(h:aC p d=some o)(hk:o.kind≠2):vis p (n+1) d pre= ([],9):=by rw[vis,h];simp only[if_neg hk]
theorem NZ{p:List Itm}{n:Nat}{d:Dig}{pre:VB}{o:Ob}(h:aC p d=some o)(hk:o.kind=2)(he:o.ents= [])(hp:pre≠ ⟨#[]⟩):vis p (n+1) d pre= ([],1):=by rw[vis,h];simp only[if_pos hk,if_pos (And.intro he hp)]
theorem ER{p:List Itm}{n:Nat}{d:Dig}{pre:VB}{o:Ob}(h:aC p d=some o)(hk:o.kind=2)(he:¬(o.ents= []/\pre≠ ⟨#[]⟩)):vis p (n+1) d pre=vsE (vis p n) p pre o.ents:=by rw[vis,h];simp only[if_pos hk,if_neg he]
noncomputable def iC(p:List Itm)(d:Dig):List Fl×Int:=vis p 102 d ⟨#[]⟩
def AscF(l:List Fl):Prop:=l.Pairwise (fun a b=>less a.1 b.1=true)
structure kY(p:List Itm)(d:Dig)(fs:List Fl):Prop where
 few: (iC p d).1.length<=200
 ok: (iC p d).2=0
 perm:fs.Perm (iC p d).1
 asc:AscF fs
def mi(p:List Itm)(d:Dig)(err:Int):Prop:=(200< (iC p d).1.length/\err=4)∨ ((iC p d).1.length<=200/\ (iC p d).2≠0/\err= (iC p d).2)
theorem AscF.tail{f:Fl}{l:List Fl}(h:AscF (f::l)):AscF l:=(List.pairwise_cons.1 h).2
theorem AscF.head{f g:Fl}{l:List Fl}(h:AscF (f::l))(hg:g∈l):less f.1 g.1=true:=(List.pairwise_cons.1 h).1 g hg
theorem AscF.ext{l m:List Fl}(hl:AscF l)(hm:AscF m)(h:∀f,f∈l↔f∈m):l=m:=by
 induction l generalizing m with
 | nil =>
   cases m with
   | nil=>rfl
   | cons y q=>exact absurd ((h y).2 (by simp)) (by simp)
 | cons x p ih =>
   cases m with
   | nil=>exact absurd ((h x).1 (by simp)) (by simp)
   | cons y q =>
     have e:x=y:=by
      have h1:=(h x).1 (by simp);have h2:=(h y).2 (by simp);rcases List.mem_cons.1 h1 with e | h1
      . exact e
      rcases List.mem_cons.1 h2 with e | h2
      . exact e.symm
      exact absurd (jW (hm.head h1) (hl.head h2)) (by rw[iY];simp)
     subst e;rw[ih hl.tail hm.tail];intro i;constructor
     . intro hi
       rcases List.mem_cons.1 ((h i).1 (List.mem_cons_of_mem _ hi)) with rfl | h'
       . exact absurd (hl.head hi) (by rw[iY];simp)
       . exact h'
     . intro hi
       rcases List.mem_cons.1 ((h i).2 (List.mem_cons_of_mem _ hi)) with rfl | h'
       . exact absurd (hm.head hi) (by rw[iY];simp)
       . exact h'
