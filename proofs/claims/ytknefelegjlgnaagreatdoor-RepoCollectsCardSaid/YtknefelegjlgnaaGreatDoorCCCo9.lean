/-
  Lemmas of the card.
-/
import Derived.Test.YtknefelegjlgnaaGreatDoorCCCo8
set_option maxRecDepth 100000
set_option maxHeartbeats 4000000
namespace Go.Proofs.YtknefelegjlgnaaGreatDoor
open Go.RowKit
theorem lM: (Tryz.prog.info? 118).map (fun i=>(i.zero,i.size,i.bytes))=some (some (.agg #[.int .u64 0,.int .u64 0,.string ⟨#[]⟩]),3,32):=by kernel_rfl
theorem jh(l:List Itm):∀u∈flat itC l,u.oneCell'=true:=fun u hu=>by
 unfold flat at hu;obtain⟨i,_,h⟩:=List.mem_flatMap.1 hu;simp[itC]at h;rcases h with rfl | rfl | rfl <;> rfl
def RQ(n:Nat)(w:SX)(e:Ending)(w':SX):Prop:=∃A c,e= .returned (.slice A 0 c)/\Apd w' w.heap.size 118 3 A 0 c []/\Tf w w'/\n<=c/\c<=maxLen
theorem Ny(n:Nat)(w:SX)(h0:0<n)(hn:n<=1000000):Calls Tryz.prog 266 #[.slice none 0 0,.int .i64 n] w (RQ n w):=by
 obtain⟨i0,hi,hz0,hz1,hz2⟩:=info_parts lM;have HR:Hid (∀ty,(Builtin.append_ #[29,3] ty #[.slice none 0 0,.int .i64 (n:Int)]).run Tryz.prog w= .ok (.slice (some ⟨w.heap.size,0,none⟩) n (grownCap w n 0 118)) (w.drew.alloc (.cells (#[]++Builtin.zeroCells (Value.agg #[.int .u64 0,.int .u64 0,.string ⟨#[]⟩]).cells n++Builtin.zeroCells (Value.agg #[.int .u64 0,.int .u64 0,.string ⟨#[]⟩]).cells (grownCap w n 0 118 - n)) 118))):=fun ty=>by
  have h:=Lib.run_append_grow_zeros w 29 3 ty 118 i0 _ .i64 .i64 Tryz.underlying29 Tryz.underlying3 hi hz0 none 0 0 [] (run_firstCells_none w.drew i0.size 0 0 0) n h0 (by rw[hz1];omega) (by omega) (by omega) (by rw[hz2];omega) (growslice_fits (by omega) (by rw[hz2];omega));simp only[Nat.zero_add]at h;exact h
 clear hi hz0 hz1 hz2;have hG:=grownCap_ge w n 0 118;have hG2:=grownCap_le_maxLen w n 0 118 (by unfold maxLen;omega);obtain⟨G,a⟩:=NX9 (grownCap w n 0 118)
 rw[a]at HR hG hG2;obtain⟨W,hW⟩:=NX9 (w.drew.alloc (.cells (#[]++Builtin.zeroCells (Value.agg #[.int .u64 0,.int .u64 0,.string ⟨#[]⟩]).cells n++Builtin.zeroCells (Value.agg #[.int .u64 0,.int .u64 0,.string ⟨#[]⟩]).cells (G - n)) 118))
 rw[hW]at HR;have HB:Ti w W:=by rw[<-hW];exact(ah _ w).drew.alloc aj _
 have HA:Hid (Apd W w.heap.size 118 3 (some ⟨w.heap.size,0,none⟩) 0 G []):=by
  refine .inl ⟨rfl,.inr ⟨w.heap.size,G,_,rfl,Nat.le_refl _,by rw[<-hW];exact heap_alloc_new w.drew _,ZX _,hG2,?_,by simp⟩⟩;rw[Array.size_append,Array.size_append,size_zeroCells,size_zeroCells];show 0+n*3+ (G - n)*3=G*3;omega
 have HG2:=ai hG2;have HG:=ai hG;have hG3:G<=9223372036854775807:=by unfold maxLen at hG2;exact hG2
 clear hW a hG2
 go_enter Tryz.func266,Tryz.ntmps266
 go_wp2_with (at_builtin;refine Lib.wpList_append_run _ rfl _ _ _ _ rfl _ _ rfl rfl _ _ (HR.o _) ?_)
 go_ret
 exact⟨_,_,rfl,HA.o,HB.o,HG.o,HG2.o⟩
def Sr(n:Nat)(xs:List Itm)(w:SX)(e:Ending)(w':SX):Prop:=∃A c,e= .returned (.slice A n c)/\Apd w' w.heap.size 118 3 A n c (flat itC xs)/\Tf w w'/\n<=c/\c<=maxLen
theorem J8(b B:Nat)(t:TypeId)(A0 A1 A2:OA)(n0 n1 n2 c0 c1 c2:Nat)(x0 x1 x2:List Itm)(w:SX)(hk:Bk w b t #[.slice A0 n0 c0,.slice A1 n1 c1,.slice A2 n2 c2])
  (h0:Sl w B 3 A0 n0 (flat itC x0)) (h1:Sl w B 3 A1 n1 (flat itC x1)) (h2:Sl w B 3 A2 n2 (flat itC x2)) (hB:B<=w.heap.size) (hn:n0+n1+n2<=1000000) (hpos:0<n0+n1+n2) :
  Calls Tryz.prog 211 #[.slice (some ⟨b,0,none⟩) 3 3] w (Sr (n0+n1+n2) (x0++x1++x2) w):=by
 have HK:=ai hk;obtain⟨k0,k1,k2⟩:=hk.three;have H0:=ai h0;have H1:=ai h1;have H2:=ai h2;clear hk h0 h1 h2;obtain⟨i0,hi,hz0,hz1,hz2⟩:=info_parts lM;have Hi:=ai hi;have g:=ai hz0;have h:=ai hz1;have j:=ai hz2;clear hi hz0 hz1 hz2
 go_enter Tryz.func211,Tryz.ntmps211
 go_wp2_with fail
 go_loopw[3,11] (fun s i wr=>∃(k s':Nat),i= .int .i64 (k:Int)/\s= .int .i64 (s':Int)/\wr=w/\ ((k=0/\s'=0)∨ (k=1/\n0=s')∨ (k=2/\n0+n1=s')∨ (k=3/\n0+n1+n2=s'))) (fun _ i _=>3 - (intOf i).toNat)
 case atStart=>exact⟨0,0,rfl,rfl,rfl,.inl ⟨rfl,rfl⟩⟩
 case round =>
  obtain⟨k,s,rfl,rfl,rfl,hks⟩:=hrel;rcases hks with ⟨rfl,rfl⟩ | ⟨rfl,rfl⟩ | ⟨rfl,rfl⟩ | ⟨rfl,rfl⟩
  . go_wp2_with fail
    go_roundw
    case rel=>exact⟨1,n0,by go_num,by go_num,trivial,.inr (.inl ⟨rfl,rfl⟩)⟩
    case measure=>simp[intOf]
  . go_wp2_with fail
    go_roundw
    case rel=>exact⟨2,n0+n1,by go_num,by go_num,trivial,.inr (.inr (.inl ⟨rfl,rfl⟩))⟩
    case measure=>simp[intOf]
  . go_wp2_with fail
    go_roundw
    case rel=>exact⟨3,n0+n1+n2,by go_num,by go_num,trivial,.inr (.inr (.inr ⟨rfl,rfl⟩))⟩
    case measure=>simp[intOf]
  . obtain⟨d,hwo⟩:∃d,d=wr:=⟨_,rfl⟩
    subst hwo;have HG:=ai (Ny (n0+n1+n2) d hpos hn);go_wp2_with fail;refine HG.o.mono ?_;rintro e w2 ⟨A,c,rfl,ha,hb,hc1,hc2⟩;have HA:=ai ha;have HB:=ai hb;obtain⟨k0,k1,k2⟩:=(HK.o.below hb HK.o.lt).three;clear ha hb HG;go_wp2_with fail
    go_loopw[6,27] (fun r i wq=>∃(k:Nat)(A':OA)(m c':Nat)(xs:List Itm),i= .int .i64 (k:Int)/\r= .slice A' m c'/\Hid (Apd wq d.heap.size 118 3 A' m c' (flat itC xs))/\Ti d wq/\m<=c'/\c'<=maxLen ∧
     ((k=0/\m=0/\xs= [])∨ (k=1/\n0=m/\x0=xs)∨ (k=2/\n0+n1=m/\x0++x1=xs)∨ (k=3/\n0+n1+n2=m/\x0++x1++x2=xs))) (fun _ i _=>3 - (intOf i).toNat)
    case atStart=>exact⟨0,A,0,c,[],rfl,rfl,HA.o,HB.o,ZX _,hc2,.inl ⟨rfl,rfl,rfl⟩⟩
    case round =>
     obtain⟨k,A',m,c',xs,rfl,rfl,hA,hBel,hmc,hcm,hks⟩:=hrel;obtain⟨k0,k1,k2⟩:=(HK.o.below hBel.o HK.o.lt).three;rcases hks with ⟨rfl,rfl,rfl⟩ | ⟨rfl,hme,rfl⟩ | ⟨rfl,hme,rfl⟩ | ⟨rfl,hme,rfl⟩
     . have HN:Hid (0+n0<=maxLen):=by show _<=_;unfold maxLen;omega
       have n:Hid ((0+n0)*32<=140737488355328):=by show _<=_;omega
       have HS:=ai (H0.o.below hBel.o hB);have o:0+n0<=1000000:=by omega
       go_wp2_with (at_builtin;refine aP ?_)
       refine aI ?_;refine dR (base:=d.heap.size) (size:=3) _ rfl (.tmp 31) (.tmp 32) 29 rfl 118 i0 _ 32 Tryz.underlying29 Hi.o g.o h.o j.o rfl (by decide) A' 0 c' _ rfl hA.o B _ n0 _ _ rfl HS.o (jh _) HN.o n.o hBel.o.size ?_;intro A4 c4 w4 a hb4 hn4 hm4 _;rw[<-bD]at a;have f:=ai a;have HB4:Ti d w4:=hBel.o.trans hb4;clear a hb4 hA;go_wp2_with fail;go_roundw
       case rel=>exact⟨1,A4,n0,c4,_,by go_num,rfl,(by have:=f.o;rwa[Nat.zero_add]at this),HB4.o,by omega,hm4,.inr (.inl ⟨rfl,rfl,rfl⟩)⟩
       case measure=>simp[intOf]
     . have HN:Hid (m+n1<=maxLen):=by show _<=_;unfold maxLen;omega
       have n:Hid ((m+n1)*32<=140737488355328):=by show _<=_;omega
       have HS:=ai (H1.o.below hBel.o hB);have o:m+n1<=1000000:=by omega
       have l:=ai hme;clear hme
       go_wp2_with (at_builtin;refine aP ?_)
       refine aI ?_;refine dR (base:=d.heap.size) (size:=3) _ rfl (.tmp 31) (.tmp 32) 29 rfl 118 i0 _ 32 Tryz.underlying29 Hi.o g.o h.o j.o rfl (by decide) A' m c' _ rfl hA.o B _ n1 _ _ rfl HS.o (jh _) HN.o n.o hBel.o.size ?_;intro A4 c4 w4 a hb4 hn4 hm4 _;rw[<-bD]at a;have f:=ai a;have HB4:Ti d w4:=hBel.o.trans hb4;clear a hb4 hA;go_wp2_with fail;go_roundw
       case rel=>exact⟨2,A4,m+n1,c4,_,by go_num,rfl,f.o,HB4.o,hn4,hm4,.inr (.inr (.inl ⟨rfl,by rw[l.o],rfl⟩))⟩
       case measure=>simp[intOf]
     . have HN:Hid (m+n2<=maxLen):=by show _<=_;unfold maxLen;omega
       have n:Hid ((m+n2)*32<=140737488355328):=by show _<=_;omega
       have HS:=ai (H2.o.below hBel.o hB);have o:m+n2<=1000000:=by omega
       have l:=ai hme;clear hme
       go_wp2_with (at_builtin;refine aP ?_)
       refine aI ?_;refine dR (base:=d.heap.size) (size:=3) _ rfl (.tmp 31) (.tmp 32) 29 rfl 118 i0 _ 32 Tryz.underlying29 Hi.o g.o h.o j.o rfl (by decide) A' m c' _ rfl hA.o B _ n2 _ _ rfl HS.o (jh _) HN.o n.o hBel.o.size ?_;intro A4 c4 w4 a hb4 hn4 hm4 _;rw[<-bD]at a;have f:=ai a;have HB4:Ti d w4:=hBel.o.trans hb4;clear a hb4 hA;go_wp2_with fail;go_roundw
       case rel=>exact⟨3,A4,m+n2,c4,_,by go_num,rfl,f.o,HB4.o,hn4,hm4,.inr (.inr (.inr ⟨rfl,by rw[l.o],rfl⟩))⟩
       case measure=>simp[intOf]
     . subst hme
       go_wp2_with fail;go_ret
       exact⟨_,_,rfl,hA.o,hBel.o,hmc,hcm⟩
def itB(x:Itm):Array Tc:=#[.int .u64 x.1.1,.int .u64 x.1.2,.string x.2]
def SlI(x:Itm)(v:Tc)(W:SX):Prop:=∃b0,v= .slice (some ⟨b0,0,none⟩) 1 1/\Bk W b0 118 (itB x)
def Sl3(A:OA)(m c:Nat)(Ak:OA)(n' c':Nat)(x:Itm)(v:Tc)(W:SX):Prop :=
 ∃b0 b1,v= .slice (some ⟨b1,0,none⟩) 3 3/\Bk W b1 29 #[.slice A m c,.slice (some ⟨b0,0,none⟩) 1 1,.slice Ak n' c']/\Bk W b0 118 (itB x)
def RsP(base n:Nat)(q:List Itm)(v:Tc)(W:SX):Prop:=∃A c,v= .slice A n c/\W.ownsRow base 118 3 (.slice A n c) n (flat itC q)/\n<=c/\c<=maxLen
theorem SlI.keep{x:Itm}{v:Tc}{W W':SX}(h:SlI x v W)(hb:Tf W W'):SlI x v W':=by
 obtain⟨b0,h1,h2⟩:=h;exact⟨b0,h1,h2.below hb h2.lt⟩
theorem Sl3.keep{A Ak:OA}{m c n' c':Nat}{x:Itm}{v:Tc}{W W':SX}(h:Sl3 A m c Ak n' c' x v W)(hb:Tf W W'):Sl3 A m c Ak n' c' x v W':=by
 obtain⟨b0,b1,h1,h2,h3⟩:=h;exact⟨b0,b1,h1,h2.below hb h2.lt,h3.below hb h3.lt⟩
theorem gZ{w w':SX}{base size n:Nat}{e:TypeId}{v:Tc}{xs:List Tc}(h:w.ownsRow base e size v n xs)(hb:Tf w w'):w'.ownsRow base e size v n xs :=
 h.kept (row:=none) ⟨hb.os,hb.tape,hb.output,hb.size,fun k hk _=>hb.block k hk⟩ (by
  cases hv:v.ownBlock with
  | none=>exact .inl rfl
  | some k=>exact .inr (by simp))
theorem jK{w:SX}{base size n b:Nat}{e t:TypeId}{v:Tc}{xs:List Tc}{cs:Array Tc}(h:w.ownsRow base e size v n xs)(hb:Bk w b t cs)(hne:e≠t)(i:Nat)(x:Tc): (w.setCell ⟨b,i,none⟩ x).ownsRow base e size v n xs:=by
 refine h.kept (row:=some b) ⟨rfl,rfl,rfl,by simp,fun k _ hk=>Z8 _ _ _ k (fun e=>hk (by rw[e]))⟩ ?_;rcases h.2 with ⟨rfl,_⟩ | ⟨g,cap,cur,rfl,_,hh,_⟩
 . exact .inl rfl
 . refine .inr fun he=>?_
   have hgb:g=b:=by simpa [Value.ownBlock] using he
   subst hgb;unfold Bk at hb;rw[hh]at hb;have:=Option.some.inj hb;injection this with _ ht _;exact hne ht
theorem RsP.keep{base n:Nat}{q:List Itm}{v:Tc}{W W':SX}(h:RsP base n q v W)(hb:Tf W W'):RsP base n q v W':=by
 obtain⟨A,c,h1,h2,h3,h4⟩:=h;exact⟨A,c,h1,gZ h2 hb,h3,h4⟩
theorem Apd.own{w:SX}{base size n c:Nat}{e:TypeId}{A:OA}{xs:List Tc}(h:Apd w base e size A n c xs)(hn:0<n):w.ownsRow base e size (.slice A n c) n xs:=by
 rcases h with h | ⟨h,_⟩
 . exact h
 . omega
theorem lX{W:SX}{base base' size n:Nat}{e:TypeId}{v:Tc}{xs:List Tc}(h:W.ownsRow base e size v n xs)(hb:base'<=base):W.ownsRow base' e size v n xs:=by
 refine⟨h.1,?_⟩;rcases h.2 with hn | ⟨g,cap,cur,hv,hbg,rest⟩
 . exact .inl hn
 . exact .inr ⟨g,cap,cur,hv,ZY hb hbg,rest⟩
def Ply(w:SX)(base:Nat)(A0:OA)(c0:Nat)(p:List Itm)(A:OA)(c:Nat)(q:List Itm):Prop :=
 (A=A0/\c=c0/\q=p)∨w.ownsRow base 118 3 (.slice A q.length c) q.length (flat itC q)
theorem Pz{W:SX}{b0:Nat}{x:Itm}(h:Bk W b0 118 (itB x)):Sl W W.heap.size 3 (some ⟨b0,0,none⟩) 1 (flat itC [x]):=Sl.of_bk (n:=1) h rfl
theorem Sl.it_take{w:SX}{B n k:Nat}{A:OA}{l:List Itm}(h:Sl w B 3 A n (flat itC l))(hk:k<=n):Sl w B 3 A k (flat itC (l.take k)):=h.take_ dA (by omega) hk
def Hq(A0:OA)(c0:Nat)(p:List Itm)(x:Itm)(w:SX)(e:Ending)(w':SX):Prop :=
 ((∃q A c,dE p x=some q/\e= .returned (.tuple #[.slice A q.length c,.int .i64 0])/\Sl w' w'.heap.size 3 A q.length (flat itC q)/\q.length<=c/\c<=maxLen/\Ply w' w.heap.size A0 c0 p A c q)∨ (dE p x=none/\e= .returned (.tuple #[.slice none 0 0,.int .i64 16])))/\Tf w w'
theorem PD{p:List Itm}{d:Dig}{b:SY}(hf:bM p d=some b):∃i,p[atD p d]? =some i/\i.2=b/\atD p d<p.length:=by
 unfold bM at hf;cases hi:p[atD p d]? with
 | none=>rw[hi]at hf;cases hf
 | some i =>
   rw[hi]at hf;simp only at hf;split at hf
   . exact⟨i,rfl,by cases hf;rfl,(List.getElem?_eq_some_iff.1 hi).1⟩
   . cases hf
theorem IX(A:OA)(n c B:Nat)(p:List Itm)(x:Itm)(w:SX)(h0:Sl w B 3 A n (flat itC p))(hB:B<=w.heap.size)(hnc:n<=c)(hcm:c<=maxLen)(hn:n<=900000)(ha:AscI p) :
  Calls Tryz.prog 127 #[.slice A n c,itV x] w (Hq A c p x w):=by
 have HL:=ai (h0.len dA (by omega));have HAS:=ai ha;have HCM:=ai hcm;have r:=ai hnc;obtain⟨⟨d1,d2⟩,s⟩:=x;obtain⟨W,hW⟩:=NX9 (w.alloc (.cells #[.int .u64 d1,.int .u64 d2,.string s] 118))
 have HB0:Ti w W:=by rw[<-hW];exact(ah _ w).alloc aj _
 have HK:Hid (Bk W w.heap.size 118 #[.int .u64 d1,.int .u64 d2,.string s]):=by rw[<-hW];exact Bk.new w _ _
 have q:w.heap.size<W.heap.size:=HK.o.lt;have HC:=ai (wM A n c B p (d1,d2) W (h0.below HB0.o hB) (ZY hB HB0.o.size) (by omega) ha);have H0:=ai h0;clear h0 ha hcm;unfold BsE at HC;simp only[aG,itV]at HC ⊢;obtain⟨x0,x1,x2⟩:=HK.o.three;obtain⟨m,hm⟩:=NX9 (atD p (d1,d2))
 have HM:=ai hm;rw[hm]at HC;have hmn:m<=n:=by rw[<-hm,<-HL.o];exact Gn _ _
 cases hf:bM p (d1,d2) with
 | none =>
   have HN:Hid (dE p ((d1,d2),s)=some (p.take m++ [((d1,d2),s)]++p.drop m)):=by
    show _=_;unfold dE;simp only[hf,HM.o]
   have HQ:Hid ((p.take m++ [((d1,d2),s)]++p.drop m).length=m+1+ (n - m)):=by
    show _=_;rw[af,af,List.length_take,List.length_drop,HL.o,Nat.min_eq_left hmn];rfl
   rw[hf]at HC;simp only[Option.isSome_none]at HC;obtain⟨i0,hi,hz0,hz1,hz2⟩:=info_parts lM;have tk:=qW (P:=Tryz.prog) 29 i0 Tryz.underlying29 hi A n c m (by omega);obtain⟨d,hAr,hAk⟩:=Ic (P:=Tryz.prog) 29 i0 Tryz.underlying29 hi hz1 A n c m hmn hnc;have t:=ai hAk;clear hf hm hi hz0 hz1 hz2 hAk
   go_enter Tryz.func127,Tryz.ntmps127
   go_wp2_with fail;refine HC.o.mono ?_;rintro e w2 ⟨rfl,hb⟩;have HB2:Ti w w2:=HB0.o.trans (hb.mono HB0.o.size);have g:=ai (HK.o.below hb q);have u:w.heap.size<w2.heap.size:=Nat.lt_of_lt_of_le q hb.size;have HS2:=ai (H0.o.below HB2.o hB);obtain⟨k0,k1,k2⟩:=g.o.three;have hB2:B<=w2.heap.size:=by omega
   clear hb HC x0 x1 x2 hW;have y:Hid (∀x∈ [(4,SlI ((d1,d2),s)),(8,Sl3 A m c d (n - m) (c - m) ((d1,d2),s)),(9,RsP w2.heap.size (m+1+ (n - m)) (p.take m++ [((d1,d2),s)]++p.drop m))],∀v W W',x.2 v W->Tf W W'->x.2 v W'):=fun x hx v W W' h hb=>by
    simp only[List.mem_cons,List.not_mem_nil,or_false]at hx;rcases hx with rfl | rfl | rfl
    . exact SlI.keep h hb
    . exact Sl3.keep h hb
    . exact RsP.keep h hb
   go_wp2_with fail;refine kz 10 (17::18::19::20::21::22::23::24::25::26:: []) (by kernel_rfl) (by kernel_rfl) (by kernel_rfl) (fun W=>Tf w2 W) (fun W W'=>Tf W W')
    (lS [(4,SlI ((d1,d2),s)),(8,Sl3 A m c d (n - m) (c - m) ((d1,d2),s)),(9,RsP w2.heap.size (m+1+ (n - m)) (p.take m++ [((d1,d2),s)]++p.drop m))] ((.slice A n c):: (.int .i64 m):: (.slice A m c):: (.agg #[.int .u64 d1,.int .u64 d2,.string s]):: (undef):: (.slice A n c):: (.int .i64 m):: (.slice d (n - m) (c - m)):: (undef):: (undef):: [])) (fun W W' h1 h2=>h1.trans (h2.mono h1.size)) (fun i v W W' h hb=>rZ y.o i v W W' h hb) (ah _ _).drew ?stepA ?tailA
   case stepA =>
    intro i o vs W hi ho hv hR a;obtain⟨v0,v1,v2,v3,v4,v5,v6,v7,v8,v9,rfl⟩:=Hf hv;simp only[List.zip,List.zipWith,aV,Act.put,List.setIfInBounds_toArray,List.set];have E:=hR.size;have g0:=(hR.cell (p:=⟨w.heap.size,0,none⟩) (by show w.heap.size<_;omega)).trans k0;have g1:=(hR.cell (p:=⟨w.heap.size,1,none⟩) (by show w.heap.size<_;omega)).trans k1;have g2:=(hR.cell (p:=⟨w.heap.size,2,none⟩) (by show w.heap.size<_;omega)).trans k2
    match i,hi,ho with
    | 0,_,rfl =>
      exact .inl ⟨rfl,aA (v:= .slice A n c) (w':=W) (by go_simp) ⟨ah _ _,fun _=>az⟩⟩
    | 1,_,rfl =>
      exact .inl ⟨rfl,aA (v:= .int .i64 m) (w':=W) (by go_simp) ⟨ah _ _,fun _=>az⟩⟩
    | 2,_,rfl =>
      have e0:v0=_:=a ⟨0,.data⟩ (by simp) rfl v0 rfl _ rfl;have e1:v1=_:=a ⟨1,.data⟩ (by simp) rfl v1 rfl _ rfl;subst e0 e1;exact .inl ⟨rfl,aA (v:= .slice A m c) (w':=W) (by go_simp) ⟨ah _ _,fun _=>az⟩⟩
    | 3,_,rfl =>
      exact .inl ⟨rfl,aA (v:= .agg #[.int .u64 d1,.int .u64 d2,.string s]) (w':=W) (by go_simp) ⟨ah _ _,fun _=>az⟩⟩
    | 4,_,rfl =>
      have e3:v3=_:=a ⟨3,.data⟩ (by simp) rfl v3 rfl _ rfl;subst e3;exact .inl ⟨rfl,aA (v:= .slice (some ⟨W.heap.size,0,none⟩) 1 1) (w':=W.alloc (.cells #[.int .u64 d1,.int .u64 d2,.string s] 118)) (by go_simp) ⟨(ah _ W).alloc aj _,W.heap.size,rfl,Bk.new W _ _⟩⟩
    | 5,_,rfl =>
      exact .inl ⟨rfl,aA (v:= .slice A n c) (w':=W) (by go_simp) ⟨ah _ _,fun _=>az⟩⟩
    | 6,_,rfl =>
      exact .inl ⟨rfl,aA (v:= .int .i64 m) (w':=W) (by go_simp) ⟨ah _ _,fun _=>az⟩⟩
    | 7,_,rfl =>
      have e5:v5=_:=a ⟨5,.data⟩ (by simp) rfl v5 rfl _ rfl;have e6:v6=_:=a ⟨6,.data⟩ (by simp) rfl v6 rfl _ rfl;subst e5 e6;exact .inl ⟨rfl,aA (v:= .slice d (n - m) (c - m)) (w':=W) (by go_simp) ⟨ah _ _,fun _=>az⟩⟩
    | 8,_,rfl =>
      have e2:v2=_:=a ⟨2,.data⟩ (by simp) rfl v2 rfl _ rfl;obtain⟨b0,rfl,hb0⟩: (SlI ((d1,d2),s)) v4 W:=a ⟨4,.data⟩ (by simp) rfl v4 rfl;have e7:v7=_:=a ⟨7,.data⟩ (by simp) rfl v7 rfl _ rfl;subst e2 e7;exact .inl ⟨rfl,aA (v:= .slice (some ⟨W.heap.size,0,none⟩) 3 3) (w':=W.alloc (.cells #[.slice A m c,.slice (some ⟨b0,0,none⟩) 1 1,.slice d (n - m) (c - m)] 29)) (by go_simp) ⟨(ah _ W).alloc aj _,b0,W.heap.size,rfl,Bk.new W _ _,hb0.alloc _⟩⟩
    | 9,_,rfl =>
      obtain⟨b0,b1,rfl,hb1,hb0⟩: (Sl3 A m c d (n - m) (c - m) ((d1,d2),s)) v8 W:=a ⟨8,.data⟩ (by simp) rfl v8 rfl;refine .inl ⟨rfl,iE (f:=211) (args:=#[.slice (some ⟨b1,0,none⟩) 3 3]) (by go_simp) ((J8 b1 W.heap.size _ A (some ⟨b0,0,none⟩) d m 1 (n - m) c 1 (c - m) (p.take m) [((d1,d2),s)] (p.drop m) W hb1 (((HS2.o.it_take hmn).below hR hB2).more (ZY hB2 hR.size)) (Pz hb0) ((by rw[Dc dA];exact t.o W B _ (HS2.o.below hR hB2):Sl W B 3 d (n - m) (flat itC (p.drop m))).more (ZY hB2 hR.size)) aj (by omega) (by omega)).mono ?_)⟩;rintro e W' ⟨A9,c9,rfl,z,C,j,k⟩;exact⟨_,rfl,C,⟨A9,c9,rfl,lX (z.own (by omega)) hR.size,j,k⟩⟩
    | i+10,hi,_=>exact absurd hi (by omega)
   case tailA =>
    intro vs W hv hR a;obtain⟨v0,v1,v2,v3,v4,v5,v6,v7,v8,v9,rfl⟩:=Hf hv;simp only[List.zip,List.zipWith,aV,Act.put,List.setIfInBounds_toArray,List.set,List.drop];have e0:v0=_:=a 0 v0 rfl _ rfl;have e1:v1=_:=a 1 v1 rfl _ rfl;have e2:v2=_:=a 2 v2 rfl _ rfl;have e3:v3=_:=a 3 v3 rfl _ rfl;have e4: (SlI ((d1,d2),s)) v4 W:=a 4 v4 rfl;have e5:v5=_:=a 5 v5 rfl _ rfl;have e6:v6=_:=a 6 v6 rfl _ rfl;have e7:v7=_:=a 7 v7 rfl _ rfl;have e8: (Sl3 A m c d (n - m) (c - m) ((d1,d2),s)) v8 W:=a 8 v8 rfl;have e9: (RsP w2.heap.size (m+1+ (n - m)) (p.take m++ [((d1,d2),s)]++p.drop m)) v9 W:=a 9 v9 rfl;subst e0 e1 e2 e3 e5 e6 e7;clear a hv;obtain⟨A9,c9,rfl,hs9,j,k⟩:=e9;have HR:=ai hR;clear hR;go_wp2_with fail;go_ret2
    exact⟨.inl ⟨_,A9,c9,HN.o,by rw[HQ.o];rfl,by rw[HQ.o];exact Sl.of_own hs9,by rw[HQ.o];exact j,k,.inr (by rw[HQ.o];exact lX hs9 (by omega))⟩,HB2.o.trans (HR.o.mono HB2.o.size)⟩
 | some b =>
   obtain⟨i,hi,hib,hil⟩:=PD hf;rw[hm]at hi hil;have hlt:m<n:=by rw[<-HL.o];exact hil
   have l:Hid (dE p ((d1,d2),s)=if b=s then some p else none):=by
    show _=_;unfold dE;simp only[hf]
   rw[hf]at HC;simp only[Option.isSome_some]at HC;clear hf hm hil
   go_enter Tryz.func127,Tryz.ntmps127
   go_wp2_with fail;refine HC.o.mono ?_;rintro e w2 ⟨rfl,hb⟩;have HB2:Ti w w2:=HB0.o.trans (hb.mono HB0.o.size);have g:=ai (HK.o.below hb q);have u:w.heap.size<w2.heap.size:=Nat.lt_of_lt_of_le q hb.size;have HS2:=ai (H0.o.below HB2.o hB);obtain⟨bb,off,i',rfl,hbB,hx,y0,y1,y2⟩:=HS2.o.it hlt;rw[hi]at hx;obtain rfl:=Option.some.inj hx;rw[hib]at y2;obtain⟨k0,k1,k2⟩:=g.o.three;have hB2:B<=w2.heap.size:=by omega
   have D: (m:Int)< (n:Int):=by omega
   clear hb HC x0 x1 x2 hW hi hx;have t2:=lF b s;by_cases hbs:b=s
   . have HN:Hid (dE p ((d1,d2),s)=some p):=by show _=_;rw[l.o,if_pos hbs]
     have l1: (b.toList != s.toList)=!(decide (b=s)):=by rw[<-lF];rfl
     rw[decide_eq_true hbs]at t2 l1;clear hbs;go_wp2_with fail
     go_quiet(fail)
     go_wp2_with fail;go_ret2
     exact⟨.inl ⟨p,some ⟨bb,off,none⟩,c,HN.o,by rw[HL.o];rfl,by rw[HL.o];exact HS2.o.more hB2,by rw[HL.o];exact r.o,HCM.o,.inl ⟨rfl,rfl,rfl⟩⟩,dm HB2.o _⟩
   . have HN:Hid (dE p ((d1,d2),s)=none):=by show _=_;rw[l.o,if_neg hbs]
     have l1: (b.toList != s.toList)=!(decide (b=s)):=by rw[<-lF];rfl
     rw[decide_eq_false hbs]at t2 l1;clear hbs;go_wp2_with fail
     go_quiet(fail)
     go_wp2_with fail;go_ret2
     exact⟨.inr ⟨HN.o,rfl⟩,dm HB2.o _⟩
section
variable {P : Program} {Q : Exit -> Act -> SX -> Prop}
theorem Hy{id:Nat}{l:List Oper}{a0:Act}{w0:SX}(n m:Nat)(hm:P.follows .mixedOrders=true)(hB:mW l n=true)
  (R:Bool->SX->Prop) (E:Bool->SX->SX->Prop) (Φ:Nat->Tc->SX->Prop) (hR:∀b w w',R b w->E b w w'->R b w') (hΦ:∀b i v w w',(i=m->b=true)->Φ i v w->E b w w'->Φ i v w')
  (h0:R false {w0 with drawn:=w0.drawn+1})
  (hstep:∀(b:Bool)(i:Nat)(o:Oper)(vs:List Tc)(w:SX),i<n->i≠m-> (∀om,l[m]? =some om-> (∃e∈om.after,Region.binds .any e=true/\e.on=i)->b=false)->l[i]? =some o->vs.length=n->R b w-> (∀e∈o.after,Region.binds .any e=true->∀v,vs[e.on]? =some v->Φ e.on v w) ->
    nI P l.toArray o (aV a0 ((dstsOf l n).zip vs)) w fun v w'=>E b w w'/\Φ i v w')
  (hturn:∀(o:Oper)(vs:List Tc)(w:SX),l[m]? =some o->vs.length=n->R false w-> (∀e∈o.after,Region.binds .any e=true->∀v,vs[e.on]? =some v->Φ e.on v w) ->
    nI P l.toArray o (aV a0 ((dstsOf l n).zip vs)) w fun v w'=>R true w'/\Φ m v w'/\∀i u,i≠m->Φ i u w->Φ i u w')
  (hmn:m<n)
  (htail:∀(vs:List Tc)(w:SX),vs.length=n->R true w-> (∀i v,vs[i]? =some v->Φ i v w)->wpList P l.toArray Q (l.drop n) (aV a0 ((dstsOf l n).zip vs)) w) :
  (Code.region id l.toArray true).wp P Q a0 w0:=by
 simp only[mW,Bool.and_eq_true,decide_eq_true_eq,List.all_eq_true]at hB;obtain⟨⟨⟨⟨⟨⟨hn,hs⟩,hc⟩,hseq⟩,hdst⟩,hnd⟩,hback⟩:=hB;have hdl: (dstsOf l n).length=n:=by simp[dstsOf];omega
 refine wp_region_any hm ?_
 -- the state:which operations have been carried out,what the temporaries hold
 have main:∀(f:Nat)(listed:Array Bool)(vs:List Tc)(w:SX),HeadInv .any l.toArray n listed->vs.length=n->R (listed.getD m false) w ->
   (∀i v,i<n->listed.getD i false=true->vs[i]? =some v->Φ i v w)-> (listed.toList.take n).count false=f ->
   wpAny P .any l.toArray Q (f+ (l.length - n)) listed (aV a0 ((dstsOf l n).zip vs)) w:=by
  intro f
  induction f with
  | zero =>
    intro listed vs w inv hv hw g hcnt;have hall:∀i,i<n->listed.getD i false=true:=by
     intro i hi;have hsz:i<listed.size:=by rw[inv.size];simp;omega
     have hmem:listed.toList[i]? =some listed[i]:=by simp[hsz]
     have hne:listed[i]≠false:=by
      intro e;have hm2:false∈listed.toList.take n:=by
       rw[List.mem_take_iff_getElem];exact⟨i,by simp;omega,by simpa using e⟩
      have:=List.count_pos_iff.2 hm2;omega
     simp[hsz];simpa using hne
    have hfull:listed=jE l n:=by
     apply Array.ext
     . rw[inv.size];simp[jE]
     . intro i h1 h2
       have hil:i<l.length:=by rw[inv.size]at h1;simpa using h1
       simp only[jE,List.getElem_toArray,List.getElem_map,List.getElem_range];by_cases hi:i<n
       . have:=hall i hi;simp[h1]at this;simp[this,hi]
       . have:=inv.tail i (by omega) (by simpa using hil);simp[h1]at this;simp[this,hi]
    subst hfull;have hmt: (jE l n).getD m false=true:=hall m hmn;rw[hmt]at hw;have hw':=htail vs w hv hw (fun i v hi=>g i v (by have:=(List.getElem?_eq_some_iff.1 hi).1;omega) (hall i (by have:=(List.getElem?_eq_some_iff.1 hi).1;omega)) hi);have:=wpAny_of_seq (md:= .any) (Q':=Q) (l.drop n) n (jE l n) _ w (fun j=>by simp[List.getElem?_drop]) (by rw[List.length_drop];exact hseq) hw';rw[List.length_drop]at this
    simpa using this
  | succ f ih =>
    intro listed vs w inv hv hw g hcnt;have hun:∃i,i<n/\listed.getD i true=false:=by
     have:0< (listed.toList.take n).count false:=by omega
     have hm2:=List.count_pos_iff.1 this;rw[List.mem_take_iff_getElem]at hm2;obtain⟨i,hi,hv2⟩:=hm2;refine⟨i,by simp at hi;omega,?_⟩;have hsz:i<listed.size:=by simp at hi;omega
     rw[Array.getD_eq_getD_getElem?,Array.getElem?_eq_getElem hsz];simpa using hv2
    rw[show f+1+ (l.length - n)= (f+ (l.length - n))+1 by omega];obtain⟨i0,hi0,hu0⟩:=hun;have a:∀i∈Region.ready .any l.toArray listed,i<n:=by
     intro i hi;rcases Nat.lt_or_ge i n with h | h
     . exact h
     . exact absurd hi (tail_waits hs hc (by simpa using hn) inv _ i0 rfl hi0 hu0 i h)
    have hne:Region.ready .any l.toArray listed≠ []:=by
     -- the first operation that is not yet carried out and whose own conditions are all met:by the least such index
     intro hnil;obtain⟨m,hm1,hm2⟩:∃m,(m<n/\listed.getD m true=false)/\∀k,k<m->¬(k<n/\listed.getD k true=false):=by
      have:∀m,(m<n/\listed.getD m true=false)->∃m,(m<n/\listed.getD m true=false)/\∀k,k<m->¬(k<n/\listed.getD k true=false):=by
       intro m
       induction m using Nat.strongRecOn with
       | _ m ihm =>
         intro h;by_cases hex:∃k,k<m/\ (k<n/\listed.getD k true=false)
         . obtain⟨k,hk,hk2⟩:=hex;exact ihm k hk hk2
         . exact⟨m,h,fun k hk hk2=>hex ⟨k,hk,hk2⟩⟩
      exact this i0 ⟨hi0,hu0⟩
     have hml:m<l.length:=by omega
     have hmo:l[m]? =some l[m]:=Z5 hml;have hb1:=hback m (List.mem_range.2 hm1.1);rw[hmo]at hb1;simp only at hb1;have hmr:m∈Region.ready .any l.toArray listed:=by
      refine mem_ready.2 ⟨hm1.2,l[m],by simp,fun e he _=>?_⟩;have hlt:e.on<m:=by
       have:=(Array.all_eq_true_iff_forall_mem.1 hb1) e he
       simpa using this
      have hnot:=hm2 e.on hlt;cases hx:listed.getD e.on true with
      | true =>
        have hsz:e.on<listed.size:=by rw[inv.size];simp;omega
        simp[hsz]at hx ⊢;exact hx
      | false=>exact absurd ⟨by omega,hx⟩ hnot
     rw[hnil]at hmr;cases hmr
    refine⟨fun h=>absurd h hne,fun i hi=>?_⟩;have hin:=a i hi;obtain⟨hlf,o,ho,s⟩:=mem_ready.1 hi;have ho':l[i]? =some o:=by simpa using ho
    have hmem:o∈l.take n:=List.mem_take_iff_getElem.2 ⟨i,(by have:=(List.getElem?_eq_some_iff.1 ho').1;omega),(List.getElem?_eq_some_iff.1 ho').2⟩;have hdo:=hdst o hmem;obtain⟨d,hd⟩:=Option.isSome_iff_exists.1 hdo;have hdi: (dstsOf l n)[i]? =some d:=by
     simp[dstsOf,hin,ho',hd]
    have q:∀e∈o.after,Region.binds .any e=true->∀v,vs[e.on]? =some v->Φ e.on v w:=fun e he hb v hve=>by
     have hle:=s e he hb;have hen:e.on<n:=by have:=(List.getElem?_eq_some_iff.1 hve).1;omega
     exact g e.on v hen hle hve
    have hsz:i<listed.size:=by rw[inv.size];simp;omega
    have x:listed.toList[i]? =some false:=by
     simp[hsz]at hlf ⊢;exact hlf
    have hgo:∀v w',R ((listed.setIfInBounds i true).getD m false) w'->Φ i v w'-> (∀j u,j≠i->j<n->listed.getD j false=true->Φ j u w->Φ j u w')->wpAny P .any l.toArray Q (f+ (l.length - n)) (listed.setIfInBounds i true) ((aV a0 ((dstsOf l n).zip vs)).put o.dst v) w':=?hgo
    case hgo =>
     intro v w' hv1 hv2 hv3;rw[hd,<-vK a0 (dstsOf l n) vs i d v hnd (by rw[hdl,hv]) hdi];refine ih (listed.setIfInBounds i true) (vs.set i v) w' (inv.set hi hin) (by simpa using hv) hv1 ?_ ?_
     . intro j u hj hlj p
       by_cases e:j=i
       . subst e
         have hjl:j<vs.length:=by omega
         rw[List.getElem?_set_self hjl]at p;cases p;exact hv2
       . rw[List.getElem?_set_ne (fun h=>e h.symm)]at p
         rw[getD_set_ne false (fun h=>e h.symm)]at hlj;exact hv3 j u e hj hlj (g j u hj hlj p)
     . have: (listed.setIfInBounds i true).toList.take n= (listed.toList.take n).set i true:=by
         rw[Array.toList_setIfInBounds,List.take_set]
       rw[this];have h2:=Ar (l:=listed.toList.take n) (i:=i) (by rw[List.getElem?_take,if_pos hin];exact x);omega
    have r:listed.getD i false=false:=getD_both hlf;by_cases him:i=m
    . subst him
      have c:=hturn o vs w ho' hv (by rw[r]at hw;exact hw) q;have hset: (listed.setIfInBounds i true).getD i false=true:=by simp[hsz]
      have hgo':∀v w',(R true w'/\Φ i v w'/\∀j u,j≠i->Φ j u w->Φ j u w')->wpAny P .any l.toArray Q (f+ (l.length - n)) (listed.setIfInBounds i true) ((aV a0 ((dstsOf l n).zip vs)).put o.dst v) w':=fun v w' h=>hgo v w' (by rw[hset];exact h.1) h.2.1 (fun j u hj _ _ hp=>h.2.2 j u hj hp);unfold wpOp;simp only[ho];rcases c with ⟨hw1,hw2⟩ | ⟨hw1,hw2⟩
      . rw[if_pos hw1]
        exact .inl (hw2 _ _ hgo')
      . rw[if_neg (by rw[hw1];simp)]
        exact hgo' undef w hw2
    . have hset: (listed.setIfInBounds i true).getD m false=listed.getD m false:=getD_set_ne false him
      have c:=hstep (listed.getD m false) i o vs w hin him (fun om hom ⟨e,he,hb,heo⟩=>by
       cases hx:listed.getD m false with
       | false=>rfl
       | true =>
         have:=inv.closed m om (by simpa using hom) hx e he hb;rw[heo,r]at this;cases this) ho' hv hw q
      have hgo':∀v w',(E (listed.getD m false) w w'/\Φ i v w')->wpAny P .any l.toArray Q (f+ (l.length - n)) (listed.setIfInBounds i true) ((aV a0 ((dstsOf l n).zip vs)).put o.dst v) w':=fun v w' h=>hgo v w' (by rw[hset];exact hR _ w w' hw h.1) h.2 (fun j u _ _ hlj hp=>hΦ _ j u w w' (fun e=>by subst e;exact hlj) hp h.1);unfold wpOp;simp only[ho];rcases c with ⟨hw1,hw2⟩ | ⟨hw1,hw2⟩
      . rw[if_pos hw1]
        exact .inl (hw2 _ _ hgo')
      . rw[if_neg (by rw[hw1];simp)]
        exact hgo' undef w hw2
 have inv0:HeadInv .any l.toArray n (Array.replicate l.toArray.size false) :=
  ⟨by simp,fun j oj _ hl=>(by rw[getD_replicate_false]at hl;cases hl),fun t _ ht=>getD_in (by simpa using ht) (getD_replicate_false _ _)⟩
 have:=main n (Array.replicate l.toArray.size false) ((dstsOf l n).map fun d=>a0.tmps.getD d undef) _ inv0 (by simpa using hdl) (by rw[getD_replicate_false];exact h0)
  (fun i v _ hl _=>by rw[getD_replicate_false]at hl;cases hl) (by simp;omega)
 rw[vg,show n+ (l.length - n)=l.toArray.size by simp;omega]at this;exact this
theorem zG{id:Nat}{l:List Oper}{a0:Act}{w0:SX}(n m:Nat)(ds:List Tmp)(hm:P.follows .mixedOrders=true)(hB:mW l n=true)(hds:dstsOf l n=ds)
  (R:Bool->SX->Prop) (E:Bool->SX->SX->Prop) (Φ:Nat->Tc->SX->Prop) (hR:∀b w w',R b w->E b w w'->R b w') (hΦ:∀b i v w w',(i=m->b=true)->Φ i v w->E b w w'->Φ i v w')
  (h0:R false w0.drew)
  (hstep:∀(b:Bool)(i:Nat)(o:Oper)(vs:List Tc)(w:SX),i<n->i≠m-> (∀om,l[m]? =some om-> (∃e∈om.after,Region.binds .any e=true/\e.on=i)->b=false)->l[i]? =some o->vs.length=n->R b w-> (∀e∈o.after,Region.binds .any e=true->∀v,vs[e.on]? =some v->Φ e.on v w) ->
    nI P l.toArray o (aV a0 (ds.zip vs)) w fun v w'=>E b w w'/\Φ i v w')
  (hturn:∀(o:Oper)(vs:List Tc)(w:SX),l[m]? =some o->vs.length=n->R false w-> (∀e∈o.after,Region.binds .any e=true->∀v,vs[e.on]? =some v->Φ e.on v w) ->
    nI P l.toArray o (aV a0 (ds.zip vs)) w fun v w'=>R true w'/\Φ m v w'/\∀i u,i≠m->Φ i u w->Φ i u w')
  (hmn:m<n)
  (htail:∀(vs:List Tc)(w:SX),vs.length=n->R true w-> (∀i v,vs[i]? =some v->Φ i v w)->wpList P l.toArray Q (l.drop n) (aV a0 (ds.zip vs)) w) :
  (Code.region id l.toArray true).wp P Q a0 w0:=by
 subst hds;exact Hy n m hm hB R E Φ hR hΦ h0 hstep hturn hmn htail
end
def jl(k:Nat)(vals:List Tc)(base:Nat)(t:TypeId)(cs:Array Tc)(i:Nat)(v:Tc)(W:SX):Prop :=
 if i=k then ∃b0,v= .slice (some ⟨b0,0,none⟩) 1 1/\base<=b0/\Bk W b0 t cs else nP vals i v W
theorem Bq{k:Nat}{vals:List Tc}{base:Nat}{t:TypeId}{cs:Array Tc}(i:Nat)(v:Tc)(W W':SX)(h:jl k vals base t cs i v W)(hb:Tf W W'):jl k vals base t cs i v W':=by
 unfold jl at h ⊢;by_cases e:i=k
 . rw[if_pos e]at h ⊢
   obtain⟨b0,h1,h2,h3⟩:=h;exact⟨b0,h1,h2,h3.below hb h3.lt⟩
 . rw[if_neg e]at h ⊢;exact h
theorem lK:∀(k n j:Nat),j<k-> (be k n)[j]? =some (UInt8.ofNat (n / 256 ^ (k - 1 - j) % 256))
 | 0,_,_,h=>by omega
 | k+1,n,0,_=>by simp[be]
 | k+1,n,j+1,h=>by
   simp only[be,List.getElem?_cons_succ];rw[lK k n j (by omega),show k+1 - 1 - (j+1)=k - 1 - j by omega]
theorem Txt.run_append_far{P:Program}{w0 w:SX}{base av n c:Nat}{A:OA}{bs:Td}(h0:Txt w0 base av A n c bs)(hW:Tf w0 w)(t tx ty e:TypeId)(i:TypeInfo)(ht:P.underlying t=some (.slice e))(hi:P.info? e=some i)(hz:i.zero=some (.int .u8 0))(hsize:i.size=1)(hby:i.bytes=1)
  (x:Tc) (m:Nat) (ys:Td) (hs:Src P 1 tx x m (bc ys) w) (hmax:n+m<=140737488355328) (hbase:base<=w.heap.size) (hav:av<w.heap.size) :
  ∃A' c' w',(Builtin.append_ #[t,tx] ty #[.slice A n c,x]).run P w= .ok (.slice A' (n+m) c') w'/\Txt w' base av A' (n+m) c' (bs++ys)/\Below base w w'/\w'.heap[av]? =w.heap[av]? /\∀k,w0.heap.size<=k->k<w.heap.size->w'.heap[k]? =w.heap[k]? :=by
 obtain⟨A',c',w',hr,h1,h2,h3⟩:=(h0.below hW).run_append (P:=P) t tx ty e i ht hi hz hsize hby x m ys hs hmax hbase hav;refine⟨A',c',w',hr,h1,h2,h3,fun k hk1 hk2=>?_⟩;obtain⟨A2,c2,w2,hr2,_,_,g3⟩:=((h0.avoid hk1).below hW).run_append (P:=P) t tx ty e i ht hi hz hsize hby x m ys hs hmax hbase hk2;have e:=hr.symm.trans hr2;simp only[Result.ok.injEq]at e;rw[e.2];exact g3
def WdP(b base:Nat)(bs:Td)(w:SX)(v:Tc)(w1:SX):Prop:=∃A c,v= .slice A bs.length c/\Txt w1 base b A bs.length c bs/\Below base w w1/\w1.heap[b]? =w.heap[b]?
theorem AQ(b base:Nat)(d:Dig)(hd:WfD d)(bs:Td)(w:SX)(h:Wrt w b base bs)(hn:bs.length<=1000000) :
  Calls Tryz.prog 207 #[.pointer (some ⟨b,0,none⟩),aG d] w (yR b base (bs++ay d) w):=by
 obtain⟨x,y⟩:=d;obtain⟨hx0,hx1,hy0,hy1⟩:=hd;simp only at hx0 hx1 hy0 hy1;obtain⟨x,rfl⟩:=Int.eq_ofNat_of_zero_le hx0;obtain⟨y,rfl⟩:=Int.eq_ofNat_of_zero_le hy0;have r:=ai hx1;have s:=ai hy1;clear hx0 hx1 hy0 hy1;show Calls Tryz.prog 207 #[.pointer (some ⟨b,0,none⟩),.agg #[.int .u64 x,.int .u64 y]] w _;obtain⟨i0,hi,hz0,hz1,hz2⟩:=info_parts nC;have Hi:=ai hi;have t:=ai hz0;have B:=ai hz1;have C:=ai hz2;have hlt:=h.lt;have hle:=h.le;obtain⟨W0,hW0⟩:=NX9 (w.alloc (.cells #[.int .u64 x,.int .u64 y] 50))
 have HB0:Ti w W0:=by rw[<-hW0];exact(ah _ _).alloc aj _
 have D:Hid (Bk W0 w.heap.size 50 #[.int .u64 x,.int .u64 y]):=by rw[<-hW0];exact Bk.new w _ _
 obtain⟨x0,x1,_,_⟩:=D.o.two;have HR0:Hid (Wrt W0 b base (bs++ (ay (x,y)).take (8*0))):=by
  show Wrt _ _ _ _;rw[Nat.mul_zero,List.take_zero,List.append_nil];exact h.below HB0.o
 have HB1:Hid (Below b w W0):=HB0.o.mono (by omega);have hz0':w.heap.size<=W0.heap.size:=HB0.o.size;clear hi hz0 hz1 hz2 h
 go_enter Tryz.func207,Tryz.ntmps207
 go_wp2_with fail;clear hW0
 go_loopw[8] (fun i wr=>∃k:Nat,k<=2/\i= .int .i64 k/\Hid (Wrt wr b base (bs++ (ay (x,y)).take (8*k)))/\Hid (Below b w wr)/\w.heap.size<=wr.heap.size) (fun i _=>2 - (intOf i).toNat)
 case atStart=>exact⟨0,by omega,rfl,HR0.o,HB1.o,hz0'⟩
 case round =>
  obtain⟨k,hk,rfl,hT,hB,hwz⟩:=hrel;by_cases hlt2:k<2
  . have hlz: (k:Int)<2:=by omega
    obtain⟨z,hz,hix,hby⟩:∃z:Nat,Hid (z<18446744073709551616)/\ (∀w,(Instr.index 50 (.agg #[.int .u64 (x:Int),.int .u64 (y:Int)]) (.int .i64 (k:Int))).run Tryz.prog w= .ok (.int .u64 (z:Int)) w)/\ (∀j,j<8-> (ay ((x:Int),(y:Int)))[8*k+j]? =some (UInt8.ofNat (z / 256 ^ (7 - j) % 256))):=by
     rcases Nat.lt_or_ge k 1 with h1 | h1
     . obtain rfl:k=0:=by omega
       refine⟨x,by show _<_;have:=r.o;omega,fun w=>by kernel_rfl,fun j hj=>?_⟩;unfold ay;rw[List.getElem?_append_left (by rw[iF];omega),Int.toNat_natCast,show 8*0+j=j by omega];exact lK 8 x j hj
     . obtain rfl:k=1:=by omega
       refine⟨y,by show _<_;have:=s.o;omega,fun w=>by kernel_rfl,fun j hj=>?_⟩;unfold ay;rw[List.getElem?_append_right (by rw[iF];omega),Int.toNat_natCast,iF,show 8*1+j - 8=j by omega];exact lK 8 y j hj
    have E:=ai hby;clear hby;go_wp2_with fail;obtain⟨M,rfl⟩:∃M:SX,M=wr:=⟨_,rfl⟩
    go_loopw[6] (fun i wr=>∃j:Nat,j<=8/\i= .int .i64 (56 - 8* (j:Int))/\Hid (Wrt wr b base (bs++ (ay (x,y)).take (8*k+j)))/\Hid (Below b w wr)/\w.heap.size<=wr.heap.size) (fun i _=>(intOf i+8).toNat)
    case atStart=>exact⟨0,by omega,rfl,hT,hB,hwz⟩
    case round =>
     obtain⟨j,hj,rfl,hT,hB,hwz⟩:=hrel;by_cases hlt:j<8
     . have hji: (0:Int)<=56 - 8* (j:Int):=by omega
       obtain⟨p,hp⟩:=NX9 (z / 256 ^ (7 - j))
       have hsh:∀yk,Op.shift .shr .u64 (z:Int) yk (56 - 8* (j:Int))=pure (.int .u64 (p:Int)):=fun yk=>by
        rw[shift_shr .u64 yk _ _ hji (by show _<= (64:Int);omega),<-hp];rw[show(56 - 8* (j:Int)).toNat=8* (7 - j) by omega];have e: ((z:Int) / 2 ^ (8* (7 - j)))= ((z / 256 ^ (7 - j):Nat):Int):=by
         rw[show(256:Nat)=2 ^ 8 from rfl,<-Nat.pow_mul];simp
        rw[e]
       have hdv: (z:Int) / 2 ^ (56 - 8* (j:Int)).toNat= (p:Int):=by
        rw[show(56 - 8* (j:Int)).toNat=8* (7 - j) by omega];have e: ((z:Int) / 2 ^ (8* (7 - j)))= ((z / 256 ^ (7 - j):Nat):Int):=by
         rw[show(256:Nat)=2 ^ 8 from rfl,<-Nat.pow_mul];simp
        rw[e,hp]
       obtain⟨bt,hbt⟩:=NX9 (UInt8.ofNat (p % 256))
       have hw:IntKind.u8.wrap (p:Int)= (bt.toNat:Int):=by
        rw[IntKind.wrap_u8,<-hbt,kD (by omega)];omega
       have F:Hid ((ay ((x:Int),(y:Int)))[8*k+j]? =some bt):=by
        show _=_;rw[E.o j hlt,hp,hbt]
       have g:Hid (bs++ (ay ((x:Int),(y:Int))).take (8*k+j+1)= (bs++ (ay ((x:Int),(y:Int))).take (8*k+j))++ [bt]):=by
        show _=_;rw[aW F.o,ZZ]
       have hml: (bs++ (ay ((x:Int),(y:Int))).take (8*k+j)).length<=1000016:=by rw[af,List.length_take];omega
       obtain⟨cs,hcs⟩:=NX9 (bs++ (ay ((x:Int),(y:Int))).take (8*k+j))
       rw[hcs]at hml g;have hT':=hT.o;rw[hcs]at hT';obtain⟨A,c,hkw,htx⟩:=hT'.ex;have l:=ai hkw;have G:=ai htx;have hbase:=hT'.le;obtain⟨y0,y1,f0,_⟩:=hkw.two;clear hp hbt hcs hkw htx hT' hT x0 x1;generalize hq:56 - 8* (j:Int)=q at *;have HQ:=ai hq;have hq0:0<=q:=by omega
       have hq2:q<=56:=by omega
       have hbr:=l.o.lt;clear hq;go_wp2_with fail;refine zG 11 10 (15::16::17::18::19::20::21::22::23::24::25:: []) (by kernel_rfl) (by kernel_rfl) (by kernel_rfl) (fun b W=>match b with | false=>Tf wr W | true=>True) (fun b W W'=>match b with | false=>Tf W W' | true=>W'=W)
        (fun i v W=>if i=10 then(WdP b base (cs++ [bt]) wr) v W else jl 9 ((.pointer (some ⟨b,0,none⟩)):: (.pointer (some ⟨b,0,none⟩)):: (.pointer (some ⟨b,0,none⟩)):: (.pointer (some ⟨b,0,none⟩)):: (.slice A cs.length c):: (.int .u64 (z:Int)):: (.int .i64 q):: (.int .u64 (p:Int)):: (.int .u8 (bt.toNat:Int)):: (undef):: (undef):: []) wr.heap.size 5 #[.int .u8 (bt.toNat:Int)] i v W) ?hRD ?hPD (ah _ _).drew ?stepD ?turnD (by decide) ?tailD
       case hRD =>
        intro bq W W' h1 h2;cases bq with
        | false=>exact Below.trans h1 (Below.mono h2 (Below.size h1))
        | true=>trivial
       case hPD =>
        intro bq i v W W' hb h1 h2;cases bq with
        | true=>have h3:W'=W:=h2;rw[h3];exact h1
        | false =>
          by_cases e:i=10
          . cases hb e
          . simp only[if_neg e]at h1 ⊢;exact Bq i v W W' h1 h2
       case stepD =>
        intro bq i o vs W hi hne hbd ho hv hR a;obtain⟨v0,v1,v2,v3,v4,v5,v6,v7,v8,v9,v10,rfl⟩:=nS hv;simp only[List.zip,List.zipWith,aV,Act.put,List.setIfInBounds_toArray,List.set];have hE: (fun(b:Bool)(W W':SX)=>match b with | false=>Tf W W' | true=>W'=W) bq W W:=by
         cases bq with
         | false=>exact ah _ _
         | true=>rfl
        match i,hi,ho with
        | 0,_,rfl =>
          exact .inl ⟨rfl,aA (v:= .pointer (some ⟨b,0,none⟩)) (w':=W) (by go_simp) ⟨hE,fun _=>az⟩⟩
        | 1,_,rfl =>
          exact .inl ⟨rfl,aA (v:= .pointer (some ⟨b,0,none⟩)) (w':=W) (by go_simp) ⟨hE,fun _=>az⟩⟩
        | 2,_,rfl =>
          have e1:v1=_:=a ⟨1,.data⟩ (by simp) rfl v1 rfl _ rfl;subst e1;exact .inl ⟨rfl,aA (v:= .pointer (some ⟨b,0,none⟩)) (w':=W) (by go_simp) ⟨hE,fun _=>az⟩⟩
        | 3,_,rfl =>
          have e2:v2=_:=a ⟨2,.data⟩ (by simp) rfl v2 rfl _ rfl;subst e2;exact .inl ⟨rfl,aA (v:= .pointer (some ⟨b,0,none⟩)) (w':=W) (by go_simp) ⟨hE,fun _=>az⟩⟩
        | 4,_,rfl =>
          have e3:v3=_:=a ⟨3,.data⟩ (by simp) rfl v3 rfl _ rfl;subst e3;have hb0:bq=false:=hbd _ rfl ⟨⟨4,.data⟩,by simp,rfl,rfl⟩;subst hb0;have y0':=(Below.cell hR (p:=⟨b,0,none⟩) (by show b<_;omega)).trans y0;exact .inl ⟨rfl,aA (v:= .slice A cs.length c) (w':=W) (by go_simp) ⟨hE,fun _=>az⟩⟩
        | 5,_,rfl =>
          exact .inl ⟨rfl,aA (v:= .int .u64 (z:Int)) (w':=W) (by go_simp) ⟨hE,fun _=>az⟩⟩
        | 6,_,rfl =>
          exact .inl ⟨rfl,aA (v:= .int .i64 q) (w':=W) (by go_simp) ⟨hE,fun _=>az⟩⟩
        | 7,_,rfl =>
          have e5:v5=_:=a ⟨5,.data⟩ (by simp) rfl v5 rfl _ rfl;have e6:v6=_:=a ⟨6,.data⟩ (by simp) rfl v6 rfl _ rfl;subst e5 e6;exact .inl ⟨rfl,aA (v:= .int .u64 (p:Int)) (w':=W) (by go_simp) ⟨hE,fun _=>az⟩⟩
        | 8,_,rfl =>
          have e7:v7=_:=a ⟨7,.data⟩ (by simp) rfl v7 rfl _ rfl;subst e7;exact .inl ⟨rfl,aA (v:= .int .u8 (bt.toNat:Int)) (w':=W) (by go_simp) ⟨hE,fun _=>az⟩⟩
        | 9,_,rfl =>
          have e8:v8=_:=a ⟨8,.data⟩ (by simp) rfl v8 rfl _ rfl;subst e8;have hb0:bq=false:=hbd _ rfl ⟨⟨9,.data⟩,by simp,rfl,rfl⟩;subst hb0;have y0':=(Below.cell hR (p:=⟨b,0,none⟩) (by show b<_;omega)).trans y0;exact .inl ⟨rfl,aA (v:= .slice (some ⟨W.heap.size,0,none⟩) 1 1) (w':=W.alloc (.cells #[.int .u8 (bt.toNat:Int)] 5)) (by go_simp) ⟨(ah _ W).alloc aj _,W.heap.size,rfl,Below.size hR,Bk.new W _ _⟩⟩
        | 10,_,_=>exact absurd rfl hne
        | i+11,hi,_=>exact absurd hi (by omega)
       case turnD =>
        intro o vs W ho hv hR a;obtain⟨v0,v1,v2,v3,v4,v5,v6,v7,v8,v9,v10,rfl⟩:=nS hv;cases ho
        simp only[List.zip,List.zipWith,aV,Act.put,List.setIfInBounds_toArray,List.set];have e4:v4=_:=a ⟨4,.data⟩ (by simp) rfl v4 rfl _ rfl;obtain⟨ab,ea,hab,hak⟩:∃b0,v9= .slice (some ⟨b0,0,none⟩) 1 1/\wr.heap.size<=b0/\Bk W b0 5 #[.int .u8 (bt.toNat:Int)]:=a ⟨9,.data⟩ (by simp) rfl v9 rfl;subst e4 ea;have hR:Tf wr W:=hR;have hall:∀w1:SX,(∀b,wr.heap.size<=b->b<W.heap.size->w1.heap[b]? =W.heap[b]?)->∀(i:Nat)(u:Tc),i≠10-> (if i=10 then(WdP b base (cs++ [bt]) wr) u W else jl 9 ((.pointer (some ⟨b,0,none⟩)):: (.pointer (some ⟨b,0,none⟩)):: (.pointer (some ⟨b,0,none⟩)):: (.pointer (some ⟨b,0,none⟩)):: (.slice A cs.length c):: (.int .u64 (z:Int)):: (.int .i64 q):: (.int .u64 (p:Int)):: (.int .u8 (bt.toNat:Int)):: (undef):: (undef):: []) wr.heap.size 5 #[.int .u8 (bt.toNat:Int)] i u W)-> (if i=10 then(WdP b base (cs++ [bt]) wr) u w1 else jl 9 ((.pointer (some ⟨b,0,none⟩)):: (.pointer (some ⟨b,0,none⟩)):: (.pointer (some ⟨b,0,none⟩)):: (.pointer (some ⟨b,0,none⟩)):: (.slice A cs.length c):: (.int .u64 (z:Int)):: (.int .i64 q):: (.int .u64 (p:Int)):: (.int .u8 (bt.toNat:Int)):: (undef):: (undef):: []) wr.heap.size 5 #[.int .u8 (bt.toNat:Int)] i u w1):=fun w1 hk i u hi hu=>by
         simp only[if_neg hi]at hu ⊢;unfold jl at hu ⊢;by_cases e:i=9
         . rw[if_pos e]at hu ⊢
           obtain⟨b0,p1,p2,p3⟩:=hu;exact⟨b0,p1,p2,(hk b0 p2 p3.lt).trans p3⟩
         . rw[if_neg e]at hu ⊢;exact hu
        refine .inl ⟨rfl,?_⟩;obtain⟨A5,c5,w1,H,f,hb5,hk5,m⟩:=G.o.run_append_far (P:=Tryz.prog) hR 213 213 213 5 i0 Tryz.underlying213 Hi.o t.o B.o C.o (.slice (some ⟨ab,0,none⟩) 1 1) 1 [bt] (Src.ofSlice _ Tryz.underlying213 ⟨ab,0,none⟩ 1 1 (bc [bt]) rfl (fun j u hu=>by rw[Addr.add_lit,Nat.zero_add,hak.cell];simpa [bc] using hu) (fun u hu=>by simp[bc]at hu;subst hu;rfl)) (by omega) (by have:=hR.size;omega) (by have:=hR.size;omega);refine Ah (.tmp 19) (.tmp 24) 213 rfl rfl rfl H ⟨trivial,⟨A5,c5,by simp,by simpa using f,((hR.mono (by omega)).trans hb5),hk5.trans (hR.block b hbr)⟩,hall w1 m⟩
       case tailD =>
        intro vs W hv hR a;obtain⟨v0,v1,v2,v3,v4,v5,v6,v7,v8,v9,v10,rfl⟩:=nS hv;simp only[List.zip,List.zipWith,aV,Act.put,List.setIfInBounds_toArray,List.set,List.drop];have e0:v0=_:=a 0 v0 rfl _ rfl;have e1:v1=_:=a 1 v1 rfl _ rfl;have e2:v2=_:=a 2 v2 rfl _ rfl;have e3:v3=_:=a 3 v3 rfl _ rfl;have e4:v4=_:=a 4 v4 rfl _ rfl;have e5:v5=_:=a 5 v5 rfl _ rfl;have e6:v6=_:=a 6 v6 rfl _ rfl;have e7:v7=_:=a 7 v7 rfl _ rfl;have e8:v8=_:=a 8 v8 rfl _ rfl;obtain⟨ab,ea,hab,hak⟩:∃b0,v9= .slice (some ⟨b0,0,none⟩) 1 1/\wr.heap.size<=b0/\Bk W b0 5 #[.int .u8 (bt.toNat:Int)]:=a 9 v9 rfl;have em: (WdP b base (cs++ [bt]) wr) v10 W:=a 10 v10 rfl;subst e0 e1 e2 e3 e4 e5 e6 e7 e8 ea;clear a hv hR hak hab;obtain⟨A5,c5,ev,f,hb5,hk5⟩:=em;subst ev;have n:Hid (Bk W b 283 #[.slice A cs.length c,.bool false]):=hk5.trans l.o;have I:=ai f;have N:=hb5.size;have J:Hid (Below b w W):=hB.o.trans (hb5.mono (by omega));obtain⟨z0,z1,g0,_⟩:=n.o.two;have hcl: (cs++ [bt]).length=cs.length+1:=by simp
        clear f hb5 hk5 y0 y1 f0;go_wp2_with fail;go_roundw
        case rel =>
         refine⟨j+1,by omega,by rw[<-HQ.o];congr 1;omega,?_,J.o.setCell (p:=⟨b,0,none⟩) aj _,by simp[World.setCell];omega⟩;show Wrt _ _ _ (bs++ (ay ((x:Int),(y:Int))).take (8*k+j+1));rw[g.o];refine⟨⟨A5,c5,?_,I.o.far rfl _⟩,by omega,by simp[World.setCell];omega⟩;have:=n.o.set 0 (.slice A5 (cs++ [bt]).length c5)
         simpa using this
        case measure=>have:=HQ.o;simp[intOf];omega
     . have hji:¬(0:Int)<=56 - 8* (j:Int):=by omega
       have K:Hid (j=8):=by show _=_;omega
       generalize hq:56 - 8* (j:Int)=q at *;clear hq;go_wp2_with fail;go_roundw
       case rel=>exact⟨k+1,by omega,by go_num,by show Wrt _ _ _ _;have h1:=hT.o;rw[K.o]at h1;exact h1,hB.o,hwz⟩
       case measure=>simp[intOf];omega
  . have hlz:¬(k:Int)<2:=by omega
    have L:Hid (k=2):=by show _=_;omega
    have hT2:=hT.o;rw[L.o,ZU (by rw[ig];omega)]at hT2;have HT2:=ai hT2;clear hT2;go_wp2_with fail
    go_end0
    exact⟨rfl,HT2.o,hB.o,hwz⟩
