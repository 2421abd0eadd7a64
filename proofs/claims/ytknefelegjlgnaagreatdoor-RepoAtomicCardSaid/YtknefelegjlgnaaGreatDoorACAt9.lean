/-
  Lemmas of the card.
-/
import Derived.Test.YtknefelegjlgnaaGreatDoorACAt8
set_option maxRecDepth 100000
set_option maxHeartbeats 4000000
namespace Go.Proofs.YtknefelegjlgnaaGreatDoor
open Go.RowKit
theorem jS: (Tryz.prog.info? 118).map (fun i=>(i.zero,i.size,i.bytes))=some (some (.agg #[.int .u64 0,.int .u64 0,.string ⟨#[]⟩]),3,32):=by kernel_rfl
theorem gZ(l:List Itm):∀u∈flat itC l,u.oneCell'=true:=fun u hu=>by
 unfold flat at hu;obtain⟨i,_,h⟩:=List.mem_flatMap.1 hu;simp[itC]at h;rcases h with rfl | rfl | rfl <;> rfl
def Mq(n:Nat)(w:MZ)(e:Ending)(w':MZ):Prop:=∃A c,e= .returned (.slice A 0 c)/\Apd w' w.heap.size 118 3 A 0 c []/\Below w.heap.size w w'/\n<=c/\c<=maxLen
theorem IJ(n:Nat)(w:MZ)(h0:0<n)(hn:n<=1000000):Calls Tryz.prog 266 #[.slice none 0 0,.int .i64 n] w (Mq n w):=by
 obtain⟨i0,hi,c,d,b⟩:=info_parts jS;have HR:Hid (∀ty,(Builtin.append_ #[29,3] ty #[.slice none 0 0,.int .i64 (n:Int)]).run Tryz.prog w= .ok (.slice (some ⟨w.heap.size,0,none⟩) n (grownCap w n 0 118)) (w.drew.alloc (.cells (#[]++Builtin.zeroCells (Value.agg #[.int .u64 0,.int .u64 0,.string ⟨#[]⟩]).cells n++Builtin.zeroCells (Value.agg #[.int .u64 0,.int .u64 0,.string ⟨#[]⟩]).cells (grownCap w n 0 118 - n)) 118))):=fun ty=>by
  have h:=Lib.run_append_grow_zeros w 29 3 ty 118 i0 _ .i64 .i64 Tryz.underlying29 Tryz.underlying3 hi c none 0 0 [] (run_firstCells_none w.drew i0.size 0 0 0) n h0 (by rw[d];omega) (by omega) (by omega) (by rw[b];omega) (growslice_fits (by omega) (by rw[b];omega));simp only[Nat.zero_add]at h;exact h
 clear hi c d b;have hG:=grownCap_ge w n 0 118;have a:=grownCap_le_maxLen w n 0 118 (by unfold maxLen;omega);obtain⟨G,e⟩:=NX9 (grownCap w n 0 118)
 rw[e]at HR hG a;obtain⟨W,hW⟩:=NX9 (w.drew.alloc (.cells (#[]++Builtin.zeroCells (Value.agg #[.int .u64 0,.int .u64 0,.string ⟨#[]⟩]).cells n++Builtin.zeroCells (Value.agg #[.int .u64 0,.int .u64 0,.string ⟨#[]⟩]).cells (G - n)) 118))
 rw[hW]at HR;have HB:Hid (Below w.heap.size w W):=by rw[<-hW];exact(af _ w).drew.alloc ai _
 have HA:Hid (Apd W w.heap.size 118 3 (some ⟨w.heap.size,0,none⟩) 0 G []):=by
  refine .inl ⟨rfl,.inr ⟨w.heap.size,G,_,rfl,Nat.le_refl _,by rw[<-hW];exact heap_alloc_new w.drew _,ZZ _,a,?_,by simp⟩⟩;rw[Array.size_append,Array.size_append,size_zeroCells,size_zeroCells];show 0+n*3+ (G - n)*3=G*3;omega
 have f:=ah a;have HG:=ah hG;have g:G<=9223372036854775807:=by unfold maxLen at a;exact a
 clear hW e a
 go_enter Tryz.func266,Tryz.ntmps266
 go_wp2_with (at_builtin;refine Lib.wpList_append_run _ rfl _ _ _ _ rfl _ _ rfl rfl _ _ (HR.o _) ?_)
 go_ret
 exact⟨_,_,rfl,HA.o,HB.o,HG.o,f.o⟩
def Mo(n:Nat)(xs:List Itm)(w:MZ)(e:Ending)(w':MZ):Prop:=∃A c,e= .returned (.slice A n c)/\Apd w' w.heap.size 118 3 A n c (flat itC xs)/\Below w.heap.size w w'/\n<=c/\c<=maxLen
theorem Fv(b B:Nat)(t:TypeId)(A0 A1 A2:OA)(n0 n1 n2 c0 c1 c2:Nat)(x0 x1 x2:List Itm)(w:MZ)(hk:Bk w b t #[.slice A0 n0 c0,.slice A1 n1 c1,.slice A2 n2 c2])
  (h0:Sl w B 3 A0 n0 (flat itC x0)) (h1:Sl w B 3 A1 n1 (flat itC x1)) (h2:Sl w B 3 A2 n2 (flat itC x2)) (hB:B<=w.heap.size) (hn:n0+n1+n2<=1000000) (hpos:0<n0+n1+n2) :
  Calls Tryz.prog 211 #[.slice (some ⟨b,0,none⟩) 3 3] w (Mo (n0+n1+n2) (x0++x1++x2) w):=by
 have HK:=ah hk;obtain⟨k0,k1,k2⟩:=hk.three;have H0:=ah h0;have H1:=ah h1;have H2:=ah h2;clear hk h0 h1 h2;obtain⟨i0,hi,v,x,y⟩:=info_parts jS;have Hi:=ah hi;have n:=ah v;have o:=ah x;have p:=ah y;clear hi v x y
 go_enter Tryz.func211,Tryz.ntmps211
 go_wp2_with fail
 go_loopw[3,11] (fun s i wr=>∃(k s':Nat),i= .int .i64 (k:Int)/\s= .int .i64 (s':Int)/\wr=w/\ ((k=0/\s'=0)∨ (k=1/\n0=s')∨ (k=2/\n0+n1=s')∨ (k=3/\n0+n1+n2=s'))) (fun _ i _=>3 - (intOf i).toNat)
 case atStart=>exact⟨0,0,rfl,rfl,rfl,.inl ⟨rfl,rfl⟩⟩
 case round =>
  obtain⟨k,s,rfl,rfl,rfl,q⟩:=hrel;rcases q with ⟨rfl,rfl⟩ | ⟨rfl,rfl⟩ | ⟨rfl,rfl⟩ | ⟨rfl,rfl⟩
  . go_wp2_with fail
    go_roundw
    case rel=>exact⟨1,n0,by go_num,by go_num,trivial,.inr (.inl ⟨rfl,rfl⟩)⟩
    case measure=>simp[intOf]
  . go_wp2_with fail
    go_roundw
    case rel=>exact⟨2,n0+n1,by go_num,by go_num,trivial,.inr (.inr (.inl ⟨rfl,rfl⟩))⟩
    case measure=>simp[intOf]
  . go_wp2_with fail
    go_roundw
    case rel=>exact⟨3,n0+n1+n2,by go_num,by go_num,trivial,.inr (.inr (.inr ⟨rfl,rfl⟩))⟩
    case measure=>simp[intOf]
  . obtain⟨wo,C⟩:∃wo,wo=wr:=⟨_,rfl⟩
    subst C;have HG:=ah (IJ (n0+n1+n2) wo hpos hn);go_wp2_with fail;refine HG.o.mono ?_;rintro e w2 ⟨A,c,rfl,ha,hb,G,D⟩;have HA:=ah ha;have HB:=ah hb;obtain⟨k0,k1,k2⟩:=(HK.o.below hb HK.o.lt).three;clear ha hb HG;go_wp2_with fail
    go_loopw[6,27] (fun r i wq=>∃(k:Nat)(A':OA)(m c':Nat)(xs:List Itm),i= .int .i64 (k:Int)/\r= .slice A' m c'/\Hid (Apd wq wo.heap.size 118 3 A' m c' (flat itC xs))/\Hid (Below wo.heap.size wo wq)/\m<=c'/\c'<=maxLen ∧
     ((k=0/\m=0/\xs= [])∨ (k=1/\n0=m/\x0=xs)∨ (k=2/\n0+n1=m/\x0++x1=xs)∨ (k=3/\n0+n1+n2=m/\x0++x1++x2=xs))) (fun _ i _=>3 - (intOf i).toNat)
    case atStart=>exact⟨0,A,0,c,[],rfl,rfl,HA.o,HB.o,ZZ _,D,.inl ⟨rfl,rfl,rfl⟩⟩
    case round =>
     obtain⟨k,A',m,c',xs,rfl,rfl,hA,a,E,F,q⟩:=hrel;obtain⟨k0,k1,k2⟩:=(HK.o.below a.o HK.o.lt).three;rcases q with ⟨rfl,rfl,rfl⟩ | ⟨rfl,hme,rfl⟩ | ⟨rfl,hme,rfl⟩ | ⟨rfl,hme,rfl⟩
     . have HN:Hid (0+n0<=maxLen):=by show _<=_;unfold maxLen;omega
       have HY:Hid ((0+n0)*32<=140737488355328):=by show _<=_;omega
       have HS:=ah (H0.o.below a.o hB);have z:0+n0<=1000000:=by omega
       go_wp2_with (at_builtin;refine aN ?_)
       refine aF ?_;refine dB (base:=wo.heap.size) (size:=3) _ rfl (.tmp 31) (.tmp 32) 29 rfl 118 i0 _ 32 Tryz.underlying29 Hi.o n.o o.o p.o rfl (by decide) A' 0 c' _ rfl hA.o B _ n0 _ _ rfl HS.o (gZ _) HN.o HY.o a.o.size ?_;intro A4 c4 w4 d f l g _;rw[<-bu]at d;have h:=ah d;have j:Hid (Below wo.heap.size wo w4):=a.o.trans f;clear d f hA;go_wp2_with fail;go_roundw
       case rel=>exact⟨1,A4,n0,c4,_,by go_num,rfl,(by have:=h.o;rwa[Nat.zero_add]at this),j.o,by omega,g,.inr (.inl ⟨rfl,rfl,rfl⟩)⟩
       case measure=>simp[intOf]
     . have HN:Hid (m+n1<=maxLen):=by show _<=_;unfold maxLen;omega
       have HY:Hid ((m+n1)*32<=140737488355328):=by show _<=_;omega
       have HS:=ah (H1.o.below a.o hB);have z:m+n1<=1000000:=by omega
       have u:=ah hme;clear hme
       go_wp2_with (at_builtin;refine aN ?_)
       refine aF ?_;refine dB (base:=wo.heap.size) (size:=3) _ rfl (.tmp 31) (.tmp 32) 29 rfl 118 i0 _ 32 Tryz.underlying29 Hi.o n.o o.o p.o rfl (by decide) A' m c' _ rfl hA.o B _ n1 _ _ rfl HS.o (gZ _) HN.o HY.o a.o.size ?_;intro A4 c4 w4 d f l g _;rw[<-bu]at d;have h:=ah d;have j:Hid (Below wo.heap.size wo w4):=a.o.trans f;clear d f hA;go_wp2_with fail;go_roundw
       case rel=>exact⟨2,A4,m+n1,c4,_,by go_num,rfl,h.o,j.o,l,g,.inr (.inr (.inl ⟨rfl,by rw[u.o],rfl⟩))⟩
       case measure=>simp[intOf]
     . have HN:Hid (m+n2<=maxLen):=by show _<=_;unfold maxLen;omega
       have HY:Hid ((m+n2)*32<=140737488355328):=by show _<=_;omega
       have HS:=ah (H2.o.below a.o hB);have z:m+n2<=1000000:=by omega
       have u:=ah hme;clear hme
       go_wp2_with (at_builtin;refine aN ?_)
       refine aF ?_;refine dB (base:=wo.heap.size) (size:=3) _ rfl (.tmp 31) (.tmp 32) 29 rfl 118 i0 _ 32 Tryz.underlying29 Hi.o n.o o.o p.o rfl (by decide) A' m c' _ rfl hA.o B _ n2 _ _ rfl HS.o (gZ _) HN.o HY.o a.o.size ?_;intro A4 c4 w4 d f l g _;rw[<-bu]at d;have h:=ah d;have j:Hid (Below wo.heap.size wo w4):=a.o.trans f;clear d f hA;go_wp2_with fail;go_roundw
       case rel=>exact⟨3,A4,m+n2,c4,_,by go_num,rfl,h.o,j.o,l,g,.inr (.inr (.inr ⟨rfl,by rw[u.o],rfl⟩))⟩
       case measure=>simp[intOf]
     . subst hme
       go_wp2_with fail;go_ret
       exact⟨_,_,rfl,hA.o,a.o,E,F⟩
def itB(x:Itm):Array M4:=#[.int .u64 x.1.1,.int .u64 x.1.2,.string x.2]
def SlI(x:Itm)(v:M4)(W:MZ):Prop:=∃b0,v= .slice (some ⟨b0,0,none⟩) 1 1/\Bk W b0 118 (itB x)
def Sl3(A:OA)(m c:Nat)(Ak:OA)(n' c':Nat)(x:Itm)(v:M4)(W:MZ):Prop :=
 ∃b0 b1,v= .slice (some ⟨b1,0,none⟩) 3 3/\Bk W b1 29 #[.slice A m c,.slice (some ⟨b0,0,none⟩) 1 1,.slice Ak n' c']/\Bk W b0 118 (itB x)
def RsP(base n:Nat)(q:List Itm)(v:M4)(W:MZ):Prop:=∃A c,v= .slice A n c/\W.ownsRow base 118 3 (.slice A n c) n (flat itC q)/\n<=c/\c<=maxLen
theorem SlI.keep{x:Itm}{v:M4}{W W':MZ}(h:SlI x v W)(hb:Below W.heap.size W W'):SlI x v W':=by
 obtain⟨b0,h1,h2⟩:=h;exact⟨b0,h1,h2.below hb h2.lt⟩
theorem Sl3.keep{A Ak:OA}{m c n' c':Nat}{x:Itm}{v:M4}{W W':MZ}(h:Sl3 A m c Ak n' c' x v W)(hb:Below W.heap.size W W'):Sl3 A m c Ak n' c' x v W':=by
 obtain⟨b0,b1,h1,h2,h3⟩:=h;exact⟨b0,b1,h1,h2.below hb h2.lt,h3.below hb h3.lt⟩
theorem fM{w w':MZ}{base size n:Nat}{e:TypeId}{v:M4}{xs:List M4}(h:w.ownsRow base e size v n xs)(hb:Below w.heap.size w w'):w'.ownsRow base e size v n xs :=
 h.kept (row:=none) ⟨hb.os,hb.tape,hb.output,hb.size,fun k hk _=>hb.block k hk⟩ (by
  cases hv:v.ownBlock with
  | none=>exact .inl rfl
  | some k=>exact .inr (by simp))
theorem iO{w:MZ}{base size n b:Nat}{e t:TypeId}{v:M4}{xs:List M4}{cs:Array M4}(h:w.ownsRow base e size v n xs)(hb:Bk w b t cs)(hne:e≠t)(i:Nat)(x:M4): (w.setCell ⟨b,i,none⟩ x).ownsRow base e size v n xs:=by
 refine h.kept (row:=some b) ⟨rfl,rfl,rfl,by simp,fun k _ hk=>Z8 _ _ _ k (fun e=>hk (by rw[e]))⟩ ?_;rcases h.2 with ⟨rfl,_⟩ | ⟨g,cap,cur,rfl,_,hh,_⟩
 . exact .inl rfl
 . refine .inr fun he=>?_
   have a:g=b:=by simpa [Value.ownBlock] using he
   subst a;unfold Bk at hb;rw[hh]at hb;have:=Option.some.inj hb;injection this with _ ht _;exact hne ht
theorem RsP.keep{base n:Nat}{q:List Itm}{v:M4}{W W':MZ}(h:RsP base n q v W)(hb:Below W.heap.size W W'):RsP base n q v W':=by
 obtain⟨A,c,h1,h2,h3,h4⟩:=h;exact⟨A,c,h1,fM h2 hb,h3,h4⟩
theorem Apd.own{w:MZ}{base size n c:Nat}{e:TypeId}{A:OA}{xs:List M4}(h:Apd w base e size A n c xs)(hn:0<n):w.ownsRow base e size (.slice A n c) n xs:=by
 rcases h with h | ⟨h,_⟩
 . exact h
 . omega
theorem jY{W:MZ}{base base' size n:Nat}{e:TypeId}{v:M4}{xs:List M4}(h:W.ownsRow base e size v n xs)(hb:base'<=base):W.ownsRow base' e size v n xs:=by
 refine⟨h.1,?_⟩;rcases h.2 with hn | ⟨g,cap,cur,hv,hbg,rest⟩
 . exact .inl hn
 . exact .inr ⟨g,cap,cur,hv,Z0 hb hbg,rest⟩
def Ply(w:MZ)(base:Nat)(A0:OA)(c0:Nat)(p:List Itm)(A:OA)(c:Nat)(q:List Itm):Prop :=
 (A=A0/\c=c0/\q=p)∨w.ownsRow base 118 3 (.slice A q.length c) q.length (flat itC q)
theorem Ki{W:MZ}{b0:Nat}{x:Itm}(h:Bk W b0 118 (itB x)):Sl W W.heap.size 3 (some ⟨b0,0,none⟩) 1 (flat itC [x]):=Sl.of_bk (n:=1) h rfl
theorem Sl.it_take{w:MZ}{B n k:Nat}{A:OA}{l:List Itm}(h:Sl w B 3 A n (flat itC l))(hk:k<=n):Sl w B 3 A k (flat itC (l.take k)):=h.take_ bO (by omega) hk
def Dj(A0:OA)(c0:Nat)(p:List Itm)(x:Itm)(w:MZ)(e:Ending)(w':MZ):Prop :=
 ((∃q A c,cB p x=some q/\e= .returned (.tuple #[.slice A q.length c,.int .i64 0])/\Sl w' w'.heap.size 3 A q.length (flat itC q)/\q.length<=c/\c<=maxLen/\Ply w' w.heap.size A0 c0 p A c q)∨ (cB p x=none/\e= .returned (.tuple #[.slice none 0 0,.int .i64 16])))/\Below w.heap.size w w'
theorem Ku{p:List Itm}{d:Dig}{b:M3}(hf:bE p d=some b):∃i,p[atD p d]? =some i/\i.2=b/\atD p d<p.length:=by
 unfold bE at hf;cases hi:p[atD p d]? with
 | none=>rw[hi]at hf;cases hf
 | some i =>
   rw[hi]at hf;simp only at hf;split at hf
   . exact⟨i,rfl,by cases hf;rfl,(List.getElem?_eq_some_iff.1 hi).1⟩
   . cases hf
theorem EJ(A:OA)(n c B:Nat)(p:List Itm)(x:Itm)(w:MZ)(h0:Sl w B 3 A n (flat itC p))(hB:B<=w.heap.size)(hnc:n<=c)(hcm:c<=maxLen)(hn:n<=900000)(ha:AscI p) :
  Calls Tryz.prog 127 #[.slice A n c,itV x] w (Dj A c p x w):=by
 have HL:=ah (h0.len bO (by omega));have U:=ah ha;have F:=ah hcm;have G:=ah hnc;obtain⟨⟨d1,d2⟩,s⟩:=x;obtain⟨W,hW⟩:=NX9 (w.alloc (.cells #[.int .u64 d1,.int .u64 d2,.string s] 118))
 have g:Hid (Below w.heap.size w W):=by rw[<-hW];exact(af _ w).alloc ai _
 have HK:Hid (Bk W w.heap.size 118 #[.int .u64 d1,.int .u64 d2,.string s]):=by rw[<-hW];exact Bk.new w _ _
 have zk:w.heap.size<W.heap.size:=HK.o.lt;have HC:=ah (sM A n c B p (d1,d2) W (h0.below g.o hB) (Z0 hB g.o.size) (by omega) ha);have H0:=ah h0;clear h0 ha hcm;unfold BsE at HC;simp only[aB,itV]at HC ⊢;obtain⟨x0,x1,x2⟩:=HK.o.three;obtain⟨m,hm⟩:=NX9 (atD p (d1,d2))
 have HM:=ah hm;rw[hm]at HC;have l:m<=n:=by rw[<-hm,<-HL.o];exact Cy _ _
 cases hf:bE p (d1,d2) with
 | none =>
   have HN:Hid (cB p ((d1,d2),s)=some (p.take m++ [((d1,d2),s)]++p.drop m)):=by
    show _=_;unfold cB;simp only[hf,HM.o]
   have HQ:Hid ((p.take m++ [((d1,d2),s)]++p.drop m).length=m+1+ (n - m)):=by
    show _=_;rw[ae,ae,List.length_take,List.length_drop,HL.o,Nat.min_eq_left l];rfl
   rw[hf]at HC;simp only[Option.isSome_none]at HC;obtain⟨i0,hi,H,z,I⟩:=info_parts jS;have tk:=nT (P:=Tryz.prog) 29 i0 Tryz.underlying29 hi A n c m (by omega);obtain⟨Ak,V,C⟩:=DD (P:=Tryz.prog) 29 i0 Tryz.underlying29 hi z A n c m l hnc;have J:=ah C;clear hf hm hi H z I C
   go_enter Tryz.func127,Tryz.ntmps127
   go_wp2_with fail;refine HC.o.mono ?_;rintro e w2 ⟨rfl,hb⟩;have d:Hid (Below w.heap.size w w2):=g.o.trans (hb.mono g.o.size);have q:=ah (HK.o.below hb zk);have K:w.heap.size<w2.heap.size:=Nat.lt_of_lt_of_le zk hb.size;have k:=ah (H0.o.below d.o hB);obtain⟨k0,k1,k2⟩:=q.o.three;have j:B<=w2.heap.size:=by omega
   clear hb HC x0 x1 x2 hW;have L:Hid (∀x∈ [(4,SlI ((d1,d2),s)),(8,Sl3 A m c Ak (n - m) (c - m) ((d1,d2),s)),(9,RsP w2.heap.size (m+1+ (n - m)) (p.take m++ [((d1,d2),s)]++p.drop m))],∀v W W',x.2 v W->Below W.heap.size W W'->x.2 v W'):=fun x hx v W W' h hb=>by
    simp only[List.mem_cons,List.not_mem_nil,or_false]at hx;rcases hx with rfl | rfl | rfl
    . exact SlI.keep h hb
    . exact Sl3.keep h hb
    . exact RsP.keep h hb
   go_wp2_with fail;refine jC 10 (17::18::19::20::21::22::23::24::25::26:: []) (by kernel_rfl) (by kernel_rfl) (by kernel_rfl) (fun W=>Below w2.heap.size w2 W) (fun W W'=>Below W.heap.size W W')
    (lK [(4,SlI ((d1,d2),s)),(8,Sl3 A m c Ak (n - m) (c - m) ((d1,d2),s)),(9,RsP w2.heap.size (m+1+ (n - m)) (p.take m++ [((d1,d2),s)]++p.drop m))] ((.slice A n c):: (.int .i64 m):: (.slice A m c):: (.agg #[.int .u64 d1,.int .u64 d2,.string s]):: (undef):: (.slice A n c):: (.int .i64 m):: (.slice Ak (n - m) (c - m)):: (undef):: (undef):: [])) (fun W W' h1 h2=>h1.trans (h2.mono h1.size)) (fun i v W W' h hb=>sH L.o i v W W' h hb) (af _ _).drew ?stepA ?tailA
   case stepA =>
    intro i o vs W hi ho hv hR a;obtain⟨v0,v1,v2,v3,v4,v5,v6,v7,v8,v9,rfl⟩:=Di hv;simp only[List.zip,List.zipWith,aR,Act.put,List.setIfInBounds_toArray,List.set];have X:=hR.size;have g0:=(hR.cell (p:=⟨w.heap.size,0,none⟩) (by show w.heap.size<_;omega)).trans k0;have g1:=(hR.cell (p:=⟨w.heap.size,1,none⟩) (by show w.heap.size<_;omega)).trans k1;have g2:=(hR.cell (p:=⟨w.heap.size,2,none⟩) (by show w.heap.size<_;omega)).trans k2
    match i,hi,ho with
    | 0,_,rfl =>
      exact .inl ⟨rfl,aJ (v:= .slice A n c) (w':=W) (by go_simp) ⟨af _ _,fun _=>aI⟩⟩
    | 1,_,rfl =>
      exact .inl ⟨rfl,aJ (v:= .int .i64 m) (w':=W) (by go_simp) ⟨af _ _,fun _=>aI⟩⟩
    | 2,_,rfl =>
      have e0:v0=_:=a ⟨0,.data⟩ (by simp) rfl v0 rfl _ rfl;have e1:v1=_:=a ⟨1,.data⟩ (by simp) rfl v1 rfl _ rfl;subst e0 e1;exact .inl ⟨rfl,aJ (v:= .slice A m c) (w':=W) (by go_simp) ⟨af _ _,fun _=>aI⟩⟩
    | 3,_,rfl =>
      exact .inl ⟨rfl,aJ (v:= .agg #[.int .u64 d1,.int .u64 d2,.string s]) (w':=W) (by go_simp) ⟨af _ _,fun _=>aI⟩⟩
    | 4,_,rfl =>
      have e3:v3=_:=a ⟨3,.data⟩ (by simp) rfl v3 rfl _ rfl;subst e3;exact .inl ⟨rfl,aJ (v:= .slice (some ⟨W.heap.size,0,none⟩) 1 1) (w':=W.alloc (.cells #[.int .u64 d1,.int .u64 d2,.string s] 118)) (by go_simp) ⟨(af _ W).alloc ai _,W.heap.size,rfl,Bk.new W _ _⟩⟩
    | 5,_,rfl =>
      exact .inl ⟨rfl,aJ (v:= .slice A n c) (w':=W) (by go_simp) ⟨af _ _,fun _=>aI⟩⟩
    | 6,_,rfl =>
      exact .inl ⟨rfl,aJ (v:= .int .i64 m) (w':=W) (by go_simp) ⟨af _ _,fun _=>aI⟩⟩
    | 7,_,rfl =>
      have e5:v5=_:=a ⟨5,.data⟩ (by simp) rfl v5 rfl _ rfl;have e6:v6=_:=a ⟨6,.data⟩ (by simp) rfl v6 rfl _ rfl;subst e5 e6;exact .inl ⟨rfl,aJ (v:= .slice Ak (n - m) (c - m)) (w':=W) (by go_simp) ⟨af _ _,fun _=>aI⟩⟩
    | 8,_,rfl =>
      have e2:v2=_:=a ⟨2,.data⟩ (by simp) rfl v2 rfl _ rfl;obtain⟨b0,rfl,r⟩: (SlI ((d1,d2),s)) v4 W:=a ⟨4,.data⟩ (by simp) rfl v4 rfl;have e7:v7=_:=a ⟨7,.data⟩ (by simp) rfl v7 rfl _ rfl;subst e2 e7;exact .inl ⟨rfl,aJ (v:= .slice (some ⟨W.heap.size,0,none⟩) 3 3) (w':=W.alloc (.cells #[.slice A m c,.slice (some ⟨b0,0,none⟩) 1 1,.slice Ak (n - m) (c - m)] 29)) (by go_simp) ⟨(af _ W).alloc ai _,b0,W.heap.size,rfl,Bk.new W _ _,r.alloc _⟩⟩
    | 9,_,rfl =>
      obtain⟨b0,b1,rfl,M,r⟩: (Sl3 A m c Ak (n - m) (c - m) ((d1,d2),s)) v8 W:=a ⟨8,.data⟩ (by simp) rfl v8 rfl;refine .inl ⟨rfl,iN (f:=211) (args:=#[.slice (some ⟨b1,0,none⟩) 3 3]) (by go_simp) ((Fv b1 W.heap.size _ A (some ⟨b0,0,none⟩) Ak m 1 (n - m) c 1 (c - m) (p.take m) [((d1,d2),s)] (p.drop m) W M (((k.o.it_take l).below hR j).more (Z0 j hR.size)) (Ki r) ((by rw[yC bO];exact J.o W B _ (k.o.below hR j):Sl W B 3 Ak (n - m) (flat itC (p.drop m))).more (Z0 j hR.size)) ai (by omega) (by omega)).mono ?_)⟩;rintro e W' ⟨A9,c9,rfl,N,O,t,u⟩;exact⟨_,rfl,O,⟨A9,c9,rfl,jY (N.own (by omega)) hR.size,t,u⟩⟩
    | i+10,hi,_=>exact absurd hi (by omega)
   case tailA =>
    intro vs W hv hR a;obtain⟨v0,v1,v2,v3,v4,v5,v6,v7,v8,v9,rfl⟩:=Di hv;simp only[List.zip,List.zipWith,aR,Act.put,List.setIfInBounds_toArray,List.set,List.drop];have e0:v0=_:=a 0 v0 rfl _ rfl;have e1:v1=_:=a 1 v1 rfl _ rfl;have e2:v2=_:=a 2 v2 rfl _ rfl;have e3:v3=_:=a 3 v3 rfl _ rfl;have e4: (SlI ((d1,d2),s)) v4 W:=a 4 v4 rfl;have e5:v5=_:=a 5 v5 rfl _ rfl;have e6:v6=_:=a 6 v6 rfl _ rfl;have e7:v7=_:=a 7 v7 rfl _ rfl;have e8: (Sl3 A m c Ak (n - m) (c - m) ((d1,d2),s)) v8 W:=a 8 v8 rfl;have e9: (RsP w2.heap.size (m+1+ (n - m)) (p.take m++ [((d1,d2),s)]++p.drop m)) v9 W:=a 9 v9 rfl;subst e0 e1 e2 e3 e5 e6 e7;clear a hv;obtain⟨A9,c9,rfl,D,t,u⟩:=e9;have HR:=ah hR;clear hR;go_wp2_with fail;go_ret2
    exact⟨.inl ⟨_,A9,c9,HN.o,by rw[HQ.o];rfl,by rw[HQ.o];exact Sl.of_own D,by rw[HQ.o];exact t,u,.inr (by rw[HQ.o];exact jY D (by omega))⟩,d.o.trans (HR.o.mono d.o.size)⟩
 | some b =>
   obtain⟨i,hi,Q,y⟩:=Ku hf;rw[hm]at hi y;have R:m<n:=by rw[<-HL.o];exact y
   have E:Hid (cB p ((d1,d2),s)=if b=s then some p else none):=by
    show _=_;unfold cB;simp only[hf]
   rw[hf]at HC;simp only[Option.isSome_some]at HC;clear hf hm y
   go_enter Tryz.func127,Tryz.ntmps127
   go_wp2_with fail;refine HC.o.mono ?_;rintro e w2 ⟨rfl,hb⟩;have d:Hid (Below w.heap.size w w2):=g.o.trans (hb.mono g.o.size);have q:=ah (HK.o.below hb zk);have K:w.heap.size<w2.heap.size:=Nat.lt_of_lt_of_le zk hb.size;have k:=ah (H0.o.below d.o hB);obtain⟨bb,S,i',rfl,Y,hx,y0,y1,y2⟩:=k.o.it R;rw[hi]at hx;obtain rfl:=Option.some.inj hx;rw[Q]at y2;obtain⟨k0,k1,k2⟩:=q.o.three;have j:B<=w2.heap.size:=by omega
   have T: (m:Int)< (n:Int):=by omega
   clear hb HC x0 x1 x2 hW hi hx;have t2:=jK b s;by_cases hbs:b=s
   . have HN:Hid (cB p ((d1,d2),s)=some p):=by show _=_;rw[E.o,if_pos hbs]
     have l1: (b.toList != s.toList)=!(decide (b=s)):=by rw[<-jK];rfl
     rw[decide_eq_true hbs]at t2 l1;clear hbs;go_wp2_with fail
     go_quiet(fail)
     go_wp2_with fail;go_ret2
     exact⟨.inl ⟨p,some ⟨bb,S,none⟩,c,HN.o,by rw[HL.o];rfl,by rw[HL.o];exact k.o.more j,by rw[HL.o];exact G.o,F.o,.inl ⟨rfl,rfl,rfl⟩⟩,bN d.o _⟩
   . have HN:Hid (cB p ((d1,d2),s)=none):=by show _=_;rw[E.o,if_neg hbs]
     have l1: (b.toList != s.toList)=!(decide (b=s)):=by rw[<-jK];rfl
     rw[decide_eq_false hbs]at t2 l1;clear hbs;go_wp2_with fail
     go_quiet(fail)
     go_wp2_with fail;go_ret2
     exact⟨.inr ⟨HN.o,rfl⟩,bN d.o _⟩
section
variable {P : Program} {Q : Exit -> Act -> MZ -> Prop}
theorem Dz{id:Nat}{l:List Oper}{a0:Act}{w0:MZ}(n m:Nat)(hm:P.follows .mixedOrders=true)(hB:kM l n=true)
  (R:Bool->MZ->Prop) (E:Bool->MZ->MZ->Prop) (Φ:Nat->M4->MZ->Prop) (hR:∀b w w',R b w->E b w w'->R b w') (hΦ:∀b i v w w',(i=m->b=true)->Φ i v w->E b w w'->Φ i v w')
  (h0:R false {w0 with drawn:=w0.drawn+1})
  (hstep:∀(b:Bool)(i:Nat)(o:Oper)(vs:List M4)(w:MZ),i<n->i≠m-> (∀om,l[m]? =some om-> (∃e∈om.after,Region.binds .any e=true/\e.on=i)->b=false)->l[i]? =some o->vs.length=n->R b w-> (∀e∈o.after,Region.binds .any e=true->∀v,vs[e.on]? =some v->Φ e.on v w) ->
    lu P l.toArray o (aR a0 ((dstsOf l n).zip vs)) w fun v w'=>E b w w'/\Φ i v w')
  (hturn:∀(o:Oper)(vs:List M4)(w:MZ),l[m]? =some o->vs.length=n->R false w-> (∀e∈o.after,Region.binds .any e=true->∀v,vs[e.on]? =some v->Φ e.on v w) ->
    lu P l.toArray o (aR a0 ((dstsOf l n).zip vs)) w fun v w'=>R true w'/\Φ m v w'/\∀i u,i≠m->Φ i u w->Φ i u w')
  (hmn:m<n)
  (htail:∀(vs:List M4)(w:MZ),vs.length=n->R true w-> (∀i v,vs[i]? =some v->Φ i v w)->wpList P l.toArray Q (l.drop n) (aR a0 ((dstsOf l n).zip vs)) w) :
  (Code.region id l.toArray true).wp P Q a0 w0:=by
 simp only[kM,Bool.and_eq_true,decide_eq_true_eq,List.all_eq_true]at hB;obtain⟨⟨⟨⟨⟨⟨hn,hs⟩,hc⟩,W⟩,X⟩,aq⟩,L⟩:=hB;have Y: (dstsOf l n).length=n:=by simp[dstsOf];omega
 refine wp_region_any hm ?_
 -- the state:which operations have bn A ar,what the temporaries hold
 have Z:∀(f:Nat)(a:Array Bool)(vs:List M4)(w:MZ),HeadInv .any l.toArray n a->vs.length=n->R (a.getD m false) w ->
   (∀i v,i<n->a.getD i false=true->vs[i]? =some v->Φ i v w)-> (a.toList.take n).count false=f ->
   wpAny P .any l.toArray Q (f+ (l.length - n)) a (aR a0 ((dstsOf l n).zip vs)) w:=by
  intro f
  induction f with
  | zero =>
    intro a vs w c hv hw y ab;have B:∀i,i<n->a.getD i false=true:=by
     intro i hi;have g:i<a.size:=by rw[c.size];simp;omega
     have I:a.toList[i]? =some a[i]:=by simp[g]
     have M:a[i]≠false:=by
      intro e;have z:false∈a.toList.take n:=by
       rw[List.mem_take_iff_getElem];exact⟨i,by simp;omega,by simpa using e⟩
      have:=List.count_pos_iff.2 z;omega
     simp[g];simpa using M
    have N:a=iH l n:=by
     apply Array.ext
     . rw[c.size];simp[iH]
     . intro i h1 h2
       have au:i<l.length:=by rw[c.size]at h1;simpa using h1
       simp only[iH,List.getElem_toArray,List.getElem_map,List.getElem_range];by_cases hi:i<n
       . have:=B i hi;simp[h1]at this;simp[this,hi]
       . have:=c.tail i (by omega) (by simpa using au);simp[h1]at this;simp[this,hi]
    subst N;have av: (iH l n).getD m false=true:=B m hmn;rw[av]at hw;have aw:=htail vs w hv hw (fun i v hi=>y i v (by have:=(List.getElem?_eq_some_iff.1 hi).1;omega) (B i (by have:=(List.getElem?_eq_some_iff.1 hi).1;omega)) hi);have:=wpAny_of_seq (md:= .any) (Q':=Q) (l.drop n) n (iH l n) _ w (fun j=>by simp[List.getElem?_drop]) (by rw[List.length_drop];exact W) aw;rw[List.length_drop]at this
    simpa using this
  | succ f ih =>
    intro a vs w c hv hw y ab;have aD:∃i,i<n/\a.getD i true=false:=by
     have:0< (a.toList.take n).count false:=by omega
     have z:=List.count_pos_iff.1 this;rw[List.mem_take_iff_getElem]at z;obtain⟨i,hi,O⟩:=z;refine⟨i,by simp at hi;omega,?_⟩;have g:i<a.size:=by simp at hi;omega
     rw[Array.getD_eq_getD_getElem?,Array.getElem?_eq_getElem g];simpa using O
    rw[show f+1+ (l.length - n)= (f+ (l.length - n))+1 by omega];obtain⟨i0,ad,ag⟩:=aD;have q:∀i∈Region.ready .any l.toArray a,i<n:=by
     intro i hi;rcases Nat.lt_or_ge i n with h | h
     . exact h
     . exact absurd hi (tail_waits hs hc (by simpa using hn) c _ i0 rfl ad ag i h)
    have M:Region.ready .any l.toArray a≠ []:=by
     -- the first operation that is not yet A ar and whose own conditions are all met:by the least such index
     intro al;obtain⟨m,am,z⟩:∃m,(m<n/\a.getD m true=false)/\∀k,k<m->¬(k<n/\a.getD k true=false):=by
      have:∀m,(m<n/\a.getD m true=false)->∃m,(m<n/\a.getD m true=false)/\∀k,k<m->¬(k<n/\a.getD k true=false):=by
       intro m
       induction m using Nat.strongRecOn with
       | _ m ihm =>
         intro h;by_cases hex:∃k,k<m/\ (k<n/\a.getD k true=false)
         . obtain⟨k,hk,S⟩:=hex;exact ihm k hk S
         . exact⟨m,h,fun k hk S=>hex ⟨k,hk,S⟩⟩
      exact this i0 ⟨ad,ag⟩
     have aE:m<l.length:=by omega
     have ba:l[m]? =some l[m]:=Z6 aE;have T:=L m (List.mem_range.2 am.1);rw[ba]at T;simp only at T;have an:m∈Region.ready .any l.toArray a:=by
      refine mem_ready.2 ⟨am.2,l[m],by simp,fun e he _=>?_⟩;have bb:e.on<m:=by
       have:=(Array.all_eq_true_iff_forall_mem.1 T) e he
       simpa using this
      have ao:=z e.on bb;cases hx:a.getD e.on true with
      | true =>
        have g:e.on<a.size:=by rw[c.size];simp;omega
        simp[g]at hx ⊢;exact hx
      | false=>exact absurd ⟨by omega,hx⟩ ao
     rw[al]at an;cases an
    refine⟨fun h=>absurd h M,fun i hi=>?_⟩;have G:=q i hi;obtain⟨U,o,ho,V⟩:=mem_ready.1 hi;have C:l[i]? =some o:=by simpa using ho
    have I:o∈l.take n:=List.mem_take_iff_getElem.2 ⟨i,(by have:=(List.getElem?_eq_some_iff.1 C).1;omega),(List.getElem?_eq_some_iff.1 C).2⟩;have bd:=X o I;obtain⟨d,hd⟩:=Option.isSome_iff_exists.1 bd;have bf: (dstsOf l n)[i]? =some d:=by
     simp[dstsOf,G,C,hd]
    have J:∀e∈o.after,Region.binds .any e=true->∀v,vs[e.on]? =some v->Φ e.on v w:=fun e he hb v hve=>by
     have bg:=V e he hb;have bh:e.on<n:=by have:=(List.getElem?_eq_some_iff.1 hve).1;omega
     exact y e.on v bh bg hve
    have g:i<a.size:=by rw[c.size];simp;omega
    have bi:a.toList[i]? =some false:=by
     simp[g]at U ⊢;exact U
    have hgo:∀v w',R ((a.setIfInBounds i true).getD m false) w'->Φ i v w'-> (∀j u,j≠i->j<n->a.getD j false=true->Φ j u w->Φ j u w')->wpAny P .any l.toArray Q (f+ (l.length - n)) (a.setIfInBounds i true) ((aR a0 ((dstsOf l n).zip vs)).put o.dst v) w':=?hgo
    case hgo =>
     intro v w' bj O bk;rw[hd,<-rT a0 (dstsOf l n) vs i d v aq (by rw[Y,hv]) bf];refine ih (a.setIfInBounds i true) (vs.set i v) w' (c.set hi G) (by simpa using hv) bj ?_ ?_
     . intro j u hj D H
       by_cases e:j=i
       . subst e
         have bm:j<vs.length:=by omega
         rw[List.getElem?_set_self bm]at H;cases H;exact O
       . rw[List.getElem?_set_ne (fun h=>e h.symm)]at H
         rw[getD_set_ne false (fun h=>e h.symm)]at D;exact bk j u e hj D (y j u hj D H)
     . have: (a.setIfInBounds i true).toList.take n= (a.toList.take n).set i true:=by
         rw[Array.toList_setIfInBounds,List.take_set]
       rw[this];have h2:=wZ (l:=a.toList.take n) (i:=i) (by rw[List.getElem?_take,if_pos G];exact bi);omega
    have K:a.getD i false=false:=getD_both U;by_cases him:i=m
    . subst him
      have r:=hturn o vs w C hv (by rw[K]at hw;exact hw) J;have F: (a.setIfInBounds i true).getD i false=true:=by simp[g]
      have p:∀v w',(R true w'/\Φ i v w'/\∀j u,j≠i->Φ j u w->Φ j u w')->wpAny P .any l.toArray Q (f+ (l.length - n)) (a.setIfInBounds i true) ((aR a0 ((dstsOf l n).zip vs)).put o.dst v) w':=fun v w' h=>hgo v w' (by rw[F];exact h.1) h.2.1 (fun j u hj _ _ hp=>h.2.2 j u hj hp);unfold wpOp;simp only[ho];rcases r with ⟨s,x⟩ | ⟨s,x⟩
      . rw[if_pos s]
        exact .inl (x _ _ p)
      . rw[if_neg (by rw[s];simp)]
        exact p undef w x
    . have F: (a.setIfInBounds i true).getD m false=a.getD m false:=getD_set_ne false him
      have r:=hstep (a.getD m false) i o vs w G him (fun om hom ⟨e,he,hb,heo⟩=>by
       cases hx:a.getD m false with
       | false=>rfl
       | true =>
         have:=c.closed m om (by simpa using hom) hx e he hb;rw[heo,K]at this;cases this) C hv hw J
      have p:∀v w',(E (a.getD m false) w w'/\Φ i v w')->wpAny P .any l.toArray Q (f+ (l.length - n)) (a.setIfInBounds i true) ((aR a0 ((dstsOf l n).zip vs)).put o.dst v) w':=fun v w' h=>hgo v w' (by rw[F];exact hR _ w w' hw h.1) h.2 (fun j u _ _ D hp=>hΦ _ j u w w' (fun e=>by subst e;exact D) hp h.1);unfold wpOp;simp only[ho];rcases r with ⟨s,x⟩ | ⟨s,x⟩
      . rw[if_pos s]
        exact .inl (x _ _ p)
      . rw[if_neg (by rw[s];simp)]
        exact p undef w x
 have ap:HeadInv .any l.toArray n (Array.replicate l.toArray.size false) :=
  ⟨by simp,fun j oj _ hl=>(by rw[getD_replicate_false]at hl;cases hl),fun t _ ht=>getD_in (by simpa using ht) (getD_replicate_false _ _)⟩
 have:=Z n (Array.replicate l.toArray.size false) ((dstsOf l n).map fun d=>a0.tmps.getD d undef) _ ap (by simpa using Y) (by rw[getD_replicate_false];exact h0)
  (fun i v _ hl _=>by rw[getD_replicate_false]at hl;cases hl) (by simp;omega)
 rw[rF,show n+ (l.length - n)=l.toArray.size by simp;omega]at this;exact this
theorem wF{id:Nat}{l:List Oper}{a0:Act}{w0:MZ}(n m:Nat)(ds:List Tmp)(hm:P.follows .mixedOrders=true)(hB:kM l n=true)(hds:dstsOf l n=ds)
  (R:Bool->MZ->Prop) (E:Bool->MZ->MZ->Prop) (Φ:Nat->M4->MZ->Prop) (hR:∀b w w',R b w->E b w w'->R b w') (hΦ:∀b i v w w',(i=m->b=true)->Φ i v w->E b w w'->Φ i v w')
  (h0:R false w0.drew)
  (hstep:∀(b:Bool)(i:Nat)(o:Oper)(vs:List M4)(w:MZ),i<n->i≠m-> (∀om,l[m]? =some om-> (∃e∈om.after,Region.binds .any e=true/\e.on=i)->b=false)->l[i]? =some o->vs.length=n->R b w-> (∀e∈o.after,Region.binds .any e=true->∀v,vs[e.on]? =some v->Φ e.on v w) ->
    lu P l.toArray o (aR a0 (ds.zip vs)) w fun v w'=>E b w w'/\Φ i v w')
  (hturn:∀(o:Oper)(vs:List M4)(w:MZ),l[m]? =some o->vs.length=n->R false w-> (∀e∈o.after,Region.binds .any e=true->∀v,vs[e.on]? =some v->Φ e.on v w) ->
    lu P l.toArray o (aR a0 (ds.zip vs)) w fun v w'=>R true w'/\Φ m v w'/\∀i u,i≠m->Φ i u w->Φ i u w')
  (hmn:m<n)
  (htail:∀(vs:List M4)(w:MZ),vs.length=n->R true w-> (∀i v,vs[i]? =some v->Φ i v w)->wpList P l.toArray Q (l.drop n) (aR a0 (ds.zip vs)) w) :
  (Code.region id l.toArray true).wp P Q a0 w0:=by
 subst hds;exact Dz n m hm hB R E Φ hR hΦ h0 hstep hturn hmn htail
end
def ig(k:Nat)(vals:List M4)(base:Nat)(t:TypeId)(cs:Array M4)(i:Nat)(v:M4)(W:MZ):Prop :=
 if i=k then ∃b0,v= .slice (some ⟨b0,0,none⟩) 1 1/\base<=b0/\Bk W b0 t cs else lJ vals i v W
theorem xY{k:Nat}{vals:List M4}{base:Nat}{t:TypeId}{cs:Array M4}(i:Nat)(v:M4)(W W':MZ)(h:ig k vals base t cs i v W)(hb:Below W.heap.size W W'):ig k vals base t cs i v W':=by
 unfold ig at h ⊢;by_cases e:i=k
 . rw[if_pos e]at h ⊢
   obtain⟨b0,h1,h2,h3⟩:=h;exact⟨b0,h1,h2,h3.below hb h3.lt⟩
 . rw[if_neg e]at h ⊢;exact h
theorem jN:∀(k n j:Nat),j<k-> (be k n)[j]? =some (UInt8.ofNat (n / 256 ^ (k - 1 - j) % 256))
 | 0,_,_,h=>by omega
 | k+1,n,0,_=>by simp[be]
 | k+1,n,j+1,h=>by
   simp only[be,List.getElem?_cons_succ];rw[jN k n j (by omega),show k+1 - 1 - (j+1)=k - 1 - j by omega]
theorem Txt.run_append_far{P:Program}{w0 w:MZ}{base av n c:Nat}{A:OA}{bs:M5}(h0:Txt w0 base av A n c bs)(hW:Below w0.heap.size w0 w)(t tx ty e:TypeId)(i:TypeInfo)(ht:P.underlying t=some (.slice e))(hi:P.info? e=some i)(hz:i.zero=some (.int .u8 0))(hsize:i.size=1)(hby:i.bytes=1)
  (x:M4) (m:Nat) (ys:M5) (hs:Src P 1 tx x m (bc ys) w) (hmax:n+m<=140737488355328) (hbase:base<=w.heap.size) (hav:av<w.heap.size) :
  ∃A' c' w',(Builtin.append_ #[t,tx] ty #[.slice A n c,x]).run P w= .ok (.slice A' (n+m) c') w'/\Txt w' base av A' (n+m) c' (bs++ys)/\Below base w w'/\w'.heap[av]? =w.heap[av]? /\∀k,w0.heap.size<=k->k<w.heap.size->w'.heap[k]? =w.heap[k]? :=by
 obtain⟨A',c',w',hr,h1,h2,h3⟩:=(h0.below hW).run_append (P:=P) t tx ty e i ht hi hz hsize hby x m ys hs hmax hbase hav;refine⟨A',c',w',hr,h1,h2,h3,fun k hk1 hk2=>?_⟩;obtain⟨A2,c2,w2,a,_,_,g3⟩:=((h0.avoid hk1).below hW).run_append (P:=P) t tx ty e i ht hi hz hsize hby x m ys hs hmax hbase hk2;have e:=hr.symm.trans a;simp only[Result.ok.injEq]at e;rw[e.2];exact g3
def WdP(b base:Nat)(bs:M5)(w:MZ)(v:M4)(w1:MZ):Prop:=∃A c,v= .slice A bs.length c/\Txt w1 base b A bs.length c bs/\Below base w w1/\w1.heap[b]? =w.heap[b]?
theorem xG(b base:Nat)(d:Dig)(hd:WfD d)(bs:M5)(w:MZ)(h:Wrt w b base bs)(hn:bs.length<=1000000) :
  Calls Tryz.prog 207 #[.pointer (some ⟨b,0,none⟩),aB d] w (vG b base (bs++ax d) w):=by
 obtain⟨x,y⟩:=d;obtain⟨s,t,B,C⟩:=hd;simp only at s t B C;obtain⟨x,rfl⟩:=Int.eq_ofNat_of_zero_le s;obtain⟨y,rfl⟩:=Int.eq_ofNat_of_zero_le B;have al:=ah t;have am:=ah C;clear s t B C;show Calls Tryz.prog 207 #[.pointer (some ⟨b,0,none⟩),.agg #[.int .u64 x,.int .u64 y]] w _;obtain⟨i0,hi,L,M,N⟩:=info_parts kW;have Hi:=ah hi;have an:=ah L;have ao:=ah M;have ap:=ah N;have O:=h.lt;have bo:=h.le;obtain⟨W0,D⟩:=NX9 (w.alloc (.cells #[.int .u64 x,.int .u64 y] 50))
 have E:Hid (Below w.heap.size w W0):=by rw[<-D];exact(af _ _).alloc ai _
 have aq:Hid (Bk W0 w.heap.size 50 #[.int .u64 x,.int .u64 y]):=by rw[<-D];exact Bk.new w _ _
 obtain⟨x0,x1,_,_⟩:=aq.o.two;have ar:Hid (Wrt W0 b base (bs++ (ax (x,y)).take (8*0))):=by
  show Wrt _ _ _ _;rw[Nat.mul_zero,List.take_zero,List.append_nil];exact h.below E.o
 have au:Hid (Below b w W0):=E.o.mono (by omega);have Q:w.heap.size<=W0.heap.size:=E.o.size;clear hi L M N h
 go_enter Tryz.func207,Tryz.ntmps207
 go_wp2_with fail;clear D
 go_loopw[8] (fun i wr=>∃k:Nat,k<=2/\i= .int .i64 k/\Hid (Wrt wr b base (bs++ (ax (x,y)).take (8*k)))/\Hid (Below b w wr)/\w.heap.size<=wr.heap.size) (fun i _=>2 - (intOf i).toNat)
 case atStart=>exact⟨0,by omega,rfl,ar.o,au.o,Q⟩
 case round =>
  obtain⟨k,hk,rfl,hT,hB,g⟩:=hrel;by_cases hlt2:k<2
  . have av: (k:Int)<2:=by omega
    obtain⟨z,hz,bp,R⟩:∃z:Nat,Hid (z<18446744073709551616)/\ (∀w,(Instr.index 50 (.agg #[.int .u64 (x:Int),.int .u64 (y:Int)]) (.int .i64 (k:Int))).run Tryz.prog w= .ok (.int .u64 (z:Int)) w)/\ (∀j,j<8-> (ax ((x:Int),(y:Int)))[8*k+j]? =some (UInt8.ofNat (z / 256 ^ (7 - j) % 256))):=by
     rcases Nat.lt_or_ge k 1 with h1 | h1
     . obtain rfl:k=0:=by omega
       refine⟨x,by show _<_;have:=al.o;omega,fun w=>by kernel_rfl,fun j hj=>?_⟩;unfold ax;rw[List.getElem?_append_left (by rw[fZ];omega),Int.toNat_natCast,show 8*0+j=j by omega];exact jN 8 x j hj
     . obtain rfl:k=1:=by omega
       refine⟨y,by show _<_;have:=am.o;omega,fun w=>by kernel_rfl,fun j hj=>?_⟩;unfold ax;rw[List.getElem?_append_right (by rw[fZ];omega),Int.toNat_natCast,fZ,show 8*1+j - 8=j by omega];exact jN 8 y j hj
    have aw:=ah R;clear R;go_wp2_with fail;obtain⟨wo,rfl⟩:∃wo:MZ,wo=wr:=⟨_,rfl⟩
    go_loopw[6] (fun i wr=>∃j:Nat,j<=8/\i= .int .i64 (56 - 8* (j:Int))/\Hid (Wrt wr b base (bs++ (ax (x,y)).take (8*k+j)))/\Hid (Below b w wr)/\w.heap.size<=wr.heap.size) (fun i _=>(intOf i+8).toNat)
    case atStart=>exact⟨0,by omega,rfl,hT,hB,g⟩
    case round =>
     obtain⟨j,hj,rfl,hT,hB,g⟩:=hrel;by_cases O:j<8
     . have S: (0:Int)<=56 - 8* (j:Int):=by omega
       obtain⟨p,hp⟩:=NX9 (z / 256 ^ (7 - j))
       have br:∀yk,Op.shift .shr .u64 (z:Int) yk (56 - 8* (j:Int))=pure (.int .u64 (p:Int)):=fun yk=>by
        rw[shift_shr .u64 yk _ _ S (by show _<= (64:Int);omega),<-hp];rw[show(56 - 8* (j:Int)).toNat=8* (7 - j) by omega];have e: ((z:Int) / 2 ^ (8* (7 - j)))= ((z / 256 ^ (7 - j):Nat):Int):=by
         rw[show(256:Nat)=2 ^ 8 from rfl,<-Nat.pow_mul];simp
        rw[e]
       have bv: (z:Int) / 2 ^ (56 - 8* (j:Int)).toNat= (p:Int):=by
        rw[show(56 - 8* (j:Int)).toNat=8* (7 - j) by omega];have e: ((z:Int) / 2 ^ (8* (7 - j)))= ((z / 256 ^ (7 - j):Nat):Int):=by
         rw[show(256:Nat)=2 ^ 8 from rfl,<-Nat.pow_mul];simp
        rw[e,hp]
       obtain⟨bt,F⟩:=NX9 (UInt8.ofNat (p % 256))
       have hw:IntKind.u8.wrap (p:Int)= (bt.toNat:Int):=by
        rw[IntKind.wrap_u8,<-F,je (by omega)];omega
       have aD:Hid ((ax ((x:Int),(y:Int)))[8*k+j]? =some bt):=by
        show _=_;rw[aw.o j O,hp,F]
       have T:Hid (bs++ (ax ((x:Int),(y:Int))).take (8*k+j+1)= (bs++ (ax ((x:Int),(y:Int))).take (8*k+j))++ [bt]):=by
        show _=_;rw[aS aD.o,Z4]
       have aE: (bs++ (ax ((x:Int),(y:Int))).take (8*k+j)).length<=1000016:=by rw[ae,List.length_take];omega
       obtain⟨cs,G⟩:=NX9 (bs++ (ax ((x:Int),(y:Int))).take (8*k+j))
       rw[G]at aE T;have l:=hT.o;rw[G]at l;obtain⟨A,c,H,U⟩:=l.ex;have V:=ah H;have ba:=ah U;have bb:=l.le;obtain⟨y0,y1,f0,_⟩:=H.two;clear hp F G H U l hT x0 x1;generalize hq:56 - 8* (j:Int)=q at *;have HQ:=ah hq;have bw:0<=q:=by omega
       have bx:q<=56:=by omega
       have bd:=V.o.lt;clear hq;go_wp2_with fail;refine wF 11 10 (15::16::17::18::19::20::21::22::23::24::25:: []) (by kernel_rfl) (by kernel_rfl) (by kernel_rfl) (fun b W=>match b with | false=>Below wr.heap.size wr W | true=>True) (fun b W W'=>match b with | false=>Below W.heap.size W W' | true=>W'=W)
        (fun i v W=>if i=10 then(WdP b base (cs++ [bt]) wr) v W else ig 9 ((.pointer (some ⟨b,0,none⟩)):: (.pointer (some ⟨b,0,none⟩)):: (.pointer (some ⟨b,0,none⟩)):: (.pointer (some ⟨b,0,none⟩)):: (.slice A cs.length c):: (.int .u64 (z:Int)):: (.int .i64 q):: (.int .u64 (p:Int)):: (.int .u8 (bt.toNat:Int)):: (undef):: (undef):: []) wr.heap.size 5 #[.int .u8 (bt.toNat:Int)] i v W) ?hRD ?hPD (af _ _).drew ?stepD ?turnD (by decide) ?tailD
       case hRD =>
        intro bq W W' h1 h2;cases bq with
        | false=>exact Below.trans h1 (Below.mono h2 (Below.size h1))
        | true=>trivial
       case hPD =>
        intro bq i v W W' hb h1 h2;cases bq with
        | true=>have h3:W'=W:=h2;rw[h3];exact h1
        | false =>
          by_cases e:i=10
          . cases hb e
          . simp only[if_neg e]at h1 ⊢;exact xY i v W W' h1 h2
       case stepD =>
        intro bq i o vs W hi bf X ho hv hR a;obtain⟨v0,v1,v2,v3,v4,v5,v6,v7,v8,v9,m,rfl⟩:=lG hv;simp only[List.zip,List.zipWith,aR,Act.put,List.setIfInBounds_toArray,List.set];have hE: (fun(b:Bool)(W W':MZ)=>match b with | false=>Below W.heap.size W W' | true=>W'=W) bq W W:=by
         cases bq with
         | false=>exact af _ _
         | true=>rfl
        match i,hi,ho with
        | 0,_,rfl =>
          exact .inl ⟨rfl,aJ (v:= .pointer (some ⟨b,0,none⟩)) (w':=W) (by go_simp) ⟨hE,fun _=>aI⟩⟩
        | 1,_,rfl =>
          exact .inl ⟨rfl,aJ (v:= .pointer (some ⟨b,0,none⟩)) (w':=W) (by go_simp) ⟨hE,fun _=>aI⟩⟩
        | 2,_,rfl =>
          have e1:v1=_:=a ⟨1,.data⟩ (by simp) rfl v1 rfl _ rfl;subst e1;exact .inl ⟨rfl,aJ (v:= .pointer (some ⟨b,0,none⟩)) (w':=W) (by go_simp) ⟨hE,fun _=>aI⟩⟩
        | 3,_,rfl =>
          have e2:v2=_:=a ⟨2,.data⟩ (by simp) rfl v2 rfl _ rfl;subst e2;exact .inl ⟨rfl,aJ (v:= .pointer (some ⟨b,0,none⟩)) (w':=W) (by go_simp) ⟨hE,fun _=>aI⟩⟩
        | 4,_,rfl =>
          have e3:v3=_:=a ⟨3,.data⟩ (by simp) rfl v3 rfl _ rfl;subst e3;have I:bq=false:=X _ rfl ⟨⟨4,.data⟩,by simp,rfl,rfl⟩;subst I;have bg:=(Below.cell hR (p:=⟨b,0,none⟩) (by show b<_;omega)).trans y0;exact .inl ⟨rfl,aJ (v:= .slice A cs.length c) (w':=W) (by go_simp) ⟨hE,fun _=>aI⟩⟩
        | 5,_,rfl =>
          exact .inl ⟨rfl,aJ (v:= .int .u64 (z:Int)) (w':=W) (by go_simp) ⟨hE,fun _=>aI⟩⟩
        | 6,_,rfl =>
          exact .inl ⟨rfl,aJ (v:= .int .i64 q) (w':=W) (by go_simp) ⟨hE,fun _=>aI⟩⟩
        | 7,_,rfl =>
          have e5:v5=_:=a ⟨5,.data⟩ (by simp) rfl v5 rfl _ rfl;have e6:v6=_:=a ⟨6,.data⟩ (by simp) rfl v6 rfl _ rfl;subst e5 e6;exact .inl ⟨rfl,aJ (v:= .int .u64 (p:Int)) (w':=W) (by go_simp) ⟨hE,fun _=>aI⟩⟩
        | 8,_,rfl =>
          have e7:v7=_:=a ⟨7,.data⟩ (by simp) rfl v7 rfl _ rfl;subst e7;exact .inl ⟨rfl,aJ (v:= .int .u8 (bt.toNat:Int)) (w':=W) (by go_simp) ⟨hE,fun _=>aI⟩⟩
        | 9,_,rfl =>
          have e8:v8=_:=a ⟨8,.data⟩ (by simp) rfl v8 rfl _ rfl;subst e8;have I:bq=false:=X _ rfl ⟨⟨9,.data⟩,by simp,rfl,rfl⟩;subst I;have bg:=(Below.cell hR (p:=⟨b,0,none⟩) (by show b<_;omega)).trans y0;exact .inl ⟨rfl,aJ (v:= .slice (some ⟨W.heap.size,0,none⟩) 1 1) (w':=W.alloc (.cells #[.int .u8 (bt.toNat:Int)] 5)) (by go_simp) ⟨(af _ W).alloc ai _,W.heap.size,rfl,Below.size hR,Bk.new W _ _⟩⟩
        | 10,_,_=>exact absurd rfl bf
        | i+11,hi,_=>exact absurd hi (by omega)
       case turnD =>
        intro o vs W ho hv hR a;obtain⟨v0,v1,v2,v3,v4,v5,v6,v7,v8,v9,m,rfl⟩:=lG hv;cases ho
        simp only[List.zip,List.zipWith,aR,Act.put,List.setIfInBounds_toArray,List.set];have e4:v4=_:=a ⟨4,.data⟩ (by simp) rfl v4 rfl _ rfl;obtain⟨ab,ea,Y,J⟩:∃b0,v9= .slice (some ⟨b0,0,none⟩) 1 1/\wr.heap.size<=b0/\Bk W b0 5 #[.int .u8 (bt.toNat:Int)]:=a ⟨9,.data⟩ (by simp) rfl v9 rfl;subst e4 ea;have hR:Below wr.heap.size wr W:=hR;have Z:∀w1:MZ,(∀b,wr.heap.size<=b->b<W.heap.size->w1.heap[b]? =W.heap[b]?)->∀(i:Nat)(u:M4),i≠10-> (if i=10 then(WdP b base (cs++ [bt]) wr) u W else ig 9 ((.pointer (some ⟨b,0,none⟩)):: (.pointer (some ⟨b,0,none⟩)):: (.pointer (some ⟨b,0,none⟩)):: (.pointer (some ⟨b,0,none⟩)):: (.slice A cs.length c):: (.int .u64 (z:Int)):: (.int .i64 q):: (.int .u64 (p:Int)):: (.int .u8 (bt.toNat:Int)):: (undef):: (undef):: []) wr.heap.size 5 #[.int .u8 (bt.toNat:Int)] i u W)-> (if i=10 then(WdP b base (cs++ [bt]) wr) u w1 else ig 9 ((.pointer (some ⟨b,0,none⟩)):: (.pointer (some ⟨b,0,none⟩)):: (.pointer (some ⟨b,0,none⟩)):: (.pointer (some ⟨b,0,none⟩)):: (.slice A cs.length c):: (.int .u64 (z:Int)):: (.int .i64 q):: (.int .u64 (p:Int)):: (.int .u8 (bt.toNat:Int)):: (undef):: (undef):: []) wr.heap.size 5 #[.int .u8 (bt.toNat:Int)] i u w1):=fun w1 hk i u hi hu=>by
         simp only[if_neg hi]at hu ⊢;unfold ig at hu ⊢;by_cases e:i=9
         . rw[if_pos e]at hu ⊢
           obtain⟨b0,p1,p2,p3⟩:=hu;exact⟨b0,p1,p2,(hk b0 p2 p3.lt).trans p3⟩
         . rw[if_neg e]at hu ⊢;exact hu
        refine .inl ⟨rfl,?_⟩;obtain⟨A5,c5,w1,bh,n,f,r,ad⟩:=ba.o.run_append_far (P:=Tryz.prog) hR 213 213 213 5 i0 Tryz.underlying213 Hi.o an.o ao.o ap.o (.slice (some ⟨ab,0,none⟩) 1 1) 1 [bt] (Src.ofSlice _ Tryz.underlying213 ⟨ab,0,none⟩ 1 1 (bc [bt]) rfl (fun j u hu=>by rw[Addr.add_lit,Nat.zero_add,J.cell];simpa [bc] using hu) (fun u hu=>by simp[bc]at hu;subst hu;rfl)) (by omega) (by have:=hR.size;omega) (by have:=hR.size;omega);refine xg (.tmp 19) (.tmp 24) 213 rfl rfl rfl bh ⟨trivial,⟨A5,c5,by simp,by simpa using n,((hR.mono (by omega)).trans f),r.trans (hR.block b bd)⟩,Z w1 ad⟩
       case tailD =>
        intro vs W hv hR a;obtain⟨v0,v1,v2,v3,v4,v5,v6,v7,v8,v9,m,rfl⟩:=lG hv;simp only[List.zip,List.zipWith,aR,Act.put,List.setIfInBounds_toArray,List.set,List.drop];have e0:v0=_:=a 0 v0 rfl _ rfl;have e1:v1=_:=a 1 v1 rfl _ rfl;have e2:v2=_:=a 2 v2 rfl _ rfl;have e3:v3=_:=a 3 v3 rfl _ rfl;have e4:v4=_:=a 4 v4 rfl _ rfl;have e5:v5=_:=a 5 v5 rfl _ rfl;have e6:v6=_:=a 6 v6 rfl _ rfl;have e7:v7=_:=a 7 v7 rfl _ rfl;have e8:v8=_:=a 8 v8 rfl _ rfl;obtain⟨ab,ea,Y,J⟩:∃b0,v9= .slice (some ⟨b0,0,none⟩) 1 1/\wr.heap.size<=b0/\Bk W b0 5 #[.int .u8 (bt.toNat:Int)]:=a 9 v9 rfl;have em: (WdP b base (cs++ [bt]) wr) m W:=a 10 m rfl;subst e0 e1 e2 e3 e4 e5 e6 e7 e8 ea;clear a hv hR J Y;obtain⟨A5,c5,ev,n,f,r⟩:=em;subst ev;have ag:Hid (Bk W b 283 #[.slice A cs.length c,.bool false]):=r.trans V.o;have bi:=ah n;have bz:=f.size;have bj:Hid (Below b w W):=hB.o.trans (f.mono (by omega));obtain⟨z0,z1,g0,_⟩:=ag.o.two;have ca: (cs++ [bt]).length=cs.length+1:=by simp
        clear n f r y0 y1 f0;go_wp2_with fail;go_roundw
        case rel =>
         refine⟨j+1,by omega,by rw[<-HQ.o];congr 1;omega,?_,bj.o.setCell (p:=⟨b,0,none⟩) ai _,by simp[World.setCell];omega⟩;show Wrt _ _ _ (bs++ (ax ((x:Int),(y:Int))).take (8*k+j+1));rw[T.o];refine⟨⟨A5,c5,?_,bi.o.far rfl _⟩,by omega,by simp[World.setCell];omega⟩;have:=ag.o.set 0 (.slice A5 (cs++ [bt]).length c5)
         simpa using this
        case measure=>have:=HQ.o;simp[intOf];omega
     . have S:¬(0:Int)<=56 - 8* (j:Int):=by omega
       have bk:Hid (j=8):=by show _=_;omega
       generalize hq:56 - 8* (j:Int)=q at *;clear hq;go_wp2_with fail;go_roundw
       case rel=>exact⟨k+1,by omega,by go_num,by show Wrt _ _ _ _;have h1:=hT.o;rw[bk.o]at h1;exact h1,hB.o,g⟩
       case measure=>simp[intOf];omega
  . have av:¬(k:Int)<2:=by omega
    have bm:Hid (k=2):=by show _=_;omega
    have K:=hT.o;rw[bm.o,ZW (by rw[fH];omega)]at K;have bn:=ah K;clear K;go_wp2_with fail
    go_end0
    exact⟨rfl,bn.o,hB.o,g⟩
