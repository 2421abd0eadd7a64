/-
  Lemmas of the card.
-/
import Derived.Test.YtknefelegjlgnaaGreatDoorDCDu9
set_option maxRecDepth 100000
set_option maxHeartbeats 8000000
namespace Go.Proofs.YtknefelegjlgnaaGreatDoor
open Go.RowKit
theorem Txt.join{w w':MQ}{base base' b x n c:Nat}{A:OA}{bs bs':MU}(h:Txt w' base b A n c bs)(hx:Txt w base' x A n c bs'):Txt w' base x A n c bs :=
 ⟨h.len,h.le,h.max,fun h0=>by
   obtain⟨q,off,e,h1,h2⟩:=h.lies h0;obtain⟨q',off',e',g1,_⟩:=hx.lies h0;rw[e]at e';simp only[Option.some.injEq,Addr.mk.injEq]at e';exact⟨q,off,e,⟨h1.1,by rw[e'.1];exact g1.2⟩,h2⟩⟩
theorem Txt.run_append_two{P:Program}{w:MQ}{base b x n c:Nat}{A:OA}{bs:MU}(h:Txt w base b A n c bs)(hx:Txt w base x A n c bs)(t tx ty e:TypeId)(i:TypeInfo)(ht:P.underlying t=some (.slice e))(hi:P.info? e=some i)(hz:i.zero=some (.int .u8 0))(hsize:i.size=1)(hby:i.bytes=1)
  (xv:MS) (m:Nat) (ys:MU) (hs:Src P 1 tx xv m (bc ys) w) (hmax:n+m<=140737488355328) (hbase:base<=w.heap.size) (hb:b<w.heap.size) (hxl:x<w.heap.size) :
  ∃A' c' w',(Builtin.append_ #[t,tx] ty #[.slice A n c,xv]).run P w= .ok (.slice A' (n+m) c') w'/\Txt w' base b A' (n+m) c' (bs++ys)/\Txt w' base x A' (n+m) c' (bs++ys)/\Below base w w'/\w'.heap[b]? =w.heap[b]? /\w'.heap[x]? =w.heap[x]? :=by
 obtain⟨A',c',w',hr,h1,h2,h3⟩:=h.run_append (P:=P) t tx ty e i ht hi hz hsize hby xv m ys hs hmax hbase hb;obtain⟨A2,c2,w2,hr2,g1,_,g3⟩:=hx.run_append (P:=P) t tx ty e i ht hi hz hsize hby xv m ys hs hmax hbase hxl;have e:=hr.symm.trans hr2;simp only[Result.ok.injEq,Value.slice.injEq,true_and]at e;obtain⟨⟨rfl,rfl⟩,rfl⟩:=e;exact⟨A',c',w',hr,h1,g1,h2,h3,g3⟩
theorem vX{P:Program}{w:MQ}{base b x n c:Nat}{A:OA}{bs:MU}{ops:Array Oper}{rest:List Oper}{o:Oper}{a:Act}{Q:Exit->Act->MQ->Prop}(hgd:o.guard=none)(s xo:Operand)(t tx:TypeId)
  (ho:o.op= .call {callee:= .builtin .append,args:=#[s,xo],argTypes:=#[t,tx]})
  (e:TypeId) (i:TypeInfo) (ht:P.underlying t=some (.slice e)) (hi:P.info? e=some i) (hz:i.zero=some (.int .u8 0)) (hsize:i.size=1) (hby:i.bytes=1)
  (hv:a.eval s= .slice A n c) (h:Txt w base b A n c bs) (hx2:Txt w base x A n c bs)
  (xv:MS) (m:Nat) (ys:MU) (hx:a.eval xo=xv) (hs:Src P 1 tx xv m (bc ys) w) (hmax:n+m<=140737488355328) (hbase:base<=w.heap.size) (hb:b<w.heap.size) (hxl:x<w.heap.size)
  (hK:∀A' c' w',Txt w' base b A' (n+m) c' (bs++ys)->Txt w' base x A' (n+m) c' (bs++ys)->Below base w w'->w'.heap[b]? =w.heap[b]? ->w'.heap[x]? =w.heap[x]? ->wpList P ops Q rest (a.put o.dst (.slice A' (n+m) c')) w'):wpList P ops Q (o::rest) a w:=by
 refine wpList_plain hgd fun K hK'=>?_;obtain⟨A',c',w',hrun,h1,h2,h3,h4,h5⟩:=h.run_append_two (P:=P) hx2 t tx o.type e i ht hi hz hsize hby xv m ys hs hmax hbase hb hxl;unfold Oper.wp;simp[execOp,ho,resolve,invoke,builtin,hv,hx,hrun,Result.andThen];exact hK' _ _ (hK A' c' w' h1 h2 h3 h4 h5)
structure Wrx(w:MQ)(b base x:Nat)(bs:MU):Prop where
 ex:∃A c,Bk w b 283 #[.slice A bs.length c,.bool false]/\Txt w base b A bs.length c bs/\Txt w base x A bs.length c bs
 lt:b<base
 le:base<=w.heap.size
 ne:x≠b
 xl:x<w.heap.size
theorem Wrx.wrt{w:MQ}{b base x:Nat}{bs:MU}(h:Wrx w b base x bs):Wrt w b base bs:=by
 obtain⟨A,c,h1,h2,_⟩:=h.ex;exact⟨⟨A,c,h1,h2⟩,h.lt,h.le⟩
theorem Wrx.below{w w':MQ}{b base x:Nat}{bs:MU}(h:Wrx w b base x bs)(hb:Below w.heap.size w w'):Wrx w' b base x bs:=by
 obtain⟨A,c,h1,h2,h3⟩:=h.ex;exact⟨⟨A,c,h1.below hb h1.lt,h2.below hb,h3.below hb⟩,h.lt,Z0 h.le hb.size,h.ne,Nat.lt_of_lt_of_le h.xl hb.size⟩
theorem Wrt.wrx{w w':MQ}{b base:Nat}{bs:MU}(h:Wrt w b base bs)(hb:Below w.heap.size w w')(hx:w.heap.size<w'.heap.size):Wrx w' b base w.heap.size bs:=by
 obtain⟨A,c,h1,h2⟩:=h.ex;exact⟨⟨A,c,h1.below hb h1.lt,h2.below hb,(h2.avoid ai).below hb⟩,h.lt,Z0 h.le hb.size,by have:=h.lt;have:=h.le;omega,hx⟩
def vw(b base x:Nat)(bs:MU)(w:MQ)(e:Ending)(w':MQ):Prop:=e= .returned (.tuple #[])/\Wrx w' b base x bs/\Below b w w'/\w.heap.size<=w'.heap.size/\w'.heap[x]? =w.heap[x]?
theorem Jw(b base x:Nat)(k:Nat)(bs:MU)(w:MQ)(h:Wrx w b base x bs)(hk:k<=1099511627776)(hn:bs.length<=1000000) :
  Calls Tryz.prog 205 #[.pointer (some ⟨b,0,none⟩),.int .i64 k] w (vw b base x (bs++aj k) w):=by
 have HP:=ah (lX k hk w);have H:=ah h;have hle:=eu 5 k (by omega);obtain⟨i0,hi,hz0,hz1,hz2⟩:=info_parts kT;have Hi:=ah hi;have Hz0:=ah hz0;have Hz1:=ah hz1;have Hz2:=ah hz2;clear h hi hz0 hz1 hz2
 go_enter Tryz.func205,Tryz.ntmps205
 go_wp2_with (go_at_call 107;refine HP.out.mono ?_;rintro e w1 ⟨rfl,hb1⟩;refine aM ?_)
 refine aF ?_;have H1:=H.out.below hb1;obtain⟨A,c,hk1,ht1,hx1⟩:=H1.ex;have hlt:=H1.lt;have hbase:=H1.le;have HNE:=ah H1.ne;have HXL:=ah H1.xl;have HB1:Hid (Below b w w1):=hb1.mono (by have:=H.out.lt;have:=H.out.le;omega);have HXK1:Hid (w1.heap[x]? =w.heap[x]?):=hb1.block x H.out.xl;have hz1:=hb1.size;have HK1:=ah hk1;have HT1:=ah ht1;have HX1:=ah hx1;have c0:=HK1.out.cell 0;have c1:=HK1.out.cell 1;have f1:=HK1.out.free 1;simp at c0 c1;clear hb1 H1 hk1 ht1 hx1;obtain⟨W2,hW2⟩:∃W2,w1.setCell ⟨b,1,none⟩ (.bool false)=W2:=⟨_,rfl⟩
 have HK2:Hid (Bk W2 b 283 #[.slice A bs.length c,.bool false]):=by
  rw[<-hW2];have:=HK1.out.set 1 (.bool false);show Bk _ _ _ _;simpa using this
 have HT2:Hid (Txt W2 base b A bs.length c bs):=by rw[<-hW2];exact HT1.out.far rfl _
 have HX2:Hid (Txt W2 base x A bs.length c bs):=HT2.out.join HX1.out;have HB2:Hid (Below b w W2):=by rw[<-hW2];exact HB1.out.setCell (p:=⟨b,1,none⟩) ai _
 have HXK2:Hid (W2.heap[x]? =w.heap[x]?):=by
  show _=_;rw[<-hW2];exact(Z8 w1 ⟨b,1,none⟩ _ x HNE.out).trans HXK1.out
 have zW2:W2.heap.size=w1.heap.size:=by rw[<-hW2];simp
 have d0:=HK2.out.cell 0;have g0:=HK2.out.free 0;simp at d0
 go_wp2_with (at_builtin;refine pg (.tmp 26) (.tmp 27) 213 9 rfl ?_)
 refine aF ?_;refine vX (base:=base) (b:=b) (x:=x) rfl (.tmp 26) (.tmp 27) 213 9 rfl 5 i0 Tryz.underlying213 Hi.out Hz0.out Hz1.out Hz2.out (A:=A) (n:=bs.length) (c:=c) (bs:=bs) rfl HT2.out HX2.out (.string (ofL (aj k))) (aj k).length (aj k) rfl (pQ (ofL (aj k)) _) (by omega) (by omega) (by omega) (by have:=HXL.out;omega) ?_;intro A' c' w3 ht3 hx3 hb3 hk3 hxk3;have HK3:Hid (Bk w3 b 283 #[.slice A bs.length c,.bool false]):=hk3.trans HK2.out;have HT3:=ah ht3;have HX3:=ah hx3;have HXK3:Hid (w3.heap[x]? =w.heap[x]?):=hxk3.trans HXK2.out;have HB3:Hid (Below b w w3):=HB2.out.trans (hb3.mono (by omega));have hz3:=hb3.size;have e0:=HK3.out.cell 0;have e1:=HK3.out.free 0;simp at e0;clear ht3 hx3 hb3 hk3 hxk3 d0 g0 c0 c1 f1;go_wp2_with fail
 go_end0
 have hl: (bs++aj k).length=bs.length+ (aj k).length:=by simp
 refine⟨rfl,⟨⟨A',c',?_,?_,?_⟩,hlt,by simp;omega,HNE.out,by have:=HXL.out;simp;omega⟩,HB3.out.setCell (p:=⟨b,0,none⟩) ai _,by simp;omega,(Z8 w3 ⟨b,0,none⟩ _ x HNE.out).trans HXK3.out⟩
 . rw[hl];have:=HK3.out.set 0 (.slice A' (bs.length+ (aj k).length) c');show Bk _ _ _ _;simpa using this
 . rw[hl];exact HT3.out.far rfl _
 . rw[hl];exact(HT3.out.far (p:=⟨b,0,none⟩) rfl _).join HX3.out
theorem Ju(b base x:Nat)(s:MR)(bs:MU)(w:MQ)(h:Wrx w b base x bs)(hk:s.size<=65536)(hn:bs.length<=1000000) :
  Calls Tryz.prog 206 #[.pointer (some ⟨b,0,none⟩),.string s] w (vw b base x (bs++ak (toL s)) w):=by
 have HP:=ah (rG s hk w);have H:=ah h;have hle: (ak (toL s)).length<=70000:=by
  have h1:=eu 5 s.size (by omega);have h2:=aP s;unfold ak;rw[ae,<-h2];omega
 obtain⟨i0,hi,hz0,hz1,hz2⟩:=info_parts kT;have Hi:=ah hi;have Hz0:=ah hz0;have Hz1:=ah hz1;have Hz2:=ah hz2;clear h hi hz0 hz1 hz2
 go_enter Tryz.func206,Tryz.ntmps206
 go_wp2_with (go_at_call 178;refine HP.out.mono ?_;rintro e w1 ⟨rfl,hb1⟩;refine aM ?_)
 refine aF ?_;have H1:=H.out.below hb1;obtain⟨A,c,hk1,ht1,hx1⟩:=H1.ex;have hlt:=H1.lt;have hbase:=H1.le;have HNE:=ah H1.ne;have HXL:=ah H1.xl;have HB1:Hid (Below b w w1):=hb1.mono (by have:=H.out.lt;have:=H.out.le;omega);have HXK1:Hid (w1.heap[x]? =w.heap[x]?):=hb1.block x H.out.xl;have hz1:=hb1.size;have HK1:=ah hk1;have HT1:=ah ht1;have HX1:=ah hx1;have c0:=HK1.out.cell 0;have c1:=HK1.out.cell 1;have f1:=HK1.out.free 1;simp at c0 c1;clear hb1 H1 hk1 ht1 hx1;obtain⟨W2,hW2⟩:∃W2,w1.setCell ⟨b,1,none⟩ (.bool false)=W2:=⟨_,rfl⟩
 have HK2:Hid (Bk W2 b 283 #[.slice A bs.length c,.bool false]):=by
  rw[<-hW2];have:=HK1.out.set 1 (.bool false);show Bk _ _ _ _;simpa using this
 have HT2:Hid (Txt W2 base b A bs.length c bs):=by rw[<-hW2];exact HT1.out.far rfl _
 have HX2:Hid (Txt W2 base x A bs.length c bs):=HT2.out.join HX1.out;have HB2:Hid (Below b w W2):=by rw[<-hW2];exact HB1.out.setCell (p:=⟨b,1,none⟩) ai _
 have HXK2:Hid (W2.heap[x]? =w.heap[x]?):=by
  show _=_;rw[<-hW2];exact(Z8 w1 ⟨b,1,none⟩ _ x HNE.out).trans HXK1.out
 have zW2:W2.heap.size=w1.heap.size:=by rw[<-hW2];simp
 have d0:=HK2.out.cell 0;have g0:=HK2.out.free 0;simp at d0
 go_wp2_with (at_builtin;refine pg (.tmp 25) (.tmp 26) 213 9 rfl ?_)
 refine aF ?_;refine vX (base:=base) (b:=b) (x:=x) rfl (.tmp 25) (.tmp 26) 213 9 rfl 5 i0 Tryz.underlying213 Hi.out Hz0.out Hz1.out Hz2.out (A:=A) (n:=bs.length) (c:=c) (bs:=bs) rfl HT2.out HX2.out (.string (ofL (ak (toL s)))) (ak (toL s)).length (ak (toL s)) rfl (pQ (ofL (ak (toL s))) _) (by omega) (by omega) (by omega) (by have:=HXL.out;omega) ?_;intro A' c' w3 ht3 hx3 hb3 hk3 hxk3;have HK3:Hid (Bk w3 b 283 #[.slice A bs.length c,.bool false]):=hk3.trans HK2.out;have HT3:=ah ht3;have HX3:=ah hx3;have HXK3:Hid (w3.heap[x]? =w.heap[x]?):=hxk3.trans HXK2.out;have HB3:Hid (Below b w w3):=HB2.out.trans (hb3.mono (by omega));have hz3:=hb3.size;have e0:=HK3.out.cell 0;have e1:=HK3.out.free 0;simp at e0;clear ht3 hx3 hb3 hk3 hxk3 d0 g0 c0 c1 f1;go_wp2_with fail
 go_end0
 have hl: (bs++ak (toL s)).length=bs.length+ (ak (toL s)).length:=by simp
 refine⟨rfl,⟨⟨A',c',?_,?_,?_⟩,hlt,by simp;omega,HNE.out,by have:=HXL.out;simp;omega⟩,HB3.out.setCell (p:=⟨b,0,none⟩) ai _,by simp;omega,(Z8 w3 ⟨b,0,none⟩ _ x HNE.out).trans HXK3.out⟩
 . rw[hl];have:=HK3.out.set 0 (.slice A' (bs.length+ (ak (toL s)).length) c');show Bk _ _ _ _;simpa using this
 . rw[hl];exact HT3.out.far rfl _
 . rw[hl];exact(HT3.out.far (p:=⟨b,0,none⟩) rfl _).join HX3.out
def WxP(b base xb:Nat)(bs:MU)(w:MQ)(v:MS)(w1:MQ):Prop:=∃A c,v= .slice A bs.length c/\Txt w1 base b A bs.length c bs/\Txt w1 base xb A bs.length c bs/\Below base w w1/\w1.heap[b]? =w.heap[b]? /\w1.heap[xb]? =w.heap[xb]?
theorem Jy(b base xb:Nat)(d:Dig)(hd:WfD d)(bs:MU)(w:MQ)(h:Wrx w b base xb bs)(hn:bs.length<=1000000) :
  Calls Tryz.prog 207 #[.pointer (some ⟨b,0,none⟩),aB d] w (vw b base xb (bs++ax d) w):=by
 obtain⟨x,y⟩:=d;obtain⟨hx0,hx1,hy0,hy1⟩:=hd;simp only at hx0 hx1 hy0 hy1;obtain⟨x,rfl⟩:=Int.eq_ofNat_of_zero_le hx0;obtain⟨y,rfl⟩:=Int.eq_ofNat_of_zero_le hy0;have HX1:=ah hx1;have HY1:=ah hy1;clear hx0 hx1 hy0 hy1;show Calls Tryz.prog 207 #[.pointer (some ⟨b,0,none⟩),.agg #[.int .u64 x,.int .u64 y]] w _;obtain⟨i0,hi,hz0,hz1,hz2⟩:=info_parts kT;have Hi:=ah hi;have Hz0:=ah hz0;have Hz1:=ah hz1;have Hz2:=ah hz2;have hlt:=h.lt;have hle:=h.le;have hxl:=h.xl;have HNE:=ah h.ne;obtain⟨W0,hW0⟩:∃W0,w.alloc (.cells #[.int .u64 x,.int .u64 y] 50)=W0:=⟨_,rfl⟩
 have HB0:Hid (Below w.heap.size w W0):=by rw[<-hW0];exact(af _ _).alloc ai _
 have HK0:Hid (Bk W0 w.heap.size 50 #[.int .u64 x,.int .u64 y]):=by rw[<-hW0];exact Bk.new w _ _
 obtain⟨x0,x1,_,_⟩:=HK0.out.two;have HR0:Hid (Wrx W0 b base xb (bs++ (ax (x,y)).take (8*0))):=by
  show Wrx _ _ _ _ _;rw[Nat.mul_zero,List.take_zero,List.append_nil];exact h.below HB0.out
 have HB1:Hid (Below b w W0):=HB0.out.mono (by omega);have hz0':w.heap.size<=W0.heap.size:=HB0.out.size;have HX0:Hid (W0.heap[xb]? =w.heap[xb]?):=HB0.out.block xb hxl;clear hi hz0 hz1 hz2 h
 go_enter Tryz.func207,Tryz.ntmps207
 go_wp2_with fail;clear hW0
 go_loopw[8] (fun i wr=>∃k:Nat,k<=2/\i= .int .i64 k/\Hid (Wrx wr b base xb (bs++ (ax (x,y)).take (8*k)))/\Hid (Below b w wr)/\w.heap.size<=wr.heap.size/\Hid (wr.heap[xb]? =w.heap[xb]?)) (fun i _=>2 - (intOf i).toNat)
 case atStart=>exact⟨0,by omega,rfl,HR0.out,HB1.out,hz0',HX0.out⟩
 case round =>
  obtain⟨k,hk,rfl,hT,hB,hwz,hX⟩:=hrel;by_cases hlt2:k<2
  . have hlz: (k:Int)<2:=by omega
    obtain⟨z,hz,hix,hby⟩:∃z:Nat,Hid (z<18446744073709551616)/\ (∀w,(Instr.index 50 (.agg #[.int .u64 (x:Int),.int .u64 (y:Int)]) (.int .i64 (k:Int))).run Tryz.prog w= .ok (.int .u64 (z:Int)) w)/\ (∀j,j<8-> (ax ((x:Int),(y:Int)))[8*k+j]? =some (UInt8.ofNat (z / 256 ^ (7 - j) % 256))):=by
     rcases Nat.lt_or_ge k 1 with h1 | h1
     . obtain rfl:k=0:=by omega
       refine⟨x,by show _<_;have:=HX1.out;omega,fun w=>by kernel_rfl,fun j hj=>?_⟩;unfold ax;rw[List.getElem?_append_left (by rw[fT];omega),Int.toNat_natCast,show 8*0+j=j by omega];exact jN 8 x j hj
     . obtain rfl:k=1:=by omega
       refine⟨y,by show _<_;have:=HY1.out;omega,fun w=>by kernel_rfl,fun j hj=>?_⟩;unfold ax;rw[List.getElem?_append_right (by rw[fT];omega),Int.toNat_natCast,fT,show 8*1+j - 8=j by omega];exact jN 8 y j hj
    have HBY:=ah hby;clear hby;go_wp2_with fail;obtain⟨wo,rfl⟩:∃wo:MQ,wo=wr:=⟨_,rfl⟩
    go_loopw[6] (fun i wr=>∃j:Nat,j<=8/\i= .int .i64 (56 - 8* (j:Int))/\Hid (Wrx wr b base xb (bs++ (ax (x,y)).take (8*k+j)))/\Hid (Below b w wr)/\w.heap.size<=wr.heap.size/\Hid (wr.heap[xb]? =w.heap[xb]?)) (fun i _=>(intOf i+8).toNat)
    case atStart=>exact⟨0,by omega,rfl,hT,hB,hwz,hX⟩
    case round =>
     obtain⟨j,hj,rfl,hT,hB,hwz,hX⟩:=hrel;by_cases hlt:j<8
     . have hji: (0:Int)<=56 - 8* (j:Int):=by omega
       obtain⟨p,hp⟩:∃p,z / 256 ^ (7 - j)=p:=⟨_,rfl⟩
       have hsh:∀yk,Op.shift .shr .u64 (z:Int) yk (56 - 8* (j:Int))=pure (.int .u64 (p:Int)):=fun yk=>by
        rw[shift_shr .u64 yk _ _ hji (by show _<= (64:Int);omega),<-hp];rw[show(56 - 8* (j:Int)).toNat=8* (7 - j) by omega];have e: ((z:Int) / 2 ^ (8* (7 - j)))= ((z / 256 ^ (7 - j):Nat):Int):=by
         rw[show(256:Nat)=2 ^ 8 from rfl,<-Nat.pow_mul];simp
        rw[e]
       have hdv: (z:Int) / 2 ^ (56 - 8* (j:Int)).toNat= (p:Int):=by
        rw[show(56 - 8* (j:Int)).toNat=8* (7 - j) by omega];have e: ((z:Int) / 2 ^ (8* (7 - j)))= ((z / 256 ^ (7 - j):Nat):Int):=by
         rw[show(256:Nat)=2 ^ 8 from rfl,<-Nat.pow_mul];simp
        rw[e,hp]
       obtain⟨bt,hbt⟩:∃b,UInt8.ofNat (p % 256)=b:=⟨_,rfl⟩
       have hw:IntKind.u8.wrap (p:Int)= (bt.toNat:Int):=by
        rw[IntKind.wrap_u8,<-hbt,jc (by omega)];omega
       have HBJ:Hid ((ax ((x:Int),(y:Int)))[8*k+j]? =some bt):=by
        show _=_;rw[HBY.out j hlt,hp,hbt]
       have HBE:Hid (bs++ (ax ((x:Int),(y:Int))).take (8*k+j+1)= (bs++ (ax ((x:Int),(y:Int))).take (8*k+j))++ [bt]):=by
        show _=_;rw[aS HBJ.out,Z4]
       have hml: (bs++ (ax ((x:Int),(y:Int))).take (8*k+j)).length<=1000016:=by rw[ae,List.length_take];omega
       obtain⟨cs,hcs⟩:∃cs,bs++ (ax ((x:Int),(y:Int))).take (8*k+j)=cs:=⟨_,rfl⟩
       rw[hcs]at hml HBE;have hT':=hT.out;rw[hcs]at hT';obtain⟨A,c,hkw,htx,hxx⟩:=hT'.ex;have HKW:=ah hkw;have HTX:=ah htx;have HXX:=ah hxx;have hxr:=hT'.xl;have hbase:=hT'.le;obtain⟨y0,y1,f0,_⟩:=hkw.two;clear hp hbt hcs hkw htx hxx hT' hT x0 x1;generalize hq:56 - 8* (j:Int)=q at *;have HQ:=ah hq;have hq0:0<=q:=by omega
       have hq2:q<=56:=by omega
       have hbr:=HKW.out.lt;clear hq;go_wp2_with fail;refine vY 11 10 (15::16::17::18::19::20::21::22::23::24::25:: []) (by kernel_rfl) (by kernel_rfl) (by kernel_rfl) (fun b W=>match b with | false=>Below wr.heap.size wr W | true=>True) (fun b W W'=>match b with | false=>Below W.heap.size W W' | true=>W'=W)
        (fun i v W=>if i=10 then(WxP b base xb (cs++ [bt]) wr) v W else ig 9 ((.pointer (some ⟨b,0,none⟩)):: (.pointer (some ⟨b,0,none⟩)):: (.pointer (some ⟨b,0,none⟩)):: (.pointer (some ⟨b,0,none⟩)):: (.slice A cs.length c):: (.int .u64 (z:Int)):: (.int .i64 q):: (.int .u64 (p:Int)):: (.int .u8 (bt.toNat:Int)):: (undef):: (undef):: []) wr.heap.size 5 #[.int .u8 (bt.toNat:Int)] i v W) ?hRD ?hPD (af _ _).drew ?stepD ?turnD (by decide) ?tailD
       case hRD =>
        intro bq W W' h1 h2;cases bq with
        | false=>exact Below.trans h1 (Below.mono h2 (Below.size h1))
        | true=>trivial
       case hPD =>
        intro bq i v W W' hb h1 h2;cases bq with
        | true=>have h3:W'=W:=h2;rw[h3];exact h1
        | false =>
          by_cases e:i=10
          . cases hb e
          . simp only[if_neg e]at h1 ⊢;exact x9 i v W W' h1 h2
       case stepD =>
        intro bq i o vs W hi hne hbd ho hv hR hphi;obtain⟨v0,v1,v2,v3,v4,v5,v6,v7,v8,v9,v10,rfl⟩:=lF hv;simp only[List.zip,List.zipWith,aR,Act.put,List.setIfInBounds_toArray,List.set];have hE: (fun(b:Bool)(W W':MQ)=>match b with | false=>Below W.heap.size W W' | true=>W'=W) bq W W:=by
         cases bq with
         | false=>exact af _ _
         | true=>rfl
        match i,hi,ho with
        | 0,_,rfl =>
          exact .inl ⟨rfl,aJ (v:= .pointer (some ⟨b,0,none⟩)) (w':=W) (by go_simp) ⟨hE,fun _=>aI⟩⟩
        | 1,_,rfl =>
          exact .inl ⟨rfl,aJ (v:= .pointer (some ⟨b,0,none⟩)) (w':=W) (by go_simp) ⟨hE,fun _=>aI⟩⟩
        | 2,_,rfl =>
          have e1:v1=_:=hphi ⟨1,.data⟩ (by simp) rfl v1 rfl _ rfl;subst e1;exact .inl ⟨rfl,aJ (v:= .pointer (some ⟨b,0,none⟩)) (w':=W) (by go_simp) ⟨hE,fun _=>aI⟩⟩
        | 3,_,rfl =>
          have e2:v2=_:=hphi ⟨2,.data⟩ (by simp) rfl v2 rfl _ rfl;subst e2;exact .inl ⟨rfl,aJ (v:= .pointer (some ⟨b,0,none⟩)) (w':=W) (by go_simp) ⟨hE,fun _=>aI⟩⟩
        | 4,_,rfl =>
          have e3:v3=_:=hphi ⟨3,.data⟩ (by simp) rfl v3 rfl _ rfl;subst e3;have hb0:bq=false:=hbd _ rfl ⟨⟨4,.data⟩,by simp,rfl,rfl⟩;subst hb0;have y0':=(Below.cell hR (p:=⟨b,0,none⟩) (by show b<_;omega)).trans y0;exact .inl ⟨rfl,aJ (v:= .slice A cs.length c) (w':=W) (by go_simp) ⟨hE,fun _=>aI⟩⟩
        | 5,_,rfl =>
          exact .inl ⟨rfl,aJ (v:= .int .u64 (z:Int)) (w':=W) (by go_simp) ⟨hE,fun _=>aI⟩⟩
        | 6,_,rfl =>
          exact .inl ⟨rfl,aJ (v:= .int .i64 q) (w':=W) (by go_simp) ⟨hE,fun _=>aI⟩⟩
        | 7,_,rfl =>
          have e5:v5=_:=hphi ⟨5,.data⟩ (by simp) rfl v5 rfl _ rfl;have e6:v6=_:=hphi ⟨6,.data⟩ (by simp) rfl v6 rfl _ rfl;subst e5 e6;exact .inl ⟨rfl,aJ (v:= .int .u64 (p:Int)) (w':=W) (by go_simp) ⟨hE,fun _=>aI⟩⟩
        | 8,_,rfl =>
          have e7:v7=_:=hphi ⟨7,.data⟩ (by simp) rfl v7 rfl _ rfl;subst e7;exact .inl ⟨rfl,aJ (v:= .int .u8 (bt.toNat:Int)) (w':=W) (by go_simp) ⟨hE,fun _=>aI⟩⟩
        | 9,_,rfl =>
          have e8:v8=_:=hphi ⟨8,.data⟩ (by simp) rfl v8 rfl _ rfl;subst e8;have hb0:bq=false:=hbd _ rfl ⟨⟨9,.data⟩,by simp,rfl,rfl⟩;subst hb0;have y0':=(Below.cell hR (p:=⟨b,0,none⟩) (by show b<_;omega)).trans y0;exact .inl ⟨rfl,aJ (v:= .slice (some ⟨W.heap.size,0,none⟩) 1 1) (w':=W.alloc (.cells #[.int .u8 (bt.toNat:Int)] 5)) (by go_simp) ⟨(af _ W).alloc ai _,W.heap.size,rfl,Below.size hR,Bk.new W _ _⟩⟩
        | 10,_,_=>exact absurd rfl hne
        | i+11,hi,_=>exact absurd hi (by omega)
       case turnD =>
        intro o vs W ho hv hR hphi;obtain⟨v0,v1,v2,v3,v4,v5,v6,v7,v8,v9,v10,rfl⟩:=lF hv;cases ho
        simp only[List.zip,List.zipWith,aR,Act.put,List.setIfInBounds_toArray,List.set];have e4:v4=_:=hphi ⟨4,.data⟩ (by simp) rfl v4 rfl _ rfl;obtain⟨ab,ea,hab,hak⟩:∃b0,v9= .slice (some ⟨b0,0,none⟩) 1 1/\wr.heap.size<=b0/\Bk W b0 5 #[.int .u8 (bt.toNat:Int)]:=hphi ⟨9,.data⟩ (by simp) rfl v9 rfl;subst e4 ea;have hR:Below wr.heap.size wr W:=hR;have hall:∀w1:MQ,(∀b,wr.heap.size<=b->b<W.heap.size->w1.heap[b]? =W.heap[b]?)->∀(i:Nat)(u:MS),i≠10-> (if i=10 then(WxP b base xb (cs++ [bt]) wr) u W else ig 9 ((.pointer (some ⟨b,0,none⟩)):: (.pointer (some ⟨b,0,none⟩)):: (.pointer (some ⟨b,0,none⟩)):: (.pointer (some ⟨b,0,none⟩)):: (.slice A cs.length c):: (.int .u64 (z:Int)):: (.int .i64 q):: (.int .u64 (p:Int)):: (.int .u8 (bt.toNat:Int)):: (undef):: (undef):: []) wr.heap.size 5 #[.int .u8 (bt.toNat:Int)] i u W)-> (if i=10 then(WxP b base xb (cs++ [bt]) wr) u w1 else ig 9 ((.pointer (some ⟨b,0,none⟩)):: (.pointer (some ⟨b,0,none⟩)):: (.pointer (some ⟨b,0,none⟩)):: (.pointer (some ⟨b,0,none⟩)):: (.slice A cs.length c):: (.int .u64 (z:Int)):: (.int .i64 q):: (.int .u64 (p:Int)):: (.int .u8 (bt.toNat:Int)):: (undef):: (undef):: []) wr.heap.size 5 #[.int .u8 (bt.toNat:Int)] i u w1):=fun w1 hk i u hi hu=>by
         simp only[if_neg hi]at hu ⊢;unfold ig at hu ⊢;by_cases e:i=9
         . rw[if_pos e]at hu ⊢
           obtain⟨b0,p1,p2,p3⟩:=hu;exact⟨b0,p1,p2,(hk b0 p2 p3.lt).trans p3⟩
         . rw[if_neg e]at hu ⊢;exact hu
        refine .inl ⟨rfl,?_⟩;obtain⟨A5,c5,w1,hr5,ht5,hb5,hk5,hfar⟩:=HTX.out.run_append_far (P:=Tryz.prog) hR 213 213 213 5 i0 Tryz.underlying213 Hi.out Hz0.out Hz1.out Hz2.out (.slice (some ⟨ab,0,none⟩) 1 1) 1 [bt] (Src.ofSlice _ Tryz.underlying213 ⟨ab,0,none⟩ 1 1 (bc [bt]) rfl (fun j u hu=>by rw[Addr.add_lit,Nat.zero_add,hak.cell];simpa [bc] using hu) (fun u hu=>by simp[bc]at hu;subst hu;rfl)) (by omega) (by have:=hR.size;omega) (by have:=hR.size;omega);obtain⟨A6,c6,w6,hr6,hx5,_,hxk5,_⟩:=HXX.out.run_append_far (P:=Tryz.prog) hR 213 213 213 5 i0 Tryz.underlying213 Hi.out Hz0.out Hz1.out Hz2.out (.slice (some ⟨ab,0,none⟩) 1 1) 1 [bt] (Src.ofSlice _ Tryz.underlying213 ⟨ab,0,none⟩ 1 1 (bc [bt]) rfl (fun j u hu=>by rw[Addr.add_lit,Nat.zero_add,hak.cell];simpa [bc] using hu) (fun u hu=>by simp[bc]at hu;subst hu;rfl)) (by omega) (by have:=hR.size;omega) (by have:=hR.size;omega);have e6:=hr5.symm.trans hr6;simp only[Result.ok.injEq,Value.slice.injEq,true_and]at e6;obtain⟨⟨rfl,rfl⟩,rfl⟩:=e6;refine wU (.tmp 19) (.tmp 24) 213 rfl rfl rfl hr5 ⟨trivial,⟨A5,c5,by simp,by simpa using ht5,by simpa using hx5,((hR.mono (by omega)).trans hb5),hk5.trans (hR.block b hbr),hxk5.trans (hR.block xb hxr)⟩,hall w1 hfar⟩
       case tailD =>
        intro vs W hv hR hphi;obtain⟨v0,v1,v2,v3,v4,v5,v6,v7,v8,v9,v10,rfl⟩:=lF hv;simp only[List.zip,List.zipWith,aR,Act.put,List.setIfInBounds_toArray,List.set,List.drop];have e0:v0=_:=hphi 0 v0 rfl _ rfl;have e1:v1=_:=hphi 1 v1 rfl _ rfl;have e2:v2=_:=hphi 2 v2 rfl _ rfl;have e3:v3=_:=hphi 3 v3 rfl _ rfl;have e4:v4=_:=hphi 4 v4 rfl _ rfl;have e5:v5=_:=hphi 5 v5 rfl _ rfl;have e6:v6=_:=hphi 6 v6 rfl _ rfl;have e7:v7=_:=hphi 7 v7 rfl _ rfl;have e8:v8=_:=hphi 8 v8 rfl _ rfl;obtain⟨ab,ea,hab,hak⟩:∃b0,v9= .slice (some ⟨b0,0,none⟩) 1 1/\wr.heap.size<=b0/\Bk W b0 5 #[.int .u8 (bt.toNat:Int)]:=hphi 9 v9 rfl;have em: (WxP b base xb (cs++ [bt]) wr) v10 W:=hphi 10 v10 rfl;subst e0 e1 e2 e3 e4 e5 e6 e7 e8 ea;clear hphi hv hR hak hab;obtain⟨A5,c5,ev,ht5,hx5,hb5,hk5,hxk5⟩:=em;subst ev;have HK5:Hid (Bk W b 283 #[.slice A cs.length c,.bool false]):=hk5.trans HKW.out;have HT5:=ah ht5;have HX5:=ah hx5;have HXK:Hid (W.heap[xb]? =w.heap[xb]?):=hxk5.trans hX.out;have hz5:=hb5.size;have HB5:Hid (Below b w W):=hB.out.trans (hb5.mono (by omega));obtain⟨z0,z1,g0,_⟩:=HK5.out.two;have hcl: (cs++ [bt]).length=cs.length+1:=by simp
        clear ht5 hx5 hb5 hk5 hxk5 y0 y1 f0;go_wp2_with fail;go_roundw
        case rel =>
         refine⟨j+1,by omega,by rw[<-HQ.out];congr 1;omega,?_,HB5.out.setCell (p:=⟨b,0,none⟩) ai _,by simp[World.setCell];omega,(Z8 W ⟨b,0,none⟩ _ xb HNE.out).trans HXK.out⟩;show Wrx _ _ _ _ (bs++ (ax ((x:Int),(y:Int))).take (8*k+j+1));rw[HBE.out];refine⟨⟨A5,c5,?_,HT5.out.far rfl _,(HT5.out.far (p:=⟨b,0,none⟩) rfl _).join HX5.out⟩,by omega,by simp[World.setCell];omega,HNE.out,by simp[World.setCell];omega⟩;have:=HK5.out.set 0 (.slice A5 (cs++ [bt]).length c5)
         simpa using this
        case measure=>have:=HQ.out;simp[intOf];omega
     . have hji:¬(0:Int)<=56 - 8* (j:Int):=by omega
       have HJ8:Hid (j=8):=by show _=_;omega
       generalize hq:56 - 8* (j:Int)=q at *;clear hq;go_wp2_with fail;go_roundw
       case rel=>exact⟨k+1,by omega,by go_num,by show Wrx _ _ _ _ _;have h1:=hT.out;rw[HJ8.out]at h1;exact h1,hB.out,hwz,hX.out⟩
       case measure=>simp[intOf];omega
  . have hlz:¬(k:Int)<2:=by omega
    have HK2:Hid (k=2):=by show _=_;omega
    have hT2:=hT.out;rw[HK2.out,ZW (by rw[fF];omega)]at hT2;have HT2:=ah hT2;clear hT2;go_wp2_with fail
    go_end0
    exact⟨rfl,HT2.out,hB.out,hwz,hX.out⟩
theorem Du{α β:Type}(f:α->List β)(l:List α)(k:Nat): ((l.take k).flatMap f).length<= (l.flatMap f).length:=by
 conv=>rhs;rw[<-List.take_append_drop k l,List.flatMap_append,ae]
 omega
theorem wF{α β:Type}{f:α->List β}{l:List α}{k:Nat}{x:α}(h:l[k]? =some x): (l.take (k+1)).flatMap f= (l.take k).flatMap f++f x:=by
 rw[aS h,List.flatMap_append];simp
def qh(o:Ob)(w:MQ)(e:Ending)(w':MQ):Prop:=e= .returned (.tuple #[.string (ofL (aG o)),.int .i64 0])/\Below w.heap.size w w'
theorem rF(o:Ob)(s:Osl)(B:Nat)(w:MQ)(hm:ObM w B o s)(hB:B<=w.heap.size)(ho:OkO o) :
  Calls Tryz.prog 125 #[obV o s] w (qh o w):=by
 obtain⟨W0,hW0⟩:∃W,w.alloc (.cells (obC o s) 109)=W:=⟨_,rfl⟩
 have HB0:Hid (Below w.heap.size w W0):=by rw[<-hW0];exact(af _ w).alloc ai _
 have HK0:Hid (Bk W0 w.heap.size 109 (obC o s)):=by rw[<-hW0];exact Bk.new w _ _
 have zW0:W0.heap.size=w.heap.size+1:=by rw[<-hW0];simp
 have HM:=ah hm;have HC:=ah (D6 o s B W0 (hm.below (HB0.out.mono hB) ai) (by omega) ho.f);have HLEN:=ah ho.len;have hel:=hm.elen;have hpl:=hm.plen;have HE:=ah hm.e;have HP:=ah hm.p;cases ho.f with
 | blob k e c d =>
   have HENC:Hid (aG o=aj o.kind.toNat++ak (toL o.data)):=by show _=_;unfold aG fE;rw[if_neg (by omega),if_neg (by omega)]
   obtain⟨kind,data,ents,⟨t1,t2⟩,pars,auth,time,msg⟩:=o;obtain⟨eA,en,ec,pA,pn,pc⟩:=s;simp only at k d HENC;simp only[obV,obC]at hW0 HK0 HC ⊢;obtain⟨c0,c1,c2,c3,c4,c5,c6,c7,c8⟩:=HK0.out.nine;clear hm e c HE HP hel hpl;rcases k with rfl | rfl
   . have HENC:Hid (aG _=aj 1++ak (toL data)):=HENC.out
     go_enter Tryz.func125,Tryz.ntmps125
     go_wp2_with fail;refine HC.out.mono ?_;rintro e w1 ⟨rfl,hb1⟩;have hz1:=hb1.size;have HB1:Hid (Below w.heap.size W0 w1):=hb1.mono (by omega);have HK1:=ah (HK0.out.below hb1 (by omega));have hk1:w.heap.size<w1.heap.size:=by omega
     clear hb1 hW0 c0 c1 c2 c3 c4 c5 c6 c7 c8 HC;obtain⟨w2,hw2⟩:∃W2,w1.alloc (.cells #[.slice none 0 0,.bool false] 283)=W2:=⟨_,rfl⟩
     have hz2:w1.heap.size+1<=w2.heap.size:=by rw[<-hw2];simp
     have HB2:Hid (Below w1.heap.size w1 w2):=by rw[<-hw2];exact(af _ w1).alloc ai _
     have HW2:Hid (Wrt w2 w1.heap.size (w1.heap.size+1) []):=⟨⟨none,0,by rw[<-hw2];exact Bk.new w1 _ _,Txt.nil _ _ _ _⟩,by omega,by omega⟩
     obtain⟨c0,c1,c2,c3,c4,c5,c6,c7,c8⟩:=(HK1.out.below HB2.out hk1).nine;have hlk: (aj 1).length=1:=by rw[dK (by omega)];rfl
     have HC3:=ah (je w1.heap.size (w1.heap.size+1) 1 [] w2 HW2.out (by omega) (by simp))
     go_wp2_with (first | (go_at_call 205;refine HC3.out.mono ?_;rintro e w3 ⟨rfl,hw,hb,hz⟩;refine aM ?_))
     refine aF ?_;have HW3:Hid (Wrt w3 w1.heap.size (w1.heap.size+1) ([]++aj 1)):=hw;have HB3:Hid (Below w1.heap.size w1 w3):=HB2.out.trans hb;have hz3:w1.heap.size+1<=w3.heap.size:=by omega
     clear hw hb hz HC3 c0 c1 c2 c3 c4 c5 c6 c7 c8;obtain⟨c0,c1,c2,c3,c4,c5,c6,c7,c8⟩:=(HK1.out.below HB3.out hk1).nine;have HW3:Hid (Wrt w3 w1.heap.size (w1.heap.size+1) (aj 1)):=HW3.out;clear hw2;have HC4:=ah (lQ w1.heap.size (w1.heap.size+1) data (aj 1) w3 HW3.out d (by omega))
     go_wp2_with (first | (go_at_call 206;refine HC4.out.mono ?_;rintro e w4 ⟨rfl,hw,hb,hz⟩;refine aM ?_))
     refine aF ?_;have HW4:Hid (Wrt w4 w1.heap.size (w1.heap.size+1) (aj 1++ak (toL data))):=hw;have HB4:Hid (Below w1.heap.size w1 w4):=HB3.out.trans hb;have hz4:w1.heap.size+1<=w4.heap.size:=by omega
     clear hw hb hz HC4 c0 c1 c2 c3 c4 c5 c6 c7 c8;obtain⟨c0,c1,c2,c3,c4,c5,c6,c7,c8⟩:=(HK1.out.below HB4.out hk1).nine;have hend:=HW4.out;obtain⟨A,cc,hk4,ht4⟩:=hend.ex;obtain⟨bs,hbs⟩:∃bs,aj 1++ak (toL data)=bs:=⟨_,rfl⟩
     rw[hbs]at hk4 ht4;have HBS:Hid (aj 1++ak (toL data)=bs):=hbs;have hlz:¬(65536:Int)< (bs.length:Int):=by
      have h1:=HLEN.out;have h2:=congrArg List.length (HENC.out.trans (show _=aj 1++ak (toL data) by first | rfl | simp only[Z4]));rw[hbs]at h2;omega
     obtain⟨d0,d1,_,_⟩:=hk4.two;have hcv:=ht4.run_string (P:=Tryz.prog) 213 9 5 Tryz.underlying213 Tryz.underlying5 Tryz.underlying9;have HEQ:=ah (HENC.out.trans (show _=aj 1++ak (toL data) by first | rfl | simp only[Z4]));clear hk4 ht4 hbs hend c0 c1 c2 c3 c4 c5 c6 c7 c8;go_wp2_with fail;go_ret2
     exact⟨by rw[HEQ.out,HBS.out];rfl,HB0.out.trans (HB1.out.trans (HB4.out.mono (by omega)) |>.mono (by omega))⟩
   . have HENC:Hid (aG _=aj 4++ak (toL data)):=HENC.out
     go_enter Tryz.func125,Tryz.ntmps125
     go_wp2_with fail;refine HC.out.mono ?_;rintro e w1 ⟨rfl,hb1⟩;have hz1:=hb1.size;have HB1:Hid (Below w.heap.size W0 w1):=hb1.mono (by omega);have HK1:=ah (HK0.out.below hb1 (by omega));have hk1:w.heap.size<w1.heap.size:=by omega
     clear hb1 hW0 c0 c1 c2 c3 c4 c5 c6 c7 c8 HC;obtain⟨w2,hw2⟩:∃W2,w1.alloc (.cells #[.slice none 0 0,.bool false] 283)=W2:=⟨_,rfl⟩
     have hz2:w1.heap.size+1<=w2.heap.size:=by rw[<-hw2];simp
     have HB2:Hid (Below w1.heap.size w1 w2):=by rw[<-hw2];exact(af _ w1).alloc ai _
     have HW2:Hid (Wrt w2 w1.heap.size (w1.heap.size+1) []):=⟨⟨none,0,by rw[<-hw2];exact Bk.new w1 _ _,Txt.nil _ _ _ _⟩,by omega,by omega⟩
     obtain⟨c0,c1,c2,c3,c4,c5,c6,c7,c8⟩:=(HK1.out.below HB2.out hk1).nine;have hlk: (aj 4).length=1:=by rw[dK (by omega)];rfl
     have HC3:=ah (je w1.heap.size (w1.heap.size+1) 4 [] w2 HW2.out (by omega) (by simp))
     go_wp2_with (first | (go_at_call 205;refine HC3.out.mono ?_;rintro e w3 ⟨rfl,hw,hb,hz⟩;refine aM ?_))
     refine aF ?_;have HW3:Hid (Wrt w3 w1.heap.size (w1.heap.size+1) ([]++aj 4)):=hw;have HB3:Hid (Below w1.heap.size w1 w3):=HB2.out.trans hb;have hz3:w1.heap.size+1<=w3.heap.size:=by omega
     clear hw hb hz HC3 c0 c1 c2 c3 c4 c5 c6 c7 c8;obtain⟨c0,c1,c2,c3,c4,c5,c6,c7,c8⟩:=(HK1.out.below HB3.out hk1).nine;have HW3:Hid (Wrt w3 w1.heap.size (w1.heap.size+1) (aj 4)):=HW3.out;clear hw2;have HC4:=ah (lQ w1.heap.size (w1.heap.size+1) data (aj 4) w3 HW3.out d (by omega))
     go_wp2_with (first | (go_at_call 206;refine HC4.out.mono ?_;rintro e w4 ⟨rfl,hw,hb,hz⟩;refine aM ?_))
     refine aF ?_;have HW4:Hid (Wrt w4 w1.heap.size (w1.heap.size+1) (aj 4++ak (toL data))):=hw;have HB4:Hid (Below w1.heap.size w1 w4):=HB3.out.trans hb;have hz4:w1.heap.size+1<=w4.heap.size:=by omega
     clear hw hb hz HC4 c0 c1 c2 c3 c4 c5 c6 c7 c8;obtain⟨c0,c1,c2,c3,c4,c5,c6,c7,c8⟩:=(HK1.out.below HB4.out hk1).nine;have hend:=HW4.out;obtain⟨A,cc,hk4,ht4⟩:=hend.ex;obtain⟨bs,hbs⟩:∃bs,aj 4++ak (toL data)=bs:=⟨_,rfl⟩
     rw[hbs]at hk4 ht4;have HBS:Hid (aj 4++ak (toL data)=bs):=hbs;have hlz:¬(65536:Int)< (bs.length:Int):=by
      have h1:=HLEN.out;have h2:=congrArg List.length (HENC.out.trans (show _=aj 4++ak (toL data) by first | rfl | simp only[Z4]));rw[hbs]at h2;omega
     obtain⟨d0,d1,_,_⟩:=hk4.two;have hcv:=ht4.run_string (P:=Tryz.prog) 213 9 5 Tryz.underlying213 Tryz.underlying5 Tryz.underlying9;have HEQ:=ah (HENC.out.trans (show _=aj 4++ak (toL data) by first | rfl | simp only[Z4]));clear hk4 ht4 hbs hend c0 c1 c2 c3 c4 c5 c6 c7 c8;go_wp2_with fail;go_ret2
     exact⟨by rw[HEQ.out,HBS.out];rfl,HB0.out.trans (HB1.out.trans (HB4.out.mono (by omega)) |>.mono (by omega))⟩
 | tree k d c e =>
   have HENC:Hid (aG o=aj 2++ (aj o.ents.length++o.ents.flatMap aQ)):=by show _=_;unfold aG fE;rw[if_pos k,k];rfl
   obtain⟨kind,data,ents,⟨t1,t2⟩,pars,auth,time,msg⟩:=o;obtain⟨eA,n,ec,pA,pn,pc⟩:=s;simp only at k d HENC hel HE;subst k d;simp only[obV,obC]at hW0 HK0 HC ⊢;have hn:n<=200:=by rw[<-hel];exact e.few
   have HOE:=ah e.all;have HEL:=ah hel;rw[hel]at HENC;obtain⟨c0,c1,c2,c3,c4,c5,c6,c7,c8⟩:=HK0.out.nine;clear hm e c HP hpl hel
   go_enter Tryz.func125,Tryz.ntmps125
   go_wp2_with fail;refine HC.out.mono ?_;rintro e w1 ⟨rfl,hb1⟩;have hz1:=hb1.size;have HB1:Hid (Below w.heap.size W0 w1):=hb1.mono (by omega);have HK1:=ah (HK0.out.below hb1 (by omega));have hk1:w.heap.size<w1.heap.size:=by omega
   clear hb1 hW0 c0 c1 c2 c3 c4 c5 c6 c7 c8 HC;obtain⟨w2,hw2⟩:∃W2,w1.alloc (.cells #[.slice none 0 0,.bool false] 283)=W2:=⟨_,rfl⟩
   have hz2:w1.heap.size+1<=w2.heap.size:=by rw[<-hw2];simp
   have HB2:Hid (Below w1.heap.size w1 w2):=by rw[<-hw2];exact(af _ w1).alloc ai _
   have HW2:Hid (Wrt w2 w1.heap.size (w1.heap.size+1) []):=⟨⟨none,0,by rw[<-hw2];exact Bk.new w1 _ _,Txt.nil _ _ _ _⟩,by omega,by omega⟩
   obtain⟨c0,c1,c2,c3,c4,c5,c6,c7,c8⟩:=(HK1.out.below HB2.out hk1).nine;have hlk: (aj 2).length=1:=by rw[dK (by omega)];rfl
   have HC3:=ah (je w1.heap.size (w1.heap.size+1) 2 [] w2 HW2.out (by omega) (by simp))
   go_wp2_with (first | (go_at_call 205;refine HC3.out.mono ?_;rintro e w3 ⟨rfl,hw,hb,hz⟩;refine aM ?_))
   refine aF ?_;have HW3:Hid (Wrt w3 w1.heap.size (w1.heap.size+1) ([]++aj 2)):=hw;have HB3:Hid (Below w1.heap.size w1 w3):=HB2.out.trans hb;have hz3:w1.heap.size+1<=w3.heap.size:=by omega
   clear hw hb hz HC3 c0 c1 c2 c3 c4 c5 c6 c7 c8;obtain⟨c0,c1,c2,c3,c4,c5,c6,c7,c8⟩:=(HK1.out.below HB3.out hk1).nine;have HW3:Hid (Wrt w3 w1.heap.size (w1.heap.size+1) (aj 2)):=HW3.out;clear hw2;have HC4:=ah (je w1.heap.size (w1.heap.size+1) n (aj 2) w3 HW3.out (by omega) (by omega))
   go_wp2_with (first | (go_at_call 205;refine HC4.out.mono ?_;rintro e w4 ⟨rfl,hw,hb,hz⟩;refine aM ?_))
   refine aF ?_;have HW4:Hid (Wrt w4 w1.heap.size (w1.heap.size+1) (aj 2++aj n)):=hw;have HB4:Hid (Below w1.heap.size w1 w4):=HB3.out.trans hb;have hz4:w1.heap.size+1<=w4.heap.size:=by omega
   clear hw hb hz HC4 c0 c1 c2 c3 c4 c5 c6 c7 c8;obtain⟨c0,c1,c2,c3,c4,c5,c6,c7,c8⟩:=(HK1.out.below HB4.out hk1).nine;have HPRE:Hid (∀k,(aj 2++aj n++ (ents.take k).flatMap aQ).length<=65536):=fun k=>by
    have h:=HLEN.out;rw[HENC.out]at h;have:=Du aQ ents k;simp only[ae]at h ⊢;omega
   have HW4:Hid (Wrt w4 w1.heap.size (w1.heap.size+1) (aj 2++aj n++ (ents.take 0).flatMap aQ)):=by show Wrt _ _ _ _;rw[List.take_zero,List.flatMap_nil,List.append_nil];exact HW4.out
   go_wp2_with fail
   go_loopw[39] (fun i wr=>∃k:Nat,i= .int .i64 (k:Int)/\k<=n/\Hid (Wrt wr w1.heap.size (w1.heap.size+1) (aj 2++aj n++ (ents.take k).flatMap aQ))/\Hid (Below w1.heap.size w1 wr)/\w1.heap.size+1<=wr.heap.size) (fun i _=>n - (intOf i).toNat)
   case atStart=>exact⟨0,rfl,ZZ _,HW4.out,HB4.out,hz4⟩
   case round =>
    obtain⟨k,rfl,hk,hT,hB',hzr⟩:=hrel;have HBT:=hB';have HBW:Hid (Below w.heap.size w wr):=HB0.out.trans ((HB1.out.trans (hB'.out.mono (by omega))));clear c0 c1 c2 c3 c4 c5 c6 c7 c8;obtain⟨c0,c1,c2,c3,c4,c5,c6,c7,c8⟩:=(HK1.out.below hB'.out hk1).nine;by_cases hlt:k<n
    . have hlz: (k:Int)< (n:Int):=by omega
      obtain⟨bb,off,en,rfl,hbB,hen,y0,y1,y2,y3⟩:=(HE.out.below HBW.out hB).en hlt;have HEN:=ah hen;have hoe:=HOE.out en (Z7 hen);have hns:=gJ hoe.nm;have HWD:=ah hoe.dg;have hp1:=HPRE.out k;have HEX:Hid ((ents.take (k+1)).flatMap aQ= (ents.take k).flatMap aQ++aQ en):=wF hen;obtain⟨wb,hwb⟩:∃wb,wr.alloc (.cells #[.string en.nm,.bool en.dir,.int .u64 en.dg.1,.int .u64 en.dg.2] 185)=wb:=⟨_,rfl⟩
      have hbb:Below wr.heap.size wr wb:=by rw[<-hwb];exact(af _ wr).alloc ai _
      have zwb:wb.heap.size=wr.heap.size+1:=by rw[<-hwb];simp
      have HKb:Hid (Bk wb wr.heap.size 185 #[.string en.nm,.bool en.dir,.int .u64 en.dg.1,.int .u64 en.dg.2]):=by rw[<-hwb];exact Bk.new wr _ _
      have HWb:=ah (hT.out.wrx hbb (by omega));have HBb:Hid (Below w1.heap.size w1 wb):=HBT.out.trans (hbb.mono (by omega));obtain⟨x0,x1,x2,x3⟩:=HKb.out.four;obtain⟨nm,dir,d1,d2⟩:=en;simp only at y0 y1 y2 y3 x0 x1 x2 x3 hwb hns HKb HEX HWD;have hle: (ak (toL nm)).length<=70:=by
       have h1:=eu 5 nm.size (by omega);have h2:=aP nm;unfold ak;rw[ae,<-h2];omega
      have HC5:=ah (Ju w1.heap.size (w1.heap.size+1) wr.heap.size nm (aj 2++aj n++ (ents.take k).flatMap aQ) wb HWb.out (by omega) (by omega));clear hbb hen hoe
      go_wp2_with (first | (go_at_call 206;refine HC5.out.mono ?_;rintro e w5 ⟨rfl,hw,hb,hz,hx⟩;refine aM ?_))
      refine aF ?_;have HW5:=ah hw;have HB5:Hid (Below w1.heap.size w1 w5):=HBb.out.trans hb;have HK5:Hid (Bk w5 wr.heap.size 185 #[.string nm,.bool dir,.int .u64 d1,.int .u64 d2]):=hx.trans HKb.out;have hz5:wr.heap.size<w5.heap.size:=by omega
      clear hw hb hz hx HC5 x0 x1 x2 x3 y0 y1 y2 y3 hwb c0 c1 c2 c3 c4 c5 c6 c7 c8;obtain⟨x0,x1,x2,x3⟩:=HK5.out.four;obtain⟨dn,hdn⟩:∃dn:Nat,(if dir=true then 1 else 0:Nat)=dn:=⟨_,rfl⟩
      have hdn1:dn<=1:=by rw[<-hdn];split <;> omega
      have HDN:=ah hdn;have hl5: (aj 2++aj n++ (ents.take k).flatMap aQ++ak (toL nm)).length<=70000:=by rw[ae];omega
      have hl6: (aj dn).length=1:=by rw[dK (by omega)];rfl
      have HC6:=ah (Jw w1.heap.size (w1.heap.size+1) wr.heap.size dn (aj 2++aj n++ (ents.take k).flatMap aQ++ak (toL nm)) w5 HW5.out (by omega) (by omega))
      go_upto_if 47 with fail
      go_cut[8] from 47 to 47 (fun q wx=>q= .int .i64 (dn:Int)/\wx=w5)
      case first =>
       cases dir with
       | true =>
         obtain rfl:1=dn:=by simpa using hdn
         go_wp2_with fail
         go_meet
         exact⟨rfl,rfl⟩
       | false =>
         obtain rfl:0=dn:=by simpa using hdn
         go_wp2_with fail
         go_meet
         exact⟨rfl,rfl⟩
      case rest =>
       obtain⟨rfl,rfl⟩:=hcut
       go_wp2_with (first | (go_at_call 205;refine HC6.out.mono ?_;rintro e w6 ⟨rfl,hw,hb,hz,hx⟩;refine aM ?_))
       refine aF ?_;have HW6:=ah hw;have HB6:Hid (Below w1.heap.size w1 w6):=HB5.out.trans hb;have HK6:Hid (Bk w6 wr.heap.size 185 #[.string nm,.bool dir,.int .u64 d1,.int .u64 d2]):=hx.trans HK5.out;have hz6:wr.heap.size<w6.heap.size:=by omega
       clear hw hb hz hx HC6 x0 x1 x2 x3;obtain⟨x0,x1,x2,x3⟩:=HK6.out.four;have HC7:=ah (Jy w1.heap.size (w1.heap.size+1) wr.heap.size (d1,d2) HWD.out (aj 2++aj n++ (ents.take k).flatMap aQ++ak (toL nm)++aj dn) w6 HW6.out (by rw[ae];omega));unfold aB at HC7
       go_wp2_with (first | (go_at_call 207;refine HC7.out.mono ?_;rintro e w7 ⟨rfl,hw,hb,hz,hx⟩;refine aM ?_))
       refine aF ?_;have HB7:Hid (Below w1.heap.size w1 w7):=HB6.out.trans hb;have hz7:w1.heap.size+1<=w7.heap.size:=by omega
       have HW7:Hid (Wrt w7 w1.heap.size (w1.heap.size+1) (aj 2++aj n++ (ents.take (k+1)).flatMap aQ)):=by
        have h:=hw.wrt;show Wrt _ _ _ _;have he:aQ ⟨nm,dir,(d1,d2)⟩=ak (toL nm)++ (aj dn++ax (d1,d2)):=by rw[<-HDN.out];rfl
        rw[HEX.out,he]
        simpa only[Z4] using h
       clear hw hb hz hx HC7 x0 x1 x2 x3;go_wp2_with fail;go_roundw
       case rel=>exact⟨k+1,by go_num,hlt,HW7.out,HB7.out,hz7⟩
       case measure=>simp[intOf];omega
    . have hlz:¬(k:Int)< (n:Int):=by omega
      have HW9:Hid (Wrt wr w1.heap.size (w1.heap.size+1) (aj 2++aj n++ents.flatMap aQ)):=by
       have:=hT.out;rw[ZW (by rw[HEL.out];omega)]at this;exact this
      have HB9:=hB';have hend:=HW9.out;obtain⟨A,cc,hk4,ht4⟩:=hend.ex;obtain⟨bs,hbs⟩:∃bs,aj 2++aj n++ents.flatMap aQ=bs:=⟨_,rfl⟩
      rw[hbs]at hk4 ht4;have HBS:Hid (aj 2++aj n++ents.flatMap aQ=bs):=hbs;have hlz:¬(65536:Int)< (bs.length:Int):=by
       have h1:=HLEN.out;have h2:=congrArg List.length (HENC.out.trans (show _=aj 2++aj n++ents.flatMap aQ by first | rfl | simp only[Z4]));rw[hbs]at h2;omega
      obtain⟨d0,d1,_,_⟩:=hk4.two;have hcv:=ht4.run_string (P:=Tryz.prog) 213 9 5 Tryz.underlying213 Tryz.underlying5 Tryz.underlying9;have HEQ:=ah (HENC.out.trans (show _=aj 2++aj n++ents.flatMap aQ by first | rfl | simp only[Z4]));clear hk4 ht4 hbs hend c0 c1 c2 c3 c4 c5 c6 c7 c8;go_wp2_with fail;go_ret2
      exact⟨by rw[HEQ.out,HBS.out];rfl,HB0.out.trans (HB1.out.trans (HB9.out.mono (by omega)) |>.mono (by omega))⟩
 | commit k d e c =>
   have HENC:Hid (aG o=aj 3++ (ax o.tree++ (aj o.pars.length++ (o.pars.flatMap ax++ (ak (toL o.auth)++ (aj o.time.toNat++ak (toL o.msg))))))):=by show _=_;unfold aG fE;rw[if_neg (by omega),if_pos k,k];rfl
   obtain⟨kind,data,ents,⟨t1,t2⟩,pars,auth,time,msg⟩:=o;obtain⟨eA,en,ec,pA,n,pc⟩:=s;simp only at k d HENC hpl HP;subst k d;simp only[obV,obC]at hW0 HK0 HC ⊢;have hn:n<=8:=by rw[<-hpl];exact c.pars.few
   have hwt:WfD (t1,t2):=c.wf;have HOP:=ah c.pars.wf;have HPL:=ah hpl;have hau:auth.size<=24:=gJ c.auth;have hmg:msg.size<=200:=c.msg;have ht0:0<=time:=c.t0;have ht1:time<=1099511627776:=c.t1;obtain⟨tn,rfl⟩:=Int.eq_ofNat_of_zero_le ht0;have htn:tn<=1099511627776:=by omega
   simp only[Int.toNat_natCast]at HENC;rw[hpl]at HENC;obtain⟨c0,c1,c2,c3,c4,c5,c6,c7,c8⟩:=HK0.out.nine;clear hm e c HE hel hpl ht0 ht1
   go_enter Tryz.func125,Tryz.ntmps125
   go_wp2_with fail;refine HC.out.mono ?_;rintro e w1 ⟨rfl,hb1⟩;have hz1:=hb1.size;have HB1:Hid (Below w.heap.size W0 w1):=hb1.mono (by omega);have HK1:=ah (HK0.out.below hb1 (by omega));have hk1:w.heap.size<w1.heap.size:=by omega
   clear hb1 hW0 c0 c1 c2 c3 c4 c5 c6 c7 c8 HC;obtain⟨w2,hw2⟩:∃W2,w1.alloc (.cells #[.slice none 0 0,.bool false] 283)=W2:=⟨_,rfl⟩
   have hz2:w1.heap.size+1<=w2.heap.size:=by rw[<-hw2];simp
   have HB2:Hid (Below w1.heap.size w1 w2):=by rw[<-hw2];exact(af _ w1).alloc ai _
   have HW2:Hid (Wrt w2 w1.heap.size (w1.heap.size+1) []):=⟨⟨none,0,by rw[<-hw2];exact Bk.new w1 _ _,Txt.nil _ _ _ _⟩,by omega,by omega⟩
   obtain⟨c0,c1,c2,c3,c4,c5,c6,c7,c8⟩:=(HK1.out.below HB2.out hk1).nine;have hlk: (aj 3).length=1:=by rw[dK (by omega)];rfl
   have HC3:=ah (je w1.heap.size (w1.heap.size+1) 3 [] w2 HW2.out (by omega) (by simp))
   go_wp2_with (first | (go_at_call 205;refine HC3.out.mono ?_;rintro e w3 ⟨rfl,hw,hb,hz⟩;refine aM ?_))
   refine aF ?_;have HW3:Hid (Wrt w3 w1.heap.size (w1.heap.size+1) ([]++aj 3)):=hw;have HB3:Hid (Below w1.heap.size w1 w3):=HB2.out.trans hb;have hz3:w1.heap.size+1<=w3.heap.size:=by omega
   clear hw hb hz HC3 c0 c1 c2 c3 c4 c5 c6 c7 c8;obtain⟨c0,c1,c2,c3,c4,c5,c6,c7,c8⟩:=(HK1.out.below HB3.out hk1).nine;have HW3:Hid (Wrt w3 w1.heap.size (w1.heap.size+1) (aj 3)):=HW3.out;clear hw2;have HLA:Hid (∀q:MU,(∃r,aj 3++ (ax (t1,t2)++ (aj n++ (pars.flatMap ax++ (ak (toL auth)++ (aj tn++ak (toL msg))))))=q++r)->q.length<=65536):=fun q hq=>by
    obtain⟨r,hr⟩:=hq;have h:=HLEN.out;rw[HENC.out,hr,ae]at h;omega
   have HC4:=ah (xq w1.heap.size (w1.heap.size+1) (t1,t2) hwt (aj 3) w3 HW3.out (by omega));unfold aB at HC4
   go_wp2_with (first | (go_at_call 207;refine HC4.out.mono ?_;rintro e w4 ⟨rfl,hw,hb,hz⟩;refine aM ?_))
   refine aF ?_;have HW4:Hid (Wrt w4 w1.heap.size (w1.heap.size+1) (aj 3++ax (t1,t2))):=hw;have HB4:Hid (Below w1.heap.size w1 w4):=HB3.out.trans hb;have hz4:w1.heap.size+1<=w4.heap.size:=by omega
   clear hw hb hz HC4 c0 c1 c2 c3 c4 c5 c6 c7 c8;obtain⟨c0,c1,c2,c3,c4,c5,c6,c7,c8⟩:=(HK1.out.below HB4.out hk1).nine;have HC5:=ah (je w1.heap.size (w1.heap.size+1) n (aj 3++ax (t1,t2)) w4 HW4.out (by omega) (by rw[ae,fF];omega))
   go_wp2_with (first | (go_at_call 205;refine HC5.out.mono ?_;rintro e w5 ⟨rfl,hw,hb,hz⟩;refine aM ?_))
   refine aF ?_;have HW5:Hid (Wrt w5 w1.heap.size (w1.heap.size+1) (aj 3++ax (t1,t2)++aj n)):=hw;have HB5:Hid (Below w1.heap.size w1 w5):=HB4.out.trans hb;have hz5:w1.heap.size+1<=w5.heap.size:=by omega
   clear hw hb hz HC5 c0 c1 c2 c3 c4 c5 c6 c7 c8;obtain⟨c0,c1,c2,c3,c4,c5,c6,c7,c8⟩:=(HK1.out.below HB5.out hk1).nine;have hln: (aj n).length=1:=by rw[dK (by omega)];rfl
   have HW5:Hid (Wrt w5 w1.heap.size (w1.heap.size+1) (aj 3++ax (t1,t2)++aj n++ (pars.take 0).flatMap ax)):=by show Wrt _ _ _ _;rw[List.take_zero,List.flatMap_nil,List.append_nil];exact HW5.out
   have HPRE:Hid (∀k,k<=n-> (aj 3++ax (t1,t2)++aj n++ (pars.take k).flatMap ax).length<=65536):=fun k hk=>by
    refine HLA.out _ ⟨(pars.drop k).flatMap ax++ (ak (toL auth)++ (aj tn++ak (toL msg))),?_⟩
    conv=>lhs;rw[<-List.take_append_drop k pars,List.flatMap_append]
    simp only[Z4]
   go_wp2_with fail
   go_loopw[64] (fun i wr=>∃k:Nat,i= .int .i64 (k:Int)/\k<=n/\Hid (Wrt wr w1.heap.size (w1.heap.size+1) (aj 3++ax (t1,t2)++aj n++ (pars.take k).flatMap ax))/\Hid (Below w1.heap.size w1 wr)/\w1.heap.size+1<=wr.heap.size) (fun i _=>n - (intOf i).toNat)
   case atStart=>exact⟨0,rfl,ZZ _,HW5.out,HB5.out,hz5⟩
   case round =>
    obtain⟨k,rfl,hk,hT,hB',hzr⟩:=hrel;have HBW:Hid (Below w.heap.size w wr):=HB0.out.trans ((HB1.out.trans (hB'.out.mono (by omega))));clear c0 c1 c2 c3 c4 c5 c6 c7 c8;obtain⟨c0,c1,c2,c3,c4,c5,c6,c7,c8⟩:=(HK1.out.below hB'.out hk1).nine;by_cases hlt:k<n
    . have hlz: (k:Int)< (n:Int):=by omega
      obtain⟨bb,off,d,rfl,hbB,hd,y0,y1⟩:=(HP.out.below HBW.out hB).dg hlt;have HWD:=ah (HOP.out d (Z7 hd));have hp1:=HPRE.out k hk;have HEX:Hid ((pars.take (k+1)).flatMap ax= (pars.take k).flatMap ax++ax d):=wF hd;obtain⟨d1,d2⟩:=d;simp only at y0 y1;obtain⟨wb,hwb⟩:∃wb,wr.alloc (.cells #[.int .u64 d1,.int .u64 d2] 50)=wb:=⟨_,rfl⟩
      have hbb:Below wr.heap.size wr wb:=by rw[<-hwb];exact(af _ wr).alloc ai _
      have hzb:w1.heap.size+1<=wb.heap.size:=by have:=hbb.size;omega
      have HKb:Hid (Bk wb wr.heap.size 50 #[.int .u64 d1,.int .u64 d2]):=by rw[<-hwb];exact Bk.new wr _ _
      have HWb:=ah (hT.out.below hbb);have HBb:Hid (Below w1.heap.size w1 wb):=hB'.out.trans (hbb.mono (by omega));obtain⟨x0,x1,_,_⟩:=HKb.out.two;have HC6:=ah (xq w1.heap.size (w1.heap.size+1) (d1,d2) HWD.out (aj 3++ax (t1,t2)++aj n++ (pars.take k).flatMap ax) wb HWb.out (by omega));unfold aB at HC6;clear hbb hd
      go_wp2_with (first | (go_at_call 207;refine HC6.out.mono ?_;rintro e w6 ⟨rfl,hw,hb,hz⟩;refine aM ?_))
      refine aF ?_;have HB6:Hid (Below w1.heap.size w1 w6):=HBb.out.trans hb;have hz6:w1.heap.size+1<=w6.heap.size:=by omega
      have HW6:Hid (Wrt w6 w1.heap.size (w1.heap.size+1) (aj 3++ax (t1,t2)++aj n++ (pars.take (k+1)).flatMap ax)):=by
       show Wrt _ _ _ _;rw[HEX.out,<-Z4];exact hw
      clear hw hb hz HC6 x0 x1 hwb y0 y1;go_wp2_with fail;go_roundw
      case rel=>exact⟨k+1,by go_num,hlt,HW6.out,HB6.out,hz6⟩
      case measure=>simp[intOf];omega
    . have hlz:¬(k:Int)< (n:Int):=by omega
      have HW6:Hid (Wrt wr w1.heap.size (w1.heap.size+1) (aj 3++ax (t1,t2)++aj n++pars.flatMap ax)):=by
       have:=hT.out;rw[ZW (by rw[HPL.out];omega)]at this;exact this
      obtain⟨w6,hw6⟩:∃W,W=wr:=⟨_,rfl⟩
      subst hw6;have HB6:=hB';have hz6:=hzr;have HC7:=ah (lQ w1.heap.size (w1.heap.size+1) auth (aj 3++ax (t1,t2)++aj n++pars.flatMap ax) w6 HW6.out (by omega) (by have:=HLA.out (aj 3++ax (t1,t2)++aj n++pars.flatMap ax) ⟨ak (toL auth)++ (aj tn++ak (toL msg)),by simp only[Z4]⟩;omega))
      go_wp2_with (first | (go_at_call 206;refine HC7.out.mono ?_;rintro e w7 ⟨rfl,hw,hb,hz⟩;refine aM ?_))
      refine aF ?_;have HW7:Hid (Wrt w7 w1.heap.size (w1.heap.size+1) (aj 3++ax (t1,t2)++aj n++pars.flatMap ax++ak (toL auth))):=hw;have HB7:Hid (Below w1.heap.size w1 w7):=HB6.out.trans hb;have hz7:w1.heap.size+1<=w7.heap.size:=by omega
      clear hw hb hz HC7 c0 c1 c2 c3 c4 c5 c6 c7 c8;obtain⟨c0,c1,c2,c3,c4,c5,c6,c7,c8⟩:=(HK1.out.below HB7.out hk1).nine;have HC8:=ah (je w1.heap.size (w1.heap.size+1) tn (aj 3++ax (t1,t2)++aj n++pars.flatMap ax++ak (toL auth)) w7 HW7.out htn (by have:=HLA.out (aj 3++ax (t1,t2)++aj n++pars.flatMap ax++ak (toL auth)) ⟨aj tn++ak (toL msg),by simp only[Z4]⟩;omega))
      go_wp2_with (first | (go_at_call 205;refine HC8.out.mono ?_;rintro e w8 ⟨rfl,hw,hb,hz⟩;refine aM ?_))
      refine aF ?_;have HW8:Hid (Wrt w8 w1.heap.size (w1.heap.size+1) (aj 3++ax (t1,t2)++aj n++pars.flatMap ax++ak (toL auth)++aj tn)):=hw;have HB8:Hid (Below w1.heap.size w1 w8):=HB7.out.trans hb;have hz8:w1.heap.size+1<=w8.heap.size:=by omega
      clear hw hb hz HC8 c0 c1 c2 c3 c4 c5 c6 c7 c8;obtain⟨c0,c1,c2,c3,c4,c5,c6,c7,c8⟩:=(HK1.out.below HB8.out hk1).nine;have HC9:=ah (lQ w1.heap.size (w1.heap.size+1) msg (aj 3++ax (t1,t2)++aj n++pars.flatMap ax++ak (toL auth)++aj tn) w8 HW8.out (by omega) (by have:=HLA.out (aj 3++ax (t1,t2)++aj n++pars.flatMap ax++ak (toL auth)++aj tn) ⟨ak (toL msg),by simp only[Z4]⟩;omega))
      go_wp2_with (first | (go_at_call 206;refine HC9.out.mono ?_;rintro e w9 ⟨rfl,hw,hb,hz⟩;refine aM ?_))
      refine aF ?_;have HW9:Hid (Wrt w9 w1.heap.size (w1.heap.size+1) (aj 3++ax (t1,t2)++aj n++pars.flatMap ax++ak (toL auth)++aj tn++ak (toL msg))):=hw;have HB9:Hid (Below w1.heap.size w1 w9):=HB8.out.trans hb;have hz9:w1.heap.size+1<=w9.heap.size:=by omega
      clear hw hb hz HC9 c0 c1 c2 c3 c4 c5 c6 c7 c8;obtain⟨c0,c1,c2,c3,c4,c5,c6,c7,c8⟩:=(HK1.out.below HB9.out hk1).nine;have hend:=HW9.out;obtain⟨A,cc,hk4,ht4⟩:=hend.ex;obtain⟨bs,hbs⟩:∃bs,aj 3++ax (t1,t2)++aj n++pars.flatMap ax++ak (toL auth)++aj tn++ak (toL msg)=bs:=⟨_,rfl⟩
      rw[hbs]at hk4 ht4;have HBS:Hid (aj 3++ax (t1,t2)++aj n++pars.flatMap ax++ak (toL auth)++aj tn++ak (toL msg)=bs):=hbs;have hlz:¬(65536:Int)< (bs.length:Int):=by
       have h1:=HLEN.out;have h2:=congrArg List.length (HENC.out.trans (show _=aj 3++ax (t1,t2)++aj n++pars.flatMap ax++ak (toL auth)++aj tn++ak (toL msg) by first | rfl | simp only[Z4]));rw[hbs]at h2;omega
      obtain⟨d0,d1,_,_⟩:=hk4.two;have hcv:=ht4.run_string (P:=Tryz.prog) 213 9 5 Tryz.underlying213 Tryz.underlying5 Tryz.underlying9;have HEQ:=ah (HENC.out.trans (show _=aj 3++ax (t1,t2)++aj n++pars.flatMap ax++ak (toL auth)++aj tn++ak (toL msg) by first | rfl | simp only[Z4]));clear hk4 ht4 hbs hend c0 c1 c2 c3 c4 c5 c6 c7 c8;go_wp2_with fail;go_ret2
      exact⟨by rw[HEQ.out,HBS.out];rfl,HB0.out.trans (HB1.out.trans (HB9.out.mono (by omega)) |>.mono (by omega))⟩
theorem mJ(o:Ob)(s:Osl)(B:Nat)(w:MQ)(hm:ObM w B o s)(hB:B<=w.heap.size)(ho:OkO o) :
  Calls Tryz.prog 113 #[obV o s] w fun e w'=>e= .returned (.int .i64 0)/\Below w.heap.size w w':=by
 obtain⟨W0,hW0⟩:∃W,w.alloc (.cells (obC o s) 109)=W:=⟨_,rfl⟩
 have HB0:Hid (Below w.heap.size w W0):=by rw[<-hW0];exact(af _ w).alloc ai _
 have HK0:Hid (Bk W0 w.heap.size 109 (obC o s)):=by rw[<-hW0];exact Bk.new w _ _
 have HC:=ah (rF o s B W0 (hm.below (HB0.out.mono hB) ai) (by have:=HB0.out.size;omega) ho);obtain⟨bs,hbs⟩:∃bs,ofL (aG o)=bs:=⟨_,rfl⟩
 unfold qh at HC;rw[hbs]at HC;obtain⟨kind,data,ents,⟨t1,t2⟩,pars,auth,time,msg⟩:=o;obtain⟨eA,en,ec,pA,pn,pc⟩:=s;simp only[obV,obC]at hW0 HK0 HC ⊢;obtain⟨c0,c1,c2,c3,c4,c5,c6,c7,c8⟩:=HK0.out.nine;clear hm hbs
 go_enter Tryz.func113,Tryz.ntmps113
 go_wp2_with (first | (go_at_call 125;refine HC.out.mono ?_;rintro e w1 ⟨rfl,hb1⟩))
 go_ret
 exact⟨rfl,HB0.out.trans (hb1.mono HB0.out.size)⟩
end Go.Proofs.YtknefelegjlgnaaGreatDoor
