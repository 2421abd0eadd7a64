/-
  Lemmas of the card.
-/
import Derived.Test.YtknefelegjlgnaaGreatDoorACAt9
set_option maxRecDepth 100000
set_option maxHeartbeats 8000000
namespace Go.Proofs.YtknefelegjlgnaaGreatDoor
open Go.RowKit
theorem Txt.join{w w':MZ}{base base' b x n c:Nat}{A:OA}{bs bs':M5}(h:Txt w' base b A n c bs)(hx:Txt w base' x A n c bs'):Txt w' base x A n c bs :=
 ⟨h.len,h.le,h.max,fun h0=>by
   obtain⟨q,off,e,h1,h2⟩:=h.lies h0;obtain⟨q',off',e',g1,_⟩:=hx.lies h0;rw[e]at e';simp only[Option.some.injEq,Addr.mk.injEq]at e';exact⟨q,off,e,⟨h1.1,by rw[e'.1];exact g1.2⟩,h2⟩⟩
theorem Txt.run_append_two{P:Program}{w:MZ}{base b x n c:Nat}{A:OA}{bs:M5}(h:Txt w base b A n c bs)(hx:Txt w base x A n c bs)(t tx ty e:TypeId)(i:TypeInfo)(ht:P.underlying t=some (.slice e))(hi:P.info? e=some i)(hz:i.zero=some (.int .u8 0))(hsize:i.size=1)(hby:i.bytes=1)
  (xv:M4) (m:Nat) (ys:M5) (hs:Src P 1 tx xv m (bc ys) w) (hmax:n+m<=140737488355328) (hbase:base<=w.heap.size) (hb:b<w.heap.size) (hxl:x<w.heap.size) :
  ∃A' c' w',(Builtin.append_ #[t,tx] ty #[.slice A n c,xv]).run P w= .ok (.slice A' (n+m) c') w'/\Txt w' base b A' (n+m) c' (bs++ys)/\Txt w' base x A' (n+m) c' (bs++ys)/\Below base w w'/\w'.heap[b]? =w.heap[b]? /\w'.heap[x]? =w.heap[x]? :=by
 obtain⟨A',c',w',hr,h1,h2,h3⟩:=h.run_append (P:=P) t tx ty e i ht hi hz hsize hby xv m ys hs hmax hbase hb;obtain⟨A2,c2,w2,a,g1,_,g3⟩:=hx.run_append (P:=P) t tx ty e i ht hi hz hsize hby xv m ys hs hmax hbase hxl;have e:=hr.symm.trans a;simp only[Result.ok.injEq,Value.slice.injEq,true_and]at e;obtain⟨⟨rfl,rfl⟩,rfl⟩:=e;exact⟨A',c',w',hr,h1,g1,h2,h3,g3⟩
theorem wE{P:Program}{w:MZ}{base b x n c:Nat}{A:OA}{bs:M5}{ops:Array Oper}{rest:List Oper}{o:Oper}{a:Act}{Q:Exit->Act->MZ->Prop}(hgd:o.guard=none)(s xo:Operand)(t tx:TypeId)
  (ho:o.op= .call {callee:= .builtin .append,args:=#[s,xo],argTypes:=#[t,tx]})
  (e:TypeId) (i:TypeInfo) (ht:P.underlying t=some (.slice e)) (hi:P.info? e=some i) (hz:i.zero=some (.int .u8 0)) (hsize:i.size=1) (hby:i.bytes=1)
  (hv:a.eval s= .slice A n c) (h:Txt w base b A n c bs) (hx2:Txt w base x A n c bs)
  (xv:M4) (m:Nat) (ys:M5) (hx:a.eval xo=xv) (hs:Src P 1 tx xv m (bc ys) w) (hmax:n+m<=140737488355328) (hbase:base<=w.heap.size) (hb:b<w.heap.size) (hxl:x<w.heap.size)
  (hK:∀A' c' w',Txt w' base b A' (n+m) c' (bs++ys)->Txt w' base x A' (n+m) c' (bs++ys)->Below base w w'->w'.heap[b]? =w.heap[b]? ->w'.heap[x]? =w.heap[x]? ->wpList P ops Q rest (a.put o.dst (.slice A' (n+m) c')) w'):wpList P ops Q (o::rest) a w:=by
 refine wpList_plain hgd fun K hK'=>?_;obtain⟨A',c',w',d,h1,h2,h3,h4,h5⟩:=h.run_append_two (P:=P) hx2 t tx o.type e i ht hi hz hsize hby xv m ys hs hmax hbase hb hxl;unfold Oper.wp;simp[execOp,ho,resolve,invoke,builtin,hv,hx,d,Result.andThen];exact hK' _ _ (hK A' c' w' h1 h2 h3 h4 h5)
structure Wrx(w:MZ)(b base x:Nat)(bs:M5):Prop where
 ex:∃A c,Bk w b 283 #[.slice A bs.length c,.bool false]/\Txt w base b A bs.length c bs/\Txt w base x A bs.length c bs
 lt:b<base
 le:base<=w.heap.size
 ne:x≠b
 xl:x<w.heap.size
theorem Wrx.wrt{w:MZ}{b base x:Nat}{bs:M5}(h:Wrx w b base x bs):Wrt w b base bs:=by
 obtain⟨A,c,h1,h2,_⟩:=h.ex;exact⟨⟨A,c,h1,h2⟩,h.lt,h.le⟩
theorem Wrx.below{w w':MZ}{b base x:Nat}{bs:M5}(h:Wrx w b base x bs)(hb:Below w.heap.size w w'):Wrx w' b base x bs:=by
 obtain⟨A,c,h1,h2,h3⟩:=h.ex;exact⟨⟨A,c,h1.below hb h1.lt,h2.below hb,h3.below hb⟩,h.lt,Z0 h.le hb.size,h.ne,Nat.lt_of_lt_of_le h.xl hb.size⟩
theorem Wrt.wrx{w w':MZ}{b base:Nat}{bs:M5}(h:Wrt w b base bs)(hb:Below w.heap.size w w')(hx:w.heap.size<w'.heap.size):Wrx w' b base w.heap.size bs:=by
 obtain⟨A,c,h1,h2⟩:=h.ex;exact⟨⟨A,c,h1.below hb h1.lt,h2.below hb,(h2.avoid ai).below hb⟩,h.lt,Z0 h.le hb.size,by have:=h.lt;have:=h.le;omega,hx⟩
def vI(b base x:Nat)(bs:M5)(w:MZ)(e:Ending)(w':MZ):Prop:=e= .returned (.tuple #[])/\Wrx w' b base x bs/\Below b w w'/\w.heap.size<=w'.heap.size/\w'.heap[x]? =w.heap[x]?
theorem JJ(b base x:Nat)(k:Nat)(bs:M5)(w:MZ)(h:Wrx w b base x bs)(hk:k<=1099511627776)(hn:bs.length<=1000000) :
  Calls Tryz.prog 205 #[.pointer (some ⟨b,0,none⟩),.int .i64 k] w (vI b base x (bs++aj k) w):=by
 have HP:=ah (l8 k hk w);have H:=ah h;have U:=eu 5 k (by omega);obtain⟨i0,hi,q,i,r⟩:=info_parts kW;have Hi:=ah hi;have I:=ah q;have J:=ah i;have K:=ah r;clear h hi q i r
 go_enter Tryz.func205,Tryz.ntmps205
 go_wp2_with (go_at_call 107;refine HP.o.mono ?_;rintro e w1 ⟨rfl,a⟩;refine aN ?_)
 refine aF ?_;have H1:=H.o.below a;obtain⟨A,c,s,t,u⟩:=H1.ex;have L:=H1.lt;have M:=H1.le;have j:=ah H1.ne;have v:=ah H1.xl;have N:Hid (Below b w w1):=a.mono (by have:=H.o.lt;have:=H.o.le;omega);have y:Hid (w1.heap[x]? =w.heap[x]?):=a.block x H.o.xl;have i:=a.size;have f:=ah s;have O:=ah t;have P:=ah u;have c0:=f.o.cell 0;have c1:=f.o.cell 1;have f1:=f.o.free 1;simp at c0 c1;clear a H1 s t u;obtain⟨W2,d⟩:=NX9 (w1.setCell ⟨b,1,none⟩ (.bool false))
 have l:Hid (Bk W2 b 283 #[.slice A bs.length c,.bool false]):=by
  rw[<-d];have:=f.o.set 1 (.bool false);show Bk _ _ _ _;simpa using this
 have z:Hid (Txt W2 base b A bs.length c bs):=by rw[<-d];exact O.o.far rfl _
 have Q:Hid (Txt W2 base x A bs.length c bs):=z.o.join P.o;have R:Hid (Below b w W2):=by rw[<-d];exact N.o.setCell (p:=⟨b,1,none⟩) ai _
 have B:Hid (W2.heap[x]? =w.heap[x]?):=by
  show _=_;rw[<-d];exact(Z8 w1 ⟨b,1,none⟩ _ x j.o).trans y.o
 have V:W2.heap.size=w1.heap.size:=by rw[<-d];simp
 have d0:=l.o.cell 0;have g0:=l.o.free 0;simp at d0
 go_wp2_with (at_builtin;refine pE (.tmp 26) (.tmp 27) 213 9 rfl ?_)
 refine aF ?_;refine wE (base:=base) (b:=b) (x:=x) rfl (.tmp 26) (.tmp 27) 213 9 rfl 5 i0 Tryz.underlying213 Hi.o I.o J.o K.o (A:=A) (n:=bs.length) (c:=c) (bs:=bs) rfl z.o Q.o (.string (ofL (aj k))) (aj k).length (aj k) rfl (pR (ofL (aj k)) _) (by omega) (by omega) (by omega) (by have:=v.o;omega) ?_;intro A' c' w3 C D m E g;have o:Hid (Bk w3 b 283 #[.slice A bs.length c,.bool false]):=E.trans l.o;have F:=ah C;have S:=ah D;have G:Hid (w3.heap[x]? =w.heap[x]?):=g.trans B.o;have T:Hid (Below b w w3):=R.o.trans (m.mono (by omega));have W:=m.size;have e0:=o.o.cell 0;have e1:=o.o.free 0;simp at e0;clear C D m E g d0 g0 c0 c1 f1;go_wp2_with fail
 go_end0
 have hl: (bs++aj k).length=bs.length+ (aj k).length:=by simp
 refine⟨rfl,⟨⟨A',c',?_,?_,?_⟩,L,by simp;omega,j.o,by have:=v.o;simp;omega⟩,T.o.setCell (p:=⟨b,0,none⟩) ai _,by simp;omega,(Z8 w3 ⟨b,0,none⟩ _ x j.o).trans G.o⟩
 . rw[hl];have:=o.o.set 0 (.slice A' (bs.length+ (aj k).length) c');show Bk _ _ _ _;simpa using this
 . rw[hl];exact F.o.far rfl _
 . rw[hl];exact(F.o.far (p:=⟨b,0,none⟩) rfl _).join S.o
theorem JG(b base x:Nat)(s:M3)(bs:M5)(w:MZ)(h:Wrx w b base x bs)(hk:s.size<=65536)(hn:bs.length<=1000000) :
  Calls Tryz.prog 206 #[.pointer (some ⟨b,0,none⟩),.string s] w (vI b base x (bs++ak (toL s)) w):=by
 have HP:=ah (rE s hk w);have H:=ah h;have U: (ak (toL s)).length<=70000:=by
  have h1:=eu 5 s.size (by omega);have h2:=aP s;unfold ak;rw[ae,<-h2];omega
 obtain⟨i0,hi,o,i,q⟩:=info_parts kW;have Hi:=ah hi;have I:=ah o;have J:=ah i;have K:=ah q;clear h hi o i q
 go_enter Tryz.func206,Tryz.ntmps206
 go_wp2_with (go_at_call 178;refine HP.o.mono ?_;rintro e w1 ⟨rfl,a⟩;refine aN ?_)
 refine aF ?_;have H1:=H.o.below a;obtain⟨A,c,r,t,u⟩:=H1.ex;have L:=H1.lt;have M:=H1.le;have j:=ah H1.ne;have v:=ah H1.xl;have N:Hid (Below b w w1):=a.mono (by have:=H.o.lt;have:=H.o.le;omega);have y:Hid (w1.heap[x]? =w.heap[x]?):=a.block x H.o.xl;have i:=a.size;have f:=ah r;have O:=ah t;have P:=ah u;have c0:=f.o.cell 0;have c1:=f.o.cell 1;have f1:=f.o.free 1;simp at c0 c1;clear a H1 r t u;obtain⟨W2,d⟩:=NX9 (w1.setCell ⟨b,1,none⟩ (.bool false))
 have k:Hid (Bk W2 b 283 #[.slice A bs.length c,.bool false]):=by
  rw[<-d];have:=f.o.set 1 (.bool false);show Bk _ _ _ _;simpa using this
 have z:Hid (Txt W2 base b A bs.length c bs):=by rw[<-d];exact O.o.far rfl _
 have Q:Hid (Txt W2 base x A bs.length c bs):=z.o.join P.o;have R:Hid (Below b w W2):=by rw[<-d];exact N.o.setCell (p:=⟨b,1,none⟩) ai _
 have B:Hid (W2.heap[x]? =w.heap[x]?):=by
  show _=_;rw[<-d];exact(Z8 w1 ⟨b,1,none⟩ _ x j.o).trans y.o
 have V:W2.heap.size=w1.heap.size:=by rw[<-d];simp
 have d0:=k.o.cell 0;have g0:=k.o.free 0;simp at d0
 go_wp2_with (at_builtin;refine pE (.tmp 25) (.tmp 26) 213 9 rfl ?_)
 refine aF ?_;refine wE (base:=base) (b:=b) (x:=x) rfl (.tmp 25) (.tmp 26) 213 9 rfl 5 i0 Tryz.underlying213 Hi.o I.o J.o K.o (A:=A) (n:=bs.length) (c:=c) (bs:=bs) rfl z.o Q.o (.string (ofL (ak (toL s)))) (ak (toL s)).length (ak (toL s)) rfl (pR (ofL (ak (toL s))) _) (by omega) (by omega) (by omega) (by have:=v.o;omega) ?_;intro A' c' w3 C D l E g;have m:Hid (Bk w3 b 283 #[.slice A bs.length c,.bool false]):=E.trans k.o;have F:=ah C;have S:=ah D;have G:Hid (w3.heap[x]? =w.heap[x]?):=g.trans B.o;have T:Hid (Below b w w3):=R.o.trans (l.mono (by omega));have W:=l.size;have e0:=m.o.cell 0;have e1:=m.o.free 0;simp at e0;clear C D l E g d0 g0 c0 c1 f1;go_wp2_with fail
 go_end0
 have hl: (bs++ak (toL s)).length=bs.length+ (ak (toL s)).length:=by simp
 refine⟨rfl,⟨⟨A',c',?_,?_,?_⟩,L,by simp;omega,j.o,by have:=v.o;simp;omega⟩,T.o.setCell (p:=⟨b,0,none⟩) ai _,by simp;omega,(Z8 w3 ⟨b,0,none⟩ _ x j.o).trans G.o⟩
 . rw[hl];have:=m.o.set 0 (.slice A' (bs.length+ (ak (toL s)).length) c');show Bk _ _ _ _;simpa using this
 . rw[hl];exact F.o.far rfl _
 . rw[hl];exact(F.o.far (p:=⟨b,0,none⟩) rfl _).join S.o
def WxP(b base xb:Nat)(bs:M5)(w:MZ)(v:M4)(w1:MZ):Prop:=∃A c,v= .slice A bs.length c/\Txt w1 base b A bs.length c bs/\Txt w1 base xb A bs.length c bs/\Below base w w1/\w1.heap[b]? =w.heap[b]? /\w1.heap[xb]? =w.heap[xb]?
theorem JI(b base xb:Nat)(d:Dig)(hd:WfD d)(bs:M5)(w:MZ)(h:Wrx w b base xb bs)(hn:bs.length<=1000000) :
  Calls Tryz.prog 207 #[.pointer (some ⟨b,0,none⟩),aB d] w (vI b base xb (bs++ax d) w):=by
 obtain⟨x,y⟩:=d;obtain⟨D,E,F,G⟩:=hd;simp only at D E F G;obtain⟨x,rfl⟩:=Int.eq_ofNat_of_zero_le D;obtain⟨y,rfl⟩:=Int.eq_ofNat_of_zero_le F;have aw:=ah E;have aD:=ah G;clear D E F G;show Calls Tryz.prog 207 #[.pointer (some ⟨b,0,none⟩),.agg #[.int .u64 x,.int .u64 y]] w _;obtain⟨i0,hi,N,O,Q⟩:=info_parts kW;have Hi:=ah hi;have R:=ah N;have S:=ah O;have T:=ah Q;have U:=h.lt;have ce:=h.le;have aE:=h.xl;have V:=ah h.ne;obtain⟨W0,H⟩:=NX9 (w.alloc (.cells #[.int .u64 x,.int .u64 y] 50))
 have m:Hid (Below w.heap.size w W0):=by rw[<-H];exact(af _ _).alloc ai _
 have ba:Hid (Bk W0 w.heap.size 50 #[.int .u64 x,.int .u64 y]):=by rw[<-H];exact Bk.new w _ _
 obtain⟨x0,x1,_,_⟩:=ba.o.two;have bb:Hid (Wrx W0 b base xb (bs++ (ax (x,y)).take (8*0))):=by
  show Wrx _ _ _ _ _;rw[Nat.mul_zero,List.take_zero,List.append_nil];exact h.below m.o
 have bd:Hid (Below b w W0):=m.o.mono (by omega);have X:w.heap.size<=W0.heap.size:=m.o.size;have bf:Hid (W0.heap[xb]? =w.heap[xb]?):=m.o.block xb aE;clear hi N O Q h
 go_enter Tryz.func207,Tryz.ntmps207
 go_wp2_with fail;clear H
 go_loopw[8] (fun i wr=>∃k:Nat,k<=2/\i= .int .i64 k/\Hid (Wrx wr b base xb (bs++ (ax (x,y)).take (8*k)))/\Hid (Below b w wr)/\w.heap.size<=wr.heap.size/\Hid (wr.heap[xb]? =w.heap[xb]?)) (fun i _=>2 - (intOf i).toNat)
 case atStart=>exact⟨0,by omega,rfl,bb.o,bd.o,X,bf.o⟩
 case round =>
  obtain⟨k,hk,rfl,hT,hB,n,hX⟩:=hrel;by_cases hlt2:k<2
  . have bg: (k:Int)<2:=by omega
    obtain⟨z,hz,cf,Y⟩:∃z:Nat,Hid (z<18446744073709551616)/\ (∀w,(Instr.index 50 (.agg #[.int .u64 (x:Int),.int .u64 (y:Int)]) (.int .i64 (k:Int))).run Tryz.prog w= .ok (.int .u64 (z:Int)) w)/\ (∀j,j<8-> (ax ((x:Int),(y:Int)))[8*k+j]? =some (UInt8.ofNat (z / 256 ^ (7 - j) % 256))):=by
     rcases Nat.lt_or_ge k 1 with h1 | h1
     . obtain rfl:k=0:=by omega
       refine⟨x,by show _<_;have:=aw.o;omega,fun w=>by kernel_rfl,fun j hj=>?_⟩;unfold ax;rw[List.getElem?_append_left (by rw[fZ];omega),Int.toNat_natCast,show 8*0+j=j by omega];exact jN 8 x j hj
     . obtain rfl:k=1:=by omega
       refine⟨y,by show _<_;have:=aD.o;omega,fun w=>by kernel_rfl,fun j hj=>?_⟩;unfold ax;rw[List.getElem?_append_right (by rw[fZ];omega),Int.toNat_natCast,fZ,show 8*1+j - 8=j by omega];exact jN 8 y j hj
    have bh:=ah Y;clear Y;go_wp2_with fail;obtain⟨wo,rfl⟩:∃wo:MZ,wo=wr:=⟨_,rfl⟩
    go_loopw[6] (fun i wr=>∃j:Nat,j<=8/\i= .int .i64 (56 - 8* (j:Int))/\Hid (Wrx wr b base xb (bs++ (ax (x,y)).take (8*k+j)))/\Hid (Below b w wr)/\w.heap.size<=wr.heap.size/\Hid (wr.heap[xb]? =w.heap[xb]?)) (fun i _=>(intOf i+8).toNat)
    case atStart=>exact⟨0,by omega,rfl,hT,hB,n,hX⟩
    case round =>
     obtain⟨j,hj,rfl,hT,hB,n,hX⟩:=hrel;by_cases U:j<8
     . have Z: (0:Int)<=56 - 8* (j:Int):=by omega
       obtain⟨p,hp⟩:=NX9 (z / 256 ^ (7 - j))
       have cg:∀yk,Op.shift .shr .u64 (z:Int) yk (56 - 8* (j:Int))=pure (.int .u64 (p:Int)):=fun yk=>by
        rw[shift_shr .u64 yk _ _ Z (by show _<= (64:Int);omega),<-hp];rw[show(56 - 8* (j:Int)).toNat=8* (7 - j) by omega];have e: ((z:Int) / 2 ^ (8* (7 - j)))= ((z / 256 ^ (7 - j):Nat):Int):=by
         rw[show(256:Nat)=2 ^ 8 from rfl,<-Nat.pow_mul];simp
        rw[e]
       have ch: (z:Int) / 2 ^ (56 - 8* (j:Int)).toNat= (p:Int):=by
        rw[show(56 - 8* (j:Int)).toNat=8* (7 - j) by omega];have e: ((z:Int) / 2 ^ (8* (7 - j)))= ((z / 256 ^ (7 - j):Nat):Int):=by
         rw[show(256:Nat)=2 ^ 8 from rfl,<-Nat.pow_mul];simp
        rw[e,hp]
       obtain⟨bt,I⟩:=NX9 (UInt8.ofNat (p % 256))
       have hw:IntKind.u8.wrap (p:Int)= (bt.toNat:Int):=by
        rw[IntKind.wrap_u8,<-I,je (by omega)];omega
       have bi:Hid ((ax ((x:Int),(y:Int)))[8*k+j]? =some bt):=by
        show _=_;rw[bh.o j U,hp,I]
       have ad:Hid (bs++ (ax ((x:Int),(y:Int))).take (8*k+j+1)= (bs++ (ax ((x:Int),(y:Int))).take (8*k+j))++ [bt]):=by
        show _=_;rw[aS bi.o,Z4]
       have bj: (bs++ (ax ((x:Int),(y:Int))).take (8*k+j)).length<=1000016:=by rw[ae,List.length_take];omega
       obtain⟨cs,J⟩:=NX9 (bs++ (ax ((x:Int),(y:Int))).take (8*k+j))
       rw[J]at bj ad;have g:=hT.o;rw[J]at g;obtain⟨A,c,K,ag,al⟩:=g.ex;have am:=ah K;have bk:=ah ag;have bm:=ah al;have bn:=g.xl;have bo:=g.le;obtain⟨y0,y1,f0,_⟩:=K.two;clear hp I J K ag al g hT x0 x1;generalize hq:56 - 8* (j:Int)=q at *;have HQ:=ah hq;have ci:0<=q:=by omega
       have cj:q<=56:=by omega
       have bp:=am.o.lt;clear hq;go_wp2_with fail;refine wF 11 10 (15::16::17::18::19::20::21::22::23::24::25:: []) (by kernel_rfl) (by kernel_rfl) (by kernel_rfl) (fun b W=>match b with | false=>Below wr.heap.size wr W | true=>True) (fun b W W'=>match b with | false=>Below W.heap.size W W' | true=>W'=W)
        (fun i v W=>if i=10 then(WxP b base xb (cs++ [bt]) wr) v W else ig 9 ((.pointer (some ⟨b,0,none⟩)):: (.pointer (some ⟨b,0,none⟩)):: (.pointer (some ⟨b,0,none⟩)):: (.pointer (some ⟨b,0,none⟩)):: (.slice A cs.length c):: (.int .u64 (z:Int)):: (.int .i64 q):: (.int .u64 (p:Int)):: (.int .u8 (bt.toNat:Int)):: (undef):: (undef):: []) wr.heap.size 5 #[.int .u8 (bt.toNat:Int)] i v W) ?hRD ?hPD (af _ _).drew ?stepD ?turnD (by decide) ?tailD
       case hRD =>
        intro bq W W' h1 h2;cases bq with
        | false=>exact Below.trans h1 (Below.mono h2 (Below.size h1))
        | true=>trivial
       case hPD =>
        intro bq i v W W' hb h1 h2;cases bq with
        | true=>have h3:W'=W:=h2;rw[h3];exact h1
        | false =>
          by_cases e:i=10
          . cases hb e
          . simp only[if_neg e]at h1 ⊢;exact xY i v W W' h1 h2
       case stepD =>
        intro bq i o vs W hi br an ho hv hR a;obtain⟨v0,v1,v2,v3,v4,v5,v6,v7,v8,v9,r,rfl⟩:=lG hv;simp only[List.zip,List.zipWith,aR,Act.put,List.setIfInBounds_toArray,List.set];have hE: (fun(b:Bool)(W W':MZ)=>match b with | false=>Below W.heap.size W W' | true=>W'=W) bq W W:=by
         cases bq with
         | false=>exact af _ _
         | true=>rfl
        match i,hi,ho with
        | 0,_,rfl =>
          exact .inl ⟨rfl,aJ (v:= .pointer (some ⟨b,0,none⟩)) (w':=W) (by go_simp) ⟨hE,fun _=>aI⟩⟩
        | 1,_,rfl =>
          exact .inl ⟨rfl,aJ (v:= .pointer (some ⟨b,0,none⟩)) (w':=W) (by go_simp) ⟨hE,fun _=>aI⟩⟩
        | 2,_,rfl =>
          have e1:v1=_:=a ⟨1,.data⟩ (by simp) rfl v1 rfl _ rfl;subst e1;exact .inl ⟨rfl,aJ (v:= .pointer (some ⟨b,0,none⟩)) (w':=W) (by go_simp) ⟨hE,fun _=>aI⟩⟩
        | 3,_,rfl =>
          have e2:v2=_:=a ⟨2,.data⟩ (by simp) rfl v2 rfl _ rfl;subst e2;exact .inl ⟨rfl,aJ (v:= .pointer (some ⟨b,0,none⟩)) (w':=W) (by go_simp) ⟨hE,fun _=>aI⟩⟩
        | 4,_,rfl =>
          have e3:v3=_:=a ⟨3,.data⟩ (by simp) rfl v3 rfl _ rfl;subst e3;have L:bq=false:=an _ rfl ⟨⟨4,.data⟩,by simp,rfl,rfl⟩;subst L;have bv:=(Below.cell hR (p:=⟨b,0,none⟩) (by show b<_;omega)).trans y0;exact .inl ⟨rfl,aJ (v:= .slice A cs.length c) (w':=W) (by go_simp) ⟨hE,fun _=>aI⟩⟩
        | 5,_,rfl =>
          exact .inl ⟨rfl,aJ (v:= .int .u64 (z:Int)) (w':=W) (by go_simp) ⟨hE,fun _=>aI⟩⟩
        | 6,_,rfl =>
          exact .inl ⟨rfl,aJ (v:= .int .i64 q) (w':=W) (by go_simp) ⟨hE,fun _=>aI⟩⟩
        | 7,_,rfl =>
          have e5:v5=_:=a ⟨5,.data⟩ (by simp) rfl v5 rfl _ rfl;have e6:v6=_:=a ⟨6,.data⟩ (by simp) rfl v6 rfl _ rfl;subst e5 e6;exact .inl ⟨rfl,aJ (v:= .int .u64 (p:Int)) (w':=W) (by go_simp) ⟨hE,fun _=>aI⟩⟩
        | 8,_,rfl =>
          have e7:v7=_:=a ⟨7,.data⟩ (by simp) rfl v7 rfl _ rfl;subst e7;exact .inl ⟨rfl,aJ (v:= .int .u8 (bt.toNat:Int)) (w':=W) (by go_simp) ⟨hE,fun _=>aI⟩⟩
        | 9,_,rfl =>
          have e8:v8=_:=a ⟨8,.data⟩ (by simp) rfl v8 rfl _ rfl;subst e8;have L:bq=false:=an _ rfl ⟨⟨9,.data⟩,by simp,rfl,rfl⟩;subst L;have bv:=(Below.cell hR (p:=⟨b,0,none⟩) (by show b<_;omega)).trans y0;exact .inl ⟨rfl,aJ (v:= .slice (some ⟨W.heap.size,0,none⟩) 1 1) (w':=W.alloc (.cells #[.int .u8 (bt.toNat:Int)] 5)) (by go_simp) ⟨(af _ W).alloc ai _,W.heap.size,rfl,Below.size hR,Bk.new W _ _⟩⟩
        | 10,_,_=>exact absurd rfl br
        | i+11,hi,_=>exact absurd hi (by omega)
       case turnD =>
        intro o vs W ho hv hR a;obtain⟨v0,v1,v2,v3,v4,v5,v6,v7,v8,v9,r,rfl⟩:=lG hv;cases ho
        simp only[List.zip,List.zipWith,aR,Act.put,List.setIfInBounds_toArray,List.set];have e4:v4=_:=a ⟨4,.data⟩ (by simp) rfl v4 rfl _ rfl;obtain⟨ab,ea,ao,s⟩:∃b0,v9= .slice (some ⟨b0,0,none⟩) 1 1/\wr.heap.size<=b0/\Bk W b0 5 #[.int .u8 (bt.toNat:Int)]:=a ⟨9,.data⟩ (by simp) rfl v9 rfl;subst e4 ea;have hR:Below wr.heap.size wr W:=hR;have ap:∀w1:MZ,(∀b,wr.heap.size<=b->b<W.heap.size->w1.heap[b]? =W.heap[b]?)->∀(i:Nat)(u:M4),i≠10-> (if i=10 then(WxP b base xb (cs++ [bt]) wr) u W else ig 9 ((.pointer (some ⟨b,0,none⟩)):: (.pointer (some ⟨b,0,none⟩)):: (.pointer (some ⟨b,0,none⟩)):: (.pointer (some ⟨b,0,none⟩)):: (.slice A cs.length c):: (.int .u64 (z:Int)):: (.int .i64 q):: (.int .u64 (p:Int)):: (.int .u8 (bt.toNat:Int)):: (undef):: (undef):: []) wr.heap.size 5 #[.int .u8 (bt.toNat:Int)] i u W)-> (if i=10 then(WxP b base xb (cs++ [bt]) wr) u w1 else ig 9 ((.pointer (some ⟨b,0,none⟩)):: (.pointer (some ⟨b,0,none⟩)):: (.pointer (some ⟨b,0,none⟩)):: (.pointer (some ⟨b,0,none⟩)):: (.slice A cs.length c):: (.int .u64 (z:Int)):: (.int .i64 q):: (.int .u64 (p:Int)):: (.int .u8 (bt.toNat:Int)):: (undef):: (undef):: []) wr.heap.size 5 #[.int .u8 (bt.toNat:Int)] i u w1):=fun w1 hk i u hi hu=>by
         simp only[if_neg hi]at hu ⊢;unfold ig at hu ⊢;by_cases e:i=9
         . rw[if_pos e]at hu ⊢
           obtain⟨b0,p1,p2,p3⟩:=hu;exact⟨b0,p1,p2,(hk b0 p2 p3.lt).trans p3⟩
         . rw[if_neg e]at hu ⊢;exact hu
        refine .inl ⟨rfl,?_⟩;obtain⟨A5,c5,w1,aq,t,l,B,ar⟩:=bk.o.run_append_far (P:=Tryz.prog) hR 213 213 213 5 i0 Tryz.underlying213 Hi.o R.o S.o T.o (.slice (some ⟨ab,0,none⟩) 1 1) 1 [bt] (Src.ofSlice _ Tryz.underlying213 ⟨ab,0,none⟩ 1 1 (bc [bt]) rfl (fun j u hu=>by rw[Addr.add_lit,Nat.zero_add,s.cell];simpa [bc] using hu) (fun u hu=>by simp[bc]at hu;subst hu;rfl)) (by omega) (by have:=hR.size;omega) (by have:=hR.size;omega);obtain⟨A6,c6,w6,bw,C,_,f,_⟩:=bm.o.run_append_far (P:=Tryz.prog) hR 213 213 213 5 i0 Tryz.underlying213 Hi.o R.o S.o T.o (.slice (some ⟨ab,0,none⟩) 1 1) 1 [bt] (Src.ofSlice _ Tryz.underlying213 ⟨ab,0,none⟩ 1 1 (bc [bt]) rfl (fun j u hu=>by rw[Addr.add_lit,Nat.zero_add,s.cell];simpa [bc] using hu) (fun u hu=>by simp[bc]at hu;subst hu;rfl)) (by omega) (by have:=hR.size;omega) (by have:=hR.size;omega);have e6:=aq.symm.trans bw;simp only[Result.ok.injEq,Value.slice.injEq,true_and]at e6;obtain⟨⟨rfl,rfl⟩,rfl⟩:=e6;refine xg (.tmp 19) (.tmp 24) 213 rfl rfl rfl aq ⟨trivial,⟨A5,c5,by simp,by simpa using t,by simpa using C,((hR.mono (by omega)).trans l),B.trans (hR.block b bp),f.trans (hR.block xb bn)⟩,ap w1 ar⟩
       case tailD =>
        intro vs W hv hR a;obtain⟨v0,v1,v2,v3,v4,v5,v6,v7,v8,v9,r,rfl⟩:=lG hv;simp only[List.zip,List.zipWith,aR,Act.put,List.setIfInBounds_toArray,List.set,List.drop];have e0:v0=_:=a 0 v0 rfl _ rfl;have e1:v1=_:=a 1 v1 rfl _ rfl;have e2:v2=_:=a 2 v2 rfl _ rfl;have e3:v3=_:=a 3 v3 rfl _ rfl;have e4:v4=_:=a 4 v4 rfl _ rfl;have e5:v5=_:=a 5 v5 rfl _ rfl;have e6:v6=_:=a 6 v6 rfl _ rfl;have e7:v7=_:=a 7 v7 rfl _ rfl;have e8:v8=_:=a 8 v8 rfl _ rfl;obtain⟨ab,ea,ao,s⟩:∃b0,v9= .slice (some ⟨b0,0,none⟩) 1 1/\wr.heap.size<=b0/\Bk W b0 5 #[.int .u8 (bt.toNat:Int)]:=a 9 v9 rfl;have em: (WxP b base xb (cs++ [bt]) wr) r W:=a 10 r rfl;subst e0 e1 e2 e3 e4 e5 e6 e7 e8 ea;clear a hv hR s ao;obtain⟨A5,c5,ev,t,C,l,B,f⟩:=em;subst ev;have au:Hid (Bk W b 283 #[.slice A cs.length c,.bool false]):=B.trans am.o;have av:=ah t;have bx:=ah C;have bz:Hid (W.heap[xb]? =w.heap[xb]?):=f.trans hX.o;have ck:=l.size;have ca:Hid (Below b w W):=hB.o.trans (l.mono (by omega));obtain⟨z0,z1,g0,_⟩:=au.o.two;have cl: (cs++ [bt]).length=cs.length+1:=by simp
        clear t C l B f y0 y1 f0;go_wp2_with fail;go_roundw
        case rel =>
         refine⟨j+1,by omega,by rw[<-HQ.o];congr 1;omega,?_,ca.o.setCell (p:=⟨b,0,none⟩) ai _,by simp[World.setCell];omega,(Z8 W ⟨b,0,none⟩ _ xb V.o).trans bz.o⟩;show Wrx _ _ _ _ (bs++ (ax ((x:Int),(y:Int))).take (8*k+j+1));rw[ad.o];refine⟨⟨A5,c5,?_,av.o.far rfl _,(av.o.far (p:=⟨b,0,none⟩) rfl _).join bx.o⟩,by omega,by simp[World.setCell];omega,V.o,by simp[World.setCell];omega⟩;have:=au.o.set 0 (.slice A5 (cs++ [bt]).length c5)
         simpa using this
        case measure=>have:=HQ.o;simp[intOf];omega
     . have Z:¬(0:Int)<=56 - 8* (j:Int):=by omega
       have cb:Hid (j=8):=by show _=_;omega
       generalize hq:56 - 8* (j:Int)=q at *;clear hq;go_wp2_with fail;go_roundw
       case rel=>exact⟨k+1,by omega,by go_num,by show Wrx _ _ _ _ _;have h1:=hT.o;rw[cb.o]at h1;exact h1,hB.o,n,hX.o⟩
       case measure=>simp[intOf];omega
  . have bg:¬(k:Int)<2:=by omega
    have cc:Hid (k=2):=by show _=_;omega
    have M:=hT.o;rw[cc.o,ZW (by rw[fH];omega)]at M;have cd:=ah M;clear M;go_wp2_with fail
    go_end0
    exact⟨rfl,cd.o,hB.o,n,hX.o⟩
theorem DT{α β:Type}(f:α->List β)(l:List α)(k:Nat): ((l.take k).flatMap f).length<= (l.flatMap f).length:=by
 conv=>rhs;rw[<-List.take_append_drop k l,List.flatMap_append,ae]
 omega
theorem wN{α β:Type}{f:α->List β}{l:List α}{k:Nat}{x:α}(h:l[k]? =some x): (l.take (k+1)).flatMap f= (l.take k).flatMap f++f x:=by
 rw[aS h,List.flatMap_append];simp
def qB(o:Ob)(w:MZ)(e:Ending)(w':MZ):Prop:=e= .returned (.tuple #[.string (ofL (aG o)),.int .i64 0])/\Below w.heap.size w w'
theorem rD(o:Ob)(s:Osl)(B:Nat)(w:MZ)(hm:ObM w B o s)(hB:B<=w.heap.size)(ho:OkO o) :
  Calls Tryz.prog 125 #[obV o s] w (qB o w):=by
 obtain⟨W0,F⟩:=NX9 (w.alloc (.cells (obC o s) 109))
 have N:Hid (Below w.heap.size w W0):=by rw[<-F];exact(af _ w).alloc ai _
 have G:Hid (Bk W0 w.heap.size 109 (obC o s)):=by rw[<-F];exact Bk.new w _ _
 have cr:W0.heap.size=w.heap.size+1:=by rw[<-F];simp
 have HM:=ah hm;have HC:=ah (Ep o s B W0 (hm.below (N.o.mono hB) ai) (by omega) ho.f);have H:=ah ho.len;have O:=hm.elen;have Q:=hm.plen;have HE:=ah hm.e;have HP:=ah hm.p;cases ho.f with
 | blob k e c d =>
   have a:Hid (aG o=aj o.kind.toNat++ak (toL o.data)):=by show _=_;unfold aG fF;rw[if_neg (by omega),if_neg (by omega)]
   obtain⟨kind,data,ents,⟨t1,t2⟩,pars,auth,time,msg⟩:=o;obtain⟨eA,en,ec,pA,pn,pc⟩:=s;simp only at k d a;simp only[obV,obC]at F G HC ⊢;obtain⟨c0,c1,c2,c3,c4,c5,c6,c7,c8⟩:=G.o.nine;clear hm e c HE HP O Q;rcases k with rfl | rfl
   . have a:Hid (aG _=aj 1++ak (toL data)):=a.o
     go_enter Tryz.func125,Tryz.ntmps125
     go_wp2_with fail;refine HC.o.mono ?_;rintro e w1 ⟨rfl,j⟩;have aD:=j.size;have I:Hid (Below w.heap.size W0 w1):=j.mono (by omega);have b:=ah (G.o.below j (by omega));have g:w.heap.size<w1.heap.size:=by omega
     clear j F c0 c1 c2 c3 c4 c5 c6 c7 c8 HC;obtain⟨w2,l⟩:=NX9 (w1.alloc (.cells #[.slice none 0 0,.bool false] 283))
     have aE:w1.heap.size+1<=w2.heap.size:=by rw[<-l];simp
     have z:Hid (Below w1.heap.size w1 w2):=by rw[<-l];exact(af _ w1).alloc ai _
     have R:Hid (Wrt w2 w1.heap.size (w1.heap.size+1) []):=⟨⟨none,0,by rw[<-l];exact Bk.new w1 _ _,Txt.nil _ _ _ _⟩,by omega,by omega⟩
     obtain⟨c0,c1,c2,c3,c4,c5,c6,c7,c8⟩:=(b.o.below z.o g).nine;have ba: (aj 1).length=1:=by rw[dM (by omega)];rfl
     have C:=ah (jf w1.heap.size (w1.heap.size+1) 1 [] w2 R.o (by omega) (by simp))
     go_wp2_with (first | (go_at_call 205;refine C.o.mono ?_;rintro e w3 ⟨rfl,hw,hb,hz⟩;refine aN ?_))
     refine aF ?_;have u:Hid (Wrt w3 w1.heap.size (w1.heap.size+1) ([]++aj 1)):=hw;have D:Hid (Below w1.heap.size w1 w3):=z.o.trans hb;have bd:w1.heap.size+1<=w3.heap.size:=by omega
     clear hw hb hz C c0 c1 c2 c3 c4 c5 c6 c7 c8;obtain⟨c0,c1,c2,c3,c4,c5,c6,c7,c8⟩:=(b.o.below D.o g).nine;have u:Hid (Wrt w3 w1.heap.size (w1.heap.size+1) (aj 1)):=u.o;clear l;have y:=ah (lV w1.heap.size (w1.heap.size+1) data (aj 1) w3 u.o d (by omega))
     go_wp2_with (first | (go_at_call 206;refine y.o.mono ?_;rintro e w4 ⟨rfl,hw,hb,hz⟩;refine aN ?_))
     refine aF ?_;have J:Hid (Wrt w4 w1.heap.size (w1.heap.size+1) (aj 1++ak (toL data))):=hw;have E:Hid (Below w1.heap.size w1 w4):=D.o.trans hb;have am:w1.heap.size+1<=w4.heap.size:=by omega
     clear hw hb hz y c0 c1 c2 c3 c4 c5 c6 c7 c8;obtain⟨c0,c1,c2,c3,c4,c5,c6,c7,c8⟩:=(b.o.below E.o g).nine;have t:=J.o;obtain⟨A,cc,v,x⟩:=t.ex;obtain⟨bs,m⟩:=NX9 (aj 1++ak (toL data))
     rw[m]at v x;have S:Hid (aj 1++ak (toL data)=bs):=m;have T:¬(65536:Int)< (bs.length:Int):=by
      have h1:=H.o;have h2:=congrArg List.length (a.o.trans (show _=aj 1++ak (toL data) by first | rfl | simp only[Z4]));rw[m]at h2;omega
     obtain⟨d0,d1,_,_⟩:=v.two;have bf:=x.run_string (P:=Tryz.prog) 213 9 5 Tryz.underlying213 Tryz.underlying5 Tryz.underlying9;have U:=ah (a.o.trans (show _=aj 1++ak (toL data) by first | rfl | simp only[Z4]));clear v x m t c0 c1 c2 c3 c4 c5 c6 c7 c8;go_wp2_with fail;go_ret2
     exact⟨by rw[U.o,S.o];rfl,N.o.trans (I.o.trans (E.o.mono (by omega)) |>.mono (by omega))⟩
   . have a:Hid (aG _=aj 4++ak (toL data)):=a.o
     go_enter Tryz.func125,Tryz.ntmps125
     go_wp2_with fail;refine HC.o.mono ?_;rintro e w1 ⟨rfl,j⟩;have aD:=j.size;have I:Hid (Below w.heap.size W0 w1):=j.mono (by omega);have b:=ah (G.o.below j (by omega));have g:w.heap.size<w1.heap.size:=by omega
     clear j F c0 c1 c2 c3 c4 c5 c6 c7 c8 HC;obtain⟨w2,l⟩:=NX9 (w1.alloc (.cells #[.slice none 0 0,.bool false] 283))
     have aE:w1.heap.size+1<=w2.heap.size:=by rw[<-l];simp
     have z:Hid (Below w1.heap.size w1 w2):=by rw[<-l];exact(af _ w1).alloc ai _
     have R:Hid (Wrt w2 w1.heap.size (w1.heap.size+1) []):=⟨⟨none,0,by rw[<-l];exact Bk.new w1 _ _,Txt.nil _ _ _ _⟩,by omega,by omega⟩
     obtain⟨c0,c1,c2,c3,c4,c5,c6,c7,c8⟩:=(b.o.below z.o g).nine;have ba: (aj 4).length=1:=by rw[dM (by omega)];rfl
     have C:=ah (jf w1.heap.size (w1.heap.size+1) 4 [] w2 R.o (by omega) (by simp))
     go_wp2_with (first | (go_at_call 205;refine C.o.mono ?_;rintro e w3 ⟨rfl,hw,hb,hz⟩;refine aN ?_))
     refine aF ?_;have u:Hid (Wrt w3 w1.heap.size (w1.heap.size+1) ([]++aj 4)):=hw;have D:Hid (Below w1.heap.size w1 w3):=z.o.trans hb;have bd:w1.heap.size+1<=w3.heap.size:=by omega
     clear hw hb hz C c0 c1 c2 c3 c4 c5 c6 c7 c8;obtain⟨c0,c1,c2,c3,c4,c5,c6,c7,c8⟩:=(b.o.below D.o g).nine;have u:Hid (Wrt w3 w1.heap.size (w1.heap.size+1) (aj 4)):=u.o;clear l;have y:=ah (lV w1.heap.size (w1.heap.size+1) data (aj 4) w3 u.o d (by omega))
     go_wp2_with (first | (go_at_call 206;refine y.o.mono ?_;rintro e w4 ⟨rfl,hw,hb,hz⟩;refine aN ?_))
     refine aF ?_;have J:Hid (Wrt w4 w1.heap.size (w1.heap.size+1) (aj 4++ak (toL data))):=hw;have E:Hid (Below w1.heap.size w1 w4):=D.o.trans hb;have am:w1.heap.size+1<=w4.heap.size:=by omega
     clear hw hb hz y c0 c1 c2 c3 c4 c5 c6 c7 c8;obtain⟨c0,c1,c2,c3,c4,c5,c6,c7,c8⟩:=(b.o.below E.o g).nine;have t:=J.o;obtain⟨A,cc,v,x⟩:=t.ex;obtain⟨bs,m⟩:=NX9 (aj 4++ak (toL data))
     rw[m]at v x;have S:Hid (aj 4++ak (toL data)=bs):=m;have T:¬(65536:Int)< (bs.length:Int):=by
      have h1:=H.o;have h2:=congrArg List.length (a.o.trans (show _=aj 4++ak (toL data) by first | rfl | simp only[Z4]));rw[m]at h2;omega
     obtain⟨d0,d1,_,_⟩:=v.two;have bf:=x.run_string (P:=Tryz.prog) 213 9 5 Tryz.underlying213 Tryz.underlying5 Tryz.underlying9;have U:=ah (a.o.trans (show _=aj 4++ak (toL data) by first | rfl | simp only[Z4]));clear v x m t c0 c1 c2 c3 c4 c5 c6 c7 c8;go_wp2_with fail;go_ret2
     exact⟨by rw[U.o,S.o];rfl,N.o.trans (I.o.trans (E.o.mono (by omega)) |>.mono (by omega))⟩
 | tree k d c e =>
   have a:Hid (aG o=aj 2++ (aj o.ents.length++o.ents.flatMap aQ)):=by show _=_;unfold aG fF;rw[if_pos k,k];rfl
   obtain⟨kind,data,ents,⟨t1,t2⟩,pars,auth,time,msg⟩:=o;obtain⟨eA,n,ec,pA,pn,pc⟩:=s;simp only at k d a O HE;subst k d;simp only[obV,obC]at F G HC ⊢;have hn:n<=200:=by rw[<-O];exact e.few
   have bz:=ah e.all;have ca:=ah O;rw[O]at a;obtain⟨c0,c1,c2,c3,c4,c5,c6,c7,c8⟩:=G.o.nine;clear hm e c HP Q O
   go_enter Tryz.func125,Tryz.ntmps125
   go_wp2_with fail;refine HC.o.mono ?_;rintro e w1 ⟨rfl,j⟩;have aD:=j.size;have I:Hid (Below w.heap.size W0 w1):=j.mono (by omega);have b:=ah (G.o.below j (by omega));have g:w.heap.size<w1.heap.size:=by omega
   clear j F c0 c1 c2 c3 c4 c5 c6 c7 c8 HC;obtain⟨w2,l⟩:=NX9 (w1.alloc (.cells #[.slice none 0 0,.bool false] 283))
   have aE:w1.heap.size+1<=w2.heap.size:=by rw[<-l];simp
   have z:Hid (Below w1.heap.size w1 w2):=by rw[<-l];exact(af _ w1).alloc ai _
   have R:Hid (Wrt w2 w1.heap.size (w1.heap.size+1) []):=⟨⟨none,0,by rw[<-l];exact Bk.new w1 _ _,Txt.nil _ _ _ _⟩,by omega,by omega⟩
   obtain⟨c0,c1,c2,c3,c4,c5,c6,c7,c8⟩:=(b.o.below z.o g).nine;have ba: (aj 2).length=1:=by rw[dM (by omega)];rfl
   have C:=ah (jf w1.heap.size (w1.heap.size+1) 2 [] w2 R.o (by omega) (by simp))
   go_wp2_with (first | (go_at_call 205;refine C.o.mono ?_;rintro e w3 ⟨rfl,hw,hb,hz⟩;refine aN ?_))
   refine aF ?_;have u:Hid (Wrt w3 w1.heap.size (w1.heap.size+1) ([]++aj 2)):=hw;have D:Hid (Below w1.heap.size w1 w3):=z.o.trans hb;have bd:w1.heap.size+1<=w3.heap.size:=by omega
   clear hw hb hz C c0 c1 c2 c3 c4 c5 c6 c7 c8;obtain⟨c0,c1,c2,c3,c4,c5,c6,c7,c8⟩:=(b.o.below D.o g).nine;have u:Hid (Wrt w3 w1.heap.size (w1.heap.size+1) (aj 2)):=u.o;clear l;have y:=ah (jf w1.heap.size (w1.heap.size+1) n (aj 2) w3 u.o (by omega) (by omega))
   go_wp2_with (first | (go_at_call 205;refine y.o.mono ?_;rintro e w4 ⟨rfl,hw,hb,hz⟩;refine aN ?_))
   refine aF ?_;have J:Hid (Wrt w4 w1.heap.size (w1.heap.size+1) (aj 2++aj n)):=hw;have E:Hid (Below w1.heap.size w1 w4):=D.o.trans hb;have am:w1.heap.size+1<=w4.heap.size:=by omega
   clear hw hb hz y c0 c1 c2 c3 c4 c5 c6 c7 c8;obtain⟨c0,c1,c2,c3,c4,c5,c6,c7,c8⟩:=(b.o.below E.o g).nine;have Y:Hid (∀k,(aj 2++aj n++ (ents.take k).flatMap aQ).length<=65536):=fun k=>by
    have h:=H.o;rw[a.o]at h;have:=DT aQ ents k;simp only[ae]at h ⊢;omega
   have J:Hid (Wrt w4 w1.heap.size (w1.heap.size+1) (aj 2++aj n++ (ents.take 0).flatMap aQ)):=by show Wrt _ _ _ _;rw[List.take_zero,List.flatMap_nil,List.append_nil];exact J.o
   go_wp2_with fail
   go_loopw[39] (fun i wr=>∃k:Nat,i= .int .i64 (k:Int)/\k<=n/\Hid (Wrt wr w1.heap.size (w1.heap.size+1) (aj 2++aj n++ (ents.take k).flatMap aQ))/\Hid (Below w1.heap.size w1 wr)/\w1.heap.size+1<=wr.heap.size) (fun i _=>n - (intOf i).toNat)
   case atStart=>exact⟨0,rfl,ZZ _,J.o,E.o,am⟩
   case round =>
    obtain⟨k,rfl,hk,hT,K,bo⟩:=hrel;have cb:=K;have bg:Hid (Below w.heap.size w wr):=N.o.trans ((I.o.trans (K.o.mono (by omega))));clear c0 c1 c2 c3 c4 c5 c6 c7 c8;obtain⟨c0,c1,c2,c3,c4,c5,c6,c7,c8⟩:=(b.o.below K.o g).nine;by_cases hlt:k<n
    . have T: (k:Int)< (n:Int):=by omega
      obtain⟨bb,cd,en,rfl,ce,an,y0,y1,y2,y3⟩:=(HE.o.below bg.o hB).en hlt;have cs:=ah an;have bh:=bz.o en (Z7 an);have cf:=gM bh.nm;have ao:=ah bh.dg;have cg:=Y.o k;have ap:Hid ((ents.take (k+1)).flatMap aQ= (ents.take k).flatMap aQ++aQ en):=wN an;obtain⟨wb,L⟩:=NX9 (wr.alloc (.cells #[.string en.nm,.bool en.dir,.int .u64 en.dg.1,.int .u64 en.dg.2] 185))
      have M:Below wr.heap.size wr wb:=by rw[<-L];exact(af _ wr).alloc ai _
      have ct:wb.heap.size=wr.heap.size+1:=by rw[<-L];simp
      have Z:Hid (Bk wb wr.heap.size 185 #[.string en.nm,.bool en.dir,.int .u64 en.dg.1,.int .u64 en.dg.2]):=by rw[<-L];exact Bk.new wr _ _
      have bi:=ah (hT.o.wrx M (by omega));have bj:Hid (Below w1.heap.size w1 wb):=cb.o.trans (M.mono (by omega));obtain⟨x0,x1,x2,x3⟩:=Z.o.four;obtain⟨nm,dir,d1,d2⟩:=en;simp only at y0 y1 y2 y3 x0 x1 x2 x3 L cf Z ap ao;have cu: (ak (toL nm)).length<=70:=by
       have h1:=eu 5 nm.size (by omega);have h2:=aP nm;unfold ak;rw[ae,<-h2];omega
      have ab:=ah (JG w1.heap.size (w1.heap.size+1) wr.heap.size nm (aj 2++aj n++ (ents.take k).flatMap aQ) wb bi.o (by omega) (by omega));clear M an bh
      go_wp2_with (first | (go_at_call 206;refine ab.o.mono ?_;rintro e w5 ⟨rfl,hw,hb,hz,hx⟩;refine aN ?_))
      refine aF ?_;have ad:=ah hw;have aq:Hid (Below w1.heap.size w1 w5):=bj.o.trans hb;have bp:Hid (Bk w5 wr.heap.size 185 #[.string nm,.bool dir,.int .u64 d1,.int .u64 d2]):=hx.trans Z.o;have bq:wr.heap.size<w5.heap.size:=by omega
      clear hw hb hz hx ab x0 x1 x2 x3 y0 y1 y2 y3 L c0 c1 c2 c3 c4 c5 c6 c7 c8;obtain⟨x0,x1,x2,x3⟩:=bp.o.four;obtain⟨dn,ar⟩:∃dn:Nat,(if dir=true then 1 else 0:Nat)=dn:=⟨_,rfl⟩
      have cq:dn<=1:=by rw[<-ar];split <;> omega
      have ch:=ah ar;have cv: (aj 2++aj n++ (ents.take k).flatMap aQ++ak (toL nm)).length<=70000:=by rw[ae];omega
      have cw: (aj dn).length=1:=by rw[dM (by omega)];rfl
      have V:=ah (JJ w1.heap.size (w1.heap.size+1) wr.heap.size dn (aj 2++aj n++ (ents.take k).flatMap aQ++ak (toL nm)) w5 ad.o (by omega) (by omega))
      go_upto_if 47 with fail
      go_cut[8] from 47 to 47 (fun q wx=>q= .int .i64 (dn:Int)/\wx=w5)
      case first =>
       cases dir with
       | true =>
         obtain rfl:1=dn:=by simpa using ar
         go_wp2_with fail
         go_meet
         exact⟨rfl,rfl⟩
       | false =>
         obtain rfl:0=dn:=by simpa using ar
         go_wp2_with fail
         go_meet
         exact⟨rfl,rfl⟩
      case rest =>
       obtain⟨rfl,rfl⟩:=hcut
       go_wp2_with (first | (go_at_call 205;refine V.o.mono ?_;rintro e w6 ⟨rfl,hw,hb,hz,hx⟩;refine aN ?_))
       refine aF ?_;have ag:=ah hw;have al:Hid (Below w1.heap.size w1 w6):=aq.o.trans hb;have ci:Hid (Bk w6 wr.heap.size 185 #[.string nm,.bool dir,.int .u64 d1,.int .u64 d2]):=hx.trans bp.o;have bk:wr.heap.size<w6.heap.size:=by omega
       clear hw hb hz hx V x0 x1 x2 x3;obtain⟨x0,x1,x2,x3⟩:=ci.o.four;have X:=ah (JI w1.heap.size (w1.heap.size+1) wr.heap.size (d1,d2) ao.o (aj 2++aj n++ (ents.take k).flatMap aQ++ak (toL nm)++aj dn) w6 ag.o (by rw[ae];omega));unfold aB at X
       go_wp2_with (first | (go_at_call 207;refine X.o.mono ?_;rintro e w7 ⟨rfl,hw,hb,hz,hx⟩;refine aN ?_))
       refine aF ?_;have au:Hid (Below w1.heap.size w1 w7):=al.o.trans hb;have br:w1.heap.size+1<=w7.heap.size:=by omega
       have bm:Hid (Wrt w7 w1.heap.size (w1.heap.size+1) (aj 2++aj n++ (ents.take (k+1)).flatMap aQ)):=by
        have h:=hw.wrt;show Wrt _ _ _ _;have he:aQ ⟨nm,dir,(d1,d2)⟩=ak (toL nm)++ (aj dn++ax (d1,d2)):=by rw[<-ch.o];rfl
        rw[ap.o,he]
        simpa only[Z4] using h
       clear hw hb hz hx X x0 x1 x2 x3;go_wp2_with fail;go_roundw
       case rel=>exact⟨k+1,by go_num,hlt,bm.o,au.o,br⟩
       case measure=>simp[intOf];omega
    . have T:¬(k:Int)< (n:Int):=by omega
      have bn:Hid (Wrt wr w1.heap.size (w1.heap.size+1) (aj 2++aj n++ents.flatMap aQ)):=by
       have:=hT.o;rw[ZW (by rw[ca.o];omega)]at this;exact this
      have av:=K;have t:=bn.o;obtain⟨A,cc,v,x⟩:=t.ex;obtain⟨bs,m⟩:=NX9 (aj 2++aj n++ents.flatMap aQ)
      rw[m]at v x;have S:Hid (aj 2++aj n++ents.flatMap aQ=bs):=m;have T:¬(65536:Int)< (bs.length:Int):=by
       have h1:=H.o;have h2:=congrArg List.length (a.o.trans (show _=aj 2++aj n++ents.flatMap aQ by first | rfl | simp only[Z4]));rw[m]at h2;omega
      obtain⟨d0,d1,_,_⟩:=v.two;have bf:=x.run_string (P:=Tryz.prog) 213 9 5 Tryz.underlying213 Tryz.underlying5 Tryz.underlying9;have U:=ah (a.o.trans (show _=aj 2++aj n++ents.flatMap aQ by first | rfl | simp only[Z4]));clear v x m t c0 c1 c2 c3 c4 c5 c6 c7 c8;go_wp2_with fail;go_ret2
      exact⟨by rw[U.o,S.o];rfl,N.o.trans (I.o.trans (av.o.mono (by omega)) |>.mono (by omega))⟩
 | commit k d e c =>
   have a:Hid (aG o=aj 3++ (ax o.tree++ (aj o.pars.length++ (o.pars.flatMap ax++ (ak (toL o.auth)++ (aj o.time.toNat++ak (toL o.msg))))))):=by show _=_;unfold aG fF;rw[if_neg (by omega),if_pos k,k];rfl
   obtain⟨kind,data,ents,⟨t1,t2⟩,pars,auth,time,msg⟩:=o;obtain⟨eA,en,ec,pA,n,pc⟩:=s;simp only at k d a Q HP;subst k d;simp only[obV,obC]at F G HC ⊢;have hn:n<=8:=by rw[<-Q];exact c.pars.few
   have cj:WfD (t1,t2):=c.wf;have ck:=ah c.pars.wf;have cl:=ah Q;have cx:auth.size<=24:=gM c.auth;have cy:msg.size<=200:=c.msg;have bt:0<=time:=c.t0;have cm:time<=1099511627776:=c.t1;obtain⟨tn,rfl⟩:=Int.eq_ofNat_of_zero_le bt;have cn:tn<=1099511627776:=by omega
   simp only[Int.toNat_natCast]at a;rw[Q]at a;obtain⟨c0,c1,c2,c3,c4,c5,c6,c7,c8⟩:=G.o.nine;clear hm e c HE O Q bt cm
   go_enter Tryz.func125,Tryz.ntmps125
   go_wp2_with fail;refine HC.o.mono ?_;rintro e w1 ⟨rfl,j⟩;have aD:=j.size;have I:Hid (Below w.heap.size W0 w1):=j.mono (by omega);have b:=ah (G.o.below j (by omega));have g:w.heap.size<w1.heap.size:=by omega
   clear j F c0 c1 c2 c3 c4 c5 c6 c7 c8 HC;obtain⟨w2,l⟩:=NX9 (w1.alloc (.cells #[.slice none 0 0,.bool false] 283))
   have aE:w1.heap.size+1<=w2.heap.size:=by rw[<-l];simp
   have z:Hid (Below w1.heap.size w1 w2):=by rw[<-l];exact(af _ w1).alloc ai _
   have R:Hid (Wrt w2 w1.heap.size (w1.heap.size+1) []):=⟨⟨none,0,by rw[<-l];exact Bk.new w1 _ _,Txt.nil _ _ _ _⟩,by omega,by omega⟩
   obtain⟨c0,c1,c2,c3,c4,c5,c6,c7,c8⟩:=(b.o.below z.o g).nine;have ba: (aj 3).length=1:=by rw[dM (by omega)];rfl
   have C:=ah (jf w1.heap.size (w1.heap.size+1) 3 [] w2 R.o (by omega) (by simp))
   go_wp2_with (first | (go_at_call 205;refine C.o.mono ?_;rintro e w3 ⟨rfl,hw,hb,hz⟩;refine aN ?_))
   refine aF ?_;have u:Hid (Wrt w3 w1.heap.size (w1.heap.size+1) ([]++aj 3)):=hw;have D:Hid (Below w1.heap.size w1 w3):=z.o.trans hb;have bd:w1.heap.size+1<=w3.heap.size:=by omega
   clear hw hb hz C c0 c1 c2 c3 c4 c5 c6 c7 c8;obtain⟨c0,c1,c2,c3,c4,c5,c6,c7,c8⟩:=(b.o.below D.o g).nine;have u:Hid (Wrt w3 w1.heap.size (w1.heap.size+1) (aj 3)):=u.o;clear l;have aw:Hid (∀q:M5,(∃r,aj 3++ (ax (t1,t2)++ (aj n++ (pars.flatMap ax++ (ak (toL auth)++ (aj tn++ak (toL msg))))))=q++r)->q.length<=65536):=fun q hq=>by
    obtain⟨r,hr⟩:=hq;have h:=H.o;rw[a.o,hr,ae]at h;omega
   have y:=ah (xG w1.heap.size (w1.heap.size+1) (t1,t2) cj (aj 3) w3 u.o (by omega));unfold aB at y
   go_wp2_with (first | (go_at_call 207;refine y.o.mono ?_;rintro e w4 ⟨rfl,hw,hb,hz⟩;refine aN ?_))
   refine aF ?_;have J:Hid (Wrt w4 w1.heap.size (w1.heap.size+1) (aj 3++ax (t1,t2))):=hw;have E:Hid (Below w1.heap.size w1 w4):=D.o.trans hb;have am:w1.heap.size+1<=w4.heap.size:=by omega
   clear hw hb hz y c0 c1 c2 c3 c4 c5 c6 c7 c8;obtain⟨c0,c1,c2,c3,c4,c5,c6,c7,c8⟩:=(b.o.below E.o g).nine;have ab:=ah (jf w1.heap.size (w1.heap.size+1) n (aj 3++ax (t1,t2)) w4 J.o (by omega) (by rw[ae,fH];omega))
   go_wp2_with (first | (go_at_call 205;refine ab.o.mono ?_;rintro e w5 ⟨rfl,hw,hb,hz⟩;refine aN ?_))
   refine aF ?_;have ad:Hid (Wrt w5 w1.heap.size (w1.heap.size+1) (aj 3++ax (t1,t2)++aj n)):=hw;have aq:Hid (Below w1.heap.size w1 w5):=E.o.trans hb;have bq:w1.heap.size+1<=w5.heap.size:=by omega
   clear hw hb hz ab c0 c1 c2 c3 c4 c5 c6 c7 c8;obtain⟨c0,c1,c2,c3,c4,c5,c6,c7,c8⟩:=(b.o.below aq.o g).nine;have cz: (aj n).length=1:=by rw[dM (by omega)];rfl
   have ad:Hid (Wrt w5 w1.heap.size (w1.heap.size+1) (aj 3++ax (t1,t2)++aj n++ (pars.take 0).flatMap ax)):=by show Wrt _ _ _ _;rw[List.take_zero,List.flatMap_nil,List.append_nil];exact ad.o
   have Y:Hid (∀k,k<=n-> (aj 3++ax (t1,t2)++aj n++ (pars.take k).flatMap ax).length<=65536):=fun k hk=>by
    refine aw.o _ ⟨(pars.drop k).flatMap ax++ (ak (toL auth)++ (aj tn++ak (toL msg))),?_⟩
    conv=>lhs;rw[<-List.take_append_drop k pars,List.flatMap_append]
    simp only[Z4]
   go_wp2_with fail
   go_loopw[64] (fun i wr=>∃k:Nat,i= .int .i64 (k:Int)/\k<=n/\Hid (Wrt wr w1.heap.size (w1.heap.size+1) (aj 3++ax (t1,t2)++aj n++ (pars.take k).flatMap ax))/\Hid (Below w1.heap.size w1 wr)/\w1.heap.size+1<=wr.heap.size) (fun i _=>n - (intOf i).toNat)
   case atStart=>exact⟨0,rfl,ZZ _,ad.o,aq.o,bq⟩
   case round =>
    obtain⟨k,rfl,hk,hT,K,bo⟩:=hrel;have bg:Hid (Below w.heap.size w wr):=N.o.trans ((I.o.trans (K.o.mono (by omega))));clear c0 c1 c2 c3 c4 c5 c6 c7 c8;obtain⟨c0,c1,c2,c3,c4,c5,c6,c7,c8⟩:=(b.o.below K.o g).nine;by_cases hlt:k<n
    . have T: (k:Int)< (n:Int):=by omega
      obtain⟨bb,cd,d,rfl,ce,hd,y0,y1⟩:=(HP.o.below bg.o hB).dg hlt;have ao:=ah (ck.o d (Z7 hd));have cg:=Y.o k hk;have ap:Hid ((pars.take (k+1)).flatMap ax= (pars.take k).flatMap ax++ax d):=wN hd;obtain⟨d1,d2⟩:=d;simp only at y0 y1;obtain⟨wb,L⟩:=NX9 (wr.alloc (.cells #[.int .u64 d1,.int .u64 d2] 50))
      have M:Below wr.heap.size wr wb:=by rw[<-L];exact(af _ wr).alloc ai _
      have cA:w1.heap.size+1<=wb.heap.size:=by have:=M.size;omega
      have Z:Hid (Bk wb wr.heap.size 50 #[.int .u64 d1,.int .u64 d2]):=by rw[<-L];exact Bk.new wr _ _
      have bi:=ah (hT.o.below M);have bj:Hid (Below w1.heap.size w1 wb):=K.o.trans (M.mono (by omega));obtain⟨x0,x1,_,_⟩:=Z.o.two;have V:=ah (xG w1.heap.size (w1.heap.size+1) (d1,d2) ao.o (aj 3++ax (t1,t2)++aj n++ (pars.take k).flatMap ax) wb bi.o (by omega));unfold aB at V;clear M hd
      go_wp2_with (first | (go_at_call 207;refine V.o.mono ?_;rintro e w6 ⟨rfl,hw,hb,hz⟩;refine aN ?_))
      refine aF ?_;have al:Hid (Below w1.heap.size w1 w6):=bj.o.trans hb;have bk:w1.heap.size+1<=w6.heap.size:=by omega
      have ag:Hid (Wrt w6 w1.heap.size (w1.heap.size+1) (aj 3++ax (t1,t2)++aj n++ (pars.take (k+1)).flatMap ax)):=by
       show Wrt _ _ _ _;rw[ap.o,<-Z4];exact hw
      clear hw hb hz V x0 x1 L y0 y1;go_wp2_with fail;go_roundw
      case rel=>exact⟨k+1,by go_num,hlt,ag.o,al.o,bk⟩
      case measure=>simp[intOf];omega
    . have T:¬(k:Int)< (n:Int):=by omega
      have ag:Hid (Wrt wr w1.heap.size (w1.heap.size+1) (aj 3++ax (t1,t2)++aj n++pars.flatMap ax)):=by
       have:=hT.o;rw[ZW (by rw[cl.o];omega)]at this;exact this
      obtain⟨w6,co⟩:∃W,W=wr:=⟨_,rfl⟩
      subst co;have al:=K;have bk:=bo;have X:=ah (lV w1.heap.size (w1.heap.size+1) auth (aj 3++ax (t1,t2)++aj n++pars.flatMap ax) w6 ag.o (by omega) (by have:=aw.o (aj 3++ax (t1,t2)++aj n++pars.flatMap ax) ⟨ak (toL auth)++ (aj tn++ak (toL msg)),by simp only[Z4]⟩;omega))
      go_wp2_with (first | (go_at_call 206;refine X.o.mono ?_;rintro e w7 ⟨rfl,hw,hb,hz⟩;refine aN ?_))
      refine aF ?_;have bm:Hid (Wrt w7 w1.heap.size (w1.heap.size+1) (aj 3++ax (t1,t2)++aj n++pars.flatMap ax++ak (toL auth))):=hw;have au:Hid (Below w1.heap.size w1 w7):=al.o.trans hb;have br:w1.heap.size+1<=w7.heap.size:=by omega
      clear hw hb hz X c0 c1 c2 c3 c4 c5 c6 c7 c8;obtain⟨c0,c1,c2,c3,c4,c5,c6,c7,c8⟩:=(b.o.below au.o g).nine;have bv:=ah (jf w1.heap.size (w1.heap.size+1) tn (aj 3++ax (t1,t2)++aj n++pars.flatMap ax++ak (toL auth)) w7 bm.o cn (by have:=aw.o (aj 3++ax (t1,t2)++aj n++pars.flatMap ax++ak (toL auth)) ⟨aj tn++ak (toL msg),by simp only[Z4]⟩;omega))
      go_wp2_with (first | (go_at_call 205;refine bv.o.mono ?_;rintro e w8 ⟨rfl,hw,hb,hz⟩;refine aN ?_))
      refine aF ?_;have cp:Hid (Wrt w8 w1.heap.size (w1.heap.size+1) (aj 3++ax (t1,t2)++aj n++pars.flatMap ax++ak (toL auth)++aj tn)):=hw;have bw:Hid (Below w1.heap.size w1 w8):=au.o.trans hb;have cC:w1.heap.size+1<=w8.heap.size:=by omega
      clear hw hb hz bv c0 c1 c2 c3 c4 c5 c6 c7 c8;obtain⟨c0,c1,c2,c3,c4,c5,c6,c7,c8⟩:=(b.o.below bw.o g).nine;have bx:=ah (lV w1.heap.size (w1.heap.size+1) msg (aj 3++ax (t1,t2)++aj n++pars.flatMap ax++ak (toL auth)++aj tn) w8 cp.o (by omega) (by have:=aw.o (aj 3++ax (t1,t2)++aj n++pars.flatMap ax++ak (toL auth)++aj tn) ⟨ak (toL msg),by simp only[Z4]⟩;omega))
      go_wp2_with (first | (go_at_call 206;refine bx.o.mono ?_;rintro e w9 ⟨rfl,hw,hb,hz⟩;refine aN ?_))
      refine aF ?_;have bn:Hid (Wrt w9 w1.heap.size (w1.heap.size+1) (aj 3++ax (t1,t2)++aj n++pars.flatMap ax++ak (toL auth)++aj tn++ak (toL msg))):=hw;have av:Hid (Below w1.heap.size w1 w9):=bw.o.trans hb;have cD:w1.heap.size+1<=w9.heap.size:=by omega
      clear hw hb hz bx c0 c1 c2 c3 c4 c5 c6 c7 c8;obtain⟨c0,c1,c2,c3,c4,c5,c6,c7,c8⟩:=(b.o.below av.o g).nine;have t:=bn.o;obtain⟨A,cc,v,x⟩:=t.ex;obtain⟨bs,m⟩:=NX9 (aj 3++ax (t1,t2)++aj n++pars.flatMap ax++ak (toL auth)++aj tn++ak (toL msg))
      rw[m]at v x;have S:Hid (aj 3++ax (t1,t2)++aj n++pars.flatMap ax++ak (toL auth)++aj tn++ak (toL msg)=bs):=m;have T:¬(65536:Int)< (bs.length:Int):=by
       have h1:=H.o;have h2:=congrArg List.length (a.o.trans (show _=aj 3++ax (t1,t2)++aj n++pars.flatMap ax++ak (toL auth)++aj tn++ak (toL msg) by first | rfl | simp only[Z4]));rw[m]at h2;omega
      obtain⟨d0,d1,_,_⟩:=v.two;have bf:=x.run_string (P:=Tryz.prog) 213 9 5 Tryz.underlying213 Tryz.underlying5 Tryz.underlying9;have U:=ah (a.o.trans (show _=aj 3++ax (t1,t2)++aj n++pars.flatMap ax++ak (toL auth)++aj tn++ak (toL msg) by first | rfl | simp only[Z4]));clear v x m t c0 c1 c2 c3 c4 c5 c6 c7 c8;go_wp2_with fail;go_ret2
      exact⟨by rw[U.o,S.o];rfl,N.o.trans (I.o.trans (av.o.mono (by omega)) |>.mono (by omega))⟩
theorem mG(o:Ob)(s:Osl)(B:Nat)(w:MZ)(hm:ObM w B o s)(hB:B<=w.heap.size)(ho:OkO o) :
  Calls Tryz.prog 113 #[obV o s] w fun e w'=>e= .returned (.int .i64 0)/\Below w.heap.size w w':=by
 obtain⟨W0,b⟩:=NX9 (w.alloc (.cells (obC o s) 109))
 have a:Hid (Below w.heap.size w W0):=by rw[<-b];exact(af _ w).alloc ai _
 have c:Hid (Bk W0 w.heap.size 109 (obC o s)):=by rw[<-b];exact Bk.new w _ _
 have HC:=ah (rD o s B W0 (hm.below (a.o.mono hB) ai) (by have:=a.o.size;omega) ho);obtain⟨bs,d⟩:=NX9 (ofL (aG o))
 unfold qB at HC;rw[d]at HC;obtain⟨f,g,h,⟨t1,t2⟩,i,j,k,l⟩:=o;obtain⟨eA,en,ec,pA,pn,pc⟩:=s;simp only[obV,obC]at b c HC ⊢;obtain⟨c0,c1,c2,c3,c4,c5,c6,c7,c8⟩:=c.o.nine;clear hm d
 go_enter Tryz.func113,Tryz.ntmps113
 go_wp2_with (first | (go_at_call 125;refine HC.o.mono ?_;rintro e w1 ⟨rfl,hb1⟩))
 go_ret
 exact⟨rfl,a.o.trans (hb1.mono a.o.size)⟩
