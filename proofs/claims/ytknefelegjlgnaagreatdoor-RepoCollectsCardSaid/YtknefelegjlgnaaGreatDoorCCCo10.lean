/-
  Lemmas of the card.
-/
import Derived.Test.YtknefelegjlgnaaGreatDoorCCCo9
set_option maxRecDepth 100000
set_option maxHeartbeats 8000000
namespace Go.Proofs.YtknefelegjlgnaaGreatDoor
open Go.RowKit
theorem Txt.join{w w':SX}{base base' b x n c:Nat}{A:OA}{bs bs':Td}(h:Txt w' base b A n c bs)(hx:Txt w base' x A n c bs'):Txt w' base x A n c bs :=
 ⟨h.len,h.le,h.max,fun h0=>by
   obtain⟨q,off,e,h1,h2⟩:=h.lies h0;obtain⟨q',off',e',g1,_⟩:=hx.lies h0;rw[e]at e';simp only[Option.some.injEq,Addr.mk.injEq]at e';exact⟨q,off,e,⟨h1.1,by rw[e'.1];exact g1.2⟩,h2⟩⟩
theorem Txt.run_append_two{P:Program}{w:SX}{base b x n c:Nat}{A:OA}{bs:Td}(h:Txt w base b A n c bs)(hx:Txt w base x A n c bs)(t tx ty e:TypeId)(i:TypeInfo)(ht:P.underlying t=some (.slice e))(hi:P.info? e=some i)(hz:i.zero=some (.int .u8 0))(hsize:i.size=1)(hby:i.bytes=1)
  (xv:Tc) (m:Nat) (ys:Td) (hs:Src P 1 tx xv m (bc ys) w) (hmax:n+m<=140737488355328) (hbase:base<=w.heap.size) (hb:b<w.heap.size) (hxl:x<w.heap.size) :
  ∃A' c' w',(Builtin.append_ #[t,tx] ty #[.slice A n c,xv]).run P w= .ok (.slice A' (n+m) c') w'/\Txt w' base b A' (n+m) c' (bs++ys)/\Txt w' base x A' (n+m) c' (bs++ys)/\Below base w w'/\w'.heap[b]? =w.heap[b]? /\w'.heap[x]? =w.heap[x]? :=by
 obtain⟨A',c',w',hr,h1,h2,h3⟩:=h.run_append (P:=P) t tx ty e i ht hi hz hsize hby xv m ys hs hmax hbase hb;obtain⟨A2,c2,w2,hr2,g1,_,g3⟩:=hx.run_append (P:=P) t tx ty e i ht hi hz hsize hby xv m ys hs hmax hbase hxl;have e:=hr.symm.trans hr2;simp only[Result.ok.injEq,Value.slice.injEq,true_and]at e;obtain⟨⟨rfl,rfl⟩,rfl⟩:=e;exact⟨A',c',w',hr,h1,g1,h2,h3,g3⟩
theorem zC{P:Program}{w:SX}{base b x n c:Nat}{A:OA}{bs:Td}{ops:Array Oper}{rest:List Oper}{o:Oper}{a:Act}{Q:Exit->Act->SX->Prop}(hgd:o.guard=none)(s xo:Operand)(t tx:TypeId)
  (ho:o.op= .call {callee:= .builtin .append,args:=#[s,xo],argTypes:=#[t,tx]})
  (e:TypeId) (i:TypeInfo) (ht:P.underlying t=some (.slice e)) (hi:P.info? e=some i) (hz:i.zero=some (.int .u8 0)) (hsize:i.size=1) (hby:i.bytes=1)
  (hv:a.eval s= .slice A n c) (h:Txt w base b A n c bs) (hx2:Txt w base x A n c bs)
  (xv:Tc) (m:Nat) (ys:Td) (hx:a.eval xo=xv) (hs:Src P 1 tx xv m (bc ys) w) (hmax:n+m<=140737488355328) (hbase:base<=w.heap.size) (hb:b<w.heap.size) (hxl:x<w.heap.size)
  (hK:∀A' c' w',Txt w' base b A' (n+m) c' (bs++ys)->Txt w' base x A' (n+m) c' (bs++ys)->Below base w w'->w'.heap[b]? =w.heap[b]? ->w'.heap[x]? =w.heap[x]? ->wpList P ops Q rest (a.put o.dst (.slice A' (n+m) c')) w'):wpList P ops Q (o::rest) a w:=by
 refine wpList_plain hgd fun K hK'=>?_;obtain⟨A',c',w',hrun,h1,h2,h3,h4,h5⟩:=h.run_append_two (P:=P) hx2 t tx o.type e i ht hi hz hsize hby xv m ys hs hmax hbase hb hxl;unfold Oper.wp;simp[execOp,ho,resolve,invoke,builtin,hv,hx,hrun,Result.andThen];exact hK' _ _ (hK A' c' w' h1 h2 h3 h4 h5)
structure Wrx(w:SX)(b base x:Nat)(bs:Td):Prop where
 ex:∃A c,Bk w b 283 #[.slice A bs.length c,.bool false]/\Txt w base b A bs.length c bs/\Txt w base x A bs.length c bs
 lt:b<base
 le:base<=w.heap.size
 ne:x≠b
 xl:x<w.heap.size
theorem Wrx.wrt{w:SX}{b base x:Nat}{bs:Td}(h:Wrx w b base x bs):Wrt w b base bs:=by
 obtain⟨A,c,h1,h2,_⟩:=h.ex;exact⟨⟨A,c,h1,h2⟩,h.lt,h.le⟩
theorem Wrx.below{w w':SX}{b base x:Nat}{bs:Td}(h:Wrx w b base x bs)(hb:Tf w w'):Wrx w' b base x bs:=by
 obtain⟨A,c,h1,h2,h3⟩:=h.ex;exact⟨⟨A,c,h1.below hb h1.lt,h2.below hb,h3.below hb⟩,h.lt,ZY h.le hb.size,h.ne,Nat.lt_of_lt_of_le h.xl hb.size⟩
theorem Wrt.wrx{w w':SX}{b base:Nat}{bs:Td}(h:Wrt w b base bs)(hb:Tf w w')(hx:w.heap.size<w'.heap.size):Wrx w' b base w.heap.size bs:=by
 obtain⟨A,c,h1,h2⟩:=h.ex;exact⟨⟨A,c,h1.below hb h1.lt,h2.below hb,(h2.avoid aj).below hb⟩,h.lt,ZY h.le hb.size,by have:=h.lt;have:=h.le;omega,hx⟩
def yM(b base x:Nat)(bs:Td)(w:SX)(e:Ending)(w':SX):Prop:=e= .returned (.tuple #[])/\Wrx w' b base x bs/\Below b w w'/\w.heap.size<=w'.heap.size/\w'.heap[x]? =w.heap[x]?
theorem OZ(b base x:Nat)(k:Nat)(bs:Td)(w:SX)(h:Wrx w b base x bs)(hk:k<=1099511627776)(hn:bs.length<=1000000) :
  Calls Tryz.prog 205 #[.pointer (some ⟨b,0,none⟩),.int .i64 k] w (yM b base x (bs++ak k) w):=by
 have HP:=ai (oH k hk w);have H:=ai h;have hle:=fP 5 k (by omega);obtain⟨i0,hi,hz0,hz1,hz2⟩:=info_parts nC;have Hi:=ai hi;have q:=ai hz0;have r:=ai hz1;have s:=ai hz2;clear h hi hz0 hz1 hz2
 go_enter Tryz.func205,Tryz.ntmps205
 go_wp2_with (go_at_call 107;refine HP.o.mono ?_;rintro e w1 ⟨rfl,hb1⟩;refine aP ?_)
 refine aI ?_;have H1:=H.o.below hb1;obtain⟨A,c,hk1,ht1,hx1⟩:=H1.ex;have hlt:=H1.lt;have hbase:=H1.le;have f:=ai H1.ne;have j:=ai H1.xl;have HB1:Hid (Below b w w1):=hb1.mono (by have:=H.o.lt;have:=H.o.le;omega);have l:Hid (w1.heap[x]? =w.heap[x]?):=hb1.block x H.o.xl;have hz1:=hb1.size;have a:=ai hk1;have HT1:=ai ht1;have t:=ai hx1;have c0:=a.o.cell 0;have c1:=a.o.cell 1;have f1:=a.o.free 1;simp at c0 c1;clear hb1 H1 hk1 ht1 hx1;obtain⟨W2,hW2⟩:=NX9 (w1.setCell ⟨b,1,none⟩ (.bool false))
 have g:Hid (Bk W2 b 283 #[.slice A bs.length c,.bool false]):=by
  rw[<-hW2];have:=a.o.set 1 (.bool false);show Bk _ _ _ _;simpa using this
 have HT2:Hid (Txt W2 base b A bs.length c bs):=by rw[<-hW2];exact HT1.o.far rfl _
 have u:Hid (Txt W2 base x A bs.length c bs):=HT2.o.join t.o;have HB2:Hid (Below b w W2):=by rw[<-hW2];exact HB1.o.setCell (p:=⟨b,1,none⟩) aj _
 have m:Hid (W2.heap[x]? =w.heap[x]?):=by
  show _=_;rw[<-hW2];exact(Z8 w1 ⟨b,1,none⟩ _ x f.o).trans l.o
 have y:W2.heap.size=w1.heap.size:=by rw[<-hW2];simp
 have d0:=g.o.cell 0;have g0:=g.o.free 0;simp at d0
 go_wp2_with (at_builtin;refine sF (.tmp 26) (.tmp 27) 213 9 rfl ?_)
 refine aI ?_;refine zC (base:=base) (b:=b) (x:=x) rfl (.tmp 26) (.tmp 27) 213 9 rfl 5 i0 Tryz.underlying213 Hi.o q.o r.o s.o (A:=A) (n:=bs.length) (c:=c) (bs:=bs) rfl HT2.o u.o (.string (ofL (ak k))) (ak k).length (ak k) rfl (tY (ofL (ak k)) _) (by omega) (by omega) (by omega) (by have:=j.o;omega) ?_;intro A' c' w3 ht3 hx3 hb3 hk3 d;have i:Hid (Bk w3 b 283 #[.slice A bs.length c,.bool false]):=hk3.trans g.o;have HT3:=ai ht3;have v:=ai hx3;have o:Hid (w3.heap[x]? =w.heap[x]?):=d.trans m.o;have HB3:Hid (Below b w w3):=HB2.o.trans (hb3.mono (by omega));have hz3:=hb3.size;have e0:=i.o.cell 0;have e1:=i.o.free 0;simp at e0;clear ht3 hx3 hb3 hk3 d d0 g0 c0 c1 f1;go_wp2_with fail
 go_end0
 have hl: (bs++ak k).length=bs.length+ (ak k).length:=by simp
 refine⟨rfl,⟨⟨A',c',?_,?_,?_⟩,hlt,by simp;omega,f.o,by have:=j.o;simp;omega⟩,HB3.o.setCell (p:=⟨b,0,none⟩) aj _,by simp;omega,(Z8 w3 ⟨b,0,none⟩ _ x f.o).trans o.o⟩
 . rw[hl];have:=i.o.set 0 (.slice A' (bs.length+ (ak k).length) c');show Bk _ _ _ _;simpa using this
 . rw[hl];exact HT3.o.far rfl _
 . rw[hl];exact(HT3.o.far (p:=⟨b,0,none⟩) rfl _).join v.o
theorem O0(b base x:Nat)(s:SY)(bs:Td)(w:SX)(h:Wrx w b base x bs)(hk:s.size<=65536)(hn:bs.length<=1000000) :
  Calls Tryz.prog 206 #[.pointer (some ⟨b,0,none⟩),.string s] w (yM b base x (bs++ax (toL s)) w):=by
 have HP:=ai (vG s hk w);have H:=ai h;have hle: (ax (toL s)).length<=70000:=by
  have h1:=fP 5 s.size (by omega);have h2:=aT s;unfold ax;rw[af,<-h2];omega
 obtain⟨i0,hi,hz0,hz1,hz2⟩:=info_parts nC;have Hi:=ai hi;have o:=ai hz0;have q:=ai hz1;have r:=ai hz2;clear h hi hz0 hz1 hz2
 go_enter Tryz.func206,Tryz.ntmps206
 go_wp2_with (go_at_call 178;refine HP.o.mono ?_;rintro e w1 ⟨rfl,hb1⟩;refine aP ?_)
 refine aI ?_;have H1:=H.o.below hb1;obtain⟨A,c,hk1,ht1,hx1⟩:=H1.ex;have hlt:=H1.lt;have hbase:=H1.le;have f:=ai H1.ne;have j:=ai H1.xl;have HB1:Hid (Below b w w1):=hb1.mono (by have:=H.o.lt;have:=H.o.le;omega);have k:Hid (w1.heap[x]? =w.heap[x]?):=hb1.block x H.o.xl;have hz1:=hb1.size;have a:=ai hk1;have HT1:=ai ht1;have t:=ai hx1;have c0:=a.o.cell 0;have c1:=a.o.cell 1;have f1:=a.o.free 1;simp at c0 c1;clear hb1 H1 hk1 ht1 hx1;obtain⟨W2,hW2⟩:=NX9 (w1.setCell ⟨b,1,none⟩ (.bool false))
 have g:Hid (Bk W2 b 283 #[.slice A bs.length c,.bool false]):=by
  rw[<-hW2];have:=a.o.set 1 (.bool false);show Bk _ _ _ _;simpa using this
 have HT2:Hid (Txt W2 base b A bs.length c bs):=by rw[<-hW2];exact HT1.o.far rfl _
 have u:Hid (Txt W2 base x A bs.length c bs):=HT2.o.join t.o;have HB2:Hid (Below b w W2):=by rw[<-hW2];exact HB1.o.setCell (p:=⟨b,1,none⟩) aj _
 have l:Hid (W2.heap[x]? =w.heap[x]?):=by
  show _=_;rw[<-hW2];exact(Z8 w1 ⟨b,1,none⟩ _ x f.o).trans k.o
 have y:W2.heap.size=w1.heap.size:=by rw[<-hW2];simp
 have d0:=g.o.cell 0;have g0:=g.o.free 0;simp at d0
 go_wp2_with (at_builtin;refine sF (.tmp 25) (.tmp 26) 213 9 rfl ?_)
 refine aI ?_;refine zC (base:=base) (b:=b) (x:=x) rfl (.tmp 25) (.tmp 26) 213 9 rfl 5 i0 Tryz.underlying213 Hi.o o.o q.o r.o (A:=A) (n:=bs.length) (c:=c) (bs:=bs) rfl HT2.o u.o (.string (ofL (ax (toL s)))) (ax (toL s)).length (ax (toL s)) rfl (tY (ofL (ax (toL s))) _) (by omega) (by omega) (by omega) (by have:=j.o;omega) ?_;intro A' c' w3 ht3 hx3 hb3 hk3 d;have i:Hid (Bk w3 b 283 #[.slice A bs.length c,.bool false]):=hk3.trans g.o;have HT3:=ai ht3;have v:=ai hx3;have m:Hid (w3.heap[x]? =w.heap[x]?):=d.trans l.o;have HB3:Hid (Below b w w3):=HB2.o.trans (hb3.mono (by omega));have hz3:=hb3.size;have e0:=i.o.cell 0;have e1:=i.o.free 0;simp at e0;clear ht3 hx3 hb3 hk3 d d0 g0 c0 c1 f1;go_wp2_with fail
 go_end0
 have hl: (bs++ax (toL s)).length=bs.length+ (ax (toL s)).length:=by simp
 refine⟨rfl,⟨⟨A',c',?_,?_,?_⟩,hlt,by simp;omega,f.o,by have:=j.o;simp;omega⟩,HB3.o.setCell (p:=⟨b,0,none⟩) aj _,by simp;omega,(Z8 w3 ⟨b,0,none⟩ _ x f.o).trans m.o⟩
 . rw[hl];have:=i.o.set 0 (.slice A' (bs.length+ (ax (toL s)).length) c');show Bk _ _ _ _;simpa using this
 . rw[hl];exact HT3.o.far rfl _
 . rw[hl];exact(HT3.o.far (p:=⟨b,0,none⟩) rfl _).join v.o
def WxP(b base xb:Nat)(bs:Td)(w:SX)(v:Tc)(w1:SX):Prop:=∃A c,v= .slice A bs.length c/\Txt w1 base b A bs.length c bs/\Txt w1 base xb A bs.length c bs/\Below base w w1/\w1.heap[b]? =w.heap[b]? /\w1.heap[xb]? =w.heap[xb]?
theorem O4(b base xb:Nat)(d:Dig)(hd:WfD d)(bs:Td)(w:SX)(h:Wrx w b base xb bs)(hn:bs.length<=1000000) :
  Calls Tryz.prog 207 #[.pointer (some ⟨b,0,none⟩),aG d] w (yM b base xb (bs++ay d) w):=by
 obtain⟨x,y⟩:=d;obtain⟨hx0,hx1,hy0,hy1⟩:=hd;simp only at hx0 hx1 hy0 hy1;obtain⟨x,rfl⟩:=Int.eq_ofNat_of_zero_le hx0;obtain⟨y,rfl⟩:=Int.eq_ofNat_of_zero_le hy0;have F:=ai hx1;have G:=ai hy1;clear hx0 hx1 hy0 hy1;show Calls Tryz.prog 207 #[.pointer (some ⟨b,0,none⟩),.agg #[.int .u64 x,.int .u64 y]] w _;obtain⟨i0,hi,hz0,hz1,hz2⟩:=info_parts nC;have Hi:=ai hi;have l:=ai hz0;have m:=ai hz1;have n:=ai hz2;have hlt:=h.lt;have hle:=h.le;have hxl:=h.xl;have r:=ai h.ne;obtain⟨W0,hW0⟩:=NX9 (w.alloc (.cells #[.int .u64 x,.int .u64 y] 50))
 have HB0:Ti w W0:=by rw[<-hW0];exact(ah _ _).alloc aj _
 have H:Hid (Bk W0 w.heap.size 50 #[.int .u64 x,.int .u64 y]):=by rw[<-hW0];exact Bk.new w _ _
 obtain⟨x0,x1,_,_⟩:=H.o.two;have HR0:Hid (Wrx W0 b base xb (bs++ (ay (x,y)).take (8*0))):=by
  show Wrx _ _ _ _ _;rw[Nat.mul_zero,List.take_zero,List.append_nil];exact h.below HB0.o
 have HB1:Hid (Below b w W0):=HB0.o.mono (by omega);have hz0':w.heap.size<=W0.heap.size:=HB0.o.size;have HX0:Hid (W0.heap[xb]? =w.heap[xb]?):=HB0.o.block xb hxl;clear hi hz0 hz1 hz2 h
 go_enter Tryz.func207,Tryz.ntmps207
 go_wp2_with fail;clear hW0
 go_loopw[8] (fun i wr=>∃k:Nat,k<=2/\i= .int .i64 k/\Hid (Wrx wr b base xb (bs++ (ay (x,y)).take (8*k)))/\Hid (Below b w wr)/\w.heap.size<=wr.heap.size/\Hid (wr.heap[xb]? =w.heap[xb]?)) (fun i _=>2 - (intOf i).toNat)
 case atStart=>exact⟨0,by omega,rfl,HR0.o,HB1.o,hz0',HX0.o⟩
 case round =>
  obtain⟨k,hk,rfl,hT,hB,hwz,hX⟩:=hrel;by_cases hlt2:k<2
  . have hlz: (k:Int)<2:=by omega
    obtain⟨z,hz,hix,hby⟩:∃z:Nat,Hid (z<18446744073709551616)/\ (∀w,(Instr.index 50 (.agg #[.int .u64 (x:Int),.int .u64 (y:Int)]) (.int .i64 (k:Int))).run Tryz.prog w= .ok (.int .u64 (z:Int)) w)/\ (∀j,j<8-> (ay ((x:Int),(y:Int)))[8*k+j]? =some (UInt8.ofNat (z / 256 ^ (7 - j) % 256))):=by
     rcases Nat.lt_or_ge k 1 with h1 | h1
     . obtain rfl:k=0:=by omega
       refine⟨x,by show _<_;have:=F.o;omega,fun w=>by kernel_rfl,fun j hj=>?_⟩;unfold ay;rw[List.getElem?_append_left (by rw[iF];omega),Int.toNat_natCast,show 8*0+j=j by omega];exact lK 8 x j hj
     . obtain rfl:k=1:=by omega
       refine⟨y,by show _<_;have:=G.o;omega,fun w=>by kernel_rfl,fun j hj=>?_⟩;unfold ay;rw[List.getElem?_append_right (by rw[iF];omega),Int.toNat_natCast,iF,show 8*1+j - 8=j by omega];exact lK 8 y j hj
    have I:=ai hby;clear hby;go_wp2_with fail;obtain⟨T,rfl⟩:∃T:SX,T=wr:=⟨_,rfl⟩
    go_loopw[6] (fun i wr=>∃j:Nat,j<=8/\i= .int .i64 (56 - 8* (j:Int))/\Hid (Wrx wr b base xb (bs++ (ay (x,y)).take (8*k+j)))/\Hid (Below b w wr)/\w.heap.size<=wr.heap.size/\Hid (wr.heap[xb]? =w.heap[xb]?)) (fun i _=>(intOf i+8).toNat)
    case atStart=>exact⟨0,by omega,rfl,hT,hB,hwz,hX⟩
    case round =>
     obtain⟨j,hj,rfl,hT,hB,hwz,hX⟩:=hrel;by_cases hlt:j<8
     . have hji: (0:Int)<=56 - 8* (j:Int):=by omega
       obtain⟨p,hp⟩:=NX9 (z / 256 ^ (7 - j))
       have hsh:∀yk,Op.shift .shr .u64 (z:Int) yk (56 - 8* (j:Int))=pure (.int .u64 (p:Int)):=fun yk=>by
        rw[shift_shr .u64 yk _ _ hji (by show _<= (64:Int);omega),<-hp];rw[show(56 - 8* (j:Int)).toNat=8* (7 - j) by omega];have e: ((z:Int) / 2 ^ (8* (7 - j)))= ((z / 256 ^ (7 - j):Nat):Int):=by
         rw[show(256:Nat)=2 ^ 8 from rfl,<-Nat.pow_mul];simp
        rw[e]
       have hdv: (z:Int) / 2 ^ (56 - 8* (j:Int)).toNat= (p:Int):=by
        rw[show(56 - 8* (j:Int)).toNat=8* (7 - j) by omega];have e: ((z:Int) / 2 ^ (8* (7 - j)))= ((z / 256 ^ (7 - j):Nat):Int):=by
         rw[show(256:Nat)=2 ^ 8 from rfl,<-Nat.pow_mul];simp
        rw[e,hp]
       obtain⟨bt,hbt⟩:=NX9 (UInt8.ofNat (p % 256))
       have hw:IntKind.u8.wrap (p:Int)= (bt.toNat:Int):=by
        rw[IntKind.wrap_u8,<-hbt,kD (by omega)];omega
       have J:Hid ((ay ((x:Int),(y:Int)))[8*k+j]? =some bt):=by
        show _=_;rw[I.o j hlt,hp,hbt]
       have s:Hid (bs++ (ay ((x:Int),(y:Int))).take (8*k+j+1)= (bs++ (ay ((x:Int),(y:Int))).take (8*k+j))++ [bt]):=by
        show _=_;rw[aW J.o,ZZ]
       have hml: (bs++ (ay ((x:Int),(y:Int))).take (8*k+j)).length<=1000016:=by rw[af,List.length_take];omega
       obtain⟨cs,hcs⟩:=NX9 (bs++ (ay ((x:Int),(y:Int))).take (8*k+j))
       rw[hcs]at hml s;have hT':=hT.o;rw[hcs]at hT';obtain⟨A,c,hkw,htx,hxx⟩:=hT'.ex;have t:=ai hkw;have K:=ai htx;have L:=ai hxx;have hxr:=hT'.xl;have hbase:=hT'.le;obtain⟨y0,y1,f0,_⟩:=hkw.two;clear hp hbt hcs hkw htx hxx hT' hT x0 x1;generalize hq:56 - 8* (j:Int)=q at *;have HQ:=ai hq;have hq0:0<=q:=by omega
       have hq2:q<=56:=by omega
       have hbr:=t.o.lt;clear hq;go_wp2_with fail;refine zG 11 10 (15::16::17::18::19::20::21::22::23::24::25:: []) (by kernel_rfl) (by kernel_rfl) (by kernel_rfl) (fun b W=>match b with | false=>Tf wr W | true=>True) (fun b W W'=>match b with | false=>Tf W W' | true=>W'=W)
        (fun i v W=>if i=10 then(WxP b base xb (cs++ [bt]) wr) v W else jl 9 ((.pointer (some ⟨b,0,none⟩)):: (.pointer (some ⟨b,0,none⟩)):: (.pointer (some ⟨b,0,none⟩)):: (.pointer (some ⟨b,0,none⟩)):: (.slice A cs.length c):: (.int .u64 (z:Int)):: (.int .i64 q):: (.int .u64 (p:Int)):: (.int .u8 (bt.toNat:Int)):: (undef):: (undef):: []) wr.heap.size 5 #[.int .u8 (bt.toNat:Int)] i v W) ?hRD ?hPD (ah _ _).drew ?stepD ?turnD (by decide) ?tailD
       case hRD =>
        intro bq W W' h1 h2;cases bq with
        | false=>exact Below.trans h1 (Below.mono h2 (Below.size h1))
        | true=>trivial
       case hPD =>
        intro bq i v W W' hb h1 h2;cases bq with
        | true=>have h3:W'=W:=h2;rw[h3];exact h1
        | false =>
          by_cases e:i=10
          . cases hb e
          . simp only[if_neg e]at h1 ⊢;exact Bq i v W W' h1 h2
       case stepD =>
        intro bq i o vs W hi hne hbd ho hv hR a;obtain⟨v0,v1,v2,v3,v4,v5,v6,v7,v8,v9,v10,rfl⟩:=nS hv;simp only[List.zip,List.zipWith,aV,Act.put,List.setIfInBounds_toArray,List.set];have hE: (fun(b:Bool)(W W':SX)=>match b with | false=>Tf W W' | true=>W'=W) bq W W:=by
         cases bq with
         | false=>exact ah _ _
         | true=>rfl
        match i,hi,ho with
        | 0,_,rfl =>
          exact .inl ⟨rfl,aA (v:= .pointer (some ⟨b,0,none⟩)) (w':=W) (by go_simp) ⟨hE,fun _=>az⟩⟩
        | 1,_,rfl =>
          exact .inl ⟨rfl,aA (v:= .pointer (some ⟨b,0,none⟩)) (w':=W) (by go_simp) ⟨hE,fun _=>az⟩⟩
        | 2,_,rfl =>
          have e1:v1=_:=a ⟨1,.data⟩ (by simp) rfl v1 rfl _ rfl;subst e1;exact .inl ⟨rfl,aA (v:= .pointer (some ⟨b,0,none⟩)) (w':=W) (by go_simp) ⟨hE,fun _=>az⟩⟩
        | 3,_,rfl =>
          have e2:v2=_:=a ⟨2,.data⟩ (by simp) rfl v2 rfl _ rfl;subst e2;exact .inl ⟨rfl,aA (v:= .pointer (some ⟨b,0,none⟩)) (w':=W) (by go_simp) ⟨hE,fun _=>az⟩⟩
        | 4,_,rfl =>
          have e3:v3=_:=a ⟨3,.data⟩ (by simp) rfl v3 rfl _ rfl;subst e3;have hb0:bq=false:=hbd _ rfl ⟨⟨4,.data⟩,by simp,rfl,rfl⟩;subst hb0;have y0':=(Below.cell hR (p:=⟨b,0,none⟩) (by show b<_;omega)).trans y0;exact .inl ⟨rfl,aA (v:= .slice A cs.length c) (w':=W) (by go_simp) ⟨hE,fun _=>az⟩⟩
        | 5,_,rfl =>
          exact .inl ⟨rfl,aA (v:= .int .u64 (z:Int)) (w':=W) (by go_simp) ⟨hE,fun _=>az⟩⟩
        | 6,_,rfl =>
          exact .inl ⟨rfl,aA (v:= .int .i64 q) (w':=W) (by go_simp) ⟨hE,fun _=>az⟩⟩
        | 7,_,rfl =>
          have e5:v5=_:=a ⟨5,.data⟩ (by simp) rfl v5 rfl _ rfl;have e6:v6=_:=a ⟨6,.data⟩ (by simp) rfl v6 rfl _ rfl;subst e5 e6;exact .inl ⟨rfl,aA (v:= .int .u64 (p:Int)) (w':=W) (by go_simp) ⟨hE,fun _=>az⟩⟩
        | 8,_,rfl =>
          have e7:v7=_:=a ⟨7,.data⟩ (by simp) rfl v7 rfl _ rfl;subst e7;exact .inl ⟨rfl,aA (v:= .int .u8 (bt.toNat:Int)) (w':=W) (by go_simp) ⟨hE,fun _=>az⟩⟩
        | 9,_,rfl =>
          have e8:v8=_:=a ⟨8,.data⟩ (by simp) rfl v8 rfl _ rfl;subst e8;have hb0:bq=false:=hbd _ rfl ⟨⟨9,.data⟩,by simp,rfl,rfl⟩;subst hb0;have y0':=(Below.cell hR (p:=⟨b,0,none⟩) (by show b<_;omega)).trans y0;exact .inl ⟨rfl,aA (v:= .slice (some ⟨W.heap.size,0,none⟩) 1 1) (w':=W.alloc (.cells #[.int .u8 (bt.toNat:Int)] 5)) (by go_simp) ⟨(ah _ W).alloc aj _,W.heap.size,rfl,Below.size hR,Bk.new W _ _⟩⟩
        | 10,_,_=>exact absurd rfl hne
        | i+11,hi,_=>exact absurd hi (by omega)
       case turnD =>
        intro o vs W ho hv hR a;obtain⟨v0,v1,v2,v3,v4,v5,v6,v7,v8,v9,v10,rfl⟩:=nS hv;cases ho
        simp only[List.zip,List.zipWith,aV,Act.put,List.setIfInBounds_toArray,List.set];have e4:v4=_:=a ⟨4,.data⟩ (by simp) rfl v4 rfl _ rfl;obtain⟨ab,ea,hab,hak⟩:∃b0,v9= .slice (some ⟨b0,0,none⟩) 1 1/\wr.heap.size<=b0/\Bk W b0 5 #[.int .u8 (bt.toNat:Int)]:=a ⟨9,.data⟩ (by simp) rfl v9 rfl;subst e4 ea;have hR:Tf wr W:=hR;have hall:∀w1:SX,(∀b,wr.heap.size<=b->b<W.heap.size->w1.heap[b]? =W.heap[b]?)->∀(i:Nat)(u:Tc),i≠10-> (if i=10 then(WxP b base xb (cs++ [bt]) wr) u W else jl 9 ((.pointer (some ⟨b,0,none⟩)):: (.pointer (some ⟨b,0,none⟩)):: (.pointer (some ⟨b,0,none⟩)):: (.pointer (some ⟨b,0,none⟩)):: (.slice A cs.length c):: (.int .u64 (z:Int)):: (.int .i64 q):: (.int .u64 (p:Int)):: (.int .u8 (bt.toNat:Int)):: (undef):: (undef):: []) wr.heap.size 5 #[.int .u8 (bt.toNat:Int)] i u W)-> (if i=10 then(WxP b base xb (cs++ [bt]) wr) u w1 else jl 9 ((.pointer (some ⟨b,0,none⟩)):: (.pointer (some ⟨b,0,none⟩)):: (.pointer (some ⟨b,0,none⟩)):: (.pointer (some ⟨b,0,none⟩)):: (.slice A cs.length c):: (.int .u64 (z:Int)):: (.int .i64 q):: (.int .u64 (p:Int)):: (.int .u8 (bt.toNat:Int)):: (undef):: (undef):: []) wr.heap.size 5 #[.int .u8 (bt.toNat:Int)] i u w1):=fun w1 hk i u hi hu=>by
         simp only[if_neg hi]at hu ⊢;unfold jl at hu ⊢;by_cases e:i=9
         . rw[if_pos e]at hu ⊢
           obtain⟨b0,p1,p2,p3⟩:=hu;exact⟨b0,p1,p2,(hk b0 p2 p3.lt).trans p3⟩
         . rw[if_neg e]at hu ⊢;exact hu
        refine .inl ⟨rfl,?_⟩;obtain⟨A5,c5,w1,B,g,hb5,hk5,C⟩:=K.o.run_append_far (P:=Tryz.prog) hR 213 213 213 5 i0 Tryz.underlying213 Hi.o l.o m.o n.o (.slice (some ⟨ab,0,none⟩) 1 1) 1 [bt] (Src.ofSlice _ Tryz.underlying213 ⟨ab,0,none⟩ 1 1 (bc [bt]) rfl (fun j u hu=>by rw[Addr.add_lit,Nat.zero_add,hak.cell];simpa [bc] using hu) (fun u hu=>by simp[bc]at hu;subst hu;rfl)) (by omega) (by have:=hR.size;omega) (by have:=hR.size;omega);obtain⟨A6,c6,w6,M,hx5,_,f,_⟩:=L.o.run_append_far (P:=Tryz.prog) hR 213 213 213 5 i0 Tryz.underlying213 Hi.o l.o m.o n.o (.slice (some ⟨ab,0,none⟩) 1 1) 1 [bt] (Src.ofSlice _ Tryz.underlying213 ⟨ab,0,none⟩ 1 1 (bc [bt]) rfl (fun j u hu=>by rw[Addr.add_lit,Nat.zero_add,hak.cell];simpa [bc] using hu) (fun u hu=>by simp[bc]at hu;subst hu;rfl)) (by omega) (by have:=hR.size;omega) (by have:=hR.size;omega);have e6:=B.symm.trans M;simp only[Result.ok.injEq,Value.slice.injEq,true_and]at e6;obtain⟨⟨rfl,rfl⟩,rfl⟩:=e6;refine Ah (.tmp 19) (.tmp 24) 213 rfl rfl rfl B ⟨trivial,⟨A5,c5,by simp,by simpa using g,by simpa using hx5,((hR.mono (by omega)).trans hb5),hk5.trans (hR.block b hbr),f.trans (hR.block xb hxr)⟩,hall w1 C⟩
       case tailD =>
        intro vs W hv hR a;obtain⟨v0,v1,v2,v3,v4,v5,v6,v7,v8,v9,v10,rfl⟩:=nS hv;simp only[List.zip,List.zipWith,aV,Act.put,List.setIfInBounds_toArray,List.set,List.drop];have e0:v0=_:=a 0 v0 rfl _ rfl;have e1:v1=_:=a 1 v1 rfl _ rfl;have e2:v2=_:=a 2 v2 rfl _ rfl;have e3:v3=_:=a 3 v3 rfl _ rfl;have e4:v4=_:=a 4 v4 rfl _ rfl;have e5:v5=_:=a 5 v5 rfl _ rfl;have e6:v6=_:=a 6 v6 rfl _ rfl;have e7:v7=_:=a 7 v7 rfl _ rfl;have e8:v8=_:=a 8 v8 rfl _ rfl;obtain⟨ab,ea,hab,hak⟩:∃b0,v9= .slice (some ⟨b0,0,none⟩) 1 1/\wr.heap.size<=b0/\Bk W b0 5 #[.int .u8 (bt.toNat:Int)]:=a 9 v9 rfl;have em: (WxP b base xb (cs++ [bt]) wr) v10 W:=a 10 v10 rfl;subst e0 e1 e2 e3 e4 e5 e6 e7 e8 ea;clear a hv hR hak hab;obtain⟨A5,c5,ev,g,hx5,hb5,hk5,f⟩:=em;subst ev;have D:Hid (Bk W b 283 #[.slice A cs.length c,.bool false]):=hk5.trans t.o;have E:=ai g;have N:=ai hx5;have O:Hid (W.heap[xb]? =w.heap[xb]?):=f.trans hX.o;have U:=hb5.size;have Q:Hid (Below b w W):=hB.o.trans (hb5.mono (by omega));obtain⟨z0,z1,g0,_⟩:=D.o.two;have hcl: (cs++ [bt]).length=cs.length+1:=by simp
        clear g hx5 hb5 hk5 f y0 y1 f0;go_wp2_with fail;go_roundw
        case rel =>
         refine⟨j+1,by omega,by rw[<-HQ.o];congr 1;omega,?_,Q.o.setCell (p:=⟨b,0,none⟩) aj _,by simp[World.setCell];omega,(Z8 W ⟨b,0,none⟩ _ xb r.o).trans O.o⟩;show Wrx _ _ _ _ (bs++ (ay ((x:Int),(y:Int))).take (8*k+j+1));rw[s.o];refine⟨⟨A5,c5,?_,E.o.far rfl _,(E.o.far (p:=⟨b,0,none⟩) rfl _).join N.o⟩,by omega,by simp[World.setCell];omega,r.o,by simp[World.setCell];omega⟩;have:=D.o.set 0 (.slice A5 (cs++ [bt]).length c5)
         simpa using this
        case measure=>have:=HQ.o;simp[intOf];omega
     . have hji:¬(0:Int)<=56 - 8* (j:Int):=by omega
       have R:Hid (j=8):=by show _=_;omega
       generalize hq:56 - 8* (j:Int)=q at *;clear hq;go_wp2_with fail;go_roundw
       case rel=>exact⟨k+1,by omega,by go_num,by show Wrx _ _ _ _ _;have h1:=hT.o;rw[R.o]at h1;exact h1,hB.o,hwz,hX.o⟩
       case measure=>simp[intOf];omega
  . have hlz:¬(k:Int)<2:=by omega
    have S:Hid (k=2):=by show _=_;omega
    have hT2:=hT.o;rw[S.o,ZU (by rw[ig];omega)]at hT2;have HT2:=ai hT2;clear hT2;go_wp2_with fail
    go_end0
    exact⟨rfl,HT2.o,hB.o,hwz,hX.o⟩
theorem Il{α β:Type}(f:α->List β)(l:List α)(k:Nat): ((l.take k).flatMap f).length<= (l.flatMap f).length:=by
 conv=>rhs;rw[<-List.take_append_drop k l,List.flatMap_append,af]
 omega
theorem zO{α β:Type}{f:α->List β}{l:List α}{k:Nat}{x:α}(h:l[k]? =some x): (l.take (k+1)).flatMap f= (l.take k).flatMap f++f x:=by
 rw[aW h,List.flatMap_append];simp
def uz(o:Ob)(w:SX)(e:Ending)(w':SX):Prop:=e= .returned (.tuple #[.string (ofL (aJ o)),.int .i64 0])/\Tf w w'
theorem uZ(o:Ob)(s:Osl)(B:Nat)(w:SX)(hm:ObM w B o s)(hB:B<=w.heap.size)(ho:OkO o) :
  Calls Tryz.prog 125 #[obV o s] w (uz o w):=by
 obtain⟨W0,hW0⟩:=NX9 (w.alloc (.cells (obC o s) 109))
 have HB0:Ti w W0:=by rw[<-hW0];exact(ah _ w).alloc aj _
 have m:Hid (Bk W0 w.heap.size 109 (obC o s)):=by rw[<-hW0];exact Bk.new w _ _
 have fU:W0.heap.size=w.heap.size+1:=by rw[<-hW0];simp
 have HM:=ai hm;have HC:=ai (IQ o s B W0 (hm.below (HB0.o.mono hB) aj) (by omega) ho.f);have HLEN:=ai ho.len;have hel:=hm.elen;have hpl:=hm.plen;have HE:=ai hm.e;have HP:=ai hm.p;cases ho.f with
 | blob k e c d =>
   have a:Hid (aJ o=ak o.kind.toNat++ax (toL o.data)):=by show _=_;unfold aJ gX;rw[if_neg (by omega),if_neg (by omega)]
   obtain⟨kind,data,ents,⟨t1,t2⟩,pars,auth,time,msg⟩:=o;obtain⟨eA,en,ec,pA,pn,pc⟩:=s;simp only at k d a;simp only[obV,obC]at hW0 m HC ⊢;obtain⟨c0,c1,c2,c3,c4,c5,c6,c7,c8⟩:=m.o.nine;clear hm e c HE HP hel hpl;rcases k with rfl | rfl
   . have a:Hid (aJ _=ak 1++ax (toL data)):=a.o
     go_enter Tryz.func125,Tryz.ntmps125
     go_wp2_with fail;refine HC.o.mono ?_;rintro e w1 ⟨rfl,hb1⟩;have hz1:=hb1.size;have HB1:Hid (Below w.heap.size W0 w1):=hb1.mono (by omega);have b:=ai (m.o.below hb1 (by omega));have hk1:w.heap.size<w1.heap.size:=by omega
     clear hb1 hW0 c0 c1 c2 c3 c4 c5 c6 c7 c8 HC;obtain⟨w2,hw2⟩:=NX9 (w1.alloc (.cells #[.slice none 0 0,.bool false] 283))
     have hz2:w1.heap.size+1<=w2.heap.size:=by rw[<-hw2];simp
     have HB2:Ti w1 w2:=by rw[<-hw2];exact(ah _ w1).alloc aj _
     have HW2:Hid (Wrt w2 w1.heap.size (w1.heap.size+1) []):=⟨⟨none,0,by rw[<-hw2];exact Bk.new w1 _ _,Txt.nil _ _ _ _⟩,by omega,by omega⟩
     obtain⟨c0,c1,c2,c3,c4,c5,c6,c7,c8⟩:=(b.o.below HB2.o hk1).nine;have hlk: (ak 1).length=1:=by rw[eG (by omega)];rfl
     have l:=ai (kF w1.heap.size (w1.heap.size+1) 1 [] w2 HW2.o (by omega) (by simp))
     go_wp2_with (first | (go_at_call 205;refine l.o.mono ?_;rintro e w3 ⟨rfl,hw,hb,hz⟩;refine aP ?_))
     refine aI ?_;have HW3:Hid (Wrt w3 w1.heap.size (w1.heap.size+1) ([]++ak 1)):=hw;have HB3:Ti w1 w3:=HB2.o.trans hb;have hz3:w1.heap.size+1<=w3.heap.size:=by omega
     clear hw hb hz l c0 c1 c2 c3 c4 c5 c6 c7 c8;obtain⟨c0,c1,c2,c3,c4,c5,c6,c7,c8⟩:=(b.o.below HB3.o hk1).nine;have HW3:Hid (Wrt w3 w1.heap.size (w1.heap.size+1) (ak 1)):=HW3.o;clear hw2;have j:=ai (og w1.heap.size (w1.heap.size+1) data (ak 1) w3 HW3.o d (by omega))
     go_wp2_with (first | (go_at_call 206;refine j.o.mono ?_;rintro e w4 ⟨rfl,hw,hb,hz⟩;refine aP ?_))
     refine aI ?_;have t:Hid (Wrt w4 w1.heap.size (w1.heap.size+1) (ak 1++ax (toL data))):=hw;have HB4:Ti w1 w4:=HB3.o.trans hb;have I:w1.heap.size+1<=w4.heap.size:=by omega
     clear hw hb hz j c0 c1 c2 c3 c4 c5 c6 c7 c8;obtain⟨c0,c1,c2,c3,c4,c5,c6,c7,c8⟩:=(b.o.below HB4.o hk1).nine;have hend:=t.o;obtain⟨A,cc,hk4,g⟩:=hend.ex;obtain⟨bs,hbs⟩:=NX9 (ak 1++ax (toL data))
     rw[hbs]at hk4 g;have u:Hid (ak 1++ax (toL data)=bs):=hbs;have hlz:¬(65536:Int)< (bs.length:Int):=by
      have h1:=HLEN.o;have h2:=congrArg List.length (a.o.trans (show _=ak 1++ax (toL data) by first | rfl | simp only[ZZ]));rw[hbs]at h2;omega
     obtain⟨d0,d1,_,_⟩:=hk4.two;have hcv:=g.run_string (P:=Tryz.prog) 213 9 5 Tryz.underlying213 Tryz.underlying5 Tryz.underlying9;have v:=ai (a.o.trans (show _=ak 1++ax (toL data) by first | rfl | simp only[ZZ]));clear hk4 g hbs hend c0 c1 c2 c3 c4 c5 c6 c7 c8;go_wp2_with fail;go_ret2
     exact⟨by rw[v.o,u.o];rfl,HB0.o.trans (HB1.o.trans (HB4.o.mono (by omega)) |>.mono (by omega))⟩
   . have a:Hid (aJ _=ak 4++ax (toL data)):=a.o
     go_enter Tryz.func125,Tryz.ntmps125
     go_wp2_with fail;refine HC.o.mono ?_;rintro e w1 ⟨rfl,hb1⟩;have hz1:=hb1.size;have HB1:Hid (Below w.heap.size W0 w1):=hb1.mono (by omega);have b:=ai (m.o.below hb1 (by omega));have hk1:w.heap.size<w1.heap.size:=by omega
     clear hb1 hW0 c0 c1 c2 c3 c4 c5 c6 c7 c8 HC;obtain⟨w2,hw2⟩:=NX9 (w1.alloc (.cells #[.slice none 0 0,.bool false] 283))
     have hz2:w1.heap.size+1<=w2.heap.size:=by rw[<-hw2];simp
     have HB2:Ti w1 w2:=by rw[<-hw2];exact(ah _ w1).alloc aj _
     have HW2:Hid (Wrt w2 w1.heap.size (w1.heap.size+1) []):=⟨⟨none,0,by rw[<-hw2];exact Bk.new w1 _ _,Txt.nil _ _ _ _⟩,by omega,by omega⟩
     obtain⟨c0,c1,c2,c3,c4,c5,c6,c7,c8⟩:=(b.o.below HB2.o hk1).nine;have hlk: (ak 4).length=1:=by rw[eG (by omega)];rfl
     have l:=ai (kF w1.heap.size (w1.heap.size+1) 4 [] w2 HW2.o (by omega) (by simp))
     go_wp2_with (first | (go_at_call 205;refine l.o.mono ?_;rintro e w3 ⟨rfl,hw,hb,hz⟩;refine aP ?_))
     refine aI ?_;have HW3:Hid (Wrt w3 w1.heap.size (w1.heap.size+1) ([]++ak 4)):=hw;have HB3:Ti w1 w3:=HB2.o.trans hb;have hz3:w1.heap.size+1<=w3.heap.size:=by omega
     clear hw hb hz l c0 c1 c2 c3 c4 c5 c6 c7 c8;obtain⟨c0,c1,c2,c3,c4,c5,c6,c7,c8⟩:=(b.o.below HB3.o hk1).nine;have HW3:Hid (Wrt w3 w1.heap.size (w1.heap.size+1) (ak 4)):=HW3.o;clear hw2;have j:=ai (og w1.heap.size (w1.heap.size+1) data (ak 4) w3 HW3.o d (by omega))
     go_wp2_with (first | (go_at_call 206;refine j.o.mono ?_;rintro e w4 ⟨rfl,hw,hb,hz⟩;refine aP ?_))
     refine aI ?_;have t:Hid (Wrt w4 w1.heap.size (w1.heap.size+1) (ak 4++ax (toL data))):=hw;have HB4:Ti w1 w4:=HB3.o.trans hb;have I:w1.heap.size+1<=w4.heap.size:=by omega
     clear hw hb hz j c0 c1 c2 c3 c4 c5 c6 c7 c8;obtain⟨c0,c1,c2,c3,c4,c5,c6,c7,c8⟩:=(b.o.below HB4.o hk1).nine;have hend:=t.o;obtain⟨A,cc,hk4,g⟩:=hend.ex;obtain⟨bs,hbs⟩:=NX9 (ak 4++ax (toL data))
     rw[hbs]at hk4 g;have u:Hid (ak 4++ax (toL data)=bs):=hbs;have hlz:¬(65536:Int)< (bs.length:Int):=by
      have h1:=HLEN.o;have h2:=congrArg List.length (a.o.trans (show _=ak 4++ax (toL data) by first | rfl | simp only[ZZ]));rw[hbs]at h2;omega
     obtain⟨d0,d1,_,_⟩:=hk4.two;have hcv:=g.run_string (P:=Tryz.prog) 213 9 5 Tryz.underlying213 Tryz.underlying5 Tryz.underlying9;have v:=ai (a.o.trans (show _=ak 4++ax (toL data) by first | rfl | simp only[ZZ]));clear hk4 g hbs hend c0 c1 c2 c3 c4 c5 c6 c7 c8;go_wp2_with fail;go_ret2
     exact⟨by rw[v.o,u.o];rfl,HB0.o.trans (HB1.o.trans (HB4.o.mono (by omega)) |>.mono (by omega))⟩
 | tree k d c e =>
   have a:Hid (aJ o=ak 2++ (ak o.ents.length++o.ents.flatMap aU)):=by show _=_;unfold aJ gX;rw[if_pos k,k];rfl
   obtain⟨kind,data,ents,⟨t1,t2⟩,pars,auth,time,msg⟩:=o;obtain⟨eA,n,ec,pA,pn,pc⟩:=s;simp only at k d a hel HE;subst k d;simp only[obV,obC]at hW0 m HC ⊢;have hn:n<=200:=by rw[<-hel];exact e.few
   have bg:=ai e.all;have bn:=ai hel;rw[hel]at a;obtain⟨c0,c1,c2,c3,c4,c5,c6,c7,c8⟩:=m.o.nine;clear hm e c HP hpl hel
   go_enter Tryz.func125,Tryz.ntmps125
   go_wp2_with fail;refine HC.o.mono ?_;rintro e w1 ⟨rfl,hb1⟩;have hz1:=hb1.size;have HB1:Hid (Below w.heap.size W0 w1):=hb1.mono (by omega);have b:=ai (m.o.below hb1 (by omega));have hk1:w.heap.size<w1.heap.size:=by omega
   clear hb1 hW0 c0 c1 c2 c3 c4 c5 c6 c7 c8 HC;obtain⟨w2,hw2⟩:=NX9 (w1.alloc (.cells #[.slice none 0 0,.bool false] 283))
   have hz2:w1.heap.size+1<=w2.heap.size:=by rw[<-hw2];simp
   have HB2:Ti w1 w2:=by rw[<-hw2];exact(ah _ w1).alloc aj _
   have HW2:Hid (Wrt w2 w1.heap.size (w1.heap.size+1) []):=⟨⟨none,0,by rw[<-hw2];exact Bk.new w1 _ _,Txt.nil _ _ _ _⟩,by omega,by omega⟩
   obtain⟨c0,c1,c2,c3,c4,c5,c6,c7,c8⟩:=(b.o.below HB2.o hk1).nine;have hlk: (ak 2).length=1:=by rw[eG (by omega)];rfl
   have l:=ai (kF w1.heap.size (w1.heap.size+1) 2 [] w2 HW2.o (by omega) (by simp))
   go_wp2_with (first | (go_at_call 205;refine l.o.mono ?_;rintro e w3 ⟨rfl,hw,hb,hz⟩;refine aP ?_))
   refine aI ?_;have HW3:Hid (Wrt w3 w1.heap.size (w1.heap.size+1) ([]++ak 2)):=hw;have HB3:Ti w1 w3:=HB2.o.trans hb;have hz3:w1.heap.size+1<=w3.heap.size:=by omega
   clear hw hb hz l c0 c1 c2 c3 c4 c5 c6 c7 c8;obtain⟨c0,c1,c2,c3,c4,c5,c6,c7,c8⟩:=(b.o.below HB3.o hk1).nine;have HW3:Hid (Wrt w3 w1.heap.size (w1.heap.size+1) (ak 2)):=HW3.o;clear hw2;have j:=ai (kF w1.heap.size (w1.heap.size+1) n (ak 2) w3 HW3.o (by omega) (by omega))
   go_wp2_with (first | (go_at_call 205;refine j.o.mono ?_;rintro e w4 ⟨rfl,hw,hb,hz⟩;refine aP ?_))
   refine aI ?_;have t:Hid (Wrt w4 w1.heap.size (w1.heap.size+1) (ak 2++ak n)):=hw;have HB4:Ti w1 w4:=HB3.o.trans hb;have I:w1.heap.size+1<=w4.heap.size:=by omega
   clear hw hb hz j c0 c1 c2 c3 c4 c5 c6 c7 c8;obtain⟨c0,c1,c2,c3,c4,c5,c6,c7,c8⟩:=(b.o.below HB4.o hk1).nine;have z:Hid (∀k,(ak 2++ak n++ (ents.take k).flatMap aU).length<=65536):=fun k=>by
    have h:=HLEN.o;rw[a.o]at h;have:=Il aU ents k;simp only[af]at h ⊢;omega
   have t:Hid (Wrt w4 w1.heap.size (w1.heap.size+1) (ak 2++ak n++ (ents.take 0).flatMap aU)):=by show Wrt _ _ _ _;rw[List.take_zero,List.flatMap_nil,List.append_nil];exact t.o
   go_wp2_with fail
   go_loopw[39] (fun i wr=>∃k:Nat,i= .int .i64 (k:Int)/\k<=n/\Hid (Wrt wr w1.heap.size (w1.heap.size+1) (ak 2++ak n++ (ents.take k).flatMap aU))/\Ti w1 wr/\w1.heap.size+1<=wr.heap.size) (fun i _=>n - (intOf i).toNat)
   case atStart=>exact⟨0,rfl,ZX _,t.o,HB4.o,I⟩
   case round =>
    obtain⟨k,rfl,hk,hT,hB',V⟩:=hrel;have bz:=hB';have O:Ti w wr:=HB0.o.trans ((HB1.o.trans (hB'.o.mono (by omega))));clear c0 c1 c2 c3 c4 c5 c6 c7 c8;obtain⟨c0,c1,c2,c3,c4,c5,c6,c7,c8⟩:=(b.o.below hB'.o hk1).nine;by_cases hlt:k<n
    . have hlz: (k:Int)< (n:Int):=by omega
      obtain⟨bb,off,en,rfl,hbB,hen,y0,y1,y2,y3⟩:=(HE.o.below O.o hB).en hlt;have gu:=ai hen;have hoe:=bg.o en (Z7 hen);have hns:=iW hoe.nm;have J:=ai hoe.dg;have hp1:=z.o k;have HEX:Hid ((ents.take (k+1)).flatMap aU= (ents.take k).flatMap aU++aU en):=zO hen;obtain⟨wb,hwb⟩:=NX9 (wr.alloc (.cells #[.string en.nm,.bool en.dir,.int .u64 en.dg.1,.int .u64 en.dg.2] 185))
      have hbb:Tf wr wb:=by rw[<-hwb];exact(ah _ wr).alloc aj _
      have iU:wb.heap.size=wr.heap.size+1:=by rw[<-hwb];simp
      have C:Hid (Bk wb wr.heap.size 185 #[.string en.nm,.bool en.dir,.int .u64 en.dg.1,.int .u64 en.dg.2]):=by rw[<-hwb];exact Bk.new wr _ _
      have Q:=ai (hT.o.wrx hbb (by omega));have R:Ti w1 wb:=bz.o.trans (hbb.mono (by omega));obtain⟨x0,x1,x2,x3⟩:=C.o.four;obtain⟨nm,dir,d1,d2⟩:=en;simp only at y0 y1 y2 y3 x0 x1 x2 x3 hwb hns C HEX J;have hle: (ax (toL nm)).length<=70:=by
       have h1:=fP 5 nm.size (by omega);have h2:=aT nm;unfold ax;rw[af,<-h2];omega
      have D:=ai (O0 w1.heap.size (w1.heap.size+1) wr.heap.size nm (ak 2++ak n++ (ents.take k).flatMap aU) wb Q.o (by omega) (by omega));clear hbb hen hoe
      go_wp2_with (first | (go_at_call 206;refine D.o.mono ?_;rintro e w5 ⟨rfl,hw,hb,hz,hx⟩;refine aP ?_))
      refine aI ?_;have E:=ai hw;have K:Ti w1 w5:=R.o.trans hb;have X:Hid (Bk w5 wr.heap.size 185 #[.string nm,.bool dir,.int .u64 d1,.int .u64 d2]):=hx.trans C.o;have Y:wr.heap.size<w5.heap.size:=by omega
      clear hw hb hz hx D x0 x1 x2 x3 y0 y1 y2 y3 hwb c0 c1 c2 c3 c4 c5 c6 c7 c8;obtain⟨x0,x1,x2,x3⟩:=X.o.four;obtain⟨H,hdn⟩:∃H:Nat,(if dir=true then 1 else 0:Nat)=H:=⟨_,rfl⟩
      have fO:H<=1:=by rw[<-hdn];split <;> omega
      have cu:=ai hdn;have hl5: (ak 2++ak n++ (ents.take k).flatMap aU++ax (toL nm)).length<=70000:=by rw[af];omega
      have ku: (ak H).length=1:=by rw[eG (by omega)];rfl
      have x:=ai (OZ w1.heap.size (w1.heap.size+1) wr.heap.size H (ak 2++ak n++ (ents.take k).flatMap aU++ax (toL nm)) w5 E.o (by omega) (by omega))
      go_upto_if 47 with fail
      go_cut[8] from 47 to 47 (fun q wx=>q= .int .i64 (H:Int)/\wx=w5)
      case first =>
       cases dir with
       | true =>
         obtain rfl:1=H:=by simpa using hdn
         go_wp2_with fail
         go_meet
         exact⟨rfl,rfl⟩
       | false =>
         obtain rfl:0=H:=by simpa using hdn
         go_wp2_with fail
         go_meet
         exact⟨rfl,rfl⟩
      case rest =>
       obtain⟨rfl,rfl⟩:=hcut
       go_wp2_with (first | (go_at_call 205;refine x.o.mono ?_;rintro e w6 ⟨rfl,hw,hb,hz,hx⟩;refine aP ?_))
       refine aI ?_;have F:=ai hw;have G:Ti w1 w6:=K.o.trans hb;have cO:Hid (Bk w6 wr.heap.size 185 #[.string nm,.bool dir,.int .u64 d1,.int .u64 d2]):=hx.trans X.o;have S:wr.heap.size<w6.heap.size:=by omega
       clear hw hb hz hx x x0 x1 x2 x3;obtain⟨x0,x1,x2,x3⟩:=cO.o.four;have y:=ai (O4 w1.heap.size (w1.heap.size+1) wr.heap.size (d1,d2) J.o (ak 2++ak n++ (ents.take k).flatMap aU++ax (toL nm)++ak H) w6 F.o (by rw[af];omega));unfold aG at y
       go_wp2_with (first | (go_at_call 207;refine y.o.mono ?_;rintro e w7 ⟨rfl,hw,hb,hz,hx⟩;refine aP ?_))
       refine aI ?_;have L:Ti w1 w7:=G.o.trans hb;have Z:w1.heap.size+1<=w7.heap.size:=by omega
       have T:Hid (Wrt w7 w1.heap.size (w1.heap.size+1) (ak 2++ak n++ (ents.take (k+1)).flatMap aU)):=by
        have h:=hw.wrt;show Wrt _ _ _ _;have he:aU ⟨nm,dir,(d1,d2)⟩=ax (toL nm)++ (ak H++ay (d1,d2)):=by rw[<-cu.o];rfl
        rw[HEX.o,he]
        simpa only[ZZ] using h
       clear hw hb hz hx y x0 x1 x2 x3;go_wp2_with fail;go_roundw
       case rel=>exact⟨k+1,by go_num,hlt,T.o,L.o,Z⟩
       case measure=>simp[intOf];omega
    . have hlz:¬(k:Int)< (n:Int):=by omega
      have U:Hid (Wrt wr w1.heap.size (w1.heap.size+1) (ak 2++ak n++ents.flatMap aU)):=by
       have:=hT.o;rw[ZU (by rw[bn.o];omega)]at this;exact this
      have M:=hB';have hend:=U.o;obtain⟨A,cc,hk4,g⟩:=hend.ex;obtain⟨bs,hbs⟩:=NX9 (ak 2++ak n++ents.flatMap aU)
      rw[hbs]at hk4 g;have u:Hid (ak 2++ak n++ents.flatMap aU=bs):=hbs;have hlz:¬(65536:Int)< (bs.length:Int):=by
       have h1:=HLEN.o;have h2:=congrArg List.length (a.o.trans (show _=ak 2++ak n++ents.flatMap aU by first | rfl | simp only[ZZ]));rw[hbs]at h2;omega
      obtain⟨d0,d1,_,_⟩:=hk4.two;have hcv:=g.run_string (P:=Tryz.prog) 213 9 5 Tryz.underlying213 Tryz.underlying5 Tryz.underlying9;have v:=ai (a.o.trans (show _=ak 2++ak n++ents.flatMap aU by first | rfl | simp only[ZZ]));clear hk4 g hbs hend c0 c1 c2 c3 c4 c5 c6 c7 c8;go_wp2_with fail;go_ret2
      exact⟨by rw[v.o,u.o];rfl,HB0.o.trans (HB1.o.trans (M.o.mono (by omega)) |>.mono (by omega))⟩
 | commit k d e c =>
   have a:Hid (aJ o=ak 3++ (ay o.tree++ (ak o.pars.length++ (o.pars.flatMap ay++ (ax (toL o.auth)++ (ak o.time.toNat++ax (toL o.msg))))))):=by show _=_;unfold aJ gX;rw[if_neg (by omega),if_pos k,k];rfl
   obtain⟨kind,data,ents,⟨t1,t2⟩,pars,auth,time,msg⟩:=o;obtain⟨eA,en,ec,pA,n,pc⟩:=s;simp only at k d a hpl HP;subst k d;simp only[obV,obC]at hW0 m HC ⊢;have hn:n<=8:=by rw[<-hpl];exact c.pars.few
   have hwt:WfD (t1,t2):=c.wf;have dN:=ai c.pars.wf;have ed:=ai hpl;have kU:auth.size<=24:=iW c.auth;have lg:msg.size<=200:=c.msg;have ht0:0<=time:=c.t0;have ht1:time<=1099511627776:=c.t1;obtain⟨tn,rfl⟩:=Int.eq_ofNat_of_zero_le ht0;have htn:tn<=1099511627776:=by omega
   simp only[Int.toNat_natCast]at a;rw[hpl]at a;obtain⟨c0,c1,c2,c3,c4,c5,c6,c7,c8⟩:=m.o.nine;clear hm e c HE hel hpl ht0 ht1
   go_enter Tryz.func125,Tryz.ntmps125
   go_wp2_with fail;refine HC.o.mono ?_;rintro e w1 ⟨rfl,hb1⟩;have hz1:=hb1.size;have HB1:Hid (Below w.heap.size W0 w1):=hb1.mono (by omega);have b:=ai (m.o.below hb1 (by omega));have hk1:w.heap.size<w1.heap.size:=by omega
   clear hb1 hW0 c0 c1 c2 c3 c4 c5 c6 c7 c8 HC;obtain⟨w2,hw2⟩:=NX9 (w1.alloc (.cells #[.slice none 0 0,.bool false] 283))
   have hz2:w1.heap.size+1<=w2.heap.size:=by rw[<-hw2];simp
   have HB2:Ti w1 w2:=by rw[<-hw2];exact(ah _ w1).alloc aj _
   have HW2:Hid (Wrt w2 w1.heap.size (w1.heap.size+1) []):=⟨⟨none,0,by rw[<-hw2];exact Bk.new w1 _ _,Txt.nil _ _ _ _⟩,by omega,by omega⟩
   obtain⟨c0,c1,c2,c3,c4,c5,c6,c7,c8⟩:=(b.o.below HB2.o hk1).nine;have hlk: (ak 3).length=1:=by rw[eG (by omega)];rfl
   have l:=ai (kF w1.heap.size (w1.heap.size+1) 3 [] w2 HW2.o (by omega) (by simp))
   go_wp2_with (first | (go_at_call 205;refine l.o.mono ?_;rintro e w3 ⟨rfl,hw,hb,hz⟩;refine aP ?_))
   refine aI ?_;have HW3:Hid (Wrt w3 w1.heap.size (w1.heap.size+1) ([]++ak 3)):=hw;have HB3:Ti w1 w3:=HB2.o.trans hb;have hz3:w1.heap.size+1<=w3.heap.size:=by omega
   clear hw hb hz l c0 c1 c2 c3 c4 c5 c6 c7 c8;obtain⟨c0,c1,c2,c3,c4,c5,c6,c7,c8⟩:=(b.o.below HB3.o hk1).nine;have HW3:Hid (Wrt w3 w1.heap.size (w1.heap.size+1) (ak 3)):=HW3.o;clear hw2;have N:Hid (∀q:Td,(∃r,ak 3++ (ay (t1,t2)++ (ak n++ (pars.flatMap ay++ (ax (toL auth)++ (ak tn++ax (toL msg))))))=q++r)->q.length<=65536):=fun q hq=>by
    obtain⟨r,hr⟩:=hq;have h:=HLEN.o;rw[a.o,hr,af]at h;omega
   have j:=ai (AQ w1.heap.size (w1.heap.size+1) (t1,t2) hwt (ak 3) w3 HW3.o (by omega));unfold aG at j
   go_wp2_with (first | (go_at_call 207;refine j.o.mono ?_;rintro e w4 ⟨rfl,hw,hb,hz⟩;refine aP ?_))
   refine aI ?_;have t:Hid (Wrt w4 w1.heap.size (w1.heap.size+1) (ak 3++ay (t1,t2))):=hw;have HB4:Ti w1 w4:=HB3.o.trans hb;have I:w1.heap.size+1<=w4.heap.size:=by omega
   clear hw hb hz j c0 c1 c2 c3 c4 c5 c6 c7 c8;obtain⟨c0,c1,c2,c3,c4,c5,c6,c7,c8⟩:=(b.o.below HB4.o hk1).nine;have D:=ai (kF w1.heap.size (w1.heap.size+1) n (ak 3++ay (t1,t2)) w4 t.o (by omega) (by rw[af,ig];omega))
   go_wp2_with (first | (go_at_call 205;refine D.o.mono ?_;rintro e w5 ⟨rfl,hw,hb,hz⟩;refine aP ?_))
   refine aI ?_;have E:Hid (Wrt w5 w1.heap.size (w1.heap.size+1) (ak 3++ay (t1,t2)++ak n)):=hw;have K:Ti w1 w5:=HB4.o.trans hb;have Y:w1.heap.size+1<=w5.heap.size:=by omega
   clear hw hb hz D c0 c1 c2 c3 c4 c5 c6 c7 c8;obtain⟨c0,c1,c2,c3,c4,c5,c6,c7,c8⟩:=(b.o.below K.o hk1).nine;have hln: (ak n).length=1:=by rw[eG (by omega)];rfl
   have E:Hid (Wrt w5 w1.heap.size (w1.heap.size+1) (ak 3++ay (t1,t2)++ak n++ (pars.take 0).flatMap ay)):=by show Wrt _ _ _ _;rw[List.take_zero,List.flatMap_nil,List.append_nil];exact E.o
   have z:Hid (∀k,k<=n-> (ak 3++ay (t1,t2)++ak n++ (pars.take k).flatMap ay).length<=65536):=fun k hk=>by
    refine N.o _ ⟨(pars.drop k).flatMap ay++ (ax (toL auth)++ (ak tn++ax (toL msg))),?_⟩
    conv=>lhs;rw[<-List.take_append_drop k pars,List.flatMap_append]
    simp only[ZZ]
   go_wp2_with fail
   go_loopw[64] (fun i wr=>∃k:Nat,i= .int .i64 (k:Int)/\k<=n/\Hid (Wrt wr w1.heap.size (w1.heap.size+1) (ak 3++ay (t1,t2)++ak n++ (pars.take k).flatMap ay))/\Ti w1 wr/\w1.heap.size+1<=wr.heap.size) (fun i _=>n - (intOf i).toNat)
   case atStart=>exact⟨0,rfl,ZX _,E.o,K.o,Y⟩
   case round =>
    obtain⟨k,rfl,hk,hT,hB',V⟩:=hrel;have O:Ti w wr:=HB0.o.trans ((HB1.o.trans (hB'.o.mono (by omega))));clear c0 c1 c2 c3 c4 c5 c6 c7 c8;obtain⟨c0,c1,c2,c3,c4,c5,c6,c7,c8⟩:=(b.o.below hB'.o hk1).nine;by_cases hlt:k<n
    . have hlz: (k:Int)< (n:Int):=by omega
      obtain⟨bb,off,d,rfl,hbB,hd,y0,y1⟩:=(HP.o.below O.o hB).dg hlt;have J:=ai (dN.o d (Z7 hd));have hp1:=z.o k hk;have HEX:Hid ((pars.take (k+1)).flatMap ay= (pars.take k).flatMap ay++ay d):=zO hd;obtain⟨d1,d2⟩:=d;simp only at y0 y1;obtain⟨wb,hwb⟩:=NX9 (wr.alloc (.cells #[.int .u64 d1,.int .u64 d2] 50))
      have hbb:Tf wr wb:=by rw[<-hwb];exact(ah _ wr).alloc aj _
      have hzb:w1.heap.size+1<=wb.heap.size:=by have:=hbb.size;omega
      have C:Hid (Bk wb wr.heap.size 50 #[.int .u64 d1,.int .u64 d2]):=by rw[<-hwb];exact Bk.new wr _ _
      have Q:=ai (hT.o.below hbb);have R:Ti w1 wb:=hB'.o.trans (hbb.mono (by omega));obtain⟨x0,x1,_,_⟩:=C.o.two;have x:=ai (AQ w1.heap.size (w1.heap.size+1) (d1,d2) J.o (ak 3++ay (t1,t2)++ak n++ (pars.take k).flatMap ay) wb Q.o (by omega));unfold aG at x;clear hbb hd
      go_wp2_with (first | (go_at_call 207;refine x.o.mono ?_;rintro e w6 ⟨rfl,hw,hb,hz⟩;refine aP ?_))
      refine aI ?_;have G:Ti w1 w6:=R.o.trans hb;have S:w1.heap.size+1<=w6.heap.size:=by omega
      have F:Hid (Wrt w6 w1.heap.size (w1.heap.size+1) (ak 3++ay (t1,t2)++ak n++ (pars.take (k+1)).flatMap ay)):=by
       show Wrt _ _ _ _;rw[HEX.o,<-ZZ];exact hw
      clear hw hb hz x x0 x1 hwb y0 y1;go_wp2_with fail;go_roundw
      case rel=>exact⟨k+1,by go_num,hlt,F.o,G.o,S⟩
      case measure=>simp[intOf];omega
    . have hlz:¬(k:Int)< (n:Int):=by omega
      have F:Hid (Wrt wr w1.heap.size (w1.heap.size+1) (ak 3++ay (t1,t2)++ak n++pars.flatMap ay)):=by
       have:=hT.o;rw[ZU (by rw[ed.o];omega)]at this;exact this
      obtain⟨w6,hw6⟩:∃W,W=wr:=⟨_,rfl⟩
      subst hw6;have G:=hB';have S:=V;have y:=ai (og w1.heap.size (w1.heap.size+1) auth (ak 3++ay (t1,t2)++ak n++pars.flatMap ay) w6 F.o (by omega) (by have:=N.o (ak 3++ay (t1,t2)++ak n++pars.flatMap ay) ⟨ax (toL auth)++ (ak tn++ax (toL msg)),by simp only[ZZ]⟩;omega))
      go_wp2_with (first | (go_at_call 206;refine y.o.mono ?_;rintro e w7 ⟨rfl,hw,hb,hz⟩;refine aP ?_))
      refine aI ?_;have T:Hid (Wrt w7 w1.heap.size (w1.heap.size+1) (ak 3++ay (t1,t2)++ak n++pars.flatMap ay++ax (toL auth))):=hw;have L:Ti w1 w7:=G.o.trans hb;have Z:w1.heap.size+1<=w7.heap.size:=by omega
      clear hw hb hz y c0 c1 c2 c3 c4 c5 c6 c7 c8;obtain⟨c0,c1,c2,c3,c4,c5,c6,c7,c8⟩:=(b.o.below L.o hk1).nine;have ag:=ai (kF w1.heap.size (w1.heap.size+1) tn (ak 3++ay (t1,t2)++ak n++pars.flatMap ay++ax (toL auth)) w7 T.o htn (by have:=N.o (ak 3++ay (t1,t2)++ak n++pars.flatMap ay++ax (toL auth)) ⟨ak tn++ax (toL msg),by simp only[ZZ]⟩;omega))
      go_wp2_with (first | (go_at_call 205;refine ag.o.mono ?_;rintro e w8 ⟨rfl,hw,hb,hz⟩;refine aP ?_))
      refine aI ?_;have fA:Hid (Wrt w8 w1.heap.size (w1.heap.size+1) (ak 3++ay (t1,t2)++ak n++pars.flatMap ay++ax (toL auth)++ak tn)):=hw;have au:Ti w1 w8:=L.o.trans hb;have lq:w1.heap.size+1<=w8.heap.size:=by omega
      clear hw hb hz ag c0 c1 c2 c3 c4 c5 c6 c7 c8;obtain⟨c0,c1,c2,c3,c4,c5,c6,c7,c8⟩:=(b.o.below au.o hk1).nine;have bf:=ai (og w1.heap.size (w1.heap.size+1) msg (ak 3++ay (t1,t2)++ak n++pars.flatMap ay++ax (toL auth)++ak tn) w8 fA.o (by omega) (by have:=N.o (ak 3++ay (t1,t2)++ak n++pars.flatMap ay++ax (toL auth)++ak tn) ⟨ax (toL msg),by simp only[ZZ]⟩;omega))
      go_wp2_with (first | (go_at_call 206;refine bf.o.mono ?_;rintro e w9 ⟨rfl,hw,hb,hz⟩;refine aP ?_))
      refine aI ?_;have U:Hid (Wrt w9 w1.heap.size (w1.heap.size+1) (ak 3++ay (t1,t2)++ak n++pars.flatMap ay++ax (toL auth)++ak tn++ax (toL msg))):=hw;have M:Ti w1 w9:=au.o.trans hb;have nz:w1.heap.size+1<=w9.heap.size:=by omega
      clear hw hb hz bf c0 c1 c2 c3 c4 c5 c6 c7 c8;obtain⟨c0,c1,c2,c3,c4,c5,c6,c7,c8⟩:=(b.o.below M.o hk1).nine;have hend:=U.o;obtain⟨A,cc,hk4,g⟩:=hend.ex;obtain⟨bs,hbs⟩:=NX9 (ak 3++ay (t1,t2)++ak n++pars.flatMap ay++ax (toL auth)++ak tn++ax (toL msg))
      rw[hbs]at hk4 g;have u:Hid (ak 3++ay (t1,t2)++ak n++pars.flatMap ay++ax (toL auth)++ak tn++ax (toL msg)=bs):=hbs;have hlz:¬(65536:Int)< (bs.length:Int):=by
       have h1:=HLEN.o;have h2:=congrArg List.length (a.o.trans (show _=ak 3++ay (t1,t2)++ak n++pars.flatMap ay++ax (toL auth)++ak tn++ax (toL msg) by first | rfl | simp only[ZZ]));rw[hbs]at h2;omega
      obtain⟨d0,d1,_,_⟩:=hk4.two;have hcv:=g.run_string (P:=Tryz.prog) 213 9 5 Tryz.underlying213 Tryz.underlying5 Tryz.underlying9;have v:=ai (a.o.trans (show _=ak 3++ay (t1,t2)++ak n++pars.flatMap ay++ax (toL auth)++ak tn++ax (toL msg) by first | rfl | simp only[ZZ]));clear hk4 g hbs hend c0 c1 c2 c3 c4 c5 c6 c7 c8;go_wp2_with fail;go_ret2
      exact⟨by rw[v.o,u.o];rfl,HB0.o.trans (HB1.o.trans (M.o.mono (by omega)) |>.mono (by omega))⟩
theorem pI(o:Ob)(s:Osl)(B:Nat)(w:SX)(hm:ObM w B o s)(hB:B<=w.heap.size)(ho:OkO o) :
  Calls Tryz.prog 113 #[obV o s] w fun e w'=>e= .returned (.int .i64 0)/\Tf w w':=by
 obtain⟨W0,hW0⟩:=NX9 (w.alloc (.cells (obC o s) 109))
 have HB0:Ti w W0:=by rw[<-hW0];exact(ah _ w).alloc aj _
 have a:Hid (Bk W0 w.heap.size 109 (obC o s)):=by rw[<-hW0];exact Bk.new w _ _
 have HC:=ai (uZ o s B W0 (hm.below (HB0.o.mono hB) aj) (by have:=HB0.o.size;omega) ho);obtain⟨bs,hbs⟩:=NX9 (ofL (aJ o))
 unfold uz at HC;rw[hbs]at HC;obtain⟨kind,data,b,⟨t1,t2⟩,c,d,time,msg⟩:=o;obtain⟨eA,en,ec,pA,pn,pc⟩:=s;simp only[obV,obC]at hW0 a HC ⊢;obtain⟨c0,c1,c2,c3,c4,c5,c6,c7,c8⟩:=a.o.nine;clear hm hbs
 go_enter Tryz.func113,Tryz.ntmps113
 go_wp2_with (first | (go_at_call 125;refine HC.o.mono ?_;rintro e w1 ⟨rfl,hb1⟩))
 go_ret
 exact⟨rfl,HB0.o.trans (hb1.mono HB0.o.size)⟩
