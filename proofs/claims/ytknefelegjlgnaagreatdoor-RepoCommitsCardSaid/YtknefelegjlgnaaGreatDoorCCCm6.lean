/-Lemmas.-/
import Derived.Test.YtknefelegjlgnaaGreatDoorCCCm5
set_option maxRecDepth 100000
set_option maxHeartbeats 4000000
namespace Go.Proofs.YtknefelegjlgnaaGreatDoor
open Go.RowKit
theorem qy:∀(k n j:Nat),j<k-> (be k n)[j]? =some (UInt8.ofNat (n / 256 ^ (k - 1 - j) % 256))
 | 0,_,_,h=>by omega
 | k+1,n,0,_=>by simp[be]
 | k+1,n,j+1,h=>by
   simp only[be,List.getElem?_cons_succ];rw[qy k n j (by omega),show k+1 - 1 - (j+1)=k - 1 - j by omega]
theorem Txt.run_append_far{P:Program}{w0 w:VA}{base av n c:Nat}{A:OA}{bs:VD}(h0:Txt w0 base av A n c bs)(hW:VE w0 w)(t tx ty e:TypeId)(i:TypeInfo)(ht:P.underlying t=some (.slice e))(hi:P.info? e=some i)(hz:i.zero=some (.int .u8 0))(hsize:i.size=1)(hby:i.bytes=1)
  (x:VC) (m:Nat) (ys:VD) (hs:Src P 1 tx x m (bc ys) w) (hmax:n+m<=140737488355328) (hbase:base<=w.heap.size) (hav:av<w.heap.size) :
  ∃A' c' w',(Builtin.append_ #[t,tx] ty #[.slice A n c,x]).run P w= .ok (.slice A' (n+m) c') w'/\Txt w' base av A' (n+m) c' (bs++ys)/\Below base w w'/\w'.heap[av]? =w.heap[av]? /\∀k,w0.heap.size<=k->k<w.heap.size->w'.heap[k]? =w.heap[k]? :=by
 obtain⟨A',c',w',hr,h1,h2,h3⟩:=(h0.below hW).run_append (P:=P) t tx ty e i ht hi hz hsize hby x m ys hs hmax hbase hav;refine⟨A',c',w',hr,h1,h2,h3,fun k hk1 hk2=>?_⟩;obtain⟨A2,c2,w2,hr2,_,_,g3⟩:=((h0.avoid hk1).below hW).run_append (P:=P) t tx ty e i ht hi hz hsize hby x m ys hs hmax hbase hk2;have e:=hr.symm.trans hr2;simp only[Result.ok.injEq]at e;rw[e.2];exact g3
theorem Txt.join{w w':VA}{base base' b x n c:Nat}{A:OA}{bs bs':VD}(h:Txt w' base b A n c bs)(hx:Txt w base' x A n c bs'):Txt w' base x A n c bs :=
 ⟨h.len,h.le,h.max,fun h0=>by
   obtain⟨q,off,e,h1,h2⟩:=h.lies h0;obtain⟨q',off',e',g1,_⟩:=hx.lies h0;rw[e]at e';simp only[Option.some.injEq,Addr.mk.injEq]at e';exact⟨q,off,e,⟨h1.1,by rw[e'.1];exact g1.2⟩,h2⟩⟩
theorem Txt.run_append_two{P:Program}{w:VA}{base b x n c:Nat}{A:OA}{bs:VD}(h:Txt w base b A n c bs)(hx:Txt w base x A n c bs)(t tx ty e:TypeId)(i:TypeInfo)(ht:P.underlying t=some (.slice e))(hi:P.info? e=some i)(hz:i.zero=some (.int .u8 0))(hsize:i.size=1)(hby:i.bytes=1)
  (xv:VC) (m:Nat) (ys:VD) (hs:Src P 1 tx xv m (bc ys) w) (hmax:n+m<=140737488355328) (hbase:base<=w.heap.size) (hb:b<w.heap.size) (hxl:x<w.heap.size) :
  ∃A' c' w',(Builtin.append_ #[t,tx] ty #[.slice A n c,xv]).run P w= .ok (.slice A' (n+m) c') w'/\Txt w' base b A' (n+m) c' (bs++ys)/\Txt w' base x A' (n+m) c' (bs++ys)/\Below base w w'/\w'.heap[b]? =w.heap[b]? /\w'.heap[x]? =w.heap[x]? :=by
 obtain⟨A',c',w',hr,h1,h2,h3⟩:=h.run_append (P:=P) t tx ty e i ht hi hz hsize hby xv m ys hs hmax hbase hb;obtain⟨A2,c2,w2,hr2,g1,_,g3⟩:=hx.run_append (P:=P) t tx ty e i ht hi hz hsize hby xv m ys hs hmax hbase hxl;have e:=hr.symm.trans hr2;simp only[Result.ok.injEq,Value.slice.injEq,true_and]at e;obtain⟨⟨rfl,rfl⟩,rfl⟩:=e;exact⟨A',c',w',hr,h1,g1,h2,h3,g3⟩
theorem Ar{P:Program}{w:VA}{base b x n c:Nat}{A:OA}{bs:VD}{ops:Array Oper}{rest:List Oper}{o:Oper}{a:Act}{Q:Exit->Act->VA->Prop}(hgd:o.guard=none)(s xo:Operand)(t tx:TypeId)
  (ho:o.op= .call {callee:= .builtin .append,args:=#[s,xo],argTypes:=#[t,tx]})
  (e:TypeId) (i:TypeInfo) (ht:P.underlying t=some (.slice e)) (hi:P.info? e=some i) (hz:i.zero=some (.int .u8 0)) (hsize:i.size=1) (hby:i.bytes=1)
  (hv:a.eval s= .slice A n c) (h:Txt w base b A n c bs) (hx2:Txt w base x A n c bs)
  (xv:VC) (m:Nat) (ys:VD) (hx:a.eval xo=xv) (hs:Src P 1 tx xv m (bc ys) w) (hmax:n+m<=140737488355328) (hbase:base<=w.heap.size) (hb:b<w.heap.size) (hxl:x<w.heap.size)
  (hK:∀A' c' w',Txt w' base b A' (n+m) c' (bs++ys)->Txt w' base x A' (n+m) c' (bs++ys)->Below base w w'->w'.heap[b]? =w.heap[b]? ->w'.heap[x]? =w.heap[x]? ->wpList P ops Q rest (a.put o.dst (.slice A' (n+m) c')) w'):wpList P ops Q (o::rest) a w:=by
 refine wpList_plain hgd fun K hK'=>?_;obtain⟨A',c',w',hrun,h1,h2,h3,h4,h5⟩:=h.run_append_two (P:=P) hx2 t tx o.type e i ht hi hz hsize hby xv m ys hs hmax hbase hb hxl;unfold Oper.wp;simp[execOp,ho,resolve,invoke,builtin,hv,hx,hrun,Result.andThen];exact hK' _ _ (hK A' c' w' h1 h2 h3 h4 h5)
structure Wrx(w:VA)(b base x:Nat)(bs:VD):Prop where
 ex:∃A c,Bk w b 283 #[.slice A bs.length c,.bool false]/\Txt w base b A bs.length c bs/\Txt w base x A bs.length c bs
 lt:b<base
 le:base<=w.heap.size
 ne:x≠b
 xl:x<w.heap.size
theorem Wrx.wrt{w:VA}{b base x:Nat}{bs:VD}(h:Wrx w b base x bs):Wrt w b base bs:=by
 obtain⟨A,c,h1,h2,_⟩:=h.ex;exact⟨⟨A,c,h1,h2⟩,h.lt,h.le⟩
theorem Wrx.below{w w':VA}{b base x:Nat}{bs:VD}(h:Wrx w b base x bs)(hb:VE w w'):Wrx w' b base x bs:=by
 obtain⟨A,c,h1,h2,h3⟩:=h.ex;exact⟨⟨A,c,h1.below hb h1.lt,h2.below hb,h3.below hb⟩,h.lt,ZY h.le hb.size,h.ne,Nat.lt_of_lt_of_le h.xl hb.size⟩
theorem Wrt.wrx{w w':VA}{b base:Nat}{bs:VD}(h:Wrt w b base bs)(hb:VE w w')(hx:w.heap.size<w'.heap.size):Wrx w' b base w.heap.size bs:=by
 obtain⟨A,c,h1,h2⟩:=h.ex;exact⟨⟨A,c,h1.below hb h1.lt,h2.below hb,(h2.avoid aj).below hb⟩,h.lt,ZY h.le hb.size,by have:=h.lt;have:=h.le;omega,hx⟩
def WrxEnd(b base x:Nat)(bs:VD)(w:VA)(e:Ending)(w':VA):Prop:=e= .returned (.tuple #[])/\Wrx w' b base x bs/\Below b w w'/\w.heap.size<=w'.heap.size/\w'.heap[x]? =w.heap[x]?
theorem FW(b base x:Nat)(k:Nat)(bs:VD)(w:VA)(h:Wrx w b base x bs)(hk:k<=1099511627776)(hn:bs.length<=1000000) :
  Calls Tryz.prog 205 #[.pointer (some ⟨b,0,none⟩),.int .i64 k] w (WrxEnd b base x (bs++ak k) w):=by
 have HP:=ai (rQ k hk w);have H:=ai h;have hle:=gy 5 k (by omega);obtain⟨i0,hi,hz0,hz1,hz2⟩:=info_parts yX;have Hi:=ai hi;have q:=ai hz0;have r:=ai hz1;have s:=ai hz2;clear h hi hz0 hz1 hz2
 go_enter Tryz.func205,Tryz.ntmps205
 go_wp2_with (go_at_call 107;refine HP.o.mono ?_;rintro e w1 ⟨rfl,hb1⟩;refine aO ?_)
 refine aH ?_;have H1:=H.o.below hb1;obtain⟨A,c,hk1,ht1,hx1⟩:=H1.ex;have hlt:=H1.lt;have hbase:=H1.le;have f:=ai H1.ne;have j:=ai H1.xl;have HB1:Hid (Below b w w1):=hb1.mono (by have:=H.o.lt;have:=H.o.le;omega);have l:Hid (w1.heap[x]? =w.heap[x]?):=hb1.block x H.o.xl;have hz1:=hb1.size;have a:=ai hk1;have HT1:=ai ht1;have t:=ai hx1;have c0:=a.o.cell 0;have c1:=a.o.cell 1;have f1:=a.o.free 1;simp at c0 c1;clear hb1 H1 hk1 ht1 hx1;obtain⟨W2,hW2⟩:=NX9 (w1.setCell ⟨b,1,none⟩ (.bool false))
 have g:Hid (Bk W2 b 283 #[.slice A bs.length c,.bool false]):=by
  rw[<-hW2];have:=a.o.set 1 (.bool false);show Bk _ _ _ _;simpa using this
 have HT2:Hid (Txt W2 base b A bs.length c bs):=by rw[<-hW2];exact HT1.o.far rfl _
 have u:Hid (Txt W2 base x A bs.length c bs):=HT2.o.join t.o;have HB2:Hid (Below b w W2):=by rw[<-hW2];exact HB1.o.setCell (p:=⟨b,1,none⟩) aj _
 have m:Hid (W2.heap[x]? =w.heap[x]?):=by
  show _=_;rw[<-hW2];exact(Z8 w1 ⟨b,1,none⟩ _ x f.o).trans l.o
 have y:W2.heap.size=w1.heap.size:=by rw[<-hW2];simp
 have d0:=g.o.cell 0;have g0:=g.o.free 0;simp at d0
 go_wp2_with (at_builtin;refine Ez (.tmp 26) (.tmp 27) 213 9 rfl ?_)
 refine aH ?_;refine Ar (base:=base) (b:=b) (x:=x) rfl (.tmp 26) (.tmp 27) 213 9 rfl 5 i0 Tryz.underlying213 Hi.o q.o r.o s.o (A:=A) (n:=bs.length) (c:=c) (bs:=bs) rfl HT2.o u.o (.string (ofL (ak k))) (ak k).length (ak k) rfl (GZ (ofL (ak k)) _) (by omega) (by omega) (by omega) (by have:=j.o;omega) ?_;intro A' c' w3 ht3 hx3 hb3 hk3 d;have i:Hid (Bk w3 b 283 #[.slice A bs.length c,.bool false]):=hk3.trans g.o;have HT3:=ai ht3;have v:=ai hx3;have o:Hid (w3.heap[x]? =w.heap[x]?):=d.trans m.o;have HB3:Hid (Below b w w3):=HB2.o.trans (hb3.mono (by omega));have hz3:=hb3.size;have e0:=i.o.cell 0;have e1:=i.o.free 0;simp at e0;clear ht3 hx3 hb3 hk3 d d0 g0 c0 c1 f1;go_wp2_with fail
 go_end0
 have hl: (bs++ak k).length=bs.length+ (ak k).length:=by simp
 refine⟨rfl,⟨⟨A',c',?_,?_,?_⟩,hlt,by simp;omega,f.o,by have:=j.o;simp;omega⟩,HB3.o.setCell (p:=⟨b,0,none⟩) aj _,by simp;omega,(Z8 w3 ⟨b,0,none⟩ _ x f.o).trans o.o⟩
 . rw[hl];have:=i.o.set 0 (.slice A' (bs.length+ (ak k).length) c');show Bk _ _ _ _;simpa using this
 . rw[hl];exact HT3.o.far rfl _
 . rw[hl];exact(HT3.o.far (p:=⟨b,0,none⟩) rfl _).join v.o
theorem FU(b base x:Nat)(s:VB)(bs:VD)(w:VA)(h:Wrx w b base x bs)(hk:s.size<=65536)(hn:bs.length<=1000000) :
  Calls Tryz.prog 206 #[.pointer (some ⟨b,0,none⟩),.string s] w (WrxEnd b base x (bs++ax (toL s)) w):=by
 have HP:=ai (BI s hk w);have H:=ai h;have hle: (ax (toL s)).length<=70000:=by
  have h1:=gy 5 s.size (by omega);have h2:=aQ s;unfold ax;rw[af,<-h2];omega
 obtain⟨i0,hi,hz0,hz1,hz2⟩:=info_parts yX;have Hi:=ai hi;have o:=ai hz0;have q:=ai hz1;have r:=ai hz2;clear h hi hz0 hz1 hz2
 go_enter Tryz.func206,Tryz.ntmps206
 go_wp2_with (go_at_call 178;refine HP.o.mono ?_;rintro e w1 ⟨rfl,hb1⟩;refine aO ?_)
 refine aH ?_;have H1:=H.o.below hb1;obtain⟨A,c,hk1,ht1,hx1⟩:=H1.ex;have hlt:=H1.lt;have hbase:=H1.le;have f:=ai H1.ne;have j:=ai H1.xl;have HB1:Hid (Below b w w1):=hb1.mono (by have:=H.o.lt;have:=H.o.le;omega);have k:Hid (w1.heap[x]? =w.heap[x]?):=hb1.block x H.o.xl;have hz1:=hb1.size;have a:=ai hk1;have HT1:=ai ht1;have t:=ai hx1;have c0:=a.o.cell 0;have c1:=a.o.cell 1;have f1:=a.o.free 1;simp at c0 c1;clear hb1 H1 hk1 ht1 hx1;obtain⟨W2,hW2⟩:=NX9 (w1.setCell ⟨b,1,none⟩ (.bool false))
 have g:Hid (Bk W2 b 283 #[.slice A bs.length c,.bool false]):=by
  rw[<-hW2];have:=a.o.set 1 (.bool false);show Bk _ _ _ _;simpa using this
 have HT2:Hid (Txt W2 base b A bs.length c bs):=by rw[<-hW2];exact HT1.o.far rfl _
 have u:Hid (Txt W2 base x A bs.length c bs):=HT2.o.join t.o;have HB2:Hid (Below b w W2):=by rw[<-hW2];exact HB1.o.setCell (p:=⟨b,1,none⟩) aj _
 have l:Hid (W2.heap[x]? =w.heap[x]?):=by
  show _=_;rw[<-hW2];exact(Z8 w1 ⟨b,1,none⟩ _ x f.o).trans k.o
 have y:W2.heap.size=w1.heap.size:=by rw[<-hW2];simp
 have d0:=g.o.cell 0;have g0:=g.o.free 0;simp at d0
 go_wp2_with (at_builtin;refine Ez (.tmp 25) (.tmp 26) 213 9 rfl ?_)
 refine aH ?_;refine Ar (base:=base) (b:=b) (x:=x) rfl (.tmp 25) (.tmp 26) 213 9 rfl 5 i0 Tryz.underlying213 Hi.o o.o q.o r.o (A:=A) (n:=bs.length) (c:=c) (bs:=bs) rfl HT2.o u.o (.string (ofL (ax (toL s)))) (ax (toL s)).length (ax (toL s)) rfl (GZ (ofL (ax (toL s))) _) (by omega) (by omega) (by omega) (by have:=j.o;omega) ?_;intro A' c' w3 ht3 hx3 hb3 hk3 d;have i:Hid (Bk w3 b 283 #[.slice A bs.length c,.bool false]):=hk3.trans g.o;have HT3:=ai ht3;have v:=ai hx3;have m:Hid (w3.heap[x]? =w.heap[x]?):=d.trans l.o;have HB3:Hid (Below b w w3):=HB2.o.trans (hb3.mono (by omega));have hz3:=hb3.size;have e0:=i.o.cell 0;have e1:=i.o.free 0;simp at e0;clear ht3 hx3 hb3 hk3 d d0 g0 c0 c1 f1;go_wp2_with fail
 go_end0
 have hl: (bs++ax (toL s)).length=bs.length+ (ax (toL s)).length:=by simp
 refine⟨rfl,⟨⟨A',c',?_,?_,?_⟩,hlt,by simp;omega,f.o,by have:=j.o;simp;omega⟩,HB3.o.setCell (p:=⟨b,0,none⟩) aj _,by simp;omega,(Z8 w3 ⟨b,0,none⟩ _ x f.o).trans m.o⟩
 . rw[hl];have:=i.o.set 0 (.slice A' (bs.length+ (ax (toL s)).length) c');show Bk _ _ _ _;simpa using this
 . rw[hl];exact HT3.o.far rfl _
 . rw[hl];exact(HT3.o.far (p:=⟨b,0,none⟩) rfl _).join v.o
def WxP(b base xb:Nat)(bs:VD)(w:VA)(v:VC)(w1:VA):Prop:=∃A c,v= .slice A bs.length c/\Txt w1 base b A bs.length c bs/\Txt w1 base xb A bs.length c bs/\Below base w w1/\w1.heap[b]? =w.heap[b]? /\w1.heap[xb]? =w.heap[xb]?
theorem FV(b base xb:Nat)(d:Dig)(hd:WfD d)(bs:VD)(w:VA)(h:Wrx w b base xb bs)(hn:bs.length<=1000000) :
  Calls Tryz.prog 207 #[.pointer (some ⟨b,0,none⟩),az d] w (WrxEnd b base xb (bs++ay d) w):=by
 obtain⟨x,y⟩:=d;obtain⟨hx0,hx1,hy0,hy1⟩:=hd;simp only at hx0 hx1 hy0 hy1;obtain⟨x,rfl⟩:=Int.eq_ofNat_of_zero_le hx0;obtain⟨y,rfl⟩:=Int.eq_ofNat_of_zero_le hy0;have F:=ai hx1;have G:=ai hy1;clear hx0 hx1 hy0 hy1;show Calls Tryz.prog 207 #[.pointer (some ⟨b,0,none⟩),.agg #[.int .u64 x,.int .u64 y]] w _;obtain⟨i0,hi,hz0,hz1,hz2⟩:=info_parts yX;have Hi:=ai hi;have l:=ai hz0;have m:=ai hz1;have n:=ai hz2;have hlt:=h.lt;have hle:=h.le;have hxl:=h.xl;have r:=ai h.ne;obtain⟨W0,hW0⟩:=NX9 (w.alloc (.cells #[.int .u64 x,.int .u64 y] 50))
 have HB0:VF w W0:=by rw[<-hW0];exact(ah _ _).alloc aj _
 have H:Hid (Bk W0 w.heap.size 50 #[.int .u64 x,.int .u64 y]):=by rw[<-hW0];exact Bk.new w _ _
 obtain⟨x0,x1,_,_⟩:=H.o.two;have HR0:Hid (Wrx W0 b base xb (bs++ (ay (x,y)).take (8*0))):=by
  show Wrx _ _ _ _ _;rw[Nat.mul_zero,List.take_zero,List.append_nil];exact h.below HB0.o
 have HB1:Hid (Below b w W0):=HB0.o.mono (by omega);have hz0':w.heap.size<=W0.heap.size:=HB0.o.size;have HX0:Hid (W0.heap[xb]? =w.heap[xb]?):=HB0.o.block xb hxl;clear hi hz0 hz1 hz2 h
 go_enter Tryz.func207,Tryz.ntmps207
 go_wp2_with fail;clear hW0
 go_loopw[8] (fun i wr=>∃k:Nat,k<=2/\i= .int .i64 k/\Hid (Wrx wr b base xb (bs++ (ay (x,y)).take (8*k)))/\Hid (Below b w wr)/\w.heap.size<=wr.heap.size/\Hid (wr.heap[xb]? =w.heap[xb]?)) (fun i _=>2 - (intOf i).toNat)
 case atStart=>exact⟨0,by omega,rfl,HR0.o,HB1.o,hz0',HX0.o⟩
 case round =>
  obtain⟨k,hk,rfl,hT,hB,hwz,hX⟩:=hrel;by_cases hlt2:k<2
  . have hlz: (k:Int)<2:=by omega
    obtain⟨z,hz,hix,hby⟩:∃z:Nat,Hid (z<18446744073709551616)/\ (∀w,(Instr.index 50 (.agg #[.int .u64 (x:Int),.int .u64 (y:Int)]) (.int .i64 (k:Int))).run Tryz.prog w= .ok (.int .u64 (z:Int)) w)/\ (∀j,j<8-> (ay ((x:Int),(y:Int)))[8*k+j]? =some (UInt8.ofNat (z / 256 ^ (7 - j) % 256))):=by
     rcases Nat.lt_or_ge k 1 with h1 | h1
     . obtain rfl:k=0:=by omega
       refine⟨x,by show _<_;have:=F.o;omega,fun w=>by kernel_rfl,fun j hj=>?_⟩;unfold ay;rw[List.getElem?_append_left (by rw[jy];omega),Int.toNat_natCast,show 8*0+j=j by omega];exact qy 8 x j hj
     . obtain rfl:k=1:=by omega
       refine⟨y,by show _<_;have:=G.o;omega,fun w=>by kernel_rfl,fun j hj=>?_⟩;unfold ay;rw[List.getElem?_append_right (by rw[jy];omega),Int.toNat_natCast,jy,show 8*1+j - 8=j by omega];exact qy 8 y j hj
    have I:=ai hby;clear hby;go_wp2_with fail;obtain⟨T,rfl⟩:∃T:VA,T=wr:=⟨_,rfl⟩
    go_loopw[6] (fun i wr=>∃j:Nat,j<=8/\i= .int .i64 (56 - 8* (j:Int))/\Hid (Wrx wr b base xb (bs++ (ay (x,y)).take (8*k+j)))/\Hid (Below b w wr)/\w.heap.size<=wr.heap.size/\Hid (wr.heap[xb]? =w.heap[xb]?)) (fun i _=>(intOf i+8).toNat)
    case atStart=>exact⟨0,by omega,rfl,hT,hB,hwz,hX⟩
    case round =>
     obtain⟨j,hj,rfl,hT,hB,hwz,hX⟩:=hrel;by_cases hlt:j<8
     . have hji: (0:Int)<=56 - 8* (j:Int):=by omega
       obtain⟨p,hp⟩:=NX9 (z / 256 ^ (7 - j))
       have hsh:∀yk,Op.shift .shr .u64 (z:Int) yk (56 - 8* (j:Int))=pure (.int .u64 (p:Int)):=fun yk=>by
        rw[shift_shr .u64 yk _ _ hji (by show _<= (64:Int);omega),<-hp];rw[show(56 - 8* (j:Int)).toNat=8* (7 - j) by omega];have e: ((z:Int) / 2 ^ (8* (7 - j)))= ((z / 256 ^ (7 - j):Nat):Int):=by
         rw[show(256:Nat)=2 ^ 8 from rfl,<-Nat.pow_mul];simp
        rw[e]
       have hdv: (z:Int) / 2 ^ (56 - 8* (j:Int)).toNat= (p:Int):=by
        rw[show(56 - 8* (j:Int)).toNat=8* (7 - j) by omega];have e: ((z:Int) / 2 ^ (8* (7 - j)))= ((z / 256 ^ (7 - j):Nat):Int):=by
         rw[show(256:Nat)=2 ^ 8 from rfl,<-Nat.pow_mul];simp
        rw[e,hp]
       obtain⟨bt,hbt⟩:=NX9 (UInt8.ofNat (p % 256))
       have hw:IntKind.u8.wrap (p:Int)= (bt.toNat:Int):=by
        rw[IntKind.wrap_u8,<-hbt,lF (by omega)];omega
       have J:Hid ((ay ((x:Int),(y:Int)))[8*k+j]? =some bt):=by
        show _=_;rw[I.o j hlt,hp,hbt]
       have s:Hid (bs++ (ay ((x:Int),(y:Int))).take (8*k+j+1)= (bs++ (ay ((x:Int),(y:Int))).take (8*k+j))++ [bt]):=by
        show _=_;rw[aV J.o,ZZ]
       have hml: (bs++ (ay ((x:Int),(y:Int))).take (8*k+j)).length<=1000016:=by rw[af,List.length_take];omega
       obtain⟨cs,hcs⟩:=NX9 (bs++ (ay ((x:Int),(y:Int))).take (8*k+j))
       rw[hcs]at hml s;have hT':=hT.o;rw[hcs]at hT';obtain⟨A,c,hkw,htx,hxx⟩:=hT'.ex;have t:=ai hkw;have K:=ai htx;have L:=ai hxx;have hxr:=hT'.xl;have hbase:=hT'.le;obtain⟨y0,y1,f0,_⟩:=hkw.two;clear hp hbt hcs hkw htx hxx hT' hT x0 x1;generalize hq:56 - 8* (j:Int)=q at *;have HQ:=ai hq;have hq0:0<=q:=by omega
       have hq2:q<=56:=by omega
       have hbr:=t.o.lt;clear hq;go_wp2_with fail;refine JB 11 10 (15::16::17::18::19::20::21::22::23::24::25:: []) (by kernel_rfl) (by kernel_rfl) (by kernel_rfl) (fun b W=>match b with | false=>VE wr W | true=>True) (fun b W W'=>match b with | false=>VE W W' | true=>W'=W)
        (fun i v W=>if i=10 then(WxP b base xb (cs++ [bt]) wr) v W else l9 9 ((.pointer (some ⟨b,0,none⟩)):: (.pointer (some ⟨b,0,none⟩)):: (.pointer (some ⟨b,0,none⟩)):: (.pointer (some ⟨b,0,none⟩)):: (.slice A cs.length c):: (.int .u64 (z:Int)):: (.int .i64 q):: (.int .u64 (p:Int)):: (.int .u8 (bt.toNat:Int)):: (undef):: (undef):: []) wr.heap.size 5 #[.int .u8 (bt.toNat:Int)] i v W) ?hRD ?hPD (ah _ _).drew ?stepD ?turnD (by decide) ?tailD
       case hRD =>
        intro bq W W' h1 h2;cases bq with
        | false=>exact Below.trans h1 (Below.mono h2 (Below.size h1))
        | true=>trivial
       case hPD =>
        intro bq i v W W' hb h1 h2;cases bq with
        | true=>have h3:W'=W:=h2;rw[h3];exact h1
        | false =>
          by_cases e:i=10
          . cases hb e
          . simp only[if_neg e]at h1 ⊢;exact Ns i v W W' h1 h2
       case stepD =>
        intro bq i o vs W hi hne hbd ho hv hR a;obtain⟨v0,v1,v2,v3,v4,v5,v6,v7,v8,v9,v10,rfl⟩:=Ai hv;simp only[List.zip,List.zipWith,aZ,Act.put,List.setIfInBounds_toArray,List.set];have hE: (fun(b:Bool)(W W':VA)=>match b with | false=>VE W W' | true=>W'=W) bq W W:=by
         cases bq with
         | false=>exact ah _ _
         | true=>rfl
        match i,hi,ho with
        | 0,_,rfl =>
          exact .inl ⟨rfl,aS (v:= .pointer (some ⟨b,0,none⟩)) (w':=W) (by go_simp) ⟨hE,fun _=>aT⟩⟩
        | 1,_,rfl =>
          exact .inl ⟨rfl,aS (v:= .pointer (some ⟨b,0,none⟩)) (w':=W) (by go_simp) ⟨hE,fun _=>aT⟩⟩
        | 2,_,rfl =>
          have e1:v1=_:=a ⟨1,.data⟩ (by simp) rfl v1 rfl _ rfl;subst e1;exact .inl ⟨rfl,aS (v:= .pointer (some ⟨b,0,none⟩)) (w':=W) (by go_simp) ⟨hE,fun _=>aT⟩⟩
        | 3,_,rfl =>
          have e2:v2=_:=a ⟨2,.data⟩ (by simp) rfl v2 rfl _ rfl;subst e2;exact .inl ⟨rfl,aS (v:= .pointer (some ⟨b,0,none⟩)) (w':=W) (by go_simp) ⟨hE,fun _=>aT⟩⟩
        | 4,_,rfl =>
          have e3:v3=_:=a ⟨3,.data⟩ (by simp) rfl v3 rfl _ rfl;subst e3;have hb0:bq=false:=hbd _ rfl ⟨⟨4,.data⟩,by simp,rfl,rfl⟩;subst hb0;have y0':=(Below.cell hR (p:=⟨b,0,none⟩) (by show b<_;omega)).trans y0;exact .inl ⟨rfl,aS (v:= .slice A cs.length c) (w':=W) (by go_simp) ⟨hE,fun _=>aT⟩⟩
        | 5,_,rfl =>
          exact .inl ⟨rfl,aS (v:= .int .u64 (z:Int)) (w':=W) (by go_simp) ⟨hE,fun _=>aT⟩⟩
        | 6,_,rfl =>
          exact .inl ⟨rfl,aS (v:= .int .i64 q) (w':=W) (by go_simp) ⟨hE,fun _=>aT⟩⟩
        | 7,_,rfl =>
          have e5:v5=_:=a ⟨5,.data⟩ (by simp) rfl v5 rfl _ rfl;have e6:v6=_:=a ⟨6,.data⟩ (by simp) rfl v6 rfl _ rfl;subst e5 e6;exact .inl ⟨rfl,aS (v:= .int .u64 (p:Int)) (w':=W) (by go_simp) ⟨hE,fun _=>aT⟩⟩
        | 8,_,rfl =>
          have e7:v7=_:=a ⟨7,.data⟩ (by simp) rfl v7 rfl _ rfl;subst e7;exact .inl ⟨rfl,aS (v:= .int .u8 (bt.toNat:Int)) (w':=W) (by go_simp) ⟨hE,fun _=>aT⟩⟩
        | 9,_,rfl =>
          have e8:v8=_:=a ⟨8,.data⟩ (by simp) rfl v8 rfl _ rfl;subst e8;have hb0:bq=false:=hbd _ rfl ⟨⟨9,.data⟩,by simp,rfl,rfl⟩;subst hb0;have y0':=(Below.cell hR (p:=⟨b,0,none⟩) (by show b<_;omega)).trans y0;exact .inl ⟨rfl,aS (v:= .slice (some ⟨W.heap.size,0,none⟩) 1 1) (w':=W.alloc (.cells #[.int .u8 (bt.toNat:Int)] 5)) (by go_simp) ⟨(ah _ W).alloc aj _,W.heap.size,rfl,Below.size hR,Bk.new W _ _⟩⟩
        | 10,_,_=>exact absurd rfl hne
        | i+11,hi,_=>exact absurd hi (by omega)
       case turnD =>
        intro o vs W ho hv hR a;obtain⟨v0,v1,v2,v3,v4,v5,v6,v7,v8,v9,v10,rfl⟩:=Ai hv;cases ho
        simp only[List.zip,List.zipWith,aZ,Act.put,List.setIfInBounds_toArray,List.set];have e4:v4=_:=a ⟨4,.data⟩ (by simp) rfl v4 rfl _ rfl;obtain⟨ab,ea,hab,hak⟩:∃b0,v9= .slice (some ⟨b0,0,none⟩) 1 1/\wr.heap.size<=b0/\Bk W b0 5 #[.int .u8 (bt.toNat:Int)]:=a ⟨9,.data⟩ (by simp) rfl v9 rfl;subst e4 ea;have hR:VE wr W:=hR;have hall:∀w1:VA,(∀b,wr.heap.size<=b->b<W.heap.size->w1.heap[b]? =W.heap[b]?)->∀(i:Nat)(u:VC),i≠10-> (if i=10 then(WxP b base xb (cs++ [bt]) wr) u W else l9 9 ((.pointer (some ⟨b,0,none⟩)):: (.pointer (some ⟨b,0,none⟩)):: (.pointer (some ⟨b,0,none⟩)):: (.pointer (some ⟨b,0,none⟩)):: (.slice A cs.length c):: (.int .u64 (z:Int)):: (.int .i64 q):: (.int .u64 (p:Int)):: (.int .u8 (bt.toNat:Int)):: (undef):: (undef):: []) wr.heap.size 5 #[.int .u8 (bt.toNat:Int)] i u W)-> (if i=10 then(WxP b base xb (cs++ [bt]) wr) u w1 else l9 9 ((.pointer (some ⟨b,0,none⟩)):: (.pointer (some ⟨b,0,none⟩)):: (.pointer (some ⟨b,0,none⟩)):: (.pointer (some ⟨b,0,none⟩)):: (.slice A cs.length c):: (.int .u64 (z:Int)):: (.int .i64 q):: (.int .u64 (p:Int)):: (.int .u8 (bt.toNat:Int)):: (undef):: (undef):: []) wr.heap.size 5 #[.int .u8 (bt.toNat:Int)] i u w1):=fun w1 hk i u hi hu=>by
         simp only[if_neg hi]at hu ⊢;unfold l9 at hu ⊢;by_cases e:i=9
         . rw[if_pos e]at hu ⊢
           obtain⟨b0,p1,p2,p3⟩:=hu;exact⟨b0,p1,p2,(hk b0 p2 p3.lt).trans p3⟩
         . rw[if_neg e]at hu ⊢;exact hu
        refine .inl ⟨rfl,?_⟩;obtain⟨A5,c5,w1,B,g,hb5,hk5,C⟩:=K.o.run_append_far (P:=Tryz.prog) hR 213 213 213 5 i0 Tryz.underlying213 Hi.o l.o m.o n.o (.slice (some ⟨ab,0,none⟩) 1 1) 1 [bt] (Src.ofSlice _ Tryz.underlying213 ⟨ab,0,none⟩ 1 1 (bc [bt]) rfl (fun j u hu=>by rw[Addr.add_lit,Nat.zero_add,hak.cell];simpa [bc] using hu) (fun u hu=>by simp[bc]at hu;subst hu;rfl)) (by omega) (by have:=hR.size;omega) (by have:=hR.size;omega);obtain⟨A6,c6,w6,M,hx5,_,f,_⟩:=L.o.run_append_far (P:=Tryz.prog) hR 213 213 213 5 i0 Tryz.underlying213 Hi.o l.o m.o n.o (.slice (some ⟨ab,0,none⟩) 1 1) 1 [bt] (Src.ofSlice _ Tryz.underlying213 ⟨ab,0,none⟩ 1 1 (bc [bt]) rfl (fun j u hu=>by rw[Addr.add_lit,Nat.zero_add,hak.cell];simpa [bc] using hu) (fun u hu=>by simp[bc]at hu;subst hu;rfl)) (by omega) (by have:=hR.size;omega) (by have:=hR.size;omega);have e6:=B.symm.trans M;simp only[Result.ok.injEq,Value.slice.injEq,true_and]at e6;obtain⟨⟨rfl,rfl⟩,rfl⟩:=e6;refine J8 (.tmp 19) (.tmp 24) 213 rfl rfl rfl B ⟨trivial,⟨A5,c5,by simp,by simpa using g,by simpa using hx5,((hR.mono (by omega)).trans hb5),hk5.trans (hR.block b hbr),f.trans (hR.block xb hxr)⟩,hall w1 C⟩
       case tailD =>
        intro vs W hv hR a;obtain⟨v0,v1,v2,v3,v4,v5,v6,v7,v8,v9,v10,rfl⟩:=Ai hv;simp only[List.zip,List.zipWith,aZ,Act.put,List.setIfInBounds_toArray,List.set,List.drop];have e0:v0=_:=a 0 v0 rfl _ rfl;have e1:v1=_:=a 1 v1 rfl _ rfl;have e2:v2=_:=a 2 v2 rfl _ rfl;have e3:v3=_:=a 3 v3 rfl _ rfl;have e4:v4=_:=a 4 v4 rfl _ rfl;have e5:v5=_:=a 5 v5 rfl _ rfl;have e6:v6=_:=a 6 v6 rfl _ rfl;have e7:v7=_:=a 7 v7 rfl _ rfl;have e8:v8=_:=a 8 v8 rfl _ rfl;obtain⟨ab,ea,hab,hak⟩:∃b0,v9= .slice (some ⟨b0,0,none⟩) 1 1/\wr.heap.size<=b0/\Bk W b0 5 #[.int .u8 (bt.toNat:Int)]:=a 9 v9 rfl;have em: (WxP b base xb (cs++ [bt]) wr) v10 W:=a 10 v10 rfl;subst e0 e1 e2 e3 e4 e5 e6 e7 e8 ea;clear a hv hR hak hab;obtain⟨A5,c5,ev,g,hx5,hb5,hk5,f⟩:=em;subst ev;have D:Hid (Bk W b 283 #[.slice A cs.length c,.bool false]):=hk5.trans t.o;have E:=ai g;have N:=ai hx5;have O:Hid (W.heap[xb]? =w.heap[xb]?):=f.trans hX.o;have U:=hb5.size;have Q:Hid (Below b w W):=hB.o.trans (hb5.mono (by omega));obtain⟨z0,z1,g0,_⟩:=D.o.two;have hcl: (cs++ [bt]).length=cs.length+1:=by simp
        clear g hx5 hb5 hk5 f y0 y1 f0;go_wp2_with fail;go_roundw
        case rel =>
         refine⟨j+1,by omega,by rw[<-HQ.o];congr 1;omega,?_,Q.o.setCell (p:=⟨b,0,none⟩) aj _,by simp[World.setCell];omega,(Z8 W ⟨b,0,none⟩ _ xb r.o).trans O.o⟩;show Wrx _ _ _ _ (bs++ (ay ((x:Int),(y:Int))).take (8*k+j+1));rw[s.o];refine⟨⟨A5,c5,?_,E.o.far rfl _,(E.o.far (p:=⟨b,0,none⟩) rfl _).join N.o⟩,by omega,by simp[World.setCell];omega,r.o,by simp[World.setCell];omega⟩;have:=D.o.set 0 (.slice A5 (cs++ [bt]).length c5)
         simpa using this
        case measure=>have:=HQ.o;simp[intOf];omega
     . have hji:¬(0:Int)<=56 - 8* (j:Int):=by omega
       have R:Hid (j=8):=by show _=_;omega
       generalize hq:56 - 8* (j:Int)=q at *;clear hq;go_wp2_with fail;go_roundw
       case rel=>exact⟨k+1,by omega,by go_num,by show Wrx _ _ _ _ _;have h1:=hT.o;rw[R.o]at h1;exact h1,hB.o,hwz,hX.o⟩
       case measure=>simp[intOf];omega
  . have hlz:¬(k:Int)<2:=by omega
    have S:Hid (k=2):=by show _=_;omega
    have hT2:=hT.o;rw[S.o,ZU (by rw[iE];omega)]at hT2;have HT2:=ai hT2;clear hT2;go_wp2_with fail
    go_end0
    exact⟨rfl,HT2.o,hB.o,hwz,hX.o⟩
theorem yL{w:VA}{b base:Nat}{bs:VD}(h:Wrt w b base bs)(h0:0<b):Wrx w b base (b - 1) bs:=by
 obtain⟨A,c,h1,h2⟩:=h.ex;have hl:=h.lt;have hz:=h.le;refine⟨⟨A,c,h1,h2,h2.len,h2.le,h2.max,fun hc=>?_⟩,hl,hz,by omega,by omega⟩;obtain⟨q,off,e,g1,g2⟩:=h2.lies hc;exact⟨q,off,e,⟨g1.1,by omega⟩,g2⟩
theorem WrxEnd.wrt{b base x:Nat}{bs:VD}{w w':VA}{e:Ending}(h:WrxEnd b base x bs w e w'):uI b base bs w e w':=⟨h.1,h.2.1.wrt,h.2.2.1,h.2.2.2.1⟩
theorem kK(b base k:Nat)(bs:VD)(w:VA)(h:Wrt w b base bs)(hk:k<=1099511627776)(hn:bs.length<=1000000)(h0:0<b) :
  Calls Tryz.prog 205 #[.pointer (some ⟨b,0,none⟩),.int .i64 k] w (uI b base (bs++ak k) w):=(FW b base _ k bs w (yL h h0) hk hn).mono fun _ _=>WrxEnd.wrt
theorem oL(b base:Nat)(s:VB)(bs:VD)(w:VA)(h:Wrt w b base bs)(hk:s.size<=65536)(hn:bs.length<=1000000)(h0:0<b) :
  Calls Tryz.prog 206 #[.pointer (some ⟨b,0,none⟩),.string s] w (uI b base (bs++ax (toL s)) w):=(FU b base _ s bs w (yL h h0) hk hn).mono fun _ _=>WrxEnd.wrt
theorem BM(b base:Nat)(d:Dig)(hd:WfD d)(bs:VD)(w:VA)(h:Wrt w b base bs)(hn:bs.length<=1000000)(h0:0<b) :
  Calls Tryz.prog 207 #[.pointer (some ⟨b,0,none⟩),az d] w (uI b base (bs++ay d) w):=(FV b base _ d hd bs w (yL h h0) hn).mono fun _ _=>WrxEnd.wrt
@[go_sem] theorem Vk : Tryz.prog.eqGuardType Tryz.prog.depth 50 = false := by kernel_rfl
theorem Uu(dd:Nat)(a b c d:Int)(w:VA): (Op.equalIn (dd+2) 50 (.agg #[.int .u64 a,.int .u64 b]) (.agg #[.int .u64 c,.int .u64 d])).run Tryz.prog w= .ok (a == c && b == d) w:=by
 have u3:=Tryz.underlying48;have a3:=Tryz.isAgg48;have z3:=Tryz.sizeOf48;rw[Op.equalIn];simp only[Sem.run_bind,run_underlying Tryz.underlying50,Result.andThen_ok];simp only[Std.Legacy.Range.forIn_eq_forIn_range',Std.Legacy.Range.size,Nat.sub_zero,Nat.add_sub_cancel,Nat.div_one,List.range'_succ,List.range'_zero,List.forIn_cons,List.forIn_nil]
 go_simp
 by_cases h1:a=c <;> by_cases h2:b=d <;> simp[h1,h2]
@[go_sem high] theorem Vu (a b c d : Int) (w : VA) : (Op.equalIn 10000 50 (.agg #[.int .u64 a, .int .u64 b]) (.agg #[.int .u64 c, .int .u64 d])).run Tryz.prog w = .ok (a == c && b == d) w := Uu 9998 a b c d w
def iL(d:VB):Array VC:=#[.int .i64 1,.string d,.slice none 0 0,.int .u64 0,.int .u64 0,.slice none 0 0,.string ⟨#[]⟩,.int .i64 0,.string ⟨#[]⟩]
theorem NI{w:VA}{a:Array VC}{b:Nat}{d:VB}(ha:a[2]?.getD undef= .pointer (some ⟨b,0,none⟩))(h:Bk w b 109 (iL d)): (results Tryz.f197 a).run Tryz.prog w= .ok (.agg (iL d)) w:=by
 have c0:=h.cell 0;have c1:=h.cell 1;have c2:=h.cell 2;have c3:=h.cell 3;have c4:=h.cell 4;have c5:=h.cell 5;have c6:=h.cell 6;have c7:=h.cell 7;have c8:=h.cell 8;simp[iL]at c0 c1 c2 c3 c4 c5 c6 c7 c8;simp[results,Tryz.results197,ha,go_sem,iL,c0,c1,c2,c3,c4,c5,c6,c7,c8]
theorem Eu(d:VB)(w:VA):Calls Tryz.prog 197 #[.string d] w fun e w'=>e= .returned (.agg (iL d))/\VE w w':=by
 go_enter Tryz.func197,Tryz.ntmps197
 go_wp2
 have hk:Bk (w.alloc (.cells (iL d) 109)) w.heap.size 109 (iL d):=Bk.new w _ _;exact ZW (NI rfl hk) rfl ⟨rfl,(ah _ w).alloc aj _⟩
theorem KY(d:VB)(w:VA):Calls Tryz.prog 204 #[.agg (iL d)] w fun e w'=>e= .returned (.int .i64 0)/\VE w w':=by
 unfold iL
 go_enter Tryz.func204,Tryz.ntmps204
 go_wp2
 all_goals (go_ret;exact⟨rfl,(ah _ w).alloc aj _⟩)
theorem PQ(d:VB)(w:VA)(hd:d.size<=60000):Calls Tryz.prog 125 #[.agg (iL d)] w fun e w'=>e= .returned (.tuple #[.string (ofL (ak 1++ax (toL d))),.int .i64 0])/\VE w w':=by
 have hsd:=aQ d;have hle: (ax (toL d)).length<=60006:=by
  have h1:=gy 5 d.size (by omega);unfold ax;rw[af,<-hsd];omega
 have hl1: (ak 1).length=1:=by rw[eH (by omega)];rfl
 have HC:=fun w=>ai (KY d w);unfold iL at HC ⊢;obtain⟨W0,hW0⟩:=NX9 (w.alloc (.cells #[.int .i64 1,.string d,.slice none 0 0,.int .u64 0,.int .u64 0,.slice none 0 0,.string ⟨#[]⟩,.int .i64 0,.string ⟨#[]⟩] 109))
 have HB0:VF w W0:=by rw[<-hW0];exact(ah _ w).alloc aj _
 have a:Hid (Bk W0 w.heap.size 109 #[.int .i64 1,.string d,.slice none 0 0,.int .u64 0,.int .u64 0,.slice none 0 0,.string ⟨#[]⟩,.int .i64 0,.string ⟨#[]⟩]):=by rw[<-hW0];exact Bk.new w _ _
 have j:W0.heap.size=w.heap.size+1:=by rw[<-hW0];simp
 have c:=HC W0;have c0:=a.o.cell 0;have c1:=a.o.cell 1;have c2:=a.o.cell 2;have c3:=a.o.cell 3;have c4:=a.o.cell 4;have c5:=a.o.cell 5;have c6:=a.o.cell 6;have c7:=a.o.cell 7;have c8:=a.o.cell 8;simp at c0 c1 c2 c3 c4 c5 c6 c7 c8;clear HC
 go_enter Tryz.func125,Tryz.ntmps125
 go_wp2_with fail;refine c.o.mono ?_;rintro e w1 ⟨rfl,hb1⟩;have HB1:VF w w1:=HB0.o.trans (hb1.mono (by omega));have h:=ai (a.o.below hb1 (by omega));have hz1:=hb1.size;clear hb1 hW0 c0 c1 c2 c3 c4 c5 c6 c7 c8 c;obtain⟨W2,hW2⟩:=NX9 (w1.alloc (.cells #[.slice none 0 0,.bool false] 283))
 have k:W2.heap.size=w1.heap.size+1:=by rw[<-hW2];simp
 have HB2:VF w1 W2:=by rw[<-hW2];exact(ah _ w1).alloc aj _
 have HW2:Hid (Wrt W2 w1.heap.size (w1.heap.size+1) []):=⟨⟨none,0,by rw[<-hW2];exact Bk.new w1 _ _,Txt.nil _ _ _ _⟩,by omega,by omega⟩
 have f:=ai (h.o.below HB2.o (by omega));have HN:=ai (kK w1.heap.size (w1.heap.size+1) 1 [] W2 HW2.o (by omega) (by simp) (by omega));have c0:=f.o.cell 0;simp at c0
 go_wp2_with (go_at_call 205;refine HN.o.mono ?_;rintro e w3 ⟨rfl,hw3,hb3,hz3⟩;refine aO ?_)
 refine aH ?_;have HW3:=ai hw3;have HB3:VF w1 w3:=HB2.o.trans hb3;have g:=ai (f.o.below hb3 (by omega));clear hw3 hb3 hW2 c0 HN;have HS:=ai (oL w1.heap.size (w1.heap.size+1) d (([]:VD)++ak 1) w3 HW3.o (by omega) (by simp[hl1]) (by omega));have c0:=g.o.cell 0;have c1:=g.o.cell 1;simp at c0 c1
 go_wp2_with (go_at_call 206;refine HS.o.mono ?_;rintro e w4 ⟨rfl,hw4,hb4,l⟩;refine aO ?_)
 refine aH ?_;obtain⟨A,cc,hk4,b⟩:=hw4.ex;rw[List.nil_append]at hk4 b;have hln: (ak 1++ax (toL d)).length<=60007:=by rw[af,hl1];omega
 have hlz:¬(65536:Int)< ((ak 1++ax (toL d)).length:Int):=by omega
 have HB4:VF w1 w4:=HB3.o.trans hb4;have d0:=hk4.cell 0;have d1:=hk4.cell 1;simp only[List.getElem?_toArray,List.getElem?_cons_zero,List.getElem?_cons_succ]at d0 d1;have hcv:=b.run_string (P:=Tryz.prog) 213 9 5 Tryz.underlying213 Tryz.underlying5 Tryz.underlying9;obtain⟨bs,hbs⟩:=NX9 (ak 1++ax (toL d))
 rw[hbs]at d0 hcv hlz;have i:=ai hbs;clear hw4 hb4 hk4 b c0 c1 HS hln hbs;go_wp2_with fail;go_ret2
 refine⟨by rw[i.o];rfl,HB1.o.trans (HB4.o.mono (by omega))⟩
theorem Nw(d:VB)(w:VA)(hd:d.size<=60000):Calls Tryz.prog 113 #[.agg (iL d)] w fun e w'=>e= .returned (.int .i64 0)/\VE w w':=by
 have HE:=fun w=>ai (PQ d w hd);unfold iL at HE ⊢;have HB0:Hid (VE w (w.alloc (.cells #[.int .i64 1,.string d,.slice none 0 0,.int .u64 0,.int .u64 0,.slice none 0 0,.string ⟨#[]⟩,.int .i64 0,.string ⟨#[]⟩] 109))):=(ah _ w).alloc aj _;have a:=HE (w.alloc (.cells #[.int .i64 1,.string d,.slice none 0 0,.int .u64 0,.int .u64 0,.slice none 0 0,.string ⟨#[]⟩,.int .i64 0,.string ⟨#[]⟩] 109));clear HE
 go_enter Tryz.func113,Tryz.ntmps113
 go_wp2_with (go_at_call 125;refine a.o.mono ?_;rintro e w1 ⟨rfl,hb1⟩)
 go_ret
 exact⟨rfl,HB0.o.trans (hb1.mono (by simp))⟩
def qU(S:List (Nat× (VC->VA->Prop)))(vals:List VC)(i:Nat)(v:VC)(W:VA):Prop :=
 match S.lookup i with
 | some p=>p v W
 | none=>oC vals i v W
theorem Cc{β:Type _}:∀{S:List (Nat×β)}{i:Nat}{p:β},S.lookup i=some p->∃x∈S,x.2=p
 | [],i,p,h=>by cases h
 | (j,q)::S,i,p,h=>by
   rw[List.lookup_cons]at h;cases e:i == j with
   | true=>rw[e]at h;cases h;exact⟨_,List.mem_cons_self,rfl⟩
   | false =>
     rw[e]at h;obtain⟨x,hx,e⟩:=Cc h;exact⟨x,List.mem_cons_of_mem _ hx,e⟩
theorem DW{S:List (Nat× (VC->VA->Prop))}{vals:List VC}(hS:∀x∈S,∀v W W',x.2 v W->VE W W'->x.2 v W')(i:Nat)(v:VC)(W W':VA)(h:qU S vals i v W)(hb:VE W W'):qU S vals i v W':=by
 unfold qU at h ⊢;cases e:S.lookup i with
 | none=>rw[e]at h;exact h
 | some p =>
   rw[e]at h;obtain⟨x,hx,rfl⟩:=Cc e;exact hS x hx v W W' h hb
theorem Sl.en{w:VA}{B n k:Nat}{A:OA}{l:List Ent}(h:Sl w B 4 A n (flat enC l))(hk:k<n) :
  ∃b off e,A=some ⟨b,off,none⟩/\b<B/\l[k]? =some e/\w.cell? ⟨b,off+k*4,none⟩=some (.string e.nm)/\w.cell? ⟨b,off+k*4+1,none⟩=some (.bool e.dir)/\w.cell? ⟨b,off+k*4+2,none⟩=some (.int .u64 e.dg.1)/\w.cell? ⟨b,off+k*4+3,none⟩=some (.int .u64 e.dg.2):=by
 obtain⟨b,off,x,e,hb,hx,hc⟩:=h.at_ ui (by omega) hk;exact⟨b,off,x,e,hb,hx,hc 0 _ rfl,hc 1 _ rfl,hc 2 _ rfl,hc 3 _ rfl⟩
theorem Sl.dg{w:VA}{B n k:Nat}{A:OA}{l:List Dig}(h:Sl w B 2 A n (flat dgC l))(hk:k<n) :
  ∃b off d,A=some ⟨b,off,none⟩/\b<B/\l[k]? =some d/\w.cell? ⟨b,off+k*2,none⟩=some (.int .u64 d.1)/\w.cell? ⟨b,off+k*2+1,none⟩=some (.int .u64 d.2):=by
 obtain⟨b,off,x,e,hb,hx,hc⟩:=h.at_ iq (by omega) hk;exact⟨b,off,x,e,hb,hx,hc 0 _ rfl,hc 1 _ rfl⟩
theorem IJ(x y:Dig): (x.1 == y.1 && x.2 == y.2)=decide (x=y):=by
 obtain⟨a,b⟩:=x;obtain⟨c,d⟩:=y;rw[Bool.eq_iff_iff];simp
theorem lX{x:Dig}(h:x≠zD): (x.1 == 0 && x.2 == 0)=false:=by
 have:=IJ x zD;rw[decide_eq_false h]at this;exact this
theorem JZ(A:OA)(n c B:Nat)(l:List Ent)(w:VA)(h0:Sl w B 4 A n (flat enC l))(hB:B<=w.heap.size)(hok:jU l) :
  Calls Tryz.prog 264 #[.slice A n c] w fun e w'=>e= .returned (.int .i64 0)/\VE w w':=by
 have HL:=ai (h0.len ui (by omega));have H0:=ai h0;have hn:n<=200:=by rw[<-HL.o];exact hok.few
 have HA:=ai hok.all;have HS:=ai hok.asc;clear h0 hok;have hnz:¬(200:Int)< (n:Int):=by omega
 go_enter Tryz.func264,Tryz.ntmps264
 go_wp2_with fail
 go_loopw[10] (fun i wr=>∃k:Nat,i= .int .i64 (k:Int)/\k<=n/\VF w wr) (fun i _=>n - (intOf i).toNat)
 case atStart=>exact⟨0,rfl,ZX _,ah _ _⟩
 case round =>
  obtain⟨k,rfl,hk,hbw⟩:=hrel;have r:=hbw.o.size;by_cases hlt:k<n
  . have hlz: (k:Int)< (n:Int):=by omega
    obtain⟨bb,off,en,rfl,hbB,he,y0,y1,y2,y3⟩:=(H0.o.below hbw.o hB).en hlt;have HE:=ai he;have b:=ai (HA.o en (Z7 he));obtain⟨wb,hwb⟩:=NX9 (wr.alloc (.cells #[.string en.nm,.bool en.dir,.int .u64 en.dg.1,.int .u64 en.dg.2] 185))
    have s:VF wr wb:=by rw[<-hwb];exact(ah _ wr).alloc aj _
    have a:Hid (Bk wb wr.heap.size 185 #[.string en.nm,.bool en.dir,.int .u64 en.dg.1,.int .u64 en.dg.2]):=by rw[<-hwb];exact Bk.new wr _ _
    have d:VF w wb:=hbw.o.trans (s.o.mono r);have hns:=iZ b.o.nm;have hnm:=b.o.nm;have hdz:=lX b.o.nz;have t:wb.heap.size=wr.heap.size+1:=by rw[<-hwb];simp
    have h:Hid (∀j,k=j+1->∃p,Hid (Op.bytesLess en.nm.toList p.toList=false/\ (en.nm.toList == p.toList)=false)/\wb.cell? ⟨bb,off+j*4,none⟩=some (.string p)):=by
     intro j hj;obtain⟨bb',off',p,hpe,_,hp,z0,_⟩:=(H0.o.below d.o hB).en (k:=j) (by omega);cases hpe
     have hl:=HS.o j p en hp (by rw[<-hj];exact HE.o);refine⟨p.nm,⟨(xZ _ _).trans ?_,Ij fun e=>?_⟩,z0⟩
     . cases hx:less en.nm p.nm with
       | false=>rfl
       | true=>have:=jW hl hx;rw[iY]at this;cases this
     . rw[e,iY]at hl;cases hl
    have x0:=a.o.cell 0;have x2:=a.o.cell 2;have x3:=a.o.cell 3;simp at x0 x2 x3;have g:=x0;rw[<-hwb]at g;have m:=ai hwb;clear hwb he;obtain⟨nm,dir,d1,d2⟩:=en;simp only at hns hnm hdz y0 y1 y2 y3 x0 x2 x3 g m a h
    go_upto_region 8 with (first | (go_at_call 195;refine(jG nm _ (by unfold maxLen;omega)).mono ?_;rintro e w1 ⟨rfl,rfl⟩;rw[hnm]))
    rw[m.o];clear g
    go_cut[20] from 21 to 33 (fun f wx=>f= .bool false/\VF wb wx)
    case first =>
     cases k with
     | zero =>
       go_quiet(fail)
       simp only[Exit.then]
       go_step
       go_meet
       exact⟨rfl,cZ (ah _ _) _⟩
     | succ j =>
       obtain⟨p,HP,z0⟩:=h.o j rfl;have hkp: (0:Int)< ((j+1:Nat):Int):=by omega
       have hw1:IntKind.i64.wrap (((j+1:Nat):Int) - 1)= (j:Int):=by rw[yO (by omega) (by omega)];omega
       have hj1:¬(j:Int)<0:=by omega
       have hj2: (j:Int)< (n:Int):=by omega
       obtain⟨hp,hp'⟩:=HP.o
       go_quiet(fail)
       simp only[Exit.then]
       go_step
       go_meet
       exact⟨rfl,cZ (ah _ _) _⟩
    case rest =>
     obtain⟨rfl,HBc⟩:=hcut;have o:VF w wc:=d.o.trans (HBc.o.mono d.o.size);have q:=ai (a.o.below HBc.o a.o.lt);clear x0 x2 x3 y0 y1 y2 y3;have x2:=q.o.cell 2;have x3:=q.o.cell 3;simp at x2 x3;go_wp2_with fail;go_roundw
     case rel=>exact⟨k+1,by go_num,hlt,o.o⟩
     case measure=>simp[intOf];omega
  . have hlz:¬(k:Int)< (n:Int):=by omega
    go_wp2_with fail;go_ret
    exact⟨rfl,hbw.o⟩
theorem Ny(A:OA)(n c B:Nat)(l:List Dig)(d:Dig)(w:VA)(h0:Sl w B 2 A n (flat dgC l))(hB:B<=w.heap.size)(hn:n<=1000000) :
  Calls Tryz.prog 334 #[.slice A n c,az d] w fun e w'=>(∃z:Int,e= .returned (.int .i64 z)/\ ((0<=z)↔d∈l))/\VE w w':=by
 have HL:=ai (h0.len iq (by omega));have H0:=ai h0;clear h0;obtain⟨a,b⟩:=d;unfold az;obtain⟨W,hW⟩:=NX9 (w.alloc (.cells #[.int .u64 a,.int .u64 b] 50))
 have HB0:VF w W:=by rw[<-hW];exact(ah _ w).alloc aj _
 have HK:Hid (Bk W w.heap.size 50 #[.int .u64 a,.int .u64 b]):=by rw[<-hW];exact Bk.new w _ _
 have m:w.heap.size<W.heap.size:=HK.o.lt;simp only
 go_enter Tryz.func334,Tryz.ntmps334
 go_wp2_with fail;clear hW
 go_loopw[8] (fun i wr=>∃k:Nat,k<=n/\i= .int .i64 k/\Hid ((a,b)∉l.take k)/\VF W wr) (fun i _=>n - (intOf i).toNat)
 case atStart=>exact⟨0,ZX _,rfl,(fun h=>by simp at h),ah _ _⟩
 case round =>
  obtain⟨k,hk,rfl,hN,hBel⟩:=hrel;have f:VF w wr:=HB0.o.trans (hBel.o.mono HB0.o.size);by_cases hlt:k<n
  . obtain⟨bb,off,x,rfl,hbB,hx,y0,y1⟩:=(H0.o.below f.o hB).dg hlt
    have hlz: (k:Int)< (n:Int):=by omega
    obtain⟨x0,x1,_,_⟩:=(HK.o.below hBel.o m).two;have HX:=ai hx;clear hx;have hde:=IJ (a,b) x;simp only at hde;by_cases e: (a,b)=x
    . rw[decide_eq_true e]at hde
      have HM:Hid ((a,b)∈l):=by show _∈_;rw[e];exact Z7 HX.o
      clear e;obtain⟨g,j⟩:=x;simp only at y0 y1 hde;go_wp2_with fail
      go_quiet(fail)
      go_wp2_with fail;go_ret
      exact⟨⟨_,rfl,fun _=>HM.o,fun _=>by omega⟩,cZ f.o _⟩
    . rw[decide_eq_false e]at hde
      have HN:Hid ((a,b)∉l.take (k+1)):=fun hm=>by
       rw[aV HX.o]at hm;rcases List.mem_append.1 hm with hm | hm
       . exact hN.o hm
       . exact e (List.mem_singleton.1 hm)
      clear e;obtain⟨g,j⟩:=x;simp only at y0 y1 hde;go_wp2_with fail
      go_quiet(fail)
      go_wp2_with fail;go_roundw
      case rel=>exact⟨k+1,by omega,by go_num,HN.o,cZ hBel.o _⟩
      case measure=>simp[intOf];omega
  . have hlz:¬(k:Int)< (n:Int):=by omega
    have HN:Hid ((a,b)∉l):=by
     have:=hN.o
     rwa[ZU (by rw[HL.o];omega)]at this
    go_wp2_with fail;go_ret
    exact⟨⟨_,rfl,fun h=>absurd h (by decide),fun h=>absurd h HN.o⟩,f.o⟩
theorem Ba(A:OA)(n c B:Nat)(l:List Dig)(d:Dig)(w:VA)(h0:Sl w B 2 A n (flat dgC l))(hB:B<=w.heap.size)(hn:n<=1000000) :
  Calls Tryz.prog 310 #[.slice A n c,az d] w fun e w'=>e= .returned (.bool (decide (d∈l)))/\VE w w':=by
 obtain⟨W,hW⟩:=NX9 (w.alloc (.cells #[.int .u64 d.1,.int .u64 d.2] 50))
 have HB0:VF w W:=by rw[<-hW];exact(ah _ w).alloc aj _
 have HK:Hid (Bk W w.heap.size 50 #[.int .u64 d.1,.int .u64 d.2]):=by rw[<-hW];exact Bk.new w _ _
 obtain⟨x0,x1,_,_⟩:=HK.o.two;have HI:=ai (Ny A n c B l d W (h0.below (HB0.o.mono hB) aj) (by have:=HB0.o.size;omega) hn);unfold az at HI ⊢;clear h0
 go_enter Tryz.func310,Tryz.ntmps310
 go_wp2_with fail;refine HI.o.mono ?_;rintro e w1 ⟨⟨z,rfl,hz⟩,hb⟩;have HZ:=ai hz;have HB1:VF w w1:=HB0.o.trans (hb.mono HB0.o.size);clear hz hb;by_cases h:0<=z
 . have HM:Hid (d∈l):=HZ.o.1 h
   go_wp2_with fail;go_ret
   exact⟨bF (by rw[decide_eq_true HM.o]),HB1.o⟩
 . have HM:Hid (d∉l):=fun hm=>h (HZ.o.2 hm)
   go_wp2_with fail;go_ret
   exact⟨bF (by rw[decide_eq_false HM.o];simp;omega),HB1.o⟩
structure Osl where
 eA:OA
 en:Nat
 ec:Nat
 pA:OA
 pn:Nat
 pc:Nat
def obC(o:Ob)(s:Osl):Array VC:=#[.int .i64 o.kind,.string o.data,.slice s.eA s.en s.ec,.int .u64 o.tree.1,.int .u64 o.tree.2,.slice s.pA s.pn s.pc,.string o.auth,.int .i64 o.time,.string o.msg]
def obV(o:Ob)(s:Osl):VC:= .agg (obC o s)
structure ObM(w:VA)(B:Nat)(o:Ob)(s:Osl):Prop where
 e:Sl w B 4 s.eA s.en (flat enC o.ents)
 p:Sl w B 2 s.pA s.pn (flat dgC o.pars)
 ele:s.en<=s.ec
 emx:s.ec<=maxLen
 ple:s.pn<=s.pc
 pmx:s.pc<=maxLen
theorem ObM.below{w w':VA}{B B':Nat}{o:Ob}{s:Osl}(h:ObM w B o s)(hb:Below B' w w')(hB:B<=B'):ObM w' B o s:=⟨h.e.below hb hB,h.p.below hb hB,h.ele,h.emx,h.ple,h.pmx⟩
theorem ObM.more{w:VA}{B B':Nat}{o:Ob}{s:Osl}(h:ObM w B o s)(hB:B<=B'):ObM w B' o s:=⟨h.e.more hB,h.p.more hB,h.ele,h.emx,h.ple,h.pmx⟩
theorem ObM.elen{w:VA}{B:Nat}{o:Ob}{s:Osl}(h:ObM w B o s):o.ents.length=s.en:=h.e.len ui (by omega)
theorem ObM.plen{w:VA}{B:Nat}{o:Ob}{s:Osl}(h:ObM w B o s):o.pars.length=s.pn:=h.p.len iq (by omega)
theorem Bk.nine{w:VA}{b:Nat}{t:TypeId}{x0 x1 x2 x3 x4 x5 x6 x7 x8:VC}(h:Bk w b t #[x0,x1,x2,x3,x4,x5,x6,x7,x8]):w.cell? ⟨b,0,none⟩=some x0/\w.cell? ⟨b,1,none⟩=some x1/\w.cell? ⟨b,2,none⟩=some x2/\w.cell? ⟨b,3,none⟩=some x3/\w.cell? ⟨b,4,none⟩=some x4/\w.cell? ⟨b,5,none⟩=some x5/\w.cell? ⟨b,6,none⟩=some x6/\w.cell? ⟨b,7,none⟩=some x7/\w.cell? ⟨b,8,none⟩=some x8:=by
 have c0:=h.cell 0;have c1:=h.cell 1;have c2:=h.cell 2;have c3:=h.cell 3;have c4:=h.cell 4;have c5:=h.cell 5;have c6:=h.cell 6;have c7:=h.cell 7;have c8:=h.cell 8;simp at c0 c1 c2 c3 c4 c5 c6 c7 c8;exact⟨c0,c1,c2,c3,c4,c5,c6,c7,c8⟩
theorem Le(o:Ob)(s:Osl)(B:Nat)(w:VA)(hm:ObM w B o s)(hB:B<=w.heap.size)(hc:OkC o) :
  Calls Tryz.prog 265 #[obV o s] w fun e w'=>e= .returned (.int .i64 0)/\VE w w':=by
 have HL:=ai hm.plen;have HP:=ai hm.p;have hn:s.pn<=8:=by have:=hc.pars.few;rw[HL.o]at this;exact this
 have c:=ai hc.pars;have hpc:=hm.ple;have hpm:=hm.pmx;have htz:=lX hc.nz;have l:=hc.auth;have hns:=iZ hc.auth;have ht0:=hc.t0;have ht1:=hc.t1;have hms:=hc.msg;obtain⟨kind,data,z,⟨t1,t2⟩,pars,auth,time,msg⟩:=o;obtain⟨eA,en,ec,pA,n,pc⟩:=s;simp only at HL HP hn c hpc hpm htz l hns ht0 ht1 hms;simp only[obV,obC];have hnm:n<=9223372036854775807:=by omega
 have hnz:¬(8:Int)< (n:Int):=by omega
 have hq1:¬time<0:=by omega
 have hq2:¬(1099511627776:Int)<time:=by omega
 have hq3:¬(200:Int)< (msg.size:Int):=by omega
 obtain⟨W0,hW⟩:=NX9 (w.alloc (.cells #[.int .i64 kind,.string data,.slice eA en ec,.int .u64 t1,.int .u64 t2,.slice pA n pc,.string auth,.int .i64 time,.string msg] 109))
 have HB0:VF w W0:=by rw[<-hW];exact(ah _ w).alloc aj _
 have HK:Hid (Bk W0 w.heap.size 109 #[.int .i64 kind,.string data,.slice eA en ec,.int .u64 t1,.int .u64 t2,.slice pA n pc,.string auth,.int .i64 time,.string msg]):=by rw[<-hW];exact Bk.new w _ _
 have A:w.heap.size<W0.heap.size:=HK.o.lt;obtain⟨c0,c1,c2,c3,c4,c5,c6,c7,c8⟩:=HK.o.nine;clear hm hc
 go_enter Tryz.func265,Tryz.ntmps265
 go_wp2_with fail;clear hW
 go_loopw[16] (fun i wr=>∃k:Nat,i= .int .i64 (k:Int)/\k<=n/\VF W0 wr) (fun i _=>n - (intOf i).toNat)
 case atStart=>exact⟨0,rfl,ZX _,ah _ _⟩
 case round =>
  obtain⟨k,rfl,hk,hbw⟩:=hrel;have m:=hbw.o.size;have f:VF w wr:=HB0.o.trans (hbw.o.mono HB0.o.size);clear c0 c1 c2 c3 c4 c5 c6 c7 c8;obtain⟨c0,c1,c2,c3,c4,c5,c6,c7,c8⟩:=(HK.o.below hbw.o A).nine;by_cases hlt:k<n
  . have hlz: (k:Int)< (n:Int):=by omega
    obtain⟨bb,off,d,rfl,hbB,hd,y0,y1⟩:=(HP.o.below f.o hB).dg hlt;have HD:=ai hd;have hdz:=lX (c.o.nz d (Z7 hd));have t:Hid (d∉pars.take k):=fun hm=>by
     obtain⟨j,hj,e⟩:=List.getElem_of_mem hm;rw[List.getElem_take]at e;have h1:=List.getElem?_eq_some_iff.1 HD.o;rw[List.length_take]at hj;have:=(List.getElem_inj (h₀:=by omega) (h₁:=h1.1) c.o.nod).1 (e.trans h1.2.symm);omega
    obtain⟨d1,d2⟩:=d;simp only at y0 y1 hdz;obtain⟨wb,hwb⟩:=NX9 (wr.alloc (.cells #[.int .u64 d1,.int .u64 d2] 50))
    have g:VF wr wb:=by rw[<-hwb];exact(ah _ wr).alloc aj _
    have q:Hid (Bk wb wr.heap.size 50 #[.int .u64 d1,.int .u64 d2]):=by rw[<-hwb];exact Bk.new wr _ _
    have C:wb.heap.size=wr.heap.size+1:=by rw[<-hwb];simp
    have b:VF w wb:=f.o.trans (g.o.mono (by omega));have x:Hid (∀Z,VE wb Z->Calls Tryz.prog 310 #[.slice (some ⟨bb,off,none⟩) k pc,.agg #[.int .u64 d1,.int .u64 d2]] Z fun e w'=>e= .returned (.bool false)/\VE Z w'):=fun Z hZ=>by
     have hs:Sl Z B 2 (some ⟨bb,off,none⟩) k (flat dgC (pars.take k)):=by
      have h1:=(HP.o.below b.o hB).below hZ (by have:=b.o.size;omega);refine⟨by rw[ig iq,List.length_take,HL.o];rw[Nat.min_eq_left (by omega)],fun h0=>?_⟩;obtain⟨b',o',e1,e2,e3⟩:=h1.2 (by omega);refine⟨b',o',e1,e2,fun j u hu=>e3 j u ?_⟩;rw[rX iq]at hu;have hjl:=(List.getElem?_eq_some_iff.1 hu).1;rw[List.getElem?_take,if_pos (by rw[List.length_take]at hjl;omega)]at hu;exact hu
     have h:=Ba (some ⟨bb,off,none⟩) k pc B (pars.take k) (d1,d2) Z hs (by have:=hZ.size;have:=b.o.size;omega) (by omega);rw[decide_eq_false t.o]at h;exact h
    have b0:=q.o.cell 0;have b1:=q.o.cell 1;simp at b0 b1;have e5:=(HK.o.below (hbw.o.trans (g.o.mono m)) A).nine.2.2.2.2.2.1;have hsl:∀Z:VA,(Instr.sliceAt 47 (.slice (some ⟨bb,off,none⟩) n pc) none (some (.int .i64 k)) none).run Tryz.prog Z= .ok (.slice (some ⟨bb,off,none⟩) k pc) Z:=fun Z=>by
     obtain⟨i0,hi0,_⟩:=info_parts lZ;exact ry 47 i0 Tryz.underlying47 hi0 _ n pc k (by omega) Z
    have y:=ai hwb;clear hd hwb
    go_upto_region 10 with fail
    rw[y.o];refine mD 5 (24::25::26::27::28:: []) (by kernel_rfl) (by kernel_rfl) (by kernel_rfl) (fun W=>VE wb W) (fun W W'=>VE W W')
     (oC ((.pointer (some ⟨w.heap.size,5,none⟩)):: (.slice (some ⟨bb,off,none⟩) n pc):: (.int .i64 (k:Int)):: (.slice (some ⟨bb,off,none⟩) k pc):: (.agg #[.int .u64 d1,.int .u64 d2]):: [])) (fun W W' h1 h2=>h1.trans (h2.mono h1.size)) (fun i v W W' h _=>h) (ah _ _).drew ?stepC ?tailC
    case stepC =>
     intro i o vs W hi ho hv hR a;obtain⟨v0,v1,v2,v3,v4,rfl⟩:=ls5 hv;simp only[List.zip,List.zipWith,aZ,Act.put,List.setIfInBounds_toArray,List.set];have D:=hR.size;have g5:=(hR.cell (p:=⟨w.heap.size,5,none⟩) (by show w.heap.size<_;omega)).trans e5;have g0:=(hR.cell (p:=⟨wr.heap.size,0,none⟩) (by show wr.heap.size<_;omega)).trans b0;have g1:=(hR.cell (p:=⟨wr.heap.size,1,none⟩) (by show wr.heap.size<_;omega)).trans b1
     match i,hi,ho with
     | 0,_,rfl =>
       exact .inl ⟨rfl,aS (v:= .pointer (some ⟨w.heap.size,5,none⟩)) (w':=W) (by go_simp) ⟨ah _ _,fun _=>aT⟩⟩
     | 1,_,rfl =>
       have e0:v0=_:=a ⟨0,.data⟩ (by simp) rfl v0 rfl _ rfl;subst e0;exact .inl ⟨rfl,aS (v:= .slice (some ⟨bb,off,none⟩) n pc) (w':=W) (by go_simp) ⟨ah _ _,fun _=>aT⟩⟩
     | 2,_,rfl =>
       exact .inl ⟨rfl,aS (v:= .int .i64 (k:Int)) (w':=W) (by go_simp) ⟨ah _ _,fun _=>aT⟩⟩
     | 3,_,rfl =>
       have e1:v1=_:=a ⟨1,.data⟩ (by simp) rfl v1 rfl _ rfl;have e2:v2=_:=a ⟨2,.data⟩ (by simp) rfl v2 rfl _ rfl;subst e1 e2;exact .inl ⟨rfl,aS (v:= .slice (some ⟨bb,off,none⟩) k pc) (w':=W) (by go_simp) ⟨ah _ _,fun _=>aT⟩⟩
     | 4,_,rfl =>
       exact .inl ⟨rfl,aS (v:= .agg #[.int .u64 d1,.int .u64 d2]) (w':=W) (by go_simp) ⟨ah _ _,fun _=>aT⟩⟩
     | i+5,hi,_=>exact absurd hi (by omega)
    case tailC =>
     intro vs W hv hR a;obtain⟨v0,v1,v2,v3,v4,rfl⟩:=ls5 hv;simp only[List.zip,List.zipWith,aZ,Act.put,List.setIfInBounds_toArray,List.set,List.drop];have e0:v0=_:=a 0 v0 rfl _ rfl;have e1:v1=_:=a 1 v1 rfl _ rfl;have e2:v2=_:=a 2 v2 rfl _ rfl;have e3:v3=_:=a 3 v3 rfl _ rfl;have e4:v4=_:=a 4 v4 rfl _ rfl;subst e0 e1 e2 e3 e4;clear a hv;have r:VF W0 W:=hbw.o.trans ((g.o.trans (hR.mono (by omega))).mono m);have HR:=ai hR;clear hR
     go_wp2_with (first | (go_at_call 310;refine(x.o _ HR.o).mono ?_;rintro e w3 ⟨rfl,hb3⟩;refine aO ?_))
     refine aH ?_;have HB3:VF W0 w3:=r.o.trans (hb3.mono r.o.size);clear hb3;go_wp2_with fail;go_roundw
     case rel=>exact⟨k+1,by go_num,hlt,HB3.o⟩
     case measure=>simp[intOf];omega
  . have hlz:¬(k:Int)< (n:Int):=by omega
    go_wp2_with (first | (go_at_call 195;refine(jG auth _ (by unfold maxLen;omega)).mono ?_;rintro e w1 ⟨rfl,rfl⟩;rw[l]))
    go_ret
    exact⟨rfl,f.o⟩
theorem NoC.flds{o:Ob}(h:NoC o):o.tree= (0,0)/\o.pars.length=0/\o.auth= ⟨#[]⟩/\o.time=0/\o.msg= ⟨#[]⟩:=⟨h.tree,by rw[h.pars];rfl,h.auth,h.time,h.msg⟩
theorem Lu(o:Ob)(s:Osl)(B:Nat)(w:VA)(hm:ObM w B o s)(hB:B<=w.heap.size)(hf:OkF o) :
  Calls Tryz.prog 204 #[obV o s] w fun e w'=>e= .returned (.int .i64 0)/\VE w w':=by
 obtain⟨W0,hW⟩:=NX9 (w.alloc (.cells (obC o s) 109))
 have HB0:VF w W0:=by rw[<-hW];exact(ah _ w).alloc aj _
 have HK:Hid (Bk W0 w.heap.size 109 (obC o s)):=by rw[<-hW];exact Bk.new w _ _
 have hm0:=hm.below (HB0.o.mono hB) aj;have hel:=hm.elen;have hpl:=hm.plen;cases hf with
 | blob k e c d =>
   obtain⟨h1,h2,h3,h4,h5⟩:=c.flds;have he0:s.en=0:=by rw[<-hel,e];rfl
   have hp0:s.pn=0:=by rw[<-hpl];exact h2
   obtain⟨kind,data,ents,tree,a,b,time,msg⟩:=o;obtain⟨eA,en,ec,pA,n,pc⟩:=s;simp only at h1 h3 h4 h5 he0 hp0 k;subst h1 h3 h4 h5 he0 hp0;simp only[obV,obC]at hW HK ⊢;obtain⟨c0,c1,c2,c3,c4,c5,c6,c7,c8⟩:=HK.o.nine;clear hm hm0 hel hpl e c d h2;rcases k with rfl | rfl
   all_goals
    go_enter Tryz.func204,Tryz.ntmps204
    go_wp2
    go_ret
    exact⟨rfl,HB0.o⟩
 | tree k d c e =>
   obtain⟨h1,h2,h3,h4,h5⟩:=c.flds;have hp0:s.pn=0:=by rw[<-hpl];exact h2
   have HE:=ai (JZ s.eA s.en s.ec B o.ents W0 hm0.e (by have:=HB0.o.size;omega) e);obtain⟨kind,data,ents,tree,a,b,time,msg⟩:=o;obtain⟨eA,en,ec,pA,n,pc⟩:=s;simp only at h1 h3 h4 h5 hp0 k d HE;subst h1 h3 h4 h5 hp0 k d;simp only[obV,obC]at hW HK ⊢;obtain⟨c0,c1,c2,c3,c4,c5,c6,c7,c8⟩:=HK.o.nine;clear hm hm0 hel hpl e c h2
   go_enter Tryz.func204,Tryz.ntmps204
   go_wp2_with (first | (go_at_call 264;refine HE.o.mono ?_;rintro e w1 ⟨rfl,hb⟩))
   all_goals
    go_ret
    exact⟨rfl,HB0.o.trans (hb.mono HB0.o.size)⟩
 | commit k d e c =>
   have he0:s.en=0:=by rw[<-hel,e];rfl
   have HC:=ai (Le o s B W0 hm0 (by have:=HB0.o.size;omega) c);have htz:=lX c.nz;obtain⟨kind,data,ents,⟨t1,t2⟩,a,b,time,msg⟩:=o;obtain⟨eA,en,ec,pA,n,pc⟩:=s;simp only at he0 k d htz;subst he0 k d;simp only[obV,obC]at hW HK HC ⊢;obtain⟨c0,c1,c2,c3,c4,c5,c6,c7,c8⟩:=HK.o.nine;clear hm hm0 hel hpl e c
   go_enter Tryz.func204,Tryz.ntmps204
   go_wp2_with (first | (go_at_call 265;refine HC.o.mono ?_;rintro e w1 ⟨rfl,hb⟩))
   all_goals
    go_ret
    exact⟨rfl,HB0.o.trans (hb.mono HB0.o.size)⟩
def dX(x y:Int):Int:=if x<y then -1 else if y<x then 1 else 0
def orI:List Int->Int
 | []=>0
 | a::r=>if a=0 then orI r else a
theorem FZ(a b:Dig)(h:a≠b):dH a b=orI [dX a.1 b.1,dX a.2 b.2]:=by
 unfold dH;rw[if_neg h];obtain⟨a1,a2⟩:=a;obtain⟨b1,b2⟩:=b;rw[ne_eq,Prod.mk.injEq]at h;simp only[orI,dX,ltD]
 repeat' split
 all_goals first | rfl | omega
theorem Df(x:Int)(w:VA):Calls Tryz.prog 193 #[.int .u64 x] w fun e w'=>e= .returned (.bool false)/\w=w':=by
 go_enter Tryz.func193,Tryz.ntmps193
 have h: (x != x)=false:=by simp
 go_wp2
 go_ret
 exact⟨rfl,rfl⟩
theorem sW(x y:Int)(w:VA):Calls Tryz.prog 117 #[.int .u64 x,.int .u64 y] w fun e w'=>e= .returned (.int .i64 (dX x y))/\w=w':=by
 have H1:=ai (Df x w);have H2:=ai (Df y w);obtain⟨z,hz⟩:=NX9 (dX x y)
 have HZ:=ai hz;clear hz;rw[HZ.o]
 go_enter Tryz.func117,Tryz.ntmps117
 go_wp2_with fail;refine H1.o.mono ?_;rintro e w1 ⟨rfl,rfl⟩;go_wp2_with fail;refine H2.o.mono ?_;rintro e w1 ⟨rfl,rfl⟩;by_cases h:x<y
 . have hz:Hid (z= -1):=by show _=_;rw[<-HZ.o];exact if_pos h
   go_wp2_with fail;go_ret
   exact⟨by rw[hz.o];rfl,rfl⟩
 . by_cases g:y<x
   . have hz:Hid (z=1):=by show _=_;rw[<-HZ.o];unfold dX;rw[if_neg h,if_pos g]
     go_wp2_with fail;go_ret
     exact⟨by rw[hz.o];rfl,rfl⟩
   . have hz:Hid (z=0):=by show _=_;rw[<-HZ.o];unfold dX;rw[if_neg h,if_neg g]
     go_wp2_with fail;go_ret
     exact⟨by rw[hz.o];rfl,rfl⟩
theorem RP(b:Nat)(t:TypeId)(x y:Int)(w:VA)(h:Bk w b t #[.int .i64 x,.int .i64 y]) :
  Calls Tryz.prog 116 #[.slice (some ⟨b,0,none⟩) 2 2] w fun e w'=>e= .returned (.int .i64 (orI [x,y]))/\w=w':=by
 obtain⟨c0,c1,_,_⟩:=h.two;have H:=ai h;clear h
 go_enter Tryz.func116,Tryz.ntmps116
 by_cases hx:x=0
 . have a: (x != 0)=false:=by simp[hx]
   have HX:=ai hx;clear hx;by_cases hy:y=0
   . have hyn: (y != 0)=false:=by simp[hy]
     have c:=ai hy;clear hy;go_wp2_with fail
     go_loopw[8] (fun i wr=>∃k:Nat,k<=2/\i= .int .i64 k/\wr=w) (fun i _=>2 - (intOf i).toNat)
     case atStart=>exact⟨0,by omega,rfl,rfl⟩
     case round =>
      obtain⟨k,hk,rfl,rfl⟩:=hrel;rcases (by omega:k=0∨k=1∨k=2) with rfl | rfl | rfl
      . go_wp2_with fail
        go_roundw
        case rel=>exact⟨1,by omega,by go_num,trivial⟩
        case measure=>simp[intOf]
      . go_wp2_with fail
        go_roundw
        case rel=>exact⟨2,by omega,by go_num,trivial⟩
        case measure=>simp[intOf]
      . go_wp2_with fail
        go_ret
        exact⟨by rw[HX.o,c.o];rfl,rfl⟩
   . have hyn: (y != 0)=true:=by simp[hy]
     have HE:Hid (orI [x,y]=y):=by show _=_;simp only[orI,HX.o,if_true];split <;> simp_all
     clear hy;go_wp2_with fail
     go_loopw[8] (fun i wr=>∃k:Nat,k<=1/\i= .int .i64 k/\wr=w) (fun i _=>2 - (intOf i).toNat)
     case atStart=>exact⟨0,by omega,rfl,rfl⟩
     case round =>
      obtain⟨k,hk,rfl,rfl⟩:=hrel;rcases (by omega:k=0∨k=1) with rfl | rfl
      . go_wp2_with fail
        go_roundw
        case rel=>exact⟨1,by omega,by go_num,trivial⟩
        case measure=>simp[intOf]
      . go_wp2_with fail
        go_ret
        exact⟨by rw[HE.o];rfl,rfl⟩
 . have a: (x != 0)=true:=by simp[hx]
   have HE:Hid (orI [x,y]=x):=by show _=_;simp[orI,hx]
   clear hx;go_wp2_with fail
   go_loopw[8] (fun i wr=>i= .int .i64 0/\wr=w) (fun i _=>0)
   case atStart=>exact⟨rfl,rfl⟩
   case round =>
    obtain⟨rfl,rfl⟩:=hrel;go_wp2_with fail;go_ret
    exact⟨by rw[HE.o];rfl,rfl⟩
def SlP(a1 a2 b1 b2:Int)(v:VC)(W:VA):Prop:=∃b0,v= .slice (some ⟨b0,0,none⟩) 2 2/\Bk W b0 3 #[.int .i64 (dX a1 b1),.int .i64 (dX a2 b2)]
def CmE(a b:Dig)(w:VA)(e:Ending)(w':VA):Prop:=e= .returned (.int .i64 (dH a b))/\VE w w'
def CmG(a b:Dig)(w:VA)(e:Ending)(w':VA):Prop:=e= .returned (.int .i64 (dH a b))/\Gro w w'
theorem Dn(a b:Dig)(w:VA):Calls Tryz.prog 55 #[az a,az b] w (CmG a b w):=by
 obtain⟨a1,a2⟩:=a;obtain⟨b1,b2⟩:=b;obtain⟨z,hz⟩:=NX9 (dH (a1,a2) (b1,b2))
 have HZ:=ai hz;have HN:Hid (((a1,a2):Dig)≠ (b1,b2)->z=orI [dX a1 b1,dX a2 b2]):=fun h=>by rw[<-hz];exact FZ _ _ h
 clear hz;unfold CmG;rw[HZ.o];have HD:Hid ((a1 == b1 && a2 == b2)=decide (((a1,a2):Dig)= (b1,b2))):=by
  show _=_;rw[Bool.eq_iff_iff];simp
 simp only[az];obtain⟨d,hW⟩:=NX9 ((w.alloc (.cells #[.int .u64 a1,.int .u64 a2] 50)).alloc (.cells #[.int .u64 b1,.int .u64 b2] 50))
 have HA:Hid (Bk d w.heap.size 50 #[.int .u64 a1,.int .u64 a2]):=by rw[<-hW];exact(Bk.new w _ _).alloc _
 have HB:Hid (Bk d (w.heap.size+1) 50 #[.int .u64 b1,.int .u64 b2]):=by
  rw[<-hW];have:=Bk.new (w.alloc (.cells #[.int .u64 a1,.int .u64 a2] 50)) 50 #[.int .u64 b1,.int .u64 b2];rw[Z9]at this;exact this
 have HL:Hid (Gro w d):=by rw[<-hW];exact((Gro.refl w).alloc _).alloc _
 have k:w.heap.size+2=d.heap.size:=by rw[<-hW];simp
 obtain⟨c0,c1,_,_⟩:=HA.o.two;obtain⟨c2,c3,_,_⟩:=HB.o.two;have g:=ai (fun w=>sW a1 b1 w);have HC2:=ai (fun w=>sW a2 b2 w);by_cases h: ((a1,a2):Dig)= (b1,b2)
 . have hd:=HD.o
   rw[decide_eq_true h]at hd;have H0:Hid (z=0):=by show _=_;rw[<-HZ.o];exact(sF _ _).2 h
   clear h
   go_enter Tryz.func55,Tryz.ntmps55
   go_wp2_with fail;go_ret
   exact⟨by rw[H0.o];rfl,HL.o⟩
 . have hd:=HD.o
   rw[decide_eq_false h]at hd;have H0:Hid (z=orI [dX a1 b1,dX a2 b2]):=HN.o h;clear h
   go_enter Tryz.func55,Tryz.ntmps55
   go_wp2_with fail;have j:Hid (∀x∈ [(10,SlP a1 a2 b1 b2)],∀v W W',x.2 v W->VE W W'->x.2 v W'):=fun x hx v W W' h hb=>by
    simp only[ae]at hx;subst hx;obtain⟨b0,h1,h2⟩:=h;exact⟨b0,h1,h2.below hb h2.lt⟩
   have k0:=c0;have k1:=c1;have k2:=c2;have k3:=c3;refine mD 12 (8::9::10::11::12::13::14::15::16::17::18::19:: []) (by kernel_rfl) (by kernel_rfl) (by kernel_rfl) (fun W=>Gro d W) (fun W W'=>Gro W W')
    (qU [(10,SlP a1 a2 b1 b2)] ((.pointer (some ⟨w.heap.size,0,none⟩)):: (.int .u64 a1):: (.pointer (some ⟨w.heap.size+1,0,none⟩)):: (.int .u64 b1):: (.int .i64 (dX a1 b1)):: (.pointer (some ⟨w.heap.size,1,none⟩)):: (.int .u64 a2):: (.pointer (some ⟨w.heap.size+1,1,none⟩)):: (.int .u64 b2):: (.int .i64 (dX a2 b2)):: (undef):: (.int .i64 (orI [dX a1 b1,dX a2 b2])):: [])) (fun W W' h1 h2=>h1.trans h2) (fun i v W W' h hb=>DW j.o i v W W' h hb.bel) (Gro.refl _).drew ?stepA ?tailA
   case stepA =>
    intro i o vs W hi ho hv hR c;obtain⟨v0,v1,v2,v3,v4,v5,v6,v7,v8,v9,v10,v11,rfl⟩:=Js hv;simp only[List.zip,List.zipWith,aZ,Act.put,List.setIfInBounds_toArray,List.set];have l:=hR.bel.size;have c0:=(hR.bel.cell (p:=⟨w.heap.size,0,none⟩) (by show w.heap.size<_;omega)).trans k0;have c1:=(hR.bel.cell (p:=⟨w.heap.size,1,none⟩) (by show w.heap.size<_;omega)).trans k1;have c2:=(hR.bel.cell (p:=⟨w.heap.size+1,0,none⟩) (by show w.heap.size+1<_;omega)).trans k2;have c3:=(hR.bel.cell (p:=⟨w.heap.size+1,1,none⟩) (by show w.heap.size+1<_;omega)).trans k3
    match i,hi,ho with
    | 0,_,rfl =>
      exact .inl ⟨rfl,aS (v:= .pointer (some ⟨w.heap.size,0,none⟩)) (w':=W) (by go_simp) ⟨Gro.refl _,fun _=>aT⟩⟩
    | 1,_,rfl =>
      have e0:v0=_:=c ⟨0,.data⟩ (by simp) rfl v0 rfl _ rfl;subst e0;exact .inl ⟨rfl,aS (v:= .int .u64 a1) (w':=W) (by go_simp) ⟨Gro.refl _,fun _=>aT⟩⟩
    | 2,_,rfl =>
      exact .inl ⟨rfl,aS (v:= .pointer (some ⟨w.heap.size+1,0,none⟩)) (w':=W) (by go_simp) ⟨Gro.refl _,fun _=>aT⟩⟩
    | 3,_,rfl =>
      have e2:v2=_:=c ⟨2,.data⟩ (by simp) rfl v2 rfl _ rfl;subst e2;exact .inl ⟨rfl,aS (v:= .int .u64 b1) (w':=W) (by go_simp) ⟨Gro.refl _,fun _=>aT⟩⟩
    | 4,_,rfl =>
      have e1:v1=_:=c ⟨1,.data⟩ (by simp) rfl v1 rfl _ rfl;have e3:v3=_:=c ⟨3,.data⟩ (by simp) rfl v3 rfl _ rfl;subst e1 e3;refine .inl ⟨rfl,mW (f:=117) (args:=#[.int .u64 a1,.int .u64 b1]) (by go_simp) ((g.o W).mono ?_)⟩;rintro e W' ⟨rfl,rfl⟩;exact⟨_,rfl,Gro.refl _,fun _=>aT⟩
    | 5,_,rfl =>
      exact .inl ⟨rfl,aS (v:= .pointer (some ⟨w.heap.size,1,none⟩)) (w':=W) (by go_simp) ⟨Gro.refl _,fun _=>aT⟩⟩
    | 6,_,rfl =>
      have e5:v5=_:=c ⟨5,.data⟩ (by simp) rfl v5 rfl _ rfl;subst e5;exact .inl ⟨rfl,aS (v:= .int .u64 a2) (w':=W) (by go_simp) ⟨Gro.refl _,fun _=>aT⟩⟩
    | 7,_,rfl =>
      exact .inl ⟨rfl,aS (v:= .pointer (some ⟨w.heap.size+1,1,none⟩)) (w':=W) (by go_simp) ⟨Gro.refl _,fun _=>aT⟩⟩
    | 8,_,rfl =>
      have e7:v7=_:=c ⟨7,.data⟩ (by simp) rfl v7 rfl _ rfl;subst e7;exact .inl ⟨rfl,aS (v:= .int .u64 b2) (w':=W) (by go_simp) ⟨Gro.refl _,fun _=>aT⟩⟩
    | 9,_,rfl =>
      have e6:v6=_:=c ⟨6,.data⟩ (by simp) rfl v6 rfl _ rfl;have e8:v8=_:=c ⟨8,.data⟩ (by simp) rfl v8 rfl _ rfl;subst e6 e8;refine .inl ⟨rfl,mW (f:=117) (args:=#[.int .u64 a2,.int .u64 b2]) (by go_simp) ((HC2.o W).mono ?_)⟩;rintro e W' ⟨rfl,rfl⟩;exact⟨_,rfl,Gro.refl _,fun _=>aT⟩
    | 10,_,rfl =>
      have e4:v4=_:=c ⟨4,.data⟩ (by simp) rfl v4 rfl _ rfl;have e9:v9=_:=c ⟨9,.data⟩ (by simp) rfl v9 rfl _ rfl;subst e4 e9;exact .inl ⟨rfl,aS (v:= .slice (some ⟨W.heap.size,0,none⟩) 2 2) (w':=W.alloc (.cells #[.int .i64 (dX a1 b1),.int .i64 (dX a2 b2)] 3)) (by go_simp) ⟨(Gro.refl W).alloc _,W.heap.size,rfl,Bk.new W _ _⟩⟩
    | 11,_,rfl =>
      obtain⟨b0,rfl,hbk⟩: (SlP a1 a2 b1 b2) v10 W:=c ⟨10,.data⟩ (by simp) rfl v10 rfl;refine .inl ⟨rfl,mW (f:=116) (args:=#[.slice (some ⟨b0,0,none⟩) 2 2]) (by go_simp) ((RP b0 3 _ _ W hbk).mono ?_)⟩;rintro e W' ⟨rfl,rfl⟩;exact⟨_,rfl,Gro.refl _,fun _=>aT⟩
    | i+12,hi,_=>exact absurd hi (by omega)
   case tailA =>
    intro vs W hv hR c;obtain⟨v0,v1,v2,v3,v4,v5,v6,v7,v8,v9,v10,v11,rfl⟩:=Js hv;simp only[List.zip,List.zipWith,aZ,Act.put,List.setIfInBounds_toArray,List.set,List.drop];have e0:v0=_:=c 0 v0 rfl _ rfl;have e1:v1=_:=c 1 v1 rfl _ rfl;have e2:v2=_:=c 2 v2 rfl _ rfl;have e3:v3=_:=c 3 v3 rfl _ rfl;have e4:v4=_:=c 4 v4 rfl _ rfl;have e5:v5=_:=c 5 v5 rfl _ rfl;have e6:v6=_:=c 6 v6 rfl _ rfl;have e7:v7=_:=c 7 v7 rfl _ rfl;have e8:v8=_:=c 8 v8 rfl _ rfl;have e9:v9=_:=c 9 v9 rfl _ rfl;have e10: (SlP a1 a2 b1 b2) v10 W:=c 10 v10 rfl;have e11:v11=_:=c 11 v11 rfl _ rfl;subst e0 e1 e2 e3 e4 e5 e6 e7 e8 e9 e11;clear c hv;obtain⟨b0,rfl,_⟩:=e10;go_wp2_with fail;go_ret
    exact⟨by rw[H0.o];rfl,HL.o.trans hR⟩
theorem xC(a b:Dig)(w:VA):Calls Tryz.prog 55 #[az a,az b] w (CmE a b w):=(Dn a b w).mono fun _ _ h=>⟨h.1,h.2.bel⟩
