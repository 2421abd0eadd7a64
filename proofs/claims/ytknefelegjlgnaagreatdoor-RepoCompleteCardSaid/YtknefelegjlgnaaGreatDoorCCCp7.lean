/-
  Lemmas of the card.
-/
import Derived.Deep.Upon
import Derived.Test.YtknefelegjlgnaaGreatDoorCCCp6
set_option maxRecDepth 100000
set_option maxHeartbeats 4000000
namespace Go.Proofs.YtknefelegjlgnaaGreatDoor
open Go.RowKit
def bc(l:UZ):List UY:=l.map fun b=>Value.int .u8 b.toNat
theorem iH(l:UZ): (bc l).length=l.length:=by simp[bc]
theorem vY(l r:UZ):bc (l++r)=bc l++bc r:=by simp[bc]
structure Txt(w:UW)(base av:Nat)(A:OA)(n c:Nat)(bs:UZ):Prop where
 len:bs.length=n
 le:n<=c
 max:c<=maxLen
 lies:0<c->∃b off,A=some ⟨b,off,none⟩/\ (base<=b/\b≠av)/\b<w.heap.size/\ (∀j,j<n->w.cell? ⟨b,off+j,none⟩= (bc bs)[j]?)/\ (∀j,j<c-> (w.cell? ⟨b,off+j,none⟩).isSome=true/\w.frozen? ⟨b,off+j,none⟩=false)
section
variable {w w' : UW} {base av n c : Nat} {A : OA} {bs : UZ}
theorem Txt.nil(w:UW)(base av:Nat)(A:OA):Txt w base av A 0 0 []:=⟨rfl,Nat.le_refl _,ZX _,fun h=>absurd h (by omega)⟩
theorem Txt.keep(h:Txt w base av A n c bs)(hs:w.heap.size<=w'.heap.size)(hk:∀k,k<w.heap.size->w'.heap[k]? =w.heap[k]?):Txt w' base av A n c bs :=
 ⟨h.len,h.le,h.max,fun h0=>by
   obtain⟨b,off,e,hb,hl,hc,hf⟩:=h.lies h0;have ec:∀o,w'.cell? ⟨b,o,none⟩=w.cell? ⟨b,o,none⟩:=fun o=>World.cell?_of_block (a:=⟨b,o,none⟩) (hk b hl);have ef:∀o,w'.frozen? ⟨b,o,none⟩=w.frozen? ⟨b,o,none⟩:=fun o=>World.frozen?_of_block (a:=⟨b,o,none⟩) (hk b hl);exact⟨b,off,e,hb,by omega,fun j hj=>(ec _).trans (hc j hj),fun j hj=>⟨by rw[ec];exact(hf j hj).1,(ef _).trans (hf j hj).2⟩⟩⟩
theorem Txt.below(h:Txt w base av A n c bs)(hb:U0 w w'):Txt w' base av A n c bs:=h.keep hb.size fun k hk=>hb.block k hk
theorem Txt.avoid{av':Nat}(h:Txt w base av A n c bs)(ha:w.heap.size<=av'):Txt w base av' A n c bs :=
 ⟨h.len,h.le,h.max,fun h0=>by
   obtain⟨b,off,e,h1,h2,h3⟩:=h.lies h0;exact⟨b,off,e,⟨h1.1,by omega⟩,h2,h3⟩⟩
theorem Ah{B b:Nat}(hb:B<=b):∀(vs:List UY)(o:Nat)(w:UW),Below B w (w.setCells b o vs)
 | [],_,w=>ah _ w
 | v::vs,o,w=>((ah B w).setCell (p:=⟨b,o,none⟩) hb v).trans (Ah hb vs (o+1) _)
theorem Ai(b:Nat):∀(vs:List UY)(o:Nat)(w:UW),(w.setCells b o vs).heap.size=w.heap.size
 | [],_,_=>rfl
 | v::vs,o,w=>by
   show((w.setCell ⟨b,o,none⟩ v).setCells b (o+1) vs).heap.size=_;rw[Ai b vs];simp
theorem Ae{b k:Nat}(hb:b≠k):∀(vs:List UY)(o:Nat)(w:UW),(w.setCells b o vs).heap[k]? =w.heap[k]?
 | [],_,_=>rfl
 | v::vs,o,w=>(Ae hb vs (o+1) _).trans (Z8 w ⟨b,o,none⟩ v k (fun e=>hb e.symm))
variable {P : Program}
theorem Txt.run_append(h:Txt w base av A n c bs)(t tx ty e:TypeId)(i:TypeInfo)(ht:P.underlying t=some (.slice e))(hi:P.info? e=some i)(hz:i.zero=some (.int .u8 0))(hsize:i.size=1)(hby:i.bytes=1)
  (x:UY) (m:Nat) (ys:UZ) (hs:Src P 1 tx x m (bc ys) w) (hmax:n+m<=140737488355328) (hbase:base<=w.heap.size) (hav:av<w.heap.size) :
  ∃A' c' w',(Builtin.append_ #[t,tx] ty #[.slice A n c,x]).run P w= .ok (.slice A' (n+m) c') w'/\Txt w' base av A' (n+m) c' (bs++ys)/\Below base w w'/\w'.heap[av]? =w.heap[av]? :=by
 have hnl:=hs.newsLen;rw[iH,Nat.mul_one]at hnl;have hs':Src P i.size tx x m (bc ys) w:=by rw[hsize];exact hs
 by_cases hfit:n+m<=c
 . rcases Nat.eq_zero_or_pos c with h0 | hc
   . subst h0
     obtain rfl:n=0:=by omega
     obtain rfl:m=0:=by omega
     obtain rfl:ys= []:=List.eq_nil_of_length_eq_zero hnl;exact⟨A,0,w,run_append_nothing (P:=P) w t tx ty e i ht hi A 0 0 aj x hs',by simpa using h,ah _ _,rfl⟩
   . obtain⟨b,off,rfl,hb,hl,hcell,hfree⟩:=h.lies hc
     have hsome:∀j,j< (bc ys).length-> (w.cell? ⟨b,off+n*i.size+j,none⟩).isSome=true:=fun j hj=>by
      rw[iH]at hj;rw[hsize,Nat.mul_one,Nat.add_assoc];exact(hfree (n+j) (by omega)).1
     have hrun:=run_append_room_src (P:=P) w t tx ty e i ht hi b off n c x m (bc ys) hs' hfit hsome (fun j hj=>by
      rw[iH]at hj;rw[hsize,Nat.mul_one,Nat.add_assoc];exact(hfree (n+j) (by omega)).2)
     refine⟨_,_,_,hrun,⟨by rw[af,h.len];omega,hfit,h.max,fun _=>⟨b,off,rfl,hb,by rw[Ai];exact hl,fun j hj=>?_,fun j hj=>⟨?_,?_⟩⟩⟩,Ah hb.1 _ _ _,Ae hb.2 _ _ _⟩
     . by_cases hj':j<n
       . rw[World.cell?_setCells_out b _ _ _ _ (fun _ _=> .inl (by show off+j<off+n*i.size;rw[hsize];omega)),hcell j hj',vY,List.getElem?_append_left (by rw[iH,h.len];exact hj')]
       . have:=World.cell?_setCells_in b (bc ys) (off+n*i.size) w hsome (j - n) (by rw[iH];omega)
         rw[hsize,Nat.mul_one,show off+n+ (j - n)=off+j by omega]at this;rw[hsize,Nat.mul_one,this,vY,List.getElem?_append_right (by rw[iH,h.len];omega),show(bc bs).length=n by rw[iH,h.len]];exact(Z5 _).symm
     . by_cases hj':n<=j/\j<n+m
       . have:=World.cell?_setCells_in b (bc ys) (off+n*i.size) w hsome (j - n) (by rw[iH];omega)
         rw[hsize,Nat.mul_one,show off+n+ (j - n)=off+j by omega]at this;rw[hsize,Nat.mul_one,this];rfl
       . rw[World.cell?_setCells_out b _ _ _ _ (fun _ _=>by show off+j<off+n*i.size∨off+n*i.size+ (bc ys).length<=off+j;rw[hsize,iH];omega)]
         exact(hfree j hj).1
     . rw[World.frozen?_setCells];exact(hfree j hj).2
 . have hold: (Builtin.firstCells i.size n (.slice A n c)).run P w.drew= .ok (bc bs).toArray w.drew:=by
     rw[hsize];rcases Nat.eq_zero_or_pos c with h0 | hc
     . subst h0
       obtain rfl:n=0:=by have:=h.le;omega
       obtain rfl:bs= []:=List.eq_nil_of_length_eq_zero h.len;cases A with
       | none=>exact run_firstCells_none w.drew 1 0 0 0
       | some a'=>exact run_firstCells_some w.drew 1 0 a' 0 0 [] (by simp) (by intro _ _ h';simp at h')
     . obtain⟨b,off,rfl,hb,hl,hcell,hfree⟩:=h.lies hc
       refine run_firstCells_some w.drew 1 n ⟨b,off,none⟩ n c (bc bs) (by rw[iH,h.len];omega) (fun j u hu=>?_);rw[Addr.add_lit];have hj:j<n:=by have:=(List.getElem?_eq_some_iff.1 hu).1;rwa[iH,h.len]at this
       exact(hcell j hj).trans hu
   have hg:c<n+m:=by omega
   have h63:n+m<=maxLen:=by unfold maxLen;omega
   have hrun:=run_append_grow_src (P:=P) w t tx ty e i (.int .u8 0) ht hi hz A n c (bc bs) hold x m (bc ys) hs' hg (by omega) (growslice_fits hg (by rw[hby];omega));have hge:=grownCap_ge w (n+m) c e;have hcm:=grownCap_le_maxLen w (n+m) c e h63;refine⟨_,_,_,hrun,⟨by rw[af,h.len];omega,hge,hcm,fun _=>⟨w.heap.size,0,rfl,⟨hbase,by omega⟩,?_,fun j hj=>?_,fun j hj=>⟨?_,?_⟩⟩⟩,((ah base w).drew).alloc hbase _,Below.heap_alloc w.drew _ av hav⟩
   . have: (w.drew.alloc (.cells ((bc bs++bc ys).toArray++Builtin.zeroCells (Value.int .u8 0).cells (grownCap w (n+m) c e - (n+m))) e)).heap.size=w.heap.size+1:=Z9 _ _
     omega
   . have e1: (w.drew.alloc (.cells ((bc bs++bc ys).toArray++Builtin.zeroCells (Value.int .u8 0).cells (grownCap w (n+m) c e - (n+m))) e)).cell? ⟨w.heap.size,j,none⟩=_:=World.cell?_alloc_new w.drew _ _ j
     rw[Nat.zero_add,e1,Array.getElem?_append_left (by simp only[List.size_toArray,af,iH,h.len];omega),List.getElem?_toArray,vY]
   . have e1: (w.drew.alloc (.cells ((bc bs++bc ys).toArray++Builtin.zeroCells (Value.int .u8 0).cells (grownCap w (n+m) c e - (n+m))) e)).cell? ⟨w.heap.size,j,none⟩=_:=World.cell?_alloc_new w.drew _ _ j
     rw[Nat.zero_add,e1];have hsz: ((bc bs++bc ys).toArray++Builtin.zeroCells (Value.int .u8 0).cells (grownCap w (n+m) c e - (n+m))).size=grownCap w (n+m) c e:=by
      rw[Array.size_append,List.size_toArray,af,iH,iH,h.len,hnl,size_zeroCells];show n+m+ (grownCap w (n+m) c e - (n+m))*1=_;omega
     rw[Array.getElem?_eq_getElem (by rw[hsz];exact hj)];rfl
   . rw[Nat.zero_add];exact World.frozen?_alloc_new w.drew _ _ j
theorem zS{ops:Array Oper}{rest:List Oper}{o:Oper}{a:Act}{Q:Exit->Act->UW->Prop}(hgd:o.guard=none)(s x:Operand)(t tx:TypeId)
  (ho:o.op= .call {callee:= .builtin .append,args:=#[s,x],argTypes:=#[t,tx]})
  (e:TypeId) (i:TypeInfo) (ht:P.underlying t=some (.slice e)) (hi:P.info? e=some i) (hz:i.zero=some (.int .u8 0)) (hsize:i.size=1) (hby:i.bytes=1)
  (A:OA) (n c:Nat) (bs:UZ) (hv:a.eval s= .slice A n c) (h:Txt w base av A n c bs)
  (xv:UY) (m:Nat) (ys:UZ) (hx:a.eval x=xv) (hs:Src P 1 tx xv m (bc ys) w) (hmax:n+m<=140737488355328) (hbase:base<=w.heap.size) (hav:av<w.heap.size)
  (hK:∀A' c' w',Txt w' base av A' (n+m) c' (bs++ys)->Below base w w'->w'.heap[av]? =w.heap[av]? ->wpList P ops Q rest (a.put o.dst (.slice A' (n+m) c')) w'):wpList P ops Q (o::rest) a w:=by
 refine wpList_plain hgd fun K hK'=>?_;obtain⟨A',c',w',hrun,h1,h2,h3⟩:=h.run_append (P:=P) t tx o.type e i ht hi hz hsize hby xv m ys hs hmax hbase hav;unfold Oper.wp;simp[execOp,ho,resolve,invoke,builtin,hv,hx,hrun,Result.andThen];exact hK' _ _ (hK A' c' w' h1 h2 h3)
theorem PS(src dst e:TypeId)(s:UX)(hs:P.underlying src=some .string)(hd:P.underlying dst=some (.slice e))(he:P.underlying e=some (.int .u8))(hz:s.size<=maxLen)(w:UW) :
  ∃A c w',(convert src dst (.string s)).run P w= .ok (.slice A s.size c) w'/\Txt w' w.heap.size (w.heap.size+1) A s.size c (toL s)/\U0 w w':=by
 refine⟨_,_,_,Lib.run_convert_string_bytes (P:=P) w src dst e s hs hd he,⟨(aQ s).symm,grownCap_ge w s.size 0 e,grownCap_le_maxLen w s.size 0 e hz,fun _=>⟨w.heap.size,0,rfl,⟨Nat.le_refl _,by omega⟩,by rw[Lib.bytesWorld_size];omega,fun j hj=>?_,fun j hj=>⟨?_,?_⟩⟩⟩,?_⟩
 . rw[Nat.zero_add,Lib.bytesWorld_cell w e s j hj]
   have hj':j<s.data.toList.length:=by rw[aQ]at hj;exact hj
   simp[bc,toL,List.getD,Z5 hj']
 . have hsz: (Lib.bytesCells w e s).size=grownCap w s.size 0 e:=by
     have:=grownCap_ge w s.size 0 e;rw[Lib.bytesCells,Array.size_append,Array.size_map,Array.size_replicate];show s.size+_=_;omega
   rw[Nat.zero_add];simp[World.cell?,Lib.bytesWorld_at_new,hsz,hj]
 . have hsz: (Lib.bytesCells w e s).size=grownCap w s.size 0 e:=by
     have:=grownCap_ge w s.size 0 e;rw[Lib.bytesCells,Array.size_append,Array.size_map,Array.size_replicate];show s.size+_=_;omega
   rw[Nat.zero_add];simp[World.frozen?,Lib.bytesWorld_at_new,hsz];omega
 . exact⟨rfl,rfl,rfl,by rw[Lib.bytesWorld_size];omega,fun k hk=>Lib.bytesWorld_at_old w e s k hk⟩
theorem Txt.run_string(h:Txt w base av A n c bs)(src dst e:TypeId)(hs:P.underlying src=some (.slice e))(he:P.underlying e=some (.int .u8))(hd:P.underlying dst=some .string) :
  (convert src dst (.slice A n c)).run P w= .ok (.string (ofL bs)) w:=by
 rcases Nat.eq_zero_or_pos c with h0 | hc
 . subst h0
   obtain rfl:n=0:=by have:=h.le;omega
   obtain rfl:bs= []:=List.eq_nil_of_length_eq_zero h.len;cases A with
   | none=>exact run_convert_bytes_nil w src e hs he 0 0 dst hd
   | some a=>exact run_convert_bytes_back w src dst e a 0 [] hs he hd (fun j hj=>by simp at hj)
 . obtain⟨b,off,rfl,_,_,hcell,_⟩:=h.lies hc
   have:=run_convert_bytes_back (P:=P) w src dst e ⟨b,off,none⟩ c bs hs he hd (fun j hj=>by
    rw[Addr.add_lit,hcell j (by rw[<-h.len];exact hj)];simp[bc,Z5 hj])
   rw[h.len]at this;exact this
end
section
open Go.Maps
def pG(l:List UX):UX->Option UY:=fun s=>if iF l s then some (.bool true) else none
theorem Tf:pG []=fun _=>none:=by funext s;simp[pG,iF]
theorem FO(l:List UX)(x:UX):pG (l++ [x])=upd (pG l) x (.bool true):=by
 funext t
 unfold pG upd iF;by_cases e:t=x
 . subst e;simp
 . have h: ((l++ [x]).any fun y=>decide (y=t))=l.any fun y=>decide (y=t):=by
     rw[List.any_append];simp[Ne.symm e]
   rw[h,if_neg e]
theorem TG(l:List UX)(x:UX): (pG l x).getD (.bool false)= .bool (iF l x):=by unfold pG;cases iF l x <;> rfl
theorem Apd.grown{w w':UW}{base size n c:Nat}{e:TypeId}{A:OA}{xs:List UY}{row:Option Nat}(h:Apd w base e size A n c xs)(hg:w.grownBy w' row)(hr:∀k,row=some k->k<base):Apd w' base e size A n c xs:=by
 rcases h with h | h
 . refine .inl (h.kept hg ?_)
   cases hv: (Value.slice A n c).ownBlock with
   | none=>exact .inl rfl
   | some k=>exact .inr fun e=>by have h1:=jy h k hv;have h2:=hr k e.symm;omega
 . exact .inr h
end
theorem FC(s:UX)(w:UW):Src Tryz.prog 1 9 (.string s) s.size (bc (toL s)) w:=Src.ofString (P:=Tryz.prog) w Tryz.underlying9 s
theorem yM: (Tryz.prog.info? 5).map (fun i=>(i.zero,i.size,i.bytes))=some (some (.int .u8 0),1,1):=by kernel_rfl
theorem Txt.far{w:UW}{base av n c:Nat}{A:OA}{bs:UZ}(h:Txt w base av A n c bs){p:Addr}(hp:p.block=av)(u:UY):Txt (w.setCell p u) base av A n c bs :=
 ⟨h.len,h.le,h.max,fun h0=>by
   obtain⟨b,off,e,h1,h2,h3,h4⟩:=h.lies h0;have hb: (w.setCell p u).heap[b]? =w.heap[b]? :=Z8 w p u b (by rw[hp];exact h1.2);have ec:∀o,(w.setCell p u).cell? ⟨b,o,none⟩=w.cell? ⟨b,o,none⟩:=fun o=>World.cell?_of_block (a:=⟨b,o,none⟩) hb;have ef:∀o,(w.setCell p u).frozen? ⟨b,o,none⟩=w.frozen? ⟨b,o,none⟩:=fun o=>World.frozen?_of_block (a:=⟨b,o,none⟩) hb;exact⟨b,off,e,h1,by simpa using h2,fun j hj=>(ec _).trans (h3 j hj),fun j hj=>⟨by rw[ec];exact(h4 j hj).1,(ef _).trans (h4 j hj).2⟩⟩⟩
theorem Eg{P:Program}{ops:Array Oper}{rest:List Oper}{o:Oper}{a:Act}{w:UW}{Q:Exit->Act->UW->Prop}(s x:Operand)(t tx:TypeId)(_:o.op= .call {callee:= .builtin .append,args:=#[s,x],argTypes:=#[t,tx]})
  (h:Hid (wpList P ops Q (o::rest) a w)):wpList P ops Q (o::rest) a w:=h
structure Wrt(w:UW)(b base:Nat)(bs:UZ):Prop where
 ex:∃A c,Bk w b 283 #[.slice A bs.length c,.bool false]/\Txt w base b A bs.length c bs
 lt:b<base
 le:base<=w.heap.size
theorem Wrt.below{w w':UW}{b base:Nat}{bs:UZ}(h:Wrt w b base bs)(hb:U0 w w'):Wrt w' b base bs:=by
 obtain⟨A,c,h1,h2⟩:=h.ex;exact⟨⟨A,c,h1.below hb h1.lt,h2.below hb⟩,h.lt,ZY h.le hb.size⟩
def um(b base:Nat)(bs:UZ)(w:UW)(e:Ending)(w':UW):Prop:=e= .returned (.tuple #[])/\Wrt w' b base bs/\Below b w w'/\w.heap.size<=w'.heap.size
section
variable {P : Program} {Q : Exit -> Act -> UW -> Prop}
theorem Ji{id:Nat}{l:List Oper}{a0:Act}{w0:UW}(n m:Nat)(hm:P.follows .mixedOrders=true)(hB:ng l n=true)
  (R:Bool->UW->Prop) (E:Bool->UW->UW->Prop) (Φ:Nat->UY->UW->Prop) (hR:∀b w w',R b w->E b w w'->R b w') (hΦ:∀b i v w w',(i=m->b=true)->Φ i v w->E b w w'->Φ i v w')
  (h0:R false {w0 with drawn:=w0.drawn+1})
  (hstep:∀(b:Bool)(i:Nat)(o:Oper)(vs:List UY)(w:UW),i<n->i≠m-> (∀om,l[m]? =some om-> (∃e∈om.after,Region.binds .any e=true/\e.on=i)->b=false)->l[i]? =some o->vs.length=n->R b w-> (∀e∈o.after,Region.binds .any e=true->∀v,vs[e.on]? =some v->Φ e.on v w) ->
    nN P l.toArray o (aX a0 ((dstsOf l n).zip vs)) w fun v w'=>E b w w'/\Φ i v w')
  (hturn:∀(o:Oper)(vs:List UY)(w:UW),l[m]? =some o->vs.length=n->R false w-> (∀e∈o.after,Region.binds .any e=true->∀v,vs[e.on]? =some v->Φ e.on v w) ->
    nN P l.toArray o (aX a0 ((dstsOf l n).zip vs)) w fun v w'=>R true w'/\Φ m v w'/\∀i u,i≠m->Φ i u w->Φ i u w')
  (hmn:m<n)
  (htail:∀(vs:List UY)(w:UW),vs.length=n->R true w-> (∀i v,vs[i]? =some v->Φ i v w)->wpList P l.toArray Q (l.drop n) (aX a0 ((dstsOf l n).zip vs)) w) :
  (Code.region id l.toArray true).wp P Q a0 w0:=by
 simp only[ng,Bool.and_eq_true,decide_eq_true_eq,List.all_eq_true]at hB;obtain⟨⟨⟨⟨⟨⟨hn,hs⟩,hc⟩,hseq⟩,hdst⟩,hnd⟩,hback⟩:=hB;have hdl: (dstsOf l n).length=n:=by simp[dstsOf];omega
 refine wp_region_any hm ?_
 -- the state:which operations have been carried out,what the temporaries hold
 have main:∀(f:Nat)(listed:Array Bool)(vs:List UY)(w:UW),HeadInv .any l.toArray n listed->vs.length=n->R (listed.getD m false) w ->
   (∀i v,i<n->listed.getD i false=true->vs[i]? =some v->Φ i v w)-> (listed.toList.take n).count false=f ->
   wpAny P .any l.toArray Q (f+ (l.length - n)) listed (aX a0 ((dstsOf l n).zip vs)) w:=by
  intro f
  induction f with
  | zero =>
    intro listed vs w inv hv hw g hcnt;have hall:∀i,i<n->listed.getD i false=true:=by
     intro i hi;have hsz:i<listed.size:=by rw[inv.size];simp;omega
     have hmem:listed.toList[i]? =some listed[i]:=by simp[hsz]
     have hne:listed[i]≠false:=by
      intro e;have hm2:false∈listed.toList.take n:=by
       rw[List.mem_take_iff_getElem];exact⟨i,by simp;omega,by simpa using e⟩
      have:=List.count_pos_iff.2 hm2;omega
     simp[hsz];simpa using hne
    have hfull:listed=jE l n:=by
     apply Array.ext
     . rw[inv.size];simp[jE]
     . intro i h1 h2
       have hil:i<l.length:=by rw[inv.size]at h1;simpa using h1
       simp only[jE,List.getElem_toArray,List.getElem_map,List.getElem_range];by_cases hi:i<n
       . have:=hall i hi;simp[h1]at this;simp[this,hi]
       . have:=inv.tail i (by omega) (by simpa using hil);simp[h1]at this;simp[this,hi]
    subst hfull;have hmt: (jE l n).getD m false=true:=hall m hmn;rw[hmt]at hw;have hw':=htail vs w hv hw (fun i v hi=>g i v (by have:=(List.getElem?_eq_some_iff.1 hi).1;omega) (hall i (by have:=(List.getElem?_eq_some_iff.1 hi).1;omega)) hi);have:=wpAny_of_seq (md:= .any) (Q':=Q) (l.drop n) n (jE l n) _ w (fun j=>by simp[List.getElem?_drop]) (by rw[List.length_drop];exact hseq) hw';rw[List.length_drop]at this
    simpa using this
  | succ f ih =>
    intro listed vs w inv hv hw g hcnt;have hun:∃i,i<n/\listed.getD i true=false:=by
     have:0< (listed.toList.take n).count false:=by omega
     have hm2:=List.count_pos_iff.1 this;rw[List.mem_take_iff_getElem]at hm2;obtain⟨i,hi,hv2⟩:=hm2;refine⟨i,by simp at hi;omega,?_⟩;have hsz:i<listed.size:=by simp at hi;omega
     rw[Array.getD_eq_getD_getElem?,Array.getElem?_eq_getElem hsz];simpa using hv2
    rw[show f+1+ (l.length - n)= (f+ (l.length - n))+1 by omega];obtain⟨i0,hi0,hu0⟩:=hun;have a:∀i∈Region.ready .any l.toArray listed,i<n:=by
     intro i hi;rcases Nat.lt_or_ge i n with h | h
     . exact h
     . exact absurd hi (tail_waits hs hc (by simpa using hn) inv _ i0 rfl hi0 hu0 i h)
    have hne:Region.ready .any l.toArray listed≠ []:=by
     -- the first operation that is not yet carried out and whose own conditions are all met:by the least such index
     intro hnil;obtain⟨m,hm1,hm2⟩:∃m,(m<n/\listed.getD m true=false)/\∀k,k<m->¬(k<n/\listed.getD k true=false):=by
      have:∀m,(m<n/\listed.getD m true=false)->∃m,(m<n/\listed.getD m true=false)/\∀k,k<m->¬(k<n/\listed.getD k true=false):=by
       intro m
       induction m using Nat.strongRecOn with
       | _ m ihm =>
         intro h;by_cases hex:∃k,k<m/\ (k<n/\listed.getD k true=false)
         . obtain⟨k,hk,hk2⟩:=hex;exact ihm k hk hk2
         . exact⟨m,h,fun k hk hk2=>hex ⟨k,hk,hk2⟩⟩
      exact this i0 ⟨hi0,hu0⟩
     have hml:m<l.length:=by omega
     have hmo:l[m]? =some l[m]:=Z5 hml;have hb1:=hback m (List.mem_range.2 hm1.1);rw[hmo]at hb1;simp only at hb1;have hmr:m∈Region.ready .any l.toArray listed:=by
      refine mem_ready.2 ⟨hm1.2,l[m],by simp,fun e he _=>?_⟩;have hlt:e.on<m:=by
       have:=(Array.all_eq_true_iff_forall_mem.1 hb1) e he
       simpa using this
      have hnot:=hm2 e.on hlt;cases hx:listed.getD e.on true with
      | true =>
        have hsz:e.on<listed.size:=by rw[inv.size];simp;omega
        simp[hsz]at hx ⊢;exact hx
      | false=>exact absurd ⟨by omega,hx⟩ hnot
     rw[hnil]at hmr;cases hmr
    refine⟨fun h=>absurd h hne,fun i hi=>?_⟩;have hin:=a i hi;obtain⟨hlf,o,ho,s⟩:=mem_ready.1 hi;have ho':l[i]? =some o:=by simpa using ho
    have hmem:o∈l.take n:=List.mem_take_iff_getElem.2 ⟨i,(by have:=(List.getElem?_eq_some_iff.1 ho').1;omega),(List.getElem?_eq_some_iff.1 ho').2⟩;have hdo:=hdst o hmem;obtain⟨d,hd⟩:=Option.isSome_iff_exists.1 hdo;have hdi: (dstsOf l n)[i]? =some d:=by
     simp[dstsOf,hin,ho',hd]
    have q:∀e∈o.after,Region.binds .any e=true->∀v,vs[e.on]? =some v->Φ e.on v w:=fun e he hb v hve=>by
     have hle:=s e he hb;have hen:e.on<n:=by have:=(List.getElem?_eq_some_iff.1 hve).1;omega
     exact g e.on v hen hle hve
    have hsz:i<listed.size:=by rw[inv.size];simp;omega
    have x:listed.toList[i]? =some false:=by
     simp[hsz]at hlf ⊢;exact hlf
    have hgo:∀v w',R ((listed.setIfInBounds i true).getD m false) w'->Φ i v w'-> (∀j u,j≠i->j<n->listed.getD j false=true->Φ j u w->Φ j u w')->wpAny P .any l.toArray Q (f+ (l.length - n)) (listed.setIfInBounds i true) ((aX a0 ((dstsOf l n).zip vs)).put o.dst v) w':=?hgo
    case hgo =>
     intro v w' hv1 hv2 hv3;rw[hd,<-vO a0 (dstsOf l n) vs i d v hnd (by rw[hdl,hv]) hdi];refine ih (listed.setIfInBounds i true) (vs.set i v) w' (inv.set hi hin) (by simpa using hv) hv1 ?_ ?_
     . intro j u hj hlj p
       by_cases e:j=i
       . subst e
         have hjl:j<vs.length:=by omega
         rw[List.getElem?_set_self hjl]at p;cases p;exact hv2
       . rw[List.getElem?_set_ne (fun h=>e h.symm)]at p
         rw[getD_set_ne false (fun h=>e h.symm)]at hlj;exact hv3 j u e hj hlj (g j u hj hlj p)
     . have: (listed.setIfInBounds i true).toList.take n= (listed.toList.take n).set i true:=by
         rw[Array.toList_setIfInBounds,List.take_set]
       rw[this];have h2:=AO (l:=listed.toList.take n) (i:=i) (by rw[List.getElem?_take,if_pos hin];exact x);omega
    have r:listed.getD i false=false:=getD_both hlf;by_cases him:i=m
    . subst him
      have c:=hturn o vs w ho' hv (by rw[r]at hw;exact hw) q;have hset: (listed.setIfInBounds i true).getD i false=true:=by simp[hsz]
      have hgo':∀v w',(R true w'/\Φ i v w'/\∀j u,j≠i->Φ j u w->Φ j u w')->wpAny P .any l.toArray Q (f+ (l.length - n)) (listed.setIfInBounds i true) ((aX a0 ((dstsOf l n).zip vs)).put o.dst v) w':=fun v w' h=>hgo v w' (by rw[hset];exact h.1) h.2.1 (fun j u hj _ _ hp=>h.2.2 j u hj hp);unfold wpOp;simp only[ho];rcases c with ⟨hw1,hw2⟩ | ⟨hw1,hw2⟩
      . rw[if_pos hw1]
        exact .inl (hw2 _ _ hgo')
      . rw[if_neg (by rw[hw1];simp)]
        exact hgo' undef w hw2
    . have hset: (listed.setIfInBounds i true).getD m false=listed.getD m false:=getD_set_ne false him
      have c:=hstep (listed.getD m false) i o vs w hin him (fun om hom ⟨e,he,hb,heo⟩=>by
       cases hx:listed.getD m false with
       | false=>rfl
       | true =>
         have:=inv.closed m om (by simpa using hom) hx e he hb;rw[heo,r]at this;cases this) ho' hv hw q
      have hgo':∀v w',(E (listed.getD m false) w w'/\Φ i v w')->wpAny P .any l.toArray Q (f+ (l.length - n)) (listed.setIfInBounds i true) ((aX a0 ((dstsOf l n).zip vs)).put o.dst v) w':=fun v w' h=>hgo v w' (by rw[hset];exact hR _ w w' hw h.1) h.2 (fun j u _ _ hlj hp=>hΦ _ j u w w' (fun e=>by subst e;exact hlj) hp h.1);unfold wpOp;simp only[ho];rcases c with ⟨hw1,hw2⟩ | ⟨hw1,hw2⟩
      . rw[if_pos hw1]
        exact .inl (hw2 _ _ hgo')
      . rw[if_neg (by rw[hw1];simp)]
        exact hgo' undef w hw2
 have inv0:HeadInv .any l.toArray n (Array.replicate l.toArray.size false) :=
  ⟨by simp,fun j oj _ hl=>(by rw[getD_replicate_false]at hl;cases hl),fun t _ ht=>getD_in (by simpa using ht) (getD_replicate_false _ _)⟩
 have:=main n (Array.replicate l.toArray.size false) ((dstsOf l n).map fun d=>a0.tmps.getD d undef) _ inv0 (by simpa using hdl) (by rw[getD_replicate_false];exact h0)
  (fun i v _ hl _=>by rw[getD_replicate_false]at hl;cases hl) (by simp;omega)
 rw[vk,show n+ (l.length - n)=l.toArray.size by simp;omega]at this;exact this
theorem Jf{id:Nat}{l:List Oper}{a0:Act}{w0:UW}(n m:Nat)(ds:List Tmp)(hm:P.follows .mixedOrders=true)(hB:ng l n=true)(hds:dstsOf l n=ds)
  (R:Bool->UW->Prop) (E:Bool->UW->UW->Prop) (Φ:Nat->UY->UW->Prop) (hR:∀b w w',R b w->E b w w'->R b w') (hΦ:∀b i v w w',(i=m->b=true)->Φ i v w->E b w w'->Φ i v w')
  (h0:R false w0.drew)
  (hstep:∀(b:Bool)(i:Nat)(o:Oper)(vs:List UY)(w:UW),i<n->i≠m-> (∀om,l[m]? =some om-> (∃e∈om.after,Region.binds .any e=true/\e.on=i)->b=false)->l[i]? =some o->vs.length=n->R b w-> (∀e∈o.after,Region.binds .any e=true->∀v,vs[e.on]? =some v->Φ e.on v w) ->
    nN P l.toArray o (aX a0 (ds.zip vs)) w fun v w'=>E b w w'/\Φ i v w')
  (hturn:∀(o:Oper)(vs:List UY)(w:UW),l[m]? =some o->vs.length=n->R false w-> (∀e∈o.after,Region.binds .any e=true->∀v,vs[e.on]? =some v->Φ e.on v w) ->
    nN P l.toArray o (aX a0 (ds.zip vs)) w fun v w'=>R true w'/\Φ m v w'/\∀i u,i≠m->Φ i u w->Φ i u w')
  (hmn:m<n)
  (htail:∀(vs:List UY)(w:UW),vs.length=n->R true w-> (∀i v,vs[i]? =some v->Φ i v w)->wpList P l.toArray Q (l.drop n) (aX a0 (ds.zip vs)) w) :
  (Code.region id l.toArray true).wp P Q a0 w0:=by
 subst hds;exact Ji n m hm hB R E Φ hR hΦ h0 hstep hturn hmn htail
end
def lQ(k:Nat)(vals:List UY)(base:Nat)(t:TypeId)(cs:Array UY)(i:Nat)(v:UY)(W:UW):Prop :=
 if i=k then ∃b0,v= .slice (some ⟨b0,0,none⟩) 1 1/\base<=b0/\Bk W b0 t cs else nX vals i v W
theorem MI{k:Nat}{vals:List UY}{base:Nat}{t:TypeId}{cs:Array UY}(i:Nat)(v:UY)(W W':UW)(h:lQ k vals base t cs i v W)(hb:U0 W W'):lQ k vals base t cs i v W':=by
 unfold lQ at h ⊢;by_cases e:i=k
 . rw[if_pos e]at h ⊢
   obtain⟨b0,h1,h2,h3⟩:=h;exact⟨b0,h1,h2,h3.below hb h3.lt⟩
 . rw[if_neg e]at h ⊢;exact h
theorem qf:∀(k n j:Nat),j<k-> (be k n)[j]? =some (UInt8.ofNat (n / 256 ^ (k - 1 - j) % 256))
 | 0,_,_,h=>by omega
 | k+1,n,0,_=>by simp[be]
 | k+1,n,j+1,h=>by
   simp only[be,List.getElem?_cons_succ];rw[qf k n j (by omega),show k+1 - 1 - (j+1)=k - 1 - j by omega]
theorem Txt.run_append_far{P:Program}{w0 w:UW}{base av n c:Nat}{A:OA}{bs:UZ}(h0:Txt w0 base av A n c bs)(hW:U0 w0 w)(t tx ty e:TypeId)(i:TypeInfo)(ht:P.underlying t=some (.slice e))(hi:P.info? e=some i)(hz:i.zero=some (.int .u8 0))(hsize:i.size=1)(hby:i.bytes=1)
  (x:UY) (m:Nat) (ys:UZ) (hs:Src P 1 tx x m (bc ys) w) (hmax:n+m<=140737488355328) (hbase:base<=w.heap.size) (hav:av<w.heap.size) :
  ∃A' c' w',(Builtin.append_ #[t,tx] ty #[.slice A n c,x]).run P w= .ok (.slice A' (n+m) c') w'/\Txt w' base av A' (n+m) c' (bs++ys)/\Below base w w'/\w'.heap[av]? =w.heap[av]? /\∀k,w0.heap.size<=k->k<w.heap.size->w'.heap[k]? =w.heap[k]? :=by
 obtain⟨A',c',w',hr,h1,h2,h3⟩:=(h0.below hW).run_append (P:=P) t tx ty e i ht hi hz hsize hby x m ys hs hmax hbase hav;refine⟨A',c',w',hr,h1,h2,h3,fun k hk1 hk2=>?_⟩;obtain⟨A2,c2,w2,hr2,_,_,g3⟩:=((h0.avoid hk1).below hW).run_append (P:=P) t tx ty e i ht hi hz hsize hby x m ys hs hmax hbase hk2;have e:=hr.symm.trans hr2;simp only[Result.ok.injEq]at e;rw[e.2];exact g3
theorem Txt.join{w w':UW}{base base' b x n c:Nat}{A:OA}{bs bs':UZ}(h:Txt w' base b A n c bs)(hx:Txt w base' x A n c bs'):Txt w' base x A n c bs :=
 ⟨h.len,h.le,h.max,fun h0=>by
   obtain⟨q,off,e,h1,h2⟩:=h.lies h0;obtain⟨q',off',e',g1,_⟩:=hx.lies h0;rw[e]at e';simp only[Option.some.injEq,Addr.mk.injEq]at e';exact⟨q,off,e,⟨h1.1,by rw[e'.1];exact g1.2⟩,h2⟩⟩
theorem Txt.run_append_two{P:Program}{w:UW}{base b x n c:Nat}{A:OA}{bs:UZ}(h:Txt w base b A n c bs)(hx:Txt w base x A n c bs)(t tx ty e:TypeId)(i:TypeInfo)(ht:P.underlying t=some (.slice e))(hi:P.info? e=some i)(hz:i.zero=some (.int .u8 0))(hsize:i.size=1)(hby:i.bytes=1)
  (xv:UY) (m:Nat) (ys:UZ) (hs:Src P 1 tx xv m (bc ys) w) (hmax:n+m<=140737488355328) (hbase:base<=w.heap.size) (hb:b<w.heap.size) (hxl:x<w.heap.size) :
  ∃A' c' w',(Builtin.append_ #[t,tx] ty #[.slice A n c,xv]).run P w= .ok (.slice A' (n+m) c') w'/\Txt w' base b A' (n+m) c' (bs++ys)/\Txt w' base x A' (n+m) c' (bs++ys)/\Below base w w'/\w'.heap[b]? =w.heap[b]? /\w'.heap[x]? =w.heap[x]? :=by
 obtain⟨A',c',w',hr,h1,h2,h3⟩:=h.run_append (P:=P) t tx ty e i ht hi hz hsize hby xv m ys hs hmax hbase hb;obtain⟨A2,c2,w2,hr2,g1,_,g3⟩:=hx.run_append (P:=P) t tx ty e i ht hi hz hsize hby xv m ys hs hmax hbase hxl;have e:=hr.symm.trans hr2;simp only[Result.ok.injEq,Value.slice.injEq,true_and]at e;obtain⟨⟨rfl,rfl⟩,rfl⟩:=e;exact⟨A',c',w',hr,h1,g1,h2,h3,g3⟩
theorem zU{P:Program}{w:UW}{base b x n c:Nat}{A:OA}{bs:UZ}{ops:Array Oper}{rest:List Oper}{o:Oper}{a:Act}{Q:Exit->Act->UW->Prop}(hgd:o.guard=none)(s xo:Operand)(t tx:TypeId)
  (ho:o.op= .call {callee:= .builtin .append,args:=#[s,xo],argTypes:=#[t,tx]})
  (e:TypeId) (i:TypeInfo) (ht:P.underlying t=some (.slice e)) (hi:P.info? e=some i) (hz:i.zero=some (.int .u8 0)) (hsize:i.size=1) (hby:i.bytes=1)
  (hv:a.eval s= .slice A n c) (h:Txt w base b A n c bs) (hx2:Txt w base x A n c bs)
  (xv:UY) (m:Nat) (ys:UZ) (hx:a.eval xo=xv) (hs:Src P 1 tx xv m (bc ys) w) (hmax:n+m<=140737488355328) (hbase:base<=w.heap.size) (hb:b<w.heap.size) (hxl:x<w.heap.size)
  (hK:∀A' c' w',Txt w' base b A' (n+m) c' (bs++ys)->Txt w' base x A' (n+m) c' (bs++ys)->Below base w w'->w'.heap[b]? =w.heap[b]? ->w'.heap[x]? =w.heap[x]? ->wpList P ops Q rest (a.put o.dst (.slice A' (n+m) c')) w'):wpList P ops Q (o::rest) a w:=by
 refine wpList_plain hgd fun K hK'=>?_;obtain⟨A',c',w',hrun,h1,h2,h3,h4,h5⟩:=h.run_append_two (P:=P) hx2 t tx o.type e i ht hi hz hsize hby xv m ys hs hmax hbase hb hxl;unfold Oper.wp;simp[execOp,ho,resolve,invoke,builtin,hv,hx,hrun,Result.andThen];exact hK' _ _ (hK A' c' w' h1 h2 h3 h4 h5)
structure Wrx(w:UW)(b base x:Nat)(bs:UZ):Prop where
 ex:∃A c,Bk w b 283 #[.slice A bs.length c,.bool false]/\Txt w base b A bs.length c bs/\Txt w base x A bs.length c bs
 lt:b<base
 le:base<=w.heap.size
 ne:x≠b
 xl:x<w.heap.size
theorem Wrx.wrt{w:UW}{b base x:Nat}{bs:UZ}(h:Wrx w b base x bs):Wrt w b base bs:=by
 obtain⟨A,c,h1,h2,_⟩:=h.ex;exact⟨⟨A,c,h1,h2⟩,h.lt,h.le⟩
theorem Wrx.below{w w':UW}{b base x:Nat}{bs:UZ}(h:Wrx w b base x bs)(hb:U0 w w'):Wrx w' b base x bs:=by
 obtain⟨A,c,h1,h2,h3⟩:=h.ex;exact⟨⟨A,c,h1.below hb h1.lt,h2.below hb,h3.below hb⟩,h.lt,ZY h.le hb.size,h.ne,Nat.lt_of_lt_of_le h.xl hb.size⟩
theorem Wrt.wrx{w w':UW}{b base:Nat}{bs:UZ}(h:Wrt w b base bs)(hb:U0 w w')(hx:w.heap.size<w'.heap.size):Wrx w' b base w.heap.size bs:=by
 obtain⟨A,c,h1,h2⟩:=h.ex;exact⟨⟨A,c,h1.below hb h1.lt,h2.below hb,(h2.avoid aj).below hb⟩,h.lt,ZY h.le hb.size,by have:=h.lt;have:=h.le;omega,hx⟩
def WrxEnd(b base x:Nat)(bs:UZ)(w:UW)(e:Ending)(w':UW):Prop:=e= .returned (.tuple #[])/\Wrx w' b base x bs/\Below b w w'/\w.heap.size<=w'.heap.size/\w'.heap[x]? =w.heap[x]?
theorem Fp(b base x:Nat)(k:Nat)(bs:UZ)(w:UW)(h:Wrx w b base x bs)(hk:k<=1099511627776)(hn:bs.length<=1000000) :
  Calls Tryz.prog 205 #[.pointer (some ⟨b,0,none⟩),.int .i64 k] w (WrxEnd b base x (bs++ak k) w):=by
 have HP:=ai (ry k hk w);have H:=ai h;have hle:=gq 5 k (by omega);obtain⟨i0,hi,hz0,hz1,hz2⟩:=info_parts yM;have Hi:=ai hi;have q:=ai hz0;have r:=ai hz1;have s:=ai hz2;clear h hi hz0 hz1 hz2
 go_enter Tryz.func205,Tryz.ntmps205
 go_wp2_with (go_at_call 107;refine HP.o.mono ?_;rintro e w1 ⟨rfl,hb1⟩;refine aN ?_)
 refine aH ?_;have H1:=H.o.below hb1;obtain⟨A,c,hk1,ht1,hx1⟩:=H1.ex;have hlt:=H1.lt;have hbase:=H1.le;have f:=ai H1.ne;have j:=ai H1.xl;have HB1:Hid (Below b w w1):=hb1.mono (by have:=H.o.lt;have:=H.o.le;omega);have l:Hid (w1.heap[x]? =w.heap[x]?):=hb1.block x H.o.xl;have hz1:=hb1.size;have a:=ai hk1;have HT1:=ai ht1;have t:=ai hx1;have c0:=a.o.cell 0;have c1:=a.o.cell 1;have f1:=a.o.free 1;simp at c0 c1;clear hb1 H1 hk1 ht1 hx1;obtain⟨W2,hW2⟩:=NX9 (w1.setCell ⟨b,1,none⟩ (.bool false))
 have g:Hid (Bk W2 b 283 #[.slice A bs.length c,.bool false]):=by
  rw[<-hW2];have:=a.o.set 1 (.bool false);show Bk _ _ _ _;simpa using this
 have HT2:Hid (Txt W2 base b A bs.length c bs):=by rw[<-hW2];exact HT1.o.far rfl _
 have u:Hid (Txt W2 base x A bs.length c bs):=HT2.o.join t.o;have HB2:Hid (Below b w W2):=by rw[<-hW2];exact HB1.o.setCell (p:=⟨b,1,none⟩) aj _
 have m:Hid (W2.heap[x]? =w.heap[x]?):=by
  show _=_;rw[<-hW2];exact(Z8 w1 ⟨b,1,none⟩ _ x f.o).trans l.o
 have y:W2.heap.size=w1.heap.size:=by rw[<-hW2];simp
 have d0:=g.o.cell 0;have g0:=g.o.free 0;simp at d0
 go_wp2_with (at_builtin;refine Eg (.tmp 26) (.tmp 27) 213 9 rfl ?_)
 refine aH ?_;refine zU (base:=base) (b:=b) (x:=x) rfl (.tmp 26) (.tmp 27) 213 9 rfl 5 i0 Tryz.underlying213 Hi.o q.o r.o s.o (A:=A) (n:=bs.length) (c:=c) (bs:=bs) rfl HT2.o u.o (.string (ofL (ak k))) (ak k).length (ak k) rfl (FC (ofL (ak k)) _) (by omega) (by omega) (by omega) (by have:=j.o;omega) ?_;intro A' c' w3 ht3 hx3 hb3 hk3 d;have i:Hid (Bk w3 b 283 #[.slice A bs.length c,.bool false]):=hk3.trans g.o;have HT3:=ai ht3;have v:=ai hx3;have o:Hid (w3.heap[x]? =w.heap[x]?):=d.trans m.o;have HB3:Hid (Below b w w3):=HB2.o.trans (hb3.mono (by omega));have hz3:=hb3.size;have e0:=i.o.cell 0;have e1:=i.o.free 0;simp at e0;clear ht3 hx3 hb3 hk3 d d0 g0 c0 c1 f1;go_wp2_with fail
 go_end0
 have hl: (bs++ak k).length=bs.length+ (ak k).length:=by simp
 refine⟨rfl,⟨⟨A',c',?_,?_,?_⟩,hlt,by simp;omega,f.o,by have:=j.o;simp;omega⟩,HB3.o.setCell (p:=⟨b,0,none⟩) aj _,by simp;omega,(Z8 w3 ⟨b,0,none⟩ _ x f.o).trans o.o⟩
 . rw[hl];have:=i.o.set 0 (.slice A' (bs.length+ (ak k).length) c');show Bk _ _ _ _;simpa using this
 . rw[hl];exact HT3.o.far rfl _
 . rw[hl];exact(HT3.o.far (p:=⟨b,0,none⟩) rfl _).join v.o
theorem Fj(b base x:Nat)(s:UX)(bs:UZ)(w:UW)(h:Wrx w b base x bs)(hk:s.size<=65536)(hn:bs.length<=1000000) :
  Calls Tryz.prog 206 #[.pointer (some ⟨b,0,none⟩),.string s] w (WrxEnd b base x (bs++ax (toL s)) w):=by
 have HP:=ai (Bz s hk w);have H:=ai h;have hle: (ax (toL s)).length<=70000:=by
  have h1:=gq 5 s.size (by omega);have h2:=aQ s;unfold ax;rw[af,<-h2];omega
 obtain⟨i0,hi,hz0,hz1,hz2⟩:=info_parts yM;have Hi:=ai hi;have o:=ai hz0;have q:=ai hz1;have r:=ai hz2;clear h hi hz0 hz1 hz2
 go_enter Tryz.func206,Tryz.ntmps206
 go_wp2_with (go_at_call 178;refine HP.o.mono ?_;rintro e w1 ⟨rfl,hb1⟩;refine aN ?_)
 refine aH ?_;have H1:=H.o.below hb1;obtain⟨A,c,hk1,ht1,hx1⟩:=H1.ex;have hlt:=H1.lt;have hbase:=H1.le;have f:=ai H1.ne;have j:=ai H1.xl;have HB1:Hid (Below b w w1):=hb1.mono (by have:=H.o.lt;have:=H.o.le;omega);have k:Hid (w1.heap[x]? =w.heap[x]?):=hb1.block x H.o.xl;have hz1:=hb1.size;have a:=ai hk1;have HT1:=ai ht1;have t:=ai hx1;have c0:=a.o.cell 0;have c1:=a.o.cell 1;have f1:=a.o.free 1;simp at c0 c1;clear hb1 H1 hk1 ht1 hx1;obtain⟨W2,hW2⟩:=NX9 (w1.setCell ⟨b,1,none⟩ (.bool false))
 have g:Hid (Bk W2 b 283 #[.slice A bs.length c,.bool false]):=by
  rw[<-hW2];have:=a.o.set 1 (.bool false);show Bk _ _ _ _;simpa using this
 have HT2:Hid (Txt W2 base b A bs.length c bs):=by rw[<-hW2];exact HT1.o.far rfl _
 have u:Hid (Txt W2 base x A bs.length c bs):=HT2.o.join t.o;have HB2:Hid (Below b w W2):=by rw[<-hW2];exact HB1.o.setCell (p:=⟨b,1,none⟩) aj _
 have l:Hid (W2.heap[x]? =w.heap[x]?):=by
  show _=_;rw[<-hW2];exact(Z8 w1 ⟨b,1,none⟩ _ x f.o).trans k.o
 have y:W2.heap.size=w1.heap.size:=by rw[<-hW2];simp
 have d0:=g.o.cell 0;have g0:=g.o.free 0;simp at d0
 go_wp2_with (at_builtin;refine Eg (.tmp 25) (.tmp 26) 213 9 rfl ?_)
 refine aH ?_;refine zU (base:=base) (b:=b) (x:=x) rfl (.tmp 25) (.tmp 26) 213 9 rfl 5 i0 Tryz.underlying213 Hi.o o.o q.o r.o (A:=A) (n:=bs.length) (c:=c) (bs:=bs) rfl HT2.o u.o (.string (ofL (ax (toL s)))) (ax (toL s)).length (ax (toL s)) rfl (FC (ofL (ax (toL s))) _) (by omega) (by omega) (by omega) (by have:=j.o;omega) ?_;intro A' c' w3 ht3 hx3 hb3 hk3 d;have i:Hid (Bk w3 b 283 #[.slice A bs.length c,.bool false]):=hk3.trans g.o;have HT3:=ai ht3;have v:=ai hx3;have m:Hid (w3.heap[x]? =w.heap[x]?):=d.trans l.o;have HB3:Hid (Below b w w3):=HB2.o.trans (hb3.mono (by omega));have hz3:=hb3.size;have e0:=i.o.cell 0;have e1:=i.o.free 0;simp at e0;clear ht3 hx3 hb3 hk3 d d0 g0 c0 c1 f1;go_wp2_with fail
 go_end0
 have hl: (bs++ax (toL s)).length=bs.length+ (ax (toL s)).length:=by simp
 refine⟨rfl,⟨⟨A',c',?_,?_,?_⟩,hlt,by simp;omega,f.o,by have:=j.o;simp;omega⟩,HB3.o.setCell (p:=⟨b,0,none⟩) aj _,by simp;omega,(Z8 w3 ⟨b,0,none⟩ _ x f.o).trans m.o⟩
 . rw[hl];have:=i.o.set 0 (.slice A' (bs.length+ (ax (toL s)).length) c');show Bk _ _ _ _;simpa using this
 . rw[hl];exact HT3.o.far rfl _
 . rw[hl];exact(HT3.o.far (p:=⟨b,0,none⟩) rfl _).join v.o
def WxP(b base xb:Nat)(bs:UZ)(w:UW)(v:UY)(w1:UW):Prop:=∃A c,v= .slice A bs.length c/\Txt w1 base b A bs.length c bs/\Txt w1 base xb A bs.length c bs/\Below base w w1/\w1.heap[b]? =w.heap[b]? /\w1.heap[xb]? =w.heap[xb]?
theorem Fg(b base xb:Nat)(d:Dig)(hd:WfD d)(bs:UZ)(w:UW)(h:Wrx w b base xb bs)(hn:bs.length<=1000000) :
  Calls Tryz.prog 207 #[.pointer (some ⟨b,0,none⟩),aA d] w (WrxEnd b base xb (bs++ay d) w):=by
 obtain⟨x,y⟩:=d;obtain⟨hx0,hx1,hy0,hy1⟩:=hd;simp only at hx0 hx1 hy0 hy1;obtain⟨x,rfl⟩:=Int.eq_ofNat_of_zero_le hx0;obtain⟨y,rfl⟩:=Int.eq_ofNat_of_zero_le hy0;have F:=ai hx1;have G:=ai hy1;clear hx0 hx1 hy0 hy1;show Calls Tryz.prog 207 #[.pointer (some ⟨b,0,none⟩),.agg #[.int .u64 x,.int .u64 y]] w _;obtain⟨i0,hi,hz0,hz1,hz2⟩:=info_parts yM;have Hi:=ai hi;have l:=ai hz0;have m:=ai hz1;have n:=ai hz2;have hlt:=h.lt;have hle:=h.le;have hxl:=h.xl;have r:=ai h.ne;obtain⟨W0,hW0⟩:=NX9 (w.alloc (.cells #[.int .u64 x,.int .u64 y] 50))
 have HB0:U6 w W0:=by rw[<-hW0];exact(ah _ _).alloc aj _
 have H:Hid (Bk W0 w.heap.size 50 #[.int .u64 x,.int .u64 y]):=by rw[<-hW0];exact Bk.new w _ _
 obtain⟨x0,x1,_,_⟩:=H.o.two;have HR0:Hid (Wrx W0 b base xb (bs++ (ay (x,y)).take (8*0))):=by
  show Wrx _ _ _ _ _;rw[Nat.mul_zero,List.take_zero,List.append_nil];exact h.below HB0.o
 have HB1:Hid (Below b w W0):=HB0.o.mono (by omega);have hz0':w.heap.size<=W0.heap.size:=HB0.o.size;have HX0:Hid (W0.heap[xb]? =w.heap[xb]?):=HB0.o.block xb hxl;clear hi hz0 hz1 hz2 h
 go_enter Tryz.func207,Tryz.ntmps207
 go_wp2_with fail;clear hW0
 go_loopw[8] (fun i wr=>∃k:Nat,k<=2/\i= .int .i64 k/\Hid (Wrx wr b base xb (bs++ (ay (x,y)).take (8*k)))/\Hid (Below b w wr)/\w.heap.size<=wr.heap.size/\Hid (wr.heap[xb]? =w.heap[xb]?)) (fun i _=>2 - (intOf i).toNat)
 case atStart=>exact⟨0,by omega,rfl,HR0.o,HB1.o,hz0',HX0.o⟩
 case round =>
  obtain⟨k,hk,rfl,hT,hB,hwz,hX⟩:=hrel;by_cases hlt2:k<2
  . have hlz: (k:Int)<2:=by omega
    obtain⟨z,hz,hix,hby⟩:∃z:Nat,Hid (z<18446744073709551616)/\ (∀w,(Instr.index 50 (.agg #[.int .u64 (x:Int),.int .u64 (y:Int)]) (.int .i64 (k:Int))).run Tryz.prog w= .ok (.int .u64 (z:Int)) w)/\ (∀j,j<8-> (ay ((x:Int),(y:Int)))[8*k+j]? =some (UInt8.ofNat (z / 256 ^ (7 - j) % 256))):=by
     rcases Nat.lt_or_ge k 1 with h1 | h1
     . obtain rfl:k=0:=by omega
       refine⟨x,by show _<_;have:=F.o;omega,fun w=>by kernel_rfl,fun j hj=>?_⟩;unfold ay;rw[List.getElem?_append_left (by rw[jq];omega),Int.toNat_natCast,show 8*0+j=j by omega];exact qf 8 x j hj
     . obtain rfl:k=1:=by omega
       refine⟨y,by show _<_;have:=G.o;omega,fun w=>by kernel_rfl,fun j hj=>?_⟩;unfold ay;rw[List.getElem?_append_right (by rw[jq];omega),Int.toNat_natCast,jq,show 8*1+j - 8=j by omega];exact qf 8 y j hj
    have I:=ai hby;clear hby;go_wp2_with fail;obtain⟨T,rfl⟩:∃T:UW,T=wr:=⟨_,rfl⟩
    go_loopw[6] (fun i wr=>∃j:Nat,j<=8/\i= .int .i64 (56 - 8* (j:Int))/\Hid (Wrx wr b base xb (bs++ (ay (x,y)).take (8*k+j)))/\Hid (Below b w wr)/\w.heap.size<=wr.heap.size/\Hid (wr.heap[xb]? =w.heap[xb]?)) (fun i _=>(intOf i+8).toNat)
    case atStart=>exact⟨0,by omega,rfl,hT,hB,hwz,hX⟩
    case round =>
     obtain⟨j,hj,rfl,hT,hB,hwz,hX⟩:=hrel;by_cases hlt:j<8
     . have hji: (0:Int)<=56 - 8* (j:Int):=by omega
       obtain⟨p,hp⟩:=NX9 (z / 256 ^ (7 - j))
       have hsh:∀yk,Op.shift .shr .u64 (z:Int) yk (56 - 8* (j:Int))=pure (.int .u64 (p:Int)):=fun yk=>by
        rw[shift_shr .u64 yk _ _ hji (by show _<= (64:Int);omega),<-hp];rw[show(56 - 8* (j:Int)).toNat=8* (7 - j) by omega];have e: ((z:Int) / 2 ^ (8* (7 - j)))= ((z / 256 ^ (7 - j):Nat):Int):=by
         rw[show(256:Nat)=2 ^ 8 from rfl,<-Nat.pow_mul];simp
        rw[e]
       have hdv: (z:Int) / 2 ^ (56 - 8* (j:Int)).toNat= (p:Int):=by
        rw[show(56 - 8* (j:Int)).toNat=8* (7 - j) by omega];have e: ((z:Int) / 2 ^ (8* (7 - j)))= ((z / 256 ^ (7 - j):Nat):Int):=by
         rw[show(256:Nat)=2 ^ 8 from rfl,<-Nat.pow_mul];simp
        rw[e,hp]
       obtain⟨bt,hbt⟩:=NX9 (UInt8.ofNat (p % 256))
       have hw:IntKind.u8.wrap (p:Int)= (bt.toNat:Int):=by
        rw[IntKind.wrap_u8,<-hbt,kT (by omega)];omega
       have J:Hid ((ay ((x:Int),(y:Int)))[8*k+j]? =some bt):=by
        show _=_;rw[I.o j hlt,hp,hbt]
       have s:Hid (bs++ (ay ((x:Int),(y:Int))).take (8*k+j+1)= (bs++ (ay ((x:Int),(y:Int))).take (8*k+j))++ [bt]):=by
        show _=_;rw[bJ J.o,ZZ]
       have hml: (bs++ (ay ((x:Int),(y:Int))).take (8*k+j)).length<=1000016:=by rw[af,List.length_take];omega
       obtain⟨cs,hcs⟩:=NX9 (bs++ (ay ((x:Int),(y:Int))).take (8*k+j))
       rw[hcs]at hml s;have hT':=hT.o;rw[hcs]at hT';obtain⟨A,c,hkw,htx,hxx⟩:=hT'.ex;have t:=ai hkw;have K:=ai htx;have L:=ai hxx;have hxr:=hT'.xl;have hbase:=hT'.le;obtain⟨y0,y1,f0,_⟩:=hkw.two;clear hp hbt hcs hkw htx hxx hT' hT x0 x1;generalize hq:56 - 8* (j:Int)=q at *;have HQ:=ai hq;have hq0:0<=q:=by omega
       have hq2:q<=56:=by omega
       have hbr:=t.o.lt;clear hq;go_wp2_with fail;refine Jf 11 10 (15::16::17::18::19::20::21::22::23::24::25:: []) (by kernel_rfl) (by kernel_rfl) (by kernel_rfl) (fun b W=>match b with | false=>U0 wr W | true=>True) (fun b W W'=>match b with | false=>U0 W W' | true=>W'=W)
        (fun i v W=>if i=10 then(WxP b base xb (cs++ [bt]) wr) v W else lQ 9 ((.pointer (some ⟨b,0,none⟩)):: (.pointer (some ⟨b,0,none⟩)):: (.pointer (some ⟨b,0,none⟩)):: (.pointer (some ⟨b,0,none⟩)):: (.slice A cs.length c):: (.int .u64 (z:Int)):: (.int .i64 q):: (.int .u64 (p:Int)):: (.int .u8 (bt.toNat:Int)):: (undef):: (undef):: []) wr.heap.size 5 #[.int .u8 (bt.toNat:Int)] i v W) ?hRD ?hPD (ah _ _).drew ?stepD ?turnD (by decide) ?tailD
       case hRD =>
        intro bq W W' h1 h2;cases bq with
        | false=>exact Below.trans h1 (Below.mono h2 (Below.size h1))
        | true=>trivial
       case hPD =>
        intro bq i v W W' hb h1 h2;cases bq with
        | true=>have h3:W'=W:=h2;rw[h3];exact h1
        | false =>
          by_cases e:i=10
          . cases hb e
          . simp only[if_neg e]at h1 ⊢;exact MI i v W W' h1 h2
       case stepD =>
        intro bq i o vs W hi hne hbd ho hv hR a;obtain⟨v0,v1,v2,v3,v4,v5,v6,v7,v8,v9,v10,rfl⟩:=zI hv;simp only[List.zip,List.zipWith,aX,Act.put,List.setIfInBounds_toArray,List.set];have hE: (fun(b:Bool)(W W':UW)=>match b with | false=>U0 W W' | true=>W'=W) bq W W:=by
         cases bq with
         | false=>exact ah _ _
         | true=>rfl
        match i,hi,ho with
        | 0,_,rfl =>
          exact .inl ⟨rfl,aS (v:= .pointer (some ⟨b,0,none⟩)) (w':=W) (by go_simp) ⟨hE,fun _=>aT⟩⟩
        | 1,_,rfl =>
          exact .inl ⟨rfl,aS (v:= .pointer (some ⟨b,0,none⟩)) (w':=W) (by go_simp) ⟨hE,fun _=>aT⟩⟩
        | 2,_,rfl =>
          have e1:v1=_:=a ⟨1,.data⟩ (by simp) rfl v1 rfl _ rfl;subst e1;exact .inl ⟨rfl,aS (v:= .pointer (some ⟨b,0,none⟩)) (w':=W) (by go_simp) ⟨hE,fun _=>aT⟩⟩
        | 3,_,rfl =>
          have e2:v2=_:=a ⟨2,.data⟩ (by simp) rfl v2 rfl _ rfl;subst e2;exact .inl ⟨rfl,aS (v:= .pointer (some ⟨b,0,none⟩)) (w':=W) (by go_simp) ⟨hE,fun _=>aT⟩⟩
        | 4,_,rfl =>
          have e3:v3=_:=a ⟨3,.data⟩ (by simp) rfl v3 rfl _ rfl;subst e3;have hb0:bq=false:=hbd _ rfl ⟨⟨4,.data⟩,by simp,rfl,rfl⟩;subst hb0;have y0':=(Below.cell hR (p:=⟨b,0,none⟩) (by show b<_;omega)).trans y0;exact .inl ⟨rfl,aS (v:= .slice A cs.length c) (w':=W) (by go_simp) ⟨hE,fun _=>aT⟩⟩
        | 5,_,rfl =>
          exact .inl ⟨rfl,aS (v:= .int .u64 (z:Int)) (w':=W) (by go_simp) ⟨hE,fun _=>aT⟩⟩
        | 6,_,rfl =>
          exact .inl ⟨rfl,aS (v:= .int .i64 q) (w':=W) (by go_simp) ⟨hE,fun _=>aT⟩⟩
        | 7,_,rfl =>
          have e5:v5=_:=a ⟨5,.data⟩ (by simp) rfl v5 rfl _ rfl;have e6:v6=_:=a ⟨6,.data⟩ (by simp) rfl v6 rfl _ rfl;subst e5 e6;exact .inl ⟨rfl,aS (v:= .int .u64 (p:Int)) (w':=W) (by go_simp) ⟨hE,fun _=>aT⟩⟩
        | 8,_,rfl =>
          have e7:v7=_:=a ⟨7,.data⟩ (by simp) rfl v7 rfl _ rfl;subst e7;exact .inl ⟨rfl,aS (v:= .int .u8 (bt.toNat:Int)) (w':=W) (by go_simp) ⟨hE,fun _=>aT⟩⟩
        | 9,_,rfl =>
          have e8:v8=_:=a ⟨8,.data⟩ (by simp) rfl v8 rfl _ rfl;subst e8;have hb0:bq=false:=hbd _ rfl ⟨⟨9,.data⟩,by simp,rfl,rfl⟩;subst hb0;have y0':=(Below.cell hR (p:=⟨b,0,none⟩) (by show b<_;omega)).trans y0;exact .inl ⟨rfl,aS (v:= .slice (some ⟨W.heap.size,0,none⟩) 1 1) (w':=W.alloc (.cells #[.int .u8 (bt.toNat:Int)] 5)) (by go_simp) ⟨(ah _ W).alloc aj _,W.heap.size,rfl,Below.size hR,Bk.new W _ _⟩⟩
        | 10,_,_=>exact absurd rfl hne
        | i+11,hi,_=>exact absurd hi (by omega)
       case turnD =>
        intro o vs W ho hv hR a;obtain⟨v0,v1,v2,v3,v4,v5,v6,v7,v8,v9,v10,rfl⟩:=zI hv;cases ho
        simp only[List.zip,List.zipWith,aX,Act.put,List.setIfInBounds_toArray,List.set];have e4:v4=_:=a ⟨4,.data⟩ (by simp) rfl v4 rfl _ rfl;obtain⟨ab,ea,hab,hak⟩:∃b0,v9= .slice (some ⟨b0,0,none⟩) 1 1/\wr.heap.size<=b0/\Bk W b0 5 #[.int .u8 (bt.toNat:Int)]:=a ⟨9,.data⟩ (by simp) rfl v9 rfl;subst e4 ea;have hR:U0 wr W:=hR;have hall:∀w1:UW,(∀b,wr.heap.size<=b->b<W.heap.size->w1.heap[b]? =W.heap[b]?)->∀(i:Nat)(u:UY),i≠10-> (if i=10 then(WxP b base xb (cs++ [bt]) wr) u W else lQ 9 ((.pointer (some ⟨b,0,none⟩)):: (.pointer (some ⟨b,0,none⟩)):: (.pointer (some ⟨b,0,none⟩)):: (.pointer (some ⟨b,0,none⟩)):: (.slice A cs.length c):: (.int .u64 (z:Int)):: (.int .i64 q):: (.int .u64 (p:Int)):: (.int .u8 (bt.toNat:Int)):: (undef):: (undef):: []) wr.heap.size 5 #[.int .u8 (bt.toNat:Int)] i u W)-> (if i=10 then(WxP b base xb (cs++ [bt]) wr) u w1 else lQ 9 ((.pointer (some ⟨b,0,none⟩)):: (.pointer (some ⟨b,0,none⟩)):: (.pointer (some ⟨b,0,none⟩)):: (.pointer (some ⟨b,0,none⟩)):: (.slice A cs.length c):: (.int .u64 (z:Int)):: (.int .i64 q):: (.int .u64 (p:Int)):: (.int .u8 (bt.toNat:Int)):: (undef):: (undef):: []) wr.heap.size 5 #[.int .u8 (bt.toNat:Int)] i u w1):=fun w1 hk i u hi hu=>by
         simp only[if_neg hi]at hu ⊢;unfold lQ at hu ⊢;by_cases e:i=9
         . rw[if_pos e]at hu ⊢
           obtain⟨b0,p1,p2,p3⟩:=hu;exact⟨b0,p1,p2,(hk b0 p2 p3.lt).trans p3⟩
         . rw[if_neg e]at hu ⊢;exact hu
        refine .inl ⟨rfl,?_⟩;obtain⟨A5,c5,w1,B,g,hb5,hk5,C⟩:=K.o.run_append_far (P:=Tryz.prog) hR 213 213 213 5 i0 Tryz.underlying213 Hi.o l.o m.o n.o (.slice (some ⟨ab,0,none⟩) 1 1) 1 [bt] (Src.ofSlice _ Tryz.underlying213 ⟨ab,0,none⟩ 1 1 (bc [bt]) rfl (fun j u hu=>by rw[Addr.add_lit,Nat.zero_add,hak.cell];simpa [bc] using hu) (fun u hu=>by simp[bc]at hu;subst hu;rfl)) (by omega) (by have:=hR.size;omega) (by have:=hR.size;omega);obtain⟨A6,c6,w6,M,hx5,_,f,_⟩:=L.o.run_append_far (P:=Tryz.prog) hR 213 213 213 5 i0 Tryz.underlying213 Hi.o l.o m.o n.o (.slice (some ⟨ab,0,none⟩) 1 1) 1 [bt] (Src.ofSlice _ Tryz.underlying213 ⟨ab,0,none⟩ 1 1 (bc [bt]) rfl (fun j u hu=>by rw[Addr.add_lit,Nat.zero_add,hak.cell];simpa [bc] using hu) (fun u hu=>by simp[bc]at hu;subst hu;rfl)) (by omega) (by have:=hR.size;omega) (by have:=hR.size;omega);have e6:=B.symm.trans M;simp only[Result.ok.injEq,Value.slice.injEq,true_and]at e6;obtain⟨⟨rfl,rfl⟩,rfl⟩:=e6;refine JF (.tmp 19) (.tmp 24) 213 rfl rfl rfl B ⟨trivial,⟨A5,c5,by simp,by simpa using g,by simpa using hx5,((hR.mono (by omega)).trans hb5),hk5.trans (hR.block b hbr),f.trans (hR.block xb hxr)⟩,hall w1 C⟩
       case tailD =>
        intro vs W hv hR a;obtain⟨v0,v1,v2,v3,v4,v5,v6,v7,v8,v9,v10,rfl⟩:=zI hv;simp only[List.zip,List.zipWith,aX,Act.put,List.setIfInBounds_toArray,List.set,List.drop];have e0:v0=_:=a 0 v0 rfl _ rfl;have e1:v1=_:=a 1 v1 rfl _ rfl;have e2:v2=_:=a 2 v2 rfl _ rfl;have e3:v3=_:=a 3 v3 rfl _ rfl;have e4:v4=_:=a 4 v4 rfl _ rfl;have e5:v5=_:=a 5 v5 rfl _ rfl;have e6:v6=_:=a 6 v6 rfl _ rfl;have e7:v7=_:=a 7 v7 rfl _ rfl;have e8:v8=_:=a 8 v8 rfl _ rfl;obtain⟨ab,ea,hab,hak⟩:∃b0,v9= .slice (some ⟨b0,0,none⟩) 1 1/\wr.heap.size<=b0/\Bk W b0 5 #[.int .u8 (bt.toNat:Int)]:=a 9 v9 rfl;have em: (WxP b base xb (cs++ [bt]) wr) v10 W:=a 10 v10 rfl;subst e0 e1 e2 e3 e4 e5 e6 e7 e8 ea;clear a hv hR hak hab;obtain⟨A5,c5,ev,g,hx5,hb5,hk5,f⟩:=em;subst ev;have D:Hid (Bk W b 283 #[.slice A cs.length c,.bool false]):=hk5.trans t.o;have E:=ai g;have N:=ai hx5;have O:Hid (W.heap[xb]? =w.heap[xb]?):=f.trans hX.o;have U:=hb5.size;have Q:Hid (Below b w W):=hB.o.trans (hb5.mono (by omega));obtain⟨z0,z1,g0,_⟩:=D.o.two;have hcl: (cs++ [bt]).length=cs.length+1:=by simp
        clear g hx5 hb5 hk5 f y0 y1 f0;go_wp2_with fail;go_roundw
        case rel =>
         refine⟨j+1,by omega,by rw[<-HQ.o];congr 1;omega,?_,Q.o.setCell (p:=⟨b,0,none⟩) aj _,by simp[World.setCell];omega,(Z8 W ⟨b,0,none⟩ _ xb r.o).trans O.o⟩;show Wrx _ _ _ _ (bs++ (ay ((x:Int),(y:Int))).take (8*k+j+1));rw[s.o];refine⟨⟨A5,c5,?_,E.o.far rfl _,(E.o.far (p:=⟨b,0,none⟩) rfl _).join N.o⟩,by omega,by simp[World.setCell];omega,r.o,by simp[World.setCell];omega⟩;have:=D.o.set 0 (.slice A5 (cs++ [bt]).length c5)
         simpa using this
        case measure=>have:=HQ.o;simp[intOf];omega
     . have hji:¬(0:Int)<=56 - 8* (j:Int):=by omega
       have R:Hid (j=8):=by show _=_;omega
       generalize hq:56 - 8* (j:Int)=q at *;clear hq;go_wp2_with fail;go_roundw
       case rel=>exact⟨k+1,by omega,by go_num,by show Wrx _ _ _ _ _;have h1:=hT.o;rw[R.o]at h1;exact h1,hB.o,hwz,hX.o⟩
       case measure=>simp[intOf];omega
  . have hlz:¬(k:Int)<2:=by omega
    have S:Hid (k=2):=by show _=_;omega
    have hT2:=hT.o;rw[S.o,ZU (by rw[iy];omega)]at hT2;have HT2:=ai hT2;clear hT2;go_wp2_with fail
    go_end0
    exact⟨rfl,HT2.o,hB.o,hwz,hX.o⟩
theorem yC{w:UW}{b base:Nat}{bs:UZ}(h:Wrt w b base bs)(h0:0<b):Wrx w b base (b - 1) bs:=by
 obtain⟨A,c,h1,h2⟩:=h.ex;have hl:=h.lt;have hz:=h.le;refine⟨⟨A,c,h1,h2,h2.len,h2.le,h2.max,fun hc=>?_⟩,hl,hz,by omega,by omega⟩;obtain⟨q,off,e,g1,g2⟩:=h2.lies hc;exact⟨q,off,e,⟨g1.1,by omega⟩,g2⟩
theorem WrxEnd.wrt{b base x:Nat}{bs:UZ}{w w':UW}{e:Ending}(h:WrxEnd b base x bs w e w'):um b base bs w e w':=⟨h.1,h.2.1.wrt,h.2.2.1,h.2.2.2.1⟩
theorem jY(b base k:Nat)(bs:UZ)(w:UW)(h:Wrt w b base bs)(hk:k<=1099511627776)(hn:bs.length<=1000000)(h0:0<b) :
  Calls Tryz.prog 205 #[.pointer (some ⟨b,0,none⟩),.int .i64 k] w (um b base (bs++ak k) w):=(Fp b base _ k bs w (yC h h0) hk hn).mono fun _ _=>WrxEnd.wrt
theorem oh(b base:Nat)(s:UX)(bs:UZ)(w:UW)(h:Wrt w b base bs)(hk:s.size<=65536)(hn:bs.length<=1000000)(h0:0<b) :
  Calls Tryz.prog 206 #[.pointer (some ⟨b,0,none⟩),.string s] w (um b base (bs++ax (toL s)) w):=(Fj b base _ s bs w (yC h h0) hk hn).mono fun _ _=>WrxEnd.wrt
theorem BH(b base:Nat)(d:Dig)(hd:WfD d)(bs:UZ)(w:UW)(h:Wrt w b base bs)(hn:bs.length<=1000000)(h0:0<b) :
  Calls Tryz.prog 207 #[.pointer (some ⟨b,0,none⟩),aA d] w (um b base (bs++ay d) w):=(Fg b base _ d hd bs w (yC h h0) hn).mono fun _ _=>WrxEnd.wrt
@[go_sem] theorem UF : Tryz.prog.eqGuardType Tryz.prog.depth 50 = false := by kernel_rfl
theorem TP(dd:Nat)(a b c d:Int)(w:UW): (Op.equalIn (dd+2) 50 (.agg #[.int .u64 a,.int .u64 b]) (.agg #[.int .u64 c,.int .u64 d])).run Tryz.prog w= .ok (a == c && b == d) w:=by
 have u3:=Tryz.underlying48;have a3:=Tryz.isAgg48;have z3:=Tryz.sizeOf48;rw[Op.equalIn];simp only[Sem.run_bind,run_underlying Tryz.underlying50,Result.andThen_ok];simp only[Std.Legacy.Range.forIn_eq_forIn_range',Std.Legacy.Range.size,Nat.sub_zero,Nat.add_sub_cancel,Nat.div_one,List.range'_succ,List.range'_zero,List.forIn_cons,List.forIn_nil]
 go_simp
 by_cases h1:a=c <;> by_cases h2:b=d <;> simp[h1,h2]
@[go_sem high] theorem UQ (a b c d : Int) (w : UW) : (Op.equalIn 10000 50 (.agg #[.int .u64 a, .int .u64 b]) (.agg #[.int .u64 c, .int .u64 d])).run Tryz.prog w = .ok (a == c && b == d) w := TP 9998 a b c d w
def iI(d:UX):Array UY:=#[.int .i64 1,.string d,.slice none 0 0,.int .u64 0,.int .u64 0,.slice none 0 0,.string ⟨#[]⟩,.int .i64 0,.string ⟨#[]⟩]
theorem MP{w:UW}{a:Array UY}{b:Nat}{d:UX}(ha:a[2]?.getD undef= .pointer (some ⟨b,0,none⟩))(h:Bk w b 109 (iI d)): (results Tryz.f197 a).run Tryz.prog w= .ok (.agg (iI d)) w:=by
 have c0:=h.cell 0;have c1:=h.cell 1;have c2:=h.cell 2;have c3:=h.cell 3;have c4:=h.cell 4;have c5:=h.cell 5;have c6:=h.cell 6;have c7:=h.cell 7;have c8:=h.cell 8;simp[iI]at c0 c1 c2 c3 c4 c5 c6 c7 c8;simp[results,Tryz.results197,ha,go_sem,iI,c0,c1,c2,c3,c4,c5,c6,c7,c8]
theorem Ff(d:UX)(w:UW):Calls Tryz.prog 197 #[.string d] w fun e w'=>e= .returned (.agg (iI d))/\U0 w w':=by
 go_enter Tryz.func197,Tryz.ntmps197
 go_wp2
 have hk:Bk (w.alloc (.cells (iI d) 109)) w.heap.size 109 (iI d):=Bk.new w _ _;exact ZW (MP rfl hk) rfl ⟨rfl,(ah _ w).alloc aj _⟩
theorem KA(d:UX)(w:UW):Calls Tryz.prog 204 #[.agg (iI d)] w fun e w'=>e= .returned (.int .i64 0)/\U0 w w':=by
 unfold iI
 go_enter Tryz.func204,Tryz.ntmps204
 go_wp2
 all_goals (go_ret;exact⟨rfl,(ah _ w).alloc aj _⟩)
theorem PW(d:UX)(w:UW)(hd:d.size<=60000):Calls Tryz.prog 125 #[.agg (iI d)] w fun e w'=>e= .returned (.tuple #[.string (ofL (ak 1++ax (toL d))),.int .i64 0])/\U0 w w':=by
 have hsd:=aQ d;have hle: (ax (toL d)).length<=60006:=by
  have h1:=gq 5 d.size (by omega);unfold ax;rw[af,<-hsd];omega
 have hl1: (ak 1).length=1:=by rw[eu (by omega)];rfl
 have HC:=fun w=>ai (KA d w);unfold iI at HC ⊢;obtain⟨W0,hW0⟩:=NX9 (w.alloc (.cells #[.int .i64 1,.string d,.slice none 0 0,.int .u64 0,.int .u64 0,.slice none 0 0,.string ⟨#[]⟩,.int .i64 0,.string ⟨#[]⟩] 109))
 have HB0:U6 w W0:=by rw[<-hW0];exact(ah _ w).alloc aj _
 have a:Hid (Bk W0 w.heap.size 109 #[.int .i64 1,.string d,.slice none 0 0,.int .u64 0,.int .u64 0,.slice none 0 0,.string ⟨#[]⟩,.int .i64 0,.string ⟨#[]⟩]):=by rw[<-hW0];exact Bk.new w _ _
 have j:W0.heap.size=w.heap.size+1:=by rw[<-hW0];simp
 have c:=HC W0;have c0:=a.o.cell 0;have c1:=a.o.cell 1;have c2:=a.o.cell 2;have c3:=a.o.cell 3;have c4:=a.o.cell 4;have c5:=a.o.cell 5;have c6:=a.o.cell 6;have c7:=a.o.cell 7;have c8:=a.o.cell 8;simp at c0 c1 c2 c3 c4 c5 c6 c7 c8;clear HC
 go_enter Tryz.func125,Tryz.ntmps125
 go_wp2_with fail;refine c.o.mono ?_;rintro e w1 ⟨rfl,hb1⟩;have HB1:U6 w w1:=HB0.o.trans (hb1.mono (by omega));have h:=ai (a.o.below hb1 (by omega));have hz1:=hb1.size;clear hb1 hW0 c0 c1 c2 c3 c4 c5 c6 c7 c8 c;obtain⟨W2,hW2⟩:=NX9 (w1.alloc (.cells #[.slice none 0 0,.bool false] 283))
 have k:W2.heap.size=w1.heap.size+1:=by rw[<-hW2];simp
 have HB2:U6 w1 W2:=by rw[<-hW2];exact(ah _ w1).alloc aj _
 have HW2:Hid (Wrt W2 w1.heap.size (w1.heap.size+1) []):=⟨⟨none,0,by rw[<-hW2];exact Bk.new w1 _ _,Txt.nil _ _ _ _⟩,by omega,by omega⟩
 have f:=ai (h.o.below HB2.o (by omega));have HN:=ai (jY w1.heap.size (w1.heap.size+1) 1 [] W2 HW2.o (by omega) (by simp) (by omega));have c0:=f.o.cell 0;simp at c0
 go_wp2_with (go_at_call 205;refine HN.o.mono ?_;rintro e w3 ⟨rfl,hw3,hb3,hz3⟩;refine aN ?_)
 refine aH ?_;have HW3:=ai hw3;have HB3:U6 w1 w3:=HB2.o.trans hb3;have g:=ai (f.o.below hb3 (by omega));clear hw3 hb3 hW2 c0 HN;have HS:=ai (oh w1.heap.size (w1.heap.size+1) d (([]:UZ)++ak 1) w3 HW3.o (by omega) (by simp[hl1]) (by omega));have c0:=g.o.cell 0;have c1:=g.o.cell 1;simp at c0 c1
 go_wp2_with (go_at_call 206;refine HS.o.mono ?_;rintro e w4 ⟨rfl,hw4,hb4,l⟩;refine aN ?_)
 refine aH ?_;obtain⟨A,cc,hk4,b⟩:=hw4.ex;rw[List.nil_append]at hk4 b;have hln: (ak 1++ax (toL d)).length<=60007:=by rw[af,hl1];omega
 have hlz:¬(65536:Int)< ((ak 1++ax (toL d)).length:Int):=by omega
 have HB4:U6 w1 w4:=HB3.o.trans hb4;have d0:=hk4.cell 0;have d1:=hk4.cell 1;simp only[List.getElem?_toArray,List.getElem?_cons_zero,List.getElem?_cons_succ]at d0 d1;have hcv:=b.run_string (P:=Tryz.prog) 213 9 5 Tryz.underlying213 Tryz.underlying5 Tryz.underlying9;obtain⟨bs,hbs⟩:=NX9 (ak 1++ax (toL d))
 rw[hbs]at d0 hcv hlz;have i:=ai hbs;clear hw4 hb4 hk4 b c0 c1 HS hln hbs;go_wp2_with fail;go_ret2
 refine⟨by rw[i.o];rfl,HB1.o.trans (HB4.o.mono (by omega))⟩
theorem LJ(d:UX)(w:UW)(hd:d.size<=60000):Calls Tryz.prog 113 #[.agg (iI d)] w fun e w'=>e= .returned (.int .i64 0)/\U0 w w':=by
 have HE:=fun w=>ai (PW d w hd);unfold iI at HE ⊢;have HB0:Hid (U0 w (w.alloc (.cells #[.int .i64 1,.string d,.slice none 0 0,.int .u64 0,.int .u64 0,.slice none 0 0,.string ⟨#[]⟩,.int .i64 0,.string ⟨#[]⟩] 109))):=(ah _ w).alloc aj _;have a:=HE (w.alloc (.cells #[.int .i64 1,.string d,.slice none 0 0,.int .u64 0,.int .u64 0,.slice none 0 0,.string ⟨#[]⟩,.int .i64 0,.string ⟨#[]⟩] 109));clear HE
 go_enter Tryz.func113,Tryz.ntmps113
 go_wp2_with (go_at_call 125;refine a.o.mono ?_;rintro e w1 ⟨rfl,hb1⟩)
 go_ret
 exact⟨rfl,HB0.o.trans (hb1.mono (by simp))⟩
def qK(S:List (Nat× (UY->UW->Prop)))(vals:List UY)(i:Nat)(v:UY)(W:UW):Prop :=
 match S.lookup i with
 | some p=>p v W
 | none=>nX vals i v W
theorem CB{β:Type _}:∀{S:List (Nat×β)}{i:Nat}{p:β},S.lookup i=some p->∃x∈S,x.2=p
 | [],i,p,h=>by cases h
 | (j,q)::S,i,p,h=>by
   rw[List.lookup_cons]at h;cases e:i == j with
   | true=>rw[e]at h;cases h;exact⟨_,List.mem_cons_self,rfl⟩
   | false =>
     rw[e]at h;obtain⟨x,hx,e⟩:=CB h;exact⟨x,List.mem_cons_of_mem _ hx,e⟩
theorem DI{S:List (Nat× (UY->UW->Prop))}{vals:List UY}(hS:∀x∈S,∀v W W',x.2 v W->U0 W W'->x.2 v W')(i:Nat)(v:UY)(W W':UW)(h:qK S vals i v W)(hb:U0 W W'):qK S vals i v W':=by
 unfold qK at h ⊢;cases e:S.lookup i with
 | none=>rw[e]at h;exact h
 | some p =>
   rw[e]at h;obtain⟨x,hx,rfl⟩:=CB e;exact hS x hx v W W' h hb
