/-Lemmas.-/
import Derived.Maps.OwnIn
import Derived.StillTail
import Derived.Shelf.Strings.LastIndex
import Derived.Lib.AppendZerosOnto
import Derived.Test.YtknefelegjlgnaaGreatDoorCCCm3
set_option maxRecDepth 100000
set_option maxHeartbeats 4000000
namespace Go.Proofs.YtknefelegjlgnaaGreatDoor
open Go.RowKit
theorem Sl.avoid{w w':VA}{B size n:Nat}{A:OA}{xs:List VC}(h:Sl w B size A n xs)(hk:∀b off,A=some ⟨b,off,none⟩->0<n-> (∀j u,xs[j]? =some u->w.cell? ⟨b,off+j,none⟩=some u)->w'.heap[b]? =w.heap[b]?):Sl w' B size A n xs :=
 ⟨h.1,fun hn=>by
   obtain⟨b,off,e,hb,hc⟩:=h.2 hn;exact⟨b,off,e,hb,fun j u hu=>(World.cell?_of_block (hk b off e hn hc)).trans (hc j u hu)⟩⟩
theorem DkM.avoid{w w':VA}{B b:Nat}{d:Dk}{s:Dsl}{t:TypeId}{p1 p2:OA}{y0 y3:Int}{n1 c1 n2 c2:Nat}(h:DkM w B d s)(hk:Bk w b t #[.int .i64 y0,.slice p1 n1 c1,.slice p2 n2 c2,.int .i64 y3])(hw:∀b',b'≠b->w'.heap[b']? =w.heap[b']?):DkM w' B d s:=by
 have key:∀b' o x,w.cell? ⟨b',o,none⟩=some (.string x)->w'.heap[b']? =w.heap[b']? :=by
  intro b' o x hx;refine hw b' ?_;rintro rfl;rw[hk.cell]at hx
  match o,hx with
  | 0,hx=>simp at hx
  | 1,hx=>simp at hx
  | 2,hx=>simp at hx
  | 3,hx=>simp at hx
  | o+4,hx=>simp at hx
 refine⟨h.ss.avoid fun b' off e hn hc=>?_,h.pn.avoid fun b' off e hn hc=>?_⟩
 . have hx:d.ss[0]? =some d.ss[0]:=Z5 hn
   exact key b' (off+0) _ (hc 0 _ (by have:=iJ (enc:=aF) dJ d.ss 0 0 _ hx (by omega);simpa [aF] using this))
 . have hx:d.pn[0]? =some d.pn[0]:=Z5 hn
   exact key b' (off+1) _ (hc 1 _ (by have:=iJ (enc:=wrC) uq d.pn 0 1 _ hx (by omega);simpa [wrC] using this))
theorem DkM.box{w:VA}{B b:Nat}{d:Dk}{s:Dsl}{t:TypeId}{p1 p2:OA}{y0 y3:Int}{n1 c1 n2 c2:Nat}(h:DkM w B d s)(hk:Bk w b t #[.int .i64 y0,.slice p1 n1 c1,.slice p2 n2 c2,.int .i64 y3])(z0 z1 z2 z3:VC) :
  DkM ((((w.setCell ⟨b,0,none⟩ z0).setCell ⟨b,1,none⟩ z1).setCell ⟨b,2,none⟩ z2).setCell ⟨b,3,none⟩ z3) B d s :=
 h.avoid hk fun _ hne=>(Z8 _ _ _ _ hne).trans ((Z8 _ _ _ _ hne).trans ((Z8 _ _ _ _ hne).trans (Z8 _ _ _ _ hne)))
theorem DkM.box1{w:VA}{B b:Nat}{d:Dk}{s:Dsl}{t:TypeId}{p1 p2:OA}{y0 y3:Int}{n1 c1 n2 c2:Nat}(h:DkM w B d s)(hk:Bk w b t #[.int .i64 y0,.slice p1 n1 c1,.slice p2 n2 c2,.int .i64 y3])(i:Nat)(z:VC):DkM (w.setCell ⟨b,i,none⟩ z) B d s :=
 h.avoid hk fun _ hne=>Z8 _ _ _ _ hne
def Apd(w:VA)(base:Nat)(e:TypeId)(size:Nat)(A:OA)(n c:Nat)(xs:List VC):Prop :=
 w.ownsRow base e size (.slice A n c) n xs∨ (n=0/\c=0/\xs= [])
section
variable {P : Program} {w w' : VA} {base size n c : Nat} {e : TypeId} {A : OA} {xs : List VC}
theorem Apd.sl(h:Apd w base e size A n c xs):Sl w w.heap.size size A n xs:=by
 rcases h with h | ⟨rfl,rfl,rfl⟩
 . exact Sl.of_own h
 . exact Sl.nil _ _ _ _
theorem Apd.below(h:Apd w base e size A n c xs)(hb:VE w w'):Apd w' base e size A n c xs:=by
 rcases h with h | h
 . exact .inl (h.kept (row:=none) ⟨hb.os,hb.tape,hb.output,hb.size,fun k hk _=>hb.block k hk⟩ (by
     cases hv: (Value.slice A n c).ownBlock with
     | none=>exact .inl rfl
     | some k=>exact .inr (by simp)))
 . exact .inr h
theorem Apd.setCell(h:Apd w base e size A n c xs){a:Addr}(ha:a.block<base)(u:VC):Apd (w.setCell a u) base e size A n c xs:=by
 rcases h with h | h
 . exact .inl (ownsRow_setCell_below h ha u)
 . exact .inr h
theorem JQ(hg:w.grownBy w' none):VE w w':=⟨hg.os,hg.tape,hg.output,hg.size,fun k hk=>hg.block k hk (by simp)⟩
theorem Az(t ty:TypeId)(i:TypeInfo)(z:VC)(bytes:Nat)(ht:P.underlying t=some (.slice e))(hi:P.info? e=some i)(hz:i.zero=some z)
  (hsize:i.size=size) (hby:i.bytes=bytes) (hzs:z.cells.size=size) (hsz:0<size)
  {B:Nat} {A':OA} {m c':Nat} {ys:List VC} (hsl:Sl w B size A' m ys) (h1:∀u∈ys,u.oneCell'=true)
  (h63:m<=maxLen) (hbytes:m*bytes<=140737488355328) (hbase:base<=w.heap.size) (A:OA) :
  ∃A2 c2 w',(Builtin.append_ #[t,t] ty #[.slice A 0 0,.slice A' m c']).run P w= .ok (.slice A2 m c2) w'/\Apd w' base e size A2 m c2 ys/\VE w w'/\m<=c2/\c2<=maxLen:=by
 rcases Nat.eq_zero_or_pos m with h | hm
 . subst h
   have hy:ys= []:=by
    have:=hsl.1;rw[Nat.zero_mul]at this;exact List.length_eq_zero_iff.1 this
   subst hy;refine⟨A,0,w,?_,.inr ⟨rfl,rfl,rfl⟩,ah _ _,Nat.le_refl _,ZX _⟩;cases A <;> cases A' <;> simp[Builtin.append_,run_underlying ht,sizeOf,typeInfo,hi,Builtin.lenOf,Builtin.firstCells,loadCells,loadCellsFrom,storeCells]
 . -- as onto nil
   have hrun: (Builtin.append_ #[t,t] ty #[.slice A 0 0,.slice A' m c']).run P w= (Builtin.append_ #[t,t] ty #[.slice none 0 0,.slice A' m c']).run P w:=by
    obtain⟨b,off,rfl,_,_⟩:=hsl.2 hm;cases A with
    | none=>rfl
    | some ad =>
      have hroom:¬m=0:=by omega
      have hfit:¬281474976710656<Builtin.nextslicecap m 0*i.bytes:=by
       have:=growslice_fits (old:=0) (need:=m) (bytes:=bytes) (by omega) hbytes;rw[hby];omega
      simp[Builtin.append_,run_underlying ht,sizeOf,typeInfo,hi,Builtin.lenOf,Builtin.firstCells,loadCells,loadCellsFrom,hroom,hfit]
   obtain⟨A2,c2,w2,hr,ho,hg,hc1,hc2⟩:=mF (P:=P) (base:=base) (v:= .slice none 0 0) (n:=0) (xs:= []) t ty i z bytes ht hi hz hsize hby hzs hsz (World.ownsRow_nil w base e size) (c:=c') hsl h1 (by omega) (by rw[Nat.zero_add];exact hbytes) hbase;simp only[Nat.zero_add,List.nil_append]at hr ho hc1;exact⟨A2,c2,w2,hrun.trans hr,.inl ho,JQ hg,hc1,hc2⟩
def OthersKept(e:TypeId)(w w':VA):Prop:=∀(base size n:Nat)(e':TypeId)(v:VC)(xs:List VC),e'≠e->w.ownsRow base e' size v n xs->w'.ownsRow base e' size v n xs
theorem JI(t ty:TypeId)(i:TypeInfo)(z:VC)(bytes:Nat)(ht:P.underlying t=some (.slice e))(hi:P.info? e=some i)(hz:i.zero=some z)
  (hsize:i.size=size) (hby:i.bytes=bytes) (hzs:z.cells.size=size) (hsz:0<size) (ha:Apd w base e size A n c xs)
  {B:Nat} {A':OA} {m c':Nat} {ys:List VC} (hsl:Sl w B size A' m ys) (h1:∀u∈ys,u.oneCell'=true)
  (h63:n+m<=maxLen) (hbytes: (n+m)*bytes<=140737488355328) (hbase:base<=w.heap.size) :
  ∃A2 c2 w',(Builtin.append_ #[t,t] ty #[.slice A n c,.slice A' m c']).run P w= .ok (.slice A2 (n+m) c2) w'/\Apd w' base e size A2 (n+m) c2 (xs++ys)/\Below base w w'/\n+m<=c2/\c2<=maxLen/\OthersKept e w w':=by
 rcases ha with h | ⟨rfl,rfl,rfl⟩
 . obtain⟨A2,c2,w2,hr,ho,hg,hc1,hc2⟩:=mF (P:=P) t ty i z bytes ht hi hz hsize hby hzs hsz h (c:=c') hsl h1 h63 hbytes hbase
   exact⟨A2,c2,w2,hr,.inl ho,(ah _ w).grown hg hbase (fun k hk=>jF h k hk),hc1,hc2,fun _ _ _ _ _ _ hne h'=>h'.kept hg (JX h h' hne)⟩
 . obtain⟨A2,c2,w2,hr,ho,hg,hc1,hc2⟩:=Az (P:=P) (base:=base) t ty i z bytes ht hi hz hsize hby hzs hsz (c':=c') hsl h1 (by omega) (by rw[Nat.zero_add]at hbytes;exact hbytes) hbase A
   rw[Nat.zero_add,List.nil_append];exact⟨A2,c2,w2,hr,ho,hg.mono hbase,hc1,hc2,fun _ _ _ _ v _ _ h'=>h'.kept (row:=none) ⟨hg.os,hg.tape,hg.output,hg.size,fun k hk _=>hg.block k hk⟩ (by cases hv:v.ownBlock with | none=>exact .inl rfl | some k=>exact .inr (by simp))⟩
theorem eG(w:VA){ops:Array Oper}{rest:List Oper}{o:Oper}{a:Act}{Q:Exit->Act->VA->Prop}(hgd:o.guard=none)(s x:Operand)(t:TypeId)
  (ho:o.op= .call {callee:= .builtin .append,args:=#[s,x],argTypes:=#[t,t]})
  (e:TypeId) (i:TypeInfo) (z:VC) (bytes:Nat) (ht:P.underlying t=some (.slice e)) (hi:P.info? e=some i) (hz:i.zero=some z)
  (hsize:i.size=size) (hby:i.bytes=bytes) (hzs:z.cells.size=size) (hsz:0<size)
  (A:OA) (n c:Nat) (xs:List VC) (hs:a.eval s= .slice A n c) (hown:Apd w base e size A n c xs)
  (B:Nat) (A':OA) (m c':Nat) (ys:List VC) (hx:a.eval x= .slice A' m c') (hsl:Sl w B size A' m ys) (h1:∀u∈ys,u.oneCell'=true)
  (h63:n+m<=maxLen) (hbytes: (n+m)*bytes<=140737488355328) (hbase:base<=w.heap.size)
  (h:∀A2 c2 w',Apd w' base e size A2 (n+m) c2 (xs++ys)->Below base w w'->n+m<=c2->c2<=maxLen->OthersKept e w w'->wpList P ops Q rest (a.put o.dst (.slice A2 (n+m) c2)) w'):wpList P ops Q (o::rest) a w:=by
 refine wpList_plain hgd fun K hK=>?_;obtain⟨A2,c2,w',hr,ho',hg,hc1,hc2,hok⟩:=JI (P:=P) t o.type i z bytes ht hi hz hsize hby hzs hsz hown (c':=c') hsl h1 h63 hbytes hbase;unfold Oper.wp;simp[execOp,ho,resolve,invoke,builtin,hs,hx,hr,Result.andThen];exact hK _ _ (h A2 c2 w' ho' hg hc1 hc2 hok)
end
theorem Sl.new(w:VA)(t:TypeId)(xs:List VC)(n:Nat){size:Nat}(h:xs.length=n*size):Sl (w.alloc (.cells xs.toArray t)) (w.heap.size+1) size (some ⟨w.heap.size,0,none⟩) n xs :=
 ⟨h,fun _=>⟨w.heap.size,0,rfl,by omega,fun j u hu=>by
   rw[Nat.zero_add,(Bk.new w t xs.toArray).cell j]
   simpa using hu⟩⟩
theorem ls5{vs:List VC}(h:vs.length=5):∃v0 v1 v2 v3 v4,vs=v0::v1::v2::v3::v4:: []:=by
 match vs,h with
 | v0::v1::v2::v3::v4:: [],_=>exact⟨_,_,_,_,_,rfl⟩
theorem ls7{vs:List VC}(h:vs.length=7):∃v0 v1 v2 v3 v4 v5 v6,vs=v0::v1::v2::v3::v4::v5::v6:: []:=by
 match vs,h with
 | v0::v1::v2::v3::v4::v5::v6:: [],_=>exact⟨_,_,_,_,_,_,_,rfl⟩
theorem Jq{vs:List VC}(h:vs.length=10):∃v0 v1 v2 v3 v4 v5 v6 v7 v8 v9,vs=v0::v1::v2::v3::v4::v5::v6::v7::v8::v9:: []:=by
 match vs,h with
 | v0::v1::v2::v3::v4::v5::v6::v7::v8::v9:: [],_=>exact⟨_,_,_,_,_,_,_,_,_,_,rfl⟩
theorem Ai{vs:List VC}(h:vs.length=11):∃v0 v1 v2 v3 v4 v5 v6 v7 v8 v9 v10,vs=v0::v1::v2::v3::v4::v5::v6::v7::v8::v9::v10:: []:=by
 match vs,h with
 | v0::v1::v2::v3::v4::v5::v6::v7::v8::v9::v10:: [],_=>exact⟨_,_,_,_,_,_,_,_,_,_,_,rfl⟩
theorem Js{vs:List VC}(h:vs.length=12):∃v0 v1 v2 v3 v4 v5 v6 v7 v8 v9 v10 v11,vs=v0::v1::v2::v3::v4::v5::v6::v7::v8::v9::v10::v11:: []:=by
 match vs,h with
 | v0::v1::v2::v3::v4::v5::v6::v7::v8::v9::v10::v11:: [],_=>exact⟨_,_,_,_,_,_,_,_,_,_,_,_,rfl⟩
def Que(w:VA)(base:Nat)(e:TypeId)(size:Nat)(A:OA)(n c:Nat)(xs:List VC):Prop :=
 xs.length=n*size/\ ((n=0/\c=0)∨∃g off cur,A=some ⟨g,off,none⟩/\base<=g/\w.heap[g]? =some (.cells cur e (0,0))/\n<=c/\c<=maxLen/\cur.size=off+c*size/\ (cur.toList.drop off).take (n*size)=xs)
section
variable {P : Program} {w w' : VA} {base size n c : Nat} {e : TypeId} {A : OA} {xs : List VC}
theorem Que.of_own(h:w.ownsRow base e size (.slice A n c) n xs):Que w base e size A n c xs:=by
 refine⟨h.1,?_⟩;rcases h.2 with ⟨hv,h0⟩ | ⟨g,cap,cur,hv,h1,h2,h3,h4,h5,h6⟩
 . simp at hv;exact .inl ⟨h0,hv.2.2⟩
 . simp at hv
   obtain⟨rfl,rfl⟩:=hv;exact .inr ⟨g,0,cur,rfl,h1,h2,h3,h4,by omega,by simpa using h6⟩
theorem Que.more{base':Nat}(h:Que w base e size A n c xs)(hb:base'<=base):Que w base' e size A n c xs:=by
 obtain⟨h0,h | ⟨g,off,cur,h1,h2,h3⟩⟩:=h
 . exact⟨h0,.inl h⟩
 . exact⟨h0,.inr ⟨g,off,cur,h1,by omega,h3⟩⟩
theorem Que.le(h:Que w base e size A n c xs):n<=c/\c<=maxLen:=by
 obtain⟨h0,⟨rfl,rfl⟩ | ⟨g,off,cur,h1,h2,h3,h4,h5,_⟩⟩:=h
 . exact⟨Nat.le_refl _,ZX _⟩
 . exact⟨h4,h5⟩
theorem Que.sl(h:Que w base e size A n c xs):Sl w w.heap.size size A n xs:=by
 obtain⟨h0,⟨rfl,rfl⟩ | ⟨g,off,cur,h1,h2,h3,h4,h5,h6,h7⟩⟩:=h
 . exact⟨h0,fun h=>absurd h (by omega)⟩
 . refine⟨h0,fun _=>⟨g,off,h1,(Array.getElem?_eq_some_iff.1 h3).1,fun j u hu=>?_⟩⟩
   rw[<-h7,List.getElem?_take]at hu;split at hu
   . rw[List.getElem?_drop]at hu
     simp[World.cell?,h3]
     simpa using hu
   . cases hu
theorem JG(t ty:TypeId)(i:TypeInfo)(z:VC)(bytes:Nat)(ht:P.underlying t=some (.slice e))(hi:P.info? e=some i)(hz:i.zero=some z)
  (hsize:i.size=size) (hby:i.bytes=bytes) (hzs:z.cells.size=size) (hsz:0<size) (ha:Que w base e size A n c xs)
  {B:Nat} {A':OA} {m c':Nat} {ys:List VC} (hsl:Sl w B size A' m ys) (h1:∀u∈ys,u.oneCell'=true) (hm:0<m)
  (h63:n+m<=maxLen) (hbytes: (n+m)*bytes<=140737488355328) (hbase:base<=w.heap.size) :
  ∃A2 c2 w' row,(Builtin.append_ #[t,t] ty #[.slice A n c,.slice A' m c']).run P w= .ok (.slice A2 (n+m) c2) w'/\Que w' base e size A2 (n+m) c2 (xs++ys)/\w.grownBy w' row/\ (∀g,row=some g->base<=g/\ (∃cur,w.heap[g]? =some (.cells cur e (0,0)))/\c≠0/\∃off,A=some ⟨g,off,none⟩)/\∀g off,A2=some ⟨g,off,none⟩-> (c≠0/\∃off,A=some ⟨g,off,none⟩)∨w.heap.size<=g:=by
 obtain⟨h0,⟨rfl,rfl⟩ | ⟨g,off,cur,rfl,h2,h3,h4,h5,h6,h7⟩⟩:=ha
 . have hx:xs= []:=List.eq_nil_of_length_eq_zero (by simpa using h0)
   subst hx;obtain⟨A2,c2,w2,hr,ho,hg,hc1,hc2⟩:=Az (P:=P) (base:=w.heap.size) t ty i z bytes ht hi hz hsize hby hzs hsz (c':=c') hsl h1 (by omega) (by rw[Nat.zero_add]at hbytes;exact hbytes) aj A;rw[Nat.zero_add,List.nil_append];rcases ho with ho | ⟨e1,_⟩
   . refine⟨A2,c2,w2,none,hr,(Que.of_own ho).more hbase,⟨hg.os,hg.tape,hg.output,hg.size,fun k hk _=>hg.block k hk⟩,(fun g h=>by cases h),fun g off e=> .inr ?_⟩
     subst e;exact(ho.lt g rfl).1
   . omega
 . obtain⟨b',off',rfl,hb',hcy⟩:=hsl.2 hm
   have hnews:∀j u,ys[j]? =some u->w.cell? (Addr.add ⟨b',off',none⟩ j)=some u:=fun j u hj=>by rw[Addr.add_lit];exact hcy j u hj
   by_cases hroom:n+m<=c
   . subst hsize
     have hf:=run_firstCells_some (P:=P) w i.size m ⟨b',off',none⟩ m c' ys hsl.1 hnews;have hfit:off+n*i.size+ys.length<=cur.size:=by
      rw[hsl.1,h6,Nat.add_assoc,<-Nat.add_mul];exact Nat.add_le_add_left (Nat.mul_le_mul_right _ hroom) _
     have hst:=run_storeCells_at P g (off+n*i.size) e ys 0 cur w h3 (by simpa using hfit) h1;simp only[Nat.add_zero]at hst;refine⟨some ⟨g,off,none⟩,c,w.setRow g (cur.toList.take (off+n*i.size)++ys++cur.toList.drop (off+n*i.size+ys.length)).toArray,some g,?_,?_,⟨rfl,rfl,rfl,by simp,fun k _ hk=>setRow_other w g k _ (fun e=>hk (by simp[e]))⟩,(fun g' e'=>by cases e';exact⟨h2,⟨cur,h3⟩,by omega,off,rfl⟩),fun g' o' e'=> .inl ⟨by omega,off,by cases e';rfl⟩⟩
     . simp[Builtin.append_,run_underlying ht,sizeOf,typeInfo,hi,Builtin.lenOf,hroom,hf,Addr.add_lit,hst]
     . have hlen: (xs++ys).length= (n+m)*i.size:=by rw[af,h0,hsl.1,Nat.add_mul]
       refine⟨hlen,.inr ⟨g,off,_,rfl,h2,setRow_heap w g cur _ e _ h3,hroom,h5,?_,?_⟩⟩
       . simp only[List.size_toArray,af,List.length_take,List.length_drop,Array.length_toList]
         omega
       . have e1:cur.toList.take (off+n*i.size)=cur.toList.take off++xs:=by rw[<-h7,List.take_add]
         have e2: (cur.toList.take off).length=off:=by rw[List.length_take,Array.length_toList];omega
         simp only[e1,ZZ];rw[List.drop_append_of_le_length (by omega),List.drop_of_length_le (by omega),List.nil_append,<-ZZ,<-hlen];exact List.take_left
   . obtain⟨v',w2,hrun,r1,r2⟩:=run_append_arg_grows (P:=P) w t ty e i z size bytes ht hi hz hsize hby hzs hsz ⟨g,off,none⟩ n c xs h0 (fun j u hj=>by
       rw[Addr.add_lit];have:=(Que.sl (w:=w) (base:=base) (e:=e) (c:=c) ⟨h0,.inr ⟨g,off,cur,rfl,h2,h3,h4,h5,h6,h7⟩⟩).2;rcases Nat.eq_zero_or_pos n with hn | hn
       . subst hn
         have hx:xs= []:=List.eq_nil_of_length_eq_zero (by simpa using h0);subst hx;simp at hj
       . obtain⟨b1,o1,e1,_,hc1⟩:=this hn
         simp at e1;obtain⟨rfl,rfl⟩:=e1;exact hc1 j u hj) ⟨b',off',none⟩ m c' ys hsl.1 hnews (by omega) h63 hbytes
     rcases r1.2 with ⟨_,h8⟩ | ⟨g2,cap2,cur2,rfl,h8,_⟩
     . omega
     . exact⟨_,cap2,w2,none,hrun,(Que.of_own r1).more hbase,r2,(fun g h=>by cases h),fun g' o' e'=> .inr (by cases e';exact h8)⟩
end
section
def Jf{α:Type}(F:Fence)(n:Nat)(P:Program)(g:Nat)(lb:Array VC)(encs:α->Array VC)(Kp St:VA->VA->Prop)(Pf S Sp:List α->Prop)(hz:Nat)(w:VA):Prop :=
 ∀(l:Nat)(J Jx:List α->VA->Prop)(W:VA),VE w W->W.heap.size=hz-> (∀pre A B,J pre A->St A B->J pre B) ->
  (∀pre x W1,Pf (pre++ [x])->J pre W1->YieldAt F (n - 1) P l (encs x) W1 fun e W' =>
    (e= .returned (.bool true)/\J (pre++ [x]) W'/\Kp W1 W')∨ (e= .returned (.bool false)/\Jx (pre++ [x]) W')) ->
  J [] W ->
  CallsIn F n P g (#[.func (.yield l) #[] #[]]++lb) W fun e W'=>(∃v,e= .returned v)/\ ((∃xs,S xs/\J xs W')∨ (∃pre,Sp pre/\Jx pre W'))
def Rec2(D:Nat)(W W':VA):Prop:=W'.heap[D]? =W.heap[D]? /\W'.heap[D+1]? =W.heap[D+1]?
theorem Rec2.refl(D:Nat)(W:VA):Rec2 D W W:=⟨rfl,rfl⟩
def yt{α:Type}(D:Nat)(Kp:VA->VA->Prop)(I:List α->VA->Prop)(Ix:Code->List α->VA->Prop)(xs:List α)(W:VA):Exit->Act->VA->Prop
 | .normal,_,W'=>Rec2 D W W'/\Kp W W'/\I xs W'
 | .ret,_,W'=>Rec2 D W W'/\Ix .ret xs W'
 | .exit id,_,W'=>Rec2 D W W'/\Ix (.exit id) xs W'
 | .goto t,_,W'=>Rec2 D W W'/\Ix (.goto t) xs W'
 | .panic _,_,_=>False
 | .outgrown,_,_=>False
variable {F : Fence} {n : Nat} {P : Program}
end
section
open Go.Maps
section
variable {F : Fence} {n' : Nat} {P : Program} {w : VA}
theorem oG{base size:Nat}{ops:Array Oper}{rest:List Oper}{o:Oper}{a:Act}{Q:Exit->Act->VA->Prop}(hgd:o.guard=none)(s x:Operand)(t:TypeId)
  (ho:o.op= .call {callee:= .builtin .append,args:=#[s,x],argTypes:=#[t,t]})
  (e:TypeId) (i:TypeInfo) (z:VC) (bytes:Nat) (ht:P.underlying t=some (.slice e)) (hi:P.info? e=some i) (hz:i.zero=some z)
  (hsize:i.size=size) (hby:i.bytes=bytes) (hzs:z.cells.size=size) (hsz:0<size)
  (v:VC) (n:Nat) (xs:List VC) (hs:a.eval s=v) (hown:w.ownsRow base e size v n xs)
  (B:Nat) (A:OA) (m c:Nat) (ys:List VC) (hx:a.eval x= .slice A m c) (hsl:Sl w B size A m ys) (h1:∀u∈ys,u.oneCell'=true)
  (h63:n+m<=maxLen) (hbytes: (n+m)*bytes<=140737488355328) (hbase:base<=w.heap.size)
  (h:∀A' c' w',w'.ownsRow base e size (.slice A' (n+m) c') (n+m) (xs++ys)->w.grownBy w' v.ownBlock->n+m<=c'->c'<=maxLen->wpListIn F n' P ops Q rest (a.put o.dst (.slice A' (n+m) c')) w'):wpListIn F n' P ops Q (o::rest) a w:=by
 refine wpListIn_plain hgd fun K hK=>?_;obtain⟨A',c',w',hr,ho',hg,hc1,hc2⟩:=mF (P:=P) t o.type i z bytes ht hi hz hsize hby hzs hsz hown (c:=c) hsl h1 h63 hbytes hbase;unfold Oper.wpIn;refine⟨?_,?_⟩
 . simp[Oper.about,ho,resolve,Target.leads,Sem.run_pure]
 . rw[Oper.semAt_plain F _ _ (by rw[ho];intro c hc';cases hc')]
   simp[execOp,ho,resolve,invoke,builtin,hs,hx,hr,Result.andThen];exact hK _ _ (h A' c' w' ho' hg hc1 hc2)
end
def isRow(e:TypeId):Option Obj->Prop
 | some (.cells _ t _)=>t=e
 | _=>False
end
section
variable {α : Type} {nx : α -> List α} {s : α}
theorem nodup_len:∀(l u:List α),l.Nodup-> (∀x∈l,x∈u)->l.length<=u.length
 | [],_,_,_=>ZX _
 | x::l,u,hn,hs=>by
   obtain⟨a,b,e⟩:=List.append_of_mem (hs x (by simp));subst e;rw[List.nodup_cons]at hn;have:=nodup_len l (a++b) hn.2 (fun y hy=>by
    have h:=hs y (by simp[hy]);rcases List.mem_append.1 h with h | h
    . exact List.mem_append_left _ h
    . rcases List.mem_cons.1 h with h | h
      . subst h;exact absurd hy hn.1
      . exact List.mem_append_right _ h)
   simp only[af,Z4]at this ⊢;omega
end
section
open Go.Maps
attribute [local go_sem] Oper.semAt_some
theorem Ij{a b:VB}(h:a≠b): (a.toList == b.toList)=false:=by
 rw[beq_eq_false_iff_ne];intro e;rw[ByteArray.toList_eq,ByteArray.toList_eq]at e;exact h (iR e)
theorem TZ(a:VB): (a.toList == a.toList)=true:=by simp
end
section
open Go.Maps
attribute [local go_sem] Oper.semAt_some
theorem DX{w w':VA}{b:Nat}{v:VC}{t:TypeId}{row:Option Nat}(h:w.heap[b]? =some (.cells #[v] t (0,0)))(hg:w.grownBy w' row)(hr:some b≠row):w'.heap[b]? =some (.cells #[v] t (0,0)) :=
 (hg.block b (Array.getElem?_eq_some_iff.1 h).1 hr).trans h
end
section
open Go.Maps
theorem kD: (Tryz.prog.info? 9).map (fun i=>(i.zero,i.size,i.bytes))=some (some (.string ⟨#[]⟩),1,16):=by kernel_rfl
abbrev Ix:=Bool×VB
end
section
open Go.Maps
theorem QC(w:VA)(t:TypeId)(x:VB):∀j u,[Value.string x][j]? =some u-> (w.alloc (.cells #[.string x] t)).cell? (Addr.add ⟨w.heap.size,0,none⟩ j)=some u:=by
 intro j u h;cases j with
 | zero =>
   have hk:Bk (w.alloc (.cells #[.string x] t)) w.heap.size t #[.string x]:=Bk.new w _ _;have:=hk.cell 0;simp at this h;subst h;simp[Addr.add]
 | succ j=>simp at h
end
section
open Go.Maps
attribute [local go_sem] Oper.semAt_some
theorem xZ(a b:VB):Op.bytesLess a.toList b.toList=less a b:=by
 rw[ByteArray.toList_eq,ByteArray.toList_eq];rfl
end
section
def aZ(a:Act):List (Tmp×VC)->Act
 | []=>a
 | p::r=>aZ (a.put (some p.1) p.2) r
theorem RH(a:Act)(d:Tmp)(v u:VC): (a.put (some d) v).put (some d) u=a.put (some d) u:=by
 simp[Act.put]
theorem wE(a:Act)(d:Tmp)(v:VC):∀(l:List (Tmp×VC)),(∀p∈l,p.1≠d)->aZ (a.put (some d) v) l= (aZ a l).put (some d) v
 | [],_=>rfl
 | p::l,h=>by
   have hne:p.1≠d:=h p (by simp);show aZ ((a.put (some d) v).put (some p.1) p.2) l= (aZ (a.put (some p.1) p.2) l).put (some d) v;rw[Act.put_comm a v p.2 (x:=some d) (y:=some p.1) (fun x hx e=>by cases hx;cases e;exact hne rfl)];exact wE _ d v l (fun q hq=>h q (by simp[hq]))
theorem wu(a:Act):∀(ds:List Tmp)(vs:List VC)(i:Nat)(d:Tmp)(v:VC),ds.Nodup->ds.length=vs.length->ds[i]? =some d ->
  aZ a (ds.zip (vs.set i v))= (aZ a (ds.zip vs)).put (some d) v
 | [],_,_,_,_,_,_,h=>by simp at h
 | d0::ds,[],_,_,_,_,hl,_=>by simp at hl
 | d0::ds,v0::vs,0,d,v,hn,hl,h=>by
   simp only[List.getElem?_cons_zero,Option.some.injEq]at h;subst h;have hnd:=List.nodup_cons.1 hn;have hm:∀p∈ds.zip vs,p.1≠d0:=fun p hp e=>hnd.1 (by have:=(List.of_mem_zip hp).1;rwa[e]at this);show aZ (a.put (some d0) v) (ds.zip vs)= (aZ (a.put (some d0) v0) (ds.zip vs)).put (some d0) v;rw[wE _ _ _ _ hm,wE _ _ _ _ hm,RH]
 | d0::ds,v0::vs,i+1,d,v,hn,hl,h=>by
   simp only[List.getElem?_cons_succ]at h;show aZ (a.put (some d0) v0) (ds.zip (vs.set i v))= (aZ (a.put (some d0) v0) (ds.zip vs)).put (some d) v;exact wu _ ds vs i d v (List.nodup_cons.1 hn).2 (by simpa using hl) h
theorem Pv(a:Act)(d:Tmp):a.put (some d) (a.tmps.getD d undef)=a:=by
 show({a with tmps:=a.tmps.setIfInBounds d (a.tmps.getD d undef)}:Act)=a;have:a.tmps.setIfInBounds d (a.tmps.getD d undef)=a.tmps:=?_
 . rw[this]
 apply Array.ext
 . simp
 . intro i h1 h2
   rw[Array.getElem_setIfInBounds (by simpa using h2)];split
   . rename_i e;subst e;simp[show d<a.tmps.size by simpa using h2]
   . rfl
theorem vW(a:Act):∀(ds:List Tmp),aZ a (ds.zip (ds.map fun d=>a.tmps.getD d undef))=a
 | []=>rfl
 | d::ds=>by
   show aZ (a.put (some d) (a.tmps.getD d undef)) _=a;rw[Pv];exact vW a ds
variable {P : Program} {Q : Exit -> Act -> VA -> Prop}
def Gives(P:Program)(o:Oper)(a:Act)(w:VA)(Ψ:VC->VA->Prop):Prop :=
 ∀(K:Act->VA->Prop)(Q:Exit->Act->VA->Prop),(∀v w',Ψ v w'->K (a.put o.dst v) w')->o.wp P a w K Q
theorem aS{o:Oper}{a:Act}{w w':VA}{v:VC}{Ψ:VC->VA->Prop}(hr: (execOp a.eval o).run P w= .ok (.value v) w')(h:Ψ v w'):Gives P o a w Ψ:=fun K Q hK=>by
 unfold Oper.wp;rw[hr];exact hK v w' h
theorem mW{o:Oper}{a:Act}{w:VA}{f:FuncId}{args:Array VC}{Ψ:VC->VA->Prop}(hr: (execOp a.eval o).run P w= .ok (.enter f args) w)
  (h:Calls P f args w fun e w'=>∃v,e= .returned v/\Ψ v w'):Gives P o a w Ψ:=fun K Q hK=>by
 unfold Oper.wp;rw[hr];exact h.mono fun e w' ⟨v,he,hv⟩=>by subst he;exact hK v w' hv
theorem J8{o:Oper}{a:Act}{w w':VA}{r v u:VC}{Ψ:VC->VA->Prop}(s x:Operand)(t:TypeId)(ho:o.op= .call {callee:= .builtin .append,args:=#[s,x],argTypes:=#[t,t]})
  (hs:a.eval s=v) (hx:a.eval x=u) (hr: (Builtin.append_ #[t,t] o.type #[v,u]).run P w= .ok r w') (h:Ψ r w'):Gives P o a w Ψ :=
 aS (v:=r) (w':=w') (by simp[execOp,ho,resolve,invoke,builtin,hs,hx,hr,Result.andThen]) h
def dstsOf(l:List Oper)(n:Nat):List Tmp:=(l.take n).map fun o=>o.dst.getD 0
def jO(l:List Oper)(n:Nat):Array Bool:=((List.range l.length).map fun i=>decide (i<n)).toArray
theorem Bf{l:List Bool}{i:Nat}(h:l[i]? =some false): (l.set i true).count false+1=l.count false:=by
 induction l generalizing i with
 | nil=>simp at h
 | cons b l ih =>
   cases i with
   | zero=>simp only[List.getElem?_cons_zero,Option.some.injEq]at h;subst h;simp
   | succ i =>
     simp only[List.getElem?_cons_succ]at h;have:=ih h;cases b <;> simp[List.set_cons_succ] <;> omega
end
section
variable {P : Program} {Q : Exit -> Act -> VA -> Prop}
def nX(P:Program)(ops:Array Oper)(o:Oper)(a:Act)(w:VA)(Ψ:VC->VA->Prop):Prop :=
 (Region.wanted o (yielded ops a.tmps)=true/\Gives P o a w Ψ)∨ (Region.wanted o (yielded ops a.tmps)=false/\Ψ undef w)
def nJ(l:List Oper)(n:Nat):Bool :=
 decide (n<l.length) && Region.sinkB .any l.toArray n && Region.chainB .any l.toArray n && Region.seqB .any l.toArray (l.length - n) n (jO l n) &&
 (l.take n).all (fun o=>o.dst.isSome) && decide (dstsOf l n).Nodup && (List.range n).all (fun i=>match l[i]? with | some o=>o.after.all (fun e=>decide (e.on<i)) | none=>false)
theorem JA{id:Nat}{l:List Oper}{a0:Act}{w0:VA}(n:Nat)(hm:P.follows .mixedOrders=true)(hB:nJ l n=true)
  (R:VA->Prop) (E:VA->VA->Prop) (Φ:Nat->VC->VA->Prop) (hR:∀w w',R w->E w w'->R w') (hΦ:∀i v w w',Φ i v w->E w w'->Φ i v w')
  (h0:R {w0 with drawn:=w0.drawn+1})
  (hstep:∀(i:Nat)(o:Oper)(vs:List VC)(w:VA),i<n->l[i]? =some o->vs.length=n->R w-> (∀e∈o.after,Region.binds .any e=true->∀v,vs[e.on]? =some v->Φ e.on v w) ->
    nX P l.toArray o (aZ a0 ((dstsOf l n).zip vs)) w fun v w'=>E w w'/\Φ i v w')
  (htail:∀(vs:List VC)(w:VA),vs.length=n->R w-> (∀i v,vs[i]? =some v->Φ i v w)->wpList P l.toArray Q (l.drop n) (aZ a0 ((dstsOf l n).zip vs)) w) :
  (Code.region id l.toArray true).wp P Q a0 w0:=by
 simp only[nJ,Bool.and_eq_true,decide_eq_true_eq,List.all_eq_true]at hB;obtain⟨⟨⟨⟨⟨⟨hn,hs⟩,hc⟩,hseq⟩,hdst⟩,hnd⟩,hback⟩:=hB;have hdl: (dstsOf l n).length=n:=by simp[dstsOf];omega
 refine wp_region_any hm ?_
 -- the state:which operations have been carried out,what the temporaries hold
 have main:∀(f:Nat)(listed:Array Bool)(vs:List VC)(w:VA),HeadInv .any l.toArray n listed->vs.length=n->R w ->
   (∀i v,i<n->listed.getD i false=true->vs[i]? =some v->Φ i v w)-> (listed.toList.take n).count false=f ->
   wpAny P .any l.toArray Q (f+ (l.length - n)) listed (aZ a0 ((dstsOf l n).zip vs)) w:=by
  intro f
  induction f with
  | zero =>
    intro listed vs w inv hv hw b hcnt;have hall:∀i,i<n->listed.getD i false=true:=by
     intro i hi;have hsz:i<listed.size:=by rw[inv.size];simp;omega
     have hmem:listed.toList[i]? =some listed[i]:=by simp[hsz]
     have hne:listed[i]≠false:=by
      intro e;have hm2:false∈listed.toList.take n:=by
       rw[List.mem_take_iff_getElem];exact⟨i,by simp;omega,by simpa using e⟩
      have:=List.count_pos_iff.2 hm2;omega
     simp[hsz];simpa using hne
    have hfull:listed=jO l n:=by
     apply Array.ext
     . rw[inv.size];simp[jO]
     . intro i h1 h2
       have hil:i<l.length:=by rw[inv.size]at h1;simpa using h1
       simp only[jO,List.getElem_toArray,List.getElem_map,List.getElem_range];by_cases hi:i<n
       . have:=hall i hi;simp[h1]at this;simp[this,hi]
       . have:=inv.tail i (by omega) (by simpa using hil);simp[h1]at this;simp[this,hi]
    subst hfull;have hw':=htail vs w hv hw (fun i v hi=>b i v (by have:=(List.getElem?_eq_some_iff.1 hi).1;omega) (hall i (by have:=(List.getElem?_eq_some_iff.1 hi).1;omega)) hi);have:=wpAny_of_seq (md:= .any) (Q':=Q) (l.drop n) n (jO l n) _ w (fun j=>by simp[List.getElem?_drop]) (by rw[List.length_drop];exact hseq) hw';rw[List.length_drop]at this
    simpa using this
  | succ f ih =>
    intro listed vs w inv hv hw b hcnt;have hun:∃i,i<n/\listed.getD i true=false:=by
     have:0< (listed.toList.take n).count false:=by omega
     have hm2:=List.count_pos_iff.1 this;rw[List.mem_take_iff_getElem]at hm2;obtain⟨i,hi,hv2⟩:=hm2;refine⟨i,by simp at hi;omega,?_⟩;have hsz:i<listed.size:=by simp at hi;omega
     rw[Array.getD_eq_getD_getElem?,Array.getElem?_eq_getElem hsz];simpa using hv2
    rw[show f+1+ (l.length - n)= (f+ (l.length - n))+1 by omega];obtain⟨i0,hi0,hu0⟩:=hun;have a:∀i∈Region.ready .any l.toArray listed,i<n:=by
     intro i hi;rcases Nat.lt_or_ge i n with h | h
     . exact h
     . exact absurd hi (tail_waits hs hc (by simpa using hn) inv _ i0 rfl hi0 hu0 i h)
    have hne:Region.ready .any l.toArray listed≠ []:=by
     -- the first operation that is not yet carried out and whose own conditions are all met:by the least such index
     intro hnil;obtain⟨m,hm1,hm2⟩:∃m,(m<n/\listed.getD m true=false)/\∀k,k<m->¬(k<n/\listed.getD k true=false):=by
      have:∀m,(m<n/\listed.getD m true=false)->∃m,(m<n/\listed.getD m true=false)/\∀k,k<m->¬(k<n/\listed.getD k true=false):=by
       intro m
       induction m using Nat.strongRecOn with
       | _ m ihm =>
         intro h;by_cases hex:∃k,k<m/\ (k<n/\listed.getD k true=false)
         . obtain⟨k,hk,hk2⟩:=hex;exact ihm k hk hk2
         . exact⟨m,h,fun k hk hk2=>hex ⟨k,hk,hk2⟩⟩
      exact this i0 ⟨hi0,hu0⟩
     have hml:m<l.length:=by omega
     have hmo:l[m]? =some l[m]:=Z5 hml;have hb1:=hback m (List.mem_range.2 hm1.1);rw[hmo]at hb1;simp only at hb1;have hmr:m∈Region.ready .any l.toArray listed:=by
      refine mem_ready.2 ⟨hm1.2,l[m],by simp,fun e he _=>?_⟩;have hlt:e.on<m:=by
       have:=(Array.all_eq_true_iff_forall_mem.1 hb1) e he
       simpa using this
      have hnot:=hm2 e.on hlt;cases hx:listed.getD e.on true with
      | true =>
        have hsz:e.on<listed.size:=by rw[inv.size];simp;omega
        simp[hsz]at hx ⊢;exact hx
      | false=>exact absurd ⟨by omega,hx⟩ hnot
     rw[hnil]at hmr;cases hmr
    refine⟨fun h=>absurd h hne,fun i hi=>?_⟩;have hin:=a i hi;obtain⟨hlf,o,ho,g⟩:=mem_ready.1 hi;have ho':l[i]? =some o:=by simpa using ho
    have hmem:o∈l.take n:=List.mem_take_iff_getElem.2 ⟨i,(by have:=(List.getElem?_eq_some_iff.1 ho').1;omega),(List.getElem?_eq_some_iff.1 ho').2⟩;have hdo:=hdst o hmem;obtain⟨d,hd⟩:=Option.isSome_iff_exists.1 hdo;have hdi: (dstsOf l n)[i]? =some d:=by
     simp[dstsOf,hin,ho',hd]
    have p:=hstep i o vs w hin ho' hv hw (fun e he hb v hve=>by
     have hle:=g e he hb;have hen:e.on<n:=by have:=(List.getElem?_eq_some_iff.1 hve).1;omega
     exact b e.on v hen hle hve)
    have hgo:∀v w',(E w w'/\Φ i v w')->wpAny P .any l.toArray Q (f+ (l.length - n)) (listed.setIfInBounds i true) ((aZ a0 ((dstsOf l n).zip vs)).put o.dst v) w':=?hgo
    case hgo =>
     intro v w' hvw;rw[hd,<-wu a0 (dstsOf l n) vs i d v hnd (by rw[hdl,hv]) hdi];have hsz:i<listed.size:=by rw[inv.size];simp;omega
     have q:listed.toList[i]? =some false:=by
      simp[hsz]at hlf ⊢;exact hlf
     refine ih (listed.setIfInBounds i true) (vs.set i v) w' (inv.set hi hin) (by simpa using hv) (hR w w' hw hvw.1) ?_ ?_
     . intro j u hj hlj c
       by_cases e:j=i
       . subst e
         have hjl:j<vs.length:=by omega
         rw[List.getElem?_set_self hjl]at c;cases c;exact hvw.2
       . rw[List.getElem?_set_ne (fun h=>e h.symm)]at c
         rw[getD_set_ne false (fun h=>e h.symm)]at hlj;exact hΦ j u w w' (b j u hj hlj c) hvw.1
     . have: (listed.setIfInBounds i true).toList.take n= (listed.toList.take n).set i true:=by
         rw[Array.toList_setIfInBounds,List.take_set]
       rw[this];have h2:=Bf (l:=listed.toList.take n) (i:=i) (by rw[List.getElem?_take,if_pos hin];exact q);omega
    unfold wpOp;simp only[ho];rcases p with ⟨hw1,hw2⟩ | ⟨hw1,hw2⟩
    . rw[if_pos hw1]
      exact .inl (hw2 _ _ hgo)
    . rw[if_neg (by rw[hw1];simp)]
      exact hgo undef w hw2
 have inv0:HeadInv .any l.toArray n (Array.replicate l.toArray.size false) :=
  ⟨by simp,fun j oj _ hl=>(by rw[getD_replicate_false]at hl;cases hl),fun t _ ht=>getD_in (by simpa using ht) (getD_replicate_false _ _)⟩
 have:=main n (Array.replicate l.toArray.size false) ((dstsOf l n).map fun d=>a0.tmps.getD d undef) _ inv0 (by simpa using hdl) h0
  (fun i v _ hl _=>by rw[getD_replicate_false]at hl;cases hl) (by simp;omega)
 rw[vW,show n+ (l.length - n)=l.toArray.size by simp;omega]at this;exact this
theorem mD{id:Nat}{l:List Oper}{a0:Act}{w0:VA}(n:Nat)(ds:List Tmp)(hm:P.follows .mixedOrders=true)(hB:nJ l n=true)(hds:dstsOf l n=ds)
  (R:VA->Prop) (E:VA->VA->Prop) (Φ:Nat->VC->VA->Prop) (hR:∀w w',R w->E w w'->R w') (hΦ:∀i v w w',Φ i v w->E w w'->Φ i v w')
  (h0:R w0.drew)
  (hstep:∀(i:Nat)(o:Oper)(vs:List VC)(w:VA),i<n->l[i]? =some o->vs.length=n->R w-> (∀e∈o.after,Region.binds .any e=true->∀v,vs[e.on]? =some v->Φ e.on v w) ->
    nX P l.toArray o (aZ a0 (ds.zip vs)) w fun v w'=>E w w'/\Φ i v w')
  (htail:∀(vs:List VC)(w:VA),vs.length=n->R w-> (∀i v,vs[i]? =some v->Φ i v w)->wpList P l.toArray Q (l.drop n) (aZ a0 (ds.zip vs)) w) :
  (Code.region id l.toArray true).wp P Q a0 w0:=by
 subst hds;exact JA n hm hB R E Φ hR hΦ h0 hstep htail
def oC(vals:List VC)(i:Nat)(v:VC)(_:VA):Prop:=∀u,vals[i]? =some u->v=u
end
section
open Go.Maps
theorem LH{a b:VB}{le:Bool}(h: (Op.bytesLess a.toList b.toList || a.toList == b.toList)=le):less b a=!le:=by
 rw[xZ,lS]at h;subst h;by_cases e:a=b
 . subst e;simp[iY]
 . simp only[e,decide_false,Bool.or_false]
   cases h1:less a b with
   | true=>rw[KA h1];rfl
   | false =>
     cases h2:less b a with
     | true=>rfl
     | false=>exact absurd (mY h1 h2) e
end
section
open Go.Maps
theorem yO{x:Int}(h1: -9223372036854775808<=x)(h2:x<9223372036854775808):IntKind.i64.wrap x=x:=by
 simp[IntKind.wrap,IntKind.bits,IntKind.signed];omega
end
theorem IQ: (Tryz.prog.info? 175).map (fun i=>(i.zero,i.size,i.bytes))=some (some (.agg #[.int .i64 0,.string ⟨#[]⟩]),2,24):=by kernel_rfl
theorem RD(l:List (Nat×VD)):∀u∈flat wrC l,u.oneCell'=true:=fun u hu=>by
 unfold flat at hu;obtain⟨i,_,h⟩:=List.mem_flatMap.1 hu;simp[wrC]at h;rcases h with rfl | rfl <;> rfl
def Vh(n:Nat)(w:VA)(e:Ending)(w':VA):Prop:=∃A c,e= .returned (.slice A 0 c)/\Apd w' w.heap.size 175 2 A 0 c []/\VE w w'/\n<=c/\c<=maxLen
theorem O1(n:Nat)(w:VA)(h0:0<n)(hn:n<=1000000):Calls Tryz.prog 294 #[.slice none 0 0,.int .i64 n] w (Vh n w):=by
 obtain⟨i0,hi,hz0,hz1,hz2⟩:=info_parts IQ;have HR:Hid (∀ty,(Builtin.append_ #[23,3] ty #[.slice none 0 0,.int .i64 (n:Int)]).run Tryz.prog w= .ok (.slice (some ⟨w.heap.size,0,none⟩) n (grownCap w n 0 175)) (w.drew.alloc (.cells (#[]++Builtin.zeroCells (Value.agg #[.int .i64 0,.string ⟨#[]⟩]).cells n++Builtin.zeroCells (Value.agg #[.int .i64 0,.string ⟨#[]⟩]).cells (grownCap w n 0 175 - n)) 175))):=fun ty=>by
  have h:=Lib.run_append_grow_zeros w 23 3 ty 175 i0 _ .i64 .i64 Tryz.underlying23 Tryz.underlying3 hi hz0 none 0 0 [] (run_firstCells_none w.drew i0.size 0 0 0) n h0 (by rw[hz1];omega) (by omega) (by omega) (by rw[hz2];omega) (growslice_fits (by omega) (by rw[hz2];omega));simp only[Nat.zero_add]at h;exact h
 clear hi hz0 hz1 hz2;have hG:=grownCap_ge w n 0 175;have hG2:=grownCap_le_maxLen w n 0 175 (by unfold maxLen;omega);obtain⟨G,a⟩:=NX9 (grownCap w n 0 175)
 rw[a]at HR hG hG2;obtain⟨W,hW⟩:=NX9 (w.drew.alloc (.cells (#[]++Builtin.zeroCells (Value.agg #[.int .i64 0,.string ⟨#[]⟩]).cells n++Builtin.zeroCells (Value.agg #[.int .i64 0,.string ⟨#[]⟩]).cells (G - n)) 175))
 rw[hW]at HR;have HB:VF w W:=by rw[<-hW];exact(ah _ w).drew.alloc aj _
 have HA:Hid (Apd W w.heap.size 175 2 (some ⟨w.heap.size,0,none⟩) 0 G []):=by
  refine .inl ⟨rfl,.inr ⟨w.heap.size,G,_,rfl,Nat.le_refl _,by rw[<-hW];exact heap_alloc_new w.drew _,ZX _,hG2,?_,by simp⟩⟩;rw[Array.size_append,Array.size_append,size_zeroCells,size_zeroCells];show 0+n*2+ (G - n)*2=G*2;omega
 have HG2:=ai hG2;have HG:=ai hG;have hG3:G<=9223372036854775807:=by unfold maxLen at hG2;exact hG2
 clear hW a hG2
 go_enter Tryz.func294,Tryz.ntmps294
 go_wp2_with (at_builtin;refine Lib.wpList_append_run _ rfl _ _ _ _ rfl _ _ rfl rfl _ _ (HR.o _) ?_)
 go_ret
 exact⟨_,_,rfl,HA.o,HB.o,HG.o,HG2.o⟩
structure Csl where
 A:OA
 n:Nat
 c:Nat
 xs:List (Nat×VD)
def csC(s:Csl):List VC:= [.slice s.A s.n s.c]
theorem yz(s:Csl): (csC s).length=1:=rfl
def fH(l:List Csl):Nat:=(l.map Csl.n).sum
theorem O0(l:List Csl)(s:Csl):fH (l++ [s])=fH l+s.n:=by simp[fH]
theorem Rn(l:List Csl)(k:Nat):fH (l.take k)<=fH l:=by
 conv=>rhs;rw[<-List.take_append_drop k l]
 unfold fH;rw[List.map_append,List.sum_append];omega
def UX(n:Nat)(xs:List (Nat×VD))(w:VA)(e:Ending)(w':VA):Prop:=∃A c,e= .returned (.slice A n c)/\Apd w' w.heap.size 175 2 A n c (flat wrC xs)/\VE w w'/\n<=c/\c<=maxLen
theorem Kz(A:OA)(m c B:Nat)(ls:List Csl)(w:VA)(hk:Sl w B 1 A m (flat csC ls))(hs:∀s∈ls,Sl w B 2 s.A s.n (flat wrC s.xs))(hB:B<=w.heap.size)(hm:m<=1000)(hn:fH ls<=1000000)(hpos:0<fH ls) :
  Calls Tryz.prog 249 #[.slice A m c] w (UX (fH ls) (ls.flatMap Csl.xs) w):=by
 have HK:=ai hk;have HS:=ai hs;have HL:=ai (hk.len yz (by omega));obtain⟨i0,hi,hz0,hz1,hz2⟩:=info_parts IQ;have Hi:=ai hi;have g:=ai hz0;have l:=ai hz1;have o:=ai hz2;have HT:Hid (∀k s,ls[k]? =some s->fH (ls.take (k+1))=fH (ls.take k)+s.n):=fun k s h=>by rw[aV h,O0]
 have a:=ai (Rn ls);have d:Hid (fH (ls.take m)=fH ls):=by show _=_;rw[<-HL.o,List.take_length]
 obtain⟨N,hN⟩:=NX9 (fH ls)
 rw[hN]at hn hpos a d;rw[hN];clear hi hz0 hz1 hz2 hk hs hN
 go_enter Tryz.func249,Tryz.ntmps249
 go_wp2_with fail
 go_loopw[3,11] (fun s i wr=>∃(k s':Nat),k<=m/\i= .int .i64 (k:Int)/\s= .int .i64 (s':Int)/\w=wr/\Hid (fH (ls.take k)=s')/\s'<=1000000) (fun _ i _=>m - (intOf i).toNat)
 case atStart=>exact⟨0,0,ZX _,rfl,rfl,rfl,rfl,by omega⟩
 case round =>
  obtain⟨k,s,hk,rfl,rfl,rfl,hs,hs6⟩:=hrel;by_cases hlt:k<m
  . obtain⟨b,off,x,rfl,hb,hx,hc⟩:=HK.o.at_ yz (by omega) hlt
    have x0:=hc 0 _ rfl;simp only[Nat.mul_one,Nat.add_zero]at x0;have hs2:Hid (fH (ls.take (k+1))=s+x.n):=by show _=_;rw[HT.o k x hx,hs.o]
    have h6:s+x.n<=1000000:=by have:=a.o (k+1);rw[hs2.o]at this;omega
    clear hc hx;go_wp2_with fail;go_roundw
    case rel=>exact⟨k+1,s+x.n,by omega,by go_num,by go_num,trivial,hs2.o,h6⟩
    case measure=>simp[intOf];omega
  . obtain rfl:k=m:=by omega
    have p:s=N:=by rw[<-hs.o,d.o]
    subst p;have HG:=ai (O1 s w hpos hn);go_wp2_with fail;refine HG.o.mono ?_;rintro e w2 ⟨A2,c2,rfl,ha,hb,hc1,hc2⟩;have HA:=ai ha;have HB:=ai hb;clear ha hb HG;go_wp2_with fail
    go_loopw[6,27] (fun r i wq=>∃(j n':Nat)(A':OA)(c':Nat),j<=k/\i= .int .i64 (j:Int)/\r= .slice A' n' c'/\Hid (Apd wq w.heap.size 175 2 A' n' c' (flat wrC ((ls.take j).flatMap Csl.xs)))/\VF w wq/\n'<=c'/\c'<=maxLen/\Hid (fH (ls.take j)=n')/\n'<=1000000) (fun _ i _=>k - (intOf i).toNat)
    case atStart=>exact⟨0,0,A2,c2,ZX _,rfl,rfl,HA.o,HB.o,ZX _,hc2,rfl,by omega⟩
    case round =>
     obtain⟨j,n',A',c',hj,rfl,rfl,hA,hBel,hmc,hcm,ht,u⟩:=hrel;by_cases hlt2:j<k
     . obtain⟨b,off,x,rfl,hb,hx,hc⟩:=(HK.o.below hBel.o hB).at_ yz (by omega) hlt2
       have x0:=hc 0 _ rfl;simp only[Nat.mul_one,Nat.add_zero]at x0;have hs2:Hid (fH (ls.take (j+1))=n'+x.n):=by show _=_;rw[HT.o j x hx,ht.o]
       have h6:n'+x.n<=1000000:=by have:=a.o (j+1);rw[hs2.o]at this;omega
       have HX:=ai ((HS.o x (Z7 hx)).below hBel.o hB);have HE:Hid ((ls.take (j+1)).flatMap Csl.xs= (ls.take j).flatMap Csl.xs++x.xs):=by show _=_;rw[aV hx,List.flatMap_append];simp
       have HN:Hid (n'+x.n<=maxLen):=by show _<=_;unfold maxLen;omega
       have v:Hid ((n'+x.n)*24<=140737488355328):=by show _<=_;omega
       clear hc hx
       go_wp2_with (at_builtin;refine aO ?_)
       refine aH ?_;refine eG (base:=w.heap.size) (size:=2) _ rfl (.tmp 31) (.tmp 32) 23 rfl 175 i0 _ 24 Tryz.underlying23 Hi.o g.o l.o o.o rfl (by decide) A' n' c' _ rfl hA.o B _ x.n _ _ rfl HX.o (RD _) HN.o v.o hBel.o.size ?_;intro A4 c4 w4 f hb4 hn4 hm4 _;rw[<-bQ,<-HE.o]at f;have q:=ai f;have HB4:VF w w4:=hBel.o.trans hb4;clear f hb4 hA;go_wp2_with fail;go_roundw
       case rel=>exact⟨j+1,_,A4,c4,by omega,by go_num,rfl,q.o,HB4.o,hn4,hm4,hs2.o,h6⟩
       case measure=>simp[intOf];omega
     . obtain rfl:j=k:=by omega
       have hn':n'=s:=by rw[<-ht.o,d.o]
       subst hn';have t:Hid (ls.take j=ls):=by show _=_;rw[<-HL.o,List.take_length]
       go_wp2_with fail;go_ret
       exact⟨_,_,rfl,by have:=hA.o;rwa[t.o]at this,hBel.o,hmc,hcm⟩
def bG(d:Dk)(x:Int)(w:VA)(e:Ending)(w':VA):Prop:=∃s,e= .returned (.tuple #[dkV d s,.int .i64 x])/\DkM w' w'.heap.size d s/\VE w w'
theorem gU{fn:Func}{c i:Tmp}(h:fn.results= #[.cell c 25,.tmp i]){w:VA}{a:Array VC}{b:Nat}{x0 x1 x2 x3 v:VC}(h1:a[c]?.getD undef= .pointer (some ⟨b,0,none⟩))(hk:Bk w b 25 #[x0,x1,x2,x3])(hv:a[i]?.getD undef=v) :
  (results fn a).run Tryz.prog w= .ok (.tuple #[.agg #[x0,x1,x2,x3],v]) w:=by
 obtain⟨c0,c1,c2,c3⟩:=hk.dk4;simp[results,h,h1,hv,go_sem,c0,c1,c2,c3]
theorem Bk.set4{w:VA}{b:Nat}{t:TypeId}{x0 x1 x2 x3:VC}(h:Bk w b t #[x0,x1,x2,x3])(y0 y1 y2 y3:VC) :
  Bk ((((w.setCell ⟨b,0,none⟩ y0).setCell ⟨b,1,none⟩ y1).setCell ⟨b,2,none⟩ y2).setCell ⟨b,3,none⟩ y3) b t #[y0,y1,y2,y3]:=by
 have:=(((h.set 0 y0).set 1 y1).set 2 y2).set 3 y3
 simpa using this
theorem eu{B b:Nat}{w w':VA}(h:Below B w w')(hb:B<=b)(y0 y1 y2 y3:VC):Below B w ((((w'.setCell ⟨b,0,none⟩ y0).setCell ⟨b,1,none⟩ y1).setCell ⟨b,2,none⟩ y2).setCell ⟨b,3,none⟩ y3) :=
 (((h.setCell (p:=⟨b,0,none⟩) hb y0).setCell (p:=⟨b,1,none⟩) hb y1).setCell (p:=⟨b,2,none⟩) hb y2).setCell (p:=⟨b,3,none⟩) hb y3
theorem Nz(d:Dk)(s:Dsl)(B i:Nat)(x:VD)(w:VA)(hd:d.Ok)(hm:DkM w B d s)(hB:B<=w.heap.size)(hp:d.pn.length<=900000)(hi:i<d.ss.length)(hx:x.length=d.sz) :
  Calls Tryz.prog 170 #[dkV d s,.int .i64 i,.string (ofL x)] w (bG (if d.lf=0 then d else doO d (some (i,x))) (if d.lf=0 then 20 else 0) w):=by
 obtain⟨W,hW⟩:=NX9 ((w.alloc (.cells (dkC d s) 25)).alloc (.cells #[.int .i64 0,.slice none 0 0,.slice none 0 0,.int .i64 0] 25))
 have HB0:VF w W:=by rw[<-hW];exact((ah _ w).alloc aj _).alloc (by simp) _
 have HK:Hid (Bk W w.heap.size 25 (dkC d s)):=by rw[<-hW];exact(Bk.new w _ _).alloc _
 have HZ:Hid (Bk W (w.heap.size+1) 25 #[.int .i64 0,.slice none 0 0,.slice none 0 0,.int .i64 0]):=by
  rw[<-hW];have:=Bk.new (w.alloc (.cells (dkC d s) 25)) 25 #[.int .i64 0,.slice none 0 0,.slice none 0 0,.int .i64 0]
  rwa[Z9]at this
 have n:W.heap.size=w.heap.size+2:=by rw[<-hW];simp
 have HM:Hid (DkM W B d s):=hm.below HB0.o hB;have j:=ai hm;have HC:=ai (rV d s B W hd HM.o (by omega) (by omega));have HH:=ai (fun W=>Fb d s i W);rw[show hasB d.ss.length i=true from decide_eq_true (by omega)]at HH;have hxz: ((ofL x).size:Int)=d.sz:=by rw[bU];omega
 have HD:=ai hd;obtain⟨lf,hlf⟩:=NX9 d.lf
 have hl1:=hd.lf;have hl2:=hd.lm;have k:=ai hlf;have HW:=ai hW;simp only[dkV,dkC,hlf]at HC HH HW HK hl1 hl2 ⊢;clear hd hm hW hlf;by_cases h0:lf=0
 . subst h0
   simp only[if_true];obtain⟨D,hD⟩:=NX9 (bG d 20 w)
   have b:=ai hD;rw[hD];clear hD
   go_enter Tryz.func170,Tryz.ntmps170
   go_wp2_with fail;rw[HW.o];refine HC.o.mono ?_;rintro e w1 ⟨rfl,hb1⟩;have HB1:VF W w1:=hb1;obtain⟨k0,k1,k2,k3⟩:=(HK.o.below hb1 (by omega)).dk4;clear hb1;go_wp2_with fail;refine(HH.o _).mono ?_;rintro e w2 ⟨rfl,hb2⟩;have HB2:VF W w2:=HB1.o.trans (hb2.mono HB1.o.size);have c:=ai (HK.o.below HB2.o (by omega));have HZ2:=ai (HZ.o.below HB2.o (by omega));obtain⟨k0,k1,k2,k3⟩:=c.o.dk4;obtain⟨z0,z1,z2,z3⟩:=HZ2.o.dk4;obtain⟨f0,f1,f2,f3⟩:=fr4 HZ2.o;clear hb2 HC HH;go_wp2_with fail;have HE:=ai (HZ2.o.set4 (.int .i64 d.sz) (.slice s.a1 d.ss.length s.c1) (.slice s.a2 d.pn.length s.c2) (.int .i64 0));refine ZW (gU Tryz.results170 rfl HE.o rfl) rfl ?_;rw[<-b.o];have hbw:=eu (HB0.o.trans (HB2.o.mono (by omega))) (show w.heap.size<=w.heap.size+1 by omega) (.int .i64 d.sz) (.slice s.a1 d.ss.length s.c1) (.slice s.a2 d.pn.length s.c2) (.int .i64 0);exact⟨s,by simp only[dkV,dkC,k.o];rfl,(j.o.below hbw hB).more (by have:=hbw.size;omega),hbw⟩
 . have hln: (lf == 0)=false:=by simpa using h0
   simp only[if_neg h0];obtain⟨D,hD⟩:=NX9 (bG (doO d (some (i,x))) 0 w)
   have b:=ai hD;rw[hD];have HL:=ai (fun W=>D8 lf W hl1 hl2);clear hD h0
   go_enter Tryz.func170,Tryz.ntmps170
   go_wp2_with fail;rw[HW.o];refine HC.o.mono ?_;rintro e w1 ⟨rfl,hb1⟩;have HB1:VF W w1:=hb1;obtain⟨k0,k1,k2,k3⟩:=(HK.o.below hb1 (by omega)).dk4;clear hb1;go_wp2_with fail;refine(HH.o _).mono ?_;rintro e w2 ⟨rfl,hb2⟩;have HB2:VF W w2:=HB1.o.trans (hb2.mono HB1.o.size);have c:=ai (HK.o.below HB2.o (by omega));obtain⟨k0,k1,k2,k3⟩:=c.o.dk4;have z2:=HB2.o.size;clear hb2 HC HH;obtain⟨W3,hW3⟩:=NX9 ((w2.alloc (.cells #[.int .i64 i,.string (ofL x)] 175)).alloc (.cells #[.slice s.a2 d.pn.length s.c2,.slice (some ⟨w2.heap.size,0,none⟩) 1 1] 23))
   have hb3:VE w2 W3:=by rw[<-hW3];exact((ah _ w2).alloc aj _).alloc (by simp) _
   have z3:W3.heap.size=w2.heap.size+2:=by rw[<-hW3];simp
   have s0:Sl W3 (w2.heap.size+1) 2 (some ⟨w2.heap.size,0,none⟩) 1 (flat wrC [(i,x)]):=by rw[<-hW3];exact(Sl.new w2 175 (flat wrC [(i,x)]) 1 rfl).alloc (by simp) _
   have sC:Sl W3 W3.heap.size 1 (some ⟨w2.heap.size+1,0,none⟩) 2 (flat csC [⟨s.a2,d.pn.length,s.c2,d.pn⟩,⟨some ⟨w2.heap.size,0,none⟩,1,1,[(i,x)]⟩]):=by
    have:=Sl.new (size:=1) (w2.alloc (.cells #[.int .i64 i,.string (ofL x)] 175)) 23 (flat csC [⟨s.a2,d.pn.length,s.c2,d.pn⟩,⟨some ⟨w2.heap.size,0,none⟩,1,1,[(i,x)]⟩]) 2 rfl;rw[Z9]at this;rw[z3,<-hW3];exact this
   have f:=ai (Kz (some ⟨w2.heap.size+1,0,none⟩) 2 2 W3.heap.size _ W3 sC (by
    intro q hq;simp only[List.mem_cons,List.not_mem_nil,or_false]at hq;rcases hq with rfl | rfl
    . exact((HM.o.pn.below (HB2.o.trans (hb3.mono (by omega))) (by omega)).more (by omega))
    . exact s0.more (by omega)) aj (by omega) (by simp[fH];omega) (by simp[fH]))
   have HB3:VF W W3:=HB2.o.trans (hb3.mono (by omega));have HW3:=ai hW3;clear hb3 s0 sC hW3;simp only[fH,List.map_cons,List.map_nil,List.sum_cons,List.sum_nil,Nat.add_zero,List.flatMap_cons,List.flatMap_nil,List.append_nil]at f;go_wp2_with fail;rw[HW3.o];refine f.o.mono ?_;rintro e w4 ⟨A4,c4,rfl,l,hb4,hn4,hm4⟩;have m:=ai l;have HB4:VF W w4:=HB3.o.trans (hb4.mono HB3.o.size);have g:=ai (HK.o.below HB4.o (by omega));have h:=ai (HZ.o.below HB4.o (by omega));obtain⟨k0,k1,k2,k3⟩:=g.o.dk4;obtain⟨z0,z1,z2,z3⟩:=h.o.dk4;obtain⟨f0,f1,f2,f3⟩:=fr4 h.o;have g2:=g.o.free 2;have g3:=g.o.free 3;clear l hb4 f;go_wp2_with fail;refine(HL.o _).mono ?_;rintro e w5 ⟨rfl,rfl⟩;go_wp2_with fail;have HE:=ai ((((h.o.far (p:=⟨w.heap.size,2,none⟩) (by show w.heap.size+1≠w.heap.size;omega) (.slice A4 (d.pn.length+1) c4)).far (p:=⟨w.heap.size,3,none⟩) (by show w.heap.size+1≠w.heap.size;omega) (.int .i64 (fP lf))).set4 (.int .i64 d.sz) (.slice s.a1 d.ss.length s.c1) (.slice A4 (d.pn.length+1) c4) (.int .i64 (fP lf))));refine ZW (gU Tryz.results170 rfl HE.o rfl) rfl ?_;rw[<-b.o];have hbw:=eu (((HB0.o.trans (HB4.o.mono (by omega))).setCell (p:=⟨w.heap.size,2,none⟩) aj (.slice A4 (d.pn.length+1) c4)).setCell (p:=⟨w.heap.size,3,none⟩) aj (.int .i64 (fP lf))) (show w.heap.size<=w.heap.size+1 by omega) (.int .i64 d.sz) (.slice s.a1 d.ss.length s.c1) (.slice A4 (d.pn.length+1) c4) (.int .i64 (fP lf));have hlt1:w.heap.size<W3.heap.size:=by omega
   have hlt2:w.heap.size+1<W3.heap.size:=by omega
   have hap:=(((((m.o.setCell (a:=⟨w.heap.size,2,none⟩) hlt1 (.slice A4 (d.pn.length+1) c4)).setCell (a:=⟨w.heap.size,3,none⟩) hlt1 (.int .i64 (fP lf))).setCell (a:=⟨w.heap.size+1,0,none⟩) hlt2 (.int .i64 d.sz)).setCell (a:=⟨w.heap.size+1,1,none⟩) hlt2 (.slice s.a1 d.ss.length s.c1)).setCell (a:=⟨w.heap.size+1,2,none⟩) hlt2 (.slice A4 (d.pn.length+1) c4)).setCell (a:=⟨w.heap.size+1,3,none⟩) hlt2 (.int .i64 (fP lf));refine⟨⟨s.a1,s.c1,A4,c4⟩,?_,⟨(j.o.ss.below hbw hB).more (by have:=hbw.size;omega),?_⟩,hbw⟩
   . simp only[dkV,dkC,doO,af,Z4,List.length_nil,k.o];rfl
   . show Sl _ _ 2 A4 (d.pn++ [(i,x)]).length _
     rw[af];exact hap.sl
section
open Go.RowKit Go.Sort
def Gro(w w':VA):Prop:=∃q os',w'=grow (w.drewN q) os'
section
variable {a b c : VA}
theorem Gro.refl(w:VA):Gro w w:=⟨0,#[],by rw[grow_empty];rfl⟩
theorem Gro.alloc(h:Gro a b)(o:Obj):Gro a (b.alloc o):=by
 obtain⟨q,os,rfl⟩:=h;exact⟨q,os++ #[o],by rw[alloc_eq_grow,grow_grow]⟩
theorem MG(w:VA)(os:Array Obj)(k:Nat): (grow w os).drewN k=grow (w.drewN k) os:=by
 simp[World.drewN,grow]
theorem drewN_drewN(w:VA)(i j:Nat): (w.drewN i).drewN j=w.drewN (i+j):=by
 simp[World.drewN,Nat.add_assoc]
theorem Gro.drew(h:Gro a b):Gro a b.drew:=by
 obtain⟨q,os,rfl⟩:=h;exact⟨q+1,os,by rw[drew_grow,<-drewN_drewN];rfl⟩
theorem Gro.trans(h:Gro a b)(g:Gro b c):Gro a c:=by
 obtain⟨q,os,rfl⟩:=h;obtain⟨q2,os2,rfl⟩:=g;exact⟨q+q2,os++os2,by rw[MG,grow_grow,drewN_drewN]⟩
theorem Gro.bel(h:Gro a b):VE a b:=by
 obtain⟨q,os,rfl⟩:=h;exact⟨rfl,rfl,rfl,by simp[grow,World.drewN],fun k hk=>by
  simp only[grow,World.drewN];rw[Array.getElem?_append_left (by simpa using hk)]⟩
end
end
structure Gb(p:Nat->Prop)(w w':VA):Prop where
 os:w'.os=w.os
 tape:w'.tape=w.tape
 output:w'.output=w.output
 size:w.heap.size<=w'.heap.size
 block:∀k,k<w.heap.size->¬p k->w'.heap[k]? =w.heap[k]?
section
variable {p q : Nat -> Prop} {a b c : VA}
theorem Gb.refl(p:Nat->Prop)(w:VA):Gb p w w:=⟨rfl,rfl,rfl,Nat.le_refl _,fun _ _ _=>rfl⟩
theorem Gb.trans(h:Gb p a b)(k:Gb p b c):Gb p a c:=⟨k.os.trans h.os,k.tape.trans h.tape,k.output.trans h.output,ZY h.size k.size,fun i hi hp=>(k.block i (Nat.lt_of_lt_of_le hi h.size) hp).trans (h.block i hi hp)⟩
theorem Gb.mono(h:Gb p a b)(hq:∀k,k<a.heap.size->p k->q k):Gb q a b:=⟨h.os,h.tape,h.output,h.size,fun i hi hn=>h.block i hi (fun hp=>hn (hq i hi hp))⟩
theorem Gb.of_below(h:VE a b):Gb p a b:=⟨h.os,h.tape,h.output,h.size,fun i hi _=>h.block i hi⟩
theorem Gb.below{B:Nat}(h:Gb p a b)(hB:B<=a.heap.size)(hp:∀k,k<B->¬p k):Below B a b:=⟨h.os,h.tape,h.output,h.size,fun i hi=>h.block i (by omega) (hp i hi)⟩
theorem Gb.set{w:VA}{x:Nat}(hx:p x)(o:Nat)(v:VC):Gb p w (w.setCell ⟨x,o,none⟩ v):=⟨rfl,rfl,rfl,by simp,fun i _ hn=>Z8 w ⟨x,o,none⟩ v i (fun e=>hn (by have e':i=x:=e;rw[e'];exact hx))⟩
theorem Gb.after{x:Nat}(h:Gb p a b)(hx:a.heap.size<=x)(o:Nat)(v:VC):Gb p a (b.setCell ⟨x,o,none⟩ v):=⟨h.os,h.tape,h.output,by have:=h.size;simpa using this,fun i hi hn=>(Z8 b ⟨x,o,none⟩ v i (fun e=>by have e':i=x:=e;omega)).trans (h.block i hi hn)⟩
theorem Gb.bk{x:Nat}{t:TypeId}{cs:Array VC}(h:Gb p a b)(hk:Bk a x t cs)(hx:¬p x):Bk b x t cs:=(h.block x hk.lt hx).trans hk
end
theorem kN{w:VA}{rb:Nat}{t:TypeId}{x y:VC}(h:Bk w rb t #[x,y])(x' y':VC):Bk ((w.setCell ⟨rb,1,none⟩ y').setCell ⟨rb,0,none⟩ x') rb t #[x',y']:=by
 have:=(h.set 1 y').set 0 x'
 simpa using this
theorem kM(w:VA)(rb:Nat)(x' y':VC):Gb (fun g=>g=rb) w ((w.setCell ⟨rb,1,none⟩ y').setCell ⟨rb,0,none⟩ x') :=
 (Gb.set (p:=fun g=>g=rb) (x:=rb) rfl 1 y').trans (Gb.set (p:=fun g=>g=rb) (x:=rb) rfl 0 x')
def wd1(l:VD)(k:Nat):Nat:=dZ 0 (l.take (min k 8))
def wd2(l:VD)(k:Nat):Nat:=dZ 0 ((l.drop 8).take (k - 8))
theorem Dy(l:VD)(b:UInt8):dZ 0 (l++ [b])=dZ 0 l*256+b.toNat:=by simp[dZ]
theorem FI{l:VD}{k:Nat}{b:UInt8}(h:l[k]? =some b)(hk:k<8):wd1 l (k+1)=wd1 l k*256+b.toNat/\wd2 l (k+1)=wd2 l k:=by
 unfold wd1 wd2;rw[show min (k+1) 8=k+1 by omega,show min k 8=k by omega,aV h,Dy,show k+1 - 8=0 by omega,show k - 8=0 by omega];exact⟨rfl,rfl⟩
theorem Fj{l:VD}{k:Nat}{b:UInt8}(h:l[k]? =some b)(hk:8<=k):wd1 l (k+1)=wd1 l k/\wd2 l (k+1)=wd2 l k*256+b.toNat:=by
 unfold wd1 wd2;have h': (l.drop 8)[k - 8]? =some b:=by rw[List.getElem?_drop,show 8+ (k - 8)=k by omega];exact h
 rw[show min (k+1) 8=8 by omega,show min k 8=8 by omega,show k+1 - 8=k - 8+1 by omega,aV h',Dy];exact⟨rfl,rfl⟩
theorem Iy{l:VD}{k:Nat}(hk:k<8):wd1 l k<256 ^ 7:=by
 have h:=nN (l.take (min k 8)) 0;have hl: (l.take (min k 8)).length<=7:=by rw[List.length_take];omega
 have:=Nat.pow_le_pow_right (n:=256) (by omega) hl;unfold wd1;omega
theorem H9{l:VD}{k:Nat}(hk:k<16):wd2 l k<256 ^ 7:=by
 have h:=nN ((l.drop 8).take (k - 8)) 0;have hl: ((l.drop 8).take (k - 8)).length<=7:=by rw[List.length_take];omega
 have:=Nat.pow_le_pow_right (n:=256) (by omega) hl;unfold wd2;omega
theorem IY(l:VD):dg l= ((wd1 l 16:Int),(wd2 l 16:Int)):=rfl
theorem tX{s:VB}{k:Nat}(h:k<s.size): (toL s)[k]? =some s[k]:=by
 rw[Z5 (by rw[<-aQ];exact h)];rfl
theorem tY{x y:Nat}(hx:x<256 ^ 7)(hy:y<256):bits .or .u64 ((x:Int)*256) (y:Int)= (x:Int)*256+ (y:Int) :=
 bits_join .u64 64 (by decide) (fun n h0 h1=>IntWalk.u64_in n (by omega)) 8 ((x:Int)*256) (y:Int) (by omega) (by omega) (by omega) (by omega) (by omega) (by omega)
structure Kt(w w':VA):Prop where
 others:KeepsOthers w w'
 same:∀(k:Nat)(cs:Array VC)(t:TypeId)(fr:Nat×Nat),t≠5->t≠215->w.heap[k]? =some (.cells cs t fr)->w'.heap[k]? =some (.cells cs t fr)
theorem Kt.refl(w:VA):Kt w w:=⟨KeepsOthers.refl w,fun _ _ _ _ _ _ h=>h⟩
theorem Kt.trans{a b c:VA}(h:Kt a b)(k:Kt b c):Kt a c:=⟨h.others.trans k.others,fun i cs t fr h5 h9 hi=>k.same i cs t fr h5 h9 (h.same i cs t fr h5 h9 hi)⟩
theorem Kt.alloc(w:VA)(o:Obj):Kt w (w.alloc o):=⟨KeepsOthers.alloc w o,fun k _ _ _ _ _ h=>(Below.heap_alloc w o k (Array.getElem?_eq_some_iff.1 h).1).trans h⟩
theorem Kt.setCell{w:VA}{b i:Nat}{cs:Array VC}{fr:Nat×Nat}(hb:w.heap[b]? =some (.cells cs 215 fr))(v:VC):Kt w (w.setCell ⟨b,i,none⟩ v) :=
 ⟨KeepsOthers.setCell _ _ _,fun k cs' t fr' _ h9 h=>(Z8 w ⟨b,i,none⟩ v k (fun e=>by
   have e':k=b:=e;rw[e',hb]at h;simp only[Option.some.injEq,Obj.cells.injEq]at h;exact h9 h.2.1.symm)).trans h⟩
theorem Kt.grown{w w':VA}{base size n:Nat}{v:VC}{xs:List VC}(hown:w.ownsRow base 5 size v n xs)(hg:w.grownBy w' v.ownBlock):Kt w w':=by
 have key:∀j,v.ownBlock=some j->∃cur,w.heap[j]? =some (.cells cur 5 (0,0)):=by
  intro j hj;rcases hown.2 with ⟨hv,_⟩ | ⟨g,cap,cur,hv,_,hh,_⟩
  . rw[hv]at hj;cases hj
  . rw[hv]at hj;cases hj;exact⟨cur,hh⟩
 refine⟨KeepsOthers.of_grownBy hg fun j o hj ho=>?_,fun k cs t fr h5 _ h=>?_⟩
 . obtain⟨cur,hc⟩:=key j hj
   rw[hc]at ho;cases ho;rfl
 . refine(hg.block k (Array.getElem?_eq_some_iff.1 h).1 (fun e=>?_)).trans h
   obtain⟨cur,hc⟩:=key k e.symm;rw[hc]at h;simp only[Option.some.injEq,Obj.cells.injEq]at h;exact h5 h.2.1.symm
theorem infoByte: (Tryz.prog.info? 5).map (fun i=>(i.zero,i.size,i.bytes))=some (some (.int .u8 0),1,1):=by kernel_rfl
theorem OV(b:Nat)(w:VA)(h0:w.cell? ⟨b,0,none⟩=some (.pointer (some ⟨b,0,none⟩))) :
  Calls Tryz.prog 219 #[.pointer (some ⟨b,0,none⟩)] w fun e w'=>e= .returned (.tuple #[])/\w'=w:=by
 obtain⟨j,hj,_⟩:=Option.map_eq_some_iff.1 Tryz.Builder_Extra_169.sizeBuilder
 go_enter Tryz.func219,Tryz.ntmps219
 go_wp2
 rw[Lib.run_neq_ptr_same w _ Tryz.underlying212 hj]
 go_wp2
 go_end0
 exact⟨rfl,rfl⟩
theorem MO(b:Nat)(w:VA)(h0:w.cell? ⟨b,0,none⟩=some (.pointer none))(hsh:w.shape? b=some (215,2))(hfz:w.frozen? ⟨b,0,none⟩=false) :
  Calls Tryz.prog 219 #[.pointer (some ⟨b,0,none⟩)] w fun e w'=>e= .returned (.tuple #[])/\w'=w.setCell ⟨b,0,none⟩ (.pointer (some ⟨b,0,none⟩)):=by
 obtain⟨j,hj,hjs⟩:=Option.map_eq_some_iff.1 Tryz.Builder_Extra_169.sizeBuilder
 go_enter Tryz.func219,Tryz.ntmps219
 go_wp2
 rw[Lib.run_to_unsafe w ⟨b,0,none⟩ Tryz.underlying212 Tryz.underlying348 hj (by rw[hjs];decide) hsh (Nat.zero_lt_succ 1)];simp only[Result.andThen];rw[Oper.upon_value]
 go_wp2
 rw[run_callFunc_extern Tryz.func278 (by kernel_rfl) (by kernel_rfl) (by kernel_rfl) (e:=Extern.AbiNoEscape.same) (by kernel_rfl)];rw[Lib.run_noEscape];simp only[Result.andThen];rw[Oper.upon_value]
 go_wp2
 rw[Lib.run_from_unsafe w ⟨b,0,none⟩ Tryz.underlying348 Tryz.underlying212 hj hsh Tryz.Builder_Extra_169.liesBuilder];simp only[Result.andThen];rw[Oper.upon_value]
 go_wp2
 go_end0
 exact⟨rfl,rfl⟩
theorem Eh(B b:Nat)(bs:List VC)(w:VA)(h:Lib.IsBuilder 215 5 B b bs w) :
  Calls Tryz.prog 219 #[.pointer (some ⟨b,0,none⟩)] w fun e w'=>e= .returned (.tuple #[])/\ (Lib.BuilderAt 215 5 B b (.pointer (some ⟨b,0,none⟩)) bs w'/\Below B w w'/\Kt w w'):=by
 rcases h with h | h
 . refine(MO b w h.cell0 h.shape h.frozen0).mono ?_
   rintro e w' ⟨rfl,rfl⟩;obtain⟨_,v,hb,_⟩:=id h;exact⟨rfl,h.used _,(ah B w).setCell (p:=⟨b,0,none⟩) h.1 _,Kt.setCell hb _⟩
 . refine(OV b w h.cell0).mono ?_
   rintro e w' ⟨rfl,rfl⟩;exact⟨rfl,h,ah B _,Kt.refl _⟩
theorem JR(B b:Nat)(bs:List VC)(c:Int)(w:VA)(h:Lib.IsBuilder 215 5 B b bs w)(hlen:bs.length+1<=140737488355328)(hBw:B<=w.heap.size) :
  Calls Tryz.prog 252 #[.pointer (some ⟨b,0,none⟩),.int .u8 c] w fun e w'=>e= .returned .nilIface/\ (Lib.BuilderAt 215 5 B b (.pointer (some ⟨b,0,none⟩)) (bs++ [.int .u8 c]) w'/\Below B w w'/\Kt w w'):=by
 obtain⟨i0,hi,hz0,hz1,hz2⟩:=info_parts infoByte
 go_enter Tryz.func252,Tryz.ntmps252
 go_wp2_with fail;refine(Eh B b bs _ h).mono ?_;rintro e w1 ⟨rfl,h1,hb1,hk1⟩;have a:=ai hk1;clear hk1;obtain⟨hB,v,hbk,hown,hne⟩:=h1;have c0:w1.cell? ⟨b,0,none⟩=some (.pointer (some ⟨b,0,none⟩)):=by rw[Lib.cell_of_heap hbk];rfl
 have c1:w1.cell? ⟨b,1,none⟩=some v:=by rw[Lib.cell_of_heap hbk];rfl
 go_wp2_with (at_builtin;refine wpList_append_own _ rfl _ _ 213 rfl B 5 i0 (.int .u8 0) 1 1 Tryz.underlying213 hi hz0 hz1 hz2 rfl (by decide) _ _ _ rfl (hown.alloc _) ⟨w1.heap.size,0,none⟩ 1 1 [.int .u8 c] rfl rfl ?c1 ?c2 ?c3 ?c4 ?c5 ?_)
 case c1 =>
  intro j u hj
  match j,hj with
  | 0,hj=>simp at hj;subst hj;simp[Addr.add]
 case c2=>intro u hu;simp at hu;subst hu;rfl
 case c3=>unfold maxLen;omega
 case c4=>omega
 case c5=>have:=hb1.size;simp;omega
 intro v' w2 hown' hgrow _;have d:Hid (Kt w w2):=(a.o.trans (Kt.alloc _ _)).trans (Kt.grown (hown.alloc _) hgrow);have hlt:b<w1.heap.size:=(Array.getElem?_eq_some_iff.1 hbk).1;have hb2:w2.heap[b]? =some (.cells #[.pointer (some ⟨b,0,none⟩),v] 215 (0,0)):=by
  rw[hgrow.block b (by simp;omega) (fun e=>hne e.symm),Lib.alloc_old w1 _ b hlt];exact hbk
 have d0:w2.cell? ⟨b,0,none⟩=some (.pointer (some ⟨b,0,none⟩)):=by rw[Lib.cell_of_heap hb2];rfl
 have d1:w2.cell? ⟨b,1,none⟩=some v:=by rw[Lib.cell_of_heap hb2];rfl
 have f1:w2.frozen? ⟨b,1,none⟩=false:=Lib.frozen_of_heap hb2 1;obtain⟨g,cap,rfl⟩:∃g cap,v'= .slice (some ⟨g,0,none⟩) (bs.length+1) cap:=by
  rcases hown'.2 with ⟨_,h0⟩ | ⟨g,cap,cur,hv,_⟩
  . omega
  . exact⟨g,cap,hv⟩
 go_wp2
 go_ret
 refine⟨rfl,?_,?_,d.o.trans (Kt.setCell hb2 _)⟩
 . exact Lib.BuilderAt.put (T:=215) (e:=5) hB hb2 (bs':=bs++ [.int .u8 c]) (by simpa using hown') (by decide)
 . exact((hb1.alloc (by have:=hb1.size;omega) _).grown hgrow (by have:=hb1.size;simp;omega) (fun k hk=>(hown.lt k hk).1)).setCell (p:=⟨b,1,none⟩) hB _
theorem AL(B b:Nat)(bs:List VC)(s:VB)(w:VA)(h:Lib.IsBuilder 215 5 B b bs w)(hlen:bs.length+s.size<=140737488355328)(hBw:B<=w.heap.size) :
  Calls Tryz.prog 136 #[.pointer (some ⟨b,0,none⟩),.string s] w fun e w'=>e= .returned (.tuple #[.int .i64 s.size,.nilIface])/\ (Lib.BuilderAt 215 5 B b (.pointer (some ⟨b,0,none⟩)) (bs++Lib.strCells s) w'/\Below B w w'/\Kt w w'):=by
 obtain⟨i0,hi,hz0,hz1,hz2⟩:=info_parts infoByte
 go_enter Tryz.func136,Tryz.ntmps136
 go_wp2_with fail;refine(Eh B b bs _ h).mono ?_;rintro e w1 ⟨rfl,h1,hb1,hk1⟩;have a:=ai hk1;clear hk1;obtain⟨hB,v,hbk,hown,hne⟩:=h1;have c0:w1.cell? ⟨b,0,none⟩=some (.pointer (some ⟨b,0,none⟩)):=by rw[Lib.cell_of_heap hbk];rfl
 have c1:w1.cell? ⟨b,1,none⟩=some v:=by rw[Lib.cell_of_heap hbk];rfl
 go_wp2_with (at_builtin;refine Lib.wpList_append_own_string _ rfl _ _ 213 9 rfl B 5 i0 Tryz.underlying213 Tryz.underlying9 hi hz0 hz1 hz2 _ _ _ rfl hown s rfl ?c3 ?c4 ?c5 ?_)
 case c3=>unfold maxLen;omega
 case c4=>omega
 case c5=>have:=hb1.size;omega
 intro v' w2 hown' hgrow _;have c:Hid (Kt w w2):=a.o.trans (Kt.grown hown hgrow);have hlt:b<w1.heap.size:=(Array.getElem?_eq_some_iff.1 hbk).1;have hb2:w2.heap[b]? =some (.cells #[.pointer (some ⟨b,0,none⟩),v] 215 (0,0)):=by
  rw[hgrow.block b hlt (fun e=>hne e.symm)];exact hbk
 have d0:w2.cell? ⟨b,0,none⟩=some (.pointer (some ⟨b,0,none⟩)):=by rw[Lib.cell_of_heap hb2];rfl
 have d1:w2.cell? ⟨b,1,none⟩=some v:=by rw[Lib.cell_of_heap hb2];rfl
 have f1:w2.frozen? ⟨b,1,none⟩=false:=Lib.frozen_of_heap hb2 1;obtain⟨ao,n',cap,rfl⟩:∃ao n' cap,v'= .slice ao n' cap:=by
  rcases hown'.2 with ⟨hv,_⟩ | ⟨g,cap,cur,hv,_⟩
  . exact⟨_,_,_,hv⟩
  . exact⟨_,_,_,hv⟩
 go_wp2
 go_ret2
 refine⟨rfl,?_,?_,c.o.trans (Kt.setCell hb2 _)⟩
 . exact Lib.BuilderAt.put (T:=215) (e:=5) hB hb2 (bs':=bs++Lib.strCells s) (by simpa [Lib.strCells_length] using hown') (by decide)
 . exact(hb1.grown hgrow (by have:=hb1.size;omega) (fun k hk=>(hown.lt k hk).1)).setCell (p:=⟨b,1,none⟩) hB _
