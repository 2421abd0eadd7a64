/-Lemmas.-/
import Derived.Lib.BufferMore
import Derived.Shelf.SlSortCmp.NoneTotal
import Derived.Test.YtknefelegjlgnaaGreatDoorCCCm10
set_option maxRecDepth 100000
set_option maxHeartbeats 32000000
namespace Go.Proofs.YtknefelegjlgnaaGreatDoor
open Go.RowKit
def KeE(p:List Itm)(l:List Dig)(w:VA)(e:Ending)(w':VA):Prop :=
 ∃A c,e= .returned (.slice A (fQ p l).length c)/\Sl w' w'.heap.size 3 A (fQ p l).length (flat itC (fQ p l))/\ (fQ p l).length<=c/\c<=maxLen/\VE w w'
theorem MM{p:List Itm}{l:List Dig}{k:Nat}{x:Itm}(h:p[k]? =some x):fQ (p.take (k+1)) l=if x.1∈l then fQ (p.take k) l++ [x] else fQ (p.take k) l:=by
 rw[aV h];unfold fQ;rw[List.filter_append];by_cases hx:x.1∈l
 . rw[if_pos hx];congr 1;simp[hx]
 . rw[if_neg hx];simp[hx]
section
open Go.Maps
def inT(l:List Dig)(k:Nat):Dig->Bool:=fun d=>decide (d∈l.take k)
theorem Qn(l:List Dig):inT l 0=fun _=>false:=by funext d;simp[inT]
theorem PS{l:List Dig}{k:Nat}{x:Dig}(h:l[k]? =some x):setB (inT l k) x=inT l (k+1):=by
 funext d
 rw[Bool.eq_iff_iff,setB_true];unfold inT;rw[decide_eq_true_iff,decide_eq_true_iff,aV h,List.mem_append,ae];exact⟨fun h=>h.symm,fun h=>h.symm⟩
theorem SH{l:List Dig}{k:Nat}(h:l.length<=k)(d:Dig):inT l k d=decide (d∈l):=by unfold inT;rw[ZU h]
theorem NT(A:OA)(n c B:Nat)(A1:OA)(n1 c1:Nat)(p:List Itm)(l:List Dig)(w:VA)(h0:Sl w B 3 A n (flat itC p))(h1:Sl w B 2 A1 n1 (flat dgC l))(hB:B<=w.heap.size)(hn:n<=900000)(hn1:n1<=500000000)(hw:∀d∈l,WfD d)(hwp:∀i∈p,WfD i.1) :
  Calls Tryz.prog 21 #[.slice A n c,.slice A1 n1 c1] w (KeE p l w):=by
 have HL:=ai (h0.len dD (by omega));have E:=ai (h1.len iq (by omega));have H0:=ai h0;have H1:=ai h1;have HW:=ai hw;have F:=ai hwp;clear h0 h1 hw hwp;obtain⟨i0,hi,hz0,hz1,hz2⟩:=info_parts lY;have Hi:=ai hi;have G:=ai hz0;have H:=ai hz1;have I:=ai hz2;clear hi hz0 hz1 hz2;have hmm:=@run_makeMap Tryz.prog
 go_enter Tryz.func21,Tryz.ntmps21
 obtain⟨W0,hW0⟩:=NX9 (w.alloc (.map #[] 0))
 have y:Hid (Sd W0 w.heap.size 0 (inT l 0)):=by rw[Qn,<-hW0];exact Sd.made w
 have HB0:VF w W0:=by rw[<-hW0];exact(ah _ w).alloc aj _
 go_wp2_with fail;clear hmm hW0
 go_loopw[14] (fun i wr=>∃k:Nat,k<=n1/\i= .int .i64 k/\Hid (Sd wr w.heap.size k (inT l k))/\VF w wr) (fun i _=>n1 - (intOf i).toNat)
 case atStart=>exact⟨0,ZX _,rfl,y.o,HB0.o⟩
 case round =>
  obtain⟨k,hk,rfl,hS,hBel⟩:=hrel;have HS:=ai hS.o;have b:=ai hBel.o;have zr:w.heap.size<=wr.heap.size:=b.o.size;have hlts:w.heap.size<wr.heap.size:=HS.o.lt;clear hS hBel y HB0;by_cases hlt:k<n1
  . obtain⟨bb,off,x,rfl,hbB,hx,y0,y1⟩:=(H1.o.below b.o hB).dg hlt
    have hlz: (k:Int)< (n1:Int):=by omega
    have HX:=ai hx;have h:=ai (kS (HW.o x (Z7 hx)));clear hx;obtain⟨x1,x2⟩:=x;simp only at y0 y1;obtain⟨W,hW⟩:=NX9 (wr.alloc (.cells #[.int .u64 x1,.int .u64 x2] 50))
    have HS2:Hid (Sd W w.heap.size k (inT l k)):=by rw[<-hW];exact HS.o.below ((ah wr.heap.size wr).alloc aj _) hlts
    have HB2:VF w W:=by rw[<-hW];exact b.o.alloc zr _
    have z:Hid (Bk W wr.heap.size 50 #[.int .u64 x1,.int .u64 x2]):=by rw[<-hW];exact Bk.new wr _ _
    obtain⟨r0,r1,_,_⟩:=z.o.two;have a:=ai hW;clear hW
    go_wp2_with (at_mapUpdate;refine aO ?_)
    rw[a.o]
    go_wp2_with (at_mapUpdate;refine aO ?_)
    refine aH ?_;refine AY rfl _ _ _ 105 rfl Tryz.underlying105 w.heap.size k _ rfl HS2.o (by unfold maxLen;omega) (x1,x2) h.o rfl rfl ?_;intro w3 hS3 hg3;rw[PS HX.o]at hS3;have J:=ai hS3;have HB3:VF w w3:=HB2.o.grown hg3 HB2.o.size (fun g e=>by cases e;omega);clear hS3 hg3 HS2 HB2 z r0 r1 y0 y1 a;go_wp2_with fail;go_roundw
    case rel=>exact⟨k+1,hlt,by go_num,J.o,HB3.o⟩
    case measure=>simp[intOf];omega
  . have hlz:¬(k:Int)< (n1:Int):=by omega
    obtain⟨f,hwo⟩:∃f,f=wr:=⟨_,rfl⟩
    subst hwo;have C:Hid (∀d,inT l k d=decide (d∈l)):=SH (by rw[E.o];omega);obtain⟨s,hs⟩:=NX9 (inT l k)
    rw[hs]at HS C;clear hs;obtain⟨w0,hw0⟩:∃w0,w0=w:=⟨_,rfl⟩
    go_wp2_with fail
    go_loopw[8,23] (fun q i wr=>∃(k2 m:Nat)(A':OA)(c':Nat),k2<=n/\i= .int .i64 k2/\q= .slice A' m c'/\m<=c'/\c'<=maxLen/\m<=k2/\Hid ((fQ (p.take k2) l).length=m)/\Hid (Apd wr f.heap.size 118 3 A' m c' (flat itC (fQ (p.take k2) l)))/\VF f wr) (fun _ i _=>n - (intOf i).toNat)
    case atStart=>exact⟨0,0,none,0,ZX _,rfl,rfl,Nat.le_refl _,ZX _,Nat.le_refl _,rfl,.inr ⟨rfl,rfl,rfl⟩,ah _ _⟩
    case round =>
     obtain⟨k2,m,A',c',hk2,rfl,rfl,hmc,hcm,hmk,hM,hO,hBel⟩:=hrel;have HM:=ai hM.o;have HO:=ai hO.o;have j:=ai hBel.o;have N:f.heap.size<=wr.heap.size:=j.o.size;clear hM hO hBel;by_cases hlt2:k2<n
     . obtain⟨bb,off,x,rfl,hbB,hx,y0,y1,y2⟩:=((H0.o.below b.o hB).below j.o (by omega)).it hlt2
       have D: (k2:Int)< (n:Int):=by omega
       have HX:=ai hx;have h:=ai (kS (F.o x (Z7 hx)));clear hx;obtain⟨⟨x1,x2⟩,xs⟩:=x;simp only at y0 y1 y2 h;obtain⟨W,hW⟩:=NX9 (wr.alloc (.cells #[.int .u64 x1,.int .u64 x2,.string xs] 118))
       have r:VF wr W:=by rw[<-hW];exact(ah _ wr).alloc aj _
       have t:Hid (Bk W wr.heap.size 118 #[.int .u64 x1,.int .u64 x2,.string xs]):=by rw[<-hW];exact Bk.new wr _ _
       have O:wr.heap.size<W.heap.size:=t.o.lt;have K:Hid (Bk (W.alloc (.cells #[.int .u64 x1,.int .u64 x2,.string xs] 118)) (wr.heap.size+1) 118 #[.int .u64 x1,.int .u64 x2,.string xs]):=by
        have e:=Bk.new W 118 #[.int .u64 x1,.int .u64 x2,.string xs];rw[<-hW,Z9]at e;rw[<-hW];exact e
       have HOW:=ai (HO.o.below r.o);have u:VF f W:=j.o.trans (r.o.mono N);have hlk:=Sd.look (d:=(x1,x2)) (HS.o.below u.o hlts) Tryz.underlying105 h.o;rw[C.o]at hlk;simp only at hlk;obtain⟨r0,r1,r2⟩:=t.o.three;have a:=ai hW;have o:Hid (fQ (p.take (k2+1)) l=if((x1,x2):Dig)∈l then fQ (p.take k2) l++ [((x1,x2),xs)] else fQ (p.take k2) l):=MM HX.o;clear hW r t;by_cases hin: ((x1,x2):Dig)∈l
       . have HK:Hid (fQ (p.take (k2+1)) l=fQ (p.take k2) l++ [((x1,x2),xs)]):=by show _=_;rw[o.o,if_pos hin]
         have hdt:decide (((x1,x2):Dig)∈l)=true:=decide_eq_true hin;rw[hdt]at hlk;rw[<-a.o]at hlk r0 r1 r2;clear hin o hdt
         go_wp2_with (at_builtin;refine iP (.tmp 31) (.tmp 33) 29 rfl ?_)
         rw[a.o];refine aH ?_;refine eG (base:=f.heap.size) (size:=3) _ rfl (.tmp 31) (.tmp 33) 29 rfl 118 i0 _ 32 Tryz.underlying29 Hi.o G.o H.o I.o rfl (by decide) A' m c' _ rfl (Apd.below HOW.o ((ah _ _).alloc aj _)) _ _ 1 1 (flat itC [((x1,x2),xs)]) rfl (Sl.of_bk (n:=1) (size:=3) K.o rfl) (jr _) (by unfold maxLen;omega) (by omega) (by rw[Z9];omega) ?_;intro A4 c4 w4 v hb4 hn4 hm4 _;rw[<-bQ,<-HK.o]at v;have L:=ai v;have HB4:VF f w4:=(Below.alloc u.o (by omega) _).trans hb4;have M:Hid ((fQ (p.take (k2+1)) l).length=m+1):=by show _=_;rw[HK.o,af,HM.o];rfl
         clear v hb4;go_wp2_with fail;go_roundw
         case rel=>exact⟨k2+1,m+1,A4,c4,hlt2,by go_num,rfl,hn4,hm4,by omega,M.o,L.o,HB4.o⟩
         case measure=>simp[intOf];omega
       . have HK:Hid (fQ (p.take (k2+1)) l=fQ (p.take k2) l):=by show _=_;rw[o.o,if_neg hin]
         have hdt:decide (((x1,x2):Dig)∈l)=false:=decide_eq_false hin;rw[hdt]at hlk;rw[<-a.o]at hlk r0 r1 r2;clear hin o hdt;go_wp2_with fail;rw[a.o];go_roundw
         case rel=>exact⟨k2+1,m,A',c',hlt2,by go_num,rfl,hmc,hcm,by omega,by rw[HK.o];exact HM.o,by rw[HK.o];exact HOW.o,u.o⟩
         case measure=>simp[intOf];omega
     . have D:¬(k2:Int)< (n:Int):=by omega
       have HT:Hid (p.take k2=p):=ZU (by rw[HL.o];omega);rw[HT.o]at HM HO;go_wp2_with fail;go_ret
       exact⟨A',c',by rw[HM.o];rfl,by rw[HM.o];exact HO.o.sl,by rw[HM.o];exact hmc,hcm,b.o.trans (j.o.mono b.o.size)⟩
end
section
open Go.Maps
def bkO(A:OA):Option Nat:=A.map Addr.block
theorem je(A:OA)(n c:Nat): (Value.slice A n c).ownBlock=bkO A:=by cases A <;> rfl
section
variable {P : Program} {w : VA} {base size n c : Nat} {e : TypeId} {A : OA} {xs : List VC}
theorem JS(t ty:TypeId)(i:TypeInfo)(z:VC)(bytes:Nat)(ht:P.underlying t=some (.slice e))(hi:P.info? e=some i)(hz:i.zero=some z)
  (hsize:i.size=size) (hby:i.bytes=bytes) (hzs:z.cells.size=size) (hsz:0<size) (hown:w.ownsRow base e size (.slice A n c) n xs)
  {B:Nat} {A':OA} {m c':Nat} {ys:List VC} (hsl:Sl w B size A' m ys) (h1:∀u∈ys,u.oneCell'=true) (hm:0<m)
  (h63:n+m<=maxLen) (hbytes: (n+m)*bytes<=140737488355328) (hbase:base<=w.heap.size) :
  ∃A2 c2 w',(Builtin.append_ #[t,t] ty #[.slice A n c,.slice A' m c']).run P w= .ok (.slice A2 (n+m) c2) w'/\w'.ownsRow base e size (.slice A2 (n+m) c2) (n+m) (xs++ys)/\w.grownBy w' (bkO A)/\n+m<=c2/\c2<=maxLen/\∀g,bkO A2=some g->bkO A=some g∨w.heap.size<=g:=by
 obtain⟨A2,c2,w',hr,ho',hg,hc1,hc2⟩:=mF (P:=P) t ty i z bytes ht hi hz hsize hby hzs hsz hown (c:=c') hsl h1 h63 hbytes hbase;obtain⟨A3,c3,w3,row,hr2,_,_,_,h5⟩:=JG (P:=P) t ty i z bytes ht hi hz hsize hby hzs hsz (Que.of_own hown) (c':=c') hsl h1 hm h63 hbytes hbase;rw[hr]at hr2;injection hr2 with e1 e2;injection e1 with e3 e4 e5;subst e3;subst e5;subst e2;rw[je]at hg;refine⟨A2,c2,w',hr,ho',hg,hc1,hc2,fun g hgb=>?_⟩;rcases ho'.2 with ⟨hv,_⟩ | ⟨g',cap,cur,hv,_⟩
 . simp at hv
   rw[hv.1]at hgb;cases hgb
 . simp at hv
   obtain⟨rfl,_⟩:=hv;have:g'=g:=Option.some.inj hgb;subst this;rcases h5 g' 0 rfl with ⟨_,off,h⟩ | h
   . rw[h];exact .inl rfl
   . exact .inr h
theorem vz{ops:Array Oper}{rest:List Oper}{o:Oper}{a:Act}{Q:Exit->Act->VA->Prop}(hgd:o.guard=none)(s x:Operand)(t:TypeId)
  (ho:o.op= .call {callee:= .builtin .append,args:=#[s,x],argTypes:=#[t,t]})
  (e:TypeId) (i:TypeInfo) (z:VC) (bytes:Nat) (ht:P.underlying t=some (.slice e)) (hi:P.info? e=some i) (hz:i.zero=some z)
  (hsize:i.size=size) (hby:i.bytes=bytes) (hzs:z.cells.size=size) (hsz:0<size)
  (A:OA) (n c:Nat) (xs:List VC) (hs:a.eval s= .slice A n c) (hown:w.ownsRow base e size (.slice A n c) n xs)
  (B:Nat) (A':OA) (m c':Nat) (ys:List VC) (hx:a.eval x= .slice A' m c') (hsl:Sl w B size A' m ys) (h1:∀u∈ys,u.oneCell'=true) (hm:0<m)
  (h63:n+m<=maxLen) (hbytes: (n+m)*bytes<=140737488355328) (hbase:base<=w.heap.size)
  (h:∀A2 c2 w',w'.ownsRow base e size (.slice A2 (n+m) c2) (n+m) (xs++ys)->w.grownBy w' (bkO A)->n+m<=c2->c2<=maxLen-> (∀g,bkO A2=some g->bkO A=some g∨w.heap.size<=g)->wpList P ops Q rest (a.put o.dst (.slice A2 (n+m) c2)) w'):wpList P ops Q (o::rest) a w:=by
 refine wpList_plain hgd fun K hK=>?_;obtain⟨A2,c2,w',hr,ho',hg,hc1,hc2,hd⟩:=JS (P:=P) t o.type i z bytes ht hi hz hsize hby hzs hsz hown (c':=c') hsl h1 hm h63 hbytes hbase;unfold Oper.wp;simp[execOp,ho,resolve,invoke,builtin,hs,hx,hr,Result.andThen];exact hK _ _ (h A2 c2 w' ho' hg hc1 hc2 hd)
end
structure Rw3(w:VA)(base:Nat)(e:TypeId)(A1:OA)(n1 c1:Nat)(A2:OA)(n2 c2:Nat)(A3:OA)(n3 c3:Nat)(l1 l2 l3:List Dig):Prop where
 a:w.ownsRow base e 2 (.slice A1 n1 c1) n1 (flat dgC l1)
 b:w.ownsRow base e 2 (.slice A2 n2 c2) n2 (flat dgC l2)
 c:w.ownsRow base e 2 (.slice A3 n3 c3) n3 (flat dgC l3)
 ab:∀g,bkO A1=some g->bkO A2≠some g
 bc:∀g,bkO A2=some g->bkO A3≠some g
 ca:∀g,bkO A3=some g->bkO A1≠some g
section
variable {w w' : VA} {base n1 c1 n2 c2 n3 c3 : Nat} {e : TypeId} {A1 A2 A3 : OA} {l1 l2 l3 : List Dig}
theorem Rw3.rot(h:Rw3 w base e A1 n1 c1 A2 n2 c2 A3 n3 c3 l1 l2 l3):Rw3 w base e A2 n2 c2 A3 n3 c3 A1 n1 c1 l2 l3 l1:=⟨h.b,h.c,h.a,h.bc,h.ca,h.ab⟩
theorem Rw3.upon(h:Rw3 w base e A1 n1 c1 A2 n2 c2 A3 n3 c3 l1 l2 l3)(hb:VE w w'):Rw3 w' base e A1 n1 c1 A2 n2 c2 A3 n3 c3 l1 l2 l3 :=
 ⟨gQ h.a hb,gQ h.b hb,gQ h.c hb,h.ab,h.bc,h.ca⟩
theorem pz{n c:Nat}{A:OA}{xs:List VC}{row:Option Nat}(h:w.ownsRow base e 2 (.slice A n c) n xs)(hg:w.grownBy w' row)(hn:∀g,bkO A=some g->row≠some g):w'.ownsRow base e 2 (.slice A n c) n xs:=by
 refine⟨h.1,?_⟩;rcases h.2 with h2 | ⟨g,cap,cur,hv,h1,h2,h3⟩
 . exact .inl h2
 . refine .inr ⟨g,cap,cur,hv,h1,(hg.block g (Array.getElem?_eq_some_iff.1 h2).1 fun e=>?_).trans h2,h3⟩
   simp at hv;exact hn g (by rw[hv.1];rfl) e.symm
theorem Rw3.grown{row:Nat}(h:Rw3 w base e A1 n1 c1 A2 n2 c2 A3 n3 c3 l1 l2 l3)(hg:w.grownBy w' (some row))(hn:∀cs,w.heap[row]? ≠some (.cells cs e (0,0))):Rw3 w' base e A1 n1 c1 A2 n2 c2 A3 n3 c3 l1 l2 l3:=by
 have key:∀{n c:Nat}{A:OA}{xs:List VC},w.ownsRow base e 2 (.slice A n c) n xs->w'.ownsRow base e 2 (.slice A n c) n xs:=fun {n c A xs} h=>pz h hg fun g hgb e=>by
  cases e
  rcases h.2 with ⟨hv,_⟩ | ⟨g,cap,cur,hv,_,h2,_⟩
  . simp at hv;rw[hv.1]at hgb;cases hgb
  . simp at hv;rw[hv.1]at hgb;cases hgb;exact hn cur h2
 exact⟨key h.a,key h.b,key h.c,h.ab,h.bc,h.ca⟩
theorem Rw3.app{A:OA}{n c:Nat}{l:List Dig}(h:Rw3 w base e A1 n1 c1 A2 n2 c2 A3 n3 c3 l1 l2 l3)(ho:w'.ownsRow base e 2 (.slice A n c) n (flat dgC l))(hg:w.grownBy w' (bkO A1))(hd:∀g,bkO A=some g->bkO A1=some g∨w.heap.size<=g):Rw3 w' base e A n c A2 n2 c2 A3 n3 c3 l l2 l3:=by
 have lt:∀{n c:Nat}{A:OA}{xs:List VC},w.ownsRow base e 2 (.slice A n c) n xs->∀g,bkO A=some g->g<w.heap.size:=fun {n c A xs} h g hgb=>(h.lt g (by rw[je];exact hgb)).2;refine⟨ho,pz h.b hg fun g h2 e=>h.ab g e h2,pz h.c hg fun g h2 e=>h.ca g h2 e,fun g hgb h2=>?_,h.bc,fun g h2 hgb=>?_⟩
 . rcases hd g hgb with h3 | h3
   . exact h.ab g h3 h2
   . have:=lt h.b g h2;omega
 . rcases hd g hgb with h3 | h3
   . exact h.ca g h2 h3
   . have:=lt h.c g h2;omega
theorem Tc{n c:Nat}{A:OA}{l:List Dig}{d:Dig}(h:w.ownsRow base e 2 (.slice A (n+1) c) (n+1) (flat dgC (l++ [d]))):w.ownsRow base e 2 (.slice A n c) n (flat dgC l):=by
 have hl: (flat dgC l).length=n*2:=by
  have h1:=h.1;rw[bQ,af]at h1;have: (flat dgC [d]).length=2:=rfl;omega
 refine⟨hl,?_⟩;rcases h.2 with ⟨_,h2⟩ | ⟨g,cap,cur,hv,h1,h2,h3,h4,h5,h6⟩
 . omega
 . simp at hv
   obtain⟨rfl,rfl⟩:=hv;refine .inr ⟨g,c,cur,rfl,h1,h2,by omega,h4,h5,?_⟩;have:=congrArg (List.take (n*2)) h6;rw[List.take_take,bQ,<-hl,List.take_left]at this;rw[hl]at this;have e2:min (n*2) ((n+1)*2)=n*2:=by omega
   rwa[e2]at this
theorem Rw3.pop{d:Dig}(h:Rw3 w base e A1 (n1+1) c1 A2 n2 c2 A3 n3 c3 (l1++ [d]) l2 l3):Rw3 w base e A1 n1 c1 A2 n2 c2 A3 n3 c3 l1 l2 l3 :=
 ⟨Tc h.a,h.b,h.c,h.ab,h.bc,h.ca⟩
end
def Jw(l:List Dig)(n:Nat)(w:VA)(e:Ending)(w':VA):Prop :=
 ∃A c,e= .returned (.slice A n c)/\w'.ownsRow w.heap.size 50 2 (.slice A n c) n (flat dgC l)/\VE w w'
theorem Np(A:OA)(n c B:Nat)(l:List Dig)(w:VA)(h0:Sl w B 2 A n (flat dgC l))(hB:B<=w.heap.size)(hn:n<=1000000) :
  Calls Tryz.prog 51 #[.slice A n c] w (Jw l n w):=by
 have H0:=ai h0;have HL:=ai (h0.len iq (by omega));obtain⟨i0,hi,hz0,hz1,hz2⟩:=info_parts lZ;have Hi:=ai hi;have d:=ai hz0;have f:=ai hz1;have i:=ai hz2;clear hi hz0 hz1 hz2 h0;cases A with
 | none =>
   have hn0:n=0:=by
    rcases Nat.eq_zero_or_pos n with h | h
    . exact h
    . obtain⟨_,_,e,_⟩:=H0.o.2 h;cases e
   subst hn0;have hl:l= []:=List.eq_nil_of_length_eq_zero HL.o;subst hl;have hnil:∀W,(binOp .eql 47 (.slice none 0 c) (.slice none 0 0)).run Tryz.prog W= .ok (.bool true) W:=fun W=>Lib.run_eql_slice_nil_nil W _ _ Tryz.underlying47
   go_enter Tryz.func51,Tryz.ntmps51
   go_wp2_with fail;go_ret
   exact⟨none,0,rfl,⟨rfl,.inl ⟨rfl,rfl⟩⟩,ah _ _⟩
 | some a =>
   obtain⟨W,hW⟩:=NX9 (w.alloc (.cells #[] 50))
   have hb:VE w W:=by rw[<-hW];exact(ah _ w).alloc aj _
   have HO:Hid (W.ownsRow w.heap.size 50 2 (.slice (some ⟨w.heap.size,0,none⟩) 0 0) 0 []):=by
    rw[<-hW];exact⟨rfl,.inr ⟨w.heap.size,0,#[],rfl,Nat.le_refl _,heap_alloc_new w _,Nat.le_refl _,ZX _,rfl,rfl⟩⟩
   have HS:=ai (H0.o.below hb hB);have HB:=ai hb;have HW:=ai hW;have hnil:∀W,(binOp .eql 47 (.slice (some a) n c) (.slice none 0 0)).run Tryz.prog W= .ok (.bool false) W:=fun W=>Lib.run_eql_slice_some_nil W _ _ _ Tryz.underlying47;clear hW hb
   go_enter Tryz.func51,Tryz.ntmps51
   go_wp2_with (at_builtin;refine iP (.tmp 5) (.tmp 6) 47 rfl ?_)
   rw[HW.o];refine aH ?_;refine jV (base:=w.heap.size) (size:=2) _ rfl (.tmp 5) (.tmp 6) 47 rfl 50 i0 _ 16 Tryz.underlying47 Hi.o d.o f.o i.o rfl (by decide) _ 0 [] rfl HO.o B (some a) n c (flat dgC l) rfl HS.o (kT _) (by unfold maxLen;omega) (by omega) HB.o.size ?_;intro A2 c2 w2 ho2 hg2 _ _;rw[List.nil_append]at ho2;have b:=ai ho2;have HB2:VF w w2:=HB.o.grown hg2 HB.o.size (fun g e=>by cases e;exact Nat.le_refl _);clear ho2 hg2;rw[Nat.zero_add]at b ⊢;go_wp2_with fail;go_ret
   exact⟨A2,c2,rfl,b.o,HB2.o⟩
end
end Go.Proofs.YtknefelegjlgnaaGreatDoor
namespace Go.Proofs
open Go.Shelf
def Tryz.sortDig_ren:Go.Shelf.Ren:=⟨fun | 6=>54 | 15=>115 | 14=>114 | 28=>191 | 29=>192 | 20=>183 | 21=>184 | 22=>185 | 23=>186 | 24=>187 | 25=>188 | 26=>189 | 27=>190 | 46=>253 | 47=>254 | 48=>255 | 49=>256 | 50=>257 | 57=>296 | n=>n,fun | 22=>47 | 24=>50 | 25=>114 | 3=>3 | 39=>188 | 0=>0 | 53=>267 | 55=>48 | 4=>4 | 46=>261 | 45=>260 | 50=>181 | 5=>5 | 9=>9 | 66=>328 | 70=>332 | 76=>361 | 77=>362 | n=>n,fun | n=>n⟩
theorem Tryz.sortDig:Go.Proofs.SlLaysF0.n6 Tryz.prog Tryz.sortDig_ren:={
 mixed:=by kernel_rfl
 f6:=⟨Tryz.f54.name,by decide,Tryz.func54.trans (congrArg some (by kernel_rfl))⟩
 f14:=⟨Tryz.f114.name,by decide,Tryz.func114.trans (congrArg some (by kernel_rfl))⟩
 f15:=Tryz.func115.trans (congrArg some (by kernel_rfl))
 f20:=⟨Tryz.f183.name,by decide,Tryz.func183.trans (congrArg some (by kernel_rfl))⟩
 f21:=⟨Tryz.f184.name,by decide,Tryz.func184.trans (congrArg some (by kernel_rfl))⟩
 f22:=⟨Tryz.f185.name,by decide,Tryz.func185.trans (congrArg some (by kernel_rfl))⟩
 f23:=⟨Tryz.f186.name,by decide,Tryz.func186.trans (congrArg some (by kernel_rfl))⟩
 f24:=⟨Tryz.f187.name,by decide,Tryz.func187.trans (congrArg some (by kernel_rfl))⟩
 f25:=⟨Tryz.f188.name,by decide,Tryz.func188.trans (congrArg some (by kernel_rfl))⟩
 f26:=⟨Tryz.f189.name,by decide,Tryz.func189.trans (congrArg some (by kernel_rfl))⟩
 f27:=⟨Tryz.f190.name,by decide,Tryz.func190.trans (congrArg some (by kernel_rfl))⟩
 f28:=Tryz.func191.trans (congrArg some (by kernel_rfl))
 f29:=Tryz.func192.trans (congrArg some (by kernel_rfl))
 f46:=⟨Tryz.f253.name,by decide,Tryz.func253.trans (congrArg some (by kernel_rfl))⟩
 f47:=Tryz.func254.trans (congrArg some (by kernel_rfl))
 f48:=Tryz.func255.trans (congrArg some (by kernel_rfl))
 f49:=⟨Tryz.f256.name,by decide,Tryz.func256.trans (congrArg some (by kernel_rfl))⟩
 f50:=⟨Tryz.f257.name,by decide,Tryz.func257.trans (congrArg some (by kernel_rfl))⟩
 f57:=⟨Tryz.f296.name,by decide,Tryz.func296.trans (congrArg some (by kernel_rfl))⟩
 t0:=Tryz.underlying0
 a0:=Tryz.isAgg0
 z0:=Tryz.sizeOf0
 v0:=Tryz.zeroValue0
 t3:=Tryz.underlying3
 a3:=Tryz.isAgg3
 z3:=Tryz.sizeOf3
 v3:=Tryz.zeroValue3
 t4:=Tryz.underlying4
 a4:=Tryz.isAgg4
 z4:=Tryz.sizeOf4
 v4:=Tryz.zeroValue4
 t5:=Tryz.underlying5
 a5:=Tryz.isAgg5
 z5:=Tryz.sizeOf5
 v5:=Tryz.zeroValue5
 t9:=Tryz.underlying9
 a9:=Tryz.isAgg9
 z9:=Tryz.sizeOf9
 v9:=Tryz.zeroValue9
 t22:=Tryz.underlying47
 a22:=Tryz.isAgg47
 z22:=Tryz.sizeOf47
 v22:=Tryz.zeroValue47
 t25:=Tryz.underlying114
 a25:=Tryz.isAgg114
 z25:=Tryz.sizeOf114
 v25:=Tryz.zeroValue114
 t39:=Tryz.underlying188
 a39:=Tryz.isAgg188
 z39:=Tryz.sizeOf188
 v39:=Tryz.zeroValue188
 t45:=Tryz.underlying260
 a45:=Tryz.isAgg260
 z45:=Tryz.sizeOf260
 v45:=Tryz.zeroValue260
 t46:=Tryz.underlying261
 a46:=Tryz.isAgg261
 z46:=Tryz.sizeOf261
 v46:=Tryz.zeroValue261
 t50:=Tryz.underlying181
 a50:=Tryz.isAgg181
 z50:=Tryz.sizeOf181
 v50:=Tryz.zeroValue181
 t53:=Tryz.underlying267
 a53:=Tryz.isAgg267
 z53:=Tryz.sizeOf267
 v53:=Tryz.zeroValue267
 t55:=Tryz.underlying48
 a55:=Tryz.isAgg48
 z55:=Tryz.sizeOf48
 v55:=Tryz.zeroValue48
 t66:=Tryz.underlying328
 a66:=Tryz.isAgg328
 z66:=Tryz.sizeOf328
 v66:=Tryz.zeroValue328
 t70:=Tryz.underlying332
 a70:=Tryz.isAgg332
 z70:=Tryz.sizeOf332
 v70:=Tryz.zeroValue332
 t76:=Tryz.underlying361
 a76:=Tryz.isAgg361
 z76:=Tryz.sizeOf361
 v76:=Tryz.zeroValue361
 t77:=Tryz.underlying362
 a77:=Tryz.isAgg362
 z77:=Tryz.sizeOf362
 v77:=Tryz.zeroValue362}
end Go.Proofs
namespace Go.Proofs
open Go.Shelf
def Tryz.sortFil_ren:Go.Shelf.Ren:=⟨fun | 6=>129 | 15=>115 | 14=>214 | 28=>191 | 29=>192 | 20=>269 | 21=>270 | 22=>271 | 23=>272 | 24=>273 | 25=>274 | 26=>275 | 27=>276 | 46=>311 | 47=>254 | 48=>255 | 49=>312 | 50=>313 | 57=>335 | n=>n,fun | 22=>63 | 24=>82 | 25=>207 | 3=>3 | 39=>188 | 0=>0 | 53=>267 | 55=>48 | 4=>4 | 46=>261 | 45=>260 | 50=>181 | 5=>5 | 9=>9 | 66=>328 | 70=>332 | 76=>361 | 77=>362 | n=>n,fun | n=>n⟩
theorem Tryz.sortFil:Go.Proofs.SlLaysF0.n6 Tryz.prog Tryz.sortFil_ren:={
 mixed:=by kernel_rfl
 f6:=⟨Tryz.f129.name,by decide,Tryz.func129.trans (congrArg some (by kernel_rfl))⟩
 f14:=⟨Tryz.f214.name,by decide,Tryz.func214.trans (congrArg some (by kernel_rfl))⟩
 f15:=Tryz.func115.trans (congrArg some (by kernel_rfl))
 f20:=⟨Tryz.f269.name,by decide,Tryz.func269.trans (congrArg some (by kernel_rfl))⟩
 f21:=⟨Tryz.f270.name,by decide,Tryz.func270.trans (congrArg some (by kernel_rfl))⟩
 f22:=⟨Tryz.f271.name,by decide,Tryz.func271.trans (congrArg some (by kernel_rfl))⟩
 f23:=⟨Tryz.f272.name,by decide,Tryz.func272.trans (congrArg some (by kernel_rfl))⟩
 f24:=⟨Tryz.f273.name,by decide,Tryz.func273.trans (congrArg some (by kernel_rfl))⟩
 f25:=⟨Tryz.f274.name,by decide,Tryz.func274.trans (congrArg some (by kernel_rfl))⟩
 f26:=⟨Tryz.f275.name,by decide,Tryz.func275.trans (congrArg some (by kernel_rfl))⟩
 f27:=⟨Tryz.f276.name,by decide,Tryz.func276.trans (congrArg some (by kernel_rfl))⟩
 f28:=Tryz.func191.trans (congrArg some (by kernel_rfl))
 f29:=Tryz.func192.trans (congrArg some (by kernel_rfl))
 f46:=⟨Tryz.f311.name,by decide,Tryz.func311.trans (congrArg some (by kernel_rfl))⟩
 f47:=Tryz.func254.trans (congrArg some (by kernel_rfl))
 f48:=Tryz.func255.trans (congrArg some (by kernel_rfl))
 f49:=⟨Tryz.f312.name,by decide,Tryz.func312.trans (congrArg some (by kernel_rfl))⟩
 f50:=⟨Tryz.f313.name,by decide,Tryz.func313.trans (congrArg some (by kernel_rfl))⟩
 f57:=⟨Tryz.f335.name,by decide,Tryz.func335.trans (congrArg some (by kernel_rfl))⟩
 t0:=Tryz.underlying0
 a0:=Tryz.isAgg0
 z0:=Tryz.sizeOf0
 v0:=Tryz.zeroValue0
 t3:=Tryz.underlying3
 a3:=Tryz.isAgg3
 z3:=Tryz.sizeOf3
 v3:=Tryz.zeroValue3
 t4:=Tryz.underlying4
 a4:=Tryz.isAgg4
 z4:=Tryz.sizeOf4
 v4:=Tryz.zeroValue4
 t5:=Tryz.underlying5
 a5:=Tryz.isAgg5
 z5:=Tryz.sizeOf5
 v5:=Tryz.zeroValue5
 t9:=Tryz.underlying9
 a9:=Tryz.isAgg9
 z9:=Tryz.sizeOf9
 v9:=Tryz.zeroValue9
 t22:=Tryz.underlying63
 a22:=Tryz.isAgg63
 z22:=Tryz.sizeOf63
 v22:=Tryz.zeroValue63
 t25:=Tryz.underlying207
 a25:=Tryz.isAgg207
 z25:=Tryz.sizeOf207
 v25:=Tryz.zeroValue207
 t39:=Tryz.underlying188
 a39:=Tryz.isAgg188
 z39:=Tryz.sizeOf188
 v39:=Tryz.zeroValue188
 t45:=Tryz.underlying260
 a45:=Tryz.isAgg260
 z45:=Tryz.sizeOf260
 v45:=Tryz.zeroValue260
 t46:=Tryz.underlying261
 a46:=Tryz.isAgg261
 z46:=Tryz.sizeOf261
 v46:=Tryz.zeroValue261
 t50:=Tryz.underlying181
 a50:=Tryz.isAgg181
 z50:=Tryz.sizeOf181
 v50:=Tryz.zeroValue181
 t53:=Tryz.underlying267
 a53:=Tryz.isAgg267
 z53:=Tryz.sizeOf267
 v53:=Tryz.zeroValue267
 t55:=Tryz.underlying48
 a55:=Tryz.isAgg48
 z55:=Tryz.sizeOf48
 v55:=Tryz.zeroValue48
 t66:=Tryz.underlying328
 a66:=Tryz.isAgg328
 z66:=Tryz.sizeOf328
 v66:=Tryz.zeroValue328
 t70:=Tryz.underlying332
 a70:=Tryz.isAgg332
 z70:=Tryz.sizeOf332
 v70:=Tryz.zeroValue332
 t76:=Tryz.underlying361
 a76:=Tryz.isAgg361
 z76:=Tryz.sizeOf361
 v76:=Tryz.zeroValue361
 t77:=Tryz.underlying362
 a77:=Tryz.isAgg362
 z77:=Tryz.sizeOf362
 v77:=Tryz.zeroValue362}
end Go.Proofs
namespace Go.Proofs.YtknefelegjlgnaaGreatDoor
open Go.RowKit
section
open Go.RowKit Go.Shelf Go.Sort Go.Lib
attribute [local go_sem] Oper.semAt_some
instance :Inhabited Fl:=⟨(⟨#[]⟩,⟨#[]⟩)⟩
theorem EW:∀a b:List UInt8,decide (Lib.compareBytes a b<0)=Op.bytesLess a b
 | [],[]=>rfl
 | [],_::_=>rfl
 | _::_,[]=>rfl
 | a::x,b::y=>by
   have ih:=EW x y;simp only[Lib.compareBytes,Op.bytesLess];by_cases h1:a<b
   . simp[h1]
   . by_cases h2:b<a
     . have h3: (a == b)=false:=by rw[beq_eq_false_iff_ne];rintro rfl;exact h1 h2
       simp[h1,h2,h3]
     . have h3:a=b:=by
         apply UInt8.toNat_inj.1
         rw[UInt8.lt_iff_toNat_lt]at h1 h2;omega
       subst h3;rw[<-ih];simp[UInt8.lt_irrefl]
def cfO(x y:Fl):Int:=Lib.compareBytes x.1.data.toList y.1.data.toList
theorem uz(x y:Fl):ltOf cfO x y=less x.1 y.1:=EW _ _
theorem UY:SWO (ltOf cfO) where
 irrefl x:=by rw[uz];exact iY _
 trans x y z h1 h2:=by rw[uz]at *;exact jW h1 h2
 ntrans x y z h1 h2:=by
  rw[uz]at *;cases h3:less x.1 z.1 with
  | false=>rfl
  | true =>
    cases h4:less z.1 y.1 with
    | true=>rw[jW h3 h4]at h1;cases h1
    | false =>
      have:=mY h2 h4;rw[this]at h1;rw[h1]at h3;cases h3
theorem MH(x y:Fl)(W:VA):Calls Tryz.prog 130 #[.agg (flC x).toArray,.agg (flC y).toArray] W fun e w'=>e= .returned (.int .i64 (cfO x y))/\∃q os',w'=grow (W.drewN q) os':=by
 have hcon:=fun W'=>Tryz.strings_Compare x.1 y.1 W';obtain⟨a,a1⟩:=x;obtain⟨b,b1⟩:=y;simp only[cfO,flC]at hcon ⊢;generalize Lib.compareBytes a.data.toList b.data.toList=r at hcon ⊢;have HC:=ai hcon;clear hcon
 go_enter Tryz.func130,Tryz.ntmps130
 go_wp2_with (go_at_call 131;refine(HC.o _).mono ?_;rintro e w' ⟨rfl,rfl⟩)
 go_ret
 exact⟨rfl,0,_,by rw[alloc_eq_grow,alloc_eq_grow,grow_grow];rfl⟩
theorem vC(off n:Nat)(d:Array VC)(cur:Array VC)(hd:d.size=n)(ho:off=0)(hn:n<=cur.size): (putCells id off d cur).toList.take n=d.toList:=by
 subst ho hd;apply List.ext_getElem?
 intro k;rw[List.getElem?_take];by_cases hk:k<d.size
 . have hk2:k<cur.size:=by omega
   rw[if_pos hk];simp[putCells,hk,hk2]
 . rw[if_neg hk,List.getElem?_eq_none (by simp;omega)]
theorem BK(ts:List Fl): (flatK flC 2 ts.toArray).toList=flat flC ts:=by
 apply List.ext_getElem?
 intro t;by_cases ht:t<ts.length*2
 . have hk:t / 2<ts.length:=by omega
   have hx:ts[t / 2]? =some ts[t / 2]:=Z5 hk;have h1:=iJ iw ts (t / 2) (t % 2) _ hx (by omega);rw[show t / 2*2+t % 2=t by omega]at h1;have h2:t< (flatK flC 2 ts.toArray).size:=by simpa using ht
   rw[h1,Array.getElem?_toList,Array.getElem?_eq_getElem h2];have h3:=get_flatK flC 2 ts.toArray t (by simpa using ht);rw[getElem!_pos (flatK flC 2 ts.toArray) t h2]at h3;rw[h3,show ts.toArray[t / 2]! =ts[t / 2] by simp[hk]];have h4:t % 2< (flC ts[t / 2]).length:=by rw[iw];omega
   rw[getElem!_pos (flC ts[t / 2]) (t % 2) h4,Z5 h4]
 . rw[List.getElem?_eq_none (by simp;omega),List.getElem?_eq_none (by rw[ig iw];omega)]
def uZ(ts:List Fl):Prop:=ts.Pairwise (fun a b=>less b.1 a.1=false)
theorem QK{w:VA}{base n c:Nat}{A:OA}{e:TypeId}{ts:List Fl}(h:w.ownsRow base e 2 (.slice A n c) n (flat flC ts)):ts.length=n:=by
 have:=h.1;rw[ig iw]at this;omega
theorem Ls(base n c:Nat)(A:OA)(ts:List Fl)(w:VA)(h:w.ownsRow base 82 2 (.slice A n c) n (flat flC ts))(hn:n<=1000000) :
  Calls Tryz.prog 129 #[.slice A n c,.func (.func 130) #[] #[]] w fun e w'=>e= .returned (.tuple #[])/\∃us,us.Perm ts/\uZ us/\w'.ownsRow base 82 2 (.slice A n c) n (flat flC us)/\w.grownBy w' (Value.slice A n c).ownBlock:=by
 have hl:=QK h;have eg:∀args w,(callFunc 130 args).run Tryz.prog w= .ok (.enter 130 args) w:=enters_of Tryz.func130 (by kernel_rfl) rfl;rcases h.2 with ⟨hv,h0⟩ | ⟨g,cap,cur,hv,h1,h2,h3,h4,h5,h6⟩
 . simp only[Value.slice.injEq]at hv
   obtain⟨rfl,_,rfl⟩:=hv;subst h0;obtain rfl:ts= []:=List.eq_nil_of_length_eq_zero hl;have hc:=AnyF.slices_SortFunc_none Tryz.sortFil none 0 (.func (.func 130) #[] #[]) w;change Calls Tryz.prog 129 _ _ _ at hc;refine hc.mono ?_;rintro e w' ⟨rfl,rfl⟩;exact⟨rfl,[],.refl _,List.Pairwise.nil,h,rfl,rfl,rfl,Nat.le_refl _,fun _ _ _=>rfl⟩
 . simp only[Value.slice.injEq]at hv
   obtain⟨rfl,_,rfl⟩:=hv;have hsz:n*2<=cur.size:=by omega
   have hlt:=(Array.getElem?_eq_some_iff.1 h2).1;have hH:HoldsK flC 2 w g 0 ts.toArray:=by
    intro j hj;have hj':j<ts.length*2:=by simpa using hj
    refine⟨?_,by simp[World.frozen?,h2]⟩;have h7: (flat flC ts)[j]? =some ((flatK flC 2 ts.toArray)[j]!):=by
     rw[<-BK,Array.getElem?_toList,Array.getElem?_eq_getElem (by simpa using hj'),getElem!_pos (flatK flC 2 ts.toArray) j (by simpa using hj')]
    rw[<-h6,List.getElem?_take,if_pos (by omega)]at h7;show w.cell? ⟨g,0+j,none⟩=_;simp[World.cell?,h2]
    simpa using h7
   have hc:=AnyQ.slices_SortFunc Tryz.sortFil 2 Tryz.isAgg82 Tryz.sizeOf82 flC iw (fun x v hv=>by simp[flC]at hv;rcases hv with rfl | rfl <;> rfl) cfO UY 130 #[] g 0 c ts.toArray w eg (fun _ _ _ _ x y=>MH x y _) hH hlt (by simp;omega);change Calls Tryz.prog 129 _ _ _ at hc;rw[List.size_toArray,hl]at hc;refine hc.mono ?_;rintro e w' ⟨rfl,d',k,os,hp,hs,rfl⟩;have hd:d'.size=n:=by rw[hp.1];simpa using hl
   have hpp:d'.toList.Perm ts:=by
    have:=hp.2.2;have e1:d'.extract 0 n=d':=by rw[<-hd];simp
    have e2:ts.toArray.extract 0 n=ts.toArray:=by rw[<-hl];simp
    rw[e1,e2]at this
    simpa using this
   have hso:uZ d'.toList:=by
    unfold uZ;rw[List.pairwise_iff_getElem];intro i j hi hj hij;have hi':i<d'.size:=by simpa using hi
    have hj':j<d'.size:=by simpa using hj
    have:=hs i j (ZX _) hij (by omega);rw[uz,getElem!_pos d' j hj',getElem!_pos d' i hi']at this
    simpa using this
   have hfs: (flatK flC 2 d').size=n*2:=by rw[size_flatK,hd]
   refine⟨rfl,d'.toList,hpp,hso,⟨by rw[ig iw,Array.length_toList,hd],.inr ⟨g,c,putCells id 0 (flatK flC 2 d') cur,rfl,h1,?_,h3,h4,by simp[putCells];omega,?_⟩⟩,rfl,rfl,rfl,by simp[sortWorldK,putRowK,grow,putRow,mapBlock,Sort.ahead],fun b hb hr=>?_⟩
   . simp only[sortWorldK,putRowK,grow,putRow,mapBlock,Sort.ahead]
     rw[Array.getElem?_append_left (by simpa using hlt),Array.getElem?_modify,if_pos rfl,h2];rfl
   . rw[vC 0 (n*2) _ cur hfs rfl hsz,<-BK]
   . simp only[sortWorldK,putRowK,grow,putRow,mapBlock,Sort.ahead]
     rw[Array.getElem?_append_left (by simpa using hb),Array.getElem?_modify,if_neg (fun e=>hr (by rw[e];rfl))]
end
section
open Go.RowKit Go.Shelf Go.Sort Go.Lib
attribute [local go_sem] Oper.semAt_some
theorem OT(x y:Dig)(W:VA):Calls Tryz.prog 55 #[.agg (dgC x).toArray,.agg (dgC y).toArray] W fun e w'=>e= .returned (.int .i64 (dH x y))/\∃q os',w'=grow (W.drewN q) os':=Dn x y W
theorem qw(x y:Dig):ltOf dH x y=decide (ltD x y):=by
 unfold ltOf;rw[Bool.eq_iff_iff,decide_eq_true_iff,decide_eq_true_iff];exact yP x y
theorem swoD:SWO (ltOf dH) where
 irrefl x:=by rw[qw];exact decide_eq_false (ja x)
 trans x y z h1 h2:=by
  rw[qw,decide_eq_true_iff]at *;exact jY h1 h2
 ntrans x y z h1 h2:=by
  rw[qw,decide_eq_false_iff_not]at *;intro h3;by_cases h4:ltD z y
  . exact h1 (jY h3 h4)
  . have:=nC h2 h4
    rw[this]at h1;exact h1 h3
def Ag(ts:List Dig):Prop:=ts.Pairwise (fun a b=>¬ltD b a)
theorem BF(ts:List Dig): (flatK dgC 2 ts.toArray).toList=flat dgC ts:=by
 apply List.ext_getElem?
 intro t;by_cases ht:t<ts.length*2
 . have hk:t / 2<ts.length:=by omega
   have hx:ts[t / 2]? =some ts[t / 2]:=Z5 hk;have h1:=iJ iq ts (t / 2) (t % 2) _ hx (by omega);rw[show t / 2*2+t % 2=t by omega]at h1;have h2:t< (flatK dgC 2 ts.toArray).size:=by simpa using ht
   rw[h1,Array.getElem?_toList,Array.getElem?_eq_getElem h2];have h3:=get_flatK dgC 2 ts.toArray t (by simpa using ht);rw[getElem!_pos (flatK dgC 2 ts.toArray) t h2]at h3;rw[h3,show ts.toArray[t / 2]! =ts[t / 2] by simp[hk]];have h4:t % 2< (dgC ts[t / 2]).length:=by rw[iq];omega
   rw[getElem!_pos (dgC ts[t / 2]) (t % 2) h4,Z5 h4]
 . rw[List.getElem?_eq_none (by simp;omega),List.getElem?_eq_none (by rw[ig iq];omega)]
theorem QL{w:VA}{base n c:Nat}{A:OA}{e:TypeId}{ts:List Dig}(h:w.ownsRow base e 2 (.slice A n c) n (flat dgC ts)):ts.length=n:=by
 have:=h.1;rw[ig iq]at this;omega
theorem BV(base n c:Nat)(A:OA)(ts:List Dig)(w:VA)(h:w.ownsRow base 50 2 (.slice A n c) n (flat dgC ts))(hn:n<=1000000000) :
  Calls Tryz.prog 54 #[.slice A n c,.func (.func 55) #[] #[]] w fun e w'=>e= .returned (.tuple #[])/\∃us,us.Perm ts/\Ag us/\w'.ownsRow base 50 2 (.slice A n c) n (flat dgC us)/\w.grownBy w' (Value.slice A n c).ownBlock:=by
 have hl:=QL h;have eg:∀args w,(callFunc 55 args).run Tryz.prog w= .ok (.enter 55 args) w:=enters_of Tryz.func55 (by kernel_rfl) rfl;rcases h.2 with ⟨hv,h0⟩ | ⟨g,cap,cur,hv,h1,h2,h3,h4,h5,h6⟩
 . simp only[Value.slice.injEq]at hv
   obtain⟨rfl,_,rfl⟩:=hv;subst h0;obtain rfl:ts= []:=List.eq_nil_of_length_eq_zero hl;have hc:=AnyF.slices_SortFunc_none Tryz.sortDig none 0 (.func (.func 55) #[] #[]) w;change Calls Tryz.prog 54 _ _ _ at hc;refine hc.mono ?_;rintro e w' ⟨rfl,rfl⟩;exact⟨rfl,[],.refl _,List.Pairwise.nil,h,rfl,rfl,rfl,Nat.le_refl _,fun _ _ _=>rfl⟩
 . simp only[Value.slice.injEq]at hv
   obtain⟨rfl,_,rfl⟩:=hv;have hsz:n*2<=cur.size:=by omega
   have hlt:=(Array.getElem?_eq_some_iff.1 h2).1;have hH:HoldsK dgC 2 w g 0 ts.toArray:=by
    intro j hj;have hj':j<ts.length*2:=by simpa using hj
    refine⟨?_,by simp[World.frozen?,h2]⟩;have h7: (flat dgC ts)[j]? =some ((flatK dgC 2 ts.toArray)[j]!):=by
     rw[<-BF,Array.getElem?_toList,Array.getElem?_eq_getElem (by simpa using hj'),getElem!_pos (flatK dgC 2 ts.toArray) j (by simpa using hj')]
    rw[<-h6,List.getElem?_take,if_pos (by omega)]at h7;show w.cell? ⟨g,0+j,none⟩=_;simp[World.cell?,h2]
    simpa using h7
   have hc:=AnyQ.slices_SortFunc Tryz.sortDig 2 Tryz.isAgg50 Tryz.sizeOf50 dgC iq (fun x v hv=>by simp[dgC]at hv;rcases hv with rfl | rfl <;> rfl) dH swoD 55 #[] g 0 c ts.toArray w eg (fun _ _ _ _ x y=>OT x y _) hH hlt (by simp;omega);change Calls Tryz.prog 54 _ _ _ at hc;rw[List.size_toArray,hl]at hc;refine hc.mono ?_;rintro e w' ⟨rfl,d',k,os,hp,hs,rfl⟩;have hd:d'.size=n:=by rw[hp.1];simpa using hl
   have hpp:d'.toList.Perm ts:=by
    have:=hp.2.2;have e1:d'.extract 0 n=d':=by rw[<-hd];simp
    have e2:ts.toArray.extract 0 n=ts.toArray:=by rw[<-hl];simp
    rw[e1,e2]at this
    simpa using this
   have hso:Ag d'.toList:=by
    unfold Ag;rw[List.pairwise_iff_getElem];intro i j hi hj hij;have hi':i<d'.size:=by simpa using hi
    have hj':j<d'.size:=by simpa using hj
    have:=hs i j (ZX _) hij (by omega);rw[qw,decide_eq_false_iff_not,getElem!_pos d' j hj',getElem!_pos d' i hi']at this
    simpa using this
   have hfs: (flatK dgC 2 d').size=n*2:=by rw[size_flatK,hd]
   refine⟨rfl,d'.toList,hpp,hso,⟨by rw[ig iq,Array.length_toList,hd],.inr ⟨g,c,putCells id 0 (flatK dgC 2 d') cur,rfl,h1,?_,h3,h4,by simp[putCells];omega,?_⟩⟩,rfl,rfl,rfl,by simp[sortWorldK,putRowK,grow,putRow,mapBlock,Sort.ahead],fun b hb hr=>?_⟩
   . simp only[sortWorldK,putRowK,grow,putRow,mapBlock,Sort.ahead]
     rw[Array.getElem?_append_left (by simpa using hlt),Array.getElem?_modify,if_pos rfl,h2];rfl
   . rw[vC 0 (n*2) _ cur hfs rfl hsz,<-BF]
   . simp only[sortWorldK,putRowK,grow,putRow,mapBlock,Sort.ahead]
     rw[Array.getElem?_append_left (by simpa using hb),Array.getElem?_modify,if_neg (fun e=>hr (by rw[e];rfl))]
end
section
open Go.Maps
def ReE(p:List Itm)(rs:List Dig)(w:VA)(e:Ending)(w':VA):Prop :=
 ∃l m A1 c1 A2 c2,e= .returned (.tuple #[.slice A1 l.length c1,.slice A2 m.length c2])/\uS p rs l m/\Sl w' w'.heap.size 2 A1 l.length (flat dgC l)/\l.length<=42000000/\ (∀d∈l,WfD d)/\VE w w'
theorem Ro:iy zD:=kS l7
theorem KQ{o:Ob}(h:OkO o):o.ents.length<=200:=by
 cases h.f with
 | blob _ e _ _=>rw[e];simp
 | tree _ _ _ e=>exact e.few
 | commit _ _ e _=>rw[e];simp
theorem xX{w w':VA}{B size n:Nat}{A:OA}{xs:List VC}{row:Option Nat}(h:Sl w B size A n xs)(hg:w.grownBy w' row)(hB:B<=w.heap.size)(hd:0<n->∀g,bkO A=some g->row≠some g):Sl w' B size A n xs:=by
 refine⟨h.1,fun h0=>?_⟩;obtain⟨b',off,rfl,hb',hc⟩:=h.2 h0;exact⟨b',off,rfl,hb',fun j u hu=>(World.cell?_of_block (hg.block b' (by omega) (fun e=>hd h0 b' rfl e.symm))).trans (hc j u hu)⟩
theorem zl{w:VA}{base n c mb N:Nat}{A:OA}{xs:List VC}{met:Dig->Bool}(h:w.ownsRow base 50 2 (.slice A n c) n xs)(hs:Sd w mb N met):∀g,bkO A=some g->g≠mb:=by
 intro g hg e;subst e;rcases h.2 with ⟨hv,_⟩ | ⟨g',cap,cur,hv,_,h2,_⟩
 . simp at hv;rw[hv.1]at hg;cases hg
 . simp at hv
   rw[hv.1]at hg;have:g'=g:=Option.some.inj hg;subst this;obtain⟨D,⟨es,clock,h3,_⟩,_⟩:=hs;rw[h3]at h2;cases h2
theorem Qc{p:List Itm}{rs:List Dig}(hp:PlOk p)(hn:p.length<=200000)(hr:rs.length<=1000): (reU p rs).length<=42000000:=by
 unfold reU;rw[af];have h:=CS (n:=209) (l:=p) (f:=fun i=>df (qW i.2)) fun i hi=>by
  obtain⟨o,ho,e⟩:=hp.1 i hi;rw[e,tJ ho];exact Dw ho
 have:=Nat.mul_le_mul_right 209 hn;omega
theorem Cm(p:List Itm)(pA:OA)(pn pc:Nat)(rs:List Dig)(hA:OA)(hn hc:Nat)(B:Nat)(w:VA)
  (h0:Sl w B 3 pA pn (flat itC p)) (h1:Sl w B 2 hA hn (flat dgC rs)) (hB:B<=w.heap.size) (hpo:PlOk p) (hpn:pn<=200000) (hh:∀d∈rs,WfD d) (hhn:hn<=1000) :
  Calls Tryz.prog 18 #[.slice pA pn pc,.slice hA hn hc] w (ReE p rs w):=by
 have C:=ai hpo;have HH:=ai hh;have HP:=ai h0;have HR:=ai h1;have Vr:=ai (h0.len dD (by omega));have zf:=ai (h1.len iq (by omega));have kU:Hid ((reU p rs).length<=42000000):=Qc hpo (by rw[Vr.o];omega) (by rw[zf.o];omega);obtain⟨i0,hi,hz0,hz1,hz2⟩:=info_parts lZ;have Hi:=ai hi;have lg:=ai hz0;have lq:=ai hz1;have nz:=ai hz2;have hmm:=@run_makeMap Tryz.prog;obtain⟨W1,hput,hS1,hg1⟩:=(Sd.made w).put mg Tryz.underlying105 (by unfold maxLen;omega) Ro (.bool true);have nO: (Instr.mapUpdate 105 (.map (some w.heap.size)) (.agg #[.int .u64 0,.int .u64 0]) (.bool true)).run Tryz.prog (w.alloc (.map #[] 0))= .ok () W1:=hput;have nU:Hid (Sd W1 w.heap.size 1 (setB (fun _=>false) zD)):=by
  show Gm _ _ _ _ _ _ _ (sv _);rw[<-Ie];exact hS1
 have HB1:VF w W1:=((ah w.heap.size w).alloc aj _).grown hg1 (by simp) (fun g e=>by cases e;exact Nat.le_refl _);have HC:=ai (Np hA hn hc W1.heap.size rs W1 ((h1.below HB1.o hB).more (by have:=HB1.o.size;omega)) aj (by omega));unfold Jw at HC;clear hpo hh h0 h1 hi hz0 hz1 hz2 hput hS1 hg1
 go_enter Tryz.func18,Tryz.ntmps18
 go_wp2_with fail;refine HC.o.mono ?_;rintro e w2 ⟨A3,c3,rfl,ho3,hb2⟩;have zk:=ai (lG ho3 HB1.o.size);have HS2:=ai (nU.o.below hb2 nU.o.lt);have HB2:VF w w2:=HB1.o.trans (hb2.mono HB1.o.size);have z2:w.heap.size<w2.heap.size:=HS2.o.lt;clear ho3 hb2 HC hmm nO nU HB1;go_wp2_with fail
 go_loopg [6,7,9] 200000000000 (fun gk v6 v7 v9 wr=>∃(met:Dig->Bool)(N n1 n2 n3:Nat)(rl rm op:List Dig)(A1 A2 A3:OA)(c1 c2 c3:Nat),v6= .slice A1 n1 c1/\v7= .slice A2 n2 c2/\v9= .slice A3 n3 c3/\Hid (ReI p rs met rl rm op)/\Hid (Sd wr w.heap.size N met)/\Hid (Rw3 wr w.heap.size 50 A1 n1 c1 A2 n2 c2 A3 n3 c3 rl rm op)/\VF w wr/\Hid (rl.length=n1/\rm.length=n2/\op.length=n3)/\Hid (qM (reU p rs) met*1000+n3<=gk)/\gk<=200000000000/\N+gk<=400000000000)
 case atStart =>
  exact⟨_,1,0,0,hn,[],[],rs,none,none,A3,0,0,c3,rfl,rfl,rfl,ReI.start p rs,HS2.o,⟨⟨rfl,.inl ⟨rfl,rfl⟩⟩,⟨rfl,.inl ⟨rfl,rfl⟩⟩,zk.o,(fun g h=>by cases h),(fun g h=>by cases h),(fun g _ h=>by cases h)⟩,HB2.o,⟨rfl,rfl,zf.o⟩,by have:=QF (reU p rs) (setB (fun _=>false) zD);have:=kU.o;show _<=_;omega,Nat.le_refl _,by omega⟩
 case round =>
  obtain⟨met,N,n1,n2,n3,rl,rm,op,A1,A2,A3,c1,c2,c3,rfl,rfl,rfl,hI,hS,O,hBw,Q,hU,hgk,VO⟩:=hrel;have HI:=ai hI.o;have HS:=ai hS.o;have z:=ai O.o;have oO:=ai hBw.o;have f:=ai Q.o;have HU:=ai hU.o;have hl1:n1<=42000000:=by
   rw[<-f.o.1];exact ZY (tH HI.o.nl fun x hx=>yF C.o (HI.o.l x hx).2.1) kU.o
  have hl2:n2<=42000000:=by
   rw[<-f.o.2.1];exact ZY (tH HI.o.nm fun x hx=>yF C.o (HI.o.m x hx).2.1) kU.o
  have hl3:n3<=200000000000:=by have:=HU.o;omega
  have zr:w.heap.size<=wr.heap.size:=oO.o.size;have hms:w.heap.size<wr.heap.size:=HS.o.lt;clear hI hS O hBw Q hU HS2 HB2 zk;by_cases h30:n3=0
  . subst h30
    have hop:op= []:=List.eq_nil_of_length_eq_zero f.o.2.2;subst hop;obtain⟨wo,hwo⟩:∃wo,wo=wr:=⟨_,rfl⟩
    subst hwo;have zo:=ai (BV w.heap.size n1 c1 A1 rl wo z.o.a (by omega));go_wp2_with fail;refine zo.o.mono ?_;rintro e w4 ⟨rfl,us,hpe,_,hou,hgu⟩;rw[je]at hgu;have zt:Hid (w4.ownsRow w.heap.size 50 2 (.slice A2 n2 c2) n2 (flat dgC rm)):=pz z.o.b hgu fun g h2 e=>z.o.ab g e h2;have Vs:=ai hou;have bn:=ai hpe;have HB4:VF w w4:=oO.o.grown hgu zr (fun g e=>(z.o.a.lt g (by rw[je];exact e)).1);have zx:=ai (BV w.heap.size n2 c2 A2 rm w4 zt.o (by omega));clear hpe hou hgu zo;go_wp2_with fail;refine zx.o.mono ?_;rintro e w5 ⟨rfl,zT,fA,_,zW,hgu2⟩;rw[je]at hgu2;have zX:Hid (w5.ownsRow w.heap.size 50 2 (.slice A1 n1 c1) n1 (flat dgC us)):=pz Vs.o hgu2 fun g h2 e=>z.o.ab g h2 e;have Vt:VF w w5:=HB4.o.grown hgu2 HB4.o.size (fun g e=>(zt.o.lt g (by rw[je];exact e)).1);have fO:=ai fA;clear fA zW hgu2 zx;go_wp2_with fail;go_ret2
    have e1:us.length=n1:=by rw[bn.o.length_eq];exact f.o.1
    have e2:zT.length=n2:=by rw[fO.o.length_eq];exact f.o.2.1
    refine⟨us,zT,A1,c1,A2,c2,by rw[e1,e2];rfl,HI.o.end_ C.o (fun d=>bn.o.mem_iff) (fun d=>fO.o.mem_iff) (bn.o.nodup_iff.2 HI.o.nl),by rw[e1];exact Sl.of_own zX.o,by rw[e1];exact hl1,fun d hd=>yQ C.o HH.o (HI.o.l d (bn.o.mem_iff.1 hd)).2.1,Vt.o⟩
  . obtain⟨m,rfl⟩:∃m,n3=m+1:=⟨n3 - 1,by omega⟩
    have hne:op≠ []:=by intro e;have:=f.o.2.2;rw[e]at this;simp at this
    obtain⟨l,d,hld⟩:∃l d,op=l++ [d]:=⟨_,_,(List.dropLast_concat_getLast hne).symm⟩
    subst hld;have hlm:l.length=m:=by have:=f.o.2.2;simpa using this
    obtain⟨bb,off,x,rfl,hbB,hx,y0,y1⟩:=(Sl.of_own z.o.c).dg (k:=m) (by omega);have hxd:x=d:=by rw[<-hlm,List.getElem?_append_right aj]at hx;simpa using hx.symm
    subst hxd;have Aj:x∈reU p rs:=yF C.o (HI.o.o x (List.mem_append_right _ (List.mem_singleton.2 rfl)));have Vu:=ai Aj;have Ak:Hid (WfD x):=yQ C.o HH.o (HI.o.o x (List.mem_append_right _ (List.mem_singleton.2 rfl)));have hmc:=(Que.of_own z.o.c).le;have Aq:=ai (z.o.rot.rot.pop);have oU:=ai hlm;obtain⟨d1,d2⟩:=x;simp only at y0 y1;obtain⟨W,hW⟩:=NX9 (wr.alloc (.cells #[.int .u64 d1,.int .u64 d2] 50))
    have hbW:VE wr W:=by rw[<-hW];exact(ah _ wr).alloc aj _
    have R:Hid (Bk W wr.heap.size 50 #[.int .u64 d1,.int .u64 d2]):=by rw[<-hW];exact Bk.new wr _ _
    have v:=ai (HS.o.below hbW hms);have HRW:=ai (Aq.o.upon hbW);have E:VF w W:=oO.o.trans (hbW.mono zr);have hlk:=Sd.look (d:=(d1,d2)) v.o Tryz.underlying105 (kS Ak.o);have tk:=ry (P:=Tryz.prog) 47 i0 Tryz.underlying47 Hi.o (some ⟨bb,off,none⟩) (m+1) c3 m (by omega);have hw1:IntKind.i64.wrap (((m+1:Nat):Int) - 1)= (m:Int):=by rw[yO (by omega) (by omega)];omega
    have hj0: (0:Int)< ((m+1:Nat):Int):=by omega
    have hj1:¬(m:Int)<0:=by omega
    have hj2: (m:Int)< ((m+1:Nat):Int):=by omega
    obtain⟨r0,r1,_,_⟩:=R.o.two;rw[<-hW]at r0 r1 hlk;have t:=ai hW;simp only at hlk;clear hx hne hlm Aj hW hbW z h30 Aq;cases hmd:met (d1,d2) with
    | true =>
      rw[hmd]at hlk;have S:=ai (HI.o.skip hmd);clear hmd;go_wp2_with fail;rw[t.o]
      go_roundg (gk - 1)
      case rel=>exact⟨met,N,n1,n2,m,rl,rm,l,A1,A2,_,c1,c2,c3,rfl,rfl,rfl,S.o,v.o,HRW.o.rot,E.o,⟨f.o.1,f.o.2.1,oU.o⟩,by have:=HU.o;show _<=_;omega,by omega,by omega⟩
      case measure=>have:=HU.o;omega
    | false =>
      rw[hmd]at hlk;have Au:=ai hmd;have AP:=ai (LZ (U:=reU p rs) (met:=met) Vu.o hmd);clear hmd
      go_wp2_with (at_mapUpdate;refine aO ?_)
      rw[t.o]
      go_wp2_with (at_mapUpdate;refine aO ?_)
      refine aH ?_;refine AY rfl _ _ _ 105 rfl Tryz.underlying105 w.heap.size N met rfl v.o (by unfold maxLen;omega) (d1,d2) (kS Ak.o) rfl rfl ?_;intro w3 hS3 hg3;have qc:=ai hS3;have HR3:=ai (HRW.o.grown hg3 fun cs e=>by obtain⟨D,⟨es,clock,h3,_⟩,_⟩:=v.o;rw[h3]at e;cases e);have HB3:VF w w3:=E.o.grown hg3 E.o.size (fun g e=>by cases e;exact Nat.le_refl _);have BB:wr.heap.size≠w.heap.size:=by omega
      have bz:=ai (R.o.grown hg3 (fun e=>BB (Option.some.inj e)));have hs3:wr.heap.size<w3.heap.size:=bz.o.lt;clear hS3 hg3 r0 r1 hlk tk hw1 t v HRW E R hj0 hj1 hj2 y0 y1;have HG:=ai (nI pA pn pc B p (d1,d2) w3 (HP.o.below HB3.o hB) (by omega) (by omega) C.o);unfold GeE at HG;simp only[az]at HG;obtain⟨r0,r1,_,_⟩:=bz.o.two;go_wp2_with fail;refine HG.o.mono ?_;rintro e w4 ⟨hq,hb4⟩;have T:=ai (qc.o.below hb4 qc.o.lt);have HR4:=ai (HR3.o.upon hb4);have HB4:VF w w4:=HB3.o.trans (hb4.mono HB3.o.size);have cu:=ai (bz.o.below hb4 hs3);have z34:w3.heap.size<=w4.heap.size:=hb4.size;have Vw:Hid (∀g,bkO A1=some g->g<w3.heap.size):=fun g h=>(HR3.o.b.lt g (by rw[je];exact h)).2;clear hb4 HG r0 r1 qc HR3 HB3 bz;have hk4:wr.heap.size<w4.heap.size:=cu.o.lt;rcases hq with ⟨o,s,hg,hok,rfl,cO,hno,HY⟩ | ⟨hg,rfl⟩
      case inr =>
       have S:=ai (HI.o.miss Au.o hg);clear hg;simp only[obV,obC,zOb,zOs,zD];obtain⟨W5,r⟩:=NX9 (w4.alloc (.cells #[.int .i64 0,.string ⟨#[]⟩,.slice none 0 0,.int .u64 0,.int .u64 0,.slice none 0 0,.string ⟨#[]⟩,.int .i64 0,.string ⟨#[]⟩] 109))
       have hb5:VE w4 W5:=by rw[<-r];exact(ah _ w4).alloc aj _
       have e5:W5.heap.size=w4.heap.size+1:=by rw[<-r];simp
       have dn:=ai (cu.o.below hb5 hk4);have G:Hid (Bk (W5.alloc (.cells #[.int .u64 d1,.int .u64 d2] 50)) (w4.heap.size+1) 50 #[.int .u64 d1,.int .u64 d2]):=by
        have e:=Bk.new W5 50 #[.int .u64 d1,.int .u64 d2]
        rwa[e5]at e
       have hb6:VE w4 (W5.alloc (.cells #[.int .u64 d1,.int .u64 d2] 50)):=hb5.alloc (by omega) _;have y:=ai (HR4.o.upon hb6);have L:=ai (T.o.below hb6 T.o.lt);have F:Hid (VE w (W5.alloc (.cells #[.int .u64 d1,.int .u64 d2] 50))):=HB4.o.trans (hb6.mono HB4.o.size);obtain⟨r0,r1,_,_⟩:=dn.o.two;rw[<-r]at r0 r1;have t:=ai r;clear r hb5 hb6 e5
       go_wp2_with (at_builtin;refine iP (.tmp 47) (.tmp 49) 47 rfl ?_)
       rw[t.o];refine aH ?_;refine vz (base:=w.heap.size) (size:=2) rfl (.tmp 47) (.tmp 49) 47 rfl 50 i0 _ 16 Tryz.underlying47 Hi.o lg.o lq.o nz.o rfl (by decide) A2 n2 c2 (flat dgC rm) rfl y.o.rot.rot.a _ _ 1 1 (flat dgC [(d1,d2)]) rfl (Sl.of_bk (n:=1) (size:=2) G.o rfl) (kT _) (by omega) (by unfold maxLen;omega) (by omega) F.o.size ?_;intro A6 c6 w6 H q _ _ hd6;rw[<-bQ]at H;have V:=ai (y.o.rot.rot.app H q hd6);have X:=ai (L.o.kept q fun e=>zl y.o.rot.rot.a L.o _ e.symm rfl);have Y:VF w w6:=F.o.grown q F.o.size (fun g e=>(y.o.rot.rot.a.lt g (by rw[je];exact e)).1);clear H q hd6 r0 r1;go_wp2_with fail
       go_roundg (gk - 1)
       case rel=>exact⟨_,N+1,n1,n2+1,m,rl,rm++ [(d1,d2)],l,A1,A6,_,c1,c6,c3,rfl,rfl,rfl,S.o,X.o,V.o.rot.rot,Y.o,⟨f.o.1,by rw[af,f.o.2.1];rfl,oU.o⟩,by have:=HU.o;have:=AP.o;show _<=_;omega,by omega,by have:=HU.o;omega⟩
       case measure=>have:=HU.o;omega
      case inl =>
       have Vx:Hid (Rchd p rs (d1,d2)):=HI.o.o _ (List.mem_append_right _ (List.mem_singleton.2 rfl));have KF:=ai (HI.o.got Au.o hg);have KR:=ai hg;have Nc:=ai hok;obtain⟨W5,r⟩:=NX9 (w4.alloc (.cells (obC o s) 109))
       have hb5:VE w4 W5:=by rw[<-r];exact(ah _ w4).alloc aj _
       have e5:W5.heap.size=w4.heap.size+1:=by rw[<-r];simp
       have I:Hid (Bk W5 w4.heap.size 109 (obC o s)):=by rw[<-r];exact Bk.new w4 _ _
       have dn:=ai (cu.o.below hb5 hk4);obtain⟨W6,dN⟩:=NX9 (W5.alloc (.cells #[.int .u64 d1,.int .u64 d2] 50))
       have Z:VE W5 W6:=by rw[<-dN];exact(ah _ W5).alloc aj _
       have G:Hid (Bk W6 (w4.heap.size+1) 50 #[.int .u64 d1,.int .u64 d2]):=by
        have e:=Bk.new W5 50 #[.int .u64 d1,.int .u64 d2];rw[e5,dN]at e;exact e
       have hb6:VE w4 W6:=hb5.trans (Z.mono hb5.size);have y:=ai (HR4.o.upon hb6);have L:=ai (T.o.below hb6 T.o.lt);have F:VF w W6:=HB4.o.trans (hb6.mono HB4.o.size);have ag:=ai (I.o.below Z I.o.lt);have u:=ai (cO.below hb6 aj);have z46:w4.heap.size+1<W6.heap.size:=G.o.lt;have hrow:∀g,bkO A1=some g->g<w3.heap.size:=Vw.o;have J:Hid (∀g,bkO A1=some g-> (0<s.en->∀g',bkO s.eA=some g'->some g≠some g')/\ (0<s.pn->∀g',bkO s.pA=some g'->some g≠some g')/\g≠w4.heap.size):=fun g hgb=>by
        have h3:=hrow g hgb;refine⟨fun h0 g' hg' e=>?_,fun h0 g' hg' e=>?_,by omega⟩
        . cases e
          cases hA:s.eA with
          | none=>rw[hA]at hg';cases hg'
          | some a=>rw[hA]at hg';have:=(hno a h0 hA).1;have e2:a.block=g:=Option.some.inj hg';omega
        . cases e
          cases hA:s.pA with
          | none=>rw[hA]at hg';cases hg'
          | some a=>rw[hA]at hg';have:=(HY a h0 hA).1;have e2:a.block=g:=Option.some.inj hg';omega
       obtain⟨r0,r1,_,_⟩:=dn.o.two;rw[<-r]at r0 r1;have t:=ai r;have Vy:=ai dN;have fU:Hid (s.en<=200/\s.pn<=8):=⟨by rw[<-cO.elen];exact KQ hok,by rw[<-cO.plen];exact(Dt hok).1⟩
       clear r dN hb5 hb6 Z e5 hrow hno HY cO hg hok;unfold obV;unfold obC at t I ag r0 r1 ⊢
       go_wp2_with (at_builtin;refine iP (.tmp 51) (.tmp 53) 47 rfl ?_)
       rw[t.o,Vy.o];refine aH ?_;refine vz (base:=w.heap.size) (size:=2) rfl (.tmp 51) (.tmp 53) 47 rfl 50 i0 _ 16 Tryz.underlying47 Hi.o lg.o lq.o nz.o rfl (by decide) A1 n1 c1 (flat dgC rl) rfl y.o.rot.a _ _ 1 1 (flat dgC [(d1,d2)]) rfl (Sl.of_bk (n:=1) (size:=2) G.o rfl) (kT _) (by omega) (by unfold maxLen;omega) (by omega) F.o.size ?_;intro A6 c6 w7 H q _ _ hd6;rw[<-bQ]at H;have V:=ai (y.o.rot.app H q hd6);have X:=ai (L.o.kept q fun e=>zl y.o.rot.a L.o _ e.symm rfl);have Y:VF w w7:=F.o.grown q F.o.size (fun g e=>(y.o.rot.a.lt g (by rw[je];exact e)).1);have z7:W6.heap.size<=w7.heap.size:=q.size;have gu:Hid (Bk w7 w4.heap.size 109 #[.int .i64 o.kind,.string o.data,.slice s.eA s.en s.ec,.int .u64 o.tree.1,.int .u64 o.tree.2,.slice s.pA s.pn s.pc,.string o.auth,.int .i64 o.time,.string o.msg]):=ag.o.grown q (fun e=>(J.o _ e.symm).2.2 rfl);have iU:Hid (ObM w7 w4.heap.size o s):=⟨xX u.o.e q (by omega) (fun h0 g hgb e=>(J.o g e).1 h0 g hgb rfl),xX u.o.p q (by omega) (fun h0 g hgb e=>(J.o g e).2.1 h0 g hgb rfl),u.o.ele,u.o.emx,u.o.ple,u.o.pmx⟩
       clear H q hd6 r0 r1 G y L F ag u dn J;have qx:=ai (OZ o s w4.heap.size w7 iU.o (by omega) Nc.o (by have:=fU.o.1;omega) (by have:=fU.o.2;omega));unfold obV obC LkE at qx;obtain⟨q0,q1,q2,q3,q4,q5,q6,q7,q8⟩:=gu.o.nine;go_wp2_with fail;refine qx.o.mono ?_;rintro e w8 ⟨A9,n9,c9,qA,rfl,rf,hb8⟩;have uw:=ai (V.o.upon hb8);have PR:=ai (X.o.below hb8 X.o.lt);have UB:VF w w8:=Y.o.trans (hb8.mono Y.o.size);have ed:=ai rf.sl;have au:Hid (0<n9->∀g,bkO A9=some g->bkO (some (⟨bb,off,none⟩:Addr))≠some g):=fun h0 g hgb e=>by
        have h3:=(V.o.c.lt g (by rw[je];exact e)).2;rcases rf with h4 | ⟨h4,_⟩
        . have:=(h4.lt g (by rw[je];exact hgb)).1;omega
        . omega
       have Vz:=ai qA;have VN:n9<=209:=by rw[qA];exact Dw Nc.o
       have VP:m<=200000000000:=by omega
       obtain⟨wo,hwo⟩:∃wo,wo=wr:=⟨_,rfl⟩
       subst hwo;clear qA rf hb8 qx q0 q1 q2 q3 q4 q5 q6 q7 q8 gu iU V X Y HR4 T HB4 cu I;obtain⟨VQ,hA3⟩:=NX9 ((some ⟨bb,off,none⟩:OA))
       rw[hA3]at uw au;rw[hA3];clear hA3;go_wp2_with fail
       go_loopw[9,58] (fun v9 i wi=>∃(j n c:Nat)(A:OA)(op':List Dig),v9= .slice A n c/\i= .int .i64 j/\j<=n9/\n<=m+j/\Hid (op'.length=n)/\Hid (ReJ p rs (setB met (d1,d2)) (rl++ [(d1,d2)]) rm op' (d1,d2) ((df o).take j))/\Hid (Sd wi w.heap.size (N+1) (setB met (d1,d2)))/\Hid (Rw3 wi w.heap.size 50 A6 (n1+1) c6 A2 n2 c2 A n c (rl++ [(d1,d2)]) rm op')/\VF w wi/\Hid (Sl wi w8.heap.size 2 A9 n9 (flat dgC (df o)))/\Hid (0<n9->∀g,bkO A9=some g->bkO A≠some g)/\w8.heap.size<=wi.heap.size) (fun _ i _=>n9 - (intOf i).toNat)
       case atStart=>exact⟨0,m,c3,_,l,rfl,rfl,ZX _,Nat.le_refl _,oU.o,KF.o,PR.o,uw.o,UB.o,ed.o,au.o,Nat.le_refl _⟩
       case round =>
        obtain⟨j,n,c,A,op',rfl,rfl,hj,VR,hol,hJ,hS,O,hBw,hSl,Vf,VG⟩:=hrel;have uA:=ai hol.o;have HJ:=ai hJ.o;have uD:=ai hS.o;have Vj:=ai O.o;have Vk:=ai hBw.o;have Vl:=ai hSl.o;have wz:=ai Vf.o;clear hol hJ hS O hBw hSl Vf PR uw UB ed au KF;have VH:w.heap.size<wr.heap.size:=uD.o.lt;by_cases hlt:j<n9
        . obtain⟨b9,o9,x,rfl,VS,hx,y0,y1⟩:=Vl.o.dg hlt
          have hlz: (j:Int)< (n9:Int):=by omega
          have Vm:=ai (aV hx);have Vo:Hid (Rchd p rs x):= .link Vx.o KR.o (Z7 hx);have VI:Hid (WfD x):=yQ C.o HH.o Vo.o;obtain⟨x1,x2⟩:=x;simp only at y0 y1;obtain⟨W,hW⟩:=NX9 (wr.alloc (.cells #[.int .u64 x1,.int .u64 x2] 50))
          have hbW:VE wr W:=by rw[<-hW];exact(ah _ wr).alloc aj _
          have eW:W.heap.size=wr.heap.size+1:=by rw[<-hW];simp
          have R:Hid (Bk W wr.heap.size 50 #[.int .u64 x1,.int .u64 x2]):=by rw[<-hW];exact Bk.new wr _ _
          have v:=ai (uD.o.below hbW VH);have HRW:=ai (Vj.o.upon hbW);have E:VF w W:=Vk.o.trans (hbW.mono (by omega));have Vp:=ai (Vl.o.below hbW VG);have hlk:=Sd.look (d:=(x1,x2)) v.o Tryz.underlying105 (kS VI.o);obtain⟨r0,r1,_,_⟩:=R.o.two;rw[<-hW]at r0 r1 hlk;simp only at hlk;have xe:w8.heap.size<=W.heap.size:=by omega
          have t:=ai hW;cases hsm:setB met (d1,d2) (x1,x2) with
          | true =>
            rw[hsm]at hlk;have bf:=ai (HJ.o.pass hsm);rw[<-Vm.o]at bf;clear hW hbW eW hx hsm;go_wp2_with fail;rw[t.o];go_roundw
            case rel=>exact⟨j+1,n,c,A,op',rfl,by go_num,hlt,by omega,uA.o,bf.o,v.o,HRW.o,E.o,Vp.o,wz.o,xe⟩
            case measure=>simp[intOf];omega
          | false =>
            rw[hsm]at hlk;have bf:=ai (HJ.o.push Vo.o);rw[<-Vm.o]at bf;have G:Hid (Bk (W.alloc (.cells #[.int .u64 x1,.int .u64 x2] 50)) (wr.heap.size+1) 50 #[.int .u64 x1,.int .u64 x2]):=by
             have e:=Bk.new W 50 #[.int .u64 x1,.int .u64 x2]
             rwa[eW]at e
            have hbx:VE W (W.alloc (.cells #[.int .u64 x1,.int .u64 x2] 50)):=(ah _ W).alloc aj _;have K:=ai (HRW.o.upon hbx);have ku:=ai (v.o.below hbx v.o.lt);have bg:Hid (VE w (W.alloc (.cells #[.int .u64 x1,.int .u64 x2] 50))):=E.o.trans (hbx.mono E.o.size);have Vq:=ai (Vp.o.below hbx xe);have hzx:w8.heap.size<= (W.alloc (.cells #[.int .u64 x1,.int .u64 x2] 50)).heap.size:=ZY xe hbx.size;have xn:=ai hzx;clear hW hbW eW hx hsm hbx hzx
            go_wp2_with (at_builtin;refine iP (.tmp 66) (.tmp 68) 47 rfl ?_)
            rw[t.o];refine aH ?_;refine vz (base:=w.heap.size) (size:=2) rfl (.tmp 66) (.tmp 68) 47 rfl 50 i0 _ 16 Tryz.underlying47 Hi.o lg.o lq.o nz.o rfl (by decide) A n c (flat dgC op') rfl K.o.rot.rot.a _ _ 1 1 (flat dgC [(x1,x2)]) rfl (Sl.of_bk (n:=1) (size:=2) G.o rfl) (kT _) (by omega) (by unfold maxLen;omega) (by omega) bg.o.size ?_;intro A7 c7 w9 xA M _ _ hd9;rw[<-bQ]at xA;have VJ:=ai (K.o.rot.rot.app xA M hd9);have VK:=ai (ku.o.kept M fun e=>zl K.o.rot.rot.a ku.o _ e.symm rfl);have VL:VF w w9:=bg.o.grown M bg.o.size (fun g e=>(K.o.rot.rot.a.lt g (by rw[je];exact e)).1);have ed:Hid (Sl w9 w8.heap.size 2 (some ⟨b9,o9,none⟩) n9 (flat dgC (df o))):=xX Vq.o M xn.o (fun h0 g hgb=>wz.o h0 g hgb);have au:Hid (0<n9->∀g,bkO (some (⟨b9,o9,none⟩:Addr))=some g->bkO A7≠some g):=fun h0 g hgb e=>by
             rcases hd9 g e with h | h
             . exact wz.o h0 g hgb h
             . have e2:b9=g:=Option.some.inj hgb
               have:=xn.o;omega
            have VM:Hid (w8.heap.size<=w9.heap.size):=ZY xn.o M.size;clear xA M hd9 r0 r1;go_wp2_with fail;go_roundw
            case rel=>exact⟨j+1,n+1,c7,A7,op'++ [(x1,x2)],rfl,by go_num,hlt,by omega,by show _=_;rw[af,uA.o];rfl,bf.o,VK.o,VJ.o.rot,VL.o,ed.o,au.o,VM.o⟩
            case measure=>simp[intOf];omega
        . have hlz:¬(j:Int)< (n9:Int):=by omega
          have HT:Hid ((df o).take j=df o):=ZU (by rw[<-Vz.o];omega);rw[HT.o]at HJ;have S:=ai (HJ.o.fin KR.o);go_wp2_with fail
          go_roundg (gk - 1)
          case rel=>exact⟨_,N+1,n1+1,n2,n,rl++ [(d1,d2)],rm,op',A6,A2,A,c6,c2,c,rfl,rfl,rfl,S.o,uD.o,Vj.o,Vk.o,⟨by rw[af,f.o.1];rfl,f.o.2.1,uA.o⟩,by have:=HU.o;have:=AP.o;show _<=_;omega,by omega,by have:=HU.o;omega⟩
          case measure=>have:=HU.o;omega
end
theorem OI{p:List Itm}{ds l m:List Dig}(h:uS p ds l m):m= []↔¬Miss p ds:=by
 constructor
 . rintro rfl ⟨x,h1,h2,h3⟩
   cases (h.miss x).2 ⟨h1,h2,h3⟩
 . intro hn
   cases m with
   | nil=>rfl
   | cons x m=>exact absurd ⟨x,(h.miss x).1 (by simp)⟩ hn
theorem Bv(p:List Itm)(A:OA)(n c B:Nat)(d:Dig)(w:VA)(h0:Sl w B 3 A n (flat itC p))(hB:B<=w.heap.size)(hn:n<=200000)(hp:PlOk p)(hd:WfD d) :
  Calls Tryz.prog 40 #[.slice A n c,az d] w fun e w'=>e= .returned (.int .i64 (dO p d))/\VE w w':=by
 obtain⟨d1,d2⟩:=d;obtain⟨W,hW⟩:=NX9 (w.alloc (.cells #[.int .u64 d1,.int .u64 d2] 50))
 have HB0:VF w W:=by rw[<-hW];exact(ah _ w).alloc aj _
 have HK:Hid (Bk W w.heap.size 50 #[.int .u64 d1,.int .u64 d2]):=by rw[<-hW];exact Bk.new w _ _
 have r:w.heap.size<W.heap.size:=HK.o.lt;have HP:Hid (Sl W B 3 A n (flat itC p)):=h0.below HB0.o hB;have HG:=ai (nI A n c B p (d1,d2) W HP.o (by omega) (by omega) hp);unfold GeE at HG;have g:=ai hp;have HD:=ai hd;have HW:=ai hW;simp only[az]at HG ⊢;obtain⟨cv,hcv⟩:=NX9 (dO p (d1,d2))
 rw[hcv];have a:=ai hcv;clear hcv;obtain⟨k0,k1,_,_⟩:=HK.o.two;rw[<-hW]at k0 k1;clear hp hd h0 hW
 go_enter Tryz.func40,Tryz.ntmps40
 go_wp2_with fail;rw[HW.o];refine HG.o.mono ?_;rintro e w1 ⟨hq,hb1⟩;have f:=ai (HK.o.below hb1 r);have HB1:VF w w1:=HB0.o.trans (hb1.mono HB0.o.size);have h:=ai (HP.o.below hb1 (by omega));have z1:w.heap.size<w1.heap.size:=f.o.lt;clear hb1 HG k0 k1;rcases hq with ⟨o,s,hg,hok,rfl,i,_,_⟩ | ⟨hg,rfl⟩
 case inr =>
  have HC:Hid (dO p (d1,d2)=8):=by show _=_;unfold dO;rw[hg]
  rw[a.o]at HC;clear hg;simp only[obV,obC,zOb,zOs,zD]
  go_wp2
  go_ret
  exact⟨by rw[HC.o];rfl,HB1.o.alloc HB1.o.size _⟩
 case inl =>
  have b:=ai hg;simp only[obV,obC];obtain⟨W2,hW2⟩:=NX9 (w1.alloc (.cells #[.int .i64 o.kind,.string o.data,.slice s.eA s.en s.ec,.int .u64 o.tree.1,.int .u64 o.tree.2,.slice s.pA s.pn s.pc,.string o.auth,.int .i64 o.time,.string o.msg] 109))
  have hb2:VE w1 W2:=by rw[<-hW2];exact(ah _ w1).alloc aj _
  have j:Hid (Bk W2 w1.heap.size 109 #[.int .i64 o.kind,.string o.data,.slice s.eA s.en s.ec,.int .u64 o.tree.1,.int .u64 o.tree.2,.slice s.pA s.pn s.pc,.string o.auth,.int .i64 o.time,.string o.msg]):=by rw[<-hW2];exact Bk.new w1 _ _
  have k:=ai (f.o.below hb2 z1);have HB2:VF w W2:=HB1.o.trans (hb2.mono HB1.o.size);have HP2:=ai (h.o.below hb2 (by omega));have z2:W2.heap.size=w1.heap.size+1:=by rw[<-hW2];simp
  obtain⟨c0,_⟩:=j.o.nine;obtain⟨k0,k1,_,_⟩:=k.o.two;rw[<-hW2]at c0 k0 k1;have HW2:=ai hW2;have hne:w.heap.size≠w1.heap.size:=by omega
  obtain⟨W3,hW3⟩:=NX9 (W2.alloc (.cells #[.int .u64 d1,.int .u64 d2] 50))
  have hb3:VE w1 W3:=by rw[<-hW3];exact hb2.alloc (by omega) _
  have q:Hid (Bk W3 (w1.heap.size+1) 50 #[.int .u64 d1,.int .u64 d2]):=by
   have e:=Bk.new W2 50 #[.int .u64 d1,.int .u64 d2]
   rwa[z2,hW3]at e
  have HR:=ai (Cm p A n c [(d1,d2)] (some ⟨w1.heap.size+1,0,none⟩) 1 1 W3.heap.size W3 ((HP2.o.below (by rw[<-hW3];exact(ah _ W2).alloc aj _) (by omega)).more (by have:=hb3.size;omega)) (Sl.of_bk (n:=1) (size:=2) q.o rfl) aj g.o hn (fun d hd=>by rw[List.mem_singleton.1 hd];exact HD.o) (by omega));unfold ReE at HR;have HB3:VF w W3:=HB1.o.trans (hb3.mono HB1.o.size);have HW3:=ai hW3;clear hW3;clear hb2 hb3 hW2 hg hok i;by_cases h3:o.kind=3
  . have H3:=ai h3
    have h3b: (o.kind != 3)=false:=by simp[h3]
    clear h3;go_wp2_with fail;rw[HW2.o,HW3.o];refine HR.o.mono ?_;rintro e w4 ⟨l,m,A1,c1,A2,c2,rfl,hr,_,_,_,hb4⟩;have HB4:VF w w4:=HB3.o.trans (hb4.mono HB3.o.size);have hm:=OI hr;clear hr hb4 HR;by_cases hmi:m= []
    . have hx:=hm.1 hmi
      have HC:Hid (cv=0):=by show _=_;rw[<-a.o];unfold dO;rw[b.o];simp[H3.o,hx]
      subst hmi;clear hm hx
      go_wp2
      go_ret
      exact⟨by rw[HC.o];rfl,HB4.o⟩
    . have hx:Miss p [(d1,d2)]:=Classical.byContradiction fun hx=>hmi (hm.2 hx)
      have HC:Hid (cv=8):=by show _=_;rw[<-a.o];unfold dO;rw[b.o];simp[H3.o,hx]
      have hl:0<m.length:=List.length_pos_iff.2 hmi;have t: (0:Int)< (m.length:Int):=by omega
      clear hm hx hmi hl
      go_wp2
      go_ret
      exact⟨by rw[HC.o];rfl,HB4.o⟩
  . have HC:Hid (cv=9):=by show _=_;rw[<-a.o];unfold dO;rw[b.o];simp[h3]
    have h3b: (o.kind != 3)=true:=by simp[h3]
    clear h3
    go_wp2
    rw[HW2.o];go_ret
    exact⟨by rw[HC.o];rfl,HB2.o⟩
section
open Go.RowKit Go.Shelf
attribute [local go_sem] Oper.semAt_some
theorem wH{w:VA}{a:Array VC}{r:Nat}{x:Bool}(ha:a[2]?.getD undef= .pointer (some ⟨r,0,none⟩))(h:w.heap[r]? =some (.cells #[.bool x] 4 (0,0))) :
  (results Tryz.f122 a).run Tryz.prog w= .ok (.bool x) w:=by
 have hc:=cell_of_one h;simp[results,Tryz.results122,ha,go_sem,hc]
theorem Bj(s:VB)(w:VA)(hs:s.size<=maxLen) :
  Calls Tryz.prog 122 #[.string s] w fun e w'=>e= .returned (.bool (dh s))/\VE w w':=by
 refine(callsIn_wide (n:=6)).1 ?_;unfold maxLen at hs;have HL:=ai (jb s);have a:Fence.wide.fn 194:=trivial;have b:Fence.wide.fn 195:=trivial;refine callsIn_of_wp_marks Tryz.func122 rfl trivial ?_ rfl;simp only[Tryz.ntmps122,List.size_toArray,Z4,List.length_nil,Nat.reduceAdd,Nat.reduceSub,Array.replicate_succ,Array.replicate_zero,List.push_toArray,List.append_toArray,List.nil_append,List.cons_append];by_cases c1:100< (s.size:Int)
 . have hv:Hid (dh s=false):=by
     show _=_;have:=HL.o;unfold dh bl;rw[decide_eq_false (by omega),Bool.false_and]
   gi_wp2_with fail
   refine⟨_,wH rfl (World.alloc_heap_new w _),?_⟩;exact⟨bF hv.o.symm,(ah _ _).alloc aj _⟩
 have c1': (s.size:Int)<=100:=by omega
 have HN:Hid (dh s= (bI (bl s)).all iV):=by
  show _=_;have:=HL.o;unfold dh;rw[decide_eq_true (by unfold bl;omega),Bool.true_and]
 gi_wp2_with (gi_at_call 194;refine(callsIn_wide.2 (Bh _ _)).mono ?_;rintro e w' ⟨rfl,rfl⟩)
 obtain⟨W0,hW0⟩:=NX9 ((((w.alloc (.cells #[.bool false] 4)).alloc (.cells #[.string s] 9)).alloc (.cells #[.string ⟨#[47]⟩] 9)).alloc (.cells #[.int .i64 0] 3))
 have hz:W0.heap.size=w.heap.size+4:=by rw[<-hW0];simp
 have g0:W0.heap[w.heap.size]? =some (.cells #[.bool false] 4 (0,0)):=by
  rw[<-hW0];exact(Below.heap_alloc _ _ _ (by simp;omega)).trans ((Below.heap_alloc _ _ _ (by simp;omega)).trans ((Below.heap_alloc _ _ _ (by simp)).trans (World.alloc_heap_new w _)))
 have g1:W0.heap[w.heap.size+1]? =some (.cells #[.string s] 9 (0,0)):=by
  rw[<-hW0];refine(Below.heap_alloc _ _ _ (by simp)).trans ((Below.heap_alloc _ _ _ (by simp)).trans ?_);have:=World.alloc_heap_new (w.alloc (.cells #[.bool false] 4)) (.cells #[.string s] 9);rwa[Z9]at this
 have g2:W0.heap[w.heap.size+1+1]? =some (.cells #[.string ⟨#[47]⟩] 9 (0,0)):=by
  rw[<-hW0];refine(Below.heap_alloc _ _ _ (by simp)).trans ?_;have:=World.alloc_heap_new ((w.alloc (.cells #[.bool false] 4)).alloc (.cells #[.string s] 9)) (.cells #[.string ⟨#[47]⟩] 9);rwa[Z9,Z9]at this
 have g3:W0.heap[w.heap.size+1+2]? =some (.cells #[.int .i64 0] 3 (0,0)):=by
  rw[<-hW0];have:=World.alloc_heap_new (((w.alloc (.cells #[.bool false] 4)).alloc (.cells #[.string s] 9)).alloc (.cells #[.string ⟨#[47]⟩] 9)) (.cells #[.int .i64 0] 3);rwa[Z9,Z9,Z9]at this
 have hb0:VE w W0:=by
  rw[<-hW0];exact((((ah _ w).alloc aj _).alloc (by simp) _).alloc (by simp;omega) _).alloc (by simp;omega) _
 rw[hW0];refine vS (F:=Fence.wide) (n:=6) rfl (by omega) (gf:=297) (lb:=#[.pointer (some ⟨w.heap.size+1+1,0,none⟩),.pointer (some ⟨w.heap.size+1,0,none⟩),.pointer (some ⟨w.heap.size+1+2,0,none⟩)]) rfl trivial (enters_of Tryz.func297 (by kernel_rfl) rfl)
  (DL 5 (w.heap.size+1) (by omega) s W0 (by omega) (by omega) g1 g2 g3) GN (fun W l o hl=>DZ (m:=w.heap.size+4) (by omega) W l o (by omega)) (CU) (ah _ _) (fun _=>rfl)
  (fun pre W=>W.heap[w.heap.size]? =some (.cells #[.bool false] 4 (0,0))/\Hid (∀x∈pre,nameB x=true)/\VE w W/\w.heap.size+4<=W.heap.size)
  (fun c pre W=>c= .ret/\W.heap[w.heap.size]? =some (.cells #[.bool false] 4 (0,0))/\Hid (∃x∈pre,nameB x=false)/\VE w W)
  ?hI ?hIx ?hIS ⟨g0,by simp[Hid],hb0,by omega⟩ ?a1 ?assign ?body ?done ?stop
 case assign =>
  intro l x W K hK;have HKK:=ai hK;clear hK
  gi_wp2
  exact HKK.o
 case hI =>
  rintro pre A B row ⟨h1,h2,h3,h4⟩ hg hr;refine⟨rP h1 hg (fun e=>?_),h2,h3.grown hg h3.size (fun k e=>?_),ZY h4 hg.size⟩
  . have:=(hr _ e.symm).1;omega
  . have:=(hr _ e).1;omega
 case hIx =>
  rintro c pre A B row ⟨h0,h1,h2,h3⟩ hg hr;refine⟨h0,rP h1 hg (fun e=>?_),h2,h3.grown hg h3.size (fun k e=>?_)⟩
  . have:=(hr _ e.symm).1;omega
  . have:=(hr _ e).1;omega
 case hIS =>
  rintro pre A B ⟨h1,h2,h3,h4⟩ ⟨v,rfl⟩;exact⟨(Z8 _ _ _ _ (by simp)).trans h1,h2,h3.setCell (p:=⟨w.heap.size+1,0,none⟩) (by simp) _,by simpa [World.setCell] using h4⟩
 case body =>
  rintro l pre x W ⟨r,hr⟩ ⟨h1,h2,h3,h4⟩;have hxs:x.size<=maxLen:=by
   have hm:bl x∈bI (bl s):=by rw[<-hr];simp
   have h5:=oQ (bl s) _ hm;have h6:=jb x;have h7:=HL.o;unfold bl at h5;unfold maxLen;omega
  have c0:=cell_of_one h1;have f0:=free_of_one h1;have H1:=ai h1;have H3:=ai h3;clear h1 h3 g0 g1 g2 g3 hb0 hW0 hr;cases hv:nameB x with
  | true =>
    have HV:=ai hv;clear hv
    gi_wp2_with (gi_at_call 195;refine(CallsIn.inRound l (callsIn_wide.2 (jG x _ hxs))).mono ?_;rintro e w' ⟨rfl,rfl⟩;rw[HV.o])
    refine⟨⟨Nat.le_refl _,fun k o hk _=>hk⟩,fun k h5 h6=>rfl,H1.o,?_,H3.o,h4⟩;intro y hy;rcases List.mem_append.1 hy with h | h
    . exact h2.o y h
    . simp at h;subst h;exact HV.o
  | false =>
    have HV:=ai hv;clear hv
    gi_wp2_with (gi_at_call 195;refine(CallsIn.inRound l (callsIn_wide.2 (jG x _ hxs))).mono ?_;rintro e w' ⟨rfl,rfl⟩;rw[HV.o])
    exact⟨KeepsOthers.setCell _ _ _,rfl,one_setCell H1.o,⟨x,by simp,HV.o⟩,H3.o.setCell (p:=⟨w.heap.size,0,none⟩) aj _⟩
 case done =>
  rintro D xs W hD hS ⟨h1,h2,h3,h4⟩ hK;have c0:=cell_of_one h1;have f0:=free_of_one h1;have H1:=ai h1;have H3:=ai h3;have HK:=ai hK;have HS:=ai hS;clear h1 h3 hK hS
  gi_wp2
  have hK2:=(KeepsOthers.setCell W ⟨w.heap.size,0,none⟩ (.bool true)).same D _ HK.o rfl;refine⟨by simp,.inl ⟨_,_,rfl,run_takeDeferred hK2,?_⟩⟩;refine⟨_,wH rfl ((World.putObj_heap_other (by omega)).trans (one_setCell H1.o)),bF ?_,?_⟩
  . rw[HN.o]
    symm
    rw[List.all_eq_true];intro y hy;have hy':y∈xs.map bl:=by rw[HS.o];exact hy
    obtain⟨x,hx,rfl⟩:=List.mem_map.1 hy';exact h2.o x hx
  . exact(H3.o.setCell (p:=⟨w.heap.size,0,none⟩) aj _).grown (grownBy_putObj' _ _ _) ((H3.o.setCell (p:=⟨w.heap.size,0,none⟩) aj _).size) (fun k e=>by cases e;omega)
 case stop =>
  rintro D c pre W hD hS ⟨rfl,h1,h2,h3⟩ hK;have H1:=ai h1;have H3:=ai h3;have HK:=ai hK;have HS:=ai hS;clear h1 h3 hK hS
  gi_wp2
  refine⟨by simp,.inl ⟨_,_,rfl,run_takeDeferred HK.o,?_⟩⟩;refine⟨_,wH rfl ((World.putObj_heap_other (by omega)).trans H1.o),bF ?_,?_⟩
  . rw[HN.o]
    symm
    rw[List.all_eq_false];obtain⟨x,hx,hxv⟩:=h2.o;obtain⟨r,hr⟩:=HS.o;refine⟨bl x,?_,by simpa [nameB] using hxv⟩;rw[<-hr];exact List.mem_append.2 (.inl (List.mem_map.2 ⟨x,hx,rfl⟩))
  . exact H3.o.grown (grownBy_putObj' _ _ _) H3.o.size (fun k e=>by cases e;omega)
end
