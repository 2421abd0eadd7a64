/-
  Lemmas of the card.
-/
import Derived.Deep.Upon
import Derived.Test.YtknefelegjlgnaaGreatDoorACAt6
set_option maxRecDepth 100000
set_option maxHeartbeats 2000000
namespace Go.Proofs.YtknefelegjlgnaaGreatDoor
open Go.RowKit
def enC(e:Ent):List M4:= [.string e.nm,.bool e.dir,.int .u64 e.dg.1,.int .u64 e.dg.2]
def qR(e:Ent):M4:= .agg #[.string e.nm,.bool e.dir,.int .u64 e.dg.1,.int .u64 e.dg.2]
def dgC(d:Dig):List M4:= [.int .u64 d.1,.int .u64 d.2]
theorem p9(e:Ent): (enC e).length=4:=rfl
theorem fI(d:Dig): (dgC d).length=2:=rfl
theorem u7: (Tryz.prog.info? 185).map (fun i=>(i.zero,i.size,i.bytes))=some (some (.agg #[.string ⟨#[]⟩,.bool false,.int .u64 0,.int .u64 0]),4,40):=by kernel_rfl
theorem jw: (Tryz.prog.info? 50).map (fun i=>(i.zero,i.size,i.bytes))=some (some (.agg #[.int .u64 0,.int .u64 0]),2,16):=by kernel_rfl
theorem oF{fn:Func}{c:Tmp}(h:fn.results= #[.cell c 185]){w:MZ}{a:Array M4}{b:Nat}{x y z u:M4}(ha:a[c]?.getD undef= .pointer (some ⟨b,0,none⟩))(hk:Bk w b 185 #[x,y,z,u]) :
  (results fn a).run Tryz.prog w= .ok (.agg #[x,y,z,u]) w:=by
 have h0:=hk.cell 0;have h1:=hk.cell 1;have h2:=hk.cell 2;have h3:=hk.cell 3;simp at h0 h1 h2 h3;simp[results,h,ha,go_sem,h0,h1,h2,h3]
theorem Bk.four{w:MZ}{b:Nat}{t:TypeId}{x y z u:M4}(h:Bk w b t #[x,y,z,u]):w.cell? ⟨b,0,none⟩=some x/\w.cell? ⟨b,1,none⟩=some y/\w.cell? ⟨b,2,none⟩=some z/\w.cell? ⟨b,3,none⟩=some u:=by
 have h0:=h.cell 0;have h1:=h.cell 1;have h2:=h.cell 2;have h3:=h.cell 3;simp at h0 h1 h2 h3;exact⟨h0,h1,h2,h3⟩
theorem pX{w:MZ}{b:Nat}{t:TypeId}{x y z u:M4}(h:Bk w b t #[x,y,z,u])(x' y' z' u':M4):Bk ((((w.setCell ⟨b,0,none⟩ x').setCell ⟨b,1,none⟩ y').setCell ⟨b,2,none⟩ z').setCell ⟨b,3,none⟩ u') b t #[x',y',z',u']:=by
 have:=(((h.set 0 x').set 1 y').set 2 z').set 3 u'
 simpa using this
theorem Apd.gb{w w':MZ}{base size n c b:Nat}{e:TypeId}{A:OA}{xs:List M4}(h:Apd w base e size A n c xs)(hg:Gb (fun g=>g=b) w w')(hb:b<base):Apd w' base e size A n c xs:=by
 rcases h with h | h
 . refine .inl (h.kept (row:=some b) ⟨hg.os,hg.tape,hg.output,hg.size,fun k hk hn=>hg.block k hk (fun e=>hn (by rw[e]))⟩ ?_)
   cases hv: (Value.slice A n c).ownBlock with
   | none=>exact .inl rfl
   | some k =>
     have:=(h.lt k hv).1;exact .inr (fun e=>by cases e;omega)
 . exact .inr h
theorem F4(b:Nat)(en:Ent)(r:M5)(w:MZ)(hk:Rdr w b (aQ en++r))(hok:gU en)(hl: (aQ en++r).length<=1000000) :
  Calls Tryz.prog 146 #[.pointer (some ⟨b,0,none⟩)] w (RdE (qR en) b r w):=by
 have E:=gM hok.nm;have F:=Bk.lt hk;obtain⟨nm,o,dg⟩:=en;obtain⟨d1,d2⟩:=dg;obtain⟨k,f⟩:=NX9 ((if o=true then 1 else 0:Nat))
 have ad:k<=1:=by rw[<-f];split <;> omega
 have G:Hid (o=decide (k=1)):=by show _=_;rw[<-f];cases o <;> rfl
 unfold aQ at hk hl;simp only[f,Z4]at hk hl;have H:Hid (WfD (d1,d2)):=hok.dg;simp only at E;have q: (aj k++ (ax (d1,d2)++r)).length<=1000000:=by rw[ae]at hl;omega
 have z: (ax (d1,d2)++r).length<=1000000:=by rw[ae]at q;omega
 have I:=ah q;have J:=ah z;obtain⟨W1,j⟩:=NX9 (w.alloc (.cells #[.string ⟨#[]⟩,.bool false,.int .u64 0,.int .u64 0] 185))
 have K:Hid (Bk W1 w.heap.size 185 #[.string ⟨#[]⟩,.bool false,.int .u64 0,.int .u64 0]):=by rw[<-j];exact Bk.new w _ _
 have s:Below w.heap.size w W1:=by rw[<-j];exact(af _ w).alloc ai _
 have ag:W1.heap.size=w.heap.size+1:=by rw[<-j];simp
 have L:Hid (Gb (fun g=>g=b) w W1):=Gb.of_below s;have HS:=ah (lT b nm (aj k++ (ax (d1,d2)++r)) W1 (Bk.below hk s F) (by omega) hl);clear hk hl q z hok f s
 go_enter Tryz.func146,Tryz.ntmps146
 go_wp2_with fail;refine HS.o.mono ?_;rintro e w2 ⟨rfl,A,l⟩;have M:=ah A;have z2:=l.size;have N:Hid (Gb (fun g=>g=b) w w2):=L.o.trans l;have O:=ah (l.bk K.o (by show ¬w.heap.size=b;omega));clear A l j HS;obtain⟨W3,h⟩:=NX9 (w2.alloc (.cells #[.string nm,.bool false,.int .u64 0,.int .u64 0] 185))
 have P:Hid (Bk W3 w2.heap.size 185 #[.string nm,.bool false,.int .u64 0,.int .u64 0]):=by rw[<-h];exact Bk.new w2 _ _
 have m:Below w2.heap.size w2 W3:=by rw[<-h];exact(af _ w2).alloc ai _
 have al:W3.heap.size=w2.heap.size+1:=by rw[<-h];simp
 have Q:Hid (Gb (fun g=>g=b) w W3):=N.o.trans (Gb.of_below m);have R:=ah (O.o.below m (by omega));have HN:=ah (jg b k (ax (d1,d2)++r) W3 (Bk.below M.o m (by omega)) (by omega) I.o);have B:=ah h;clear m h;go_wp2_with fail;rw[B.o];refine HN.o.mono ?_;rintro e w4 ⟨rfl,t,i⟩;have z4:=i.size;have S:Hid (Gb (fun g=>g=b) w w4):=Q.o.trans i;have T:=ah (i.bk R.o (by show ¬w.heap.size=b;omega));have u:=ah (i.bk P.o (by show ¬w2.heap.size=b;omega));have U:=ah t;obtain⟨x0,x1,f0,f1⟩:=Bk.two t;obtain⟨y0,y1,y2,y3⟩:=u.o.four;have g1:=u.o.free 1;obtain⟨W5,d⟩:=NX9 ((w4.setCell ⟨b,1,none⟩ (.bool false)).setCell ⟨w2.heap.size,1,none⟩ (.bool (decide (k=1))))
 have c:b≠w2.heap.size:=by omega
 have a:b≠w.heap.size:=by omega
 have V:Hid (Rdr W5 b (ax (d1,d2)++r)):=by
  rw[<-d];have:=(U.o.set 1 (.bool false)).far (p:=⟨w2.heap.size,1,none⟩) c (.bool (decide (k=1)));show Bk _ _ _ _;simpa using this
 have W:Hid (Bk W5 w2.heap.size 185 #[.string nm,.bool (decide (k=1)),.int .u64 0,.int .u64 0]):=by
  rw[<-d];have:=(u.o.far (p:=⟨b,1,none⟩) c.symm (.bool false)).set 1 (.bool (decide (k=1)));show Bk _ _ _ _;simpa using this
 have X:Hid (Bk W5 w.heap.size 185 #[.string ⟨#[]⟩,.bool false,.int .u64 0,.int .u64 0]):=by
  rw[<-d];exact(T.o.far (p:=⟨b,1,none⟩) a.symm _).far (p:=⟨w2.heap.size,1,none⟩) (by show w.heap.size≠w2.heap.size;omega) _
 have am:W5.heap.size=w4.heap.size:=by rw[<-d];simp[World.setCell]
 have Y:Hid (Gb (fun g=>g=b) w W5):=by
  rw[<-d];exact(S.o.trans (Gb.set (p:=fun g=>g=b) (x:=b) rfl 1 _)).after (by omega) 1 _
 have HD:=ah (rJ b (d1,d2) r W5 V.o H.o J.o);have an:decide ((1:Int)< (k:Int))=false:=by simp;omega
 have f: ((k:Int) == 1)=decide (k=1):=by
  rw[Bool.eq_iff_iff];simp;omega
 clear t i HN B;go_wp2_with fail;refine HD.o.mono ?_;rintro e w6 ⟨rfl,C,n⟩;have v:=ah (n.bk W.o (by show ¬w2.heap.size=b;omega));have y:=ah (n.bk X.o (by show ¬w.heap.size=b;omega));have Z:=ah C;have ab:Hid (Gb (fun g=>g=b) w w6):=Y.o.trans n;clear x0 x1 f0 f1 y0 y1 y2 y3 g1 C n d HD;simp only[aB];obtain⟨y0,y1,y2,y3⟩:=v.o.four;have g2:=v.o.free 2;have g3:=v.o.free 3;obtain⟨z0,z1,ao,z3⟩:=y.o.four;obtain⟨e0,e1,e2,e3⟩:=fr4 y.o;have D:w.heap.size≠w2.heap.size:=by omega
 go_wp2_with fail;refine ZY (oF Tryz.results146 rfl (pX ((y.o.far (p:=⟨w2.heap.size,2,none⟩) D _).far (p:=⟨w2.heap.size,3,none⟩) D _) _ _ _ _)) rfl ⟨by rw[<-G.o];rfl,?_,?_⟩
 . exact(((((Z.o.far (p:=⟨w2.heap.size,2,none⟩) c _).far (p:=⟨w2.heap.size,3,none⟩) c _).far (p:=⟨w.heap.size,0,none⟩) a _).far (p:=⟨w.heap.size,1,none⟩) a _).far (p:=⟨w.heap.size,2,none⟩) a _).far (p:=⟨w.heap.size,3,none⟩) a _
 . exact(((((ab.o.after (by omega) 2 _).after (by omega) 3 _).after ai 0 _).after ai 1 _).after ai 2 _).after ai 3 _
theorem JK(b:Nat)(d:Dig)(r:M5)(w:MZ)(hk:Rdr w b (ax d++r))(hd:WfD d)(hl: (ax d++r).length<=1000000) :
  Calls Tryz.prog 147 #[.pointer (some ⟨b,0,none⟩)] w (RdE (aB d) b r w):=rJ b d r w hk hd hl
def RlE(t:TypeId)(sz:Nat)(xs:List M4)(n b:Nat)(r:M5)(w:MZ)(e:Ending)(w':MZ):Prop :=
 ∃A c,e= .returned (.slice A n c)/\n<=c/\c<=maxLen/\Apd w' w.heap.size t sz A n c xs/\Rdr w' b r/\Gb (fun g=>g=b) w w'
theorem Gb.onto{p:Nat->Prop}{a b c:MZ}(h:Gb p a b)(k:Below a.heap.size b c):Gb p a c:=⟨k.os.trans h.os,k.tape.trans h.tape,k.output.trans h.output,Z0 h.size k.size,fun i hi hp=>(k.block i hi).trans (h.block i hi hp)⟩
theorem pq{P:Program}{ops:Array Oper}{rest:List Oper}{o:Oper}{a:Act}{w:MZ}{Q:Exit->Act->MZ->Prop}(s x:Operand)(t:TypeId)(_:o.op= .call {callee:= .builtin .append,args:=#[s,x],argTypes:=#[t,t]})
  (h:Hid (wpList P ops Q (o::rest) a w)):wpList P ops Q (o::rest) a w:=h
theorem oL{α β:Type}{f:α->List β}{l:List α}{k:Nat}{x:α}(h:l[k]? =some x): (l.drop k).flatMap f=f x++ (l.drop (k+1)).flatMap f:=by
 have hk:=List.getElem?_eq_some_iff.1 h;have e:l.drop k=x::l.drop (k+1):=by rw[<-hk.2,List.getElem_cons_drop]
 rw[e,List.flatMap_cons]
theorem E8(b:Nat)(es:List Ent)(r:M5)(w:MZ)(hk:Rdr w b (aj es.length++ (es.flatMap aQ++r)))(hok:∀e∈es,gU e)(hn:es.length<=200)(hl: (aj es.length++ (es.flatMap aQ++r)).length<=1000000) :
  Calls Tryz.prog 145 #[.pointer (some ⟨b,0,none⟩),.int .i64 200,.func (.func 146) #[.pointer (some ⟨b,0,none⟩)] #[]] w (RlE 185 4 (flat enC es) es.length b r w):=by
 have t:=Bk.lt hk;obtain⟨n,d⟩:=NX9 es.length
 rw[d]at hk hl hn ⊢;have f:=ah d;have u: (es.flatMap aQ++r).length<=1000000:=by rw[ae]at hl;omega
 have F:=ah u;have G:=ah hok;have HN:=ah (jg b n (es.flatMap aQ++r) w hk (by omega) hl);obtain⟨i0,hi,v,y,z⟩:=info_parts u7;have Hi:=ah hi;have H:=ah v;have I:=ah y;have J:=ah z;clear hk hl u hok hi v y z d
 go_enter Tryz.func145,Tryz.ntmps145
 go_wp2_with fail;refine HN.o.mono ?_;rintro e w1 ⟨rfl,k,m⟩;have K:=ah k;obtain⟨x0,x1,f0,f1⟩:=Bk.two k;have z1:=m.size;obtain⟨W2,o⟩:=NX9 (w1.setCell ⟨b,1,none⟩ (.bool false))
 have L:Hid (Rdr W2 b (es.flatMap aQ++r)):=by
  rw[<-o];have:=K.o.set 1 (.bool false);show Bk _ _ _ _;simpa using this
 have M:Hid (Gb (fun g=>g=b) w W2):=by rw[<-o];exact m.trans (Gb.set (p:=fun g=>g=b) (x:=b) rfl 1 _)
 have X:decide ((200:Int)< (n:Int))=false:=by simp;omega
 clear k m HN;go_wp2_with fail;clear o x0 x1 f0 f1
 go_loopw[8,9] (fun l i wr=>∃(j:Nat)(Aj:OA)(cj:Nat),l= .slice Aj j cj/\i= .int .i64 (j:Int)/\j<=n/\j<=cj/\cj<=maxLen/\Hid (Apd wr w.heap.size 185 4 Aj j cj (flat enC (es.take j)))/\Hid (Rdr wr b ((es.drop j).flatMap aQ++r))/\Hid (Gb (fun g=>g=b) w wr)) (fun _ i _=>n - (intOf i).toNat)
 case atStart=>exact⟨0,none,0,rfl,rfl,ZZ _,Nat.le_refl _,ZZ _,.inr ⟨rfl,rfl,rfl⟩,L.o,M.o⟩
 case round =>
  obtain⟨j,Aj,cj,rfl,rfl,hj,N,O,hA,hR,hG⟩:=hrel;obtain⟨x0,x1,_,_⟩:=Bk.two hR.o;have zr:=hG.o.size;by_cases hlt:j<n
  . have P: (j:Int)< (n:Int):=by omega
    obtain⟨en,a⟩:∃en,es[j]? =some en:=⟨_,Z6 (by rw[f.o];exact hlt)⟩
    have HE:=ah a;have q:=hR.o;rw[oL a,Z4]at q;have A: (aQ en++ ((es.drop (j+1)).flatMap aQ++r)).length<=1000000:=by
     have h:=F.o;rw[<-List.take_append_drop j es,List.flatMap_append,oL a,Z4,Z4,ae]at h;omega
    have HC:=ah (F4 b en ((es.drop (j+1)).flatMap aQ++r) wr q (G.o en (Z7 a)) A);clear a q A
    go_wp2_with (first | (go_at_call 146;refine HC.o.mono ?_;rintro e w3 ⟨rfl,B,c⟩;simp only[qR]) | (at_builtin;refine pq (.tmp 36) (.tmp 39) 107 rfl ?_))
    refine aF ?_;have z3:=c.size;refine dB (base:=w.heap.size) (size:=4) _ rfl (.tmp 36) (.tmp 39) 107 rfl 185 i0 _ 40 Tryz.underlying107 Hi.o H.o I.o J.o rfl (by decide) Aj j cj (flat enC (es.take j)) rfl ?own_1 (w3.heap.size+1) _ 1 _ (enC en) rfl ?nw_1 (by simp[enC,Value.oneCell']) ?m1_1 ?m2_1 ?m3_1 ?_
    case own_1=>exact(hA.o.gb c t).below ((af _ w3).alloc ai _)
    case nw_1 =>
     have:=Sl.of_bk (n:=1) (size:=4) (Bk.new w3 185 #[.string en.nm,.bool en.dir,.int .u64 en.dg.1,.int .u64 en.dg.2]) rfl;rw[Z9]at this;exact this
    case m1_1=>unfold maxLen;omega
    case m2_1=>omega
    case m3_1=>simp;omega
    intro A4 c4 w4 C D Q R E;have S:Hid (Apd w4 w.heap.size 185 4 A4 (j+1) c4 (flat enC (es.take (j+1)))):=by
     show Apd _ _ _ _ _ _ _ _;rw[aS HE.o,bu]
     simpa [flat] using C
    have s:Below w.heap.size w3 w4:=((af w.heap.size w3).alloc (by omega) _).trans D;have T:Hid (Gb (fun g=>g=b) w w4):=(hG.o.trans c).onto s;have U:Hid (Rdr w4 b ((es.drop (j+1)).flatMap aQ++r)):=Bk.below B s t;clear C D E B c s HC x0 x1;go_wp2_with fail;go_roundw
    case rel=>exact⟨j+1,A4,c4,rfl,by go_num,hlt,Q,R,S.o,U.o,T.o⟩
    case measure=>simp[intOf];omega
  . have P:¬(j:Int)< (n:Int):=by omega
    have V:n=j:=by omega
    subst V;have HS:Hid (Apd wr w.heap.size 185 4 Aj n cj (flat enC es)):=by
     have:=hA.o;rw[ZW (by rw[f.o];exact Nat.le_refl _)]at this;exact this
    have W:Hid (Rdr wr b r):=by
     have:=hR.o;rw[List.drop_of_length_le (by rw[f.o];exact Nat.le_refl _)]at this;exact this
    go_wp2_with fail;go_ret
    exact⟨Aj,cj,rfl,N,O,HS.o,W.o,hG.o⟩
theorem Fs(b:Nat)(es:List Dig)(r:M5)(w:MZ)(hk:Rdr w b (aj es.length++ (es.flatMap ax++r)))(hok:∀e∈es,WfD e)(hn:es.length<=8)(hl: (aj es.length++ (es.flatMap ax++r)).length<=1000000) :
  Calls Tryz.prog 148 #[.pointer (some ⟨b,0,none⟩),.int .i64 8,.func (.func 147) #[.pointer (some ⟨b,0,none⟩)] #[]] w (RlE 50 2 (flat dgC es) es.length b r w):=by
 have t:=Bk.lt hk;obtain⟨n,d⟩:=NX9 es.length
 rw[d]at hk hl hn ⊢;have f:=ah d;have u: (es.flatMap ax++r).length<=1000000:=by rw[ae]at hl;omega
 have F:=ah u;have G:=ah hok;have HN:=ah (jg b n (es.flatMap ax++r) w hk (by omega) hl);obtain⟨i0,hi,v,y,z⟩:=info_parts jw;have Hi:=ah hi;have H:=ah v;have I:=ah y;have J:=ah z;clear hk hl u hok hi v y z d
 go_enter Tryz.func148,Tryz.ntmps148
 go_wp2_with fail;refine HN.o.mono ?_;rintro e w1 ⟨rfl,k,m⟩;have K:=ah k;obtain⟨x0,x1,f0,f1⟩:=Bk.two k;have z1:=m.size;obtain⟨W2,o⟩:=NX9 (w1.setCell ⟨b,1,none⟩ (.bool false))
 have L:Hid (Rdr W2 b (es.flatMap ax++r)):=by
  rw[<-o];have:=K.o.set 1 (.bool false);show Bk _ _ _ _;simpa using this
 have M:Hid (Gb (fun g=>g=b) w W2):=by rw[<-o];exact m.trans (Gb.set (p:=fun g=>g=b) (x:=b) rfl 1 _)
 have X:decide ((8:Int)< (n:Int))=false:=by simp;omega
 clear k m HN;go_wp2_with fail;clear o x0 x1 f0 f1
 go_loopw[8,9] (fun l i wr=>∃(j:Nat)(Aj:OA)(cj:Nat),l= .slice Aj j cj/\i= .int .i64 (j:Int)/\j<=n/\j<=cj/\cj<=maxLen/\Hid (Apd wr w.heap.size 50 2 Aj j cj (flat dgC (es.take j)))/\Hid (Rdr wr b ((es.drop j).flatMap ax++r))/\Hid (Gb (fun g=>g=b) w wr)) (fun _ i _=>n - (intOf i).toNat)
 case atStart=>exact⟨0,none,0,rfl,rfl,ZZ _,Nat.le_refl _,ZZ _,.inr ⟨rfl,rfl,rfl⟩,L.o,M.o⟩
 case round =>
  obtain⟨j,Aj,cj,rfl,rfl,hj,N,O,hA,hR,hG⟩:=hrel;obtain⟨x0,x1,_,_⟩:=Bk.two hR.o;have zr:=hG.o.size;by_cases hlt:j<n
  . have P: (j:Int)< (n:Int):=by omega
    obtain⟨en,a⟩:∃en,es[j]? =some en:=⟨_,Z6 (by rw[f.o];exact hlt)⟩
    have HE:=ah a;have q:=hR.o;rw[oL a,Z4]at q;have A: (ax en++ ((es.drop (j+1)).flatMap ax++r)).length<=1000000:=by
     have h:=F.o;rw[<-List.take_append_drop j es,List.flatMap_append,oL a,Z4,Z4,ae]at h;omega
    have HC:=ah (JK b en ((es.drop (j+1)).flatMap ax++r) wr q (G.o en (Z7 a)) A);clear a q A
    go_wp2_with (first | (go_at_call 147;refine HC.o.mono ?_;rintro e w3 ⟨rfl,B,c⟩;simp only[aB]) | (at_builtin;refine pq (.tmp 36) (.tmp 39) 47 rfl ?_))
    refine aF ?_;have z3:=c.size;refine dB (base:=w.heap.size) (size:=2) _ rfl (.tmp 36) (.tmp 39) 47 rfl 50 i0 _ 16 Tryz.underlying47 Hi.o H.o I.o J.o rfl (by decide) Aj j cj (flat dgC (es.take j)) rfl ?own_1 (w3.heap.size+1) _ 1 _ (dgC en) rfl ?nw_1 (by simp[dgC,Value.oneCell']) ?m1_1 ?m2_1 ?m3_1 ?_
    case own_1=>exact(hA.o.gb c t).below ((af _ w3).alloc ai _)
    case nw_1 =>
     have:=Sl.of_bk (n:=1) (size:=2) (Bk.new w3 50 #[.int .u64 en.1,.int .u64 en.2]) rfl;rw[Z9]at this;exact this
    case m1_1=>unfold maxLen;omega
    case m2_1=>omega
    case m3_1=>simp;omega
    intro A4 c4 w4 C D Q R E;have S:Hid (Apd w4 w.heap.size 50 2 A4 (j+1) c4 (flat dgC (es.take (j+1)))):=by
     show Apd _ _ _ _ _ _ _ _;rw[aS HE.o,bu]
     simpa [flat] using C
    have s:Below w.heap.size w3 w4:=((af w.heap.size w3).alloc (by omega) _).trans D;have T:Hid (Gb (fun g=>g=b) w w4):=(hG.o.trans c).onto s;have U:Hid (Rdr w4 b ((es.drop (j+1)).flatMap ax++r)):=Bk.below B s t;clear C D E B c s HC x0 x1;go_wp2_with fail;go_roundw
    case rel=>exact⟨j+1,A4,c4,rfl,by go_num,hlt,Q,R,S.o,U.o,T.o⟩
    case measure=>simp[intOf];omega
  . have P:¬(j:Int)< (n:Int):=by omega
    have V:n=j:=by omega
    subst V;have HS:Hid (Apd wr w.heap.size 50 2 Aj n cj (flat dgC es)):=by
     have:=hA.o;rw[ZW (by rw[f.o];exact Nat.le_refl _)]at this;exact this
    have W:Hid (Rdr wr b r):=by
     have:=hR.o;rw[List.drop_of_length_le (by rw[f.o];exact Nat.le_refl _)]at this;exact this
    go_wp2_with fail;go_ret
    exact⟨Aj,cj,rfl,N,O,HS.o,W.o,hG.o⟩
def bc(l:M5):List M4:=l.map fun b=>Value.int .u8 b.toNat
theorem gm(l:M5): (bc l).length=l.length:=by simp[bc]
theorem sK(l r:M5):bc (l++r)=bc l++bc r:=by simp[bc]
structure Txt(w:MZ)(base av:Nat)(A:OA)(n c:Nat)(bs:M5):Prop where
 len:bs.length=n
 le:n<=c
 max:c<=maxLen
 lies:0<c->∃b off,A=some ⟨b,off,none⟩/\ (base<=b/\b≠av)/\b<w.heap.size/\ (∀j,j<n->w.cell? ⟨b,off+j,none⟩= (bc bs)[j]?)/\ (∀j,j<c-> (w.cell? ⟨b,off+j,none⟩).isSome=true/\w.frozen? ⟨b,off+j,none⟩=false)
section
variable {w w' : MZ} {base av n c : Nat} {A : OA} {bs : M5}
theorem Txt.nil(w:MZ)(base av:Nat)(A:OA):Txt w base av A 0 0 []:=⟨rfl,Nat.le_refl _,ZZ _,fun h=>absurd h (by omega)⟩
theorem Txt.keep(h:Txt w base av A n c bs)(hs:w.heap.size<=w'.heap.size)(hk:∀k,k<w.heap.size->w'.heap[k]? =w.heap[k]?):Txt w' base av A n c bs :=
 ⟨h.len,h.le,h.max,fun h0=>by
   obtain⟨b,off,e,hb,hl,hc,hf⟩:=h.lies h0;have ec:∀o,w'.cell? ⟨b,o,none⟩=w.cell? ⟨b,o,none⟩:=fun o=>World.cell?_of_block (a:=⟨b,o,none⟩) (hk b hl);have ef:∀o,w'.frozen? ⟨b,o,none⟩=w.frozen? ⟨b,o,none⟩:=fun o=>World.frozen?_of_block (a:=⟨b,o,none⟩) (hk b hl);exact⟨b,off,e,hb,by omega,fun j hj=>(ec _).trans (hc j hj),fun j hj=>⟨by rw[ec];exact(hf j hj).1,(ef _).trans (hf j hj).2⟩⟩⟩
theorem Txt.below(h:Txt w base av A n c bs)(hb:Below w.heap.size w w'):Txt w' base av A n c bs:=h.keep hb.size fun k hk=>hb.block k hk
theorem Txt.avoid{av':Nat}(h:Txt w base av A n c bs)(ha:w.heap.size<=av'):Txt w base av' A n c bs :=
 ⟨h.len,h.le,h.max,fun h0=>by
   obtain⟨b,off,e,h1,h2,h3⟩:=h.lies h0;exact⟨b,off,e,⟨h1.1,by omega⟩,h2,h3⟩⟩
theorem wO{B b:Nat}(hb:B<=b):∀(vs:List M4)(o:Nat)(w:MZ),Below B w (w.setCells b o vs)
 | [],_,w=>af _ w
 | v::vs,o,w=>((af B w).setCell (p:=⟨b,o,none⟩) hb v).trans (wO hb vs (o+1) _)
theorem wQ(b:Nat):∀(vs:List M4)(o:Nat)(w:MZ),(w.setCells b o vs).heap.size=w.heap.size
 | [],_,_=>rfl
 | v::vs,o,w=>by
   show((w.setCell ⟨b,o,none⟩ v).setCells b (o+1) vs).heap.size=_;rw[wQ b vs];simp
theorem wL{b k:Nat}(hb:b≠k):∀(vs:List M4)(o:Nat)(w:MZ),(w.setCells b o vs).heap[k]? =w.heap[k]?
 | [],_,_=>rfl
 | v::vs,o,w=>(wL hb vs (o+1) _).trans (Z8 w ⟨b,o,none⟩ v k (fun e=>hb e.symm))
variable {P : Program}
theorem Txt.run_append(h:Txt w base av A n c bs)(t tx ty e:TypeId)(i:TypeInfo)(ht:P.underlying t=some (.slice e))(hi:P.info? e=some i)(hz:i.zero=some (.int .u8 0))(hsize:i.size=1)(hby:i.bytes=1)
  (x:M4) (m:Nat) (ys:M5) (hs:Src P 1 tx x m (bc ys) w) (hmax:n+m<=140737488355328) (hbase:base<=w.heap.size) (hav:av<w.heap.size) :
  ∃A' c' w',(Builtin.append_ #[t,tx] ty #[.slice A n c,x]).run P w= .ok (.slice A' (n+m) c') w'/\Txt w' base av A' (n+m) c' (bs++ys)/\Below base w w'/\w'.heap[av]? =w.heap[av]? :=by
 have l:=hs.newsLen;rw[gm,Nat.mul_one]at l;have o:Src P i.size tx x m (bc ys) w:=by rw[hsize];exact hs
 by_cases hfit:n+m<=c
 . rcases Nat.eq_zero_or_pos c with h0 | hc
   . subst h0
     obtain rfl:n=0:=by omega
     obtain rfl:m=0:=by omega
     obtain rfl:ys= []:=List.eq_nil_of_length_eq_zero l;exact⟨A,0,w,run_append_nothing (P:=P) w t tx ty e i ht hi A 0 0 ai x o,by simpa using h,af _ _,rfl⟩
   . obtain⟨b,a,rfl,hb,hl,f,d⟩:=h.lies hc
     have g:∀j,j< (bc ys).length-> (w.cell? ⟨b,a+n*i.size+j,none⟩).isSome=true:=fun j hj=>by
      rw[gm]at hj;rw[hsize,Nat.mul_one,Nat.add_assoc];exact(d (n+j) (by omega)).1
     have k:=run_append_room_src (P:=P) w t tx ty e i ht hi b a n c x m (bc ys) o hfit g (fun j hj=>by
      rw[gm]at hj;rw[hsize,Nat.mul_one,Nat.add_assoc];exact(d (n+j) (by omega)).2)
     refine⟨_,_,_,k,⟨by rw[ae,h.len];omega,hfit,h.max,fun _=>⟨b,a,rfl,hb,by rw[wQ];exact hl,fun j hj=>?_,fun j hj=>⟨?_,?_⟩⟩⟩,wO hb.1 _ _ _,wL hb.2 _ _ _⟩
     . by_cases hj':j<n
       . rw[World.cell?_setCells_out b _ _ _ _ (fun _ _=> .inl (by show a+j<a+n*i.size;rw[hsize];omega)),f j hj',sK,List.getElem?_append_left (by rw[gm,h.len];exact hj')]
       . have:=World.cell?_setCells_in b (bc ys) (a+n*i.size) w g (j - n) (by rw[gm];omega)
         rw[hsize,Nat.mul_one,show a+n+ (j - n)=a+j by omega]at this;rw[hsize,Nat.mul_one,this,sK,List.getElem?_append_right (by rw[gm,h.len];omega),show(bc bs).length=n by rw[gm,h.len]];exact(Z6 _).symm
     . by_cases hj':n<=j/\j<n+m
       . have:=World.cell?_setCells_in b (bc ys) (a+n*i.size) w g (j - n) (by rw[gm];omega)
         rw[hsize,Nat.mul_one,show a+n+ (j - n)=a+j by omega]at this;rw[hsize,Nat.mul_one,this];rfl
       . rw[World.cell?_setCells_out b _ _ _ _ (fun _ _=>by show a+j<a+n*i.size∨a+n*i.size+ (bc ys).length<=a+j;rw[hsize,gm];omega)]
         exact(d j hj).1
     . rw[World.frozen?_setCells];exact(d j hj).2
 . have p: (Builtin.firstCells i.size n (.slice A n c)).run P w.drew= .ok (bc bs).toArray w.drew:=by
     rw[hsize];rcases Nat.eq_zero_or_pos c with h0 | hc
     . subst h0
       obtain rfl:n=0:=by have:=h.le;omega
       obtain rfl:bs= []:=List.eq_nil_of_length_eq_zero h.len;cases A with
       | none=>exact run_firstCells_none w.drew 1 0 0 0
       | some a'=>exact run_firstCells_some w.drew 1 0 a' 0 0 [] (by simp) (by intro _ _ h';simp at h')
     . obtain⟨b,a,rfl,hb,hl,f,d⟩:=h.lies hc
       refine run_firstCells_some w.drew 1 n ⟨b,a,none⟩ n c (bc bs) (by rw[gm,h.len];omega) (fun j u hu=>?_);rw[Addr.add_lit];have hj:j<n:=by have:=(List.getElem?_eq_some_iff.1 hu).1;rwa[gm,h.len]at this
       exact(f j hj).trans hu
   have hg:c<n+m:=by omega
   have q:n+m<=maxLen:=by unfold maxLen;omega
   have k:=run_append_grow_src (P:=P) w t tx ty e i (.int .u8 0) ht hi hz A n c (bc bs) p x m (bc ys) o hg (by omega) (growslice_fits hg (by rw[hby];omega));have r:=grownCap_ge w (n+m) c e;have s:=grownCap_le_maxLen w (n+m) c e q;refine⟨_,_,_,k,⟨by rw[ae,h.len];omega,r,s,fun _=>⟨w.heap.size,0,rfl,⟨hbase,by omega⟩,?_,fun j hj=>?_,fun j hj=>⟨?_,?_⟩⟩⟩,((af base w).drew).alloc hbase _,Below.heap_alloc w.drew _ av hav⟩
   . have: (w.drew.alloc (.cells ((bc bs++bc ys).toArray++Builtin.zeroCells (Value.int .u8 0).cells (grownCap w (n+m) c e - (n+m))) e)).heap.size=w.heap.size+1:=Z9 _ _
     omega
   . have e1: (w.drew.alloc (.cells ((bc bs++bc ys).toArray++Builtin.zeroCells (Value.int .u8 0).cells (grownCap w (n+m) c e - (n+m))) e)).cell? ⟨w.heap.size,j,none⟩=_:=World.cell?_alloc_new w.drew _ _ j
     rw[Nat.zero_add,e1,Array.getElem?_append_left (by simp only[List.size_toArray,ae,gm,h.len];omega),List.getElem?_toArray,sK]
   . have e1: (w.drew.alloc (.cells ((bc bs++bc ys).toArray++Builtin.zeroCells (Value.int .u8 0).cells (grownCap w (n+m) c e - (n+m))) e)).cell? ⟨w.heap.size,j,none⟩=_:=World.cell?_alloc_new w.drew _ _ j
     rw[Nat.zero_add,e1];have v: ((bc bs++bc ys).toArray++Builtin.zeroCells (Value.int .u8 0).cells (grownCap w (n+m) c e - (n+m))).size=grownCap w (n+m) c e:=by
      rw[Array.size_append,List.size_toArray,ae,gm,gm,h.len,l,size_zeroCells];show n+m+ (grownCap w (n+m) c e - (n+m))*1=_;omega
     rw[Array.getElem?_eq_getElem (by rw[v];exact hj)];rfl
   . rw[Nat.zero_add];exact World.frozen?_alloc_new w.drew _ _ j
theorem nR{ops:Array Oper}{rest:List Oper}{o:Oper}{a:Act}{Q:Exit->Act->MZ->Prop}(hgd:o.guard=none)(s x:Operand)(t tx:TypeId)
  (ho:o.op= .call {callee:= .builtin .append,args:=#[s,x],argTypes:=#[t,tx]})
  (e:TypeId) (i:TypeInfo) (ht:P.underlying t=some (.slice e)) (hi:P.info? e=some i) (hz:i.zero=some (.int .u8 0)) (hsize:i.size=1) (hby:i.bytes=1)
  (A:OA) (n c:Nat) (bs:M5) (hv:a.eval s= .slice A n c) (h:Txt w base av A n c bs)
  (xv:M4) (m:Nat) (ys:M5) (hx:a.eval x=xv) (hs:Src P 1 tx xv m (bc ys) w) (hmax:n+m<=140737488355328) (hbase:base<=w.heap.size) (hav:av<w.heap.size)
  (hK:∀A' c' w',Txt w' base av A' (n+m) c' (bs++ys)->Below base w w'->w'.heap[av]? =w.heap[av]? ->wpList P ops Q rest (a.put o.dst (.slice A' (n+m) c')) w'):wpList P ops Q (o::rest) a w:=by
 refine wpList_plain hgd fun K hK'=>?_;obtain⟨A',c',w',b,h1,h2,h3⟩:=h.run_append (P:=P) t tx o.type e i ht hi hz hsize hby xv m ys hs hmax hbase hav;unfold Oper.wp;simp[execOp,ho,resolve,invoke,builtin,hv,hx,b,Result.andThen];exact hK' _ _ (hK A' c' w' h1 h2 h3)
theorem Jv(src dst e:TypeId)(s:M3)(hs:P.underlying src=some .string)(hd:P.underlying dst=some (.slice e))(he:P.underlying e=some (.int .u8))(hz:s.size<=maxLen)(w:MZ) :
  ∃A c w',(convert src dst (.string s)).run P w= .ok (.slice A s.size c) w'/\Txt w' w.heap.size (w.heap.size+1) A s.size c (toL s)/\Below w.heap.size w w':=by
 refine⟨_,_,_,Lib.run_convert_string_bytes (P:=P) w src dst e s hs hd he,⟨(aP s).symm,grownCap_ge w s.size 0 e,grownCap_le_maxLen w s.size 0 e hz,fun _=>⟨w.heap.size,0,rfl,⟨Nat.le_refl _,by omega⟩,by rw[Lib.bytesWorld_size];omega,fun j hj=>?_,fun j hj=>⟨?_,?_⟩⟩⟩,?_⟩
 . rw[Nat.zero_add,Lib.bytesWorld_cell w e s j hj]
   have b:j<s.data.toList.length:=by rw[aP]at hj;exact hj
   simp[bc,toL,List.getD,Z6 b]
 . have a: (Lib.bytesCells w e s).size=grownCap w s.size 0 e:=by
     have:=grownCap_ge w s.size 0 e;rw[Lib.bytesCells,Array.size_append,Array.size_map,Array.size_replicate];show s.size+_=_;omega
   rw[Nat.zero_add];simp[World.cell?,Lib.bytesWorld_at_new,a,hj]
 . have a: (Lib.bytesCells w e s).size=grownCap w s.size 0 e:=by
     have:=grownCap_ge w s.size 0 e;rw[Lib.bytesCells,Array.size_append,Array.size_map,Array.size_replicate];show s.size+_=_;omega
   rw[Nat.zero_add];simp[World.frozen?,Lib.bytesWorld_at_new,a];omega
 . exact⟨rfl,rfl,rfl,by rw[Lib.bytesWorld_size];omega,fun k hk=>Lib.bytesWorld_at_old w e s k hk⟩
theorem Txt.run_string(h:Txt w base av A n c bs)(src dst e:TypeId)(hs:P.underlying src=some (.slice e))(he:P.underlying e=some (.int .u8))(hd:P.underlying dst=some .string) :
  (convert src dst (.slice A n c)).run P w= .ok (.string (ofL bs)) w:=by
 rcases Nat.eq_zero_or_pos c with h0 | hc
 . subst h0
   obtain rfl:n=0:=by have:=h.le;omega
   obtain rfl:bs= []:=List.eq_nil_of_length_eq_zero h.len;cases A with
   | none=>exact run_convert_bytes_nil w src e hs he 0 0 dst hd
   | some a=>exact run_convert_bytes_back w src dst e a 0 [] hs he hd (fun j hj=>by simp at hj)
 . obtain⟨b,f,rfl,_,_,d,_⟩:=h.lies hc
   have:=run_convert_bytes_back (P:=P) w src dst e ⟨b,f,none⟩ c bs hs he hd (fun j hj=>by
    rw[Addr.add_lit,d j (by rw[<-h.len];exact hj)];simp[bc,Z6 hj])
   rw[h.len]at this;exact this
end
section
open Go.Maps
def pG(l:List M3):M3->Option M4:=fun s=>if fV l s then some (.bool true) else none
theorem LA:pG []=fun _=>none:=by funext s;simp[pG,fV]
theorem Bo(l:List M3)(x:M3):pG (l++ [x])=upd (pG l) x (.bool true):=by
 funext t
 unfold pG upd fV;by_cases e:t=x
 . subst e;simp
 . have h: ((l++ [x]).any fun y=>decide (y=t))=l.any fun y=>decide (y=t):=by
     rw[List.any_append];simp[Ne.symm e]
   rw[h,if_neg e]
theorem Ld(l:List M3)(x:M3): (pG l x).getD (.bool false)= .bool (fV l x):=by unfold pG;cases fV l x <;> rfl
theorem Apd.grown{w w':MZ}{base size n c:Nat}{e:TypeId}{A:OA}{xs:List M4}{row:Option Nat}(h:Apd w base e size A n c xs)(hg:w.grownBy w' row)(hr:∀k,row=some k->k<base):Apd w' base e size A n c xs:=by
 rcases h with h | h
 . refine .inl (h.kept hg ?_)
   cases hv: (Value.slice A n c).ownBlock with
   | none=>exact .inl rfl
   | some k=>exact .inr fun e=>by have h1:=iy h k hv;have h2:=hr k e.symm;omega
 . exact .inr h
end
theorem pR(s:M3)(w:MZ):Src Tryz.prog 1 9 (.string s) s.size (bc (toL s)) w:=Src.ofString (P:=Tryz.prog) w Tryz.underlying9 s
theorem kW: (Tryz.prog.info? 5).map (fun i=>(i.zero,i.size,i.bytes))=some (some (.int .u8 0),1,1):=by kernel_rfl
theorem Txt.far{w:MZ}{base av n c:Nat}{A:OA}{bs:M5}(h:Txt w base av A n c bs){p:Addr}(hp:p.block=av)(u:M4):Txt (w.setCell p u) base av A n c bs :=
 ⟨h.len,h.le,h.max,fun h0=>by
   obtain⟨b,off,e,h1,h2,h3,h4⟩:=h.lies h0;have hb: (w.setCell p u).heap[b]? =w.heap[b]? :=Z8 w p u b (by rw[hp];exact h1.2);have ec:∀o,(w.setCell p u).cell? ⟨b,o,none⟩=w.cell? ⟨b,o,none⟩:=fun o=>World.cell?_of_block (a:=⟨b,o,none⟩) hb;have ef:∀o,(w.setCell p u).frozen? ⟨b,o,none⟩=w.frozen? ⟨b,o,none⟩:=fun o=>World.frozen?_of_block (a:=⟨b,o,none⟩) hb;exact⟨b,off,e,h1,by simpa using h2,fun j hj=>(ec _).trans (h3 j hj),fun j hj=>⟨by rw[ec];exact(h4 j hj).1,(ef _).trans (h4 j hj).2⟩⟩⟩
theorem pE{P:Program}{ops:Array Oper}{rest:List Oper}{o:Oper}{a:Act}{w:MZ}{Q:Exit->Act->MZ->Prop}(s x:Operand)(t tx:TypeId)(_:o.op= .call {callee:= .builtin .append,args:=#[s,x],argTypes:=#[t,tx]})
  (h:Hid (wpList P ops Q (o::rest) a w)):wpList P ops Q (o::rest) a w:=h
structure Wrt(w:MZ)(b base:Nat)(bs:M5):Prop where
 ex:∃A c,Bk w b 283 #[.slice A bs.length c,.bool false]/\Txt w base b A bs.length c bs
 lt:b<base
 le:base<=w.heap.size
theorem Wrt.below{w w':MZ}{b base:Nat}{bs:M5}(h:Wrt w b base bs)(hb:Below w.heap.size w w'):Wrt w' b base bs:=by
 obtain⟨A,c,h1,h2⟩:=h.ex;exact⟨⟨A,c,h1.below hb h1.lt,h2.below hb⟩,h.lt,Z0 h.le hb.size⟩
def vG(b base:Nat)(bs:M5)(w:MZ)(e:Ending)(w':MZ):Prop:=e= .returned (.tuple #[])/\Wrt w' b base bs/\Below b w w'/\w.heap.size<=w'.heap.size
theorem jf(b base k:Nat)(bs:M5)(w:MZ)(h:Wrt w b base bs)(hk:k<=1099511627776)(hn:bs.length<=1000000) :
  Calls Tryz.prog 205 #[.pointer (some ⟨b,0,none⟩),.int .i64 k] w (vG b base (bs++aj k) w):=by
 have HP:=ah (l8 k hk w);have H:=ah h;have G:=eu 5 k (by omega);obtain⟨i0,hi,m,g,n⟩:=info_parts kW;have Hi:=ah hi;have t:=ah m;have u:=ah g;have v:=ah n;clear h hi m g n
 go_enter Tryz.func205,Tryz.ntmps205
 go_wp2_with (go_at_call 107;refine HP.o.mono ?_;rintro e w1 ⟨rfl,a⟩;refine aN ?_)
 refine aF ?_;have H1:=H.o.below a;obtain⟨A,c,o,q⟩:=H1.ex;have x:=H1.lt;have y:=H1.le;have z:Hid (Below b w w1):=a.mono (by have:=H.o.lt;have:=H.o.le;omega);have g:=a.size;have d:=ah o;have B:=ah q;have c0:=d.o.cell 0;have c1:=d.o.cell 1;have f1:=d.o.free 1;simp at c0 c1;clear a H1 o q;obtain⟨W2,f⟩:=NX9 (w1.setCell ⟨b,1,none⟩ (.bool false))
 have i:Hid (Bk W2 b 283 #[.slice A bs.length c,.bool false]):=by
  rw[<-f];have:=d.o.set 1 (.bool false);show Bk _ _ _ _;simpa using this
 have C:Hid (Txt W2 base b A bs.length c bs):=by rw[<-f];exact B.o.far rfl _
 have D:Hid (Below b w W2):=by rw[<-f];exact z.o.setCell (p:=⟨b,1,none⟩) ai _
 have I:W2.heap.size=w1.heap.size:=by rw[<-f];simp
 have d0:=i.o.cell 0;have g0:=i.o.free 0;simp at d0
 go_wp2_with (at_builtin;refine pE (.tmp 26) (.tmp 27) 213 9 rfl ?_)
 refine aF ?_;refine nR (base:=base) (av:=b) rfl (.tmp 26) (.tmp 27) 213 9 rfl 5 i0 Tryz.underlying213 Hi.o t.o u.o v.o A bs.length c bs rfl C.o (.string (ofL (aj k))) (aj k).length (aj k) rfl (pR (ofL (aj k)) _) (by omega) (by omega) (by omega) ?_;intro A' c' w3 r j s;have l:Hid (Bk w3 b 283 #[.slice A bs.length c,.bool false]):=s.trans i.o;have E:=ah r;have F:Hid (Below b w w3):=D.o.trans (j.mono (by omega));have J:=j.size;have e0:=l.o.cell 0;have e1:=l.o.free 0;simp at e0;clear r j s d0 g0 c0 c1 f1;go_wp2_with fail
 go_end0
 have hl: (bs++aj k).length=bs.length+ (aj k).length:=by simp
 refine⟨rfl,⟨⟨A',c',?_,?_⟩,x,by simp;omega⟩,F.o.setCell (p:=⟨b,0,none⟩) ai _,by simp;omega⟩
 . rw[hl];have:=l.o.set 0 (.slice A' (bs.length+ (aj k).length) c');show Bk _ _ _ _;simpa using this
 . rw[hl];exact E.o.far rfl _
theorem lV(b base:Nat)(s:M3)(bs:M5)(w:MZ)(h:Wrt w b base bs)(hk:s.size<=65536)(hn:bs.length<=1000000) :
  Calls Tryz.prog 206 #[.pointer (some ⟨b,0,none⟩),.string s] w (vG b base (bs++ak (toL s)) w):=by
 have HP:=ah (rE s hk w);have H:=ah h;have G: (ak (toL s)).length<=70000:=by
  have h1:=eu 5 s.size (by omega);have h2:=aP s;unfold ak;rw[ae,<-h2];omega
 obtain⟨i0,hi,l,g,m⟩:=info_parts kW;have Hi:=ah hi;have t:=ah l;have u:=ah g;have v:=ah m;clear h hi l g m
 go_enter Tryz.func206,Tryz.ntmps206
 go_wp2_with (go_at_call 178;refine HP.o.mono ?_;rintro e w1 ⟨rfl,a⟩;refine aN ?_)
 refine aF ?_;have H1:=H.o.below a;obtain⟨A,c,n,o⟩:=H1.ex;have x:=H1.lt;have y:=H1.le;have z:Hid (Below b w w1):=a.mono (by have:=H.o.lt;have:=H.o.le;omega);have g:=a.size;have d:=ah n;have B:=ah o;have c0:=d.o.cell 0;have c1:=d.o.cell 1;have f1:=d.o.free 1;simp at c0 c1;clear a H1 n o;obtain⟨W2,f⟩:=NX9 (w1.setCell ⟨b,1,none⟩ (.bool false))
 have i:Hid (Bk W2 b 283 #[.slice A bs.length c,.bool false]):=by
  rw[<-f];have:=d.o.set 1 (.bool false);show Bk _ _ _ _;simpa using this
 have C:Hid (Txt W2 base b A bs.length c bs):=by rw[<-f];exact B.o.far rfl _
 have D:Hid (Below b w W2):=by rw[<-f];exact z.o.setCell (p:=⟨b,1,none⟩) ai _
 have I:W2.heap.size=w1.heap.size:=by rw[<-f];simp
 have d0:=i.o.cell 0;have g0:=i.o.free 0;simp at d0
 go_wp2_with (at_builtin;refine pE (.tmp 25) (.tmp 26) 213 9 rfl ?_)
 refine aF ?_;refine nR (base:=base) (av:=b) rfl (.tmp 25) (.tmp 26) 213 9 rfl 5 i0 Tryz.underlying213 Hi.o t.o u.o v.o A bs.length c bs rfl C.o (.string (ofL (ak (toL s)))) (ak (toL s)).length (ak (toL s)) rfl (pR (ofL (ak (toL s))) _) (by omega) (by omega) (by omega) ?_;intro A' c' w3 q j r;have k:Hid (Bk w3 b 283 #[.slice A bs.length c,.bool false]):=r.trans i.o;have E:=ah q;have F:Hid (Below b w w3):=D.o.trans (j.mono (by omega));have J:=j.size;have e0:=k.o.cell 0;have e1:=k.o.free 0;simp at e0;clear q j r d0 g0 c0 c1 f1;go_wp2_with fail
 go_end0
 have hl: (bs++ak (toL s)).length=bs.length+ (ak (toL s)).length:=by simp
 refine⟨rfl,⟨⟨A',c',?_,?_⟩,x,by simp;omega⟩,F.o.setCell (p:=⟨b,0,none⟩) ai _,by simp;omega⟩
 . rw[hl];have:=k.o.set 0 (.slice A' (bs.length+ (ak (toL s)).length) c');show Bk _ _ _ _;simpa using this
 . rw[hl];exact E.o.far rfl _
@[go_sem] theorem MI : Tryz.prog.eqGuardType Tryz.prog.depth 50 = false := by kernel_rfl
theorem LX(dd:Nat)(a b c d:Int)(w:MZ): (Op.equalIn (dd+2) 50 (.agg #[.int .u64 a,.int .u64 b]) (.agg #[.int .u64 c,.int .u64 d])).run Tryz.prog w= .ok (a == c && b == d) w:=by
 have u3:=Tryz.underlying48;have a3:=Tryz.isAgg48;have z3:=Tryz.sizeOf48;rw[Op.equalIn];simp only[Sem.run_bind,run_underlying Tryz.underlying50,Result.andThen_ok];simp only[Std.Legacy.Range.forIn_eq_forIn_range',Std.Legacy.Range.size,Nat.sub_zero,Nat.add_sub_cancel,Nat.div_one,List.range'_succ,List.range'_zero,List.forIn_cons,List.forIn_nil]
 go_simp
 by_cases h1:a=c <;> by_cases h2:b=d <;> simp[h1,h2]
@[go_sem high] theorem MP (a b c d : Int) (w : MZ) : (Op.equalIn 10000 50 (.agg #[.int .u64 a, .int .u64 b]) (.agg #[.int .u64 c, .int .u64 d])).run Tryz.prog w = .ok (a == c && b == d) w := LX 9998 a b c d w
def gp(d:M3):Array M4:=#[.int .i64 1,.string d,.slice none 0 0,.int .u64 0,.int .u64 0,.slice none 0 0,.string ⟨#[]⟩,.int .i64 0,.string ⟨#[]⟩]
theorem Gc{w:MZ}{a:Array M4}{b:Nat}{d:M3}(ha:a[2]?.getD undef= .pointer (some ⟨b,0,none⟩))(h:Bk w b 109 (gp d)): (results Tryz.f197 a).run Tryz.prog w= .ok (.agg (gp d)) w:=by
 have c0:=h.cell 0;have c1:=h.cell 1;have c2:=h.cell 2;have c3:=h.cell 3;have c4:=h.cell 4;have c5:=h.cell 5;have c6:=h.cell 6;have c7:=h.cell 7;have c8:=h.cell 8;simp[gp]at c0 c1 c2 c3 c4 c5 c6 c7 c8;simp[results,Tryz.results197,ha,go_sem,gp,c0,c1,c2,c3,c4,c5,c6,c7,c8]
theorem AQ(d:M3)(w:MZ):Calls Tryz.prog 197 #[.string d] w fun e w'=>e= .returned (.agg (gp d))/\Below w.heap.size w w':=by
 go_enter Tryz.func197,Tryz.ntmps197
 go_wp2
 have hk:Bk (w.alloc (.cells (gp d) 109)) w.heap.size 109 (gp d):=Bk.new w _ _;exact ZY (Gc rfl hk) rfl ⟨rfl,(af _ w).alloc ai _⟩
theorem EL(d:M3)(w:MZ):Calls Tryz.prog 204 #[.agg (gp d)] w fun e w'=>e= .returned (.int .i64 0)/\Below w.heap.size w w':=by
 unfold gp
 go_enter Tryz.func204,Tryz.ntmps204
 go_wp2
 all_goals (go_ret;exact⟨rfl,(af _ w).alloc ai _⟩)
theorem Jh(d:M3)(w:MZ)(hd:d.size<=60000):Calls Tryz.prog 125 #[.agg (gp d)] w fun e w'=>e= .returned (.tuple #[.string (ofL (aj 1++ak (toL d))),.int .i64 0])/\Below w.heap.size w w':=by
 have s:=aP d;have G: (ak (toL d)).length<=60006:=by
  have h1:=eu 5 d.size (by omega);unfold ak;rw[ae,<-s];omega
 have k: (aj 1).length=1:=by rw[dM (by omega)];rfl
 have HC:=fun w=>ah (EL d w);unfold gp at HC ⊢;obtain⟨W0,b⟩:=NX9 (w.alloc (.cells #[.int .i64 1,.string d,.slice none 0 0,.int .u64 0,.int .u64 0,.slice none 0 0,.string ⟨#[]⟩,.int .i64 0,.string ⟨#[]⟩] 109))
 have t:Hid (Below w.heap.size w W0):=by rw[<-b];exact(af _ w).alloc ai _
 have a:Hid (Bk W0 w.heap.size 109 #[.int .i64 1,.string d,.slice none 0 0,.int .u64 0,.int .u64 0,.slice none 0 0,.string ⟨#[]⟩,.int .i64 0,.string ⟨#[]⟩]):=by rw[<-b];exact Bk.new w _ _
 have H:W0.heap.size=w.heap.size+1:=by rw[<-b];simp
 have l:=HC W0;have c0:=a.o.cell 0;have c1:=a.o.cell 1;have c2:=a.o.cell 2;have c3:=a.o.cell 3;have c4:=a.o.cell 4;have c5:=a.o.cell 5;have c6:=a.o.cell 6;have c7:=a.o.cell 7;have c8:=a.o.cell 8;simp at c0 c1 c2 c3 c4 c5 c6 c7 c8;clear HC
 go_enter Tryz.func125,Tryz.ntmps125
 go_wp2_with fail;refine l.o.mono ?_;rintro e w1 ⟨rfl,c⟩;have u:Hid (Below w.heap.size w w1):=t.o.trans (c.mono (by omega));have v:=ah (a.o.below c (by omega));have I:=c.size;clear c b c0 c1 c2 c3 c4 c5 c6 c7 c8 l;obtain⟨W2,f⟩:=NX9 (w1.alloc (.cells #[.slice none 0 0,.bool false] 283))
 have J:W2.heap.size=w1.heap.size+1:=by rw[<-f];simp
 have m:Hid (Below w1.heap.size w1 W2):=by rw[<-f];exact(af _ w1).alloc ai _
 have x:Hid (Wrt W2 w1.heap.size (w1.heap.size+1) []):=⟨⟨none,0,by rw[<-f];exact Bk.new w1 _ _,Txt.nil _ _ _ _⟩,by omega,by omega⟩
 have n:=ah (v.o.below m.o (by omega));have HN:=ah (jf w1.heap.size (w1.heap.size+1) 1 [] W2 x.o (by omega) (by simp));have c0:=n.o.cell 0;simp at c0
 go_wp2_with (go_at_call 205;refine HN.o.mono ?_;rintro e w3 ⟨rfl,o,h,K⟩;refine aN ?_)
 refine aF ?_;have y:=ah o;have z:Hid (Below w1.heap.size w1 w3):=m.o.trans h;have p:=ah (n.o.below h (by omega));clear o h f c0 HN;have HS:=ah (lV w1.heap.size (w1.heap.size+1) d (([]:M5)++aj 1) w3 y.o (by omega) (by simp[k]));have c0:=p.o.cell 0;have c1:=p.o.cell 1;simp at c0 c1
 go_wp2_with (go_at_call 206;refine HS.o.mono ?_;rintro e w4 ⟨rfl,q,r,L⟩;refine aN ?_)
 refine aF ?_;obtain⟨A,cc,g,i⟩:=q.ex;rw[List.nil_append]at g i;have B: (aj 1++ak (toL d)).length<=60007:=by rw[ae,k];omega
 have C:¬(65536:Int)< ((aj 1++ak (toL d)).length:Int):=by omega
 have D:Hid (Below w1.heap.size w1 w4):=z.o.trans r;have d0:=g.cell 0;have d1:=g.cell 1;simp only[List.getElem?_toArray,List.getElem?_cons_zero,List.getElem?_cons_succ]at d0 d1;have E:=i.run_string (P:=Tryz.prog) 213 9 5 Tryz.underlying213 Tryz.underlying5 Tryz.underlying9;obtain⟨bs,j⟩:=NX9 (aj 1++ak (toL d))
 rw[j]at d0 E C;have F:=ah j;clear q r g i c0 c1 HS B j;go_wp2_with fail;go_ret2
 refine⟨by rw[F.o];rfl,u.o.trans (D.o.mono (by omega))⟩
theorem EW(d:M3)(w:MZ)(hd:d.size<=60000):Calls Tryz.prog 113 #[.agg (gp d)] w fun e w'=>e= .returned (.int .i64 0)/\Below w.heap.size w w':=by
 have HE:=fun w=>ah (Jh d w hd);unfold gp at HE ⊢;have a:Hid (Below w.heap.size w (w.alloc (.cells #[.int .i64 1,.string d,.slice none 0 0,.int .u64 0,.int .u64 0,.slice none 0 0,.string ⟨#[]⟩,.int .i64 0,.string ⟨#[]⟩] 109))):=(af _ w).alloc ai _;have b:=HE (w.alloc (.cells #[.int .i64 1,.string d,.slice none 0 0,.int .u64 0,.int .u64 0,.slice none 0 0,.string ⟨#[]⟩,.int .i64 0,.string ⟨#[]⟩] 109));clear HE
 go_enter Tryz.func113,Tryz.ntmps113
 go_wp2_with (go_at_call 125;refine b.o.mono ?_;rintro e w1 ⟨rfl,hb1⟩)
 go_ret
 exact⟨rfl,a.o.trans (hb1.mono (by simp))⟩
def lK(S:List (Nat× (M4->MZ->Prop)))(vals:List M4)(i:Nat)(v:M4)(W:MZ):Prop :=
 match S.lookup i with
 | some p=>p v W
 | none=>lJ vals i v W
theorem yw{β:Type _}:∀{S:List (Nat×β)}{i:Nat}{p:β},S.lookup i=some p->∃x∈S,x.2=p
 | [],i,p,h=>by cases h
 | (j,q)::S,i,p,h=>by
   rw[List.lookup_cons]at h;cases e:i == j with
   | true=>rw[e]at h;cases h;exact⟨_,List.mem_cons_self,rfl⟩
   | false =>
     rw[e]at h;obtain⟨x,hx,e⟩:=yw h;exact⟨x,List.mem_cons_of_mem _ hx,e⟩
theorem sH{S:List (Nat× (M4->MZ->Prop))}{vals:List M4}(hS:∀x∈S,∀v W W',x.2 v W->Below W.heap.size W W'->x.2 v W')(i:Nat)(v:M4)(W W':MZ)(h:lK S vals i v W)(hb:Below W.heap.size W W'):lK S vals i v W':=by
 unfold lK at h ⊢;cases e:S.lookup i with
 | none=>rw[e]at h;exact h
 | some p =>
   rw[e]at h;obtain⟨x,hx,rfl⟩:=yw e;exact hS x hx v W W' h hb
