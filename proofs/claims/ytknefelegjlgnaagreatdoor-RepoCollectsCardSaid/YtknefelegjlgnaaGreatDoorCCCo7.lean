/-
  Lemmas of the card.
-/
import Derived.Deep.Upon
import Derived.Test.YtknefelegjlgnaaGreatDoorCCCo6
set_option maxRecDepth 100000
set_option maxHeartbeats 2000000
namespace Go.Proofs.YtknefelegjlgnaaGreatDoor
open Go.RowKit
def enC(e:Ent):List Tc:= [.string e.nm,.bool e.dir,.int .u64 e.dg.1,.int .u64 e.dg.2]
def uI(e:Ent):Tc:= .agg #[.string e.nm,.bool e.dir,.int .u64 e.dg.1,.int .u64 e.dg.2]
def dgC(d:Dig):List Tc:= [.int .u64 d.1,.int .u64 d.2]
theorem tK(e:Ent): (enC e).length=4:=rfl
theorem ik(d:Dig): (dgC d).length=2:=rfl
theorem yC: (Tryz.prog.info? 185).map (fun i=>(i.zero,i.size,i.bytes))=some (some (.agg #[.string ⟨#[]⟩,.bool false,.int .u64 0,.int .u64 0]),4,40):=by kernel_rfl
theorem jS: (Tryz.prog.info? 50).map (fun i=>(i.zero,i.size,i.bytes))=some (some (.agg #[.int .u64 0,.int .u64 0]),2,16):=by kernel_rfl
theorem rX{fn:Func}{c:Tmp}(h:fn.results= #[.cell c 185]){w:SX}{a:Array Tc}{b:Nat}{x y z u:Tc}(ha:a[c]?.getD undef= .pointer (some ⟨b,0,none⟩))(hk:Bk w b 185 #[x,y,z,u]) :
  (results fn a).run Tryz.prog w= .ok (.agg #[x,y,z,u]) w:=by
 have h0:=hk.cell 0;have h1:=hk.cell 1;have h2:=hk.cell 2;have h3:=hk.cell 3;simp at h0 h1 h2 h3;simp[results,h,ha,go_sem,h0,h1,h2,h3]
theorem Bk.four{w:SX}{b:Nat}{t:TypeId}{x y z u:Tc}(h:Bk w b t #[x,y,z,u]):w.cell? ⟨b,0,none⟩=some x/\w.cell? ⟨b,1,none⟩=some y/\w.cell? ⟨b,2,none⟩=some z/\w.cell? ⟨b,3,none⟩=some u:=by
 have h0:=h.cell 0;have h1:=h.cell 1;have h2:=h.cell 2;have h3:=h.cell 3;simp at h0 h1 h2 h3;exact⟨h0,h1,h2,h3⟩
theorem tX{w:SX}{b:Nat}{t:TypeId}{x y z u:Tc}(h:Bk w b t #[x,y,z,u])(x' y' z' u':Tc):Bk ((((w.setCell ⟨b,0,none⟩ x').setCell ⟨b,1,none⟩ y').setCell ⟨b,2,none⟩ z').setCell ⟨b,3,none⟩ u') b t #[x',y',z',u']:=by
 have:=(((h.set 0 x').set 1 y').set 2 z').set 3 u'
 simpa using this
theorem Apd.gb{w w':SX}{base size n c b:Nat}{e:TypeId}{A:OA}{xs:List Tc}(h:Apd w base e size A n c xs)(hg:Gb (fun g=>g=b) w w')(hb:b<base):Apd w' base e size A n c xs:=by
 rcases h with h | h
 . refine .inl (h.kept (row:=some b) ⟨hg.os,hg.tape,hg.output,hg.size,fun k hk hn=>hg.block k hk (fun e=>hn (by rw[e]))⟩ ?_)
   cases hv: (Value.slice A n c).ownBlock with
   | none=>exact .inl rfl
   | some k =>
     have:=(h.lt k hv).1;exact .inr (fun e=>by cases e;omega)
 . exact .inr h
theorem JV(b:Nat)(en:Ent)(r:Td)(w:SX)(hk:Rdr w b (aU en++r))(hok:jc en)(hl: (aU en++r).length<=1000000) :
  Calls Tryz.prog 146 #[.pointer (some ⟨b,0,none⟩)] w (RdE (uI en) b r w):=by
 have hns:=iW hok.nm;have hbw:=Bk.lt hk;obtain⟨nm,dir,dg⟩:=en;obtain⟨d1,d2⟩:=dg;obtain⟨k,hkd⟩:=NX9 ((if dir=true then 1 else 0:Nat))
 have hk1:k<=1:=by rw[<-hkd];split <;> omega
 have HDR:Hid (dir=decide (k=1)):=by show _=_;rw[<-hkd];cases dir <;> rfl
 unfold aU at hk hl;simp only[hkd,ZZ]at hk hl;have l:Hid (WfD (d1,d2)):=hok.dg;simp only at hns;have hl2: (ak k++ (ay (d1,d2)++r)).length<=1000000:=by rw[af]at hl;omega
 have hl3: (ay (d1,d2)++r).length<=1000000:=by rw[af]at hl2;omega
 have HL2:=ai hl2;have m:=ai hl3;obtain⟨W1,hW1⟩:=NX9 (w.alloc (.cells #[.string ⟨#[]⟩,.bool false,.int .u64 0,.int .u64 0] 185))
 have HZ1:Hid (Bk W1 w.heap.size 185 #[.string ⟨#[]⟩,.bool false,.int .u64 0,.int .u64 0]):=by rw[<-hW1];exact Bk.new w _ _
 have hb1:Tf w W1:=by rw[<-hW1];exact(ah _ w).alloc aj _
 have C:W1.heap.size=w.heap.size+1:=by rw[<-hW1];simp
 have n:Hid (Gb (fun g=>g=b) w W1):=Gb.of_below hb1;have HS:=ai (nY b nm (ak k++ (ay (d1,d2)++r)) W1 (Bk.below hk hb1 hbw) (by omega) hl);clear hk hl hl2 hl3 hok hkd hb1
 go_enter Tryz.func146,Tryz.ntmps146
 go_wp2_with fail;refine HS.o.mono ?_;rintro e w2 ⟨rfl,hr2,hg2⟩;have HR2:=ai hr2;have z2:=hg2.size;have HG2:Hid (Gb (fun g=>g=b) w w2):=n.o.trans hg2;have HZ2:=ai (hg2.bk HZ1.o (by show ¬w.heap.size=b;omega));clear hr2 hg2 hW1 HS;obtain⟨W3,hW3⟩:=NX9 (w2.alloc (.cells #[.string nm,.bool false,.int .u64 0,.int .u64 0] 185))
 have o:Hid (Bk W3 w2.heap.size 185 #[.string nm,.bool false,.int .u64 0,.int .u64 0]):=by rw[<-hW3];exact Bk.new w2 _ _
 have hb3:Tf w2 W3:=by rw[<-hW3];exact(ah _ w2).alloc aj _
 have D:W3.heap.size=w2.heap.size+1:=by rw[<-hW3];simp
 have q:Hid (Gb (fun g=>g=b) w W3):=HG2.o.trans (Gb.of_below hb3);have HZ3:=ai (HZ2.o.below hb3 (by omega));have HN:=ai (kE b k (ay (d1,d2)++r) W3 (Bk.below HR2.o hb3 (by omega)) (by omega) HL2.o);have HW3:=ai hW3;clear hb3 hW3;go_wp2_with fail;rw[HW3.o];refine HN.o.mono ?_;rintro e w4 ⟨rfl,hr4,hg4⟩;have z4:=hg4.size;have s:Hid (Gb (fun g=>g=b) w w4):=q.o.trans hg4;have t:=ai (hg4.bk HZ3.o (by show ¬w.heap.size=b;omega));have d:=ai (hg4.bk o.o (by show ¬w2.heap.size=b;omega));have HR4:=ai hr4;obtain⟨x0,x1,f0,f1⟩:=Bk.two hr4;obtain⟨y0,y1,y2,y3⟩:=d.o.four;have g1:=d.o.free 1;obtain⟨W5,a⟩:=NX9 ((w4.setCell ⟨b,1,none⟩ (.bool false)).setCell ⟨w2.heap.size,1,none⟩ (.bool (decide (k=1))))
 have hne1:b≠w2.heap.size:=by omega
 have hne2:b≠w.heap.size:=by omega
 have u:Hid (Rdr W5 b (ay (d1,d2)++r)):=by
  rw[<-a];have:=(HR4.o.set 1 (.bool false)).far (p:=⟨w2.heap.size,1,none⟩) hne1 (.bool (decide (k=1)));show Bk _ _ _ _;simpa using this
 have v:Hid (Bk W5 w2.heap.size 185 #[.string nm,.bool (decide (k=1)),.int .u64 0,.int .u64 0]):=by
  rw[<-a];have:=(d.o.far (p:=⟨b,1,none⟩) hne1.symm (.bool false)).set 1 (.bool (decide (k=1)));show Bk _ _ _ _;simpa using this
 have y:Hid (Bk W5 w.heap.size 185 #[.string ⟨#[]⟩,.bool false,.int .u64 0,.int .u64 0]):=by
  rw[<-a];exact(t.o.far (p:=⟨b,1,none⟩) hne2.symm _).far (p:=⟨w2.heap.size,1,none⟩) (by show w.heap.size≠w2.heap.size;omega) _
 have E:W5.heap.size=w4.heap.size:=by rw[<-a];simp[World.setCell]
 have z:Hid (Gb (fun g=>g=b) w W5):=by
  rw[<-a];exact(s.o.trans (Gb.set (p:=fun g=>g=b) (x:=b) rfl 1 _)).after (by omega) 1 _
 have HD:=ai (vz b (d1,d2) r W5 u.o l.o m.o);have hkz:decide ((1:Int)< (k:Int))=false:=by simp;omega
 have hkd: ((k:Int) == 1)=decide (k=1):=by
  rw[Bool.eq_iff_iff];simp;omega
 clear hr4 hg4 HN HW3;go_wp2_with fail;refine HD.o.mono ?_;rintro e w6 ⟨rfl,i,c⟩;have f:=ai (c.bk v.o (by show ¬w2.heap.size=b;omega));have h:=ai (c.bk y.o (by show ¬w.heap.size=b;omega));have A:=ai i;have B:Hid (Gb (fun g=>g=b) w w6):=z.o.trans c;clear x0 x1 f0 f1 y0 y1 y2 y3 g1 i c a HD;simp only[aG];obtain⟨y0,y1,y2,y3⟩:=f.o.four;have g2:=f.o.free 2;have g3:=f.o.free 3;obtain⟨z0,z1,z2',z3⟩:=h.o.four;obtain⟨e0,e1,e2,e3⟩:=fr4 h.o;have j:w.heap.size≠w2.heap.size:=by omega
 go_wp2_with fail;refine ZW (rX Tryz.results146 rfl (tX ((h.o.far (p:=⟨w2.heap.size,2,none⟩) j _).far (p:=⟨w2.heap.size,3,none⟩) j _) _ _ _ _)) rfl ⟨by rw[<-HDR.o];rfl,?_,?_⟩
 . exact(((((A.o.far (p:=⟨w2.heap.size,2,none⟩) hne1 _).far (p:=⟨w2.heap.size,3,none⟩) hne1 _).far (p:=⟨w.heap.size,0,none⟩) hne2 _).far (p:=⟨w.heap.size,1,none⟩) hne2 _).far (p:=⟨w.heap.size,2,none⟩) hne2 _).far (p:=⟨w.heap.size,3,none⟩) hne2 _
 . exact(((((B.o.after (by omega) 2 _).after (by omega) 3 _).after aj 0 _).after aj 1 _).after aj 2 _).after aj 3 _
theorem OY(b:Nat)(d:Dig)(r:Td)(w:SX)(hk:Rdr w b (ay d++r))(hd:WfD d)(hl: (ay d++r).length<=1000000) :
  Calls Tryz.prog 147 #[.pointer (some ⟨b,0,none⟩)] w (RdE (aG d) b r w):=vz b d r w hk hd hl
def RlE(t:TypeId)(sz:Nat)(xs:List Tc)(n b:Nat)(r:Td)(w:SX)(e:Ending)(w':SX):Prop :=
 ∃A c,e= .returned (.slice A n c)/\n<=c/\c<=maxLen/\Apd w' w.heap.size t sz A n c xs/\Rdr w' b r/\Gb (fun g=>g=b) w w'
theorem Gb.onto{p:Nat->Prop}{a b c:SX}(h:Gb p a b)(k:Below a.heap.size b c):Gb p a c:=⟨k.os.trans h.os,k.tape.trans h.tape,k.output.trans h.output,ZY h.size k.size,fun i hi hp=>(k.block i hi).trans (h.block i hi hp)⟩
theorem sG{P:Program}{ops:Array Oper}{rest:List Oper}{o:Oper}{a:Act}{w:SX}{Q:Exit->Act->SX->Prop}(s x:Operand)(t:TypeId)(_:o.op= .call {callee:= .builtin .append,args:=#[s,x],argTypes:=#[t,t]})
  (h:Hid (wpList P ops Q (o::rest) a w)):wpList P ops Q (o::rest) a w:=h
theorem rW{α β:Type}{f:α->List β}{l:List α}{k:Nat}{x:α}(h:l[k]? =some x): (l.drop k).flatMap f=f x++ (l.drop (k+1)).flatMap f:=by
 have hk:=List.getElem?_eq_some_iff.1 h;have e:l.drop k=x::l.drop (k+1):=by rw[<-hk.2,List.getElem_cons_drop]
 rw[e,List.flatMap_cons]
theorem KE(b:Nat)(es:List Ent)(r:Td)(w:SX)(hk:Rdr w b (ak es.length++ (es.flatMap aU++r)))(hok:∀e∈es,jc e)(hn:es.length<=200)(hl: (ak es.length++ (es.flatMap aU++r)).length<=1000000) :
  Calls Tryz.prog 145 #[.pointer (some ⟨b,0,none⟩),.int .i64 200,.func (.func 146) #[.pointer (some ⟨b,0,none⟩)] #[]] w (RlE 185 4 (flat enC es) es.length b r w):=by
 have hbw:=Bk.lt hk;obtain⟨n,hne⟩:=NX9 es.length
 rw[hne]at hk hl hn ⊢;have a:=ai hne;have hl2: (es.flatMap aU++r).length<=1000000:=by rw[af]at hl;omega
 have HL2:=ai hl2;have m:=ai hok;have HN:=ai (kE b n (es.flatMap aU++r) w hk (by omega) hl);obtain⟨i0,hi,hz0,hz1,hz2⟩:=info_parts yC;have Hi:=ai hi;have o:=ai hz0;have q:=ai hz1;have s:=ai hz2;clear hk hl hl2 hok hi hz0 hz1 hz2 hne
 go_enter Tryz.func145,Tryz.ntmps145
 go_wp2_with fail;refine HN.o.mono ?_;rintro e w1 ⟨rfl,hr1,hg1⟩;have HR1:=ai hr1;obtain⟨x0,x1,f0,f1⟩:=Bk.two hr1;have z1:=hg1.size;obtain⟨W2,hW2⟩:=NX9 (w1.setCell ⟨b,1,none⟩ (.bool false))
 have HR2:Hid (Rdr W2 b (es.flatMap aU++r)):=by
  rw[<-hW2];have:=HR1.o.set 1 (.bool false);show Bk _ _ _ _;simpa using this
 have HG2:Hid (Gb (fun g=>g=b) w W2):=by rw[<-hW2];exact hg1.trans (Gb.set (p:=fun g=>g=b) (x:=b) rfl 1 _)
 have hmz:decide ((200:Int)< (n:Int))=false:=by simp;omega
 clear hr1 hg1 HN;go_wp2_with fail;clear hW2 x0 x1 f0 f1
 go_loopw[8,9] (fun l i wr=>∃(j:Nat)(d:OA)(cj:Nat),l= .slice d j cj/\i= .int .i64 (j:Int)/\j<=n/\j<=cj/\cj<=maxLen/\Hid (Apd wr w.heap.size 185 4 d j cj (flat enC (es.take j)))/\Hid (Rdr wr b ((es.drop j).flatMap aU++r))/\Hid (Gb (fun g=>g=b) w wr)) (fun _ i _=>n - (intOf i).toNat)
 case atStart=>exact⟨0,none,0,rfl,rfl,ZX _,Nat.le_refl _,ZX _,.inr ⟨rfl,rfl,rfl⟩,HR2.o,HG2.o⟩
 case round =>
  obtain⟨j,d,cj,rfl,rfl,hj,hjc,hcm,hA,hR,hG⟩:=hrel;obtain⟨x0,x1,_,_⟩:=Bk.two hR.o;have zr:=hG.o.size;by_cases hlt:j<n
  . have hjz: (j:Int)< (n:Int):=by omega
    obtain⟨en,hen⟩:∃en,es[j]? =some en:=⟨_,Z5 (by rw[a.o];exact hlt)⟩
    have HE:=ai hen;have hR2:=hR.o;rw[rW hen,ZZ]at hR2;have hln: (aU en++ ((es.drop (j+1)).flatMap aU++r)).length<=1000000:=by
     have h:=HL2.o;rw[<-List.take_append_drop j es,List.flatMap_append,rW hen,ZZ,ZZ,af]at h;omega
    have HC:=ai (JV b en ((es.drop (j+1)).flatMap aU++r) wr hR2 (m.o en (Z7 hen)) hln);clear hen hR2 hln
    go_wp2_with (first | (go_at_call 146;refine HC.o.mono ?_;rintro e w3 ⟨rfl,hr3,hg3⟩;simp only[uI]) | (at_builtin;refine sG (.tmp 36) (.tmp 39) 107 rfl ?_))
    refine aI ?_;have z3:=hg3.size;refine dR (base:=w.heap.size) (size:=4) _ rfl (.tmp 36) (.tmp 39) 107 rfl 185 i0 _ 40 Tryz.underlying107 Hi.o o.o q.o s.o rfl (by decide) d j cj (flat enC (es.take j)) rfl ?own_1 (w3.heap.size+1) _ 1 _ (enC en) rfl ?nw_1 (by simp[enC,Value.oneCell']) ?m1_1 ?m2_1 ?m3_1 ?_
    case own_1=>exact(hA.o.gb hg3 hbw).below ((ah _ w3).alloc aj _)
    case nw_1 =>
     have:=Sl.of_bk (n:=1) (size:=4) (Bk.new w3 185 #[.string en.nm,.bool en.dir,.int .u64 en.dg.1,.int .u64 en.dg.2]) rfl;rw[Z9]at this;exact this
    case m1_1=>unfold maxLen;omega
    case m2_1=>omega
    case m3_1=>simp;omega
    intro A4 c4 w4 f hb4 hn4 hm4 k;have t:Hid (Apd w4 w.heap.size 185 4 A4 (j+1) c4 (flat enC (es.take (j+1)))):=by
     show Apd _ _ _ _ _ _ _ _;rw[aW HE.o,bD]
     simpa [flat] using f
    have c:Below w.heap.size w3 w4:=((ah w.heap.size w3).alloc (by omega) _).trans hb4;have u:Hid (Gb (fun g=>g=b) w w4):=(hG.o.trans hg3).onto c;have HR4:Hid (Rdr w4 b ((es.drop (j+1)).flatMap aU++r)):=Bk.below hr3 c hbw;clear f hb4 k hr3 hg3 c HC x0 x1;go_wp2_with fail;go_roundw
    case rel=>exact⟨j+1,A4,c4,rfl,by go_num,hlt,hn4,hm4,t.o,HR4.o,u.o⟩
    case measure=>simp[intOf];omega
  . have hjz:¬(j:Int)< (n:Int):=by omega
    have hjn:n=j:=by omega
    subst hjn;have HS:Hid (Apd wr w.heap.size 185 4 d n cj (flat enC es)):=by
     have:=hA.o;rw[ZU (by rw[a.o];exact Nat.le_refl _)]at this;exact this
    have HR3:Hid (Rdr wr b r):=by
     have:=hR.o;rw[List.drop_of_length_le (by rw[a.o];exact Nat.le_refl _)]at this;exact this
    go_wp2_with fail;go_ret
    exact⟨d,cj,rfl,hjc,hcm,HS.o,HR3.o,hG.o⟩
theorem Ko(b:Nat)(es:List Dig)(r:Td)(w:SX)(hk:Rdr w b (ak es.length++ (es.flatMap ay++r)))(hok:∀e∈es,WfD e)(hn:es.length<=8)(hl: (ak es.length++ (es.flatMap ay++r)).length<=1000000) :
  Calls Tryz.prog 148 #[.pointer (some ⟨b,0,none⟩),.int .i64 8,.func (.func 147) #[.pointer (some ⟨b,0,none⟩)] #[]] w (RlE 50 2 (flat dgC es) es.length b r w):=by
 have hbw:=Bk.lt hk;obtain⟨n,hne⟩:=NX9 es.length
 rw[hne]at hk hl hn ⊢;have a:=ai hne;have hl2: (es.flatMap ay++r).length<=1000000:=by rw[af]at hl;omega
 have HL2:=ai hl2;have m:=ai hok;have HN:=ai (kE b n (es.flatMap ay++r) w hk (by omega) hl);obtain⟨i0,hi,hz0,hz1,hz2⟩:=info_parts jS;have Hi:=ai hi;have o:=ai hz0;have q:=ai hz1;have s:=ai hz2;clear hk hl hl2 hok hi hz0 hz1 hz2 hne
 go_enter Tryz.func148,Tryz.ntmps148
 go_wp2_with fail;refine HN.o.mono ?_;rintro e w1 ⟨rfl,hr1,hg1⟩;have HR1:=ai hr1;obtain⟨x0,x1,f0,f1⟩:=Bk.two hr1;have z1:=hg1.size;obtain⟨W2,hW2⟩:=NX9 (w1.setCell ⟨b,1,none⟩ (.bool false))
 have HR2:Hid (Rdr W2 b (es.flatMap ay++r)):=by
  rw[<-hW2];have:=HR1.o.set 1 (.bool false);show Bk _ _ _ _;simpa using this
 have HG2:Hid (Gb (fun g=>g=b) w W2):=by rw[<-hW2];exact hg1.trans (Gb.set (p:=fun g=>g=b) (x:=b) rfl 1 _)
 have hmz:decide ((8:Int)< (n:Int))=false:=by simp;omega
 clear hr1 hg1 HN;go_wp2_with fail;clear hW2 x0 x1 f0 f1
 go_loopw[8,9] (fun l i wr=>∃(j:Nat)(d:OA)(cj:Nat),l= .slice d j cj/\i= .int .i64 (j:Int)/\j<=n/\j<=cj/\cj<=maxLen/\Hid (Apd wr w.heap.size 50 2 d j cj (flat dgC (es.take j)))/\Hid (Rdr wr b ((es.drop j).flatMap ay++r))/\Hid (Gb (fun g=>g=b) w wr)) (fun _ i _=>n - (intOf i).toNat)
 case atStart=>exact⟨0,none,0,rfl,rfl,ZX _,Nat.le_refl _,ZX _,.inr ⟨rfl,rfl,rfl⟩,HR2.o,HG2.o⟩
 case round =>
  obtain⟨j,d,cj,rfl,rfl,hj,hjc,hcm,hA,hR,hG⟩:=hrel;obtain⟨x0,x1,_,_⟩:=Bk.two hR.o;have zr:=hG.o.size;by_cases hlt:j<n
  . have hjz: (j:Int)< (n:Int):=by omega
    obtain⟨en,hen⟩:∃en,es[j]? =some en:=⟨_,Z5 (by rw[a.o];exact hlt)⟩
    have HE:=ai hen;have hR2:=hR.o;rw[rW hen,ZZ]at hR2;have hln: (ay en++ ((es.drop (j+1)).flatMap ay++r)).length<=1000000:=by
     have h:=HL2.o;rw[<-List.take_append_drop j es,List.flatMap_append,rW hen,ZZ,ZZ,af]at h;omega
    have HC:=ai (OY b en ((es.drop (j+1)).flatMap ay++r) wr hR2 (m.o en (Z7 hen)) hln);clear hen hR2 hln
    go_wp2_with (first | (go_at_call 147;refine HC.o.mono ?_;rintro e w3 ⟨rfl,hr3,hg3⟩;simp only[aG]) | (at_builtin;refine sG (.tmp 36) (.tmp 39) 47 rfl ?_))
    refine aI ?_;have z3:=hg3.size;refine dR (base:=w.heap.size) (size:=2) _ rfl (.tmp 36) (.tmp 39) 47 rfl 50 i0 _ 16 Tryz.underlying47 Hi.o o.o q.o s.o rfl (by decide) d j cj (flat dgC (es.take j)) rfl ?own_1 (w3.heap.size+1) _ 1 _ (dgC en) rfl ?nw_1 (by simp[dgC,Value.oneCell']) ?m1_1 ?m2_1 ?m3_1 ?_
    case own_1=>exact(hA.o.gb hg3 hbw).below ((ah _ w3).alloc aj _)
    case nw_1 =>
     have:=Sl.of_bk (n:=1) (size:=2) (Bk.new w3 50 #[.int .u64 en.1,.int .u64 en.2]) rfl;rw[Z9]at this;exact this
    case m1_1=>unfold maxLen;omega
    case m2_1=>omega
    case m3_1=>simp;omega
    intro A4 c4 w4 f hb4 hn4 hm4 k;have t:Hid (Apd w4 w.heap.size 50 2 A4 (j+1) c4 (flat dgC (es.take (j+1)))):=by
     show Apd _ _ _ _ _ _ _ _;rw[aW HE.o,bD]
     simpa [flat] using f
    have c:Below w.heap.size w3 w4:=((ah w.heap.size w3).alloc (by omega) _).trans hb4;have u:Hid (Gb (fun g=>g=b) w w4):=(hG.o.trans hg3).onto c;have HR4:Hid (Rdr w4 b ((es.drop (j+1)).flatMap ay++r)):=Bk.below hr3 c hbw;clear f hb4 k hr3 hg3 c HC x0 x1;go_wp2_with fail;go_roundw
    case rel=>exact⟨j+1,A4,c4,rfl,by go_num,hlt,hn4,hm4,t.o,HR4.o,u.o⟩
    case measure=>simp[intOf];omega
  . have hjz:¬(j:Int)< (n:Int):=by omega
    have hjn:n=j:=by omega
    subst hjn;have HS:Hid (Apd wr w.heap.size 50 2 d n cj (flat dgC es)):=by
     have:=hA.o;rw[ZU (by rw[a.o];exact Nat.le_refl _)]at this;exact this
    have HR3:Hid (Rdr wr b r):=by
     have:=hR.o;rw[List.drop_of_length_le (by rw[a.o];exact Nat.le_refl _)]at this;exact this
    go_wp2_with fail;go_ret
    exact⟨d,cj,rfl,hjc,hcm,HS.o,HR3.o,hG.o⟩
def bc(l:Td):List Tc:=l.map fun b=>Value.int .u8 b.toNat
theorem iG(l:Td): (bc l).length=l.length:=by simp[bc]
theorem wI(l r:Td):bc (l++r)=bc l++bc r:=by simp[bc]
structure Txt(w:SX)(base av:Nat)(A:OA)(n c:Nat)(bs:Td):Prop where
 len:bs.length=n
 le:n<=c
 max:c<=maxLen
 lies:0<c->∃b off,A=some ⟨b,off,none⟩/\ (base<=b/\b≠av)/\b<w.heap.size/\ (∀j,j<n->w.cell? ⟨b,off+j,none⟩= (bc bs)[j]?)/\ (∀j,j<c-> (w.cell? ⟨b,off+j,none⟩).isSome=true/\w.frozen? ⟨b,off+j,none⟩=false)
section
variable {w w' : SX} {base av n c : Nat} {A : OA} {bs : Td}
theorem Txt.nil(w:SX)(base av:Nat)(A:OA):Txt w base av A 0 0 []:=⟨rfl,Nat.le_refl _,ZX _,fun h=>absurd h (by omega)⟩
theorem Txt.keep(h:Txt w base av A n c bs)(hs:w.heap.size<=w'.heap.size)(hk:∀k,k<w.heap.size->w'.heap[k]? =w.heap[k]?):Txt w' base av A n c bs :=
 ⟨h.len,h.le,h.max,fun h0=>by
   obtain⟨b,off,e,hb,hl,hc,hf⟩:=h.lies h0;have ec:∀o,w'.cell? ⟨b,o,none⟩=w.cell? ⟨b,o,none⟩:=fun o=>World.cell?_of_block (a:=⟨b,o,none⟩) (hk b hl);have ef:∀o,w'.frozen? ⟨b,o,none⟩=w.frozen? ⟨b,o,none⟩:=fun o=>World.frozen?_of_block (a:=⟨b,o,none⟩) (hk b hl);exact⟨b,off,e,hb,by omega,fun j hj=>(ec _).trans (hc j hj),fun j hj=>⟨by rw[ec];exact(hf j hj).1,(ef _).trans (hf j hj).2⟩⟩⟩
theorem Txt.below(h:Txt w base av A n c bs)(hb:Tf w w'):Txt w' base av A n c bs:=h.keep hb.size fun k hk=>hb.block k hk
theorem Txt.avoid{av':Nat}(h:Txt w base av A n c bs)(ha:w.heap.size<=av'):Txt w base av' A n c bs :=
 ⟨h.len,h.le,h.max,fun h0=>by
   obtain⟨b,off,e,h1,h2,h3⟩:=h.lies h0;exact⟨b,off,e,⟨h1.1,by omega⟩,h2,h3⟩⟩
theorem zM{B b:Nat}(hb:B<=b):∀(vs:List Tc)(o:Nat)(w:SX),Below B w (w.setCells b o vs)
 | [],_,w=>ah _ w
 | v::vs,o,w=>((ah B w).setCell (p:=⟨b,o,none⟩) hb v).trans (zM hb vs (o+1) _)
theorem zY(b:Nat):∀(vs:List Tc)(o:Nat)(w:SX),(w.setCells b o vs).heap.size=w.heap.size
 | [],_,_=>rfl
 | v::vs,o,w=>by
   show((w.setCell ⟨b,o,none⟩ v).setCells b (o+1) vs).heap.size=_;rw[zY b vs];simp
theorem zL{b k:Nat}(hb:b≠k):∀(vs:List Tc)(o:Nat)(w:SX),(w.setCells b o vs).heap[k]? =w.heap[k]?
 | [],_,_=>rfl
 | v::vs,o,w=>(zL hb vs (o+1) _).trans (Z8 w ⟨b,o,none⟩ v k (fun e=>hb e.symm))
variable {P : Program}
theorem Txt.run_append(h:Txt w base av A n c bs)(t tx ty e:TypeId)(i:TypeInfo)(ht:P.underlying t=some (.slice e))(hi:P.info? e=some i)(hz:i.zero=some (.int .u8 0))(hsize:i.size=1)(hby:i.bytes=1)
  (x:Tc) (m:Nat) (ys:Td) (hs:Src P 1 tx x m (bc ys) w) (hmax:n+m<=140737488355328) (hbase:base<=w.heap.size) (hav:av<w.heap.size) :
  ∃A' c' w',(Builtin.append_ #[t,tx] ty #[.slice A n c,x]).run P w= .ok (.slice A' (n+m) c') w'/\Txt w' base av A' (n+m) c' (bs++ys)/\Below base w w'/\w'.heap[av]? =w.heap[av]? :=by
 have hnl:=hs.newsLen;rw[iG,Nat.mul_one]at hnl;have hs':Src P i.size tx x m (bc ys) w:=by rw[hsize];exact hs
 by_cases hfit:n+m<=c
 . rcases Nat.eq_zero_or_pos c with h0 | hc
   . subst h0
     obtain rfl:n=0:=by omega
     obtain rfl:m=0:=by omega
     obtain rfl:ys= []:=List.eq_nil_of_length_eq_zero hnl;exact⟨A,0,w,run_append_nothing (P:=P) w t tx ty e i ht hi A 0 0 aj x hs',by simpa using h,ah _ _,rfl⟩
   . obtain⟨b,off,rfl,hb,hl,hcell,hfree⟩:=h.lies hc
     have hsome:∀j,j< (bc ys).length-> (w.cell? ⟨b,off+n*i.size+j,none⟩).isSome=true:=fun j hj=>by
      rw[iG]at hj;rw[hsize,Nat.mul_one,Nat.add_assoc];exact(hfree (n+j) (by omega)).1
     have hrun:=run_append_room_src (P:=P) w t tx ty e i ht hi b off n c x m (bc ys) hs' hfit hsome (fun j hj=>by
      rw[iG]at hj;rw[hsize,Nat.mul_one,Nat.add_assoc];exact(hfree (n+j) (by omega)).2)
     refine⟨_,_,_,hrun,⟨by rw[af,h.len];omega,hfit,h.max,fun _=>⟨b,off,rfl,hb,by rw[zY];exact hl,fun j hj=>?_,fun j hj=>⟨?_,?_⟩⟩⟩,zM hb.1 _ _ _,zL hb.2 _ _ _⟩
     . by_cases hj':j<n
       . rw[World.cell?_setCells_out b _ _ _ _ (fun _ _=> .inl (by show off+j<off+n*i.size;rw[hsize];omega)),hcell j hj',wI,List.getElem?_append_left (by rw[iG,h.len];exact hj')]
       . have:=World.cell?_setCells_in b (bc ys) (off+n*i.size) w hsome (j - n) (by rw[iG];omega)
         rw[hsize,Nat.mul_one,show off+n+ (j - n)=off+j by omega]at this;rw[hsize,Nat.mul_one,this,wI,List.getElem?_append_right (by rw[iG,h.len];omega),show(bc bs).length=n by rw[iG,h.len]];exact(Z5 _).symm
     . by_cases hj':n<=j/\j<n+m
       . have:=World.cell?_setCells_in b (bc ys) (off+n*i.size) w hsome (j - n) (by rw[iG];omega)
         rw[hsize,Nat.mul_one,show off+n+ (j - n)=off+j by omega]at this;rw[hsize,Nat.mul_one,this];rfl
       . rw[World.cell?_setCells_out b _ _ _ _ (fun _ _=>by show off+j<off+n*i.size∨off+n*i.size+ (bc ys).length<=off+j;rw[hsize,iG];omega)]
         exact(hfree j hj).1
     . rw[World.frozen?_setCells];exact(hfree j hj).2
 . have hold: (Builtin.firstCells i.size n (.slice A n c)).run P w.drew= .ok (bc bs).toArray w.drew:=by
     rw[hsize];rcases Nat.eq_zero_or_pos c with h0 | hc
     . subst h0
       obtain rfl:n=0:=by have:=h.le;omega
       obtain rfl:bs= []:=List.eq_nil_of_length_eq_zero h.len;cases A with
       | none=>exact run_firstCells_none w.drew 1 0 0 0
       | some a'=>exact run_firstCells_some w.drew 1 0 a' 0 0 [] (by simp) (by intro _ _ h';simp at h')
     . obtain⟨b,off,rfl,hb,hl,hcell,hfree⟩:=h.lies hc
       refine run_firstCells_some w.drew 1 n ⟨b,off,none⟩ n c (bc bs) (by rw[iG,h.len];omega) (fun j u hu=>?_);rw[Addr.add_lit];have hj:j<n:=by have:=(List.getElem?_eq_some_iff.1 hu).1;rwa[iG,h.len]at this
       exact(hcell j hj).trans hu
   have hg:c<n+m:=by omega
   have h63:n+m<=maxLen:=by unfold maxLen;omega
   have hrun:=run_append_grow_src (P:=P) w t tx ty e i (.int .u8 0) ht hi hz A n c (bc bs) hold x m (bc ys) hs' hg (by omega) (growslice_fits hg (by rw[hby];omega));have hge:=grownCap_ge w (n+m) c e;have hcm:=grownCap_le_maxLen w (n+m) c e h63;refine⟨_,_,_,hrun,⟨by rw[af,h.len];omega,hge,hcm,fun _=>⟨w.heap.size,0,rfl,⟨hbase,by omega⟩,?_,fun j hj=>?_,fun j hj=>⟨?_,?_⟩⟩⟩,((ah base w).drew).alloc hbase _,Below.heap_alloc w.drew _ av hav⟩
   . have: (w.drew.alloc (.cells ((bc bs++bc ys).toArray++Builtin.zeroCells (Value.int .u8 0).cells (grownCap w (n+m) c e - (n+m))) e)).heap.size=w.heap.size+1:=Z9 _ _
     omega
   . have e1: (w.drew.alloc (.cells ((bc bs++bc ys).toArray++Builtin.zeroCells (Value.int .u8 0).cells (grownCap w (n+m) c e - (n+m))) e)).cell? ⟨w.heap.size,j,none⟩=_:=World.cell?_alloc_new w.drew _ _ j
     rw[Nat.zero_add,e1,Array.getElem?_append_left (by simp only[List.size_toArray,af,iG,h.len];omega),List.getElem?_toArray,wI]
   . have e1: (w.drew.alloc (.cells ((bc bs++bc ys).toArray++Builtin.zeroCells (Value.int .u8 0).cells (grownCap w (n+m) c e - (n+m))) e)).cell? ⟨w.heap.size,j,none⟩=_:=World.cell?_alloc_new w.drew _ _ j
     rw[Nat.zero_add,e1];have hsz: ((bc bs++bc ys).toArray++Builtin.zeroCells (Value.int .u8 0).cells (grownCap w (n+m) c e - (n+m))).size=grownCap w (n+m) c e:=by
      rw[Array.size_append,List.size_toArray,af,iG,iG,h.len,hnl,size_zeroCells];show n+m+ (grownCap w (n+m) c e - (n+m))*1=_;omega
     rw[Array.getElem?_eq_getElem (by rw[hsz];exact hj)];rfl
   . rw[Nat.zero_add];exact World.frozen?_alloc_new w.drew _ _ j
theorem qR{ops:Array Oper}{rest:List Oper}{o:Oper}{a:Act}{Q:Exit->Act->SX->Prop}(hgd:o.guard=none)(s x:Operand)(t tx:TypeId)
  (ho:o.op= .call {callee:= .builtin .append,args:=#[s,x],argTypes:=#[t,tx]})
  (e:TypeId) (i:TypeInfo) (ht:P.underlying t=some (.slice e)) (hi:P.info? e=some i) (hz:i.zero=some (.int .u8 0)) (hsize:i.size=1) (hby:i.bytes=1)
  (A:OA) (n c:Nat) (bs:Td) (hv:a.eval s= .slice A n c) (h:Txt w base av A n c bs)
  (xv:Tc) (m:Nat) (ys:Td) (hx:a.eval x=xv) (hs:Src P 1 tx xv m (bc ys) w) (hmax:n+m<=140737488355328) (hbase:base<=w.heap.size) (hav:av<w.heap.size)
  (hK:∀A' c' w',Txt w' base av A' (n+m) c' (bs++ys)->Below base w w'->w'.heap[av]? =w.heap[av]? ->wpList P ops Q rest (a.put o.dst (.slice A' (n+m) c')) w'):wpList P ops Q (o::rest) a w:=by
 refine wpList_plain hgd fun K hK'=>?_;obtain⟨A',c',w',hrun,h1,h2,h3⟩:=h.run_append (P:=P) t tx o.type e i ht hi hz hsize hby xv m ys hs hmax hbase hav;unfold Oper.wp;simp[execOp,ho,resolve,invoke,builtin,hv,hx,hrun,Result.andThen];exact hK' _ _ (hK A' c' w' h1 h2 h3)
theorem OL(src dst e:TypeId)(s:SY)(hs:P.underlying src=some .string)(hd:P.underlying dst=some (.slice e))(he:P.underlying e=some (.int .u8))(hz:s.size<=maxLen)(w:SX) :
  ∃A c w',(convert src dst (.string s)).run P w= .ok (.slice A s.size c) w'/\Txt w' w.heap.size (w.heap.size+1) A s.size c (toL s)/\Tf w w':=by
 refine⟨_,_,_,Lib.run_convert_string_bytes (P:=P) w src dst e s hs hd he,⟨(aT s).symm,grownCap_ge w s.size 0 e,grownCap_le_maxLen w s.size 0 e hz,fun _=>⟨w.heap.size,0,rfl,⟨Nat.le_refl _,by omega⟩,by rw[Lib.bytesWorld_size];omega,fun j hj=>?_,fun j hj=>⟨?_,?_⟩⟩⟩,?_⟩
 . rw[Nat.zero_add,Lib.bytesWorld_cell w e s j hj]
   have hj':j<s.data.toList.length:=by rw[aT]at hj;exact hj
   simp[bc,toL,List.getD,Z5 hj']
 . have hsz: (Lib.bytesCells w e s).size=grownCap w s.size 0 e:=by
     have:=grownCap_ge w s.size 0 e;rw[Lib.bytesCells,Array.size_append,Array.size_map,Array.size_replicate];show s.size+_=_;omega
   rw[Nat.zero_add];simp[World.cell?,Lib.bytesWorld_at_new,hsz,hj]
 . have hsz: (Lib.bytesCells w e s).size=grownCap w s.size 0 e:=by
     have:=grownCap_ge w s.size 0 e;rw[Lib.bytesCells,Array.size_append,Array.size_map,Array.size_replicate];show s.size+_=_;omega
   rw[Nat.zero_add];simp[World.frozen?,Lib.bytesWorld_at_new,hsz];omega
 . exact⟨rfl,rfl,rfl,by rw[Lib.bytesWorld_size];omega,fun k hk=>Lib.bytesWorld_at_old w e s k hk⟩
theorem Txt.run_string(h:Txt w base av A n c bs)(src dst e:TypeId)(hs:P.underlying src=some (.slice e))(he:P.underlying e=some (.int .u8))(hd:P.underlying dst=some .string) :
  (convert src dst (.slice A n c)).run P w= .ok (.string (ofL bs)) w:=by
 rcases Nat.eq_zero_or_pos c with h0 | hc
 . subst h0
   obtain rfl:n=0:=by have:=h.le;omega
   obtain rfl:bs= []:=List.eq_nil_of_length_eq_zero h.len;cases A with
   | none=>exact run_convert_bytes_nil w src e hs he 0 0 dst hd
   | some a=>exact run_convert_bytes_back w src dst e a 0 [] hs he hd (fun j hj=>by simp at hj)
 . obtain⟨b,off,rfl,_,_,hcell,_⟩:=h.lies hc
   have:=run_convert_bytes_back (P:=P) w src dst e ⟨b,off,none⟩ c bs hs he hd (fun j hj=>by
    rw[Addr.add_lit,hcell j (by rw[<-h.len];exact hj)];simp[bc,Z5 hj])
   rw[h.len]at this;exact this
end
section
open Go.Maps
def pG(l:List SY):SY->Option Tc:=fun s=>if iD l s then some (.bool true) else none
theorem Qz:pG []=fun _=>none:=by funext s;simp[pG,iD]
theorem EW(l:List SY)(x:SY):pG (l++ [x])=upd (pG l) x (.bool true):=by
 funext t
 unfold pG upd iD;by_cases e:t=x
 . subst e;simp
 . have h: ((l++ [x]).any fun y=>decide (y=t))=l.any fun y=>decide (y=t):=by
     rw[List.any_append];simp[Ne.symm e]
   rw[h,if_neg e]
theorem QD(l:List SY)(x:SY): (pG l x).getD (.bool false)= .bool (iD l x):=by unfold pG;cases iD l x <;> rfl
theorem Apd.grown{w w':SX}{base size n c:Nat}{e:TypeId}{A:OA}{xs:List Tc}{row:Option Nat}(h:Apd w base e size A n c xs)(hg:w.grownBy w' row)(hr:∀k,row=some k->k<base):Apd w' base e size A n c xs:=by
 rcases h with h | h
 . refine .inl (h.kept hg ?_)
   cases hv: (Value.slice A n c).ownBlock with
   | none=>exact .inl rfl
   | some k=>exact .inr fun e=>by have h1:=jr h k hv;have h2:=hr k e.symm;omega
 . exact .inr h
end
theorem tY(s:SY)(w:SX):Src Tryz.prog 1 9 (.string s) s.size (bc (toL s)) w:=Src.ofString (P:=Tryz.prog) w Tryz.underlying9 s
theorem nC: (Tryz.prog.info? 5).map (fun i=>(i.zero,i.size,i.bytes))=some (some (.int .u8 0),1,1):=by kernel_rfl
theorem Txt.far{w:SX}{base av n c:Nat}{A:OA}{bs:Td}(h:Txt w base av A n c bs){p:Addr}(hp:p.block=av)(u:Tc):Txt (w.setCell p u) base av A n c bs :=
 ⟨h.len,h.le,h.max,fun h0=>by
   obtain⟨b,off,e,h1,h2,h3,h4⟩:=h.lies h0;have hb: (w.setCell p u).heap[b]? =w.heap[b]? :=Z8 w p u b (by rw[hp];exact h1.2);have ec:∀o,(w.setCell p u).cell? ⟨b,o,none⟩=w.cell? ⟨b,o,none⟩:=fun o=>World.cell?_of_block (a:=⟨b,o,none⟩) hb;have ef:∀o,(w.setCell p u).frozen? ⟨b,o,none⟩=w.frozen? ⟨b,o,none⟩:=fun o=>World.frozen?_of_block (a:=⟨b,o,none⟩) hb;exact⟨b,off,e,h1,by simpa using h2,fun j hj=>(ec _).trans (h3 j hj),fun j hj=>⟨by rw[ec];exact(h4 j hj).1,(ef _).trans (h4 j hj).2⟩⟩⟩
theorem sF{P:Program}{ops:Array Oper}{rest:List Oper}{o:Oper}{a:Act}{w:SX}{Q:Exit->Act->SX->Prop}(s x:Operand)(t tx:TypeId)(_:o.op= .call {callee:= .builtin .append,args:=#[s,x],argTypes:=#[t,tx]})
  (h:Hid (wpList P ops Q (o::rest) a w)):wpList P ops Q (o::rest) a w:=h
structure Wrt(w:SX)(b base:Nat)(bs:Td):Prop where
 ex:∃A c,Bk w b 283 #[.slice A bs.length c,.bool false]/\Txt w base b A bs.length c bs
 lt:b<base
 le:base<=w.heap.size
theorem Wrt.below{w w':SX}{b base:Nat}{bs:Td}(h:Wrt w b base bs)(hb:Tf w w'):Wrt w' b base bs:=by
 obtain⟨A,c,h1,h2⟩:=h.ex;exact⟨⟨A,c,h1.below hb h1.lt,h2.below hb⟩,h.lt,ZY h.le hb.size⟩
def yR(b base:Nat)(bs:Td)(w:SX)(e:Ending)(w':SX):Prop:=e= .returned (.tuple #[])/\Wrt w' b base bs/\Below b w w'/\w.heap.size<=w'.heap.size
theorem kF(b base k:Nat)(bs:Td)(w:SX)(h:Wrt w b base bs)(hk:k<=1099511627776)(hn:bs.length<=1000000) :
  Calls Tryz.prog 205 #[.pointer (some ⟨b,0,none⟩),.int .i64 k] w (yR b base (bs++ak k) w):=by
 have HP:=ai (oH k hk w);have H:=ai h;have hle:=fP 5 k (by omega);obtain⟨i0,hi,hz0,hz1,hz2⟩:=info_parts nC;have Hi:=ai hi;have g:=ai hz0;have i:=ai hz1;have j:=ai hz2;clear h hi hz0 hz1 hz2
 go_enter Tryz.func205,Tryz.ntmps205
 go_wp2_with (go_at_call 107;refine HP.o.mono ?_;rintro e w1 ⟨rfl,hb1⟩;refine aP ?_)
 refine aI ?_;have H1:=H.o.below hb1;obtain⟨A,c,hk1,ht1⟩:=H1.ex;have hlt:=H1.lt;have hbase:=H1.le;have HB1:Hid (Below b w w1):=hb1.mono (by have:=H.o.lt;have:=H.o.le;omega);have hz1:=hb1.size;have a:=ai hk1;have HT1:=ai ht1;have c0:=a.o.cell 0;have c1:=a.o.cell 1;have f1:=a.o.free 1;simp at c0 c1;clear hb1 H1 hk1 ht1;obtain⟨W2,hW2⟩:=NX9 (w1.setCell ⟨b,1,none⟩ (.bool false))
 have d:Hid (Bk W2 b 283 #[.slice A bs.length c,.bool false]):=by
  rw[<-hW2];have:=a.o.set 1 (.bool false);show Bk _ _ _ _;simpa using this
 have HT2:Hid (Txt W2 base b A bs.length c bs):=by rw[<-hW2];exact HT1.o.far rfl _
 have HB2:Hid (Below b w W2):=by rw[<-hW2];exact HB1.o.setCell (p:=⟨b,1,none⟩) aj _
 have l:W2.heap.size=w1.heap.size:=by rw[<-hW2];simp
 have d0:=d.o.cell 0;have g0:=d.o.free 0;simp at d0
 go_wp2_with (at_builtin;refine sF (.tmp 26) (.tmp 27) 213 9 rfl ?_)
 refine aI ?_;refine qR (base:=base) (av:=b) rfl (.tmp 26) (.tmp 27) 213 9 rfl 5 i0 Tryz.underlying213 Hi.o g.o i.o j.o A bs.length c bs rfl HT2.o (.string (ofL (ak k))) (ak k).length (ak k) rfl (tY (ofL (ak k)) _) (by omega) (by omega) (by omega) ?_;intro A' c' w3 ht3 hb3 hk3;have f:Hid (Bk w3 b 283 #[.slice A bs.length c,.bool false]):=hk3.trans d.o;have HT3:=ai ht3;have HB3:Hid (Below b w w3):=HB2.o.trans (hb3.mono (by omega));have hz3:=hb3.size;have e0:=f.o.cell 0;have e1:=f.o.free 0;simp at e0;clear ht3 hb3 hk3 d0 g0 c0 c1 f1;go_wp2_with fail
 go_end0
 have hl: (bs++ak k).length=bs.length+ (ak k).length:=by simp
 refine⟨rfl,⟨⟨A',c',?_,?_⟩,hlt,by simp;omega⟩,HB3.o.setCell (p:=⟨b,0,none⟩) aj _,by simp;omega⟩
 . rw[hl];have:=f.o.set 0 (.slice A' (bs.length+ (ak k).length) c');show Bk _ _ _ _;simpa using this
 . rw[hl];exact HT3.o.far rfl _
theorem og(b base:Nat)(s:SY)(bs:Td)(w:SX)(h:Wrt w b base bs)(hk:s.size<=65536)(hn:bs.length<=1000000) :
  Calls Tryz.prog 206 #[.pointer (some ⟨b,0,none⟩),.string s] w (yR b base (bs++ax (toL s)) w):=by
 have HP:=ai (vG s hk w);have H:=ai h;have hle: (ax (toL s)).length<=70000:=by
  have h1:=fP 5 s.size (by omega);have h2:=aT s;unfold ax;rw[af,<-h2];omega
 obtain⟨i0,hi,hz0,hz1,hz2⟩:=info_parts nC;have Hi:=ai hi;have g:=ai hz0;have i:=ai hz1;have j:=ai hz2;clear h hi hz0 hz1 hz2
 go_enter Tryz.func206,Tryz.ntmps206
 go_wp2_with (go_at_call 178;refine HP.o.mono ?_;rintro e w1 ⟨rfl,hb1⟩;refine aP ?_)
 refine aI ?_;have H1:=H.o.below hb1;obtain⟨A,c,hk1,ht1⟩:=H1.ex;have hlt:=H1.lt;have hbase:=H1.le;have HB1:Hid (Below b w w1):=hb1.mono (by have:=H.o.lt;have:=H.o.le;omega);have hz1:=hb1.size;have a:=ai hk1;have HT1:=ai ht1;have c0:=a.o.cell 0;have c1:=a.o.cell 1;have f1:=a.o.free 1;simp at c0 c1;clear hb1 H1 hk1 ht1;obtain⟨W2,hW2⟩:=NX9 (w1.setCell ⟨b,1,none⟩ (.bool false))
 have d:Hid (Bk W2 b 283 #[.slice A bs.length c,.bool false]):=by
  rw[<-hW2];have:=a.o.set 1 (.bool false);show Bk _ _ _ _;simpa using this
 have HT2:Hid (Txt W2 base b A bs.length c bs):=by rw[<-hW2];exact HT1.o.far rfl _
 have HB2:Hid (Below b w W2):=by rw[<-hW2];exact HB1.o.setCell (p:=⟨b,1,none⟩) aj _
 have k:W2.heap.size=w1.heap.size:=by rw[<-hW2];simp
 have d0:=d.o.cell 0;have g0:=d.o.free 0;simp at d0
 go_wp2_with (at_builtin;refine sF (.tmp 25) (.tmp 26) 213 9 rfl ?_)
 refine aI ?_;refine qR (base:=base) (av:=b) rfl (.tmp 25) (.tmp 26) 213 9 rfl 5 i0 Tryz.underlying213 Hi.o g.o i.o j.o A bs.length c bs rfl HT2.o (.string (ofL (ax (toL s)))) (ax (toL s)).length (ax (toL s)) rfl (tY (ofL (ax (toL s))) _) (by omega) (by omega) (by omega) ?_;intro A' c' w3 ht3 hb3 hk3;have f:Hid (Bk w3 b 283 #[.slice A bs.length c,.bool false]):=hk3.trans d.o;have HT3:=ai ht3;have HB3:Hid (Below b w w3):=HB2.o.trans (hb3.mono (by omega));have hz3:=hb3.size;have e0:=f.o.cell 0;have e1:=f.o.free 0;simp at e0;clear ht3 hb3 hk3 d0 g0 c0 c1 f1;go_wp2_with fail
 go_end0
 have hl: (bs++ax (toL s)).length=bs.length+ (ax (toL s)).length:=by simp
 refine⟨rfl,⟨⟨A',c',?_,?_⟩,hlt,by simp;omega⟩,HB3.o.setCell (p:=⟨b,0,none⟩) aj _,by simp;omega⟩
 . rw[hl];have:=f.o.set 0 (.slice A' (bs.length+ (ax (toL s)).length) c');show Bk _ _ _ _;simpa using this
 . rw[hl];exact HT3.o.far rfl _
@[go_sem] theorem Sz : Tryz.prog.eqGuardType Tryz.prog.depth 50 = false := by kernel_rfl
theorem Q9(dd:Nat)(a b c d:Int)(w:SX): (Op.equalIn (dd+2) 50 (.agg #[.int .u64 a,.int .u64 b]) (.agg #[.int .u64 c,.int .u64 d])).run Tryz.prog w= .ok (a == c && b == d) w:=by
 have u3:=Tryz.underlying48;have a3:=Tryz.isAgg48;have z3:=Tryz.sizeOf48;rw[Op.equalIn];simp only[Sem.run_bind,run_underlying Tryz.underlying50,Result.andThen_ok];simp only[Std.Legacy.Range.forIn_eq_forIn_range',Std.Legacy.Range.size,Nat.sub_zero,Nat.add_sub_cancel,Nat.div_one,List.range'_succ,List.range'_zero,List.forIn_cons,List.forIn_nil]
 go_simp
 by_cases h1:a=c <;> by_cases h2:b=d <;> simp[h1,h2]
@[go_sem high] theorem SI (a b c d : Int) (w : SX) : (Op.equalIn 10000 50 (.agg #[.int .u64 a, .int .u64 b]) (.agg #[.int .u64 c, .int .u64 d])).run Tryz.prog w = .ok (a == c && b == d) w := Q9 9998 a b c d w
def iH(d:SY):Array Tc:=#[.int .i64 1,.string d,.slice none 0 0,.int .u64 0,.int .u64 0,.slice none 0 0,.string ⟨#[]⟩,.int .i64 0,.string ⟨#[]⟩]
theorem KW{w:SX}{a:Array Tc}{b:Nat}{d:SY}(ha:a[2]?.getD undef= .pointer (some ⟨b,0,none⟩))(h:Bk w b 109 (iH d)): (results Tryz.f197 a).run Tryz.prog w= .ok (.agg (iH d)) w:=by
 have c0:=h.cell 0;have c1:=h.cell 1;have c2:=h.cell 2;have c3:=h.cell 3;have c4:=h.cell 4;have c5:=h.cell 5;have c6:=h.cell 6;have c7:=h.cell 7;have c8:=h.cell 8;simp[iH]at c0 c1 c2 c3 c4 c5 c6 c7 c8;simp[results,Tryz.results197,ha,go_sem,iH,c0,c1,c2,c3,c4,c5,c6,c7,c8]
theorem DX(d:SY)(w:SX):Calls Tryz.prog 197 #[.string d] w fun e w'=>e= .returned (.agg (iH d))/\Tf w w':=by
 go_enter Tryz.func197,Tryz.ntmps197
 go_wp2
 have hk:Bk (w.alloc (.cells (iH d) 109)) w.heap.size 109 (iH d):=Bk.new w _ _;exact ZW (KW rfl hk) rfl ⟨rfl,(ah _ w).alloc aj _⟩
theorem Jl(d:SY)(w:SX):Calls Tryz.prog 204 #[.agg (iH d)] w fun e w'=>e= .returned (.int .i64 0)/\Tf w w':=by
 unfold iH
 go_enter Tryz.func204,Tryz.ntmps204
 go_wp2
 all_goals (go_ret;exact⟨rfl,(ah _ w).alloc aj _⟩)
theorem Nv(d:SY)(w:SX)(hd:d.size<=60000):Calls Tryz.prog 125 #[.agg (iH d)] w fun e w'=>e= .returned (.tuple #[.string (ofL (ak 1++ax (toL d))),.int .i64 0])/\Tf w w':=by
 have hsd:=aT d;have hle: (ax (toL d)).length<=60006:=by
  have h1:=fP 5 d.size (by omega);unfold ax;rw[af,<-hsd];omega
 have hl1: (ak 1).length=1:=by rw[eG (by omega)];rfl
 have HC:=fun w=>ai (Jl d w);unfold iH at HC ⊢;obtain⟨W0,hW0⟩:=NX9 (w.alloc (.cells #[.int .i64 1,.string d,.slice none 0 0,.int .u64 0,.int .u64 0,.slice none 0 0,.string ⟨#[]⟩,.int .i64 0,.string ⟨#[]⟩] 109))
 have HB0:Ti w W0:=by rw[<-hW0];exact(ah _ w).alloc aj _
 have a:Hid (Bk W0 w.heap.size 109 #[.int .i64 1,.string d,.slice none 0 0,.int .u64 0,.int .u64 0,.slice none 0 0,.string ⟨#[]⟩,.int .i64 0,.string ⟨#[]⟩]):=by rw[<-hW0];exact Bk.new w _ _
 have j:W0.heap.size=w.heap.size+1:=by rw[<-hW0];simp
 have c:=HC W0;have c0:=a.o.cell 0;have c1:=a.o.cell 1;have c2:=a.o.cell 2;have c3:=a.o.cell 3;have c4:=a.o.cell 4;have c5:=a.o.cell 5;have c6:=a.o.cell 6;have c7:=a.o.cell 7;have c8:=a.o.cell 8;simp at c0 c1 c2 c3 c4 c5 c6 c7 c8;clear HC
 go_enter Tryz.func125,Tryz.ntmps125
 go_wp2_with fail;refine c.o.mono ?_;rintro e w1 ⟨rfl,hb1⟩;have HB1:Ti w w1:=HB0.o.trans (hb1.mono (by omega));have h:=ai (a.o.below hb1 (by omega));have hz1:=hb1.size;clear hb1 hW0 c0 c1 c2 c3 c4 c5 c6 c7 c8 c;obtain⟨W2,hW2⟩:=NX9 (w1.alloc (.cells #[.slice none 0 0,.bool false] 283))
 have k:W2.heap.size=w1.heap.size+1:=by rw[<-hW2];simp
 have HB2:Ti w1 W2:=by rw[<-hW2];exact(ah _ w1).alloc aj _
 have HW2:Hid (Wrt W2 w1.heap.size (w1.heap.size+1) []):=⟨⟨none,0,by rw[<-hW2];exact Bk.new w1 _ _,Txt.nil _ _ _ _⟩,by omega,by omega⟩
 have f:=ai (h.o.below HB2.o (by omega));have HN:=ai (kF w1.heap.size (w1.heap.size+1) 1 [] W2 HW2.o (by omega) (by simp));have c0:=f.o.cell 0;simp at c0
 go_wp2_with (go_at_call 205;refine HN.o.mono ?_;rintro e w3 ⟨rfl,hw3,hb3,hz3⟩;refine aP ?_)
 refine aI ?_;have HW3:=ai hw3;have HB3:Ti w1 w3:=HB2.o.trans hb3;have g:=ai (f.o.below hb3 (by omega));clear hw3 hb3 hW2 c0 HN;have HS:=ai (og w1.heap.size (w1.heap.size+1) d (([]:Td)++ak 1) w3 HW3.o (by omega) (by simp[hl1]));have c0:=g.o.cell 0;have c1:=g.o.cell 1;simp at c0 c1
 go_wp2_with (go_at_call 206;refine HS.o.mono ?_;rintro e w4 ⟨rfl,hw4,hb4,l⟩;refine aP ?_)
 refine aI ?_;obtain⟨A,cc,hk4,b⟩:=hw4.ex;rw[List.nil_append]at hk4 b;have hln: (ak 1++ax (toL d)).length<=60007:=by rw[af,hl1];omega
 have hlz:¬(65536:Int)< ((ak 1++ax (toL d)).length:Int):=by omega
 have HB4:Ti w1 w4:=HB3.o.trans hb4;have d0:=hk4.cell 0;have d1:=hk4.cell 1;simp only[List.getElem?_toArray,List.getElem?_cons_zero,List.getElem?_cons_succ]at d0 d1;have hcv:=b.run_string (P:=Tryz.prog) 213 9 5 Tryz.underlying213 Tryz.underlying5 Tryz.underlying9;obtain⟨bs,hbs⟩:=NX9 (ak 1++ax (toL d))
 rw[hbs]at d0 hcv hlz;have i:=ai hbs;clear hw4 hb4 hk4 b c0 c1 HS hln hbs;go_wp2_with fail;go_ret2
 refine⟨by rw[i.o];rfl,HB1.o.trans (HB4.o.mono (by omega))⟩
theorem JW(d:SY)(w:SX)(hd:d.size<=60000):Calls Tryz.prog 113 #[.agg (iH d)] w fun e w'=>e= .returned (.int .i64 0)/\Tf w w':=by
 have HE:=fun w=>ai (Nv d w hd);unfold iH at HE ⊢;have HB0:Hid (Tf w (w.alloc (.cells #[.int .i64 1,.string d,.slice none 0 0,.int .u64 0,.int .u64 0,.slice none 0 0,.string ⟨#[]⟩,.int .i64 0,.string ⟨#[]⟩] 109))):=(ah _ w).alloc aj _;have a:=HE (w.alloc (.cells #[.int .i64 1,.string d,.slice none 0 0,.int .u64 0,.int .u64 0,.slice none 0 0,.string ⟨#[]⟩,.int .i64 0,.string ⟨#[]⟩] 109));clear HE
 go_enter Tryz.func113,Tryz.ntmps113
 go_wp2_with (go_at_call 125;refine a.o.mono ?_;rintro e w1 ⟨rfl,hb1⟩)
 go_ret
 exact⟨rfl,HB0.o.trans (hb1.mono (by simp))⟩
def lS(S:List (Nat× (Tc->SX->Prop)))(vals:List Tc)(i:Nat)(v:Tc)(W:SX):Prop :=
 match S.lookup i with
 | some p=>p v W
 | none=>nP vals i v W
theorem Bl{β:Type _}:∀{S:List (Nat×β)}{i:Nat}{p:β},S.lookup i=some p->∃x∈S,x.2=p
 | [],i,p,h=>by cases h
 | (j,q)::S,i,p,h=>by
   rw[List.lookup_cons]at h;cases e:i == j with
   | true=>rw[e]at h;cases h;exact⟨_,List.mem_cons_self,rfl⟩
   | false =>
     rw[e]at h;obtain⟨x,hx,e⟩:=Bl h;exact⟨x,List.mem_cons_of_mem _ hx,e⟩
theorem rZ{S:List (Nat× (Tc->SX->Prop))}{vals:List Tc}(hS:∀x∈S,∀v W W',x.2 v W->Tf W W'->x.2 v W')(i:Nat)(v:Tc)(W W':SX)(h:lS S vals i v W)(hb:Tf W W'):lS S vals i v W':=by
 unfold lS at h ⊢;cases e:S.lookup i with
 | none=>rw[e]at h;exact h
 | some p =>
   rw[e]at h;obtain⟨x,hx,rfl⟩:=Bl e;exact hS x hx v W W' h hb
