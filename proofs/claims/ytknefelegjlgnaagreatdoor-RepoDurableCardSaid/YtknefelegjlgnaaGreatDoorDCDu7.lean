/-
  Lemmas of the card.
-/
import Derived.Deep.Upon
import Derived.Test.YtknefelegjlgnaaGreatDoorDCDu6
set_option maxRecDepth 100000
set_option maxHeartbeats 2000000
namespace Go.Proofs.YtknefelegjlgnaaGreatDoor
open Go.RowKit
def enC(e:Ent):List MS:= [.string e.nm,.bool e.dir,.int .u64 e.dg.1,.int .u64 e.dg.2]
def qK(e:Ent):MS:= .agg #[.string e.nm,.bool e.dir,.int .u64 e.dg.1,.int .u64 e.dg.2]
def dgC(d:Dig):List MS:= [.int .u64 d.1,.int .u64 d.2]
theorem pX(e:Ent): (enC e).length=4:=rfl
theorem fG(d:Dig): (dgC d).length=2:=rfl
theorem uW: (Tryz.prog.info? 185).map (fun i=>(i.zero,i.size,i.bytes))=some (some (.agg #[.string ⟨#[]⟩,.bool false,.int .u64 0,.int .u64 0]),4,40):=by kernel_rfl
theorem jv: (Tryz.prog.info? 50).map (fun i=>(i.zero,i.size,i.bytes))=some (some (.agg #[.int .u64 0,.int .u64 0]),2,16):=by kernel_rfl
theorem oF{fn:Func}{c:Tmp}(h:fn.results= #[.cell c 185]){w:MQ}{a:Array MS}{b:Nat}{x y z u:MS}(ha:a[c]?.getD undef= .pointer (some ⟨b,0,none⟩))(hk:Bk w b 185 #[x,y,z,u]) :
  (results fn a).run Tryz.prog w= .ok (.agg #[x,y,z,u]) w:=by
 have h0:=hk.cell 0;have h1:=hk.cell 1;have h2:=hk.cell 2;have h3:=hk.cell 3;simp at h0 h1 h2 h3;simp[results,h,ha,go_sem,h0,h1,h2,h3]
theorem Bk.four{w:MQ}{b:Nat}{t:TypeId}{x y z u:MS}(h:Bk w b t #[x,y,z,u]):w.cell? ⟨b,0,none⟩=some x/\w.cell? ⟨b,1,none⟩=some y/\w.cell? ⟨b,2,none⟩=some z/\w.cell? ⟨b,3,none⟩=some u:=by
 have h0:=h.cell 0;have h1:=h.cell 1;have h2:=h.cell 2;have h3:=h.cell 3;simp at h0 h1 h2 h3;exact⟨h0,h1,h2,h3⟩
theorem pY{w:MQ}{b:Nat}{t:TypeId}{x y z u:MS}(h:Bk w b t #[x,y,z,u])(x' y' z' u':MS):Bk ((((w.setCell ⟨b,0,none⟩ x').setCell ⟨b,1,none⟩ y').setCell ⟨b,2,none⟩ z').setCell ⟨b,3,none⟩ u') b t #[x',y',z',u']:=by
 have:=(((h.set 0 x').set 1 y').set 2 z').set 3 u'
 simpa using this
theorem Apd.gb{w w':MQ}{base size n c b:Nat}{e:TypeId}{A:OA}{xs:List MS}(h:Apd w base e size A n c xs)(hg:Gb (fun g=>g=b) w w')(hb:b<base):Apd w' base e size A n c xs:=by
 rcases h with h | h
 . refine .inl (h.kept (row:=some b) ⟨hg.os,hg.tape,hg.output,hg.size,fun k hk hn=>hg.block k hk (fun e=>hn (by rw[e]))⟩ ?_)
   cases hv: (Value.slice A n c).ownBlock with
   | none=>exact .inl rfl
   | some k =>
     have:=(h.lt k hv).1;exact .inr (fun e=>by cases e;omega)
 . exact .inr h
theorem Fx(b:Nat)(en:Ent)(r:MU)(w:MQ)(hk:Rdr w b (aQ en++r))(hok:gQ en)(hl: (aQ en++r).length<=1000000) :
  Calls Tryz.prog 146 #[.pointer (some ⟨b,0,none⟩)] w (RdE (qK en) b r w):=by
 have hns:=gJ hok.nm;have hbw:=Bk.lt hk;obtain⟨nm,dir,dg⟩:=en;obtain⟨d1,d2⟩:=dg;obtain⟨k,hkd⟩:∃k,(if dir=true then 1 else 0:Nat)=k:=⟨_,rfl⟩
 have hk1:k<=1:=by rw[<-hkd];split <;> omega
 have HDR:Hid (dir=decide (k=1)):=by show _=_;rw[<-hkd];cases dir <;> rfl
 unfold aQ at hk hl;simp only[hkd,Z4]at hk hl;have HWD:Hid (WfD (d1,d2)):=hok.dg;simp only at hns;have hl2: (aj k++ (ax (d1,d2)++r)).length<=1000000:=by rw[ae]at hl;omega
 have hl3: (ax (d1,d2)++r).length<=1000000:=by rw[ae]at hl2;omega
 have HL2:=ah hl2;have HL3:=ah hl3;obtain⟨W1,hW1⟩:∃W,w.alloc (.cells #[.string ⟨#[]⟩,.bool false,.int .u64 0,.int .u64 0] 185)=W:=⟨_,rfl⟩
 have HZ1:Hid (Bk W1 w.heap.size 185 #[.string ⟨#[]⟩,.bool false,.int .u64 0,.int .u64 0]):=by rw[<-hW1];exact Bk.new w _ _
 have hb1:Below w.heap.size w W1:=by rw[<-hW1];exact(af _ w).alloc ai _
 have zW1:W1.heap.size=w.heap.size+1:=by rw[<-hW1];simp
 have HG1:Hid (Gb (fun g=>g=b) w W1):=Gb.of_below hb1;have HS:=ah (lW b nm (aj k++ (ax (d1,d2)++r)) W1 (Bk.below hk hb1 hbw) (by omega) hl);clear hk hl hl2 hl3 hok hkd hb1
 go_enter Tryz.func146,Tryz.ntmps146
 go_wp2_with fail;refine HS.out.mono ?_;rintro e w2 ⟨rfl,hr2,hg2⟩;have HR2:=ah hr2;have z2:=hg2.size;have HG2:Hid (Gb (fun g=>g=b) w w2):=HG1.out.trans hg2;have HZ2:=ah (hg2.bk HZ1.out (by show ¬w.heap.size=b;omega));clear hr2 hg2 hW1 HS;obtain⟨W3,hW3⟩:∃W,w2.alloc (.cells #[.string nm,.bool false,.int .u64 0,.int .u64 0] 185)=W:=⟨_,rfl⟩
 have HY3:Hid (Bk W3 w2.heap.size 185 #[.string nm,.bool false,.int .u64 0,.int .u64 0]):=by rw[<-hW3];exact Bk.new w2 _ _
 have hb3:Below w2.heap.size w2 W3:=by rw[<-hW3];exact(af _ w2).alloc ai _
 have zW3:W3.heap.size=w2.heap.size+1:=by rw[<-hW3];simp
 have HG3:Hid (Gb (fun g=>g=b) w W3):=HG2.out.trans (Gb.of_below hb3);have HZ3:=ah (HZ2.out.below hb3 (by omega));have HN:=ah (jf b k (ax (d1,d2)++r) W3 (Bk.below HR2.out hb3 (by omega)) (by omega) HL2.out);have HW3:=ah hW3;clear hb3 hW3;go_wp2_with fail;rw[HW3.out];refine HN.out.mono ?_;rintro e w4 ⟨rfl,hr4,hg4⟩;have z4:=hg4.size;have HG4:Hid (Gb (fun g=>g=b) w w4):=HG3.out.trans hg4;have HZ4:=ah (hg4.bk HZ3.out (by show ¬w.heap.size=b;omega));have HY4:=ah (hg4.bk HY3.out (by show ¬w2.heap.size=b;omega));have HR4:=ah hr4;obtain⟨x0,x1,f0,f1⟩:=Bk.two hr4;obtain⟨y0,y1,y2,y3⟩:=HY4.out.four;have g1:=HY4.out.free 1;obtain⟨W5,hW5⟩:∃W,(w4.setCell ⟨b,1,none⟩ (.bool false)).setCell ⟨w2.heap.size,1,none⟩ (.bool (decide (k=1)))=W:=⟨_,rfl⟩
 have hne1:b≠w2.heap.size:=by omega
 have hne2:b≠w.heap.size:=by omega
 have HR5:Hid (Rdr W5 b (ax (d1,d2)++r)):=by
  rw[<-hW5];have:=(HR4.out.set 1 (.bool false)).far (p:=⟨w2.heap.size,1,none⟩) hne1 (.bool (decide (k=1)));show Bk _ _ _ _;simpa using this
 have HY5:Hid (Bk W5 w2.heap.size 185 #[.string nm,.bool (decide (k=1)),.int .u64 0,.int .u64 0]):=by
  rw[<-hW5];have:=(HY4.out.far (p:=⟨b,1,none⟩) hne1.symm (.bool false)).set 1 (.bool (decide (k=1)));show Bk _ _ _ _;simpa using this
 have HZ5:Hid (Bk W5 w.heap.size 185 #[.string ⟨#[]⟩,.bool false,.int .u64 0,.int .u64 0]):=by
  rw[<-hW5];exact(HZ4.out.far (p:=⟨b,1,none⟩) hne2.symm _).far (p:=⟨w2.heap.size,1,none⟩) (by show w.heap.size≠w2.heap.size;omega) _
 have zW5:W5.heap.size=w4.heap.size:=by rw[<-hW5];simp[World.setCell]
 have HG5:Hid (Gb (fun g=>g=b) w W5):=by
  rw[<-hW5];exact(HG4.out.trans (Gb.set (p:=fun g=>g=b) (x:=b) rfl 1 _)).after (by omega) 1 _
 have HD:=ah (rz b (d1,d2) r W5 HR5.out HWD.out HL3.out);have hkz:decide ((1:Int)< (k:Int))=false:=by simp;omega
 have hkd: ((k:Int) == 1)=decide (k=1):=by
  rw[Bool.eq_iff_iff];simp;omega
 clear hr4 hg4 HN HW3;go_wp2_with fail;refine HD.out.mono ?_;rintro e w6 ⟨rfl,hr6,hg6⟩;have HY6:=ah (hg6.bk HY5.out (by show ¬w2.heap.size=b;omega));have HZ6:=ah (hg6.bk HZ5.out (by show ¬w.heap.size=b;omega));have HR6:=ah hr6;have HG6:Hid (Gb (fun g=>g=b) w w6):=HG5.out.trans hg6;clear x0 x1 f0 f1 y0 y1 y2 y3 g1 hr6 hg6 hW5 HD;simp only[aB];obtain⟨y0,y1,y2,y3⟩:=HY6.out.four;have g2:=HY6.out.free 2;have g3:=HY6.out.free 3;obtain⟨z0,z1,z2',z3⟩:=HZ6.out.four;obtain⟨e0,e1,e2,e3⟩:=fr4 HZ6.out;have hzy:w.heap.size≠w2.heap.size:=by omega
 go_wp2_with fail;refine ZY (oF Tryz.results146 rfl (pY ((HZ6.out.far (p:=⟨w2.heap.size,2,none⟩) hzy _).far (p:=⟨w2.heap.size,3,none⟩) hzy _) _ _ _ _)) rfl ⟨by rw[<-HDR.out];rfl,?_,?_⟩
 . exact(((((HR6.out.far (p:=⟨w2.heap.size,2,none⟩) hne1 _).far (p:=⟨w2.heap.size,3,none⟩) hne1 _).far (p:=⟨w.heap.size,0,none⟩) hne2 _).far (p:=⟨w.heap.size,1,none⟩) hne2 _).far (p:=⟨w.heap.size,2,none⟩) hne2 _).far (p:=⟨w.heap.size,3,none⟩) hne2 _
 . exact(((((HG6.out.after (by omega) 2 _).after (by omega) 3 _).after ai 0 _).after ai 1 _).after ai 2 _).after ai 3 _
theorem Js(b:Nat)(d:Dig)(r:MU)(w:MQ)(hk:Rdr w b (ax d++r))(hd:WfD d)(hl: (ax d++r).length<=1000000) :
  Calls Tryz.prog 147 #[.pointer (some ⟨b,0,none⟩)] w (RdE (aB d) b r w):=rz b d r w hk hd hl
def RlE(t:TypeId)(sz:Nat)(xs:List MS)(n b:Nat)(r:MU)(w:MQ)(e:Ending)(w':MQ):Prop :=
 ∃A c,e= .returned (.slice A n c)/\n<=c/\c<=maxLen/\Apd w' w.heap.size t sz A n c xs/\Rdr w' b r/\Gb (fun g=>g=b) w w'
theorem Gb.onto{p:Nat->Prop}{a b c:MQ}(h:Gb p a b)(k:Below a.heap.size b c):Gb p a c:=⟨k.os.trans h.os,k.tape.trans h.tape,k.output.trans h.output,Z0 h.size k.size,fun i hi hp=>(k.block i hi).trans (h.block i hi hp)⟩
theorem pF{P:Program}{ops:Array Oper}{rest:List Oper}{o:Oper}{a:Act}{w:MQ}{Q:Exit->Act->MQ->Prop}(s x:Operand)(t:TypeId)(_:o.op= .call {callee:= .builtin .append,args:=#[s,x],argTypes:=#[t,t]})
  (h:Hid (wpList P ops Q (o::rest) a w)):wpList P ops Q (o::rest) a w:=h
theorem oG{α β:Type}{f:α->List β}{l:List α}{k:Nat}{x:α}(h:l[k]? =some x): (l.drop k).flatMap f=f x++ (l.drop (k+1)).flatMap f:=by
 have hk:=List.getElem?_eq_some_iff.1 h;have e:l.drop k=x::l.drop (k+1):=by rw[<-hk.2,List.getElem_cons_drop]
 rw[e,List.flatMap_cons]
theorem FU(b:Nat)(es:List Ent)(r:MU)(w:MQ)(hk:Rdr w b (aj es.length++ (es.flatMap aQ++r)))(hok:∀e∈es,gQ e)(hn:es.length<=200)(hl: (aj es.length++ (es.flatMap aQ++r)).length<=1000000) :
  Calls Tryz.prog 145 #[.pointer (some ⟨b,0,none⟩),.int .i64 200,.func (.func 146) #[.pointer (some ⟨b,0,none⟩)] #[]] w (RlE 185 4 (flat enC es) es.length b r w):=by
 have hbw:=Bk.lt hk;obtain⟨n,hne⟩:∃n,es.length=n:=⟨_,rfl⟩
 rw[hne]at hk hl hn ⊢;have HLN:=ah hne;have hl2: (es.flatMap aQ++r).length<=1000000:=by rw[ae]at hl;omega
 have HL2:=ah hl2;have HOK:=ah hok;have HN:=ah (jf b n (es.flatMap aQ++r) w hk (by omega) hl);obtain⟨i0,hi,hz0,hz1,hz2⟩:=info_parts uW;have Hi:=ah hi;have Hz0:=ah hz0;have Hz1:=ah hz1;have Hz2:=ah hz2;clear hk hl hl2 hok hi hz0 hz1 hz2 hne
 go_enter Tryz.func145,Tryz.ntmps145
 go_wp2_with fail;refine HN.out.mono ?_;rintro e w1 ⟨rfl,hr1,hg1⟩;have HR1:=ah hr1;obtain⟨x0,x1,f0,f1⟩:=Bk.two hr1;have z1:=hg1.size;obtain⟨W2,hW2⟩:∃W,w1.setCell ⟨b,1,none⟩ (.bool false)=W:=⟨_,rfl⟩
 have HR2:Hid (Rdr W2 b (es.flatMap aQ++r)):=by
  rw[<-hW2];have:=HR1.out.set 1 (.bool false);show Bk _ _ _ _;simpa using this
 have HG2:Hid (Gb (fun g=>g=b) w W2):=by rw[<-hW2];exact hg1.trans (Gb.set (p:=fun g=>g=b) (x:=b) rfl 1 _)
 have hmz:decide ((200:Int)< (n:Int))=false:=by simp;omega
 clear hr1 hg1 HN;go_wp2_with fail;clear hW2 x0 x1 f0 f1
 go_loopw[8,9] (fun l i wr=>∃(j:Nat)(Aj:OA)(cj:Nat),l= .slice Aj j cj/\i= .int .i64 (j:Int)/\j<=n/\j<=cj/\cj<=maxLen/\Hid (Apd wr w.heap.size 185 4 Aj j cj (flat enC (es.take j)))/\Hid (Rdr wr b ((es.drop j).flatMap aQ++r))/\Hid (Gb (fun g=>g=b) w wr)) (fun _ i _=>n - (intOf i).toNat)
 case atStart=>exact⟨0,none,0,rfl,rfl,ZZ _,Nat.le_refl _,ZZ _,.inr ⟨rfl,rfl,rfl⟩,HR2.out,HG2.out⟩
 case round =>
  obtain⟨j,Aj,cj,rfl,rfl,hj,hjc,hcm,hA,hR,hG⟩:=hrel;obtain⟨x0,x1,_,_⟩:=Bk.two hR.out;have zr:=hG.out.size;by_cases hlt:j<n
  . have hjz: (j:Int)< (n:Int):=by omega
    obtain⟨en,hen⟩:∃en,es[j]? =some en:=⟨_,Z6 (by rw[HLN.out];exact hlt)⟩
    have HE:=ah hen;have hR2:=hR.out;rw[oG hen,Z4]at hR2;have hln: (aQ en++ ((es.drop (j+1)).flatMap aQ++r)).length<=1000000:=by
     have h:=HL2.out;rw[<-List.take_append_drop j es,List.flatMap_append,oG hen,Z4,Z4,ae]at h;omega
    have HC:=ah (Fx b en ((es.drop (j+1)).flatMap aQ++r) wr hR2 (HOK.out en (Z7 hen)) hln);clear hen hR2 hln
    go_wp2_with (first | (go_at_call 146;refine HC.out.mono ?_;rintro e w3 ⟨rfl,hr3,hg3⟩;simp only[qK]) | (at_builtin;refine pF (.tmp 36) (.tmp 39) 107 rfl ?_))
    refine aF ?_;have z3:=hg3.size;refine dw (base:=w.heap.size) (size:=4) _ rfl (.tmp 36) (.tmp 39) 107 rfl 185 i0 _ 40 Tryz.underlying107 Hi.out Hz0.out Hz1.out Hz2.out rfl (by decide) Aj j cj (flat enC (es.take j)) rfl ?own_1 (w3.heap.size+1) _ 1 _ (enC en) rfl ?nw_1 (by simp[enC,Value.oneCell']) ?m1_1 ?m2_1 ?m3_1 ?_
    case own_1=>exact(hA.out.gb hg3 hbw).below ((af _ w3).alloc ai _)
    case nw_1 =>
     have:=Sl.of_bk (n:=1) (size:=4) (Bk.new w3 185 #[.string en.nm,.bool en.dir,.int .u64 en.dg.1,.int .u64 en.dg.2]) rfl;rw[Z9]at this;exact this
    case m1_1=>unfold maxLen;omega
    case m2_1=>omega
    case m3_1=>simp;omega
    intro A4 c4 w4 ha4 hb4 hn4 hm4 hok4;have HA4:Hid (Apd w4 w.heap.size 185 4 A4 (j+1) c4 (flat enC (es.take (j+1)))):=by
     show Apd _ _ _ _ _ _ _ _;rw[aS HE.out,bu]
     simpa [flat] using ha4
    have hbo:Below w.heap.size w3 w4:=((af w.heap.size w3).alloc (by omega) _).trans hb4;have HG4:Hid (Gb (fun g=>g=b) w w4):=(hG.out.trans hg3).onto hbo;have HR4:Hid (Rdr w4 b ((es.drop (j+1)).flatMap aQ++r)):=Bk.below hr3 hbo hbw;clear ha4 hb4 hok4 hr3 hg3 hbo HC x0 x1;go_wp2_with fail;go_roundw
    case rel=>exact⟨j+1,A4,c4,rfl,by go_num,hlt,hn4,hm4,HA4.out,HR4.out,HG4.out⟩
    case measure=>simp[intOf];omega
  . have hjz:¬(j:Int)< (n:Int):=by omega
    have hjn:n=j:=by omega
    subst hjn;have HS:Hid (Apd wr w.heap.size 185 4 Aj n cj (flat enC es)):=by
     have:=hA.out;rw[ZW (by rw[HLN.out];exact Nat.le_refl _)]at this;exact this
    have HR3:Hid (Rdr wr b r):=by
     have:=hR.out;rw[List.drop_of_length_le (by rw[HLN.out];exact Nat.le_refl _)]at this;exact this
    go_wp2_with fail;go_ret
    exact⟨Aj,cj,rfl,hjc,hcm,HS.out,HR3.out,hG.out⟩
theorem EY(b:Nat)(es:List Dig)(r:MU)(w:MQ)(hk:Rdr w b (aj es.length++ (es.flatMap ax++r)))(hok:∀e∈es,WfD e)(hn:es.length<=8)(hl: (aj es.length++ (es.flatMap ax++r)).length<=1000000) :
  Calls Tryz.prog 148 #[.pointer (some ⟨b,0,none⟩),.int .i64 8,.func (.func 147) #[.pointer (some ⟨b,0,none⟩)] #[]] w (RlE 50 2 (flat dgC es) es.length b r w):=by
 have hbw:=Bk.lt hk;obtain⟨n,hne⟩:∃n,es.length=n:=⟨_,rfl⟩
 rw[hne]at hk hl hn ⊢;have HLN:=ah hne;have hl2: (es.flatMap ax++r).length<=1000000:=by rw[ae]at hl;omega
 have HL2:=ah hl2;have HOK:=ah hok;have HN:=ah (jf b n (es.flatMap ax++r) w hk (by omega) hl);obtain⟨i0,hi,hz0,hz1,hz2⟩:=info_parts jv;have Hi:=ah hi;have Hz0:=ah hz0;have Hz1:=ah hz1;have Hz2:=ah hz2;clear hk hl hl2 hok hi hz0 hz1 hz2 hne
 go_enter Tryz.func148,Tryz.ntmps148
 go_wp2_with fail;refine HN.out.mono ?_;rintro e w1 ⟨rfl,hr1,hg1⟩;have HR1:=ah hr1;obtain⟨x0,x1,f0,f1⟩:=Bk.two hr1;have z1:=hg1.size;obtain⟨W2,hW2⟩:∃W,w1.setCell ⟨b,1,none⟩ (.bool false)=W:=⟨_,rfl⟩
 have HR2:Hid (Rdr W2 b (es.flatMap ax++r)):=by
  rw[<-hW2];have:=HR1.out.set 1 (.bool false);show Bk _ _ _ _;simpa using this
 have HG2:Hid (Gb (fun g=>g=b) w W2):=by rw[<-hW2];exact hg1.trans (Gb.set (p:=fun g=>g=b) (x:=b) rfl 1 _)
 have hmz:decide ((8:Int)< (n:Int))=false:=by simp;omega
 clear hr1 hg1 HN;go_wp2_with fail;clear hW2 x0 x1 f0 f1
 go_loopw[8,9] (fun l i wr=>∃(j:Nat)(Aj:OA)(cj:Nat),l= .slice Aj j cj/\i= .int .i64 (j:Int)/\j<=n/\j<=cj/\cj<=maxLen/\Hid (Apd wr w.heap.size 50 2 Aj j cj (flat dgC (es.take j)))/\Hid (Rdr wr b ((es.drop j).flatMap ax++r))/\Hid (Gb (fun g=>g=b) w wr)) (fun _ i _=>n - (intOf i).toNat)
 case atStart=>exact⟨0,none,0,rfl,rfl,ZZ _,Nat.le_refl _,ZZ _,.inr ⟨rfl,rfl,rfl⟩,HR2.out,HG2.out⟩
 case round =>
  obtain⟨j,Aj,cj,rfl,rfl,hj,hjc,hcm,hA,hR,hG⟩:=hrel;obtain⟨x0,x1,_,_⟩:=Bk.two hR.out;have zr:=hG.out.size;by_cases hlt:j<n
  . have hjz: (j:Int)< (n:Int):=by omega
    obtain⟨en,hen⟩:∃en,es[j]? =some en:=⟨_,Z6 (by rw[HLN.out];exact hlt)⟩
    have HE:=ah hen;have hR2:=hR.out;rw[oG hen,Z4]at hR2;have hln: (ax en++ ((es.drop (j+1)).flatMap ax++r)).length<=1000000:=by
     have h:=HL2.out;rw[<-List.take_append_drop j es,List.flatMap_append,oG hen,Z4,Z4,ae]at h;omega
    have HC:=ah (Js b en ((es.drop (j+1)).flatMap ax++r) wr hR2 (HOK.out en (Z7 hen)) hln);clear hen hR2 hln
    go_wp2_with (first | (go_at_call 147;refine HC.out.mono ?_;rintro e w3 ⟨rfl,hr3,hg3⟩;simp only[aB]) | (at_builtin;refine pF (.tmp 36) (.tmp 39) 47 rfl ?_))
    refine aF ?_;have z3:=hg3.size;refine dw (base:=w.heap.size) (size:=2) _ rfl (.tmp 36) (.tmp 39) 47 rfl 50 i0 _ 16 Tryz.underlying47 Hi.out Hz0.out Hz1.out Hz2.out rfl (by decide) Aj j cj (flat dgC (es.take j)) rfl ?own_1 (w3.heap.size+1) _ 1 _ (dgC en) rfl ?nw_1 (by simp[dgC,Value.oneCell']) ?m1_1 ?m2_1 ?m3_1 ?_
    case own_1=>exact(hA.out.gb hg3 hbw).below ((af _ w3).alloc ai _)
    case nw_1 =>
     have:=Sl.of_bk (n:=1) (size:=2) (Bk.new w3 50 #[.int .u64 en.1,.int .u64 en.2]) rfl;rw[Z9]at this;exact this
    case m1_1=>unfold maxLen;omega
    case m2_1=>omega
    case m3_1=>simp;omega
    intro A4 c4 w4 ha4 hb4 hn4 hm4 hok4;have HA4:Hid (Apd w4 w.heap.size 50 2 A4 (j+1) c4 (flat dgC (es.take (j+1)))):=by
     show Apd _ _ _ _ _ _ _ _;rw[aS HE.out,bu]
     simpa [flat] using ha4
    have hbo:Below w.heap.size w3 w4:=((af w.heap.size w3).alloc (by omega) _).trans hb4;have HG4:Hid (Gb (fun g=>g=b) w w4):=(hG.out.trans hg3).onto hbo;have HR4:Hid (Rdr w4 b ((es.drop (j+1)).flatMap ax++r)):=Bk.below hr3 hbo hbw;clear ha4 hb4 hok4 hr3 hg3 hbo HC x0 x1;go_wp2_with fail;go_roundw
    case rel=>exact⟨j+1,A4,c4,rfl,by go_num,hlt,hn4,hm4,HA4.out,HR4.out,HG4.out⟩
    case measure=>simp[intOf];omega
  . have hjz:¬(j:Int)< (n:Int):=by omega
    have hjn:n=j:=by omega
    subst hjn;have HS:Hid (Apd wr w.heap.size 50 2 Aj n cj (flat dgC es)):=by
     have:=hA.out;rw[ZW (by rw[HLN.out];exact Nat.le_refl _)]at this;exact this
    have HR3:Hid (Rdr wr b r):=by
     have:=hR.out;rw[List.drop_of_length_le (by rw[HLN.out];exact Nat.le_refl _)]at this;exact this
    go_wp2_with fail;go_ret
    exact⟨Aj,cj,rfl,hjc,hcm,HS.out,HR3.out,hG.out⟩
def bc(l:MU):List MS:=l.map fun b=>Value.int .u8 b.toNat
theorem fQ(l:MU): (bc l).length=l.length:=by simp[bc]
theorem sj(l r:MU):bc (l++r)=bc l++bc r:=by simp[bc]
structure Txt(w:MQ)(base av:Nat)(A:OA)(n c:Nat)(bs:MU):Prop where
 len:bs.length=n
 le:n<=c
 max:c<=maxLen
 lies:0<c->∃b off,A=some ⟨b,off,none⟩/\ (base<=b/\b≠av)/\b<w.heap.size/\ (∀j,j<n->w.cell? ⟨b,off+j,none⟩= (bc bs)[j]?)/\ (∀j,j<c-> (w.cell? ⟨b,off+j,none⟩).isSome=true/\w.frozen? ⟨b,off+j,none⟩=false)
section
variable {w w' : MQ} {base av n c : Nat} {A : OA} {bs : MU}
theorem Txt.nil(w:MQ)(base av:Nat)(A:OA):Txt w base av A 0 0 []:=⟨rfl,Nat.le_refl _,ZZ _,fun h=>absurd h (by omega)⟩
theorem Txt.keep(h:Txt w base av A n c bs)(hs:w.heap.size<=w'.heap.size)(hk:∀k,k<w.heap.size->w'.heap[k]? =w.heap[k]?):Txt w' base av A n c bs :=
 ⟨h.len,h.le,h.max,fun h0=>by
   obtain⟨b,off,e,hb,hl,hc,hf⟩:=h.lies h0;have ec:∀o,w'.cell? ⟨b,o,none⟩=w.cell? ⟨b,o,none⟩:=fun o=>World.cell?_of_block (a:=⟨b,o,none⟩) (hk b hl);have ef:∀o,w'.frozen? ⟨b,o,none⟩=w.frozen? ⟨b,o,none⟩:=fun o=>World.frozen?_of_block (a:=⟨b,o,none⟩) (hk b hl);exact⟨b,off,e,hb,by omega,fun j hj=>(ec _).trans (hc j hj),fun j hj=>⟨by rw[ec];exact(hf j hj).1,(ef _).trans (hf j hj).2⟩⟩⟩
theorem Txt.below(h:Txt w base av A n c bs)(hb:Below w.heap.size w w'):Txt w' base av A n c bs:=h.keep hb.size fun k hk=>hb.block k hk
theorem Txt.avoid{av':Nat}(h:Txt w base av A n c bs)(ha:w.heap.size<=av'):Txt w base av' A n c bs :=
 ⟨h.len,h.le,h.max,fun h0=>by
   obtain⟨b,off,e,h1,h2,h3⟩:=h.lies h0;exact⟨b,off,e,⟨h1.1,by omega⟩,h2,h3⟩⟩
theorem wE{B b:Nat}(hb:B<=b):∀(vs:List MS)(o:Nat)(w:MQ),Below B w (w.setCells b o vs)
 | [],_,w=>af _ w
 | v::vs,o,w=>((af B w).setCell (p:=⟨b,o,none⟩) hb v).trans (wE hb vs (o+1) _)
theorem wJ(b:Nat):∀(vs:List MS)(o:Nat)(w:MQ),(w.setCells b o vs).heap.size=w.heap.size
 | [],_,_=>rfl
 | v::vs,o,w=>by
   show((w.setCell ⟨b,o,none⟩ v).setCells b (o+1) vs).heap.size=_;rw[wJ b vs];simp
theorem wC{b k:Nat}(hb:b≠k):∀(vs:List MS)(o:Nat)(w:MQ),(w.setCells b o vs).heap[k]? =w.heap[k]?
 | [],_,_=>rfl
 | v::vs,o,w=>(wC hb vs (o+1) _).trans (Z8 w ⟨b,o,none⟩ v k (fun e=>hb e.symm))
variable {P : Program}
theorem Txt.run_append(h:Txt w base av A n c bs)(t tx ty e:TypeId)(i:TypeInfo)(ht:P.underlying t=some (.slice e))(hi:P.info? e=some i)(hz:i.zero=some (.int .u8 0))(hsize:i.size=1)(hby:i.bytes=1)
  (x:MS) (m:Nat) (ys:MU) (hs:Src P 1 tx x m (bc ys) w) (hmax:n+m<=140737488355328) (hbase:base<=w.heap.size) (hav:av<w.heap.size) :
  ∃A' c' w',(Builtin.append_ #[t,tx] ty #[.slice A n c,x]).run P w= .ok (.slice A' (n+m) c') w'/\Txt w' base av A' (n+m) c' (bs++ys)/\Below base w w'/\w'.heap[av]? =w.heap[av]? :=by
 have hnl:=hs.newsLen;rw[fQ,Nat.mul_one]at hnl;have hs':Src P i.size tx x m (bc ys) w:=by rw[hsize];exact hs
 by_cases hfit:n+m<=c
 . rcases Nat.eq_zero_or_pos c with h0 | hc
   . subst h0
     obtain rfl:n=0:=by omega
     obtain rfl:m=0:=by omega
     obtain rfl:ys= []:=List.eq_nil_of_length_eq_zero hnl;exact⟨A,0,w,run_append_nothing (P:=P) w t tx ty e i ht hi A 0 0 ai x hs',by simpa using h,af _ _,rfl⟩
   . obtain⟨b,off,rfl,hb,hl,hcell,hfree⟩:=h.lies hc
     have hsome:∀j,j< (bc ys).length-> (w.cell? ⟨b,off+n*i.size+j,none⟩).isSome=true:=fun j hj=>by
      rw[fQ]at hj;rw[hsize,Nat.mul_one,Nat.add_assoc];exact(hfree (n+j) (by omega)).1
     have hrun:=run_append_room_src (P:=P) w t tx ty e i ht hi b off n c x m (bc ys) hs' hfit hsome (fun j hj=>by
      rw[fQ]at hj;rw[hsize,Nat.mul_one,Nat.add_assoc];exact(hfree (n+j) (by omega)).2)
     refine⟨_,_,_,hrun,⟨by rw[ae,h.len];omega,hfit,h.max,fun _=>⟨b,off,rfl,hb,by rw[wJ];exact hl,fun j hj=>?_,fun j hj=>⟨?_,?_⟩⟩⟩,wE hb.1 _ _ _,wC hb.2 _ _ _⟩
     . by_cases hj':j<n
       . rw[World.cell?_setCells_out b _ _ _ _ (fun _ _=> .inl (by show off+j<off+n*i.size;rw[hsize];omega)),hcell j hj',sj,List.getElem?_append_left (by rw[fQ,h.len];exact hj')]
       . have:=World.cell?_setCells_in b (bc ys) (off+n*i.size) w hsome (j - n) (by rw[fQ];omega)
         rw[hsize,Nat.mul_one,show off+n+ (j - n)=off+j by omega]at this;rw[hsize,Nat.mul_one,this,sj,List.getElem?_append_right (by rw[fQ,h.len];omega),show(bc bs).length=n by rw[fQ,h.len]];exact(Z6 _).symm
     . by_cases hj':n<=j/\j<n+m
       . have:=World.cell?_setCells_in b (bc ys) (off+n*i.size) w hsome (j - n) (by rw[fQ];omega)
         rw[hsize,Nat.mul_one,show off+n+ (j - n)=off+j by omega]at this;rw[hsize,Nat.mul_one,this];rfl
       . rw[World.cell?_setCells_out b _ _ _ _ (fun _ _=>by show off+j<off+n*i.size∨off+n*i.size+ (bc ys).length<=off+j;rw[hsize,fQ];omega)]
         exact(hfree j hj).1
     . rw[World.frozen?_setCells];exact(hfree j hj).2
 . have hold: (Builtin.firstCells i.size n (.slice A n c)).run P w.drew= .ok (bc bs).toArray w.drew:=by
     rw[hsize];rcases Nat.eq_zero_or_pos c with h0 | hc
     . subst h0
       obtain rfl:n=0:=by have:=h.le;omega
       obtain rfl:bs= []:=List.eq_nil_of_length_eq_zero h.len;cases A with
       | none=>exact run_firstCells_none w.drew 1 0 0 0
       | some a'=>exact run_firstCells_some w.drew 1 0 a' 0 0 [] (by simp) (by intro _ _ h';simp at h')
     . obtain⟨b,off,rfl,hb,hl,hcell,hfree⟩:=h.lies hc
       refine run_firstCells_some w.drew 1 n ⟨b,off,none⟩ n c (bc bs) (by rw[fQ,h.len];omega) (fun j u hu=>?_);rw[Addr.add_lit];have hj:j<n:=by have:=(List.getElem?_eq_some_iff.1 hu).1;rwa[fQ,h.len]at this
       exact(hcell j hj).trans hu
   have hg:c<n+m:=by omega
   have h63:n+m<=maxLen:=by unfold maxLen;omega
   have hrun:=run_append_grow_src (P:=P) w t tx ty e i (.int .u8 0) ht hi hz A n c (bc bs) hold x m (bc ys) hs' hg (by omega) (growslice_fits hg (by rw[hby];omega));have hge:=grownCap_ge w (n+m) c e;have hcm:=grownCap_le_maxLen w (n+m) c e h63;refine⟨_,_,_,hrun,⟨by rw[ae,h.len];omega,hge,hcm,fun _=>⟨w.heap.size,0,rfl,⟨hbase,by omega⟩,?_,fun j hj=>?_,fun j hj=>⟨?_,?_⟩⟩⟩,((af base w).drew).alloc hbase _,Below.heap_alloc w.drew _ av hav⟩
   . have: (w.drew.alloc (.cells ((bc bs++bc ys).toArray++Builtin.zeroCells (Value.int .u8 0).cells (grownCap w (n+m) c e - (n+m))) e)).heap.size=w.heap.size+1:=Z9 _ _
     omega
   . have e1: (w.drew.alloc (.cells ((bc bs++bc ys).toArray++Builtin.zeroCells (Value.int .u8 0).cells (grownCap w (n+m) c e - (n+m))) e)).cell? ⟨w.heap.size,j,none⟩=_:=World.cell?_alloc_new w.drew _ _ j
     rw[Nat.zero_add,e1,Array.getElem?_append_left (by simp only[List.size_toArray,ae,fQ,h.len];omega),List.getElem?_toArray,sj]
   . have e1: (w.drew.alloc (.cells ((bc bs++bc ys).toArray++Builtin.zeroCells (Value.int .u8 0).cells (grownCap w (n+m) c e - (n+m))) e)).cell? ⟨w.heap.size,j,none⟩=_:=World.cell?_alloc_new w.drew _ _ j
     rw[Nat.zero_add,e1];have hsz: ((bc bs++bc ys).toArray++Builtin.zeroCells (Value.int .u8 0).cells (grownCap w (n+m) c e - (n+m))).size=grownCap w (n+m) c e:=by
      rw[Array.size_append,List.size_toArray,ae,fQ,fQ,h.len,hnl,size_zeroCells];show n+m+ (grownCap w (n+m) c e - (n+m))*1=_;omega
     rw[Array.getElem?_eq_getElem (by rw[hsz];exact hj)];rfl
   . rw[Nat.zero_add];exact World.frozen?_alloc_new w.drew _ _ j
theorem nP{ops:Array Oper}{rest:List Oper}{o:Oper}{a:Act}{Q:Exit->Act->MQ->Prop}(hgd:o.guard=none)(s x:Operand)(t tx:TypeId)
  (ho:o.op= .call {callee:= .builtin .append,args:=#[s,x],argTypes:=#[t,tx]})
  (e:TypeId) (i:TypeInfo) (ht:P.underlying t=some (.slice e)) (hi:P.info? e=some i) (hz:i.zero=some (.int .u8 0)) (hsize:i.size=1) (hby:i.bytes=1)
  (A:OA) (n c:Nat) (bs:MU) (hv:a.eval s= .slice A n c) (h:Txt w base av A n c bs)
  (xv:MS) (m:Nat) (ys:MU) (hx:a.eval x=xv) (hs:Src P 1 tx xv m (bc ys) w) (hmax:n+m<=140737488355328) (hbase:base<=w.heap.size) (hav:av<w.heap.size)
  (hK:∀A' c' w',Txt w' base av A' (n+m) c' (bs++ys)->Below base w w'->w'.heap[av]? =w.heap[av]? ->wpList P ops Q rest (a.put o.dst (.slice A' (n+m) c')) w'):wpList P ops Q (o::rest) a w:=by
 refine wpList_plain hgd fun K hK'=>?_;obtain⟨A',c',w',hrun,h1,h2,h3⟩:=h.run_append (P:=P) t tx o.type e i ht hi hz hsize hby xv m ys hs hmax hbase hav;unfold Oper.wp;simp[execOp,ho,resolve,invoke,builtin,hv,hx,hrun,Result.andThen];exact hK' _ _ (hK A' c' w' h1 h2 h3)
theorem Hw(src dst e:TypeId)(s:MR)(hs:P.underlying src=some .string)(hd:P.underlying dst=some (.slice e))(he:P.underlying e=some (.int .u8))(hz:s.size<=maxLen)(w:MQ) :
  ∃A c w',(convert src dst (.string s)).run P w= .ok (.slice A s.size c) w'/\Txt w' w.heap.size (w.heap.size+1) A s.size c (toL s)/\Below w.heap.size w w':=by
 refine⟨_,_,_,Lib.run_convert_string_bytes (P:=P) w src dst e s hs hd he,⟨(aP s).symm,grownCap_ge w s.size 0 e,grownCap_le_maxLen w s.size 0 e hz,fun _=>⟨w.heap.size,0,rfl,⟨Nat.le_refl _,by omega⟩,by rw[Lib.bytesWorld_size];omega,fun j hj=>?_,fun j hj=>⟨?_,?_⟩⟩⟩,?_⟩
 . rw[Nat.zero_add,Lib.bytesWorld_cell w e s j hj]
   have hj':j<s.data.toList.length:=by rw[aP]at hj;exact hj
   simp[bc,toL,List.getD,Z6 hj']
 . have hsz: (Lib.bytesCells w e s).size=grownCap w s.size 0 e:=by
     have:=grownCap_ge w s.size 0 e;rw[Lib.bytesCells,Array.size_append,Array.size_map,Array.size_replicate];show s.size+_=_;omega
   rw[Nat.zero_add];simp[World.cell?,Lib.bytesWorld_at_new,hsz,hj]
 . have hsz: (Lib.bytesCells w e s).size=grownCap w s.size 0 e:=by
     have:=grownCap_ge w s.size 0 e;rw[Lib.bytesCells,Array.size_append,Array.size_map,Array.size_replicate];show s.size+_=_;omega
   rw[Nat.zero_add];simp[World.frozen?,Lib.bytesWorld_at_new,hsz];omega
 . exact⟨rfl,rfl,rfl,by rw[Lib.bytesWorld_size];omega,fun k hk=>Lib.bytesWorld_at_old w e s k hk⟩
theorem Txt.run_string(h:Txt w base av A n c bs)(src dst e:TypeId)(hs:P.underlying src=some (.slice e))(he:P.underlying e=some (.int .u8))(hd:P.underlying dst=some .string) :
  (convert src dst (.slice A n c)).run P w= .ok (.string (ofL bs)) w:=by
 rcases Nat.eq_zero_or_pos c with h0 | hc
 . subst h0
   obtain rfl:n=0:=by have:=h.le;omega
   obtain rfl:bs= []:=List.eq_nil_of_length_eq_zero h.len;cases A with
   | none=>exact run_convert_bytes_nil w src e hs he 0 0 dst hd
   | some a=>exact run_convert_bytes_back w src dst e a 0 [] hs he hd (fun j hj=>by simp at hj)
 . obtain⟨b,off,rfl,_,_,hcell,_⟩:=h.lies hc
   have:=run_convert_bytes_back (P:=P) w src dst e ⟨b,off,none⟩ c bs hs he hd (fun j hj=>by
    rw[Addr.add_lit,hcell j (by rw[<-h.len];exact hj)];simp[bc,Z6 hj])
   rw[h.len]at this;exact this
end
section
open Go.Maps
def pG(l:List MR):MR->Option MS:=fun s=>if fM l s then some (.bool true) else none
theorem Ll:pG []=fun _=>none:=by funext s;simp[pG,fM]
theorem Bz(l:List MR)(x:MR):pG (l++ [x])=upd (pG l) x (.bool true):=by
 funext t
 unfold pG upd fM;by_cases e:t=x
 . subst e;simp
 . have h: ((l++ [x]).any fun y=>decide (y=t))=l.any fun y=>decide (y=t):=by
     rw[List.any_append];simp[Ne.symm e]
   rw[h,if_neg e]
theorem LD(l:List MR)(x:MR): (pG l x).getD (.bool false)= .bool (fM l x):=by unfold pG;cases fM l x <;> rfl
theorem Apd.grown{w w':MQ}{base size n c:Nat}{e:TypeId}{A:OA}{xs:List MS}{row:Option Nat}(h:Apd w base e size A n c xs)(hg:w.grownBy w' row)(hr:∀k,row=some k->k<base):Apd w' base e size A n c xs:=by
 rcases h with h | h
 . refine .inl (h.kept hg ?_)
   cases hv: (Value.slice A n c).ownBlock with
   | none=>exact .inl rfl
   | some k=>exact .inr fun e=>by have h1:=iw h k hv;have h2:=hr k e.symm;omega
 . exact .inr h
end
theorem pQ(s:MR)(w:MQ):Src Tryz.prog 1 9 (.string s) s.size (bc (toL s)) w:=Src.ofString (P:=Tryz.prog) w Tryz.underlying9 s
theorem kT: (Tryz.prog.info? 5).map (fun i=>(i.zero,i.size,i.bytes))=some (some (.int .u8 0),1,1):=by kernel_rfl
theorem Txt.far{w:MQ}{base av n c:Nat}{A:OA}{bs:MU}(h:Txt w base av A n c bs){p:Addr}(hp:p.block=av)(u:MS):Txt (w.setCell p u) base av A n c bs :=
 ⟨h.len,h.le,h.max,fun h0=>by
   obtain⟨b,off,e,h1,h2,h3,h4⟩:=h.lies h0;have hb: (w.setCell p u).heap[b]? =w.heap[b]? :=Z8 w p u b (by rw[hp];exact h1.2);have ec:∀o,(w.setCell p u).cell? ⟨b,o,none⟩=w.cell? ⟨b,o,none⟩:=fun o=>World.cell?_of_block (a:=⟨b,o,none⟩) hb;have ef:∀o,(w.setCell p u).frozen? ⟨b,o,none⟩=w.frozen? ⟨b,o,none⟩:=fun o=>World.frozen?_of_block (a:=⟨b,o,none⟩) hb;exact⟨b,off,e,h1,by simpa using h2,fun j hj=>(ec _).trans (h3 j hj),fun j hj=>⟨by rw[ec];exact(h4 j hj).1,(ef _).trans (h4 j hj).2⟩⟩⟩
theorem pg{P:Program}{ops:Array Oper}{rest:List Oper}{o:Oper}{a:Act}{w:MQ}{Q:Exit->Act->MQ->Prop}(s x:Operand)(t tx:TypeId)(_:o.op= .call {callee:= .builtin .append,args:=#[s,x],argTypes:=#[t,tx]})
  (h:Hid (wpList P ops Q (o::rest) a w)):wpList P ops Q (o::rest) a w:=h
structure Wrt(w:MQ)(b base:Nat)(bs:MU):Prop where
 ex:∃A c,Bk w b 283 #[.slice A bs.length c,.bool false]/\Txt w base b A bs.length c bs
 lt:b<base
 le:base<=w.heap.size
theorem Wrt.below{w w':MQ}{b base:Nat}{bs:MU}(h:Wrt w b base bs)(hb:Below w.heap.size w w'):Wrt w' b base bs:=by
 obtain⟨A,c,h1,h2⟩:=h.ex;exact⟨⟨A,c,h1.below hb h1.lt,h2.below hb⟩,h.lt,Z0 h.le hb.size⟩
def vz(b base:Nat)(bs:MU)(w:MQ)(e:Ending)(w':MQ):Prop:=e= .returned (.tuple #[])/\Wrt w' b base bs/\Below b w w'/\w.heap.size<=w'.heap.size
theorem je(b base k:Nat)(bs:MU)(w:MQ)(h:Wrt w b base bs)(hk:k<=1099511627776)(hn:bs.length<=1000000) :
  Calls Tryz.prog 205 #[.pointer (some ⟨b,0,none⟩),.int .i64 k] w (vz b base (bs++aj k) w):=by
 have HP:=ah (lX k hk w);have H:=ah h;have hle:=eu 5 k (by omega);obtain⟨i0,hi,hz0,hz1,hz2⟩:=info_parts kT;have Hi:=ah hi;have Hz0:=ah hz0;have Hz1:=ah hz1;have Hz2:=ah hz2;clear h hi hz0 hz1 hz2
 go_enter Tryz.func205,Tryz.ntmps205
 go_wp2_with (go_at_call 107;refine HP.out.mono ?_;rintro e w1 ⟨rfl,hb1⟩;refine aM ?_)
 refine aF ?_;have H1:=H.out.below hb1;obtain⟨A,c,hk1,ht1⟩:=H1.ex;have hlt:=H1.lt;have hbase:=H1.le;have HB1:Hid (Below b w w1):=hb1.mono (by have:=H.out.lt;have:=H.out.le;omega);have hz1:=hb1.size;have HK1:=ah hk1;have HT1:=ah ht1;have c0:=HK1.out.cell 0;have c1:=HK1.out.cell 1;have f1:=HK1.out.free 1;simp at c0 c1;clear hb1 H1 hk1 ht1;obtain⟨W2,hW2⟩:∃W2,w1.setCell ⟨b,1,none⟩ (.bool false)=W2:=⟨_,rfl⟩
 have HK2:Hid (Bk W2 b 283 #[.slice A bs.length c,.bool false]):=by
  rw[<-hW2];have:=HK1.out.set 1 (.bool false);show Bk _ _ _ _;simpa using this
 have HT2:Hid (Txt W2 base b A bs.length c bs):=by rw[<-hW2];exact HT1.out.far rfl _
 have HB2:Hid (Below b w W2):=by rw[<-hW2];exact HB1.out.setCell (p:=⟨b,1,none⟩) ai _
 have zW2:W2.heap.size=w1.heap.size:=by rw[<-hW2];simp
 have d0:=HK2.out.cell 0;have g0:=HK2.out.free 0;simp at d0
 go_wp2_with (at_builtin;refine pg (.tmp 26) (.tmp 27) 213 9 rfl ?_)
 refine aF ?_;refine nP (base:=base) (av:=b) rfl (.tmp 26) (.tmp 27) 213 9 rfl 5 i0 Tryz.underlying213 Hi.out Hz0.out Hz1.out Hz2.out A bs.length c bs rfl HT2.out (.string (ofL (aj k))) (aj k).length (aj k) rfl (pQ (ofL (aj k)) _) (by omega) (by omega) (by omega) ?_;intro A' c' w3 ht3 hb3 hk3;have HK3:Hid (Bk w3 b 283 #[.slice A bs.length c,.bool false]):=hk3.trans HK2.out;have HT3:=ah ht3;have HB3:Hid (Below b w w3):=HB2.out.trans (hb3.mono (by omega));have hz3:=hb3.size;have e0:=HK3.out.cell 0;have e1:=HK3.out.free 0;simp at e0;clear ht3 hb3 hk3 d0 g0 c0 c1 f1;go_wp2_with fail
 go_end0
 have hl: (bs++aj k).length=bs.length+ (aj k).length:=by simp
 refine⟨rfl,⟨⟨A',c',?_,?_⟩,hlt,by simp;omega⟩,HB3.out.setCell (p:=⟨b,0,none⟩) ai _,by simp;omega⟩
 . rw[hl];have:=HK3.out.set 0 (.slice A' (bs.length+ (aj k).length) c');show Bk _ _ _ _;simpa using this
 . rw[hl];exact HT3.out.far rfl _
theorem lQ(b base:Nat)(s:MR)(bs:MU)(w:MQ)(h:Wrt w b base bs)(hk:s.size<=65536)(hn:bs.length<=1000000) :
  Calls Tryz.prog 206 #[.pointer (some ⟨b,0,none⟩),.string s] w (vz b base (bs++ak (toL s)) w):=by
 have HP:=ah (rG s hk w);have H:=ah h;have hle: (ak (toL s)).length<=70000:=by
  have h1:=eu 5 s.size (by omega);have h2:=aP s;unfold ak;rw[ae,<-h2];omega
 obtain⟨i0,hi,hz0,hz1,hz2⟩:=info_parts kT;have Hi:=ah hi;have Hz0:=ah hz0;have Hz1:=ah hz1;have Hz2:=ah hz2;clear h hi hz0 hz1 hz2
 go_enter Tryz.func206,Tryz.ntmps206
 go_wp2_with (go_at_call 178;refine HP.out.mono ?_;rintro e w1 ⟨rfl,hb1⟩;refine aM ?_)
 refine aF ?_;have H1:=H.out.below hb1;obtain⟨A,c,hk1,ht1⟩:=H1.ex;have hlt:=H1.lt;have hbase:=H1.le;have HB1:Hid (Below b w w1):=hb1.mono (by have:=H.out.lt;have:=H.out.le;omega);have hz1:=hb1.size;have HK1:=ah hk1;have HT1:=ah ht1;have c0:=HK1.out.cell 0;have c1:=HK1.out.cell 1;have f1:=HK1.out.free 1;simp at c0 c1;clear hb1 H1 hk1 ht1;obtain⟨W2,hW2⟩:∃W2,w1.setCell ⟨b,1,none⟩ (.bool false)=W2:=⟨_,rfl⟩
 have HK2:Hid (Bk W2 b 283 #[.slice A bs.length c,.bool false]):=by
  rw[<-hW2];have:=HK1.out.set 1 (.bool false);show Bk _ _ _ _;simpa using this
 have HT2:Hid (Txt W2 base b A bs.length c bs):=by rw[<-hW2];exact HT1.out.far rfl _
 have HB2:Hid (Below b w W2):=by rw[<-hW2];exact HB1.out.setCell (p:=⟨b,1,none⟩) ai _
 have zW2:W2.heap.size=w1.heap.size:=by rw[<-hW2];simp
 have d0:=HK2.out.cell 0;have g0:=HK2.out.free 0;simp at d0
 go_wp2_with (at_builtin;refine pg (.tmp 25) (.tmp 26) 213 9 rfl ?_)
 refine aF ?_;refine nP (base:=base) (av:=b) rfl (.tmp 25) (.tmp 26) 213 9 rfl 5 i0 Tryz.underlying213 Hi.out Hz0.out Hz1.out Hz2.out A bs.length c bs rfl HT2.out (.string (ofL (ak (toL s)))) (ak (toL s)).length (ak (toL s)) rfl (pQ (ofL (ak (toL s))) _) (by omega) (by omega) (by omega) ?_;intro A' c' w3 ht3 hb3 hk3;have HK3:Hid (Bk w3 b 283 #[.slice A bs.length c,.bool false]):=hk3.trans HK2.out;have HT3:=ah ht3;have HB3:Hid (Below b w w3):=HB2.out.trans (hb3.mono (by omega));have hz3:=hb3.size;have e0:=HK3.out.cell 0;have e1:=HK3.out.free 0;simp at e0;clear ht3 hb3 hk3 d0 g0 c0 c1 f1;go_wp2_with fail
 go_end0
 have hl: (bs++ak (toL s)).length=bs.length+ (ak (toL s)).length:=by simp
 refine⟨rfl,⟨⟨A',c',?_,?_⟩,hlt,by simp;omega⟩,HB3.out.setCell (p:=⟨b,0,none⟩) ai _,by simp;omega⟩
 . rw[hl];have:=HK3.out.set 0 (.slice A' (bs.length+ (ak (toL s)).length) c');show Bk _ _ _ _;simpa using this
 . rw[hl];exact HT3.out.far rfl _
@[go_sem] theorem MB : Tryz.prog.eqGuardType Tryz.prog.depth 50 = false := by kernel_rfl
theorem LF(dd:Nat)(a b c d:Int)(w:MQ): (Op.equalIn (dd+2) 50 (.agg #[.int .u64 a,.int .u64 b]) (.agg #[.int .u64 c,.int .u64 d])).run Tryz.prog w= .ok (a == c && b == d) w:=by
 have u3:=Tryz.underlying48;have a3:=Tryz.isAgg48;have z3:=Tryz.sizeOf48;rw[Op.equalIn];simp only[Sem.run_bind,run_underlying Tryz.underlying50,Result.andThen_ok];simp only[Std.Legacy.Range.forIn_eq_forIn_range',Std.Legacy.Range.size,Nat.sub_zero,Nat.add_sub_cancel,Nat.div_one,List.range'_succ,List.range'_zero,List.forIn_cons,List.forIn_nil]
 go_simp
 by_cases h1:a=c <;> by_cases h2:b=d <;> simp[h1,h2]
@[go_sem high] theorem MN (a b c d : Int) (w : MQ) : (Op.equalIn 10000 50 (.agg #[.int .u64 a, .int .u64 b]) (.agg #[.int .u64 c, .int .u64 d])).run Tryz.prog w = .ok (a == c && b == d) w := LF 9998 a b c d w
def fV(d:MR):Array MS:=#[.int .i64 1,.string d,.slice none 0 0,.int .u64 0,.int .u64 0,.slice none 0 0,.string ⟨#[]⟩,.int .i64 0,.string ⟨#[]⟩]
theorem FV{w:MQ}{a:Array MS}{b:Nat}{d:MR}(ha:a[2]?.getD undef= .pointer (some ⟨b,0,none⟩))(h:Bk w b 109 (fV d)): (results Tryz.f197 a).run Tryz.prog w= .ok (.agg (fV d)) w:=by
 have c0:=h.cell 0;have c1:=h.cell 1;have c2:=h.cell 2;have c3:=h.cell 3;have c4:=h.cell 4;have c5:=h.cell 5;have c6:=h.cell 6;have c7:=h.cell 7;have c8:=h.cell 8;simp[fV]at c0 c1 c2 c3 c4 c5 c6 c7 c8;simp[results,Tryz.results197,ha,go_sem,fV,c0,c1,c2,c3,c4,c5,c6,c7,c8]
theorem zq(d:MR)(w:MQ):Calls Tryz.prog 197 #[.string d] w fun e w'=>e= .returned (.agg (fV d))/\Below w.heap.size w w':=by
 go_enter Tryz.func197,Tryz.ntmps197
 go_wp2
 have hk:Bk (w.alloc (.cells (fV d) 109)) w.heap.size 109 (fV d):=Bk.new w _ _;exact ZY (FV rfl hk) rfl ⟨rfl,(af _ w).alloc ai _⟩
theorem Ey(d:MR)(w:MQ):Calls Tryz.prog 204 #[.agg (fV d)] w fun e w'=>e= .returned (.int .i64 0)/\Below w.heap.size w w':=by
 unfold fV
 go_enter Tryz.func204,Tryz.ntmps204
 go_wp2
 all_goals (go_ret;exact⟨rfl,(af _ w).alloc ai _⟩)
theorem Jk(d:MR)(w:MQ)(hd:d.size<=60000):Calls Tryz.prog 125 #[.agg (fV d)] w fun e w'=>e= .returned (.tuple #[.string (ofL (aj 1++ak (toL d))),.int .i64 0])/\Below w.heap.size w w':=by
 have hsd:=aP d;have hle: (ak (toL d)).length<=60006:=by
  have h1:=eu 5 d.size (by omega);unfold ak;rw[ae,<-hsd];omega
 have hl1: (aj 1).length=1:=by rw[dK (by omega)];rfl
 have HC:=fun w=>ah (Ey d w);unfold fV at HC ⊢;obtain⟨W0,hW0⟩:∃W0,w.alloc (.cells #[.int .i64 1,.string d,.slice none 0 0,.int .u64 0,.int .u64 0,.slice none 0 0,.string ⟨#[]⟩,.int .i64 0,.string ⟨#[]⟩] 109)=W0:=⟨_,rfl⟩
 have HB0:Hid (Below w.heap.size w W0):=by rw[<-hW0];exact(af _ w).alloc ai _
 have HK0:Hid (Bk W0 w.heap.size 109 #[.int .i64 1,.string d,.slice none 0 0,.int .u64 0,.int .u64 0,.slice none 0 0,.string ⟨#[]⟩,.int .i64 0,.string ⟨#[]⟩]):=by rw[<-hW0];exact Bk.new w _ _
 have zW0:W0.heap.size=w.heap.size+1:=by rw[<-hW0];simp
 have HC0:=HC W0;have c0:=HK0.out.cell 0;have c1:=HK0.out.cell 1;have c2:=HK0.out.cell 2;have c3:=HK0.out.cell 3;have c4:=HK0.out.cell 4;have c5:=HK0.out.cell 5;have c6:=HK0.out.cell 6;have c7:=HK0.out.cell 7;have c8:=HK0.out.cell 8;simp at c0 c1 c2 c3 c4 c5 c6 c7 c8;clear HC
 go_enter Tryz.func125,Tryz.ntmps125
 go_wp2_with fail;refine HC0.out.mono ?_;rintro e w1 ⟨rfl,hb1⟩;have HB1:Hid (Below w.heap.size w w1):=HB0.out.trans (hb1.mono (by omega));have HK1:=ah (HK0.out.below hb1 (by omega));have hz1:=hb1.size;clear hb1 hW0 c0 c1 c2 c3 c4 c5 c6 c7 c8 HC0;obtain⟨W2,hW2⟩:∃W2,w1.alloc (.cells #[.slice none 0 0,.bool false] 283)=W2:=⟨_,rfl⟩
 have zW2:W2.heap.size=w1.heap.size+1:=by rw[<-hW2];simp
 have HB2:Hid (Below w1.heap.size w1 W2):=by rw[<-hW2];exact(af _ w1).alloc ai _
 have HW2:Hid (Wrt W2 w1.heap.size (w1.heap.size+1) []):=⟨⟨none,0,by rw[<-hW2];exact Bk.new w1 _ _,Txt.nil _ _ _ _⟩,by omega,by omega⟩
 have HK2:=ah (HK1.out.below HB2.out (by omega));have HN:=ah (je w1.heap.size (w1.heap.size+1) 1 [] W2 HW2.out (by omega) (by simp));have c0:=HK2.out.cell 0;simp at c0
 go_wp2_with (go_at_call 205;refine HN.out.mono ?_;rintro e w3 ⟨rfl,hw3,hb3,hz3⟩;refine aM ?_)
 refine aF ?_;have HW3:=ah hw3;have HB3:Hid (Below w1.heap.size w1 w3):=HB2.out.trans hb3;have HK3:=ah (HK2.out.below hb3 (by omega));clear hw3 hb3 hW2 c0 HN;have HS:=ah (lQ w1.heap.size (w1.heap.size+1) d (([]:MU)++aj 1) w3 HW3.out (by omega) (by simp[hl1]));have c0:=HK3.out.cell 0;have c1:=HK3.out.cell 1;simp at c0 c1
 go_wp2_with (go_at_call 206;refine HS.out.mono ?_;rintro e w4 ⟨rfl,hw4,hb4,hz4⟩;refine aM ?_)
 refine aF ?_;obtain⟨A,cc,hk4,ht4⟩:=hw4.ex;rw[List.nil_append]at hk4 ht4;have hln: (aj 1++ak (toL d)).length<=60007:=by rw[ae,hl1];omega
 have hlz:¬(65536:Int)< ((aj 1++ak (toL d)).length:Int):=by omega
 have HB4:Hid (Below w1.heap.size w1 w4):=HB3.out.trans hb4;have d0:=hk4.cell 0;have d1:=hk4.cell 1;simp only[List.getElem?_toArray,List.getElem?_cons_zero,List.getElem?_cons_succ]at d0 d1;have hcv:=ht4.run_string (P:=Tryz.prog) 213 9 5 Tryz.underlying213 Tryz.underlying5 Tryz.underlying9;obtain⟨bs,hbs⟩:∃bs,aj 1++ak (toL d)=bs:=⟨_,rfl⟩
 rw[hbs]at d0 hcv hlz;have HBS:=ah hbs;clear hw4 hb4 hk4 ht4 c0 c1 HS hln hbs;go_wp2_with fail;go_ret2
 refine⟨by rw[HBS.out];rfl,HB1.out.trans (HB4.out.mono (by omega))⟩
theorem Fs(d:MR)(w:MQ)(hd:d.size<=60000):Calls Tryz.prog 113 #[.agg (fV d)] w fun e w'=>e= .returned (.int .i64 0)/\Below w.heap.size w w':=by
 have HE:=fun w=>ah (Jk d w hd);unfold fV at HE ⊢;have HB0:Hid (Below w.heap.size w (w.alloc (.cells #[.int .i64 1,.string d,.slice none 0 0,.int .u64 0,.int .u64 0,.slice none 0 0,.string ⟨#[]⟩,.int .i64 0,.string ⟨#[]⟩] 109))):=(af _ w).alloc ai _;have HE0:=HE (w.alloc (.cells #[.int .i64 1,.string d,.slice none 0 0,.int .u64 0,.int .u64 0,.slice none 0 0,.string ⟨#[]⟩,.int .i64 0,.string ⟨#[]⟩] 109));clear HE
 go_enter Tryz.func113,Tryz.ntmps113
 go_wp2_with (go_at_call 125;refine HE0.out.mono ?_;rintro e w1 ⟨rfl,hb1⟩)
 go_ret
 exact⟨rfl,HB0.out.trans (hb1.mono (by simp))⟩
def lH(S:List (Nat× (MS->MQ->Prop)))(vals:List MS)(i:Nat)(v:MS)(W:MQ):Prop :=
 match S.lookup i with
 | some p=>p v W
 | none=>lI vals i v W
theorem xQ{β:Type _}:∀{S:List (Nat×β)}{i:Nat}{p:β},S.lookup i=some p->∃x∈S,x.2=p
 | [],i,p,h=>by cases h
 | (j,q)::S,i,p,h=>by
   rw[List.lookup_cons]at h;cases e:i == j with
   | true=>rw[e]at h;cases h;exact⟨_,List.mem_cons_self,rfl⟩
   | false =>
     rw[e]at h;obtain⟨x,hx,e⟩:=xQ h;exact⟨x,List.mem_cons_of_mem _ hx,e⟩
theorem sQ{S:List (Nat× (MS->MQ->Prop))}{vals:List MS}(hS:∀x∈S,∀v W W',x.2 v W->Below W.heap.size W W'->x.2 v W')(i:Nat)(v:MS)(W W':MQ)(h:lH S vals i v W)(hb:Below W.heap.size W W'):lH S vals i v W':=by
 unfold lH at h ⊢;cases e:S.lookup i with
 | none=>rw[e]at h;exact h
 | some p =>
   rw[e]at h;obtain⟨x,hx,rfl⟩:=xQ e;exact hS x hx v W W' h hb
end Go.Proofs.YtknefelegjlgnaaGreatDoor
