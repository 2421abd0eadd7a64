/-
  Lemmas of the card.
-/
import Derived.Test.YtknefelegjlgnaaGreatDoorDCDu22
set_option maxRecDepth 100000
set_option maxHeartbeats 8000000
namespace Go.Proofs.YtknefelegjlgnaaGreatDoor
open Go.RowKit
section
open Go.Maps
def pt1(q:MR):MR:=q.extract (aK (toL q)).2.1 q.size
def pt2(q:MR):MR:=q.extract (aX (toL q)).2.1 q.size
theorem Iq(q:MR):rdU (toL q)=if(((false || (aK (toL q)).2.2 != 0) || (aX (toL (pt1 q))).2.2 != 0) || (aX (toL (pt2 (pt1 q)))).2.2 != 0)=true then none
  else some ((ofL (aK (toL q)).1,(aX (toL (pt1 q))).1,(aX (toL (pt2 (pt1 q)))).1),toL (pt2 (pt2 (pt1 q)))):=by
 have e1:toL (pt1 q)= (toL q).drop (aK (toL q)).2.1:=oZ _ _;unfold rdU;by_cases h1: (aK (toL q)).2.2=0
 . by_cases h2: (toL (pt1 q)).length<16
   . have g2:aX (toL (pt1 q))= ((0,0),0,13):=by unfold aX;rw[if_pos h2]
     rw[if_pos (.inr (by rw[e1,List.length_drop]at h2;omega)),if_pos (by rw[g2];simp)]
   . have g2:aX (toL (pt1 q))= (dg (toL (pt1 q)),16,0):=by unfold aX;rw[if_neg h2]
     have e2:toL (pt2 (pt1 q))= (toL q).drop ((aK (toL q)).2.1+16):=by
      rw[pt2,oZ,g2,e1,List.drop_drop]
     by_cases h3: (toL (pt2 (pt1 q))).length<16
     . have g3:aX (toL (pt2 (pt1 q)))= ((0,0),0,13):=by unfold aX;rw[if_pos h3]
       rw[if_pos (.inr (by rw[e2,List.length_drop]at h3;omega)),if_pos (by rw[g3];simp)]
     . have g3:aX (toL (pt2 (pt1 q)))= (dg (toL (pt2 (pt1 q))),16,0):=by unfold aX;rw[if_neg h3]
       have e3:toL (pt2 (pt2 (pt1 q)))= (toL q).drop ((aK (toL q)).2.1+32):=by
        rw[show pt2 (pt2 (pt1 q))= (pt2 (pt1 q)).extract (aX (toL (pt2 (pt1 q)))).2.1 (pt2 (pt1 q)).size from rfl,oZ,g3,e2,List.drop_drop];rfl
       rw[if_neg (by rw[e2,List.length_drop]at h3;simp[h1];omega),if_neg (by rw[g2,g3];simp[h1]),g2,g3,e1,e2,e3]
 . rw[if_pos (.inl h1),if_pos (by simp[h1])]
theorem I9(k:Nat)(l:MU)(acc:List Upd):fin acc (rdL (k+1) l)=match rdU l with | none=>([],13) | some (u,r)=>if df u≠0 then([],13) else fin (acc++ [u]) (rdL k r):=by
 rw[rdL];cases rdU l with
 | none=>rfl
 | some p =>
   obtain⟨u,r⟩:=p;simp only;cases rdL k r with
   | none=>simp[fin]
   | some p2 =>
     obtain⟨us,q⟩:=p2;simp only[fin,di];by_cases hp:df u=0
     . simp[hp]
     . simp[hp]
theorem uT(q:MR)(h:q.size<=1000000): (pt1 q).size<=1000000/\ (pt2 q).size<=1000000:=by
 unfold pt1 pt2;rw[ByteArray.size_extract,ByteArray.size_extract];omega
theorem Apd.gbp{p:Nat->Prop}{w w':MQ}{base size n c:Nat}{e:TypeId}{A:OA}{xs:List MS}(h:Apd w base e size A n c xs)(hg:Gb p w w')(hp:∀k,base<=k->¬p k):Apd w' base e size A n c xs:=by
 rcases h with h | h
 . refine .inl ⟨h.1,?_⟩
   rcases h.2 with h0 | ⟨g,cap,cur,hv,h1,hh,h2⟩
   . exact .inl h0
   . exact .inr ⟨g,cap,cur,hv,h1,(hg.block g (Array.getElem?_eq_some_iff.1 hh).1 (hp g h1)).trans hh,h2⟩
 . exact .inr h
theorem Gb.then2{r u:Nat}{a b c:MQ}(h:Gb (fun x=>x=r) a b)(g:Gb (fun x=>x=r∨x=u) b c)(hu:a.heap.size<=u):Gb (fun x=>x=r) a c :=
 ⟨g.os.trans h.os,g.tape.trans h.tape,g.output.trans h.output,Z0 h.size g.size,fun i hi hn=>(g.block i (Nat.lt_of_lt_of_le hi h.size) (by rintro (e | e);exact hn e;omega)).trans (h.block i hi hn)⟩
theorem Fb(l:MU): (aK l).1.length<=l.length:=by
 unfold aK;split
 . simp
 . split
   . simp
   . split
     . simp
     . simp only[List.length_take,List.length_drop];omega
def qm(s:MR)(n j:Nat)(q:MR)(bad:Bool)(acc:List Upd):Prop:=dP (toL s)=if bad=true then([],13) else fin acc (rdL (n - j) (toL q))
theorem DI(s:MR)(w:MQ)(hs:s.size<=1000000):Calls Tryz.prog 142 #[.string s] w (qi (dP (toL s)) w):=by
 have HR:Hid (∀r,dP (toL s)=r->∀e w',qi r w e w'->qi (dP (toL s)) w e w'):=fun r h e w' hh=>by rw[h];exact hh
 have HD:Hid (dP (toL s)=if(ay (toL s)).2.2≠0∨1000< (ay (toL s)).1 then([],13) else fin [] (rdL (ay (toL s)).1 ((toL s).drop (ay (toL s)).2.1))):=rfl;obtain⟨i0,hi,hz0,hz1,hz2⟩:=info_parts qo;have Hi:=ah hi;have Hz0:=ah hz0;have Hz1:=ah hz1;have Hz2:=ah hz2;clear hi hz0 hz1 hz2;have K0:Hid (Bk ((w.alloc (.cells #[.string s,.bool false] 302)).alloc (.cells #[.func (.func 224) #[] #[],.func (.func 227) #[] #[],.func (.func 230) #[] #[]] 305)) w.heap.size 302 #[.string s,.bool false]):=(Bk.new w 302 _).alloc _;have P0:Hid (Bk ((w.alloc (.cells #[.string s,.bool false] 302)).alloc (.cells #[.func (.func 224) #[] #[],.func (.func 227) #[] #[],.func (.func 230) #[] #[]] 305)) (w.heap.size+1) 305 #[.func (.func 224) #[] #[],.func (.func 227) #[] #[],.func (.func 230) #[] #[]]):=by
  have:=Bk.new (w.alloc (.cells #[.string s,.bool false] 302)) 305 #[.func (.func 224) #[] #[],.func (.func 227) #[] #[],.func (.func 230) #[] #[]];rw[Z9]at this;exact this
 have HB0:Hid (Below w.heap.size w ((w.alloc (.cells #[.string s,.bool false] 302)).alloc (.cells #[.func (.func 224) #[] #[],.func (.func 227) #[] #[],.func (.func 230) #[] #[]] 305))):=((af _ w).alloc ai _).alloc (by simp) _
 go_enter Tryz.func142,Tryz.ntmps142
 go_wp2_with fail;refine(Ew w.heap.size s false _ K0.out).mono ?_;obtain⟨q0,hq0⟩:∃q,s.extract (ay (toL s)).2.1 s.size=q:=⟨_,rfl⟩
 rw[hq0];have HQ0:Hid (toL q0= (toL s).drop (ay (toL s)).2.1):=by show _=_;rw[<-hq0];exact oZ _ _
 have hq0s:q0.size<=1000000:=by rw[<-hq0,ByteArray.size_extract];omega
 have hgm:=uk (toL s);clear hq0;generalize ay (toL s)=g at *;obtain⟨n,k,e⟩:=g;simp only at HD HQ0 hgm ⊢;rintro e' w1 ⟨rfl,k1,g1⟩;have hz1:w.heap.size+2<=w1.heap.size:=by have:=g1.size;simp at this;omega
 have K1:=ah k1;have P1:=ah (g1.bk P0.out (by simp));have HB1:=ah (HB0.out.trans (g1.below (B:=w.heap.size) (by simp;omega) (fun k hk e=>by omega)));obtain⟨x0,x1,f0,f1⟩:=k1.agg;clear k1 g1;by_cases he:e=0
 . subst he
   by_cases hn:1000<n
   . have hni: (1000:Int)< (n:Int):=by omega
     have hn0: (0:Int)< (n:Int):=by omega
     have hfin:Hid (dP (toL s)= ([],13)):=by show _=_;rw[HD.out,if_pos (.inr hn)]
     have hr1:=K1.out.set 1 (.bool true);have y1:=hr1.cell 1;simp at y1;clear hr1
     go_wp2
     refine wp_loop_rounds 1 ?_;rw[rounds_succ]
     go_wp2
     go_ret2
     exact lM hfin.out (HB1.out.setCell (p:=⟨w.heap.size,1,none⟩) ai _)
   . have hni:¬(1000:Int)< (n:Int):=by omega
     have hnd:decide ((1000:Int)< (n:Int))=false:=by simpa using hni
     have HI0:Hid (qm s n 0 q0 false []):=by
      show dP (toL s)=_;rw[HD.out,HQ0.out,if_neg (by simp;omega)];rfl
     have KB:Hid (Bk (w1.setCell ⟨w.heap.size,1,none⟩ (.bool false)) w.heap.size 302 #[.string q0,.bool false]):=by
      show Bk _ _ _ _;have:=K1.out.set 1 (.bool false)
      simpa using this
     have PB:Hid (Bk (w1.setCell ⟨w.heap.size,1,none⟩ (.bool false)) (w.heap.size+1) 305 #[.func (.func 224) #[] #[],.func (.func 227) #[] #[],.func (.func 230) #[] #[]]):=P1.out.far (p:=⟨w.heap.size,1,none⟩) (by simp) _;have BB:Hid (Below w.heap.size w (w1.setCell ⟨w.heap.size,1,none⟩ (.bool false))):=HB1.out.setCell (p:=⟨w.heap.size,1,none⟩) ai _;have hzb:w.heap.size+2<= (w1.setCell ⟨w.heap.size,1,none⟩ (.bool false)).heap.size:=by simp;omega
     clear HD HQ0 K1 P1
     go_wp2
     go_loopw[7,8] (fun v i wr=>∃(j:Nat)(A:OA)(c:Nat)(q:MR)(bad:Bool)(acc:List Upd),j<=n/\i= .int .i64 j/\v= .slice A j c/\q.size<=1000000/\Hid (Bk wr w.heap.size 302 #[.string q,.bool bad])/\Hid (Bk wr (w.heap.size+1) 305 #[.func (.func 224) #[] #[],.func (.func 227) #[] #[],.func (.func 230) #[] #[]]) ∧
      Hid (Apd wr (w.heap.size+2) 85 5 A j c (flat upC acc))/\Hid (qm s n j q bad acc)/\Hid (Below w.heap.size w wr)/\w.heap.size+2<=wr.heap.size) (fun _ i _=>n - (intOf i).toNat)
     case atStart=>exact⟨0,none,0,q0,false,[],ZZ _,rfl,rfl,hq0s,KB.out,PB.out,.inr ⟨rfl,rfl,rfl⟩,HI0.out,BB.out,hzb⟩
     case round =>
      clear KB PB BB hzb HI0;obtain⟨j,A,c,q,bad,acc,hj,rfl,rfl,hqs,KR,PR,hA,hI,hBel,hwz⟩:=hrel;clear hni hnd;by_cases hlt:j<n
      . have hlz: (j:Int)< (n:Int):=by omega
        cases bad with
        | true =>
          have hfin:Hid (dP (toL s)= ([],13)):=hI.out;obtain⟨x0,x1,_,_⟩:=KR.out.agg
          go_wp2
          go_ret2
          exact lM hfin.out hBel.out
        | false =>
          have HI2:Hid (dP (toL s)=match rdU (toL q) with | none=>([],13) | some (u,r)=>if df u≠0 then([],13) else fin (acc++ [u]) (rdL (n - (j+1)) r)):=by
           show _=_;have h1:dP (toL s)=fin acc (rdL (n - j) (toL q)):=hI.out;rw[h1,show n - j=n - (j+1)+1 by omega,I9]
          have HRP:=ah (Iq q);have hp1:=(uT q hqs).1;have hp2:=(uT (pt1 q) hp1).2;have hp3:=(uT (pt2 (pt1 q)) hp2).2;have KR1:=ah (KR.out.alloc (.cells #[.string ⟨#[]⟩,.int .u64 0,.int .u64 0,.int .u64 0,.int .u64 0] 85));have PR1:=ah (PR.out.alloc (.cells #[.string ⟨#[]⟩,.int .u64 0,.int .u64 0,.int .u64 0,.int .u64 0] 85));have UR1:=ah (Bk.new wr 85 #[.string ⟨#[]⟩,.int .u64 0,.int .u64 0,.int .u64 0,.int .u64 0]);have GR1:Hid (Gb (fun g=>g=w.heap.size) wr (wr.alloc (.cells #[.string ⟨#[]⟩,.int .u64 0,.int .u64 0,.int .u64 0,.int .u64 0] 85))):=Gb.of_below ((af _ wr).alloc ai _);obtain⟨x0,x1,_,_⟩:=KR.out.agg;have y0:=PR1.out.cell 0;have y1:=PR1.out.cell 1;have y2:=PR1.out.cell 2;simp at y0 y1 y2
          go_wp2
          refine wp_loop_rounds 4 ?_;rw[rounds_succ];go_wp2_with fail;have hrne:w.heap.size≠wr.heap.size:=by omega
          have htsz: (ofL (aK (toL q)).1).size<=1000000:=by rw[bG];have:=Fb (toL q);rw[<-aP]at this;omega
          refine(GH w.heap.size wr.heap.size q false ⟨#[]⟩ 0 0 0 0 _ KR1.out UR1.out hqs hrne).mono ?_;rw[show q.extract (aK (toL q)).2.1 q.size=pt1 q from rfl];generalize pt1 q=q1 at *;generalize (false || (aK (toL q)).2.2 != 0)=b1 at *;generalize ofL (aK (toL q)).1=ts at *;rintro e2 w2 ⟨rfl,k2,u2,g2⟩;have K2:=ah k2;have U2:=ah u2;have P2:=ah (g2.bk PR1.out (by intro e;omega));have G2:=ah (GR1.out.then2 g2 ai);have hz2:wr.heap.size+1<=w2.heap.size:=by have:=g2.size;simp at this;omega
          clear k2 u2 g2 y0 y1 y2 x0 x1;have y0:=P2.out.cell 0;have y1:=P2.out.cell 1;have y2:=P2.out.cell 2;simp at y0 y1 y2
          go_wp2
          rw[rounds_succ];go_wp2_with fail;refine(GK w.heap.size wr.heap.size q1 b1 ts 0 0 0 0 _ K2.out U2.out hp1 hrne).mono ?_;rw[show q1.extract (aX (toL q1)).2.1 q1.size=pt2 q1 from rfl];generalize pt2 q1=q2 at *;generalize (b1 || (aX (toL q1)).2.2 != 0)=b2 at *;generalize (aX (toL q1)).1=dd1 at *;obtain⟨a0,a1⟩:=dd1;rintro e3 w3 ⟨rfl,k3,u3,g3⟩;simp only at u3;have K3:=ah k3;have U3:=ah u3;have P3:=ah (g3.bk P2.out (by intro e;omega));have G3:=ah (G2.out.then2 g3 ai);have hz3:w2.heap.size<=w3.heap.size:=g3.size;clear k3 u3 g3 y0 y1 y2;have y0:=P3.out.cell 0;have y1:=P3.out.cell 1;have y2:=P3.out.cell 2;simp at y0 y1 y2
          go_wp2
          rw[rounds_succ];go_wp2_with fail;refine(He w.heap.size wr.heap.size q2 b2 ts a0 a1 0 0 _ K3.out U3.out hp2 hrne).mono ?_;rw[show q2.extract (aX (toL q2)).2.1 q2.size=pt2 q2 from rfl];generalize pt2 q2=q3 at *;generalize (b2 || (aX (toL q2)).2.2 != 0)=b3 at *;generalize (aX (toL q2)).1=dd2 at *;obtain⟨c0,c1⟩:=dd2;rintro e4 w4 ⟨rfl,k4,u4,g4⟩;simp only at u4;have K4:=ah k4;have U4:=ah u4;have P4:=ah (g4.bk P3.out (by intro e;omega));have G4:=ah (G3.out.then2 g4 ai);have hz4:w3.heap.size<=w4.heap.size:=g4.size;obtain⟨x0,x1,f0,f1⟩:=k4.agg;have v0:=u4.cell 0;have v1:=u4.cell 1;have v2:=u4.cell 2;have v3:=u4.cell 3;have v4:=u4.cell 4;simp at v0 v1 v2 v3 v4;clear k4 u4 g4 y0 y1 y2 K2 K3 U2 U3 P2 P3 G2 G3
          go_wp2
          rw[rounds_succ];cases b3 with
          | true =>
            have HIN:Hid (qm s n (j+1) q3 true (acc++ [(ts,(a0,a1),(c0,c1))])):=by
             show dP (toL s)=_;rw[HI2.out,HRP.out];rfl
            have KB:Hid (Bk (w4.setCell ⟨w.heap.size,1,none⟩ (.bool true)) w.heap.size 302 #[.string q3,.bool true]):=by
             show Bk _ _ _ _;have:=K4.out.set 1 (.bool true)
             simpa using this
            have PB:Hid (Bk (w4.setCell ⟨w.heap.size,1,none⟩ (.bool true)) (w.heap.size+1) 305 #[.func (.func 224) #[] #[],.func (.func 227) #[] #[],.func (.func 230) #[] #[]]):=P4.out.far (p:=⟨w.heap.size,1,none⟩) (by simp) _;have HG:Hid (Gb (fun x=>x=w.heap.size) wr (w4.setCell ⟨w.heap.size,1,none⟩ (.bool true))):=G4.out.trans (Gb.set (p:=fun x=>x=w.heap.size) (x:=w.heap.size) rfl 1 _);have UB:=U4.out.far (p:=⟨w.heap.size,1,none⟩) hrne.symm (.bool true);have t0:=UB.cell 0;have t1:=UB.cell 1;have t2:=UB.cell 2;have t3:=UB.cell 3;have t4:=UB.cell 4;simp at t0 t1 t2 t3 t4;clear UB
            go_wp2_with (at_builtin;refine aM ?_)
            refine aF ?_;refine dw (base:=w.heap.size+2) _ rfl (.tmp 63) (.tmp 65) 31 rfl 85 i0 _ 48 Tryz.underlying31 Hi.out Hz0.out Hz1.out Hz2.out rfl (by decide) A j c (flat upC acc) rfl ?ap (w4.heap.size+1) _ 1 _ (flat upC [(ts,(a0,a1),(c0,c1))]) rfl ?sl (nW _) (by unfold maxLen;omega) (by omega) (by simp;omega) ?_
            case ap=>exact(hA.out.gbp HG.out (fun k hk e=>by omega)).below ((af _ _).alloc ai _)
            case sl =>
             have:=Sl.new (w4.setCell ⟨w.heap.size,1,none⟩ (.bool true)) 85 (flat upC [(ts,(a0,a1),(c0,c1))]) 1 (size:=5) rfl;have e: (w4.setCell ⟨w.heap.size,1,none⟩ (.bool true)).heap.size=w4.heap.size:=by simp
             rw[e]at this;exact this
            intro A7 c7 w7 a7 hb7 _ _ _;rw[<-bu]at a7;have AP7:=ah a7;have hz7:w.heap.size+2<=w7.heap.size:=by have:=hb7.size;simp at this;omega
            have KB7:=ah ((KB.out.alloc (.cells #[.string ts,.int .u64 a0,.int .u64 a1,.int .u64 c0,.int .u64 c1] 85)).below hb7 (by omega));have PB7:=ah ((PB.out.alloc (.cells #[.string ts,.int .u64 a0,.int .u64 a1,.int .u64 c0,.int .u64 c1] 85)).below hb7 (by omega));have HB7:Hid (Below w.heap.size w w7):=((hBel.out.trans (HG.out.below (B:=w.heap.size) (by omega) (fun k hk e=>by omega))).alloc (by simp;omega) _).trans (hb7.mono (by omega));clear a7 hb7
            go_wp2
            go_roundw
            case rel=>exact⟨j+1,A7,c7,q3,_,acc++ [(ts,(a0,a1),(c0,c1))],by omega,by go_num,rfl,hp3,KB7.out,PB7.out,AP7.out,HIN.out,HB7.out,hz7⟩
            case measure=>simp[intOf];omega
          | false =>
            have HI3:Hid (dP (toL s)=if df (ts,(a0,a1),(c0,c1))≠0 then([],13) else fin (acc++ [(ts,(a0,a1),(c0,c1))]) (rdL (n - (j+1)) (toL q3))):=by
             show _=_;rw[HI2.out,HRP.out];rfl
            go_wp2_with fail;refine(qX (ts,(a0,a1),(c0,c1)) _ (by show ts.size<=maxLen;unfold maxLen;omega)).mono ?_;generalize df (ts,(a0,a1),(c0,c1))=pe at *;rintro e5 w5 ⟨rfl,hb5⟩;have hz5:w4.heap.size<=w5.heap.size:=hb5.size;have K5:=K4.out.below hb5 (by omega);have U5:=U4.out.below hb5 (by omega);have P5:=P4.out.below hb5 (by omega);have G5:=G4.out.trans (Gb.of_below hb5);obtain⟨pb,hpb⟩:∃pb,(pe != 0)=pb:=⟨_,rfl⟩
            have HIN:Hid (qm s n (j+1) q3 pb (acc++ [(ts,(a0,a1),(c0,c1))])):=by
             show dP (toL s)=_;rw[HI3.out,<-hpb];by_cases hp:pe=0
             . rw[if_neg (by simp[hp]),if_neg (by simp[hp])]
             . rw[if_pos hp,if_pos (by simp[hp])]
            have KB:Hid (Bk (w5.setCell ⟨w.heap.size,1,none⟩ (.bool pb)) w.heap.size 302 #[.string q3,.bool pb]):=by
             show Bk _ _ _ _;have:=K5.set 1 (.bool pb)
             simpa using this
            have PB:Hid (Bk (w5.setCell ⟨w.heap.size,1,none⟩ (.bool pb)) (w.heap.size+1) 305 #[.func (.func 224) #[] #[],.func (.func 227) #[] #[],.func (.func 230) #[] #[]]):=P5.far (p:=⟨w.heap.size,1,none⟩) (by simp) _;have HG:Hid (Gb (fun x=>x=w.heap.size) wr (w5.setCell ⟨w.heap.size,1,none⟩ (.bool pb))):=G5.trans (Gb.set (p:=fun x=>x=w.heap.size) (x:=w.heap.size) rfl 1 _);obtain⟨z0,z1,s0,s1⟩:=K5.agg;have UB:=U5.far (p:=⟨w.heap.size,1,none⟩) hrne.symm (.bool pb);have t0:=UB.cell 0;have t1:=UB.cell 1;have t2:=UB.cell 2;have t3:=UB.cell 3;have t4:=UB.cell 4;simp at t0 t1 t2 t3 t4;clear UB K5 U5 P5 G5 hb5 x0 x1 f0 f1 v0 v1 v2 v3 v4 HI3
            go_wp2_with (at_builtin;refine aM ?_)
            refine aF ?_;refine dw (base:=w.heap.size+2) _ rfl (.tmp 63) (.tmp 65) 31 rfl 85 i0 _ 48 Tryz.underlying31 Hi.out Hz0.out Hz1.out Hz2.out rfl (by decide) A j c (flat upC acc) rfl ?ap (w5.heap.size+1) _ 1 _ (flat upC [(ts,(a0,a1),(c0,c1))]) rfl ?sl (nW _) (by unfold maxLen;omega) (by omega) (by simp;omega) ?_
            case ap=>exact(hA.out.gbp HG.out (fun k hk e=>by omega)).below ((af _ _).alloc ai _)
            case sl =>
             have:=Sl.new (w5.setCell ⟨w.heap.size,1,none⟩ (.bool pb)) 85 (flat upC [(ts,(a0,a1),(c0,c1))]) 1 (size:=5) rfl;have e: (w5.setCell ⟨w.heap.size,1,none⟩ (.bool pb)).heap.size=w5.heap.size:=by simp
             rw[e]at this;exact this
            intro A7 c7 w7 a7 hb7 _ _ _;rw[<-bu]at a7;have AP7:=ah a7;have hz7:w.heap.size+2<=w7.heap.size:=by have:=hb7.size;simp at this;omega
            have KB7:=ah ((KB.out.alloc (.cells #[.string ts,.int .u64 a0,.int .u64 a1,.int .u64 c0,.int .u64 c1] 85)).below hb7 (by omega));have PB7:=ah ((PB.out.alloc (.cells #[.string ts,.int .u64 a0,.int .u64 a1,.int .u64 c0,.int .u64 c1] 85)).below hb7 (by omega));have HB7:Hid (Below w.heap.size w w7):=((hBel.out.trans (HG.out.below (B:=w.heap.size) (by omega) (fun k hk e=>by omega))).alloc (by simp;omega) _).trans (hb7.mono (by omega));clear a7 hb7
            go_wp2
            go_roundw
            case rel=>exact⟨j+1,A7,c7,q3,_,acc++ [(ts,(a0,a1),(c0,c1))],by omega,by go_num,rfl,hp3,KB7.out,PB7.out,AP7.out,HIN.out,HB7.out,hz7⟩
            case measure=>simp[intOf];omega
      . have hlz:¬(j:Int)< (n:Int):=by omega
        obtain⟨x0,x1,_,_⟩:=KR.out.agg;cases bad with
        | true =>
          have hfin:Hid (dP (toL s)= ([],13)):=hI.out
          go_wp2
          go_ret2
          exact lM hfin.out hBel.out
        | false =>
          have hI2:dP (toL s)=if toL q= []/\di []=0 then(acc++ [],0) else([],13):=by
           have h1:dP (toL s)=fin acc (rdL (n - j) (toL q)):=hI.out;rw[h1,show n - j=0 by omega,rdL,fin]
          by_cases hqe:toL q= []
          . have hfin:Hid (dP (toL s)= (acc,0)):=by show _=_;rw[hI2,if_pos ⟨hqe,rfl⟩,List.append_nil]
            have t1:q.toList= []:=by rw[ByteArray.toList_eq];exact hqe
            have t2: (q.toList == ([]:List UInt8))=true:=by rw[t1];rfl
            clear hI2 hqe
            go_wp2
            go_ret2
            exact HR.out _ hfin.out _ _ ⟨A,j,c,rfl,hA.out.low (by omega),hA.out.cap.1,hA.out.cap.2,hBel.out⟩
          . have hfin:Hid (dP (toL s)= ([],13)):=by show _=_;rw[hI2,if_neg (by simp[hqe])]
            have t1: (!q.toList.isEmpty)=true:=by
             rw[ByteArray.toList_eq];simp only[Bool.not_eq_true',List.isEmpty_eq_false_iff];exact hqe
            have t2: (q.toList == ([]:List UInt8))=false:=by rw[beq_eq_false_iff_ne,ByteArray.toList_eq];exact hqe
            have t3:¬q.toList= []:=by rw[ByteArray.toList_eq];exact hqe
            clear hI2 hqe
            go_wp2
            go_ret2
            exact lM hfin.out hBel.out
 . have hne: (e != 0)=true:=by rw[bne_iff_ne];exact he
   have hfin:Hid (dP (toL s)= ([],13)):=by show _=_;rw[HD.out,if_pos (.inl he)]
   have hr1:=K1.out.set 1 (.bool true);have y1:=hr1.cell 1;simp at y1;clear hr1 he;by_cases hn0: (0:Int)< (n:Int)
   all_goals
    go_wp2
    refine wp_loop_rounds 1 ?_;rw[rounds_succ]
    go_wp2
    go_ret2
    exact lM hfin.out (HB1.out.setCell (p:=⟨w.heap.size,1,none⟩) ai _)
end
section
attribute [local go_sem] Oper.semAt_some
def CF(us:List Upd)(n:Nat)(w:MQ)(e:Ending)(w':MQ):Prop:=∃A m c,e= .returned (.tuple #[.int .i64 n,.slice A m c,.int .i64 0])/\Apd w' w.heap.size 85 5 A m c (flat upC us)/\m=us.length/\m<=c/\c<=maxLen/\Below w.heap.size w w'
theorem Jh(g:Gru)(hg:GOk g)(hs: (fe g.1 g.2.length).length<=65536)(w:MQ):Calls Tryz.prog 80 #[.string (ofL (fe g.1 g.2.length))] w (CF g.1 g.2.length w):=by
 obtain⟨us,os⟩:=g;have HX:=ah (nZ (aj os.length) (encR us).1);obtain⟨s,hse⟩:∃s,ofL (fe us os.length)=s:=⟨_,rfl⟩
 have e0:ofL (aj os.length++ (encR us).1)=s:=hse;rw[e0]at HX;have hsz:s.size= (fe us os.length).length:=by rw[<-hse,bG]
 have hlen: (fe us os.length).length= (aj os.length).length+ (encR us).1.length:=ae ..;have HG:=ah (jC s w);rw[show ay (toL s)= (os.length,(aj os.length).length,0) by rw[<-hse,bO];exact hg.num]at HG;have HD:=ah (DI (ofL (encR us).1) w (by rw[bG];simp only at hs;omega));rw[bO,show dP (encR us).1= (us,0) from hg.dec]at HD;simp only at hs ⊢;rw[hse];obtain⟨k,hk⟩:∃k,(aj os.length).length=k:=⟨_,rfl⟩
 have hn:os.length<=1099511627776:=hg.os;rw[hk]at HX HG hlen;obtain⟨n,hne⟩:∃n,os.length=n:=⟨_,rfl⟩
 rw[hne]at HG hn ⊢;have hki: (k:Int)<= (s.size:Int):=by omega
 have hsm: (s.size:Int)<=1000000:=by omega
 rw[<-HX.out]at HD;clear hg hs hse e0 hsz hlen hk hne HX
 go_enter Tryz.func80,Tryz.ntmps80
 go_wp2_with fail;refine HG.out.mono ?_;rintro e w' ⟨rfl,rfl⟩;go_wp2_with fail;refine HD.out.mono ?_;rintro e w1 ⟨A,m,c,rfl,hs,hmc,hcm,hb⟩;have HS:=ah hs;have HB:=ah hb;clear hs hb HD HG
 go_wp2
 go_ret3
 exact⟨A,m,c,rfl,HS.out,HS.out.sl.len eB (by omega) |>.symm,hmc,hcm,HB.out⟩
abbrev Gx:=(OA×Nat×Nat)× (OA×Nat×Nat)×Gru
def gxV(x:Gx):Array MS:=#[.agg #[.slice x.1.1 x.1.2.1 x.1.2.2,.slice x.2.1.1 x.2.1.2.1 x.2.1.2.2,.bool false]]
def gxG(xs:List Gx):List Gru:=xs.map (·.2.2)
theorem kE(xs:List Gx)(x:Gx):gxG (xs++ [x])=gxG xs++ [x.2.2]:=by simp[gxG]
structure GxM(W:MQ)(x:Gx):Prop where
 u:Apd W 0 85 5 x.1.1 x.1.2.1 x.1.2.2 (flat upC x.2.2.1)
 o:Sl W W.heap.size 1 x.2.1.1 x.2.1.2.1 (flat aA x.2.2.2)
 ul:x.1.2.1=x.2.2.1.length
 ol:x.2.1.2.1=x.2.2.2.length
def GxP(gs:List Gru)(W:MQ)(xs:List Gx):Prop:=∀pre x,xs=pre++ [x]-> (∃rest,gxG xs++rest=gs)/\GxM W x
def KeepG(B b:Nat)(A C:MQ):Prop:=(∀k,k<B->C.heap[k]? =A.heap[k]?)/\C.heap[b]? =A.heap[b]?
theorem KeepG.trans{B b:Nat}{X Y Z:MQ}(h:KeepG B b X Y)(k:KeepG B b Y Z):KeepG B b X Z:=⟨fun i hi=>(k.1 i hi).trans (h.1 i hi),k.2.trans h.2⟩
theorem Sl.low{w w':MQ}{B size n:Nat}{A:OA}{xs:List MS}(h:Sl w B size A n xs)(hk:∀k,k<B->w'.heap[k]? =w.heap[k]?):Sl w' B size A n xs:=h.keep fun p hp=>World.cell?_of_block (hk p.block hp)
theorem sH(g:Gru)(gs:List Gru):recs (g::gs)=fe g.1 g.2.length:: (g.2++recs gs):=by simp[recs,aN]
theorem ry(a b:List Gru):recs (a++b)=recs a++recs b:=by simp[recs]
theorem EZ(n bs B1 hz:Nat)(hn:1<=n)(A:OA)(m c:Nat)(gs:List Gru)(w:MQ)(hbs:Bk w bs 22 #[.slice A m c])(hs:Sl w B1 1 A m (flat aA (recs gs)))(hB1:B1<=bs)(hmc:m<=c)(hm:m<=1000000)(hg:∀g∈gs,GOk g)(hsz:∀t∈recs gs,t.length<=65536) :
  qH Fence.wide n Tryz.prog 79 #[.pointer (some ⟨bs,0,none⟩)] gxV (KeepG B1 bs) (fun A B=>Below A.heap.size A B) (GxP gs) (fun xs=>gxG xs=gs) (fun _=>True) hz w:=fun l J Jx W hW hWz hJ hY hJ0=>by
 have G0:Hid (Bk W bs 22 #[.slice A m c]):=(hW.block bs hbs.lt).trans hbs;have G1:Hid (Sl W B1 1 A m (flat aA (recs gs))):=hs.below hW (by have:=hbs.lt;omega);have HLN:=ah (hs.len dG (by omega));have HG:=ah hg;have HSZ:=ah hsz;have HY:=ah hY;have HJ0:=ah hJ0;have HJ:=ah hJ;obtain⟨i0,hi,hz0,hz1,hz2⟩:=info_parts iR;have Hi:=ah hi;have Hz1:=ah hz1;clear hW hbs hs hWz hJ hY hJ0 hg hsz hi hz0 hz1 hz2;refine callsIn_of_wp Tryz.func79 rfl trivial ?_ rfl;simp only[Tryz.ntmps79,List.size_toArray,Z5,List.length_nil,Nat.reduceAdd,Nat.reduceSub,Array.replicate_succ,Array.replicate_zero,List.push_toArray,List.append_toArray,List.nil_append,List.cons_append]
 gi_wp2_with fail
 gi_loopw [3] (fun q wr=>∃(a:Nat)(pre:List Gx)(rest:List Gru),q= .int .i64 (a:Int)/\a<=m/\Hid (gxG pre++rest=gs)/\Hid (a= (recs (gxG pre)).length)/\Hid (Bk wr bs 22 #[.slice A m c])/\Hid (Sl wr B1 1 A m (flat aA (recs gs)))/\Hid (J pre wr)) (fun q _=>m+1 - (intOf q).toNat)
 case atStart=>exact⟨0,[],gs,rfl,ZZ _,rfl,rfl,G0.out,G1.out,HJ0.out⟩
 case round =>
  obtain⟨a,pre,rest,rfl,ham,hgs,ha,hBs,hSl,hj⟩:=hrel;have HGS:=ah hgs.out;have HA:=ah ha.out;have HBs:=ah hBs.out;have HSl:=ah hSl.out;have HJp:=ah hj.out;have hbl:=hBs.out.lt;have c0:=hBs.out.cell 0;simp at c0;clear hgs ha hBs hSl hj;by_cases hlt:a<m
  . obtain⟨g,rest,rfl⟩:∃g r,rest=g::r:=by
      cases rest with
      | nil =>
        have:=HGS.out;rw[List.append_nil]at this;have h1:=HA.out;have h2:=HLN.out;rw[this]at h1;omega
      | cons g r=>exact⟨g,r,rfl⟩
    have HRC:Hid (recs gs=recs (gxG pre)++ (fe g.1 g.2.length:: (g.2++recs rest))):=by show _=_;rw[<-HGS.out,ry,sH]
    have hgm:g∈gs:=by rw[<-HGS.out];simp
    have hla:a+1+g.2.length+ (recs rest).length=m:=by
     have h1:=HA.out;have h2:=HLN.out;rw[HRC.out]at h2;simp only[ae,Z5]at h2;omega
    have hget: (recs gs)[a]? =some (fe g.1 g.2.length):=by rw[HRC.out,HA.out,List.getElem?_append_right ai,Nat.sub_self];rfl
    have HH:=ah (fun w'=>Jh g (HG.out g hgm) (HSZ.out _ (Z7 hget)) w');unfold CF at HH;obtain⟨bb,off,x,rfl,hbb,hx,hc⟩:=HSl.out.at_ dG (by omega) hlt;have x0:=hc 0 _ rfl;rw[hget]at hx;obtain rfl:=(Option.some.inj hx).symm;simp only[Nat.mul_one,Nat.add_zero]at x0;obtain⟨hs,hhs⟩:∃hs,ofL (fe g.1 g.2.length)=hs:=⟨_,rfl⟩
    rw[hhs]at x0 HH;have hlz: (a:Int)< (m:Int):=by omega
    have HDR:Hid (((recs gs).drop (a+1)).take g.2.length=g.2):=by
     show _=_;rw[HRC.out,HA.out,<-List.singleton_append,<-Z4,List.drop_left' (by simp),List.take_left]
    have HN1:Hid (gxG pre++ [g]++rest=gs):=by show _=_;rw[<-HGS.out];simp
    have HN2:Hid (a+1+g.2.length= (recs (gxG pre++ [g])).length):=by
     show _=_;rw[ry,ae,sH,<-HA.out];simp[recs];omega
    obtain⟨k,hk⟩:∃k,g.2.length=k:=⟨_,rfl⟩
    have HK:=ah hk;rw[hk]at HH hla HDR HN2;obtain⟨Ak,hsr,hsk⟩:=wL (P:=Tryz.prog) 22 i0 Tryz.underlying22 Hi.out Hz1.out (some ⟨bb,off,none⟩) m c (a+1) k (by omega);have HSK:=ah hsk;clear hgm hget hx hc hhs hk hsk
    gi_wp2_with fail
    refine⟨trivial,(callsIn_wide.2 (HH.out _)).mono ?_⟩;rintro e w1 ⟨A1,m1,c1,rfl,hs1,hm1,hmc1,hcm1,hb1⟩;have HJ1:Hid (J pre w1):=HJ.out pre wr w1 HJp.out hb1;have HBs1:=ah (HBs.out.below hb1 hbl);have HSl1:=ah (HSl.out.below hb1 (by omega));have HS1:=ah hs1;have HM1:=ah hm1;have c0:=HBs1.out.cell 0;simp at c0;have hsr2: (Instr.sliceAt 22 (.slice (some ⟨bb,off,none⟩) m c) (some (.int .i64 ((a:Int)+1))) (some (.int .i64 ((a:Int)+1+ (k:Int)))) none).run Tryz.prog w1= .ok (.slice Ak k (c - (a+1))) w1:=hsr w1;have hbl1:=HBs1.out.lt;have HSK1:Hid (Sl w1 w1.heap.size 1 Ak k (flat aA g.2)):=by
     have:=HSK.out w1 w1.heap.size _ (by omega) (HSl1.out.more (by omega)) (by omega);rw[yH,HDR.out]at this;exact this
    clear hs1 hm1 hb1 HH x0 hsr;have hkm: (a:Int)+1+ (k:Int)<= (m:Int):=by omega
    have hki:¬((m:Int) - ((a:Int)+1)< (k:Int)):=by omega
    have hmm: (m:Int)<=1000000:=by omega
    obtain⟨fn,tmps,assign,body,hy,hR'⟩:=HY.out pre ((A1,m1,c1),(Ak,k,c - (a+1)),g) w1 (fun p x he=>by
     have e:=congrArg List.getLast? he;simp at e;subst e;exact⟨⟨rest,by rw[kE];exact HN1.out⟩,HS1.out.low (ZZ _),HSK1.out,HM1.out,HK.out.symm⟩) HJ1.out
    simp only[gxV]at hy hR';have HR':=ah hR';clear hR'
    gi_wp2
    refine HR'.out.mono ?_;rintro e' W3 (⟨rfl,hJ3,hK3⟩ | ⟨rfl,hJx3⟩)
    . have HBs3:Hid (Bk W3 bs 22 #[.slice (some ⟨bb,off,none⟩) m c]):=hK3.2.trans HBs1.out
      have HSl3:=ah (HSl1.out.low hK3.1);have HJ3:=ah hJ3;clear hJ3 hK3
      gi_wp2
      go_roundw
      case rel=>exact⟨a+1+k,pre++ [((A1,m1,c1),(Ak,k,c - (a+1)),g)],rest,by go_num,by omega,by show _=_;rw[kE];exact HN1.out,by show _=_;rw[kE];exact HN2.out,HBs3.out,HSl3.out,HJ3.out⟩
      case measure=>simp[intOf];omega
    . gi_wp2
      refine ZY (results_none rfl _ _ _) rfl ?_;exact⟨⟨_,rfl⟩,.inr ⟨_,trivial,hJx3⟩⟩
  . have hlz:¬(a:Int)< (m:Int):=by omega
    have HE:Hid (gxG pre=gs):=by
     show _=_;have h1:=HA.out;have h2:=HLN.out;have h3:=HGS.out;cases rest with
     | nil=>rw[<-h3,List.append_nil]
     | cons g r =>
       rw[<-h3,ry,sH]at h2;simp only[ae,Z5]at h2;omega
    gi_wp2
    go_end0
    exact⟨⟨_,rfl⟩,.inl ⟨pre,HE.out,HJp.out⟩⟩
theorem FN(A:OA)(n c:Nat)(w:MQ):Calls Tryz.prog 37 #[.slice A n c] w fun e w'=>e= .returned (.func (.func 79) #[] #[.pointer (some ⟨w.heap.size,0,none⟩)])/\w'=w.alloc (.cells #[.slice A n c] 22):=by
 go_enter Tryz.func37,Tryz.ntmps37
 go_wp2
 go_ret
 exact⟨rfl,rfl⟩
end
end Go.Proofs.YtknefelegjlgnaaGreatDoor
namespace Go.Proofs
open Go.Shelf
def Tryz.pdqIt_ren:Go.Shelf.Ren:=⟨fun | 14=>232 | 20=>281 | 21=>282 | 22=>283 | 23=>284 | 24=>285 | 25=>286 | 26=>287 | 27=>288 | 46=>316 | 47=>254 | 48=>255 | 49=>317 | 50=>318 | 15=>115 | 57=>336 | 28=>191 | 29=>192 | n=>n,fun | 24=>118 | 22=>28 | 3=>3 | 25=>237 | 4=>4 | 0=>0 | 46=>261 | 45=>260 | 50=>181 | 66=>328 | 39=>188 | 55=>48 | 70=>332 | 76=>361 | 77=>362 | 53=>267 | 5=>5 | 9=>9 | n=>n,fun | n=>n⟩
theorem Tryz.pdqIt:Go.Proofs.SlLaysF0.n14 Tryz.prog Tryz.pdqIt_ren:={
 mixed:=by kernel_rfl
 f14:=⟨Tryz.f232.name,by decide,Tryz.func232.trans (congrArg some (by kernel_rfl))⟩
 f15:=Tryz.func115.trans (congrArg some (by kernel_rfl))
 f20:=⟨Tryz.f281.name,by decide,Tryz.func281.trans (congrArg some (by kernel_rfl))⟩
 f21:=⟨Tryz.f282.name,by decide,Tryz.func282.trans (congrArg some (by kernel_rfl))⟩
 f22:=⟨Tryz.f283.name,by decide,Tryz.func283.trans (congrArg some (by kernel_rfl))⟩
 f23:=⟨Tryz.f284.name,by decide,Tryz.func284.trans (congrArg some (by kernel_rfl))⟩
 f24:=⟨Tryz.f285.name,by decide,Tryz.func285.trans (congrArg some (by kernel_rfl))⟩
 f25:=⟨Tryz.f286.name,by decide,Tryz.func286.trans (congrArg some (by kernel_rfl))⟩
 f26:=⟨Tryz.f287.name,by decide,Tryz.func287.trans (congrArg some (by kernel_rfl))⟩
 f27:=⟨Tryz.f288.name,by decide,Tryz.func288.trans (congrArg some (by kernel_rfl))⟩
 f28:=Tryz.func191.trans (congrArg some (by kernel_rfl))
 f29:=Tryz.func192.trans (congrArg some (by kernel_rfl))
 f46:=⟨Tryz.f316.name,by decide,Tryz.func316.trans (congrArg some (by kernel_rfl))⟩
 f47:=Tryz.func254.trans (congrArg some (by kernel_rfl))
 f48:=Tryz.func255.trans (congrArg some (by kernel_rfl))
 f49:=⟨Tryz.f317.name,by decide,Tryz.func317.trans (congrArg some (by kernel_rfl))⟩
 f50:=⟨Tryz.f318.name,by decide,Tryz.func318.trans (congrArg some (by kernel_rfl))⟩
 f57:=⟨Tryz.f336.name,by decide,Tryz.func336.trans (congrArg some (by kernel_rfl))⟩
 t0:=Tryz.underlying0
 a0:=Tryz.isAgg0
 z0:=Tryz.sizeOf0
 v0:=Tryz.zeroValue0
 t3:=Tryz.underlying3
 a3:=Tryz.isAgg3
 z3:=Tryz.sizeOf3
 v3:=Tryz.zeroValue3
 t4:=Tryz.underlying4
 a4:=Tryz.isAgg4
 z4:=Tryz.sizeOf4
 v4:=Tryz.zeroValue4
 t5:=Tryz.underlying5
 a5:=Tryz.isAgg5
 z5:=Tryz.sizeOf5
 v5:=Tryz.zeroValue5
 t9:=Tryz.underlying9
 a9:=Tryz.isAgg9
 z9:=Tryz.sizeOf9
 v9:=Tryz.zeroValue9
 t22:=Tryz.underlying28
 a22:=Tryz.isAgg28
 z22:=Tryz.sizeOf28
 v22:=Tryz.zeroValue28
 t25:=Tryz.underlying237
 a25:=Tryz.isAgg237
 z25:=Tryz.sizeOf237
 v25:=Tryz.zeroValue237
 t39:=Tryz.underlying188
 a39:=Tryz.isAgg188
 z39:=Tryz.sizeOf188
 v39:=Tryz.zeroValue188
 t45:=Tryz.underlying260
 a45:=Tryz.isAgg260
 z45:=Tryz.sizeOf260
 v45:=Tryz.zeroValue260
 t46:=Tryz.underlying261
 a46:=Tryz.isAgg261
 z46:=Tryz.sizeOf261
 v46:=Tryz.zeroValue261
 t50:=Tryz.underlying181
 a50:=Tryz.isAgg181
 z50:=Tryz.sizeOf181
 v50:=Tryz.zeroValue181
 t53:=Tryz.underlying267
 a53:=Tryz.isAgg267
 z53:=Tryz.sizeOf267
 v53:=Tryz.zeroValue267
 t55:=Tryz.underlying48
 a55:=Tryz.isAgg48
 z55:=Tryz.sizeOf48
 v55:=Tryz.zeroValue48
 t66:=Tryz.underlying328
 a66:=Tryz.isAgg328
 z66:=Tryz.sizeOf328
 v66:=Tryz.zeroValue328
 t70:=Tryz.underlying332
 a70:=Tryz.isAgg332
 z70:=Tryz.sizeOf332
 v70:=Tryz.zeroValue332
 t76:=Tryz.underlying361
 a76:=Tryz.isAgg361
 z76:=Tryz.sizeOf361
 v76:=Tryz.zeroValue361
 t77:=Tryz.underlying362
 a77:=Tryz.isAgg362
 z77:=Tryz.sizeOf362
 v77:=Tryz.zeroValue362}
def Tryz.lenU_ren:Go.Shelf.Ren:=⟨fun | 15=>115 | 28=>191 | 29=>192 | n=>n,fun | 39=>188 | 3=>3 | 53=>267 | 55=>48 | 4=>4 | 5=>5 | 9=>9 | n=>n,fun | n=>n⟩
theorem Tryz.lenU:Go.Proofs.SlLaysF0.n15 Tryz.prog Tryz.lenU_ren:={
 mixed:=by kernel_rfl
 f15:=Tryz.func115.trans (congrArg some (by kernel_rfl))
 f28:=Tryz.func191.trans (congrArg some (by kernel_rfl))
 f29:=Tryz.func192.trans (congrArg some (by kernel_rfl))
 t3:=Tryz.underlying3
 a3:=Tryz.isAgg3
 z3:=Tryz.sizeOf3
 v3:=Tryz.zeroValue3
 t4:=Tryz.underlying4
 a4:=Tryz.isAgg4
 z4:=Tryz.sizeOf4
 v4:=Tryz.zeroValue4
 t5:=Tryz.underlying5
 a5:=Tryz.isAgg5
 z5:=Tryz.sizeOf5
 v5:=Tryz.zeroValue5
 t9:=Tryz.underlying9
 a9:=Tryz.isAgg9
 z9:=Tryz.sizeOf9
 v9:=Tryz.zeroValue9
 t39:=Tryz.underlying188
 a39:=Tryz.isAgg188
 z39:=Tryz.sizeOf188
 v39:=Tryz.zeroValue188
 t53:=Tryz.underlying267
 a53:=Tryz.isAgg267
 z53:=Tryz.sizeOf267
 v53:=Tryz.zeroValue267
 t55:=Tryz.underlying48
 a55:=Tryz.isAgg48
 z55:=Tryz.sizeOf48
 v55:=Tryz.zeroValue48}
end Go.Proofs
namespace Go.Proofs.YtknefelegjlgnaaGreatDoor
open Go.RowKit
section
open Go.RowKit Go.Shelf Go.Sort Go.Lib
attribute [local go_sem] Oper.semAt_some
theorem Jg(b0 b1:Nat)(a1 a2 x1 x2:Int)(w:MQ)(h0:w.cell? ⟨b0,0,none⟩=some (.int .u64 a1))(h1:w.cell? ⟨b0,1,none⟩=some (.int .u64 a2))(h2:w.cell? ⟨b1,0,none⟩=some (.int .u64 x1))(h3:w.cell? ⟨b1,1,none⟩=some (.int .u64 x2)) :
  Calls Tryz.prog 151 #[.slice (some ⟨b0,0,none⟩) 2 2,.slice (some ⟨b1,0,none⟩) 2 2] w fun e w'=>e= .returned (.int .i64 (bW (a1,a2) (x1,x2)))/\w=w':=by
 have HC1:=ah (fun w=>kF a1 x1 w);have HC2:=ah (fun w=>kF a2 x2 w);have HE:Hid (bW (a1,a2) (x1,x2)=if bK a1 x1=0 then bK a2 x2 else bK a1 x1):=by
  show _=_;by_cases h: ((a1,a2):Dig)= (x1,x2)
  . rw[(mg _ _).2 h]
    cases h
    simp[bK]
  . rw[uR _ _ h]
    simp only[orI];split
    . split <;> simp_all
    . rfl
 obtain⟨z,hz⟩:∃z,bW (a1,a2) (x1,x2)=z:=⟨_,rfl⟩
 rw[hz]at HE ⊢;obtain⟨u,hu⟩:∃u,bK a1 x1=u:=⟨_,rfl⟩
 obtain⟨v,hv⟩:∃v,bK a2 x2=v:=⟨_,rfl⟩
 rw[hu]at HC1 HE;rw[hv]at HC2 HE;clear hz hu hv
 go_enter Tryz.func151,Tryz.ntmps151
 go_wp2_with fail
 go_loopw[11] (fun i wr=>∃k:Nat,k<=2/\i= .int .i64 k/\w=wr/\Hid (0<k->u=0)/\Hid (1<k->v=0)) (fun i _=>3 - (intOf i).toNat)
 case atStart=>exact⟨0,by omega,rfl,rfl,fun h=>by omega,fun h=>by omega⟩
 case round =>
  obtain⟨k,hk,rfl,rfl,H1,H2⟩:=hrel
  match k,hk with
  | 0,_ =>
    go_wp2_with fail;refine(HC1.out _).mono ?_;rintro e w1 ⟨rfl,rfl⟩;by_cases hu:u=0
    . have hu0: (u != 0)=false:=by simp[hu]
      have HU:=ah hu;clear hu;go_wp2_with fail;go_roundw
      case rel=>exact⟨1,by omega,rfl,trivial,fun _=>HU.out,fun h=>by omega⟩
      case measure=>simp[intOf]
    . have hu0: (u != 0)=true:=by simp[hu]
      have HZ:Hid (z=u):=by show _=_;rw[HE.out,if_neg hu]
      clear hu;go_wp2_with fail;go_ret
      exact⟨by rw[HZ.out];rfl,rfl⟩
  | 1,_ =>
    have HU:=H1.out (by omega);have HUH:=ah HU;clear HU;go_wp2_with fail;refine(HC2.out _).mono ?_;rintro e w1 ⟨rfl,rfl⟩;by_cases hu:v=0
    . have hu0: (v != 0)=false:=by simp[hu]
      have HV:=ah hu;clear hu;go_wp2_with fail;go_roundw
      case rel=>exact⟨2,by omega,rfl,trivial,fun _=>HUH.out,fun _=>HV.out⟩
      case measure=>simp[intOf]
    . have hu0: (v != 0)=true:=by simp[hu]
      have HZ:Hid (z=v):=by show _=_;rw[HE.out,if_pos HUH.out]
      clear hu;go_wp2_with fail;go_ret
      exact⟨by rw[HZ.out];rfl,rfl⟩
  | 2,_ =>
    have HZ:Hid (z=0):=by show _=_;rw[HE.out,if_pos (H1.out (by omega)),H2.out (by omega)]
    go_wp2_with fail;go_ret
    exact⟨by rw[HZ.out];rfl,rfl⟩
theorem GZ(i j:Itm)(w:MQ):Calls Tryz.prog 150 #[itV i,itV j] w fun e w'=>e= .returned (.int .i64 (bW i.1 j.1))/\Gro w w':=by
 obtain⟨⟨a1,a2⟩,s⟩:=i;obtain⟨⟨x1,x2⟩,t⟩:=j;simp only[itV];obtain⟨wz,hW⟩:∃wz,(w.alloc (.cells #[.int .u64 a1,.int .u64 a2,.string s] 118)).alloc (.cells #[.int .u64 x1,.int .u64 x2,.string t] 118)=wz:=⟨_,rfl⟩
 have HA:Hid (Bk wz w.heap.size 118 #[.int .u64 a1,.int .u64 a2,.string s]):=by rw[<-hW];exact(Bk.new w _ _).alloc _
 have HB:Hid (Bk wz (w.heap.size+1) 118 #[.int .u64 x1,.int .u64 x2,.string t]):=by
  rw[<-hW];have:=Bk.new (w.alloc (.cells #[.int .u64 a1,.int .u64 a2,.string s] 118)) 118 #[.int .u64 x1,.int .u64 x2,.string t];rw[Z9]at this;exact this
 have HL:Hid (Gro w wz):=by rw[<-hW];exact((Gro.refl w).alloc _).alloc _
 have HC:Hid (∀q,Calls Tryz.prog 151 #[.slice (some ⟨w.heap.size,0,none⟩) 2 2,.slice (some ⟨w.heap.size+1,0,none⟩) 2 2] (wz.drewN q) fun e w'=>e= .returned (.int .i64 (bW (a1,a2) (x1,x2)))/\w'=wz.drewN q):=fun q=>by
  obtain⟨c0,c1,_⟩:=(HA.out.drewN q).three;obtain⟨c3,c4,_⟩:=(HB.out.drewN q).three;exact(Jg _ _ a1 a2 x1 x2 _ c0 c1 c3 c4).mono (by rintro e w' ⟨rfl,rfl⟩;exact⟨rfl,rfl⟩)
 have HW:=ah hW;clear hW
 go_enter Tryz.func150,Tryz.ntmps150
 go_wp2_with fail;rw[HW.out]
 go_quiet(first | (go_at_call 151;exact Calls.quiet_of_same (HC.out _)))
 go_wp2_with fail;go_ret
 exact⟨rfl,HL.out.trans ⟨nq,#[],by rw[grow_empty]⟩⟩
def cfI(i j:Itm):Int:=bW i.1 j.1
theorem IM(x y:Itm)(W:MQ):Calls Tryz.prog 150 #[.agg (itC x).toArray,.agg (itC y).toArray] W fun e w'=>e= .returned (.int .i64 (cfI x y))/\∃q os',w'=grow (W.drewN q) os':=GZ x y W
theorem KW(x y:Itm):ltOf cfI x y=decide (ltD x.1 y.1):=mQ x.1 y.1
theorem CX:SWO (ltOf cfI) where
 irrefl x:=swoD.irrefl x.1
 trans x y z h1 h2:=swoD.trans x.1 y.1 z.1 h1 h2
 ntrans x y z h1 h2:=swoD.ntrans x.1 y.1 z.1 h1 h2
instance :Inhabited Itm:=⟨(zD,⟨#[]⟩)⟩
theorem wZ(ts:List Itm): (flatK itC 3 ts.toArray).toList=flat itC ts:=by
 apply List.ext_getElem?
 intro t;by_cases ht:t<ts.length*3
 . have hk:t / 3<ts.length:=by omega
   have hx:ts[t / 3]? =some ts[t / 3]:=Z6 hk;have h1:=gy bN ts (t / 3) (t % 3) _ hx (by omega);rw[show t / 3*3+t % 3=t by omega]at h1;have h2:t< (flatK itC 3 ts.toArray).size:=by simpa using ht
   rw[h1,Array.getElem?_toList,Array.getElem?_eq_getElem h2];have h3:=get_flatK itC 3 ts.toArray t (by simpa using ht);rw[getElem!_pos (flatK itC 3 ts.toArray) t h2]at h3;rw[h3,show ts.toArray[t / 3]! =ts[t / 3] by simp[hk]];have h4:t % 3< (itC ts[t / 3]).length:=by rw[bN];omega
   rw[getElem!_pos (itC ts[t / 3]) (t % 3) h4,Z6 h4]
 . rw[List.getElem?_eq_none (by simp;omega),List.getElem?_eq_none (by rw[gD bN];omega)]
def SrtI(ts:List Itm):Prop:=ts.Pairwise (fun a b=>¬ltD b.1 a.1)
theorem EI(base n c:Nat)(A:OA)(ts:List Itm)(w:MQ)(h:w.ownsRow base 118 3 (.slice A n c) n (flat itC ts))(hn:n<=1000000000) :
  Calls Tryz.prog 149 #[.slice A n c,.func (.func 150) #[] #[]] w fun e w'=>e= .returned (.tuple #[])/\∃us,us.Perm ts/\SrtI us/\w'.ownsRow base 118 3 (.slice A n c) n (flat itC us)/\w.grownBy w' (Value.slice A n c).ownBlock:=by
 have hl:ts.length=n:=by have:=h.1;rw[gD bN]at this;omega
 have eg:∀args w,(callFunc 150 args).run Tryz.prog w= .ok (.enter 150 args) w:=enters_of Tryz.func150 (by kernel_rfl) rfl;have HLN:Hid (∀w',Calls Tryz.prog 115 #[.int .u64 (n:Int)] w' fun e w''=>e= .returned (.int .i64 (Lib.bitLen n:Nat))/\w'=w''):=fun w'=>by
  have h:=Any.bits_Len (SlLaysF0.n15.bits {Tryz.lenU with}) (n:Int) w' (by omega) (by omega);rw[Int.toNat_natCast]at h;exact h.mono fun _ _ ⟨h1,h2⟩=>⟨h1,h2.symm⟩
 have hw:IntKind.u64.wrap (n:Int)=n:=by simp[IntKind.wrap,IntKind.bits,IntKind.signed];omega
 rcases h.2 with ⟨hv,h0⟩ | ⟨g,cap,cur,hv,h1,h2,h3,h4,h5,h6⟩
 . simp only[Value.slice.injEq]at hv
   obtain⟨rfl,_,rfl⟩:=hv;subst h0;obtain rfl:ts= []:=List.eq_nil_of_length_eq_zero hl;have HO:=ah h;have HI:Hid (∀w',Calls Tryz.prog 281 #[.slice none 0 0,.int .i64 0,.int .i64 0,.func (.func 150) #[] #[]] w' fun e w''=>e= .returned (.tuple #[])/\w'=w''):=fun w'=>by
    go_enter Tryz.func281,Tryz.ntmps281
    go_wp2_with fail
    go_loopw[8] (fun i wr=>i= .int .i64 1/\w'=wr) (fun _ _=>0)
    case atStart=>exact⟨rfl,rfl⟩
    case round =>
     obtain⟨rfl,rfl⟩:=hrel;go_wp2_with fail
     go_end0
     exact⟨rfl,rfl⟩
   have HP:Hid (∀w',Calls Tryz.prog 232 #[.slice none 0 0,.int .i64 0,.int .i64 0,.int .i64 0,.func (.func 150) #[] #[]] w' fun e w''=>e= .returned (.tuple #[])/\w'=w''):=fun w'=>by
    go_enter Tryz.func232,Tryz.ntmps232
    go_wp2_with fail
    go_loopw[1,2,3,10,11] (fun a b l x y wr=>a= .int .i64 0/\b= .int .i64 0/\l= .int .i64 0/\w'=wr) (fun _ _ _ _ _ _=>0)
    case atStart=>exact⟨rfl,rfl,rfl,rfl⟩
    case round =>
     obtain⟨rfl,rfl,rfl,rfl⟩:=hrel;go_wp2_with fail;refine(HI.out _).mono ?_;rintro e w1 ⟨rfl,rfl⟩;go_wp2_with fail;exact ZY (results_none rfl _ _ _) rfl ⟨rfl,rfl⟩
   clear h eg hl hw HI
   go_enter Tryz.func149,Tryz.ntmps149
   go_wp2_with fail;refine(HLN.out _).mono ?_;rintro e w1 ⟨rfl,rfl⟩;go_wp2_with fail;refine(HP.out _).mono ?_;rintro e w1 ⟨rfl,rfl⟩;go_wp2_with fail
   go_end0
   exact⟨rfl,[],.refl _,List.Pairwise.nil,HO.out,rfl,rfl,rfl,Nat.le_refl _,fun _ _ _=>rfl⟩
 . simp only[Value.slice.injEq]at hv
   obtain⟨rfl,_,rfl⟩:=hv;have hsz:n*3<=cur.size:=by omega
   have hlt:=(Array.getElem?_eq_some_iff.1 h2).1;have hH:HoldsK itC 3 w g 0 ts.toArray:=by
    intro j hj;have hj':j<ts.length*3:=by simpa using hj
    refine⟨?_,by simp[World.frozen?,h2]⟩;have h7: (flat itC ts)[j]? =some ((flatK itC 3 ts.toArray)[j]!):=by
     rw[<-wZ,Array.getElem?_toList,Array.getElem?_eq_getElem (by simpa using hj'),getElem!_pos (flatK itC 3 ts.toArray) j (by simpa using hj')]
    rw[<-h6,List.getElem?_take,if_pos (by omega)]at h7;show w.cell? ⟨g,0+j,none⟩=_;simp[World.cell?,h2]
    simpa using h7
   have hlim:Lib.bitLen n<4611686018427387904:=Nat.lt_of_le_of_lt (Lib.bitLen_le n 62 (by omega) (by omega)) (by omega);have hsn:ts.toArray.size=n:=by rw[List.size_toArray,hl]
   have hp:=AnyQ.pdqsortCmpFunc_all {Tryz.pdqIt with} 3 Tryz.isAgg118 Tryz.sizeOf118 itC cfI 150 #[] CX g 0 c ts.toArray w eg (fun _ _ _ _ x y=>IM x y _) ⟨bN,fun x v hv=>by simp[itC]at hv;rcases hv with rfl | rfl | rfl <;> rfl,hH,hlt⟩ (n+1) 0 n (Lib.bitLen n) ts.toArray w (by omega) rfl (SWK.start hH) (ZZ _) (by omega) (by omega) hlim (Or.inl rfl);have HP:Hid (Calls Tryz.prog 232 #[.slice (some ⟨g,0,none⟩) n c,.int .i64 0,.int .i64 n,.int .i64 (Lib.bitLen n:Nat),.func (.func 150) #[] #[]] w fun e w'=>e= .returned (.tuple #[])/\SWK itC 3 w g 0 (pdq (ltOf cfI) ts.toArray 0 n (Lib.bitLen n) true true) w'):=by
    show Calls _ _ _ _ _;rw[hsn]at hp;exact hp
   have HS:=pdq_sorts (ltOf cfI) CX ts.toArray 0 n (Lib.bitLen n) true true (ZZ _) (by omega) (Or.inl rfl);obtain⟨d',hd'⟩:∃d',pdq (ltOf cfI) ts.toArray 0 n (Lib.bitLen n) true true=d':=⟨_,rfl⟩
   rw[hd']at HP HS;have HSS:=ah HS;have HF:Hid (∀w',SWK itC 3 w g 0 d' w'->∃us,us.Perm ts/\SrtI us/\w'.ownsRow base 118 3 (.slice (some ⟨g,0,none⟩) n c) n (flat itC us)/\w.grownBy w' (Value.slice (some ⟨g,0,none⟩) n c).ownBlock):=by
    rintro w' ⟨k,os,rfl⟩;obtain⟨hp,hs⟩:=HSS.out;have hd:d'.size=n:=by rw[hp.1];simpa using hl
    have hpp:d'.toList.Perm ts:=by
     have:=hp.2.2;have e1:d'.extract 0 n=d':=by rw[<-hd];simp
     have e2:ts.toArray.extract 0 n=ts.toArray:=by rw[<-hl];simp
     rw[e1,e2]at this
     simpa using this
    have hso:SrtI d'.toList:=by
     unfold SrtI;rw[List.pairwise_iff_getElem];intro i j hi hj hij;have hi':i<d'.size:=by simpa using hi
     have hj':j<d'.size:=by simpa using hj
     have:=hs i j (ZZ _) hij (by omega);rw[KW,decide_eq_false_iff_not,getElem!_pos d' j hj',getElem!_pos d' i hi']at this
     simpa using this
    have hfs: (flatK itC 3 d').size=n*3:=by rw[size_flatK,hd]
    refine⟨d'.toList,hpp,hso,⟨by rw[gD bN,Array.length_toList,hd],.inr ⟨g,c,putCells id 0 (flatK itC 3 d') cur,rfl,h1,?_,h3,h4,by simp[putCells];omega,?_⟩⟩,rfl,rfl,rfl,by simp[sortWorldK,putRowK,grow,putRow,mapBlock,Sort.ahead],fun b hb hr=>?_⟩
    . simp only[sortWorldK,putRowK,grow,putRow,mapBlock,Sort.ahead]
      rw[Array.getElem?_append_left (by simpa using hlt),Array.getElem?_modify,if_pos rfl,h2];rfl
    . rw[wG 0 (n*3) _ cur hfs rfl hsz,<-wZ]
    . simp only[sortWorldK,putRowK,grow,putRow,mapBlock,Sort.ahead]
      rw[Array.getElem?_append_left (by simpa using hb),Array.getElem?_modify,if_neg (fun e=>hr (by rw[e];rfl))]
   clear h h1 h2 h3 h4 h5 h6 hsz hlt hH hlim hsn hp HS hd' HSS eg hl
   go_enter Tryz.func149,Tryz.ntmps149
   go_wp2_with fail;refine(HLN.out _).mono ?_;rintro e w1 ⟨rfl,rfl⟩;go_wp2_with fail;refine HP.out.mono ?_;rintro e w1 ⟨rfl,hw1⟩;have HX:=ah (HF.out w1 hw1);clear hw1 HF HP;go_wp2_with fail
   go_end0
   exact⟨rfl,HX.out⟩
end
section
open Go.Maps
def pV(p:List Itm):Dig->Option MS:=fun d=>(bE p d).map Value.string
theorem SrtI.asc{us:List Itm}(h:SrtI us)(hn: (us.map (·.1)).Nodup):AscI us:=by
 unfold AscI;rw[List.Nodup,List.pairwise_map]at hn;exact List.Pairwise.imp₂ (fun a b h1 h2=>Classical.byContradiction fun h3=>h2 (kI h3 h1)) h hn
def CJ(p:List Itm)(w:MQ)(e:Ending)(w':MQ):Prop:=∃A c,e= .returned (.slice A p.length c)/\Sl w' w'.heap.size 3 A p.length (flat itC p)/\p.length<=c/\c<=maxLen/\Below w.heap.size w w'
theorem FC(p:List Itm)(mb N:Nat)(w:MQ)(hM:Gm w Tryz.prog 50 iI fH mb N (pV p))(ha:AscI p)(hw:∀i∈p,WfD i.1)(hN:N<=1000000) :
  Calls Tryz.prog 83 #[.map (some mb)] w (CJ p w):=by
 have HM:=ah hM;have HA:=ah ha;have HWF:=ah hw;have hml:=hM.lt;obtain⟨i0,hi,hzz0,hzz1,hzz2⟩:=info_parts jQ;have Hi:=ah hi;have Hz0:=ah hzz0;have Hz1:=ah hzz1;have Hz2:=ah hzz2;clear hM ha hw hi hzz0 hzz1 hzz2
 go_enter Tryz.func83,Tryz.ntmps83
 go_wp2_with (at_range;refine aM ?_)
 refine aF ?_;refine Di rfl _ 149 rfl 50 9 jU Tryz.underlying149 mb N (pV p) rfl HM.out ?_;intro w1 cnt0 hr1 hg1 hz1;have hc0:=Lp hr1;have HR1:=ah hr1;have HB1:Hid (Below w.heap.size w w1):=(af w.heap.size w).grown hg1 ai (fun g e=>by cases e);clear hr1 hg1 HM
 go_wp2
 go_frame
 go_loopg [3] cnt0 (fun gk v3 wr=>∃(out:List Itm)(left:Dig->Bool)(n c:Nat)(A:OA),v3= .slice A n c/\Hid (GmR wr Tryz.prog 50 iI fH mb w.heap.size N (pV p) left gk)/\Hid (out.length=n)/\n<=c/\c<=maxLen/\Hid (wr.ownsRow (w.heap.size+1) 118 3 (.slice A n c) n (flat itC out))/\Hid (∀i,i∈out↔i∈p/\left i.1=false)/\Hid ((out.map (·.1)).Nodup)/\n+gk<=cnt0/\Hid (Below w.heap.size w wr)/\w.heap.size<wr.heap.size)
 case atStart =>
  exact⟨[],_,0,0,none,rfl,HR1.out,rfl,Nat.le_refl _,ZZ _,World.ownsRow_nil _ _ _ _,(fun i=>⟨(fun h=>by cases h),fun h=>by
   have h1:bE p i.1=some i.2:=(iy HA.out).2 h.1;have h2:=h.2;simp[pV,h1]at h2⟩),List.nodup_nil,by omega,HB1.out,by omega⟩
 case round =>
  obtain⟨out,left,n,c,A,rfl,hR,hL,hnc,hcm,hO,hX,hN,hsum,hB,hz⟩:=hrel;have HR:=ah hR.out;have HL:=ah hL.out;have HO:=ah hO.out;have HX:=ah hX.out;have HND:=ah hN.out;have HB:=ah hB.out;clear hR hL hO hX hN hB HR1 HB1
  go_wp2_with (at_next;refine aM ?_)
  refine aF ?_;refine Dt rfl _ rfl 50 jU mb w.heap.size N (pV p) left gk rfl HR.out ?_ ?_
  . intro hdone
    have HF:Hid (∀i,i∈out↔i∈p):=fun i=>by
     rw[HX.out];exact⟨fun h=>h.1,fun h=>⟨h,hdone i.1 (jo (HWF.out i h))⟩⟩
    have HS:=ah (EI (w.heap.size+1) n c A out wr HO.out (by omega));clear hdone;go_wp2_with fail;refine HS.out.mono ?_;rintro e w4 ⟨rfl,us,hpe,hso,hou,hgu⟩;have hus:us=p:=AscI.ext (hso.asc ((hpe.map _).nodup_iff.2 HND.out)) HA.out (fun i=>by rw[hpe.mem_iff,HF.out]);subst hus;have hln:us.length=n:=by rw[hpe.length_eq,HL.out]
    have HB4:Hid (Below w.heap.size w w4):=HB.out.grown hgu HB.out.size (fun g e=>by have:=(bT HO.out e).1;omega);have HOU:=ah hou;have HLN:=ah hln;clear hpe hso hou hgu HS hln;go_wp2_with fail;go_ret
    exact⟨A,c,by rw[HLN.out];rfl,by rw[HLN.out];exact Sl.of_own HOU.out,by rw[HLN.out];exact hnc,hcm,HB4.out⟩
  . intro d v w2 cnt2 hok hls hgs hR2 hlt hg2 hz2 hen
    obtain⟨b,hb,rfl⟩:∃b,bE p d=some b/\v= .string b:=by
     unfold pV at hgs;obtain⟨b,h1,h2⟩:=Option.map_eq_some_iff.1 hgs;exact⟨b,h1,h2.symm⟩
    have HR2:Hid (GmR w2 Tryz.prog 50 iI fH mb w.heap.size N (pV p) (fun z=>left z && !decide (z=d)) cnt2):=hR2;have HIN:Hid ((d,b)∈p):=(iy HA.out).1 hb;have HX2:Hid (∀i,i∈out++ [(d,b)]↔i∈p/\ (left i.1 && !decide (i.1=d))=false):=fun i=>by
     rw[List.mem_append,aa,HX.out,Bool.and_eq_false_iff];constructor
     . rintro (⟨h1,h2⟩ | rfl)
       . exact⟨h1,.inl h2⟩
       . exact⟨HIN.out,.inr (by simp)⟩
     . rintro ⟨h1,h2 | h2⟩
       . exact .inl ⟨h1,h2⟩
       . have:i.1=d:=by simpa using h2
         exact .inr (HA.out.uniq h1 HIN.out this)
    have HND2:Hid (((out++ [(d,b)]).map (·.1)).Nodup):=by
     show List.Nodup _;rw[List.map_append];refine List.nodup_append.2 ⟨HND.out,by simp,fun a ha c hc e=>?_⟩;obtain⟨i,hi,rfl⟩:=List.mem_map.1 ha;have hc2:c=d:=by simpa using hc
     have:=((HX.out i).1 hi).2;rw[e,hc2,hls]at this;cases this
    have HB2:Hid (Below w.heap.size w w2):=HB.out.grown hg2 HB.out.size (fun g e=>by cases e;exact Nat.le_refl _);have HO2:Hid (w2.ownsRow (w.heap.size+1) 118 3 (.slice A n c) n (flat itC out)):=gW HO.out (fun k hk=>hg2.block k (by obtain⟨h1,cur,h2⟩:=bT HO.out hk;exact(Array.getElem?_eq_some_iff.1 h2).1) (fun e=>by have:=(bT HO.out hk).1;cases e;omega));obtain⟨d1,d2⟩:=d;simp only[dgV]at hen;have hz2':w.heap.size<w2.heap.size:=by omega
    clear hR2 hls hgs hok hg2 hz2 hb HR HO HB HX HND;obtain⟨W3,hW3⟩:∃V,(w2.alloc (.cells #[.int .u64 d1,.int .u64 d2] 50)).alloc (.cells #[.int .u64 d1,.int .u64 d2,.string b] 118)=V:=⟨_,rfl⟩
    have hb3:Below w2.heap.size w2 W3:=by rw[<-hW3];exact((af _ w2).alloc ai _).alloc (by simp) _
    have HNB:Hid (Bk W3 (w2.heap.size+1) 118 #[.int .u64 d1,.int .u64 d2,.string b]):=by
     have e:=Bk.new (w2.alloc (.cells #[.int .u64 d1,.int .u64 d2] 50)) 118 #[.int .u64 d1,.int .u64 d2,.string b]
     rwa[Z9,hW3]at e
    have HR3:=ah (HR2.out.below hb3 (by omega) hz2');have HO3:=ah (fJ HO2.out hb3);have HB3:Hid (Below w.heap.size w W3):=HB2.out.trans (hb3.mono HB2.out.size);have z3:=hb3.size;have HWa:=ah hW3;clear hW3 hb3 HR2 HO2 HB2
    go_wp2_with (at_builtin;refine pO (.tmp 13) (.tmp 17) 29 rfl ?_)
    rw[HWa.out];refine aF ?_;refine iL (base:=w.heap.size+1) (size:=3) _ rfl (.tmp 13) (.tmp 17) 29 rfl 118 i0 _ 32 Tryz.underlying29 Hi.out Hz0.out Hz1.out Hz2.out rfl (by decide) (.slice A n c) n _ rfl HO3.out _ _ 1 1 (flat itC [((d1,d2),b)]) rfl (Sl.of_bk (n:=1) (size:=3) HNB.out rfl) (gX _) (by unfold maxLen;omega) (by omega) (by omega) ?_;intro A4 c4 w4 ho4 hg4 hn4 hm4;rw[<-bu]at ho4;have HO4:=ah ho4;have hrow:∀k,(Value.slice A n c).ownBlock=some k->w.heap.size+1<=k:=fun k hk=>(bT HO3.out hk).1;have HR4:Hid (GmR w4 Tryz.prog 50 iI fH mb w.heap.size N (pV p) (fun z=>left z && !decide (z= (d1,d2))) cnt2):=HR3.out.kept hg4 (fun e=>by have:=hrow _ e.symm;omega) (fun e=>by have:=hrow _ e.symm;omega);have HB4:Hid (Below w.heap.size w w4):=HB3.out.grown hg4 HB3.out.size (fun g e=>by have:=hrow _ e;omega);have HL4:Hid ((out++ [((d1,d2),b)]).length=n+1):=by show _=_;rw[ae,HL.out];rfl
    have z4:=hg4.size;clear ho4 hg4 hrow hen;go_wp2_with fail
    go_roundg cnt2
    case rel=>exact⟨_,_,n+1,c4,A4,rfl,HR4.out,HL4.out,hn4,hm4,HO4.out,HX2.out,HND2.out,by omega,HB4.out,by omega⟩
    case measure=>exact hlt
end
section
open Go.Maps
theorem F6(o:Ob)(s:Osl)(B:Nat)(w:MQ)(hm:ObM w B o s)(hB:B<=w.heap.size)(ho:OkO o) :
  Calls Tryz.prog 82 #[obV o s] w fun e w'=>e= .returned (.tuple #[aB (dgO o),.int .i64 0])/\Below w.heap.size w w':=by
 obtain⟨W,hW⟩:∃W,(w.alloc (.cells (obC o s) 109)).alloc (.cells #[.int .u64 0,.int .u64 0] 50)=W:=⟨_,rfl⟩
 have HB0:Hid (Below w.heap.size w W):=by rw[<-hW];exact((af _ w).alloc ai _).alloc (by simp) _
 have HK:Hid (Bk W w.heap.size 109 (obC o s)):=by rw[<-hW];exact(Bk.new w _ _).alloc _
 have HD:Hid (Bk W (w.heap.size+1) 50 #[.int .u64 0,.int .u64 0]):=by
  rw[<-hW];have:=Bk.new (w.alloc (.cells (obC o s) 109)) 50 #[.int .u64 0,.int .u64 0];rw[Z9]at this;exact this
 have zW:w.heap.size+2=W.heap.size:=by rw[<-hW];simp
 have HE:=ah (rF o s B W (hm.below HB0.out hB) (by omega) ho);have hsz: (ofL (aG o)).size<=maxLen:=by rw[bG];have:=ho.len;unfold maxLen;omega
 have HOF:=ah (fun w=>qf (ofL (aG o)) w hsz);have HDG:Hid (ofB (toL (ofL (aG o)))=dgO o):=by show _=_;rw[bO];rfl
 unfold lD at HOF;rw[HDG.out]at HOF;unfold qh at HE;simp only[obV,obC]at HE hW HK ⊢;obtain⟨sb,hsb⟩:∃sb,ofL (aG o)=sb:=⟨_,rfl⟩
 rw[hsb]at HE HOF;obtain⟨⟨d1,d2⟩,hdd⟩:∃d,dgO o=d:=⟨_,rfl⟩
 rw[hdd]at HOF ⊢;simp only[aB]at HOF ⊢;obtain⟨c0,c1,c2,c3,c4,c5,c6,c7,c8⟩:=HK.out.nine;have HW:=ah hW;clear hm ho hsb hdd HDG hsz hW
 go_enter Tryz.func82,Tryz.ntmps82
 go_wp2_with fail;rw[HW.out];refine HE.out.mono ?_;rintro e w2 ⟨rfl,hb⟩;have HB2:Hid (Below w.heap.size w w2):=HB0.out.trans (hb.mono HB0.out.size);have HD2:=ah (HD.out.below hb (by omega));have z2:w.heap.size+2<=w2.heap.size:=by have:=hb.size;omega
 clear hb HE c0 c1 c2 c3 c4 c5 c6 c7 c8;go_wp2_with fail;refine(HOF.out _).mono ?_;rintro e w3 ⟨rfl,hb⟩;have HB3:Hid (Below w.heap.size w w3):=HB2.out.trans (hb.mono HB2.out.size);have HD3:=ah (HD2.out.below hb (by omega));obtain⟨_,_,f0,f1⟩:=HD3.out.two;clear hb
 go_wp2
 exact ZY (l9 Tryz.results82 rfl (HD3.out.set2 _ _) rfl) rfl ⟨rfl,dQ HB3.out (by omega) _ _⟩
def kV(p:List Itm)(L:List MU):Dig->Option MS:=fun d=>if d∈L.map ofB then pV p d else none
theorem JN{p:List Itm}(L:List MU){b:MU}(h:bE p (ofB b)=some (ofL b)):kV p (L++ [b])=iK (kV p L) (ofB b) (.string (ofL b)):=by
 funext d
 unfold kV iK;by_cases e:d=ofB b
 . subst e
   rw[if_pos (by simp),if_pos rfl];unfold pV;rw[h];rfl
 . rw[if_neg e]
   have:d∈ (L++ [b]).map ofB↔d∈L.map ofB:=by simp[e]
   show(if d∈ (L++ [b]).map ofB then pV p d else none)=if d∈L.map ofB then pV p d else none;by_cases hm:d∈L.map ofB
   . rw[if_pos hm,if_pos (this.2 hm)]
   . rw[if_neg hm,if_neg (fun h=>hm (this.1 h))]
theorem KT{p:List Itm}(hp:PlOk p){L:List MU}(h:∀i∈p,toL i.2∈L):kV p L=pV p:=by
 funext d
 unfold kV;split
 . rfl
 . rename_i hn
   unfold pV;cases hf:bE p d with
   | none=>rfl
   | some b =>
     have hm:=(iy hp.asc).1 hf;exact absurd (List.mem_map.2 ⟨_,h _ hm,(hp.dg _ hm).symm⟩) hn
theorem FT(p:List Itm)(L:List MU)(A:OA)(n c B:Nat)(w:MQ)(h0:Sl w B 1 A n (flat aA L))(hB:B<=w.heap.size)(hn:n<=1000000)(hp:PlOk p)(hm:∀b∈L,∃i∈p,b=toL i.2)(hall:∀i∈p,toL i.2∈L) :
  Calls Tryz.prog 38 #[.slice A n c] w fun e w'=>∃A' c',e= .returned (.tuple #[.slice A' p.length c',.bool true])/\Sl w' w'.heap.size 3 A' p.length (flat itC p)/\p.length<=c'/\c'<=maxLen/\Below w.heap.size w w':=by
 have HPO:=ah hp;have HM:=ah hm;have HAL:=ah (KT hp hall);have HS:=ah h0;have HLN:=ah (h0.len dG (by omega));have HMM:=ah (Gm.made w Tryz.prog 50 iI fH);have hzz:=Tryz.zeroValue9;have hmm:=@run_makeMap Tryz.prog;clear h0 hp hm hall
 go_enter Tryz.func38,Tryz.ntmps38
 go_wp2_with fail
 go_loopw[15] (fun i wr=>∃k:Nat,k<=n/\i= .int .i64 k/\Hid (Gm wr Tryz.prog 50 iI fH w.heap.size k (kV p (L.take k)))/\Hid (Below w.heap.size w wr)) (fun i _=>n - (intOf i).toNat)
 case atStart=>exact⟨0,ZZ _,rfl,by have:=HMM.out;exact this,(af _ w).alloc ai _⟩
 case round =>
  obtain⟨k,hk,rfl,hG,hBel⟩:=hrel;have HG:=ah hG.out;have HBr:=ah hBel.out;have zr:w.heap.size<wr.heap.size:=HG.out.lt;clear hG hBel HMM;by_cases hlt:k<n
  . obtain⟨bb,off,x,rfl,hbb,hx,hc⟩:=(HS.out.below HBr.out hB).at_ dG (by omega) hlt
    have x0:=hc 0 _ rfl;have hlz: (k:Int)< (n:Int):=by omega
    obtain⟨i,hi,hix⟩:=HM.out x (Z7 hx);obtain⟨o,ho,hio⟩:=HPO.out.enc i hi;have hxo:x=aG o:=by rw[hix,hio,bO]
    have hdx:i.1=dgO o:=by have:=HPO.out.dg i hi;rw[this,hio,bO];rfl
    have hfx:bE p (ofB x)=some (ofL x):=(iy HPO.out.asc).2 (by
     have e1: (ofB x,ofL x)=i:=by
      refine Prod.ext ?_ ?_
      . rw[hxo];exact hdx.symm
      . rw[hix,iE]
     rw[e1];exact hi)
    have HK1:=ah (JN (L.take k) hfx);rw[<-aS hx]at HK1;have HWF:Hid (fH (dgO o)):=jo (eP _);have HLK:Hid (kV p (L.take k) (dgO o)=none∨kV p (L.take k) (dgO o)=some (.string (ofL (aG o)))):=by
     show _∨_;unfold kV;split
     . right;unfold pV;rw[hxo]at hfx;rw[show dgO o=ofB (aG o) from rfl,hfx];rfl
     . exact .inl rfl
    rw[hxo]at HK1 x0;simp only[Nat.mul_one,Nat.add_zero,aA]at x0;have HDC:=ah (og o wr ho);unfold OdE at HDC;have HO:=ah ho;have hsz: (ofL (aG o)).size<=maxLen:=by rw[bG];have:=ho.len;unfold maxLen;omega
    obtain⟨sx,hsx⟩:∃sx,ofL (aG o)=sx:=⟨_,rfl⟩
    rw[show ofB (aG o)=dgO o from rfl]at HK1;obtain⟨⟨d1,d2⟩,hdd⟩:∃d,dgO o=d:=⟨_,rfl⟩
    have HDD:=ah hdd;rw[hsx]at HK1 x0 HDC HLK;rw[hdd]at HK1 HWF HLK;clear hi hix hio hxo hdx hfx hx hc ho hsx hdd;go_wp2_with fail;refine HDC.out.mono ?_;rintro e w1 ⟨s,rfl,hom,hb1,_,_⟩;simp only[obV,obC];obtain⟨W1,hW1⟩:∃W,w1.alloc (.cells (obC o s) 109)=W:=⟨_,rfl⟩
    have hb2:Below w1.heap.size w1 W1:=by rw[<-hW1];exact(af _ w1).alloc ai _
    have HO1:Hid (Bk W1 w1.heap.size 109 (obC o s)):=by rw[<-hW1];exact Bk.new w1 _ _
    have HB1:Hid (Below wr.heap.size wr W1):=hb1.trans (hb2.mono hb1.size);have HNM:=ah (F6 o s w1.heap.size W1 (hom.below hb2 ai) hb2.size HO.out);rw[HDD.out]at HNM;simp only[obV,obC,aB]at HNM hW1 HO1;obtain⟨c0,c1,c2,c3,c4,c5,c6,c7,c8⟩:=HO1.out.nine;rw[<-hW1]at c0 c1 c2 c3 c4 c5 c6 c7 c8;have HW1:=ah hW1;clear hom hb1 hb2 hW1 HDC;go_wp2_with fail;rw[HW1.out];refine HNM.out.mono ?_;rintro e w3 ⟨rfl,hb3⟩;have HB3:Hid (Below wr.heap.size wr w3):=HB1.out.trans (hb3.mono HB1.out.size);have HG3:=ah (HG.out.below HB3.out zr);have z3:=HB3.out.size;clear c0 c1 c2 c3 c4 c5 c6 c7 c8 hb3 HNM HO1;obtain⟨W4,hW4⟩:∃W,w3.alloc (.cells #[.int .u64 d1,.int .u64 d2] 50)=W:=⟨_,rfl⟩
    have hb4:Below w3.heap.size w3 W4:=by rw[<-hW4];exact(af _ w3).alloc ai _
    have HD4:Hid (Bk W4 w3.heap.size 50 #[.int .u64 d1,.int .u64 d2]):=by rw[<-hW4];exact Bk.new w3 _ _
    have HG4:=ah (HG3.out.below hb4 (by omega));have HB4:Hid (Below wr.heap.size wr W4):=HB3.out.trans (hb4.mono z3);have hlk:=HG4.out.look_ok jU Tryz.underlying149 (hzz _) HWF.out;obtain⟨r0,r1,_,_⟩:=HD4.out.two;rw[<-hW4]at hlk r0 r1;simp only[dgV]at hlk;have HW4:=ah hW4;clear hb4 hW4 hzz;rcases HLK.out with hl | hl
    all_goals
     rw[hl]at hlk;simp only[Option.getD_none,Option.getD_some,Option.isSome_none,Option.isSome_some]at hlk;clear hl
     go_wp2_with (at_mapUpdate;refine aM ?_)
     rw[HW4.out];refine aF ?_;refine wH rfl _ _ _ 149 rfl 50 9 jU Tryz.underlying149 w.heap.size k _ rfl HG4.out (by unfold maxLen;omega) (d1,d2) HWF.out (.string sx) rfl rfl ?_;intro w5 hg5 hgr;rw[<-HK1.out]at hg5;have HG5:=ah hg5;have HB5:Hid (Below w.heap.size w w5):=(HBr.out.trans (HB4.out.mono (by omega))).grown hgr (by have:=HB4.out.size;omega) (fun g e=>by cases e;exact Nat.le_refl _);clear hg5 hgr r0 r1 hlk;go_wp2_with fail;go_roundw
     case rel=>exact⟨k+1,hlt,by go_num,HG5.out,HB5.out⟩
     case measure=>simp[intOf];omega
  . have hlz:¬(k:Int)< (n:Int):=by omega
    have HGE:Hid (Gm wr Tryz.prog 50 iI fH w.heap.size k (pV p)):=by
     have:=HG.out;rw[ZW (by have:=HLN.out;omega),HAL.out]at this;exact this
    have HTP:=ah (FC p w.heap.size k wr HGE.out HPO.out.asc (fun i hi=>by rw[HPO.out.dg i hi];exact eP _) (by omega));unfold CJ at HTP;go_wp2_with fail;refine HTP.out.mono ?_;rintro e w2 ⟨A',c',rfl,hs,h1,h2,hb⟩;have HS2:=ah hs;have HB2:Hid (Below w.heap.size w w2):=HBr.out.trans (hb.mono (by omega));clear hs hb HTP
    go_wp2
    go_ret2
    exact⟨A',c',rfl,HS2.out,h1,h2,HB2.out⟩
end
end Go.Proofs.YtknefelegjlgnaaGreatDoor
