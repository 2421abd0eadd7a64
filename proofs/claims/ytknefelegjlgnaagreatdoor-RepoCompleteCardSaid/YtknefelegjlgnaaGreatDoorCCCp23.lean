/-
  Lemmas of the card.
-/
import Derived.Test.YtknefelegjlgnaaGreatDoorCCCp22
set_option maxRecDepth 100000
set_option maxHeartbeats 8000000
namespace Go.Proofs.YtknefelegjlgnaaGreatDoor
open Go.RowKit
section
open Go.Maps
def pt1(q:UX):UX:=q.extract (aK (toL q)).2.1 q.size
def pt2(q:UX):UX:=q.extract (bu (toL q)).2.1 q.size
theorem Pj(q:UX):rdU (toL q)=if(((false || (aK (toL q)).2.2 != 0) || (bu (toL (pt1 q))).2.2 != 0) || (bu (toL (pt2 (pt1 q)))).2.2 != 0)=true then none
  else some ((ofL (aK (toL q)).1,(bu (toL (pt1 q))).1,(bu (toL (pt2 (pt1 q)))).1),toL (pt2 (pt2 (pt1 q)))):=by
 have e1:toL (pt1 q)= (toL q).drop (aK (toL q)).2.1:=rV _ _;unfold rdU;by_cases h1: (aK (toL q)).2.2=0
 . by_cases h2: (toL (pt1 q)).length<16
   . have g2:bu (toL (pt1 q))= ((0,0),0,13):=by unfold bu;rw[if_pos h2]
     rw[if_pos (.inr (by rw[e1,List.length_drop]at h2;omega)),if_pos (by rw[g2];simp)]
   . have g2:bu (toL (pt1 q))= (dg (toL (pt1 q)),16,0):=by unfold bu;rw[if_neg h2]
     have e2:toL (pt2 (pt1 q))= (toL q).drop ((aK (toL q)).2.1+16):=by
      rw[pt2,rV,g2,e1,List.drop_drop]
     by_cases h3: (toL (pt2 (pt1 q))).length<16
     . have g3:bu (toL (pt2 (pt1 q)))= ((0,0),0,13):=by unfold bu;rw[if_pos h3]
       rw[if_pos (.inr (by rw[e2,List.length_drop]at h3;omega)),if_pos (by rw[g3];simp)]
     . have g3:bu (toL (pt2 (pt1 q)))= (dg (toL (pt2 (pt1 q))),16,0):=by unfold bu;rw[if_neg h3]
       have e3:toL (pt2 (pt2 (pt1 q)))= (toL q).drop ((aK (toL q)).2.1+32):=by
        rw[show pt2 (pt2 (pt1 q))= (pt2 (pt1 q)).extract (bu (toL (pt2 (pt1 q)))).2.1 (pt2 (pt1 q)).size from rfl,rV,g3,e2,List.drop_drop];rfl
       rw[if_neg (by rw[e2,List.length_drop]at h3;simp[h1];omega),if_neg (by rw[g2,g3];simp[h1]),g2,g3,e1,e2,e3]
 . rw[if_pos (.inl h1),if_pos (by simp[h1])]
theorem O9(k:Nat)(l:UZ)(acc:List Upd):fin acc (rdL (k+1) l)=match rdU l with | none=>([],13) | some (u,r)=>if dG u≠0 then([],13) else fin (acc++ [u]) (rdL k r):=by
 rw[rdL];cases rdU l with
 | none=>rfl
 | some p =>
   obtain⟨u,r⟩:=p;simp only;cases rdL k r with
   | none=>simp[fin]
   | some p2 =>
     obtain⟨us,q⟩:=p2;simp only[fin,dJ];by_cases hp:dG u=0
     . simp[hp]
     . simp[hp]
theorem yH(q:UX)(h:q.size<=1000000): (pt1 q).size<=1000000/\ (pt2 q).size<=1000000:=by
 unfold pt1 pt2;rw[ByteArray.size_extract,ByteArray.size_extract];omega
theorem Apd.gbp{p:Nat->Prop}{w w':UW}{base size n c:Nat}{e:TypeId}{A:OA}{xs:List UY}(h:Apd w base e size A n c xs)(hg:Gb p w w')(hp:∀k,base<=k->¬p k):Apd w' base e size A n c xs:=by
 rcases h with h | h
 . refine .inl ⟨h.1,?_⟩
   rcases h.2 with h0 | ⟨g,cap,cur,hv,h1,hh,h2⟩
   . exact .inl h0
   . exact .inr ⟨g,cap,cur,hv,h1,(hg.block g (Array.getElem?_eq_some_iff.1 hh).1 (hp g h1)).trans hh,h2⟩
 . exact .inr h
theorem Gb.then2{r u:Nat}{a b c:UW}(h:Gb (fun x=>x=r) a b)(g:Gb (fun x=>x=r∨x=u) b c)(hu:a.heap.size<=u):Gb (fun x=>x=r) a c :=
 ⟨g.os.trans h.os,g.tape.trans h.tape,g.output.trans h.output,ZY h.size g.size,fun i hi hn=>(g.block i (Nat.lt_of_lt_of_le hi h.size) (by rintro (e | e);exact hn e;omega)).trans (h.block i hi hn)⟩
theorem Me(l:UZ): (aK l).1.length<=l.length:=by
 unfold aK;split
 . simp
 . split
   . simp
   . split
     . simp
     . simp only[List.length_take,List.length_drop];omega
def ui(s:UX)(n j:Nat)(q:UX)(bad:Bool)(acc:List Upd):Prop:=eH (toL s)=if bad=true then([],13) else fin acc (rdL (n - j) (toL q))
theorem JD(s:UX)(w:UW)(hs:s.size<=1000000):Calls Tryz.prog 142 #[.string s] w (uh (eH (toL s)) w):=by
 have HR:Hid (∀r,eH (toL s)=r->∀e w',uh r w e w'->uh (eH (toL s)) w e w'):=fun r h e w' hh=>by rw[h];exact hh
 have HD:Hid (eH (toL s)=if(az (toL s)).2.2≠0∨1000< (az (toL s)).1 then([],13) else fin [] (rdL (az (toL s)).1 ((toL s).drop (az (toL s)).2.1))):=rfl;obtain⟨i0,hi,hz0,hz1,hz2⟩:=info_parts uq;have Hi:=ai hi;have C:=ai hz0;have D:=ai hz1;have E:=ai hz2;clear hi hz0 hz1 hz2;have K0:Hid (Bk ((w.alloc (.cells #[.string s,.bool false] 302)).alloc (.cells #[.func (.func 224) #[] #[],.func (.func 227) #[] #[],.func (.func 230) #[] #[]] 305)) w.heap.size 302 #[.string s,.bool false]):=(Bk.new w 302 _).alloc _;have P0:Hid (Bk ((w.alloc (.cells #[.string s,.bool false] 302)).alloc (.cells #[.func (.func 224) #[] #[],.func (.func 227) #[] #[],.func (.func 230) #[] #[]] 305)) (w.heap.size+1) 305 #[.func (.func 224) #[] #[],.func (.func 227) #[] #[],.func (.func 230) #[] #[]]):=by
  have:=Bk.new (w.alloc (.cells #[.string s,.bool false] 302)) 305 #[.func (.func 224) #[] #[],.func (.func 227) #[] #[],.func (.func 230) #[] #[]];rw[Z9]at this;exact this
 have HB0:Hid (U0 w ((w.alloc (.cells #[.string s,.bool false] 302)).alloc (.cells #[.func (.func 224) #[] #[],.func (.func 227) #[] #[],.func (.func 230) #[] #[]] 305))):=((ah _ w).alloc aj _).alloc (by simp) _
 go_enter Tryz.func142,Tryz.ntmps142
 go_wp2_with fail;refine(JZ w.heap.size s false _ K0.o).mono ?_;obtain⟨q0,hq0⟩:=NX9 (s.extract (az (toL s)).2.1 s.size)
 rw[hq0];have f:Hid (toL q0= (toL s).drop (az (toL s)).2.1):=by show _=_;rw[<-hq0];exact rV _ _
 have F:q0.size<=1000000:=by rw[<-hq0,ByteArray.size_extract];omega
 have hgm:=xW (toL s);clear hq0;generalize az (toL s)=g at *;obtain⟨n,k,e⟩:=g;simp only at HD f hgm ⊢;rintro e' w1 ⟨rfl,k1,g1⟩;have hz1:w.heap.size+2<=w1.heap.size:=by have:=g1.size;simp at this;omega
 have K1:=ai k1;have P1:=ai (g1.bk P0.o (by simp));have HB1:=ai (HB0.o.trans (g1.below (B:=w.heap.size) (by simp;omega) (fun k hk e=>by omega)));obtain⟨x0,x1,f0,f1⟩:=k1.agg;clear k1 g1;by_cases he:e=0
 . subst he
   by_cases hn:1000<n
   . have hni: (1000:Int)< (n:Int):=by omega
     have hn0: (0:Int)< (n:Int):=by omega
     have hfin:Hid (eH (toL s)= ([],13)):=by show _=_;rw[HD.o,if_pos (.inr hn)]
     have hr1:=K1.o.set 1 (.bool true);have y1:=hr1.cell 1;simp at y1;clear hr1
     go_wp2
     refine wp_loop_rounds 1 ?_;rw[rounds_succ]
     go_wp2
     go_ret2
     exact oq hfin.o (HB1.o.setCell (p:=⟨w.heap.size,1,none⟩) aj _)
   . have hni:¬(1000:Int)< (n:Int):=by omega
     have hnd:decide ((1000:Int)< (n:Int))=false:=by simpa using hni
     have HI0:Hid (ui s n 0 q0 false []):=by
      show eH (toL s)=_;rw[HD.o,f.o,if_neg (by simp;omega)];rfl
     have KB:Hid (Bk (w1.setCell ⟨w.heap.size,1,none⟩ (.bool false)) w.heap.size 302 #[.string q0,.bool false]):=by
      show Bk _ _ _ _;have:=K1.o.set 1 (.bool false)
      simpa using this
     have PB:Hid (Bk (w1.setCell ⟨w.heap.size,1,none⟩ (.bool false)) (w.heap.size+1) 305 #[.func (.func 224) #[] #[],.func (.func 227) #[] #[],.func (.func 230) #[] #[]]):=P1.o.far (p:=⟨w.heap.size,1,none⟩) (by simp) _;have N:Hid (U0 w (w1.setCell ⟨w.heap.size,1,none⟩ (.bool false))):=HB1.o.setCell (p:=⟨w.heap.size,1,none⟩) aj _;have hzb:w.heap.size+2<= (w1.setCell ⟨w.heap.size,1,none⟩ (.bool false)).heap.size:=by simp;omega
     clear HD f K1 P1
     go_wp2
     go_loopw[7,8] (fun v i wr=>∃(j:Nat)(A:OA)(c:Nat)(q:UX)(bad:Bool)(acc:List Upd),j<=n/\i= .int .i64 j/\v= .slice A j c/\q.size<=1000000/\Hid (Bk wr w.heap.size 302 #[.string q,.bool bad])/\Hid (Bk wr (w.heap.size+1) 305 #[.func (.func 224) #[] #[],.func (.func 227) #[] #[],.func (.func 230) #[] #[]]) ∧
      Hid (Apd wr (w.heap.size+2) 85 5 A j c (flat upC acc))/\Hid (ui s n j q bad acc)/\U6 w wr/\w.heap.size+2<=wr.heap.size) (fun _ i _=>n - (intOf i).toNat)
     case atStart=>exact⟨0,none,0,q0,false,[],ZX _,rfl,rfl,F,KB.o,PB.o,.inr ⟨rfl,rfl,rfl⟩,HI0.o,N.o,hzb⟩
     case round =>
      clear KB PB N hzb HI0;obtain⟨j,A,c,q,bad,acc,hj,rfl,rfl,G,I,V,hA,hI,hBel,hwz⟩:=hrel;clear hni hnd;by_cases hlt:j<n
      . have hlz: (j:Int)< (n:Int):=by omega
        cases bad with
        | true =>
          have hfin:Hid (eH (toL s)= ([],13)):=hI.o;obtain⟨x0,x1,_,_⟩:=I.o.agg
          go_wp2
          go_ret2
          exact oq hfin.o hBel.o
        | false =>
          have HI2:Hid (eH (toL s)=match rdU (toL q) with | none=>([],13) | some (u,r)=>if dG u≠0 then([],13) else fin (acc++ [u]) (rdL (n - (j+1)) r)):=by
           show _=_;have h1:eH (toL s)=fin acc (rdL (n - j) (toL q)):=hI.o;rw[h1,show n - j=n - (j+1)+1 by omega,O9]
          have H:=ai (Pj q);have hp1:=(yH q G).1;have hp2:=(yH (pt1 q) hp1).2;have hp3:=(yH (pt2 (pt1 q)) hp2).2;have J:=ai (I.o.alloc (.cells #[.string ⟨#[]⟩,.int .u64 0,.int .u64 0,.int .u64 0,.int .u64 0] 85));have d:=ai (V.o.alloc (.cells #[.string ⟨#[]⟩,.int .u64 0,.int .u64 0,.int .u64 0,.int .u64 0] 85));have K:=ai (Bk.new wr 85 #[.string ⟨#[]⟩,.int .u64 0,.int .u64 0,.int .u64 0,.int .u64 0]);have L:Hid (Gb (fun g=>g=w.heap.size) wr (wr.alloc (.cells #[.string ⟨#[]⟩,.int .u64 0,.int .u64 0,.int .u64 0,.int .u64 0] 85))):=Gb.of_below ((ah _ wr).alloc aj _);obtain⟨x0,x1,_,_⟩:=I.o.agg;have y0:=d.o.cell 0;have y1:=d.o.cell 1;have y2:=d.o.cell 2;simp at y0 y1 y2
          go_wp2
          refine wp_loop_rounds 4 ?_;rw[rounds_succ];go_wp2_with fail;have a:w.heap.size≠wr.heap.size:=by omega
          have O: (ofL (aK (toL q)).1).size<=1000000:=by rw[bK];have:=Me (toL q);rw[<-aQ]at this;omega
          refine(Nw w.heap.size wr.heap.size q false ⟨#[]⟩ 0 0 0 0 _ J.o K.o G a).mono ?_;rw[show q.extract (aK (toL q)).2.1 q.size=pt1 q from rfl];generalize pt1 q=q1 at *;generalize (false || (aK (toL q)).2.2 != 0)=b1 at *;generalize ofL (aK (toL q)).1=ts at *;rintro e2 w2 ⟨rfl,k2,u2,g2⟩;have K2:=ai k2;have P:=ai u2;have P2:=ai (g2.bk d.o (by intro e;omega));have G2:=ai (L.o.then2 g2 aj);have hz2:wr.heap.size+1<=w2.heap.size:=by have:=g2.size;simp at this;omega
          clear k2 u2 g2 y0 y1 y2 x0 x1;have y0:=P2.o.cell 0;have y1:=P2.o.cell 1;have y2:=P2.o.cell 2;simp at y0 y1 y2
          go_wp2
          rw[rounds_succ];go_wp2_with fail;refine(Og w.heap.size wr.heap.size q1 b1 ts 0 0 0 0 _ K2.o P.o hp1 a).mono ?_;rw[show q1.extract (bu (toL q1)).2.1 q1.size=pt2 q1 from rfl];generalize pt2 q1=q2 at *;generalize (b1 || (bu (toL q1)).2.2 != 0)=b2 at *;generalize (bu (toL q1)).1=dd1 at *;obtain⟨a0,a1⟩:=dd1;rintro e3 w3 ⟨rfl,k3,u3,g3⟩;simp only at u3;have K3:=ai k3;have Q:=ai u3;have P3:=ai (g3.bk P2.o (by intro e;omega));have G3:=ai (G2.o.then2 g3 aj);have hz3:w2.heap.size<=w3.heap.size:=g3.size;clear k3 u3 g3 y0 y1 y2;have y0:=P3.o.cell 0;have y1:=P3.o.cell 1;have y2:=P3.o.cell 2;simp at y0 y1 y2
          go_wp2
          rw[rounds_succ];go_wp2_with fail;refine(MX w.heap.size wr.heap.size q2 b2 ts a0 a1 0 0 _ K3.o Q.o hp2 a).mono ?_;rw[show q2.extract (bu (toL q2)).2.1 q2.size=pt2 q2 from rfl];generalize pt2 q2=q3 at *;generalize (b2 || (bu (toL q2)).2.2 != 0)=b3 at *;generalize (bu (toL q2)).1=dd2 at *;obtain⟨c0,c1⟩:=dd2;rintro e4 w4 ⟨rfl,k4,u4,g4⟩;simp only at u4;have K4:=ai k4;have R:=ai u4;have P4:=ai (g4.bk P3.o (by intro e;omega));have G4:=ai (G3.o.then2 g4 aj);have W:w3.heap.size<=w4.heap.size:=g4.size;obtain⟨x0,x1,f0,f1⟩:=k4.agg;have v0:=u4.cell 0;have v1:=u4.cell 1;have v2:=u4.cell 2;have v3:=u4.cell 3;have v4:=u4.cell 4;simp at v0 v1 v2 v3 v4;clear k4 u4 g4 y0 y1 y2 K2 K3 P Q P2 P3 G2 G3
          go_wp2
          rw[rounds_succ];cases b3 with
          | true =>
            have l:Hid (ui s n (j+1) q3 true (acc++ [(ts,(a0,a1),(c0,c1))])):=by
             show eH (toL s)=_;rw[HI2.o,H.o];rfl
            have KB:Hid (Bk (w4.setCell ⟨w.heap.size,1,none⟩ (.bool true)) w.heap.size 302 #[.string q3,.bool true]):=by
             show Bk _ _ _ _;have:=K4.o.set 1 (.bool true)
             simpa using this
            have PB:Hid (Bk (w4.setCell ⟨w.heap.size,1,none⟩ (.bool true)) (w.heap.size+1) 305 #[.func (.func 224) #[] #[],.func (.func 227) #[] #[],.func (.func 230) #[] #[]]):=P4.o.far (p:=⟨w.heap.size,1,none⟩) (by simp) _;have HG:Hid (Gb (fun x=>x=w.heap.size) wr (w4.setCell ⟨w.heap.size,1,none⟩ (.bool true))):=G4.o.trans (Gb.set (p:=fun x=>x=w.heap.size) (x:=w.heap.size) rfl 1 _);have b:=R.o.far (p:=⟨w.heap.size,1,none⟩) a.symm (.bool true);have t0:=b.cell 0;have t1:=b.cell 1;have t2:=b.cell 2;have t3:=b.cell 3;have t4:=b.cell 4;simp at t0 t1 t2 t3 t4;clear b
            go_wp2_with (at_builtin;refine aN ?_)
            refine aH ?_;refine dZ (base:=w.heap.size+2) _ rfl (.tmp 63) (.tmp 65) 31 rfl 85 i0 _ 48 Tryz.underlying31 Hi.o C.o D.o E.o rfl (by decide) A j c (flat upC acc) rfl ?ap (w4.heap.size+1) _ 1 _ (flat upC [(ts,(a0,a1),(c0,c1))]) rfl ?sl (qW _) (by unfold maxLen;omega) (by omega) (by simp;omega) ?_
            case ap=>exact(hA.o.gbp HG.o (fun k hk e=>by omega)).below ((ah _ _).alloc aj _)
            case sl =>
             have:=Sl.new (w4.setCell ⟨w.heap.size,1,none⟩ (.bool true)) 85 (flat upC [(ts,(a0,a1),(c0,c1))]) 1 (size:=5) rfl;have e: (w4.setCell ⟨w.heap.size,1,none⟩ (.bool true)).heap.size=w4.heap.size:=by simp
             rw[e]at this;exact this
            intro M c7 w7 a7 hb7 _ _ _;rw[<-bI]at a7;have m:=ai a7;have o:w.heap.size+2<=w7.heap.size:=by have:=hb7.size;simp at this;omega
            have t:=ai ((KB.o.alloc (.cells #[.string ts,.int .u64 a0,.int .u64 a1,.int .u64 c0,.int .u64 c1] 85)).below hb7 (by omega));have y:=ai ((PB.o.alloc (.cells #[.string ts,.int .u64 a0,.int .u64 a1,.int .u64 c0,.int .u64 c1] 85)).below hb7 (by omega));have z:U6 w w7:=((hBel.o.trans (HG.o.below (B:=w.heap.size) (by omega) (fun k hk e=>by omega))).alloc (by simp;omega) _).trans (hb7.mono (by omega));clear a7 hb7
            go_wp2
            go_roundw
            case rel=>exact⟨j+1,M,c7,q3,_,acc++ [(ts,(a0,a1),(c0,c1))],by omega,by go_num,rfl,hp3,t.o,y.o,m.o,l.o,z.o,o⟩
            case measure=>simp[intOf];omega
          | false =>
            have HI3:Hid (eH (toL s)=if dG (ts,(a0,a1),(c0,c1))≠0 then([],13) else fin (acc++ [(ts,(a0,a1),(c0,c1))]) (rdL (n - (j+1)) (toL q3))):=by
             show _=_;rw[HI2.o,H.o];rfl
            go_wp2_with fail;refine(uU (ts,(a0,a1),(c0,c1)) _ (by show ts.size<=maxLen;unfold maxLen;omega)).mono ?_;generalize dG (ts,(a0,a1),(c0,c1))=pe at *;rintro e5 w5 ⟨rfl,hb5⟩;have X:w4.heap.size<=w5.heap.size:=hb5.size;have K5:=K4.o.below hb5 (by omega);have S:=R.o.below hb5 (by omega);have T:=P4.o.below hb5 (by omega);have U:=G4.o.trans (Gb.of_below hb5);obtain⟨pb,hpb⟩:=NX9 ((pe != 0))
            have l:Hid (ui s n (j+1) q3 pb (acc++ [(ts,(a0,a1),(c0,c1))])):=by
             show eH (toL s)=_;rw[HI3.o,<-hpb];by_cases hp:pe=0
             . rw[if_neg (by simp[hp]),if_neg (by simp[hp])]
             . rw[if_pos hp,if_pos (by simp[hp])]
            have KB:Hid (Bk (w5.setCell ⟨w.heap.size,1,none⟩ (.bool pb)) w.heap.size 302 #[.string q3,.bool pb]):=by
             show Bk _ _ _ _;have:=K5.set 1 (.bool pb)
             simpa using this
            have PB:Hid (Bk (w5.setCell ⟨w.heap.size,1,none⟩ (.bool pb)) (w.heap.size+1) 305 #[.func (.func 224) #[] #[],.func (.func 227) #[] #[],.func (.func 230) #[] #[]]):=T.far (p:=⟨w.heap.size,1,none⟩) (by simp) _;have HG:Hid (Gb (fun x=>x=w.heap.size) wr (w5.setCell ⟨w.heap.size,1,none⟩ (.bool pb))):=U.trans (Gb.set (p:=fun x=>x=w.heap.size) (x:=w.heap.size) rfl 1 _);obtain⟨z0,z1,s0,s1⟩:=K5.agg;have b:=S.far (p:=⟨w.heap.size,1,none⟩) a.symm (.bool pb);have t0:=b.cell 0;have t1:=b.cell 1;have t2:=b.cell 2;have t3:=b.cell 3;have t4:=b.cell 4;simp at t0 t1 t2 t3 t4;clear b K5 S T U hb5 x0 x1 f0 f1 v0 v1 v2 v3 v4 HI3
            go_wp2_with (at_builtin;refine aN ?_)
            refine aH ?_;refine dZ (base:=w.heap.size+2) _ rfl (.tmp 63) (.tmp 65) 31 rfl 85 i0 _ 48 Tryz.underlying31 Hi.o C.o D.o E.o rfl (by decide) A j c (flat upC acc) rfl ?ap (w5.heap.size+1) _ 1 _ (flat upC [(ts,(a0,a1),(c0,c1))]) rfl ?sl (qW _) (by unfold maxLen;omega) (by omega) (by simp;omega) ?_
            case ap=>exact(hA.o.gbp HG.o (fun k hk e=>by omega)).below ((ah _ _).alloc aj _)
            case sl =>
             have:=Sl.new (w5.setCell ⟨w.heap.size,1,none⟩ (.bool pb)) 85 (flat upC [(ts,(a0,a1),(c0,c1))]) 1 (size:=5) rfl;have e: (w5.setCell ⟨w.heap.size,1,none⟩ (.bool pb)).heap.size=w5.heap.size:=by simp
             rw[e]at this;exact this
            intro M c7 w7 a7 hb7 _ _ _;rw[<-bI]at a7;have m:=ai a7;have o:w.heap.size+2<=w7.heap.size:=by have:=hb7.size;simp at this;omega
            have t:=ai ((KB.o.alloc (.cells #[.string ts,.int .u64 a0,.int .u64 a1,.int .u64 c0,.int .u64 c1] 85)).below hb7 (by omega));have y:=ai ((PB.o.alloc (.cells #[.string ts,.int .u64 a0,.int .u64 a1,.int .u64 c0,.int .u64 c1] 85)).below hb7 (by omega));have z:U6 w w7:=((hBel.o.trans (HG.o.below (B:=w.heap.size) (by omega) (fun k hk e=>by omega))).alloc (by simp;omega) _).trans (hb7.mono (by omega));clear a7 hb7
            go_wp2
            go_roundw
            case rel=>exact⟨j+1,M,c7,q3,_,acc++ [(ts,(a0,a1),(c0,c1))],by omega,by go_num,rfl,hp3,t.o,y.o,m.o,l.o,z.o,o⟩
            case measure=>simp[intOf];omega
      . have hlz:¬(j:Int)< (n:Int):=by omega
        obtain⟨x0,x1,_,_⟩:=I.o.agg;cases bad with
        | true =>
          have hfin:Hid (eH (toL s)= ([],13)):=hI.o
          go_wp2
          go_ret2
          exact oq hfin.o hBel.o
        | false =>
          have hI2:eH (toL s)=if toL q= []/\dJ []=0 then(acc++ [],0) else([],13):=by
           have h1:eH (toL s)=fin acc (rdL (n - j) (toL q)):=hI.o;rw[h1,show n - j=0 by omega,rdL,fin]
          by_cases hqe:toL q= []
          . have hfin:Hid (eH (toL s)= (acc,0)):=by show _=_;rw[hI2,if_pos ⟨hqe,rfl⟩,List.append_nil]
            have t1:q.toList= []:=by rw[ByteArray.toList_eq];exact hqe
            have t2: (q.toList == ([]:List UInt8))=true:=by rw[t1];rfl
            clear hI2 hqe
            go_wp2
            go_ret2
            exact HR.o _ hfin.o _ _ ⟨A,j,c,rfl,hA.o.low (by omega),hA.o.cap.1,hA.o.cap.2,hBel.o⟩
          . have hfin:Hid (eH (toL s)= ([],13)):=by show _=_;rw[hI2,if_neg (by simp[hqe])]
            have t1: (!q.toList.isEmpty)=true:=by
             rw[ByteArray.toList_eq];simp only[Bool.not_eq_true',List.isEmpty_eq_false_iff];exact hqe
            have t2: (q.toList == ([]:List UInt8))=false:=by rw[beq_eq_false_iff_ne,ByteArray.toList_eq];exact hqe
            have t3:¬q.toList= []:=by rw[ByteArray.toList_eq];exact hqe
            clear hI2 hqe
            go_wp2
            go_ret2
            exact oq hfin.o hBel.o
 . have hne: (e != 0)=true:=by rw[bne_iff_ne];exact he
   have hfin:Hid (eH (toL s)= ([],13)):=by show _=_;rw[HD.o,if_pos (.inl he)]
   have hr1:=K1.o.set 1 (.bool true);have y1:=hr1.cell 1;simp at y1;clear hr1 he;by_cases hn0: (0:Int)< (n:Int)
   all_goals
    go_wp2
    refine wp_loop_rounds 1 ?_;rw[rounds_succ]
    go_wp2
    go_ret2
    exact oq hfin.o (HB1.o.setCell (p:=⟨w.heap.size,1,none⟩) aj _)
end
section
attribute [local go_sem] Oper.semAt_some
def IB(us:List Upd)(n:Nat)(w:UW)(e:Ending)(w':UW):Prop:=∃A m c,e= .returned (.tuple #[.int .i64 n,.slice A m c,.int .i64 0])/\Apd w' w.heap.size 85 5 A m c (flat upC us)/\m=us.length/\m<=c/\c<=maxLen/\U0 w w'
theorem Qn(g:Gru)(hg:GOk g)(hs: (headB g.1 g.2.length).length<=65536)(w:UW):Calls Tryz.prog 80 #[.string (ofL (headB g.1 g.2.length))] w (IB g.1 g.2.length w):=by
 obtain⟨us,os⟩:=g;have HX:=ai (KJ (ak os.length) (encR us).1);obtain⟨s,hse⟩:=NX9 (ofL (headB us os.length))
 have e0:ofL (ak os.length++ (encR us).1)=s:=hse;rw[e0]at HX;have hsz:s.size= (headB us os.length).length:=by rw[<-hse,bK]
 have hlen: (headB us os.length).length= (ak os.length).length+ (encR us).1.length:=af ..;have HG:=ai (mr s w);rw[show az (toL s)= (os.length,(ak os.length).length,0) by rw[<-hse,dw];exact hg.num]at HG;have HD:=ai (JD (ofL (encR us).1) w (by rw[bK];simp only at hs;omega));rw[dw,show eH (encR us).1= (us,0) from hg.dec]at HD;simp only at hs ⊢;rw[hse];obtain⟨k,hk⟩:=NX9 ((ak os.length).length)
 have hn:os.length<=1099511627776:=hg.os;rw[hk]at HX HG hlen;obtain⟨n,hne⟩:=NX9 os.length
 rw[hne]at HG hn ⊢;have hki: (k:Int)<= (s.size:Int):=by omega
 have hsm: (s.size:Int)<=1000000:=by omega
 rw[<-HX.o]at HD;clear hg hs hse e0 hsz hlen hk hne HX
 go_enter Tryz.func80,Tryz.ntmps80
 go_wp2_with fail;refine HG.o.mono ?_;rintro e w' ⟨rfl,rfl⟩;go_wp2_with fail;refine HD.o.mono ?_;rintro e w1 ⟨A,m,c,rfl,hs,hmc,hcm,hb⟩;have HS:=ai hs;have HB:=ai hb;clear hs hb HD HG
 go_wp2
 go_ret3
 exact⟨A,m,c,rfl,HS.o,HS.o.sl.len gy (by omega) |>.symm,hmc,hcm,HB.o⟩
abbrev Gx:=(OA×Nat×Nat)× (OA×Nat×Nat)×Gru
def gxV(x:Gx):Array UY:=#[.agg #[.slice x.1.1 x.1.2.1 x.1.2.2,.slice x.2.1.1 x.2.1.2.1 x.2.1.2.2,.bool false]]
def gxG(xs:List Gx):List Gru:=xs.map (·.2.2)
theorem mW(xs:List Gx)(x:Gx):gxG (xs++ [x])=gxG xs++ [x.2.2]:=by simp[gxG]
structure GxM(W:UW)(x:Gx):Prop where
 u:Apd W 0 85 5 x.1.1 x.1.2.1 x.1.2.2 (flat upC x.2.2.1)
 o:Sl W W.heap.size 1 x.2.1.1 x.2.1.2.1 (flat aC x.2.2.2)
 ul:x.1.2.1=x.2.2.1.length
 ol:x.2.1.2.1=x.2.2.2.length
def GxP(gs:List Gru)(W:UW)(xs:List Gx):Prop:=∀pre x,xs=pre++ [x]-> (∃rest,gxG xs++rest=gs)/\GxM W x
def KeepG(B b:Nat)(A C:UW):Prop:=(∀k,k<B->C.heap[k]? =A.heap[k]?)/\C.heap[b]? =A.heap[b]?
theorem KeepG.trans{B b:Nat}{X Y Z:UW}(h:KeepG B b X Y)(k:KeepG B b Y Z):KeepG B b X Z:=⟨fun i hi=>(k.1 i hi).trans (h.1 i hi),k.2.trans h.2⟩
theorem Sl.low{w w':UW}{B size n:Nat}{A:OA}{xs:List UY}(h:Sl w B size A n xs)(hk:∀k,k<B->w'.heap[k]? =w.heap[k]?):Sl w' B size A n xs:=h.keep fun p hp=>World.cell?_of_block (hk p.block hp)
theorem wH(g:Gru)(gs:List Gru):recs (g::gs)=headB g.1 g.2.length:: (g.2++recs gs):=by simp[recs,aP]
theorem vz(a b:List Gru):recs (a++b)=recs a++recs b:=by simp[recs]
theorem KY(n bs B1 hz:Nat)(hn:1<=n)(A:OA)(m c:Nat)(gs:List Gru)(w:UW)(hbs:Bk w bs 22 #[.slice A m c])(hs:Sl w B1 1 A m (flat aC (recs gs)))(hB1:B1<=bs)(hmc:m<=c)(hm:m<=1000000)(hg:∀g∈gs,GOk g)(hsz:∀t∈recs gs,t.length<=65536) :
  uH Fence.wide n Tryz.prog 79 #[.pointer (some ⟨bs,0,none⟩)] gxV (KeepG B1 bs) (fun A B=>U0 A B) (GxP gs) (fun xs=>gxG xs=gs) (fun _=>True) hz w:=fun l J Jx W hW hWz hJ hY hJ0=>by
 have G0:Hid (Bk W bs 22 #[.slice A m c]):=(hW.block bs hbs.lt).trans hbs;have G1:Hid (Sl W B1 1 A m (flat aC (recs gs))):=hs.below hW (by have:=hbs.lt;omega);have h:=ai (hs.len dW (by omega));have HG:=ai hg;have F:=ai hsz;have S:=ai hY;have G:=ai hJ0;have HJ:=ai hJ;obtain⟨i0,hi,hz0,hz1,hz2⟩:=info_parts jP;have Hi:=ai hi;have H:=ai hz1;clear hW hbs hs hWz hJ hY hJ0 hg hsz hi hz0 hz1 hz2;refine callsIn_of_wp Tryz.func79 rfl trivial ?_ rfl;simp only[Tryz.ntmps79,List.size_toArray,Z4,List.length_nil,Nat.reduceAdd,Nat.reduceSub,Array.replicate_succ,Array.replicate_zero,List.push_toArray,List.append_toArray,List.nil_append,List.cons_append]
 gi_wp2_with fail
 gi_loopw [3] (fun q wr=>∃(a:Nat)(pre:List Gx)(rest:List Gru),q= .int .i64 (a:Int)/\a<=m/\Hid (gxG pre++rest=gs)/\Hid (a= (recs (gxG pre)).length)/\Hid (Bk wr bs 22 #[.slice A m c])/\Hid (Sl wr B1 1 A m (flat aC (recs gs)))/\Hid (J pre wr)) (fun q _=>m+1 - (intOf q).toNat)
 case atStart=>exact⟨0,[],gs,rfl,ZX _,rfl,rfl,G0.o,G1.o,G.o⟩
 case round =>
  obtain⟨a,pre,rest,rfl,ham,hgs,ha,hBs,hSl,hj⟩:=hrel;have b:=ai hgs.o;have HA:=ai ha.o;have I:=ai hBs.o;have j:=ai hSl.o;have o:=ai hj.o;have hbl:=hBs.o.lt;have c0:=hBs.o.cell 0;simp at c0;clear hgs ha hBs hSl hj;by_cases hlt:a<m
  . obtain⟨g,rest,rfl⟩:∃g r,rest=g::r:=by
      cases rest with
      | nil =>
        have:=b.o;rw[List.append_nil]at this;have h1:=HA.o;have h2:=h.o;rw[this]at h1;omega
      | cons g r=>exact⟨g,r,rfl⟩
    have i:Hid (recs gs=recs (gxG pre)++ (headB g.1 g.2.length:: (g.2++recs rest))):=by show _=_;rw[<-b.o,vz,wH]
    have hgm:g∈gs:=by rw[<-b.o];simp
    have hla:a+1+g.2.length+ (recs rest).length=m:=by
     have h1:=HA.o;have h2:=h.o;rw[i.o]at h2;simp only[af,Z4]at h2;omega
    have hget: (recs gs)[a]? =some (headB g.1 g.2.length):=by rw[i.o,HA.o,List.getElem?_append_right aj,Nat.sub_self];rfl
    have HH:=ai (fun w'=>Qn g (HG.o g hgm) (F.o _ (Z7 hget)) w');unfold IB at HH;obtain⟨bb,off,x,rfl,hbb,hx,hc⟩:=j.o.at_ dW (by omega) hlt;have x0:=hc 0 _ rfl;rw[hget]at hx;obtain rfl:=(Option.some.inj hx).symm;simp only[Nat.mul_one,Nat.add_zero]at x0;obtain⟨hs,s⟩:=NX9 (ofL (headB g.1 g.2.length))
    rw[s]at x0 HH;have hlz: (a:Int)< (m:Int):=by omega
    have HDR:Hid (((recs gs).drop (a+1)).take g.2.length=g.2):=by
     show _=_;rw[i.o,HA.o,<-List.singleton_append,<-ZZ,List.drop_left' (by simp),List.take_left]
    have u:Hid (gxG pre++ [g]++rest=gs):=by show _=_;rw[<-b.o];simp
    have v:Hid (a+1+g.2.length= (recs (gxG pre++ [g])).length):=by
     show _=_;rw[vz,af,wH,<-HA.o];simp[recs];omega
    obtain⟨k,hk⟩:=NX9 g.2.length
    have HK:=ai hk;rw[hk]at HH hla HDR v;obtain⟨E,y,hsk⟩:=Aw (P:=Tryz.prog) 22 i0 Tryz.underlying22 Hi.o H.o (some ⟨bb,off,none⟩) m c (a+1) k (by omega);have K:=ai hsk;clear hgm hget hx hc s hk hsk
    gi_wp2_with fail
    refine⟨trivial,(callsIn_wide.2 (HH.o _)).mono ?_⟩;rintro e w1 ⟨A1,m1,c1,rfl,hs1,hm1,hmc1,hcm1,hb1⟩;have L:Hid (J pre w1):=HJ.o pre wr w1 o.o hb1;have d:=ai (I.o.below hb1 hbl);have f:=ai (j.o.below hb1 (by omega));have M:=ai hs1;have N:=ai hm1;have c0:=d.o.cell 0;simp at c0;have Q: (Instr.sliceAt 22 (.slice (some ⟨bb,off,none⟩) m c) (some (.int .i64 ((a:Int)+1))) (some (.int .i64 ((a:Int)+1+ (k:Int)))) none).run Tryz.prog w1= .ok (.slice E k (c - (a+1))) w1:=y w1;have R:=d.o.lt;have z:Hid (Sl w1 w1.heap.size 1 E k (flat aC g.2)):=by
     have:=K.o w1 w1.heap.size _ (by omega) (f.o.more (by omega)) (by omega);rw[DT,HDR.o]at this;exact this
    clear hs1 hm1 hb1 HH x0 y;have T: (a:Int)+1+ (k:Int)<= (m:Int):=by omega
    have hki:¬((m:Int) - ((a:Int)+1)< (k:Int)):=by omega
    have hmm: (m:Int)<=1000000:=by omega
    obtain⟨fn,tmps,assign,body,hy,hR'⟩:=S.o pre ((A1,m1,c1),(E,k,c - (a+1)),g) w1 (fun p x he=>by
     have e:=congrArg List.getLast? he;simp at e;subst e;exact⟨⟨rest,by rw[mW];exact u.o⟩,M.o.low (ZX _),z.o,N.o,HK.o.symm⟩) L.o
    simp only[gxV]at hy hR';have HR':=ai hR';clear hR'
    gi_wp2
    refine HR'.o.mono ?_;rintro e' W3 (⟨rfl,hJ3,hK3⟩ | ⟨rfl,hJx3⟩)
    . have C:Hid (Bk W3 bs 22 #[.slice (some ⟨bb,off,none⟩) m c]):=hK3.2.trans d.o
      have D:=ai (f.o.low hK3.1);have O:=ai hJ3;clear hJ3 hK3
      gi_wp2
      go_roundw
      case rel=>exact⟨a+1+k,pre++ [((A1,m1,c1),(E,k,c - (a+1)),g)],rest,by go_num,by omega,by show _=_;rw[mW];exact u.o,by show _=_;rw[mW];exact v.o,C.o,D.o,O.o⟩
      case measure=>simp[intOf];omega
    . gi_wp2
      refine ZW (results_none rfl _ _ _) rfl ?_;exact⟨⟨_,rfl⟩,.inr ⟨_,trivial,hJx3⟩⟩
  . have hlz:¬(a:Int)< (m:Int):=by omega
    have HE:Hid (gxG pre=gs):=by
     show _=_;have h1:=HA.o;have h2:=h.o;have h3:=b.o;cases rest with
     | nil=>rw[<-h3,List.append_nil]
     | cons g r =>
       rw[<-h3,vz,wH]at h2;simp only[af,Z4]at h2;omega
    gi_wp2
    go_end0
    exact⟨⟨_,rfl⟩,.inl ⟨pre,HE.o,o.o⟩⟩
theorem LW(A:OA)(n c:Nat)(w:UW):Calls Tryz.prog 37 #[.slice A n c] w fun e w'=>e= .returned (.func (.func 79) #[] #[.pointer (some ⟨w.heap.size,0,none⟩)])/\w'=w.alloc (.cells #[.slice A n c] 22):=by
 go_enter Tryz.func37,Tryz.ntmps37
 go_wp2
 go_ret
 exact⟨rfl,rfl⟩
end
end Go.Proofs.YtknefelegjlgnaaGreatDoor
namespace Go.Proofs
open Go.Shelf
def Tryz.pdqIt_ren:Go.Shelf.Ren:=⟨fun | 14=>232 | 20=>281 | 21=>282 | 22=>283 | 23=>284 | 24=>285 | 25=>286 | 26=>287 | 27=>288 | 46=>316 | 47=>254 | 48=>255 | 49=>317 | 50=>318 | 15=>115 | 57=>336 | 28=>191 | 29=>192 | n=>n,fun | 24=>118 | 22=>28 | 3=>3 | 25=>237 | 4=>4 | 0=>0 | 46=>261 | 45=>260 | 50=>181 | 66=>328 | 39=>188 | 55=>48 | 70=>332 | 76=>361 | 77=>362 | 53=>267 | 5=>5 | 9=>9 | n=>n,fun | n=>n⟩
theorem Tryz.pdqIt:Go.Proofs.SlLaysF0.n14 Tryz.prog Tryz.pdqIt_ren:={
 mixed:=by kernel_rfl
 f14:=⟨Tryz.f232.name,by decide,Tryz.func232.trans (congrArg some (by kernel_rfl))⟩
 f15:=Tryz.func115.trans (congrArg some (by kernel_rfl))
 f20:=⟨Tryz.f281.name,by decide,Tryz.func281.trans (congrArg some (by kernel_rfl))⟩
 f21:=⟨Tryz.f282.name,by decide,Tryz.func282.trans (congrArg some (by kernel_rfl))⟩
 f22:=⟨Tryz.f283.name,by decide,Tryz.func283.trans (congrArg some (by kernel_rfl))⟩
 f23:=⟨Tryz.f284.name,by decide,Tryz.func284.trans (congrArg some (by kernel_rfl))⟩
 f24:=⟨Tryz.f285.name,by decide,Tryz.func285.trans (congrArg some (by kernel_rfl))⟩
 f25:=⟨Tryz.f286.name,by decide,Tryz.func286.trans (congrArg some (by kernel_rfl))⟩
 f26:=⟨Tryz.f287.name,by decide,Tryz.func287.trans (congrArg some (by kernel_rfl))⟩
 f27:=⟨Tryz.f288.name,by decide,Tryz.func288.trans (congrArg some (by kernel_rfl))⟩
 f28:=Tryz.func191.trans (congrArg some (by kernel_rfl))
 f29:=Tryz.func192.trans (congrArg some (by kernel_rfl))
 f46:=⟨Tryz.f316.name,by decide,Tryz.func316.trans (congrArg some (by kernel_rfl))⟩
 f47:=Tryz.func254.trans (congrArg some (by kernel_rfl))
 f48:=Tryz.func255.trans (congrArg some (by kernel_rfl))
 f49:=⟨Tryz.f317.name,by decide,Tryz.func317.trans (congrArg some (by kernel_rfl))⟩
 f50:=⟨Tryz.f318.name,by decide,Tryz.func318.trans (congrArg some (by kernel_rfl))⟩
 f57:=⟨Tryz.f336.name,by decide,Tryz.func336.trans (congrArg some (by kernel_rfl))⟩
 t0:=Tryz.underlying0
 a0:=Tryz.isAgg0
 z0:=Tryz.sizeOf0
 v0:=Tryz.zeroValue0
 t3:=Tryz.underlying3
 a3:=Tryz.isAgg3
 z3:=Tryz.sizeOf3
 v3:=Tryz.zeroValue3
 t4:=Tryz.underlying4
 a4:=Tryz.isAgg4
 z4:=Tryz.sizeOf4
 v4:=Tryz.zeroValue4
 t5:=Tryz.underlying5
 a5:=Tryz.isAgg5
 z5:=Tryz.sizeOf5
 v5:=Tryz.zeroValue5
 t9:=Tryz.underlying9
 a9:=Tryz.isAgg9
 z9:=Tryz.sizeOf9
 v9:=Tryz.zeroValue9
 t22:=Tryz.underlying28
 a22:=Tryz.isAgg28
 z22:=Tryz.sizeOf28
 v22:=Tryz.zeroValue28
 t25:=Tryz.underlying237
 a25:=Tryz.isAgg237
 z25:=Tryz.sizeOf237
 v25:=Tryz.zeroValue237
 t39:=Tryz.underlying188
 a39:=Tryz.isAgg188
 z39:=Tryz.sizeOf188
 v39:=Tryz.zeroValue188
 t45:=Tryz.underlying260
 a45:=Tryz.isAgg260
 z45:=Tryz.sizeOf260
 v45:=Tryz.zeroValue260
 t46:=Tryz.underlying261
 a46:=Tryz.isAgg261
 z46:=Tryz.sizeOf261
 v46:=Tryz.zeroValue261
 t50:=Tryz.underlying181
 a50:=Tryz.isAgg181
 z50:=Tryz.sizeOf181
 v50:=Tryz.zeroValue181
 t53:=Tryz.underlying267
 a53:=Tryz.isAgg267
 z53:=Tryz.sizeOf267
 v53:=Tryz.zeroValue267
 t55:=Tryz.underlying48
 a55:=Tryz.isAgg48
 z55:=Tryz.sizeOf48
 v55:=Tryz.zeroValue48
 t66:=Tryz.underlying328
 a66:=Tryz.isAgg328
 z66:=Tryz.sizeOf328
 v66:=Tryz.zeroValue328
 t70:=Tryz.underlying332
 a70:=Tryz.isAgg332
 z70:=Tryz.sizeOf332
 v70:=Tryz.zeroValue332
 t76:=Tryz.underlying361
 a76:=Tryz.isAgg361
 z76:=Tryz.sizeOf361
 v76:=Tryz.zeroValue361
 t77:=Tryz.underlying362
 a77:=Tryz.isAgg362
 z77:=Tryz.sizeOf362
 v77:=Tryz.zeroValue362}
def Tryz.lenU_ren:Go.Shelf.Ren:=⟨fun | 15=>115 | 28=>191 | 29=>192 | n=>n,fun | 39=>188 | 3=>3 | 53=>267 | 55=>48 | 4=>4 | 5=>5 | 9=>9 | n=>n,fun | n=>n⟩
theorem Tryz.lenU:Go.Proofs.SlLaysF0.n15 Tryz.prog Tryz.lenU_ren:={
 mixed:=by kernel_rfl
 f15:=Tryz.func115.trans (congrArg some (by kernel_rfl))
 f28:=Tryz.func191.trans (congrArg some (by kernel_rfl))
 f29:=Tryz.func192.trans (congrArg some (by kernel_rfl))
 t3:=Tryz.underlying3
 a3:=Tryz.isAgg3
 z3:=Tryz.sizeOf3
 v3:=Tryz.zeroValue3
 t4:=Tryz.underlying4
 a4:=Tryz.isAgg4
 z4:=Tryz.sizeOf4
 v4:=Tryz.zeroValue4
 t5:=Tryz.underlying5
 a5:=Tryz.isAgg5
 z5:=Tryz.sizeOf5
 v5:=Tryz.zeroValue5
 t9:=Tryz.underlying9
 a9:=Tryz.isAgg9
 z9:=Tryz.sizeOf9
 v9:=Tryz.zeroValue9
 t39:=Tryz.underlying188
 a39:=Tryz.isAgg188
 z39:=Tryz.sizeOf188
 v39:=Tryz.zeroValue188
 t53:=Tryz.underlying267
 a53:=Tryz.isAgg267
 z53:=Tryz.sizeOf267
 v53:=Tryz.zeroValue267
 t55:=Tryz.underlying48
 a55:=Tryz.isAgg48
 z55:=Tryz.sizeOf48
 v55:=Tryz.zeroValue48}
end Go.Proofs
namespace Go.Proofs.YtknefelegjlgnaaGreatDoor
open Go.RowKit
section
open Go.RowKit Go.Shelf Go.Sort Go.Lib
attribute [local go_sem] Oper.semAt_some
theorem Qm(b0 b1:Nat)(a1 a2 x1 x2:Int)(w:UW)(h0:w.cell? ⟨b0,0,none⟩=some (.int .u64 a1))(h1:w.cell? ⟨b0,1,none⟩=some (.int .u64 a2))(h2:w.cell? ⟨b1,0,none⟩=some (.int .u64 x1))(h3:w.cell? ⟨b1,1,none⟩=some (.int .u64 x2)) :
  Calls Tryz.prog 151 #[.slice (some ⟨b0,0,none⟩) 2 2,.slice (some ⟨b1,0,none⟩) 2 2] w fun e w'=>e= .returned (.int .i64 (dC (a1,a2) (x1,x2)))/\w=w':=by
 have a:=ai (fun w=>rU a1 x1 w);have HC2:=ai (fun w=>rU a2 x2 w);have HE:Hid (dC (a1,a2) (x1,x2)=if dU a1 x1=0 then dU a2 x2 else dU a1 x1):=by
  show _=_;by_cases h: ((a1,a2):Dig)= (x1,x2)
  . rw[(rM _ _).2 h]
    cases h
    simp[dU]
  . rw[F5 _ _ h]
    simp only[orI];split
    . split <;> simp_all
    . rfl
 obtain⟨z,hz⟩:=NX9 (dC (a1,a2) (x1,x2))
 rw[hz]at HE ⊢;obtain⟨u,hu⟩:=NX9 (dU a1 x1)
 obtain⟨v,hv⟩:=NX9 (dU a2 x2)
 rw[hu]at a HE;rw[hv]at HC2 HE;clear hz hu hv
 go_enter Tryz.func151,Tryz.ntmps151
 go_wp2_with fail
 go_loopw[11] (fun i wr=>∃k:Nat,k<=2/\i= .int .i64 k/\w=wr/\Hid (0<k->u=0)/\Hid (1<k->v=0)) (fun i _=>3 - (intOf i).toNat)
 case atStart=>exact⟨0,by omega,rfl,rfl,fun h=>by omega,fun h=>by omega⟩
 case round =>
  obtain⟨k,hk,rfl,rfl,H1,H2⟩:=hrel
  match k,hk with
  | 0,_ =>
    go_wp2_with fail;refine(a.o _).mono ?_;rintro e w1 ⟨rfl,rfl⟩;by_cases hu:u=0
    . have hu0: (u != 0)=false:=by simp[hu]
      have HU:=ai hu;clear hu;go_wp2_with fail;go_roundw
      case rel=>exact⟨1,by omega,rfl,trivial,fun _=>HU.o,fun h=>by omega⟩
      case measure=>simp[intOf]
    . have hu0: (u != 0)=true:=by simp[hu]
      have HZ:Hid (z=u):=by show _=_;rw[HE.o,if_neg hu]
      clear hu;go_wp2_with fail;go_ret
      exact⟨by rw[HZ.o];rfl,rfl⟩
  | 1,_ =>
    have HU:=H1.o (by omega);have b:=ai HU;clear HU;go_wp2_with fail;refine(HC2.o _).mono ?_;rintro e w1 ⟨rfl,rfl⟩;by_cases hu:v=0
    . have hu0: (v != 0)=false:=by simp[hu]
      have HV:=ai hu;clear hu;go_wp2_with fail;go_roundw
      case rel=>exact⟨2,by omega,rfl,trivial,fun _=>b.o,fun _=>HV.o⟩
      case measure=>simp[intOf]
    . have hu0: (v != 0)=true:=by simp[hu]
      have HZ:Hid (z=v):=by show _=_;rw[HE.o,if_pos b.o]
      clear hu;go_wp2_with fail;go_ret
      exact⟨by rw[HZ.o];rfl,rfl⟩
  | 2,_ =>
    have HZ:Hid (z=0):=by show _=_;rw[HE.o,if_pos (H1.o (by omega)),H2.o (by omega)]
    go_wp2_with fail;go_ret
    exact⟨by rw[HZ.o];rfl,rfl⟩
theorem N8(i j:Itm)(w:UW):Calls Tryz.prog 150 #[itV i,itV j] w fun e w'=>e= .returned (.int .i64 (dC i.1 j.1))/\Gro w w':=by
 obtain⟨⟨a1,a2⟩,s⟩:=i;obtain⟨⟨x1,x2⟩,t⟩:=j;simp only[itV];obtain⟨a,hW⟩:=NX9 ((w.alloc (.cells #[.int .u64 a1,.int .u64 a2,.string s] 118)).alloc (.cells #[.int .u64 x1,.int .u64 x2,.string t] 118))
 have HA:Hid (Bk a w.heap.size 118 #[.int .u64 a1,.int .u64 a2,.string s]):=by rw[<-hW];exact(Bk.new w _ _).alloc _
 have HB:Hid (Bk a (w.heap.size+1) 118 #[.int .u64 x1,.int .u64 x2,.string t]):=by
  rw[<-hW];have:=Bk.new (w.alloc (.cells #[.int .u64 a1,.int .u64 a2,.string s] 118)) 118 #[.int .u64 x1,.int .u64 x2,.string t];rw[Z9]at this;exact this
 have HL:Hid (Gro w a):=by rw[<-hW];exact((Gro.refl w).alloc _).alloc _
 have HC:Hid (∀q,Calls Tryz.prog 151 #[.slice (some ⟨w.heap.size,0,none⟩) 2 2,.slice (some ⟨w.heap.size+1,0,none⟩) 2 2] (a.drewN q) fun e w'=>e= .returned (.int .i64 (dC (a1,a2) (x1,x2)))/\w'=a.drewN q):=fun q=>by
  obtain⟨c0,c1,_⟩:=(HA.o.drewN q).three;obtain⟨c3,c4,_⟩:=(HB.o.drewN q).three;exact(Qm _ _ a1 a2 x1 x2 _ c0 c1 c3 c4).mono (by rintro e w' ⟨rfl,rfl⟩;exact⟨rfl,rfl⟩)
 have HW:=ai hW;clear hW
 go_enter Tryz.func150,Tryz.ntmps150
 go_wp2_with fail;rw[HW.o]
 go_quiet(first | (go_at_call 151;exact Calls.quiet_of_same (HC.o _)))
 go_wp2_with fail;go_ret
 exact⟨rfl,HL.o.trans ⟨nq,#[],by rw[grow_empty]⟩⟩
def cfI(i j:Itm):Int:=dC i.1 j.1
theorem O0(x y:Itm)(W:UW):Calls Tryz.prog 150 #[.agg (itC x).toArray,.agg (itC y).toArray] W fun e w'=>e= .returned (.int .i64 (cfI x y))/\∃q os',w'=grow (W.drewN q) os':=N8 x y W
theorem Tu(x y:Itm):ltOf cfI x y=decide (ltD x.1 y.1):=pO x.1 y.1
theorem I5:SWO (ltOf cfI) where
 irrefl x:=swoD.irrefl x.1
 trans x y z h1 h2:=swoD.trans x.1 y.1 z.1 h1 h2
 ntrans x y z h1 h2:=swoD.ntrans x.1 y.1 z.1 h1 h2
instance :Inhabited Itm:=⟨(zD,⟨#[]⟩)⟩
theorem BD(ts:List Itm): (flatK itC 3 ts.toArray).toList=flat itC ts:=by
 apply List.ext_getElem?
 intro t;by_cases ht:t<ts.length*3
 . have hk:t / 3<ts.length:=by omega
   have hx:ts[t / 3]? =some ts[t / 3]:=Z5 hk;have h1:=iG di ts (t / 3) (t % 3) _ hx (by omega);rw[show t / 3*3+t % 3=t by omega]at h1;have h2:t< (flatK itC 3 ts.toArray).size:=by simpa using ht
   rw[h1,Array.getElem?_toList,Array.getElem?_eq_getElem h2];have h3:=get_flatK itC 3 ts.toArray t (by simpa using ht);rw[getElem!_pos (flatK itC 3 ts.toArray) t h2]at h3;rw[h3,show ts.toArray[t / 3]! =ts[t / 3] by simp[hk]];have h4:t % 3< (itC ts[t / 3]).length:=by rw[di];omega
   rw[getElem!_pos (itC ts[t / 3]) (t % 3) h4,Z5 h4]
 . rw[List.getElem?_eq_none (by simp;omega),List.getElem?_eq_none (by rw[gZ di];omega)]
def SrtI(ts:List Itm):Prop:=ts.Pairwise (fun a b=>¬ltD b.1 a.1)
theorem LQ(base n c:Nat)(A:OA)(ts:List Itm)(w:UW)(h:w.ownsRow base 118 3 (.slice A n c) n (flat itC ts))(hn:n<=1000000000) :
  Calls Tryz.prog 149 #[.slice A n c,.func (.func 150) #[] #[]] w fun e w'=>e= .returned (.tuple #[])/\∃us,us.Perm ts/\SrtI us/\w'.ownsRow base 118 3 (.slice A n c) n (flat itC us)/\w.grownBy w' (Value.slice A n c).ownBlock:=by
 have hl:ts.length=n:=by have:=h.1;rw[gZ di]at this;omega
 have eg:∀args w,(callFunc 150 args).run Tryz.prog w= .ok (.enter 150 args) w:=enters_of Tryz.func150 (by kernel_rfl) rfl;have d:Hid (∀w',Calls Tryz.prog 115 #[.int .u64 (n:Int)] w' fun e w''=>e= .returned (.int .i64 (Lib.bitLen n:Nat))/\w'=w''):=fun w'=>by
  have h:=Any.bits_Len (SlLaysF0.n15.bits {Tryz.lenU with}) (n:Int) w' (by omega) (by omega);rw[Int.toNat_natCast]at h;exact h.mono fun _ _ ⟨h1,h2⟩=>⟨h1,h2.symm⟩
 have hw:IntKind.u64.wrap (n:Int)=n:=by simp[IntKind.wrap,IntKind.bits,IntKind.signed];omega
 rcases h.2 with ⟨hv,h0⟩ | ⟨g,cap,cur,hv,h1,h2,h3,h4,h5,h6⟩
 . simp only[Value.slice.injEq]at hv
   obtain⟨rfl,_,rfl⟩:=hv;subst h0;obtain rfl:ts= []:=List.eq_nil_of_length_eq_zero hl;have HO:=ai h;have HI:Hid (∀w',Calls Tryz.prog 281 #[.slice none 0 0,.int .i64 0,.int .i64 0,.func (.func 150) #[] #[]] w' fun e w''=>e= .returned (.tuple #[])/\w'=w''):=fun w'=>by
    go_enter Tryz.func281,Tryz.ntmps281
    go_wp2_with fail
    go_loopw[8] (fun i wr=>i= .int .i64 1/\w'=wr) (fun _ _=>0)
    case atStart=>exact⟨rfl,rfl⟩
    case round =>
     obtain⟨rfl,rfl⟩:=hrel;go_wp2_with fail
     go_end0
     exact⟨rfl,rfl⟩
   have HP:Hid (∀w',Calls Tryz.prog 232 #[.slice none 0 0,.int .i64 0,.int .i64 0,.int .i64 0,.func (.func 150) #[] #[]] w' fun e w''=>e= .returned (.tuple #[])/\w'=w''):=fun w'=>by
    go_enter Tryz.func232,Tryz.ntmps232
    go_wp2_with fail
    go_loopw[1,2,3,10,11] (fun a b l x y wr=>a= .int .i64 0/\b= .int .i64 0/\l= .int .i64 0/\w'=wr) (fun _ _ _ _ _ _=>0)
    case atStart=>exact⟨rfl,rfl,rfl,rfl⟩
    case round =>
     obtain⟨rfl,rfl,rfl,rfl⟩:=hrel;go_wp2_with fail;refine(HI.o _).mono ?_;rintro e w1 ⟨rfl,rfl⟩;go_wp2_with fail;exact ZW (results_none rfl _ _ _) rfl ⟨rfl,rfl⟩
   clear h eg hl hw HI
   go_enter Tryz.func149,Tryz.ntmps149
   go_wp2_with fail;refine(d.o _).mono ?_;rintro e w1 ⟨rfl,rfl⟩;go_wp2_with fail;refine(HP.o _).mono ?_;rintro e w1 ⟨rfl,rfl⟩;go_wp2_with fail
   go_end0
   exact⟨rfl,[],.refl _,List.Pairwise.nil,HO.o,rfl,rfl,rfl,Nat.le_refl _,fun _ _ _=>rfl⟩
 . simp only[Value.slice.injEq]at hv
   obtain⟨rfl,_,rfl⟩:=hv;have hsz:n*3<=cur.size:=by omega
   have hlt:=(Array.getElem?_eq_some_iff.1 h2).1;have hH:HoldsK itC 3 w g 0 ts.toArray:=by
    intro j hj;have hj':j<ts.length*3:=by simpa using hj
    refine⟨?_,by simp[World.frozen?,h2]⟩;have h7: (flat itC ts)[j]? =some ((flatK itC 3 ts.toArray)[j]!):=by
     rw[<-BD,Array.getElem?_toList,Array.getElem?_eq_getElem (by simpa using hj'),getElem!_pos (flatK itC 3 ts.toArray) j (by simpa using hj')]
    rw[<-h6,List.getElem?_take,if_pos (by omega)]at h7;show w.cell? ⟨g,0+j,none⟩=_;simp[World.cell?,h2]
    simpa using h7
   have hlim:Lib.bitLen n<4611686018427387904:=Nat.lt_of_le_of_lt (Lib.bitLen_le n 62 (by omega) (by omega)) (by omega);have hsn:ts.toArray.size=n:=by rw[List.size_toArray,hl]
   have hp:=AnyQ.pdqsortCmpFunc_all {Tryz.pdqIt with} 3 Tryz.isAgg118 Tryz.sizeOf118 itC cfI 150 #[] I5 g 0 c ts.toArray w eg (fun _ _ _ _ x y=>O0 x y _) ⟨di,fun x v hv=>by simp[itC]at hv;rcases hv with rfl | rfl | rfl <;> rfl,hH,hlt⟩ (n+1) 0 n (Lib.bitLen n) ts.toArray w (by omega) rfl (SWK.start hH) (ZX _) (by omega) (by omega) hlim (Or.inl rfl);have HP:Hid (Calls Tryz.prog 232 #[.slice (some ⟨g,0,none⟩) n c,.int .i64 0,.int .i64 n,.int .i64 (Lib.bitLen n:Nat),.func (.func 150) #[] #[]] w fun e w'=>e= .returned (.tuple #[])/\SWK itC 3 w g 0 (pdq (ltOf cfI) ts.toArray 0 n (Lib.bitLen n) true true) w'):=by
    show Calls _ _ _ _ _;rw[hsn]at hp;exact hp
   have HS:=pdq_sorts (ltOf cfI) I5 ts.toArray 0 n (Lib.bitLen n) true true (ZX _) (by omega) (Or.inl rfl);obtain⟨d',hd'⟩:=NX9 (pdq (ltOf cfI) ts.toArray 0 n (Lib.bitLen n) true true)
   rw[hd']at HP HS;have f:=ai HS;have HF:Hid (∀w',SWK itC 3 w g 0 d' w'->∃us,us.Perm ts/\SrtI us/\w'.ownsRow base 118 3 (.slice (some ⟨g,0,none⟩) n c) n (flat itC us)/\w.grownBy w' (Value.slice (some ⟨g,0,none⟩) n c).ownBlock):=by
    rintro w' ⟨k,os,rfl⟩;obtain⟨hp,hs⟩:=f.o;have hd:d'.size=n:=by rw[hp.1];simpa using hl
    have hpp:d'.toList.Perm ts:=by
     have:=hp.2.2;have e1:d'.extract 0 n=d':=by rw[<-hd];simp
     have e2:ts.toArray.extract 0 n=ts.toArray:=by rw[<-hl];simp
     rw[e1,e2]at this
     simpa using this
    have hso:SrtI d'.toList:=by
     unfold SrtI;rw[List.pairwise_iff_getElem];intro i j hi hj hij;have hi':i<d'.size:=by simpa using hi
     have hj':j<d'.size:=by simpa using hj
     have:=hs i j (ZX _) hij (by omega);rw[Tu,decide_eq_false_iff_not,getElem!_pos d' j hj',getElem!_pos d' i hi']at this
     simpa using this
    have hfs: (flatK itC 3 d').size=n*3:=by rw[size_flatK,hd]
    refine⟨d'.toList,hpp,hso,⟨by rw[gZ di,Array.length_toList,hd],.inr ⟨g,c,putCells id 0 (flatK itC 3 d') cur,rfl,h1,?_,h3,h4,by simp[putCells];omega,?_⟩⟩,rfl,rfl,rfl,by simp[sortWorldK,putRowK,grow,putRow,mapBlock,Sort.ahead],fun b hb hr=>?_⟩
    . simp only[sortWorldK,putRowK,grow,putRow,mapBlock,Sort.ahead]
      rw[Array.getElem?_append_left (by simpa using hlt),Array.getElem?_modify,if_pos rfl,h2];rfl
    . rw[uO 0 (n*3) _ cur hfs rfl hsz,<-BD]
    . simp only[sortWorldK,putRowK,grow,putRow,mapBlock,Sort.ahead]
      rw[Array.getElem?_append_left (by simpa using hb),Array.getElem?_modify,if_neg (fun e=>hr (by rw[e];rfl))]
   clear h h1 h2 h3 h4 h5 h6 hsz hlt hH hlim hsn hp HS hd' f eg hl
   go_enter Tryz.func149,Tryz.ntmps149
   go_wp2_with fail;refine(d.o _).mono ?_;rintro e w1 ⟨rfl,rfl⟩;go_wp2_with fail;refine HP.o.mono ?_;rintro e w1 ⟨rfl,hw1⟩;have HX:=ai (HF.o w1 hw1);clear hw1 HF HP;go_wp2_with fail
   go_end0
   exact⟨rfl,HX.o⟩
end
section
open Go.Maps
def pV(p:List Itm):Dig->Option UY:=fun d=>(bM p d).map Value.string
theorem SrtI.asc{us:List Itm}(h:SrtI us)(hn: (us.map (·.1)).Nodup):AscI us:=by
 unfold AscI;rw[List.Nodup,List.pairwise_map]at hn;exact List.Pairwise.imp₂ (fun a b h1 h2=>Classical.byContradiction fun h3=>h2 (mY h3 h1)) h hn
def IA(p:List Itm)(w:UW)(e:Ending)(w':UW):Prop:=∃A c,e= .returned (.slice A p.length c)/\Sl w' w'.heap.size 3 A p.length (flat itC p)/\p.length<=c/\c<=maxLen/\U0 w w'
theorem MH(p:List Itm)(mb N:Nat)(w:UW)(hM:Gm w Tryz.prog 50 jI ik mb N (pV p))(ha:AscI p)(hw:∀i∈p,WfD i.1)(hN:N<=1000000) :
  Calls Tryz.prog 83 #[.map (some mb)] w (IA p w):=by
 have HM:=ai hM;have HA:=ai ha;have y:=ai hw;have hml:=hM.lt;obtain⟨i0,hi,f,j,l⟩:=info_parts lL;have Hi:=ai hi;have B:=ai f;have C:=ai j;have D:=ai l;clear hM ha hw hi f j l
 go_enter Tryz.func83,Tryz.ntmps83
 go_wp2_with (at_range;refine aN ?_)
 refine aH ?_;refine Jh rfl _ 149 rfl 50 9 lT Tryz.underlying149 mb N (pV p) rfl HM.o ?_;intro w1 m hr1 hg1 hz1;have hc0:=Tm hr1;have HR1:=ai hr1;have HB1:U6 w w1:=(ah w.heap.size w).grown hg1 aj (fun g e=>by cases e);clear hr1 hg1 HM
 go_wp2
 go_frame
 go_loopg [3] m (fun gk v3 wr=>∃(out:List Itm)(left:Dig->Bool)(n c:Nat)(A:OA),v3= .slice A n c/\Hid (GmR wr Tryz.prog 50 jI ik mb w.heap.size N (pV p) left gk)/\Hid (out.length=n)/\n<=c/\c<=maxLen/\Hid (wr.ownsRow (w.heap.size+1) 118 3 (.slice A n c) n (flat itC out))/\Hid (∀i,i∈out↔i∈p/\left i.1=false)/\Hid ((out.map (·.1)).Nodup)/\n+gk<=m/\U6 w wr/\w.heap.size<wr.heap.size)
 case atStart =>
  exact⟨[],_,0,0,none,rfl,HR1.o,rfl,Nat.le_refl _,ZX _,World.ownsRow_nil _ _ _ _,(fun i=>⟨(fun h=>by cases h),fun h=>by
   have h1:bM p i.1=some i.2:=(jB HA.o).2 h.1;have h2:=h.2;simp[pV,h1]at h2⟩),List.nodup_nil,by omega,HB1.o,by omega⟩
 case round =>
  obtain⟨out,left,n,c,A,rfl,hR,hL,hnc,hcm,hO,hX,hN,hsum,hB,hz⟩:=hrel;have HR:=ai hR.o;have HL:=ai hL.o;have HO:=ai hO.o;have HX:=ai hX.o;have o:=ai hN.o;have HB:=ai hB.o;clear hR hL hO hX hN hB HR1 HB1
  go_wp2_with (at_next;refine aN ?_)
  refine aH ?_;refine Jk rfl _ rfl 50 lT mb w.heap.size N (pV p) left gk rfl HR.o ?_ ?_
  . intro hdone
    have HF:Hid (∀i,i∈out↔i∈p):=fun i=>by
     rw[HX.o];exact⟨fun h=>h.1,fun h=>⟨h,hdone i.1 (kG (y.o i h))⟩⟩
    have HS:=ai (LQ (w.heap.size+1) n c A out wr HO.o (by omega));clear hdone;go_wp2_with fail;refine HS.o.mono ?_;rintro e w4 ⟨rfl,us,hpe,hso,hou,hgu⟩;have hus:us=p:=AscI.ext (hso.asc ((hpe.map _).nodup_iff.2 o.o)) HA.o (fun i=>by rw[hpe.mem_iff,HF.o]);subst hus;have hln:us.length=n:=by rw[hpe.length_eq,HL.o]
    have HB4:U6 w w4:=HB.o.grown hgu HB.o.size (fun g e=>by have:=(bT HO.o e).1;omega);have E:=ai hou;have q:=ai hln;clear hpe hso hou hgu HS hln;go_wp2_with fail;go_ret
    exact⟨A,c,by rw[q.o];rfl,by rw[q.o];exact Sl.of_own E.o,by rw[q.o];exact hnc,hcm,HB4.o⟩
  . intro d v w2 cnt2 hok hls hgs hR2 hlt hg2 hz2 hen
    obtain⟨b,hb,rfl⟩:∃b,bM p d=some b/\v= .string b:=by
     unfold pV at hgs;obtain⟨b,h1,h2⟩:=Option.map_eq_some_iff.1 hgs;exact⟨b,h1,h2.symm⟩
    have HR2:Hid (GmR w2 Tryz.prog 50 jI ik mb w.heap.size N (pV p) (fun z=>left z && !decide (z=d)) cnt2):=hR2;have s:Hid ((d,b)∈p):=(jB HA.o).1 hb;have F:Hid (∀i,i∈out++ [(d,b)]↔i∈p/\ (left i.1 && !decide (i.1=d))=false):=fun i=>by
     rw[List.mem_append,ae,HX.o,Bool.and_eq_false_iff];constructor
     . rintro (⟨h1,h2⟩ | rfl)
       . exact⟨h1,.inl h2⟩
       . exact⟨s.o,.inr (by simp)⟩
     . rintro ⟨h1,h2 | h2⟩
       . exact .inl ⟨h1,h2⟩
       . have:i.1=d:=by simpa using h2
         exact .inr (HA.o.uniq h1 s.o this)
    have t:Hid (((out++ [(d,b)]).map (·.1)).Nodup):=by
     show List.Nodup _;rw[List.map_append];refine List.nodup_append.2 ⟨o.o,by simp,fun a ha c hc e=>?_⟩;obtain⟨i,hi,rfl⟩:=List.mem_map.1 ha;have hc2:c=d:=by simpa using hc
     have:=((HX.o i).1 hi).2;rw[e,hc2,hls]at this;cases this
    have HB2:U6 w w2:=HB.o.grown hg2 HB.o.size (fun g e=>by cases e;exact Nat.le_refl _);have u:Hid (w2.ownsRow (w.heap.size+1) 118 3 (.slice A n c) n (flat itC out)):=iY HO.o (fun k hk=>hg2.block k (by obtain⟨h1,cur,h2⟩:=bT HO.o hk;exact(Array.getElem?_eq_some_iff.1 h2).1) (fun e=>by have:=(bT HO.o hk).1;cases e;omega));obtain⟨d1,d2⟩:=d;simp only[dgV]at hen;have hz2':w.heap.size<w2.heap.size:=by omega
    clear hR2 hls hgs hok hg2 hz2 hb HR HO HB HX o;obtain⟨W3,hW3⟩:=NX9 ((w2.alloc (.cells #[.int .u64 d1,.int .u64 d2] 50)).alloc (.cells #[.int .u64 d1,.int .u64 d2,.string b] 118))
    have hb3:U0 w2 W3:=by rw[<-hW3];exact((ah _ w2).alloc aj _).alloc (by simp) _
    have G:Hid (Bk W3 (w2.heap.size+1) 118 #[.int .u64 d1,.int .u64 d2,.string b]):=by
     have e:=Bk.new (w2.alloc (.cells #[.int .u64 d1,.int .u64 d2] 50)) 118 #[.int .u64 d1,.int .u64 d2,.string b]
     rwa[Z9,hW3]at e
    have HR3:=ai (HR2.o.below hb3 (by omega) hz2');have x:=ai (gJ u.o hb3);have HB3:U6 w W3:=HB2.o.trans (hb3.mono HB2.o.size);have z3:=hb3.size;have H:=ai hW3;clear hW3 hb3 HR2 u HB2
    go_wp2_with (at_builtin;refine sW (.tmp 13) (.tmp 17) 29 rfl ?_)
    rw[H.o];refine aH ?_;refine jK (base:=w.heap.size+1) (size:=3) _ rfl (.tmp 13) (.tmp 17) 29 rfl 118 i0 _ 32 Tryz.underlying29 Hi.o B.o C.o D.o rfl (by decide) (.slice A n c) n _ rfl x.o _ _ 1 1 (flat itC [((d1,d2),b)]) rfl (Sl.of_bk (n:=1) (size:=3) G.o rfl) (jk _) (by unfold maxLen;omega) (by omega) (by omega) ?_;intro A4 c4 w4 r hg4 hn4 hm4;rw[<-bI]at r;have I:=ai r;have hrow:∀k,(Value.slice A n c).ownBlock=some k->w.heap.size+1<=k:=fun k hk=>(bT x.o hk).1;have HR4:Hid (GmR w4 Tryz.prog 50 jI ik mb w.heap.size N (pV p) (fun z=>left z && !decide (z= (d1,d2))) cnt2):=HR3.o.kept hg4 (fun e=>by have:=hrow _ e.symm;omega) (fun e=>by have:=hrow _ e.symm;omega);have HB4:U6 w w4:=HB3.o.grown hg4 HB3.o.size (fun g e=>by have:=hrow _ e;omega);have J:Hid ((out++ [((d1,d2),b)]).length=n+1):=by show _=_;rw[af,HL.o];rfl
    have z4:=hg4.size;clear r hg4 hrow hen;go_wp2_with fail
    go_roundg cnt2
    case rel=>exact⟨_,_,n+1,c4,A4,rfl,HR4.o,J.o,hn4,hm4,I.o,F.o,t.o,by omega,HB4.o,by omega⟩
    case measure=>exact hlt
end
section
open Go.Maps
theorem NG(o:Ob)(s:Osl)(B:Nat)(w:UW)(hm:ObM w B o s)(hB:B<=w.heap.size)(ho:OkO o) :
  Calls Tryz.prog 82 #[obV o s] w fun e w'=>e= .returned (.tuple #[aA (dgO o),.int .i64 0])/\U0 w w':=by
 obtain⟨W,hW⟩:=NX9 ((w.alloc (.cells (obC o s) 109)).alloc (.cells #[.int .u64 0,.int .u64 0] 50))
 have HB0:U6 w W:=by rw[<-hW];exact((ah _ w).alloc aj _).alloc (by simp) _
 have HK:Hid (Bk W w.heap.size 109 (obC o s)):=by rw[<-hW];exact(Bk.new w _ _).alloc _
 have HD:Hid (Bk W (w.heap.size+1) 50 #[.int .u64 0,.int .u64 0]):=by
  rw[<-hW];have:=Bk.new (w.alloc (.cells (obC o s) 109)) 50 #[.int .u64 0,.int .u64 0];rw[Z9]at this;exact this
 have c:w.heap.size+2=W.heap.size:=by rw[<-hW];simp
 have HE:=ai (uZ o s B W (hm.below HB0.o hB) (by omega) ho);have hsz: (ofL (aI o)).size<=maxLen:=by rw[bK];have:=ho.len;unfold maxLen;omega
 have a:=ai (fun w=>tY (ofL (aI o)) w hsz);have b:Hid (ofB (toL (ofL (aI o)))=dgO o):=by show _=_;rw[dw];rfl
 unfold nS at a;rw[b.o]at a;unfold uj at HE;simp only[obV,obC]at HE hW HK ⊢;obtain⟨sb,hsb⟩:=NX9 (ofL (aI o))
 rw[hsb]at HE a;obtain⟨⟨d1,d2⟩,hdd⟩:∃d,dgO o=d:=⟨_,rfl⟩
 rw[hdd]at a ⊢;simp only[aA]at a ⊢;obtain⟨c0,c1,c2,c3,c4,c5,c6,c7,c8⟩:=HK.o.nine;have HW:=ai hW;clear hm ho hsb hdd b hsz hW
 go_enter Tryz.func82,Tryz.ntmps82
 go_wp2_with fail;rw[HW.o];refine HE.o.mono ?_;rintro e w2 ⟨rfl,hb⟩;have HB2:U6 w w2:=HB0.o.trans (hb.mono HB0.o.size);have HD2:=ai (HD.o.below hb (by omega));have z2:w.heap.size+2<=w2.heap.size:=by have:=hb.size;omega
 clear hb HE c0 c1 c2 c3 c4 c5 c6 c7 c8;go_wp2_with fail;refine(a.o _).mono ?_;rintro e w3 ⟨rfl,hb⟩;have HB3:U6 w w3:=HB2.o.trans (hb.mono HB2.o.size);have HD3:=ai (HD2.o.below hb (by omega));obtain⟨_,_,f0,f1⟩:=HD3.o.two;clear hb
 go_wp2
 exact ZW (oz Tryz.results82 rfl (HD3.o.set2 _ _) rfl) rfl ⟨rfl,eP HB3.o (by omega) _ _⟩
def kV(p:List Itm)(L:List UZ):Dig->Option UY:=fun d=>if d∈L.map ofB then pV p d else none
theorem Rw{p:List Itm}(L:List UZ){b:UZ}(h:bM p (ofB b)=some (ofL b)):kV p (L++ [b])=jG (kV p L) (ofB b) (.string (ofL b)):=by
 funext d
 unfold kV jG;by_cases e:d=ofB b
 . subst e
   rw[if_pos (by simp),if_pos rfl];unfold pV;rw[h];rfl
 . rw[if_neg e]
   have:d∈ (L++ [b]).map ofB↔d∈L.map ofB:=by simp[e]
   show(if d∈ (L++ [b]).map ofB then pV p d else none)=if d∈L.map ofB then pV p d else none;by_cases hm:d∈L.map ofB
   . rw[if_pos hm,if_pos (this.2 hm)]
   . rw[if_neg hm,if_neg (fun h=>hm (this.1 h))]
theorem TJ{p:List Itm}(hp:PlOk p){L:List UZ}(h:∀i∈p,toL i.2∈L):kV p L=pV p:=by
 funext d
 unfold kV;split
 . rfl
 . rename_i hn
   unfold pV;cases hf:bM p d with
   | none=>rfl
   | some b =>
     have hm:=(jB hp.asc).1 hf;exact absurd (List.mem_map.2 ⟨_,h _ hm,(hp.dg _ hm).symm⟩) hn
theorem MC(p:List Itm)(L:List UZ)(A:OA)(n c B:Nat)(w:UW)(h0:Sl w B 1 A n (flat aC L))(hB:B<=w.heap.size)(hn:n<=1000000)(hp:PlOk p)(hm:∀b∈L,∃i∈p,b=toL i.2)(hall:∀i∈p,toL i.2∈L) :
  Calls Tryz.prog 38 #[.slice A n c] w fun e w'=>∃A' c',e= .returned (.tuple #[.slice A' p.length c',.bool true])/\Sl w' w'.heap.size 3 A' p.length (flat itC p)/\p.length<=c'/\c'<=maxLen/\U0 w w':=by
 have f:=ai hp;have HM:=ai hm;have E:=ai (TJ hp hall);have HS:=ai h0;have F:=ai (h0.len dW (by omega));have y:=ai (Gm.made w Tryz.prog 50 jI ik);have hzz:=Tryz.zeroValue9;have hmm:=@run_makeMap Tryz.prog;clear h0 hp hm hall
 go_enter Tryz.func38,Tryz.ntmps38
 go_wp2_with fail
 go_loopw[15] (fun i wr=>∃k:Nat,k<=n/\i= .int .i64 k/\Hid (Gm wr Tryz.prog 50 jI ik w.heap.size k (kV p (L.take k)))/\U6 w wr) (fun i _=>n - (intOf i).toNat)
 case atStart=>exact⟨0,ZX _,rfl,by have:=y.o;exact this,(ah _ w).alloc aj _⟩
 case round =>
  obtain⟨k,hk,rfl,hG,hBel⟩:=hrel;have HG:=ai hG.o;have m:=ai hBel.o;have zr:w.heap.size<wr.heap.size:=HG.o.lt;clear hG hBel y;by_cases hlt:k<n
  . obtain⟨bb,off,x,rfl,hbb,hx,hc⟩:=(HS.o.below m.o hB).at_ dW (by omega) hlt
    have x0:=hc 0 _ rfl;have hlz: (k:Int)< (n:Int):=by omega
    obtain⟨i,hi,hix⟩:=HM.o x (Z7 hx);obtain⟨o,ho,q⟩:=f.o.enc i hi;have hxo:x=aI o:=by rw[hix,q,dw]
    have z:i.1=dgO o:=by have:=f.o.dg i hi;rw[this,q,dw];rfl
    have hfx:bM p (ofB x)=some (ofL x):=(jB f.o.asc).2 (by
     have e1: (ofB x,ofL x)=i:=by
      refine Prod.ext ?_ ?_
      . rw[hxo];exact z.symm
      . rw[hix,ja]
     rw[e1];exact hi)
    have a:=ai (Rw (L.take k) hfx);rw[<-bJ hx]at a;have r:Hid (ik (dgO o)):=kG (fJ _);have t:Hid (kV p (L.take k) (dgO o)=none∨kV p (L.take k) (dgO o)=some (.string (ofL (aI o)))):=by
     show _∨_;unfold kV;split
     . right;unfold pV;rw[hxo]at hfx;rw[show dgO o=ofB (aI o) from rfl,hfx];rfl
     . exact .inl rfl
    rw[hxo]at a x0;simp only[Nat.mul_one,Nat.add_zero]at x0;have j:=ai (qX o wr ho);unfold OdE at j;have HO:=ai ho;have hsz: (ofL (aI o)).size<=maxLen:=by rw[bK];have:=ho.len;unfold maxLen;omega
    obtain⟨sx,hsx⟩:=NX9 (ofL (aI o))
    rw[show ofB (aI o)=dgO o from rfl]at a;obtain⟨⟨d1,d2⟩,hdd⟩:∃d,dgO o=d:=⟨_,rfl⟩
    have G:=ai hdd;rw[hsx]at a x0 j t;rw[hdd]at a r t;clear hi hix q hxo z hfx hx hc ho hsx hdd;go_wp2_with fail;refine j.o.mono ?_;rintro e w1 ⟨s,rfl,C,hb1,_,_⟩;simp only[obV,obC];obtain⟨W1,hW1⟩:=NX9 (w1.alloc (.cells (obC o s) 109))
    have hb2:U0 w1 W1:=by rw[<-hW1];exact(ah _ w1).alloc aj _
    have u:Hid (Bk W1 w1.heap.size 109 (obC o s)):=by rw[<-hW1];exact Bk.new w1 _ _
    have HB1:U6 wr W1:=hb1.trans (hb2.mono hb1.size);have l:=ai (NG o s w1.heap.size W1 (C.below hb2 aj) hb2.size HO.o);rw[G.o]at l;simp only[obV,obC,aA]at l hW1 u;obtain⟨c0,c1,c2,c3,c4,c5,c6,c7,c8⟩:=u.o.nine;rw[<-hW1]at c0 c1 c2 c3 c4 c5 c6 c7 c8;have HW1:=ai hW1;clear C hb1 hb2 hW1 j;go_wp2_with fail;rw[HW1.o];refine l.o.mono ?_;rintro e w3 ⟨rfl,hb3⟩;have HB3:U6 wr w3:=HB1.o.trans (hb3.mono HB1.o.size);have H:=ai (HG.o.below HB3.o zr);have z3:=HB3.o.size;clear c0 c1 c2 c3 c4 c5 c6 c7 c8 hb3 l u;obtain⟨W4,h⟩:=NX9 (w3.alloc (.cells #[.int .u64 d1,.int .u64 d2] 50))
    have hb4:U0 w3 W4:=by rw[<-h];exact(ah _ w3).alloc aj _
    have HD4:Hid (Bk W4 w3.heap.size 50 #[.int .u64 d1,.int .u64 d2]):=by rw[<-h];exact Bk.new w3 _ _
    have D:=ai (H.o.below hb4 (by omega));have HB4:U6 wr W4:=HB3.o.trans (hb4.mono z3);have hlk:=D.o.look_ok lT Tryz.underlying149 (hzz _) r.o;obtain⟨r0,r1,_,_⟩:=HD4.o.two;rw[<-h]at hlk r0 r1;simp only[dgV]at hlk;have I:=ai h;clear hb4 h hzz;rcases t.o with hl | hl
    all_goals
     rw[hl]at hlk;simp only[Option.getD_none,Option.getD_some,Option.isSome_none,Option.isSome_some]at hlk;clear hl
     go_wp2_with (at_mapUpdate;refine aN ?_)
     rw[I.o];refine aH ?_;refine Ap rfl _ _ _ 149 rfl 50 9 lT Tryz.underlying149 w.heap.size k _ rfl D.o (by unfold maxLen;omega) (d1,d2) r.o (.string sx) rfl rfl ?_;intro w5 hg5 hgr;rw[<-a.o]at hg5;have J:=ai hg5;have K:U6 w w5:=(m.o.trans (HB4.o.mono (by omega))).grown hgr (by have:=HB4.o.size;omega) (fun g e=>by cases e;exact Nat.le_refl _);clear hg5 hgr r0 r1 hlk;go_wp2_with fail;go_roundw
     case rel=>exact⟨k+1,hlt,by go_num,J.o,K.o⟩
     case measure=>simp[intOf];omega
  . have hlz:¬(k:Int)< (n:Int):=by omega
    have M:Hid (Gm wr Tryz.prog 50 jI ik w.heap.size k (pV p)):=by
     have:=HG.o;rw[ZU (by have:=F.o;omega),E.o]at this;exact this
    have v:=ai (MH p w.heap.size k wr M.o f.o.asc (fun i hi=>by rw[f.o.dg i hi];exact fJ _) (by omega));unfold IA at v;go_wp2_with fail;refine v.o.mono ?_;rintro e w2 ⟨A',c',rfl,hs,h1,h2,hb⟩;have HS2:=ai hs;have HB2:U6 w w2:=m.o.trans (hb.mono (by omega));clear hs hb v
    go_wp2
    go_ret2
    exact⟨A',c',rfl,HS2.o,h1,h2,HB2.o⟩
end
