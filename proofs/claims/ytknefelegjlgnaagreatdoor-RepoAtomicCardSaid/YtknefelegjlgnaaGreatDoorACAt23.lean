/-
  Lemmas of the card.
-/
import Derived.Test.YtknefelegjlgnaaGreatDoorACAt22
set_option maxRecDepth 100000
set_option maxHeartbeats 8000000
namespace Go.Proofs.YtknefelegjlgnaaGreatDoor
open Go.RowKit
section
open Go.Maps
def pt1(q:M3):M3:=q.extract (aK (toL q)).2.1 q.size
def pt2(q:M3):M3:=q.extract (aX (toL q)).2.1 q.size
theorem Ii(q:M3):rdU (toL q)=if(((false || (aK (toL q)).2.2 != 0) || (aX (toL (pt1 q))).2.2 != 0) || (aX (toL (pt2 (pt1 q)))).2.2 != 0)=true then none
  else some ((ofL (aK (toL q)).1,(aX (toL (pt1 q))).1,(aX (toL (pt2 (pt1 q)))).1),toL (pt2 (pt2 (pt1 q)))):=by
 have e1:toL (pt1 q)= (toL q).drop (aK (toL q)).2.1:=oQ _ _;unfold rdU;by_cases h1: (aK (toL q)).2.2=0
 . by_cases h2: (toL (pt1 q)).length<16
   . have g2:aX (toL (pt1 q))= ((0,0),0,13):=by unfold aX;rw[if_pos h2]
     rw[if_pos (.inr (by rw[e1,List.length_drop]at h2;omega)),if_pos (by rw[g2];simp)]
   . have g2:aX (toL (pt1 q))= (dg (toL (pt1 q)),16,0):=by unfold aX;rw[if_neg h2]
     have e2:toL (pt2 (pt1 q))= (toL q).drop ((aK (toL q)).2.1+16):=by
      rw[pt2,oQ,g2,e1,List.drop_drop]
     by_cases h3: (toL (pt2 (pt1 q))).length<16
     . have g3:aX (toL (pt2 (pt1 q)))= ((0,0),0,13):=by unfold aX;rw[if_pos h3]
       rw[if_pos (.inr (by rw[e2,List.length_drop]at h3;omega)),if_pos (by rw[g3];simp)]
     . have g3:aX (toL (pt2 (pt1 q)))= (dg (toL (pt2 (pt1 q))),16,0):=by unfold aX;rw[if_neg h3]
       have e3:toL (pt2 (pt2 (pt1 q)))= (toL q).drop ((aK (toL q)).2.1+32):=by
        rw[show pt2 (pt2 (pt1 q))= (pt2 (pt1 q)).extract (aX (toL (pt2 (pt1 q)))).2.1 (pt2 (pt1 q)).size from rfl,oQ,g3,e2,List.drop_drop];rfl
       rw[if_neg (by rw[e2,List.length_drop]at h3;simp[h1];omega),if_neg (by rw[g2,g3];simp[h1]),g2,g3,e1,e2,e3]
 . rw[if_pos (.inl h1),if_pos (by simp[h1])]
theorem Ik(k:Nat)(l:M5)(acc:List Upd):fin acc (rdL (k+1) l)=match rdU l with | none=>([],13) | some (u,r)=>if di u≠0 then([],13) else fin (acc++ [u]) (rdL k r):=by
 rw[rdL];cases rdU l with
 | none=>rfl
 | some p =>
   obtain⟨u,r⟩:=p;simp only;cases rdL k r with
   | none=>simp[fin]
   | some p2 =>
     obtain⟨us,q⟩:=p2;simp only[fin,dA];by_cases hp:di u=0
     . simp[hp]
     . simp[hp]
theorem uI(q:M3)(h:q.size<=1000000): (pt1 q).size<=1000000/\ (pt2 q).size<=1000000:=by
 unfold pt1 pt2;rw[ByteArray.size_extract,ByteArray.size_extract];omega
theorem Apd.gbp{p:Nat->Prop}{w w':MZ}{base size n c:Nat}{e:TypeId}{A:OA}{xs:List M4}(h:Apd w base e size A n c xs)(hg:Gb p w w')(hp:∀k,base<=k->¬p k):Apd w' base e size A n c xs:=by
 rcases h with h | h
 . refine .inl ⟨h.1,?_⟩
   rcases h.2 with h0 | ⟨g,cap,cur,hv,h1,hh,h2⟩
   . exact .inl h0
   . exact .inr ⟨g,cap,cur,hv,h1,(hg.block g (Array.getElem?_eq_some_iff.1 hh).1 (hp g h1)).trans hh,h2⟩
 . exact .inr h
theorem Gb.then2{r u:Nat}{a b c:MZ}(h:Gb (fun x=>x=r) a b)(g:Gb (fun x=>x=r∨x=u) b c)(hu:a.heap.size<=u):Gb (fun x=>x=r) a c :=
 ⟨g.os.trans h.os,g.tape.trans h.tape,g.output.trans h.output,Z0 h.size g.size,fun i hi hn=>(g.block i (Nat.lt_of_lt_of_le hi h.size) (by rintro (e | e);exact hn e;omega)).trans (h.block i hi hn)⟩
theorem Fj(l:M5): (aK l).1.length<=l.length:=by
 unfold aK;split
 . simp
 . split
   . simp
   . split
     . simp
     . simp only[List.length_take,List.length_drop];omega
def qw(s:M3)(n j:Nat)(q:M3)(bad:Bool)(acc:List Upd):Prop:=dQ (toL s)=if bad=true then([],13) else fin acc (rdL (n - j) (toL q))
theorem Ec(s:M3)(w:MZ)(hs:s.size<=1000000):Calls Tryz.prog 142 #[.string s] w (qF (dQ (toL s)) w):=by
 have HR:Hid (∀r,dQ (toL s)=r->∀e w',qF r w e w'->qF (dQ (toL s)) w e w'):=fun r h e w' hh=>by rw[h];exact hh
 have HD:Hid (dQ (toL s)=if(ay (toL s)).2.2≠0∨1000< (ay (toL s)).1 then([],13) else fin [] (rdL (ay (toL s)).1 ((toL s).drop (ay (toL s)).2.1))):=rfl;obtain⟨i0,hi,O,D,E⟩:=info_parts qo;have Hi:=ah hi;have P:=ah O;have Q:=ah D;have R:=ah E;clear hi O D E;have K0:Hid (Bk ((w.alloc (.cells #[.string s,.bool false] 302)).alloc (.cells #[.func (.func 224) #[] #[],.func (.func 227) #[] #[],.func (.func 230) #[] #[]] 305)) w.heap.size 302 #[.string s,.bool false]):=(Bk.new w 302 _).alloc _;have P0:Hid (Bk ((w.alloc (.cells #[.string s,.bool false] 302)).alloc (.cells #[.func (.func 224) #[] #[],.func (.func 227) #[] #[],.func (.func 230) #[] #[]] 305)) (w.heap.size+1) 305 #[.func (.func 224) #[] #[],.func (.func 227) #[] #[],.func (.func 230) #[] #[]]):=by
  have:=Bk.new (w.alloc (.cells #[.string s,.bool false] 302)) 305 #[.func (.func 224) #[] #[],.func (.func 227) #[] #[],.func (.func 230) #[] #[]];rw[Z9]at this;exact this
 have ag:Hid (Below w.heap.size w ((w.alloc (.cells #[.string s,.bool false] 302)).alloc (.cells #[.func (.func 224) #[] #[],.func (.func 227) #[] #[],.func (.func 230) #[] #[]] 305))):=((af _ w).alloc ai _).alloc (by simp) _
 go_enter Tryz.func142,Tryz.ntmps142
 go_wp2_with fail;refine(Ew w.heap.size s false _ K0.o).mono ?_;obtain⟨q0,y⟩:=NX9 (s.extract (ay (toL s)).2.1 s.size)
 rw[y];have F:Hid (toL q0= (toL s).drop (ay (toL s)).2.1):=by show _=_;rw[<-y];exact oQ _ _
 have S:q0.size<=1000000:=by rw[<-y,ByteArray.size_extract];omega
 have al:=tN (toL s);clear y;generalize ay (toL s)=g at *;obtain⟨n,k,e⟩:=g;simp only at HD F al ⊢;rintro e' w1 ⟨rfl,k1,g1⟩;have D:w.heap.size+2<=w1.heap.size:=by have:=g1.size;simp at this;omega
 have K1:=ah k1;have P1:=ah (g1.bk P0.o (by simp));have G:=ah (ag.o.trans (g1.below (B:=w.heap.size) (by simp;omega) (fun k hk e=>by omega)));obtain⟨x0,x1,f0,f1⟩:=k1.agg;clear k1 g1;by_cases he:e=0
 . subst he
   by_cases hn:1000<n
   . have H: (1000:Int)< (n:Int):=by omega
     have am: (0:Int)< (n:Int):=by omega
     have a:Hid (dQ (toL s)= ([],13)):=by show _=_;rw[HD.o,if_pos (.inr hn)]
     have o:=K1.o.set 1 (.bool true);have y1:=o.cell 1;simp at y1;clear o
     go_wp2
     refine wp_loop_rounds 1 ?_;rw[rounds_succ]
     go_wp2
     go_ret2
     exact lU a.o (G.o.setCell (p:=⟨w.heap.size,1,none⟩) ai _)
   . have H:¬(1000:Int)< (n:Int):=by omega
     have an:decide ((1000:Int)< (n:Int))=false:=by simpa using H
     have T:Hid (qw s n 0 q0 false []):=by
      show dQ (toL s)=_;rw[HD.o,F.o,if_neg (by simp;omega)];rfl
     have KB:Hid (Bk (w1.setCell ⟨w.heap.size,1,none⟩ (.bool false)) w.heap.size 302 #[.string q0,.bool false]):=by
      show Bk _ _ _ _;have:=K1.o.set 1 (.bool false)
      simpa using this
     have PB:Hid (Bk (w1.setCell ⟨w.heap.size,1,none⟩ (.bool false)) (w.heap.size+1) 305 #[.func (.func 224) #[] #[],.func (.func 227) #[] #[],.func (.func 230) #[] #[]]):=P1.o.far (p:=⟨w.heap.size,1,none⟩) (by simp) _;have BB:Hid (Below w.heap.size w (w1.setCell ⟨w.heap.size,1,none⟩ (.bool false))):=G.o.setCell (p:=⟨w.heap.size,1,none⟩) ai _;have U:w.heap.size+2<= (w1.setCell ⟨w.heap.size,1,none⟩ (.bool false)).heap.size:=by simp;omega
     clear HD F K1 P1
     go_wp2
     go_loopw[7,8] (fun v i wr=>∃(j:Nat)(A:OA)(c:Nat)(q:M3)(t:Bool)(b:List Upd),j<=n/\i= .int .i64 j/\v= .slice A j c/\q.size<=1000000/\Hid (Bk wr w.heap.size 302 #[.string q,.bool t])/\Hid (Bk wr (w.heap.size+1) 305 #[.func (.func 224) #[] #[],.func (.func 227) #[] #[],.func (.func 230) #[] #[]]) ∧
      Hid (Apd wr (w.heap.size+2) 85 5 A j c (flat upC b))/\Hid (qw s n j q t b)/\Hid (Below w.heap.size w wr)/\w.heap.size+2<=wr.heap.size) (fun _ i _=>n - (intOf i).toNat)
     case atStart=>exact⟨0,none,0,q0,false,[],ZZ _,rfl,rfl,S,KB.o,PB.o,.inr ⟨rfl,rfl,rfl⟩,T.o,BB.o,U⟩
     case round =>
      clear KB PB BB U T;obtain⟨j,A,c,q,t,b,hj,rfl,rfl,V,KR,PR,hA,hI,f,aD⟩:=hrel;clear H an;by_cases hlt:j<n
      . have ao: (j:Int)< (n:Int):=by omega
        cases t with
        | true =>
          have a:Hid (dQ (toL s)= ([],13)):=hI.o;obtain⟨x0,x1,_,_⟩:=KR.o.agg
          go_wp2
          go_ret2
          exact lU a.o f.o
        | false =>
          have W:Hid (dQ (toL s)=match rdU (toL q) with | none=>([],13) | some (u,r)=>if di u≠0 then([],13) else fin (b++ [u]) (rdL (n - (j+1)) r)):=by
           show _=_;have h1:dQ (toL s)=fin b (rdL (n - j) (toL q)):=hI.o;rw[h1,show n - j=n - (j+1)+1 by omega,Ik]
          have X:=ah (Ii q);have Y:=(uI q V).1;have Z:=(uI (pt1 q) Y).2;have ab:=(uI (pt2 (pt1 q)) Z).2;have aq:=ah (KR.o.alloc (.cells #[.string ⟨#[]⟩,.int .u64 0,.int .u64 0,.int .u64 0,.int .u64 0] 85));have z:=ah (PR.o.alloc (.cells #[.string ⟨#[]⟩,.int .u64 0,.int .u64 0,.int .u64 0,.int .u64 0] 85));have ar:=ah (Bk.new wr 85 #[.string ⟨#[]⟩,.int .u64 0,.int .u64 0,.int .u64 0,.int .u64 0]);have au:Hid (Gb (fun g=>g=w.heap.size) wr (wr.alloc (.cells #[.string ⟨#[]⟩,.int .u64 0,.int .u64 0,.int .u64 0,.int .u64 0] 85))):=Gb.of_below ((af _ wr).alloc ai _);obtain⟨x0,x1,_,_⟩:=KR.o.agg;have y0:=z.o.cell 0;have y1:=z.o.cell 1;have y2:=z.o.cell 2;simp at y0 y1 y2
          go_wp2
          refine wp_loop_rounds 4 ?_;rw[rounds_succ];go_wp2_with fail;have l:w.heap.size≠wr.heap.size:=by omega
          have aw: (ofL (aK (toL q)).1).size<=1000000:=by rw[bG];have:=Fj (toL q);rw[<-aP]at this;omega
          refine(Hu w.heap.size wr.heap.size q false ⟨#[]⟩ 0 0 0 0 _ aq.o ar.o V l).mono ?_;rw[show q.extract (aK (toL q)).2.1 q.size=pt1 q from rfl];generalize pt1 q=q1 at *;generalize (false || (aK (toL q)).2.2 != 0)=b1 at *;generalize ofL (aK (toL q)).1=ts at *;rintro e2 w2 ⟨rfl,k2,u2,g2⟩;have K2:=ah k2;have U2:=ah u2;have P2:=ah (g2.bk z.o (by intro e;omega));have G2:=ah (au.o.then2 g2 ai);have E:wr.heap.size+1<=w2.heap.size:=by have:=g2.size;simp at this;omega
          clear k2 u2 g2 y0 y1 y2 x0 x1;have y0:=P2.o.cell 0;have y1:=P2.o.cell 1;have y2:=P2.o.cell 2;simp at y0 y1 y2
          go_wp2
          rw[rounds_succ];go_wp2_with fail;refine(Hg w.heap.size wr.heap.size q1 b1 ts 0 0 0 0 _ K2.o U2.o Y l).mono ?_;rw[show q1.extract (aX (toL q1)).2.1 q1.size=pt2 q1 from rfl];generalize pt2 q1=q2 at *;generalize (b1 || (aX (toL q1)).2.2 != 0)=b2 at *;generalize (aX (toL q1)).1=dd1 at *;obtain⟨a0,a1⟩:=dd1;rintro e3 w3 ⟨rfl,k3,u3,g3⟩;simp only at u3;have K3:=ah k3;have U3:=ah u3;have P3:=ah (g3.bk P2.o (by intro e;omega));have G3:=ah (G2.o.then2 g3 ai);have aE:w2.heap.size<=w3.heap.size:=g3.size;clear k3 u3 g3 y0 y1 y2;have y0:=P3.o.cell 0;have y1:=P3.o.cell 1;have y2:=P3.o.cell 2;simp at y0 y1 y2
          go_wp2
          rw[rounds_succ];go_wp2_with fail;refine(GY w.heap.size wr.heap.size q2 b2 ts a0 a1 0 0 _ K3.o U3.o Z l).mono ?_;rw[show q2.extract (aX (toL q2)).2.1 q2.size=pt2 q2 from rfl];generalize pt2 q2=q3 at *;generalize (b2 || (aX (toL q2)).2.2 != 0)=b3 at *;generalize (aX (toL q2)).1=dd2 at *;obtain⟨c0,c1⟩:=dd2;rintro e4 w4 ⟨rfl,k4,u4,g4⟩;simp only at u4;have K4:=ah k4;have U4:=ah u4;have P4:=ah (g4.bk P3.o (by intro e;omega));have G4:=ah (G3.o.then2 g4 ai);have ba:w3.heap.size<=w4.heap.size:=g4.size;obtain⟨x0,x1,f0,f1⟩:=k4.agg;have v0:=u4.cell 0;have v1:=u4.cell 1;have v2:=u4.cell 2;have v3:=u4.cell 3;have v4:=u4.cell 4;simp at v0 v1 v2 v3 v4;clear k4 u4 g4 y0 y1 y2 K2 K3 U2 U3 P2 P3 G2 G3
          go_wp2
          rw[rounds_succ];cases b3 with
          | true =>
            have I:Hid (qw s n (j+1) q3 true (b++ [(ts,(a0,a1),(c0,c1))])):=by
             show dQ (toL s)=_;rw[W.o,X.o];rfl
            have KB:Hid (Bk (w4.setCell ⟨w.heap.size,1,none⟩ (.bool true)) w.heap.size 302 #[.string q3,.bool true]):=by
             show Bk _ _ _ _;have:=K4.o.set 1 (.bool true)
             simpa using this
            have PB:Hid (Bk (w4.setCell ⟨w.heap.size,1,none⟩ (.bool true)) (w.heap.size+1) 305 #[.func (.func 224) #[] #[],.func (.func 227) #[] #[],.func (.func 230) #[] #[]]):=P4.o.far (p:=⟨w.heap.size,1,none⟩) (by simp) _;have HG:Hid (Gb (fun x=>x=w.heap.size) wr (w4.setCell ⟨w.heap.size,1,none⟩ (.bool true))):=G4.o.trans (Gb.set (p:=fun x=>x=w.heap.size) (x:=w.heap.size) rfl 1 _);have UB:=U4.o.far (p:=⟨w.heap.size,1,none⟩) l.symm (.bool true);have t0:=UB.cell 0;have t1:=UB.cell 1;have t2:=UB.cell 2;have t3:=UB.cell 3;have t4:=UB.cell 4;simp at t0 t1 t2 t3 t4;clear UB
            go_wp2_with (at_builtin;refine aN ?_)
            refine aF ?_;refine dB (base:=w.heap.size+2) _ rfl (.tmp 63) (.tmp 65) 31 rfl 85 i0 _ 48 Tryz.underlying31 Hi.o P.o Q.o R.o rfl (by decide) A j c (flat upC b) rfl ?ap (w4.heap.size+1) _ 1 _ (flat upC [(ts,(a0,a1),(c0,c1))]) rfl ?sl (nZ _) (by unfold maxLen;omega) (by omega) (by simp;omega) ?_
            case ap=>exact(hA.o.gbp HG.o (fun k hk e=>by omega)).below ((af _ _).alloc ai _)
            case sl =>
             have:=Sl.new (w4.setCell ⟨w.heap.size,1,none⟩ (.bool true)) 85 (flat upC [(ts,(a0,a1),(c0,c1))]) 1 (size:=5) rfl;have e: (w4.setCell ⟨w.heap.size,1,none⟩ (.bool true)).heap.size=w4.heap.size:=by simp
             rw[e]at this;exact this
            intro A7 c7 w7 a7 d _ _ _;rw[<-bu]at a7;have J:=ah a7;have K:w.heap.size+2<=w7.heap.size:=by have:=d.size;simp at this;omega
            have L:=ah ((KB.o.alloc (.cells #[.string ts,.int .u64 a0,.int .u64 a1,.int .u64 c0,.int .u64 c1] 85)).below d (by omega));have M:=ah ((PB.o.alloc (.cells #[.string ts,.int .u64 a0,.int .u64 a1,.int .u64 c0,.int .u64 c1] 85)).below d (by omega));have N:Hid (Below w.heap.size w w7):=((f.o.trans (HG.o.below (B:=w.heap.size) (by omega) (fun k hk e=>by omega))).alloc (by simp;omega) _).trans (d.mono (by omega));clear a7 d
            go_wp2
            go_roundw
            case rel=>exact⟨j+1,A7,c7,q3,_,b++ [(ts,(a0,a1),(c0,c1))],by omega,by go_num,rfl,ab,L.o,M.o,J.o,I.o,N.o,K⟩
            case measure=>simp[intOf];omega
          | false =>
            have ad:Hid (dQ (toL s)=if di (ts,(a0,a1),(c0,c1))≠0 then([],13) else fin (b++ [(ts,(a0,a1),(c0,c1))]) (rdL (n - (j+1)) (toL q3))):=by
             show _=_;rw[W.o,X.o];rfl
            go_wp2_with fail;refine(rC (ts,(a0,a1),(c0,c1)) _ (by show ts.size<=maxLen;unfold maxLen;omega)).mono ?_;generalize di (ts,(a0,a1),(c0,c1))=pe at *;rintro e5 w5 ⟨rfl,m⟩;have bb:w4.heap.size<=w5.heap.size:=m.size;have K5:=K4.o.below m (by omega);have U5:=U4.o.below m (by omega);have P5:=P4.o.below m (by omega);have G5:=G4.o.trans (Gb.of_below m);obtain⟨pb,av⟩:=NX9 ((pe != 0))
            have I:Hid (qw s n (j+1) q3 pb (b++ [(ts,(a0,a1),(c0,c1))])):=by
             show dQ (toL s)=_;rw[ad.o,<-av];by_cases hp:pe=0
             . rw[if_neg (by simp[hp]),if_neg (by simp[hp])]
             . rw[if_pos hp,if_pos (by simp[hp])]
            have KB:Hid (Bk (w5.setCell ⟨w.heap.size,1,none⟩ (.bool pb)) w.heap.size 302 #[.string q3,.bool pb]):=by
             show Bk _ _ _ _;have:=K5.set 1 (.bool pb)
             simpa using this
            have PB:Hid (Bk (w5.setCell ⟨w.heap.size,1,none⟩ (.bool pb)) (w.heap.size+1) 305 #[.func (.func 224) #[] #[],.func (.func 227) #[] #[],.func (.func 230) #[] #[]]):=P5.far (p:=⟨w.heap.size,1,none⟩) (by simp) _;have HG:Hid (Gb (fun x=>x=w.heap.size) wr (w5.setCell ⟨w.heap.size,1,none⟩ (.bool pb))):=G5.trans (Gb.set (p:=fun x=>x=w.heap.size) (x:=w.heap.size) rfl 1 _);obtain⟨z0,z1,s0,s1⟩:=K5.agg;have UB:=U5.far (p:=⟨w.heap.size,1,none⟩) l.symm (.bool pb);have t0:=UB.cell 0;have t1:=UB.cell 1;have t2:=UB.cell 2;have t3:=UB.cell 3;have t4:=UB.cell 4;simp at t0 t1 t2 t3 t4;clear UB K5 U5 P5 G5 m x0 x1 f0 f1 v0 v1 v2 v3 v4 ad
            go_wp2_with (at_builtin;refine aN ?_)
            refine aF ?_;refine dB (base:=w.heap.size+2) _ rfl (.tmp 63) (.tmp 65) 31 rfl 85 i0 _ 48 Tryz.underlying31 Hi.o P.o Q.o R.o rfl (by decide) A j c (flat upC b) rfl ?ap (w5.heap.size+1) _ 1 _ (flat upC [(ts,(a0,a1),(c0,c1))]) rfl ?sl (nZ _) (by unfold maxLen;omega) (by omega) (by simp;omega) ?_
            case ap=>exact(hA.o.gbp HG.o (fun k hk e=>by omega)).below ((af _ _).alloc ai _)
            case sl =>
             have:=Sl.new (w5.setCell ⟨w.heap.size,1,none⟩ (.bool pb)) 85 (flat upC [(ts,(a0,a1),(c0,c1))]) 1 (size:=5) rfl;have e: (w5.setCell ⟨w.heap.size,1,none⟩ (.bool pb)).heap.size=w5.heap.size:=by simp
             rw[e]at this;exact this
            intro A7 c7 w7 a7 d _ _ _;rw[<-bu]at a7;have J:=ah a7;have K:w.heap.size+2<=w7.heap.size:=by have:=d.size;simp at this;omega
            have L:=ah ((KB.o.alloc (.cells #[.string ts,.int .u64 a0,.int .u64 a1,.int .u64 c0,.int .u64 c1] 85)).below d (by omega));have M:=ah ((PB.o.alloc (.cells #[.string ts,.int .u64 a0,.int .u64 a1,.int .u64 c0,.int .u64 c1] 85)).below d (by omega));have N:Hid (Below w.heap.size w w7):=((f.o.trans (HG.o.below (B:=w.heap.size) (by omega) (fun k hk e=>by omega))).alloc (by simp;omega) _).trans (d.mono (by omega));clear a7 d
            go_wp2
            go_roundw
            case rel=>exact⟨j+1,A7,c7,q3,_,b++ [(ts,(a0,a1),(c0,c1))],by omega,by go_num,rfl,ab,L.o,M.o,J.o,I.o,N.o,K⟩
            case measure=>simp[intOf];omega
      . have ao:¬(j:Int)< (n:Int):=by omega
        obtain⟨x0,x1,_,_⟩:=KR.o.agg;cases t with
        | true =>
          have a:Hid (dQ (toL s)= ([],13)):=hI.o
          go_wp2
          go_ret2
          exact lU a.o f.o
        | false =>
          have C:dQ (toL s)=if toL q= []/\dA []=0 then(b++ [],0) else([],13):=by
           have h1:dQ (toL s)=fin b (rdL (n - j) (toL q)):=hI.o;rw[h1,show n - j=0 by omega,rdL,fin]
          by_cases hqe:toL q= []
          . have a:Hid (dQ (toL s)= (b,0)):=by show _=_;rw[C,if_pos ⟨hqe,rfl⟩,List.append_nil]
            have t1:q.toList= []:=by rw[ByteArray.toList_eq];exact hqe
            have t2: (q.toList == ([]:List UInt8))=true:=by rw[t1];rfl
            clear C hqe
            go_wp2
            go_ret2
            exact HR.o _ a.o _ _ ⟨A,j,c,rfl,hA.o.low (by omega),hA.o.cap.1,hA.o.cap.2,f.o⟩
          . have a:Hid (dQ (toL s)= ([],13)):=by show _=_;rw[C,if_neg (by simp[hqe])]
            have t1: (!q.toList.isEmpty)=true:=by
             rw[ByteArray.toList_eq];simp only[Bool.not_eq_true',List.isEmpty_eq_false_iff];exact hqe
            have t2: (q.toList == ([]:List UInt8))=false:=by rw[beq_eq_false_iff_ne,ByteArray.toList_eq];exact hqe
            have t3:¬q.toList= []:=by rw[ByteArray.toList_eq];exact hqe
            clear C hqe
            go_wp2
            go_ret2
            exact lU a.o f.o
 . have bd: (e != 0)=true:=by rw[bne_iff_ne];exact he
   have a:Hid (dQ (toL s)= ([],13)):=by show _=_;rw[HD.o,if_pos (.inl he)]
   have o:=K1.o.set 1 (.bool true);have y1:=o.cell 1;simp at y1;clear o he;by_cases am: (0:Int)< (n:Int)
   all_goals
    go_wp2
    refine wp_loop_rounds 1 ?_;rw[rounds_succ]
    go_wp2
    go_ret2
    exact lU a.o (G.o.setCell (p:=⟨w.heap.size,1,none⟩) ai _)
end
section
attribute [local go_sem] Oper.semAt_some
def C8(us:List Upd)(n:Nat)(w:MZ)(e:Ending)(w':MZ):Prop:=∃A m c,e= .returned (.tuple #[.int .i64 n,.slice A m c,.int .i64 0])/\Apd w' w.heap.size 85 5 A m c (flat upC us)/\m=us.length/\m<=c/\c<=maxLen/\Below w.heap.size w w'
theorem Im(g:Gru)(hg:GOk g)(hs: (fq g.1 g.2.length).length<=65536)(w:MZ):Calls Tryz.prog 80 #[.string (ofL (fq g.1 g.2.length))] w (C8 g.1 g.2.length w):=by
 obtain⟨us,os⟩:=g;have HX:=ah (oo (aj os.length) (encR us).1);obtain⟨s,a⟩:=NX9 (ofL (fq us os.length))
 have e0:ofL (aj os.length++ (encR us).1)=s:=a;rw[e0]at HX;have f:s.size= (fq us os.length).length:=by rw[<-a,bG]
 have b: (fq us os.length).length= (aj os.length).length+ (encR us).1.length:=ae ..;have HG:=ah (jD s w);rw[show ay (toL s)= (os.length,(aj os.length).length,0) by rw[<-a,bP];exact hg.num]at HG;have HD:=ah (Ec (ofL (encR us).1) w (by rw[bG];simp only at hs;omega));rw[bP,show dQ (encR us).1= (us,0) from hg.dec]at HD;simp only at hs ⊢;rw[a];obtain⟨k,hk⟩:=NX9 ((aj os.length).length)
 have hn:os.length<=1099511627776:=hg.os;rw[hk]at HX HG b;obtain⟨n,d⟩:=NX9 os.length
 rw[d]at HG hn ⊢;have j: (k:Int)<= (s.size:Int):=by omega
 have l: (s.size:Int)<=1000000:=by omega
 rw[<-HX.o]at HD;clear hg hs a e0 f b hk d HX
 go_enter Tryz.func80,Tryz.ntmps80
 go_wp2_with fail;refine HG.o.mono ?_;rintro e w' ⟨rfl,rfl⟩;go_wp2_with fail;refine HD.o.mono ?_;rintro e w1 ⟨A,m,c,rfl,hs,h,i,hb⟩;have HS:=ah hs;have HB:=ah hb;clear hs hb HD HG
 go_wp2
 go_ret3
 exact⟨A,m,c,rfl,HS.o,HS.o.sl.len eD (by omega) |>.symm,h,i,HB.o⟩
abbrev Gx:=(OA×Nat×Nat)× (OA×Nat×Nat)×Gru
def gxV(x:Gx):Array M4:=#[.agg #[.slice x.1.1 x.1.2.1 x.1.2.2,.slice x.2.1.1 x.2.1.2.1 x.2.1.2.2,.bool false]]
def gxG(xs:List Gx):List Gru:=xs.map (·.2.2)
theorem kK(xs:List Gx)(x:Gx):gxG (xs++ [x])=gxG xs++ [x.2.2]:=by simp[gxG]
structure GxM(W:MZ)(x:Gx):Prop where
 u:Apd W 0 85 5 x.1.1 x.1.2.1 x.1.2.2 (flat upC x.2.2.1)
 o:Sl W W.heap.size 1 x.2.1.1 x.2.1.2.1 (flat aA x.2.2.2)
 ul:x.1.2.1=x.2.2.1.length
 ol:x.2.1.2.1=x.2.2.2.length
def GxP(gs:List Gru)(W:MZ)(xs:List Gx):Prop:=∀pre x,xs=pre++ [x]-> (∃rest,gxG xs++rest=gs)/\GxM W x
def KeepG(B b:Nat)(A C:MZ):Prop:=(∀k,k<B->C.heap[k]? =A.heap[k]?)/\C.heap[b]? =A.heap[b]?
theorem KeepG.trans{B b:Nat}{X Y Z:MZ}(h:KeepG B b X Y)(k:KeepG B b Y Z):KeepG B b X Z:=⟨fun i hi=>(k.1 i hi).trans (h.1 i hi),k.2.trans h.2⟩
theorem Sl.low{w w':MZ}{B size n:Nat}{A:OA}{xs:List M4}(h:Sl w B size A n xs)(hk:∀k,k<B->w'.heap[k]? =w.heap[k]?):Sl w' B size A n xs:=h.keep fun p hp=>World.cell?_of_block (hk p.block hp)
theorem sJ(g:Gru)(gs:List Gru):recs (g::gs)=fq g.1 g.2.length:: (g.2++recs gs):=by simp[recs,aM]
theorem rM(a b:List Gru):recs (a++b)=recs a++recs b:=by simp[recs]
theorem FR(n bs B1 hz:Nat)(hn:1<=n)(A:OA)(m c:Nat)(gs:List Gru)(w:MZ)(hbs:Bk w bs 22 #[.slice A m c])(hs:Sl w B1 1 A m (flat aA (recs gs)))(hB1:B1<=bs)(hmc:m<=c)(hm:m<=1000000)(hg:∀g∈gs,GOk g)(hsz:∀t∈recs gs,t.length<=65536) :
  qQ Fence.wide n Tryz.prog 79 #[.pointer (some ⟨bs,0,none⟩)] gxV (KeepG B1 bs) (fun A B=>Below A.heap.size A B) (GxP gs) (fun xs=>gxG xs=gs) (fun _=>True) hz w:=fun l J Jx W hW hWz hJ hY hJ0=>by
 have G0:Hid (Bk W bs 22 #[.slice A m c]):=(hW.block bs hbs.lt).trans hbs;have G1:Hid (Sl W B1 1 A m (flat aA (recs gs))):=hs.below hW (by have:=hbs.lt;omega);have s:=ah (hs.len dI (by omega));have HG:=ah hg;have V:=ah hsz;have HY:=ah hY;have X:=ah hJ0;have HJ:=ah hJ;obtain⟨i0,hi,Y,z,Z⟩:=info_parts iT;have Hi:=ah hi;have ab:=ah z;clear hW hbs hs hWz hJ hY hJ0 hg hsz hi Y z Z;refine callsIn_of_wp Tryz.func79 rfl trivial ?_ rfl;simp only[Tryz.ntmps79,List.size_toArray,Z5,List.length_nil,Nat.reduceAdd,Nat.reduceSub,Array.replicate_succ,Array.replicate_zero,List.push_toArray,List.append_toArray,List.nil_append,List.cons_append]
 gi_wp2_with fail
 gi_loopw [3] (fun q wr=>∃(a:Nat)(pre:List Gx)(b:List Gru),q= .int .i64 (a:Int)/\a<=m/\Hid (gxG pre++b=gs)/\Hid (a= (recs (gxG pre)).length)/\Hid (Bk wr bs 22 #[.slice A m c])/\Hid (Sl wr B1 1 A m (flat aA (recs gs)))/\Hid (J pre wr)) (fun q _=>m+1 - (intOf q).toNat)
 case atStart=>exact⟨0,[],gs,rfl,ZZ _,rfl,rfl,G0.o,G1.o,X.o⟩
 case round =>
  obtain⟨a,pre,b,rfl,bf,C,ha,i,D,hj⟩:=hrel;have d:=ah C.o;have HA:=ah ha.o;have ad:=ah i.o;have E:=ah D.o;have F:=ah hj.o;have ag:=i.o.lt;have c0:=i.o.cell 0;simp at c0;clear C ha i D hj;by_cases hlt:a<m
  . obtain⟨g,b,rfl⟩:∃g r,b=g::r:=by
      cases b with
      | nil =>
        have:=d.o;rw[List.append_nil]at this;have h1:=HA.o;have h2:=s.o;rw[this]at h1;omega
      | cons g r=>exact⟨g,r,rfl⟩
    have u:Hid (recs gs=recs (gxG pre)++ (fq g.1 g.2.length:: (g.2++recs b))):=by show _=_;rw[<-d.o,rM,sJ]
    have G:g∈gs:=by rw[<-d.o];simp
    have al:a+1+g.2.length+ (recs b).length=m:=by
     have h1:=HA.o;have h2:=s.o;rw[u.o]at h2;simp only[ae,Z5]at h2;omega
    have f: (recs gs)[a]? =some (fq g.1 g.2.length):=by rw[u.o,HA.o,List.getElem?_append_right ai,Nat.sub_self];rfl
    have HH:=ah (fun w'=>Im g (HG.o g G) (V.o _ (Z7 f)) w');unfold C8 at HH;obtain⟨bb,v,x,rfl,bg,hx,hc⟩:=E.o.at_ dI (by omega) hlt;have x0:=hc 0 _ rfl;rw[f]at hx;obtain rfl:=(Option.some.inj hx).symm;simp only[Nat.mul_one,Nat.add_zero]at x0;obtain⟨hs,H⟩:=NX9 (ofL (fq g.1 g.2.length))
    rw[H]at x0 HH;have am: (a:Int)< (m:Int):=by omega
    have I:Hid (((recs gs).drop (a+1)).take g.2.length=g.2):=by
     show _=_;rw[u.o,HA.o,<-List.singleton_append,<-Z4,List.drop_left' (by simp),List.take_left]
    have K:Hid (gxG pre++ [g]++b=gs):=by show _=_;rw[<-d.o];simp
    have L:Hid (a+1+g.2.length= (recs (gxG pre++ [g])).length):=by
     show _=_;rw[rM,ae,sJ,<-HA.o];simp[recs];omega
    obtain⟨k,hk⟩:=NX9 g.2.length
    have HK:=ah hk;rw[hk]at HH al I L;obtain⟨Ak,M,N⟩:=wU (P:=Tryz.prog) 22 i0 Tryz.underlying22 Hi.o ab.o (some ⟨bb,v,none⟩) m c (a+1) k (by omega);have an:=ah N;clear G f hx hc H hk N
    gi_wp2_with fail
    refine⟨trivial,(callsIn_wide.2 (HH.o _)).mono ?_⟩;rintro e w1 ⟨A1,m1,c1,rfl,O,Q,av,aw,j⟩;have ao:Hid (J pre w1):=HJ.o pre wr w1 F.o j;have h:=ah (ad.o.below j ag);have o:=ah (E.o.below j (by omega));have ap:=ah O;have aq:=ah Q;have c0:=h.o.cell 0;simp at c0;have aD: (Instr.sliceAt 22 (.slice (some ⟨bb,v,none⟩) m c) (some (.int .i64 ((a:Int)+1))) (some (.int .i64 ((a:Int)+1+ (k:Int)))) none).run Tryz.prog w1= .ok (.slice Ak k (c - (a+1))) w1:=M w1;have aE:=h.o.lt;have R:Hid (Sl w1 w1.heap.size 1 Ak k (flat aA g.2)):=by
     have:=an.o w1 w1.heap.size _ (by omega) (o.o.more (by omega)) (by omega);rw[yM,I.o]at this;exact this
    clear O Q j HH x0 M;have bh: (a:Int)+1+ (k:Int)<= (m:Int):=by omega
    have bi:¬((m:Int) - ((a:Int)+1)< (k:Int)):=by omega
    have bj: (m:Int)<=1000000:=by omega
    obtain⟨fn,ba,U,bd,hy,y⟩:=HY.o pre ((A1,m1,c1),(Ak,k,c - (a+1)),g) w1 (fun p x he=>by
     have e:=congrArg List.getLast? he;simp at e;subst e;exact⟨⟨b,by rw[kK];exact K.o⟩,ap.o.low (ZZ _),R.o,aq.o,HK.o.symm⟩) ao.o
    simp only[gxV]at hy y;have ar:=ah y;clear y
    gi_wp2
    refine ar.o.mono ?_;rintro e' W3 (⟨rfl,hJ3,hK3⟩ | ⟨rfl,hJx3⟩)
    . have S:Hid (Bk W3 bs 22 #[.slice (some ⟨bb,v,none⟩) m c]):=hK3.2.trans h.o
      have T:=ah (o.o.low hK3.1);have au:=ah hJ3;clear hJ3 hK3
      gi_wp2
      go_roundw
      case rel=>exact⟨a+1+k,pre++ [((A1,m1,c1),(Ak,k,c - (a+1)),g)],b,by go_num,by omega,by show _=_;rw[kK];exact K.o,by show _=_;rw[kK];exact L.o,S.o,T.o,au.o⟩
      case measure=>simp[intOf];omega
    . gi_wp2
      refine ZY (results_none rfl _ _ _) rfl ?_;exact⟨⟨_,rfl⟩,.inr ⟨_,trivial,hJx3⟩⟩
  . have am:¬(a:Int)< (m:Int):=by omega
    have HE:Hid (gxG pre=gs):=by
     show _=_;have h1:=HA.o;have h2:=s.o;have h3:=d.o;cases b with
     | nil=>rw[<-h3,List.append_nil]
     | cons g r =>
       rw[<-h3,rM,sJ]at h2;simp only[ae,Z5]at h2;omega
    gi_wp2
    go_end0
    exact⟨⟨_,rfl⟩,.inl ⟨pre,HE.o,F.o⟩⟩
theorem FJ(A:OA)(n c:Nat)(w:MZ):Calls Tryz.prog 37 #[.slice A n c] w fun e w'=>e= .returned (.func (.func 79) #[] #[.pointer (some ⟨w.heap.size,0,none⟩)])/\w'=w.alloc (.cells #[.slice A n c] 22):=by
 go_enter Tryz.func37,Tryz.ntmps37
 go_wp2
 go_ret
 exact⟨rfl,rfl⟩
end
end Go.Proofs.YtknefelegjlgnaaGreatDoor
namespace Go.Proofs
open Go.Shelf
def Tryz.pdqIt_ren:Go.Shelf.Ren:=⟨fun | 14=>232 | 20=>281 | 21=>282 | 22=>283 | 23=>284 | 24=>285 | 25=>286 | 26=>287 | 27=>288 | 46=>316 | 47=>254 | 48=>255 | 49=>317 | 50=>318 | 15=>115 | 57=>336 | 28=>191 | 29=>192 | n=>n,fun | 24=>118 | 22=>28 | 3=>3 | 25=>237 | 4=>4 | 0=>0 | 46=>261 | 45=>260 | 50=>181 | 66=>328 | 39=>188 | 55=>48 | 70=>332 | 76=>361 | 77=>362 | 53=>267 | 5=>5 | 9=>9 | n=>n,fun | n=>n⟩
theorem Tryz.pdqIt:Go.Proofs.SlLaysF0.n14 Tryz.prog Tryz.pdqIt_ren:={
 mixed:=by kernel_rfl
 f14:=⟨Tryz.f232.name,by decide,Tryz.func232.trans (congrArg some (by kernel_rfl))⟩
 f15:=Tryz.func115.trans (congrArg some (by kernel_rfl))
 f20:=⟨Tryz.f281.name,by decide,Tryz.func281.trans (congrArg some (by kernel_rfl))⟩
 f21:=⟨Tryz.f282.name,by decide,Tryz.func282.trans (congrArg some (by kernel_rfl))⟩
 f22:=⟨Tryz.f283.name,by decide,Tryz.func283.trans (congrArg some (by kernel_rfl))⟩
 f23:=⟨Tryz.f284.name,by decide,Tryz.func284.trans (congrArg some (by kernel_rfl))⟩
 f24:=⟨Tryz.f285.name,by decide,Tryz.func285.trans (congrArg some (by kernel_rfl))⟩
 f25:=⟨Tryz.f286.name,by decide,Tryz.func286.trans (congrArg some (by kernel_rfl))⟩
 f26:=⟨Tryz.f287.name,by decide,Tryz.func287.trans (congrArg some (by kernel_rfl))⟩
 f27:=⟨Tryz.f288.name,by decide,Tryz.func288.trans (congrArg some (by kernel_rfl))⟩
 f28:=Tryz.func191.trans (congrArg some (by kernel_rfl))
 f29:=Tryz.func192.trans (congrArg some (by kernel_rfl))
 f46:=⟨Tryz.f316.name,by decide,Tryz.func316.trans (congrArg some (by kernel_rfl))⟩
 f47:=Tryz.func254.trans (congrArg some (by kernel_rfl))
 f48:=Tryz.func255.trans (congrArg some (by kernel_rfl))
 f49:=⟨Tryz.f317.name,by decide,Tryz.func317.trans (congrArg some (by kernel_rfl))⟩
 f50:=⟨Tryz.f318.name,by decide,Tryz.func318.trans (congrArg some (by kernel_rfl))⟩
 f57:=⟨Tryz.f336.name,by decide,Tryz.func336.trans (congrArg some (by kernel_rfl))⟩
 t0:=Tryz.underlying0
 a0:=Tryz.isAgg0
 z0:=Tryz.sizeOf0
 v0:=Tryz.zeroValue0
 t3:=Tryz.underlying3
 a3:=Tryz.isAgg3
 z3:=Tryz.sizeOf3
 v3:=Tryz.zeroValue3
 t4:=Tryz.underlying4
 a4:=Tryz.isAgg4
 z4:=Tryz.sizeOf4
 v4:=Tryz.zeroValue4
 t5:=Tryz.underlying5
 a5:=Tryz.isAgg5
 z5:=Tryz.sizeOf5
 v5:=Tryz.zeroValue5
 t9:=Tryz.underlying9
 a9:=Tryz.isAgg9
 z9:=Tryz.sizeOf9
 v9:=Tryz.zeroValue9
 t22:=Tryz.underlying28
 a22:=Tryz.isAgg28
 z22:=Tryz.sizeOf28
 v22:=Tryz.zeroValue28
 t25:=Tryz.underlying237
 a25:=Tryz.isAgg237
 z25:=Tryz.sizeOf237
 v25:=Tryz.zeroValue237
 t39:=Tryz.underlying188
 a39:=Tryz.isAgg188
 z39:=Tryz.sizeOf188
 v39:=Tryz.zeroValue188
 t45:=Tryz.underlying260
 a45:=Tryz.isAgg260
 z45:=Tryz.sizeOf260
 v45:=Tryz.zeroValue260
 t46:=Tryz.underlying261
 a46:=Tryz.isAgg261
 z46:=Tryz.sizeOf261
 v46:=Tryz.zeroValue261
 t50:=Tryz.underlying181
 a50:=Tryz.isAgg181
 z50:=Tryz.sizeOf181
 v50:=Tryz.zeroValue181
 t53:=Tryz.underlying267
 a53:=Tryz.isAgg267
 z53:=Tryz.sizeOf267
 v53:=Tryz.zeroValue267
 t55:=Tryz.underlying48
 a55:=Tryz.isAgg48
 z55:=Tryz.sizeOf48
 v55:=Tryz.zeroValue48
 t66:=Tryz.underlying328
 a66:=Tryz.isAgg328
 z66:=Tryz.sizeOf328
 v66:=Tryz.zeroValue328
 t70:=Tryz.underlying332
 a70:=Tryz.isAgg332
 z70:=Tryz.sizeOf332
 v70:=Tryz.zeroValue332
 t76:=Tryz.underlying361
 a76:=Tryz.isAgg361
 z76:=Tryz.sizeOf361
 v76:=Tryz.zeroValue361
 t77:=Tryz.underlying362
 a77:=Tryz.isAgg362
 z77:=Tryz.sizeOf362
 v77:=Tryz.zeroValue362}
def Tryz.lenU_ren:Go.Shelf.Ren:=⟨fun | 15=>115 | 28=>191 | 29=>192 | n=>n,fun | 39=>188 | 3=>3 | 53=>267 | 55=>48 | 4=>4 | 5=>5 | 9=>9 | n=>n,fun | n=>n⟩
theorem Tryz.lenU:Go.Proofs.SlLaysF0.n15 Tryz.prog Tryz.lenU_ren:={
 mixed:=by kernel_rfl
 f15:=Tryz.func115.trans (congrArg some (by kernel_rfl))
 f28:=Tryz.func191.trans (congrArg some (by kernel_rfl))
 f29:=Tryz.func192.trans (congrArg some (by kernel_rfl))
 t3:=Tryz.underlying3
 a3:=Tryz.isAgg3
 z3:=Tryz.sizeOf3
 v3:=Tryz.zeroValue3
 t4:=Tryz.underlying4
 a4:=Tryz.isAgg4
 z4:=Tryz.sizeOf4
 v4:=Tryz.zeroValue4
 t5:=Tryz.underlying5
 a5:=Tryz.isAgg5
 z5:=Tryz.sizeOf5
 v5:=Tryz.zeroValue5
 t9:=Tryz.underlying9
 a9:=Tryz.isAgg9
 z9:=Tryz.sizeOf9
 v9:=Tryz.zeroValue9
 t39:=Tryz.underlying188
 a39:=Tryz.isAgg188
 z39:=Tryz.sizeOf188
 v39:=Tryz.zeroValue188
 t53:=Tryz.underlying267
 a53:=Tryz.isAgg267
 z53:=Tryz.sizeOf267
 v53:=Tryz.zeroValue267
 t55:=Tryz.underlying48
 a55:=Tryz.isAgg48
 z55:=Tryz.sizeOf48
 v55:=Tryz.zeroValue48}
end Go.Proofs
namespace Go.Proofs.YtknefelegjlgnaaGreatDoor
open Go.RowKit
section
open Go.RowKit Go.Shelf Go.Sort Go.Lib
attribute [local go_sem] Oper.semAt_some
theorem Jl(b0 b1:Nat)(a1 a2 x1 x2:Int)(w:MZ)(h0:w.cell? ⟨b0,0,none⟩=some (.int .u64 a1))(h1:w.cell? ⟨b0,1,none⟩=some (.int .u64 a2))(h2:w.cell? ⟨b1,0,none⟩=some (.int .u64 x1))(h3:w.cell? ⟨b1,1,none⟩=some (.int .u64 x2)) :
  Calls Tryz.prog 151 #[.slice (some ⟨b0,0,none⟩) 2 2,.slice (some ⟨b1,0,none⟩) 2 2] w fun e w'=>e= .returned (.int .i64 (bX (a1,a2) (x1,x2)))/\w=w':=by
 have b:=ah (fun w=>kL a1 x1 w);have c:=ah (fun w=>kL a2 x2 w);have HE:Hid (bX (a1,a2) (x1,x2)=if bK a1 x1=0 then bK a2 x2 else bK a1 x1):=by
  show _=_;by_cases h: ((a1,a2):Dig)= (x1,x2)
  . rw[(mf _ _).2 h]
    cases h
    simp[bK]
  . rw[uN _ _ h]
    simp only[orI];split
    . split <;> simp_all
    . rfl
 obtain⟨z,hz⟩:=NX9 (bX (a1,a2) (x1,x2))
 rw[hz]at HE ⊢;obtain⟨u,hu⟩:=NX9 (bK a1 x1)
 obtain⟨v,hv⟩:=NX9 (bK a2 x2)
 rw[hu]at b HE;rw[hv]at c HE;clear hz hu hv
 go_enter Tryz.func151,Tryz.ntmps151
 go_wp2_with fail
 go_loopw[11] (fun i wr=>∃k:Nat,k<=2/\i= .int .i64 k/\w=wr/\Hid (0<k->u=0)/\Hid (1<k->v=0)) (fun i _=>3 - (intOf i).toNat)
 case atStart=>exact⟨0,by omega,rfl,rfl,fun h=>by omega,fun h=>by omega⟩
 case round =>
  obtain⟨k,hk,rfl,rfl,H1,H2⟩:=hrel
  match k,hk with
  | 0,_ =>
    go_wp2_with fail;refine(b.o _).mono ?_;rintro e w1 ⟨rfl,rfl⟩;by_cases hu:u=0
    . have a: (u != 0)=false:=by simp[hu]
      have HU:=ah hu;clear hu;go_wp2_with fail;go_roundw
      case rel=>exact⟨1,by omega,rfl,trivial,fun _=>HU.o,fun h=>by omega⟩
      case measure=>simp[intOf]
    . have a: (u != 0)=true:=by simp[hu]
      have HZ:Hid (z=u):=by show _=_;rw[HE.o,if_neg hu]
      clear hu;go_wp2_with fail;go_ret
      exact⟨by rw[HZ.o];rfl,rfl⟩
  | 1,_ =>
    have HU:=H1.o (by omega);have d:=ah HU;clear HU;go_wp2_with fail;refine(c.o _).mono ?_;rintro e w1 ⟨rfl,rfl⟩;by_cases hu:v=0
    . have a: (v != 0)=false:=by simp[hu]
      have HV:=ah hu;clear hu;go_wp2_with fail;go_roundw
      case rel=>exact⟨2,by omega,rfl,trivial,fun _=>d.o,fun _=>HV.o⟩
      case measure=>simp[intOf]
    . have a: (v != 0)=true:=by simp[hu]
      have HZ:Hid (z=v):=by show _=_;rw[HE.o,if_pos d.o]
      clear hu;go_wp2_with fail;go_ret
      exact⟨by rw[HZ.o];rfl,rfl⟩
  | 2,_ =>
    have HZ:Hid (z=0):=by show _=_;rw[HE.o,if_pos (H1.o (by omega)),H2.o (by omega)]
    go_wp2_with fail;go_ret
    exact⟨by rw[HZ.o];rfl,rfl⟩
theorem Hl(i j:Itm)(w:MZ):Calls Tryz.prog 150 #[itV i,itV j] w fun e w'=>e= .returned (.int .i64 (bX i.1 j.1))/\Gro w w':=by
 obtain⟨⟨a1,a2⟩,s⟩:=i;obtain⟨⟨x1,x2⟩,t⟩:=j;simp only[itV];obtain⟨wz,hW⟩:=NX9 ((w.alloc (.cells #[.int .u64 a1,.int .u64 a2,.string s] 118)).alloc (.cells #[.int .u64 x1,.int .u64 x2,.string t] 118))
 have HA:Hid (Bk wz w.heap.size 118 #[.int .u64 a1,.int .u64 a2,.string s]):=by rw[<-hW];exact(Bk.new w _ _).alloc _
 have HB:Hid (Bk wz (w.heap.size+1) 118 #[.int .u64 x1,.int .u64 x2,.string t]):=by
  rw[<-hW];have:=Bk.new (w.alloc (.cells #[.int .u64 a1,.int .u64 a2,.string s] 118)) 118 #[.int .u64 x1,.int .u64 x2,.string t];rw[Z9]at this;exact this
 have HL:Hid (Gro w wz):=by rw[<-hW];exact((Gro.refl w).alloc _).alloc _
 have HC:Hid (∀q,Calls Tryz.prog 151 #[.slice (some ⟨w.heap.size,0,none⟩) 2 2,.slice (some ⟨w.heap.size+1,0,none⟩) 2 2] (wz.drewN q) fun e w'=>e= .returned (.int .i64 (bX (a1,a2) (x1,x2)))/\w'=wz.drewN q):=fun q=>by
  obtain⟨c0,c1,_⟩:=(HA.o.drewN q).three;obtain⟨c3,c4,_⟩:=(HB.o.drewN q).three;exact(Jl _ _ a1 a2 x1 x2 _ c0 c1 c3 c4).mono (by rintro e w' ⟨rfl,rfl⟩;exact⟨rfl,rfl⟩)
 have HW:=ah hW;clear hW
 go_enter Tryz.func150,Tryz.ntmps150
 go_wp2_with fail;rw[HW.o]
 go_quiet(first | (go_at_call 151;exact Calls.quiet_of_same (HC.o _)))
 go_wp2_with fail;go_ret
 exact⟨rfl,HL.o.trans ⟨nq,#[],by rw[grow_empty]⟩⟩
def cfI(i j:Itm):Int:=bX i.1 j.1
theorem IA(x y:Itm)(W:MZ):Calls Tryz.prog 150 #[.agg (itC x).toArray,.agg (itC y).toArray] W fun e w'=>e= .returned (.int .i64 (cfI x y))/\∃q os',w'=grow (W.drewN q) os':=Hl x y W
theorem K9(x y:Itm):ltOf cfI x y=decide (ltD x.1 y.1):=mP x.1 y.1
theorem Dn:SWO (ltOf cfI) where
 irrefl x:=swoD.irrefl x.1
 trans x y z h1 h2:=swoD.trans x.1 y.1 z.1 h1 h2
 ntrans x y z h1 h2:=swoD.ntrans x.1 y.1 z.1 h1 h2
instance :Inhabited Itm:=⟨(zD,⟨#[]⟩)⟩
theorem xM(ts:List Itm): (flatK itC 3 ts.toArray).toList=flat itC ts:=by
 apply List.ext_getElem?
 intro t;by_cases ht:t<ts.length*3
 . have hk:t / 3<ts.length:=by omega
   have hx:ts[t / 3]? =some ts[t / 3]:=Z6 hk;have h1:=gG bO ts (t / 3) (t % 3) _ hx (by omega);rw[show t / 3*3+t % 3=t by omega]at h1;have h2:t< (flatK itC 3 ts.toArray).size:=by simpa using ht
   rw[h1,Array.getElem?_toList,Array.getElem?_eq_getElem h2];have h3:=get_flatK itC 3 ts.toArray t (by simpa using ht);rw[getElem!_pos (flatK itC 3 ts.toArray) t h2]at h3;rw[h3,show ts.toArray[t / 3]! =ts[t / 3] by simp[hk]];have h4:t % 3< (itC ts[t / 3]).length:=by rw[bO];omega
   rw[getElem!_pos (itC ts[t / 3]) (t % 3) h4,Z6 h4]
 . rw[List.getElem?_eq_none (by simp;omega),List.getElem?_eq_none (by rw[gF bO];omega)]
def SrtI(ts:List Itm):Prop:=ts.Pairwise (fun a b=>¬ltD b.1 a.1)
theorem Fh(base n c:Nat)(A:OA)(ts:List Itm)(w:MZ)(h:w.ownsRow base 118 3 (.slice A n c) n (flat itC ts))(hn:n<=1000000000) :
  Calls Tryz.prog 149 #[.slice A n c,.func (.func 150) #[] #[]] w fun e w'=>e= .returned (.tuple #[])/\∃us,us.Perm ts/\SrtI us/\w'.ownsRow base 118 3 (.slice A n c) n (flat itC us)/\w.grownBy w' (Value.slice A n c).ownBlock:=by
 have hl:ts.length=n:=by have:=h.1;rw[gF bO]at this;omega
 have eg:∀args w,(callFunc 150 args).run Tryz.prog w= .ok (.enter 150 args) w:=enters_of Tryz.func150 (by kernel_rfl) rfl;have o:Hid (∀w',Calls Tryz.prog 115 #[.int .u64 (n:Int)] w' fun e w''=>e= .returned (.int .i64 (Lib.bitLen n:Nat))/\w'=w''):=fun w'=>by
  have h:=Any.bits_Len (SlLaysF0.n15.bits {Tryz.lenU with}) (n:Int) w' (by omega) (by omega);rw[Int.toNat_natCast]at h;exact h.mono fun _ _ ⟨h1,h2⟩=>⟨h1,h2.symm⟩
 have hw:IntKind.u64.wrap (n:Int)=n:=by simp[IntKind.wrap,IntKind.bits,IntKind.signed];omega
 rcases h.2 with ⟨hv,h0⟩ | ⟨g,cap,cur,hv,h1,h2,h3,h4,h5,h6⟩
 . simp only[Value.slice.injEq]at hv
   obtain⟨rfl,_,rfl⟩:=hv;subst h0;obtain rfl:ts= []:=List.eq_nil_of_length_eq_zero hl;have HO:=ah h;have HI:Hid (∀w',Calls Tryz.prog 281 #[.slice none 0 0,.int .i64 0,.int .i64 0,.func (.func 150) #[] #[]] w' fun e w''=>e= .returned (.tuple #[])/\w'=w''):=fun w'=>by
    go_enter Tryz.func281,Tryz.ntmps281
    go_wp2_with fail
    go_loopw[8] (fun i wr=>i= .int .i64 1/\w'=wr) (fun _ _=>0)
    case atStart=>exact⟨rfl,rfl⟩
    case round =>
     obtain⟨rfl,rfl⟩:=hrel;go_wp2_with fail
     go_end0
     exact⟨rfl,rfl⟩
   have HP:Hid (∀w',Calls Tryz.prog 232 #[.slice none 0 0,.int .i64 0,.int .i64 0,.int .i64 0,.func (.func 150) #[] #[]] w' fun e w''=>e= .returned (.tuple #[])/\w'=w''):=fun w'=>by
    go_enter Tryz.func232,Tryz.ntmps232
    go_wp2_with fail
    go_loopw[1,2,3,10,11] (fun a b l x y wr=>a= .int .i64 0/\b= .int .i64 0/\l= .int .i64 0/\w'=wr) (fun _ _ _ _ _ _=>0)
    case atStart=>exact⟨rfl,rfl,rfl,rfl⟩
    case round =>
     obtain⟨rfl,rfl,rfl,rfl⟩:=hrel;go_wp2_with fail;refine(HI.o _).mono ?_;rintro e w1 ⟨rfl,rfl⟩;go_wp2_with fail;exact ZY (results_none rfl _ _ _) rfl ⟨rfl,rfl⟩
   clear h eg hl hw HI
   go_enter Tryz.func149,Tryz.ntmps149
   go_wp2_with fail;refine(o.o _).mono ?_;rintro e w1 ⟨rfl,rfl⟩;go_wp2_with fail;refine(HP.o _).mono ?_;rintro e w1 ⟨rfl,rfl⟩;go_wp2_with fail
   go_end0
   exact⟨rfl,[],.refl _,List.Pairwise.nil,HO.o,rfl,rfl,rfl,Nat.le_refl _,fun _ _ _=>rfl⟩
 . simp only[Value.slice.injEq]at hv
   obtain⟨rfl,_,rfl⟩:=hv;have p:n*3<=cur.size:=by omega
   have m:=(Array.getElem?_eq_some_iff.1 h2).1;have hH:HoldsK itC 3 w g 0 ts.toArray:=by
    intro j hj;have d:j<ts.length*3:=by simpa using hj
    refine⟨?_,by simp[World.frozen?,h2]⟩;have h7: (flat itC ts)[j]? =some ((flatK itC 3 ts.toArray)[j]!):=by
     rw[<-xM,Array.getElem?_toList,Array.getElem?_eq_getElem (by simpa using d),getElem!_pos (flatK itC 3 ts.toArray) j (by simpa using d)]
    rw[<-h6,List.getElem?_take,if_pos (by omega)]at h7;show w.cell? ⟨g,0+j,none⟩=_;simp[World.cell?,h2]
    simpa using h7
   have f:Lib.bitLen n<4611686018427387904:=Nat.lt_of_le_of_lt (Lib.bitLen_le n 62 (by omega) (by omega)) (by omega);have q:ts.toArray.size=n:=by rw[List.size_toArray,hl]
   have hp:=AnyQ.pdqsortCmpFunc_all {Tryz.pdqIt with} 3 Tryz.isAgg118 Tryz.sizeOf118 itC cfI 150 #[] Dn g 0 c ts.toArray w eg (fun _ _ _ _ x y=>IA x y _) ⟨bO,fun x v hv=>by simp[itC]at hv;rcases hv with rfl | rfl | rfl <;> rfl,hH,m⟩ (n+1) 0 n (Lib.bitLen n) ts.toArray w (by omega) rfl (SWK.start hH) (ZZ _) (by omega) (by omega) f (Or.inl rfl);have HP:Hid (Calls Tryz.prog 232 #[.slice (some ⟨g,0,none⟩) n c,.int .i64 0,.int .i64 n,.int .i64 (Lib.bitLen n:Nat),.func (.func 150) #[] #[]] w fun e w'=>e= .returned (.tuple #[])/\SWK itC 3 w g 0 (pdq (ltOf cfI) ts.toArray 0 n (Lib.bitLen n) true true) w'):=by
    show Calls _ _ _ _ _;rw[q]at hp;exact hp
   have HS:=pdq_sorts (ltOf cfI) Dn ts.toArray 0 n (Lib.bitLen n) true true (ZZ _) (by omega) (Or.inl rfl);obtain⟨d',r⟩:=NX9 (pdq (ltOf cfI) ts.toArray 0 n (Lib.bitLen n) true true)
   rw[r]at HP HS;have s:=ah HS;have HF:Hid (∀w',SWK itC 3 w g 0 d' w'->∃us,us.Perm ts/\SrtI us/\w'.ownsRow base 118 3 (.slice (some ⟨g,0,none⟩) n c) n (flat itC us)/\w.grownBy w' (Value.slice (some ⟨g,0,none⟩) n c).ownBlock):=by
    rintro w' ⟨k,os,rfl⟩;obtain⟨hp,hs⟩:=s.o;have hd:d'.size=n:=by rw[hp.1];simpa using hl
    have u:d'.toList.Perm ts:=by
     have:=hp.2.2;have e1:d'.extract 0 n=d':=by rw[<-hd];simp
     have e2:ts.toArray.extract 0 n=ts.toArray:=by rw[<-hl];simp
     rw[e1,e2]at this
     simpa using this
    have z:SrtI d'.toList:=by
     unfold SrtI;rw[List.pairwise_iff_getElem];intro i j hi hj B;have C:i<d'.size:=by simpa using hi
     have d:j<d'.size:=by simpa using hj
     have:=hs i j (ZZ _) B (by omega);rw[K9,decide_eq_false_iff_not,getElem!_pos d' j d,getElem!_pos d' i C]at this
     simpa using this
    have D: (flatK itC 3 d').size=n*3:=by rw[size_flatK,hd]
    refine⟨d'.toList,u,z,⟨by rw[gF bO,Array.length_toList,hd],.inr ⟨g,c,putCells id 0 (flatK itC 3 d') cur,rfl,h1,?_,h3,h4,by simp[putCells];omega,?_⟩⟩,rfl,rfl,rfl,by simp[sortWorldK,putRowK,grow,putRow,mapBlock,Sort.ahead],fun b hb hr=>?_⟩
    . simp only[sortWorldK,putRowK,grow,putRow,mapBlock,Sort.ahead]
      rw[Array.getElem?_append_left (by simpa using m),Array.getElem?_modify,if_pos rfl,h2];rfl
    . rw[wM 0 (n*3) _ cur D rfl p,<-xM]
    . simp only[sortWorldK,putRowK,grow,putRow,mapBlock,Sort.ahead]
      rw[Array.getElem?_append_left (by simpa using hb),Array.getElem?_modify,if_neg (fun e=>hr (by rw[e];rfl))]
   clear h h1 h2 h3 h4 h5 h6 p m hH f q hp HS r s eg hl
   go_enter Tryz.func149,Tryz.ntmps149
   go_wp2_with fail;refine(o.o _).mono ?_;rintro e w1 ⟨rfl,rfl⟩;go_wp2_with fail;refine HP.o.mono ?_;rintro e w1 ⟨rfl,t⟩;have HX:=ah (HF.o w1 t);clear t HF HP;go_wp2_with fail
   go_end0
   exact⟨rfl,HX.o⟩
end
section
open Go.Maps
def pV(p:List Itm):Dig->Option M4:=fun d=>(bE p d).map Value.string
theorem SrtI.asc{us:List Itm}(h:SrtI us)(hn: (us.map (·.1)).Nodup):AscI us:=by
 unfold AscI;rw[List.Nodup,List.pairwise_map]at hn;exact List.Pairwise.imp₂ (fun a b h1 h2=>Classical.byContradiction fun h3=>h2 (kG h3 h1)) h hn
def CZ(p:List Itm)(w:MZ)(e:Ending)(w':MZ):Prop:=∃A c,e= .returned (.slice A p.length c)/\Sl w' w'.heap.size 3 A p.length (flat itC p)/\p.length<=c/\c<=maxLen/\Below w.heap.size w w'
theorem FC(p:List Itm)(mb N:Nat)(w:MZ)(hM:Gm w Tryz.prog 50 iI fK mb N (pV p))(ha:AscI p)(hw:∀i∈p,WfD i.1)(hN:N<=1000000) :
  Calls Tryz.prog 83 #[.map (some mb)] w (CZ p w):=by
 have HM:=ah hM;have HA:=ah ha;have ad:=ah hw;have bk:=hM.lt;obtain⟨i0,hi,t,u,x⟩:=info_parts jS;have Hi:=ah hi;have ag:=ah t;have al:=ah u;have am:=ah x;clear hM ha hw hi t u x
 go_enter Tryz.func83,Tryz.ntmps83
 go_wp2_with (at_range;refine aN ?_)
 refine aF ?_;refine Dy rfl _ 149 rfl 50 9 jV Tryz.underlying149 mb N (pV p) rfl HM.o ?_;intro w1 y B J bm;have bn:=Lh B;have K:=ah B;have L:Hid (Below w.heap.size w w1):=(af w.heap.size w).grown J ai (fun g e=>by cases e);clear B J HM
 go_wp2
 go_frame
 go_loopg [3] y (fun gk v3 wr=>∃(out:List Itm)(f:Dig->Bool)(n c:Nat)(A:OA),v3= .slice A n c/\Hid (GmR wr Tryz.prog 50 iI fK mb w.heap.size N (pV p) f gk)/\Hid (out.length=n)/\n<=c/\c<=maxLen/\Hid (wr.ownsRow (w.heap.size+1) 118 3 (.slice A n c) n (flat itC out))/\Hid (∀i,i∈out↔i∈p/\f i.1=false)/\Hid ((out.map (·.1)).Nodup)/\n+gk<=y/\Hid (Below w.heap.size w wr)/\w.heap.size<wr.heap.size)
 case atStart =>
  exact⟨[],_,0,0,none,rfl,K.o,rfl,Nat.le_refl _,ZZ _,World.ownsRow_nil _ _ _ _,(fun i=>⟨(fun h=>by cases h),fun h=>by
   have h1:bE p i.1=some i.2:=(iB HA.o).2 h.1;have h2:=h.2;simp[pV,h1]at h2⟩),List.nodup_nil,by omega,L.o,by omega⟩
 case round =>
  obtain⟨out,f,n,c,A,rfl,hR,hL,an,ao,hO,hX,hN,bj,hB,hz⟩:=hrel;have HR:=ah hR.o;have HL:=ah hL.o;have HO:=ah hO.o;have HX:=ah hX.o;have C:=ah hN.o;have HB:=ah hB.o;clear hR hL hO hX hN hB K L
  go_wp2_with (at_next;refine aN ?_)
  refine aF ?_;refine DI rfl _ rfl 50 jV mb w.heap.size N (pV p) f gk rfl HR.o ?_ ?_
  . intro l
    have HF:Hid (∀i,i∈out↔i∈p):=fun i=>by
     rw[HX.o];exact⟨fun h=>h.1,fun h=>⟨h,l i.1 (jo (ad.o i h))⟩⟩
    have HS:=ah (Fh (w.heap.size+1) n c A out wr HO.o (by omega));clear l;go_wp2_with fail;refine HS.o.mono ?_;rintro e w4 ⟨rfl,us,q,M,O,P⟩;have ap:us=p:=AscI.ext (M.asc ((q.map _).nodup_iff.2 C.o)) HA.o (fun i=>by rw[q.mem_iff,HF.o]);subst ap;have Q:us.length=n:=by rw[q.length_eq,HL.o]
    have D:Hid (Below w.heap.size w w4):=HB.o.grown P HB.o.size (fun g e=>by have:=(bU HO.o e).1;omega);have aq:=ah O;have E:=ah Q;clear q M O P HS Q;go_wp2_with fail;go_ret
    exact⟨A,c,by rw[E.o];rfl,by rw[E.o];exact Sl.of_own aq.o,by rw[E.o];exact an,ao,D.o⟩
  . intro d v w2 m ar R F S au G av T
    obtain⟨b,hb,rfl⟩:∃b,bE p d=some b/\v= .string b:=by
     unfold pV at F;obtain⟨b,h1,h2⟩:=Option.map_eq_some_iff.1 F;exact⟨b,h1,h2.symm⟩
    have U:Hid (GmR w2 Tryz.prog 50 iI fK mb w.heap.size N (pV p) (fun z=>f z && !decide (z=d)) m):=S;have V:Hid ((d,b)∈p):=(iB HA.o).1 hb;have aw:Hid (∀i,i∈out++ [(d,b)]↔i∈p/\ (f i.1 && !decide (i.1=d))=false):=fun i=>by
     rw[List.mem_append,aa,HX.o,Bool.and_eq_false_iff];constructor
     . rintro (⟨h1,h2⟩ | rfl)
       . exact⟨h1,.inl h2⟩
       . exact⟨V.o,.inr (by simp)⟩
     . rintro ⟨h1,h2 | h2⟩
       . exact .inl ⟨h1,h2⟩
       . have:i.1=d:=by simpa using h2
         exact .inr (HA.o.uniq h1 V.o this)
    have W:Hid (((out++ [(d,b)]).map (·.1)).Nodup):=by
     show List.Nodup _;rw[List.map_append];refine List.nodup_append.2 ⟨C.o,by simp,fun a ha c hc e=>?_⟩;obtain⟨i,hi,rfl⟩:=List.mem_map.1 ha;have aD:c=d:=by simpa using hc
     have:=((HX.o i).1 hi).2;rw[e,aD,R]at this;cases this
    have H:Hid (Below w.heap.size w w2):=HB.o.grown G HB.o.size (fun g e=>by cases e;exact Nat.le_refl _);have X:Hid (w2.ownsRow (w.heap.size+1) 118 3 (.slice A n c) n (flat itC out)):=gX HO.o (fun k hk=>G.block k (by obtain⟨h1,bo,h2⟩:=bU HO.o hk;exact(Array.getElem?_eq_some_iff.1 h2).1) (fun e=>by have:=(bU HO.o hk).1;cases e;omega));obtain⟨d1,d2⟩:=d;simp only[dgV]at T;have Y:w.heap.size<w2.heap.size:=by omega
    clear S R F ar G av hb HR HO HB HX C;obtain⟨W3,r⟩:=NX9 ((w2.alloc (.cells #[.int .u64 d1,.int .u64 d2] 50)).alloc (.cells #[.int .u64 d1,.int .u64 d2,.string b] 118))
    have o:Below w2.heap.size w2 W3:=by rw[<-r];exact((af _ w2).alloc ai _).alloc (by simp) _
    have aE:Hid (Bk W3 (w2.heap.size+1) 118 #[.int .u64 d1,.int .u64 d2,.string b]):=by
     have e:=Bk.new (w2.alloc (.cells #[.int .u64 d1,.int .u64 d2] 50)) 118 #[.int .u64 d1,.int .u64 d2,.string b]
     rwa[Z9,r]at e
    have ba:=ah (U.o.below o (by omega) Y);have Z:=ah (fM X.o o);have ab:Hid (Below w.heap.size w W3):=H.o.trans (o.mono H.o.size);have z3:=o.size;have bb:=ah r;clear r o U X H
    go_wp2_with (at_builtin;refine pW (.tmp 13) (.tmp 17) 29 rfl ?_)
    rw[bb.o];refine aF ?_;refine iM (base:=w.heap.size+1) (size:=3) _ rfl (.tmp 13) (.tmp 17) 29 rfl 118 i0 _ 32 Tryz.underlying29 Hi.o ag.o al.o am.o rfl (by decide) (.slice A n c) n _ rfl Z.o _ _ 1 1 (flat itC [((d1,d2),b)]) rfl (Sl.of_bk (n:=1) (size:=3) aE.o rfl) (gZ _) (by unfold maxLen;omega) (by omega) (by omega) ?_;intro A4 c4 w4 I s bd bf;rw[<-bu]at I;have bg:=ah I;have j:∀k,(Value.slice A n c).ownBlock=some k->w.heap.size+1<=k:=fun k hk=>(bU Z.o hk).1;have bh:Hid (GmR w4 Tryz.prog 50 iI fK mb w.heap.size N (pV p) (fun z=>f z && !decide (z= (d1,d2))) m):=ba.o.kept s (fun e=>by have:=j _ e.symm;omega) (fun e=>by have:=j _ e.symm;omega);have D:Hid (Below w.heap.size w w4):=ab.o.grown s ab.o.size (fun g e=>by have:=j _ e;omega);have bi:Hid ((out++ [((d1,d2),b)]).length=n+1):=by show _=_;rw[ae,HL.o];rfl
    have z4:=s.size;clear I s j T;go_wp2_with fail
    go_roundg m
    case rel=>exact⟨_,_,n+1,c4,A4,rfl,bh.o,bi.o,bd,bf,bg.o,aw.o,W.o,by omega,D.o,by omega⟩
    case measure=>exact au
end
section
open Go.Maps
theorem Gw(o:Ob)(s:Osl)(B:Nat)(w:MZ)(hm:ObM w B o s)(hB:B<=w.heap.size)(ho:OkO o) :
  Calls Tryz.prog 82 #[obV o s] w fun e w'=>e= .returned (.tuple #[aB (dgO o),.int .i64 0])/\Below w.heap.size w w':=by
 obtain⟨W,hW⟩:=NX9 ((w.alloc (.cells (obC o s) 109)).alloc (.cells #[.int .u64 0,.int .u64 0] 50))
 have b:Hid (Below w.heap.size w W):=by rw[<-hW];exact((af _ w).alloc ai _).alloc (by simp) _
 have HK:Hid (Bk W w.heap.size 109 (obC o s)):=by rw[<-hW];exact(Bk.new w _ _).alloc _
 have HD:Hid (Bk W (w.heap.size+1) 50 #[.int .u64 0,.int .u64 0]):=by
  rw[<-hW];have:=Bk.new (w.alloc (.cells (obC o s) 109)) 50 #[.int .u64 0,.int .u64 0];rw[Z9]at this;exact this
 have zW:w.heap.size+2=W.heap.size:=by rw[<-hW];simp
 have HE:=ah (rD o s B W (hm.below b.o hB) (by omega) ho);have c: (ofL (aG o)).size<=maxLen:=by rw[bG];have:=ho.len;unfold maxLen;omega
 have a:=ah (fun w=>qh (ofL (aG o)) w c);have f:Hid (ofB (toL (ofL (aG o)))=dgO o):=by show _=_;rw[bP];rfl
 unfold lC at a;rw[f.o]at a;unfold qB at HE;simp only[obV,obC]at HE hW HK ⊢;obtain⟨sb,g⟩:=NX9 (ofL (aG o))
 rw[g]at HE a;obtain⟨⟨d1,d2⟩,h⟩:∃d,dgO o=d:=⟨_,rfl⟩
 rw[h]at a ⊢;simp only[aB]at a ⊢;obtain⟨c0,c1,c2,c3,c4,c5,c6,c7,c8⟩:=HK.o.nine;have HW:=ah hW;clear hm ho g h f c hW
 go_enter Tryz.func82,Tryz.ntmps82
 go_wp2_with fail;rw[HW.o];refine HE.o.mono ?_;rintro e w2 ⟨rfl,hb⟩;have i:Hid (Below w.heap.size w w2):=b.o.trans (hb.mono b.o.size);have k:=ah (HD.o.below hb (by omega));have z2:w.heap.size+2<=w2.heap.size:=by have:=hb.size;omega
 clear hb HE c0 c1 c2 c3 c4 c5 c6 c7 c8;go_wp2_with fail;refine(a.o _).mono ?_;rintro e w3 ⟨rfl,hb⟩;have l:Hid (Below w.heap.size w w3):=i.o.trans (hb.mono i.o.size);have j:=ah (k.o.below hb (by omega));obtain⟨_,_,f0,f1⟩:=j.o.two;clear hb
 go_wp2
 exact ZY (lY Tryz.results82 rfl (j.o.set2 _ _) rfl) rfl ⟨rfl,dR l.o (by omega) _ _⟩
def kV(p:List Itm)(L:List M5):Dig->Option M4:=fun d=>if d∈L.map ofB then pV p d else none
theorem Kz{p:List Itm}(L:List M5){b:M5}(h:bE p (ofB b)=some (ofL b)):kV p (L++ [b])=iL (kV p L) (ofB b) (.string (ofL b)):=by
 funext d
 unfold kV iL;by_cases e:d=ofB b
 . subst e
   rw[if_pos (by simp),if_pos rfl];unfold pV;rw[h];rfl
 . rw[if_neg e]
   have:d∈ (L++ [b]).map ofB↔d∈L.map ofB:=by simp[e]
   show(if d∈ (L++ [b]).map ofB then pV p d else none)=if d∈L.map ofB then pV p d else none;by_cases hm:d∈L.map ofB
   . rw[if_pos hm,if_pos (this.2 hm)]
   . rw[if_neg hm,if_neg (fun h=>hm (this.1 h))]
theorem Lf{p:List Itm}(hp:PlOk p){L:List M5}(h:∀i∈p,toL i.2∈L):kV p L=pV p:=by
 funext d
 unfold kV;split
 . rfl
 . rename_i hn
   unfold pV;cases hf:bE p d with
   | none=>rfl
   | some b =>
     have hm:=(iB hp.asc).1 hf;exact absurd (List.mem_map.2 ⟨_,h _ hm,(hp.dg _ hm).symm⟩) hn
theorem FB(p:List Itm)(L:List M5)(A:OA)(n c B:Nat)(w:MZ)(h0:Sl w B 1 A n (flat aA L))(hB:B<=w.heap.size)(hn:n<=1000000)(hp:PlOk p)(hm:∀b∈L,∃i∈p,b=toL i.2)(hall:∀i∈p,toL i.2∈L) :
  Calls Tryz.prog 38 #[.slice A n c] w fun e w'=>∃A' c',e= .returned (.tuple #[.slice A' p.length c',.bool true])/\Sl w' w'.heap.size 3 A' p.length (flat itC p)/\p.length<=c'/\c'<=maxLen/\Below w.heap.size w w':=by
 have h:=ah hp;have HM:=ah hm;have X:=ah (Lf hp hall);have HS:=ah h0;have Y:=ah (h0.len dI (by omega));have N:=ah (Gm.made w Tryz.prog 50 iI fK);have O:=Tryz.zeroValue9;have au:=@run_makeMap Tryz.prog;clear h0 hp hm hall
 go_enter Tryz.func38,Tryz.ntmps38
 go_wp2_with fail
 go_loopw[15] (fun i wr=>∃k:Nat,k<=n/\i= .int .i64 k/\Hid (Gm wr Tryz.prog 50 iI fK w.heap.size k (kV p (L.take k)))/\Hid (Below w.heap.size w wr)) (fun i _=>n - (intOf i).toNat)
 case atStart=>exact⟨0,ZZ _,rfl,by have:=N.o;exact this,(af _ w).alloc ai _⟩
 case round =>
  obtain⟨k,hk,rfl,hG,v⟩:=hrel;have HG:=ah hG.o;have y:=ah v.o;have zr:w.heap.size<wr.heap.size:=HG.o.lt;clear hG v N;by_cases hlt:k<n
  . obtain⟨bb,av,x,rfl,aw,hx,hc⟩:=(HS.o.below y.o hB).at_ dI (by omega) hlt
    have x0:=hc 0 _ rfl;have Z: (k:Int)< (n:Int):=by omega
    obtain⟨i,hi,z⟩:=HM.o x (Z7 hx);obtain⟨o,ho,C⟩:=h.o.enc i hi;have m:x=aG o:=by rw[z,C,bP]
    have P:i.1=dgO o:=by have:=h.o.dg i hi;rw[this,C,bP];rfl
    have q:bE p (ofB x)=some (ofL x):=(iB h.o.asc).2 (by
     have e1: (ofB x,ofL x)=i:=by
      refine Prod.ext ?_ ?_
      . rw[m];exact P.symm
      . rw[z,iF]
     rw[e1];exact hi)
    have a:=ah (Kz (L.take k) q);rw[<-aS hx]at a;have D:Hid (fK (dgO o)):=jo (eQ _);have E:Hid (kV p (L.take k) (dgO o)=none∨kV p (L.take k) (dgO o)=some (.string (ofL (aG o)))):=by
     show _∨_;unfold kV;split
     . right;unfold pV;rw[m]at q;rw[show dgO o=ofB (aG o) from rfl,q];rfl
     . exact .inl rfl
    rw[m]at a x0;simp only[Nat.mul_one,Nat.add_zero]at x0;have r:=ah (oq o wr ho);unfold OdE at r;have HO:=ah ho;have aD: (ofL (aG o)).size<=maxLen:=by rw[bG];have:=ho.len;unfold maxLen;omega
    obtain⟨sx,Q⟩:=NX9 (ofL (aG o))
    rw[show ofB (aG o)=dgO o from rfl]at a;obtain⟨⟨d1,d2⟩,F⟩:∃d,dgO o=d:=⟨_,rfl⟩
    have ab:=ah F;rw[Q]at a x0 r E;rw[F]at a D E;clear hi z C m P q hx hc ho Q F;go_wp2_with fail;refine r.o.mono ?_;rintro e w1 ⟨s,rfl,R,G,_,_⟩;simp only[obV,obC];obtain⟨W1,f⟩:=NX9 (w1.alloc (.cells (obC o s) 109))
    have t:Below w1.heap.size w1 W1:=by rw[<-f];exact(af _ w1).alloc ai _
    have H:Hid (Bk W1 w1.heap.size 109 (obC o s)):=by rw[<-f];exact Bk.new w1 _ _
    have S:Hid (Below wr.heap.size wr W1):=G.trans (t.mono G.size);have u:=ah (Gw o s w1.heap.size W1 (R.below t ai) t.size HO.o);rw[ab.o]at u;simp only[obV,obC,aB]at u f H;obtain⟨c0,c1,c2,c3,c4,c5,c6,c7,c8⟩:=H.o.nine;rw[<-f]at c0 c1 c2 c3 c4 c5 c6 c7 c8;have ad:=ah f;clear R G t f r;go_wp2_with fail;rw[ad.o];refine u.o.mono ?_;rintro e w3 ⟨rfl,T⟩;have I:Hid (Below wr.heap.size wr w3):=S.o.trans (T.mono S.o.size);have ag:=ah (HG.o.below I.o zr);have z3:=I.o.size;clear c0 c1 c2 c3 c4 c5 c6 c7 c8 T u H;obtain⟨W4,j⟩:=NX9 (w3.alloc (.cells #[.int .u64 d1,.int .u64 d2] 50))
    have J:Below w3.heap.size w3 W4:=by rw[<-j];exact(af _ w3).alloc ai _
    have al:Hid (Bk W4 w3.heap.size 50 #[.int .u64 d1,.int .u64 d2]):=by rw[<-j];exact Bk.new w3 _ _
    have U:=ah (ag.o.below J (by omega));have V:Hid (Below wr.heap.size wr W4):=I.o.trans (J.mono z3);have l:=U.o.look_ok jV Tryz.underlying149 (O _) D.o;obtain⟨r0,r1,_,_⟩:=al.o.two;rw[<-j]at l r0 r1;simp only[dgV]at l;have am:=ah j;clear J j O;rcases E.o with hl | hl
    all_goals
     rw[hl]at l;simp only[Option.getD_none,Option.getD_some,Option.isSome_none,Option.isSome_some]at l;clear hl
     go_wp2_with (at_mapUpdate;refine aN ?_)
     rw[am.o];refine aF ?_;refine wS rfl _ _ _ 149 rfl 50 9 jV Tryz.underlying149 w.heap.size k _ rfl U.o (by unfold maxLen;omega) (d1,d2) D.o (.string sx) rfl rfl ?_;intro w5 K W;rw[<-a.o]at K;have an:=ah K;have ao:Hid (Below w.heap.size w w5):=(y.o.trans (V.o.mono (by omega))).grown W (by have:=V.o.size;omega) (fun g e=>by cases e;exact Nat.le_refl _);clear K W r0 r1 l;go_wp2_with fail;go_roundw
     case rel=>exact⟨k+1,hlt,by go_num,an.o,ao.o⟩
     case measure=>simp[intOf];omega
  . have Z:¬(k:Int)< (n:Int):=by omega
    have ap:Hid (Gm wr Tryz.prog 50 iI fK w.heap.size k (pV p)):=by
     have:=HG.o;rw[ZW (by have:=Y.o;omega),X.o]at this;exact this
    have M:=ah (FC p w.heap.size k wr ap.o h.o.asc (fun i hi=>by rw[h.o.dg i hi];exact eQ _) (by omega));unfold CZ at M;go_wp2_with fail;refine M.o.mono ?_;rintro e w2 ⟨A',c',rfl,hs,h1,h2,hb⟩;have aq:=ah hs;have ar:Hid (Below w.heap.size w w2):=y.o.trans (hb.mono (by omega));clear hs hb M
    go_wp2
    go_ret2
    exact⟨A',c',rfl,aq.o,h1,h2,ar.o⟩
end
