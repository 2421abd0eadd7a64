/-
  Lemmas of the card.
-/
import Derived.Test.YtknefelegjlgnaaGreatDoorACAt16
set_option maxRecDepth 100000
set_option maxHeartbeats 8000000
namespace Go.Proofs.YtknefelegjlgnaaGreatDoor
open Go.RowKit
theorem mI(s:M3)(k:Nat):toL (s.extract k s.size)= (toL s).drop k:=by
 show(s.extract k s.size).data.toList=_;rw[jX,ZW];rfl;rw[List.length_drop];show(toL s).length - k<=_;rw[<-aP];omega
def Mm(r:Nat×Nat×Int)(k:Nat)(w:MZ)(e:Ending)(w':MZ):Prop:=e= .returned (.tuple #[.int .i64 r.1,.int .i64 (k+r.2.1:Nat),.int .i64 r.2.2])/\w=w'
theorem FY(s:M3)(k:Nat)(hk:k<=s.size)(hs:s.size<=maxLen)(w:MZ):Calls Tryz.prog 314 #[.string s,.int .i64 k,.func (.func 141) #[] #[]] w (Mm (ay ((toL s).drop k)) k w):=by
 have HX:Hid (toL (s.extract k s.size)= (toL s).drop k):=mI s k;have h0: (k:Int)<= (s.size:Int):=by omega
 unfold maxLen at hs
 go_enter Tryz.func314,Tryz.ntmps314
 go_wp2_with fail;refine(jD (s.extract k s.size) _).mono ?_;rw[HX.o];have a:=kN ((toL s).drop k);rw[List.length_drop,<-aP]at a;generalize ay ((toL s).drop k)=r at *;obtain⟨n,m,e⟩:=r;rintro e' w' ⟨rfl,rfl⟩;simp only at a ⊢
 go_wp2
 go_ret3
 exact⟨by simp,rfl⟩
theorem EG(s:M3)(hs:s.size<=maxLen)(w:MZ):Calls Tryz.prog 314 #[.string s,.int .i64 0,.func (.func 141) #[] #[]] w (qW (ay (toL s)) w):=by
 have h:=FY s 0 (ZZ _) hs w;refine h.mono ?_;rintro e w' ⟨he,hw⟩;rw[Nat.zero_add]at he;exact⟨he,hw⟩
def Me(r:M5×Nat×Int)(k:Nat)(w:MZ)(e:Ending)(w':MZ):Prop:=e= .returned (.tuple #[.string (ofL r.1),.int .i64 (k+r.2.1:Nat),.int .i64 r.2.2])/\w=w'
theorem Ee(s:M3)(k:Nat)(hk:k<=s.size)(hs:s.size<=maxLen)(w:MZ):Calls Tryz.prog 315 #[.string s,.int .i64 k,.func (.func 226) #[] #[]] w (Me (aK ((toL s).drop k)) k w):=by
 have HX:Hid (toL (s.extract k s.size)= (toL s).drop k):=mI s k;have h0: (k:Int)<= (s.size:Int):=by omega
 have hz: (s.extract k s.size).size<=maxLen:=by rw[ByteArray.size_extract];omega
 unfold maxLen at hs;have HZ:=ah hz;clear hz
 go_enter Tryz.func315,Tryz.ntmps315
 go_wp2_with fail;refine(nY (s.extract k s.size) HZ.o _).mono ?_;rw[HX.o];have b:=pU ((toL s).drop k);rw[List.length_drop,<-aP]at b;generalize aK ((toL s).drop k)=r at *;obtain⟨t,m,e⟩:=r;obtain⟨ts,a⟩:=NX9 (ofL t)
 rintro e' w' ⟨rfl,rfl⟩;simp only at b ⊢;rw[a];have c:=ah a;clear a
 go_wp2
 go_ret3
 exact⟨by rw[c.o];simp,rfl⟩
def vN(b:M5)(w:MZ)(e:Ending)(w':MZ):Prop:=Below w.heap.size w w'/\match fo b with
 | none=>∃er:Int,er≠0/\e= .returned (.tuple #[.slice none 0 0,.int .i64 0,.int .i64 er])
 | some p=>∃A cc,e= .returned (.tuple #[.slice A p.1.length cc,.int .i64 p.2,.int .i64 0])/\w'.ownsRow w.heap.size 9 1 (.slice A p.1.length cc) p.1.length (flat aA p.1)/\p.1.length<=cc/\cc<=maxLen
theorem Be{n at_:Nat}{b:M5}:fu (n+1) at_ b=if(aK b).2.2≠0 then none else match fu n (at_+ (aK b).2.1) (b.drop (aK b).2.1) with
  | none=>none
  | some (l,c)=>some ((aK b).1::l,c):=rfl
def pre(d:List M5):Option (List M5×Nat)->Option (List M5×Nat)
 | none=>none
 | some (l,c)=>some (d++l,c)
theorem JV(o:Option (List M5×Nat)):pre [] o=o:=by cases o with | none=>rfl | some p=>rfl
theorem Jj(d:List M5)(n at_:Nat)(b:M5)(h: (aK b).2.2=0):pre d (fu (n+1) at_ b)=pre (d++ [(aK b).1]) (fu n (at_+ (aK b).2.1) (b.drop (aK b).2.1)):=by
 rw[Be,if_neg (by simp[h])];cases fu n (at_+ (aK b).2.1) (b.drop (aK b).2.1) with
 | none=>rfl
 | some p=>obtain⟨l,c⟩:=p;simp[pre]
theorem Jt(d:List M5)(n at_:Nat)(b:M5)(h: (aK b).2.2≠0):pre d (fu (n+1) at_ b)=none:=by rw[Be,if_pos h];rfl
theorem Ed(s:M3)(hs:s.size<=maxLen)(w:MZ):Calls Tryz.prog 280 #[.string s] w (vN (toL s) w):=by
 have HR:Hid (∀r,fo (toL s)=r->∀e w',(Below w.heap.size w w'/\match r with
  | none=>∃er:Int,er≠0/\e= .returned (.tuple #[.slice none 0 0,.int .i64 0,.int .i64 er])
  | some p=>∃A cc,e= .returned (.tuple #[.slice A p.1.length cc,.int .i64 p.2,.int .i64 0])/\w'.ownsRow w.heap.size 9 1 (.slice A p.1.length cc) p.1.length (flat aA p.1)/\p.1.length<=cc/\cc<=maxLen)->vN (toL s) w e w'):=fun r h e w' hh=>by rw[vN,h];exact hh
 have HD:Hid (fo (toL s)=if(ay (toL s)).2.2≠0∨1000< (ay (toL s)).1 then none else fu (ay (toL s)).1 (ay (toL s)).2.1 ((toL s).drop (ay (toL s)).2.1)):=rfl;have l:=kN (toL s);rw[<-aP]at l;have HI:=ah (EG s hs);have HS:=ah hs;obtain⟨i0,hi,z,B,C⟩:=info_parts iT;have Hi:=ah hi;have I:=ah z;have J:=ah B;have K:=ah C;clear hi z B C;unfold maxLen at hs
 go_enter Tryz.func280,Tryz.ntmps280
 go_wp2_with fail;refine(HI.o _).mono ?_;generalize ay (toL s)=r at *;obtain⟨n,k0,e⟩:=r;rintro e' w' ⟨rfl,rfl⟩;simp only at l HD ⊢;clear HI;by_cases he:e=0
 . subst he
   by_cases hn:1000<n
   . have L: (1000:Int)< (n:Int):=by omega
     have c:Hid (fo (toL s)=none):=by show _=_;rw[HD.o,if_pos (.inr hn)]
     clear HD
     go_wp2
     go_ret3
     exact HR.o _ c.o _ _ ⟨af _ _,13,by omega,rfl⟩
   . have L:¬(1000:Int)< (n:Int):=by omega
     have M:Hid (fo (toL s)=fu n k0 ((toL s).drop k0)):=by show _=_;rw[HD.o,if_neg (by simp;omega)]
     clear HD
     go_wp2
     go_loopw[8,6,22] (fun v a i wr=>∃(k b:Nat)(d:List M5)(A':OA)(c':Nat),k<=n/\i= .int .i64 k/\a= .int .i64 b/\b<=s.size/\v= .slice A' k c'/\d.length=k/\Hid (wr.ownsRow w.heap.size 9 1 (.slice A' k c') k (flat aA d))/\k<=c'/\c'<=maxLen/\Hid (fo (toL s)=pre d (fu (n - k) b ((toL s).drop b)))/\Hid (Below w.heap.size w wr)) (fun _ _ i _=>n - (intOf i).toNat)
     case atStart=>exact⟨0,k0,[],none,0,ZZ _,rfl,rfl,l,rfl,rfl,World.ownsRow_nil _ _ _ _,Nat.le_refl _,ZZ _,by show _=_;rw[JV];exact M.o,af _ _⟩
     case round =>
      obtain⟨k,b,d,A',c',hk,rfl,rfl,N,rfl,o,hO,O,D,hG,f⟩:=hrel;by_cases hlt:k<n
      . obtain⟨m,hm⟩:∃m,n - k=m+1:=⟨n - k - 1,by omega⟩
        have E:n - (k+1)=m:=by omega
        have HN:=ah (Ee s b N HS.o);have j:=pU ((toL s).drop b);rw[List.length_drop,<-aP]at j;rw[hm]at hG;have Y: (k:Int)< (n:Int):=by omega
        have P:=ah E;clear hm E;go_wp2_with fail;refine(HN.o _).mono ?_;have HF:=ah (Jt d m b ((toL s).drop b));have HK:=ah (Jj d m b ((toL s).drop b));rw[List.drop_drop]at HK;generalize aK ((toL s).drop b)=g at *;obtain⟨t,q,e⟩:=g;simp only at j HF HK;rintro e' w' ⟨rfl,rfl⟩;simp only;clear HN;by_cases he:e=0
        . subst he
          have Q:Hid (fo (toL s)=pre (d++ [t]) (fu m (b+q) ((toL s).drop (b+q)))):=hG.o.trans (HK.o rfl);obtain⟨v,hv⟩:=NX9 (ofL t)
          have HV:Hid (flat aA (d++ [t])=flat aA d++ [.string v]):=by show _=_;rw[bu];rw[<-hv];rfl
          have F:∀u∈ [(Value.string v)],u.oneCell'=true:=fun u hu=>by rw[List.mem_singleton.1 hu];rfl
          have x:Hid ((wr.alloc (.cells #[.string v] 9)).ownsRow w.heap.size 9 1 (.slice A' k c') k (flat aA d)):=hO.o.alloc _;have z2:=f.o.size;rw[hv];clear HK HF hv hG
          go_wp2_with (at_builtin;refine aN ?_)
          refine aF ?_;refine iM (base:=w.heap.size) (size:=1) _ rfl (.tmp 34) (.tmp 36) 22 rfl 9 i0 _ 16 Tryz.underlying22 Hi.o I.o J.o K.o rfl (by decide) (.slice A' k c') k (flat aA d) (by rfl) x.o (wr.heap.size+1) (some ⟨wr.heap.size,0,none⟩) 1 1 [.string v] (by rfl) (Sl.new wr 9 [.string v] 1 rfl) F (by unfold maxLen;omega) (by omega) (by simp;omega) ?_;intro A4 c4 w4 y G R H;rw[<-HV.o]at y;have S:=ah y;have T:Hid (Below w.heap.size w w4):=(f.o.alloc (by omega) _).grown G (by simp;omega) (fun g hg=>iy x.o g hg);have U:=ah H;clear y G H x F;go_wp2_with fail;go_roundw
          case rel=>exact⟨k+1,b+q,d++ [t],A4,c4,by omega,by go_num,by go_num,by omega,rfl,by simp[o],S.o,R,U.o,by show _=_;rw[P.o];exact Q.o,T.o⟩
          case measure=>simp[intOf];omega
        . have V: (e != 0)=true:=by rw[bne_iff_ne];exact he
          have c:Hid (fo (toL s)=none):=by show _=_;rw[hG.o,HF.o he]
          have HE:=ah he;clear HK HF hG he
          go_wp2
          go_ret3
          exact HR.o _ c.o _ _ ⟨f.o,e,HE.o,rfl⟩
      . obtain rfl:k=n:=by omega
        have c:Hid (fo (toL s)=some (d,b)):=by show _=_;rw[hG.o,Nat.sub_self,fu,pre,List.append_nil]
        have W:=ah o;have X:=ah D;clear hG o D
        go_wp2
        go_ret3
        have e1: ((d,b).1:List M5).length=k:=W.o;exact HR.o _ c.o _ _ ⟨f.o,A',c',by rw[e1];first | done | rfl,by rw[e1];exact hO.o,by rw[e1];exact O,X.o⟩
 . have V: (e != 0)=true:=by rw[bne_iff_ne];exact he
   have c:Hid (fo (toL s)=none):=by show _=_;rw[HD.o,if_pos (.inl he)]
   have HE:=ah he;clear HD he
   go_wp2
   go_ret3
   exact HR.o _ c.o _ _ ⟨af _ _,e,HE.o,rfl⟩
theorem DK(c sz:Nat)(h0:0<sz)(hc:c<=1000000000)(hs:sz<=512)(w:MZ):Calls Tryz.prog 223 #[.int .i64 c,.int .i64 sz] w fun e w'=>e= .returned (.int .i64 (nsec c sz:Nat))/\w=w':=by
 have hq: ((c:Int)+ (sz:Int) - 1) / (sz:Int)= (nsec c sz:Nat):=by
  unfold nsec;rw[Int.natCast_ediv,show((c+sz - 1:Nat):Int)= (c:Int)+ (sz:Int) - 1 by omega]
 have a:nsec c sz<=c+sz - 1:=Nat.div_le_self _ _;have hz:¬((sz:Int)=0):=by omega
 have HQ:=ah hq;clear hq a;generalize nsec c sz=q at *
 go_enter Tryz.func223,Tryz.ntmps223
 go_wp2
 go_ret
 exact⟨by rw[<-HQ.o];rfl,rfl⟩
def nC(b:M5)(w:MZ)(e:Ending)(w':MZ):Prop:=Below w.heap.size w w'/\match dE b with
 | none=>∃A n c m,e= .returned (.tuple #[.slice A n c,m,.bool false])
 | some p=>∃A cc,e= .returned (.tuple #[.slice A p.1.length cc,.int .i64 p.2,.bool true])/\w'.ownsRow w.heap.size 9 1 (.slice A p.1.length cc) p.1.length (flat aA p.1)/\p.1.length<=cc/\cc<=maxLen
theorem Ht(x:UInt8)(s:M5):dE (x::s)=if x≠1∨ (ay s).2.2≠0∨s.length< (ay s).2.1+ (ay s).1 then none else
  match fo ((s.drop (ay s).2.1).take (ay s).1) with
  | none=>none
  | some (l,c)=>if c= (ay s).1 then some (l,1+ (ay s).2.1+ (ay s).1) else none:=rfl
theorem Dx(s:M3)(h0:0<s.size)(hs:s.size<=maxLen)(w:MZ):Calls Tryz.prog 222 #[.string s] w (nC (toL s) w):=by
 have d:toL s=s[0]:: (toL s).drop 1:=by have:=sG h0;rwa[List.drop_zero]at this
 have HN:Hid (dE (toL s)=none->∀e w',Below w.heap.size w w'-> (∃A n c m,e= .returned (.tuple #[.slice A n c,m,.bool false]))->nC (toL s) w e w'):=fun h e w' hb hh=>by rw[nC,h];exact⟨hb,hh⟩
 have HS:Hid (∀p,dE (toL s)=some p->∀e w',Below w.heap.size w w'-> (∃A cc,e= .returned (.tuple #[.slice A p.1.length cc,.int .i64 p.2,.bool true])/\w'.ownsRow w.heap.size 9 1 (.slice A p.1.length cc) p.1.length (flat aA p.1)/\p.1.length<=cc/\cc<=maxLen)->nC (toL s) w e w'):=fun p h e w' hb hh=>by rw[nC,h];exact⟨hb,hh⟩
 have HD:=ah (Ht s[0] ((toL s).drop 1));rw[<-d]at HD;have HX:Hid (toL (s.extract 1 s.size)= (toL s).drop 1):=mI s 1;have j:=kN ((toL s).drop 1);have y:=tN ((toL s).drop 1);have o: ((toL s).drop 1).length=s.size - 1:=by rw[List.length_drop,<-aP]
 rw[o]at j HD;have HM:=ah hs;unfold maxLen at hs;have hd:s[0].toNat<256:=s[0].toNat_lt;have E: (1:Int)<= (s.size:Int):=by omega
 clear d o;by_cases hx:s[0]=1
 . have q:s[0].toNat=1:=by rw[hx];rfl
   go_enter Tryz.func222,Tryz.ntmps222
   go_wp2_with fail;refine(jD (s.extract 1 s.size) _).mono ?_;rw[HX.o];have HE:=ah (fun k n=>rO s k n);have t:Hid (∀m,((toL s).drop 1).drop m= (toL s).drop (1+m)):=fun m=>by show _=_;rw[List.drop_drop]
   generalize ay ((toL s).drop 1)=r at *;obtain⟨n,m,e⟩:=r;rintro e' w' ⟨rfl,rfl⟩;simp only at j y HD ⊢;by_cases he:e=0
   . subst he
     by_cases hl:s.size - 1<m+n
     . have z: (s.size:Int) - (1+ (m:Int))< (n:Int):=by omega
       have a:Hid (dE (toL s)=none):=by show _=_;rw[HD.o,if_pos (.inr (.inr hl))]
       clear HD
       go_wp2
       go_ret3
       exact HN.o a.o _ _ (af _ _) ⟨_,_,_,_,rfl⟩
     . have z:¬(s.size:Int) - (1+ (m:Int))< (n:Int):=by omega
       have b:Hid (dE (toL s)=match fo (((toL s).drop (1+m)).take n) with
         | none=>none
         | some (l,c)=>if c=n then some (l,1+m+n) else none):=by
        show _=_;rw[HD.o,if_neg (by simp[hx];omega),t.o]
       have HG:=ah (Ed (ofL (((toL s).drop (1+m)).take n)) (by rw[bG,List.length_take];have:=HM.o;omega));rw[bP,<-HE.o (1+m) n]at HG;clear HD t HE;go_wp2_with fail;refine(HG.o _).mono ?_;rintro e w1 ⟨f,h1⟩;have i:=ah f;clear HG;generalize fo (((toL s).drop (1+m)).take n)=g at *;cases g with
       | none =>
         obtain⟨er,u,rfl⟩:=h1;have B: (er == 0)=false:=by rw[beq_eq_false_iff_ne];exact u
         have a:Hid (dE (toL s)=none):=b.o;clear b u f
         go_wp2
         go_ret3
         exact HN.o a.o _ _ i.o ⟨_,_,_,_,rfl⟩
       | some p =>
         obtain⟨l,c⟩:=p;obtain⟨A,cc,rfl,ho,v,x⟩:=h1;have HO:=ah ho;have C:=ah v;have D:=ah x;clear ho v x f;by_cases hcn:c=n
         . subst hcn
           have a:Hid (dE (toL s)=some (l,1+m+c)):=by show _=_;rw[b.o];simp
           clear b
           go_wp2
           go_ret3
           exact HS.o _ a.o _ _ i.o ⟨A,cc,by simp,HO.o,C.o,D.o⟩
         . have a:Hid (dE (toL s)=none):=by show _=_;rw[b.o];simp[hcn]
           have F: ((c:Int) == (n:Int))=false:=by rw[beq_eq_false_iff_ne];omega
           clear b
           go_wp2
           go_ret3
           exact HN.o a.o _ _ i.o ⟨_,_,_,_,rfl⟩
   . have B: (e != 0)=true:=by rw[bne_iff_ne];exact he
     have a:Hid (dE (toL s)=none):=by show _=_;rw[HD.o,if_pos (.inr (.inl he))]
     clear HD he
     go_wp2
     go_ret3
     exact HN.o a.o _ _ (af _ _) ⟨_,_,_,_,rfl⟩
 . have q:¬s[0].toNat=1:=fun h=>hx (UInt8.toNat_inj.1 h)
   have a:Hid (dE (toL s)=none):=by show _=_;rw[HD.o,if_pos (.inl hx)]
   have G: ((s[0].toNat:Int) != 1)=true:=by rw[bne_iff_ne];omega
   clear HD q
   go_enter Tryz.func222,Tryz.ntmps222
   go_wp2
   go_ret3
   exact HN.o a.o _ _ (af _ _) ⟨_,_,_,_,rfl⟩
section
def qQ{α:Type}(F:Fence)(n:Nat)(P:Program)(g:Nat)(lb:Array M4)(encs:α->Array M4)(Kp St:MZ->MZ->Prop)(Pf:MZ->List α->Prop)(S Sp:List α->Prop)(hz:Nat)(w:MZ):Prop :=
 ∀(l:Nat)(J Jx:List α->MZ->Prop)(W:MZ),Below w.heap.size w W->W.heap.size=hz-> (∀pre A B,J pre A->St A B->J pre B) ->
  (∀pre x W1,Pf W1 (pre++ [x])->J pre W1->YieldAt F (n - 1) P l (encs x) W1 fun e W' =>
    (e= .returned (.bool true)/\J (pre++ [x]) W'/\Kp W1 W')∨ (e= .returned (.bool false)/\Jx (pre++ [x]) W')) ->
  J [] W ->
  CallsIn F n P g (#[.func (.yield l) #[] #[]]++lb) W fun e W'=>(∃v,e= .returned v)/\ ((∃xs,S xs/\J xs W')∨ (∃pre,Sp pre/\Jx pre W'))
variable {F : Fence} {n : Nat} {P : Program}
theorem EC{α:Type}{g:Operand}{ps:Array Tmp}{assign body:Code}{Q:Exit->Act->MZ->Prop}{a:Act}{w:MZ}
  (hro:F.round=none) (h1:1<=n) {gf:Nat} {lb:Array M4} (hg:a.eval g= .func (.func gf) #[] lb) (hFg:F.fn gf) (eg:∀args w,(callFunc gf args).run P w= .ok (.enter gf args) w)
  {encs:α->Array M4} {Kp St:MZ->MZ->Prop} {Pf:MZ->List α->Prop} {S Sp:List α->Prop} {w0:MZ} (hseq:qQ F (n - 1) P gf lb encs Kp St Pf S Sp (w.heap.size+2) w0)
  (hKt:∀{A B C:MZ},Kp A B->Kp B C->Kp A C) (hKb:∀(W:MZ)(l:Nat)(r:Loop)(o':Obj),w.heap.size+1=l->W.heap[l]? =some (.loop r)->Kp W (W.putObj l o')) (hPb:∀(W:MZ)(l:Nat)(r:Loop)(o':Obj)(xs:List α),w.heap.size+1=l->W.heap[l]? =some (.loop r)->Pf W xs->Pf (W.putObj l o') xs) (hSo:∀A B,St A B->w.heap.size+2<=A.heap.size->jc w.heap.size A B) (hb0:Below w0.heap.size w0 w) (hps:∀x,(encs x).size=ps.size)
  (I:List α->MZ->Prop) (Ix:Code->List α->MZ->Prop) (hI:OwnFrom w.heap.size I) (hIx:∀c,OwnFrom w.heap.size (Ix c)) (hIS:∀pre A B,I pre A->St A B->I pre B) (h0:I [] w) (a₁:α->Act)
  (hassign:∀(l:Nat)(x:α)(W:MZ)(K:Act->MZ->Prop),K (a₁ x) W ->
    assign.wpIn (F.inRound l) (n - 1 - 1) P (Exit.then K (fun _ _ _=>False)) {tmps:=(ps.zip (encs x)).foldl (fun t (p,v)=>t.setIfInBounds p v) a.tmps,defers:= []} W)
  (hbody:∀(l:Nat)(pre:List α)(x:α)(W:MZ),Pf W (pre++ [x])->w.heap.size+2<=W.heap.size->I pre W->body.wpIn (F.inRound l) (n - 1 - 1) P (Bc w.heap.size Kp I Ix (pre++ [x]) W) (a₁ x) W)
  (hdone:∀(D:Nat)(xs:List α)(W:MZ),w.heap.size<=D->S xs->I xs W->W.heap[D]? =some (.deferred (some []))->Q .normal {a with defers:={target:= .collected D,args:=#[]}::a.defers} W)
  (hstop:∀(D:Nat)(c:Code)(pre:List α)(W:MZ),w.heap.size<=D->Sp pre->Ix c pre W->W.heap[D]? =some (.deferred (some []))->c.wpIn F n P Q {a with defers:={target:= .collected D,args:=#[]}::a.defers} W) :
  (Code.rangeFunc g ps assign body).wpIn F n P Q a w:=by
 refine wpIn_rangeFunc ?_;intro fn u;rw[hro]
 -- the loop's record in block L,the block of its deferred calls in block D
 obtain⟨D,hD⟩:=NX9 w.heap.size
 obtain⟨rec,b⟩:∃rec:LoopState->Option Code->Loop,rec=fun st pe=>{state:=st,pending:=pe,fn,tmps:=a.tmps,params:=ps,assign,body,defers:=D}:=⟨_,rfl⟩
 obtain⟨W1,k⟩:=NX9 ((w.alloc (.deferred (some []))).alloc (.loop (rec .ready none)))
 have y:W1.heap[D+1]? =some (.loop (rec .ready none)):=by
  rw[<-k,<-hD];have:=World.alloc_heap_new (w.alloc (.deferred (some []))) (.loop (rec .ready none));rwa[Z9]at this
 have z:W1.heap[D]? =some (.deferred (some [])):=by
  rw[<-k,<-hD];exact(Below.heap_alloc _ _ _ (by simp)).trans (World.alloc_heap_new w _)
 have E:I [] W1:=by rw[<-k];exact hI.alloc _ (hI.alloc _ h0)
 have G:Below w0.heap.size w0 W1:=by
  rw[<-k];exact hb0.trans ((((af _ w).alloc ai _).alloc (by simp) _).mono hb0.size)
 refine⟨D+1,[{target:= .collected D,args:=#[]}],W1,{target:= .fn (.func gf) lb,args:=#[.func (.yield (D+1)) #[] #[]]},W1,gf,
  #[.func (.yield (D+1)) #[] #[]]++lb,W1,?_,?_,?_,?_,fun _=>h1,?_⟩
 . rw[<-k,b,<-hD];exact run_enterLoop_outer _ _ _ _ _
 . simp only[resolve,hg]
   simp[go_sem]
 . intro f' o;simp[Target.leads]at o;subst o;exact hFg
 . simp[invoke,go_sem,eg]
 . refine(hseq (D+1)
     (fun pre W=>I pre W/\W.heap[D+1]? =some (.loop (rec .ready none))/\W.heap[D]? =some (.deferred (some [])))
     (fun pre W=>∃c,Ix c pre W/\W.heap[D+1]? =some (.loop (rec .done (some c)))/\W.heap[D]? =some (.deferred (some [])))
     W1 G (by rw[<-k];simp)
     (fun pre A B hs hst=>by
       have R:=(Array.getElem?_eq_some_iff.1 hs.2.1).1;have hr:=hSo A B hst (by omega);rw[hD]at hr;exact⟨hIS pre A B hs.1 hst,hr.2.trans hs.2.1,hr.1.trans hs.2.2⟩)
     ?_ ⟨E,y,z⟩).mono ?_
   . rintro pre x W H ⟨hi,hl,hk⟩
     have J:D+1<W.heap.size:=(Array.getElem?_eq_some_iff.1 hl).1;have hy:=run_yield (P:=P) (args:=encs x) hl (by rw[b];exact hps x);rw[b]at hy;refine⟨fn,_,assign,body,hy,roundIn_of_wpIn u (hassign _ x W _ ⟨_,run_beginRound hl (by rw[b]),?_⟩)⟩;obtain⟨W2,m⟩:∃W2,W.putObj (D+1) (.loop {rec .ready none with state:= .busy})=W2:=⟨_,rfl⟩
     have q:W2.heap[D+1]? =some (.loop {rec .ready none with state:= .busy}):=by rw[<-m];exact World.putObj_heap_same J
     have M:W2.heap[D]? =some (.deferred (some [])):=by rw[<-m];exact(World.putObj_heap_other (by omega)).trans hk
     have N:Kp W W2:=by rw[<-m];exact hKb _ _ _ _ (by omega) hl
     have O:I pre W2:=by rw[<-m];exact hI.putObj _ hi (by omega) hl rfl
     rw[m];refine wpIn_mono (hbody _ pre x _ (by rw[<-m];exact hPb _ _ _ _ _ (by omega) hl H) (by have:=(Array.getElem?_eq_some_iff.1 q).1;omega) O) ?_;have fin:∀(jump:Option Code)(W3:MZ),jc w.heap.size W2 W3 ->
       (Instr.endRound (D+1) jump).run P W3= .ok (.bool jump.isNone) (W3.putObj (D+1) (.loop (rec (if jump.isNone then .ready else .done) jump))) ∧
       W3.heap[D+1]? =some (.loop {rec .ready none with state:= .busy}) ∧
       (W3.putObj (D+1) (.loop (rec (if jump.isNone then .ready else .done) jump))).heap[D+1]? =some (.loop (rec (if jump.isNone then .ready else .done) jump)) ∧
       (W3.putObj (D+1) (.loop (rec (if jump.isNone then .ready else .done) jump))).heap[D]? =some (.deferred (some [])):=fun jump W3 f=>by
      rw[hD]at f;have d:=f.2.trans q;have:=run_endRound (P:=P) jump d;rw[b]at this ⊢;exact⟨this,by rw[b]at d;exact d,World.putObj_heap_same (Array.getElem?_eq_some_iff.1 d).1,(World.putObj_heap_other (by omega)).trans (f.1.trans M)⟩
     rintro e a3 W3 hp;cases e with
     | normal =>
       obtain⟨f,s,h⟩:=hp;obtain⟨hr,d,i,j⟩:=fin none W3 f;exact⟨_,_,hr,.inl ⟨rfl,⟨hI.putObj _ h (by omega) d rfl,i,j⟩,hKt (hKt N s) (hKb _ _ _ _ (by omega) d)⟩⟩
     | ret =>
       obtain⟨f,h⟩:=hp;obtain⟨hr,d,i,j⟩:=fin (some .ret) W3 f;exact⟨_,_,hr,.inr ⟨rfl,.ret,(hIx _).putObj _ h (by omega) d rfl,i,j⟩⟩
     | exit id =>
       obtain⟨f,h⟩:=hp;obtain⟨hr,d,i,j⟩:=fin (some (.exit id)) W3 f;exact⟨_,_,hr,.inr ⟨rfl,.exit id,(hIx _).putObj _ h (by omega) d rfl,i,j⟩⟩
     | goto t =>
       obtain⟨f,h⟩:=hp;obtain⟨hr,d,i,j⟩:=fin (some (.goto t)) W3 f;exact⟨_,_,hr,.inr ⟨rfl,.goto t,(hIx _).putObj _ h (by omega) d rfl,i,j⟩⟩
     | panic ch=>exact hp.elim
     | outgrown=>exact hp.elim
   . rintro e W2 ⟨⟨v,rfl⟩,(⟨xs,hS,hi,hl,hk⟩ | ⟨pre,hSp,c,hi,hl,hk⟩)⟩
     . exact⟨none,_,by have:=run_endLoop (P:=P) hl (by rw[b];simp);rw[b]at this;exact this,hdone _ xs _ (by omega) hS (hI.putObj _ hi (by omega) hl rfl) ((World.putObj_heap_other (by omega)).trans hk)⟩
     . exact⟨some c,_,by have:=run_endLoop (P:=P) hl (by rw[b];simp);rw[b]at this;exact this,hstop _ c pre _ (by omega) hSp ((hIx c).putObj _ hi (by omega) hl rfl) ((World.putObj_heap_other (by omega)).trans hk)⟩
end
section
attribute [local go_sem] Oper.semAt_some
abbrev Fr:=(OA×Nat×Nat)×List M5×Int
def frV(x:Fr):Array M4:=#[.slice x.1.1 x.1.2.1 x.1.2.2,.int .i64 x.2.2]
def frL(xs:List Fr):List M5:=xs.flatMap (·.2.1)
def frU(xs:List Fr):Int:=(xs.getLast?.map (·.2.2)).getD 0
theorem uE(xs:List Fr)(x:Fr):frU (xs++ [x])=x.2.2:=by simp[frU]
theorem tJ(xs:List Fr)(x:Fr):frL (xs++ [x])=frL xs++x.2.1:=by simp[frL]
def FrSt(sz:Nat)(b:M5)(ls:List M5)(u:Nat):Prop:=frs sz b= (frs sz (b.drop (u*sz))).map fun p=>(ls++p.1,u+p.2)
theorem FrSt.start(sz:Nat)(b:M5):FrSt sz b [] 0:=by
 unfold FrSt;rw[Nat.zero_mul,List.drop_zero];cases frs sz b with
 | none=>rfl
 | some p=>simp
theorem FrSt.step{sz:Nat}{b:M5}{ls l:List M5}{u c:Nat}(h:FrSt sz b ls u)(hz:0<sz)(h0:¬zer (b.drop (u*sz)))(hd:dE (b.drop (u*sz))=some (l,c)):FrSt sz b (ls++l) (u+nsec c sz):=by
 unfold FrSt at *;rw[h,jE hz h0 hd,List.drop_drop,<-Nat.add_mul];cases frs sz (b.drop ((u+nsec c sz)*sz)) with
 | none=>rfl
 | some p=>simp[Nat.add_assoc]
theorem FrSt.bad{sz:Nat}{b:M5}{ls:List M5}{u:Nat}(h:FrSt sz b ls u)(h0:¬zer (b.drop (u*sz)))(hd:dE (b.drop (u*sz))=none):frs sz b=none:=by
 unfold FrSt at h;rw[h,mQ h0 hd];rfl
theorem FrSt.fin{sz:Nat}{b:M5}{ls:List M5}{u:Nat}(h:FrSt sz b ls u)(h0:zer (b.drop (u*sz))):frs sz b=some (ls,u):=by
 unfold FrSt at h;rw[h,jq h0];simp
def FrP(sz:Nat)(b:M5)(W:MZ)(xs:List Fr):Prop:=∀(pre:List Fr)(x:Fr),xs=pre++ [x]-> (x.2.2= -1/\frs sz b=none)∨∃u:Nat,x.2.2= (u:Int)/\Sl W W.heap.size 1 x.1.1 x.1.2.1 (flat aA x.2.1)/\x.1.2.1<=x.1.2.2/\x.1.2.2<=maxLen/\x.1.2.1=x.2.1.length/\x.2.1.length<=1000/\u<=1000512/\ (frL xs).length<=1000*u
def FrS(sz:Nat)(b:M5)(xs:List Fr):Prop:=(∃pre x,xs=pre++ [x]/\x.2.2= -1)∨∃u:Nat,frU xs=u/\frs sz b=some (frL xs,u)
def KeepF(b1 b2:Nat)(A B:MZ):Prop:=B.heap[b1]? =A.heap[b1]? /\B.heap[b2]? =A.heap[b2]?
theorem Gn{c:UInt8}(h:c=0): ((c.toNat:Int) != 0)=false:=by rw[h];rfl
theorem Hd{c:UInt8}(h:¬c=0): ((c.toNat:Int) != 0)=true:=by
 rw[bne_iff_ne];intro e;exact h (UInt8.toNat_inj.1 (by show c.toNat=0;omega))
theorem Fe(n bs bz hz:Nat)(hn:1<=n)(s:M3)(sz:Nat)(w:MZ)(hs:s.size<=1000000)(hz0:0<sz)(hz1:sz<=512)(h0:Bk w bs 9 #[.string s])(h1:Bk w bz 3 #[.int .i64 sz]) :
  qQ Fence.wide n Tryz.prog 221 #[.pointer (some ⟨bs,0,none⟩),.pointer (some ⟨bz,0,none⟩)] frV (KeepF bs bz) (fun A B=>Below A.heap.size A B)
   (FrP sz (toL s)) (FrS sz (toL s)) (fun _=>True) hz w:=fun l J Jx W hW hWz hJ hY hJ0=>by
 have G0:Hid (Bk W bs 9 #[.string s]):=(hW.block bs h0.lt).trans h0;have G1:Hid (Bk W bz 3 #[.int .i64 sz]):=(hW.block bz h1.lt).trans h1;clear hW h0 h1 hWz;have HY:=ah hY;have S:=ah hJ0;have HJ:=ah hJ;clear hJ hY hJ0;refine callsIn_of_wp Tryz.func221 rfl trivial ?_ rfl;simp only[Tryz.ntmps221,List.size_toArray,Z5,List.length_nil,Nat.reduceAdd,Nat.reduceSub,Array.replicate_succ,Array.replicate_zero,List.push_toArray,List.append_toArray,List.nil_append,List.cons_append]
 gi_wp2_with fail
 gi_loopw [4] (fun q wr=>∃(a u:Nat)(pre:List Fr),q= .int .i64 (a:Int)/\Hid (a=u*sz)/\a<=1000512/\Hid (FrSt sz (toL s) (frL pre) u)/\Hid (frU pre=u/\ (frL pre).length<=1000*u)/\Hid (Bk wr bs 9 #[.string s])/\Hid (Bk wr bz 3 #[.int .i64 sz])/\Hid (J pre wr)) (fun q _=>1000513 - (intOf q).toNat)
 case atStart=>exact⟨0,0,[],rfl,by show _=_;simp,by omega,FrSt.start sz _,⟨rfl,by simp[frL]⟩,G0.o,G1.o,S.o⟩
 case round =>
  obtain⟨a,u,pre,rfl,b,ha,hF,hU,hS,hZ,hj⟩:=hrel;have c0:=hS.o.cell 0;have c1:=hZ.o.cell 0;simp at c0 c1;by_cases hlt:a<s.size
  . have T: (a:Int)< (s.size:Int):=by omega
    have ao: (a:Int)<= (s.size:Int):=by omega
    have k:=sG hlt;by_cases h00:s[a]=0
    . have t1:=Gn h00
      have HF:Hid (frs sz (toL s)=some (frL pre,u)):=hF.o.fin (by rw[<-b.o,k];intro x hx;simp at hx;rw[<-hx];exact h00);clear h00 k
      gi_wp2
      go_end0
      exact⟨⟨_,rfl⟩,.inl ⟨pre,.inr ⟨u,hU.o.1,HF.o⟩,hj.o⟩⟩
    . have t1:=Hd h00
      have D:Hid (¬zer ((toL s).drop (u*sz))):=by show ¬_;rw[<-b.o,k];intro h;exact h00 (h _ rfl)
      have HX:Hid (toL (s.extract a s.size)= (toL s).drop (u*sz)):=by rw[<-b.o];exact mI s a
      have U: (s.extract a s.size).size=s.size - a:=by rw[ByteArray.size_extract];omega
      have HD:=ah (Dx (s.extract a s.size) (by omega) (by unfold maxLen;omega));rw[HX.o]at HD;clear h00 k U
      gi_wp2_with fail
      refine⟨trivial,(callsIn_wide.2 (HD.o _)).mono ?_⟩;rintro e w1 ⟨g,h1⟩;have ap:=ah g;have t:Hid (J pre w1):=HJ.o pre wr w1 hj.o g;have v:Hid (Bk w1 bs 9 #[.string s]):=hS.o.below g hS.o.lt;have y:Hid (Bk w1 bz 3 #[.int .i64 sz]):=hZ.o.below g hZ.o.lt;have c0:=v.o.cell 0;have c1:=y.o.cell 0;simp at c0 c1;clear HD g;cases hdf:dE ((toL s).drop (u*sz)) with
      | none =>
        rw[hdf]at h1;obtain⟨A,nn,cc,m,rfl⟩:=h1;have HN:Hid (frs sz (toL s)=none):=hF.o.bad D.o hdf;clear hdf;obtain⟨fn,E,o,F,hy,d⟩:=HY.o pre ((none,0,0),[],-1) w1 (fun p x he=>by
         have e:=congrArg List.getLast? he;simp at e;subst e;exact .inl ⟨rfl,HN.o⟩) t.o
        simp only[frV]at hy d;have z:=ah d;clear d
        gi_wp2
        refine z.o.mono ?_;rintro e' W3 (⟨rfl,hJ3,hK3⟩ | ⟨rfl,hJx3⟩)
        . gi_wp2
          refine ZY (results_none rfl _ _ _) rfl ?_;exact⟨⟨_,rfl⟩,.inl ⟨_,.inl ⟨_,_,rfl,rfl⟩,hJ3⟩⟩
        . gi_wp2
          refine ZY (results_none rfl _ _ _) rfl ?_;exact⟨⟨_,rfl⟩,.inr ⟨_,trivial,hJx3⟩⟩
      | some p =>
        obtain⟨ll,cn⟩:=p;rw[hdf]at h1;obtain⟨A,cc,rfl,ho,V,G⟩:=h1;have C:=ah (hF.o.step hz0 D.o hdf);obtain⟨i,H,rr,I⟩:=kJ hdf;have aq:=kD ll;have ar:cn+a<=s.size:=by
         have:=congrArg List.length I;rw[ae,List.length_drop,<-aP,<-H,<-b.o]at this;omega
        have X:=kF (c:=cn) hz0 (by omega);have Y:=BR (c:=cn) hz0 (by omega);obtain⟨q,hq⟩:=NX9 (nsec cn sz)
        rw[hq]at X Y C;obtain⟨a2,r⟩:=NX9 ((u+q)*sz)
        have au:a2=a+q*sz:=by rw[<-r,Nat.add_mul,b.o]
        have av:q<=q*sz:=Nat.le_mul_of_pos_right _ hz0;have Z:u<=u*sz:=Nat.le_mul_of_pos_right _ hz0;rw[<-b.o]at Z;generalize q*sz=qz at *;have aw: ((u:Int)+ (q:Int))* (sz:Int)= (a2:Int):=by rw[<-r,Int.natCast_mul,Int.natCast_add]
        have aD: (a:Int) / (sz:Int)= (u:Int):=by rw[b.o,Int.natCast_mul];exact Int.mul_ediv_cancel _ (by omega)
        have aE:¬sz=0:=by omega
        have ba:IntKind.i64.wrap (u:Int)= (u:Int):=by rw[IntKind.wrap_i64];omega
        have bb:IntKind.i64.wrap ((u:Int)+ (q:Int))= (u:Int)+ (q:Int):=by rw[IntKind.wrap_i64];omega
        have j:=ah (DK cn sz hz0 (by omega) hz1);rw[hq]at j;have ab:Hid (FrSt sz (toL s) (frL (pre++ [((A,ll.length,cc),ll,(u:Int)+ (q:Int))])) (u+q)):=by show FrSt _ _ _ _;rw[tJ];exact C.o
        have L:Hid ((frL (pre++ [((A,ll.length,cc),ll,(u:Int)+ (q:Int))])).length<=1000* (u+q)):=by
         show _<=_;rw[tJ,ae];have:=hU.o.2;have:=i.1;simp only;omega
        have M:Hid (Sl w1 w1.heap.size 1 A ll.length (flat aA ll)):=Sl.of_own ho;have ad:=ah i;have ag:=ah r;have al:=ah G;clear hdf ho I i C r hq H hF G
        gi_wp2_with fail
        refine wpIn_region_quiet_lit rfl (by kernel_rfl) (by kernel_rfl) ?_
        repeat
         refine wpQuietIn_step (fun _ _ _ _=>trivial) (fun K hK=>?_)
         go_simp
         first
          | (refine hK _ ?_;clear hK K)
          | (apply Exists.intro;refine⟨fun _=>?_,hK _ ?_⟩;(gi_at_call 223;exact CallsIn.quiet_of_same (callsIn_wide.2 ((j.o _).mono (by rintro e w' ⟨rfl,rfl⟩;exact⟨rfl,rfl⟩))));clear hK K)
        refine wpQuietIn_nil ?_;rintro _ ⟨nq,rfl⟩;obtain⟨w2,f⟩:=NX9 (w1.drewN nq)
        have N:Below w1.heap.size w1 w2:=by rw[<-f];exact bN (af _ _) nq
        have am:Hid (J pre w2):=HJ.o pre w1 w2 t.o N;have O:Hid (Sl w2 w2.heap.size 1 A ll.length (flat aA ll)):=by rw[<-f];exact M.o
        have j:Hid (Bk w2 bs 9 #[.string s]):=by rw[<-f];exact v.o
        have P:Hid (Bk w2 bz 3 #[.int .i64 sz]):=by rw[<-f];exact y.o
        rw[f];clear f N v y t M c0 c1;have c0:=j.o.cell 0;have c1:=P.o.cell 0;simp at c0 c1;obtain⟨fn,E,o,F,hy,d⟩:=HY.o pre ((A,ll.length,cc),ll,(u:Int)+ (q:Int)) w2 (fun p x he=>by
         have e:=congrArg List.getLast? he;simp at e;subst e;exact .inr ⟨u+q,by simp,O.o,V,al.o,rfl,ad.o.1,by omega,L.o⟩) am.o
        simp only[frV]at hy d;have z:=ah d;clear d
        gi_wp2
        refine z.o.mono ?_;rintro e' W3 (⟨rfl,hJ3,hK3⟩ | ⟨rfl,hJx3⟩)
        . have Q:Hid (Bk W3 bs 9 #[.string s]):=hK3.1.trans j.o
          have R:Hid (Bk W3 bz 3 #[.int .i64 sz]):=hK3.2.trans P.o;have c0:=Q.o.cell 0;have c1:=R.o.cell 0;simp at c0 c1;have an:=ah hJ3;clear hJ3 hK3
          gi_wp2
          go_roundw
          case rel=>exact⟨a2,u+q,_,by go_num,ag.o.symm,by omega,ab.o,⟨by rw[uE];simp,L.o⟩,Q.o,R.o,an.o⟩
          case measure=>simp[intOf];omega
        . gi_wp2
          refine ZY (results_none rfl _ _ _) rfl ?_;exact⟨⟨_,rfl⟩,.inr ⟨_,trivial,hJx3⟩⟩
  . have T:¬(a:Int)< (s.size:Int):=by omega
    have HF:Hid (frs sz (toL s)=some (frL pre,u)):=hF.o.fin (by rw[<-b.o,List.drop_of_length_le (by rw[<-aP];omega)];intro x hx;simp at hx)
    gi_wp2
    go_end0
    exact⟨⟨_,rfl⟩,.inl ⟨pre,.inr ⟨u,hU.o.1,HF.o⟩,hj.o⟩⟩
end
section
open Go.RowKit Go.Shelf
theorem G7:Builder.Extra Tryz.prog Tryz.lays105_ren:={
 sizeBuilder:=by kernel_rfl
 liesBuilder:=by kernel_rfl
 t5:=Tryz.underlying5
 a5:=Tryz.isAgg5
 z5:=Tryz.sizeOf5
 v5:=Tryz.zeroValue5
 infoByte:=by kernel_rfl
 cellsByte:=by kernel_rfl
 sizeByte:=by kernel_rfl
 neB5:=by decide}
theorem Hq:Builder.Extra Tryz.prog Tryz.lays156_ren:={
 sizeBuilder:=by kernel_rfl
 liesBuilder:=by kernel_rfl
 t5:=Tryz.underlying5
 a5:=Tryz.isAgg5
 z5:=Tryz.sizeOf5
 v5:=Tryz.zeroValue5
 infoByte:=by kernel_rfl
 cellsByte:=by kernel_rfl
 sizeByte:=by kernel_rfl
 neB5:=by decide}
theorem mO(x y:M5):ofL x++ofL y=ofL (x++y):=by
 unfold ofL;apply ByteArray.ext
 simp
theorem Ef(n:Nat):Lib.repeatL [(0:UInt8)] n=List.replicate n 0:=by
 induction n with
 | zero=>rfl
 | succ n ih=>show [0]++Lib.repeatL [0] n=_;rw[ih];rfl
theorem xK(n:Nat)(w:MZ)(hn:n<=100000):Calls Tryz.prog 74 #[.string ⟨#[0]⟩,.int .i64 n] w fun e w'=>e= .returned (.string (ofL (List.replicate n 0)))/\Below w.heap.size w w':=by
 have h:=Any.strings_Repeat Tryz.lays105 G7 ⟨#[0]⟩ n w (by omega) (by show 1*n<=_;omega);rw[show(⟨#[0]⟩:M3).data.toList= [0] from rfl,Ef]at h;exact h
theorem zI(l:List M5):Lib.join l []=l.flatten:=by
 cases l with
 | nil=>rfl
 | cons x r =>
   rw[Lib.join_cons,List.flatten_cons];unfold Lib.joinTail;rw[show(fun y:M5=>([]:M5)++y)=id from rfl,List.map_id]
theorem Io(A:OA)(n c B:Nat)(ss:List M5)(w:MZ)(h:Sl w B 1 A n (flat aA ss))(hB:B<=w.heap.size)(hn:0<n)(hc:n<=c)(hl:ss.flatten.length<=1000000000)(hl2:n<=1000000) :
  Calls Tryz.prog 139 #[.slice A n c,.string ⟨#[]⟩] w fun e w'=>e= .returned (.string (ofL ss.flatten))/\Below w.heap.size w w':=by
 have d:=h.len dI (by omega);obtain⟨b,f,rfl,hb,a⟩:=h.2 hn;have hm: (ss.map ofL).map (·.data.toList)=ss:=by rw[List.map_map];exact List.map_id'' (fun x=>rfl) ss
 have hj:=Any.strings_Join Tryz.lays156 Hq b f c (ss.map ofL) ⟨#[]⟩ w (by
  intro j x hx;rw[List.getElem?_map,Option.map_eq_some_iff]at hx;obtain⟨y,hy,rfl⟩:=hx;exact a j _ (by have:=gG (enc:=aA) dI ss j 0 y hy (by omega);simpa [aA] using this)) (by omega) (by rw[List.length_map];omega) (by rw[List.length_map];omega) (by rw[hm,show(⟨#[]⟩:M3).data.toList= [] from rfl,zI];omega)
 rw[hm,show(⟨#[]⟩:M3).data.toList= [] from rfl,zI,List.length_map,d]at hj;exact hj
end
theorem oN(d:Dk)(s:Dsl)(w:MZ)(h0:0<d.ss.length)(h1:d.ss.length<=1000):Calls Tryz.prog 110 #[dkV d s] w fun e w'=>e= .returned (.int .i64 (hf d.ss:Nat))/\Below w.heap.size w w':=by
 have HB:Hid (Below w.heap.size w (w.alloc (.cells (dkC d s) 25))):=(af _ w).alloc ai _;obtain⟨k0,k1,k2,k3⟩:=(Bk.new w 25 (dkC d s)).dk4;have HH:Hid (((d.ss.length:Int) - 1) / 2= (hf d.ss:Nat)):=by show _=_;unfold hf;omega
 obtain⟨n,hn⟩:=NX9 d.ss.length
 rw[hn]at HH h0 h1;simp only[dkV,dkC,hn]at *
 go_enter Tryz.func110,Tryz.ntmps110
 go_wp2
 go_ret
 exact⟨by rw[<-HH.o];rfl,HB.o⟩
theorem mg(d:Dk)(s:Dsl)(a:Nat)(w:MZ)(h0:0<d.ss.length)(h1:d.ss.length<=1000)(ha:a=1∨a=2):Calls Tryz.prog 99 #[dkV d s,.int .i64 a] w fun e w'=>e= .returned (.int .i64 (aC d.ss a:Nat))/\Below w.heap.size w w':=by
 obtain⟨W,hW⟩:=NX9 (w.alloc (.cells (dkC d s) 25))
 have HB:Hid (Below w.heap.size w W):=by rw[<-hW];exact(af _ w).alloc ai _
 obtain⟨k0,k1,k2,k3⟩:W.cell? ⟨w.heap.size,0,none⟩=_/\W.cell? ⟨w.heap.size,1,none⟩=_/\W.cell? ⟨w.heap.size,2,none⟩=_/\W.cell? ⟨w.heap.size,3,none⟩=_:=by rw[<-hW];exact(Bk.new w 25 (dkC d s)).dk4
 have HC:=ah (oN d s W h0 h1);have c:hf d.ss<=500:=by unfold hf;omega
 have HE:Hid (aC d.ss a=1+ (a - 1)*hf d.ss):=rfl;obtain⟨h,hh⟩:=NX9 (hf d.ss)
 rw[hh]at HC c HE;have HW:=ah hW;clear hW hh;simp only[dkV,dkC]at *
 go_enter Tryz.func99,Tryz.ntmps99
 rcases ha with rfl | rfl
 all_goals
  go_wp2_with fail;rw[HW.o];refine HC.o.mono ?_;rintro e w1 ⟨rfl,b⟩;have f:Hid (Below w.heap.size w w1):=HB.o.trans (b.mono HB.o.size);clear b;go_wp2_with fail;go_ret
  refine⟨?_,f.o⟩;rw[HE.o]
  first
   | (congr 2;simp;done)
   | (congr 2;simp;omega)
theorem l7(t:M5)(sz:Nat)(w:MZ)(h:t.length<=sz)(h1:sz<=512):Calls Tryz.prog 96 #[.string (ofL t),.int .i64 sz] w fun e w'=>e= .returned (.string (ofL (bB sz t)))/\Below w.heap.size w w':=by
 have hs: ((ofL t).size:Int)= (t.length:Int):=by rw[bG]
 have d: ((sz:Int) - (t.length:Int))= ((sz - t.length:Nat):Int):=by omega
 have HR:=ah (xK (sz - t.length) w (by omega));have HF:Hid (ofL t++ofL (List.replicate (sz - t.length) 0)=ofL (bB sz t)):=mO t _;have a: (ofL (List.replicate (sz - t.length) 0)).size=sz - t.length:=by rw[bG,List.length_replicate]
 have b: (ofL t).size=t.length:=by rw[bG]
 obtain⟨k,hk⟩:=NX9 (sz - t.length)
 obtain⟨q,hq⟩:=NX9 (ofL (List.replicate k 0))
 rw[hk]at HR HF d a;rw[hq]at HR HF a;have g:¬(9223372036854775807< (ofL t).size+q.size):=by rw[b,a];omega
 clear hk hq b a
 go_enter Tryz.func96,Tryz.ntmps96
 go_wp2_with fail;refine HR.o.mono ?_;rintro e w1 ⟨rfl,c⟩;have f:=ah c;clear c;go_wp2_with fail;go_ret
 exact⟨by rw[<-HF.o];rfl,f.o⟩
theorem I1(l:List M5):∀u∈flat aA l,u.oneCell'=true:=fun u hu=>by
 unfold flat at hu;obtain⟨i,_,h⟩:=List.mem_flatMap.1 hu;simp[aA]at h;rw[h];rfl
def vM(us:List M5)(n:Nat)(w:MZ)(e:Ending)(w':MZ):Prop :=
 ∃A c,e= .returned (.slice A n c)/\Apd w' w.heap.size 9 1 A n c (flat aA us)/\Below w.heap.size w w'/\n<=c/\c<=maxLen
theorem ym(A:OA)(n c B:Nat)(us:List M5)(w:MZ)(h:Sl w B 1 A n (flat aA us))(hB:B<=w.heap.size)(hn:n<=100000) :
  Calls Tryz.prog 119 #[.slice A n c] w (vM us n w):=by
 have H:=ah h;clear h;obtain⟨i0,hi,g,d,f⟩:=info_parts iT;have Hi:=ah hi;have l:=ah g;have m:=ah d;have o:=ah f;clear hi g d f;generalize hRR:vM us n w=RR at *;have i:=ah hRR;clear hRR;cases A with
 | none =>
   have h0:n=0:=by
    rcases Nat.eq_zero_or_pos n with h | h
    . exact h
    . obtain⟨b,r,e,_⟩:=H.o.2 h;cases e
   subst h0;have hx:flat aA us= []:=by
    have:=H.o.1;rw[Nat.zero_mul]at this;exact List.length_eq_zero_iff.1 this
   have p:∀w:MZ,(binOp .eql 22 (.slice none 0 c) (.slice none 0 0)).run Tryz.prog w= .ok (.bool true) w:=fun w=>nQ w 22 9 none 0 c Tryz.underlying22
   go_enter Tryz.func119,Tryz.ntmps119
   go_wp2
   rw[<-i.o];exact⟨none,0,rfl,.inr ⟨rfl,rfl,hx⟩,af _ _,Nat.le_refl _,ZZ _⟩
 | some a =>
   have p:∀w:MZ,(binOp .eql 22 (.slice (some a) n c) (.slice none 0 0)).run Tryz.prog w= .ok (.bool false) w:=fun w=>nQ w 22 9 (some a) n c Tryz.underlying22
   go_enter Tryz.func119,Tryz.ntmps119
   go_wp2_with (at_builtin;refine aN ?_)
   refine aF ?_;refine dB (base:=w.heap.size) _ rfl (.tmp 5) (.tmp 6) 22 rfl 9 i0 _ 16 Tryz.underlying22 Hi.o l.o m.o o.o rfl (by decide) _ 0 0 [] rfl (.inr ⟨rfl,rfl,rfl⟩) B _ n c (flat aA us) rfl (H.o.alloc hB _) (I1 _) (by unfold maxLen;omega) (by omega) (by simp) ?_;intro A2 c2 w2 ha hb j k q;rw[Nat.zero_add,List.nil_append]at ha;rw[Nat.zero_add]at j ⊢;have HA:=ah ha;have HB:=ah (((af _ w).alloc ai _).trans hb);have HM:=ah k;clear ha hb q k
   go_wp2
   rw[<-i.o];exact⟨A2,c2,rfl,HA.o,HB.o,j,HM.o⟩
def fE(g:Nat->M5->M5->M5):Nat->List M5->List (Nat×M5)->List M5
 | _,ss,[]=>ss
 | k,ss,w::ws=>fE g (k+1) (ss.set w.1 (g k (ss.getD w.1 []) w.2)) ws
theorem xE:∀(ws:List (Nat×M5))(k:Nat)(ss:List M5),fE (fun _ _ x=>x) k ss ws=settle ss ws
 | [],_,_=>rfl
 | w::ws,k,ss=>xE ws (k+1) (ss.set w.1 w.2)
theorem yD{sz:Nat}(qs:List Int):∀(ws:List (Nat×M5))(k:Nat)(ss:List M5),fE (fun k o x=>x.take (fQ sz (qs.getD k 0))++o.drop (fQ sz (qs.getD k 0))) k ss ws=bM sz ss ws (qs.drop k)
 | [],_,_=>by rw[fE,bM]
 | w::ws,k,ss=>by
   rw[fE,bM,yD qs ws (k+1)];have h1: (qs.drop k).headD 0=qs.getD k 0:=by rw[List.headD_eq_head?_getD,List.head?_drop,List.getD_eq_getElem?_getD]
   have h2: (qs.drop k).tail=qs.drop (k+1):=by rw[List.tail_drop]
   rw[h1,h2]
theorem ry{w:MZ}{base g n cap i:Nat}{e:TypeId}{xs:List M4}(h:w.ownsRow base e 1 (.slice (some ⟨g,0,none⟩) n cap) n xs)(v:M4): (w.setCell ⟨g,i,none⟩ v).ownsRow base e 1 (.slice (some ⟨g,0,none⟩) n cap) n (xs.set i v):=by
 refine⟨by rw[List.length_set];exact h.1,?_⟩;rcases h.2 with ⟨hv,_⟩ | ⟨g',cap',cur,hv,h1,hh,h2,h3,h4,h5⟩
 . cases hv
 . cases hv
   refine .inr ⟨g,cap,cur.setIfInBounds i v,rfl,h1,(Bk.set (show Bk w g e cur from hh) i v),h2,h3,by rw[Array.size_setIfInBounds];exact h4,?_⟩;rw[Array.toList_setIfInBounds,List.take_set,h5]
theorem ni{w:MZ}{base g n cap:Nat}{e:TypeId}{xs:List M4}(h:w.ownsRow base e 1 (.slice (some ⟨g,0,none⟩) n cap) n xs):base<=g/\∃cur:Array M4,Bk w g e cur/\∀(i:Nat)(u:M4),xs[i]? =some u->cur[i]? =some u:=by
 rcases h.2 with ⟨hv,_⟩ | ⟨g',cap',cur,hv,h1,hh,h2,h3,h4,h5⟩
 . cases hv
 . cases hv
   refine⟨h1,cur,hh,fun i u hu=>?_⟩;rw[<-h5,List.getElem?_take]at hu;split at hu
   . rw[<-Array.getElem?_toList];exact hu
   . cases hu
theorem wR(l:List M5)(i:Nat)(x:M5): (flat aA l).set i (.string (ofL x))=flat aA (l.set i x):=by
 have h:∀l:List M5,flat aA l=l.map (fun b=> .string (ofL b)):=fun l=>by
  induction l with
  | nil=>rfl
  | cons a l ih=>unfold flat at ih ⊢;rw[List.flatMap_cons,ih];rfl
 rw[h,h,List.map_set]
theorem Gb.fresh{p q:Nat->Prop}{a b c:MZ}(h:Gb p a b)(k:Gb q b c)(hq:∀i,q i->i<a.heap.size->p i):Gb p a c :=
 ⟨k.os.trans h.os,k.tape.trans h.tape,k.output.trans h.output,Z0 h.size k.size,fun i hi hn=>(k.block i (Nat.lt_of_lt_of_le hi h.size) (fun e=>hn (hq i e hi))).trans (h.block i hi hn)⟩
theorem BS{fn:Func}{c:Tmp}(h:fn.results= #[.cell c 25]){w:MZ}{a:Array M4}{b:Nat}{x0 x1 x2 x3:M4}(h1:a[c]?.getD undef= .pointer (some ⟨b,0,none⟩))(hk:Bk w b 25 #[x0,x1,x2,x3]) :
  (results fn a).run Tryz.prog w= .ok (.agg #[x0,x1,x2,x3]) w:=by
 obtain⟨c0,c1,c2,c3⟩:=hk.dk4;simp[results,h,h1,go_sem,c0,c1,c2,c3]
structure Apl(f:Nat)(lb:Array M4)(sz:Nat)(g:Nat->M5->M5->M5)(nb B:Nat)(Inv:Nat->MZ->Prop):Prop where
 fn: (f=171/\lb= #[])∨∃p q r,f=60/\lb= #[p,q,r]
 nlt:nb<B
 call:∀k old dat W,Inv k W->old.length=sz->dat.length=sz->Calls Tryz.prog f (#[.string (ofL old),.string (ofL dat)]++lb) W fun e w'=>e= .returned (.string (ofL (g k old dat)))/\Inv (k+1) w'/\Gb (fun b=>b=nb) W w'
 len:∀k old dat,old.length=sz->dat.length=sz-> (g k old dat).length=sz
 keep:∀k W W',Inv k W->B<=W.heap.size->Below B W W'->Inv k W'
theorem xO(d:Dk)(s:Dsl)(B:Nat)(f:Nat)(lb:Array M4)(g:Nat->M5->M5->M5)(nb:Nat)(Inv:Nat->MZ->Prop)(w:MZ)(hd:d.Ok)(hm:DkM w B d s)(hB:B<=w.heap.size)(hp:d.pn.length<=1000000)(hnb:B<=nb)(ha:Apl f lb d.sz g nb w.heap.size Inv)(h0:Inv 0 w) :
  Calls Tryz.prog 59 #[dkV d s,.func (.func f) #[] lb] w fun e w'=>∃s',e= .returned (dkV {d with ss:=fE g 0 d.ss d.pn,pn:= []} s')/\DkM w' w'.heap.size {d with ss:=fE g 0 d.ss d.pn,pn:= []} s'/\Gb (fun b=>b=nb) w w'/\Inv d.pn.length w':=by
 obtain⟨W,hW⟩:=NX9 ((w.alloc (.cells (dkC d s) 25)).alloc (.cells #[.int .i64 0,.slice none 0 0,.slice none 0 0,.int .i64 0] 25))
 have H:Hid (Below w.heap.size w W):=by rw[<-hW];exact((af _ w).alloc ai _).alloc (by simp) _
 have HK:Hid (Bk W w.heap.size 25 (dkC d s)):=by rw[<-hW];exact(Bk.new w _ _).alloc _
 have HZ:Hid (Bk W (w.heap.size+1) 25 #[.int .i64 0,.slice none 0 0,.slice none 0 0,.int .i64 0]):=by
  rw[<-hW];have:=Bk.new (w.alloc (.cells (dkC d s) 25)) 25 #[.int .i64 0,.slice none 0 0,.slice none 0 0,.int .i64 0]
  rwa[Z9]at this
 have zW:W.heap.size=w.heap.size+2:=by rw[<-hW];simp
 have HM:Hid (DkM W B d s):=hm.below H.o hB;have HC:=ah (ym s.a1 d.ss.length s.c1 B d.ss W HM.o.ss (by omega) (by have:=hd.n1;omega));have HD:=ah hd;have HW:=ah hW;have HA:=ah ha;have ar:=ah hm;have HI:Hid (Inv 0 W):=ha.keep 0 w W h0 ai H.o;obtain⟨n,hn⟩:=NX9 d.ss.length
 obtain⟨m,A⟩:=NX9 d.pn.length
 have HN:=ah hn;have Q:=ah A;have au:Hid (∀W',Inv m W'->Inv d.pn.length W'):=fun W' h=>by rw[A];exact h
 have h1:=hd.n0;have h2:=hd.n1;simp only[dkV,dkC,hn,A]at HC HW HK hp h1 h2 ⊢;unfold vM at HC;clear hd hm hW ha h0 hn A;obtain⟨k0,k1,k2,k3⟩:=HK.o.dk4
 go_enter Tryz.func59,Tryz.ntmps59
 go_wp2_with fail;rw[HW.o];refine HC.o.mono ?_;rintro e w1 ⟨A1,c1,rfl,I,C,av,aw⟩;have D:Hid (Below W.heap.size W w1):=C;have ag:Hid (Inv 0 w1):=HA.o.keep 0 W w1 HI.o (by omega) (C.mono (by omega));obtain⟨gb,rfl⟩:∃gb,A1=some ⟨gb,0,none⟩:=by
  rcases I with h | ⟨h,_⟩
  . rcases h.2 with ⟨_,h⟩ | ⟨g,cap,E,hv,_⟩
    . omega
    . cases hv;exact⟨g,rfl⟩
  . omega
 have al:Hid (w1.ownsRow W.heap.size 9 1 (.slice (some ⟨gb,0,none⟩) n c1) n (flat aA d.ss)):=by
  rcases I with h | ⟨h,_⟩
  . exact h
  . omega
 have R:=ah (HK.o.below C (by omega));obtain⟨k0,k1,k2,k3⟩:=R.o.dk4;clear I C HC;go_wp2_with fail
 go_loopw[14] (fun i wr=>∃(k:Nat)(L:List M5),k<=m/\i= .int .i64 k/\L.length=n/\Hid (∀x∈L,x.length=d.sz)/\Hid (fE g 0 d.ss d.pn=fE g k L (d.pn.drop k))/\Hid (Inv k wr)/\Hid (wr.ownsRow W.heap.size 9 1 (.slice (some ⟨gb,0,none⟩) n c1) n (flat aA L))/\Hid (Gb (fun b=>b=nb∨b=gb) w1 wr)) (fun i _=>m - (intOf i).toNat)
 case atStart=>exact⟨0,d.ss,ZZ _,rfl,HN.o,HD.o.len,rfl,ag.o,al.o,Gb.refl _ _⟩
 case round =>
  obtain⟨k,L,hk,rfl,S,T,y,hI,hO,hG⟩:=hrel;have aD:=(ni hO.o).1;have zr:w1.heap.size<=wr.heap.size:=hG.o.size;have z1:=D.o.size;have hnb:=HA.o.nlt;by_cases hlt:k<m
  . obtain⟨b,aE,⟨xi,xd⟩,am,hb,hx,hc⟩:=(HM.o.pn.keep (fun p hp=>World.cell?_of_block ((hG.o.block p.block (by omega) (by omega)).trans (D.o.block p.block (by omega))))).at_ qa (by omega) (by rw[Q.o];exact hlt)
    have x0:=hc 0 _ rfl;have x1:=hc 1 _ rfl;simp only[Nat.add_zero]at x0;obtain⟨g1,g2⟩:=HD.o.pn _ (Z7 hx);simp only at g1 g2;rw[HN.o]at g1;obtain⟨c,t⟩:∃c,L[xi]? =some c:=⟨_,Z6 (by omega)⟩
    have U:L.getD xi []=c:=by rw[List.getD_eq_getElem?_getD,t];rfl
    have V:=T.o c (Z7 t);obtain⟨aq,E,u,X⟩:=ni hO.o;have Y:E[xi]? =some (.string (ofL c)):=X xi _ (by have:=gG (enc:=aA) dI L xi 0 c t (by omega);simpa [aA] using this);have J:Hid (fE g 0 d.ss d.pn=fE g (k+1) (L.set xi (g k c xd)) (d.pn.drop (k+1))):=by
     show _=_;have hl:=List.getElem?_eq_some_iff.1 hx;rw[y.o,List.drop_eq_getElem_cons hl.1,hl.2,fE,U]
    obtain⟨wa,v⟩:=NX9 (wr.alloc (.cells #[.int .i64 xi,.string (ofL xd)] 175))
    have za:wa.heap.size=wr.heap.size+1:=by rw[<-v];simp
    have K:Hid (Below wr.heap.size wr wa):=by rw[<-v];exact(af _ wr).alloc ai _
    have HX:Hid (Bk wa wr.heap.size 175 #[.int .i64 xi,.string (ofL xd)]):=by rw[<-v];exact Bk.new wr _ _
    have M:Hid (Bk wa gb 9 E):=u.below K.o u.lt;have Z:Hid (Inv k wa.drew):=HA.o.keep k wr wa.drew hI.o (by omega) (K.o.mono (by omega)).drew;have an:Hid (wa.ownsRow W.heap.size 9 1 (.slice (some ⟨gb,0,none⟩) n c1) n (flat aA L)):=by rw[<-v];exact hO.o.alloc _
    have c0:wa.cell? ⟨gb,xi,none⟩=some (.string (ofL c)):=by rw[M.o.cell];exact Y
    have c9:=M.o.free xi;have y0:=HX.o.cell 0;have y1:=HX.o.cell 1;simp at y0 y1;have ba: (xi:Int)< (n:Int):=by omega
    have ao:=ah v;have bb:=u.lt;have ab:Hid (∀W':MZ,Gb (fun b=>b=nb) wa.drew W'-> (W'.cell? ⟨wr.heap.size,0,none⟩=some (.int .i64 xi)/\W'.cell? ⟨wr.heap.size,1,none⟩=some (.string (ofL xd))/\W'.cell? ⟨gb,xi,none⟩=some (.string (ofL c)))/\W'.frozen? ⟨gb,xi,none⟩=false):=fun W' h =>
     have e1:=h.block wr.heap.size (by show _<wa.heap.size;omega) (by omega);have e2:=h.block gb (by show _<wa.heap.size;omega) (by omega)
     ⟨⟨(World.cell?_of_block e1).trans y0,(World.cell?_of_block e1).trans y1,(World.cell?_of_block e2).trans c0⟩,(show Bk W' gb 9 E from e2.trans M.o).free xi⟩
    have N:=ah (fun W hi=>HA.o.call k c xd W hi V g2);rw[am]at k2 ⊢;clear hc hx v y u X Y t U hI hO;rcases HA.o.fn with ⟨rfl,rfl⟩ | ⟨p,q,r,rfl,rfl⟩
    all_goals
     simp only[List.append_toArray,Array.append_empty,List.cons_append,List.nil_append]at N;go_wp2_with fail;rw[ao.o]
     go_region_law (first | (go_simp;go_at_call 171;refine(N.o _ Z.o).mono ?_;rintro e w4 ⟨rfl,z,o⟩;have l:=ah o;have ad:=ah z;obtain⟨⟨u0,u1,u2⟩,u3⟩:=ab.o _ o;clear z o) | (go_simp;go_at_call 60;refine(N.o _ Z.o).mono ?_;rintro e w4 ⟨rfl,z,o⟩;have l:=ah o;have ad:=ah z;obtain⟨⟨u0,u1,u2⟩,u3⟩:=ab.o _ o;clear z o))
     all_goals
      go_wp2_with fail;go_roundw
      case rel =>
       refine⟨k+1,L.set xi (g k c xd),by omega,by go_num,by rw[List.length_set];exact S,fun x hx=>?_,J.o,HA.o.keep (k+1) w4 _ ad.o (by have:=l.o.size;have e:wa.drew.heap.size=wa.heap.size:=rfl;omega) ((af _ w4).setCell (p:=⟨gb,xi,none⟩) (by show w.heap.size<=gb;omega) _),?_,?_⟩
       . rcases List.mem_or_eq_of_mem_set hx with hx | rfl
         . exact T.o x hx
         . exact HA.o.len k c xd V g2
       . rw[<-wR]
         exact ry (an.o.drew.kept (row:=some nb) ⟨l.o.os,l.o.tape,l.o.output,l.o.size,fun j hj hn=>l.o.block j hj (fun e=>hn (by rw[e]))⟩ (.inr (fun e=>absurd (Option.some.inj e) (by show gb≠nb;omega)))) _
       . exact(hG.o.trans ((Gb.of_below (K.o.drew)).trans (l.o.mono (fun _ _ e=> .inl e)))).trans (Gb.set (.inr rfl) xi _)
      case measure=>simp[intOf];omega
  . have F:Hid (fE g 0 d.ss d.pn=L):=by
      show _=_;rw[y.o,List.drop_of_length_le (by rw[Q.o];omega),fE]
    have bd:Hid (Gb (fun b=>b=nb∨b=gb) w1 wr):=hG.o;have O:Hid (Bk wr w.heap.size 25 #[.int .i64 d.sz,.slice s.a1 n s.c1,.slice s.a2 m s.c2,.int .i64 d.lf]):=hG.o.bk R.o (by omega);have P:Hid (Bk wr (w.heap.size+1) 25 #[.int .i64 0,.slice none 0 0,.slice none 0 0,.int .i64 0]):=hG.o.bk (HZ.o.below D.o (by omega)) (by omega);obtain⟨k0,k1,k2,k3⟩:=O.o.dk4;obtain⟨z0,z1,z2,z3⟩:=P.o.dk4;obtain⟨f0,f1,f2,f3⟩:=fr4 P.o;have e1:=O.o.free 1;have e2:=O.o.free 2;have ap:Hid (Gb (fun b=>b=nb) w wr):=((Gb.of_below H.o).trans (Gb.of_below (D.o.mono (by omega)))).fresh hG.o (fun i hi hlt=>by rcases hi with h | h;exact h;omega);have G:Hid ((fE g 0 d.ss d.pn).length=n):=by show _=_;rw[F.o];exact S
    clear hG;go_wp2_with fail;have HE:=ah (((P.o.far (p:=⟨w.heap.size,1,none⟩) (by show w.heap.size+1≠w.heap.size;omega) (.slice (some ⟨gb,0,none⟩) n c1)).far (p:=⟨w.heap.size,2,none⟩) (by show w.heap.size+1≠w.heap.size;omega) (.slice none 0 0)).set4 (.int .i64 d.sz) (.slice (some ⟨gb,0,none⟩) n c1) (.slice none 0 0) (.int .i64 d.lf));refine ZY (BS Tryz.results59 rfl HE.o) rfl ?_;refine⟨⟨some ⟨gb,0,none⟩,c1,none,0⟩,by rw[G.o],⟨?_,Sl.nil _ _ _ _⟩,?_⟩
    . show Sl _ _ 1 (some ⟨gb,0,none⟩) (fE g 0 d.ss d.pn).length (flat aA (fE g 0 d.ss d.pn))
      rw[G.o,F.o];have b0:w.heap.size<W.heap.size:=by omega
      have b1:w.heap.size+1<W.heap.size:=by omega
      exact Sl.of_own (ownsRow_setCell_below (ownsRow_setCell_below (ownsRow_setCell_below (ownsRow_setCell_below (ownsRow_setCell_below (ownsRow_setCell_below hO.o (a:=⟨w.heap.size,1,none⟩) b0 _) (a:=⟨w.heap.size,2,none⟩) b0 _) (a:=⟨w.heap.size+1,0,none⟩) b1 _) (a:=⟨w.heap.size+1,1,none⟩) b1 _) (a:=⟨w.heap.size+1,2,none⟩) b1 _) (a:=⟨w.heap.size+1,3,none⟩) b1 _)
    . have l0:w.heap.size<=w.heap.size:=Nat.le_refl _
      obtain rfl:k=m:=by omega
      have l1:w.heap.size<=w.heap.size+1:=by omega
      exact⟨(((((ap.o.after l0 1 _).after l0 2 _).after l1 0 _).after l1 1 _).after l1 2 _).after l1 3 _,HA.o.keep k wr _ hI.o (by omega) ((((((((af w.heap.size wr).setCell (p:=⟨w.heap.size,1,none⟩) l0 _).setCell (p:=⟨w.heap.size,2,none⟩) l0 _).setCell (p:=⟨w.heap.size+1,0,none⟩) l1 _).setCell (p:=⟨w.heap.size+1,1,none⟩) l1 _).setCell (p:=⟨w.heap.size+1,2,none⟩) l1 _).setCell (p:=⟨w.heap.size+1,3,none⟩) l1 _))⟩
