/-
  Lemmas of the card.
-/
import Derived.Test.YtknefelegjlgnaaGreatDoorDCDu16
set_option maxRecDepth 100000
set_option maxHeartbeats 8000000
namespace Go.Proofs.YtknefelegjlgnaaGreatDoor
open Go.RowKit
theorem mF(s:MR)(k:Nat):toL (s.extract k s.size)= (toL s).drop k:=by
 show(s.extract k s.size).data.toList=_;rw[jW,ZW];rfl;rw[List.length_drop];show(toL s).length - k<=_;rw[<-aP];omega
def L8(r:Nat×Nat×Int)(k:Nat)(w:MQ)(e:Ending)(w':MQ):Prop:=e= .returned (.tuple #[.int .i64 r.1,.int .i64 (k+r.2.1:Nat),.int .i64 r.2.2])/\w=w'
theorem EK(s:MR)(k:Nat)(hk:k<=s.size)(hs:s.size<=maxLen)(w:MQ):Calls Tryz.prog 314 #[.string s,.int .i64 k,.func (.func 141) #[] #[]] w (L8 (ay ((toL s).drop k)) k w):=by
 have HX:Hid (toL (s.extract k s.size)= (toL s).drop k):=mF s k;have h0: (k:Int)<= (s.size:Int):=by omega
 unfold maxLen at hs
 go_enter Tryz.func314,Tryz.ntmps314
 go_wp2_with fail;refine(jC (s.extract k s.size) _).mono ?_;rw[HX.out];have hle:=kN ((toL s).drop k);rw[List.length_drop,<-aP]at hle;generalize ay ((toL s).drop k)=r at *;obtain⟨n,m,e⟩:=r;rintro e' w' ⟨rfl,rfl⟩;simp only at hle ⊢
 go_wp2
 go_ret3
 exact⟨by simp,rfl⟩
theorem Ed(s:MR)(hs:s.size<=maxLen)(w:MQ):Calls Tryz.prog 314 #[.string s,.int .i64 0,.func (.func 141) #[] #[]] w (qF (ay (toL s)) w):=by
 have h:=EK s 0 (ZZ _) hs w;refine h.mono ?_;rintro e w' ⟨he,hw⟩;rw[Nat.zero_add]at he;exact⟨he,hw⟩
def Ma(r:MU×Nat×Int)(k:Nat)(w:MQ)(e:Ending)(w':MQ):Prop:=e= .returned (.tuple #[.string (ofL r.1),.int .i64 (k+r.2.1:Nat),.int .i64 r.2.2])/\w=w'
theorem DT(s:MR)(k:Nat)(hk:k<=s.size)(hs:s.size<=maxLen)(w:MQ):Calls Tryz.prog 315 #[.string s,.int .i64 k,.func (.func 226) #[] #[]] w (Ma (aK ((toL s).drop k)) k w):=by
 have HX:Hid (toL (s.extract k s.size)= (toL s).drop k):=mF s k;have h0: (k:Int)<= (s.size:Int):=by omega
 have hz: (s.extract k s.size).size<=maxLen:=by rw[ByteArray.size_extract];omega
 unfold maxLen at hs;have HZ:=ah hz;clear hz
 go_enter Tryz.func315,Tryz.ntmps315
 go_wp2_with fail;refine(nV (s.extract k s.size) HZ.out _).mono ?_;rw[HX.out];have hle:=pW ((toL s).drop k);rw[List.length_drop,<-aP]at hle;generalize aK ((toL s).drop k)=r at *;obtain⟨t,m,e⟩:=r;obtain⟨ts,hts⟩:∃ts,ofL t=ts:=⟨_,rfl⟩
 rintro e' w' ⟨rfl,rfl⟩;simp only at hle ⊢;rw[hts];have HTS:=ah hts;clear hts
 go_wp2
 go_ret3
 exact⟨by rw[HTS.out];simp,rfl⟩
def vO(b:MU)(w:MQ)(e:Ending)(w':MQ):Prop:=Below w.heap.size w w'/\match eZ b with
 | none=>∃er:Int,er≠0/\e= .returned (.tuple #[.slice none 0 0,.int .i64 0,.int .i64 er])
 | some p=>∃A cc,e= .returned (.tuple #[.slice A p.1.length cc,.int .i64 p.2,.int .i64 0])/\w'.ownsRow w.heap.size 9 1 (.slice A p.1.length cc) p.1.length (flat aA p.1)/\p.1.length<=cc/\cc<=maxLen
theorem Bu{n at_:Nat}{b:MU}:fo (n+1) at_ b=if(aK b).2.2≠0 then none else match fo n (at_+ (aK b).2.1) (b.drop (aK b).2.1) with
  | none=>none
  | some (l,c)=>some ((aK b).1::l,c):=rfl
def pre(d:List MU):Option (List MU×Nat)->Option (List MU×Nat)
 | none=>none
 | some (l,c)=>some (d++l,c)
theorem Kw(o:Option (List MU×Nat)):pre [] o=o:=by cases o with | none=>rfl | some p=>rfl
theorem I1(d:List MU)(n at_:Nat)(b:MU)(h: (aK b).2.2=0):pre d (fo (n+1) at_ b)=pre (d++ [(aK b).1]) (fo n (at_+ (aK b).2.1) (b.drop (aK b).2.1)):=by
 rw[Bu,if_neg (by simp[h])];cases fo n (at_+ (aK b).2.1) (b.drop (aK b).2.1) with
 | none=>rfl
 | some p=>obtain⟨l,c⟩:=p;simp[pre]
theorem I8(d:List MU)(n at_:Nat)(b:MU)(h: (aK b).2.2≠0):pre d (fo (n+1) at_ b)=none:=by rw[Bu,if_pos h];rfl
theorem DJ(s:MR)(hs:s.size<=maxLen)(w:MQ):Calls Tryz.prog 280 #[.string s] w (vO (toL s) w):=by
 have HR:Hid (∀r,eZ (toL s)=r->∀e w',(Below w.heap.size w w'/\match r with
  | none=>∃er:Int,er≠0/\e= .returned (.tuple #[.slice none 0 0,.int .i64 0,.int .i64 er])
  | some p=>∃A cc,e= .returned (.tuple #[.slice A p.1.length cc,.int .i64 p.2,.int .i64 0])/\w'.ownsRow w.heap.size 9 1 (.slice A p.1.length cc) p.1.length (flat aA p.1)/\p.1.length<=cc/\cc<=maxLen)->vO (toL s) w e w'):=fun r h e w' hh=>by rw[vO,h];exact hh
 have HD:Hid (eZ (toL s)=if(ay (toL s)).2.2≠0∨1000< (ay (toL s)).1 then none else fo (ay (toL s)).1 (ay (toL s)).2.1 ((toL s).drop (ay (toL s)).2.1)):=rfl;have hle:=kN (toL s);rw[<-aP]at hle;have HI:=ah (Ed s hs);have HS:=ah hs;obtain⟨i0,hi,hz0,hz1,hz2⟩:=info_parts iR;have Hi:=ah hi;have Hz0:=ah hz0;have Hz1:=ah hz1;have Hz2:=ah hz2;clear hi hz0 hz1 hz2;unfold maxLen at hs
 go_enter Tryz.func280,Tryz.ntmps280
 go_wp2_with fail;refine(HI.out _).mono ?_;generalize ay (toL s)=r at *;obtain⟨n,k0,e⟩:=r;rintro e' w' ⟨rfl,rfl⟩;simp only at hle HD ⊢;clear HI;by_cases he:e=0
 . subst he
   by_cases hn:1000<n
   . have hni: (1000:Int)< (n:Int):=by omega
     have hfin:Hid (eZ (toL s)=none):=by show _=_;rw[HD.out,if_pos (.inr hn)]
     clear HD
     go_wp2
     go_ret3
     exact HR.out _ hfin.out _ _ ⟨af _ _,13,by omega,rfl⟩
   . have hni:¬(1000:Int)< (n:Int):=by omega
     have HD2:Hid (eZ (toL s)=fo n k0 ((toL s).drop k0)):=by show _=_;rw[HD.out,if_neg (by simp;omega)]
     clear HD
     go_wp2
     go_loopw[8,6,22] (fun v a i wr=>∃(k at_:Nat)(d:List MU)(A':OA)(c':Nat),k<=n/\i= .int .i64 k/\a= .int .i64 at_/\at_<=s.size/\v= .slice A' k c'/\d.length=k/\Hid (wr.ownsRow w.heap.size 9 1 (.slice A' k c') k (flat aA d))/\k<=c'/\c'<=maxLen/\Hid (eZ (toL s)=pre d (fo (n - k) at_ ((toL s).drop at_)))/\Hid (Below w.heap.size w wr)) (fun _ _ i _=>n - (intOf i).toNat)
     case atStart=>exact⟨0,k0,[],none,0,ZZ _,rfl,rfl,hle,rfl,rfl,World.ownsRow_nil _ _ _ _,Nat.le_refl _,ZZ _,by show _=_;rw[Kw];exact HD2.out,af _ _⟩
     case round =>
      obtain⟨k,at_,d,A',c',hk,rfl,rfl,hat,rfl,hdl,hO,hkc,hcm,hG,hBel⟩:=hrel;by_cases hlt:k<n
      . obtain⟨m,hm⟩:∃m,n - k=m+1:=⟨n - k - 1,by omega⟩
        have hm2:n - (k+1)=m:=by omega
        have HN:=ah (DT s at_ hat HS.out);have hle2:=pW ((toL s).drop at_);rw[List.length_drop,<-aP]at hle2;rw[hm]at hG;have hlz: (k:Int)< (n:Int):=by omega
        have HM2:=ah hm2;clear hm hm2;go_wp2_with fail;refine(HN.out _).mono ?_;have HF:=ah (I8 d m at_ ((toL s).drop at_));have HK:=ah (I1 d m at_ ((toL s).drop at_));rw[List.drop_drop]at HK;generalize aK ((toL s).drop at_)=g at *;obtain⟨t,q,e⟩:=g;simp only at hle2 HF HK;rintro e' w' ⟨rfl,rfl⟩;simp only;clear HN;by_cases he:e=0
        . subst he
          have HG2:Hid (eZ (toL s)=pre (d++ [t]) (fo m (at_+q) ((toL s).drop (at_+q)))):=hG.out.trans (HK.out rfl);obtain⟨v,hv⟩:∃v,ofL t=v:=⟨_,rfl⟩
          have HV:Hid (flat aA (d++ [t])=flat aA d++ [.string v]):=by show _=_;rw[bu];rw[<-hv];rfl
          have hv1:∀u∈ [(Value.string v)],u.oneCell'=true:=fun u hu=>by rw[List.mem_singleton.1 hu];rfl
          have HO3:Hid ((wr.alloc (.cells #[.string v] 9)).ownsRow w.heap.size 9 1 (.slice A' k c') k (flat aA d)):=hO.out.alloc _;have z2:=hBel.out.size;rw[hv];clear HK HF hv hG
          go_wp2_with (at_builtin;refine aM ?_)
          refine aF ?_;refine iL (base:=w.heap.size) (size:=1) _ rfl (.tmp 34) (.tmp 36) 22 rfl 9 i0 _ 16 Tryz.underlying22 Hi.out Hz0.out Hz1.out Hz2.out rfl (by decide) (.slice A' k c') k (flat aA d) (by rfl) HO3.out (wr.heap.size+1) (some ⟨wr.heap.size,0,none⟩) 1 1 [.string v] (by rfl) (Sl.new wr 9 [.string v] 1 rfl) hv1 (by unfold maxLen;omega) (by omega) (by simp;omega) ?_;intro A4 c4 w4 ho4 hg4 hc4 hm4;rw[<-HV.out]at ho4;have HO4:=ah ho4;have HB4:Hid (Below w.heap.size w w4):=(hBel.out.alloc (by omega) _).grown hg4 (by simp;omega) (fun g hg=>iw HO3.out g hg);have HM4:=ah hm4;clear ho4 hg4 hm4 HO3 hv1;go_wp2_with fail;go_roundw
          case rel=>exact⟨k+1,at_+q,d++ [t],A4,c4,by omega,by go_num,by go_num,by omega,rfl,by simp[hdl],HO4.out,hc4,HM4.out,by show _=_;rw[HM2.out];exact HG2.out,HB4.out⟩
          case measure=>simp[intOf];omega
        . have hne: (e != 0)=true:=by rw[bne_iff_ne];exact he
          have hfin:Hid (eZ (toL s)=none):=by show _=_;rw[hG.out,HF.out he]
          have HE:=ah he;clear HK HF hG he
          go_wp2
          go_ret3
          exact HR.out _ hfin.out _ _ ⟨hBel.out,e,HE.out,rfl⟩
      . obtain rfl:k=n:=by omega
        have hfin:Hid (eZ (toL s)=some (d,at_)):=by show _=_;rw[hG.out,Nat.sub_self,fo,pre,List.append_nil]
        have HDL:=ah hdl;have HCM:=ah hcm;clear hG hdl hcm
        go_wp2
        go_ret3
        have e1: ((d,at_).1:List MU).length=k:=HDL.out;exact HR.out _ hfin.out _ _ ⟨hBel.out,A',c',by rw[e1];first | done | rfl,by rw[e1];exact hO.out,by rw[e1];exact hkc,HCM.out⟩
 . have hne: (e != 0)=true:=by rw[bne_iff_ne];exact he
   have hfin:Hid (eZ (toL s)=none):=by show _=_;rw[HD.out,if_pos (.inl he)]
   have HE:=ah he;clear HD he
   go_wp2
   go_ret3
   exact HR.out _ hfin.out _ _ ⟨af _ _,e,HE.out,rfl⟩
theorem Dp(c sz:Nat)(h0:0<sz)(hc:c<=1000000000)(hs:sz<=512)(w:MQ):Calls Tryz.prog 223 #[.int .i64 c,.int .i64 sz] w fun e w'=>e= .returned (.int .i64 (nsec c sz:Nat))/\w=w':=by
 have hq: ((c:Int)+ (sz:Int) - 1) / (sz:Int)= (nsec c sz:Nat):=by
  unfold nsec;rw[Int.natCast_ediv,show((c+sz - 1:Nat):Int)= (c:Int)+ (sz:Int) - 1 by omega]
 have hle:nsec c sz<=c+sz - 1:=Nat.div_le_self _ _;have hz:¬((sz:Int)=0):=by omega
 have HQ:=ah hq;clear hq hle;generalize nsec c sz=q at *
 go_enter Tryz.func223,Tryz.ntmps223
 go_wp2
 go_ret
 exact⟨by rw[<-HQ.out];rfl,rfl⟩
def ny(b:MU)(w:MQ)(e:Ending)(w':MQ):Prop:=Below w.heap.size w w'/\match dD b with
 | none=>∃A n c m,e= .returned (.tuple #[.slice A n c,m,.bool false])
 | some p=>∃A cc,e= .returned (.tuple #[.slice A p.1.length cc,.int .i64 p.2,.bool true])/\w'.ownsRow w.heap.size 9 1 (.slice A p.1.length cc) p.1.length (flat aA p.1)/\p.1.length<=cc/\cc<=maxLen
theorem G6(x:UInt8)(s:MU):dD (x::s)=if x≠1∨ (ay s).2.2≠0∨s.length< (ay s).2.1+ (ay s).1 then none else
  match eZ ((s.drop (ay s).2.1).take (ay s).1) with
  | none=>none
  | some (l,c)=>if c= (ay s).1 then some (l,1+ (ay s).2.1+ (ay s).1) else none:=rfl
theorem Dj(s:MR)(h0:0<s.size)(hs:s.size<=maxLen)(w:MQ):Calls Tryz.prog 222 #[.string s] w (ny (toL s) w):=by
 have hcons:toL s=s[0]:: (toL s).drop 1:=by have:=rZ h0;rwa[List.drop_zero]at this
 have HN:Hid (dD (toL s)=none->∀e w',Below w.heap.size w w'-> (∃A n c m,e= .returned (.tuple #[.slice A n c,m,.bool false]))->ny (toL s) w e w'):=fun h e w' hb hh=>by rw[ny,h];exact⟨hb,hh⟩
 have HS:Hid (∀p,dD (toL s)=some p->∀e w',Below w.heap.size w w'-> (∃A cc,e= .returned (.tuple #[.slice A p.1.length cc,.int .i64 p.2,.bool true])/\w'.ownsRow w.heap.size 9 1 (.slice A p.1.length cc) p.1.length (flat aA p.1)/\p.1.length<=cc/\cc<=maxLen)->ny (toL s) w e w'):=fun p h e w' hb hh=>by rw[ny,h];exact⟨hb,hh⟩
 have HD:=ah (G6 s[0] ((toL s).drop 1));rw[<-hcons]at HD;have HX:Hid (toL (s.extract 1 s.size)= (toL s).drop 1):=mF s 1;have hle:=kN ((toL s).drop 1);have hmx:=uk ((toL s).drop 1);have hdl: ((toL s).drop 1).length=s.size - 1:=by rw[List.length_drop,<-aP]
 rw[hdl]at hle HD;have HM:=ah hs;unfold maxLen at hs;have hd:s[0].toNat<256:=s[0].toNat_lt;have h1i: (1:Int)<= (s.size:Int):=by omega
 clear hcons hdl;by_cases hx:s[0]=1
 . have hxi:s[0].toNat=1:=by rw[hx];rfl
   go_enter Tryz.func222,Tryz.ntmps222
   go_wp2_with fail;refine(jC (s.extract 1 s.size) _).mono ?_;rw[HX.out];have HE:=ah (fun k n=>rH s k n);have HDR:Hid (∀m,((toL s).drop 1).drop m= (toL s).drop (1+m)):=fun m=>by show _=_;rw[List.drop_drop]
   generalize ay ((toL s).drop 1)=r at *;obtain⟨n,m,e⟩:=r;rintro e' w' ⟨rfl,rfl⟩;simp only at hle hmx HD ⊢;by_cases he:e=0
   . subst he
     by_cases hl:s.size - 1<m+n
     . have hli: (s.size:Int) - (1+ (m:Int))< (n:Int):=by omega
       have hfin:Hid (dD (toL s)=none):=by show _=_;rw[HD.out,if_pos (.inr (.inr hl))]
       clear HD
       go_wp2
       go_ret3
       exact HN.out hfin.out _ _ (af _ _) ⟨_,_,_,_,rfl⟩
     . have hli:¬(s.size:Int) - (1+ (m:Int))< (n:Int):=by omega
       have HD2:Hid (dD (toL s)=match eZ (((toL s).drop (1+m)).take n) with
         | none=>none
         | some (l,c)=>if c=n then some (l,1+m+n) else none):=by
        show _=_;rw[HD.out,if_neg (by simp[hx];omega),HDR.out]
       have HG:=ah (DJ (ofL (((toL s).drop (1+m)).take n)) (by rw[bG,List.length_take];have:=HM.out;omega));rw[bO,<-HE.out (1+m) n]at HG;clear HD HDR HE;go_wp2_with fail;refine(HG.out _).mono ?_;rintro e w1 ⟨hb1,h1⟩;have HB1:=ah hb1;clear HG;generalize eZ (((toL s).drop (1+m)).take n)=g at *;cases g with
       | none =>
         obtain⟨er,her,rfl⟩:=h1;have hne: (er == 0)=false:=by rw[beq_eq_false_iff_ne];exact her
         have hfin:Hid (dD (toL s)=none):=HD2.out;clear HD2 her hb1
         go_wp2
         go_ret3
         exact HN.out hfin.out _ _ HB1.out ⟨_,_,_,_,rfl⟩
       | some p =>
         obtain⟨l,c⟩:=p;obtain⟨A,cc,rfl,ho,hcc,hcm⟩:=h1;have HO:=ah ho;have HCC:=ah hcc;have HCM:=ah hcm;clear ho hcc hcm hb1;by_cases hcn:c=n
         . subst hcn
           have hfin:Hid (dD (toL s)=some (l,1+m+c)):=by show _=_;rw[HD2.out];simp
           clear HD2
           go_wp2
           go_ret3
           exact HS.out _ hfin.out _ _ HB1.out ⟨A,cc,by simp,HO.out,HCC.out,HCM.out⟩
         . have hfin:Hid (dD (toL s)=none):=by show _=_;rw[HD2.out];simp[hcn]
           have hcf: ((c:Int) == (n:Int))=false:=by rw[beq_eq_false_iff_ne];omega
           clear HD2
           go_wp2
           go_ret3
           exact HN.out hfin.out _ _ HB1.out ⟨_,_,_,_,rfl⟩
   . have hne: (e != 0)=true:=by rw[bne_iff_ne];exact he
     have hfin:Hid (dD (toL s)=none):=by show _=_;rw[HD.out,if_pos (.inr (.inl he))]
     clear HD he
     go_wp2
     go_ret3
     exact HN.out hfin.out _ _ (af _ _) ⟨_,_,_,_,rfl⟩
 . have hxi:¬s[0].toNat=1:=fun h=>hx (UInt8.toNat_inj.1 h)
   have hfin:Hid (dD (toL s)=none):=by show _=_;rw[HD.out,if_pos (.inl hx)]
   have hxb: ((s[0].toNat:Int) != 1)=true:=by rw[bne_iff_ne];omega
   clear HD hxi
   go_enter Tryz.func222,Tryz.ntmps222
   go_wp2
   go_ret3
   exact HN.out hfin.out _ _ (af _ _) ⟨_,_,_,_,rfl⟩
section
def qH{α:Type}(F:Fence)(n:Nat)(P:Program)(g:Nat)(lb:Array MS)(encs:α->Array MS)(Kp St:MQ->MQ->Prop)(Pf:MQ->List α->Prop)(S Sp:List α->Prop)(hz:Nat)(w:MQ):Prop :=
 ∀(l:Nat)(J Jx:List α->MQ->Prop)(W:MQ),Below w.heap.size w W->W.heap.size=hz-> (∀pre A B,J pre A->St A B->J pre B) ->
  (∀pre x W1,Pf W1 (pre++ [x])->J pre W1->YieldAt F (n - 1) P l (encs x) W1 fun e W' =>
    (e= .returned (.bool true)/\J (pre++ [x]) W'/\Kp W1 W')∨ (e= .returned (.bool false)/\Jx (pre++ [x]) W')) ->
  J [] W ->
  CallsIn F n P g (#[.func (.yield l) #[] #[]]++lb) W fun e W'=>(∃v,e= .returned v)/\ ((∃xs,S xs/\J xs W')∨ (∃pre,Sp pre/\Jx pre W'))
variable {F : Fence} {n : Nat} {P : Program}
theorem Et{α:Type}{g:Operand}{ps:Array Tmp}{assign body:Code}{Q:Exit->Act->MQ->Prop}{a:Act}{w:MQ}
  (hro:F.round=none) (h1:1<=n) {gf:Nat} {lb:Array MS} (hg:a.eval g= .func (.func gf) #[] lb) (hFg:F.fn gf) (eg:∀args w,(callFunc gf args).run P w= .ok (.enter gf args) w)
  {encs:α->Array MS} {Kp St:MQ->MQ->Prop} {Pf:MQ->List α->Prop} {S Sp:List α->Prop} {w0:MQ} (hseq:qH F (n - 1) P gf lb encs Kp St Pf S Sp (w.heap.size+2) w0)
  (hKt:∀{A B C:MQ},Kp A B->Kp B C->Kp A C) (hKb:∀(W:MQ)(l:Nat)(r:Loop)(o':Obj),w.heap.size+1=l->W.heap[l]? =some (.loop r)->Kp W (W.putObj l o')) (hPb:∀(W:MQ)(l:Nat)(r:Loop)(o':Obj)(xs:List α),w.heap.size+1=l->W.heap[l]? =some (.loop r)->Pf W xs->Pf (W.putObj l o') xs) (hSo:∀A B,St A B->w.heap.size+2<=A.heap.size->ja w.heap.size A B) (hb0:Below w0.heap.size w0 w) (hps:∀x,(encs x).size=ps.size)
  (I:List α->MQ->Prop) (Ix:Code->List α->MQ->Prop) (hI:OwnFrom w.heap.size I) (hIx:∀c,OwnFrom w.heap.size (Ix c)) (hIS:∀pre A B,I pre A->St A B->I pre B) (h0:I [] w) (a₁:α->Act)
  (hassign:∀(l:Nat)(x:α)(W:MQ)(K:Act->MQ->Prop),K (a₁ x) W ->
    assign.wpIn (F.inRound l) (n - 1 - 1) P (Exit.then K (fun _ _ _=>False)) {tmps:=(ps.zip (encs x)).foldl (fun t (p,v)=>t.setIfInBounds p v) a.tmps,defers:= []} W)
  (hbody:∀(l:Nat)(pre:List α)(x:α)(W:MQ),Pf W (pre++ [x])->w.heap.size+2<=W.heap.size->I pre W->body.wpIn (F.inRound l) (n - 1 - 1) P (AO w.heap.size Kp I Ix (pre++ [x]) W) (a₁ x) W)
  (hdone:∀(D:Nat)(xs:List α)(W:MQ),w.heap.size<=D->S xs->I xs W->W.heap[D]? =some (.deferred (some []))->Q .normal {a with defers:={target:= .collected D,args:=#[]}::a.defers} W)
  (hstop:∀(D:Nat)(c:Code)(pre:List α)(W:MQ),w.heap.size<=D->Sp pre->Ix c pre W->W.heap[D]? =some (.deferred (some []))->c.wpIn F n P Q {a with defers:={target:= .collected D,args:=#[]}::a.defers} W) :
  (Code.rangeFunc g ps assign body).wpIn F n P Q a w:=by
 refine wpIn_rangeFunc ?_;intro fn hfn;rw[hro]
 -- the loop's record in block L,the block of its deferred calls in block D
 obtain⟨D,hD⟩:∃D,w.heap.size=D:=⟨_,rfl⟩
 obtain⟨rec,hrec⟩:∃rec:LoopState->Option Code->Loop,rec=fun st pe=>{state:=st,pending:=pe,fn,tmps:=a.tmps,params:=ps,assign,body,defers:=D}:=⟨_,rfl⟩
 obtain⟨W1,hW1⟩:∃W1,(w.alloc (.deferred (some []))).alloc (.loop (rec .ready none))=W1:=⟨_,rfl⟩
 have hL1:W1.heap[D+1]? =some (.loop (rec .ready none)):=by
  rw[<-hW1,<-hD];have:=World.alloc_heap_new (w.alloc (.deferred (some []))) (.loop (rec .ready none));rwa[Z9]at this
 have hK1:W1.heap[D]? =some (.deferred (some [])):=by
  rw[<-hW1,<-hD];exact(Below.heap_alloc _ _ _ (by simp)).trans (World.alloc_heap_new w _)
 have hI1:I [] W1:=by rw[<-hW1];exact hI.alloc _ (hI.alloc _ h0)
 have hb1:Below w0.heap.size w0 W1:=by
  rw[<-hW1];exact hb0.trans ((((af _ w).alloc ai _).alloc (by simp) _).mono hb0.size)
 refine⟨D+1,[{target:= .collected D,args:=#[]}],W1,{target:= .fn (.func gf) lb,args:=#[.func (.yield (D+1)) #[] #[]]},W1,gf,
  #[.func (.yield (D+1)) #[] #[]]++lb,W1,?_,?_,?_,?_,fun _=>h1,?_⟩
 . rw[<-hW1,hrec,<-hD];exact run_enterLoop_outer _ _ _ _ _
 . simp only[resolve,hg]
   simp[go_sem]
 . intro f' hf';simp[Target.leads]at hf';subst hf';exact hFg
 . simp[invoke,go_sem,eg]
 . refine(hseq (D+1)
     (fun pre W=>I pre W/\W.heap[D+1]? =some (.loop (rec .ready none))/\W.heap[D]? =some (.deferred (some [])))
     (fun pre W=>∃c,Ix c pre W/\W.heap[D+1]? =some (.loop (rec .done (some c)))/\W.heap[D]? =some (.deferred (some [])))
     W1 hb1 (by rw[<-hW1];simp)
     (fun pre A B hs hst=>by
       have hz2:=(Array.getElem?_eq_some_iff.1 hs.2.1).1;have hr:=hSo A B hst (by omega);rw[hD]at hr;exact⟨hIS pre A B hs.1 hst,hr.2.trans hs.2.1,hr.1.trans hs.2.2⟩)
     ?_ ⟨hI1,hL1,hK1⟩).mono ?_
   . rintro pre x W hpf ⟨hi,hl,hk⟩
     have hlt:D+1<W.heap.size:=(Array.getElem?_eq_some_iff.1 hl).1;have hy:=run_yield (P:=P) (args:=encs x) hl (by rw[hrec];exact hps x);rw[hrec]at hy;refine⟨fn,_,assign,body,hy,roundIn_of_wpIn hfn (hassign _ x W _ ⟨_,run_beginRound hl (by rw[hrec]),?_⟩)⟩;obtain⟨W2,hW2⟩:∃W2,W.putObj (D+1) (.loop {rec .ready none with state:= .busy})=W2:=⟨_,rfl⟩
     have hl2:W2.heap[D+1]? =some (.loop {rec .ready none with state:= .busy}):=by rw[<-hW2];exact World.putObj_heap_same hlt
     have hk2:W2.heap[D]? =some (.deferred (some [])):=by rw[<-hW2];exact(World.putObj_heap_other (by omega)).trans hk
     have hw2:Kp W W2:=by rw[<-hW2];exact hKb _ _ _ _ (by omega) hl
     have hi2:I pre W2:=by rw[<-hW2];exact hI.putObj _ hi (by omega) hl rfl
     rw[hW2];refine wpIn_mono (hbody _ pre x _ (by rw[<-hW2];exact hPb _ _ _ _ _ (by omega) hl hpf) (by have:=(Array.getElem?_eq_some_iff.1 hl2).1;omega) hi2) ?_;have fin:∀(jump:Option Code)(W3:MQ),ja w.heap.size W2 W3 ->
       (Instr.endRound (D+1) jump).run P W3= .ok (.bool jump.isNone) (W3.putObj (D+1) (.loop (rec (if jump.isNone then .ready else .done) jump))) ∧
       W3.heap[D+1]? =some (.loop {rec .ready none with state:= .busy}) ∧
       (W3.putObj (D+1) (.loop (rec (if jump.isNone then .ready else .done) jump))).heap[D+1]? =some (.loop (rec (if jump.isNone then .ready else .done) jump)) ∧
       (W3.putObj (D+1) (.loop (rec (if jump.isNone then .ready else .done) jump))).heap[D]? =some (.deferred (some [])):=fun jump W3 hk3=>by
      rw[hD]at hk3;have hl3:=hk3.2.trans hl2;have:=run_endRound (P:=P) jump hl3;rw[hrec]at this ⊢;exact⟨this,by rw[hrec]at hl3;exact hl3,World.putObj_heap_same (Array.getElem?_eq_some_iff.1 hl3).1,(World.putObj_heap_other (by omega)).trans (hk3.1.trans hk2)⟩
     rintro e a3 W3 hp;cases e with
     | normal =>
       obtain⟨hk3,hkp3,hi3⟩:=hp;obtain⟨hr,hl3,hl4,hk4⟩:=fin none W3 hk3;exact⟨_,_,hr,.inl ⟨rfl,⟨hI.putObj _ hi3 (by omega) hl3 rfl,hl4,hk4⟩,hKt (hKt hw2 hkp3) (hKb _ _ _ _ (by omega) hl3)⟩⟩
     | ret =>
       obtain⟨hk3,hi3⟩:=hp;obtain⟨hr,hl3,hl4,hk4⟩:=fin (some .ret) W3 hk3;exact⟨_,_,hr,.inr ⟨rfl,.ret,(hIx _).putObj _ hi3 (by omega) hl3 rfl,hl4,hk4⟩⟩
     | exit id =>
       obtain⟨hk3,hi3⟩:=hp;obtain⟨hr,hl3,hl4,hk4⟩:=fin (some (.exit id)) W3 hk3;exact⟨_,_,hr,.inr ⟨rfl,.exit id,(hIx _).putObj _ hi3 (by omega) hl3 rfl,hl4,hk4⟩⟩
     | goto t =>
       obtain⟨hk3,hi3⟩:=hp;obtain⟨hr,hl3,hl4,hk4⟩:=fin (some (.goto t)) W3 hk3;exact⟨_,_,hr,.inr ⟨rfl,.goto t,(hIx _).putObj _ hi3 (by omega) hl3 rfl,hl4,hk4⟩⟩
     | panic ch=>exact hp.elim
     | outgrown=>exact hp.elim
   . rintro e W2 ⟨⟨v,rfl⟩,(⟨xs,hS,hi,hl,hk⟩ | ⟨pre,hSp,c,hi,hl,hk⟩)⟩
     . exact⟨none,_,by have:=run_endLoop (P:=P) hl (by rw[hrec];simp);rw[hrec]at this;exact this,hdone _ xs _ (by omega) hS (hI.putObj _ hi (by omega) hl rfl) ((World.putObj_heap_other (by omega)).trans hk)⟩
     . exact⟨some c,_,by have:=run_endLoop (P:=P) hl (by rw[hrec];simp);rw[hrec]at this;exact this,hstop _ c pre _ (by omega) hSp ((hIx c).putObj _ hi (by omega) hl rfl) ((World.putObj_heap_other (by omega)).trans hk)⟩
end
section
attribute [local go_sem] Oper.semAt_some
abbrev Fr:=(OA×Nat×Nat)×List MU×Int
def frV(x:Fr):Array MS:=#[.slice x.1.1 x.1.2.1 x.1.2.2,.int .i64 x.2.2]
def frL(xs:List Fr):List MU:=xs.flatMap (·.2.1)
def frU(xs:List Fr):Int:=(xs.getLast?.map (·.2.2)).getD 0
theorem tF(xs:List Fr)(x:Fr):frU (xs++ [x])=x.2.2:=by simp[frU]
theorem tu(xs:List Fr)(x:Fr):frL (xs++ [x])=frL xs++x.2.1:=by simp[frL]
def FrSt(sz:Nat)(b:MU)(ls:List MU)(u:Nat):Prop:=frs sz b= (frs sz (b.drop (u*sz))).map fun p=>(ls++p.1,u+p.2)
theorem FrSt.start(sz:Nat)(b:MU):FrSt sz b [] 0:=by
 unfold FrSt;rw[Nat.zero_mul,List.drop_zero];cases frs sz b with
 | none=>rfl
 | some p=>simp
theorem FrSt.step{sz:Nat}{b:MU}{ls l:List MU}{u c:Nat}(h:FrSt sz b ls u)(hz:0<sz)(h0:¬zer (b.drop (u*sz)))(hd:dD (b.drop (u*sz))=some (l,c)):FrSt sz b (ls++l) (u+nsec c sz):=by
 unfold FrSt at *;rw[h,jG hz h0 hd,List.drop_drop,<-Nat.add_mul];cases frs sz (b.drop ((u+nsec c sz)*sz)) with
 | none=>rfl
 | some p=>simp[Nat.add_assoc]
theorem FrSt.bad{sz:Nat}{b:MU}{ls:List MU}{u:Nat}(h:FrSt sz b ls u)(h0:¬zer (b.drop (u*sz)))(hd:dD (b.drop (u*sz))=none):frs sz b=none:=by
 unfold FrSt at h;rw[h,mX h0 hd];rfl
theorem FrSt.fin{sz:Nat}{b:MU}{ls:List MU}{u:Nat}(h:FrSt sz b ls u)(h0:zer (b.drop (u*sz))):frs sz b=some (ls,u):=by
 unfold FrSt at h;rw[h,jl h0];simp
def FrP(sz:Nat)(b:MU)(W:MQ)(xs:List Fr):Prop:=∀(pre:List Fr)(x:Fr),xs=pre++ [x]-> (x.2.2= -1/\frs sz b=none)∨∃u:Nat,x.2.2= (u:Int)/\Sl W W.heap.size 1 x.1.1 x.1.2.1 (flat aA x.2.1)/\x.1.2.1<=x.1.2.2/\x.1.2.2<=maxLen/\x.1.2.1=x.2.1.length/\x.2.1.length<=1000/\u<=1000512/\ (frL xs).length<=1000*u
def FrS(sz:Nat)(b:MU)(xs:List Fr):Prop:=(∃pre x,xs=pre++ [x]/\x.2.2= -1)∨∃u:Nat,frU xs=u/\frs sz b=some (frL xs,u)
def KeepF(b1 b2:Nat)(A B:MQ):Prop:=B.heap[b1]? =A.heap[b1]? /\B.heap[b2]? =A.heap[b2]?
theorem F5{c:UInt8}(h:c=0): ((c.toNat:Int) != 0)=false:=by rw[h];rfl
theorem GQ{c:UInt8}(h:¬c=0): ((c.toNat:Int) != 0)=true:=by
 rw[bne_iff_ne];intro e;exact h (UInt8.toNat_inj.1 (by show c.toNat=0;omega))
theorem E8(n bs bz hz:Nat)(hn:1<=n)(s:MR)(sz:Nat)(w:MQ)(hs:s.size<=1000000)(hz0:0<sz)(hz1:sz<=512)(h0:Bk w bs 9 #[.string s])(h1:Bk w bz 3 #[.int .i64 sz]) :
  qH Fence.wide n Tryz.prog 221 #[.pointer (some ⟨bs,0,none⟩),.pointer (some ⟨bz,0,none⟩)] frV (KeepF bs bz) (fun A B=>Below A.heap.size A B)
   (FrP sz (toL s)) (FrS sz (toL s)) (fun _=>True) hz w:=fun l J Jx W hW hWz hJ hY hJ0=>by
 have G0:Hid (Bk W bs 9 #[.string s]):=(hW.block bs h0.lt).trans h0;have G1:Hid (Bk W bz 3 #[.int .i64 sz]):=(hW.block bz h1.lt).trans h1;clear hW h0 h1 hWz;have HY:=ah hY;have HJ0:=ah hJ0;have HJ:=ah hJ;clear hJ hY hJ0;refine callsIn_of_wp Tryz.func221 rfl trivial ?_ rfl;simp only[Tryz.ntmps221,List.size_toArray,Z5,List.length_nil,Nat.reduceAdd,Nat.reduceSub,Array.replicate_succ,Array.replicate_zero,List.push_toArray,List.append_toArray,List.nil_append,List.cons_append]
 gi_wp2_with fail
 gi_loopw [4] (fun q wr=>∃(a u:Nat)(pre:List Fr),q= .int .i64 (a:Int)/\Hid (a=u*sz)/\a<=1000512/\Hid (FrSt sz (toL s) (frL pre) u)/\Hid (frU pre=u/\ (frL pre).length<=1000*u)/\Hid (Bk wr bs 9 #[.string s])/\Hid (Bk wr bz 3 #[.int .i64 sz])/\Hid (J pre wr)) (fun q _=>1000513 - (intOf q).toNat)
 case atStart=>exact⟨0,0,[],rfl,by show _=_;simp,by omega,FrSt.start sz _,⟨rfl,by simp[frL]⟩,G0.out,G1.out,HJ0.out⟩
 case round =>
  obtain⟨a,u,pre,rfl,hau,ha,hF,hU,hS,hZ,hj⟩:=hrel;have c0:=hS.out.cell 0;have c1:=hZ.out.cell 0;simp at c0 c1;by_cases hlt:a<s.size
  . have hlz: (a:Int)< (s.size:Int):=by omega
    have hle: (a:Int)<= (s.size:Int):=by omega
    have hdr:=rZ hlt;by_cases h00:s[a]=0
    . have t1:=F5 h00
      have HF:Hid (frs sz (toL s)=some (frL pre,u)):=hF.out.fin (by rw[<-hau.out,hdr];intro x hx;simp at hx;rw[<-hx];exact h00);clear h00 hdr
      gi_wp2
      go_end0
      exact⟨⟨_,rfl⟩,.inl ⟨pre,.inr ⟨u,hU.out.1,HF.out⟩,hj.out⟩⟩
    . have t1:=GQ h00
      have HZ0:Hid (¬zer ((toL s).drop (u*sz))):=by show ¬_;rw[<-hau.out,hdr];intro h;exact h00 (h _ rfl)
      have HX:Hid (toL (s.extract a s.size)= (toL s).drop (u*sz)):=by rw[<-hau.out];exact mF s a
      have hxs: (s.extract a s.size).size=s.size - a:=by rw[ByteArray.size_extract];omega
      have HD:=ah (Dj (s.extract a s.size) (by omega) (by unfold maxLen;omega));rw[HX.out]at HD;clear h00 hdr hxs
      gi_wp2_with fail
      refine⟨trivial,(callsIn_wide.2 (HD.out _)).mono ?_⟩;rintro e w1 ⟨hb1,h1⟩;have HB1:=ah hb1;have HJ1:Hid (J pre w1):=HJ.out pre wr w1 hj.out hb1;have HS1:Hid (Bk w1 bs 9 #[.string s]):=hS.out.below hb1 hS.out.lt;have HZ1:Hid (Bk w1 bz 3 #[.int .i64 sz]):=hZ.out.below hb1 hZ.out.lt;have c0:=HS1.out.cell 0;have c1:=HZ1.out.cell 0;simp at c0 c1;clear HD hb1;cases hdf:dD ((toL s).drop (u*sz)) with
      | none =>
        rw[hdf]at h1;obtain⟨A,nn,cc,m,rfl⟩:=h1;have HN:Hid (frs sz (toL s)=none):=hF.out.bad HZ0.out hdf;clear hdf;obtain⟨fn,tmps,assign,body,hy,hR'⟩:=HY.out pre ((none,0,0),[],-1) w1 (fun p x he=>by
         have e:=congrArg List.getLast? he;simp at e;subst e;exact .inl ⟨rfl,HN.out⟩) HJ1.out
        simp only[frV]at hy hR';have HR':=ah hR';clear hR'
        gi_wp2
        refine HR'.out.mono ?_;rintro e' W3 (⟨rfl,hJ3,hK3⟩ | ⟨rfl,hJx3⟩)
        . gi_wp2
          refine ZY (results_none rfl _ _ _) rfl ?_;exact⟨⟨_,rfl⟩,.inl ⟨_,.inl ⟨_,_,rfl,rfl⟩,hJ3⟩⟩
        . gi_wp2
          refine ZY (results_none rfl _ _ _) rfl ?_;exact⟨⟨_,rfl⟩,.inr ⟨_,trivial,hJx3⟩⟩
      | some p =>
        obtain⟨ll,cn⟩:=p;rw[hdf]at h1;obtain⟨A,cc,rfl,ho,hcc,hcm⟩:=h1;have HF2:=ah (hF.out.step hz0 HZ0.out hdf);obtain⟨hfit,hcn,rr,hrr⟩:=kG hdf;have hep:=kD ll;have hcl:cn+a<=s.size:=by
         have:=congrArg List.length hrr;rw[ae,List.length_drop,<-aP,<-hcn,<-hau.out]at this;omega
        have hq1:=kK (c:=cn) hz0 (by omega);have hq2:=AQ (c:=cn) hz0 (by omega);obtain⟨q,hq⟩:∃q,nsec cn sz=q:=⟨_,rfl⟩
        rw[hq]at hq1 hq2 HF2;obtain⟨a2,ha2⟩:∃a2,(u+q)*sz=a2:=⟨_,rfl⟩
        have ha3:a2=a+q*sz:=by rw[<-ha2,Nat.add_mul,hau.out]
        have hql:q<=q*sz:=Nat.le_mul_of_pos_right _ hz0;have hul:u<=u*sz:=Nat.le_mul_of_pos_right _ hz0;rw[<-hau.out]at hul;generalize q*sz=qz at *;have hsi: ((u:Int)+ (q:Int))* (sz:Int)= (a2:Int):=by rw[<-ha2,Int.natCast_mul,Int.natCast_add]
        have hdv: (a:Int) / (sz:Int)= (u:Int):=by rw[hau.out,Int.natCast_mul];exact Int.mul_ediv_cancel _ (by omega)
        have hzi:¬sz=0:=by omega
        have hwu:IntKind.i64.wrap (u:Int)= (u:Int):=by rw[IntKind.wrap_i64];omega
        have hwq:IntKind.i64.wrap ((u:Int)+ (q:Int))= (u:Int)+ (q:Int):=by rw[IntKind.wrap_i64];omega
        have HS2:=ah (Dp cn sz hz0 (by omega) hz1);rw[hq]at HS2;have HF3:Hid (FrSt sz (toL s) (frL (pre++ [((A,ll.length,cc),ll,(u:Int)+ (q:Int))])) (u+q)):=by show FrSt _ _ _ _;rw[tu];exact HF2.out
        have HU3:Hid ((frL (pre++ [((A,ll.length,cc),ll,(u:Int)+ (q:Int))])).length<=1000* (u+q)):=by
         show _<=_;rw[tu,ae];have:=hU.out.2;have:=hfit.1;simp only;omega
        have HSL:Hid (Sl w1 w1.heap.size 1 A ll.length (flat aA ll)):=Sl.of_own ho;have HFT:=ah hfit;have HA2:=ah ha2;have HCM:=ah hcm;clear hdf ho hrr hfit HF2 ha2 hq hcn hF hcm
        gi_wp2_with fail
        refine wpIn_region_quiet_lit rfl (by kernel_rfl) (by kernel_rfl) ?_
        repeat
         refine wpQuietIn_step (fun _ _ _ _=>trivial) (fun K hK=>?_)
         go_simp
         first
          | (refine hK _ ?_;clear hK K)
          | (apply Exists.intro;refine⟨fun _=>?_,hK _ ?_⟩;(gi_at_call 223;exact CallsIn.quiet_of_same (callsIn_wide.2 ((HS2.out _).mono (by rintro e w' ⟨rfl,rfl⟩;exact⟨rfl,rfl⟩))));clear hK K)
        refine wpQuietIn_nil ?_;rintro _ ⟨nq,rfl⟩;obtain⟨w2,hw2⟩:∃w2,w1.drewN nq=w2:=⟨_,rfl⟩
        have hb2:Below w1.heap.size w1 w2:=by rw[<-hw2];exact bM (af _ _) nq
        have HJ2:Hid (J pre w2):=HJ.out pre w1 w2 HJ1.out hb2;have HSL2:Hid (Sl w2 w2.heap.size 1 A ll.length (flat aA ll)):=by rw[<-hw2];exact HSL.out
        have HS2:Hid (Bk w2 bs 9 #[.string s]):=by rw[<-hw2];exact HS1.out
        have HZ2:Hid (Bk w2 bz 3 #[.int .i64 sz]):=by rw[<-hw2];exact HZ1.out
        rw[hw2];clear hw2 hb2 HS1 HZ1 HJ1 HSL c0 c1;have c0:=HS2.out.cell 0;have c1:=HZ2.out.cell 0;simp at c0 c1;obtain⟨fn,tmps,assign,body,hy,hR'⟩:=HY.out pre ((A,ll.length,cc),ll,(u:Int)+ (q:Int)) w2 (fun p x he=>by
         have e:=congrArg List.getLast? he;simp at e;subst e;exact .inr ⟨u+q,by simp,HSL2.out,hcc,HCM.out,rfl,HFT.out.1,by omega,HU3.out⟩) HJ2.out
        simp only[frV]at hy hR';have HR':=ah hR';clear hR'
        gi_wp2
        refine HR'.out.mono ?_;rintro e' W3 (⟨rfl,hJ3,hK3⟩ | ⟨rfl,hJx3⟩)
        . have HS3:Hid (Bk W3 bs 9 #[.string s]):=hK3.1.trans HS2.out
          have HZ3:Hid (Bk W3 bz 3 #[.int .i64 sz]):=hK3.2.trans HZ2.out;have c0:=HS3.out.cell 0;have c1:=HZ3.out.cell 0;simp at c0 c1;have HJ3:=ah hJ3;clear hJ3 hK3
          gi_wp2
          go_roundw
          case rel=>exact⟨a2,u+q,_,by go_num,HA2.out.symm,by omega,HF3.out,⟨by rw[tF];simp,HU3.out⟩,HS3.out,HZ3.out,HJ3.out⟩
          case measure=>simp[intOf];omega
        . gi_wp2
          refine ZY (results_none rfl _ _ _) rfl ?_;exact⟨⟨_,rfl⟩,.inr ⟨_,trivial,hJx3⟩⟩
  . have hlz:¬(a:Int)< (s.size:Int):=by omega
    have HF:Hid (frs sz (toL s)=some (frL pre,u)):=hF.out.fin (by rw[<-hau.out,List.drop_of_length_le (by rw[<-aP];omega)];intro x hx;simp at hx)
    gi_wp2
    go_end0
    exact⟨⟨_,rfl⟩,.inl ⟨pre,.inr ⟨u,hU.out.1,HF.out⟩,hj.out⟩⟩
end
section
open Go.RowKit Go.Shelf
theorem GJ:Builder.Extra Tryz.prog Tryz.lays105_ren:={
 sizeBuilder:=by kernel_rfl
 liesBuilder:=by kernel_rfl
 t5:=Tryz.underlying5
 a5:=Tryz.isAgg5
 z5:=Tryz.sizeOf5
 v5:=Tryz.zeroValue5
 infoByte:=by kernel_rfl
 cellsByte:=by kernel_rfl
 sizeByte:=by kernel_rfl
 neB5:=by decide}
theorem GU:Builder.Extra Tryz.prog Tryz.lays156_ren:={
 sizeBuilder:=by kernel_rfl
 liesBuilder:=by kernel_rfl
 t5:=Tryz.underlying5
 a5:=Tryz.isAgg5
 z5:=Tryz.sizeOf5
 v5:=Tryz.zeroValue5
 infoByte:=by kernel_rfl
 cellsByte:=by kernel_rfl
 sizeByte:=by kernel_rfl
 neB5:=by decide}
theorem mM(x y:MU):ofL x++ofL y=ofL (x++y):=by
 unfold ofL;apply ByteArray.ext
 simp
theorem DK(n:Nat):Lib.repeatL [(0:UInt8)] n=List.replicate n 0:=by
 induction n with
 | zero=>rfl
 | succ n ih=>show [0]++Lib.repeatL [0] n=_;rw[ih];rfl
theorem xg(n:Nat)(w:MQ)(hn:n<=100000):Calls Tryz.prog 74 #[.string ⟨#[0]⟩,.int .i64 n] w fun e w'=>e= .returned (.string (ofL (List.replicate n 0)))/\Below w.heap.size w w':=by
 have h:=Any.strings_Repeat Tryz.lays105 GJ ⟨#[0]⟩ n w (by omega) (by show 1*n<=_;omega);rw[show(⟨#[0]⟩:MR).data.toList= [0] from rfl,DK]at h;exact h
theorem zF(l:List MU):Lib.join l []=l.flatten:=by
 cases l with
 | nil=>rfl
 | cons x r =>
   rw[Lib.join_cons,List.flatten_cons];unfold Lib.joinTail;rw[show(fun y:MU=>([]:MU)++y)=id from rfl,List.map_id]
theorem Jm(A:OA)(n c B:Nat)(ss:List MU)(w:MQ)(h:Sl w B 1 A n (flat aA ss))(hB:B<=w.heap.size)(hn:0<n)(hc:n<=c)(hl:ss.flatten.length<=1000000000)(hl2:n<=1000000) :
  Calls Tryz.prog 139 #[.slice A n c,.string ⟨#[]⟩] w fun e w'=>e= .returned (.string (ofL ss.flatten))/\Below w.heap.size w w':=by
 have hlen:=h.len dG (by omega);obtain⟨b,off,rfl,hb,hcell⟩:=h.2 hn;have hm: (ss.map ofL).map (·.data.toList)=ss:=by rw[List.map_map];exact List.map_id'' (fun x=>rfl) ss
 have hj:=Any.strings_Join Tryz.lays156 GU b off c (ss.map ofL) ⟨#[]⟩ w (by
  intro j x hx;rw[List.getElem?_map,Option.map_eq_some_iff]at hx;obtain⟨y,hy,rfl⟩:=hx;exact hcell j _ (by have:=gy (enc:=aA) dG ss j 0 y hy (by omega);simpa [aA] using this)) (by omega) (by rw[List.length_map];omega) (by rw[List.length_map];omega) (by rw[hm,show(⟨#[]⟩:MR).data.toList= [] from rfl,zF];omega)
 rw[hm,show(⟨#[]⟩:MR).data.toList= [] from rfl,zF,List.length_map,hlen]at hj;exact hj
end
theorem oQ(d:Dk)(s:Dsl)(w:MQ)(h0:0<d.ss.length)(h1:d.ss.length<=1000):Calls Tryz.prog 110 #[dkV d s] w fun e w'=>e= .returned (.int .i64 (hf d.ss:Nat))/\Below w.heap.size w w':=by
 have HB:Hid (Below w.heap.size w (w.alloc (.cells (dkC d s) 25))):=(af _ w).alloc ai _;obtain⟨k0,k1,k2,k3⟩:=(Bk.new w 25 (dkC d s)).dk4;have HH:Hid (((d.ss.length:Int) - 1) / 2= (hf d.ss:Nat)):=by show _=_;unfold hf;omega
 obtain⟨n,hn⟩:∃n,d.ss.length=n:=⟨_,rfl⟩
 rw[hn]at HH h0 h1;simp only[dkV,dkC,hn]at *
 go_enter Tryz.func110,Tryz.ntmps110
 go_wp2
 go_ret
 exact⟨by rw[<-HH.out];rfl,HB.out⟩
theorem mi(d:Dk)(s:Dsl)(a:Nat)(w:MQ)(h0:0<d.ss.length)(h1:d.ss.length<=1000)(ha:a=1∨a=2):Calls Tryz.prog 99 #[dkV d s,.int .i64 a] w fun e w'=>e= .returned (.int .i64 (aC d.ss a:Nat))/\Below w.heap.size w w':=by
 obtain⟨W,hW⟩:∃W,w.alloc (.cells (dkC d s) 25)=W:=⟨_,rfl⟩
 have HB:Hid (Below w.heap.size w W):=by rw[<-hW];exact(af _ w).alloc ai _
 obtain⟨k0,k1,k2,k3⟩:W.cell? ⟨w.heap.size,0,none⟩=_/\W.cell? ⟨w.heap.size,1,none⟩=_/\W.cell? ⟨w.heap.size,2,none⟩=_/\W.cell? ⟨w.heap.size,3,none⟩=_:=by rw[<-hW];exact(Bk.new w 25 (dkC d s)).dk4
 have HC:=ah (oQ d s W h0 h1);have hhf:hf d.ss<=500:=by unfold hf;omega
 have HE:Hid (aC d.ss a=1+ (a - 1)*hf d.ss):=rfl;obtain⟨h,hh⟩:∃h,hf d.ss=h:=⟨_,rfl⟩
 rw[hh]at HC hhf HE;have HW:=ah hW;clear hW hh;simp only[dkV,dkC]at *
 go_enter Tryz.func99,Tryz.ntmps99
 rcases ha with rfl | rfl
 all_goals
  go_wp2_with fail;rw[HW.out];refine HC.out.mono ?_;rintro e w1 ⟨rfl,hb1⟩;have HB1:Hid (Below w.heap.size w w1):=HB.out.trans (hb1.mono HB.out.size);clear hb1;go_wp2_with fail;go_ret
  refine⟨?_,HB1.out⟩;rw[HE.out]
  first
   | (congr 2;simp;done)
   | (congr 2;simp;omega)
theorem lZ(t:MU)(sz:Nat)(w:MQ)(h:t.length<=sz)(h1:sz<=512):Calls Tryz.prog 96 #[.string (ofL t),.int .i64 sz] w fun e w'=>e= .returned (.string (ofL (bB sz t)))/\Below w.heap.size w w':=by
 have hs: ((ofL t).size:Int)= (t.length:Int):=by rw[bG]
 have hsz: ((sz:Int) - (t.length:Int))= ((sz - t.length:Nat):Int):=by omega
 have HR:=ah (xg (sz - t.length) w (by omega));have HF:Hid (ofL t++ofL (List.replicate (sz - t.length) 0)=ofL (bB sz t)):=mM t _;have hl1: (ofL (List.replicate (sz - t.length) 0)).size=sz - t.length:=by rw[bG,List.length_replicate]
 have hl0: (ofL t).size=t.length:=by rw[bG]
 obtain⟨k,hk⟩:∃k,sz - t.length=k:=⟨_,rfl⟩
 obtain⟨q,hq⟩:∃q,ofL (List.replicate k 0)=q:=⟨_,rfl⟩
 rw[hk]at HR HF hsz hl1;rw[hq]at HR HF hl1;have hnb:¬(9223372036854775807< (ofL t).size+q.size):=by rw[hl0,hl1];omega
 clear hk hq hl0 hl1
 go_enter Tryz.func96,Tryz.ntmps96
 go_wp2_with fail;refine HR.out.mono ?_;rintro e w1 ⟨rfl,hb1⟩;have HB1:=ah hb1;clear hb1;go_wp2_with fail;go_ret
 exact⟨by rw[<-HF.out];rfl,HB1.out⟩
theorem Jj(l:List MU):∀u∈flat aA l,u.oneCell'=true:=fun u hu=>by
 unfold flat at hu;obtain⟨i,_,h⟩:=List.mem_flatMap.1 hu;simp[aA]at h;rw[h];rfl
def vH(us:List MU)(n:Nat)(w:MQ)(e:Ending)(w':MQ):Prop :=
 ∃A c,e= .returned (.slice A n c)/\Apd w' w.heap.size 9 1 A n c (flat aA us)/\Below w.heap.size w w'/\n<=c/\c<=maxLen
theorem xW(A:OA)(n c B:Nat)(us:List MU)(w:MQ)(h:Sl w B 1 A n (flat aA us))(hB:B<=w.heap.size)(hn:n<=100000) :
  Calls Tryz.prog 119 #[.slice A n c] w (vH us n w):=by
 have H:=ah h;clear h;obtain⟨i0,hi,hz0,hz1',hz2'⟩:=info_parts iR;have Hi:=ah hi;have Hz0:=ah hz0;have Hz1:=ah hz1';have Hz2:=ah hz2';clear hi hz0 hz1' hz2';generalize hRR:vH us n w=RR at *;have HRR:=ah hRR;clear hRR;cases A with
 | none =>
   have h0:n=0:=by
    rcases Nat.eq_zero_or_pos n with h | h
    . exact h
    . obtain⟨b,off,e,_⟩:=H.out.2 h;cases e
   subst h0;have hx:flat aA us= []:=by
    have:=H.out.1;rw[Nat.zero_mul]at this;exact List.length_eq_zero_iff.1 this
   have hnn:∀w:MQ,(binOp .eql 22 (.slice none 0 c) (.slice none 0 0)).run Tryz.prog w= .ok (.bool true) w:=fun w=>nN w 22 9 none 0 c Tryz.underlying22
   go_enter Tryz.func119,Tryz.ntmps119
   go_wp2
   rw[<-HRR.out];exact⟨none,0,rfl,.inr ⟨rfl,rfl,hx⟩,af _ _,Nat.le_refl _,ZZ _⟩
 | some a =>
   have hnn:∀w:MQ,(binOp .eql 22 (.slice (some a) n c) (.slice none 0 0)).run Tryz.prog w= .ok (.bool false) w:=fun w=>nN w 22 9 (some a) n c Tryz.underlying22
   go_enter Tryz.func119,Tryz.ntmps119
   go_wp2_with (at_builtin;refine aM ?_)
   refine aF ?_;refine dw (base:=w.heap.size) _ rfl (.tmp 5) (.tmp 6) 22 rfl 9 i0 _ 16 Tryz.underlying22 Hi.out Hz0.out Hz1.out Hz2.out rfl (by decide) _ 0 0 [] rfl (.inr ⟨rfl,rfl,rfl⟩) B _ n c (flat aA us) rfl (H.out.alloc hB _) (Jj _) (by unfold maxLen;omega) (by omega) (by simp) ?_;intro A2 c2 w2 ha hb hc1 hm1 hok;rw[Nat.zero_add,List.nil_append]at ha;rw[Nat.zero_add]at hc1 ⊢;have HA:=ah ha;have HB:=ah (((af _ w).alloc ai _).trans hb);have HM:=ah hm1;clear ha hb hok hm1
   go_wp2
   rw[<-HRR.out];exact⟨A2,c2,rfl,HA.out,HB.out,hc1,HM.out⟩
def fC(g:Nat->MU->MU->MU):Nat->List MU->List (Nat×MU)->List MU
 | _,ss,[]=>ss
 | k,ss,w::ws=>fC g (k+1) (ss.set w.1 (g k (ss.getD w.1 []) w.2)) ws
theorem xm:∀(ws:List (Nat×MU))(k:Nat)(ss:List MU),fC (fun _ _ x=>x) k ss ws=settle ss ws
 | [],_,_=>rfl
 | w::ws,k,ss=>xm ws (k+1) (ss.set w.1 w.2)
theorem yI{sz:Nat}(qs:List Int):∀(ws:List (Nat×MU))(k:Nat)(ss:List MU),fC (fun k o x=>x.take (fK sz (qs.getD k 0))++o.drop (fK sz (qs.getD k 0))) k ss ws=bS sz ss ws (qs.drop k)
 | [],_,_=>by rw[fC,bS]
 | w::ws,k,ss=>by
   rw[fC,bS,yI qs ws (k+1)];have h1: (qs.drop k).headD 0=qs.getD k 0:=by rw[List.headD_eq_head?_getD,List.head?_drop,List.getD_eq_getElem?_getD]
   have h2: (qs.drop k).tail=qs.drop (k+1):=by rw[List.tail_drop]
   rw[h1,h2]
theorem qZ{w:MQ}{base g n cap i:Nat}{e:TypeId}{xs:List MS}(h:w.ownsRow base e 1 (.slice (some ⟨g,0,none⟩) n cap) n xs)(v:MS): (w.setCell ⟨g,i,none⟩ v).ownsRow base e 1 (.slice (some ⟨g,0,none⟩) n cap) n (xs.set i v):=by
 refine⟨by rw[List.length_set];exact h.1,?_⟩;rcases h.2 with ⟨hv,_⟩ | ⟨g',cap',cur,hv,h1,hh,h2,h3,h4,h5⟩
 . cases hv
 . cases hv
   refine .inr ⟨g,cap,cur.setIfInBounds i v,rfl,h1,(Bk.set (show Bk w g e cur from hh) i v),h2,h3,by rw[Array.size_setIfInBounds];exact h4,?_⟩;rw[Array.toList_setIfInBounds,List.take_set,h5]
theorem mZ{w:MQ}{base g n cap:Nat}{e:TypeId}{xs:List MS}(h:w.ownsRow base e 1 (.slice (some ⟨g,0,none⟩) n cap) n xs):base<=g/\∃cur:Array MS,Bk w g e cur/\∀(i:Nat)(u:MS),xs[i]? =some u->cur[i]? =some u:=by
 rcases h.2 with ⟨hv,_⟩ | ⟨g',cap',cur,hv,h1,hh,h2,h3,h4,h5⟩
 . cases hv
 . cases hv
   refine⟨h1,cur,hh,fun i u hu=>?_⟩;rw[<-h5,List.getElem?_take]at hu;split at hu
   . rw[<-Array.getElem?_toList];exact hu
   . cases hu
theorem wM(l:List MU)(i:Nat)(x:MU): (flat aA l).set i (.string (ofL x))=flat aA (l.set i x):=by
 have h:∀l:List MU,flat aA l=l.map (fun b=> .string (ofL b)):=fun l=>by
  induction l with
  | nil=>rfl
  | cons a l ih=>unfold flat at ih ⊢;rw[List.flatMap_cons,ih];rfl
 rw[h,h,List.map_set]
theorem Gb.fresh{p q:Nat->Prop}{a b c:MQ}(h:Gb p a b)(k:Gb q b c)(hq:∀i,q i->i<a.heap.size->p i):Gb p a c :=
 ⟨k.os.trans h.os,k.tape.trans h.tape,k.output.trans h.output,Z0 h.size k.size,fun i hi hn=>(k.block i (Nat.lt_of_lt_of_le hi h.size) (fun e=>hn (hq i e hi))).trans (h.block i hi hn)⟩
theorem BH{fn:Func}{c:Tmp}(h:fn.results= #[.cell c 25]){w:MQ}{a:Array MS}{b:Nat}{x0 x1 x2 x3:MS}(h1:a[c]?.getD undef= .pointer (some ⟨b,0,none⟩))(hk:Bk w b 25 #[x0,x1,x2,x3]) :
  (results fn a).run Tryz.prog w= .ok (.agg #[x0,x1,x2,x3]) w:=by
 obtain⟨c0,c1,c2,c3⟩:=hk.dk4;simp[results,h,h1,go_sem,c0,c1,c2,c3]
structure Apl(f:Nat)(lb:Array MS)(sz:Nat)(g:Nat->MU->MU->MU)(nb B:Nat)(Inv:Nat->MQ->Prop):Prop where
 fn: (f=171/\lb= #[])∨∃p q r,f=60/\lb= #[p,q,r]
 nlt:nb<B
 call:∀k old dat W,Inv k W->old.length=sz->dat.length=sz->Calls Tryz.prog f (#[.string (ofL old),.string (ofL dat)]++lb) W fun e w'=>e= .returned (.string (ofL (g k old dat)))/\Inv (k+1) w'/\Gb (fun b=>b=nb) W w'
 len:∀k old dat,old.length=sz->dat.length=sz-> (g k old dat).length=sz
 keep:∀k W W',Inv k W->B<=W.heap.size->Below B W W'->Inv k W'
theorem xB(d:Dk)(s:Dsl)(B:Nat)(f:Nat)(lb:Array MS)(g:Nat->MU->MU->MU)(nb:Nat)(Inv:Nat->MQ->Prop)(w:MQ)(hd:d.Ok)(hm:DkM w B d s)(hB:B<=w.heap.size)(hp:d.pn.length<=1000000)(hnb:B<=nb)(ha:Apl f lb d.sz g nb w.heap.size Inv)(h0:Inv 0 w) :
  Calls Tryz.prog 59 #[dkV d s,.func (.func f) #[] lb] w fun e w'=>∃s',e= .returned (dkV {d with ss:=fC g 0 d.ss d.pn,pn:= []} s')/\DkM w' w'.heap.size {d with ss:=fC g 0 d.ss d.pn,pn:= []} s'/\Gb (fun b=>b=nb) w w'/\Inv d.pn.length w':=by
 obtain⟨W,hW⟩:∃W,(w.alloc (.cells (dkC d s) 25)).alloc (.cells #[.int .i64 0,.slice none 0 0,.slice none 0 0,.int .i64 0] 25)=W:=⟨_,rfl⟩
 have HB0:Hid (Below w.heap.size w W):=by rw[<-hW];exact((af _ w).alloc ai _).alloc (by simp) _
 have HK:Hid (Bk W w.heap.size 25 (dkC d s)):=by rw[<-hW];exact(Bk.new w _ _).alloc _
 have HZ:Hid (Bk W (w.heap.size+1) 25 #[.int .i64 0,.slice none 0 0,.slice none 0 0,.int .i64 0]):=by
  rw[<-hW];have:=Bk.new (w.alloc (.cells (dkC d s) 25)) 25 #[.int .i64 0,.slice none 0 0,.slice none 0 0,.int .i64 0]
  rwa[Z9]at this
 have zW:W.heap.size=w.heap.size+2:=by rw[<-hW];simp
 have HM:Hid (DkM W B d s):=hm.below HB0.out hB;have HC:=ah (xW s.a1 d.ss.length s.c1 B d.ss W HM.out.ss (by omega) (by have:=hd.n1;omega));have HD:=ah hd;have HW:=ah hW;have HA:=ah ha;have HM0:=ah hm;have HI:Hid (Inv 0 W):=ha.keep 0 w W h0 ai HB0.out;obtain⟨n,hn⟩:∃n,d.ss.length=n:=⟨_,rfl⟩
 obtain⟨m,hmm⟩:∃m,d.pn.length=m:=⟨_,rfl⟩
 have HN:=ah hn;have HMM:=ah hmm;have HIV:Hid (∀W',Inv m W'->Inv d.pn.length W'):=fun W' h=>by rw[hmm];exact h
 have h1:=hd.n0;have h2:=hd.n1;simp only[dkV,dkC,hn,hmm]at HC HW HK hp h1 h2 ⊢;unfold vH at HC;clear hd hm hW ha h0 hn hmm;obtain⟨k0,k1,k2,k3⟩:=HK.out.dk4
 go_enter Tryz.func59,Tryz.ntmps59
 go_wp2_with fail;rw[HW.out];refine HC.out.mono ?_;rintro e w1 ⟨A1,c1,rfl,ha1,hb1,hc1,hm1⟩;have HB1:Hid (Below W.heap.size W w1):=hb1;have HI1:Hid (Inv 0 w1):=HA.out.keep 0 W w1 HI.out (by omega) (hb1.mono (by omega));obtain⟨gb,rfl⟩:∃gb,A1=some ⟨gb,0,none⟩:=by
  rcases ha1 with h | ⟨h,_⟩
  . rcases h.2 with ⟨_,h⟩ | ⟨g,cap,cur,hv,_⟩
    . omega
    . cases hv;exact⟨g,rfl⟩
  . omega
 have HO1:Hid (w1.ownsRow W.heap.size 9 1 (.slice (some ⟨gb,0,none⟩) n c1) n (flat aA d.ss)):=by
  rcases ha1 with h | ⟨h,_⟩
  . exact h
  . omega
 have HK1:=ah (HK.out.below hb1 (by omega));obtain⟨k0,k1,k2,k3⟩:=HK1.out.dk4;clear ha1 hb1 HC;go_wp2_with fail
 go_loopw[14] (fun i wr=>∃(k:Nat)(L:List MU),k<=m/\i= .int .i64 k/\L.length=n/\Hid (∀x∈L,x.length=d.sz)/\Hid (fC g 0 d.ss d.pn=fC g k L (d.pn.drop k))/\Hid (Inv k wr)/\Hid (wr.ownsRow W.heap.size 9 1 (.slice (some ⟨gb,0,none⟩) n c1) n (flat aA L))/\Hid (Gb (fun b=>b=nb∨b=gb) w1 wr)) (fun i _=>m - (intOf i).toNat)
 case atStart=>exact⟨0,d.ss,ZZ _,rfl,HN.out,HD.out.len,rfl,HI1.out,HO1.out,Gb.refl _ _⟩
 case round =>
  obtain⟨k,L,hk,rfl,hLn,hLl,hrun,hI,hO,hG⟩:=hrel;have hgb:=(mZ hO.out).1;have zr:w1.heap.size<=wr.heap.size:=hG.out.size;have z1:=HB1.out.size;have hnb:=HA.out.nlt;by_cases hlt:k<m
  . obtain⟨b,off,⟨xi,xd⟩,hA2,hb,hx,hc⟩:=(HM.out.pn.keep (fun p hp=>World.cell?_of_block ((hG.out.block p.block (by omega) (by omega)).trans (HB1.out.block p.block (by omega))))).at_ pU (by omega) (by rw[HMM.out];exact hlt)
    have x0:=hc 0 _ rfl;have x1:=hc 1 _ rfl;simp only[Nat.add_zero]at x0;obtain⟨g1,g2⟩:=HD.out.pn _ (Z7 hx);simp only at g1 g2;rw[HN.out]at g1;obtain⟨old,hold⟩:∃old,L[xi]? =some old:=⟨_,Z6 (by omega)⟩
    have hog:L.getD xi []=old:=by rw[List.getD_eq_getElem?_getD,hold];rfl
    have hol:=hLl.out old (Z7 hold);obtain⟨hgb2,cur,hcur,hcu⟩:=mZ hO.out;have hcx:cur[xi]? =some (.string (ofL old)):=hcu xi _ (by have:=gy (enc:=aA) dG L xi 0 old hold (by omega);simpa [aA] using this);have hrun2:Hid (fC g 0 d.ss d.pn=fC g (k+1) (L.set xi (g k old xd)) (d.pn.drop (k+1))):=by
     show _=_;have hl:=List.getElem?_eq_some_iff.1 hx;rw[hrun.out,List.drop_eq_getElem_cons hl.1,hl.2,fC,hog]
    obtain⟨wa,hwa⟩:∃wa,wr.alloc (.cells #[.int .i64 xi,.string (ofL xd)] 175)=wa:=⟨_,rfl⟩
    have za:wa.heap.size=wr.heap.size+1:=by rw[<-hwa];simp
    have HAB:Hid (Below wr.heap.size wr wa):=by rw[<-hwa];exact(af _ wr).alloc ai _
    have HX:Hid (Bk wa wr.heap.size 175 #[.int .i64 xi,.string (ofL xd)]):=by rw[<-hwa];exact Bk.new wr _ _
    have HCU:Hid (Bk wa gb 9 cur):=hcur.below HAB.out hcur.lt;have HIA:Hid (Inv k wa.drew):=HA.out.keep k wr wa.drew hI.out (by omega) (HAB.out.mono (by omega)).drew;have HOA:Hid (wa.ownsRow W.heap.size 9 1 (.slice (some ⟨gb,0,none⟩) n c1) n (flat aA L)):=by rw[<-hwa];exact hO.out.alloc _
    have c0:wa.cell? ⟨gb,xi,none⟩=some (.string (ofL old)):=by rw[HCU.out.cell];exact hcx
    have c9:=HCU.out.free xi;have y0:=HX.out.cell 0;have y1:=HX.out.cell 1;simp at y0 y1;have hxi: (xi:Int)< (n:Int):=by omega
    have HWA:=ah hwa;have hgl:=hcur.lt;have HGX:Hid (∀W':MQ,Gb (fun b=>b=nb) wa.drew W'-> (W'.cell? ⟨wr.heap.size,0,none⟩=some (.int .i64 xi)/\W'.cell? ⟨wr.heap.size,1,none⟩=some (.string (ofL xd))/\W'.cell? ⟨gb,xi,none⟩=some (.string (ofL old)))/\W'.frozen? ⟨gb,xi,none⟩=false):=fun W' h =>
     have e1:=h.block wr.heap.size (by show _<wa.heap.size;omega) (by omega);have e2:=h.block gb (by show _<wa.heap.size;omega) (by omega)
     ⟨⟨(World.cell?_of_block e1).trans y0,(World.cell?_of_block e1).trans y1,(World.cell?_of_block e2).trans c0⟩,(show Bk W' gb 9 cur from e2.trans HCU.out).free xi⟩
    have HCL:=ah (fun W hi=>HA.out.call k old xd W hi hol g2);rw[hA2]at k2 ⊢;clear hc hx hwa hrun hcur hcu hcx hold hog hI hO;rcases HA.out.fn with ⟨rfl,rfl⟩ | ⟨p,q,r,rfl,rfl⟩
    all_goals
     simp only[List.append_toArray,Array.append_empty,List.cons_append,List.nil_append]at HCL;go_wp2_with fail;rw[HWA.out]
     go_region_law (first | (go_simp;go_at_call 171;refine(HCL.out _ HIA.out).mono ?_;rintro e w4 ⟨rfl,hI4,hG4⟩;have HG4:=ah hG4;have HI4:=ah hI4;obtain⟨⟨u0,u1,u2⟩,u3⟩:=HGX.out _ hG4;clear hI4 hG4) | (go_simp;go_at_call 60;refine(HCL.out _ HIA.out).mono ?_;rintro e w4 ⟨rfl,hI4,hG4⟩;have HG4:=ah hG4;have HI4:=ah hI4;obtain⟨⟨u0,u1,u2⟩,u3⟩:=HGX.out _ hG4;clear hI4 hG4))
     all_goals
      go_wp2_with fail;go_roundw
      case rel =>
       refine⟨k+1,L.set xi (g k old xd),by omega,by go_num,by rw[List.length_set];exact hLn,fun x hx=>?_,hrun2.out,HA.out.keep (k+1) w4 _ HI4.out (by have:=HG4.out.size;have e:wa.drew.heap.size=wa.heap.size:=rfl;omega) ((af _ w4).setCell (p:=⟨gb,xi,none⟩) (by show w.heap.size<=gb;omega) _),?_,?_⟩
       . rcases List.mem_or_eq_of_mem_set hx with hx | rfl
         . exact hLl.out x hx
         . exact HA.out.len k old xd hol g2
       . rw[<-wM]
         exact qZ (HOA.out.drew.kept (row:=some nb) ⟨HG4.out.os,HG4.out.tape,HG4.out.output,HG4.out.size,fun j hj hn=>HG4.out.block j hj (fun e=>hn (by rw[e]))⟩ (.inr (fun e=>absurd (Option.some.inj e) (by show gb≠nb;omega)))) _
       . exact(hG.out.trans ((Gb.of_below (HAB.out.drew)).trans (HG4.out.mono (fun _ _ e=> .inl e)))).trans (Gb.set (.inr rfl) xi _)
      case measure=>simp[intOf];omega
  . have hend:Hid (fC g 0 d.ss d.pn=L):=by
      show _=_;rw[hrun.out,List.drop_of_length_le (by rw[HMM.out];omega),fC]
    have HGG:Hid (Gb (fun b=>b=nb∨b=gb) w1 wr):=hG.out;have HK2:Hid (Bk wr w.heap.size 25 #[.int .i64 d.sz,.slice s.a1 n s.c1,.slice s.a2 m s.c2,.int .i64 d.lf]):=hG.out.bk HK1.out (by omega);have HZ2:Hid (Bk wr (w.heap.size+1) 25 #[.int .i64 0,.slice none 0 0,.slice none 0 0,.int .i64 0]):=hG.out.bk (HZ.out.below HB1.out (by omega)) (by omega);obtain⟨k0,k1,k2,k3⟩:=HK2.out.dk4;obtain⟨z0,z1,z2,z3⟩:=HZ2.out.dk4;obtain⟨f0,f1,f2,f3⟩:=fr4 HZ2.out;have e1:=HK2.out.free 1;have e2:=HK2.out.free 2;have HGW:Hid (Gb (fun b=>b=nb) w wr):=((Gb.of_below HB0.out).trans (Gb.of_below (HB1.out.mono (by omega)))).fresh hG.out (fun i hi hlt=>by rcases hi with h | h;exact h;omega);have hLn2:Hid ((fC g 0 d.ss d.pn).length=n):=by show _=_;rw[hend.out];exact hLn
    clear hG;go_wp2_with fail;have HE:=ah (((HZ2.out.far (p:=⟨w.heap.size,1,none⟩) (by show w.heap.size+1≠w.heap.size;omega) (.slice (some ⟨gb,0,none⟩) n c1)).far (p:=⟨w.heap.size,2,none⟩) (by show w.heap.size+1≠w.heap.size;omega) (.slice none 0 0)).set4 (.int .i64 d.sz) (.slice (some ⟨gb,0,none⟩) n c1) (.slice none 0 0) (.int .i64 d.lf));refine ZY (BH Tryz.results59 rfl HE.out) rfl ?_;refine⟨⟨some ⟨gb,0,none⟩,c1,none,0⟩,by rw[hLn2.out],⟨?_,Sl.nil _ _ _ _⟩,?_⟩
    . show Sl _ _ 1 (some ⟨gb,0,none⟩) (fC g 0 d.ss d.pn).length (flat aA (fC g 0 d.ss d.pn))
      rw[hLn2.out,hend.out];have b0:w.heap.size<W.heap.size:=by omega
      have b1:w.heap.size+1<W.heap.size:=by omega
      exact Sl.of_own (ownsRow_setCell_below (ownsRow_setCell_below (ownsRow_setCell_below (ownsRow_setCell_below (ownsRow_setCell_below (ownsRow_setCell_below hO.out (a:=⟨w.heap.size,1,none⟩) b0 _) (a:=⟨w.heap.size,2,none⟩) b0 _) (a:=⟨w.heap.size+1,0,none⟩) b1 _) (a:=⟨w.heap.size+1,1,none⟩) b1 _) (a:=⟨w.heap.size+1,2,none⟩) b1 _) (a:=⟨w.heap.size+1,3,none⟩) b1 _)
    . have l0:w.heap.size<=w.heap.size:=Nat.le_refl _
      obtain rfl:k=m:=by omega
      have l1:w.heap.size<=w.heap.size+1:=by omega
      exact⟨(((((HGW.out.after l0 1 _).after l0 2 _).after l1 0 _).after l1 1 _).after l1 2 _).after l1 3 _,HA.out.keep k wr _ hI.out (by omega) ((((((((af w.heap.size wr).setCell (p:=⟨w.heap.size,1,none⟩) l0 _).setCell (p:=⟨w.heap.size,2,none⟩) l0 _).setCell (p:=⟨w.heap.size+1,0,none⟩) l1 _).setCell (p:=⟨w.heap.size+1,1,none⟩) l1 _).setCell (p:=⟨w.heap.size+1,2,none⟩) l1 _).setCell (p:=⟨w.heap.size+1,3,none⟩) l1 _))⟩
end Go.Proofs.YtknefelegjlgnaaGreatDoor
