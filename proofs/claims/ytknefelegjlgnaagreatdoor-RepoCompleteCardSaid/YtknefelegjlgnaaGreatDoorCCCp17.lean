/-
  Lemmas of the card.
-/
import Derived.Test.YtknefelegjlgnaaGreatDoorCCCp16
set_option maxRecDepth 100000
set_option maxHeartbeats 8000000
namespace Go.Proofs.YtknefelegjlgnaaGreatDoor
open Go.RowKit
theorem oZ(s:UX)(k:Nat):toL (s.extract k s.size)= (toL s).drop k:=by
 show(s.extract k s.size).data.toList=_;rw[lX,ZU];rfl;rw[List.length_drop];show(toL s).length - k<=_;rw[<-aQ];omega
def TY(r:Nat×Nat×Int)(k:Nat)(w:UW)(e:Ending)(w':UW):Prop:=e= .returned (.tuple #[.int .i64 r.1,.int .i64 (k+r.2.1:Nat),.int .i64 r.2.2])/\w=w'
theorem La(s:UX)(k:Nat)(hk:k<=s.size)(hs:s.size<=maxLen)(w:UW):Calls Tryz.prog 314 #[.string s,.int .i64 k,.func (.func 141) #[] #[]] w (TY (az ((toL s).drop k)) k w):=by
 have HX:Hid (toL (s.extract k s.size)= (toL s).drop k):=oZ s k;have h0: (k:Int)<= (s.size:Int):=by omega
 unfold maxLen at hs
 go_enter Tryz.func314,Tryz.ntmps314
 go_wp2_with fail;refine(mr (s.extract k s.size) _).mono ?_;rw[HX.o];have hle:=ni ((toL s).drop k);rw[List.length_drop,<-aQ]at hle;generalize az ((toL s).drop k)=r at *;obtain⟨n,m,e⟩:=r;rintro e' w' ⟨rfl,rfl⟩;simp only at hle ⊢
 go_wp2
 go_ret3
 exact⟨by simp,rfl⟩
theorem KP(s:UX)(hs:s.size<=maxLen)(w:UW):Calls Tryz.prog 314 #[.string s,.int .i64 0,.func (.func 141) #[] #[]] w (uC (az (toL s)) w):=by
 have h:=La s 0 (ZX _) hs w;refine h.mono ?_;rintro e w' ⟨he,hw⟩;rw[Nat.zero_add]at he;exact⟨he,hw⟩
def Uf(r:UZ×Nat×Int)(k:Nat)(w:UW)(e:Ending)(w':UW):Prop:=e= .returned (.tuple #[.string (ofL r.1),.int .i64 (k+r.2.1:Nat),.int .i64 r.2.2])/\w=w'
theorem JM(s:UX)(k:Nat)(hk:k<=s.size)(hs:s.size<=maxLen)(w:UW):Calls Tryz.prog 315 #[.string s,.int .i64 k,.func (.func 226) #[] #[]] w (Uf (aK ((toL s).drop k)) k w):=by
 have HX:Hid (toL (s.extract k s.size)= (toL s).drop k):=oZ s k;have h0: (k:Int)<= (s.size:Int):=by omega
 have hz: (s.extract k s.size).size<=maxLen:=by rw[ByteArray.size_extract];omega
 unfold maxLen at hs;have HZ:=ai hz;clear hz
 go_enter Tryz.func315,Tryz.ntmps315
 go_wp2_with fail;refine(uY (s.extract k s.size) HZ.o _).mono ?_;rw[HX.o];have hle:=tH ((toL s).drop k);rw[List.length_drop,<-aQ]at hle;generalize aK ((toL s).drop k)=r at *;obtain⟨t,m,e⟩:=r;obtain⟨ts,hts⟩:=NX9 (ofL t)
 rintro e' w' ⟨rfl,rfl⟩;simp only at hle ⊢;rw[hts];have a:=ai hts;clear hts
 go_wp2
 go_ret3
 exact⟨by rw[a.o];simp,rfl⟩
def zu(b:UZ)(w:UW)(e:Ending)(w':UW):Prop:=U0 w w'/\match gB b with
 | none=>∃er:Int,er≠0/\e= .returned (.tuple #[.slice none 0 0,.int .i64 0,.int .i64 er])
 | some p=>∃A cc,e= .returned (.tuple #[.slice A p.1.length cc,.int .i64 p.2,.int .i64 0])/\w'.ownsRow w.heap.size 9 1 (.slice A p.1.length cc) p.1.length (flat aC p.1)/\p.1.length<=cc/\cc<=maxLen
theorem Gv{n at_:Nat}{b:UZ}:gG (n+1) at_ b=if(aK b).2.2≠0 then none else match gG n (at_+ (aK b).2.1) (b.drop (aK b).2.1) with
  | none=>none
  | some (l,c)=>some ((aK b).1::l,c):=rfl
def pre(d:List UZ):Option (List UZ×Nat)->Option (List UZ×Nat)
 | none=>none
 | some (l,c)=>some (d++l,c)
theorem QA(o:Option (List UZ×Nat)):pre [] o=o:=by cases o with | none=>rfl | some p=>rfl
theorem PQ(d:List UZ)(n at_:Nat)(b:UZ)(h: (aK b).2.2=0):pre d (gG (n+1) at_ b)=pre (d++ [(aK b).1]) (gG n (at_+ (aK b).2.1) (b.drop (aK b).2.1)):=by
 rw[Gv,if_neg (by simp[h])];cases gG n (at_+ (aK b).2.1) (b.drop (aK b).2.1) with
 | none=>rfl
 | some p=>obtain⟨l,c⟩:=p;simp[pre]
theorem Ph(d:List UZ)(n at_:Nat)(b:UZ)(h: (aK b).2.2≠0):pre d (gG (n+1) at_ b)=none:=by rw[Gv,if_pos h];rfl
theorem JH(s:UX)(hs:s.size<=maxLen)(w:UW):Calls Tryz.prog 280 #[.string s] w (zu (toL s) w):=by
 have HR:Hid (∀r,gB (toL s)=r->∀e w',(U0 w w'/\match r with
  | none=>∃er:Int,er≠0/\e= .returned (.tuple #[.slice none 0 0,.int .i64 0,.int .i64 er])
  | some p=>∃A cc,e= .returned (.tuple #[.slice A p.1.length cc,.int .i64 p.2,.int .i64 0])/\w'.ownsRow w.heap.size 9 1 (.slice A p.1.length cc) p.1.length (flat aC p.1)/\p.1.length<=cc/\cc<=maxLen)->zu (toL s) w e w'):=fun r h e w' hh=>by rw[zu,h];exact hh
 have HD:Hid (gB (toL s)=if(az (toL s)).2.2≠0∨1000< (az (toL s)).1 then none else gG (az (toL s)).1 (az (toL s)).2.1 ((toL s).drop (az (toL s)).2.1)):=rfl;have hle:=ni (toL s);rw[<-aQ]at hle;have HI:=ai (KP s hs);have HS:=ai hs;obtain⟨i0,hi,hz0,hz1,hz2⟩:=info_parts jP;have Hi:=ai hi;have f:=ai hz0;have j:=ai hz1;have l:=ai hz2;clear hi hz0 hz1 hz2;unfold maxLen at hs
 go_enter Tryz.func280,Tryz.ntmps280
 go_wp2_with fail;refine(HI.o _).mono ?_;generalize az (toL s)=r at *;obtain⟨n,k0,e⟩:=r;rintro e' w' ⟨rfl,rfl⟩;simp only at hle HD ⊢;clear HI;by_cases he:e=0
 . subst he
   by_cases hn:1000<n
   . have hni: (1000:Int)< (n:Int):=by omega
     have hfin:Hid (gB (toL s)=none):=by show _=_;rw[HD.o,if_pos (.inr hn)]
     clear HD
     go_wp2
     go_ret3
     exact HR.o _ hfin.o _ _ ⟨ah _ _,13,by omega,rfl⟩
   . have hni:¬(1000:Int)< (n:Int):=by omega
     have HD2:Hid (gB (toL s)=gG n k0 ((toL s).drop k0)):=by show _=_;rw[HD.o,if_neg (by simp;omega)]
     clear HD
     go_wp2
     go_loopw[8,6,22] (fun v a i wr=>∃(k at_:Nat)(d:List UZ)(A':OA)(c':Nat),k<=n/\i= .int .i64 k/\a= .int .i64 at_/\at_<=s.size/\v= .slice A' k c'/\d.length=k/\Hid (wr.ownsRow w.heap.size 9 1 (.slice A' k c') k (flat aC d))/\k<=c'/\c'<=maxLen/\Hid (gB (toL s)=pre d (gG (n - k) at_ ((toL s).drop at_)))/\U6 w wr) (fun _ _ i _=>n - (intOf i).toNat)
     case atStart=>exact⟨0,k0,[],none,0,ZX _,rfl,rfl,hle,rfl,rfl,World.ownsRow_nil _ _ _ _,Nat.le_refl _,ZX _,by show _=_;rw[QA];exact HD2.o,ah _ _⟩
     case round =>
      obtain⟨k,at_,d,A',c',hk,rfl,rfl,hat,rfl,hdl,hO,hkc,hcm,hG,hBel⟩:=hrel;by_cases hlt:k<n
      . obtain⟨m,hm⟩:∃m,n - k=m+1:=⟨n - k - 1,by omega⟩
        have hm2:n - (k+1)=m:=by omega
        have HN:=ai (JM s at_ hat HS.o);have hle2:=tH ((toL s).drop at_);rw[List.length_drop,<-aQ]at hle2;rw[hm]at hG;have hlz: (k:Int)< (n:Int):=by omega
        have o:=ai hm2;clear hm hm2;go_wp2_with fail;refine(HN.o _).mono ?_;have HF:=ai (Ph d m at_ ((toL s).drop at_));have HK:=ai (PQ d m at_ ((toL s).drop at_));rw[List.drop_drop]at HK;generalize aK ((toL s).drop at_)=g at *;obtain⟨t,q,e⟩:=g;simp only at hle2 HF HK;rintro e' w' ⟨rfl,rfl⟩;simp only;clear HN;by_cases he:e=0
        . subst he
          have HG2:Hid (gB (toL s)=pre (d++ [t]) (gG m (at_+q) ((toL s).drop (at_+q)))):=hG.o.trans (HK.o rfl);obtain⟨v,hv⟩:=NX9 (ofL t)
          have HV:Hid (flat aC (d++ [t])=flat aC d++ [.string v]):=by show _=_;rw[bI];rw[<-hv];rfl
          have hv1:∀u∈ [(Value.string v)],u.oneCell'=true:=fun u hu=>by rw[List.mem_singleton.1 hu];rfl
          have b:Hid ((wr.alloc (.cells #[.string v] 9)).ownsRow w.heap.size 9 1 (.slice A' k c') k (flat aC d)):=hO.o.alloc _;have z2:=hBel.o.size;rw[hv];clear HK HF hv hG
          go_wp2_with (at_builtin;refine aN ?_)
          refine aH ?_;refine jK (base:=w.heap.size) (size:=1) _ rfl (.tmp 34) (.tmp 36) 22 rfl 9 i0 _ 16 Tryz.underlying22 Hi.o f.o j.o l.o rfl (by decide) (.slice A' k c') k (flat aC d) (by rfl) b.o (wr.heap.size+1) (some ⟨wr.heap.size,0,none⟩) 1 1 [.string v] (by rfl) (Sl.new wr 9 [.string v] 1 rfl) hv1 (by unfold maxLen;omega) (by omega) (by simp;omega) ?_;intro A4 c4 w4 c hg4 hc4 hm4;rw[<-HV.o]at c;have x:=ai c;have HB4:U6 w w4:=(hBel.o.alloc (by omega) _).grown hg4 (by simp;omega) (fun g hg=>jy b.o g hg);have y:=ai hm4;clear c hg4 hm4 b hv1;go_wp2_with fail;go_roundw
          case rel=>exact⟨k+1,at_+q,d++ [t],A4,c4,by omega,by go_num,by go_num,by omega,rfl,by simp[hdl],x.o,hc4,y.o,by show _=_;rw[o.o];exact HG2.o,HB4.o⟩
          case measure=>simp[intOf];omega
        . have hne: (e != 0)=true:=by rw[bne_iff_ne];exact he
          have hfin:Hid (gB (toL s)=none):=by show _=_;rw[hG.o,HF.o he]
          have HE:=ai he;clear HK HF hG he
          go_wp2
          go_ret3
          exact HR.o _ hfin.o _ _ ⟨hBel.o,e,HE.o,rfl⟩
      . obtain rfl:k=n:=by omega
        have hfin:Hid (gB (toL s)=some (d,at_)):=by show _=_;rw[hG.o,Nat.sub_self,gG,pre,List.append_nil]
        have z:=ai hdl;have HCM:=ai hcm;clear hG hdl hcm
        go_wp2
        go_ret3
        have e1: ((d,at_).1:List UZ).length=k:=z.o;exact HR.o _ hfin.o _ _ ⟨hBel.o,A',c',by rw[e1];first | done | rfl,by rw[e1];exact hO.o,by rw[e1];exact hkc,HCM.o⟩
 . have hne: (e != 0)=true:=by rw[bne_iff_ne];exact he
   have hfin:Hid (gB (toL s)=none):=by show _=_;rw[HD.o,if_pos (.inl he)]
   have HE:=ai he;clear HD he
   go_wp2
   go_ret3
   exact HR.o _ hfin.o _ _ ⟨ah _ _,e,HE.o,rfl⟩
theorem Jl(c sz:Nat)(h0:0<sz)(hc:c<=1000000000)(hs:sz<=512)(w:UW):Calls Tryz.prog 223 #[.int .i64 c,.int .i64 sz] w fun e w'=>e= .returned (.int .i64 (nsec c sz:Nat))/\w=w':=by
 have hq: ((c:Int)+ (sz:Int) - 1) / (sz:Int)= (nsec c sz:Nat):=by
  unfold nsec;rw[Int.natCast_ediv,show((c+sz - 1:Nat):Int)= (c:Int)+ (sz:Int) - 1 by omega]
 have hle:nsec c sz<=c+sz - 1:=Nat.div_le_self _ _;have hz:¬((sz:Int)=0):=by omega
 have HQ:=ai hq;clear hq hle;generalize nsec c sz=q at *
 go_enter Tryz.func223,Tryz.ntmps223
 go_wp2
 go_ret
 exact⟨by rw[<-HQ.o];rfl,rfl⟩
def ql(b:UZ)(w:UW)(e:Ending)(w':UW):Prop:=U0 w w'/\match dP b with
 | none=>∃A n c m,e= .returned (.tuple #[.slice A n c,m,.bool false])
 | some p=>∃A cc,e= .returned (.tuple #[.slice A p.1.length cc,.int .i64 p.2,.bool true])/\w'.ownsRow w.heap.size 9 1 (.slice A p.1.length cc) p.1.length (flat aC p.1)/\p.1.length<=cc/\cc<=maxLen
theorem Ns(x:UInt8)(s:UZ):dP (x::s)=if x≠1∨ (az s).2.2≠0∨s.length< (az s).2.1+ (az s).1 then none else
  match gB ((s.drop (az s).2.1).take (az s).1) with
  | none=>none
  | some (l,c)=>if c= (az s).1 then some (l,1+ (az s).2.1+ (az s).1) else none:=rfl
theorem Jj(s:UX)(h0:0<s.size)(hs:s.size<=maxLen)(w:UW):Calls Tryz.prog 222 #[.string s] w (ql (toL s) w):=by
 have hcons:toL s=s[0]:: (toL s).drop 1:=by have:=wR h0;rwa[List.drop_zero]at this
 have HN:Hid (dP (toL s)=none->∀e w',U0 w w'-> (∃A n c m,e= .returned (.tuple #[.slice A n c,m,.bool false]))->ql (toL s) w e w'):=fun h e w' hb hh=>by rw[ql,h];exact⟨hb,hh⟩
 have HS:Hid (∀p,dP (toL s)=some p->∀e w',U0 w w'-> (∃A cc,e= .returned (.tuple #[.slice A p.1.length cc,.int .i64 p.2,.bool true])/\w'.ownsRow w.heap.size 9 1 (.slice A p.1.length cc) p.1.length (flat aC p.1)/\p.1.length<=cc/\cc<=maxLen)->ql (toL s) w e w'):=fun p h e w' hb hh=>by rw[ql,h];exact⟨hb,hh⟩
 have HD:=ai (Ns s[0] ((toL s).drop 1));rw[<-hcons]at HD;have HX:Hid (toL (s.extract 1 s.size)= (toL s).drop 1):=oZ s 1;have hle:=ni ((toL s).drop 1);have hmx:=xW ((toL s).drop 1);have hdl: ((toL s).drop 1).length=s.size - 1:=by rw[List.length_drop,<-aQ]
 rw[hdl]at hle HD;have HM:=ai hs;unfold maxLen at hs;have hd:s[0].toNat<256:=s[0].toNat_lt;have h1i: (1:Int)<= (s.size:Int):=by omega
 clear hcons hdl;by_cases hx:s[0]=1
 . have hxi:s[0].toNat=1:=by rw[hx];rfl
   go_enter Tryz.func222,Tryz.ntmps222
   go_wp2_with fail;refine(mr (s.extract 1 s.size) _).mono ?_;rw[HX.o];have HE:=ai (fun k n=>vC s k n);have HDR:Hid (∀m,((toL s).drop 1).drop m= (toL s).drop (1+m)):=fun m=>by show _=_;rw[List.drop_drop]
   generalize az ((toL s).drop 1)=r at *;obtain⟨n,m,e⟩:=r;rintro e' w' ⟨rfl,rfl⟩;simp only at hle hmx HD ⊢;by_cases he:e=0
   . subst he
     by_cases hl:s.size - 1<m+n
     . have a: (s.size:Int) - (1+ (m:Int))< (n:Int):=by omega
       have hfin:Hid (dP (toL s)=none):=by show _=_;rw[HD.o,if_pos (.inr (.inr hl))]
       clear HD
       go_wp2
       go_ret3
       exact HN.o hfin.o _ _ (ah _ _) ⟨_,_,_,_,rfl⟩
     . have a:¬(s.size:Int) - (1+ (m:Int))< (n:Int):=by omega
       have HD2:Hid (dP (toL s)=match gB (((toL s).drop (1+m)).take n) with
         | none=>none
         | some (l,c)=>if c=n then some (l,1+m+n) else none):=by
        show _=_;rw[HD.o,if_neg (by simp[hx];omega),HDR.o]
       have HG:=ai (JH (ofL (((toL s).drop (1+m)).take n)) (by rw[bK,List.length_take];have:=HM.o;omega));rw[dw,<-HE.o (1+m) n]at HG;clear HD HDR HE;go_wp2_with fail;refine(HG.o _).mono ?_;rintro e w1 ⟨hb1,h1⟩;have HB1:=ai hb1;clear HG;generalize gB (((toL s).drop (1+m)).take n)=g at *;cases g with
       | none =>
         obtain⟨er,her,rfl⟩:=h1;have hne: (er == 0)=false:=by rw[beq_eq_false_iff_ne];exact her
         have hfin:Hid (dP (toL s)=none):=HD2.o;clear HD2 her hb1
         go_wp2
         go_ret3
         exact HN.o hfin.o _ _ HB1.o ⟨_,_,_,_,rfl⟩
       | some p =>
         obtain⟨l,c⟩:=p;obtain⟨A,cc,rfl,ho,hcc,hcm⟩:=h1;have HO:=ai ho;have b:=ai hcc;have HCM:=ai hcm;clear ho hcc hcm hb1;by_cases hcn:c=n
         . subst hcn
           have hfin:Hid (dP (toL s)=some (l,1+m+c)):=by show _=_;rw[HD2.o];simp
           clear HD2
           go_wp2
           go_ret3
           exact HS.o _ hfin.o _ _ HB1.o ⟨A,cc,by simp,HO.o,b.o,HCM.o⟩
         . have hfin:Hid (dP (toL s)=none):=by show _=_;rw[HD2.o];simp[hcn]
           have hcf: ((c:Int) == (n:Int))=false:=by rw[beq_eq_false_iff_ne];omega
           clear HD2
           go_wp2
           go_ret3
           exact HN.o hfin.o _ _ HB1.o ⟨_,_,_,_,rfl⟩
   . have hne: (e != 0)=true:=by rw[bne_iff_ne];exact he
     have hfin:Hid (dP (toL s)=none):=by show _=_;rw[HD.o,if_pos (.inr (.inl he))]
     clear HD he
     go_wp2
     go_ret3
     exact HN.o hfin.o _ _ (ah _ _) ⟨_,_,_,_,rfl⟩
 . have hxi:¬s[0].toNat=1:=fun h=>hx (UInt8.toNat_inj.1 h)
   have hfin:Hid (dP (toL s)=none):=by show _=_;rw[HD.o,if_pos (.inl hx)]
   have hxb: ((s[0].toNat:Int) != 1)=true:=by rw[bne_iff_ne];omega
   clear HD hxi
   go_enter Tryz.func222,Tryz.ntmps222
   go_wp2
   go_ret3
   exact HN.o hfin.o _ _ (ah _ _) ⟨_,_,_,_,rfl⟩
section
def uH{α:Type}(F:Fence)(n:Nat)(P:Program)(g:Nat)(lb:Array UY)(encs:α->Array UY)(Kp St:UW->UW->Prop)(Pf:UW->List α->Prop)(S Sp:List α->Prop)(hz:Nat)(w:UW):Prop :=
 ∀(l:Nat)(J Jx:List α->UW->Prop)(W:UW),U0 w W->W.heap.size=hz-> (∀pre A B,J pre A->St A B->J pre B) ->
  (∀pre x W1,Pf W1 (pre++ [x])->J pre W1->YieldAt F (n - 1) P l (encs x) W1 fun e W' =>
    (e= .returned (.bool true)/\J (pre++ [x]) W'/\Kp W1 W')∨ (e= .returned (.bool false)/\Jx (pre++ [x]) W')) ->
  J [] W ->
  CallsIn F n P g (#[.func (.yield l) #[] #[]]++lb) W fun e W'=>(∃v,e= .returned v)/\ ((∃xs,S xs/\J xs W')∨ (∃pre,Sp pre/\Jx pre W'))
variable {F : Fence} {n : Nat} {P : Program}
end
section
attribute [local go_sem] Oper.semAt_some
abbrev Fr:=(OA×Nat×Nat)×List UZ×Int
def frV(x:Fr):Array UY:=#[.slice x.1.1 x.1.2.1 x.1.2.2,.int .i64 x.2.2]
def frL(xs:List Fr):List UZ:=xs.flatMap (·.2.1)
def frU(xs:List Fr):Int:=(xs.getLast?.map (·.2.2)).getD 0
theorem xG(xs:List Fr)(x:Fr):frU (xs++ [x])=x.2.2:=by simp[frU]
theorem xP(xs:List Fr)(x:Fr):frL (xs++ [x])=frL xs++x.2.1:=by simp[frL]
def FrSt(sz:Nat)(b:UZ)(ls:List UZ)(u:Nat):Prop:=frs sz b= (frs sz (b.drop (u*sz))).map fun p=>(ls++p.1,u+p.2)
theorem FrSt.start(sz:Nat)(b:UZ):FrSt sz b [] 0:=by
 unfold FrSt;rw[Nat.zero_mul,List.drop_zero];cases frs sz b with
 | none=>rfl
 | some p=>simp
theorem FrSt.step{sz:Nat}{b:UZ}{ls l:List UZ}{u c:Nat}(h:FrSt sz b ls u)(hz:0<sz)(h0:¬zer (b.drop (u*sz)))(hd:dP (b.drop (u*sz))=some (l,c)):FrSt sz b (ls++l) (u+nsec c sz):=by
 unfold FrSt at *;rw[h,kZ hz h0 hd,List.drop_drop,<-Nat.add_mul];cases frs sz (b.drop ((u+nsec c sz)*sz)) with
 | none=>rfl
 | some p=>simp[Nat.add_assoc]
theorem FrSt.bad{sz:Nat}{b:UZ}{ls:List UZ}{u:Nat}(h:FrSt sz b ls u)(h0:¬zer (b.drop (u*sz)))(hd:dP (b.drop (u*sz))=none):frs sz b=none:=by
 unfold FrSt at h;rw[h,pI h0 hd];rfl
theorem FrSt.fin{sz:Nat}{b:UZ}{ls:List UZ}{u:Nat}(h:FrSt sz b ls u)(h0:zer (b.drop (u*sz))):frs sz b=some (ls,u):=by
 unfold FrSt at h;rw[h,kF h0];simp
def FrP(sz:Nat)(b:UZ)(W:UW)(xs:List Fr):Prop:=∀(pre:List Fr)(x:Fr),xs=pre++ [x]-> (x.2.2= -1/\frs sz b=none)∨∃u:Nat,x.2.2= (u:Int)/\Sl W W.heap.size 1 x.1.1 x.1.2.1 (flat aC x.2.1)/\x.1.2.1<=x.1.2.2/\x.1.2.2<=maxLen/\x.1.2.1=x.2.1.length/\x.2.1.length<=1000/\u<=1000512/\ (frL xs).length<=1000*u
def FrS(sz:Nat)(b:UZ)(xs:List Fr):Prop:=(∃pre x,xs=pre++ [x]/\x.2.2= -1)∨∃u:Nat,frU xs=u/\frs sz b=some (frL xs,u)
def KeepF(b1 b2:Nat)(A B:UW):Prop:=B.heap[b1]? =A.heap[b1]? /\B.heap[b2]? =A.heap[b2]?
theorem Nj{c:UInt8}(h:c=0): ((c.toNat:Int) != 0)=false:=by rw[h];rfl
theorem Np{c:UInt8}(h:¬c=0): ((c.toNat:Int) != 0)=true:=by
 rw[bne_iff_ne];intro e;exact h (UInt8.toNat_inj.1 (by show c.toNat=0;omega))
theorem Mc(n bs bz hz:Nat)(hn:1<=n)(s:UX)(sz:Nat)(w:UW)(hs:s.size<=1000000)(hz0:0<sz)(hz1:sz<=512)(h0:Bk w bs 9 #[.string s])(h1:Bk w bz 3 #[.int .i64 sz]) :
  uH Fence.wide n Tryz.prog 221 #[.pointer (some ⟨bs,0,none⟩),.pointer (some ⟨bz,0,none⟩)] frV (KeepF bs bz) (fun A B=>U0 A B)
   (FrP sz (toL s)) (FrS sz (toL s)) (fun _=>True) hz w:=fun l J Jx W hW hWz hJ hY hJ0=>by
 have G0:Hid (Bk W bs 9 #[.string s]):=(hW.block bs h0.lt).trans h0;have G1:Hid (Bk W bz 3 #[.int .i64 sz]):=(hW.block bz h1.lt).trans h1;clear hW h0 h1 hWz;have y:=ai hY;have o:=ai hJ0;have HJ:=ai hJ;clear hJ hY hJ0;refine callsIn_of_wp Tryz.func221 rfl trivial ?_ rfl;simp only[Tryz.ntmps221,List.size_toArray,Z4,List.length_nil,Nat.reduceAdd,Nat.reduceSub,Array.replicate_succ,Array.replicate_zero,List.push_toArray,List.append_toArray,List.nil_append,List.cons_append]
 gi_wp2_with fail
 gi_loopw [4] (fun q wr=>∃(a u:Nat)(pre:List Fr),q= .int .i64 (a:Int)/\Hid (a=u*sz)/\a<=1000512/\Hid (FrSt sz (toL s) (frL pre) u)/\Hid (frU pre=u/\ (frL pre).length<=1000*u)/\Hid (Bk wr bs 9 #[.string s])/\Hid (Bk wr bz 3 #[.int .i64 sz])/\Hid (J pre wr)) (fun q _=>1000513 - (intOf q).toNat)
 case atStart=>exact⟨0,0,[],rfl,by show _=_;simp,by omega,FrSt.start sz _,⟨rfl,by simp[frL]⟩,G0.o,G1.o,o.o⟩
 case round =>
  obtain⟨a,u,pre,rfl,b,ha,hF,hU,hS,hZ,hj⟩:=hrel;have c0:=hS.o.cell 0;have c1:=hZ.o.cell 0;simp at c0 c1;by_cases hlt:a<s.size
  . have hlz: (a:Int)< (s.size:Int):=by omega
    have hle: (a:Int)<= (s.size:Int):=by omega
    have hdr:=wR hlt;by_cases h00:s[a]=0
    . have t1:=Nj h00
      have HF:Hid (frs sz (toL s)=some (frL pre,u)):=hF.o.fin (by rw[<-b.o,hdr];intro x hx;simp at hx;rw[<-hx];exact h00);clear h00 hdr
      gi_wp2
      go_end0
      exact⟨⟨_,rfl⟩,.inl ⟨pre,.inr ⟨u,hU.o.1,HF.o⟩,hj.o⟩⟩
    . have t1:=Np h00
      have HZ0:Hid (¬zer ((toL s).drop (u*sz))):=by show ¬_;rw[<-b.o,hdr];intro h;exact h00 (h _ rfl)
      have HX:Hid (toL (s.extract a s.size)= (toL s).drop (u*sz)):=by rw[<-b.o];exact oZ s a
      have hxs: (s.extract a s.size).size=s.size - a:=by rw[ByteArray.size_extract];omega
      have HD:=ai (Jj (s.extract a s.size) (by omega) (by unfold maxLen;omega));rw[HX.o]at HD;clear h00 hdr hxs
      gi_wp2_with fail
      refine⟨trivial,(callsIn_wide.2 (HD.o _)).mono ?_⟩;rintro e w1 ⟨hb1,h1⟩;have HB1:=ai hb1;have d:Hid (J pre w1):=HJ.o pre wr w1 hj.o hb1;have f:Hid (Bk w1 bs 9 #[.string s]):=hS.o.below hb1 hS.o.lt;have HZ1:Hid (Bk w1 bz 3 #[.int .i64 sz]):=hZ.o.below hb1 hZ.o.lt;have c0:=f.o.cell 0;have c1:=HZ1.o.cell 0;simp at c0 c1;clear HD hb1;cases hdf:dP ((toL s).drop (u*sz)) with
      | none =>
        rw[hdf]at h1;obtain⟨A,nn,cc,m,rfl⟩:=h1;have HN:Hid (frs sz (toL s)=none):=hF.o.bad HZ0.o hdf;clear hdf;obtain⟨fn,tmps,assign,body,hy,hR'⟩:=y.o pre ((none,0,0),[],-1) w1 (fun p x he=>by
         have e:=congrArg List.getLast? he;simp at e;subst e;exact .inl ⟨rfl,HN.o⟩) d.o
        simp only[frV]at hy hR';have HR':=ai hR';clear hR'
        gi_wp2
        refine HR'.o.mono ?_;rintro e' W3 (⟨rfl,hJ3,hK3⟩ | ⟨rfl,hJx3⟩)
        . gi_wp2
          refine ZW (results_none rfl _ _ _) rfl ?_;exact⟨⟨_,rfl⟩,.inl ⟨_,.inl ⟨_,_,rfl,rfl⟩,hJ3⟩⟩
        . gi_wp2
          refine ZW (results_none rfl _ _ _) rfl ?_;exact⟨⟨_,rfl⟩,.inr ⟨_,trivial,hJx3⟩⟩
      | some p =>
        obtain⟨ll,cn⟩:=p;rw[hdf]at h1;obtain⟨A,cc,rfl,ho,hcc,hcm⟩:=h1;have HF2:=ai (hF.o.step hz0 HZ0.o hdf);obtain⟨hfit,hcn,rr,hrr⟩:=mX hdf;have z:=mV ll;have hcl:cn+a<=s.size:=by
         have:=congrArg List.length hrr;rw[af,List.length_drop,<-aQ,<-hcn,<-b.o]at this;omega
        have hq1:=mO (c:=cn) hz0 (by omega);have hq2:=Gj (c:=cn) hz0 (by omega);obtain⟨q,hq⟩:=NX9 (nsec cn sz)
        rw[hq]at hq1 hq2 HF2;obtain⟨a2,ha2⟩:=NX9 ((u+q)*sz)
        have C:a2=a+q*sz:=by rw[<-ha2,Nat.add_mul,b.o]
        have D:q<=q*sz:=Nat.le_mul_of_pos_right _ hz0;have r:u<=u*sz:=Nat.le_mul_of_pos_right _ hz0;rw[<-b.o]at r;generalize q*sz=qz at *;have hsi: ((u:Int)+ (q:Int))* (sz:Int)= (a2:Int):=by rw[<-ha2,Int.natCast_mul,Int.natCast_add]
        have hdv: (a:Int) / (sz:Int)= (u:Int):=by rw[b.o,Int.natCast_mul];exact Int.mul_ediv_cancel _ (by omega)
        have hzi:¬sz=0:=by omega
        have E:IntKind.i64.wrap (u:Int)= (u:Int):=by rw[IntKind.wrap_i64];omega
        have hwq:IntKind.i64.wrap ((u:Int)+ (q:Int))= (u:Int)+ (q:Int):=by rw[IntKind.wrap_i64];omega
        have HS2:=ai (Jl cn sz hz0 (by omega) hz1);rw[hq]at HS2;have HF3:Hid (FrSt sz (toL s) (frL (pre++ [((A,ll.length,cc),ll,(u:Int)+ (q:Int))])) (u+q)):=by show FrSt _ _ _ _;rw[xP];exact HF2.o
        have g:Hid ((frL (pre++ [((A,ll.length,cc),ll,(u:Int)+ (q:Int))])).length<=1000* (u+q)):=by
         show _<=_;rw[xP,af];have:=hU.o.2;have:=hfit.1;simp only;omega
        have i:Hid (Sl w1 w1.heap.size 1 A ll.length (flat aC ll)):=Sl.of_own ho;have t:=ai hfit;have HA2:=ai ha2;have HCM:=ai hcm;clear hdf ho hrr hfit HF2 ha2 hq hcn hF hcm
        gi_wp2_with fail
        refine wpIn_region_quiet_lit rfl (by kernel_rfl) (by kernel_rfl) ?_
        repeat
         refine wpQuietIn_step (fun _ _ _ _=>trivial) (fun K hK=>?_)
         go_simp
         first
          | (refine hK _ ?_;clear hK K)
          | (apply Exists.intro;refine⟨fun _=>?_,hK _ ?_⟩;(gi_at_call 223;exact CallsIn.quiet_of_same (callsIn_wide.2 ((HS2.o _).mono (by rintro e w' ⟨rfl,rfl⟩;exact⟨rfl,rfl⟩))));clear hK K)
        refine wpQuietIn_nil ?_;rintro _ ⟨nq,rfl⟩;obtain⟨w2,hw2⟩:=NX9 (w1.drewN nq)
        have hb2:U0 w1 w2:=by rw[<-hw2];exact dm (ah _ _) nq
        have HJ2:Hid (J pre w2):=HJ.o pre w1 w2 d.o hb2;have j:Hid (Sl w2 w2.heap.size 1 A ll.length (flat aC ll)):=by rw[<-hw2];exact i.o
        have HS2:Hid (Bk w2 bs 9 #[.string s]):=by rw[<-hw2];exact f.o
        have HZ2:Hid (Bk w2 bz 3 #[.int .i64 sz]):=by rw[<-hw2];exact HZ1.o
        rw[hw2];clear hw2 hb2 f HZ1 d i c0 c1;have c0:=HS2.o.cell 0;have c1:=HZ2.o.cell 0;simp at c0 c1;obtain⟨fn,tmps,assign,body,hy,hR'⟩:=y.o pre ((A,ll.length,cc),ll,(u:Int)+ (q:Int)) w2 (fun p x he=>by
         have e:=congrArg List.getLast? he;simp at e;subst e;exact .inr ⟨u+q,by simp,j.o,hcc,HCM.o,rfl,t.o.1,by omega,g.o⟩) HJ2.o
        simp only[frV]at hy hR';have HR':=ai hR';clear hR'
        gi_wp2
        refine HR'.o.mono ?_;rintro e' W3 (⟨rfl,hJ3,hK3⟩ | ⟨rfl,hJx3⟩)
        . have k:Hid (Bk W3 bs 9 #[.string s]):=hK3.1.trans HS2.o
          have HZ3:Hid (Bk W3 bz 3 #[.int .i64 sz]):=hK3.2.trans HZ2.o;have c0:=k.o.cell 0;have c1:=HZ3.o.cell 0;simp at c0 c1;have v:=ai hJ3;clear hJ3 hK3
          gi_wp2
          go_roundw
          case rel=>exact⟨a2,u+q,_,by go_num,HA2.o.symm,by omega,HF3.o,⟨by rw[xG];simp,g.o⟩,k.o,HZ3.o,v.o⟩
          case measure=>simp[intOf];omega
        . gi_wp2
          refine ZW (results_none rfl _ _ _) rfl ?_;exact⟨⟨_,rfl⟩,.inr ⟨_,trivial,hJx3⟩⟩
  . have hlz:¬(a:Int)< (s.size:Int):=by omega
    have HF:Hid (frs sz (toL s)=some (frL pre,u)):=hF.o.fin (by rw[<-b.o,List.drop_of_length_le (by rw[<-aQ];omega)];intro x hx;simp at hx)
    gi_wp2
    go_end0
    exact⟨⟨_,rfl⟩,.inl ⟨pre,.inr ⟨u,hU.o.1,HF.o⟩,hj.o⟩⟩
end
section
variable {F : Fence} {n : Nat} {P : Program}
theorem AQ{α:Type}{g:Operand}{ps:Array Tmp}{assign body:Code}{Q:Exit->Act->UW->Prop}{a:Act}{w:UW}
  (hro:F.round=none) (h1:1<=n) {gf:Nat} {lb:Array UY} (hg:a.eval g= .func (.func gf) #[] lb) (hFg:F.fn gf) (eg:∀args w,(callFunc gf args).run P w= .ok (.enter gf args) w)
  {encs:α->Array UY} {Kp St:UW->UW->Prop} {Pf:UW->List α->Prop} {S Sp:List α->Prop} {w0:UW} (hseq:uH F (n - 1) P gf lb encs Kp St Pf S Sp (w.heap.size+2) w0)
  (hKt:∀{A B C:UW},Kp A B->Kp B C->Kp A C) (hKb:∀(W:UW)(l:Nat)(r:Loop)(o':Obj),w.heap.size+1=l->W.heap[l]? =some (.loop r)->Kp W (W.putObj l o')) (hSo:∀A B,St A B->w.heap.size+2<=A.heap.size->Rec2 w.heap.size A B) (hb0:U0 w0 w) (hps:∀x,(encs x).size=ps.size)
  (I:List α->UW->Prop) (Ix:Code->List α->UW->Prop) (hI:OwnFrom w.heap.size I) (hIx:∀c,OwnFrom w.heap.size (Ix c)) (hIS:∀pre A B,I pre A->St A B->I pre B) (h0:I [] w) (As:List α->Nat->UW->Prop) (hAp:∀x b W l (r:Loop) (o:Obj),W.heap[l]? =some (.loop r)->As x b W->As x b (W.putObj l o)) (a₁:α->Nat->Act)
  (hassign:∀(l:Nat)(pre:List α)(x:α)(W:UW)(K:Act->UW->Prop),Pf W (pre++ [x])->w.heap.size+2<=W.heap.size->I pre W-> (∀b W',Rec2 w.heap.size W W'->Kp W W'->I pre W'->As (pre++ [x]) b W'->K (a₁ x b) W') ->
    assign.wpIn (F.inRound l) (n - 1 - 1) P (Exit.then K (fun _ _ _=>False)) {tmps:=(ps.zip (encs x)).foldl (fun t (p,v)=>t.setIfInBounds p v) a.tmps,defers:= []} W)
  (hbody:∀(l:Nat)(pre:List α)(x:α)(b:Nat)(W:UW),w.heap.size+2<=W.heap.size->I pre W->As (pre++ [x]) b W->body.wpIn (F.inRound l) (n - 1 - 1) P (xX w.heap.size Kp I Ix (pre++ [x]) W) (a₁ x b) W)
  (hdone:∀(D:Nat)(xs:List α)(W:UW),w.heap.size<=D->S xs->I xs W->W.heap[D]? =some (.deferred (some []))->Q .normal {a with defers:={target:= .collected D,args:=#[]}::a.defers} W)
  (hstop:∀(D:Nat)(c:Code)(pre:List α)(W:UW),w.heap.size<=D->Sp pre->Ix c pre W->W.heap[D]? =some (.deferred (some []))->c.wpIn F n P Q {a with defers:={target:= .collected D,args:=#[]}::a.defers} W) :
  (Code.rangeFunc g ps assign body).wpIn F n P Q a w:=by
 refine wpIn_rangeFunc ?_;intro fn hfn;rw[hro]
 -- the loop's record in block L,the block of its deferred calls in block D
 obtain⟨D,hD⟩:=NX9 w.heap.size
 obtain⟨rec,hrec⟩:∃rec:LoopState->Option Code->Loop,rec=fun st pe=>{state:=st,pending:=pe,fn,tmps:=a.tmps,params:=ps,assign,body,defers:=D}:=⟨_,rfl⟩
 obtain⟨W1,hW1⟩:=NX9 ((w.alloc (.deferred (some []))).alloc (.loop (rec .ready none)))
 have hL1:W1.heap[D+1]? =some (.loop (rec .ready none)):=by
  rw[<-hW1,<-hD];have:=World.alloc_heap_new (w.alloc (.deferred (some []))) (.loop (rec .ready none));rwa[Z9]at this
 have hK1:W1.heap[D]? =some (.deferred (some [])):=by
  rw[<-hW1,<-hD];exact(Below.heap_alloc _ _ _ (by simp)).trans (World.alloc_heap_new w _)
 have hI1:I [] W1:=by rw[<-hW1];exact hI.alloc _ (hI.alloc _ h0)
 have hb1:U0 w0 W1:=by
  rw[<-hW1];exact hb0.trans ((((ah _ w).alloc aj _).alloc (by simp) _).mono hb0.size)
 refine⟨D+1,[{target:= .collected D,args:=#[]}],W1,{target:= .fn (.func gf) lb,args:=#[.func (.yield (D+1)) #[] #[]]},W1,gf,
  #[.func (.yield (D+1)) #[] #[]]++lb,W1,?_,?_,?_,?_,fun _=>h1,?_⟩
 . rw[<-hW1,hrec,<-hD];exact run_enterLoop_outer _ _ _ _ _
 . simp only[resolve,hg]
   simp[go_sem]
 . intro f' hf';simp[Target.leads]at hf';subst hf';exact hFg
 . simp[invoke,go_sem,eg]
 . refine(hseq (D+1)
     (fun pre W=>I pre W/\W.heap[D+1]? =some (.loop (rec .ready none))/\W.heap[D]? =some (.deferred (some [])))
     (fun pre W=>∃c,Ix c pre W/\W.heap[D+1]? =some (.loop (rec .done (some c)))/\W.heap[D]? =some (.deferred (some [])))
     W1 hb1 (by rw[<-hW1];simp)
     (fun pre A B hs hst=>by
       have hz2:=(Array.getElem?_eq_some_iff.1 hs.2.1).1;have hr:=hSo A B hst (by omega);rw[hD]at hr;exact⟨hIS pre A B hs.1 hst,hr.2.trans hs.2.1,hr.1.trans hs.2.2⟩)
     ?_ ⟨hI1,hL1,hK1⟩).mono ?_
   . rintro pre x W d ⟨hi,hl,hk⟩
     have hlt:D+1<W.heap.size:=(Array.getElem?_eq_some_iff.1 hl).1;have hy:=run_yield (P:=P) (args:=encs x) hl (by rw[hrec];exact hps x);rw[hrec]at hy;refine⟨fn,_,assign,body,hy,roundIn_of_wpIn hfn (hassign _ pre x W _ d (by omega) hi fun b V hrv hkv hiv hav=>?_)⟩;rw[hD]at hrv;have hlv:V.heap[D+1]? =some (.loop (rec .ready none)):=hrv.2.trans hl;have hkd:V.heap[D]? =some (.deferred (some [])):=hrv.1.trans hk;have hltv:D+1<V.heap.size:=(Array.getElem?_eq_some_iff.1 hlv).1;refine⟨_,run_beginRound hlv (by rw[hrec]),?_⟩;obtain⟨W2,hW2⟩:∃W2,V.putObj (D+1) (.loop {rec .ready none with state:= .busy})=W2:=⟨_,rfl⟩
     have hl2:W2.heap[D+1]? =some (.loop {rec .ready none with state:= .busy}):=by rw[<-hW2];exact World.putObj_heap_same hltv
     have hk2:W2.heap[D]? =some (.deferred (some [])):=by rw[<-hW2];exact(World.putObj_heap_other (by omega)).trans hkd
     have hw2:Kp W W2:=by rw[<-hW2];exact hKt hkv (hKb _ _ _ _ (by omega) hlv)
     have hi2:I pre W2:=by rw[<-hW2];exact hI.putObj _ hiv (by omega) hlv rfl
     have ha2:As (pre++ [x]) b W2:=by rw[<-hW2];exact hAp _ _ _ _ _ _ hlv hav
     rw[hW2];refine wpIn_mono (hbody _ pre x b _ (by have:=(Array.getElem?_eq_some_iff.1 hl2).1;omega) hi2 ha2) ?_;have fin:∀(jump:Option Code)(W3:UW),Rec2 w.heap.size W2 W3 ->
       (Instr.endRound (D+1) jump).run P W3= .ok (.bool jump.isNone) (W3.putObj (D+1) (.loop (rec (if jump.isNone then .ready else .done) jump))) ∧
       W3.heap[D+1]? =some (.loop {rec .ready none with state:= .busy}) ∧
       (W3.putObj (D+1) (.loop (rec (if jump.isNone then .ready else .done) jump))).heap[D+1]? =some (.loop (rec (if jump.isNone then .ready else .done) jump)) ∧
       (W3.putObj (D+1) (.loop (rec (if jump.isNone then .ready else .done) jump))).heap[D]? =some (.deferred (some [])):=fun jump W3 hk3=>by
      rw[hD]at hk3;have hl3:=hk3.2.trans hl2;have:=run_endRound (P:=P) jump hl3;rw[hrec]at this ⊢;exact⟨this,by rw[hrec]at hl3;exact hl3,World.putObj_heap_same (Array.getElem?_eq_some_iff.1 hl3).1,(World.putObj_heap_other (by omega)).trans (hk3.1.trans hk2)⟩
     rintro e a3 W3 hp;cases e with
     | normal =>
       obtain⟨hk3,hkp3,hi3⟩:=hp;obtain⟨hr,hl3,hl4,hk4⟩:=fin none W3 hk3;exact⟨_,_,hr,.inl ⟨rfl,⟨hI.putObj _ hi3 (by omega) hl3 rfl,hl4,hk4⟩,hKt (hKt hw2 hkp3) (hKb _ _ _ _ (by omega) hl3)⟩⟩
     | ret =>
       obtain⟨hk3,hi3⟩:=hp;obtain⟨hr,hl3,hl4,hk4⟩:=fin (some .ret) W3 hk3;exact⟨_,_,hr,.inr ⟨rfl,.ret,(hIx _).putObj _ hi3 (by omega) hl3 rfl,hl4,hk4⟩⟩
     | exit id =>
       obtain⟨hk3,hi3⟩:=hp;obtain⟨hr,hl3,hl4,hk4⟩:=fin (some (.exit id)) W3 hk3;exact⟨_,_,hr,.inr ⟨rfl,.exit id,(hIx _).putObj _ hi3 (by omega) hl3 rfl,hl4,hk4⟩⟩
     | goto t =>
       obtain⟨hk3,hi3⟩:=hp;obtain⟨hr,hl3,hl4,hk4⟩:=fin (some (.goto t)) W3 hk3;exact⟨_,_,hr,.inr ⟨rfl,.goto t,(hIx _).putObj _ hi3 (by omega) hl3 rfl,hl4,hk4⟩⟩
     | panic ch=>exact hp.elim
     | outgrown=>exact hp.elim
   . rintro e W2 ⟨⟨v,rfl⟩,(⟨xs,hS,hi,hl,hk⟩ | ⟨pre,hSp,c,hi,hl,hk⟩)⟩
     . exact⟨none,_,by have:=run_endLoop (P:=P) hl (by rw[hrec];simp);rw[hrec]at this;exact this,hdone _ xs _ (by omega) hS (hI.putObj _ hi (by omega) hl rfl) ((World.putObj_heap_other (by omega)).trans hk)⟩
     . exact⟨some c,_,by have:=run_endLoop (P:=P) hl (by rw[hrec];simp);rw[hrec]at this;exact this,hstop _ c pre _ (by omega) hSp ((hIx c).putObj _ hi (by omega) hl rfl) ((World.putObj_heap_other (by omega)).trans hk)⟩
theorem JP{α:Type}{g:Operand}{ps:Array Tmp}{assign body:Code}{Q:Exit->Act->UW->Prop}{a:Act}{w:UW}
  (hro:F.round=none) (h1:1<=n) {gf:Nat} {lb:Array UY} (hg:a.eval g= .func (.func gf) #[] lb) (hFg:F.fn gf) (eg:∀args w,(callFunc gf args).run P w= .ok (.enter gf args) w)
  {encs:α->Array UY} {Kp St:UW->UW->Prop} {Pf:UW->List α->Prop} {S Sp:List α->Prop} {w0:UW} (hseq:uH F (n - 1) P gf lb encs Kp St Pf S Sp (w.heap.size+2) w0)
  (hKt:∀{A B C:UW},Kp A B->Kp B C->Kp A C) (hKb:∀(W:UW)(l:Nat)(r:Loop)(o':Obj),w.heap.size+1=l->W.heap[l]? =some (.loop r)->Kp W (W.putObj l o')) (hPb:∀(W:UW)(l:Nat)(r:Loop)(o':Obj)(xs:List α),W.heap[l]? =some (.loop r)->Pf W xs->Pf (W.putObj l o') xs) (hKr:∀W:UW,Kp W W) (hSo:∀A B,St A B->w.heap.size+2<=A.heap.size->Rec2 w.heap.size A B) (hb0:U0 w0 w) (hps:∀x,(encs x).size=ps.size)
  (I:List α->UW->Prop) (Ix:Code->List α->UW->Prop) (hI:OwnFrom w.heap.size I) (hIx:∀c,OwnFrom w.heap.size (Ix c)) (hIS:∀pre A B,I pre A->St A B->I pre B) (h0:I [] w) (a₁:α->Act)
  (hassign:∀(l:Nat)(x:α)(W:UW)(K:Act->UW->Prop),K (a₁ x) W ->
    assign.wpIn (F.inRound l) (n - 1 - 1) P (Exit.then K (fun _ _ _=>False)) {tmps:=(ps.zip (encs x)).foldl (fun t (p,v)=>t.setIfInBounds p v) a.tmps,defers:= []} W)
  (hbody:∀(l:Nat)(pre:List α)(x:α)(W:UW),Pf W (pre++ [x])->w.heap.size+2<=W.heap.size->I pre W->body.wpIn (F.inRound l) (n - 1 - 1) P (xX w.heap.size Kp I Ix (pre++ [x]) W) (a₁ x) W)
  (hdone:∀(D:Nat)(xs:List α)(W:UW),w.heap.size<=D->S xs->I xs W->W.heap[D]? =some (.deferred (some []))->Q .normal {a with defers:={target:= .collected D,args:=#[]}::a.defers} W)
  (hstop:∀(D:Nat)(c:Code)(pre:List α)(W:UW),w.heap.size<=D->Sp pre->Ix c pre W->W.heap[D]? =some (.deferred (some []))->c.wpIn F n P Q {a with defers:={target:= .collected D,args:=#[]}::a.defers} W) :
  (Code.rangeFunc g ps assign body).wpIn F n P Q a w :=
 AQ hro h1 hg hFg eg hseq hKt hKb hSo hb0 hps I Ix hI hIx hIS h0 (fun xs _ W=>Pf W xs) (fun xs _ W l r o hl hp=>hPb W l r o xs hl hp) (fun x _=>a₁ x)
  (fun l _ x W K hpf _ hi hk=>hassign l x W K (hk 0 W (Rec2.refl _ _) (hKr W) hi hpf)) (fun l pre x _ W hz hi hp=>hbody l pre x W hp hz hi) hdone hstop
end
section
open Go.RowKit Go.Shelf
theorem NZ:Builder.Extra Tryz.prog Tryz.lays105_ren:={
 sizeBuilder:=by kernel_rfl
 liesBuilder:=by kernel_rfl
 t5:=Tryz.underlying5
 a5:=Tryz.isAgg5
 z5:=Tryz.sizeOf5
 v5:=Tryz.zeroValue5
 infoByte:=by kernel_rfl
 cellsByte:=by kernel_rfl
 sizeByte:=by kernel_rfl
 neB5:=by decide}
theorem Ot:Builder.Extra Tryz.prog Tryz.lays156_ren:={
 sizeBuilder:=by kernel_rfl
 liesBuilder:=by kernel_rfl
 t5:=Tryz.underlying5
 a5:=Tryz.isAgg5
 z5:=Tryz.sizeOf5
 v5:=Tryz.zeroValue5
 infoByte:=by kernel_rfl
 cellsByte:=by kernel_rfl
 sizeByte:=by kernel_rfl
 neB5:=by decide}
theorem pK(x y:UZ):ofL x++ofL y=ofL (x++y):=by
 unfold ofL;apply ByteArray.ext
 simp
theorem JK(n:Nat):Lib.repeatL [(0:UInt8)] n=List.replicate n 0:=by
 induction n with
 | zero=>rfl
 | succ n ih=>show [0]++Lib.repeatL [0] n=_;rw[ih];rfl
theorem Bh(n:Nat)(w:UW)(hn:n<=100000):Calls Tryz.prog 74 #[.string ⟨#[0]⟩,.int .i64 n] w fun e w'=>e= .returned (.string (ofL (List.replicate n 0)))/\U0 w w':=by
 have h:=Any.strings_Repeat Tryz.lays105 NZ ⟨#[0]⟩ n w (by omega) (by show 1*n<=_;omega);rw[show(⟨#[0]⟩:UX).data.toList= [0] from rfl,JK]at h;exact h
theorem D6(l:List UZ):Lib.join l []=l.flatten:=by
 cases l with
 | nil=>rfl
 | cons x r =>
   rw[Lib.join_cons,List.flatten_cons];unfold Lib.joinTail;rw[show(fun y:UZ=>([]:UZ)++y)=id from rfl,List.map_id]
theorem PO(A:OA)(n c B:Nat)(ss:List UZ)(w:UW)(h:Sl w B 1 A n (flat aC ss))(hB:B<=w.heap.size)(hn:0<n)(hc:n<=c)(hl:ss.flatten.length<=1000000000)(hl2:n<=1000000) :
  Calls Tryz.prog 139 #[.slice A n c,.string ⟨#[]⟩] w fun e w'=>e= .returned (.string (ofL ss.flatten))/\U0 w w':=by
 have hlen:=h.len dW (by omega);obtain⟨b,off,rfl,hb,hcell⟩:=h.2 hn;have hm: (ss.map ofL).map (·.data.toList)=ss:=by rw[List.map_map];exact List.map_id'' (fun x=>rfl) ss
 have hj:=Any.strings_Join Tryz.lays156 Ot b off c (ss.map ofL) ⟨#[]⟩ w (by
  intro j x hx;rw[List.getElem?_map,Option.map_eq_some_iff]at hx;obtain⟨y,hy,rfl⟩:=hx;exact hcell j _ (by have:=iG (enc:=aC) dW ss j 0 y hy (by omega);simpa [aC] using this)) (by omega) (by rw[List.length_map];omega) (by rw[List.length_map];omega) (by rw[hm,show(⟨#[]⟩:UX).data.toList= [] from rfl,D6];omega)
 rw[hm,show(⟨#[]⟩:UX).data.toList= [] from rfl,D6,List.length_map,hlen]at hj;exact hj
end
theorem sD(d:Dk)(s:Dsl)(w:UW)(h0:0<d.ss.length)(h1:d.ss.length<=1000):Calls Tryz.prog 110 #[dkV d s] w fun e w'=>e= .returned (.int .i64 (hf d.ss:Nat))/\U0 w w':=by
 have HB:Hid (U0 w (w.alloc (.cells (dkC d s) 25))):=(ah _ w).alloc aj _;obtain⟨k0,k1,k2,k3⟩:=(Bk.new w 25 (dkC d s)).dk4;have HH:Hid (((d.ss.length:Int) - 1) / 2= (hf d.ss:Nat)):=by show _=_;unfold hf;omega
 obtain⟨n,hn⟩:=NX9 d.ss.length
 rw[hn]at HH h0 h1;simp only[dkV,dkC,hn]at *
 go_enter Tryz.func110,Tryz.ntmps110
 go_wp2
 go_ret
 exact⟨by rw[<-HH.o];rfl,HB.o⟩
theorem oK(d:Dk)(s:Dsl)(a:Nat)(w:UW)(h0:0<d.ss.length)(h1:d.ss.length<=1000)(ha:a=1∨a=2):Calls Tryz.prog 99 #[dkV d s,.int .i64 a] w fun e w'=>e= .returned (.int .i64 (aF d.ss a:Nat))/\U0 w w':=by
 obtain⟨W,hW⟩:=NX9 (w.alloc (.cells (dkC d s) 25))
 have HB:U6 w W:=by rw[<-hW];exact(ah _ w).alloc aj _
 obtain⟨k0,k1,k2,k3⟩:W.cell? ⟨w.heap.size,0,none⟩=_/\W.cell? ⟨w.heap.size,1,none⟩=_/\W.cell? ⟨w.heap.size,2,none⟩=_/\W.cell? ⟨w.heap.size,3,none⟩=_:=by rw[<-hW];exact(Bk.new w 25 (dkC d s)).dk4
 have HC:=ai (sD d s W h0 h1);have b:hf d.ss<=500:=by unfold hf;omega
 have HE:Hid (aF d.ss a=1+ (a - 1)*hf d.ss):=rfl;obtain⟨h,hh⟩:=NX9 (hf d.ss)
 rw[hh]at HC b HE;have HW:=ai hW;clear hW hh;simp only[dkV,dkC]at *
 go_enter Tryz.func99,Tryz.ntmps99
 rcases ha with rfl | rfl
 all_goals
  go_wp2_with fail;rw[HW.o];refine HC.o.mono ?_;rintro e w1 ⟨rfl,hb1⟩;have HB1:U6 w w1:=HB.o.trans (hb1.mono HB.o.size);clear hb1;go_wp2_with fail;go_ret
  refine⟨?_,HB1.o⟩;rw[HE.o]
  first
   | (congr 2;simp;done)
   | (congr 2;simp;omega)
theorem oC(t:UZ)(sz:Nat)(w:UW)(h:t.length<=sz)(h1:sz<=512):Calls Tryz.prog 96 #[.string (ofL t),.int .i64 sz] w fun e w'=>e= .returned (.string (ofL (bF sz t)))/\U0 w w':=by
 have hs: ((ofL t).size:Int)= (t.length:Int):=by rw[bK]
 have hsz: ((sz:Int) - (t.length:Int))= ((sz - t.length:Nat):Int):=by omega
 have HR:=ai (Bh (sz - t.length) w (by omega));have HF:Hid (ofL t++ofL (List.replicate (sz - t.length) 0)=ofL (bF sz t)):=pK t _;have hl1: (ofL (List.replicate (sz - t.length) 0)).size=sz - t.length:=by rw[bK,List.length_replicate]
 have hl0: (ofL t).size=t.length:=by rw[bK]
 obtain⟨k,hk⟩:=NX9 (sz - t.length)
 obtain⟨q,hq⟩:=NX9 (ofL (List.replicate k 0))
 rw[hk]at HR HF hsz hl1;rw[hq]at HR HF hl1;have hnb:¬(9223372036854775807< (ofL t).size+q.size):=by rw[hl0,hl1];omega
 clear hk hq hl0 hl1
 go_enter Tryz.func96,Tryz.ntmps96
 go_wp2_with fail;refine HR.o.mono ?_;rintro e w1 ⟨rfl,hb1⟩;have HB1:=ai hb1;clear hb1;go_wp2_with fail;go_ret
 exact⟨by rw[<-HF.o];rfl,HB1.o⟩
theorem Qa(l:List UZ):∀u∈flat aC l,u.oneCell'=true:=fun u hu=>by
 unfold flat at hu;obtain⟨i,_,h⟩:=List.mem_flatMap.1 hu;simp[aC]at h;rw[h];rfl
def zB(us:List UZ)(n:Nat)(w:UW)(e:Ending)(w':UW):Prop :=
 ∃A c,e= .returned (.slice A n c)/\Apd w' w.heap.size 9 1 A n c (flat aC us)/\U0 w w'/\n<=c/\c<=maxLen
theorem BV(A:OA)(n c B:Nat)(us:List UZ)(w:UW)(h:Sl w B 1 A n (flat aC us))(hB:B<=w.heap.size)(hn:n<=100000) :
  Calls Tryz.prog 119 #[.slice A n c] w (zB us n w):=by
 have H:=ai h;clear h;obtain⟨i0,hi,hz0,hz1',hz2'⟩:=info_parts jP;have Hi:=ai hi;have d:=ai hz0;have f:=ai hz1';have g:=ai hz2';clear hi hz0 hz1' hz2';generalize hRR:zB us n w=RR at *;have HRR:=ai hRR;clear hRR;cases A with
 | none =>
   have h0:n=0:=by
    rcases Nat.eq_zero_or_pos n with h | h
    . exact h
    . obtain⟨b,off,e,_⟩:=H.o.2 h;cases e
   subst h0;have hx:flat aC us= []:=by
    have:=H.o.1;rw[Nat.zero_mul]at this;exact List.length_eq_zero_iff.1 this
   have hnn:∀w:UW,(binOp .eql 22 (.slice none 0 c) (.slice none 0 0)).run Tryz.prog w= .ok (.bool true) w:=fun w=>qM w 22 9 none 0 c Tryz.underlying22
   go_enter Tryz.func119,Tryz.ntmps119
   go_wp2
   rw[<-HRR.o];exact⟨none,0,rfl,.inr ⟨rfl,rfl,hx⟩,ah _ _,Nat.le_refl _,ZX _⟩
 | some a =>
   have hnn:∀w:UW,(binOp .eql 22 (.slice (some a) n c) (.slice none 0 0)).run Tryz.prog w= .ok (.bool false) w:=fun w=>qM w 22 9 (some a) n c Tryz.underlying22
   go_enter Tryz.func119,Tryz.ntmps119
   go_wp2_with (at_builtin;refine aN ?_)
   refine aH ?_;refine dZ (base:=w.heap.size) _ rfl (.tmp 5) (.tmp 6) 22 rfl 9 i0 _ 16 Tryz.underlying22 Hi.o d.o f.o g.o rfl (by decide) _ 0 0 [] rfl (.inr ⟨rfl,rfl,rfl⟩) B _ n c (flat aC us) rfl (H.o.alloc hB _) (Qa _) (by unfold maxLen;omega) (by omega) (by simp) ?_;intro A2 c2 w2 ha hb hc1 hm1 hok;rw[Nat.zero_add,List.nil_append]at ha;rw[Nat.zero_add]at hc1 ⊢;have HA:=ai ha;have HB:=ai (((ah _ w).alloc aj _).trans hb);have HM:=ai hm1;clear ha hb hok hm1
   go_wp2
   rw[<-HRR.o];exact⟨A2,c2,rfl,HA.o,HB.o,hc1,HM.o⟩
def gW(g:Nat->UZ->UZ->UZ):Nat->List UZ->List (Nat×UZ)->List UZ
 | _,ss,[]=>ss
 | k,ss,w::ws=>gW g (k+1) (ss.set w.1 (g k (ss.getD w.1 []) w.2)) ws
theorem Bd:∀(ws:List (Nat×UZ))(k:Nat)(ss:List UZ),gW (fun _ _ x=>x) k ss ws=settle ss ws
 | [],_,_=>rfl
 | w::ws,k,ss=>Bd ws (k+1) (ss.set w.1 w.2)
theorem CJ{sz:Nat}(qs:List Int):∀(ws:List (Nat×UZ))(k:Nat)(ss:List UZ),gW (fun k o x=>x.take (iC sz (qs.getD k 0))++o.drop (iC sz (qs.getD k 0))) k ss ws=df sz ss ws (qs.drop k)
 | [],_,_=>by rw[gW,df]
 | w::ws,k,ss=>by
   rw[gW,df,CJ qs ws (k+1)];have h1: (qs.drop k).headD 0=qs.getD k 0:=by rw[List.headD_eq_head?_getD,List.head?_drop,List.getD_eq_getElem?_getD]
   have h2: (qs.drop k).tail=qs.drop (k+1):=by rw[List.tail_drop]
   rw[h1,h2]
theorem uS{w:UW}{base g n cap i:Nat}{e:TypeId}{xs:List UY}(h:w.ownsRow base e 1 (.slice (some ⟨g,0,none⟩) n cap) n xs)(v:UY): (w.setCell ⟨g,i,none⟩ v).ownsRow base e 1 (.slice (some ⟨g,0,none⟩) n cap) n (xs.set i v):=by
 refine⟨by rw[List.length_set];exact h.1,?_⟩;rcases h.2 with ⟨hv,_⟩ | ⟨g',cap',cur,hv,h1,hh,h2,h3,h4,h5⟩
 . cases hv
 . cases hv
   refine .inr ⟨g,cap,cur.setIfInBounds i v,rfl,h1,(Bk.set (show Bk w g e cur from hh) i v),h2,h3,by rw[Array.size_setIfInBounds];exact h4,?_⟩;rw[Array.toList_setIfInBounds,List.take_set,h5]
theorem pY{w:UW}{base g n cap:Nat}{e:TypeId}{xs:List UY}(h:w.ownsRow base e 1 (.slice (some ⟨g,0,none⟩) n cap) n xs):base<=g/\∃cur:Array UY,Bk w g e cur/\∀(i:Nat)(u:UY),xs[i]? =some u->cur[i]? =some u:=by
 rcases h.2 with ⟨hv,_⟩ | ⟨g',cap',cur,hv,h1,hh,h2,h3,h4,h5⟩
 . cases hv
 . cases hv
   refine⟨h1,cur,hh,fun i u hu=>?_⟩;rw[<-h5,List.getElem?_take]at hu;split at hu
   . rw[<-Array.getElem?_toList];exact hu
   . cases hu
theorem AA(l:List UZ)(i:Nat)(x:UZ): (flat aC l).set i (.string (ofL x))=flat aC (l.set i x):=by
 have h:∀l:List UZ,flat aC l=l.map (fun b=> .string (ofL b)):=fun l=>by
  induction l with
  | nil=>rfl
  | cons a l ih=>unfold flat at ih ⊢;rw[List.flatMap_cons,ih];rfl
 rw[h,h,List.map_set]
theorem Gb.fresh{p q:Nat->Prop}{a b c:UW}(h:Gb p a b)(k:Gb q b c)(hq:∀i,q i->i<a.heap.size->p i):Gb p a c :=
 ⟨k.os.trans h.os,k.tape.trans h.tape,k.output.trans h.output,ZY h.size k.size,fun i hi hn=>(k.block i (Nat.lt_of_lt_of_le hi h.size) (fun e=>hn (hq i e hi))).trans (h.block i hi hn)⟩
theorem GH{fn:Func}{c:Tmp}(h:fn.results= #[.cell c 25]){w:UW}{a:Array UY}{b:Nat}{x0 x1 x2 x3:UY}(h1:a[c]?.getD undef= .pointer (some ⟨b,0,none⟩))(hk:Bk w b 25 #[x0,x1,x2,x3]) :
  (results fn a).run Tryz.prog w= .ok (.agg #[x0,x1,x2,x3]) w:=by
 obtain⟨c0,c1,c2,c3⟩:=hk.dk4;simp[results,h,h1,go_sem,c0,c1,c2,c3]
structure Apl(f:Nat)(lb:Array UY)(sz:Nat)(g:Nat->UZ->UZ->UZ)(nb B:Nat)(Inv:Nat->UW->Prop):Prop where
 fn: (f=171/\lb= #[])∨∃p q r,f=60/\lb= #[p,q,r]
 nlt:nb<B
 call:∀k old dat W,Inv k W->old.length=sz->dat.length=sz->Calls Tryz.prog f (#[.string (ofL old),.string (ofL dat)]++lb) W fun e w'=>e= .returned (.string (ofL (g k old dat)))/\Inv (k+1) w'/\Gb (fun b=>b=nb) W w'
 len:∀k old dat,old.length=sz->dat.length=sz-> (g k old dat).length=sz
 keep:∀k W W',Inv k W->B<=W.heap.size->Below B W W'->Inv k W'
theorem BF(d:Dk)(s:Dsl)(B:Nat)(f:Nat)(lb:Array UY)(g:Nat->UZ->UZ->UZ)(nb:Nat)(Inv:Nat->UW->Prop)(w:UW)(hd:d.Ok)(hm:DkM w B d s)(hB:B<=w.heap.size)(hp:d.pn.length<=1000000)(hnb:B<=nb)(ha:Apl f lb d.sz g nb w.heap.size Inv)(h0:Inv 0 w) :
  Calls Tryz.prog 59 #[dkV d s,.func (.func f) #[] lb] w fun e w'=>∃s',e= .returned (dkV {d with ss:=gW g 0 d.ss d.pn,pn:= []} s')/\DkM w' w'.heap.size {d with ss:=gW g 0 d.ss d.pn,pn:= []} s'/\Gb (fun b=>b=nb) w w'/\Inv d.pn.length w':=by
 obtain⟨W,hW⟩:=NX9 ((w.alloc (.cells (dkC d s) 25)).alloc (.cells #[.int .i64 0,.slice none 0 0,.slice none 0 0,.int .i64 0] 25))
 have HB0:U6 w W:=by rw[<-hW];exact((ah _ w).alloc aj _).alloc (by simp) _
 have HK:Hid (Bk W w.heap.size 25 (dkC d s)):=by rw[<-hW];exact(Bk.new w _ _).alloc _
 have HZ:Hid (Bk W (w.heap.size+1) 25 #[.int .i64 0,.slice none 0 0,.slice none 0 0,.int .i64 0]):=by
  rw[<-hW];have:=Bk.new (w.alloc (.cells (dkC d s) 25)) 25 #[.int .i64 0,.slice none 0 0,.slice none 0 0,.int .i64 0]
  rwa[Z9]at this
 have Q:W.heap.size=w.heap.size+2:=by rw[<-hW];simp
 have HM:Hid (DkM W B d s):=hm.below HB0.o hB;have HC:=ai (BV s.a1 d.ss.length s.c1 B d.ss W HM.o.ss (by omega) (by have:=hd.n1;omega));have HD:=ai hd;have HW:=ai hW;have HA:=ai ha;have N:=ai hm;have HI:Hid (Inv 0 W):=ha.keep 0 w W h0 aj HB0.o;obtain⟨n,hn⟩:=NX9 d.ss.length
 obtain⟨m,hmm⟩:=NX9 d.pn.length
 have HN:=ai hn;have A:=ai hmm;have O:Hid (∀W',Inv m W'->Inv d.pn.length W'):=fun W' h=>by rw[hmm];exact h
 have h1:=hd.n0;have h2:=hd.n1;simp only[dkV,dkC,hn,hmm]at HC HW HK hp h1 h2 ⊢;unfold zB at HC;clear hd hm hW ha h0 hn hmm;obtain⟨k0,k1,k2,k3⟩:=HK.o.dk4
 go_enter Tryz.func59,Tryz.ntmps59
 go_wp2_with fail;rw[HW.o];refine HC.o.mono ?_;rintro e w1 ⟨A1,c1,rfl,ha1,hb1,hc1,hm1⟩;have HB1:U6 W w1:=hb1;have HI1:Hid (Inv 0 w1):=HA.o.keep 0 W w1 HI.o (by omega) (hb1.mono (by omega));obtain⟨gb,rfl⟩:∃gb,A1=some ⟨gb,0,none⟩:=by
  rcases ha1 with h | ⟨h,_⟩
  . rcases h.2 with ⟨_,h⟩ | ⟨g,cap,cur,hv,_⟩
    . omega
    . cases hv;exact⟨g,rfl⟩
  . omega
 have H:Hid (w1.ownsRow W.heap.size 9 1 (.slice (some ⟨gb,0,none⟩) n c1) n (flat aC d.ss)):=by
  rcases ha1 with h | ⟨h,_⟩
  . exact h
  . omega
 have C:=ai (HK.o.below hb1 (by omega));obtain⟨k0,k1,k2,k3⟩:=C.o.dk4;clear ha1 hb1 HC;go_wp2_with fail
 go_loopw[14] (fun i wr=>∃(k:Nat)(L:List UZ),k<=m/\i= .int .i64 k/\L.length=n/\Hid (∀x∈L,x.length=d.sz)/\Hid (gW g 0 d.ss d.pn=gW g k L (d.pn.drop k))/\Hid (Inv k wr)/\Hid (wr.ownsRow W.heap.size 9 1 (.slice (some ⟨gb,0,none⟩) n c1) n (flat aC L))/\Hid (Gb (fun b=>b=nb∨b=gb) w1 wr)) (fun i _=>m - (intOf i).toNat)
 case atStart=>exact⟨0,d.ss,ZX _,rfl,HN.o,HD.o.len,rfl,HI1.o,H.o,Gb.refl _ _⟩
 case round =>
  obtain⟨k,L,hk,rfl,hLn,D,hrun,hI,hO,hG⟩:=hrel;have hgb:=(pY hO.o).1;have zr:w1.heap.size<=wr.heap.size:=hG.o.size;have z1:=HB1.o.size;have hnb:=HA.o.nlt;by_cases hlt:k<m
  . obtain⟨b,off,⟨xi,xd⟩,hA2,hb,hx,hc⟩:=(HM.o.pn.keep (fun p hp=>World.cell?_of_block ((hG.o.block p.block (by omega) (by omega)).trans (HB1.o.block p.block (by omega))))).at_ tC (by omega) (by rw[A.o];exact hlt)
    have x0:=hc 0 _ rfl;have x1:=hc 1 _ rfl;simp only[Nat.add_zero]at x0;obtain⟨g1,g2⟩:=HD.o.pn _ (Z7 hx);simp only at g1 g2;rw[HN.o]at g1;obtain⟨old,hold⟩:∃old,L[xi]? =some old:=⟨_,Z5 (by omega)⟩
    have hog:L.getD xi []=old:=by rw[List.getD_eq_getElem?_getD,hold];rfl
    have hol:=D.o old (Z7 hold);obtain⟨M,cur,l,E⟩:=pY hO.o;have hcx:cur[xi]? =some (.string (ofL old)):=E xi _ (by have:=iG (enc:=aC) dW L xi 0 old hold (by omega);simpa [aC] using this);have hrun2:Hid (gW g 0 d.ss d.pn=gW g (k+1) (L.set xi (g k old xd)) (d.pn.drop (k+1))):=by
     show _=_;have hl:=List.getElem?_eq_some_iff.1 hx;rw[hrun.o,List.drop_eq_getElem_cons hl.1,hl.2,gW,hog]
    obtain⟨wa,o⟩:=NX9 (wr.alloc (.cells #[.int .i64 xi,.string (ofL xd)] 175))
    have za:wa.heap.size=wr.heap.size+1:=by rw[<-o];simp
    have HAB:U6 wr wa:=by rw[<-o];exact(ah _ wr).alloc aj _
    have HX:Hid (Bk wa wr.heap.size 175 #[.int .i64 xi,.string (ofL xd)]):=by rw[<-o];exact Bk.new wr _ _
    have v:Hid (Bk wa gb 9 cur):=l.below HAB.o l.lt;have F:Hid (Inv k wa.drew):=HA.o.keep k wr wa.drew hI.o (by omega) (HAB.o.mono (by omega)).drew;have I:Hid (wa.ownsRow W.heap.size 9 1 (.slice (some ⟨gb,0,none⟩) n c1) n (flat aC L)):=by rw[<-o];exact hO.o.alloc _
    have c0:wa.cell? ⟨gb,xi,none⟩=some (.string (ofL old)):=by rw[v.o.cell];exact hcx
    have c9:=v.o.free xi;have y0:=HX.o.cell 0;have y1:=HX.o.cell 1;simp at y0 y1;have hxi: (xi:Int)< (n:Int):=by omega
    have J:=ai o;have hgl:=l.lt;have G:Hid (∀W':UW,Gb (fun b=>b=nb) wa.drew W'-> (W'.cell? ⟨wr.heap.size,0,none⟩=some (.int .i64 xi)/\W'.cell? ⟨wr.heap.size,1,none⟩=some (.string (ofL xd))/\W'.cell? ⟨gb,xi,none⟩=some (.string (ofL old)))/\W'.frozen? ⟨gb,xi,none⟩=false):=fun W' h =>
     have e1:=h.block wr.heap.size (by show _<wa.heap.size;omega) (by omega);have e2:=h.block gb (by show _<wa.heap.size;omega) (by omega)
     ⟨⟨(World.cell?_of_block e1).trans y0,(World.cell?_of_block e1).trans y1,(World.cell?_of_block e2).trans c0⟩,(show Bk W' gb 9 cur from e2.trans v.o).free xi⟩
    have y:=ai (fun W hi=>HA.o.call k old xd W hi hol g2);rw[hA2]at k2 ⊢;clear hc hx o hrun l E hcx hold hog hI hO;rcases HA.o.fn with ⟨rfl,rfl⟩ | ⟨p,q,r,rfl,rfl⟩
    all_goals
     simp only[List.append_toArray,Array.append_empty,List.cons_append,List.nil_append]at y;go_wp2_with fail;rw[J.o]
     go_region_law (first | (go_simp;go_at_call 171;refine(y.o _ F.o).mono ?_;rintro e w4 ⟨rfl,t,hG4⟩;have c:=ai hG4;have HI4:=ai t;obtain⟨⟨u0,u1,u2⟩,u3⟩:=G.o _ hG4;clear t hG4) | (go_simp;go_at_call 60;refine(y.o _ F.o).mono ?_;rintro e w4 ⟨rfl,t,hG4⟩;have c:=ai hG4;have HI4:=ai t;obtain⟨⟨u0,u1,u2⟩,u3⟩:=G.o _ hG4;clear t hG4))
     all_goals
      go_wp2_with fail;go_roundw
      case rel =>
       refine⟨k+1,L.set xi (g k old xd),by omega,by go_num,by rw[List.length_set];exact hLn,fun x hx=>?_,hrun2.o,HA.o.keep (k+1) w4 _ HI4.o (by have:=c.o.size;have e:wa.drew.heap.size=wa.heap.size:=rfl;omega) ((ah _ w4).setCell (p:=⟨gb,xi,none⟩) (by show w.heap.size<=gb;omega) _),?_,?_⟩
       . rcases List.mem_or_eq_of_mem_set hx with hx | rfl
         . exact D.o x hx
         . exact HA.o.len k old xd hol g2
       . rw[<-AA]
         exact uS (I.o.drew.kept (row:=some nb) ⟨c.o.os,c.o.tape,c.o.output,c.o.size,fun j hj hn=>c.o.block j hj (fun e=>hn (by rw[e]))⟩ (.inr (fun e=>absurd (Option.some.inj e) (by show gb≠nb;omega)))) _
       . exact(hG.o.trans ((Gb.of_below (HAB.o.drew)).trans (c.o.mono (fun _ _ e=> .inl e)))).trans (Gb.set (.inr rfl) xi _)
      case measure=>simp[intOf];omega
  . have hend:Hid (gW g 0 d.ss d.pn=L):=by
      show _=_;rw[hrun.o,List.drop_of_length_le (by rw[A.o];omega),gW]
    have P:Hid (Gb (fun b=>b=nb∨b=gb) w1 wr):=hG.o;have z:Hid (Bk wr w.heap.size 25 #[.int .i64 d.sz,.slice s.a1 n s.c1,.slice s.a2 m s.c2,.int .i64 d.lf]):=hG.o.bk C.o (by omega);have HZ2:Hid (Bk wr (w.heap.size+1) 25 #[.int .i64 0,.slice none 0 0,.slice none 0 0,.int .i64 0]):=hG.o.bk (HZ.o.below HB1.o (by omega)) (by omega);obtain⟨k0,k1,k2,k3⟩:=z.o.dk4;obtain⟨z0,z1,z2,z3⟩:=HZ2.o.dk4;obtain⟨f0,f1,f2,f3⟩:=fr4 HZ2.o;have e1:=z.o.free 1;have e2:=z.o.free 2;have K:Hid (Gb (fun b=>b=nb) w wr):=((Gb.of_below HB0.o).trans (Gb.of_below (HB1.o.mono (by omega)))).fresh hG.o (fun i hi hlt=>by rcases hi with h | h;exact h;omega);have u:Hid ((gW g 0 d.ss d.pn).length=n):=by show _=_;rw[hend.o];exact hLn
    clear hG;go_wp2_with fail;have HE:=ai (((HZ2.o.far (p:=⟨w.heap.size,1,none⟩) (by show w.heap.size+1≠w.heap.size;omega) (.slice (some ⟨gb,0,none⟩) n c1)).far (p:=⟨w.heap.size,2,none⟩) (by show w.heap.size+1≠w.heap.size;omega) (.slice none 0 0)).set4 (.int .i64 d.sz) (.slice (some ⟨gb,0,none⟩) n c1) (.slice none 0 0) (.int .i64 d.lf));refine ZW (GH Tryz.results59 rfl HE.o) rfl ?_;refine⟨⟨some ⟨gb,0,none⟩,c1,none,0⟩,by rw[u.o],⟨?_,Sl.nil _ _ _ _⟩,?_⟩
    . show Sl _ _ 1 (some ⟨gb,0,none⟩) (gW g 0 d.ss d.pn).length (flat aC (gW g 0 d.ss d.pn))
      rw[u.o,hend.o];have b0:w.heap.size<W.heap.size:=by omega
      have b1:w.heap.size+1<W.heap.size:=by omega
      exact Sl.of_own (ownsRow_setCell_below (ownsRow_setCell_below (ownsRow_setCell_below (ownsRow_setCell_below (ownsRow_setCell_below (ownsRow_setCell_below hO.o (a:=⟨w.heap.size,1,none⟩) b0 _) (a:=⟨w.heap.size,2,none⟩) b0 _) (a:=⟨w.heap.size+1,0,none⟩) b1 _) (a:=⟨w.heap.size+1,1,none⟩) b1 _) (a:=⟨w.heap.size+1,2,none⟩) b1 _) (a:=⟨w.heap.size+1,3,none⟩) b1 _)
    . have l0:w.heap.size<=w.heap.size:=Nat.le_refl _
      obtain rfl:k=m:=by omega
      have l1:w.heap.size<=w.heap.size+1:=by omega
      exact⟨(((((K.o.after l0 1 _).after l0 2 _).after l1 0 _).after l1 1 _).after l1 2 _).after l1 3 _,HA.o.keep k wr _ hI.o (by omega) ((((((((ah w.heap.size wr).setCell (p:=⟨w.heap.size,1,none⟩) l0 _).setCell (p:=⟨w.heap.size,2,none⟩) l0 _).setCell (p:=⟨w.heap.size+1,0,none⟩) l1 _).setCell (p:=⟨w.heap.size+1,1,none⟩) l1 _).setCell (p:=⟨w.heap.size+1,2,none⟩) l1 _).setCell (p:=⟨w.heap.size+1,3,none⟩) l1 _))⟩
