/-Lemmas.-/
import Derived.Test.YtknefelegjlgnaaGreatDoorCCCm12
set_option maxRecDepth 100000
set_option maxHeartbeats 8000000
namespace Go.Proofs.YtknefelegjlgnaaGreatDoor
open Go.RowKit
def fC(l:List VD):Bool:=decide (l.length<=1000) && l.all fun t=>decide (t.length<=65536)
theorem fitB_iff{l:List VD}:fC l=true↔fV l:=by simp[fC,fV]
def gm(l:List VD):VD×Int:=if fC l=true then(bY l,0) else([],4)
def uT(r:VD×Int)(w:VA)(e:Ending)(w':VA):Prop:=e= .returned (.tuple #[.string (ofL r.1),.int .i64 r.2])/\VE w w'
theorem J7(A:OA)(n c B:Nat)(l:List VD)(w:VA)(h:Sl w B 1 A n (flat aF l))(hB:B<=w.heap.size)(hn:n<=maxLen) :
  Calls Tryz.prog 180 #[.slice A n c] w (uT (gm l) w):=by
 unfold maxLen at hn;have HL:=ai (h.len dJ (by omega));have H:=ai h;have HR:Hid (∀r,gm l=r->∀e w',uT r w e w'->uT (gm l) w e w'):=fun r h e w' hh=>by rw[h];exact hh
 clear h;by_cases hlim:1000<n
 . have a: (1000:Int)< (n:Int):=by omega
   have hfin:Hid (gm l= ([],4)):=by show _=_;rw[gm,if_neg];rw[fitB_iff];intro hf;have:=hf.1;have:=HL.o;omega
   go_enter Tryz.func180,Tryz.ntmps180
   go_wp2
   go_ret2
   exact HR.o _ hfin.o _ _ ⟨rfl,ah _ _⟩
 . have a:¬(1000:Int)< (n:Int):=by omega
   go_enter Tryz.func180,Tryz.ntmps180
   go_wp2
   go_loop[14] (fun i=>∃k:Nat,k<=n/\i= .int .i64 k/\Hid (∀t∈l.take k,t.length<=65536)) (fun i=>n - (intOf i).toNat)
   case atStart=>exact⟨0,ZX _,rfl,fun t ht=>by simp at ht⟩
   case round =>
    obtain⟨k,hk,rfl,hT⟩:=hrel;by_cases hlt:k<n
    . obtain⟨b,off,x,rfl,hb,hx,hc⟩:=H.o.at_ dJ (by omega) hlt
      have x0:=hc 0 _ rfl;simp only[Nat.mul_one,Nat.add_zero]at x0;have HX:=ai hx;have hs: ((ofL x).size:Int)= (x.length:Int):=by rw[bU]
      clear hc hx;have hlz: (k:Int)< (n:Int):=by omega
      by_cases hxl:65536<x.length
      . have hxi: (65536:Int)< ((ofL x).size:Int):=by omega
        have hfin:Hid (gm l= ([],4)):=by show _=_;rw[gm,if_neg];rw[fitB_iff];intro hf;have:=hf.2 x (Z7 HX.o);omega
        clear hs
        go_wp2
        go_ret2
        exact HR.o _ hfin.o _ _ ⟨rfl,ah _ _⟩
      . have hxi:¬(65536:Int)< ((ofL x).size:Int):=by omega
        clear hs
        go_wp2
        go_round
        case rel =>
         refine⟨k+1,by omega,by go_num,fun t ht=>?_⟩;rw[aV HX.o]at ht;rcases List.mem_append.1 ht with ht | ht
         . exact hT.o t ht
         . rw[List.mem_singleton.1 ht];omega
        case measure=>simp[intOf];omega
    . have hlz:¬(k:Int)< (n:Int):=by omega
      have HF:Hid (fV l):=⟨by have:=HL.o;omega,fun t ht=>hT.o t (by rwa[ZU (by have:=HL.o;omega)])⟩
      have hfin:Hid (gm l= (bY l,0)):=by show _=_;rw[gm,if_pos (fitB_iff.2 HF.o)]
      clear hT;go_wp2_with fail;have hb:=Lib.fresh_isBuilder 215 5 w;refine(rD w.heap.size w.heap.size [] n _ hb (by simp) (by omega) (by simp)).mono ?_;rintro e w1 ⟨rfl,h1,hb1⟩;rw[List.nil_append]at h1;have H1:=ai h1;have HB1:VF w w1:=((ah _ w).alloc aj _).trans hb1;clear hb hb1 h1;go_wp2_with fail
      go_loopw[27] (fun i wr=>∃k:Nat,k<=n/\i= .int .i64 k/\Hid (Lib.IsBuilder 215 5 w.heap.size w.heap.size (Lib.byteCells (ak n++ (l.take k).flatMap ax)) wr)/\VF w wr) (fun i _=>n - (intOf i).toNat)
      case atStart=>exact⟨0,ZX _,rfl,by show Lib.IsBuilder _ _ _ _ _ _;simp;exact H1.o,HB1.o⟩
      case round =>
       obtain⟨k,hk,rfl,hBd,hBel⟩:=hrel;by_cases hlt:k<n
       . obtain⟨b,off,x,rfl,hb,hx,hc⟩:=(H.o.below hBel.o hB).at_ dJ (by omega) hlt
         have x0:=hc 0 _ rfl;simp only[Nat.mul_one,Nat.add_zero]at x0;have hxl:x.length<=65536:=HF.o.2 x (Z7 hx);have HT:Hid (ak n++ (l.take (k+1)).flatMap ax= (ak n++ (l.take k).flatMap ax)++ (ak x.length++x)):=by
          show _=_;rw[aV hx];simp[ax]
         have hbl: (ak n++ (l.take k).flatMap ax).length<=70000000:=by
          have h1:=fK (n:=n) (by omega);have h2:=vJ (l.take k) (fun t ht=>HF.o.2 t (List.mem_of_mem_take ht));rw[List.length_take]at h2;simp only[af];omega
         generalize ak n++ (l.take k).flatMap ax=bs at *;have hlz: (k:Int)< (n:Int):=by omega
         have d:=ai (fun w' h hw=>rD w.heap.size w.heap.size bs (ofL x).size w' h hw (by rw[bU];omega) (by omega));clear hc hx;go_wp2_with fail;refine(d.o _ hBd.o hBel.o.size).mono ?_;rintro e w2 ⟨rfl,h2,hb2⟩;have H2:=ai h2;have HB2:=ai (hBel.o.trans hb2);clear hb2 h2;go_wp2_with fail;refine(AL w.heap.size w.heap.size (Lib.byteCells (bs++ak (ofL x).size)) (ofL x) _ H2.o (by rw[vF,bU,af];have:=fK (n:=x.length) (by omega);omega) HB2.o.size).mono ?_;rintro e w3 ⟨rfl,h3,hb3,_⟩;have H3:Hid (Lib.IsBuilder 215 5 w.heap.size w.heap.size (Lib.byteCells (ak n++ (l.take (k+1)).flatMap ax)) w3):=by
          refine .inr ?_;rw[HT.o];have e1:Lib.byteCells (bs++ak (ofL x).size)++Lib.strCells (ofL x)=Lib.byteCells (bs++ (ak x.length++x)):=by
           rw[BU,dE,bU];simp[Lib.byteCells]
          rw[<-e1];exact h3
         have HB3:=ai (HB2.o.trans hb3);clear hb3 h3;go_wp2_with fail;go_roundw
         case rel=>exact⟨k+1,by omega,by go_num,H3.o,HB3.o⟩
         case measure=>simp[intOf];omega
       . have hlz:¬(k:Int)< (n:Int):=by omega
         have H3:Hid (Lib.IsBuilder 215 5 w.heap.size w.heap.size (Lib.byteCells (bY l)) wr):=by
          have h:=hBd.o;rw[ZU (by have:=HL.o;omega)]at h;show Lib.IsBuilder _ _ _ _ _ _;unfold bY;rw[HL.o];exact h
         clear hBd;go_wp2_with fail;refine(Tryz.Builder_String_any w.heap.size w.heap.size _ _ H3.o hBel.o.size).mono ?_;rintro e w4 ⟨rfl,hb4⟩;have HB4:=ai (hBel.o.trans hb4);clear hb4;go_wp2_with fail;go_ret2
         exact HR.o _ hfin.o _ _ ⟨rfl,HB4.o⟩
theorem pY(s:VB)(k:Nat):toL (s.extract k s.size)= (toL s).drop k:=by
 show(s.extract k s.size).data.toList=_;rw[mG,ZU];rfl;rw[List.length_drop];show(toL s).length - k<=_;rw[<-aQ];omega
def UM(r:Nat×Nat×Int)(k:Nat)(w:VA)(e:Ending)(w':VA):Prop:=e= .returned (.tuple #[.int .i64 r.1,.int .i64 (k+r.2.1:Nat),.int .i64 r.2.2])/\w=w'
theorem Mc(s:VB)(k:Nat)(hk:k<=s.size)(hs:s.size<=maxLen)(w:VA):Calls Tryz.prog 314 #[.string s,.int .i64 k,.func (.func 141) #[] #[]] w (UM (aA ((toL s).drop k)) k w):=by
 have HX:Hid (toL (s.extract k s.size)= (toL s).drop k):=pY s k;have h0: (k:Int)<= (s.size:Int):=by omega
 unfold maxLen at hs
 go_enter Tryz.func314,Tryz.ntmps314
 go_wp2_with fail;refine(mX (s.extract k s.size) _).mono ?_;rw[HX.o];have hle:=nM ((toL s).drop k);rw[List.length_drop,<-aQ]at hle;generalize aA ((toL s).drop k)=r at *;obtain⟨n,m,e⟩:=r;rintro e' w' ⟨rfl,rfl⟩;simp only at hle ⊢
 go_wp2
 go_ret3
 exact⟨by simp,rfl⟩
theorem KC(s:VB)(hs:s.size<=maxLen)(w:VA):Calls Tryz.prog 314 #[.string s,.int .i64 0,.func (.func 141) #[] #[]] w (uY (aA (toL s)) w):=by
 have h:=Mc s 0 (ZX _) hs w;refine h.mono ?_;rintro e w' ⟨he,hw⟩;rw[Nat.zero_add]at he;exact⟨he,hw⟩
def UK(r:VD×Nat×Int)(k:Nat)(w:VA)(e:Ending)(w':VA):Prop:=e= .returned (.tuple #[.string (ofL r.1),.int .i64 (k+r.2.1:Nat),.int .i64 r.2.2])/\w=w'
theorem J9(s:VB)(k:Nat)(hk:k<=s.size)(hs:s.size<=maxLen)(w:VA):Calls Tryz.prog 315 #[.string s,.int .i64 k,.func (.func 226) #[] #[]] w (UK (aK ((toL s).drop k)) k w):=by
 have HX:Hid (toL (s.extract k s.size)= (toL s).drop k):=pY s k;have h0: (k:Int)<= (s.size:Int):=by omega
 have hz: (s.extract k s.size).size<=maxLen:=by rw[ByteArray.size_extract];omega
 unfold maxLen at hs;have HZ:=ai hz;clear hz
 go_enter Tryz.func315,Tryz.ntmps315
 go_wp2_with fail;refine(vM (s.extract k s.size) HZ.o _).mono ?_;rw[HX.o];have hle:=uf ((toL s).drop k);rw[List.length_drop,<-aQ]at hle;generalize aK ((toL s).drop k)=r at *;obtain⟨t,m,e⟩:=r;obtain⟨ts,hts⟩:=NX9 (ofL t)
 rintro e' w' ⟨rfl,rfl⟩;simp only at hle ⊢;rw[hts];have a:=ai hts;clear hts
 go_wp2
 go_ret3
 exact⟨by rw[a.o];simp,rfl⟩
def zL(b:VD)(w:VA)(e:Ending)(w':VA):Prop:=VE w w'/\match gG b with
 | none=>∃er:Int,er≠0/\e= .returned (.tuple #[.slice none 0 0,.int .i64 0,.int .i64 er])
 | some p=>∃A cc,e= .returned (.tuple #[.slice A p.1.length cc,.int .i64 p.2,.int .i64 0])/\w'.ownsRow w.heap.size 9 1 (.slice A p.1.length cc) p.1.length (flat aF p.1)/\p.1.length<=cc/\cc<=maxLen
theorem G6{n at_:Nat}{b:VD}:gK (n+1) at_ b=if(aK b).2.2≠0 then none else match gK n (at_+ (aK b).2.1) (b.drop (aK b).2.1) with
  | none=>none
  | some (l,c)=>some ((aK b).1::l,c):=rfl
def pre(d:List VD):Option (List VD×Nat)->Option (List VD×Nat)
 | none=>none
 | some (l,c)=>some (d++l,c)
theorem SA(o:Option (List VD×Nat)):pre [] o=o:=by cases o with | none=>rfl | some p=>rfl
theorem Qr(d:List VD)(n at_:Nat)(b:VD)(h: (aK b).2.2=0):pre d (gK (n+1) at_ b)=pre (d++ [(aK b).1]) (gK n (at_+ (aK b).2.1) (b.drop (aK b).2.1)):=by
 rw[G6,if_neg (by simp[h])];cases gK n (at_+ (aK b).2.1) (b.drop (aK b).2.1) with
 | none=>rfl
 | some p=>obtain⟨l,c⟩:=p;simp[pre]
theorem PE(d:List VD)(n at_:Nat)(b:VD)(h: (aK b).2.2≠0):pre d (gK (n+1) at_ b)=none:=by rw[G6,if_pos h];rfl
theorem Kq(s:VB)(hs:s.size<=maxLen)(w:VA):Calls Tryz.prog 280 #[.string s] w (zL (toL s) w):=by
 have HR:Hid (∀r,gG (toL s)=r->∀e w',(VE w w'/\match r with
  | none=>∃er:Int,er≠0/\e= .returned (.tuple #[.slice none 0 0,.int .i64 0,.int .i64 er])
  | some p=>∃A cc,e= .returned (.tuple #[.slice A p.1.length cc,.int .i64 p.2,.int .i64 0])/\w'.ownsRow w.heap.size 9 1 (.slice A p.1.length cc) p.1.length (flat aF p.1)/\p.1.length<=cc/\cc<=maxLen)->zL (toL s) w e w'):=fun r h e w' hh=>by rw[zL,h];exact hh
 have HD:Hid (gG (toL s)=if(aA (toL s)).2.2≠0∨1000< (aA (toL s)).1 then none else gK (aA (toL s)).1 (aA (toL s)).2.1 ((toL s).drop (aA (toL s)).2.1)):=rfl;have hle:=nM (toL s);rw[<-aQ]at hle;have HI:=ai (KC s hs);have HS:=ai hs;obtain⟨i0,hi,hz0,hz1,hz2⟩:=info_parts kD;have Hi:=ai hi;have f:=ai hz0;have j:=ai hz1;have l:=ai hz2;clear hi hz0 hz1 hz2;unfold maxLen at hs
 go_enter Tryz.func280,Tryz.ntmps280
 go_wp2_with fail;refine(HI.o _).mono ?_;generalize aA (toL s)=r at *;obtain⟨n,k0,e⟩:=r;rintro e' w' ⟨rfl,rfl⟩;simp only at hle HD ⊢;clear HI;by_cases he:e=0
 . subst he
   by_cases hn:1000<n
   . have hni: (1000:Int)< (n:Int):=by omega
     have hfin:Hid (gG (toL s)=none):=by show _=_;rw[HD.o,if_pos (.inr hn)]
     clear HD
     go_wp2
     go_ret3
     exact HR.o _ hfin.o _ _ ⟨ah _ _,13,by omega,rfl⟩
   . have hni:¬(1000:Int)< (n:Int):=by omega
     have HD2:Hid (gG (toL s)=gK n k0 ((toL s).drop k0)):=by show _=_;rw[HD.o,if_neg (by simp;omega)]
     clear HD
     go_wp2
     go_loopw[8,6,22] (fun v a i wr=>∃(k at_:Nat)(d:List VD)(A':OA)(c':Nat),k<=n/\i= .int .i64 k/\a= .int .i64 at_/\at_<=s.size/\v= .slice A' k c'/\d.length=k/\Hid (wr.ownsRow w.heap.size 9 1 (.slice A' k c') k (flat aF d))/\k<=c'/\c'<=maxLen/\Hid (gG (toL s)=pre d (gK (n - k) at_ ((toL s).drop at_)))/\VF w wr) (fun _ _ i _=>n - (intOf i).toNat)
     case atStart=>exact⟨0,k0,[],none,0,ZX _,rfl,rfl,hle,rfl,rfl,World.ownsRow_nil _ _ _ _,Nat.le_refl _,ZX _,by show _=_;rw[SA];exact HD2.o,ah _ _⟩
     case round =>
      obtain⟨k,at_,d,A',c',hk,rfl,rfl,hat,rfl,hdl,hO,hkc,hcm,hG,hBel⟩:=hrel;by_cases hlt:k<n
      . obtain⟨m,hm⟩:∃m,n - k=m+1:=⟨n - k - 1,by omega⟩
        have hm2:n - (k+1)=m:=by omega
        have HN:=ai (J9 s at_ hat HS.o);have hle2:=uf ((toL s).drop at_);rw[List.length_drop,<-aQ]at hle2;rw[hm]at hG;have hlz: (k:Int)< (n:Int):=by omega
        have o:=ai hm2;clear hm hm2;go_wp2_with fail;refine(HN.o _).mono ?_;have HF:=ai (PE d m at_ ((toL s).drop at_));have HK:=ai (Qr d m at_ ((toL s).drop at_));rw[List.drop_drop]at HK;generalize aK ((toL s).drop at_)=g at *;obtain⟨t,q,e⟩:=g;simp only at hle2 HF HK;rintro e' w' ⟨rfl,rfl⟩;simp only;clear HN;by_cases he:e=0
        . subst he
          have HG2:Hid (gG (toL s)=pre (d++ [t]) (gK m (at_+q) ((toL s).drop (at_+q)))):=hG.o.trans (HK.o rfl);obtain⟨v,hv⟩:=NX9 (ofL t)
          have HV:Hid (flat aF (d++ [t])=flat aF d++ [.string v]):=by show _=_;rw[bQ];rw[<-hv];rfl
          have hv1:∀u∈ [(Value.string v)],u.oneCell'=true:=fun u hu=>by rw[List.mem_singleton.1 hu];rfl
          have b:Hid ((wr.alloc (.cells #[.string v] 9)).ownsRow w.heap.size 9 1 (.slice A' k c') k (flat aF d)):=hO.o.alloc _;have z2:=hBel.o.size;rw[hv];clear HK HF hv hG
          go_wp2_with (at_builtin;refine aO ?_)
          refine aH ?_;refine jV (base:=w.heap.size) (size:=1) _ rfl (.tmp 34) (.tmp 36) 22 rfl 9 i0 _ 16 Tryz.underlying22 Hi.o f.o j.o l.o rfl (by decide) (.slice A' k c') k (flat aF d) (by rfl) b.o (wr.heap.size+1) (some ⟨wr.heap.size,0,none⟩) 1 1 [.string v] (by rfl) (Sl.new wr 9 [.string v] 1 rfl) hv1 (by unfold maxLen;omega) (by omega) (by simp;omega) ?_;intro A4 c4 w4 c hg4 hc4 hm4;rw[<-HV.o]at c;have x:=ai c;have HB4:VF w w4:=(hBel.o.alloc (by omega) _).grown hg4 (by simp;omega) (fun g hg=>jF b.o g hg);have y:=ai hm4;clear c hg4 hm4 b hv1;go_wp2_with fail;go_roundw
          case rel=>exact⟨k+1,at_+q,d++ [t],A4,c4,by omega,by go_num,by go_num,by omega,rfl,by simp[hdl],x.o,hc4,y.o,by show _=_;rw[o.o];exact HG2.o,HB4.o⟩
          case measure=>simp[intOf];omega
        . have hne: (e != 0)=true:=by rw[bne_iff_ne];exact he
          have hfin:Hid (gG (toL s)=none):=by show _=_;rw[hG.o,HF.o he]
          have HE:=ai he;clear HK HF hG he
          go_wp2
          go_ret3
          exact HR.o _ hfin.o _ _ ⟨hBel.o,e,HE.o,rfl⟩
      . obtain rfl:k=n:=by omega
        have hfin:Hid (gG (toL s)=some (d,at_)):=by show _=_;rw[hG.o,Nat.sub_self,gK,pre,List.append_nil]
        have z:=ai hdl;have HCM:=ai hcm;clear hG hdl hcm
        go_wp2
        go_ret3
        have e1: ((d,at_).1:List VD).length=k:=z.o;exact HR.o _ hfin.o _ _ ⟨hBel.o,A',c',by rw[e1];first | done | rfl,by rw[e1];exact hO.o,by rw[e1];exact hkc,HCM.o⟩
 . have hne: (e != 0)=true:=by rw[bne_iff_ne];exact he
   have hfin:Hid (gG (toL s)=none):=by show _=_;rw[HD.o,if_pos (.inl he)]
   have HE:=ai he;clear HD he
   go_wp2
   go_ret3
   exact HR.o _ hfin.o _ _ ⟨ah _ _,e,HE.o,rfl⟩
theorem JM(c sz:Nat)(h0:0<sz)(hc:c<=1000000000)(hs:sz<=512)(w:VA):Calls Tryz.prog 223 #[.int .i64 c,.int .i64 sz] w fun e w'=>e= .returned (.int .i64 (nsec c sz:Nat))/\w=w':=by
 have hq: ((c:Int)+ (sz:Int) - 1) / (sz:Int)= (nsec c sz:Nat):=by
  unfold nsec;rw[Int.natCast_ediv,show((c+sz - 1:Nat):Int)= (c:Int)+ (sz:Int) - 1 by omega]
 have hle:nsec c sz<=c+sz - 1:=Nat.div_le_self _ _;have hz:¬((sz:Int)=0):=by omega
 have HQ:=ai hq;clear hq hle;generalize nsec c sz=q at *
 go_enter Tryz.func223,Tryz.ntmps223
 go_wp2
 go_ret
 exact⟨by rw[<-HQ.o];rfl,rfl⟩
def qQ(b:VD)(w:VA)(e:Ending)(w':VA):Prop:=VE w w'/\match dY b with
 | none=>∃A n c m,e= .returned (.tuple #[.slice A n c,m,.bool false])
 | some p=>∃A cc,e= .returned (.tuple #[.slice A p.1.length cc,.int .i64 p.2,.bool true])/\w'.ownsRow w.heap.size 9 1 (.slice A p.1.length cc) p.1.length (flat aF p.1)/\p.1.length<=cc/\cc<=maxLen
theorem OW(x:UInt8)(s:VD):dY (x::s)=if x≠1∨ (aA s).2.2≠0∨s.length< (aA s).2.1+ (aA s).1 then none else
  match gG ((s.drop (aA s).2.1).take (aA s).1) with
  | none=>none
  | some (l,c)=>if c= (aA s).1 then some (l,1+ (aA s).2.1+ (aA s).1) else none:=rfl
theorem JC(s:VB)(h0:0<s.size)(hs:s.size<=maxLen)(w:VA):Calls Tryz.prog 222 #[.string s] w (qQ (toL s) w):=by
 have hcons:toL s=s[0]:: (toL s).drop 1:=by have:=wL h0;rwa[List.drop_zero]at this
 have HN:Hid (dY (toL s)=none->∀e w',VE w w'-> (∃A n c m,e= .returned (.tuple #[.slice A n c,m,.bool false]))->qQ (toL s) w e w'):=fun h e w' hb hh=>by rw[qQ,h];exact⟨hb,hh⟩
 have HS:Hid (∀p,dY (toL s)=some p->∀e w',VE w w'-> (∃A cc,e= .returned (.tuple #[.slice A p.1.length cc,.int .i64 p.2,.bool true])/\w'.ownsRow w.heap.size 9 1 (.slice A p.1.length cc) p.1.length (flat aF p.1)/\p.1.length<=cc/\cc<=maxLen)->qQ (toL s) w e w'):=fun p h e w' hb hh=>by rw[qQ,h];exact⟨hb,hh⟩
 have HD:=ai (OW s[0] ((toL s).drop 1));rw[<-hcons]at HD;have HX:Hid (toL (s.extract 1 s.size)= (toL s).drop 1):=pY s 1;have hle:=nM ((toL s).drop 1);have hmx:=xw ((toL s).drop 1);have hdl: ((toL s).drop 1).length=s.size - 1:=by rw[List.length_drop,<-aQ]
 rw[hdl]at hle HD;have HM:=ai hs;unfold maxLen at hs;have hd:s[0].toNat<256:=s[0].toNat_lt;have h1i: (1:Int)<= (s.size:Int):=by omega
 clear hcons hdl;by_cases hx:s[0]=1
 . have hxi:s[0].toNat=1:=by rw[hx];rfl
   go_enter Tryz.func222,Tryz.ntmps222
   go_wp2_with fail;refine(mX (s.extract 1 s.size) _).mono ?_;rw[HX.o];have HE:=ai (fun k n=>vP s k n);have HDR:Hid (∀m,((toL s).drop 1).drop m= (toL s).drop (1+m)):=fun m=>by show _=_;rw[List.drop_drop]
   generalize aA ((toL s).drop 1)=r at *;obtain⟨n,m,e⟩:=r;rintro e' w' ⟨rfl,rfl⟩;simp only at hle hmx HD ⊢;by_cases he:e=0
   . subst he
     by_cases hl:s.size - 1<m+n
     . have a: (s.size:Int) - (1+ (m:Int))< (n:Int):=by omega
       have hfin:Hid (dY (toL s)=none):=by show _=_;rw[HD.o,if_pos (.inr (.inr hl))]
       clear HD
       go_wp2
       go_ret3
       exact HN.o hfin.o _ _ (ah _ _) ⟨_,_,_,_,rfl⟩
     . have a:¬(s.size:Int) - (1+ (m:Int))< (n:Int):=by omega
       have HD2:Hid (dY (toL s)=match gG (((toL s).drop (1+m)).take n) with
         | none=>none
         | some (l,c)=>if c=n then some (l,1+m+n) else none):=by
        show _=_;rw[HD.o,if_neg (by simp[hx];omega),HDR.o]
       have HG:=ai (Kq (ofL (((toL s).drop (1+m)).take n)) (by rw[bU,List.length_take];have:=HM.o;omega));rw[dE,<-HE.o (1+m) n]at HG;clear HD HDR HE;go_wp2_with fail;refine(HG.o _).mono ?_;rintro e w1 ⟨hb1,h1⟩;have HB1:=ai hb1;clear HG;generalize gG (((toL s).drop (1+m)).take n)=g at *;cases g with
       | none =>
         obtain⟨er,her,rfl⟩:=h1;have hne: (er == 0)=false:=by rw[beq_eq_false_iff_ne];exact her
         have hfin:Hid (dY (toL s)=none):=HD2.o;clear HD2 her hb1
         go_wp2
         go_ret3
         exact HN.o hfin.o _ _ HB1.o ⟨_,_,_,_,rfl⟩
       | some p =>
         obtain⟨l,c⟩:=p;obtain⟨A,cc,rfl,ho,hcc,hcm⟩:=h1;have HO:=ai ho;have b:=ai hcc;have HCM:=ai hcm;clear ho hcc hcm hb1;by_cases hcn:c=n
         . subst hcn
           have hfin:Hid (dY (toL s)=some (l,1+m+c)):=by show _=_;rw[HD2.o];simp
           clear HD2
           go_wp2
           go_ret3
           exact HS.o _ hfin.o _ _ HB1.o ⟨A,cc,by simp,HO.o,b.o,HCM.o⟩
         . have hfin:Hid (dY (toL s)=none):=by show _=_;rw[HD2.o];simp[hcn]
           have hcf: ((c:Int) == (n:Int))=false:=by rw[beq_eq_false_iff_ne];omega
           clear HD2
           go_wp2
           go_ret3
           exact HN.o hfin.o _ _ HB1.o ⟨_,_,_,_,rfl⟩
   . have hne: (e != 0)=true:=by rw[bne_iff_ne];exact he
     have hfin:Hid (dY (toL s)=none):=by show _=_;rw[HD.o,if_pos (.inr (.inl he))]
     clear HD he
     go_wp2
     go_ret3
     exact HN.o hfin.o _ _ (ah _ _) ⟨_,_,_,_,rfl⟩
 . have hxi:¬s[0].toNat=1:=fun h=>hx (UInt8.toNat_inj.1 h)
   have hfin:Hid (dY (toL s)=none):=by show _=_;rw[HD.o,if_pos (.inl hx)]
   have hxb: ((s[0].toNat:Int) != 1)=true:=by rw[bne_iff_ne];omega
   clear HD hxi
   go_enter Tryz.func222,Tryz.ntmps222
   go_wp2
   go_ret3
   exact HN.o hfin.o _ _ (ah _ _) ⟨_,_,_,_,rfl⟩
section
def uU{α:Type}(F:Fence)(n:Nat)(P:Program)(g:Nat)(lb:Array VC)(encs:α->Array VC)(Kp St:VA->VA->Prop)(Pf:VA->List α->Prop)(S Sp:List α->Prop)(hz:Nat)(w:VA):Prop :=
 ∀(l:Nat)(J Jx:List α->VA->Prop)(W:VA),VE w W->W.heap.size=hz-> (∀pre A B,J pre A->St A B->J pre B) ->
  (∀pre x W1,Pf W1 (pre++ [x])->J pre W1->YieldAt F (n - 1) P l (encs x) W1 fun e W' =>
    (e= .returned (.bool true)/\J (pre++ [x]) W'/\Kp W1 W')∨ (e= .returned (.bool false)/\Jx (pre++ [x]) W')) ->
  J [] W ->
  CallsIn F n P g (#[.func (.yield l) #[] #[]]++lb) W fun e W'=>(∃v,e= .returned v)/\ ((∃xs,S xs/\J xs W')∨ (∃pre,Sp pre/\Jx pre W'))
variable {F : Fence} {n : Nat} {P : Program}
end
section
attribute [local go_sem] Oper.semAt_some
abbrev Fr:=(OA×Nat×Nat)×List VD×Int
def frV(x:Fr):Array VC:=#[.slice x.1.1 x.1.2.1 x.1.2.2,.int .i64 x.2.2]
def frL(xs:List Fr):List VD:=xs.flatMap (·.2.1)
def frU(xs:List Fr):Int:=(xs.getLast?.map (·.2.2)).getD 0
theorem xB(xs:List Fr)(x:Fr):frU (xs++ [x])=x.2.2:=by simp[frU]
theorem xQ(xs:List Fr)(x:Fr):frL (xs++ [x])=frL xs++x.2.1:=by simp[frL]
def FrSt(sz:Nat)(b:VD)(ls:List VD)(u:Nat):Prop:=frs sz b= (frs sz (b.drop (u*sz))).map fun p=>(ls++p.1,u+p.2)
theorem FrSt.start(sz:Nat)(b:VD):FrSt sz b [] 0:=by
 unfold FrSt;rw[Nat.zero_mul,List.drop_zero];cases frs sz b with
 | none=>rfl
 | some p=>simp
theorem FrSt.step{sz:Nat}{b:VD}{ls l:List VD}{u c:Nat}(h:FrSt sz b ls u)(hz:0<sz)(h0:¬zer (b.drop (u*sz)))(hd:dY (b.drop (u*sz))=some (l,c)):FrSt sz b (ls++l) (u+nsec c sz):=by
 unfold FrSt at *;rw[h,lL hz h0 hd,List.drop_drop,<-Nat.add_mul];cases frs sz (b.drop ((u+nsec c sz)*sz)) with
 | none=>rfl
 | some p=>simp[Nat.add_assoc]
theorem FrSt.bad{sz:Nat}{b:VD}{ls:List VD}{u:Nat}(h:FrSt sz b ls u)(h0:¬zer (b.drop (u*sz)))(hd:dY (b.drop (u*sz))=none):frs sz b=none:=by
 unfold FrSt at h;rw[h,qm h0 hd];rfl
theorem FrSt.fin{sz:Nat}{b:VD}{ls:List VD}{u:Nat}(h:FrSt sz b ls u)(h0:zer (b.drop (u*sz))):frs sz b=some (ls,u):=by
 unfold FrSt at h;rw[h,kW h0];simp
def FrP(sz:Nat)(b:VD)(W:VA)(xs:List Fr):Prop:=∀(pre:List Fr)(x:Fr),xs=pre++ [x]-> (x.2.2= -1/\frs sz b=none)∨∃u:Nat,x.2.2= (u:Int)/\Sl W W.heap.size 1 x.1.1 x.1.2.1 (flat aF x.2.1)/\x.1.2.1<=x.1.2.2/\x.1.2.2<=maxLen/\x.1.2.1=x.2.1.length/\x.2.1.length<=1000/\u<=1000512/\ (frL xs).length<=1000*u
def FrS(sz:Nat)(b:VD)(xs:List Fr):Prop:=(∃pre x,xs=pre++ [x]/\x.2.2= -1)∨∃u:Nat,frU xs=u/\frs sz b=some (frL xs,u)
def KeepF(b1 b2:Nat)(A B:VA):Prop:=B.heap[b1]? =A.heap[b1]? /\B.heap[b2]? =A.heap[b2]?
theorem Ov{c:UInt8}(h:c=0): ((c.toNat:Int) != 0)=false:=by rw[h];rfl
theorem NW{c:UInt8}(h:¬c=0): ((c.toNat:Int) != 0)=true:=by
 rw[bne_iff_ne];intro e;exact h (UInt8.toNat_inj.1 (by show c.toNat=0;omega))
theorem ND(n bs bz hz:Nat)(hn:1<=n)(s:VB)(sz:Nat)(w:VA)(hs:s.size<=1000000)(hz0:0<sz)(hz1:sz<=512)(h0:Bk w bs 9 #[.string s])(h1:Bk w bz 3 #[.int .i64 sz]) :
  uU Fence.wide n Tryz.prog 221 #[.pointer (some ⟨bs,0,none⟩),.pointer (some ⟨bz,0,none⟩)] frV (KeepF bs bz) (fun A B=>VE A B)
   (FrP sz (toL s)) (FrS sz (toL s)) (fun _=>True) hz w:=fun l J Jx W hW hWz hJ hY hJ0=>by
 have G0:Hid (Bk W bs 9 #[.string s]):=(hW.block bs h0.lt).trans h0;have G1:Hid (Bk W bz 3 #[.int .i64 sz]):=(hW.block bz h1.lt).trans h1;clear hW h0 h1 hWz;have y:=ai hY;have o:=ai hJ0;have HJ:=ai hJ;clear hJ hY hJ0;refine callsIn_of_wp Tryz.func221 rfl trivial ?_ rfl;simp only[Tryz.ntmps221,List.size_toArray,Z4,List.length_nil,Nat.reduceAdd,Nat.reduceSub,Array.replicate_succ,Array.replicate_zero,List.push_toArray,List.append_toArray,List.nil_append,List.cons_append]
 gi_wp2_with fail
 gi_loopw [4] (fun q wr=>∃(a u:Nat)(pre:List Fr),q= .int .i64 (a:Int)/\Hid (a=u*sz)/\a<=1000512/\Hid (FrSt sz (toL s) (frL pre) u)/\Hid (frU pre=u/\ (frL pre).length<=1000*u)/\Hid (Bk wr bs 9 #[.string s])/\Hid (Bk wr bz 3 #[.int .i64 sz])/\Hid (J pre wr)) (fun q _=>1000513 - (intOf q).toNat)
 case atStart=>exact⟨0,0,[],rfl,by show _=_;simp,by omega,FrSt.start sz _,⟨rfl,by simp[frL]⟩,G0.o,G1.o,o.o⟩
 case round =>
  obtain⟨a,u,pre,rfl,b,ha,hF,hU,hS,hZ,hj⟩:=hrel;have c0:=hS.o.cell 0;have c1:=hZ.o.cell 0;simp at c0 c1;by_cases hlt:a<s.size
  . have hlz: (a:Int)< (s.size:Int):=by omega
    have hle: (a:Int)<= (s.size:Int):=by omega
    have hdr:=wL hlt;by_cases h00:s[a]=0
    . have t1:=Ov h00
      have HF:Hid (frs sz (toL s)=some (frL pre,u)):=hF.o.fin (by rw[<-b.o,hdr];intro x hx;simp at hx;rw[<-hx];exact h00);clear h00 hdr
      gi_wp2
      go_end0
      exact⟨⟨_,rfl⟩,.inl ⟨pre,.inr ⟨u,hU.o.1,HF.o⟩,hj.o⟩⟩
    . have t1:=NW h00
      have HZ0:Hid (¬zer ((toL s).drop (u*sz))):=by show ¬_;rw[<-b.o,hdr];intro h;exact h00 (h _ rfl)
      have HX:Hid (toL (s.extract a s.size)= (toL s).drop (u*sz)):=by rw[<-b.o];exact pY s a
      have hxs: (s.extract a s.size).size=s.size - a:=by rw[ByteArray.size_extract];omega
      have HD:=ai (JC (s.extract a s.size) (by omega) (by unfold maxLen;omega));rw[HX.o]at HD;clear h00 hdr hxs
      gi_wp2_with fail
      refine⟨trivial,(callsIn_wide.2 (HD.o _)).mono ?_⟩;rintro e w1 ⟨hb1,h1⟩;have HB1:=ai hb1;have d:Hid (J pre w1):=HJ.o pre wr w1 hj.o hb1;have f:Hid (Bk w1 bs 9 #[.string s]):=hS.o.below hb1 hS.o.lt;have HZ1:Hid (Bk w1 bz 3 #[.int .i64 sz]):=hZ.o.below hb1 hZ.o.lt;have c0:=f.o.cell 0;have c1:=HZ1.o.cell 0;simp at c0 c1;clear HD hb1;cases hdf:dY ((toL s).drop (u*sz)) with
      | none =>
        rw[hdf]at h1;obtain⟨A,nn,cc,m,rfl⟩:=h1;have HN:Hid (frs sz (toL s)=none):=hF.o.bad HZ0.o hdf;clear hdf;obtain⟨fn,tmps,assign,body,hy,hR'⟩:=y.o pre ((none,0,0),[],-1) w1 (fun p x he=>by
         have e:=congrArg List.getLast? he;simp at e;subst e;exact .inl ⟨rfl,HN.o⟩) d.o
        simp only[frV]at hy hR';have HR':=ai hR';clear hR'
        gi_wp2
        refine HR'.o.mono ?_;rintro e' W3 (⟨rfl,hJ3,hK3⟩ | ⟨rfl,hJx3⟩)
        . gi_wp2
          refine ZW (results_none rfl _ _ _) rfl ?_;exact⟨⟨_,rfl⟩,.inl ⟨_,.inl ⟨_,_,rfl,rfl⟩,hJ3⟩⟩
        . gi_wp2
          refine ZW (results_none rfl _ _ _) rfl ?_;exact⟨⟨_,rfl⟩,.inr ⟨_,trivial,hJx3⟩⟩
      | some p =>
        obtain⟨ll,cn⟩:=p;rw[hdf]at h1;obtain⟨A,cc,rfl,ho,hcc,hcm⟩:=h1;have HF2:=ai (hF.o.step hz0 HZ0.o hdf);obtain⟨hfit,hcn,rr,hrr⟩:=ny hdf;have z:=nG ll;have hcl:cn+a<=s.size:=by
         have:=congrArg List.length hrr;rw[af,List.length_drop,<-aQ,<-hcn,<-b.o]at this;omega
        have hq1:=nD (c:=cn) hz0 (by omega);have hq2:=GR (c:=cn) hz0 (by omega);obtain⟨q,hq⟩:=NX9 (nsec cn sz)
        rw[hq]at hq1 hq2 HF2;obtain⟨a2,ha2⟩:=NX9 ((u+q)*sz)
        have C:a2=a+q*sz:=by rw[<-ha2,Nat.add_mul,b.o]
        have D:q<=q*sz:=Nat.le_mul_of_pos_right _ hz0;have r:u<=u*sz:=Nat.le_mul_of_pos_right _ hz0;rw[<-b.o]at r;generalize q*sz=qz at *;have hsi: ((u:Int)+ (q:Int))* (sz:Int)= (a2:Int):=by rw[<-ha2,Int.natCast_mul,Int.natCast_add]
        have hdv: (a:Int) / (sz:Int)= (u:Int):=by rw[b.o,Int.natCast_mul];exact Int.mul_ediv_cancel _ (by omega)
        have hzi:¬sz=0:=by omega
        have E:IntKind.i64.wrap (u:Int)= (u:Int):=by rw[IntKind.wrap_i64];omega
        have hwq:IntKind.i64.wrap ((u:Int)+ (q:Int))= (u:Int)+ (q:Int):=by rw[IntKind.wrap_i64];omega
        have HS2:=ai (JM cn sz hz0 (by omega) hz1);rw[hq]at HS2;have HF3:Hid (FrSt sz (toL s) (frL (pre++ [((A,ll.length,cc),ll,(u:Int)+ (q:Int))])) (u+q)):=by show FrSt _ _ _ _;rw[xQ];exact HF2.o
        have g:Hid ((frL (pre++ [((A,ll.length,cc),ll,(u:Int)+ (q:Int))])).length<=1000* (u+q)):=by
         show _<=_;rw[xQ,af];have:=hU.o.2;have:=hfit.1;simp only;omega
        have i:Hid (Sl w1 w1.heap.size 1 A ll.length (flat aF ll)):=Sl.of_own ho;have t:=ai hfit;have HA2:=ai ha2;have HCM:=ai hcm;clear hdf ho hrr hfit HF2 ha2 hq hcn hF hcm
        gi_wp2_with fail
        refine wpIn_region_quiet_lit rfl (by kernel_rfl) (by kernel_rfl) ?_
        repeat
         refine wpQuietIn_step (fun _ _ _ _=>trivial) (fun K hK=>?_)
         go_simp
         first
          | (refine hK _ ?_;clear hK K)
          | (apply Exists.intro;refine⟨fun _=>?_,hK _ ?_⟩;(gi_at_call 223;exact CallsIn.quiet_of_same (callsIn_wide.2 ((HS2.o _).mono (by rintro e w' ⟨rfl,rfl⟩;exact⟨rfl,rfl⟩))));clear hK K)
        refine wpQuietIn_nil ?_;rintro _ ⟨nq,rfl⟩;obtain⟨w2,hw2⟩:=NX9 (w1.drewN nq)
        have hb2:VE w1 w2:=by rw[<-hw2];exact cZ (ah _ _) nq
        have HJ2:Hid (J pre w2):=HJ.o pre w1 w2 d.o hb2;have j:Hid (Sl w2 w2.heap.size 1 A ll.length (flat aF ll)):=by rw[<-hw2];exact i.o
        have HS2:Hid (Bk w2 bs 9 #[.string s]):=by rw[<-hw2];exact f.o
        have HZ2:Hid (Bk w2 bz 3 #[.int .i64 sz]):=by rw[<-hw2];exact HZ1.o
        rw[hw2];clear hw2 hb2 f HZ1 d i c0 c1;have c0:=HS2.o.cell 0;have c1:=HZ2.o.cell 0;simp at c0 c1;obtain⟨fn,tmps,assign,body,hy,hR'⟩:=y.o pre ((A,ll.length,cc),ll,(u:Int)+ (q:Int)) w2 (fun p x he=>by
         have e:=congrArg List.getLast? he;simp at e;subst e;exact .inr ⟨u+q,by simp,j.o,hcc,HCM.o,rfl,t.o.1,by omega,g.o⟩) HJ2.o
        simp only[frV]at hy hR';have HR':=ai hR';clear hR'
        gi_wp2
        refine HR'.o.mono ?_;rintro e' W3 (⟨rfl,hJ3,hK3⟩ | ⟨rfl,hJx3⟩)
        . have k:Hid (Bk W3 bs 9 #[.string s]):=hK3.1.trans HS2.o
          have HZ3:Hid (Bk W3 bz 3 #[.int .i64 sz]):=hK3.2.trans HZ2.o;have c0:=k.o.cell 0;have c1:=HZ3.o.cell 0;simp at c0 c1;have v:=ai hJ3;clear hJ3 hK3
          gi_wp2
          go_roundw
          case rel=>exact⟨a2,u+q,_,by go_num,HA2.o.symm,by omega,HF3.o,⟨by rw[xB];simp,g.o⟩,k.o,HZ3.o,v.o⟩
          case measure=>simp[intOf];omega
        . gi_wp2
          refine ZW (results_none rfl _ _ _) rfl ?_;exact⟨⟨_,rfl⟩,.inr ⟨_,trivial,hJx3⟩⟩
  . have hlz:¬(a:Int)< (s.size:Int):=by omega
    have HF:Hid (frs sz (toL s)=some (frL pre,u)):=hF.o.fin (by rw[<-b.o,List.drop_of_length_le (by rw[<-aQ];omega)];intro x hx;simp at hx)
    gi_wp2
    go_end0
    exact⟨⟨_,rfl⟩,.inl ⟨pre,.inr ⟨u,hU.o.1,HF.o⟩,hj.o⟩⟩
end
section
variable {F : Fence} {n : Nat} {P : Program}
theorem Bo{α:Type}{g:Operand}{ps:Array Tmp}{assign body:Code}{Q:Exit->Act->VA->Prop}{a:Act}{w:VA}
  (hro:F.round=none) (h1:1<=n) {gf:Nat} {lb:Array VC} (hg:a.eval g= .func (.func gf) #[] lb) (hFg:F.fn gf) (eg:∀args w,(callFunc gf args).run P w= .ok (.enter gf args) w)
  {encs:α->Array VC} {Kp St:VA->VA->Prop} {Pf:VA->List α->Prop} {S Sp:List α->Prop} {w0:VA} (hseq:uU F (n - 1) P gf lb encs Kp St Pf S Sp (w.heap.size+2) w0)
  (hKt:∀{A B C:VA},Kp A B->Kp B C->Kp A C) (hKb:∀(W:VA)(l:Nat)(r:Loop)(o':Obj),w.heap.size+1=l->W.heap[l]? =some (.loop r)->Kp W (W.putObj l o')) (hSo:∀A B,St A B->w.heap.size+2<=A.heap.size->Rec2 w.heap.size A B) (hb0:VE w0 w) (hps:∀x,(encs x).size=ps.size)
  (I:List α->VA->Prop) (Ix:Code->List α->VA->Prop) (hI:OwnFrom w.heap.size I) (hIx:∀c,OwnFrom w.heap.size (Ix c)) (hIS:∀pre A B,I pre A->St A B->I pre B) (h0:I [] w) (As:List α->Nat->VA->Prop) (hAp:∀x b W l (r:Loop) (o:Obj),W.heap[l]? =some (.loop r)->As x b W->As x b (W.putObj l o)) (a₁:α->Nat->Act)
  (hassign:∀(l:Nat)(pre:List α)(x:α)(W:VA)(K:Act->VA->Prop),Pf W (pre++ [x])->w.heap.size+2<=W.heap.size->I pre W-> (∀b W',Rec2 w.heap.size W W'->Kp W W'->I pre W'->As (pre++ [x]) b W'->K (a₁ x b) W') ->
    assign.wpIn (F.inRound l) (n - 1 - 1) P (Exit.then K (fun _ _ _=>False)) {tmps:=(ps.zip (encs x)).foldl (fun t (p,v)=>t.setIfInBounds p v) a.tmps,defers:= []} W)
  (hbody:∀(l:Nat)(pre:List α)(x:α)(b:Nat)(W:VA),w.heap.size+2<=W.heap.size->I pre W->As (pre++ [x]) b W->body.wpIn (F.inRound l) (n - 1 - 1) P (yt w.heap.size Kp I Ix (pre++ [x]) W) (a₁ x b) W)
  (hdone:∀(D:Nat)(xs:List α)(W:VA),w.heap.size<=D->S xs->I xs W->W.heap[D]? =some (.deferred (some []))->Q .normal {a with defers:={target:= .collected D,args:=#[]}::a.defers} W)
  (hstop:∀(D:Nat)(c:Code)(pre:List α)(W:VA),w.heap.size<=D->Sp pre->Ix c pre W->W.heap[D]? =some (.deferred (some []))->c.wpIn F n P Q {a with defers:={target:= .collected D,args:=#[]}::a.defers} W) :
  (Code.rangeFunc g ps assign body).wpIn F n P Q a w:=by
 refine wpIn_rangeFunc ?_;intro fn hfn;rw[hro]
 -- the loop's record in block L,the block of its deferred calls in block D
 obtain⟨D,hD⟩:=NX9 w.heap.size
 obtain⟨rec,hrec⟩:∃rec:LoopState->Option Code->Loop,rec=fun st pe=>{state:=st,pending:=pe,fn,tmps:=a.tmps,params:=ps,assign,body,defers:=D}:=⟨_,rfl⟩
 obtain⟨W1,hW1⟩:=NX9 ((w.alloc (.deferred (some []))).alloc (.loop (rec .ready none)))
 have hL1:W1.heap[D+1]? =some (.loop (rec .ready none)):=by
  rw[<-hW1,<-hD];have:=World.alloc_heap_new (w.alloc (.deferred (some []))) (.loop (rec .ready none));rwa[Z9]at this
 have hK1:W1.heap[D]? =some (.deferred (some [])):=by
  rw[<-hW1,<-hD];exact(Below.heap_alloc _ _ _ (by simp)).trans (World.alloc_heap_new w _)
 have hI1:I [] W1:=by rw[<-hW1];exact hI.alloc _ (hI.alloc _ h0)
 have hb1:VE w0 W1:=by
  rw[<-hW1];exact hb0.trans ((((ah _ w).alloc aj _).alloc (by simp) _).mono hb0.size)
 refine⟨D+1,[{target:= .collected D,args:=#[]}],W1,{target:= .fn (.func gf) lb,args:=#[.func (.yield (D+1)) #[] #[]]},W1,gf,
  #[.func (.yield (D+1)) #[] #[]]++lb,W1,?_,?_,?_,?_,fun _=>h1,?_⟩
 . rw[<-hW1,hrec,<-hD];exact run_enterLoop_outer _ _ _ _ _
 . simp only[resolve,hg]
   simp[go_sem]
 . intro f' hf';simp[Target.leads]at hf';subst hf';exact hFg
 . simp[invoke,go_sem,eg]
 . refine(hseq (D+1)
     (fun pre W=>I pre W/\W.heap[D+1]? =some (.loop (rec .ready none))/\W.heap[D]? =some (.deferred (some [])))
     (fun pre W=>∃c,Ix c pre W/\W.heap[D+1]? =some (.loop (rec .done (some c)))/\W.heap[D]? =some (.deferred (some [])))
     W1 hb1 (by rw[<-hW1];simp)
     (fun pre A B hs hst=>by
       have hz2:=(Array.getElem?_eq_some_iff.1 hs.2.1).1;have hr:=hSo A B hst (by omega);rw[hD]at hr;exact⟨hIS pre A B hs.1 hst,hr.2.trans hs.2.1,hr.1.trans hs.2.2⟩)
     ?_ ⟨hI1,hL1,hK1⟩).mono ?_
   . rintro pre x W d ⟨hi,hl,hk⟩
     have hlt:D+1<W.heap.size:=(Array.getElem?_eq_some_iff.1 hl).1;have hy:=run_yield (P:=P) (args:=encs x) hl (by rw[hrec];exact hps x);rw[hrec]at hy;refine⟨fn,_,assign,body,hy,roundIn_of_wpIn hfn (hassign _ pre x W _ d (by omega) hi fun b V hrv hkv hiv hav=>?_)⟩;rw[hD]at hrv;have hlv:V.heap[D+1]? =some (.loop (rec .ready none)):=hrv.2.trans hl;have hkd:V.heap[D]? =some (.deferred (some [])):=hrv.1.trans hk;have hltv:D+1<V.heap.size:=(Array.getElem?_eq_some_iff.1 hlv).1;refine⟨_,run_beginRound hlv (by rw[hrec]),?_⟩;obtain⟨W2,hW2⟩:∃W2,V.putObj (D+1) (.loop {rec .ready none with state:= .busy})=W2:=⟨_,rfl⟩
     have hl2:W2.heap[D+1]? =some (.loop {rec .ready none with state:= .busy}):=by rw[<-hW2];exact World.putObj_heap_same hltv
     have hk2:W2.heap[D]? =some (.deferred (some [])):=by rw[<-hW2];exact(World.putObj_heap_other (by omega)).trans hkd
     have hw2:Kp W W2:=by rw[<-hW2];exact hKt hkv (hKb _ _ _ _ (by omega) hlv)
     have hi2:I pre W2:=by rw[<-hW2];exact hI.putObj _ hiv (by omega) hlv rfl
     have ha2:As (pre++ [x]) b W2:=by rw[<-hW2];exact hAp _ _ _ _ _ _ hlv hav
     rw[hW2];refine wpIn_mono (hbody _ pre x b _ (by have:=(Array.getElem?_eq_some_iff.1 hl2).1;omega) hi2 ha2) ?_;have fin:∀(jump:Option Code)(W3:VA),Rec2 w.heap.size W2 W3 ->
       (Instr.endRound (D+1) jump).run P W3= .ok (.bool jump.isNone) (W3.putObj (D+1) (.loop (rec (if jump.isNone then .ready else .done) jump))) ∧
       W3.heap[D+1]? =some (.loop {rec .ready none with state:= .busy}) ∧
       (W3.putObj (D+1) (.loop (rec (if jump.isNone then .ready else .done) jump))).heap[D+1]? =some (.loop (rec (if jump.isNone then .ready else .done) jump)) ∧
       (W3.putObj (D+1) (.loop (rec (if jump.isNone then .ready else .done) jump))).heap[D]? =some (.deferred (some [])):=fun jump W3 hk3=>by
      rw[hD]at hk3;have hl3:=hk3.2.trans hl2;have:=run_endRound (P:=P) jump hl3;rw[hrec]at this ⊢;exact⟨this,by rw[hrec]at hl3;exact hl3,World.putObj_heap_same (Array.getElem?_eq_some_iff.1 hl3).1,(World.putObj_heap_other (by omega)).trans (hk3.1.trans hk2)⟩
     rintro e a3 W3 hp;cases e with
     | normal =>
       obtain⟨hk3,hkp3,hi3⟩:=hp;obtain⟨hr,hl3,hl4,hk4⟩:=fin none W3 hk3;exact⟨_,_,hr,.inl ⟨rfl,⟨hI.putObj _ hi3 (by omega) hl3 rfl,hl4,hk4⟩,hKt (hKt hw2 hkp3) (hKb _ _ _ _ (by omega) hl3)⟩⟩
     | ret =>
       obtain⟨hk3,hi3⟩:=hp;obtain⟨hr,hl3,hl4,hk4⟩:=fin (some .ret) W3 hk3;exact⟨_,_,hr,.inr ⟨rfl,.ret,(hIx _).putObj _ hi3 (by omega) hl3 rfl,hl4,hk4⟩⟩
     | exit id =>
       obtain⟨hk3,hi3⟩:=hp;obtain⟨hr,hl3,hl4,hk4⟩:=fin (some (.exit id)) W3 hk3;exact⟨_,_,hr,.inr ⟨rfl,.exit id,(hIx _).putObj _ hi3 (by omega) hl3 rfl,hl4,hk4⟩⟩
     | goto t =>
       obtain⟨hk3,hi3⟩:=hp;obtain⟨hr,hl3,hl4,hk4⟩:=fin (some (.goto t)) W3 hk3;exact⟨_,_,hr,.inr ⟨rfl,.goto t,(hIx _).putObj _ hi3 (by omega) hl3 rfl,hl4,hk4⟩⟩
     | panic ch=>exact hp.elim
     | outgrown=>exact hp.elim
   . rintro e W2 ⟨⟨v,rfl⟩,(⟨xs,hS,hi,hl,hk⟩ | ⟨pre,hSp,c,hi,hl,hk⟩)⟩
     . exact⟨none,_,by have:=run_endLoop (P:=P) hl (by rw[hrec];simp);rw[hrec]at this;exact this,hdone _ xs _ (by omega) hS (hI.putObj _ hi (by omega) hl rfl) ((World.putObj_heap_other (by omega)).trans hk)⟩
     . exact⟨some c,_,by have:=run_endLoop (P:=P) hl (by rw[hrec];simp);rw[hrec]at this;exact this,hstop _ c pre _ (by omega) hSp ((hIx c).putObj _ hi (by omega) hl rfl) ((World.putObj_heap_other (by omega)).trans hk)⟩
theorem KE{α:Type}{g:Operand}{ps:Array Tmp}{assign body:Code}{Q:Exit->Act->VA->Prop}{a:Act}{w:VA}
  (hro:F.round=none) (h1:1<=n) {gf:Nat} {lb:Array VC} (hg:a.eval g= .func (.func gf) #[] lb) (hFg:F.fn gf) (eg:∀args w,(callFunc gf args).run P w= .ok (.enter gf args) w)
  {encs:α->Array VC} {Kp St:VA->VA->Prop} {Pf:VA->List α->Prop} {S Sp:List α->Prop} {w0:VA} (hseq:uU F (n - 1) P gf lb encs Kp St Pf S Sp (w.heap.size+2) w0)
  (hKt:∀{A B C:VA},Kp A B->Kp B C->Kp A C) (hKb:∀(W:VA)(l:Nat)(r:Loop)(o':Obj),w.heap.size+1=l->W.heap[l]? =some (.loop r)->Kp W (W.putObj l o')) (hPb:∀(W:VA)(l:Nat)(r:Loop)(o':Obj)(xs:List α),W.heap[l]? =some (.loop r)->Pf W xs->Pf (W.putObj l o') xs) (hKr:∀W:VA,Kp W W) (hSo:∀A B,St A B->w.heap.size+2<=A.heap.size->Rec2 w.heap.size A B) (hb0:VE w0 w) (hps:∀x,(encs x).size=ps.size)
  (I:List α->VA->Prop) (Ix:Code->List α->VA->Prop) (hI:OwnFrom w.heap.size I) (hIx:∀c,OwnFrom w.heap.size (Ix c)) (hIS:∀pre A B,I pre A->St A B->I pre B) (h0:I [] w) (a₁:α->Act)
  (hassign:∀(l:Nat)(x:α)(W:VA)(K:Act->VA->Prop),K (a₁ x) W ->
    assign.wpIn (F.inRound l) (n - 1 - 1) P (Exit.then K (fun _ _ _=>False)) {tmps:=(ps.zip (encs x)).foldl (fun t (p,v)=>t.setIfInBounds p v) a.tmps,defers:= []} W)
  (hbody:∀(l:Nat)(pre:List α)(x:α)(W:VA),Pf W (pre++ [x])->w.heap.size+2<=W.heap.size->I pre W->body.wpIn (F.inRound l) (n - 1 - 1) P (yt w.heap.size Kp I Ix (pre++ [x]) W) (a₁ x) W)
  (hdone:∀(D:Nat)(xs:List α)(W:VA),w.heap.size<=D->S xs->I xs W->W.heap[D]? =some (.deferred (some []))->Q .normal {a with defers:={target:= .collected D,args:=#[]}::a.defers} W)
  (hstop:∀(D:Nat)(c:Code)(pre:List α)(W:VA),w.heap.size<=D->Sp pre->Ix c pre W->W.heap[D]? =some (.deferred (some []))->c.wpIn F n P Q {a with defers:={target:= .collected D,args:=#[]}::a.defers} W) :
  (Code.rangeFunc g ps assign body).wpIn F n P Q a w :=
 Bo hro h1 hg hFg eg hseq hKt hKb hSo hb0 hps I Ix hI hIx hIS h0 (fun xs _ W=>Pf W xs) (fun xs _ W l r o hl hp=>hPb W l r o xs hl hp) (fun x _=>a₁ x)
  (fun l _ x W K hpf _ hi hk=>hassign l x W K (hk 0 W (Rec2.refl _ _) (hKr W) hi hpf)) (fun l pre x _ W hz hi hp=>hbody l pre x W hp hz hi) hdone hstop
end
section
open Go.RowKit Go.Shelf
theorem NK:Builder.Extra Tryz.prog Tryz.lays105_ren:={
 sizeBuilder:=by kernel_rfl
 liesBuilder:=by kernel_rfl
 t5:=Tryz.underlying5
 a5:=Tryz.isAgg5
 z5:=Tryz.sizeOf5
 v5:=Tryz.zeroValue5
 infoByte:=by kernel_rfl
 cellsByte:=by kernel_rfl
 sizeByte:=by kernel_rfl
 neB5:=by decide}
theorem Oi:Builder.Extra Tryz.prog Tryz.lays156_ren:={
 sizeBuilder:=by kernel_rfl
 liesBuilder:=by kernel_rfl
 t5:=Tryz.underlying5
 a5:=Tryz.isAgg5
 z5:=Tryz.sizeOf5
 v5:=Tryz.zeroValue5
 infoByte:=by kernel_rfl
 cellsByte:=by kernel_rfl
 sizeByte:=by kernel_rfl
 neB5:=by decide}
theorem qo(x y:VD):ofL x++ofL y=ofL (x++y):=by
 unfold ofL;apply ByteArray.ext
 simp
theorem Ko(n:Nat):Lib.repeatL [(0:UInt8)] n=List.replicate n 0:=by
 induction n with
 | zero=>rfl
 | succ n ih=>show [0]++Lib.repeatL [0] n=_;rw[ih];rfl
theorem BA(n:Nat)(w:VA)(hn:n<=100000):Calls Tryz.prog 74 #[.string ⟨#[0]⟩,.int .i64 n] w fun e w'=>e= .returned (.string (ofL (List.replicate n 0)))/\VE w w':=by
 have h:=Any.strings_Repeat Tryz.lays105 NK ⟨#[0]⟩ n w (by omega) (by show 1*n<=_;omega);rw[show(⟨#[0]⟩:VB).data.toList= [0] from rfl,Ko]at h;exact h
theorem EJ(l:List VD):Lib.join l []=l.flatten:=by
 cases l with
 | nil=>rfl
 | cons x r =>
   rw[Lib.join_cons,List.flatten_cons];unfold Lib.joinTail;rw[show(fun y:VD=>([]:VD)++y)=id from rfl,List.map_id]
theorem QI(A:OA)(n c B:Nat)(ss:List VD)(w:VA)(h:Sl w B 1 A n (flat aF ss))(hB:B<=w.heap.size)(hn:0<n)(hc:n<=c)(hl:ss.flatten.length<=1000000000)(hl2:n<=1000000) :
  Calls Tryz.prog 139 #[.slice A n c,.string ⟨#[]⟩] w fun e w'=>e= .returned (.string (ofL ss.flatten))/\VE w w':=by
 have hlen:=h.len dJ (by omega);obtain⟨b,off,rfl,hb,hcell⟩:=h.2 hn;have hm: (ss.map ofL).map (·.data.toList)=ss:=by rw[List.map_map];exact List.map_id'' (fun x=>rfl) ss
 have hj:=Any.strings_Join Tryz.lays156 Oi b off c (ss.map ofL) ⟨#[]⟩ w (by
  intro j x hx;rw[List.getElem?_map,Option.map_eq_some_iff]at hx;obtain⟨y,hy,rfl⟩:=hx;exact hcell j _ (by have:=iJ (enc:=aF) dJ ss j 0 y hy (by omega);simpa [aF] using this)) (by omega) (by rw[List.length_map];omega) (by rw[List.length_map];omega) (by rw[hm,show(⟨#[]⟩:VB).data.toList= [] from rfl,EJ];omega)
 rw[hm,show(⟨#[]⟩:VB).data.toList= [] from rfl,EJ,List.length_map,hlen]at hj;exact hj
end
theorem sK(d:Dk)(s:Dsl)(w:VA)(h0:0<d.ss.length)(h1:d.ss.length<=1000):Calls Tryz.prog 110 #[dkV d s] w fun e w'=>e= .returned (.int .i64 (hf d.ss:Nat))/\VE w w':=by
 have HB:Hid (VE w (w.alloc (.cells (dkC d s) 25))):=(ah _ w).alloc aj _;obtain⟨k0,k1,k2,k3⟩:=(Bk.new w 25 (dkC d s)).dk4;have HH:Hid (((d.ss.length:Int) - 1) / 2= (hf d.ss:Nat)):=by show _=_;unfold hf;omega
 obtain⟨n,hn⟩:=NX9 d.ss.length
 rw[hn]at HH h0 h1;simp only[dkV,dkC,hn]at *
 go_enter Tryz.func110,Tryz.ntmps110
 go_wp2
 go_ret
 exact⟨by rw[<-HH.o];rfl,HB.o⟩
theorem oZ(d:Dk)(s:Dsl)(a:Nat)(w:VA)(h0:0<d.ss.length)(h1:d.ss.length<=1000)(ha:a=1∨a=2):Calls Tryz.prog 99 #[dkV d s,.int .i64 a] w fun e w'=>e= .returned (.int .i64 (aG d.ss a:Nat))/\VE w w':=by
 obtain⟨W,hW⟩:=NX9 (w.alloc (.cells (dkC d s) 25))
 have HB:VF w W:=by rw[<-hW];exact(ah _ w).alloc aj _
 obtain⟨k0,k1,k2,k3⟩:W.cell? ⟨w.heap.size,0,none⟩=_/\W.cell? ⟨w.heap.size,1,none⟩=_/\W.cell? ⟨w.heap.size,2,none⟩=_/\W.cell? ⟨w.heap.size,3,none⟩=_:=by rw[<-hW];exact(Bk.new w 25 (dkC d s)).dk4
 have HC:=ai (sK d s W h0 h1);have b:hf d.ss<=500:=by unfold hf;omega
 have HE:Hid (aG d.ss a=1+ (a - 1)*hf d.ss):=rfl;obtain⟨h,hh⟩:=NX9 (hf d.ss)
 rw[hh]at HC b HE;have HW:=ai hW;clear hW hh;simp only[dkV,dkC]at *
 go_enter Tryz.func99,Tryz.ntmps99
 rcases ha with rfl | rfl
 all_goals
  go_wp2_with fail;rw[HW.o];refine HC.o.mono ?_;rintro e w1 ⟨rfl,hb1⟩;have HB1:VF w w1:=HB.o.trans (hb1.mono HB.o.size);clear hb1;go_wp2_with fail;go_ret
  refine⟨?_,HB1.o⟩;rw[HE.o]
  first
   | (congr 2;simp;done)
   | (congr 2;simp;omega)
theorem oW(t:VD)(sz:Nat)(w:VA)(h:t.length<=sz)(h1:sz<=512):Calls Tryz.prog 96 #[.string (ofL t),.int .i64 sz] w fun e w'=>e= .returned (.string (ofL (bK sz t)))/\VE w w':=by
 have hs: ((ofL t).size:Int)= (t.length:Int):=by rw[bU]
 have hsz: ((sz:Int) - (t.length:Int))= ((sz - t.length:Nat):Int):=by omega
 have HR:=ai (BA (sz - t.length) w (by omega));have HF:Hid (ofL t++ofL (List.replicate (sz - t.length) 0)=ofL (bK sz t)):=qo t _;have hl1: (ofL (List.replicate (sz - t.length) 0)).size=sz - t.length:=by rw[bU,List.length_replicate]
 have hl0: (ofL t).size=t.length:=by rw[bU]
 obtain⟨k,hk⟩:=NX9 (sz - t.length)
 obtain⟨q,hq⟩:=NX9 (ofL (List.replicate k 0))
 rw[hk]at HR HF hsz hl1;rw[hq]at HR HF hl1;have hnb:¬(9223372036854775807< (ofL t).size+q.size):=by rw[hl0,hl1];omega
 clear hk hq hl0 hl1
 go_enter Tryz.func96,Tryz.ntmps96
 go_wp2_with fail;refine HR.o.mono ?_;rintro e w1 ⟨rfl,hb1⟩;have HB1:=ai hb1;clear hb1;go_wp2_with fail;go_ret
 exact⟨by rw[<-HF.o];rfl,HB1.o⟩
theorem QM(l:List VD):∀u∈flat aF l,u.oneCell'=true:=fun u hu=>by
 unfold flat at hu;obtain⟨i,_,h⟩:=List.mem_flatMap.1 hu;simp[aF]at h;rw[h];rfl
def zM(us:List VD)(n:Nat)(w:VA)(e:Ending)(w':VA):Prop :=
 ∃A c,e= .returned (.slice A n c)/\Apd w' w.heap.size 9 1 A n c (flat aF us)/\VE w w'/\n<=c/\c<=maxLen
theorem Cf(A:OA)(n c B:Nat)(us:List VD)(w:VA)(h:Sl w B 1 A n (flat aF us))(hB:B<=w.heap.size)(hn:n<=100000) :
  Calls Tryz.prog 119 #[.slice A n c] w (zM us n w):=by
 have H:=ai h;clear h;obtain⟨i0,hi,hz0,hz1',hz2'⟩:=info_parts kD;have Hi:=ai hi;have d:=ai hz0;have f:=ai hz1';have g:=ai hz2';clear hi hz0 hz1' hz2';generalize hRR:zM us n w=RR at *;have HRR:=ai hRR;clear hRR;cases A with
 | none =>
   have h0:n=0:=by
    rcases Nat.eq_zero_or_pos n with h | h
    . exact h
    . obtain⟨b,off,e,_⟩:=H.o.2 h;cases e
   subst h0;have hx:flat aF us= []:=by
    have:=H.o.1;rw[Nat.zero_mul]at this;exact List.length_eq_zero_iff.1 this
   have hnn:∀w:VA,(binOp .eql 22 (.slice none 0 c) (.slice none 0 0)).run Tryz.prog w= .ok (.bool true) w:=fun w=>rq w 22 9 none 0 c Tryz.underlying22
   go_enter Tryz.func119,Tryz.ntmps119
   go_wp2
   rw[<-HRR.o];exact⟨none,0,rfl,.inr ⟨rfl,rfl,hx⟩,ah _ _,Nat.le_refl _,ZX _⟩
 | some a =>
   have hnn:∀w:VA,(binOp .eql 22 (.slice (some a) n c) (.slice none 0 0)).run Tryz.prog w= .ok (.bool false) w:=fun w=>rq w 22 9 (some a) n c Tryz.underlying22
   go_enter Tryz.func119,Tryz.ntmps119
   go_wp2_with (at_builtin;refine aO ?_)
   refine aH ?_;refine eG (base:=w.heap.size) _ rfl (.tmp 5) (.tmp 6) 22 rfl 9 i0 _ 16 Tryz.underlying22 Hi.o d.o f.o g.o rfl (by decide) _ 0 0 [] rfl (.inr ⟨rfl,rfl,rfl⟩) B _ n c (flat aF us) rfl (H.o.alloc hB _) (QM _) (by unfold maxLen;omega) (by omega) (by simp) ?_;intro A2 c2 w2 ha hb hc1 hm1 hok;rw[Nat.zero_add,List.nil_append]at ha;rw[Nat.zero_add]at hc1 ⊢;have HA:=ai ha;have HB:=ai (((ah _ w).alloc aj _).trans hb);have HM:=ai hm1;clear ha hb hok hm1
   go_wp2
   rw[<-HRR.o];exact⟨A2,c2,rfl,HA.o,HB.o,hc1,HM.o⟩
def gY(g:Nat->VD->VD->VD):Nat->List VD->List (Nat×VD)->List VD
 | _,ss,[]=>ss
 | k,ss,w::ws=>gY g (k+1) (ss.set w.1 (g k (ss.getD w.1 []) w.2)) ws
theorem BP:∀(ws:List (Nat×VD))(k:Nat)(ss:List VD),gY (fun _ _ x=>x) k ss ws=settle ss ws
 | [],_,_=>rfl
 | w::ws,k,ss=>BP ws (k+1) (ss.set w.1 w.2)
theorem Du{sz:Nat}(qs:List Int):∀(ws:List (Nat×VD))(k:Nat)(ss:List VD),gY (fun k o x=>x.take (iF sz (qs.getD k 0))++o.drop (iF sz (qs.getD k 0))) k ss ws=dA sz ss ws (qs.drop k)
 | [],_,_=>by rw[gY,dA]
 | w::ws,k,ss=>by
   rw[gY,dA,Du qs ws (k+1)];have h1: (qs.drop k).headD 0=qs.getD k 0:=by rw[List.headD_eq_head?_getD,List.head?_drop,List.getD_eq_getElem?_getD]
   have h2: (qs.drop k).tail=qs.drop (k+1):=by rw[List.tail_drop]
   rw[h1,h2]
theorem vH{w:VA}{base g n cap i:Nat}{e:TypeId}{xs:List VC}(h:w.ownsRow base e 1 (.slice (some ⟨g,0,none⟩) n cap) n xs)(v:VC): (w.setCell ⟨g,i,none⟩ v).ownsRow base e 1 (.slice (some ⟨g,0,none⟩) n cap) n (xs.set i v):=by
 refine⟨by rw[List.length_set];exact h.1,?_⟩;rcases h.2 with ⟨hv,_⟩ | ⟨g',cap',cur,hv,h1,hh,h2,h3,h4,h5⟩
 . cases hv
 . cases hv
   refine .inr ⟨g,cap,cur.setIfInBounds i v,rfl,h1,(Bk.set (show Bk w g e cur from hh) i v),h2,h3,by rw[Array.size_setIfInBounds];exact h4,?_⟩;rw[Array.toList_setIfInBounds,List.take_set,h5]
theorem qB{w:VA}{base g n cap:Nat}{e:TypeId}{xs:List VC}(h:w.ownsRow base e 1 (.slice (some ⟨g,0,none⟩) n cap) n xs):base<=g/\∃cur:Array VC,Bk w g e cur/\∀(i:Nat)(u:VC),xs[i]? =some u->cur[i]? =some u:=by
 rcases h.2 with ⟨hv,_⟩ | ⟨g',cap',cur,hv,h1,hh,h2,h3,h4,h5⟩
 . cases hv
 . cases hv
   refine⟨h1,cur,hh,fun i u hu=>?_⟩;rw[<-h5,List.getElem?_take]at hu;split at hu
   . rw[<-Array.getElem?_toList];exact hu
   . cases hu
theorem AZ(l:List VD)(i:Nat)(x:VD): (flat aF l).set i (.string (ofL x))=flat aF (l.set i x):=by
 have h:∀l:List VD,flat aF l=l.map (fun b=> .string (ofL b)):=fun l=>by
  induction l with
  | nil=>rfl
  | cons a l ih=>unfold flat at ih ⊢;rw[List.flatMap_cons,ih];rfl
 rw[h,h,List.map_set]
theorem Gb.fresh{p q:Nat->Prop}{a b c:VA}(h:Gb p a b)(k:Gb q b c)(hq:∀i,q i->i<a.heap.size->p i):Gb p a c :=
 ⟨k.os.trans h.os,k.tape.trans h.tape,k.output.trans h.output,ZY h.size k.size,fun i hi hn=>(k.block i (Nat.lt_of_lt_of_le hi h.size) (fun e=>hn (hq i e hi))).trans (h.block i hi hn)⟩
theorem Hf{fn:Func}{c:Tmp}(h:fn.results= #[.cell c 25]){w:VA}{a:Array VC}{b:Nat}{x0 x1 x2 x3:VC}(h1:a[c]?.getD undef= .pointer (some ⟨b,0,none⟩))(hk:Bk w b 25 #[x0,x1,x2,x3]) :
  (results fn a).run Tryz.prog w= .ok (.agg #[x0,x1,x2,x3]) w:=by
 obtain⟨c0,c1,c2,c3⟩:=hk.dk4;simp[results,h,h1,go_sem,c0,c1,c2,c3]
structure Apl(f:Nat)(lb:Array VC)(sz:Nat)(g:Nat->VD->VD->VD)(nb B:Nat)(Inv:Nat->VA->Prop):Prop where
 fn: (f=171/\lb= #[])∨∃p q r,f=60/\lb= #[p,q,r]
 nlt:nb<B
 call:∀k old dat W,Inv k W->old.length=sz->dat.length=sz->Calls Tryz.prog f (#[.string (ofL old),.string (ofL dat)]++lb) W fun e w'=>e= .returned (.string (ofL (g k old dat)))/\Inv (k+1) w'/\Gb (fun b=>b=nb) W w'
 len:∀k old dat,old.length=sz->dat.length=sz-> (g k old dat).length=sz
 keep:∀k W W',Inv k W->B<=W.heap.size->Below B W W'->Inv k W'
theorem BC(d:Dk)(s:Dsl)(B:Nat)(f:Nat)(lb:Array VC)(g:Nat->VD->VD->VD)(nb:Nat)(Inv:Nat->VA->Prop)(w:VA)(hd:d.Ok)(hm:DkM w B d s)(hB:B<=w.heap.size)(hp:d.pn.length<=1000000)(hnb:B<=nb)(ha:Apl f lb d.sz g nb w.heap.size Inv)(h0:Inv 0 w) :
  Calls Tryz.prog 59 #[dkV d s,.func (.func f) #[] lb] w fun e w'=>∃s',e= .returned (dkV {d with ss:=gY g 0 d.ss d.pn,pn:= []} s')/\DkM w' w'.heap.size {d with ss:=gY g 0 d.ss d.pn,pn:= []} s'/\Gb (fun b=>b=nb) w w'/\Inv d.pn.length w':=by
 obtain⟨W,hW⟩:=NX9 ((w.alloc (.cells (dkC d s) 25)).alloc (.cells #[.int .i64 0,.slice none 0 0,.slice none 0 0,.int .i64 0] 25))
 have HB0:VF w W:=by rw[<-hW];exact((ah _ w).alloc aj _).alloc (by simp) _
 have HK:Hid (Bk W w.heap.size 25 (dkC d s)):=by rw[<-hW];exact(Bk.new w _ _).alloc _
 have HZ:Hid (Bk W (w.heap.size+1) 25 #[.int .i64 0,.slice none 0 0,.slice none 0 0,.int .i64 0]):=by
  rw[<-hW];have:=Bk.new (w.alloc (.cells (dkC d s) 25)) 25 #[.int .i64 0,.slice none 0 0,.slice none 0 0,.int .i64 0]
  rwa[Z9]at this
 have Q:W.heap.size=w.heap.size+2:=by rw[<-hW];simp
 have HM:Hid (DkM W B d s):=hm.below HB0.o hB;have HC:=ai (Cf s.a1 d.ss.length s.c1 B d.ss W HM.o.ss (by omega) (by have:=hd.n1;omega));have HD:=ai hd;have HW:=ai hW;have HA:=ai ha;have N:=ai hm;have HI:Hid (Inv 0 W):=ha.keep 0 w W h0 aj HB0.o;obtain⟨n,hn⟩:=NX9 d.ss.length
 obtain⟨m,hmm⟩:=NX9 d.pn.length
 have HN:=ai hn;have A:=ai hmm;have O:Hid (∀W',Inv m W'->Inv d.pn.length W'):=fun W' h=>by rw[hmm];exact h
 have h1:=hd.n0;have h2:=hd.n1;simp only[dkV,dkC,hn,hmm]at HC HW HK hp h1 h2 ⊢;unfold zM at HC;clear hd hm hW ha h0 hn hmm;obtain⟨k0,k1,k2,k3⟩:=HK.o.dk4
 go_enter Tryz.func59,Tryz.ntmps59
 go_wp2_with fail;rw[HW.o];refine HC.o.mono ?_;rintro e w1 ⟨A1,c1,rfl,ha1,hb1,hc1,hm1⟩;have HB1:VF W w1:=hb1;have HI1:Hid (Inv 0 w1):=HA.o.keep 0 W w1 HI.o (by omega) (hb1.mono (by omega));obtain⟨gb,rfl⟩:∃gb,A1=some ⟨gb,0,none⟩:=by
  rcases ha1 with h | ⟨h,_⟩
  . rcases h.2 with ⟨_,h⟩ | ⟨g,cap,cur,hv,_⟩
    . omega
    . cases hv;exact⟨g,rfl⟩
  . omega
 have H:Hid (w1.ownsRow W.heap.size 9 1 (.slice (some ⟨gb,0,none⟩) n c1) n (flat aF d.ss)):=by
  rcases ha1 with h | ⟨h,_⟩
  . exact h
  . omega
 have C:=ai (HK.o.below hb1 (by omega));obtain⟨k0,k1,k2,k3⟩:=C.o.dk4;clear ha1 hb1 HC;go_wp2_with fail
 go_loopw[14] (fun i wr=>∃(k:Nat)(L:List VD),k<=m/\i= .int .i64 k/\L.length=n/\Hid (∀x∈L,x.length=d.sz)/\Hid (gY g 0 d.ss d.pn=gY g k L (d.pn.drop k))/\Hid (Inv k wr)/\Hid (wr.ownsRow W.heap.size 9 1 (.slice (some ⟨gb,0,none⟩) n c1) n (flat aF L))/\Hid (Gb (fun b=>b=nb∨b=gb) w1 wr)) (fun i _=>m - (intOf i).toNat)
 case atStart=>exact⟨0,d.ss,ZX _,rfl,HN.o,HD.o.len,rfl,HI1.o,H.o,Gb.refl _ _⟩
 case round =>
  obtain⟨k,L,hk,rfl,hLn,D,hrun,hI,hO,hG⟩:=hrel;have hgb:=(qB hO.o).1;have zr:w1.heap.size<=wr.heap.size:=hG.o.size;have z1:=HB1.o.size;have hnb:=HA.o.nlt;by_cases hlt:k<m
  . obtain⟨b,off,⟨xi,xd⟩,hA2,hb,hx,hc⟩:=(HM.o.pn.keep (fun p hp=>World.cell?_of_block ((hG.o.block p.block (by omega) (by omega)).trans (HB1.o.block p.block (by omega))))).at_ uq (by omega) (by rw[A.o];exact hlt)
    have x0:=hc 0 _ rfl;have x1:=hc 1 _ rfl;simp only[Nat.add_zero]at x0;obtain⟨g1,g2⟩:=HD.o.pn _ (Z7 hx);simp only at g1 g2;rw[HN.o]at g1;obtain⟨old,hold⟩:∃old,L[xi]? =some old:=⟨_,Z5 (by omega)⟩
    have hog:L.getD xi []=old:=by rw[List.getD_eq_getElem?_getD,hold];rfl
    have hol:=D.o old (Z7 hold);obtain⟨M,cur,l,E⟩:=qB hO.o;have hcx:cur[xi]? =some (.string (ofL old)):=E xi _ (by have:=iJ (enc:=aF) dJ L xi 0 old hold (by omega);simpa [aF] using this);have hrun2:Hid (gY g 0 d.ss d.pn=gY g (k+1) (L.set xi (g k old xd)) (d.pn.drop (k+1))):=by
     show _=_;have hl:=List.getElem?_eq_some_iff.1 hx;rw[hrun.o,List.drop_eq_getElem_cons hl.1,hl.2,gY,hog]
    obtain⟨wa,o⟩:=NX9 (wr.alloc (.cells #[.int .i64 xi,.string (ofL xd)] 175))
    have za:wa.heap.size=wr.heap.size+1:=by rw[<-o];simp
    have HAB:VF wr wa:=by rw[<-o];exact(ah _ wr).alloc aj _
    have HX:Hid (Bk wa wr.heap.size 175 #[.int .i64 xi,.string (ofL xd)]):=by rw[<-o];exact Bk.new wr _ _
    have v:Hid (Bk wa gb 9 cur):=l.below HAB.o l.lt;have F:Hid (Inv k wa.drew):=HA.o.keep k wr wa.drew hI.o (by omega) (HAB.o.mono (by omega)).drew;have I:Hid (wa.ownsRow W.heap.size 9 1 (.slice (some ⟨gb,0,none⟩) n c1) n (flat aF L)):=by rw[<-o];exact hO.o.alloc _
    have c0:wa.cell? ⟨gb,xi,none⟩=some (.string (ofL old)):=by rw[v.o.cell];exact hcx
    have c9:=v.o.free xi;have y0:=HX.o.cell 0;have y1:=HX.o.cell 1;simp at y0 y1;have hxi: (xi:Int)< (n:Int):=by omega
    have J:=ai o;have hgl:=l.lt;have G:Hid (∀W':VA,Gb (fun b=>b=nb) wa.drew W'-> (W'.cell? ⟨wr.heap.size,0,none⟩=some (.int .i64 xi)/\W'.cell? ⟨wr.heap.size,1,none⟩=some (.string (ofL xd))/\W'.cell? ⟨gb,xi,none⟩=some (.string (ofL old)))/\W'.frozen? ⟨gb,xi,none⟩=false):=fun W' h =>
     have e1:=h.block wr.heap.size (by show _<wa.heap.size;omega) (by omega);have e2:=h.block gb (by show _<wa.heap.size;omega) (by omega)
     ⟨⟨(World.cell?_of_block e1).trans y0,(World.cell?_of_block e1).trans y1,(World.cell?_of_block e2).trans c0⟩,(show Bk W' gb 9 cur from e2.trans v.o).free xi⟩
    have y:=ai (fun W hi=>HA.o.call k old xd W hi hol g2);rw[hA2]at k2 ⊢;clear hc hx o hrun l E hcx hold hog hI hO;rcases HA.o.fn with ⟨rfl,rfl⟩ | ⟨p,q,r,rfl,rfl⟩
    all_goals
     simp only[List.append_toArray,Array.append_empty,List.cons_append,List.nil_append]at y;go_wp2_with fail;rw[J.o]
     go_region_law (first | (go_simp;go_at_call 171;refine(y.o _ F.o).mono ?_;rintro e w4 ⟨rfl,t,hG4⟩;have c:=ai hG4;have HI4:=ai t;obtain⟨⟨u0,u1,u2⟩,u3⟩:=G.o _ hG4;clear t hG4) | (go_simp;go_at_call 60;refine(y.o _ F.o).mono ?_;rintro e w4 ⟨rfl,t,hG4⟩;have c:=ai hG4;have HI4:=ai t;obtain⟨⟨u0,u1,u2⟩,u3⟩:=G.o _ hG4;clear t hG4))
     all_goals
      go_wp2_with fail;go_roundw
      case rel =>
       refine⟨k+1,L.set xi (g k old xd),by omega,by go_num,by rw[List.length_set];exact hLn,fun x hx=>?_,hrun2.o,HA.o.keep (k+1) w4 _ HI4.o (by have:=c.o.size;have e:wa.drew.heap.size=wa.heap.size:=rfl;omega) ((ah _ w4).setCell (p:=⟨gb,xi,none⟩) (by show w.heap.size<=gb;omega) _),?_,?_⟩
       . rcases List.mem_or_eq_of_mem_set hx with hx | rfl
         . exact D.o x hx
         . exact HA.o.len k old xd hol g2
       . rw[<-AZ]
         exact vH (I.o.drew.kept (row:=some nb) ⟨c.o.os,c.o.tape,c.o.output,c.o.size,fun j hj hn=>c.o.block j hj (fun e=>hn (by rw[e]))⟩ (.inr (fun e=>absurd (Option.some.inj e) (by show gb≠nb;omega)))) _
       . exact(hG.o.trans ((Gb.of_below (HAB.o.drew)).trans (c.o.mono (fun _ _ e=> .inl e)))).trans (Gb.set (.inr rfl) xi _)
      case measure=>simp[intOf];omega
  . have hend:Hid (gY g 0 d.ss d.pn=L):=by
      show _=_;rw[hrun.o,List.drop_of_length_le (by rw[A.o];omega),gY]
    have P:Hid (Gb (fun b=>b=nb∨b=gb) w1 wr):=hG.o;have z:Hid (Bk wr w.heap.size 25 #[.int .i64 d.sz,.slice s.a1 n s.c1,.slice s.a2 m s.c2,.int .i64 d.lf]):=hG.o.bk C.o (by omega);have HZ2:Hid (Bk wr (w.heap.size+1) 25 #[.int .i64 0,.slice none 0 0,.slice none 0 0,.int .i64 0]):=hG.o.bk (HZ.o.below HB1.o (by omega)) (by omega);obtain⟨k0,k1,k2,k3⟩:=z.o.dk4;obtain⟨z0,z1,z2,z3⟩:=HZ2.o.dk4;obtain⟨f0,f1,f2,f3⟩:=fr4 HZ2.o;have e1:=z.o.free 1;have e2:=z.o.free 2;have K:Hid (Gb (fun b=>b=nb) w wr):=((Gb.of_below HB0.o).trans (Gb.of_below (HB1.o.mono (by omega)))).fresh hG.o (fun i hi hlt=>by rcases hi with h | h;exact h;omega);have u:Hid ((gY g 0 d.ss d.pn).length=n):=by show _=_;rw[hend.o];exact hLn
    clear hG;go_wp2_with fail;have HE:=ai (((HZ2.o.far (p:=⟨w.heap.size,1,none⟩) (by show w.heap.size+1≠w.heap.size;omega) (.slice (some ⟨gb,0,none⟩) n c1)).far (p:=⟨w.heap.size,2,none⟩) (by show w.heap.size+1≠w.heap.size;omega) (.slice none 0 0)).set4 (.int .i64 d.sz) (.slice (some ⟨gb,0,none⟩) n c1) (.slice none 0 0) (.int .i64 d.lf));refine ZW (Hf Tryz.results59 rfl HE.o) rfl ?_;refine⟨⟨some ⟨gb,0,none⟩,c1,none,0⟩,by rw[u.o],⟨?_,Sl.nil _ _ _ _⟩,?_⟩
    . show Sl _ _ 1 (some ⟨gb,0,none⟩) (gY g 0 d.ss d.pn).length (flat aF (gY g 0 d.ss d.pn))
      rw[u.o,hend.o];have b0:w.heap.size<W.heap.size:=by omega
      have b1:w.heap.size+1<W.heap.size:=by omega
      exact Sl.of_own (ownsRow_setCell_below (ownsRow_setCell_below (ownsRow_setCell_below (ownsRow_setCell_below (ownsRow_setCell_below (ownsRow_setCell_below hO.o (a:=⟨w.heap.size,1,none⟩) b0 _) (a:=⟨w.heap.size,2,none⟩) b0 _) (a:=⟨w.heap.size+1,0,none⟩) b1 _) (a:=⟨w.heap.size+1,1,none⟩) b1 _) (a:=⟨w.heap.size+1,2,none⟩) b1 _) (a:=⟨w.heap.size+1,3,none⟩) b1 _)
    . have l0:w.heap.size<=w.heap.size:=Nat.le_refl _
      obtain rfl:k=m:=by omega
      have l1:w.heap.size<=w.heap.size+1:=by omega
      exact⟨(((((K.o.after l0 1 _).after l0 2 _).after l1 0 _).after l1 1 _).after l1 2 _).after l1 3 _,HA.o.keep k wr _ hI.o (by omega) ((((((((ah w.heap.size wr).setCell (p:=⟨w.heap.size,1,none⟩) l0 _).setCell (p:=⟨w.heap.size,2,none⟩) l0 _).setCell (p:=⟨w.heap.size+1,0,none⟩) l1 _).setCell (p:=⟨w.heap.size+1,1,none⟩) l1 _).setCell (p:=⟨w.heap.size+1,2,none⟩) l1 _).setCell (p:=⟨w.heap.size+1,3,none⟩) l1 _))⟩
