/-Lemmas.-/
import Derived.Test.YtknefelegjlgnaaGreatDoorCCCm18
set_option maxRecDepth 100000
set_option maxHeartbeats 16000000
namespace Go.Proofs.YtknefelegjlgnaaGreatDoor
open Go.RowKit
section
attribute [local go_sem] Oper.semAt_some
def Ja(us:List Upd)(n:Nat)(w:VA)(e:Ending)(w':VA):Prop:=∃A m c,e= .returned (.tuple #[.int .i64 n,.slice A m c,.int .i64 0])/\Apd w' w.heap.size 85 5 A m c (flat upC us)/\m=us.length/\m<=c/\c<=maxLen/\VE w w'
theorem QA(g:Gru)(hg:GOk g)(hs: (headB g.1 g.2.length).length<=65536)(w:VA):Calls Tryz.prog 80 #[.string (ofL (headB g.1 g.2.length))] w (Ja g.1 g.2.length w):=by
 obtain⟨us,os⟩:=g;have HX:=ai (Ld (ak os.length) (encR us).1);obtain⟨s,hse⟩:=NX9 (ofL (headB us os.length))
 have e0:ofL (ak os.length++ (encR us).1)=s:=hse;rw[e0]at HX;have hsz:s.size= (headB us os.length).length:=by rw[<-hse,bU]
 have hlen: (headB us os.length).length= (ak os.length).length+ (encR us).1.length:=af ..;have HG:=ai (mX s w);rw[show aA (toL s)= (os.length,(ak os.length).length,0) by rw[<-hse,dE];exact hg.num]at HG;have HD:=ai (Ku (ofL (encR us).1) w (by rw[bU];simp only at hs;omega));rw[dE,show eQ (encR us).1= (us,0) from hg.dec]at HD;simp only at hs ⊢;rw[hse];obtain⟨k,hk⟩:=NX9 ((ak os.length).length)
 have hn:os.length<=1099511627776:=hg.os;rw[hk]at HX HG hlen;obtain⟨n,hne⟩:=NX9 os.length
 rw[hne]at HG hn ⊢;have hki: (k:Int)<= (s.size:Int):=by omega
 have hsm: (s.size:Int)<=1000000:=by omega
 rw[<-HX.o]at HD;clear hg hs hse e0 hsz hlen hk hne HX
 go_enter Tryz.func80,Tryz.ntmps80
 go_wp2_with fail;refine HG.o.mono ?_;rintro e w' ⟨rfl,rfl⟩;go_wp2_with fail;refine HD.o.mono ?_;rintro e w1 ⟨A,m,c,rfl,hs,hmc,hcm,hb⟩;have HS:=ai hs;have HB:=ai hb;clear hs hb HD HG
 go_wp2
 go_ret3
 exact⟨A,m,c,rfl,HS.o,HS.o.sl.len gz (by omega) |>.symm,hmc,hcm,HB.o⟩
abbrev Gx:=(OA×Nat×Nat)× (OA×Nat×Nat)×Gru
def gxV(x:Gx):Array VC:=#[.agg #[.slice x.1.1 x.1.2.1 x.1.2.2,.slice x.2.1.1 x.2.1.2.1 x.2.1.2.2,.bool false]]
def gxG(xs:List Gx):List Gru:=xs.map (·.2.2)
theorem ni(xs:List Gx)(x:Gx):gxG (xs++ [x])=gxG xs++ [x.2.2]:=by simp[gxG]
structure GxM(W:VA)(x:Gx):Prop where
 u:Apd W 0 85 5 x.1.1 x.1.2.1 x.1.2.2 (flat upC x.2.2.1)
 o:Sl W W.heap.size 1 x.2.1.1 x.2.1.2.1 (flat aF x.2.2.2)
 ul:x.1.2.1=x.2.2.1.length
 ol:x.2.1.2.1=x.2.2.2.length
def GxP(gs:List Gru)(W:VA)(xs:List Gx):Prop:=∀pre x,xs=pre++ [x]-> (∃rest,gxG xs++rest=gs)/\GxM W x
def KeepG(B b:Nat)(A C:VA):Prop:=(∀k,k<B->C.heap[k]? =A.heap[k]?)/\C.heap[b]? =A.heap[b]?
theorem KeepG.trans{B b:Nat}{X Y Z:VA}(h:KeepG B b X Y)(k:KeepG B b Y Z):KeepG B b X Z:=⟨fun i hi=>(k.1 i hi).trans (h.1 i hi),k.2.trans h.2⟩
theorem Sl.low{w w':VA}{B size n:Nat}{A:OA}{xs:List VC}(h:Sl w B size A n xs)(hk:∀k,k<B->w'.heap[k]? =w.heap[k]?):Sl w' B size A n xs:=h.keep fun p hp=>World.cell?_of_block (hk p.block hp)
theorem xk(g:Gru)(gs:List Gru):recs (g::gs)=headB g.1 g.2.length:: (g.2++recs gs):=by simp[recs,aN]
theorem vO(a b:List Gru):recs (a++b)=recs a++recs b:=by simp[recs]
theorem LV(n bs B1 hz:Nat)(hn:1<=n)(A:OA)(m c:Nat)(gs:List Gru)(w:VA)(hbs:Bk w bs 22 #[.slice A m c])(hs:Sl w B1 1 A m (flat aF (recs gs)))(hB1:B1<=bs)(hmc:m<=c)(hm:m<=1000000)(hg:∀g∈gs,GOk g)(hsz:∀t∈recs gs,t.length<=65536) :
  uU Fence.wide n Tryz.prog 79 #[.pointer (some ⟨bs,0,none⟩)] gxV (KeepG B1 bs) (fun A B=>VE A B) (GxP gs) (fun xs=>gxG xs=gs) (fun _=>True) hz w:=fun l J Jx W hW hWz hJ hY hJ0=>by
 have G0:Hid (Bk W bs 22 #[.slice A m c]):=(hW.block bs hbs.lt).trans hbs;have G1:Hid (Sl W B1 1 A m (flat aF (recs gs))):=hs.below hW (by have:=hbs.lt;omega);have h:=ai (hs.len dJ (by omega));have HG:=ai hg;have F:=ai hsz;have S:=ai hY;have G:=ai hJ0;have HJ:=ai hJ;obtain⟨i0,hi,hz0,hz1,hz2⟩:=info_parts kD;have Hi:=ai hi;have H:=ai hz1;clear hW hbs hs hWz hJ hY hJ0 hg hsz hi hz0 hz1 hz2;refine callsIn_of_wp Tryz.func79 rfl trivial ?_ rfl;simp only[Tryz.ntmps79,List.size_toArray,Z4,List.length_nil,Nat.reduceAdd,Nat.reduceSub,Array.replicate_succ,Array.replicate_zero,List.push_toArray,List.append_toArray,List.nil_append,List.cons_append]
 gi_wp2_with fail
 gi_loopw [3] (fun q wr=>∃(a:Nat)(pre:List Gx)(rest:List Gru),q= .int .i64 (a:Int)/\a<=m/\Hid (gxG pre++rest=gs)/\Hid (a= (recs (gxG pre)).length)/\Hid (Bk wr bs 22 #[.slice A m c])/\Hid (Sl wr B1 1 A m (flat aF (recs gs)))/\Hid (J pre wr)) (fun q _=>m+1 - (intOf q).toNat)
 case atStart=>exact⟨0,[],gs,rfl,ZX _,rfl,rfl,G0.o,G1.o,G.o⟩
 case round =>
  obtain⟨a,pre,rest,rfl,ham,hgs,ha,hBs,hSl,hj⟩:=hrel;have b:=ai hgs.o;have HA:=ai ha.o;have I:=ai hBs.o;have j:=ai hSl.o;have o:=ai hj.o;have hbl:=hBs.o.lt;have c0:=hBs.o.cell 0;simp at c0;clear hgs ha hBs hSl hj;by_cases hlt:a<m
  . obtain⟨g,rest,rfl⟩:∃g r,rest=g::r:=by
      cases rest with
      | nil =>
        have:=b.o;rw[List.append_nil]at this;have h1:=HA.o;have h2:=h.o;rw[this]at h1;omega
      | cons g r=>exact⟨g,r,rfl⟩
    have i:Hid (recs gs=recs (gxG pre)++ (headB g.1 g.2.length:: (g.2++recs rest))):=by show _=_;rw[<-b.o,vO,xk]
    have hgm:g∈gs:=by rw[<-b.o];simp
    have hla:a+1+g.2.length+ (recs rest).length=m:=by
     have h1:=HA.o;have h2:=h.o;rw[i.o]at h2;simp only[af,Z4]at h2;omega
    have hget: (recs gs)[a]? =some (headB g.1 g.2.length):=by rw[i.o,HA.o,List.getElem?_append_right aj,Nat.sub_self];rfl
    have HH:=ai (fun w'=>QA g (HG.o g hgm) (F.o _ (Z7 hget)) w');unfold Ja at HH;obtain⟨bb,off,x,rfl,hbb,hx,hc⟩:=j.o.at_ dJ (by omega) hlt;have x0:=hc 0 _ rfl;rw[hget]at hx;obtain rfl:=(Option.some.inj hx).symm;simp only[Nat.mul_one,Nat.add_zero]at x0;obtain⟨hs,s⟩:=NX9 (ofL (headB g.1 g.2.length))
    rw[s]at x0 HH;have hlz: (a:Int)< (m:Int):=by omega
    have HDR:Hid (((recs gs).drop (a+1)).take g.2.length=g.2):=by
     show _=_;rw[i.o,HA.o,<-List.singleton_append,<-ZZ,List.drop_left' (by simp),List.take_left]
    have u:Hid (gxG pre++ [g]++rest=gs):=by show _=_;rw[<-b.o];simp
    have v:Hid (a+1+g.2.length= (recs (gxG pre++ [g])).length):=by
     show _=_;rw[vO,af,xk,<-HA.o];simp[recs];omega
    obtain⟨k,hk⟩:=NX9 g.2.length
    have HK:=ai hk;rw[hk]at HH hla HDR v;obtain⟨E,y,hsk⟩:=Bd (P:=Tryz.prog) 22 i0 Tryz.underlying22 Hi.o H.o (some ⟨bb,off,none⟩) m c (a+1) k (by omega);have K:=ai hsk;clear hgm hget hx hc s hk hsk
    gi_wp2_with fail
    refine⟨trivial,(callsIn_wide.2 (HH.o _)).mono ?_⟩;rintro e w1 ⟨A1,m1,c1,rfl,hs1,hm1,hmc1,hcm1,hb1⟩;have L:Hid (J pre w1):=HJ.o pre wr w1 o.o hb1;have d:=ai (I.o.below hb1 hbl);have f:=ai (j.o.below hb1 (by omega));have M:=ai hs1;have N:=ai hm1;have c0:=d.o.cell 0;simp at c0;have Q: (Instr.sliceAt 22 (.slice (some ⟨bb,off,none⟩) m c) (some (.int .i64 ((a:Int)+1))) (some (.int .i64 ((a:Int)+1+ (k:Int)))) none).run Tryz.prog w1= .ok (.slice E k (c - (a+1))) w1:=y w1;have R:=d.o.lt;have z:Hid (Sl w1 w1.heap.size 1 E k (flat aF g.2)):=by
     have:=K.o w1 w1.heap.size _ (by omega) (f.o.more (by omega)) (by omega);rw[D7,HDR.o]at this;exact this
    clear hs1 hm1 hb1 HH x0 y;have T: (a:Int)+1+ (k:Int)<= (m:Int):=by omega
    have hki:¬((m:Int) - ((a:Int)+1)< (k:Int)):=by omega
    have hmm: (m:Int)<=1000000:=by omega
    obtain⟨fn,tmps,assign,body,hy,hR'⟩:=S.o pre ((A1,m1,c1),(E,k,c - (a+1)),g) w1 (fun p x he=>by
     have e:=congrArg List.getLast? he;simp at e;subst e;exact⟨⟨rest,by rw[ni];exact u.o⟩,M.o.low (ZX _),z.o,N.o,HK.o.symm⟩) L.o
    simp only[gxV]at hy hR';have HR':=ai hR';clear hR'
    gi_wp2
    refine HR'.o.mono ?_;rintro e' W3 (⟨rfl,hJ3,hK3⟩ | ⟨rfl,hJx3⟩)
    . have C:Hid (Bk W3 bs 22 #[.slice (some ⟨bb,off,none⟩) m c]):=hK3.2.trans d.o
      have D:=ai (f.o.low hK3.1);have O:=ai hJ3;clear hJ3 hK3
      gi_wp2
      go_roundw
      case rel=>exact⟨a+1+k,pre++ [((A1,m1,c1),(E,k,c - (a+1)),g)],rest,by go_num,by omega,by show _=_;rw[ni];exact u.o,by show _=_;rw[ni];exact v.o,C.o,D.o,O.o⟩
      case measure=>simp[intOf];omega
    . gi_wp2
      refine ZW (results_none rfl _ _ _) rfl ?_;exact⟨⟨_,rfl⟩,.inr ⟨_,trivial,hJx3⟩⟩
  . have hlz:¬(a:Int)< (m:Int):=by omega
    have HE:Hid (gxG pre=gs):=by
     show _=_;have h1:=HA.o;have h2:=h.o;have h3:=b.o;cases rest with
     | nil=>rw[<-h3,List.append_nil]
     | cons g r =>
       rw[<-h3,vO,xk]at h2;simp only[af,Z4]at h2;omega
    gi_wp2
    go_end0
    exact⟨⟨_,rfl⟩,.inl ⟨pre,HE.o,o.o⟩⟩
theorem Nv(A:OA)(n c:Nat)(w:VA):Calls Tryz.prog 37 #[.slice A n c] w fun e w'=>e= .returned (.func (.func 79) #[] #[.pointer (some ⟨w.heap.size,0,none⟩)])/\w'=w.alloc (.cells #[.slice A n c] 22):=by
 go_enter Tryz.func37,Tryz.ntmps37
 go_wp2
 go_ret
 exact⟨rfl,rfl⟩
end
end Go.Proofs.YtknefelegjlgnaaGreatDoor
namespace Go.Proofs
open Go.Shelf
def Tryz.pdqIt_ren:Go.Shelf.Ren:=⟨fun | 14=>232 | 20=>281 | 21=>282 | 22=>283 | 23=>284 | 24=>285 | 25=>286 | 26=>287 | 27=>288 | 46=>316 | 47=>254 | 48=>255 | 49=>317 | 50=>318 | 15=>115 | 57=>336 | 28=>191 | 29=>192 | n=>n,fun | 24=>118 | 22=>28 | 3=>3 | 25=>237 | 4=>4 | 0=>0 | 46=>261 | 45=>260 | 50=>181 | 66=>328 | 39=>188 | 55=>48 | 70=>332 | 76=>361 | 77=>362 | 53=>267 | 5=>5 | 9=>9 | n=>n,fun | n=>n⟩
theorem Tryz.pdqIt:Go.Proofs.SlLaysF0.n14 Tryz.prog Tryz.pdqIt_ren:={
 mixed:=by kernel_rfl
 f14:=⟨Tryz.f232.name,by decide,Tryz.func232.trans (congrArg some (by kernel_rfl))⟩
 f15:=Tryz.func115.trans (congrArg some (by kernel_rfl))
 f20:=⟨Tryz.f281.name,by decide,Tryz.func281.trans (congrArg some (by kernel_rfl))⟩
 f21:=⟨Tryz.f282.name,by decide,Tryz.func282.trans (congrArg some (by kernel_rfl))⟩
 f22:=⟨Tryz.f283.name,by decide,Tryz.func283.trans (congrArg some (by kernel_rfl))⟩
 f23:=⟨Tryz.f284.name,by decide,Tryz.func284.trans (congrArg some (by kernel_rfl))⟩
 f24:=⟨Tryz.f285.name,by decide,Tryz.func285.trans (congrArg some (by kernel_rfl))⟩
 f25:=⟨Tryz.f286.name,by decide,Tryz.func286.trans (congrArg some (by kernel_rfl))⟩
 f26:=⟨Tryz.f287.name,by decide,Tryz.func287.trans (congrArg some (by kernel_rfl))⟩
 f27:=⟨Tryz.f288.name,by decide,Tryz.func288.trans (congrArg some (by kernel_rfl))⟩
 f28:=Tryz.func191.trans (congrArg some (by kernel_rfl))
 f29:=Tryz.func192.trans (congrArg some (by kernel_rfl))
 f46:=⟨Tryz.f316.name,by decide,Tryz.func316.trans (congrArg some (by kernel_rfl))⟩
 f47:=Tryz.func254.trans (congrArg some (by kernel_rfl))
 f48:=Tryz.func255.trans (congrArg some (by kernel_rfl))
 f49:=⟨Tryz.f317.name,by decide,Tryz.func317.trans (congrArg some (by kernel_rfl))⟩
 f50:=⟨Tryz.f318.name,by decide,Tryz.func318.trans (congrArg some (by kernel_rfl))⟩
 f57:=⟨Tryz.f336.name,by decide,Tryz.func336.trans (congrArg some (by kernel_rfl))⟩
 t0:=Tryz.underlying0
 a0:=Tryz.isAgg0
 z0:=Tryz.sizeOf0
 v0:=Tryz.zeroValue0
 t3:=Tryz.underlying3
 a3:=Tryz.isAgg3
 z3:=Tryz.sizeOf3
 v3:=Tryz.zeroValue3
 t4:=Tryz.underlying4
 a4:=Tryz.isAgg4
 z4:=Tryz.sizeOf4
 v4:=Tryz.zeroValue4
 t5:=Tryz.underlying5
 a5:=Tryz.isAgg5
 z5:=Tryz.sizeOf5
 v5:=Tryz.zeroValue5
 t9:=Tryz.underlying9
 a9:=Tryz.isAgg9
 z9:=Tryz.sizeOf9
 v9:=Tryz.zeroValue9
 t22:=Tryz.underlying28
 a22:=Tryz.isAgg28
 z22:=Tryz.sizeOf28
 v22:=Tryz.zeroValue28
 t25:=Tryz.underlying237
 a25:=Tryz.isAgg237
 z25:=Tryz.sizeOf237
 v25:=Tryz.zeroValue237
 t39:=Tryz.underlying188
 a39:=Tryz.isAgg188
 z39:=Tryz.sizeOf188
 v39:=Tryz.zeroValue188
 t45:=Tryz.underlying260
 a45:=Tryz.isAgg260
 z45:=Tryz.sizeOf260
 v45:=Tryz.zeroValue260
 t46:=Tryz.underlying261
 a46:=Tryz.isAgg261
 z46:=Tryz.sizeOf261
 v46:=Tryz.zeroValue261
 t50:=Tryz.underlying181
 a50:=Tryz.isAgg181
 z50:=Tryz.sizeOf181
 v50:=Tryz.zeroValue181
 t53:=Tryz.underlying267
 a53:=Tryz.isAgg267
 z53:=Tryz.sizeOf267
 v53:=Tryz.zeroValue267
 t55:=Tryz.underlying48
 a55:=Tryz.isAgg48
 z55:=Tryz.sizeOf48
 v55:=Tryz.zeroValue48
 t66:=Tryz.underlying328
 a66:=Tryz.isAgg328
 z66:=Tryz.sizeOf328
 v66:=Tryz.zeroValue328
 t70:=Tryz.underlying332
 a70:=Tryz.isAgg332
 z70:=Tryz.sizeOf332
 v70:=Tryz.zeroValue332
 t76:=Tryz.underlying361
 a76:=Tryz.isAgg361
 z76:=Tryz.sizeOf361
 v76:=Tryz.zeroValue361
 t77:=Tryz.underlying362
 a77:=Tryz.isAgg362
 z77:=Tryz.sizeOf362
 v77:=Tryz.zeroValue362}
def Tryz.lenU_ren:Go.Shelf.Ren:=⟨fun | 15=>115 | 28=>191 | 29=>192 | n=>n,fun | 39=>188 | 3=>3 | 53=>267 | 55=>48 | 4=>4 | 5=>5 | 9=>9 | n=>n,fun | n=>n⟩
theorem Tryz.lenU:Go.Proofs.SlLaysF0.n15 Tryz.prog Tryz.lenU_ren:={
 mixed:=by kernel_rfl
 f15:=Tryz.func115.trans (congrArg some (by kernel_rfl))
 f28:=Tryz.func191.trans (congrArg some (by kernel_rfl))
 f29:=Tryz.func192.trans (congrArg some (by kernel_rfl))
 t3:=Tryz.underlying3
 a3:=Tryz.isAgg3
 z3:=Tryz.sizeOf3
 v3:=Tryz.zeroValue3
 t4:=Tryz.underlying4
 a4:=Tryz.isAgg4
 z4:=Tryz.sizeOf4
 v4:=Tryz.zeroValue4
 t5:=Tryz.underlying5
 a5:=Tryz.isAgg5
 z5:=Tryz.sizeOf5
 v5:=Tryz.zeroValue5
 t9:=Tryz.underlying9
 a9:=Tryz.isAgg9
 z9:=Tryz.sizeOf9
 v9:=Tryz.zeroValue9
 t39:=Tryz.underlying188
 a39:=Tryz.isAgg188
 z39:=Tryz.sizeOf188
 v39:=Tryz.zeroValue188
 t53:=Tryz.underlying267
 a53:=Tryz.isAgg267
 z53:=Tryz.sizeOf267
 v53:=Tryz.zeroValue267
 t55:=Tryz.underlying48
 a55:=Tryz.isAgg48
 z55:=Tryz.sizeOf48
 v55:=Tryz.zeroValue48}
end Go.Proofs
namespace Go.Proofs.YtknefelegjlgnaaGreatDoor
open Go.RowKit
section
open Go.RowKit Go.Shelf Go.Sort Go.Lib
attribute [local go_sem] Oper.semAt_some
theorem QP(b0 b1:Nat)(a1 a2 x1 x2:Int)(w:VA)(h0:w.cell? ⟨b0,0,none⟩=some (.int .u64 a1))(h1:w.cell? ⟨b0,1,none⟩=some (.int .u64 a2))(h2:w.cell? ⟨b1,0,none⟩=some (.int .u64 x1))(h3:w.cell? ⟨b1,1,none⟩=some (.int .u64 x2)) :
  Calls Tryz.prog 151 #[.slice (some ⟨b0,0,none⟩) 2 2,.slice (some ⟨b1,0,none⟩) 2 2] w fun e w'=>e= .returned (.int .i64 (dH (a1,a2) (x1,x2)))/\w=w':=by
 have a:=ai (fun w=>sW a1 x1 w);have HC2:=ai (fun w=>sW a2 x2 w);have HE:Hid (dH (a1,a2) (x1,x2)=if dX a1 x1=0 then dX a2 x2 else dX a1 x1):=by
  show _=_;by_cases h: ((a1,a2):Dig)= (x1,x2)
  . rw[(sF _ _).2 h]
    cases h
    simp[dX]
  . rw[FZ _ _ h]
    simp only[orI];split
    . split <;> simp_all
    . rfl
 obtain⟨z,hz⟩:=NX9 (dH (a1,a2) (x1,x2))
 rw[hz]at HE ⊢;obtain⟨u,hu⟩:=NX9 (dX a1 x1)
 obtain⟨v,hv⟩:=NX9 (dX a2 x2)
 rw[hu]at a HE;rw[hv]at HC2 HE;clear hz hu hv
 go_enter Tryz.func151,Tryz.ntmps151
 go_wp2_with fail
 go_loopw[11] (fun i wr=>∃k:Nat,k<=2/\i= .int .i64 k/\w=wr/\Hid (0<k->u=0)/\Hid (1<k->v=0)) (fun i _=>3 - (intOf i).toNat)
 case atStart=>exact⟨0,by omega,rfl,rfl,fun h=>by omega,fun h=>by omega⟩
 case round =>
  obtain⟨k,hk,rfl,rfl,H1,H2⟩:=hrel
  match k,hk with
  | 0,_ =>
    go_wp2_with fail;refine(a.o _).mono ?_;rintro e w1 ⟨rfl,rfl⟩;by_cases hu:u=0
    . have hu0: (u != 0)=false:=by simp[hu]
      have HU:=ai hu;clear hu;go_wp2_with fail;go_roundw
      case rel=>exact⟨1,by omega,rfl,trivial,fun _=>HU.o,fun h=>by omega⟩
      case measure=>simp[intOf]
    . have hu0: (u != 0)=true:=by simp[hu]
      have HZ:Hid (z=u):=by show _=_;rw[HE.o,if_neg hu]
      clear hu;go_wp2_with fail;go_ret
      exact⟨by rw[HZ.o];rfl,rfl⟩
  | 1,_ =>
    have HU:=H1.o (by omega);have b:=ai HU;clear HU;go_wp2_with fail;refine(HC2.o _).mono ?_;rintro e w1 ⟨rfl,rfl⟩;by_cases hu:v=0
    . have hu0: (v != 0)=false:=by simp[hu]
      have HV:=ai hu;clear hu;go_wp2_with fail;go_roundw
      case rel=>exact⟨2,by omega,rfl,trivial,fun _=>b.o,fun _=>HV.o⟩
      case measure=>simp[intOf]
    . have hu0: (v != 0)=true:=by simp[hu]
      have HZ:Hid (z=v):=by show _=_;rw[HE.o,if_pos b.o]
      clear hu;go_wp2_with fail;go_ret
      exact⟨by rw[HZ.o];rfl,rfl⟩
  | 2,_ =>
    have HZ:Hid (z=0):=by show _=_;rw[HE.o,if_pos (H1.o (by omega)),H2.o (by omega)]
    go_wp2_with fail;go_ret
    exact⟨by rw[HZ.o];rfl,rfl⟩
theorem Ot(i j:Itm)(w:VA):Calls Tryz.prog 150 #[itV i,itV j] w fun e w'=>e= .returned (.int .i64 (dH i.1 j.1))/\Gro w w':=by
 obtain⟨⟨a1,a2⟩,s⟩:=i;obtain⟨⟨x1,x2⟩,t⟩:=j;simp only[itV];obtain⟨a,hW⟩:=NX9 ((w.alloc (.cells #[.int .u64 a1,.int .u64 a2,.string s] 118)).alloc (.cells #[.int .u64 x1,.int .u64 x2,.string t] 118))
 have HA:Hid (Bk a w.heap.size 118 #[.int .u64 a1,.int .u64 a2,.string s]):=by rw[<-hW];exact(Bk.new w _ _).alloc _
 have HB:Hid (Bk a (w.heap.size+1) 118 #[.int .u64 x1,.int .u64 x2,.string t]):=by
  rw[<-hW];have:=Bk.new (w.alloc (.cells #[.int .u64 a1,.int .u64 a2,.string s] 118)) 118 #[.int .u64 x1,.int .u64 x2,.string t];rw[Z9]at this;exact this
 have HL:Hid (Gro w a):=by rw[<-hW];exact((Gro.refl w).alloc _).alloc _
 have HC:Hid (∀q,Calls Tryz.prog 151 #[.slice (some ⟨w.heap.size,0,none⟩) 2 2,.slice (some ⟨w.heap.size+1,0,none⟩) 2 2] (a.drewN q) fun e w'=>e= .returned (.int .i64 (dH (a1,a2) (x1,x2)))/\w'=a.drewN q):=fun q=>by
  obtain⟨c0,c1,_⟩:=(HA.o.drewN q).three;obtain⟨c3,c4,_⟩:=(HB.o.drewN q).three;exact(QP _ _ a1 a2 x1 x2 _ c0 c1 c3 c4).mono (by rintro e w' ⟨rfl,rfl⟩;exact⟨rfl,rfl⟩)
 have HW:=ai hW;clear hW
 go_enter Tryz.func150,Tryz.ntmps150
 go_wp2_with fail;rw[HW.o]
 go_quiet(first | (go_at_call 151;exact Calls.quiet_of_same (HC.o _)))
 go_wp2_with fail;go_ret
 exact⟨rfl,HL.o.trans ⟨nq,#[],by rw[grow_empty]⟩⟩
def cfI(i j:Itm):Int:=dH i.1 j.1
theorem PL(x y:Itm)(W:VA):Calls Tryz.prog 150 #[.agg (itC x).toArray,.agg (itC y).toArray] W fun e w'=>e= .returned (.int .i64 (cfI x y))/\∃q os',w'=grow (W.drewN q) os':=Ot x y W
theorem TL(x y:Itm):ltOf cfI x y=decide (ltD x.1 y.1):=qw x.1 y.1
theorem Jl:SWO (ltOf cfI) where
 irrefl x:=swoD.irrefl x.1
 trans x y z h1 h2:=swoD.trans x.1 y.1 z.1 h1 h2
 ntrans x y z h1 h2:=swoD.ntrans x.1 y.1 z.1 h1 h2
instance :Inhabited Itm:=⟨(zD,⟨#[]⟩)⟩
theorem BJ(ts:List Itm): (flatK itC 3 ts.toArray).toList=flat itC ts:=by
 apply List.ext_getElem?
 intro t;by_cases ht:t<ts.length*3
 . have hk:t / 3<ts.length:=by omega
   have hx:ts[t / 3]? =some ts[t / 3]:=Z5 hk;have h1:=iJ dD ts (t / 3) (t % 3) _ hx (by omega);rw[show t / 3*3+t % 3=t by omega]at h1;have h2:t< (flatK itC 3 ts.toArray).size:=by simpa using ht
   rw[h1,Array.getElem?_toList,Array.getElem?_eq_getElem h2];have h3:=get_flatK itC 3 ts.toArray t (by simpa using ht);rw[getElem!_pos (flatK itC 3 ts.toArray) t h2]at h3;rw[h3,show ts.toArray[t / 3]! =ts[t / 3] by simp[hk]];have h4:t % 3< (itC ts[t / 3]).length:=by rw[dD];omega
   rw[getElem!_pos (itC ts[t / 3]) (t % 3) h4,Z5 h4]
 . rw[List.getElem?_eq_none (by simp;omega),List.getElem?_eq_none (by rw[ig dD];omega)]
def SrtI(ts:List Itm):Prop:=ts.Pairwise (fun a b=>¬ltD b.1 a.1)
theorem MI(base n c:Nat)(A:OA)(ts:List Itm)(w:VA)(h:w.ownsRow base 118 3 (.slice A n c) n (flat itC ts))(hn:n<=1000000000) :
  Calls Tryz.prog 149 #[.slice A n c,.func (.func 150) #[] #[]] w fun e w'=>e= .returned (.tuple #[])/\∃us,us.Perm ts/\SrtI us/\w'.ownsRow base 118 3 (.slice A n c) n (flat itC us)/\w.grownBy w' (Value.slice A n c).ownBlock:=by
 have hl:ts.length=n:=by have:=h.1;rw[ig dD]at this;omega
 have eg:∀args w,(callFunc 150 args).run Tryz.prog w= .ok (.enter 150 args) w:=enters_of Tryz.func150 (by kernel_rfl) rfl;have d:Hid (∀w',Calls Tryz.prog 115 #[.int .u64 (n:Int)] w' fun e w''=>e= .returned (.int .i64 (Lib.bitLen n:Nat))/\w'=w''):=fun w'=>by
  have h:=Any.bits_Len (SlLaysF0.n15.bits {Tryz.lenU with}) (n:Int) w' (by omega) (by omega);rw[Int.toNat_natCast]at h;exact h.mono fun _ _ ⟨h1,h2⟩=>⟨h1,h2.symm⟩
 have hw:IntKind.u64.wrap (n:Int)=n:=by simp[IntKind.wrap,IntKind.bits,IntKind.signed];omega
 rcases h.2 with ⟨hv,h0⟩ | ⟨g,cap,cur,hv,h1,h2,h3,h4,h5,h6⟩
 . simp only[Value.slice.injEq]at hv
   obtain⟨rfl,_,rfl⟩:=hv;subst h0;obtain rfl:ts= []:=List.eq_nil_of_length_eq_zero hl;have HO:=ai h;have HI:Hid (∀w',Calls Tryz.prog 281 #[.slice none 0 0,.int .i64 0,.int .i64 0,.func (.func 150) #[] #[]] w' fun e w''=>e= .returned (.tuple #[])/\w'=w''):=fun w'=>by
    go_enter Tryz.func281,Tryz.ntmps281
    go_wp2_with fail
    go_loopw[8] (fun i wr=>i= .int .i64 1/\w'=wr) (fun _ _=>0)
    case atStart=>exact⟨rfl,rfl⟩
    case round =>
     obtain⟨rfl,rfl⟩:=hrel;go_wp2_with fail
     go_end0
     exact⟨rfl,rfl⟩
   have HP:Hid (∀w',Calls Tryz.prog 232 #[.slice none 0 0,.int .i64 0,.int .i64 0,.int .i64 0,.func (.func 150) #[] #[]] w' fun e w''=>e= .returned (.tuple #[])/\w'=w''):=fun w'=>by
    go_enter Tryz.func232,Tryz.ntmps232
    go_wp2_with fail
    go_loopw[1,2,3,10,11] (fun a b l x y wr=>a= .int .i64 0/\b= .int .i64 0/\l= .int .i64 0/\w'=wr) (fun _ _ _ _ _ _=>0)
    case atStart=>exact⟨rfl,rfl,rfl,rfl⟩
    case round =>
     obtain⟨rfl,rfl,rfl,rfl⟩:=hrel;go_wp2_with fail;refine(HI.o _).mono ?_;rintro e w1 ⟨rfl,rfl⟩;go_wp2_with fail;exact ZW (results_none rfl _ _ _) rfl ⟨rfl,rfl⟩
   clear h eg hl hw HI
   go_enter Tryz.func149,Tryz.ntmps149
   go_wp2_with fail;refine(d.o _).mono ?_;rintro e w1 ⟨rfl,rfl⟩;go_wp2_with fail;refine(HP.o _).mono ?_;rintro e w1 ⟨rfl,rfl⟩;go_wp2_with fail
   go_end0
   exact⟨rfl,[],.refl _,List.Pairwise.nil,HO.o,rfl,rfl,rfl,Nat.le_refl _,fun _ _ _=>rfl⟩
 . simp only[Value.slice.injEq]at hv
   obtain⟨rfl,_,rfl⟩:=hv;have hsz:n*3<=cur.size:=by omega
   have hlt:=(Array.getElem?_eq_some_iff.1 h2).1;have hH:HoldsK itC 3 w g 0 ts.toArray:=by
    intro j hj;have hj':j<ts.length*3:=by simpa using hj
    refine⟨?_,by simp[World.frozen?,h2]⟩;have h7: (flat itC ts)[j]? =some ((flatK itC 3 ts.toArray)[j]!):=by
     rw[<-BJ,Array.getElem?_toList,Array.getElem?_eq_getElem (by simpa using hj'),getElem!_pos (flatK itC 3 ts.toArray) j (by simpa using hj')]
    rw[<-h6,List.getElem?_take,if_pos (by omega)]at h7;show w.cell? ⟨g,0+j,none⟩=_;simp[World.cell?,h2]
    simpa using h7
   have hlim:Lib.bitLen n<4611686018427387904:=Nat.lt_of_le_of_lt (Lib.bitLen_le n 62 (by omega) (by omega)) (by omega);have hsn:ts.toArray.size=n:=by rw[List.size_toArray,hl]
   have hp:=AnyQ.pdqsortCmpFunc_all {Tryz.pdqIt with} 3 Tryz.isAgg118 Tryz.sizeOf118 itC cfI 150 #[] Jl g 0 c ts.toArray w eg (fun _ _ _ _ x y=>PL x y _) ⟨dD,fun x v hv=>by simp[itC]at hv;rcases hv with rfl | rfl | rfl <;> rfl,hH,hlt⟩ (n+1) 0 n (Lib.bitLen n) ts.toArray w (by omega) rfl (SWK.start hH) (ZX _) (by omega) (by omega) hlim (Or.inl rfl);have HP:Hid (Calls Tryz.prog 232 #[.slice (some ⟨g,0,none⟩) n c,.int .i64 0,.int .i64 n,.int .i64 (Lib.bitLen n:Nat),.func (.func 150) #[] #[]] w fun e w'=>e= .returned (.tuple #[])/\SWK itC 3 w g 0 (pdq (ltOf cfI) ts.toArray 0 n (Lib.bitLen n) true true) w'):=by
    show Calls _ _ _ _ _;rw[hsn]at hp;exact hp
   have HS:=pdq_sorts (ltOf cfI) Jl ts.toArray 0 n (Lib.bitLen n) true true (ZX _) (by omega) (Or.inl rfl);obtain⟨d',hd'⟩:=NX9 (pdq (ltOf cfI) ts.toArray 0 n (Lib.bitLen n) true true)
   rw[hd']at HP HS;have f:=ai HS;have HF:Hid (∀w',SWK itC 3 w g 0 d' w'->∃us,us.Perm ts/\SrtI us/\w'.ownsRow base 118 3 (.slice (some ⟨g,0,none⟩) n c) n (flat itC us)/\w.grownBy w' (Value.slice (some ⟨g,0,none⟩) n c).ownBlock):=by
    rintro w' ⟨k,os,rfl⟩;obtain⟨hp,hs⟩:=f.o;have hd:d'.size=n:=by rw[hp.1];simpa using hl
    have hpp:d'.toList.Perm ts:=by
     have:=hp.2.2;have e1:d'.extract 0 n=d':=by rw[<-hd];simp
     have e2:ts.toArray.extract 0 n=ts.toArray:=by rw[<-hl];simp
     rw[e1,e2]at this
     simpa using this
    have hso:SrtI d'.toList:=by
     unfold SrtI;rw[List.pairwise_iff_getElem];intro i j hi hj hij;have hi':i<d'.size:=by simpa using hi
     have hj':j<d'.size:=by simpa using hj
     have:=hs i j (ZX _) hij (by omega);rw[TL,decide_eq_false_iff_not,getElem!_pos d' j hj',getElem!_pos d' i hi']at this
     simpa using this
    have hfs: (flatK itC 3 d').size=n*3:=by rw[size_flatK,hd]
    refine⟨d'.toList,hpp,hso,⟨by rw[ig dD,Array.length_toList,hd],.inr ⟨g,c,putCells id 0 (flatK itC 3 d') cur,rfl,h1,?_,h3,h4,by simp[putCells];omega,?_⟩⟩,rfl,rfl,rfl,by simp[sortWorldK,putRowK,grow,putRow,mapBlock,Sort.ahead],fun b hb hr=>?_⟩
    . simp only[sortWorldK,putRowK,grow,putRow,mapBlock,Sort.ahead]
      rw[Array.getElem?_append_left (by simpa using hlt),Array.getElem?_modify,if_pos rfl,h2];rfl
    . rw[vC 0 (n*3) _ cur hfs rfl hsz,<-BJ]
    . simp only[sortWorldK,putRowK,grow,putRow,mapBlock,Sort.ahead]
      rw[Array.getElem?_append_left (by simpa using hb),Array.getElem?_modify,if_neg (fun e=>hr (by rw[e];rfl))]
   clear h h1 h2 h3 h4 h5 h6 hsz hlt hH hlim hsn hp HS hd' f eg hl
   go_enter Tryz.func149,Tryz.ntmps149
   go_wp2_with fail;refine(d.o _).mono ?_;rintro e w1 ⟨rfl,rfl⟩;go_wp2_with fail;refine HP.o.mono ?_;rintro e w1 ⟨rfl,hw1⟩;have HX:=ai (HF.o w1 hw1);clear hw1 HF HP;go_wp2_with fail
   go_end0
   exact⟨rfl,HX.o⟩
end
section
open Go.Maps
def pV(p:List Itm):Dig->Option VC:=fun d=>(bT p d).map Value.string
theorem SrtI.asc{us:List Itm}(h:SrtI us)(hn: (us.map (·.1)).Nodup):AscI us:=by
 unfold AscI;rw[List.Nodup,List.pairwise_map]at hn;exact List.Pairwise.imp₂ (fun a b h1 h2=>Classical.byContradiction fun h3=>h2 (nC h3 h1)) h hn
def I9(p:List Itm)(w:VA)(e:Ending)(w':VA):Prop:=∃A c,e= .returned (.slice A p.length c)/\Sl w' w'.heap.size 3 A p.length (flat itC p)/\p.length<=c/\c<=maxLen/\VE w w'
theorem MX(p:List Itm)(mb N:Nat)(w:VA)(hM:Gm w Tryz.prog 50 jT iy mb N (pV p))(ha:AscI p)(hw:∀i∈p,WfD i.1)(hN:N<=1000000) :
  Calls Tryz.prog 83 #[.map (some mb)] w (I9 p w):=by
 have HM:=ai hM;have HA:=ai ha;have y:=ai hw;have hml:=hM.lt;obtain⟨i0,hi,f,j,l⟩:=info_parts lY;have Hi:=ai hi;have B:=ai f;have C:=ai j;have D:=ai l;clear hM ha hw hi f j l
 go_enter Tryz.func83,Tryz.ntmps83
 go_wp2_with (at_range;refine aO ?_)
 refine aH ?_;refine JF rfl _ 149 rfl 50 9 mg Tryz.underlying149 mb N (pV p) rfl HM.o ?_;intro w1 m hr1 hg1 hz1;have hc0:=TS hr1;have HR1:=ai hr1;have HB1:VF w w1:=(ah w.heap.size w).grown hg1 aj (fun g e=>by cases e);clear hr1 hg1 HM
 go_wp2
 go_frame
 go_loopg [3] m (fun gk v3 wr=>∃(out:List Itm)(left:Dig->Bool)(n c:Nat)(A:OA),v3= .slice A n c/\Hid (GmR wr Tryz.prog 50 jT iy mb w.heap.size N (pV p) left gk)/\Hid (out.length=n)/\n<=c/\c<=maxLen/\Hid (wr.ownsRow (w.heap.size+1) 118 3 (.slice A n c) n (flat itC out))/\Hid (∀i,i∈out↔i∈p/\left i.1=false)/\Hid ((out.map (·.1)).Nodup)/\n+gk<=m/\VF w wr/\w.heap.size<wr.heap.size)
 case atStart =>
  exact⟨[],_,0,0,none,rfl,HR1.o,rfl,Nat.le_refl _,ZX _,World.ownsRow_nil _ _ _ _,(fun i=>⟨(fun h=>by cases h),fun h=>by
   have h1:bT p i.1=some i.2:=(jo HA.o).2 h.1;have h2:=h.2;simp[pV,h1]at h2⟩),List.nodup_nil,by omega,HB1.o,by omega⟩
 case round =>
  obtain⟨out,left,n,c,A,rfl,hR,hL,hnc,hcm,hO,hX,hN,hsum,hB,hz⟩:=hrel;have HR:=ai hR.o;have HL:=ai hL.o;have HO:=ai hO.o;have HX:=ai hX.o;have o:=ai hN.o;have HB:=ai hB.o;clear hR hL hO hX hN hB HR1 HB1
  go_wp2_with (at_next;refine aO ?_)
  refine aH ?_;refine JJ rfl _ rfl 50 mg mb w.heap.size N (pV p) left gk rfl HR.o ?_ ?_
  . intro hdone
    have HF:Hid (∀i,i∈out↔i∈p):=fun i=>by
     rw[HX.o];exact⟨fun h=>h.1,fun h=>⟨h,hdone i.1 (kS (y.o i h))⟩⟩
    have HS:=ai (MI (w.heap.size+1) n c A out wr HO.o (by omega));clear hdone;go_wp2_with fail;refine HS.o.mono ?_;rintro e w4 ⟨rfl,us,hpe,hso,hou,hgu⟩;have hus:us=p:=AscI.ext (hso.asc ((hpe.map _).nodup_iff.2 o.o)) HA.o (fun i=>by rw[hpe.mem_iff,HF.o]);subst hus;have hln:us.length=n:=by rw[hpe.length_eq,HL.o]
    have HB4:VF w w4:=HB.o.grown hgu HB.o.size (fun g e=>by have:=(bV HO.o e).1;omega);have E:=ai hou;have q:=ai hln;clear hpe hso hou hgu HS hln;go_wp2_with fail;go_ret
    exact⟨A,c,by rw[q.o];rfl,by rw[q.o];exact Sl.of_own E.o,by rw[q.o];exact hnc,hcm,HB4.o⟩
  . intro d v w2 cnt2 hok hls hgs hR2 hlt hg2 hz2 hen
    obtain⟨b,hb,rfl⟩:∃b,bT p d=some b/\v= .string b:=by
     unfold pV at hgs;obtain⟨b,h1,h2⟩:=Option.map_eq_some_iff.1 hgs;exact⟨b,h1,h2.symm⟩
    have HR2:Hid (GmR w2 Tryz.prog 50 jT iy mb w.heap.size N (pV p) (fun z=>left z && !decide (z=d)) cnt2):=hR2;have s:Hid ((d,b)∈p):=(jo HA.o).1 hb;have F:Hid (∀i,i∈out++ [(d,b)]↔i∈p/\ (left i.1 && !decide (i.1=d))=false):=fun i=>by
     rw[List.mem_append,ae,HX.o,Bool.and_eq_false_iff];constructor
     . rintro (⟨h1,h2⟩ | rfl)
       . exact⟨h1,.inl h2⟩
       . exact⟨s.o,.inr (by simp)⟩
     . rintro ⟨h1,h2 | h2⟩
       . exact .inl ⟨h1,h2⟩
       . have:i.1=d:=by simpa using h2
         exact .inr (HA.o.uniq h1 s.o this)
    have t:Hid (((out++ [(d,b)]).map (·.1)).Nodup):=by
     show List.Nodup _;rw[List.map_append];refine List.nodup_append.2 ⟨o.o,by simp,fun a ha c hc e=>?_⟩;obtain⟨i,hi,rfl⟩:=List.mem_map.1 ha;have hc2:c=d:=by simpa using hc
     have:=((HX.o i).1 hi).2;rw[e,hc2,hls]at this;cases this
    have HB2:VF w w2:=HB.o.grown hg2 HB.o.size (fun g e=>by cases e;exact Nat.le_refl _);have u:Hid (w2.ownsRow (w.heap.size+1) 118 3 (.slice A n c) n (flat itC out)):=jc HO.o (fun k hk=>hg2.block k (by obtain⟨h1,cur,h2⟩:=bV HO.o hk;exact(Array.getElem?_eq_some_iff.1 h2).1) (fun e=>by have:=(bV HO.o hk).1;cases e;omega));obtain⟨d1,d2⟩:=d;simp only[dgV]at hen;have hz2':w.heap.size<w2.heap.size:=by omega
    clear hR2 hls hgs hok hg2 hz2 hb HR HO HB HX o;obtain⟨W3,hW3⟩:=NX9 ((w2.alloc (.cells #[.int .u64 d1,.int .u64 d2] 50)).alloc (.cells #[.int .u64 d1,.int .u64 d2,.string b] 118))
    have hb3:VE w2 W3:=by rw[<-hW3];exact((ah _ w2).alloc aj _).alloc (by simp) _
    have G:Hid (Bk W3 (w2.heap.size+1) 118 #[.int .u64 d1,.int .u64 d2,.string b]):=by
     have e:=Bk.new (w2.alloc (.cells #[.int .u64 d1,.int .u64 d2] 50)) 118 #[.int .u64 d1,.int .u64 d2,.string b]
     rwa[Z9,hW3]at e
    have HR3:=ai (HR2.o.below hb3 (by omega) hz2');have x:=ai (gQ u.o hb3);have HB3:VF w W3:=HB2.o.trans (hb3.mono HB2.o.size);have z3:=hb3.size;have H:=ai hW3;clear hW3 hb3 HR2 u HB2
    go_wp2_with (at_builtin;refine uk (.tmp 13) (.tmp 17) 29 rfl ?_)
    rw[H.o];refine aH ?_;refine jV (base:=w.heap.size+1) (size:=3) _ rfl (.tmp 13) (.tmp 17) 29 rfl 118 i0 _ 32 Tryz.underlying29 Hi.o B.o C.o D.o rfl (by decide) (.slice A n c) n _ rfl x.o _ _ 1 1 (flat itC [((d1,d2),b)]) rfl (Sl.of_bk (n:=1) (size:=3) G.o rfl) (jr _) (by unfold maxLen;omega) (by omega) (by omega) ?_;intro A4 c4 w4 r hg4 hn4 hm4;rw[<-bQ]at r;have I:=ai r;have hrow:∀k,(Value.slice A n c).ownBlock=some k->w.heap.size+1<=k:=fun k hk=>(bV x.o hk).1;have HR4:Hid (GmR w4 Tryz.prog 50 jT iy mb w.heap.size N (pV p) (fun z=>left z && !decide (z= (d1,d2))) cnt2):=HR3.o.kept hg4 (fun e=>by have:=hrow _ e.symm;omega) (fun e=>by have:=hrow _ e.symm;omega);have HB4:VF w w4:=HB3.o.grown hg4 HB3.o.size (fun g e=>by have:=hrow _ e;omega);have J:Hid ((out++ [((d1,d2),b)]).length=n+1):=by show _=_;rw[af,HL.o];rfl
    have z4:=hg4.size;clear r hg4 hrow hen;go_wp2_with fail
    go_roundg cnt2
    case rel=>exact⟨_,_,n+1,c4,A4,rfl,HR4.o,J.o,hn4,hm4,I.o,F.o,t.o,by omega,HB4.o,by omega⟩
    case measure=>exact hlt
end
section
open Go.Maps
theorem NQ(o:Ob)(s:Osl)(B:Nat)(w:VA)(hm:ObM w B o s)(hB:B<=w.heap.size)(ho:OkO o) :
  Calls Tryz.prog 82 #[obV o s] w fun e w'=>e= .returned (.tuple #[az (dgO o),.int .i64 0])/\VE w w':=by
 obtain⟨W,hW⟩:=NX9 ((w.alloc (.cells (obC o s) 109)).alloc (.cells #[.int .u64 0,.int .u64 0] 50))
 have HB0:VF w W:=by rw[<-hW];exact((ah _ w).alloc aj _).alloc (by simp) _
 have HK:Hid (Bk W w.heap.size 109 (obC o s)):=by rw[<-hW];exact(Bk.new w _ _).alloc _
 have HD:Hid (Bk W (w.heap.size+1) 50 #[.int .u64 0,.int .u64 0]):=by
  rw[<-hW];have:=Bk.new (w.alloc (.cells (obC o s) 109)) 50 #[.int .u64 0,.int .u64 0];rw[Z9]at this;exact this
 have c:w.heap.size+2=W.heap.size:=by rw[<-hW];simp
 have HE:=ai (vU o s B W (hm.below HB0.o hB) (by omega) ho);have hsz: (ofL (aI o)).size<=maxLen:=by rw[bU];have:=ho.len;unfold maxLen;omega
 have a:=ai (fun w=>uC (ofL (aI o)) w hsz);have b:Hid (ofB (toL (ofL (aI o)))=dgO o):=by show _=_;rw[dE];rfl
 unfold og at a;rw[b.o]at a;unfold uM at HE;simp only[obV,obC]at HE hW HK ⊢;obtain⟨sb,hsb⟩:=NX9 (ofL (aI o))
 rw[hsb]at HE a;obtain⟨⟨d1,d2⟩,hdd⟩:∃d,dgO o=d:=⟨_,rfl⟩
 rw[hdd]at a ⊢;simp only[az]at a ⊢;obtain⟨c0,c1,c2,c3,c4,c5,c6,c7,c8⟩:=HK.o.nine;have HW:=ai hW;clear hm ho hsb hdd b hsz hW
 go_enter Tryz.func82,Tryz.ntmps82
 go_wp2_with fail;rw[HW.o];refine HE.o.mono ?_;rintro e w2 ⟨rfl,hb⟩;have HB2:VF w w2:=HB0.o.trans (hb.mono HB0.o.size);have HD2:=ai (HD.o.below hb (by omega));have z2:w.heap.size+2<=w2.heap.size:=by have:=hb.size;omega
 clear hb HE c0 c1 c2 c3 c4 c5 c6 c7 c8;go_wp2_with fail;refine(a.o _).mono ?_;rintro e w3 ⟨rfl,hb⟩;have HB3:VF w w3:=HB2.o.trans (hb.mono HB2.o.size);have HD3:=ai (HD2.o.below hb (by omega));obtain⟨_,_,f0,f1⟩:=HD3.o.two;clear hb
 go_wp2
 exact ZW (oN Tryz.results82 rfl (HD3.o.set2 _ _) rfl) rfl ⟨rfl,eX HB3.o (by omega) _ _⟩
def kV(p:List Itm)(L:List VD):Dig->Option VC:=fun d=>if d∈L.map ofB then pV p d else none
theorem Tt{p:List Itm}(L:List VD){b:VD}(h:bT p (ofB b)=some (ofL b)):kV p (L++ [b])=jQ (kV p L) (ofB b) (.string (ofL b)):=by
 funext d
 unfold kV jQ;by_cases e:d=ofB b
 . subst e
   rw[if_pos (by simp),if_pos rfl];unfold pV;rw[h];rfl
 . rw[if_neg e]
   have:d∈ (L++ [b]).map ofB↔d∈L.map ofB:=by simp[e]
   show(if d∈ (L++ [b]).map ofB then pV p d else none)=if d∈L.map ofB then pV p d else none;by_cases hm:d∈L.map ofB
   . rw[if_pos hm,if_pos (this.2 hm)]
   . rw[if_neg hm,if_neg (fun h=>hm (this.1 h))]
theorem TN{p:List Itm}(hp:PlOk p){L:List VD}(h:∀i∈p,toL i.2∈L):kV p L=pV p:=by
 funext d
 unfold kV;split
 . rfl
 . rename_i hn
   unfold pV;cases hf:bT p d with
   | none=>rfl
   | some b =>
     have hm:=(jo hp.asc).1 hf;exact absurd (List.mem_map.2 ⟨_,h _ hm,(hp.dg _ hm).symm⟩) hn
theorem Md(p:List Itm)(L:List VD)(A:OA)(n c B:Nat)(w:VA)(h0:Sl w B 1 A n (flat aF L))(hB:B<=w.heap.size)(hn:n<=1000000)(hp:PlOk p)(hm:∀b∈L,∃i∈p,b=toL i.2)(hall:∀i∈p,toL i.2∈L) :
  Calls Tryz.prog 38 #[.slice A n c] w fun e w'=>∃A' c',e= .returned (.tuple #[.slice A' p.length c',.bool true])/\Sl w' w'.heap.size 3 A' p.length (flat itC p)/\p.length<=c'/\c'<=maxLen/\VE w w':=by
 have f:=ai hp;have HM:=ai hm;have E:=ai (TN hp hall);have HS:=ai h0;have F:=ai (h0.len dJ (by omega));have y:=ai (Gm.made w Tryz.prog 50 jT iy);have hzz:=Tryz.zeroValue9;have hmm:=@run_makeMap Tryz.prog;clear h0 hp hm hall
 go_enter Tryz.func38,Tryz.ntmps38
 go_wp2_with fail
 go_loopw[15] (fun i wr=>∃k:Nat,k<=n/\i= .int .i64 k/\Hid (Gm wr Tryz.prog 50 jT iy w.heap.size k (kV p (L.take k)))/\VF w wr) (fun i _=>n - (intOf i).toNat)
 case atStart=>exact⟨0,ZX _,rfl,by have:=y.o;exact this,(ah _ w).alloc aj _⟩
 case round =>
  obtain⟨k,hk,rfl,hG,hBel⟩:=hrel;have HG:=ai hG.o;have m:=ai hBel.o;have zr:w.heap.size<wr.heap.size:=HG.o.lt;clear hG hBel y;by_cases hlt:k<n
  . obtain⟨bb,off,x,rfl,hbb,hx,hc⟩:=(HS.o.below m.o hB).at_ dJ (by omega) hlt
    have x0:=hc 0 _ rfl;have hlz: (k:Int)< (n:Int):=by omega
    obtain⟨i,hi,hix⟩:=HM.o x (Z7 hx);obtain⟨o,ho,q⟩:=f.o.enc i hi;have hxo:x=aI o:=by rw[hix,q,dE]
    have z:i.1=dgO o:=by have:=f.o.dg i hi;rw[this,q,dE];rfl
    have hfx:bT p (ofB x)=some (ofL x):=(jo f.o.asc).2 (by
     have e1: (ofB x,ofL x)=i:=by
      refine Prod.ext ?_ ?_
      . rw[hxo];exact z.symm
      . rw[hix,jd]
     rw[e1];exact hi)
    have a:=ai (Tt (L.take k) hfx);rw[<-aV hx]at a;have r:Hid (iy (dgO o)):=kS (eY _);have t:Hid (kV p (L.take k) (dgO o)=none∨kV p (L.take k) (dgO o)=some (.string (ofL (aI o)))):=by
     show _∨_;unfold kV;split
     . right;unfold pV;rw[hxo]at hfx;rw[show dgO o=ofB (aI o) from rfl,hfx];rfl
     . exact .inl rfl
    rw[hxo]at a x0;simp only[Nat.mul_one,Nat.add_zero]at x0;have j:=ai (rH o wr ho);unfold OdE at j;have HO:=ai ho;have hsz: (ofL (aI o)).size<=maxLen:=by rw[bU];have:=ho.len;unfold maxLen;omega
    obtain⟨sx,hsx⟩:=NX9 (ofL (aI o))
    rw[show ofB (aI o)=dgO o from rfl]at a;obtain⟨⟨d1,d2⟩,hdd⟩:∃d,dgO o=d:=⟨_,rfl⟩
    have G:=ai hdd;rw[hsx]at a x0 j t;rw[hdd]at a r t;clear hi hix q hxo z hfx hx hc ho hsx hdd;go_wp2_with fail;refine j.o.mono ?_;rintro e w1 ⟨s,rfl,C,hb1,_,_⟩;simp only[obV,obC];obtain⟨W1,hW1⟩:=NX9 (w1.alloc (.cells (obC o s) 109))
    have hb2:VE w1 W1:=by rw[<-hW1];exact(ah _ w1).alloc aj _
    have u:Hid (Bk W1 w1.heap.size 109 (obC o s)):=by rw[<-hW1];exact Bk.new w1 _ _
    have HB1:VF wr W1:=hb1.trans (hb2.mono hb1.size);have l:=ai (NQ o s w1.heap.size W1 (C.below hb2 aj) hb2.size HO.o);rw[G.o]at l;simp only[obV,obC,az]at l hW1 u;obtain⟨c0,c1,c2,c3,c4,c5,c6,c7,c8⟩:=u.o.nine;rw[<-hW1]at c0 c1 c2 c3 c4 c5 c6 c7 c8;have HW1:=ai hW1;clear C hb1 hb2 hW1 j;go_wp2_with fail;rw[HW1.o];refine l.o.mono ?_;rintro e w3 ⟨rfl,hb3⟩;have HB3:VF wr w3:=HB1.o.trans (hb3.mono HB1.o.size);have H:=ai (HG.o.below HB3.o zr);have z3:=HB3.o.size;clear c0 c1 c2 c3 c4 c5 c6 c7 c8 hb3 l u;obtain⟨W4,h⟩:=NX9 (w3.alloc (.cells #[.int .u64 d1,.int .u64 d2] 50))
    have hb4:VE w3 W4:=by rw[<-h];exact(ah _ w3).alloc aj _
    have HD4:Hid (Bk W4 w3.heap.size 50 #[.int .u64 d1,.int .u64 d2]):=by rw[<-h];exact Bk.new w3 _ _
    have D:=ai (H.o.below hb4 (by omega));have HB4:VF wr W4:=HB3.o.trans (hb4.mono z3);have hlk:=D.o.look_ok mg Tryz.underlying149 (hzz _) r.o;obtain⟨r0,r1,_,_⟩:=HD4.o.two;rw[<-h]at hlk r0 r1;simp only[dgV]at hlk;have I:=ai h;clear hb4 h hzz;rcases t.o with hl | hl
    all_goals
     rw[hl]at hlk;simp only[Option.getD_none,Option.getD_some,Option.isSome_none,Option.isSome_some]at hlk;clear hl
     go_wp2_with (at_mapUpdate;refine aO ?_)
     rw[I.o];refine aH ?_;refine Be rfl _ _ _ 149 rfl 50 9 mg Tryz.underlying149 w.heap.size k _ rfl D.o (by unfold maxLen;omega) (d1,d2) r.o (.string sx) rfl rfl ?_;intro w5 hg5 hgr;rw[<-a.o]at hg5;have J:=ai hg5;have K:VF w w5:=(m.o.trans (HB4.o.mono (by omega))).grown hgr (by have:=HB4.o.size;omega) (fun g e=>by cases e;exact Nat.le_refl _);clear hg5 hgr r0 r1 hlk;go_wp2_with fail;go_roundw
     case rel=>exact⟨k+1,hlt,by go_num,J.o,K.o⟩
     case measure=>simp[intOf];omega
  . have hlz:¬(k:Int)< (n:Int):=by omega
    have M:Hid (Gm wr Tryz.prog 50 jT iy w.heap.size k (pV p)):=by
     have:=HG.o;rw[ZU (by have:=F.o;omega),E.o]at this;exact this
    have v:=ai (MX p w.heap.size k wr M.o f.o.asc (fun i hi=>by rw[f.o.dg i hi];exact eY _) (by omega));unfold I9 at v;go_wp2_with fail;refine v.o.mono ?_;rintro e w2 ⟨A',c',rfl,hs,h1,h2,hb⟩;have HS2:=ai hs;have HB2:VF w w2:=m.o.trans (hb.mono (by omega));clear hs hb v
    go_wp2
    go_ret2
    exact⟨A',c',rfl,HS2.o,h1,h2,HB2.o⟩
end
section
attribute [local go_sem] Oper.semAt_some
theorem GK{sz:Nat}(hz:0<sz):∀(n:Nat)(b:VD)(rs:List VD)(u:Nat),b.length<=n->frs sz b=some (rs,u)-> (∀t∈rs,t.length<=65536)/\rs.length<=1000*u
 | n,b,rs,u,hn,h=>by
   by_cases h0:zer b
   . rw[kW h0]at h
     simp only[Option.some.injEq,Prod.mk.injEq]at h;obtain⟨rfl,rfl⟩:=h;simp
   . cases hdec:dY b with
     | none=>rw[qm h0 hdec]at h;cases h
     | some q =>
       obtain⟨l,c⟩:=q;rw[lL hz h0 hdec]at h;obtain⟨hf,rfl,r,rfl⟩:=ny hdec;have h2:=nG l;have hk:=nD hz (c:=(aB l).length) (by omega);have hks:=Nat.mul_pos hk hz;split at h
       . cases h
       . rename_i r' u' hr
         simp only[Option.some.injEq,Prod.mk.injEq]at h;obtain⟨rfl,rfl⟩:=h;cases n with
         | zero=>rw[af]at hn;omega
         | succ n =>
           obtain⟨i1,i2⟩:=GK hz n _ _ _ (by rw[List.length_drop];omega) hr;refine⟨fun t ht=>?_,by rw[af];have:=hf.1;omega⟩;rcases List.mem_append.1 ht with ht | ht
           . exact hf.2 t ht
           . exact i1 t ht
theorem Jn.fit{sz a u:Nat}{ss rs:List VD}(h:Jn sz ss a rs u)(hn:ss.length<=100): (∀t∈rs,t.length<=65536)/\rs.length<=49000:=by
 obtain⟨h1,h2⟩:=GK h.sz0 _ _ _ _ aj h.recs;have:=h.u_le;unfold hf at this;exact⟨h1,by omega⟩
theorem TW{p:List Itm}(hp:PlOk p){L:List VD}(h:∀i∈p,toL i.2∈L):p.length<=L.length:=by
 have hn: (p.map fun i=>toL i.2).Nodup:=by
  rw[List.Nodup,List.pairwise_map];refine hp.asc.imp_of_mem ?_;intro a b ha hb hl e;have:a.1=b.1:=by rw[hp.dg a ha,hp.dg b hb,e]
  rw[this]at hl;exact ja _ hl
 have:=tH hn (m:=L) (fun x hx=>by obtain⟨i,hi,rfl⟩:=List.mem_map.1 hx;exact h i hi)
 rwa[List.length_map]at this
theorem uH:∀gs:List Gru,(grO gs).length<= (recs gs).length
 | []=>by simp[grO,recs]
 | g::gs=>by
   have:=uH gs;simp only[grO,recs,aN,List.flatMap_cons,af,Z4]at this ⊢;omega
theorem Mt.few{gs:List Gru}{p:List Itm}{rs:List Rf}{lg:List Upd}(h:Mt gs p rs lg){sz a u:Nat}{ss:List VD}(hj:Jn sz ss a (recs gs) u)(hn:ss.length<=100):p.length<=49000/\lg.length<=1000/\ (∀u∈lg,u.1.size<=65536/\WfU u):=by
 have h1:=(hj.fit hn).2;have h2:=uH gs;refine⟨ZY (TW h.pl fun i hi=>(h.ob _).2 ⟨i,hi,rfl⟩) (by omega),jv h.rf,fun u hu=>?_⟩;rw[h.lo]at hu;obtain⟨g,hg,hu⟩:=List.mem_flatMap.1 hu;exact(h.ok g hg).us u hu
theorem SI(l:List Upd):∀u∈flat upC l,u.oneCell'=true:=fun u hu=>by
 unfold flat at hu;obtain⟨i,_,h⟩:=List.mem_flatMap.1 hu;simp[upC]at h;rcases h with rfl | rfl | rfl | rfl | rfl <;> rfl
theorem xW(gs:List Gru)(g:Gru):grO (gs++ [g])=grO gs++g.2:=by simp[grO]
theorem xH(gs:List Gru)(g:Gru):grU (gs++ [g])=grU gs++g.1:=by simp[grU]
theorem Sl.putLp{w:VA}{B size n l:Nat}{A:OA}{xs:List VC}(h:Sl w B size A n xs)(h0:0<size){r:Loop}{o':Obj}(hl:w.heap[l]? =some (.loop r)):Sl (w.putObj l o') B size A n xs :=
 h.avoid fun b off e hn hc=>World.putObj_heap_other (fun e=>by
  subst e;have hll:0<xs.length:=by rw[h.1];exact Nat.mul_pos hn h0
  have:=hc 0 _ (Z5 hll);simp[World.cell?,hl]at this)
theorem Sl.noCell{w w':VA}{B size n b:Nat}{A:OA}{xs:List VC}(h:Sl w B size A n xs)(h0:0<size)(hb:∀o,w.cell? ⟨b,o,none⟩=none)(hw:∀k,k≠b->w'.heap[k]? =w.heap[k]?):Sl w' B size A n xs :=
 h.avoid fun g off e hn hc=>hw g (fun e=>by
  subst e;have hll:0<xs.length:=by rw[h.1];exact Nat.mul_pos hn h0
  have:=hc 0 _ (Z5 hll);rw[hb]at this;cases this)
theorem RpM.noCell{w w':VA}{B b:Nat}{r:Rp}{s:Rsl}(h:RpM w B r s)(hb:∀o,w.cell? ⟨b,o,none⟩=none)(hw:∀k,k≠b->w'.heap[k]? =w.heap[k]?):RpM w' B r s :=
 ⟨⟨h.d.ss.noCell (by omega) hb hw,h.d.pn.noCell (by omega) hb hw⟩,h.p.noCell (by omega) hb hw,h.rf.noCell (by omega) hb hw,h.l.noCell (by omega) hb hw,h.pc,h.pm⟩
theorem TK{fn:Func}{c1 c2:Tmp}(h:fn.results= #[.cell c1 35,.cell c2 36]){w:VA}{a:Array VC}{b1 b2:Nat}{x0 x1 x2 x3 x4 x5 x6 e:VC}(h1:a[c1]?.getD undef= .pointer (some ⟨b1,0,none⟩))(h2:a[c2]?.getD undef= .pointer (some ⟨b2,0,none⟩))(k1:Bk w b1 35 #[x0,x1,x2,x3,x4,x5,x6])(k2:Bk w b2 36 #[e]) :
  (results fn a).run Tryz.prog w= .ok (.tuple #[.agg #[x0,x1,x2,x3,x4,x5,x6],e]) w:=by
 obtain⟨⟨p0,p1,p2,p3⟩,p4,p5,p6⟩:=k1.seven;have c2':=k2.cell 0;simp at c2';simp[results,h,h1,h2,go_sem,p0,p1,p2,p3,p4,p5,p6,c2']
structure OpI(w V:VA)(s:Nat)(pre:List Gx)(no nu:Nat)(Ao:OA)(co:Nat)(Au:OA)(cu:Nat)(W:VA):Prop where
 low:∀k,k<s+4->k≠s+1->k≠s+2->W.heap[k]? =V.heap[k]?
 kO:Bk W (s+1) 22 #[.slice Ao no co]
 kU:Bk W (s+1+1) 31 #[.slice Au nu cu]
 oO:W.ownsRow (s+6) 9 1 (.slice Ao no co) no (flat aF (grO (gxG pre)))
 oU:W.ownsRow (s+6) 85 5 (.slice Au nu cu) nu (flat upC (grU (gxG pre)))
 b:VE w W
 z:s+4<=W.heap.size
 co:no<=co/\co<=maxLen
 cu:nu<=cu/\cu<=maxLen
section
variable {w V W W' : VA} {s no nu co cu : Nat} {pre : List Gx} {Ao Au : OA}
theorem OpI.keep(h:OpI w V s pre no nu Ao co Au cu W)(hb:Below w.heap.size W W')(hk:∀k,k<s+4->W'.heap[k]? =W.heap[k]?)(hr:∀k e cur,s+6<=k->W.heap[k]? =some (.cells cur e (0,0))->W'.heap[k]? =W.heap[k]?):OpI w V s pre no nu Ao co Au cu W' :=
 ⟨fun k h1 h2 h3=>(hk k h1).trans (h.low k h1 h2 h3),(hk _ (by omega)).trans h.kO,(hk _ (by omega)).trans h.kU,jc h.oO fun k e=>by obtain⟨h1,cur,h2⟩:=bV h.oO e;exact hr k _ cur h1 h2,jc h.oU fun k e=>by obtain⟨h1,cur,h2⟩:=bV h.oU e;exact hr k _ cur h1 h2,h.b.trans hb,ZY h.z hb.size,h.co,h.cu⟩
end
end
def PlP(r:Rp)(a u:Nat)(pl:gI)(r':Rp)(y:Int):Prop:=match pl with
 | .no=>r'=r/\y≠0/\y≠20
 | .keep=>r'=r/\y=0
 | .app g p rs lg=>r'= (mf r (dG r.d a u (aN g)) p rs lg).1/\y= (dG r.d a u (aN g)).2
 | .rew g p rs lg=>r'= (mf r (dV r.d a (aN g)) p rs lg).1/\y= (dV r.d a (aN g)).2
theorem after_done{r:Rp}{Y:Dk×Int}{p:List Itm}{rs:List Rf}{lg:List Upd}: (after r Y p rs lg).2=Y.2/\ (if(after r Y p rs lg).2=0∨ (after r Y p rs lg).2=20 then(after r Y p rs lg).1 else r)= (mf r Y p rs lg).1:=by
 unfold after mf;by_cases h1:Y.2=0
 . rw[if_pos h1,if_pos h1];exact⟨h1.symm,if_pos (.inl rfl)⟩
 . rw[if_neg h1,if_neg h1]
   by_cases h2:Y.2=20
   . rw[if_pos h2,if_pos h2];exact⟨h2.symm,if_pos (.inr rfl)⟩
   . rw[if_neg h2,if_neg h2];exact⟨rfl,if_neg (fun h=>h.elim h1 h2)⟩
theorem PlP.of{r r':Rp}{Y:Dk×Int}{p:List Itm}{rs:List Rf}{lg:List Upd}{y:Int}(h1:r'= (after r Y p rs lg).1)(h2:y= (after r Y p rs lg).2): (if y=0∨y=20 then r' else r)= (mf r Y p rs lg).1/\y=Y.2:=by
 subst h1;subst h2;exact⟨after_done.2,after_done.1⟩
theorem ExE.o{r:Rp}{a u:Nat}{pl:gI}{w w':VA}{e:Ending}(h:ExE r a u pl w e w'):∃r' y,fG r' y w e w'/\PlP r a u pl (if y=0∨y=20 then r' else r) y:=by
 cases pl with
 | no =>
   obtain⟨x,h1,h2,h3⟩:=h;exact⟨_,_,h3,if_neg (fun h=>h.elim h1 h2),h1,h2⟩
 | keep=>exact⟨_,_,h,if_pos (.inl rfl),rfl⟩
 | app g p rs lg=>exact⟨_,_,h,PlP.of rfl rfl⟩
 | rew g p rs lg=>exact⟨_,_,h,PlP.of rfl rfl⟩
theorem CmtE.o{r:Rp}{a u:Nat}{t:gI×Dig}{w w':VA}{e:Ending}(h:CmtE r a u t w e w'):∃r' d y,jm r' d y w e w'/\PlP r a u t.1 (if y=0∨y=20 then r' else r) y:=by
 obtain⟨pl,d⟩:=t;cases pl with
 | no =>
   obtain⟨x,h1,h2,h3⟩:=h;exact⟨_,_,_,h3,if_neg (fun h=>h.elim h1 h2),h1,h2⟩
 | keep=>exact⟨_,_,_,h,if_pos (.inl rfl),rfl⟩
 | app g p rs lg=>exact⟨_,_,_,h,PlP.of rfl rfl⟩
 | rew g p rs lg=>exact h.elim
theorem NH(p:List Itm)(rs:List Rf)(lg:List Upd):gZ p rs lg= .keep∨∃g p' rs' lg',gZ p rs lg= .rew g p' rs' lg':=by
 unfold gZ;split
 . exact .inl rfl
 . exact .inr ⟨_,_,_,_,rfl⟩
theorem CoE.o{r:Rp}{a u:Nat}{w w':VA}{e:Ending}(h:CoE r a (gZ r.p r.rs r.lg) w e w'):∃r' n y,nZ r' n y w e w'/\PlP r a u (gZ r.p r.rs r.lg) (if y=0∨y=20 then r' else r) y:=by
 rcases NH r.p r.rs r.lg with h1 | ⟨g,p',rs',lg',h1⟩ <;> rw[h1]at h ⊢
 . exact⟨_,_,_,h,if_pos (.inl rfl),rfl⟩
 . exact⟨_,_,_,h,PlP.of rfl rfl⟩
def DoP(r:Rp)(a u:Nat)(x:Ac)(r':Rp)(y:Int):Prop :=
 ((0<=x.kind/\x.kind<=2)/\r.d.lf=0/\r'=r/\y=20)∨ ((0<=x.kind/\x.kind<=2)/\r.d.lf≠0/\PlP r a u (jS x r.p r.rs r.lg) r' y)∨ (¬(0<=x.kind/\x.kind<=2)/\RI r')
structure Lvs(r:Rp)(gs:List Gru)(a u:Nat):Prop where
 d:Dur r.d (recs gs)
 j:Jn r.d.sz r.d.ss a (recs gs) u
 m:Mt gs r.p r.rs r.lg
 n:r.p.length<=49000
theorem RI.lv{r:Rp}(h:RI r)(hl:r.d.lf≠0):∃gs a u,Lvs r gs a u:=by
 obtain⟨gs,a,u,h1,h2,h3⟩:=h.live hl;exact⟨gs,a,u,h1,h2,h3,(h3.few h2 h.n).1⟩
theorem P8{gs:List Gru}{x:Ac}{p:List Itm}{rs:List Rf}{lg:List Upd}(h:Mt gs p rs lg)(hp:p.length<=49000)(hx:AcF x):kZ gs (jS x p rs lg):=by
 unfold jS;split
 . exact tC h (by have:=hx.nm;omega)
 . split
   . exact xO h (fun u hu=>⟨by have:=hx.us u hu;omega,hx.uw u hu⟩)
   . exact QJ h hp
theorem PlP.ri{r r':Rp}{gs:List Gru}{a u:Nat}{pl:gI}{y:Int}(hr:RI r)(h:Lvs r gs a u)(hp:kZ gs pl)(hd:PlP r a u pl r' y):RI r':=by
 cases pl with
 | no=>rw[hd.1];exact hr
 | keep=>rw[hd.1];exact hr
 | app g p rs lg =>
   rw[hd.1];have ho:=Hr h.d h.j (l:=aN g);rw[<-wW]at ho;exact Es hr h.m ho hp
 | rew g p rs lg =>
   rw[hd.1];have ho:=RG h.d h.j (l:=aN g);refine Es (gs':= [g]) (l:=aN g) hr h.m ?_ (fun _=>hp);rw[PU];exact ho
theorem DoP.ri{r r':Rp}{gs:List Gru}{a u:Nat}{x:Ac}{y:Int}(hr:RI r)(h:r.d.lf≠0->Lvs r gs a u)(hx:AcF x)(hd:DoP r a u x r' y):RI r':=by
 rcases hd with ⟨_,_,h1,_⟩ | ⟨_,h1,h2⟩ | ⟨_,h1⟩
 . rw[h1];exact hr
 . exact h2.ri hr (h h1) (P8 (h h1).m (h h1).n hx)
 . exact h1
section
attribute [local go_sem] Oper.semAt_some
theorem Po(r:Rp)(gs:List Gru)(a u:Nat)(s:Dsl)(B:Nat)(w:VA)(hd:r.d.Ok)(hpn:r.d.pn= [])(hj:Jn r.d.sz r.d.ss a (recs gs) u)(hM:Mt gs r.p r.rs r.lg)(hm:DkM w B r.d s)(hB:B<=w.heap.size)(hn:r.d.ss.length<=100) :
  Calls Tryz.prog 11 #[dkV r.d s] w (fG r 0 w):=by
 refine(callsIn_wide (n:=6)).1 ?_;obtain⟨d,p,rs,lg⟩:=r;simp only at hd hpn hj hM hm hn ⊢;obtain⟨hrs,hrn⟩:=hj.fit hn;obtain⟨Xk,hlf,Vr⟩:=hM.few hj hn;have hrf:=nK hM.rf;obtain⟨W,hW⟩:=NX9 (((w.alloc (.cells (dkC d s) 25)).alloc (.cells rzC 35)).alloc (.cells #[.int .i64 0] 36))
 have zW:W.heap.size=w.heap.size+3:=by rw[<-hW];simp
 have HB0:VF w W:=by rw[<-hW];exact(((ah _ w).alloc aj _).alloc (by simp) _).alloc (by simp;omega) _
 have HK:Hid (Bk W w.heap.size 25 (dkC d s)):=by rw[<-hW];exact((Bk.new w _ _).alloc _).alloc _
 have HR1:Hid (Bk W (w.heap.size+1) 35 rzC):=by rw[<-hW];exact((Bk.new _ _ _).at_ (by simp)).alloc _
 have HR2:Hid (Bk W (w.heap.size+1+1) 36 #[.int .i64 0]):=by rw[<-hW];exact(Bk.new _ _ _).at_ (by simp)
 have HM:Hid (DkM W B d s):=hm.below HB0.o hB;have ku:=ai (Lh d s B a u (recs gs) W hd hpn hj HM.o (by omega));unfold I5 at ku;have HW:=ai hW;have H:=ai hM;have WI:=ai hrs;have WJ:=ai Vr;have WL:=ai (Ec hM.rf);have Aq:=ai hM.lo;clear hW hm hd hj hM hrs Vr;have hp0:d.pn.length=0:=by rw[hpn];rfl
 obtain⟨n,hnn⟩:=NX9 d.ss.length
 have HN:=ai hnn;have WM:=ai hp0;obtain⟨m,hmm⟩:=NX9 ((recs gs).length)
 have Vs:=ai hmm;simp only[dkV,dkC,hnn,hp0,hmm]at ku HK HW hn hrn ⊢;clear hnn hp0 hpn hmm;refine callsIn_of_wp_marks Tryz.func11 rfl trivial ?_ rfl;simp only[Tryz.ntmps11,List.size_toArray,Z4,List.length_nil,Nat.reduceAdd,Nat.reduceSub,Array.replicate_succ,Array.replicate_zero,List.push_toArray,List.append_toArray,List.nil_append,List.cons_append];obtain⟨k0,k1,k2,k3⟩:=HK.o.dk4
 gi_wp2_with fail
 rw[HW.o];refine⟨trivial,(callsIn_wide.2 ku.o).mono ?_⟩;rintro e w1 ⟨A,c,rfl,hs1,hmc,hcm,hb1⟩;obtain⟨k0,k1,k2,k3⟩:=(HK.o.below hb1 (by omega)).dk4;have WN:=ai hs1;have HB1:=ai hb1;have z1:=hb1.size;clear hb1 hs1 ku;obtain⟨s1,hs1⟩:=NX9 w1.heap.size
 obtain⟨w6,hw6⟩:=NX9 ((((w1.alloc (.cells #[.int .i64 d.sz,.slice s.a1 n s.c1,.slice s.a2 0 s.c2,.int .i64 d.lf,.slice none 0 0,.slice none 0 0,.slice none 0 0] 35)).alloc (.cells #[.slice none 0 0] 22)).alloc (.cells #[.slice none 0 0] 31)))
 gi_wp2_with fail
 refine⟨trivial,(callsIn_wide.2 (Nv A m c w6)).mono ?_⟩;rintro e w7 ⟨rfl,hw7⟩;have z6:w6.heap.size=s1+3:=by rw[<-hw6,<-hs1];simp
 have z7:w7.heap.size=s1+4:=by rw[hw7];simp;omega
 have hb6:Below s1 w1 w6:=by rw[<-hw6,<-hs1];exact(((ah _ w1).alloc aj _).alloc (by simp) _).alloc (by simp;omega) _
 have I:Below (s1+3) w6 w7:=by rw[hw7,<-z6];exact(ah _ w6).alloc aj _
 have V:Hid (Bk w7 s1 35 #[.int .i64 d.sz,.slice s.a1 n s.c1,.slice s.a2 0 s.c2,.int .i64 d.lf,.slice none 0 0,.slice none 0 0,.slice none 0 0]):=by
  have:Bk w6 s1 35 #[.int .i64 d.sz,.slice s.a1 n s.c1,.slice s.a2 0 s.c2,.int .i64 d.lf,.slice none 0 0,.slice none 0 0,.slice none 0 0]:=by rw[<-hw6,<-hs1];exact((Bk.new w1 _ _).alloc _).alloc _
  exact this.below I (by omega)
 have AP:Hid (Bk w7 (s1+1) 22 #[.slice none 0 0]):=by
  have:Bk w6 (s1+1) 22 #[.slice none 0 0]:=by rw[<-hw6,<-hs1];exact((Bk.new _ _ _).at_ (by simp)).alloc _
  exact this.below I (by omega)
 have BB:Hid (Bk w7 (s1+1+1) 31 #[.slice none 0 0]):=by
  have:Bk w6 (s1+1+1) 31 #[.slice none 0 0]:=by rw[<-hw6,<-hs1];exact(Bk.new _ _ _).at_ (by simp)
  exact this.below I (by omega)
 have HY:Hid (Bk w7 (s1+3) 22 #[.slice A m c]):=by rw[hw7];exact(Bk.new _ _ _).at_ z6
 have M:Hid (Below s1 w1 w7):=hb6.trans (I.mono (by omega));have X:VF w w7:=HB0.o.trans ((HB1.o.trans (M.o.mono (by omega))).mono (by omega));have KF:Hid (Sl w7 s1 1 A m (flat aF (recs gs))):=by have:=WN.o.below M.o (by omega);rw[hs1]at this;exact this
 have HI0:Hid (OpI w w7 s1 [] 0 0 none 0 none 0 w7):=⟨fun _ _ _ _=>rfl,AP.o,BB.o,World.ownsRow_nil _ _ _ _,World.ownsRow_nil _ _ _ _,X.o,by omega,⟨Nat.le_refl _,ZX _⟩,⟨Nat.le_refl _,ZX _⟩⟩
 have hws:w.heap.size+3<=s1:=by omega
 have Vt:Hid (∀g∈gs,GOk g):=H.o.ok;obtain⟨iS,Vu,hS0,hS1,hS2⟩:=info_parts kD;obtain⟨iU,Vw,Vx,Vy,Vz⟩:=info_parts uJ;have WO:=ai Vu;have WQ:=ai hS0;have VG:=ai hS1;have HS2:=ai hS2;have WR:=ai Vw;have WS:=ai Vx;have WT:=ai Vy;have WU:=ai Vz;clear hw7 hw6 hb6 I k0 k1 k2 k3 hs1 Vu hS0 hS1 hS2 Vw Vx Vy Vz
 gi_wp2
 refine Bo (α:=Gx) (F:=Fence.wide) (n:=6) rfl (by omega) (gf:=79) (lb:=#[.pointer (some ⟨s1+3,0,none⟩)]) rfl trivial (enters_of Tryz.func79 (by kernel_rfl) rfl)
  (LV 5 (s1+3) s1 (w7.heap.size+2) (by omega) A m c gs w7 HY.o KF.o (by omega) hmc (by omega) Vt.o WI.o) KeepG.trans (fun W l r o' hl hlr=>⟨fun k hk=>World.putObj_heap_other (by omega),World.putObj_heap_other (by omega)⟩) (fun A C h hA=>⟨h.block _ (by omega),h.block _ (by omega)⟩) (ah _ _) (fun _=>rfl)
  (fun pre W=>∃Ao co q G,OpI w w7 s1 pre (grO (gxG pre)).length (grU (gxG pre)).length Ao co q G W) (fun _ _ _=>False)
  ?hI ?hIx ?hIS ⟨none,0,none,0,HI0.o⟩
  (fun xs b W=>s1+6<=b/\∀pre x,xs=pre++ [x]->Bk W b 92 #[.slice x.1.1 x.1.2.1 x.1.2.2,.slice x.2.1.1 x.2.1.2.1 x.2.1.2.2,.bool false]/\GxM W x/\∃rest,gxG xs++rest=gs)
  ?hAp ?a1 ?assign ?body ?done ?stop
 case hI =>
  rintro pre A1 C row ⟨Ao,co,q,G,h⟩ hg hr;refine⟨Ao,co,q,G,h.keep ((ah _ A1).grown hg h.b.size (fun k e=>by have:=(hr _ e).1;omega)) (fun k hk=>hg.block k (by have:=h.z;omega) (fun e=>by have:=(hr _ e.symm).1;omega)) (fun k e cur hk hc=>hg.block k (Array.getElem?_eq_some_iff.1 hc).1 (fun e2=>?_))⟩;obtain⟨_,o,ho,hcc⟩:=hr _ e2.symm;rw[hc]at ho;cases ho;cases hcc
 case hIx=>rintro c pre A1 C row hf _ _;exact hf
 case hIS =>
  rintro pre A1 C ⟨Ao,co,q,G,h⟩ hs;exact⟨Ao,co,q,G,h.keep (hs.mono h.b.size) (fun k hk=>hs.block k (by have:=h.z;omega)) (fun k e cur hk hc=>hs.block k (Array.getElem?_eq_some_iff.1 hc).1)⟩
 case hAp =>
  rintro xs b W l r o hl ⟨hb,hx⟩;refine⟨hb,fun pre x e=>?_⟩;obtain⟨h1,h2,h3⟩:=hx pre x e;refine⟨(World.putObj_heap_other (fun e=>?_)).trans h1,⟨h2.u.keepB (fun k cur _ hc=>World.putObj_heap_other (fun e=>by subst e;rw[hl]at hc;cases hc)),by have:=h2.o.putLp (by omega) hl (o':=o);simpa using this,h2.ul,h2.ol⟩,h3⟩;subst e;have:W.heap[b]? =_:=h1;rw[hl]at this;cases this
 case assign =>
  rintro l pre x W' K hP VH ⟨Ao,co,q,G,h⟩ hK;have HKK:=ai hK;have HI:=ai h;have HP:=ai (hP pre x rfl);clear hK h hP;simp only[gxV]
  gi_wp2
  have hb:Below W'.heap.size W' (W'.alloc (.cells #[.slice x.1.1 x.1.2.1 x.1.2.2,.slice x.2.1.1 x.2.1.2.1 x.2.1.2.2,.bool false] 92)):=(ah _ W').alloc aj _;have hkn:=Bk.new W' 92 #[.slice x.1.1 x.1.2.1 x.1.2.2,.slice x.2.1.1 x.2.1.2.1 x.2.1.2.2,.bool false];have hbz:=HI.o.z;obtain⟨bx,hbx⟩:=NX9 W'.heap.size
  rw[hbx]at hb hkn VH hbz ⊢;refine HKK.o bx _ ⟨hb.block _ (by omega),hb.block _ (by omega)⟩ ⟨fun k hk=>hb.block _ (by omega),hb.block _ (by omega)⟩ ⟨Ao,co,q,G,HI.o.keep (hb.mono (by have:=HI.o.b.size;omega)) (fun k hk=>hb.block k (by omega)) (fun k e cur hk hc=>hb.block k (by have:=(Array.getElem?_eq_some_iff.1 hc).1;omega))⟩ ⟨by omega,fun pre' y he=>?_⟩;have e:=congrArg List.getLast? he;simp at e;subst e;exact⟨hkn,⟨HP.o.2.u.keepB (fun k cur _ hc=>hb.block k (by have:=(Array.getElem?_eq_some_iff.1 hc).1;omega)),(HP.o.2.o.below hb (by omega)).more (by simp),HP.o.2.ul,HP.o.2.ol⟩,HP.o.1⟩
 case body =>
  rintro l pre x bx W' VH ⟨Ao,co,q,G,h⟩ ⟨hbx,hx⟩;obtain⟨hk,hgm,hrest⟩:=hx pre x rfl;have HI:=ai h;have KR:=ai hk;have Y:=ai hgm;have Z:Hid (gxG (pre++ [x])=gxG pre++ [x.2.2]):=ni _ _;have hbl:=hk.lt;have hlenO: (grO (gxG pre)).length+x.2.1.2.1<=49000:=by
   obtain⟨rest,hr⟩:=hrest;rw[hgm.ol,<-af,<-xW,<-ni];have h1:=uH gs;have h2:=Vs.o;rw[<-hr]at h1 h2;have h3: (grO (gxG (pre++ [x]))).length<= (grO (gxG (pre++ [x])++rest)).length:=by simp[grO]
   omega
  have ag: (grU (gxG pre)).length+x.1.2.1<=1000:=by
   obtain⟨rest,hr⟩:=hrest;rw[hgm.ul,<-af,<-xH,<-ni];have h1:=Aq.o;rw[<-hr]at h1;have h3: (grU (gxG (pre++ [x]))).length<= (grU (gxG (pre++ [x])++rest)).length:=by simp[grU]
   rw[<-h1]at h3;omega
  obtain⟨L,N⟩:=NX9 ((grO (gxG pre)).length)
  obtain⟨O,Nc⟩:=NX9 ((grU (gxG pre)).length)
  rw[N]at hlenO HI;rw[Nc]at ag HI;have WV:=ai N;have WW:=ai Nc;have cO:=HI.o.kO.cell 0;have fO:=HI.o.kO.free 0;have cU:=HI.o.kU.cell 0;have fU:=HI.o.kU.free 0;obtain⟨g0,g1,g2⟩:=hk.three;simp at cO cU;obtain⟨⟨uA,un,uc⟩,⟨oA,on,oc⟩,gu,go⟩:=x;simp only at Y KR hlenO ag g0 g1 g2 Z;have HZ:=HI.o.z;clear h hk hgm hx hrest N Nc HI0 V AP BB HY M X KF
  gi_wp2_with (gi_at_builtin;refine aO ?_)
  refine aH ?_;refine oG (base:=s1+6) (size:=1) rfl (.tmp 31) (.tmp 33) 22 rfl 9 iS _ 16 Tryz.underlying22 WO.o WQ.o VG.o HS2.o rfl (by decide) (.slice Ao L co) L _ rfl HI.o.oO W'.heap.size oA on oc (flat aF go) rfl Y.o.o (fun v hv=>by unfold flat aF at hv;simp at hv;obtain⟨_,_,rfl⟩:=hv;rfl) (by unfold maxLen;omega) (by omega) (by omega) ?_;intro A4 c4 w4 PR hg4 qc qx;rw[<-bQ]at PR;have Xl:=hg4.size;have UB:Hid (∀k,k<s1+6->w4.heap[k]? =W'.heap[k]?):=fun k hk=>hg4.block k (by omega) (fun e=>by have:=(bV HI.o.oO e.symm).1;omega);have HT4:Hid (∀(k:Nat)(e:TypeId)(cur:Array VC),e≠9->W'.heap[k]? =some (.cells cur e (0,0))->w4.heap[k]? =W'.heap[k]?):=fun k e cur he hc=>hg4.block k (Array.getElem?_eq_some_iff.1 hc).1 (fun e2=>by
   obtain⟨_,cur',h2⟩:=bV HI.o.oO e2.symm;rw[hc]at h2;cases h2;exact he rfl)
  have HB4:VF w w4:=HI.o.b.grown hg4 HI.o.b.size (fun k e=>by have:=(bV HI.o.oO e).1;omega);have VI:Hid (Bk w4 bx 92 #[.slice uA un uc,.slice oA on oc,.bool false]):=(HT4.o bx _ _ (by decide) KR.o).trans KR.o;have P:Hid (Bk w4 (s1+1) 22 #[.slice Ao L co]):=(UB.o _ (by omega)).trans HI.o.kO;have au:Hid (Bk w4 (s1+1+1) 31 #[.slice q O G]):=(UB.o _ (by omega)).trans HI.o.kU;have VJ:Hid (w4.ownsRow (s1+6) 85 5 (.slice q O G) O (flat upC (grU (gxG pre)))):=jc HI.o.oU fun k e=>by obtain⟨_,cur,h2⟩:=bV HI.o.oU e;exact HT4.o k _ cur (by decide) h2
  have WX:Hid (Apd w4 0 85 5 uA un uc (flat upC gu)):=Y.o.u.keepB fun k cur _ hc=>HT4.o k _ cur (by decide) hc;have VK:=ai PR;have VL:=ai qc;have VM:=ai qx;clear PR hg4 qc qx cO fO cU fU g0 g1 g2;have cO:=P.o.cell 0;have fO:=P.o.free 0;have cU:=au.o.cell 0;have fU:=au.o.free 0;obtain⟨g0,g1,g2⟩:=VI.o.three;simp at cO cU;have hne1:s1+1+1≠s1+1:=by omega
  have hne2:bx≠s1+1:=by omega
  have VN:bx≠s1+1+1:=by omega
  gi_wp2_with (gi_at_builtin;refine aO ?_)
  obtain⟨W5,T⟩:=NX9 (w4.setCell ⟨s1+1,0,none⟩ (.slice A4 (L+on) c4))
  have bf:Hid (∀k,k≠s1+1->W5.heap[k]? =w4.heap[k]?):=fun k hk=>by rw[<-T];exact Z8 _ _ _ k hk
  have VO:Hid (Bk W5 (s1+1) 22 #[.slice A4 (L+on) c4]):=by rw[<-T];show Bk _ _ _ _;have:=P.o.set 0 (.slice A4 (L+on) c4);simpa using this
  have VP:VF w W5:=by rw[<-T];exact HB4.o.setCell (p:=⟨s1+1,0,none⟩) (by show w.heap.size<=s1+1;omega) _
  have z5:W5.heap.size=w4.heap.size:=by rw[<-T];simp
  rw[T];have lq:Hid (W5.ownsRow (s1+6) 85 5 (.slice q O G) O (flat upC (grU (gxG pre)))):=jc VJ.o fun k e=>bf.o k (by have:=(bV VJ.o e).1;omega);have WY:Hid (Apd W5 0 85 5 uA un uc (flat upC gu)):=WX.o.keepB fun k cur _ hc=>bf.o k (fun e=>by
   subst e;have h1:w4.heap[s1+1]? =_:=P.o;rw[hc]at h1;cases h1)
  have qA:Hid (W5.ownsRow (s1+6) 9 1 (.slice A4 (L+on) c4) (L+on) (flat aF (grO (gxG pre)++go))):=jc VK.o fun k e=>bf.o k (by have:=(bV VK.o e).1;omega);have VQ:Hid (Bk W5 (s1+1+1) 31 #[.slice q O G]):=(bf.o _ hne1).trans au.o;clear T cO fO cU fU g0 g1 g2;refine aH ?_;refine oG (base:=s1+6) (size:=5) rfl (.tmp 35) (.tmp 37) 31 rfl 85 iU _ 48 Tryz.underlying31 WR.o WS.o WT.o WU.o rfl (by decide) (.slice q O G) O _ rfl lq.o W5.heap.size uA un uc (flat upC gu) rfl WY.o.sl (SI gu) (by unfold maxLen;omega) (by omega) (by omega) ?_;intro A6 c6 t Vj bg uw uD;rw[<-bQ]at Vj;have Xm:=bg.size;have Vk:Hid (∀k,k<s1+6->t.heap[k]? =W5.heap[k]?):=fun k hk=>bg.block k (by omega) (fun e=>by have:=(bV lq.o e.symm).1;omega);have V:Hid (∀(k:Nat)(e:TypeId)(cur:Array VC),e≠85->W5.heap[k]? =some (.cells cur e (0,0))->t.heap[k]? =W5.heap[k]?):=fun k e cur he hc=>bg.block k (Array.getElem?_eq_some_iff.1 hc).1 (fun e2=>by
   obtain⟨_,cur',h2⟩:=bV lq.o e2.symm;rw[hc]at h2;cases h2;exact he rfl)
  have WZ:VF w t:=VP.o.grown bg VP.o.size (fun k e=>by have:=(bV lq.o e).1;omega);have wo:Hid (t.ownsRow (s1+6) 9 1 (.slice A4 (L+on) c4) (L+on) (flat aF (grO (gxG pre)++go))):=jc qA.o fun k e=>by obtain⟨_,cur,h2⟩:=bV qA.o e;exact V.o k _ cur (by decide) h2
  have VR:Hid (Bk t (s1+1) 22 #[.slice A4 (L+on) c4]):=(Vk.o _ (by omega)).trans VO.o;have bn:Hid (Bk t (s1+1+1) 31 #[.slice q O G]):=(Vk.o _ (by omega)).trans VQ.o;have VS:=ai Vj;have VT:=ai uw;have VU:=ai uD;clear Vj bg uw uD;have cU:=bn.o.cell 0;have fU:=bn.o.free 0;simp at cU
  gi_wp2
  have hoth:∀k,k≠s1+1+1-> (t.setCell ⟨s1+1+1,0,none⟩ (.slice A6 (O+un) c6)).heap[k]? =t.heap[k]? :=fun k hk=>Z8 _ _ _ k hk;have f:∀k,k<s1+6->k≠s1+1->k≠s1+1+1-> (t.setCell ⟨s1+1+1,0,none⟩ (.slice A6 (O+un) c6)).heap[k]? =W'.heap[k]? :=fun k h1 h2 h3=>(hoth k h3).trans ((Vk.o k h1).trans ((bf.o k h2).trans (UB.o k h1)));have VV: (grO (gxG (pre++ [((uA,un,uc),(oA,on,oc),gu,go)]))).length=L+on:=by rw[Z.o,xW,af,WV.o];show L+go.length=L+on;have:=Y.o.ol;simp only at this;omega
  have VW: (grU (gxG (pre++ [((uA,un,uc),(oA,on,oc),gu,go)]))).length=O+un:=by rw[Z.o,xH,af,WW.o];show O+gu.length=O+un;have:=Y.o.ul;simp only at this;omega
  refine⟨⟨f _ (by omega) (by omega) (by omega),f _ (by omega) (by omega) (by omega)⟩,⟨fun k hk=>f k (by omega) (by omega) (by omega),f _ (by omega) (by omega) (by omega)⟩,A4,c4,A6,c6,?_⟩;rw[VV,VW];refine⟨fun k h1 h2 h3=>(f k (by omega) h2 h3).trans (HI.o.low k h1 h2 h3),(hoth _ (by omega)).trans VR.o,?_,?_,?_,WZ.o.setCell (p:=⟨s1+1+1,0,none⟩) (by show w.heap.size<=s1+1+1;omega) _,by simp;omega,⟨VL.o,VM.o⟩,⟨VT.o,VU.o⟩⟩
  . have:=bn.o.set 0 (.slice A6 (O+un) c6);simpa using this
  . rw[Z.o,xW];exact jc wo.o fun k e=>hoth k (by have:=(bV wo.o e).1;omega)
  . rw[Z.o,xH];exact jc VS.o fun k e=>hoth k (by have:=(bV VS.o e).1;omega)
 case stop=>intro D c pre W _ _ h;exact h.elim
 case done =>
  rintro D xs W' hD hS ⟨Ao,co,q,G,hi⟩ hK;rw[hS]at hi;have VX: (grU gs).length=lg.length:=by rw[<-Aq.o]
  have Xa: (grO gs).length<=49000:=by have h1:=uH gs;have h2:=Vs.o;omega
  obtain⟨L,N⟩:=NX9 ((grO gs).length)
  rw[VX,N]at hi;rw[N]at Xa;have hk6:Bk W' s1 35 #[.int .i64 d.sz,.slice s.a1 n s.c1,.slice s.a2 0 s.c2,.int .i64 d.lf,.slice none 0 0,.slice none 0 0,.slice none 0 0]:=(hi.low s1 (by omega) (by omega) (by omega)).trans V.o;have HD0:Hid (W'.heap[D]? =some (.deferred (some []))):=hK;have Vl:=hi.oO;have Vm:=hi.oU;rw[hS]at Vl Vm;have HI:=ai hi;have Xb:=ai hk6;have hDl:D<W'.heap.size:=(Array.getElem?_eq_some_iff.1 hK).1;have cO:=hi.kO.cell 0;have cU:=hi.kU.cell 0;simp at cO cU;have Xc:Hid (grU gs=lg):=Aq.o.symm;have VY:Hid (Bk W' (w.heap.size+1) 35 rzC):=(hi.low _ (by omega) (by omega) (by omega)).trans (HR1.o.below (HB1.o.trans (M.o.mono (by omega))) (by omega));have VZ:Hid (Bk W' (w.heap.size+1+1) 36 #[.int .i64 0]):=(hi.low _ (by omega) (by omega) (by omega)).trans (HR2.o.below (HB1.o.trans (M.o.mono (by omega))) (by omega));have Xd:Hid (DkM W' s1 d s):=by
   have:=(HM.o.below (HB1.o.trans (M.o.mono (by omega))) (by omega)).more (show B<=w.heap.size by omega);have key:∀k,k<w.heap.size->W'.heap[k]? =w7.heap[k]? :=fun k hk=>hi.low k (by omega) (by omega) (by omega);exact⟨(this.ss.low key).more (by omega),(this.pn.low key).more (by omega)⟩
  have We:=ai (Md p (grO gs) Ao L co W'.heap.size W' (Sl.of_own Vl) aj (by omega) H.o.pl (fun b hb=>(H.o.ob b).1 hb) (fun i hi=>(H.o.ob _).2 ⟨i,hi,rfl⟩));have Xn:=hi.z;have Wh:VF w W':=hi.b;have Xe:Hid (Sl W' W'.heap.size 5 q lg.length (flat upC lg)):=by have:=Sl.of_own Vm;rw[Xc.o]at this;exact this
  clear hi hk6 hK hS Vl Vm VX N HI0 V AP BB HY M X KF HI
  gi_wp2_with fail
  refine⟨trivial,(callsIn_wide.2 We.o).mono ?_⟩;rintro e w8 ⟨pA,pc,rfl,hsp,hpc,hpm,hb8⟩;have z8:=hb8.size;have Wi:=ai hsp;have J:=ai (Xb.o.below hb8 (by omega));have wz:=ai (VY.o.below hb8 (by omega));have xe:=ai (VZ.o.below hb8 (by omega));have Wj:=ai (Xd.o.below hb8 (by omega));have Wl:=ai (Xe.o.below hb8 aj);have Wn:Hid (w8.heap[D]? =some (.deferred (some []))):=(hb8.block D (by omega)).trans HD0.o;have Wp:VF w w8:=Wh.o.trans (hb8.mono Wh.o.size);have Xf:=(hb8.cell (p:=⟨s1+1+1,0,none⟩) (by show s1+1+1<_;omega)).trans cU;clear hsp hb8 We cO cU;obtain⟨⟨t0,t1,t2,t3⟩,t4,t5,t6⟩:=J.o.seven;have f4:=J.o.free 4;have xA:Hid (RpM w8 w8.heap.size ⟨d,p,[],lg⟩ ⟨s,pA,pc,none,0,q,G⟩):=⟨Wj.o.more (by omega),Wi.o,Sl.nil _ _ _ _,Wl.o.more z8,hpc,hpm⟩
  have hne1:s1+1+1≠s1:=by omega
  gi_wp2_with fail
  obtain⟨w9,U⟩:=NX9 (w8.setCell ⟨s1,4,none⟩ (.slice pA p.length pc))
  have bz:Hid (∀k,k≠s1->w9.heap[k]? =w8.heap[k]?):=fun k hk=>by rw[<-U];exact Z8 _ _ _ k hk
  have z9:w9.heap.size=w8.heap.size:=by rw[<-U];simp
  have zk:Hid (Bk w9 s1 35 #[.int .i64 d.sz,.slice s.a1 n s.c1,.slice s.a2 0 s.c2,.int .i64 d.lf,.slice pA p.length pc,.slice none 0 0,.slice none 0 0]):=by rw[<-U];show Bk _ _ _ _;have:=J.o.set 4 (.slice pA p.length pc);simpa using this
  have Q:Hid (RpM w9 w9.heap.size ⟨d,p,[],lg⟩ ⟨s,pA,pc,none,0,q,G⟩):=by have:=xA.o.box J.o (by simp[bxV]) bz.o;exact this.more (by omega)
  have Vo:VF w w9:=by rw[<-U];exact Wp.o.setCell (p:=⟨s1,4,none⟩) (by show w.heap.size<=s1;omega) _
  have zo:Hid (Bk w9 (w.heap.size+1) 35 rzC):=(bz.o _ (by omega)).trans wz.o;have zt:Hid (Bk w9 (w.heap.size+1+1) 36 #[.int .i64 0]):=(bz.o _ (by omega)).trans xe.o;have Wq:Hid (w9.heap[D]? =some (.deferred (some []))):=(bz.o D (by omega)).trans Wn.o;rw[U];clear U t0 t1 t2 t3 t4 t5 t6 f4 Xf J wz xe Wj Wl Wn Wp xA Wi bz;have nz:=ai (Bz none none q 0 0 0 0 lg.length G w9.heap.size [] [] lg w9 (Sl.nil _ _ _ _) (Sl.nil _ _ _ _) Q.o.l aj (by unfold maxLen;omega) (by unfold maxLen;omega) (by omega) (fun u hu=>by have:=(WJ.o u hu).1;unfold maxLen;omega) (fun u hu=>by cases hu));unfold nY at nz;rw[WL.o]at nz;refine⟨trivial,(callsIn_wide.2 nz.o).mono ?_⟩;rintro e wa ⟨rA,rn,rc,lA,ln,lc,rfl,Vp,hrc,_,hsl,_,_,hba⟩;have hrn:rs.length=rn:=Vp.len jg (by omega);have hln:lg.length=ln:=hsl.len gz (by omega);subst hrn hln;have za:=hba.size;have j:=ai (zk.o.below hba (by omega));have zx:=ai (zo.o.below hba (by omega));have zT:=ai (zt.o.below hba (by omega));have Ws:Hid (wa.heap[D]? =some (.deferred (some []))):=(hba.block D (by omega)).trans Wq.o;have Wu:VF w wa:=Vo.o.trans (hba.mono Vo.o.size);have zX:Hid (RpM wa wa.heap.size ⟨d,p,rs,lg⟩ ⟨s,pA,pc,rA,rc,lA,lc⟩):=⟨(Q.o.d.below hba aj).more hba.size,(Q.o.p.below hba aj).more hba.size,Vp,hsl,hpc,hpm⟩
  clear Vp hsl hba nz Q zk zo zt Wq Vo;obtain⟨⟨t0,t1,t2,t3⟩,t4,t5,t6⟩:=j.o.seven;have f5:=j.o.free 5;have f6:=j.o.free 6
  gi_wp2_with fail
  obtain⟨wb,hwb⟩:=NX9 ((wa.setCell ⟨s1,5,none⟩ (.slice rA rs.length rc)).setCell ⟨s1,6,none⟩ (.slice lA lg.length lc))
  have dn:Hid (∀k,k≠s1->wb.heap[k]? =wa.heap[k]?):=fun k hk=>by rw[<-hwb];exact(Z8 _ _ _ k hk).trans (Z8 _ _ _ k hk)
  have zb:wb.heap.size=wa.heap.size:=by rw[<-hwb];simp
  have Wv:Hid (Bk wb s1 35 #[.int .i64 d.sz,.slice s.a1 n s.c1,.slice s.a2 0 s.c2,.int .i64 d.lf,.slice pA p.length pc,.slice rA rs.length rc,.slice lA lg.length lc]):=by rw[<-hwb];show Bk _ _ _ _;have:=(j.o.set 5 (.slice rA rs.length rc)).set 6 (.slice lA lg.length lc);simpa using this
  have R:Hid (RpM wb wb.heap.size ⟨d,p,rs,lg⟩ ⟨s,pA,pc,rA,rc,lA,lc⟩):=by have:=zX.o.box j.o (by simp[bxV]) dn.o;exact this.more (by omega)
  have Wx:VF w wb:=by rw[<-hwb];exact(Wu.o.setCell (p:=⟨s1,5,none⟩) (by show w.heap.size<=s1;omega) _).setCell (p:=⟨s1,6,none⟩) (by show w.heap.size<=s1;omega) _
  have Aj:Hid (Bk wb (w.heap.size+1) 35 rzC):=(dn.o _ (by omega)).trans zx.o;have Ak:Hid (Bk wb (w.heap.size+1+1) 36 #[.int .i64 0]):=(dn.o _ (by omega)).trans zT.o;have Wy:Hid (wb.heap[D]? =some (.deferred (some []))):=(dn.o D (by omega)).trans Ws.o;have WA:Hid (∀x∈rs,WfD x.2):=fun x hx=>by
   have h0:=compl_zero.1 (H.o.co x hx);obtain⟨⟨o,ho,_⟩,_⟩:=h0;rw[jK H.o.pl ho];exact eY _
  rw[hwb];clear hwb t0 t1 t2 t3 t4 t5 t6 f5 f6 j zx zT Ws Wu zX dn
  gi_loopw [63] (fun i wr=>∃k:Nat,k<=rs.length/\i= .int .i64 k/\VF wb wr) (fun i _=>rs.length - (intOf i).toNat)
  case atStart=>exact⟨0,ZX _,rfl,ah _ _⟩
  case round =>
   obtain⟨k,hk,rfl,hBr⟩:=hrel;have E:=ai hBr.o;have zr:=E.o.size;clear hBr;by_cases hlt:k<rs.length
   . obtain⟨bb,off,x,hA,hbb,hx,hc⟩:=(R.o.rf.below E.o aj).at_ jg (by omega) hlt
     have x0:=hc 0 _ rfl;have x1:=hc 1 _ rfl;have x2:=hc 2 _ rfl;simp only at hA;subst hA;have hlz: (k:Int)< (rs.length:Int):=by omega
     have hxm:=Z7 hx;have WB:Hid (dO p x.2=0):=H.o.co x hxm;have WC:Hid (WfD x.2):=WA.o x hxm;obtain⟨xn,x3,x4⟩:=x;simp only[Nat.add_zero]at x0 x1 x2 WB WC;obtain⟨W3,hW3⟩:=NX9 (wr.alloc (.cells #[.string xn,.int .u64 x3,.int .u64 x4] 52))
     have hb3:VE wr W3:=by rw[<-hW3];exact(ah _ wr).alloc aj _
     have HB3:VF wb W3:=E.o.trans (hb3.mono zr);have HCM:=ai (Bv p pA p.length pc wb.heap.size (x3,x4) W3 (R.o.p.below HB3.o aj) HB3.o.size (by omega) H.o.pl WC.o);rw[WB.o]at HCM;simp only[az]at HCM;have hk3:Bk W3 wr.heap.size 52 #[.string xn,.int .u64 x3,.int .u64 x4]:=by rw[<-hW3];exact Bk.new wr _ _
     obtain⟨y0,y1,y2⟩:=hk3.three;clear hc hx hxm hb3 hk3
     gi_wp2_with fail
     refine⟨trivial,(callsIn_wide.2 HCM.o).mono ?_⟩;rintro e w4 ⟨rfl,hb4⟩;have HB4:VF wb w4:=HB3.o.trans (hb4.mono HB3.o.size);clear hb4 HCM x0 x1 x2 hW3 y0 y1 y2
     gi_wp2
     go_roundw
     case rel=>exact⟨k+1,hlt,by go_num,HB4.o⟩
     case measure=>simp[intOf];omega
   . have hlz:¬(k:Int)< (rs.length:Int):=by omega
     have Xg:=ai (Wv.o.below E.o (by omega));have S:=ai (Aj.o.below E.o (by omega));have dN:=ai (Ak.o.below E.o (by omega));have Xh:Hid (wr.heap[D]? =some (.deferred (some []))):=(E.o.block D (by omega)).trans Wy.o;have Xi:VF w wr:=Wx.o.trans (E.o.mono (by omega));have WE:Hid (RpM wr wr.heap.size ⟨d,p,rs,lg⟩ ⟨s,pA,pc,rA,rc,lA,lc⟩):=(R.o.below E.o aj).more zr;obtain⟨⟨t0,t1,t2,t3⟩,t4,t5,t6⟩:=Xg.o.seven;obtain⟨⟨q0,q1,q2,q3⟩,q4,q5,q6⟩:=S.o.seven;obtain⟨⟨f0,f1,f2,f3⟩,f4,f5,f6⟩:=S.o.free7;have e0:=dN.o.cell 0;have e1:=dN.o.free 0;simp at e0;have VN:w.heap.size+1≠w.heap.size+1+1:=by omega
     clear Wv Aj Ak Wy Wx R
     gi_wp2
     obtain⟨V7,ed⟩:=NX9 (((((((wr.setCell ⟨w.heap.size+1,0,none⟩ (.int .i64 d.sz)).setCell ⟨w.heap.size+1,1,none⟩ (.slice s.a1 n s.c1)).setCell ⟨w.heap.size+1,2,none⟩ (.slice s.a2 0 s.c2)).setCell ⟨w.heap.size+1,3,none⟩ (.int .i64 d.lf)).setCell ⟨w.heap.size+1,4,none⟩ (.slice pA p.length pc)).setCell ⟨w.heap.size+1,5,none⟩ (.slice rA rs.length rc)).setCell ⟨w.heap.size+1,6,none⟩ (.slice lA lg.length lc))
     obtain⟨Vf,fA⟩:=NX9 (V7.setCell ⟨w.heap.size+1+1,0,none⟩ (.int .i64 0))
     have Vq:∀k,k≠w.heap.size+1->V7.heap[k]? =wr.heap[k]? :=fun k hk=>by rw[<-ed];exact iM _ _ _ _ _ _ _ _ _ k hk
     have hof:∀k,k≠w.heap.size+1+1->Vf.heap[k]? =V7.heap[k]? :=fun k hk=>by rw[<-fA];exact Z8 _ _ _ k hk
     have Xj:Bk V7 (w.heap.size+1) 35 #[.int .i64 d.sz,.slice s.a1 n s.c1,.slice s.a2 0 s.c2,.int .i64 d.lf,.slice pA p.length pc,.slice rA rs.length rc,.slice lA lg.length lc]:=by rw[<-ed];exact S.o.set7 _ _ _ _ _ _ _
     have WG:Bk V7 (w.heap.size+1+1) 36 #[.int .i64 0]:=(Vq _ (by omega)).trans dN.o;have k1:Bk Vf (w.heap.size+1) 35 #[.int .i64 d.sz,.slice s.a1 n s.c1,.slice s.a2 0 s.c2,.int .i64 d.lf,.slice pA p.length pc,.slice rA rs.length rc,.slice lA lg.length lc]:=(hof _ (by omega)).trans Xj;have k2:Bk Vf (w.heap.size+1+1) 36 #[.int .i64 0]:=by rw[<-fA];have:=WG.set 0 (.int .i64 0);simpa using this
     have hbf:VE w Vf:=by rw[<-fA,<-ed];exact(dQ Xi.o (by omega) _ _ _ _ _ _ _).setCell (p:=⟨w.heap.size+1+1,0,none⟩) (by show w.heap.size<=w.heap.size+1+1;omega) _
     have zf:Vf.heap.size=wr.heap.size:=by rw[<-fA,<-ed];simp
     have hrm:RpM Vf wr.heap.size ⟨d,p,rs,lg⟩ ⟨s,pA,pc,rA,rc,lA,lc⟩:=(WE.o.box S.o (by simp[bxV]) Vq).box WG (by simp[bxV]) hof;have WH:Vf.heap[D]? =some (.deferred (some [])):=(hof D (by omega)).trans ((Vq D (by omega)).trans Xh.o);have hnc:∀o,Vf.cell? ⟨D,o,none⟩=none:=fun o=>by simp[World.cell?,WH]
     rw[ed,fA];refine⟨by simp,.inl ⟨_,_,rfl,run_takeDeferred WH,?_⟩⟩;refine⟨_,TK rfl rfl rfl ((World.putObj_heap_other (by omega)).trans k1) ((World.putObj_heap_other (by omega)).trans k2),⟨s,pA,pc,rA,rc,lA,lc⟩,?_,?_,?_⟩
     . simp only[rpV,rpC,HN.o,WM.o]
     . have:=(hrm.noCell (w':=Vf.putObj D (.deferred none)) hnc (fun k hk=>World.putObj_heap_other hk)).more (show wr.heap.size<= (Vf.putObj D (.deferred none)).heap.size by simp;omega)
       exact this
     . exact hbf.grown (grownBy_putObj' _ _ _) (by have:=hbf.size;simpa using this) (fun k e=>by cases e;omega)
end
