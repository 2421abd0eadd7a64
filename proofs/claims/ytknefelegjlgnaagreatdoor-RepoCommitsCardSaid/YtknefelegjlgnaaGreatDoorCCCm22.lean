/-Lemmas.-/
import Derived.Test.YtknefelegjlgnaaGreatDoorCCCm21
set_option maxRecDepth 100000
set_option maxHeartbeats 16000000
namespace Go.Proofs.YtknefelegjlgnaaGreatDoor
open Go.RowKit
section
theorem uB(s:VB)(h:s.size<128):ax (toL s)=UInt8.ofNat s.size::toL s:=by
 unfold ax;have: (toL s).length=s.size:=by simp[toL]
 rw[this,eH h];rfl
theorem Gu(s:VB)(h:s.size<128):aI (dU s)=1::UInt8.ofNat s.size::toL s:=by
 show ak 1++ax (toL s)=_;rw[eH (by omega),uB s h];rfl
theorem G8(n:VB)(d:Dig)(h:n.size<128):aI (dK [⟨n,false,d⟩])=2::1::UInt8.ofNat n.size:: (toL n++0::ay d):=by
 show ak 2++ (ak 1++ ((ax (toL n)++ (ak 0++ay d))++ []))=_;rw[eH (n:=2) (by omega),eH (n:=1) (by omega),eH (n:=0) (by omega),uB n h];simp
theorem He(t:Dig)(ps:List Dig)(a m:VB)(n:Nat)(h:ps.length<128)(h1:a.size<128)(h2:m.size<128)(h3:n<128) :
  aI ⟨3,⟨#[]⟩,[],t,ps,a,n,m⟩=3:: (ay t++ (UInt8.ofNat ps.length:: (ps.flatMap ay++ (UInt8.ofNat a.size:: (toL a++ (UInt8.ofNat n::UInt8.ofNat m.size::toL m)))))):=by
 show ak 3++ (ay t++ (ak ps.length++ (ps.flatMap ay++ (ax (toL a)++ (ak n++ax (toL m))))))=_;rw[eH (n:=3) (by omega),eH h,uB a h1,uB m h2,eH h3];simp
/-! ### pools in which nothing is missing -/
def Clo(p:List Itm):Prop:=PlOk p/\∀x o,aC p x=some o->∀y∈df o,y≠zD->aC p y≠none
theorem Clo.nil:Clo []:=⟨PlOk.nil,fun x o h=>by simp[aC,bT]at h⟩
theorem Clo.put{p q:List Itm}{o:Ob}(h:Clo p)(ho:OkO o)(hi:bC p o=some q)(hl:∀y∈df o,y≠zD->aC p y≠none):Clo q:=by
 have hq:=lN h.1 ho hi;have hs:=kz h.1 hi;refine⟨hq,fun x o' hx y hy hz=>?_⟩;have hm:aC p y≠none:=by
  obtain⟨ho',hx'⟩:=(iI hq).1 hx;rcases (pW h.1.asc hi _).1 hx' with hx' | hx'
  . exact h.2 x o' ((iI h.1).2 ⟨ho',hx'⟩) y hy hz
  . have e:aI o'=aI o:=by
      have:=congrArg Prod.snd hx';have:=congrArg toL this
      simpa [dE] using this
    rw[EL e ho'.f ho.f]at hy;exact hl y hy hz
 obtain⟨z,hz'⟩:=Option.ne_none_iff_exists'.1 hm;rw[jH h.1 hq hs hz'];simp
theorem Clo.whole{p:List Itm}(h:Clo p){ds:List Dig}(hd:∀d∈ds,aC p d≠none):¬Miss p ds:=by
 have hr:∀x,Rchd p ds x->x=zD∨aC p x≠none:=fun x hx=>by
  induction hx with
  | root h'=>exact .inr (hd _ h')
  | @link d x o _ g m _ =>
    by_cases hz:x=zD
    . exact .inl hz
    . exact .inr (h.2 _ _ g x m hz)
 rintro ⟨x,hx,h1,h2⟩;rcases hr x h1 with h3 | h3
 . exact hx h3
 . exact h3 h2
theorem Gt{p q:List Itm}(hq:AscI q)(h:subP p q):UniR p q q:=⟨hq,fun x=>⟨.inr,fun hx=>hx.elim (h x) id⟩⟩
theorem SX{p:List Itm}(hp:AscI p):UniR p [] p:=⟨hp,fun x=>by simp⟩
theorem xK{p q r:List Itm}{rs rs':List Rf}{lg us:List Upd}(hq:PlOk q)(hr:UniR p q r)(ha:di rs lg us= (rs',lg++us,0))(hu:us≠ [])(hc:∀u∈us,u.2.2≠zD->dO r u.2.2=0) :
  dm p rs lg q us= .app (us,bD (dS p q)) r rs' (lg++us):=by
 unfold dm;rw[yM hr,if_pos ⟨hq,hr.clear,by rw[ha],hc⟩,if_neg (fun h=>hu h.2),ha]
theorem Tq(p:List Itm):iG p []= []:=by
 have h:∀x,¬Rchd p [] x:=fun x hx=>by
  induction hx with
  | root h=>cases h
  | link _ _ _ ih=>exact ih
 unfold iG;rw[List.filter_eq_nil_iff];intro i _
 simpa using h i.1
/-! ### the example -/
attribute [local irreducible] ofB ay
def zA:VB:=⟨#[97]⟩
def z1:VB:=⟨#[49]⟩
def z2:VB:=⟨#[50]⟩
def zTr:VB:=⟨#[116,114,117,110,107]⟩
def zFi:VB:=⟨#[102,105,114,115,116]⟩
def zSe:VB:=⟨#[115,101,99,111,110,100]⟩
def bB1:VD:= [1,1,49]
def bB2:VD:= [1,1,50]
def bT1:VD:= [2,1,1,97,0]++ay (ofB bB1)
def bT2:VD:= [2,1,1,97,0]++ay (ofB bB2)
def bC1:VD:=3:: (ay (ofB bT1)++ [0,3,97,110,110,1,5,102,105,114,115,116])
def bC2:VD:=3:: (ay (ofB bT2)++1:: (ay (ofB bC1)++ [3,97,110,110,2,6,115,101,99,111,110,100]))
def itZ(b:VD):Itm:=(ofB b,ofL b)
def k1:List Itm:=(dC [] (itZ bB1)).getD []
def k2:List Itm:=(dC k1 (itZ bT1)).getD []
def k3:List Itm:=(dC k2 (itZ bC1)).getD []
def k4:List Itm:=(dC k3 (itZ bB2)).getD []
def k5:List Itm:=(dC k4 (itZ bT2)).getD []
def k6:List Itm:=(dC k5 (itZ bC2)).getD []
theorem ng{α:Type}{o:Option (List α)}(h:o.isSome=true):o=some (o.getD []):=by cases o with | none=>cases h | some _=>rfl
theorem j1:dC [] (itZ bB1)=some k1:=ng (by decide +kernel)
theorem j2:dC k1 (itZ bT1)=some k2:=ng (by decide +kernel)
theorem j3:dC k2 (itZ bC1)=some k3:=ng (by decide +kernel)
theorem j4:dC k3 (itZ bB2)=some k4:=ng (by decide +kernel)
theorem j5:dC k4 (itZ bT2)=some k5:=ng (by decide +kernel)
theorem j6:dC k5 (itZ bC2)=some k6:=ng (by decide +kernel)
def oB1:Ob:=dU z1
def oB2:Ob:=dU z2
def oT1:Ob:=dK [⟨zA,false,ofB bB1⟩]
def oT2:Ob:=dK [⟨zA,false,ofB bB2⟩]
def oC1:Ob:=aY (ofB bT1) zD dW zFi 1
def oC2:Ob:=aY (ofB bT2) (ofB bC1) dW zSe 2
theorem eB1:aI oB1=bB1:=Gu z1 (by decide)
theorem eB2:aI oB2=bB2:=Gu z2 (by decide)
theorem eT1:aI oT1=bT1:=G8 zA _ (by decide)
theorem eT2:aI oT2=bT2:=G8 zA _ (by decide)
theorem eC1:aI oC1=bC1:=by
 unfold oC1 aY;rw[if_pos rfl];exact He (ofB bT1) [] dW zFi 1 (by decide) (by decide) (by decide) (by decide)
theorem eC2:aI oC2=bC2:=by
 unfold oC2 aY;rw[if_neg (jL _)];refine(He (ofB bT2) [ofB bC1] dW zSe 2 (by decide) (by decide) (by decide) (by decide)).trans ?_;rw[List.flatMap_cons,List.flatMap_nil,List.append_nil];rfl
theorem kB1:OkO oB1:=pU (by decide)
theorem kB2:OkO oB2:=pU (by decide)
theorem Jk{d:Dig}(h:WfD d)(h2:d≠zD):OkO (dK [⟨zA,false,d⟩]):=sH ⟨by simp,fun e he=>by rw[List.mem_singleton.1 he];exact⟨(by decide +kernel:nameB zA=true),h,h2⟩,fun j a b _ h=>by simp at h⟩
theorem kT1:OkO oT1:=Jk (eY _) (jL _)
theorem kT2:OkO oT2:=Jk (eY _) (jL _)
theorem Jc:lC dW zFi 1:=⟨by decide +kernel,by decide,by decide,by decide⟩
theorem Ji:lC dW zSe 2:=⟨by decide +kernel,by decide,by decide,by decide⟩
theorem kC1:OkO oC1:=qI Jc (eY _) (jL _) ⟨by decide,by decide,by decide,by decide⟩
theorem kC2:OkO oC2:=qI Ji (eY _) (jL _) (eY _)
theorem p1:bC [] oB1=some k1:=by unfold bC;rw[eB1];exact j1
theorem p2:bC k1 oT1=some k2:=by unfold bC;rw[eT1];exact j2
theorem p3:bC k2 oC1=some k3:=by unfold bC;rw[eC1];exact j3
theorem p4:bC k3 oB2=some k4:=by unfold bC;rw[eB2];exact j4
theorem p5:bC k4 oT2=some k5:=by unfold bC;rw[eT2];exact j5
theorem p6:bC k5 oC2=some k6:=by unfold bC;rw[eC2];exact j6
theorem dB1:dgO oB1=ofB bB1:=by unfold dgO;rw[eB1]
theorem dB2:dgO oB2=ofB bB2:=by unfold dgO;rw[eB2]
theorem dT1:dgO oT1=ofB bT1:=by unfold dgO;rw[eT1]
theorem dT2:dgO oT2=ofB bT2:=by unfold dgO;rw[eT2]
theorem dC1:dgO oC1=ofB bC1:=by unfold dgO;rw[eC1]
theorem dC2:dgO oC2=ofB bC2:=by unfold dgO;rw[eC2]
theorem c1:Clo k1:=Clo.nil.put kB1 p1 (fun y hy=>by simp[df,oB1,dU]at hy)
theorem g1B:aC k1 (ofB bB1)=some oB1:=dB1 ▸ jZ Clo.nil.1 kB1 p1
theorem c2:Clo k2:=c1.put kT1 p2 (fun y hy _=>by
 simp[df,oT1,dK]at hy;rw[hy,g1B];simp)
theorem g2T:aC k2 (ofB bT1)=some oT1:=dT1 ▸ jZ c1.1 kT1 p2
theorem c3:Clo k3:=c2.put kC1 p3 (fun y hy _=>by
 simp[df,oC1,aY]at hy;rw[hy,g2T];simp)
theorem g3C:aC k3 (ofB bC1)=some oC1:=dC1 ▸ jZ c2.1 kC1 p3
theorem c4:Clo k4:=c3.put kB2 p4 (fun y hy=>by simp[df,oB2,dU]at hy)
theorem g4B:aC k4 (ofB bB2)=some oB2:=dB2 ▸ jZ c3.1 kB2 p4
theorem c5:Clo k5:=c4.put kT2 p5 (fun y hy _=>by
 simp[df,oT2,dK]at hy;rw[hy,g4B];simp)
theorem g5T:aC k5 (ofB bT2)=some oT2:=dT2 ▸ jZ c4.1 kT2 p5
theorem sub35:subP k3 k5:=(kz c3.1 p4).trans (kz c4.1 p5)
theorem UR:subP k3 k6:=sub35.trans (kz c5.1 p6)
theorem g5C:aC k5 (ofB bC1)=some oC1:=jH c3.1 c5.1 sub35 g3C
theorem c6:Clo k6:=c5.put kC2 p6 (fun y hy _=>by
 simp[df,oC2,aY,jL]at hy;rcases hy with rfl | rfl
 . rw[g5T];simp
 . rw[g5C];simp)
theorem g6C:aC k6 (ofB bC2)=some oC2:=dC2 ▸ jZ c5.1 kC2 p6
theorem m3:dO k3 (ofB bC1)=0:=compl_zero.2 ⟨⟨_,g3C,rfl⟩,c3.whole (fun d hd=>by rw[List.mem_singleton.1 hd,g3C];simp)⟩
theorem m6:dO k6 (ofB bC2)=0:=compl_zero.2 ⟨⟨_,g6C,rfl⟩,c6.whole (fun d hd=>by rw[List.mem_singleton.1 hd,g6C];simp)⟩
theorem ckz{s:VB}(h:s.size<=60000):TckR [(zA,s)] 0:=RU ⟨fun f hf=>by rw[List.mem_singleton.1 hf];exact(by decide +kernel:dh zA=true),fun f hf=>by rw[List.mem_singleton.1 hf];exact h,by simp,by simp,fun f hf g hg=>by rw[List.mem_singleton.1 hf,List.mem_singleton.1 hg];exact(by decide +kernel:jR zA zA=false)⟩ (by unfold AscF;simp)
theorem nmz(s:VB):bJ [(zA,s)]= [zA]:=by
 show gq [] (fsN zA)= [zA]
 decide +kernel
theorem lkz(s:VB):eF [(zA,s)] zA=some s:=by unfold eF;simp
theorem Vg:sto 101 [] [(zA,z1)]=some (k2,ofB bT1):=by
 rw[sto,nmz,pq (lkz z1) p1,dP,List.nil_append];have h:dgO (dU z1)=ofB bB1:=dB1;have h2:bC k1 (dK [⟨zA,false,ofB bB1⟩])=some k2:=p2;have h3:dgO (dK [⟨zA,false,ofB bB1⟩])=ofB bT1:=dT1;rw[h];simp only;rw[h2];simp only[h3]
theorem U8:sto 101 k3 [(zA,z2)]=some (k5,ofB bT2):=by
 rw[sto,nmz,pq (lkz z2) p4,dP,List.nil_append];have h:dgO (dU z2)=ofB bB2:=dB2;have h2:bC k4 (dK [⟨zA,false,ofB bB2⟩])=some k5:=p5;have h3:dgO (dK [⟨zA,false,ofB bB2⟩])=ofB bT2:=dT2;rw[h];simp only;rw[h2];simp only[h3]
def lg1:List Upd:= [(zTr,zD,ofB bC1)]
def rs1:List Rf:= [(zTr,ofB bC1)]
def lg2:List Upd:= [(zTr,zD,ofB bC1),(zTr,ofB bC1,ofB bC2)]
def rs2:List Rf:= [(zTr,ofB bC2)]
def lg3:List Upd:= [(zTr,zD,ofB bC1),(zTr,ofB bC1,ofB bC2),(zTr,ofB bC2,zD)]
theorem ap1:di [] [] [(zTr,zD,ofB bC1)]= (rs1,[]++ [(zTr,zD,ofB bC1)],0):=by decide +kernel
theorem ap2:di rs1 lg1 [(zTr,ofB bC1,ofB bC2)]= (rs2,lg1++ [(zTr,ofB bC1,ofB bC2)],0):=by decide +kernel
theorem ap3:di rs2 lg2 [(zTr,ofB bC2,zD)]= ([],lg2++ [(zTr,ofB bC2,zD)],0):=by decide +kernel
theorem gt0:aW [] [] zTr= (zD,8):=by decide +kernel
theorem gt1:aW rs1 lg1 zTr= (ofB bC1,0):=by decide +kernel
theorem neT:ofB bT1≠ofB bT2:=by decide +kernel
theorem neC:ofB bC1≠ofB bC2:=by decide +kernel
def gr1:Gru:=([(zTr,zD,ofB bC1)],bD (dS [] k3))
def gr2:Gru:=([(zTr,ofB bC1,ofB bC2)],bD (dS k3 k6))
def gr3:Gru:=([(zTr,ofB bC2,zD)],[])
def gr4:Gru:=(lg3,[])
theorem pl1:eU [] [] [] zTr [(zA,z1)] dW zFi 1= (.app gr1 k3 rs1 lg1,ofB bC1):=by
 unfold eU;rw[gt0,if_neg (by simp),if_pos (ckz (by decide)),Vg];simp only;rw[if_neg (fun h=>h.1 rfl)];have h1:bC k2 (aY (ofB bT1) zD dW zFi 1)=some k3:=p3;have h2:dgO (aY (ofB bT1) zD dW zFi 1)=ofB bC1:=dC1;rw[h1];simp only;rw[h2,xK c3.1 (Gt c3.1.asc (fun i h=>by cases h)) ap1 (by simp) (fun u hu _=>by rw[List.mem_singleton.1 hu];exact m3)];rfl
theorem pl2:eU k3 rs1 lg1 zTr [(zA,z2)] dW zSe 2= (.app gr2 k6 rs2 lg2,ofB bC2):=by
 unfold eU;rw[gt1,if_neg (by simp),if_pos (ckz (by decide)),U8];simp only;rw[if_neg (fun h=>by
  obtain⟨_,o,ho,he⟩:=h;rw[g3C]at ho;cases ho
  exact neT he)]
 have h1:bC k5 (aY (ofB bT2) (ofB bC1) dW zSe 2)=some k6:=p6;have h2:dgO (aY (ofB bT2) (ofB bC1) dW zSe 2)=ofB bC2:=dC2;rw[h1];simp only;rw[h2,xK c6.1 (Gt c6.1.asc UR) ap2 (by simp) (fun u hu _=>by rw[List.mem_singleton.1 hu];exact m6)];rfl
theorem pl3:dm k6 rs2 lg2 [] [(zTr,ofB bC2,zD)]= .app gr3 k6 [] lg3:=by
 rw[xK PlOk.nil (SX c6.1.asc) ap3 (by simp) (fun u hu h=>by rw[List.mem_singleton.1 hu]at h;exact absurd rfl h)];rfl
theorem qF:k6.length=6:=by decide +kernel
theorem pl4:gZ k6 [] lg3= .rew gr4 [] [] lg3:=by
 unfold gZ;rw[Tq,if_neg (by rw[qF];decide)];rfl
/-! ### room on the disk -/
theorem GG(t:VD)(h:t.length<=65536): (ax t).length<=6+t.length:=by
 unfold ax;have:=fK (n:=t.length) (by omega);simp only[af];omega
theorem Ff:∀l:List VD,(∀t∈l,t.length<=65536)-> (l.flatMap ax).length<=6*l.length+ (l.map List.length).sum
 | [],_=>by simp
 | t::l,h=>by
   have h1:=Ff l (fun x hx=>h x (by simp[hx]));have h2:=GG t (h t (by simp));simp only[List.flatMap_cons,af,Z4,List.map_cons,List.sum_cons];omega
theorem Sz{l:List VD}{N:Nat}(h:fV l)(hN:6*l.length+ (l.map List.length).sum<=N): (aB l).length<=N+13:=by
 have h1:=Ff l h.2;have h2:=fK (n:=l.length) (by have:=h.1;omega);have h3:=pR h;have h4:=fK (n:=(bY l).length) (by omega);unfold aB;simp only[Z4,af];have: (bY l).length= (ak l.length).length+ (l.flatMap ax).length:=by unfold bY;rw[af]
 omega
theorem Ej:∀us:List Upd,(∀u∈us,u.1.size<=5)-> (bP us).length<=43*us.length
 | [],_=>by simp[bP]
 | u::us,h=>by
   have h1:=Ej us (fun x hx=>h x (by simp[hx]));have h0:=h u (by simp);rw[aQ]at h0;have h2:=GG (toL u.1) (by omega);have h3: (gW u).length<=43:=by unfold gW;simp only[af,iE];omega
   unfold bP at h1 ⊢;rw[List.flatMap_cons,af,Z4];omega
theorem QG{us:List Upd}{n:Nat}(hn:n<=1000)(h1:us.length<=1000)(h:∀u∈us,u.1.size<=5): (headB us n).length<=12+43*us.length:=by
 have h2:=Ej us h;have h3:=fK (n:=n) (by omega);have h4:=fK (n:=us.length) (by omega);unfold headB encR;rw[if_neg (by omega)];split <;> simp only[af,List.length_nil] <;> omega
theorem uj{g:Gru}{M S:Nat}(h1:g.1.length<=3)(hu:∀u∈g.1,u.1.size<=5)(h2:g.2.length<=3)(h3:∀t∈g.2,t.length<=65536)(h4: (g.2.map List.length).sum<=S)(hM:12+43*g.1.length<=M) :
  fV (aN g)/\ (aB (aN g)).length<=M+S+37:=by
 have h5:=QG (us:=g.1) (n:=g.2.length) (by omega) (by omega) hu;have hf:fV (aN g):=⟨by unfold aN;rw[Z4];omega,fun t ht=>by
  rcases List.mem_cons.1 ht with rfl | ht
  . omega
  . exact h3 t ht⟩
 refine⟨hf,?_⟩;have:=Sz (N:=24+M+S) hf (by unfold aN;simp only[Z4,List.map_cons,List.sum_cons];omega);omega
theorem ft1:fV (aN gr1)/\ (aB (aN gr1)).length<=192:=by
 have:=uj (g:=gr1) (M:=55) (S:=100) (by decide) (by decide +kernel) (by decide +kernel) (by decide +kernel) (by decide +kernel) (by decide);exact this
theorem ft2:fV (aN gr2)/\ (aB (aN gr2)).length<=192:=by
 have:=uj (g:=gr2) (M:=55) (S:=100) (by decide) (by decide +kernel) (by decide +kernel) (by decide +kernel) (by decide +kernel) (by decide);exact this
theorem ft3:fV (aN gr3)/\ (aB (aN gr3)).length<=192:=by
 have:=uj (g:=gr3) (M:=55) (S:=100) (by decide) (by decide +kernel) (by decide) (by decide) (by decide) (by decide);exact this
theorem ft4:fV (aN gr4)/\ (aB (aN gr4)).length<=192:=by
 have:=uj (g:=gr4) (M:=141) (S:=14) (by decide) (by decide +kernel) (by decide) (by decide) (by decide) (by decide);exact this
structure AwS(d:Dk)(gs:List Gru)(u:Nat):Prop where
 ok:d.Ok
 pn:d.pn= []
 lf:d.lf= -1
 n:d.ss.length=41
 z:d.sz=64
 jn:Jn d.sz d.ss 1 (recs gs) u
theorem AwS.sec3{d:Dk}{gs:List Gru}{u:Nat}(h:AwS d gs u){l:List VD}(hft:fV l/\ (aB l).length<=192):SecF d.sz l (secs d.sz (aB l))/\ (secs d.sz (aB l)).length<=3:=by
 refine⟨⟨hft.1,rfl⟩,?_⟩;rw[(mV h.jn.sz0 _ _ aj).1,h.z];unfold nsec;have:=hft.2;omega
theorem AwS.app{d:Dk}{gs:List Gru}{u:Nat}{g:Gru}(h:AwS d gs u)(hft:fV (aN g)/\ (aB (aN g)).length<=192)(hu:u<=15): (dG d 1 u (aN g)).2=0/\∃u',u'<=u+3/\AwS (dG d 1 u (aN g)).1 (gs++ [g]) u':=by
 obtain⟨hS,hl⟩:=h.sec3 hft;have hh:hf d.ss=20:=by unfold Go.Proofs.YtknefelegjlgnaaGreatDoor.hf;rw[h.n]
 unfold dG;rw[if_neg (by simpa using fitB_iff.2 hft.1),if_neg (by omega)];have hk: (secs d.sz (aB (aN g))).length<=Go.Proofs.YtknefelegjlgnaaGreatDoor.hf d.ss - u:=by omega
 obtain⟨hk',hfit⟩:=yG h.jn hS hk;obtain⟨r1,r2⟩:=rW (fM d.sz d.ss 1 u (secs d.sz (aB (aN g)))) d h.lf;have he: (⟨d.sz,d.ss,[],d.lf⟩:Dk)=d:=by rw[<-h.pn]
 have hs:=(Cb (lf:=d.lf) h.jn hS hk' (pre:=fM d.sz d.ss 1 u (secs d.sz (aB (aN g)))) (suf:= []) (by simp) []).2 rfl;simp only[he]at hs;obtain⟨o1,o2,o3⟩:=uu _ d h.ok hfit;rw[r1];refine⟨rfl,u+ (secs d.sz (aB (aN g))).length,by omega,o1,hs.1,r2,by show List.length _=41;rw[o3,h.n],by show Dk.sz _=64;rw[o2,h.z],?_⟩;show Jn (Dk.sz _) _ 1 (recs (gs++ [g])) _;rw[o2,wW];exact hs.2
theorem AwS.rew{d:Dk}{gs:List Gru}{u:Nat}{g:Gru}(h:AwS d gs u)(hft:fV (aN g)/\ (aB (aN g)).length<=192): (dV d 1 (aN g)).2=0:=by
 obtain⟨hS,hl⟩:=h.sec3 hft;have hh:Go.Proofs.YtknefelegjlgnaaGreatDoor.hf d.ss=20:=by unfold Go.Proofs.YtknefelegjlgnaaGreatDoor.hf;rw[h.n]
 unfold dV;rw[if_neg (by simpa using fitB_iff.2 hft.1),if_neg (by omega),(rW _ d h.lf).1]
theorem AwS.start:AwS (aJ (aX 41 64) (bW 64 (aX 41 64).ss)).1 [] 0/\ (aJ (aX 41 64) (bW 64 (aX 41 64).ss)).2=0:=by
 have ho: (aX 41 64).Ok:=ug (by decide) (by decide) (by decide) (by decide);have hn: (aX 41 64).ss.length=41:=by simp[aX]
 obtain⟨h1,h2,h3,h4⟩:=Gl (d:=aX 41 64) ho (by rw[hn];decide) rfl rfl;exact⟨⟨h2.ok,h2.pn,h3,by rw[(lM _ _).2];exact hn,(lM _ _).1,h4⟩,h1⟩
theorem mt1:Mt [gr1] k3 rs1 lg1:=by
 have h:kZ [] (eU [] [] [] zTr [(zA,z1)] dW zFi 1).1:=tC Mt.nil (by decide);rw[pl1]at h;exact h (fitB_iff.2 ft1.1)
theorem mt2:Mt [gr1,gr2] k6 rs2 lg2:=by
 have h:kZ [gr1] (eU k3 rs1 lg1 zTr [(zA,z2)] dW zSe 2).1:=tC mt1 (by decide);rw[pl2]at h;exact h (fitB_iff.2 ft2.1)
theorem mt3:Mt [gr1,gr2,gr3] k6 [] lg3:=by
 have h:kZ [gr1,gr2] (dm k6 rs2 lg2 [] [(zTr,ofB bC2,zD)]):=xO mt2 (fun u hu=>by
  rw[List.mem_singleton.1 hu];exact⟨by decide,eY _,⟨by decide,by decide,by decide,by decide⟩⟩)
 rw[pl3]at h;exact h (fitB_iff.2 ft3.1)
end
section
set_option maxRecDepth 100000
set_option maxHeartbeats 2000000
attribute [local irreducible] ofB ay
def qY(w:VA)(e:Ending)(w':VA):Prop:=e= .returned (.bool true)/\VE w w'
def St0(r:Rp):Prop:=∃d,AwS d [] 0/\r= ⟨d,[],[],[]⟩
def St1(r:Rp):Prop:=∃d u,AwS d [gr1] u/\u<=3/\r= ⟨d,k3,rs1,lg1⟩
def St2(r:Rp):Prop:=∃d u,AwS d [gr1,gr2] u/\u<=6/\r= ⟨d,k6,rs2,lg2⟩
def St3(r:Rp):Prop:=∃d u,AwS d [gr1,gr2,gr3] u/\u<=9/\r= ⟨d,k6,[],lg3⟩
theorem IB{r:Rp}{a u:Nat}{g:Gru}{p:List Itm}{rs:List Rf}{lg:List Upd}{pd:Dig}{w w':VA}{e:Ending}(h:CmtE r a u (.app g p rs lg,pd) w e w')(h0: (dG r.d a u (aN g)).2=0):jm ⟨(dG r.d a u (aN g)).1,p,rs,lg⟩ pd 0 w e w':=by
 unfold CmtE after at h;simp only[h0,if_true]at h;exact h
theorem Uo:k3.length<=49000:=by decide +kernel
variable {r : Rp} {s : Rsl} {B : Nat} {w : VA}
theorem SG:lg3.length=3:=rfl
attribute [local irreducible] k3 k6 rs1 rs2 lg1 lg2 lg3 gr1 gr2 gr3 gr4
theorem awI(s:Dsl)(hm:DkM w B (aX 41 64) s)(hB:B<=w.heap.size):Calls Tryz.prog 13 #[dkV (aX 41 64) s] w fun e w'=>∃r,St0 r/\fG r 0 w e w':=by
 obtain⟨h1,h2⟩:=AwS.start;have ho: (aX 41 64).Ok:=ug (by decide) (by decide) (by decide) (by decide);have hn: (aX 41 64).ss.length=41:=by simp[aX]
 have:=Et (aX 41 64) s B w ho (by rw[hn];decide) (ZX _) hm hB;have hz: (aX 41 64).sz=64:=rfl;rw[hz,h2]at this;exact this.mono fun e w' h=>⟨_,⟨_,h1,rfl⟩,h⟩
theorem Ve(hpck:kF)(A:OA)(c:Nat)(hr:St0 r)(hm:RpM w B r s)(hB:B<=w.heap.size)(h1:Sl w B 2 A 1 (flat flC [(zA,z1)])) :
  Calls Tryz.prog 28 #[rpV r s,.string zTr,.slice A 1 c,.string dW,.string zFi,.int .i64 1] w fun e w'=>∃r' d,St1 r'/\d=ofB bC1/\jm r' d 0 w e w':=by
 obtain⟨d,ha,rfl⟩:=hr;have:=oV hpck ⟨d,[],[],[]⟩ s [] 1 0 zTr [(zA,z1)] A 1 c dW zFi 1 B w ha.ok ha.pn ha.jn Mt.nil (ZX _) hm hB h1 (by decide) (by decide) (fun f hf=>by rw[List.mem_singleton.1 hf];exact⟨by decide,by decide⟩) Jc;simp only[pl1]at this;obtain⟨h2,u',h3,h4⟩:=ha.app ft1 (by omega);exact this.mono fun e w' h=>⟨_,_,⟨_,u',h4,by omega,rfl⟩,rfl,IB h h2⟩
theorem U9(hpck:kF)(A:OA)(c:Nat)(hr:St1 r)(hm:RpM w B r s)(hB:B<=w.heap.size)(h1:Sl w B 2 A 1 (flat flC [(zA,z2)])) :
  Calls Tryz.prog 28 #[rpV r s,.string zTr,.slice A 1 c,.string dW,.string zSe,.int .i64 2] w fun e w'=>∃r' d,St2 r'/\d=ofB bC2/\jm r' d 0 w e w':=by
 obtain⟨d,u,ha,hu,rfl⟩:=hr;have:=oV hpck ⟨d,k3,rs1,lg1⟩ s [gr1] 1 u zTr [(zA,z2)] A 1 c dW zSe 2 B w ha.ok ha.pn ha.jn mt1 Uo hm hB h1 (by decide) (by decide) (fun f hf=>by rw[List.mem_singleton.1 hf];exact⟨by decide,by decide⟩) Ji;simp only[pl2]at this;obtain⟨h2,u',h3,h4⟩:=ha.app ft2 (by omega);exact this.mono fun e w' h=>⟨_,_,⟨_,u',h4,by omega,rfl⟩,rfl,IB h h2⟩
theorem awW(hpck:kF)(A:OA)(c:Nat)(hr:St2 r)(hm:RpM w B r s)(hB:B<=w.heap.size)(h1:Sl w B 5 A 1 (flat upC [(zTr,ofB bC2,zD)])) :
  Calls Tryz.prog 35 #[rpV r s,.slice none 0 0,.slice A 1 c] w fun e w'=>∃r',St3 r'/\r'.p.length=6/\fG r' 0 w e w':=by
 obtain⟨d,u,ha,hu,rfl⟩:=hr;have:=wI hpck ⟨d,k6,rs2,lg2⟩ s [gr1,gr2] 1 u [] none 0 0 [(zTr,ofB bC2,zD)] A 1 c B w ha.ok ha.pn ha.jn mt2 (by rw[qF];decide) hm hB (Sl.nil _ _ _ _) h1 (by decide) (fun i hi=>by cases hi) (fun i hi=>by cases hi) (by decide) (fun x hx=>by rw[List.mem_singleton.1 hx];exact⟨by decide,eY _,⟨by decide,by decide,by decide,by decide⟩⟩);simp only[pl3]at this;obtain⟨h2,u',h3,h4⟩:=ha.app ft3 (by omega);refine this.mono fun e w' h=>⟨_,⟨_,u',h4,by omega,rfl⟩,qF,?_⟩
 unfold ExE after at h;simp only[h2,if_true]at h;exact h
theorem awK(hr:St3 r)(hm:RpM w B r s)(hB:B<=w.heap.size) :
  Calls Tryz.prog 17 #[rpV r s] w fun e w'=>∃r',r'.p.length=0/\r'.lg.length=3/\nZ r' 6 0 w e w':=by
 obtain⟨d,u,ha,hu,rfl⟩:=hr;have:=BQ ⟨d,k6,[],lg3⟩ s [gr1,gr2,gr3] 1 u B w ha.ok ha.pn ha.jn mt3 (by rw[qF];decide) hm hB;simp only[pl4]at this;have h2:=ha.rew ft4;refine this.mono fun e w' h=>?_;unfold CoE after at h;simp only[h2,if_true,qF]at h;exact⟨_,rfl,SG,h⟩
structure AwI(w:VA)(b:Nat)(r:Rp)(s:Rsl)(W:VA):Prop where
 n:Bk W b 35 (rpC r s)
 m:RpM W W.heap.size r s
 bl:VE w W
 z:w.heap.size<=b/\b<W.heap.size
theorem AwI.up{w:VA}{b:Nat}{r:Rp}{s:Rsl}{W W':VA}(h:AwI w b r s W)(hb:VE W W'):AwI w b r s W' :=
 ⟨h.n.below hb h.z.2,(h.m.below hb aj).more hb.size,h.bl.trans (hb.mono h.bl.size),h.z.1,Nat.lt_of_lt_of_le h.z.2 hb.size⟩
theorem AwI.sto{w:VA}{b:Nat}{r r':Rp}{s s':Rsl}{W w1:VA}(h:AwI w b r s W)(h1:RpM w1 w1.heap.size r' s')(hb:VE W w1):AwI w b r' s' (stR w1 b r' s'):=by
 have h2:=h.up hb;have e:=iT w1 b r' s';exact⟨h2.n.set7 _ _ _ _ _ _ _,(h1.st h2.n).more (Nat.le_of_eq e.symm),dQ h2.bl h2.z.1 _ _ _ _ _ _ _,h2.z.1,by rw[e];exact h2.z.2⟩
theorem AwI.dig{w:VA}{b:Nat}{r r':Rp}{s s':Rsl}{W w1 W2:VA}(h:AwI w b r s W)(h1:RpM w1 w1.heap.size r' s')(hb:VE W w1)(x y:Int)
  (hW2: (stR w1 b r' s').alloc (.cells #[.int .u64 x,.int .u64 y] 50)=W2):AwI w b r' s' W2/\Bk W2 w1.heap.size 50 #[.int .u64 x,.int .u64 y]/\w1.heap.size<W2.heap.size:=by
 have h2:=h.sto h1 hb;have e:=iT w1 b r' s';rw[<-hW2];exact⟨h2.up ((ah _ _).alloc aj _),(Bk.new _ _ _).at_ e,by simp;omega⟩
theorem yZ{b c:Nat}{r':Rp}{s':Rsl}{w1:VA}{t:TypeId}{cs:Array VC}(hk:Bk w1 c t cs)(hne:c≠b):Bk (stR w1 b r' s') c t cs:=(iM _ _ _ _ _ _ _ _ _ _ hne).trans hk
end
section
set_option maxRecDepth 100000
attribute [local irreducible] ofB ay k3 k6 rs1 rs2 lg1 lg2 lg3 gr1 gr2 gr3 gr4
theorem N7(hpck:kF)(w:VA):Calls Tryz.prog 10 #[] w (qY w):=by
 have HN:=ai (fun w=>Ew 41 64 w);rw[show jP 41 64=true by decide]at HN;simp only[if_true]at HN;unfold bG at HN;have HI:Hid (∀(d:Dk)(s:Dsl)(w1:VA),d=aX 41 64->DkM w1 w1.heap.size d s->Calls Tryz.prog 13 #[dkV d s] w1 fun e w'=>∃r,St0 r/\fG r 0 w1 e w'):=fun d s w1 h hm=>by rw[h]at hm ⊢;exact awI s hm aj
 obtain⟨d,hd⟩:=NX9 (aX (41:Int).toNat (64:Int).toNat)
 have HD:Hid (d=aX 41 64):=hd.symm;rw[hd]at HN;clear hd;obtain⟨n1,h1⟩:=NX9 d.ss.length
 obtain⟨n2,h2⟩:=NX9 d.pn.length
 simp only[dkV,dkC,h1,h2]at HN HI;unfold fG at HI;have H1:=ai h1;have H2:=ai h2;clear h1 h2;unfold qY
 go_enter Tryz.func10,Tryz.ntmps10
 go_wp2_with fail;refine(HN.o _).mono ?_;rintro e w1 ⟨s1,rfl,hm1,hb1⟩;obtain⟨W2,hW2⟩:=NX9 (w1.alloc (.cells #[.int .i64 d.sz,.slice s1.a1 n1 s1.c1,.slice s1.a2 n2 s1.c2,.int .i64 d.lf] 25))
 have hb2:VE w1 W2:=by rw[<-hW2];exact(ah _ w1).alloc aj _
 have HB2:VF w W2:=hb1.trans (hb2.mono hb1.size);have HC:=HI.o d s1 W2 HD.o ((hm1.below hb2 aj).more hb2.size);simp only[H1.o,H2.o]at HC;have HC:=ai HC;have HW2:=ai hW2;clear hW2 hb1 hb2 hm1 HN HI;go_wp2_with fail;rw[HW2.o];refine HC.o.mono ?_;rintro e w3 ⟨r3,hr3,s3,rfl,E,hb3⟩;have HB3:VF w w3:=HB2.o.trans (hb3.mono HB2.o.size);have F:=ai E;have z3:=HB3.o.size;clear hb3 E HC HB2 HW2 H1 H2 HD;obtain⟨b0,hb0⟩:=NX9 w3.heap.size
 obtain⟨W3,hW3⟩:=NX9 (w3.alloc (.cells (rpC r3 s3) 35))
 have hbW:VE w3 W3:=by rw[<-hW3];exact(ah _ w3).alloc aj _
 have y:Hid (AwI w b0 r3 s3 W3):=⟨by rw[<-hW3,<-hb0];exact Bk.new _ _ _,(F.o.below hbW aj).more hbW.size,HB3.o.trans (hbW.mono z3),by rw[<-hb0];exact z3,by rw[<-hb0,<-hW3];simp⟩
 have A:=ai hW3;clear hW3 hbW F HB3 z3;simp only[rpV,rpC]at A ⊢
 go_upto_region 3 with fail
 rw[A.o];clear A hb0;have hn:=y.o.n;simp only[rpC]at hn;obtain⟨⟨v0,v1,v2,v3⟩,v4,v5,v6⟩:=hn.seven;obtain⟨Wf,hWf⟩:=NX9 (W3.alloc (.cells #[.string ⟨#[97]⟩,.string ⟨#[49]⟩] 82))
 have hbf:VE W3 Wf:=by rw[<-hWf];exact(ah _ _).alloc aj _
 have b:=ai (y.o.up hbf);have hS:Sl Wf Wf.heap.size 2 (some ⟨W3.heap.size,0,none⟩) 1 (flat flC [(zA,z1)]):=by rw[<-hWf];exact Sl.of_bk (n:=1) (size:=2) (Bk.new W3 _ _) rfl
 have HC:=ai (Ve (w:=Wf) (s:=s3) hpck (some ⟨W3.heap.size,0,none⟩) 1 hr3 b.o.m aj hS);unfold jm zTr dW zFi at HC;simp only[rpV,rpC]at HC;have i:=ai hWf;clear hWf hbf hS hn y;go_wp2_with fail;rw[i.o];refine HC.o.mono ?_;rintro e w5 ⟨r5,⟨d1,d2⟩,K,hD,s5,rfl,hm,hb⟩;have HD1:=ai hD;clear hD i;have c:=ai (b.o.up hb);have HM:=ai hm;have HB:=ai hb;have hn:=c.o.n;have hzb:=c.o.z.2;simp only[rpC]at hn;clear hm hb HC v0 v1 v2 v3 v4 v5 v6;have hne:b0≠w5.heap.size:=by omega
 simp only[az];obtain⟨⟨v0,v1,v2,v3⟩,v4,v5,v6⟩:=hn.seven;obtain⟨⟨f0,f1,f2,f3⟩,f4,f5,f6⟩:=hn.free7;clear hn
 go_upto_region 4 with fail
 rw[kE w5 b0 r5 s5];obtain⟨W5,j⟩:=NX9 ((stR w5 b0 r5 s5).alloc (.cells #[.int .u64 d1,.int .u64 d2] 50))
 obtain⟨ha,hk,hz⟩:=b.o.dig HM.o HB.o d1 d2 j;have B:=ai ha;obtain⟨c1,hc⟩:=NX9 w5.heap.size
 rw[hc]at hk hz;have g:=ai (And.intro hk hz);have hck1:c1≠b0:=by omega
 rw[j];simp only[hc];clear j ha hk hz hzb hne hc b HM HB c v0 v1 v2 v3 v4 v5 v6 f0 f1 f2 f3 f4 f5 f6;have hn:=B.o.n;simp only[rpC]at hn;obtain⟨⟨v0,v1,v2,v3⟩,v4,v5,v6⟩:=hn.seven;obtain⟨Wf,hWf⟩:=NX9 (W5.alloc (.cells #[.string ⟨#[97]⟩,.string ⟨#[50]⟩] 82))
 have hbf:VE W5 Wf:=by rw[<-hWf];exact(ah _ _).alloc aj _
 have b:=ai (B.o.up hbf);have k:=ai (g.o.1.below hbf g.o.2);have a:=ai (Nat.lt_of_lt_of_le g.o.2 hbf.size);have hS:Sl Wf Wf.heap.size 2 (some ⟨W5.heap.size,0,none⟩) 1 (flat flC [(zA,z2)]):=by rw[<-hWf];exact Sl.of_bk (n:=1) (size:=2) (Bk.new W5 _ _) rfl
 have HC:=ai (U9 (w:=Wf) (s:=s5) hpck (some ⟨W5.heap.size,0,none⟩) 1 K b.o.m aj hS);unfold jm zTr dW zSe at HC;simp only[rpV,rpC]at HC;have i:=ai hWf;clear hWf hbf hS hn B;go_wp2_with fail;rw[i.o];refine HC.o.mono ?_;rintro e w7 ⟨r7,⟨e1,e2⟩,L,hD,s7,rfl,hm,hb⟩;have HD2:=ai hD;clear hD i;have c:=ai (b.o.up hb);have HM:=ai hm;have HB:=ai hb;have hn:=c.o.n;have hzb:=c.o.z.2;have l:=ai (k.o.below hb a.o);have f:=ai (Nat.lt_of_lt_of_le a.o hb.size);simp only[rpC]at hn;clear hm hb HC v0 v1 v2 v3 v4 v5 v6 g k a;have hne:b0≠w7.heap.size:=by omega
 simp only[az];obtain⟨⟨v0,v1,v2,v3⟩,v4,v5,v6⟩:=hn.seven;obtain⟨⟨f0,f1,f2,f3⟩,f4,f5,f6⟩:=hn.free7;clear hn
 go_upto_region 5 with fail
 rw[kE w7 b0 r7 s7];obtain⟨W7,j⟩:=NX9 ((stR w7 b0 r7 s7).alloc (.cells #[.int .u64 e1,.int .u64 e2] 50))
 obtain⟨ha,hk,hz⟩:=b.o.dig HM.o HB.o e1 e2 j;have C:=ai ha;obtain⟨c2,hc⟩:=NX9 w7.heap.size
 rw[hc]at hk hz;have p:=ai (And.intro hk hz);have G:c2≠b0:=by omega
 have u:Hid (Bk W7 c1 50 #[.int .u64 d1,.int .u64 d2]/\c1<W7.heap.size):=by rw[<-j];exact⟨(yZ l.o hck1).alloc _,by have:=f.o;simp[iT];omega⟩
 rw[j];simp only[hc];clear j ha hk hz hzb hne hc b HM HB c v0 v1 v2 v3 v4 v5 v6 f0 f1 f2 f3 f4 f5 f6 l f;have g:=u;clear u;have hn:=C.o.n;simp only[rpC]at hn;obtain⟨⟨v0,v1,v2,v3⟩,v4,v5,v6⟩:=hn.seven;obtain⟨g0,g1,_,_⟩:=p.o.1.two;obtain⟨Wf,hWf⟩:=NX9 (W7.alloc (.cells #[.string ⟨#[116,114,117,110,107]⟩,.int .u64 e1,.int .u64 e2,.int .u64 0,.int .u64 0] 85))
 have hbf:VE W7 Wf:=by rw[<-hWf];exact(ah _ _).alloc aj _
 have b:=ai (C.o.up hbf);have k:=ai (g.o.1.below hbf g.o.2);have a:=ai (Nat.lt_of_lt_of_le g.o.2 hbf.size);have v:=ai (p.o.1.below hbf p.o.2);have o:=ai (Nat.lt_of_lt_of_le p.o.2 hbf.size);have hS:Sl Wf Wf.heap.size 5 (some ⟨W7.heap.size,0,none⟩) 1 (flat upC [(zTr,ofB bC2,zD)]):=by rw[<-HD2.o,<-hWf];exact Sl.of_bk (n:=1) (size:=5) (Bk.new W7 _ _) rfl
 have HC:=ai (awW (w:=Wf) (s:=s7) hpck (some ⟨W7.heap.size,0,none⟩) 1 L b.o.m aj hS);unfold fG at HC;simp only[rpV,rpC]at HC;have i:=ai hWf;clear hWf hbf hS hn C;go_wp2_with fail;rw[i.o];refine HC.o.mono ?_;rintro e w9 ⟨r9,M,H,s9,rfl,hm,hb⟩;have N:=ai H;clear H i g0 g1;have c:=ai (b.o.up hb);have HM:=ai hm;have HB:=ai hb;have hn:=c.o.n;have hzb:=c.o.z.2;have l:=ai (k.o.below hb a.o);have f:=ai (Nat.lt_of_lt_of_le a.o hb.size);have x:=ai (v.o.below hb o.o);have q:=ai (Nat.lt_of_lt_of_le o.o hb.size);simp only[rpC]at hn;clear hm hb HC v0 v1 v2 v3 v4 v5 v6 g k a p v o;obtain⟨⟨v0,v1,v2,v3⟩,v4,v5,v6⟩:=hn.seven;obtain⟨⟨f0,f1,f2,f3⟩,f4,f5,f6⟩:=hn.free7;clear hn
 go_upto_region 6 with fail
 rw[kE w9 b0 r9 s9];have t:=ai (b.o.sto HM.o HB.o);have D:Hid (Bk (stR w9 b0 r9 s9) c1 50 #[.int .u64 d1,.int .u64 d2]/\c1< (stR w9 b0 r9 s9).heap.size):=⟨yZ l.o hck1,by rw[iT];exact f.o⟩
 have HC2:Hid (Bk (stR w9 b0 r9 s9) c2 50 #[.int .u64 e1,.int .u64 e2]/\c2< (stR w9 b0 r9 s9).heap.size):=⟨yZ x.o G,by rw[iT];exact q.o⟩
 obtain⟨O,I⟩:=NX9 (stR w9 b0 r9 s9)
 rw[I]at t D HC2 ⊢;clear I hzb b l f x q HM HB c v0 v1 v2 v3 v4 v5 v6 f0 f1 f2 f3 f4 f5 f6;have hn:=t.o.n;simp only[rpC]at hn;obtain⟨⟨v0,v1,v2,v3⟩,v4,v5,v6⟩:=hn.seven;have HC:=ai (awK (w:=O) (s:=s9) M t.o.m aj);unfold nZ at HC;simp only[rpV,rpC]at HC;clear hn;go_wp2_with fail;refine HC.o.mono ?_;rintro e w10 ⟨r10,hp0,hl3,s10,rfl,hm,hb⟩;simp only[hp0,hl3];obtain⟨Wa,hWa⟩:=NX9 (w10.alloc (.cells #[.int .i64 r10.d.sz,.slice s10.d.a1 r10.d.ss.length s10.d.c1,.slice s10.d.a2 r10.d.pn.length s10.d.c2,.int .i64 r10.d.lf,.slice s10.pA 0 s10.pc,.slice s10.rA r10.rs.length s10.rc,.slice s10.lA 3 s10.lc] 35))
 have hba:VE O Wa:=hb.trans (by rw[<-hWa];exact(ah _ w10).alloc hb.size _);have hna:=(t.o.up hba).n;have P:=ai (t.o.up hba).bl;obtain⟨g0,g1,_,_⟩:=(D.o.1.below hba D.o.2).two;obtain⟨q0,q1,_,_⟩:=(HC2.o.1.below hba HC2.o.2).two;have hka:Bk Wa w10.heap.size 35 #[.int .i64 r10.d.sz,.slice s10.d.a1 r10.d.ss.length s10.d.c1,.slice s10.d.a2 r10.d.pn.length s10.d.c2,.int .i64 r10.d.lf,.slice s10.pA 0 s10.pc,.slice s10.rA r10.rs.length s10.rc,.slice s10.lA 3 s10.lc]:=by rw[<-hWa];exact Bk.new _ _ _
 have J:=ai hWa;clear hWa hba hm hb hp0 hl3 HC v0 v1 v2 v3 v4 v5 v6
 go_upto_region 7 with fail
 rw[J.o];simp only[rpC,N.o]at hna;have v4:=hna.cell 4;have y4:=hka.cell 4;have y6:=hka.cell 6;simp at v4 y4 y6;have hnd: (d1 == e1 && d2 == e2)=false:=by
  rw[Bool.eq_false_iff];intro h;simp only[Bool.and_eq_true,beq_iff_eq]at h;exact neC (by rw[<-HD1.o,<-HD2.o,h.1,h.2])
 clear hna hka J;go_wp2_with fail;go_ret
 exact⟨rfl,P.o⟩
end
theorem Kv(A:OA)(n c B:Nat)(l:List Ent)(w:VA)(h0:Sl w B 4 A n (flat enC l))(hB:B<=w.heap.size)(hwf:∀e∈l,WfD e.dg)(hs:∀e∈l,e.nm.size<=65536)(hn2:n<=200) :
  Calls Tryz.prog 264 #[.slice A n c] w fun e w'=>(∃x:Int,e= .returned (.int .i64 x)/\ (x=0->jU l))/\VE w w':=by
 have HL:=ai (h0.len ui (by omega));have H0:=ai h0;have E:=ai hwf;have F:=ai hs;clear h0 hwf hs;have hnz:¬(200:Int)< (n:Int):=by omega
 go_enter Tryz.func264,Tryz.ntmps264
 go_wp2_with fail
 go_loopw[10] (fun i wr=>∃k:Nat,i= .int .i64 (k:Int)/\k<=n/\VF w wr/\Hid (∀j e,j<k->l[j]? =some e->jh e)/\Hid (∀(j:Nat) a b,j+1<k->l[j]? =some a->l[j+1]? =some b->less a.nm b.nm=true)) (fun i _=>n - (intOf i).toNat)
 case atStart=>exact⟨0,rfl,ZX _,ah _ _,fun j e h=>absurd h (by omega),fun j a b h=>absurd h (by omega)⟩
 case round =>
  obtain⟨k,rfl,hk,hbw,u,y⟩:=hrel;have q:=ai u.o;have r:=ai y.o;clear u y;have G:=hbw.o.size;by_cases hlt:k<n
  . have hlz: (k:Int)< (n:Int):=by omega
    obtain⟨bb,off,en,rfl,hbB,he,y0,y1,y2,y3⟩:=(H0.o.below hbw.o hB).en hlt;have HE:=ai he;have z:=ai (E.o en (Z7 he));have hns:=F.o en (Z7 he);obtain⟨wb,hwb⟩:=NX9 (wr.alloc (.cells #[.string en.nm,.bool en.dir,.int .u64 en.dg.1,.int .u64 en.dg.2] 185))
    have H:VF wr wb:=by rw[<-hwb];exact(ah _ wr).alloc aj _
    have d:Hid (Bk wb wr.heap.size 185 #[.string en.nm,.bool en.dir,.int .u64 en.dg.1,.int .u64 en.dg.2]):=by rw[<-hwb];exact Bk.new wr _ _
    have o:VF w wb:=hbw.o.trans (H.o.mono G);have L:wb.heap.size=wr.heap.size+1:=by rw[<-hwb];simp
    have C:Hid (∀j,k=j+1->∃p,Hid (∃pe:Ent,l[j]? =some pe/\pe.nm=p)/\wb.cell? ⟨bb,off+j*4,none⟩=some (.string p)):=by
     intro j hj;obtain⟨bb',off',p,hpe,_,hp,z0,_⟩:=(H0.o.below o.o hB).en (k:=j) (by omega);cases hpe
     exact⟨p.nm,⟨p,hp,rfl⟩,z0⟩
    have x0:=d.o.cell 0;have x2:=d.o.cell 2;have x3:=d.o.cell 3;simp at x0 x2 x3;have s:=x0;rw[<-hwb]at s;have t:=ai hwb;clear hwb he;obtain⟨nm,dir,d1,d2⟩:=en;simp only at hns y0 y1 y2 y3 x0 x2 x3 s t d C z;by_cases hnm:nameB nm=true
    case neg =>
     have hnf:nameB nm=false:=by simpa using hnm
     clear hnm
     go_wp2_with (first | (go_at_call 195;refine(jG nm _ (by unfold maxLen;omega)).mono ?_;rintro e w1 ⟨rfl,rfl⟩;rw[hnf]))
     try rw[t.o]
     go_ret
     exact⟨⟨_,rfl,fun h=>by simp at h⟩,o.o⟩
    have I:=ai hnm
    go_upto_region 8 with (first | (go_at_call 195;refine(jG nm _ (by unfold maxLen;omega)).mono ?_;rintro e w1 ⟨rfl,rfl⟩;rw[hnm]))
    rw[t.o];clear s
    go_cut[20] from 21 to 33 (fun f wx=>∃v:Bool,f= .bool v/\Hid (v=false->∀j pe,k=j+1->l[j]? =some pe->less pe.nm nm=true)/\VF wb wx)
    case first =>
     cases k with
     | zero =>
       go_quiet(fail)
       simp only[Exit.then]
       go_step
       go_meet
       exact⟨false,rfl,fun _ j pe h=>by omega,cZ (ah _ _) _⟩
     | succ j =>
       obtain⟨p,HP,z0⟩:=C.o j rfl;have hkp: (0:Int)< ((j+1:Nat):Int):=by omega
       have hw1:IntKind.i64.wrap (((j+1:Nat):Int) - 1)= (j:Int):=by rw[yO (by omega) (by omega)];omega
       have hj1:¬(j:Int)<0:=by omega
       have hj2: (j:Int)< (n:Int):=by omega
       have g:Hid (∀v:Bool,(v=false->less p nm=true)-> (v=false->∀j' pe,j+1=j'+1->l[j']? =some pe->less pe.nm nm=true)):=fun v hv h j' pe hj' hpe=>by
        have:j=j':=by omega
        subst this;obtain⟨M,h1,rfl⟩:=HP.o;rw[h1]at hpe;cases hpe;exact hv h
       cases hb1:Op.bytesLess nm.toList p.toList with
       | true =>
         go_quiet(fail)
         simp only[Exit.then]
         go_step
         go_meet
         exact⟨true,rfl,g.o true (fun h=>by cases h),cZ (ah _ _) _⟩
       | false =>
         cases hb2: (nm.toList == p.toList) with
         | true =>
           go_quiet(fail)
           simp only[Exit.then]
           go_step
           go_meet
           exact⟨true,rfl,g.o true (fun h=>by cases h),cZ (ah _ _) _⟩
         | false =>
           have J:Hid (less p nm=true):=by
            show _=_;rw[xZ]at hb1;cases hx:less p nm with
            | true=>rfl
            | false=>have:=mY hb1 hx;rw[this,TZ]at hb2;cases hb2
           go_quiet(fail)
           simp only[Exit.then]
           go_step
           go_meet
           exact⟨false,rfl,g.o false (fun _=>J.o),cZ (ah _ _) _⟩
    case rest =>
     obtain⟨v,rfl,hvv,HBc⟩:=hcut;have HVV:=ai hvv.o;have m:VF w wc:=o.o.trans (HBc.o.mono o.o.size);have D:=ai (d.o.below HBc.o d.o.lt);clear x0 x2 x3 y0 y1 y2 y3 hvv hnm;have x2:=D.o.cell 2;have x3:=D.o.cell 3;simp at x2 x3;cases v with
     | true =>
       go_wp2_with fail;go_ret
       exact⟨⟨_,rfl,fun h=>by simp at h⟩,m.o⟩
     | false =>
       by_cases hz: ((d1,d2):Dig)=zD
       . have e1:d1=0:=congrArg Prod.fst hz
         have e2:d2=0:=congrArg Prod.snd hz;subst e1 e2;clear hz;go_wp2_with fail;go_ret
         exact⟨⟨_,rfl,fun h=>by simp at h⟩,m.o⟩
       . have hdz:=lX hz
         simp only at hdz;have K:Hid (jh ⟨nm,dir,(d1,d2)⟩):=⟨I.o,z.o,hz⟩
         clear hz;go_wp2_with fail;go_roundw
         case rel =>
          refine⟨k+1,by go_num,hlt,m.o,fun j e hj hje=>?_,fun j a b hj hja hjb=>?_⟩
          . rcases Nat.lt_or_ge j k with h | h
            . exact q.o j e h hje
            . have:j=k:=by omega
              subst this;rw[HE.o]at hje;cases hje;exact K.o
          . rcases Nat.lt_or_ge (j+1) k with h | h
            . exact r.o j a b h hja hjb
            . have:k=j+1:=by omega
              rw[this]at HE;rw[HE.o]at hjb;cases hjb;exact HVV.o rfl j a this hja
         case measure=>simp[intOf];omega
  . have hlz:¬(k:Int)< (n:Int):=by omega
    go_wp2_with fail;go_ret
    refine⟨⟨_,rfl,fun _=>⟨by rw[HL.o];omega,fun e he=>?_,fun j a b ha hb=>?_⟩⟩,hbw.o⟩
    . obtain⟨j,hj⟩:=List.mem_iff_getElem?.1 he
      exact q.o j e (by have:=(List.getElem?_eq_some_iff.1 hj).1;rw[HL.o]at this;omega) hj
    . exact r.o j a b (by have:=(List.getElem?_eq_some_iff.1 hb).1;rw[HL.o]at this;omega) ha hb
theorem KD(o:Ob)(s:Osl)(B:Nat)(w:VA)(hm:ObM w B o s)(hB:B<=w.heap.size)(hwt:WfD o.tree)(hwp:∀d∈o.pars,WfD d)(hn8:o.pars.length<=8)(has:o.auth.size<=65536)(hmz:o.msg.size<=65536) :
  Calls Tryz.prog 265 #[obV o s] w fun e w'=>(∃x:Int,e= .returned (.int .i64 x)/\ (x=0->OkC o))/\VE w w':=by
 have HL:=ai hm.plen;have HP:=ai hm.p;have hn:s.pn<=8:=by rw[HL.o]at hn8;exact hn8
 have hpc:=hm.ple;have hpm:=hm.pmx;have E:=ai hwt;have F:=ai hwp;have G:=ai hn8;obtain⟨kind,data,t,⟨t1,t2⟩,pars,auth,time,msg⟩:=o;obtain⟨eA,en,ec,pA,n,pc⟩:=s;simp only at HL HP hn hpc hpm E F G has hmz;have y:Hid (((t1,t2):Dig)≠zD-> (∀d∈pars,d≠zD)->pars.Nodup->nameB auth=true->0<=time->time<=1099511627776->msg.size<=200->OkC ⟨kind,data,t,(t1,t2),pars,auth,time,msg⟩):=fun a b c d e f g=>⟨E.o,a,⟨G.o,F.o,b,c⟩,d,e,f,g⟩
 obtain⟨P,hP⟩:∃P:Prop,OkC ⟨kind,data,t,(t1,t2),pars,auth,time,msg⟩=P:=⟨_,rfl⟩
 rw[hP]at y ⊢;simp only[obV,obC];have hnm:n<=9223372036854775807:=by omega
 have hnz:¬(8:Int)< (n:Int):=by omega
 obtain⟨W0,hW⟩:=NX9 (w.alloc (.cells #[.int .i64 kind,.string data,.slice eA en ec,.int .u64 t1,.int .u64 t2,.slice pA n pc,.string auth,.int .i64 time,.string msg] 109))
 have HB0:VF w W0:=by rw[<-hW];exact(ah _ w).alloc aj _
 have HK:Hid (Bk W0 w.heap.size 109 #[.int .i64 kind,.string data,.slice eA en ec,.int .u64 t1,.int .u64 t2,.slice pA n pc,.string auth,.int .i64 time,.string msg]):=by rw[<-hW];exact Bk.new w _ _
 have V:w.heap.size<W0.heap.size:=HK.o.lt;obtain⟨c0,c1,c2,c3,c4,c5,c6,c7,c8⟩:=HK.o.nine;clear hm hwt hwp hn8 hP;by_cases htz0: ((t1,t2):Dig)=zD
 . have e1:t1=0:=congrArg Prod.fst htz0
   have e2:t2=0:=congrArg Prod.snd htz0;subst e1 e2;clear htz0
   go_enter Tryz.func265,Tryz.ntmps265
   go_wp2_with fail;go_ret
   exact⟨⟨_,rfl,fun h=>by simp at h⟩,HB0.o⟩
 have N:=ai htz0;have htz:=lX htz0;simp only at htz;clear htz0
 go_enter Tryz.func265,Tryz.ntmps265
 go_wp2_with fail;clear hW
 go_loopw[16] (fun i wr=>∃k:Nat,i= .int .i64 (k:Int)/\k<=n/\VF W0 wr/\Hid (∀d∈pars.take k,d≠zD)/\Hid ((pars.take k).Nodup)) (fun i _=>n - (intOf i).toNat)
 case atStart=>exact⟨0,rfl,ZX _,ah _ _,fun d hd=>by simp at hd,List.nodup_nil⟩
 case round =>
  obtain⟨k,rfl,hk,hbw,H,I⟩:=hrel;have z:=ai H.o;have A:=ai I.o;clear H I;have C:=hbw.o.size;have q:VF w wr:=HB0.o.trans (hbw.o.mono HB0.o.size);clear c0 c1 c2 c3 c4 c5 c6 c7 c8;obtain⟨c0,c1,c2,c3,c4,c5,c6,c7,c8⟩:=(HK.o.below hbw.o V).nine;by_cases hlt:k<n
  . have hlz: (k:Int)< (n:Int):=by omega
    obtain⟨bb,off,d,rfl,hbB,hd,y0,y1⟩:=(HP.o.below q.o hB).dg hlt;have HD:=ai hd;obtain⟨d1,d2⟩:=d;simp only at y0 y1;by_cases hz: ((d1,d2):Dig)=zD
    . have e1:d1=0:=congrArg Prod.fst hz
      have e2:d2=0:=congrArg Prod.snd hz;subst e1 e2;have hbx:VE W0 (wr.alloc (.cells #[.int .u64 0,.int .u64 0] 50)):=hbw.o.trans ((ah _ wr).alloc C _);have O:Hid (VE w (wr.alloc (.cells #[.int .u64 0,.int .u64 0] 50))):=HB0.o.trans (hbx.mono HB0.o.size);clear hz hd hbx;go_wp2_with fail;go_ret
      exact⟨⟨_,rfl,fun h=>by simp at h⟩,O.o⟩
    have hdz:=lX hz;simp only at hdz;have Q:=ai hz;obtain⟨v,hv⟩:=NX9 (decide ((d1,d2)∈pars.take k))
    have HV:=ai hv;clear hz hv;obtain⟨wb,hwb⟩:=NX9 (wr.alloc (.cells #[.int .u64 d1,.int .u64 d2] 50))
    have D:VF wr wb:=by rw[<-hwb];exact(ah _ wr).alloc aj _
    have J:Hid (Bk wb wr.heap.size 50 #[.int .u64 d1,.int .u64 d2]):=by rw[<-hwb];exact Bk.new wr _ _
    have X:wb.heap.size=wr.heap.size+1:=by rw[<-hwb];simp
    have m:VF w wb:=q.o.trans (D.o.mono (by omega));have R:Hid (∀Z,VE wb Z->Calls Tryz.prog 310 #[.slice (some ⟨bb,off,none⟩) k pc,.agg #[.int .u64 d1,.int .u64 d2]] Z fun e w'=>e= .returned (.bool v)/\VE Z w'):=fun Z hZ=>by
     have hs:Sl Z B 2 (some ⟨bb,off,none⟩) k (flat dgC (pars.take k)):=by
      have h1:=(HP.o.below m.o hB).below hZ (by have:=m.o.size;omega);refine⟨by rw[ig iq,List.length_take,HL.o];rw[Nat.min_eq_left (by omega)],fun h0=>?_⟩;obtain⟨b',o',e1,e2,e3⟩:=h1.2 (by omega);refine⟨b',o',e1,e2,fun j u hu=>e3 j u ?_⟩;rw[rX iq]at hu;have hjl:=(List.getElem?_eq_some_iff.1 hu).1;rw[List.getElem?_take,if_pos (by rw[List.length_take]at hjl;omega)]at hu;exact hu
     have h:=Ba (some ⟨bb,off,none⟩) k pc B (pars.take k) (d1,d2) Z hs (by have:=hZ.size;have:=m.o.size;omega) (by omega);rw[HV.o]at h;exact h
    have b0:=J.o.cell 0;have b1:=J.o.cell 1;simp at b0 b1;have e5:=(HK.o.below (hbw.o.trans (D.o.mono C)) V).nine.2.2.2.2.2.1;have hsl:∀Z:VA,(Instr.sliceAt 47 (.slice (some ⟨bb,off,none⟩) n pc) none (some (.int .i64 k)) none).run Tryz.prog Z= .ok (.slice (some ⟨bb,off,none⟩) k pc) Z:=fun Z=>by
     obtain⟨i0,hi0,_⟩:=info_parts lZ;exact ry 47 i0 Tryz.underlying47 hi0 _ n pc k (by omega) Z
    have S:=ai hwb;clear hd hwb
    go_upto_region 10 with fail
    rw[S.o];refine mD 5 (24::25::26::27::28:: []) (by kernel_rfl) (by kernel_rfl) (by kernel_rfl) (fun W=>VE wb W) (fun W W'=>VE W W')
     (oC ((.pointer (some ⟨w.heap.size,5,none⟩)):: (.slice (some ⟨bb,off,none⟩) n pc):: (.int .i64 (k:Int)):: (.slice (some ⟨bb,off,none⟩) k pc):: (.agg #[.int .u64 d1,.int .u64 d2]):: [])) (fun W W' h1 h2=>h1.trans (h2.mono h1.size)) (fun i v W W' h _=>h) (ah _ _).drew ?stepC ?tailC
    case stepC =>
     intro i o vs W hi ho hv hR l;obtain⟨v0,v1,v2,v3,v4,rfl⟩:=ls5 hv;simp only[List.zip,List.zipWith,aZ,Act.put,List.setIfInBounds_toArray,List.set];have Y:=hR.size;have g5:=(hR.cell (p:=⟨w.heap.size,5,none⟩) (by show w.heap.size<_;omega)).trans e5;have g0:=(hR.cell (p:=⟨wr.heap.size,0,none⟩) (by show wr.heap.size<_;omega)).trans b0;have g1:=(hR.cell (p:=⟨wr.heap.size,1,none⟩) (by show wr.heap.size<_;omega)).trans b1
     match i,hi,ho with
     | 0,_,rfl =>
       exact .inl ⟨rfl,aS (v:= .pointer (some ⟨w.heap.size,5,none⟩)) (w':=W) (by go_simp) ⟨ah _ _,fun _=>aT⟩⟩
     | 1,_,rfl =>
       have e0:v0=_:=l ⟨0,.data⟩ (by simp) rfl v0 rfl _ rfl;subst e0;exact .inl ⟨rfl,aS (v:= .slice (some ⟨bb,off,none⟩) n pc) (w':=W) (by go_simp) ⟨ah _ _,fun _=>aT⟩⟩
     | 2,_,rfl =>
       exact .inl ⟨rfl,aS (v:= .int .i64 (k:Int)) (w':=W) (by go_simp) ⟨ah _ _,fun _=>aT⟩⟩
     | 3,_,rfl =>
       have e1:v1=_:=l ⟨1,.data⟩ (by simp) rfl v1 rfl _ rfl;have e2:v2=_:=l ⟨2,.data⟩ (by simp) rfl v2 rfl _ rfl;subst e1 e2;exact .inl ⟨rfl,aS (v:= .slice (some ⟨bb,off,none⟩) k pc) (w':=W) (by go_simp) ⟨ah _ _,fun _=>aT⟩⟩
     | 4,_,rfl =>
       exact .inl ⟨rfl,aS (v:= .agg #[.int .u64 d1,.int .u64 d2]) (w':=W) (by go_simp) ⟨ah _ _,fun _=>aT⟩⟩
     | i+5,hi,_=>exact absurd hi (by omega)
    case tailC =>
     intro vs W hv hR l;obtain⟨v0,v1,v2,v3,v4,rfl⟩:=ls5 hv;simp only[List.zip,List.zipWith,aZ,Act.put,List.setIfInBounds_toArray,List.set,List.drop];have e0:v0=_:=l 0 v0 rfl _ rfl;have e1:v1=_:=l 1 v1 rfl _ rfl;have e2:v2=_:=l 2 v2 rfl _ rfl;have e3:v3=_:=l 3 v3 rfl _ rfl;have e4:v4=_:=l 4 v4 rfl _ rfl;subst e0 e1 e2 e3 e4;clear l hv;have K:VF W0 W:=hbw.o.trans ((D.o.trans (hR.mono (by omega))).mono C);have HR:=ai hR;clear hR
     go_wp2_with (first | (go_at_call 310;refine(R.o _ HR.o).mono ?_;rintro e w3 ⟨rfl,hb3⟩;refine aO ?_))
     refine aH ?_;have HB3:VF W0 w3:=K.o.trans (hb3.mono K.o.size);have L:VF w w3:=HB0.o.trans (HB3.o.mono HB0.o.size);clear hb3;cases v with
     | true =>
       go_wp2_with fail;go_ret
       exact⟨⟨_,rfl,fun h=>by simp at h⟩,L.o⟩
     | false =>
       have HT1:=ai (aV HD.o);have T:Hid ((d1,d2)∉pars.take k):=of_decide_eq_false HV.o;go_wp2_with fail;go_roundw
       case rel =>
        refine⟨k+1,by go_num,hlt,HB3.o,fun d hd=>?_,?_⟩
        . rw[HT1.o,List.mem_append,ae]at hd
          rcases hd with hd | rfl
          . exact z.o d hd
          . exact Q.o
        . show List.Nodup _
          rw[HT1.o,List.nodup_append];exact⟨A.o,by simp,fun a ha b hb e=>by rw[List.mem_singleton.1 hb]at e;exact T.o (e ▸ ha)⟩
       case measure=>simp[intOf];omega
  . have hlz:¬(k:Int)< (n:Int):=by omega
    have U:Hid (pars.take k=pars):=ZU (by rw[HL.o];omega);rw[U.o]at z A;have hcs:nameB auth=false∨ (nameB auth=true/\ (time<0∨ (0<=time/\ ((1099511627776:Int)<time∨ (time<=1099511627776/\ ((200:Int)< (msg.size:Int)∨msg.size<=200)))))):=by
     cases nameB auth
     . exact .inl rfl
     . right;refine⟨rfl,?_⟩;omega
    rcases hcs with r | ⟨r,ht | ⟨ht0,ht | ⟨ht1,hms | hms⟩⟩⟩
    case inr.inr.inr.inr =>
     have hq1:¬time<0:=by omega
     have hq2:¬(1099511627776:Int)<time:=by omega
     have hq3:¬(200:Int)< (msg.size:Int):=by omega
     have M:=ai (y.o N.o z.o A.o r ht0 ht1 hms)
     go_wp2_with (first | (go_at_call 195;refine(jG auth _ (by unfold maxLen;omega)).mono ?_;rintro e w1 ⟨rfl,rfl⟩;rw[r]))
     go_ret
     exact⟨⟨_,rfl,fun _=>M.o⟩,q.o⟩
    all_goals
     try have hq1:¬time<0:=by omega
     try have hq2:¬(1099511627776:Int)<time:=by omega
     go_wp2_with (first | (go_at_call 195;refine(jG auth _ (by unfold maxLen;omega)).mono ?_;rintro e w1 ⟨rfl,rfl⟩;rw[r]))
     go_ret
     exact⟨⟨_,rfl,fun h=>by simp at h⟩,q.o⟩
inductive RdO(o:Ob):Prop
 | blob (k:o.kind=1∨o.kind=4) (e:o.ents= []) (c:NoC o) (d:o.data.size<=65536)
 | tree (k:o.kind=2) (d:o.data= ⟨#[]⟩) (c:NoC o) (few:o.ents.length<=200) (wf:∀e∈o.ents,WfD e.dg) (sz:∀e∈o.ents,e.nm.size<=65536)
 | commit (k:o.kind=3) (d:o.data= ⟨#[]⟩) (e:o.ents= []) (wt:WfD o.tree) (wp:∀d∈o.pars,WfD d) (few:o.pars.length<=8) (au:o.auth.size<=65536) (ms:o.msg.size<=65536)
 | other (k:o.kind≠1/\o.kind≠2/\o.kind≠3/\o.kind≠4) (d:o.data= ⟨#[]⟩) (e:o.ents= []) (c:NoC o)
theorem MN(o:Ob)(s:Osl)(B:Nat)(w:VA)(hm:ObM w B o s)(hB:B<=w.heap.size)(hr:RdO o)(hf:¬OkF o) :
  Calls Tryz.prog 204 #[obV o s] w fun e w'=>(∃x:Int,e= .returned (.int .i64 x)/\x≠0)/\VE w w':=by
 obtain⟨W0,hW⟩:=NX9 (w.alloc (.cells (obC o s) 109))
 have HB0:VF w W0:=by rw[<-hW];exact(ah _ w).alloc aj _
 have HK:Hid (Bk W0 w.heap.size 109 (obC o s)):=by rw[<-hW];exact Bk.new w _ _
 have hm0:=hm.below (HB0.o.mono hB) aj;have hel:=hm.elen;have hpl:=hm.plen;cases hr with
 | blob k e c d=>exact absurd (.blob k e c d) hf
 | tree k d c few wf sz =>
   obtain⟨h1,h2,h3,h4,h5⟩:=c.flds;have hp0:s.pn=0:=by rw[<-hpl];exact h2
   have hnf:¬jU o.ents:=fun h=>hf (.tree k d c h);have b:=ai hnf;have HE:=ai (Kv s.eA s.en s.ec B o.ents W0 hm0.e (by have:=HB0.o.size;omega) wf sz (by rw[<-hel];exact few));obtain⟨kind,data,ents,tree,f,a,time,msg⟩:=o;obtain⟨eA,en,ec,pA,n,pc⟩:=s;simp only at h1 h3 h4 h5 hp0 k d HE b;subst h1 h3 h4 h5 hp0 k d;simp only[obV,obC]at hW HK ⊢;obtain⟨c0,c1,c2,c3,c4,c5,c6,c7,c8⟩:=HK.o.nine;clear hm hm0 hel hpl c h2 hf hnf few wf sz
   go_enter Tryz.func204,Tryz.ntmps204
   go_wp2_with (first | (go_at_call 264;refine HE.o.mono ?_;rintro e w1 ⟨⟨x,rfl,hx⟩,hb⟩))
   all_goals
    go_ret
    exact⟨⟨x,rfl,fun h=>b.o (hx h)⟩,HB0.o.trans (hb.mono HB0.o.size)⟩
 | commit k d e wt wp few au ms =>
   have he0:s.en=0:=by rw[<-hel,e];rfl
   have hnf:¬OkC o:=fun h=>hf (.commit k d e h);have b:=ai hnf;have HC:=ai (KD o s B W0 hm0 (by have:=HB0.o.size;omega) wt wp few au ms);obtain⟨kind,data,ents,⟨t1,t2⟩,f,a,time,msg⟩:=o;obtain⟨eA,en,ec,pA,n,pc⟩:=s;simp only at he0 k d;subst he0 k d;simp only[obV,obC]at hW HK HC ⊢;obtain⟨c0,c1,c2,c3,c4,c5,c6,c7,c8⟩:=HK.o.nine;clear hm hm0 hel hpl e hf hnf wt wp few au ms;have fin:∀(x:Int)(w1:VA),(x=0->OkC ⟨3,⟨#[]⟩,ents,(t1,t2),f,a,time,msg⟩)->VE W0 w1-> (∃y:Int,Ending.returned (.int .i64 x)= .returned (.int .i64 y)/\y≠0)/\VE w w1:=fun x w1 hx hb=>⟨⟨x,rfl,fun h=>b.o (hx h)⟩,HB0.o.trans (hb.mono HB0.o.size)⟩
   have FIN:=ai fin;have hcs: ((t1 == 0 && t2 == 0)=false)∨ ((t1=0/\t2=0)/\ ((0:Int)< (n:Int)∨ (n=0/\ ((a.toList == ([]:List UInt8))=false∨ ((a.toList == ([]:List UInt8))=true/\ ((time != 0)=true∨ (time=0/\ ((msg.toList == ([]:List UInt8))=false∨ (msg.toList == ([]:List UInt8))=true)))))))):=by
    by_cases h1:t1=0/\t2=0
    . refine .inr ⟨h1,?_⟩
      rcases Nat.eq_zero_or_pos n with h | h
      . refine .inr ⟨h,?_⟩
        cases (a.toList == ([]:List UInt8)) with
        | false=>exact .inl rfl
        | true =>
          refine .inr ⟨rfl,?_⟩;by_cases ht:time=0
          . refine .inr ⟨ht,?_⟩
            cases (msg.toList == ([]:List UInt8)) with
            | false=>exact .inl rfl
            | true=>exact .inr rfl
          . exact .inl (by simpa using ht)
      . exact .inl (by omega)
    . left
      rw[Bool.eq_false_iff];intro h;rw[Bool.and_eq_true,beq_iff_eq,beq_iff_eq]at h;exact h1 h
   clear fin b;rcases hcs with htz | ⟨⟨rfl,rfl⟩,hn | ⟨rfl,ha | ⟨ha,ht | ⟨rfl,hm | hm⟩⟩⟩⟩
   all_goals
    go_enter Tryz.func204,Tryz.ntmps204
    go_wp2_with (first | (go_at_call 265;refine HC.o.mono ?_;rintro e w1 ⟨⟨x,rfl,hx⟩,hb⟩))
    go_ret
    exact FIN.o x _ hx hb
 | other k d e c =>
   obtain⟨h1,h2,h3,h4,h5⟩:=c.flds;have he0:s.en=0:=by rw[<-hel,e];rfl
   have hp0:s.pn=0:=by rw[<-hpl];exact h2
   obtain⟨kind,data,ents,tree,f,a,time,msg⟩:=o;obtain⟨eA,en,ec,pA,n,pc⟩:=s;simp only at h1 h3 h4 h5 he0 hp0 k d;subst h1 h3 h4 h5 he0 hp0 d;simp only[obV,obC]at hW HK ⊢;obtain⟨c0,c1,c2,c3,c4,c5,c6,c7,c8⟩:=HK.o.nine;have k1: (kind == 1)=false:=by simpa using k.1
   have k2: (kind == 2)=false:=by simpa using k.2.1
   have k3: (kind == 3)=false:=by simpa using k.2.2.1
   have k4: (kind == 4)=false:=by simpa using k.2.2.2
   clear hm hm0 hel hpl e c h2 hf k
   go_enter Tryz.func204,Tryz.ntmps204
   go_wp2_with fail;go_ret
   exact⟨⟨9,rfl,by decide⟩,HB0.o⟩
def UU(w:VA)(e:Ending)(w':VA):Prop:=(∃x:Int,e= .returned (.tuple #[.string ⟨#[]⟩,.int .i64 x])/\x≠0)/\VE w w'
theorem qf(o:Ob)(s:Osl)(B:Nat)(w:VA)(hm:ObM w B o s)(hB:B<=w.heap.size)(hr:RdO o)(hf:¬OkF o) :
  Calls Tryz.prog 113 #[obV o s] w fun e w'=>(∃x:Int,e= .returned (.int .i64 x)/\x≠0)/\VE w w':=by
 have enc:∀W:VA,VE w W->Calls Tryz.prog 125 #[obV o s] W (UU W):=fun W hW=>by
  obtain⟨W0,hW0⟩:=NX9 (W.alloc (.cells (obC o s) 109))
  have HB0:VF W W0:=by rw[<-hW0];exact(ah _ W).alloc aj _
  have a:Hid (Bk W0 W.heap.size 109 (obC o s)):=by rw[<-hW0];exact Bk.new W _ _
  have HC:=ai (MN o s B W0 (hm.below (hW.trans (HB0.o.mono hW.size)) hB) (by have:=hW.size;have:=HB0.o.size;omega) hr hf);obtain⟨kind,data,b,⟨t1,t2⟩,c,d,time,msg⟩:=o;obtain⟨eA,en,ec,pA,pn,pc⟩:=s;simp only[obV,obC]at hW0 a HC ⊢;obtain⟨c0,c1,c2,c3,c4,c5,c6,c7,c8⟩:=a.o.nine;clear hm hr hf hW hB
  go_enter Tryz.func125,Tryz.ntmps125
  go_wp2_with fail;refine HC.o.mono ?_;rintro e w1 ⟨⟨x,rfl,hx⟩,hb1⟩;have hxb: (x != 0)=true:=by simpa using hx
  have HX:=ai hx;clear hx;go_wp2_with fail;go_ret2
  exact⟨⟨x,rfl,HX.o⟩,HB0.o.trans (hb1.mono HB0.o.size)⟩
 obtain⟨W0,hW0⟩:=NX9 (w.alloc (.cells (obC o s) 109))
 have HB0:VF w W0:=by rw[<-hW0];exact(ah _ w).alloc aj _
 have a:Hid (Bk W0 w.heap.size 109 (obC o s)):=by rw[<-hW0];exact Bk.new w _ _
 have HC:=ai (enc W0 HB0.o);clear enc hm hr hf;obtain⟨kind,data,b,⟨t1,t2⟩,c,d,time,msg⟩:=o;obtain⟨eA,en,ec,pA,pn,pc⟩:=s;simp only[obV,obC]at hW0 a HC ⊢;obtain⟨c0,c1,c2,c3,c4,c5,c6,c7,c8⟩:=a.o.nine
 go_enter Tryz.func113,Tryz.ntmps113
 go_wp2_with (first | (go_at_call 125;refine HC.o.mono ?_;rintro e w1 ⟨⟨x,rfl,hx⟩,hb1⟩))
 go_ret
 exact⟨⟨x,rfl,hx⟩,HB0.o.trans (hb1.mono HB0.o.size)⟩
theorem UD{b:VD}{o:Ob}{r:RS}(h:qO b= (o,r))(hb:r.2=false):RdO o:=by
 obtain⟨r1,r2⟩:=r;simp only at hb;subst hb;unfold qO at h;obtain⟨x,hx⟩:=NX9 (qN (b,false))
 rw[hx]at h;obtain⟨k,st⟩:=x;simp only at h;split at h
 . rename_i hk
   simp only[Prod.mk.injEq]at h;obtain⟨rfl,h⟩:=h;have e:=kX (s:=st) (t:=(qT st).1) (r:=r1) (Prod.ext rfl h);refine .blob (by simp only;omega) rfl ⟨rfl,rfl,rfl,rfl,rfl⟩ e.2
 . split at h
   . rename_i hk
     simp only[Prod.mk.injEq]at h;obtain⟨rfl,h⟩:=h;obtain⟨e1,e2,e3⟩:=tZ (enc:=aU) (P:=fun e=>WfD e.dg/\e.nm.size<=65536) (fun s x r h=>⟨(zq h).1,(zq h).2,by
      unfold qE at h;simp only[Prod.mk.injEq]at h;obtain⟨rfl,h⟩:=h;have h3:=nR (Prod.ext rfl h:qD _= (_,r,false));have h4:=congrArg Prod.snd h3.1;simp only[Bool.or_eq_false_iff]at h4;have h2:=nS (Prod.ext rfl (Prod.ext rfl h4.1):qN _= (_,_,false));have h5:=congrArg Prod.snd h2.1;exact(kX (Prod.ext rfl (Prod.ext rfl h5):qT _= (_,_,false))).2⟩) (s:=st) (l:=(qLs qE 200 st).1) (r:=r1) (Prod.ext rfl h)
     exact .tree rfl rfl ⟨rfl,rfl,rfl,rfl,rfl⟩ e2 (fun e he=>(e3 e he).1) (fun e he=>(e3 e he).2)
   . split at h
     . unfold qC at h
       simp only[Prod.mk.injEq]at h;obtain⟨rfl,h⟩:=h;have e1:=kX (Prod.ext rfl h:qT _= (_,r1,false));have e2:=nS (Prod.ext rfl (Prod.ext rfl (by rw[e1.1])):qN _= (_,_,false));have e3:=kX (Prod.ext rfl (Prod.ext rfl (by rw[e2.1])):qT _= (_,_,false));obtain⟨f1,f2,f3⟩:=tZ (enc:=ay) (P:=WfD) (fun s x r h=>nR h) (Prod.ext rfl (Prod.ext rfl (by rw[e3.1])):qLs qD 8 _= (_,_,false));have e5:=nR (Prod.ext rfl (Prod.ext rfl (by rw[f1])):qD _= (_,_,false));exact .commit rfl rfl rfl e5.2 f3 f2 e3.2 e1.2
     . rename_i h1 h2 h3
       simp only[Prod.mk.injEq]at h;obtain⟨rfl,_⟩:=h;refine .other ?_ rfl rfl ⟨rfl,rfl,rfl,rfl,rfl⟩;simp only;omega
theorem TI{b:VD}(hb:b.length<=65536)(hn:¬∃o,OkO o/\b=aI o): (qO b).2.2=true∨ (qO b).2.1≠ []∨¬OkF (qO b).1:=by
 refine Classical.byContradiction fun h=>hn ?_;simp only[not_or,Classical.not_not,ne_eq,Bool.not_eq_true]at h;obtain⟨h1,h2,h3⟩:=h;have e:b=aI (qO b).1:=TR (Prod.ext rfl (Prod.ext h2 h1)) h3;exact⟨_,⟨h3,by rw[<-e];exact hb⟩,e⟩
