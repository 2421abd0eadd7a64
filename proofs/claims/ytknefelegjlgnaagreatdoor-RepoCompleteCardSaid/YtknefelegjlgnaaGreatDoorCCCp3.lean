/-
  Lemmas of the card.
-/
import Derived.Test.YtknefelegjlgnaaGreatDoorCCCp2
set_option maxRecDepth 100000
set_option maxHeartbeats 2000000
namespace Go.Proofs.YtknefelegjlgnaaGreatDoor
open Go.RowKit
structure Dk where
 sz:Nat
 ss:List UZ
 pn:List (Nat×UZ)
 lf:Int
structure Dk.Ok(d:Dk):Prop where
 sz0:0<d.sz
 sz1:d.sz<=512
 n0:0<d.ss.length
 n1:d.ss.length<=1000
 len:∀s∈d.ss,s.length=d.sz
 pn:∀w∈d.pn,w.1<d.ss.length/\w.2.length=d.sz
 lf: -1<=d.lf
 lm:d.lf<=9223372036854775807
abbrev Dop:=Option (Nat×UZ)
def fM(x:Int):Int:=if 0<x then x - 1 else x
def settle(ss:List UZ)(ws:List (Nat×UZ)):List UZ:=ws.foldl (fun s w=>s.set w.1 w.2) ss
def doO(d:Dk):Dop->Dk
 | some w=>{d with pn:=d.pn++ [w],lf:=fM d.lf}
 | none=>{d with ss:=settle d.ss d.pn,pn:= [],lf:=fM d.lf}
def aJ:Dk->List Dop->Dk×Int
 | d,[]=>(d,0)
 | d,o::os=>if d.lf=0 then(d,20) else aJ (doO d o) os
def iC(sz:Nat)(p:Int):Nat:=(p.tmod (sz+1:Nat)).natAbs
def df(sz:Nat):List UZ->List (Nat×UZ)->List Int->List UZ
 | ss,[],_=>ss
 | ss,w::ws,ps=>df sz (ss.set w.1 (w.2.take (iC sz (ps.headD 0))++ (ss.getD w.1 []).drop (iC sz (ps.headD 0)))) ws ps.tail
def gI(d:Dk)(ps:List Int):Dk:={d with ss:=df d.sz d.ss d.pn ps,pn:= [],lf:= -1}
theorem mD(ws:List (Nat×UZ)):∀ss:List UZ,(settle ss ws).length=ss.length:=by
 induction ws with
 | nil=>intro ss;rfl
 | cons w ws ih=>intro ss;show(settle (ss.set w.1 w.2) ws).length=_;rw[ih,List.length_set]
theorem mM{sz:Nat}:∀(ws:List (Nat×UZ))(ss:List UZ)(ps:List Int),(df sz ss ws ps).length=ss.length
 | [],_,_=>rfl
 | w::ws,ss,ps=>by rw[df,mM ws,List.length_set]
theorem rH{sz:Nat}(Q:Nat->UZ->Prop):∀(ws:List (Nat×UZ))(ss:List UZ)(ps:List Int),(∀i s,ss[i]? =some s->Q i s)-> (∀w∈ws,∀s q,Q w.1 s->Q w.1 (w.2.take q++s.drop q))->∀i s,(df sz ss ws ps)[i]? =some s->Q i s
 | [],_,_,h,_,i,s,hs=>h i s hs
 | w::ws,ss,ps,h,hw,i,s,hs=>by
   rw[df]at hs;refine rH Q ws _ _ (fun j t ht=>?_) (fun x hx=>hw x (by simp[hx])) i s hs;rw[List.getElem?_set]at ht;split at ht
   . rename_i e
     subst e;split at ht
     . rename_i hl
       cases ht
       refine hw w (by simp) _ _ (h w.1 _ ?_);rw[List.getD_eq_getElem?_getD,Z5 hl];rfl
     . cases ht
   . exact h j t ht
theorem qV(Q:Nat->UZ->Prop):∀(ws:List (Nat×UZ))(ss:List UZ),(∀i s,ss[i]? =some s->Q i s)-> (∀w∈ws,Q w.1 w.2)->∀i s,(settle ss ws)[i]? =some s->Q i s
 | [],_,h,_,i,s,hs=>h i s hs
 | w::ws,ss,h,hw,i,s,hs=>by
   refine qV Q ws (ss.set w.1 w.2) (fun j t ht=>?_) (fun x hx=>hw x (by simp[hx])) i s hs;rw[List.getElem?_set]at ht;split at ht
   . rename_i e
     subst e;split at ht
     . cases ht;exact hw w (by simp)
     . cases ht
   . exact h j t ht
theorem BU(ss:List UZ)(w:Nat×UZ):settle ss [w]=ss.set w.1 w.2:=rfl
theorem EW{L:List UZ}{i:Nat}{x:UZ}(h:L[i]? =some x):L.set i x=L:=by
 refine List.ext_getElem? fun j=>?_;rw[List.getElem?_set];split
 . rename_i e
   subst e;rw[if_pos (List.getElem?_eq_some_iff.1 h).1,h]
 . rfl
theorem JA(ss:List UZ)(a b:List (Nat×UZ)):settle ss (a++b)=settle (settle ss a) b:=by simp[settle]
theorem oI:∀(os:List Dop)(d:Dk),∃pre suf,os=pre++suf/\ (aJ d os).1=pre.foldl doO d/\ ((suf= []/\ (aJ d os).2=0)∨ ((aJ d os).2=20/\ (aJ d os).1.lf=0))
 | [],d=>⟨[],[],rfl,rfl,.inl ⟨rfl,rfl⟩⟩
 | o::os,d=>by
   by_cases h:d.lf=0
   . exact⟨[],o::os,rfl,by simp[aJ,h],.inr (by simp[aJ,h])⟩
   . obtain⟨pre,suf,h1,h2,h3⟩:=oI os (doO d o)
     refine⟨o::pre,suf,by rw[h1];rfl,?_,?_⟩
     . rw[aJ,if_neg h];exact h2
     . rw[aJ,if_neg h];exact h3
theorem TC{d:Dk}{o:Dop}(h:d.lf= -1): (doO d o).lf= -1:=by cases o <;> simp[doO,fM,h]
theorem rE:∀(os:List Dop)(d:Dk),d.lf= -1->aJ d os= (os.foldl doO d,0)/\ (os.foldl doO d).lf= -1
 | [],d,h=>⟨rfl,h⟩
 | o::os,d,h=>by rw[aJ,if_neg (by omega)];exact rE os _ (TC h)
theorem og:∀(ws:List (Nat×UZ))(d:Dk),((ws.map some).foldl doO d).ss=d.ss/\ ((ws.map some).foldl doO d).pn=d.pn++ws/\ ((ws.map some).foldl doO d).sz=d.sz
 | [],d=>⟨rfl,by simp,rfl⟩
 | w::ws,d=>by
   obtain⟨h1,h2,h3⟩:=og ws (doO d (some w));exact⟨h1,by rw[List.map_cons,List.foldl_cons,h2];simp[doO],h3⟩
/-! ### journals -/
def hf(ss:List UZ):Nat:=(ss.length - 1) / 2
def aF(ss:List UZ)(a:Nat):Nat:=1+ (a - 1)*hf ss
def area(ss:List UZ)(a:Nat):UZ:=((ss.drop (aF ss a)).take (hf ss)).flatten
def dA(sz a:Nat):UZ:=bF sz [UInt8.ofNat a]
structure Jn(sz:Nat)(ss:List UZ)(a:Nat)(rs:List UZ)(u:Nat):Prop where
 sz0:0<sz
 n3:3<=ss.length
 len:∀s∈ss,s.length=sz
 act:a=1∨a=2
 mark:ss[0]? =some (dA sz a)
 recs:frs sz (area ss a)=some (rs,u)
section
variable {sz : Nat} {ss ss' : List UZ} {a u : Nat} {rs l : List UZ}
theorem yu{L:List UZ}(h:∀s∈L,s.length=sz):L.flatten.length=L.length*sz:=by
 induction L with
 | nil=>simp
 | cons x L ih=>rw[List.flatten_cons,af,ih (fun s hs=>h s (by simp[hs])),h x (by simp),Z4,Nat.succ_mul];omega
theorem AB{L:List UZ}(h:∀s∈L,s.length=sz)(k:Nat):L.flatten.take (k*sz)= (L.take k).flatten:=by
 induction L generalizing k with
 | nil=>simp
 | cons x L ih =>
   cases k with
   | zero=>simp
   | succ k =>
     have hx:=h x (by simp);rw[List.flatten_cons,List.take_append,hx,ZU (by rw[hx,Nat.succ_mul];omega),Nat.succ_mul,Nat.add_sub_cancel,ih (fun s hs=>h s (by simp[hs])),List.take_succ_cons,List.flatten_cons]
theorem AU{L:List UZ}(h:∀s∈L,s.length=sz)(k:Nat):L.flatten.drop (k*sz)= (L.drop k).flatten:=by
 induction L generalizing k with
 | nil=>simp
 | cons x L ih =>
   cases k with
   | zero=>simp
   | succ k =>
     have hx:=h x (by simp);rw[List.flatten_cons,List.drop_append,hx,List.drop_of_length_le (l:=x) (by rw[hx,Nat.succ_mul];omega),List.nil_append,Nat.succ_mul,Nat.add_sub_cancel,ih (fun s hs=>h s (by simp[hs])),List.drop_succ_cons]
def eX(ss:List UZ)(a:Nat):List UZ:=(ss.drop (aF ss a)).take (hf ss)
theorem kY{i:Nat}: (eX ss a)[i]? =if i<hf ss then ss[aF ss a+i]? else none:=by
 unfold eX;rw[List.getElem?_take,List.getElem?_drop]
theorem iK(h:a=1∨a=2)(hn:3<=ss.length):aF ss a+hf ss<=ss.length/\1<=aF ss a/\1<=hf ss:=by
 unfold aF hf;rcases h with rfl | rfl <;> omega
theorem Ez(h:a=1∨a=2)(hn:3<=ss.length): (eX ss a).length=hf ss:=by
 have:=iK h hn;unfold eX;rw[List.length_take,List.length_drop];omega
theorem jD(h:∀s∈ss,s.length=sz):∀s∈eX ss a,s.length=sz:=fun s hs=>h s (List.mem_of_mem_drop (List.mem_of_mem_take hs))
theorem Jn.u_le(h:Jn sz ss a rs u):u<=hf ss:=by
 have h1:=Gu h.sz0 _ _ _ _ aj h.recs (by
  show sz ∣ (eX ss a).flatten.length;rw[yu (jD h.len)];exact Nat.dvd_mul_left _ _)
 have h2: (area ss a).length=hf ss*sz:=by
  show(eX ss a).flatten.length=_;rw[yu (jD h.len),Ez h.act h.n3]
 rw[h2]at h1;exact Nat.le_of_mul_le_mul_right h1 h.sz0
theorem Jn.free(h:Jn sz ss a rs u){s:UZ}(hu:u<hf ss)(hs:ss[aF ss a+u]? =some s):zer s:=by
 have h1:=Fz h.sz0 _ _ _ _ aj h.recs;have h2: (area ss a).drop (u*sz)= ((eX ss a).drop u).flatten:=AU (jD h.len) u;have h3: (eX ss a)[u]? =some s:=by rw[kY,if_pos hu];exact hs
 have hl:=List.getElem?_eq_some_iff.1 h3;rw[h2,List.drop_eq_getElem_cons hl.1,hl.2,List.flatten_cons]at h1;intro x hx;refine h1 x ?_;cases s with
 | nil=>cases hx
 | cons y s=>exact hx
theorem Jn.other(h:Jn sz ss a rs u)(hn:ss'.length=ss.length)(hl:∀s∈ss',s.length=sz)(h0:ss'[0]? =ss[0]?)(hu:∀i,i<u->ss'[aF ss a+i]? =ss[aF ss a+i]?){k:Nat}(hr:frs sz (((eX ss' a).drop u).flatten)=some (l,k)):Jn sz ss' a (rs++l) (u+k):=by
 have e1:hf ss'=hf ss:=by unfold hf;rw[hn]
 have e2:aF ss' a=aF ss a:=by unfold aF;rw[e1]
 refine⟨h.sz0,by rw[hn];exact h.n3,hl,h.act,h0.trans h.mark,?_⟩;refine FI h.sz0 _ _ _ _ _ _ _ aj h.recs ?_ ?_
 . show(eX ss' a).flatten.take _= (eX ss a).flatten.take _
   rw[AB (jD hl),AB (jD h.len)]
   congr 1
   refine List.ext_getElem? fun i=>?_;rw[List.getElem?_take,List.getElem?_take];split
   . rename_i hi
     rw[kY,kY,e1,e2,hu i hi]
   . rfl
 . show frs sz ((eX ss' a).flatten.drop _)=_
   rw[AU (jD hl)];exact hr
theorem xB{L:List UZ}(hsz:0<sz)(hl:∀s∈L,s.length=sz)(h:∀s,L[0]? =some s->zer s):zer L.flatten:=by
 cases L with
 | nil=>intro x hx;cases hx
 | cons s L =>
   have hs:=h s rfl;cases s with
   | nil=>have:=hl [] (by simp);simp at this;omega
   | cons y s=>intro x hx;exact hs x hx
theorem Jn.keep(h:Jn sz ss a rs u)(hn:ss'.length=ss.length)(hl:∀s∈ss',s.length=sz)(h0:ss'[0]? =ss[0]?)(hu:∀i,i<u->ss'[aF ss a+i]? =ss[aF ss a+i]?)(hz:∀s,u<hf ss->ss'[aF ss a+u]? =some s->zer s):Jn sz ss' a rs u:=by
 have e1:hf ss'=hf ss:=by unfold hf;rw[hn]
 have e2:aF ss' a=aF ss a:=by unfold aF;rw[e1]
 have:=h.other (l:= []) (k:=0) hn hl h0 hu (kF (xB h.sz0 (fun s hs=>jD hl s (List.mem_of_mem_drop hs)) (fun s hs=>by
  rw[List.getElem?_drop,kY,e1,e2]at hs;split at hs
  . rename_i hi;exact hz s hi hs
  . cases hs)))
 rwa[List.append_nil]at this
end
/-! ### appending -/
def dK(at_:Nat)(S:List UZ)(e sz:Nat):List (Nat×UZ):=(S.zipIdx at_).map (fun p=>(p.2,p.1))++ (if at_+S.length<e then [(at_+S.length,bF sz [])] else [])
def jo:List UZ->List UZ
 | []=> []
 | s::S=>(0::s.tail)::S
def fK(sz:Nat)(ss:List UZ)(a u:Nat)(S:List UZ):List Dop :=
 (dK (aF ss a+u) (jo S) (aF ss a+hf ss) sz).map some++ [none,some (aF ss a+u,S.headD []),none]
def gz(sz:Nat)(ss:List UZ)(a:Nat)(S:List UZ):List Dop :=
 (dK (aF ss (3 - a)) S (aF ss (3 - a)+hf ss) sz).map some++ [none,some (0,dA sz (3 - a)),none]
theorem xI:∀(S:List UZ)(p:Nat)(ss:List UZ),p+S.length<=ss.length->∀i,(settle ss ((S.zipIdx p).map (fun q=>(q.2,q.1))))[i]? =if p<=i/\i<p+S.length then S[i - p]? else ss[i]?
 | [],p,ss,_,i=>by simp[settle];omega
 | s::S,p,ss,h,i=>by
   show(settle (ss.set p s) ((S.zipIdx (p+1)).map (fun q=>(q.2,q.1))))[i]? =_;rw[Z4]at h ⊢;rw[xI S (p+1) (ss.set p s) (by rw[List.length_set];omega) i];by_cases h1:p+1<=i/\i<p+1+S.length
   . rw[if_pos h1,if_pos (by omega),show i - p= (i - (p+1))+1 by omega,List.getElem?_cons_succ]
   . rw[if_neg h1,List.getElem?_set]
     by_cases h2:p=i
     . subst h2
       rw[if_pos rfl,if_pos (by omega),if_pos (by omega),Nat.sub_self,List.getElem?_cons_zero]
     . rw[if_neg h2,if_neg (by omega)]
theorem D8{S:List UZ}{p e sz:Nat}{ss:List UZ}(h:p+S.length<=e)(he:e<=ss.length)(i:Nat): (settle ss (dK p S e sz))[i]? =if p<=i/\i<p+S.length then S[i - p]? else if i=p+S.length/\i<e then some (bF sz []) else ss[i]? :=by
 unfold dK;rw[JA];split
 . rename_i hlt
   show((settle ss _).set _ _)[i]? =_;rw[List.getElem?_set,mD,xI S p ss (by omega) i];by_cases h1:p+S.length=i
   . rw[if_pos h1,if_pos (by omega),if_neg (by omega),if_pos (by omega)]
   . rw[if_neg h1,if_neg (c:=i=p+S.length/\i<e) (by omega)]
 . rename_i hlt
   show(settle ss _)[i]? =_;rw[xI S p ss (by omega) i,if_neg (c:=i=p+S.length/\i<e) (by omega)]
theorem sJ{S:List UZ}{p e sz:Nat}{w:Nat×UZ}(h:p+S.length<=e)(hw:w∈dK p S e sz):p<=w.1/\w.1<e/\ (S[w.1 - p]? =some w.2∨ (w.1=p+S.length/\w.2=bF sz [])):=by
 unfold dK at hw;rcases List.mem_append.1 hw with hw | hw
 . obtain⟨q,hq,rfl⟩:=List.mem_map.1 hw
   have h1:=List.mem_zipIdx hq;obtain⟨h2,h3,h4⟩:=h1;refine⟨h2,by show q.2<e;omega,.inl ?_⟩;show S[q.2 - p]? =some q.1;rw[h4];exact Z5 _
 . split at hw
   . rename_i hlt
     rw[ae]at hw;subst hw;exact⟨by show p<=p+S.length;omega,hlt,.inr ⟨rfl,rfl⟩⟩
   . cases hw
theorem Dp{W pre suf:List Dop}{x y z:Dop}(h:W++ [x,y,z]=pre++suf): (∃t,W=pre++t)∨pre=W++ [x]∨pre=W++ [x,y]∨ (pre=W++ [x,y,z]/\suf= []):=by
 rcases List.append_eq_append_iff.1 h with ⟨t,h1,h2⟩ | ⟨t,h1,h2⟩
 . match t,h2 with
   | [],h2=>exact .inl ⟨[],by rw[h1];simp⟩
   | [_],h2=>simp only[List.cons_append,List.nil_append,List.cons.injEq]at h2;rw[h2.1];exact .inr (.inl h1)
   | [_,_],h2=>simp only[List.cons_append,List.nil_append,List.cons.injEq]at h2;rw[h2.1,h2.2.1];exact .inr (.inr (.inl h1))
   | _::_::_::t,h2 =>
     simp only[List.cons_append,List.cons.injEq]at h2;have h3:=List.append_eq_nil_iff.1 h2.2.2.2.symm;rw[h3.1,<-h2.1,<-h2.2.1,<-h2.2.2.1]at h1;exact .inr (.inr (.inr ⟨h1,h3.2⟩))
 . exact .inl ⟨t,h1⟩
theorem GM{pre t:List Dop}{V:List (Nat×UZ)}(h:V.map some=pre++t):∃V':List (Nat×UZ),pre=V'.map some/\∀w∈V',w∈V:=by
 refine⟨V.take pre.length,?_,fun w hw=>List.mem_of_mem_take hw⟩;rw[List.map_take,h,List.take_left]
theorem Pn{x y:UZ}(h0:0<x.length)(hx:zer x)(hy:zer y)(q:Nat):zer (x.take q++y.drop q):=by
 cases q with
 | zero=>simpa using hy
 | succ q =>
   cases x with
   | nil=>simp at h0
   | cons a x=>intro z hz;exact hx z (by simpa using hz)
theorem yJ{sz:Nat}{x y:UZ}(hx:x.length=sz)(hy:y.length=sz)(q:Nat): (x.take q++y.drop q).length=sz:=by
 rw[af,List.length_take,List.length_drop];omega
theorem Dx{x y:UInt8}{t:UZ}(q:Nat): (x::t).take q++ (y::t).drop q=if q=0 then y::t else x::t:=by
 cases q with
 | zero=>rfl
 | succ q=>rw[if_neg (by omega)];simp
theorem sG(sz:Nat):zer (bF sz []):=by
 intro x hx;unfold bF at hx;rw[List.nil_append]at hx;exact List.eq_of_mem_replicate (List.mem_of_mem_head? hx)
theorem EC(sz a:Nat):dA sz a=UInt8.ofNat a::List.replicate (sz - 1) 0:=by simp[dA,bF]
section
variable {sz : Nat} {ss ss' S : List UZ} {a u : Nat} {rs l : List UZ}
structure SecF(sz:Nat)(l:List UZ)(S:List UZ):Prop where
 fit:fQ l
 eq:S=secs sz (aB l)
theorem SecF.cons(h:SecF sz l S)(hz:0<sz):∃t S1,S= (1::t)::S1/\ (1::t:UZ).length=sz:=by
 have h1:aB l≠ []:=by unfold aB;simp
 have h2:=wJ hz h1;obtain⟨k,rfl⟩:∃k,sz=k+1:=⟨sz - 1,by omega⟩
 have h3: (aB l).take (k+1)=1:: (ak (bV l).length++bV l).take k:=rfl;have h4:=iM (sz:=k+1) (t:=(aB l).take (k+1)) (by rw[List.length_take];omega);rw[h3]at h2 h4;exact⟨_,_,h.eq.trans h2,h4⟩
theorem SecF.siz(h:SecF sz l S)(hz:0<sz):∀s∈S,s.length=sz:=by rw[h.eq];exact(mg hz _ _ aj).2.1
theorem SecF.read(h:SecF sz l S)(hz:0<sz){rest:UZ}(hr:zer rest):frs sz (S.flatten++rest)=some (l,S.length):=by
 have h1:=Rn hz h.fit hr;rw[h.eq,h1,(mg hz _ _ aj).1]
theorem DY(hz:0<sz)(hl:∀s∈ss',s.length=sz){k:Nat}(h:∀s,k<hf ss'->ss'[aF ss' a+k]? =some s->zer s):zer ((eX ss' a).drop k).flatten :=
 xB hz (fun s hs=>jD hl s (List.mem_of_mem_drop hs)) (fun s hs=>by
  rw[List.getElem?_drop,kY]at hs;split at hs
  . rename_i hi;exact h s hi hs
  . cases hs)
theorem Ce{S:List UZ}{k:Nat}(hk:k+S.length<=hf ss')(h:∀i,i<S.length->ss'[aF ss' a+ (k+i)]? =S[i]?): (eX ss' a).drop k=S++ (eX ss' a).drop (k+S.length):=by
 refine List.ext_getElem? fun i=>?_;rw[List.getElem?_drop,List.getElem?_append];split
 . rename_i hi
   rw[kY,if_pos (by omega),h i hi]
 . rename_i hi
   rw[List.getElem?_drop]
   congr 1;omega
theorem Jn.frame(h:Jn sz ss a rs u){S:List UZ}(hS:SecF sz l S)(hk:u+S.length<=hf ss)(hn:ss'.length=ss.length)(hl:∀s∈ss',s.length=sz)(h0:ss'[0]? =ss[0]?)(hu:∀i,i<u->ss'[aF ss a+i]? =ss[aF ss a+i]?)
  (hs:∀i,i<S.length->ss'[aF ss a+ (u+i)]? =S[i]?) (hz:∀s,u+S.length<hf ss->ss'[aF ss a+ (u+S.length)]? =some s->zer s):Jn sz ss' a (rs++l) (u+S.length):=by
 have e1:hf ss'=hf ss:=by unfold hf;rw[hn]
 have e2:aF ss' a=aF ss a:=by unfold aF;rw[e1]
 refine h.other hn hl h0 hu ?_;rw[Ce (by rw[e1];exact hk) (by rw[e2];exact hs),List.flatten_append];exact hS.read h.sz0 (DY h.sz0 hl (by rw[e1,e2];exact hz))
theorem Cm(h:Jn sz ss a rs u){S:List UZ}(hS:SecF sz l S)(hk:u+S.length<=hf ss){lf:Int}{pre suf:List Dop}(hp:fK sz ss a u S=pre++suf)(ps:List Int) :
  let d:=pre.foldl doO ⟨sz,ss,[],lf⟩
  (Jn sz (df sz d.ss d.pn ps) a rs u∨Jn sz (df sz d.ss d.pn ps) a (rs++l) (u+S.length))/\ (suf= []->d.pn= []/\Jn sz d.ss a (rs++l) (u+S.length)):=by
 have hfit:=iK h.act h.n3;obtain⟨t,S1,rfl,ht⟩:=hS.cons h.sz0;have hSz:=hS.siz h.sz0;have hkl:u<hf ss:=by rw[Z4]at hk;omega
 have hfl: (jo ((1::t)::S1))= (0::t)::S1:=rfl;have hle:aF ss a+u+ (((0:UInt8)::t)::S1).length<=aF ss a+hf ss:=by simp only[Z4]at hk ⊢;omega
 have hW:∀w∈dK (aF ss a+u) ((0::t)::S1) (aF ss a+hf ss) sz,aF ss a+u<=w.1/\w.1<aF ss a+hf ss/\w.2.length=sz/\ (w.1=aF ss a+u->zer w.2):=by
  intro w hw;obtain⟨h1,h2,h3⟩:=sJ hle hw;refine⟨h1,h2,?_,?_⟩
  . rcases h3 with h3 | ⟨_,h3⟩
    . rcases List.mem_cons.1 (Z7 h3) with e | e
      . rw[e];simpa using ht
      . exact hSz _ (by simp[e])
    . rw[h3];exact iM (by simp)
  . intro e
    rcases h3 with h3 | ⟨h3,_⟩
    . rw[e,Nat.sub_self]at h3
      simp only[List.getElem?_cons_zero,Option.some.injEq]at h3;rw[<-h3];intro x hx;simpa using hx.symm
    . rw[Z4]at h3;omega
 let Q:Nat->UZ->Prop:=fun i s=>s.length=sz/\ ((i<aF ss a+u∨aF ss a+hf ss<=i)->ss[i]? =some s)/\ (i=aF ss a+u->zer s)
 have f:∀i s,ss[i]? =some s->Q i s:=fun i s hs=>⟨h.len s (Z7 hs),fun _=>hs,fun e=>h.free hkl (by rw[<-e];exact hs)⟩
 have g:∀ss':List UZ,ss'.length=ss.length-> (∀i s,ss'[i]? =some s->Q i s)->Jn sz ss' a rs u:=by
  intro ss' hn hq;have hsame:∀i,i<aF ss a+u->ss'[i]? =ss[i]? :=by
   intro i hi;have hl:i<ss'.length:=by rw[hn];omega
   have:=(hq i _ (Z5 hl)).2.1 (.inl hi);rw[this,Z5 hl]
  refine h.keep hn (fun s hs=>?_) (hsame 0 (by omega)) (fun i hi=>hsame _ (by omega)) (fun s _ hs=>(hq _ _ hs).2.2 rfl);obtain⟨i,hi⟩:=List.mem_iff_getElem?.1 hs;exact(hq i s hi).1
 have j:∀i s,(settle ss (dK (aF ss a+u) ((0::t)::S1) (aF ss a+hf ss) sz))[i]? =some s->Q i s :=
  qV Q _ _ f (fun w hw=>by
   obtain⟨h1,h2,h3,h4⟩:=hW w hw;exact⟨h3,fun e=>by omega,h4⟩)
 obtain⟨b,c⟩:=NX9 (settle ss (dK (aF ss a+u) ((0::t)::S1) (aF ss a+hf ss) sz))
 have hget:=D8 (sz:=sz) (ss:=ss) hle (by omega);rw[c]at j;simp only[c]at hget;have hn1:b.length=ss.length:=by rw[<-c,mD]
 have hJ1:=g b hn1 j;have hp0:b[aF ss a+u]? =some (0::t):=by rw[hget,if_pos (by simp),Nat.sub_self];rfl
 have hpl:aF ss a+u<b.length:=by rw[hn1];omega
 have hJ2:Jn sz (b.set (aF ss a+u) (1::t)) a (rs++l) (u+ ((1::t)::S1).length):=by
  have hne:∀i,i≠aF ss a+u-> (b.set (aF ss a+u) (1::t))[i]? =b[i]? :=fun i hi=>List.getElem?_set_ne (Ne.symm hi);refine h.frame hS hk (by rw[List.length_set];exact hn1) ?_ ?_ ?_ ?_ ?_
  . intro s hs
    rcases List.mem_or_eq_of_mem_set hs with hs | rfl
    . exact hJ1.len s hs
    . exact ht
  . rw[hne 0 (by omega),hget,if_neg (by omega),if_neg (by omega)]
  . intro i hi
    rw[hne _ (by omega),hget,if_neg (by omega),if_neg (by simp only[Z4];omega)]
  . intro i hi
    by_cases e:i=0
    . subst e;rw[Nat.add_zero,List.getElem?_set_self hpl];rfl
    . rw[hne _ (by omega),hget,if_pos (by simp only[Z4]at hi ⊢;omega),show aF ss a+ (u+i) - (aF ss a+u)= (i - 1)+1 by omega,List.getElem?_cons_succ]
      rw[show i= (i - 1)+1 by omega,List.getElem?_cons_succ];rfl
  . intro s hlt hs
    rw[hne _ (by simp),hget,if_neg (by simp only[Z4]at hlt ⊢;omega),if_pos (by simp only[Z4]at hlt ⊢;omega)]at hs;cases hs;exact sG sz
 have hset:df sz b [(aF ss a+u,1::t)] ps=b∨df sz b [(aF ss a+u,1::t)] ps=b.set (aF ss a+u) (1::t):=by
  have hg:b.getD (aF ss a+u) []=0::t:=by rw[List.getD_eq_getElem?_getD,hp0];rfl
  simp only[df,hg,Dx];split
  . left;exact EW hp0
  . right;rfl
 unfold fK at hp;rw[hfl]at hp;obtain⟨f1,f2,f3⟩:=og (dK (aF ss a+u) ((0::t)::S1) (aF ss a+hf ss) sz) ⟨sz,ss,[],lf⟩;rw[List.nil_append]at f2;rcases Dp hp with ⟨t',h1⟩ | rfl | rfl | ⟨rfl,rfl⟩
 . obtain⟨V,rfl,hV⟩:=GM h1
   obtain⟨g1,g2,g3⟩:=og V ⟨sz,ss,[],lf⟩;rw[List.nil_append]at g2;refine⟨.inl ?_,fun e=>?_⟩
   . rw[g1,g2]
     refine g _ (mM _ _ _) (rH Q _ _ _ f (fun w hw s q hs=>?_));obtain⟨h1,h2,h3,h4⟩:=hW w (hV w hw);exact⟨yJ h3 hs.1 q,fun e=>by omega,fun e=>Pn (by rw[h3];exact h.sz0) (h4 e) (hs.2.2 e) q⟩
   . subst e
     exfalso
     have h5:=congrArg List.length hp;have h6:=congrArg List.length h1;simp only[af,Z4,List.length_nil,List.length_map]at h5 h6;omega
 . rw[List.foldl_append]
   refine⟨.inl ?_,fun e=>?_⟩
   . simp only[List.foldl_cons,List.foldl_nil,doO,f1,f2,c,df]
     exact hJ1
   . subst e
     have:=congrArg List.length hp;simp at this
 . rw[List.foldl_append]
   refine⟨?_,fun e=>?_⟩
   . simp only[List.foldl_cons,List.foldl_nil,doO,f1,f2,c,List.nil_append,List.headD_cons]
     rcases hset with e | e
     . rw[e];exact .inl hJ1
     . rw[e];exact .inr hJ2
   . subst e
     have:=congrArg List.length hp;simp at this
 . rw[List.foldl_append]
   simp only[List.foldl_cons,List.foldl_nil,doO,f1,f2,c,List.nil_append,List.headD_cons,df,BU];exact⟨.inr hJ2,fun _=>⟨trivial,hJ2⟩⟩
theorem LV(h:Jn sz ss a rs u){S:List UZ}(hS:SecF sz l S)(hk:S.length<=hf ss){lf:Int}{pre suf:List Dop}(hp:gz sz ss a S=pre++suf)(ps:List Int) :
  let d:=pre.foldl doO ⟨sz,ss,[],lf⟩
  (Jn sz (df sz d.ss d.pn ps) a rs u∨Jn sz (df sz d.ss d.pn ps) (3 - a) l S.length)/\ (suf= []->d.pn= []/\Jn sz d.ss (3 - a) l S.length):=by
 have hfit:=iK h.act h.n3;have hb:3 - a=1∨3 - a=2:=by rcases h.act with rfl | rfl <;> simp
 have hfb:=iK hb h.n3;have hSz:=hS.siz h.sz0;have hap:∀i,i<hf ss->aF ss a+i<aF ss (3 - a)∨aF ss (3 - a)+hf ss<=aF ss a+i:=by
  intro i hi;unfold aF;rcases h.act with rfl | rfl <;> simp <;> omega
 have hu:=h.u_le;obtain⟨p,hpp⟩:=NX9 (aF ss (3 - a))
 rw[hpp]at hap hfb;have hle:p+S.length<=p+hf ss:=by omega
 have hW:∀w∈dK p S (p+hf ss) sz,p<=w.1/\w.1<p+hf ss/\w.2.length=sz:=by
  intro w hw;obtain⟨h1,h2,h3⟩:=sJ hle hw;refine⟨h1,h2,?_⟩;rcases h3 with h3 | ⟨_,h3⟩
  . exact hSz _ (Z7 h3)
  . rw[h3];exact iM (by simp)
 let Q:Nat->UZ->Prop:=fun i s=>s.length=sz/\ ((i<p∨p+hf ss<=i)->ss[i]? =some s)
 have g:∀i s,ss[i]? =some s->Q i s:=fun i s hs=>⟨h.len s (Z7 hs),fun _=>hs⟩
 have j:∀ss':List UZ,ss'.length=ss.length-> (∀i s,ss'[i]? =some s->Q i s)->Jn sz ss' a rs u:=by
  intro ss' hn hq;have hsame:∀i,i<ss.length-> (i<p∨p+hf ss<=i)->ss'[i]? =ss[i]? :=by
   intro i hi hi2;have hl:i<ss'.length:=by rw[hn];exact hi
   have:=(hq i _ (Z5 hl)).2 hi2;rw[this,Z5 hl]
  refine h.keep hn (fun s hs=>?_) (hsame 0 (by omega) (by omega)) (fun i hi=>hsame _ (by omega) (hap i (by omega))) (fun s hlt hs=>?_)
  . obtain⟨i,hi⟩:=List.mem_iff_getElem?.1 hs
    exact(hq i s hi).1
  . rw[hsame _ (by omega) (hap u hlt)]at hs
    exact h.free hlt hs
 obtain⟨c,f⟩:=NX9 (settle ss (dK p S (p+hf ss) sz))
 have m:∀i s,c[i]? =some s->Q i s:=by
  rw[<-f];exact qV Q _ _ g (fun w hw=>by
   obtain⟨h1,h2,h3⟩:=hW w hw;exact⟨h3,fun e=>by omega⟩)
 have hget:=D8 (sz:=sz) (ss:=ss) hle (by omega);simp only[f]at hget;have hn1:c.length=ss.length:=by rw[<-f,mD]
 have hJ1:=j c hn1 m;have hl0:0<c.length:=by rw[hn1];omega
 have hmk:∀b,(dA sz b).length=sz:=fun b=>iM (by have:=h.sz0;simp;omega);have hJ2:Jn sz (c.set 0 (dA sz (3 - a))) (3 - a) l S.length:=by
  have e1:hf (c.set 0 (dA sz (3 - a)))=hf ss:=by unfold hf;rw[List.length_set,hn1]
  have e2:aF (c.set 0 (dA sz (3 - a))) (3 - a)=p:=by rw[<-hpp];unfold aF;rw[e1]
  have hne:∀i,i≠0-> (c.set 0 (dA sz (3 - a)))[i]? =c[i]? :=fun i hi=>List.getElem?_set_ne (Ne.symm hi);have hl:∀s∈c.set 0 (dA sz (3 - a)),s.length=sz:=by
   intro s hs;rcases List.mem_or_eq_of_mem_set hs with hs | rfl
   . exact hJ1.len s hs
   . exact hmk _
  refine⟨h.sz0,by rw[List.length_set,hn1];exact h.n3,hl,hb,List.getElem?_set_self hl0,?_⟩;show frs sz ((eX _ (3 - a)).flatten)=_;have hsp:=Ce (ss':=c.set 0 (dA sz (3 - a))) (a:=3 - a) (S:=S) (k:=0) (by rw[e1];omega) (by
   intro i hi;rw[e2,hne _ (by omega),hget,if_pos (by omega)];congr 1;omega)
  rw[List.drop_zero,Nat.zero_add]at hsp;rw[hsp,List.flatten_append];exact hS.read h.sz0 (DY h.sz0 hl (by
   intro s hlt hs;rw[e1]at hlt;rw[e2,hne _ (by omega),hget,if_neg (by omega),if_pos (by omega)]at hs;cases hs;exact sG sz))
 have hset:df sz c [(0,dA sz (3 - a))] ps=c∨df sz c [(0,dA sz (3 - a))] ps=c.set 0 (dA sz (3 - a)):=by
  have hp0:=hJ1.mark;have hg:c.getD 0 []=dA sz a:=by rw[List.getD_eq_getElem?_getD,hp0];rfl
  simp only[df,hg];rw[EC]at hp0 ⊢;rw[EC,Dx];split
  . left;exact EW hp0
  . right;rfl
 unfold gz at hp;rw[hpp]at hp;obtain⟨f1,f2,f3⟩:=og (dK p S (p+hf ss) sz) ⟨sz,ss,[],lf⟩;rw[List.nil_append]at f2;rcases Dp hp with ⟨t',h1⟩ | rfl | rfl | ⟨rfl,rfl⟩
 . obtain⟨V,rfl,hV⟩:=GM h1
   obtain⟨g1,g2,g3⟩:=og V ⟨sz,ss,[],lf⟩;rw[List.nil_append]at g2;refine⟨.inl ?_,fun e=>?_⟩
   . rw[g1,g2]
     refine j _ (mM _ _ _) (rH Q _ _ _ g (fun w hw s q hs=>?_));obtain⟨h1,h2,h3⟩:=hW w (hV w hw);exact⟨yJ h3 hs.1 q,fun e=>by omega⟩
   . subst e
     exfalso
     have h5:=congrArg List.length hp;have h6:=congrArg List.length h1;simp only[af,Z4,List.length_nil,List.length_map]at h5 h6;omega
 . rw[List.foldl_append]
   refine⟨.inl ?_,fun e=>?_⟩
   . simp only[List.foldl_cons,List.foldl_nil,doO,f1,f2,f,df]
     exact hJ1
   . subst e
     have:=congrArg List.length hp;simp at this
 . rw[List.foldl_append]
   refine⟨?_,fun e=>?_⟩
   . simp only[List.foldl_cons,List.foldl_nil,doO,f1,f2,f,List.nil_append]
     rcases hset with e | e
     . rw[e];exact .inl hJ1
     . rw[e];exact .inr hJ2
   . subst e
     have:=congrArg List.length hp;simp at this
 . rw[List.foldl_append]
   simp only[List.foldl_cons,List.foldl_nil,doO,f1,f2,f,List.nil_append,df,BU];exact⟨.inr hJ2,fun _=>⟨trivial,hJ2⟩⟩
end
/-! ### disks that hold a journal -/
structure Dur(d:Dk)(rs:List UZ):Prop where
 ok:d.Ok
 pn:d.pn= []
 jn:∃a u,Jn d.sz d.ss a rs u
structure Brk(d:Dk)(rs rs':List UZ):Prop where
 ok:d.Ok
 lf:d.lf=0
 cut:∀ps,Dur (gI d ps) rs∨Dur (gI d ps) rs'
theorem Ed{x:Int}(h:x<=9223372036854775807):fM x<=9223372036854775807:=by unfold fM;split <;> omega
theorem EU{x:Int}(h: -1<=x): -1<=fM x:=by unfold fM;split <;> omega
def jX(d:Dk)(o:Dop):Prop:=∀w,o=some w->w.1<d.ss.length/\w.2.length=d.sz
theorem xO(d:Dk)(o:Dop): (doO d o).sz=d.sz/\ (doO d o).ss.length=d.ss.length:=by
 cases o with
 | none=>exact⟨rfl,mD _ _⟩
 | some w=>exact⟨rfl,rfl⟩
theorem Dk.Ok.doO{d:Dk}(h:d.Ok){o:Dop}(ho:jX d o): (Go.Proofs.YtknefelegjlgnaaGreatDoor.doO d o).Ok:=by
 cases o with
 | none =>
   refine⟨h.sz0,h.sz1,by show 0< (settle _ _).length;rw[mD];exact h.n0,by show(settle _ _).length<=_;rw[mD];exact h.n1,?_,(by intro w hw;cases hw),EU h.lf,Ed h.lm⟩;intro s hs;obtain⟨i,hi⟩:=List.mem_iff_getElem?.1 hs;exact qV (fun _ s=>s.length=d.sz) _ _ (fun i s hs=>h.len s (Z7 hs)) (fun w hw=>(h.pn w hw).2) i s hi
 | some w =>
   refine⟨h.sz0,h.sz1,h.n0,h.n1,h.len,?_,EU h.lf,Ed h.lm⟩;intro x hx;rcases List.mem_append.1 hx with hx | hx
   . exact h.pn x hx
   . rw[ae]at hx;subst hx;exact ho x rfl
theorem tu:∀(os:List Dop)(d:Dk),d.Ok-> (∀o∈os,jX d o)-> (os.foldl doO d).Ok/\ (os.foldl doO d).sz=d.sz/\ (os.foldl doO d).ss.length=d.ss.length
 | [],d,h,_=>⟨h,rfl,rfl⟩
 | o::os,d,h,ho=>by
   obtain⟨k1,k2⟩:=xO d o;obtain⟨h1,h2,h3⟩:=tu os _ (h.doO (ho o (by simp))) (fun x hx w hw=>by rw[k1,k2];exact ho x (by simp[hx]) w hw);exact⟨h1,h2.trans k1,h3.trans k2⟩
theorem Dk.Ok.cut{d:Dk}(h:d.Ok)(ps:List Int): (gI d ps).Ok:=by
 refine⟨h.sz0,h.sz1,by show 0< (df _ _ _ _).length;rw[mM];exact h.n0,by show(df _ _ _ _).length<=_;rw[mM];exact h.n1,?_,(by intro w hw;cases hw),by show(-1:Int)<= -1;omega,by show(-1:Int)<=_;omega⟩;intro s hs;obtain⟨i,hi⟩:=List.mem_iff_getElem?.1 hs;exact rH (fun _ s=>s.length=d.sz) _ _ _ (fun i s hs=>h.len s (Z7 hs)) (fun w hw s q hq=>yJ (h.pn w hw).2 hq q) i s hi
theorem Dur.cut{d:Dk}{rs:List UZ}(h:Dur d rs)(ps:List Int):Dur (gI d ps) rs:=by
 refine⟨h.ok.cut ps,rfl,?_⟩;show ∃a u,Jn d.sz (df d.sz d.ss d.pn ps) a rs u;rw[h.pn];exact h.jn
theorem FZ{d:Dk}{rs rs':List UZ}(h:Dur d rs)(os:List Dop)(hf:∀o∈os,jX d o)
  (hs:∀pre suf ps,os=pre++suf->let e:=pre.foldl doO ⟨d.sz,d.ss,[],d.lf⟩
    ((∃a u,Jn d.sz (df d.sz e.ss e.pn ps) a rs u)∨ (∃a u,Jn d.sz (df d.sz e.ss e.pn ps) a rs' u))/\ (suf= []->e.pn= []/\∃a u,Jn d.sz e.ss a rs' u)) :
  ((aJ d os).2=0/\Dur (aJ d os).1 rs')∨ ((aJ d os).2=20/\Brk (aJ d os).1 rs rs'):=by
 obtain⟨pre,suf,h1,h2,h3⟩:=oI os d;have hd:d= ⟨d.sz,d.ss,[],d.lf⟩:=by rw[<-h.pn]
 obtain⟨k1,k2,k3⟩:=tu pre d h.ok (fun o ho=>hf o (by rw[h1];exact List.mem_append_left _ ho));rcases h3 with ⟨e,h3⟩ | ⟨h3,h4⟩
 . left
   refine⟨h3,?_⟩;have:=(hs pre suf [] h1).2 e;simp only[<-hd]at this;rw[h2];exact⟨k1,this.1,by rw[k2];exact this.2⟩
 . right
   refine⟨h3,?_⟩;rw[h2]at h4 ⊢;refine⟨k1,h4,fun ps=>?_⟩;have:=(hs pre suf ps h1).1;simp only[<-hd]at this;rw[<-k2]at this;rcases this with h | h
   . exact .inl ⟨k1.cut ps,rfl,h⟩
   . exact .inr ⟨k1.cut ps,rfl,h⟩
theorem Gl{d:Dk}{W:List (Nat×UZ)}{x:Nat×UZ}(hW:∀w∈W,w.1<d.ss.length/\w.2.length=d.sz)(hx:x.1<d.ss.length/\x.2.length=d.sz):∀o∈W.map some++ [none,some x,none],jX d o:=by
 intro o ho w hw;subst hw;rcases List.mem_append.1 ho with ho | ho
 . obtain⟨y,hy,e⟩:=List.mem_map.1 ho
   cases e;exact hW _ hy
 . simp only[List.mem_cons,reduceCtorEq,Option.some.injEq,List.not_mem_nil,or_false,false_or]at ho
   subst ho;exact hx
theorem xZ{d:Dk}{rs l S:List UZ}{a u:Nat}(hj:Jn d.sz d.ss a rs u)(hS:SecF d.sz l S)(hk:S.length<=hf d.ss - u):u+S.length<=hf d.ss/\∀o∈fK d.sz d.ss a u S,jX d o:=by
 have hu:=hj.u_le;have hfit:=iK hj.act hj.n3;obtain⟨t,S1,e,ht⟩:=hS.cons hj.sz0;have hk':u+S.length<=hf d.ss:=by rw[e,Z4]at hk ⊢;omega
 have hsz:=hS.siz hj.sz0;have hlen: (jo S).length=S.length:=by rw[e];rfl
 refine⟨hk',Gl (fun w hw=>?_) ⟨?_,?_⟩⟩
 . obtain⟨h1,h2,h3⟩:=sJ (by rw[hlen];omega) hw
   refine⟨by omega,?_⟩;rcases h3 with h3 | ⟨_,h3⟩
   . have:=Z7 h3
     rw[e]at this hsz;rcases List.mem_cons.1 this with e | e
     . rw[e];simpa using ht
     . exact hsz _ (by simp[e])
   . rw[h3];exact iM (by simp)
 . rw[e,Z4]at hk';show aF d.ss a+u<_;omega
 . rw[e];exact ht
theorem RJ{d:Dk}{rs l S:List UZ}{a u:Nat}(h:Dur d rs)(hj:Jn d.sz d.ss a rs u)(hS:SecF d.sz l S)(hk:S.length<=hf d.ss - u) :
  ((aJ d (fK d.sz d.ss a u S)).2=0/\Dur (aJ d (fK d.sz d.ss a u S)).1 (rs++l))∨ ((aJ d (fK d.sz d.ss a u S)).2=20/\Brk (aJ d (fK d.sz d.ss a u S)).1 rs (rs++l)):=by
 obtain⟨hk',hf⟩:=xZ hj hS hk;refine FZ h _ hf (fun pre suf ps hp=>?_);obtain⟨h1,h2⟩:=Cm (lf:=d.lf) hj hS hk' hp ps;exact⟨h1.imp (fun h=>⟨_,_,h⟩) (fun h=>⟨_,_,h⟩),fun e=>⟨(h2 e).1,_,_,(h2 e).2⟩⟩
theorem F6{d:Dk}{rs l S:List UZ}{a u:Nat}(hd:d.Ok)(hj:Jn d.sz d.ss a rs u)(hS:SecF d.sz l S)(hk:S.length<=hf d.ss):∀o∈gz d.sz d.ss a S,jX d o:=by
 have hb:3 - a=1∨3 - a=2:=by rcases hj.act with rfl | rfl <;> simp
 have hfb:=iK hb hj.n3;have hsz:=hS.siz hj.sz0;refine Gl (fun w hw=>?_) ⟨?_,?_⟩
 . obtain⟨h1,h2,h3⟩:=sJ (by omega) hw
   refine⟨by omega,?_⟩;rcases h3 with h3 | ⟨_,h3⟩
   . exact hsz _ (Z7 h3)
   . rw[h3];exact iM (by simp)
 . exact hd.n0
 . exact iM (by have:=hj.sz0;simp;omega)
theorem RD{d:Dk}{rs l S:List UZ}{a u:Nat}(h:Dur d rs)(hj:Jn d.sz d.ss a rs u)(hS:SecF d.sz l S)(hk:S.length<=hf d.ss) :
  ((aJ d (gz d.sz d.ss a S)).2=0/\Dur (aJ d (gz d.sz d.ss a S)).1 l)∨ ((aJ d (gz d.sz d.ss a S)).2=20/\Brk (aJ d (gz d.sz d.ss a S)).1 rs l):=by
 refine FZ h _ (F6 h.ok hj hS hk) (fun pre suf ps hp=>?_);obtain⟨h1,h2⟩:=LV (lf:=d.lf) hj hS hk hp ps;exact⟨h1.imp (fun h=>⟨_,_,h⟩) (fun h=>⟨_,_,h⟩),fun e=>⟨(h2 e).1,_,_,(h2 e).2⟩⟩
/-! ### formatting -/
def bU(sz:Nat)(ss:List UZ):List Dop:= [some (aF ss 1,bF sz []),some (aF ss 2,bF sz []),none,some (0,dA sz 1),none]
theorem Gy{d:Dk}(hd:d.Ok)(hn:3<=d.ss.length)(hp:d.pn= [])(hl:d.lf= -1): (aJ d (bU d.sz d.ss)).2=0/\Dur (aJ d (bU d.sz d.ss)).1 []/\ (aJ d (bU d.sz d.ss)).1.lf= -1/\Jn (aJ d (bU d.sz d.ss)).1.sz (aJ d (bU d.sz d.ss)).1.ss 1 [] 0:=by
 obtain⟨h1,h2⟩:=rE (bU d.sz d.ss) d hl;rw[h1];have f1:=iK (ss:=d.ss) (.inl rfl) hn;have f2:=iK (ss:=d.ss) (.inr rfl) hn;have hz: (bF d.sz []).length=d.sz:=iM (by simp);have hm: (dA d.sz 1).length=d.sz:=iM (by have:=hd.sz0;simp;omega);obtain⟨k1,k2,k3⟩:=tu (bU d.sz d.ss) d hd (by
  intro o ho w hw;subst hw;simp only[bU,List.mem_cons,reduceCtorEq,Option.some.injEq,List.not_mem_nil,or_false,false_or]at ho;rcases ho with rfl | rfl | rfl
  . exact⟨by show aF d.ss 1<_;omega,hz⟩
  . exact⟨by show aF d.ss 2<_;omega,hz⟩
  . exact⟨hd.n0,hm⟩)
 suffices hJ:Jn ((bU d.sz d.ss).foldl doO d).sz ((bU d.sz d.ss).foldl doO d).ss 1 [] 0 from⟨rfl,⟨k1,rfl,1,0,hJ⟩,h2,hJ⟩
 obtain⟨e,he⟩:=NX9 (((bU d.sz d.ss).foldl doO d))
 have hss:e.ss= ((d.ss.set (aF d.ss 1) (bF d.sz [])).set (aF d.ss 2) (bF d.sz [])).set 0 (dA d.sz 1):=by
  rw[<-he];simp[bU,doO,hp,settle]
 rw[he]at k1 k2 k3 ⊢;have e1:hf e.ss=hf d.ss:=by unfold hf;rw[k3]
 have e2:aF e.ss 1=aF d.ss 1:=by unfold aF;rw[e1]
 show Jn e.sz e.ss 1 [] 0;refine⟨k1.sz0,by omega,k1.len,.inl rfl,?_,?_⟩
 . rw[hss,k2,List.getElem?_set_self (by simp only[List.length_set];omega)]
 . refine kF (xB k1.sz0 (jD k1.len) (fun s hs=>?_))
   replace hs: (eX e.ss 1)[0]? =some s:=hs
   rw[kY,e1,e2,if_pos (by omega),Nat.add_zero,hss,List.getElem?_set_ne (by omega),List.getElem?_set,List.getElem?_set_self (by omega)]at hs;split at hs
   . split at hs
     . cases hs;exact sG _
     . cases hs
   . cases hs;exact sG _
section
open Go.Maps
def jf(v:UY):Option (DataW UY×List MemPlace):=some (.held v,[])
theorem sN{v u:UY}{ps:List MemPlace}(h:jf v=some (.held u,ps)):v=u:=by
 simp[jf]at h;exact h.1
def Rm(w:UW)(P:Program)(k:TypeId)(b N:Nat)(g:UX->Option UY):Prop :=
 ∃D:DataW UY,w.ownsMap P k jf b N D/\∀s:UX,Maps.has D (.string s.data.toList)= (g s).isSome/\∀z,D.atKey (.string s.data.toList) (.held z)= .held ((g s).getD z)
def upd(g:UX->Option UY)(s:UX)(v:UY):UX->Option UY:=fun t=>if t=s then some v else g t
theorem Qj(g:UX->Option UY)(s:UX)(v:UY):upd g s v s=some v:=by simp[upd]
theorem Nr(g:UX->Option UY){s t:UX}(v:UY)(h:t≠s):upd g s v t=g t:=by simp[upd,h]
section
variable {w w' : UW} {P : Program} {k t e : TypeId} {b N : Nat} {g : UX -> Option UY}
theorem Rm.made(w:UW)(P:Program)(k:TypeId):Rm (w.alloc (.map #[] 0)) P k w.heap.size 0 (fun _=>none) :=
 ⟨.map [],World.ownsMap_made w P k jf,fun _=>⟨rfl,fun _=>rfl⟩⟩
theorem Rm.lt(h:Rm w P k b N g):b<w.heap.size:=h.choose_spec.1.lt
theorem Rm.more(h:Rm w P k b N g){M:Nat}(hm:N<=M):Rm w P k b M g:=by
 obtain⟨D,h1,h2⟩:=h;exact⟨D,h1.mono hm,h2⟩
theorem Rm.kept{row:Option Nat}(h:Rm w P k b N g)(hg:w.grownBy w' row)(hr:some b≠row):Rm w' P k b N g:=by
 obtain⟨D,h1,h2⟩:=h;exact⟨D,h1.kept hg hr,h2⟩
theorem Rm.below{B:Nat}(h:Rm w P k b N g)(hb:Below B w w')(hB:b<B):Rm w' P k b N g:=by
 obtain⟨D,⟨es,clock,h1,h2⟩,h3⟩:=h;exact⟨D,⟨es,clock,(hb.block b hB).trans h1,h2⟩,h3⟩
theorem Rm.alloc(h:Rm w P k b N g)(o:Obj):Rm (w.alloc o) P k b N g:=h.kept (World.grownBy_alloc w o none) (by simp)
theorem pW(hk:P.underlying k=some .string){s:UX}(hs:s.size<=maxLen):keyOf P k (.string s)=some (.string s.data.toList):=by simp[keyOf,hk,mapKey];exact hs
theorem Rm.look(h:Rm w P k b N g)(hk:P.underlying k=some .string)(ht:P.underlying t=some (.map k e)){z:UY}(hz: (zeroValue e).run P w= .ok z w){s:UX}(hs:s.size<=maxLen) :
  (Instr.lookup t (.map (some b)) (.string s) false).run P w= .ok ((g s).getD z) w:=by
 obtain⟨D,h1,h2⟩:=h;obtain⟨v,ps,hrun,hv⟩:=h1.lookup (string_keyed hk) ht hz (zd:= .held z) (zp:= []) rfl (pW hk hs);rw[(h2 s).2 z]at hv;rw[hrun,sN hv]
theorem Rm.look_ok(h:Rm w P k b N g)(hk:P.underlying k=some .string)(ht:P.underlying t=some (.map k e)){z:UY}(hz: (zeroValue e).run P w= .ok z w){s:UX}(hs:s.size<=maxLen) :
  (Instr.lookup t (.map (some b)) (.string s) true).run P w= .ok (.tuple #[(g s).getD z,.bool (g s).isSome]) w:=by
 obtain⟨D,h1,h2⟩:=h;obtain⟨v,ps,hrun,hv⟩:=h1.look_ok (string_keyed hk) ht hz (zd:= .held z) (zp:= []) rfl (pW hk hs);rw[(h2 s).2 z]at hv;rw[hrun,sN hv,(h2 s).1]
theorem lit_ne{s r:UX}(h:r≠s): (Lit.string r.data.toList)≠ .string s.data.toList:=fun e=>h (kX (by injection e))
theorem Rm.put(h:Rm w P k b N g)(hk:P.underlying k=some .string)(ht:P.underlying t=some (.map k e))(hn:N<maxLen){s:UX}(hs:s.size<=maxLen)(v:UY) :
  ∃w',(Instr.mapUpdate t (.map (some b)) (.string s) v).run P w= .ok () w'/\Rm w' P k b (N+1) (upd g s v)/\w.grownBy w' (some b):=by
 obtain⟨D,h1,h2⟩:=h;obtain⟨w',hrun,ho,hg⟩:=h1.update (string_keyed hk) ht hn (pW hk hs) (d:= .held v) (ps:= []) rfl;refine⟨w',hrun,⟨_,ho,fun r=>?_⟩,hg⟩;have hkl:=(string_keyed hk).key (pW hk hs);by_cases hr:r=s
 . subst hr
   rw[Qj,has_put_same h1.isMap hkl];exact⟨rfl,fun z=>atKey_put_same h1.isMap hkl _ _⟩
 . rw[Nr _ _ hr,has_put_other (lit_ne hr)]
   exact⟨(h2 r).1,fun z=>(atKey_put_other (lit_ne hr) _ _).trans ((h2 r).2 z)⟩
theorem nZ{ops:Array Oper}{rest:List Oper}{o:Oper}{a:Act}{Q:Exit->Act->UW->Prop}(hgd:o.guard=none)(m x y:Operand)(t:TypeId)(hop:o.op=Op.mapUpdate t m x y)
  (k e:TypeId) (hk:P.underlying k=some .string) (ht:P.underlying t=some (.map k e)) (b N:Nat) (g:UX->Option UY) (hm:a.eval m= .map (some b)) (h:Rm w P k b N g) (hn:N<maxLen)
  (s:UX) (hs:s.size<=maxLen) (v:UY) (hx:a.eval x= .string s) (hy:a.eval y=v)
  (hK:∀w',Rm w' P k b (N+1) (upd g s v)->w.grownBy w' (some b)->wpList P ops Q rest (a.put o.dst undef) w'):wpList P ops Q (o::rest) a w:=by
 refine wpList_plain hgd fun K' hK'=>?_;obtain⟨w',hrun,r1,r2⟩:=h.put hk ht hn hs v;unfold Oper.wp;simp[execOp,hop,hm,hx,hy,hrun,Result.andThen];exact hK' _ _ (hK w' r1 r2)
/-! ### ranging -/
variable {r cnt : Nat} {left : UX -> Bool}
end
end
section
open Go.Maps
def rmv(g:UX->Option UY)(s:UX):UX->Option UY:=fun t=>if t=s then none else g t
theorem Rm.del{w:UW}{P:Program}{k t e:TypeId}{b N:Nat}{g:UX->Option UY}(h:Rm w P k b N g)(hk:P.underlying k=some .string)(ht:P.underlying t=some (.map k e)){s:UX}(hs:s.size<=maxLen)(ty:TypeId) :
  ∃w',(Builtin.delete_ #[t,k] ty #[.map (some b),.string s]).run P w= .ok (.tuple #[]) w'/\Rm w' P k b N (rmv g s)/\w.grownBy w' (some b):=by
 obtain⟨D,h1,h2⟩:=h;obtain⟨w',hrun,ho,hg⟩:=h1.drop (string_keyed hk) ht (pW hk hs) ty;refine⟨w',hrun,⟨_,ho,fun r=>?_⟩,hg.grown⟩;unfold rmv;by_cases hr:r=s
 . subst hr
   rw[if_pos rfl];exact⟨has_del_same,fun z=>atKey_del_same _⟩
 . rw[if_neg hr]
   exact⟨(has_del_other (lit_ne hr)).trans (h2 r).1,fun z=>(atKey_del_other (lit_ne hr) _).trans ((h2 r).2 z)⟩
theorem Jw{P:Program}{w:UW}{ops:Array Oper}{rest:List Oper}{o:Oper}{a:Act}{Q:Exit->Act->UW->Prop}(hgd:o.guard=none)(m x:Operand)(t k:TypeId)(hop:o.op=Op.call {callee:=Callee.builtin Builtin.delete,args:=#[m,x],argTypes:=#[t,k]})
  (e:TypeId) (hk:P.underlying k=some .string) (ht:P.underlying t=some (.map k e)) (b N:Nat) (g:UX->Option UY) (hm:a.eval m= .map (some b)) (h:Rm w P k b N g)
  (s:UX) (hs:s.size<=maxLen) (hx:a.eval x= .string s)
  (hK:∀w',Rm w' P k b N (rmv g s)->w.grownBy w' (some b)->wpList P ops Q rest (a.put o.dst (.tuple #[])) w'):wpList P ops Q (o::rest) a w:=by
 refine wpList_plain hgd fun K' hK'=>?_;obtain⟨w',hrun,r1,r2⟩:=h.del hk ht hs o.type;unfold Oper.wp;simp[execOp,hop,resolve,invoke,builtin,hm,hx,hrun,Result.andThen];exact hK' _ _ (hK w' r1 r2)
end
def uz(c:Int):Bool:=((decide (97<=c) && decide (c<=122)) || ((decide (65<=c) && decide (c<=90)) || (decide (48<=c) && decide (c<=57)))) || (decide (c=46) || (decide (c=95) || decide (c=45)))
def lU(c:UInt8):Bool:=uz (c.toNat:Int)
def iQ(l:List UInt8):Bool:=decide (1<=l.length) && (decide (l.length<=24) && (!(decide (l= [46])) && (!(decide (l= [46,46])) && l.all lU)))
def nameB(s:UX):Bool:=iQ (bl s)
theorem KQ(c:Int)(w:UW):Calls Tryz.prog 259 #[.int .u8 c] w fun e w'=>e= .returned (.bool (uz c))/\w=w':=by
 go_enter Tryz.func259,Tryz.ntmps259
 go_wp2
 all_goals (go_ret;refine⟨dD ?_,rfl⟩;rw[Bool.eq_iff_iff];simp[uz];try omega)
def AllTo(l:List UInt8)(k:Nat):Prop:=∀j c,j<k->l[j]? =some c->lU c=true
theorem AllTo.step{l:List UInt8}{k:Nat}{c:UInt8}(h:AllTo l k)(hc:l[k]? =some c)(ho:lU c=true):AllTo l (k+1):=fun j x hj hx=>by
 by_cases e:j=k
 . subst e;rw[hc]at hx;cases hx;exact ho
 . exact h j x (by omega) hx
theorem AllTo.all{l:List UInt8}(h:AllTo l l.length):l.all lU=true:=by
 rw[List.all_eq_true];intro c hc;obtain⟨j,hj,e⟩:=List.getElem_of_mem hc;exact h j c hj (by rw[<-e];exact Z5 _)
theorem jC(s:UX)(w:UW)(hs:s.size<=maxLen):Calls Tryz.prog 195 #[.string s] w fun e w'=>e= .returned (.bool (nameB s))/\w=w':=by
 unfold maxLen at hs;have HL:=ai (iZ s)
 go_enter Tryz.func195,Tryz.ntmps195
 have hno:∀b:Bool,nameB s=b->Hid (nameB s=b):=fun b h=>h;have hls: (bl s).length=s.size:=(iZ s).symm;by_cases c1: (s.size:Int)<1
 . have hv:=hno false (by unfold nameB iQ;rw[decide_eq_false (by omega),Bool.false_and])
   clear hno hls;go_wp2_with fail;go_ret
   exact⟨dD hv.o.symm,rfl⟩
 by_cases c2: (24:Int)< (s.size:Int)
 . have hv:=hno false (by unfold nameB iQ;rw[decide_eq_false (p:=(bl s).length<=24) (by omega)];simp)
   clear hno hls;go_wp2_with fail;go_ret
   exact⟨dD hv.o.symm,rfl⟩
 have h3: (s.toList == [46])=decide (bl s= [46]):=by rw[ByteArray.toList_eq];unfold bl;rw[Bool.eq_iff_iff];simp
 have h4: (s.toList == [46,46])=decide (bl s= [46,46]):=by rw[ByteArray.toList_eq];unfold bl;rw[Bool.eq_iff_iff];simp
 by_cases c3:bl s= [46]
 . have hv:=hno false (by unfold nameB iQ;rw[decide_eq_true c3];simp)
   rw[decide_eq_true c3]at h3;clear hno hls h4 c3;go_wp2_with fail;go_ret
   exact⟨dD hv.o.symm,rfl⟩
 rw[decide_eq_false c3]at h3;by_cases c4:bl s= [46,46]
 . have hv:=hno false (by unfold nameB iQ;rw[decide_eq_true c4];simp)
   rw[decide_eq_true c4]at h4;clear hno hls c4 c3;go_wp2_with fail;go_ret
   exact⟨dD hv.o.symm,rfl⟩
 rw[decide_eq_false c4]at h4;have HV:Hid (nameB s= (bl s).all lU):=by
  show _=_;unfold nameB iQ;rw[decide_eq_true (p:=1<= (bl s).length) (by omega),decide_eq_true (p:=(bl s).length<=24) (by omega),decide_eq_false c3,decide_eq_false c4];simp
 have d:=ai hls;clear hno c3 c4 hls;go_wp2_with fail
 go_loop[22] (fun i=>∃k:Nat,k<=s.size/\i= .int .i64 k/\Hid (AllTo (bl s) k)) (fun i=>s.size - (intOf i).toNat)
 case atStart=>exact⟨0,ZX _,rfl,fun j c h=>absurd h (by omega)⟩
 case round =>
  obtain⟨k,hk,rfl,hA⟩:=hrel;by_cases hlt:k<s.size
  . have hkz: (k:Int)< (s.size:Int):=by omega
    have HG:=ai (ED s k hlt);have a:=ai (KQ (s[k].toNat:Int));cases hv:uz (s[k].toNat:Int) with
    | true =>
      have HA2:Hid (AllTo (bl s) (k+1)):=hA.o.step HG.o hv;rw[hv]at a;clear hv hA
      go_wp2_with (go_at_call 259;refine(a.o _).mono ?_;rintro e w' ⟨rfl,rfl⟩)
      go_round
      case rel=>exact⟨k+1,hlt,by go_num,HA2.o⟩
      case measure=>simp[intOf];omega
    | false =>
      have HF:Hid (nameB s=false):=by
       show _=_;rw[HV.o,List.all_eq_false];exact⟨s[k],Z7 HG.o,by unfold lU;rw[hv];simp⟩
      rw[hv]at a;clear hv hA
      go_wp2_with (go_at_call 259;refine(a.o _).mono ?_;rintro e w' ⟨rfl,rfl⟩)
      go_ret
      exact⟨dD HF.o.symm,rfl⟩
  . have hkz:¬(k:Int)< (s.size:Int):=by omega
    have HT:Hid (nameB s=true):=by
     show _=_;rw[HV.o];refine AllTo.all ?_;have:=hA.o
     rwa[show k= (bl s).length from by rw[d.o];omega]at this
    clear hA;go_wp2_with fail;go_ret
    exact⟨dD HT.o.symm,rfl⟩
section
open Go.RowKit Go.Shelf
attribute [local go_sem] Oper.semAt_some
def bP(s:UX):Bool:=decide ((bl s).length<=100) && (bC (bl s)).all iQ
theorem vV{w:UW}{a:Array UY}{r:Nat}{x:Bool}(ha:a[2]?.getD undef= .pointer (some ⟨r,0,none⟩))(h:w.heap[r]? =some (.cells #[.bool x] 4 (0,0))) :
  (results Tryz.f196 a).run Tryz.prog w= .ok (.bool x) w:=by
 have hc:=cell_of_one h;simp[results,Tryz.results196,ha,go_sem,hc]
theorem Lh(s:UX)(w:UW)(hs:s.size<=maxLen) :
  Calls Tryz.prog 196 #[.string s] w fun e w'=>e= .returned (.bool (bP s))/\U0 w w':=by
 refine(callsIn_wide (n:=6)).1 ?_;unfold maxLen at hs;have HL:=ai (iZ s);have a:Fence.wide.fn 194:=trivial;have b:Fence.wide.fn 195:=trivial;refine callsIn_of_wp_marks Tryz.func196 rfl trivial ?_ rfl;simp only[Tryz.ntmps196,List.size_toArray,Z4,List.length_nil,Nat.reduceAdd,Nat.reduceSub,Array.replicate_succ,Array.replicate_zero,List.push_toArray,List.append_toArray,List.nil_append,List.cons_append];by_cases c1:100< (s.size:Int)
 . have hv:Hid (bP s=false):=by
     show _=_;have:=HL.o;unfold bP bl;rw[decide_eq_false (by omega),Bool.false_and]
   gi_wp2_with fail
   refine⟨_,vV rfl (World.alloc_heap_new w _),?_⟩;exact⟨dD hv.o.symm,(ah _ _).alloc aj _⟩
 have c1': (s.size:Int)<=100:=by omega
 have HN:Hid (bP s= (bC (bl s)).all iQ):=by
  show _=_;have:=HL.o;unfold bP;rw[decide_eq_true (by unfold bl;omega),Bool.true_and]
 gi_wp2_with (gi_at_call 194;refine(callsIn_wide.2 (AV _ _)).mono ?_;rintro e w' ⟨rfl,rfl⟩)
 obtain⟨W0,hW0⟩:=NX9 ((((w.alloc (.cells #[.bool false] 4)).alloc (.cells #[.string s] 9)).alloc (.cells #[.string ⟨#[47]⟩] 9)).alloc (.cells #[.int .i64 0] 3))
 have hz:W0.heap.size=w.heap.size+4:=by rw[<-hW0];simp
 have g0:W0.heap[w.heap.size]? =some (.cells #[.bool false] 4 (0,0)):=by
  rw[<-hW0];exact(Below.heap_alloc _ _ _ (by simp;omega)).trans ((Below.heap_alloc _ _ _ (by simp;omega)).trans ((Below.heap_alloc _ _ _ (by simp)).trans (World.alloc_heap_new w _)))
 have g1:W0.heap[w.heap.size+1]? =some (.cells #[.string s] 9 (0,0)):=by
  rw[<-hW0];refine(Below.heap_alloc _ _ _ (by simp)).trans ((Below.heap_alloc _ _ _ (by simp)).trans ?_);have:=World.alloc_heap_new (w.alloc (.cells #[.bool false] 4)) (.cells #[.string s] 9);rwa[Z9]at this
 have g2:W0.heap[w.heap.size+1+1]? =some (.cells #[.string ⟨#[47]⟩] 9 (0,0)):=by
  rw[<-hW0];refine(Below.heap_alloc _ _ _ (by simp)).trans ?_;have:=World.alloc_heap_new ((w.alloc (.cells #[.bool false] 4)).alloc (.cells #[.string s] 9)) (.cells #[.string ⟨#[47]⟩] 9);rwa[Z9,Z9]at this
 have g3:W0.heap[w.heap.size+1+2]? =some (.cells #[.int .i64 0] 3 (0,0)):=by
  rw[<-hW0];have:=World.alloc_heap_new (((w.alloc (.cells #[.bool false] 4)).alloc (.cells #[.string s] 9)).alloc (.cells #[.string ⟨#[47]⟩] 9)) (.cells #[.int .i64 0] 3);rwa[Z9,Z9,Z9]at this
 have hb0:U0 w W0:=by
  rw[<-hW0];exact((((ah _ w).alloc aj _).alloc (by simp) _).alloc (by simp;omega) _).alloc (by simp;omega) _
 rw[hW0];refine vw (F:=Fence.wide) (n:=6) rfl (by omega) (gf:=297) (lb:=#[.pointer (some ⟨w.heap.size+1+1,0,none⟩),.pointer (some ⟨w.heap.size+1,0,none⟩),.pointer (some ⟨w.heap.size+1+2,0,none⟩)]) rfl trivial (enters_of Tryz.func297 (by kernel_rfl) rfl)
  (Dq 5 (w.heap.size+1) (by omega) s W0 (by omega) (by omega) g1 g2 g3) F8 (fun W l o hl=>C9 (m:=w.heap.size+4) (by omega) W l o (by omega)) (Cj) (ah _ _) (fun _=>rfl)
  (fun pre W=>W.heap[w.heap.size]? =some (.cells #[.bool false] 4 (0,0))/\Hid (∀x∈pre,nameB x=true)/\U0 w W/\w.heap.size+4<=W.heap.size)
  (fun c pre W=>c= .ret/\W.heap[w.heap.size]? =some (.cells #[.bool false] 4 (0,0))/\Hid (∃x∈pre,nameB x=false)/\U0 w W)
  ?hI ?hIx ?hIS ⟨g0,by simp[Hid],hb0,by omega⟩ ?a1 ?assign ?body ?done ?stop
 case assign =>
  intro l x W K hK;have HKK:=ai hK;clear hK
  gi_wp2
  exact HKK.o
 case hI =>
  rintro pre A B row ⟨h1,h2,h3,h4⟩ hg hr;refine⟨rC h1 hg (fun e=>?_),h2,h3.grown hg h3.size (fun k e=>?_),ZY h4 hg.size⟩
  . have:=(hr _ e.symm).1;omega
  . have:=(hr _ e).1;omega
 case hIx =>
  rintro c pre A B row ⟨h0,h1,h2,h3⟩ hg hr;refine⟨h0,rC h1 hg (fun e=>?_),h2,h3.grown hg h3.size (fun k e=>?_)⟩
  . have:=(hr _ e.symm).1;omega
  . have:=(hr _ e).1;omega
 case hIS =>
  rintro pre A B ⟨h1,h2,h3,h4⟩ ⟨v,rfl⟩;exact⟨(Z8 _ _ _ _ (by simp)).trans h1,h2,h3.setCell (p:=⟨w.heap.size+1,0,none⟩) (by simp) _,by simpa [World.setCell] using h4⟩
 case body =>
  rintro l pre x W ⟨r,hr⟩ ⟨h1,h2,h3,h4⟩;have hxs:x.size<=maxLen:=by
   have hm:bl x∈bC (bl s):=by rw[<-hr];simp
   have h5:=oG (bl s) _ hm;have h6:=iZ x;have h7:=HL.o;unfold bl at h5;unfold maxLen;omega
  have c0:=cell_of_one h1;have f0:=free_of_one h1;have H1:=ai h1;have H3:=ai h3;clear h1 h3 g0 g1 g2 g3 hb0 hW0 hr;cases hv:nameB x with
  | true =>
    have HV:=ai hv;clear hv
    gi_wp2_with (gi_at_call 195;refine(CallsIn.inRound l (callsIn_wide.2 (jC x _ hxs))).mono ?_;rintro e w' ⟨rfl,rfl⟩;rw[HV.o])
    refine⟨⟨Nat.le_refl _,fun k o hk _=>hk⟩,fun k h5 h6=>rfl,H1.o,?_,H3.o,h4⟩;intro y hy;rcases List.mem_append.1 hy with h | h
    . exact h2.o y h
    . simp at h;subst h;exact HV.o
  | false =>
    have HV:=ai hv;clear hv
    gi_wp2_with (gi_at_call 195;refine(CallsIn.inRound l (callsIn_wide.2 (jC x _ hxs))).mono ?_;rintro e w' ⟨rfl,rfl⟩;rw[HV.o])
    exact⟨KeepsOthers.setCell _ _ _,rfl,one_setCell H1.o,⟨x,by simp,HV.o⟩,H3.o.setCell (p:=⟨w.heap.size,0,none⟩) aj _⟩
 case done =>
  rintro D xs W hD hS ⟨h1,h2,h3,h4⟩ hK;have c0:=cell_of_one h1;have f0:=free_of_one h1;have H1:=ai h1;have H3:=ai h3;have HK:=ai hK;have HS:=ai hS;clear h1 h3 hK hS
  gi_wp2
  have hK2:=(KeepsOthers.setCell W ⟨w.heap.size,0,none⟩ (.bool true)).same D _ HK.o rfl;refine⟨by simp,.inl ⟨_,_,rfl,run_takeDeferred hK2,?_⟩⟩;refine⟨_,vV rfl ((World.putObj_heap_other (by omega)).trans (one_setCell H1.o)),dD ?_,?_⟩
  . rw[HN.o]
    symm
    rw[List.all_eq_true];intro y hy;have hy':y∈xs.map bl:=by rw[HS.o];exact hy
    obtain⟨x,hx,rfl⟩:=List.mem_map.1 hy';exact h2.o x hx
  . exact(H3.o.setCell (p:=⟨w.heap.size,0,none⟩) aj _).grown (grownBy_putObj' _ _ _) ((H3.o.setCell (p:=⟨w.heap.size,0,none⟩) aj _).size) (fun k e=>by cases e;omega)
 case stop =>
  rintro D c pre W hD hS ⟨rfl,h1,h2,h3⟩ hK;have H1:=ai h1;have H3:=ai h3;have HK:=ai hK;have HS:=ai hS;clear h1 h3 hK hS
  gi_wp2
  refine⟨by simp,.inl ⟨_,_,rfl,run_takeDeferred HK.o,?_⟩⟩;refine⟨_,vV rfl ((World.putObj_heap_other (by omega)).trans H1.o),dD ?_,?_⟩
  . rw[HN.o]
    symm
    rw[List.all_eq_false];obtain⟨x,hx,hxv⟩:=h2.o;obtain⟨r,hr⟩:=HS.o;refine⟨bl x,?_,by simpa [nameB] using hxv⟩;rw[<-hr];exact List.mem_append.2 (.inl (List.mem_map.2 ⟨x,hx,rfl⟩))
  . exact H3.o.grown (grownBy_putObj' _ _ _) H3.o.size (fun k e=>by cases e;omega)
end
theorem Sl.of_bk{w:UW}{b size n:Nat}{t:TypeId}{cs:Array UY}(h:Bk w b t cs)(hl:cs.size=n*size):Sl w w.heap.size size (some ⟨b,0,none⟩) n cs.toList :=
 ⟨by simpa using hl,fun _=>⟨b,0,rfl,h.lt,fun j u hu=>by rw[Nat.zero_add,h.cell];simpa using hu⟩⟩
@[go_sem] theorem UH : Tryz.prog.eqGuardType Tryz.prog.depth 82 = false := by kernel_rfl
theorem Sv:Tryz.prog.stoodInHeld 82=false:=by kernel_rfl
@[go_sem high] theorem UU (s t s' t' : UX) (w : UW) : (Op.equalIn 10000 82 (.agg #[.string s, .string t]) (.agg #[.string s', .string t'])).run Tryz.prog w = .ok (s.toList == s'.toList && t.toList == t'.toList) w := by
 have hS:Tryz.prog.underlying 82=some (.struct (Tryz.prog.fieldsOf 82)):=by kernel_rfl
 have a9:=Tryz.isAgg9;have u9:=Tryz.underlying9;rw[show(10000:Nat)=9999+1 from rfl,run_equalIn_agg w 9999 82 _ _ hS Sv];simp only[Program.fieldsOf,Tryz.underlying82]
 go_simp
 by_cases h1:s.toList=s'.toList <;> by_cases h2:t.toList=t'.toList <;> simp[h1,h2]
@[go_sem] theorem UE : Tryz.prog.eqGuardType Tryz.prog.depth 50 = false := by kernel_rfl
theorem yY(dd:Nat)(a b c d:Int)(w:UW): (Op.equalIn (dd+2) 50 (.agg #[.int .u64 a,.int .u64 b]) (.agg #[.int .u64 c,.int .u64 d])).run Tryz.prog w= .ok (a == c && b == d) w:=by
 have u3:=Tryz.underlying48;have a3:=Tryz.isAgg48;have z3:=Tryz.sizeOf48;rw[Op.equalIn];simp only[Sem.run_bind,run_underlying Tryz.underlying50,Result.andThen_ok];simp only[Std.Legacy.Range.forIn_eq_forIn_range',Std.Legacy.Range.size,Nat.sub_zero,Nat.add_sub_cancel,Nat.div_one,List.range'_succ,List.range'_zero,List.forIn_cons,List.forIn_nil]
 go_simp
 by_cases h1:a=c <;> by_cases h2:b=d <;> simp[h1,h2]
@[go_sem high] theorem UO (a b c d : Int) (w : UW) : (Op.equalIn 10000 50 (.agg #[.int .u64 a, .int .u64 b]) (.agg #[.int .u64 c, .int .u64 d])).run Tryz.prog w = .ok (a == c && b == d) w := yY 9998 a b c d w
def dg1(h b:Int):Int:=IntKind.u64.wrap (bits .xor .u64 h b*1099511628211)
def dg2(h b:Int):Int:=bits .xor .u64 (IntKind.u64.wrap (h*1099511628211)) b
def dgF(g:Int->Int->Int)(l:UZ):Int:=l.foldl (fun h b=>g h (IntKind.u64.wrap (b.toNat:Int))) 14695981039346656037
def ofB(l:UZ):Dig:=if dgF dg1 l=0/\dgF dg2 l=0 then(0,1) else(dgF dg1 l,dgF dg2 l)
theorem Fe(g:Int->Int->Int){l:UZ}{k:Nat}(hk:k<l.length):dgF g (l.take (k+1))=g (dgF g (l.take k)) (IntKind.u64.wrap (l[k].toNat:Int)):=by
 unfold dgF;rw[bJ (Z5 hk),List.foldl_append];rfl
theorem Rx(h b:Int)(w:UW):Calls Tryz.prog 209 #[.int .u64 h,.int .u64 b] w fun e w'=>e= .returned (.int .u64 (dg1 h b))/\w=w':=by
 go_enter Tryz.func209,Tryz.ntmps209
 go_wp2
 go_ret
 exact⟨rfl,rfl⟩
theorem Q4(h b:Int)(w:UW):Calls Tryz.prog 210 #[.int .u64 h,.int .u64 b] w fun e w'=>e= .returned (.int .u64 (dg2 h b))/\w=w':=by
 go_enter Tryz.func210,Tryz.ntmps210
 go_wp2
 go_ret
 exact⟨rfl,rfl⟩
theorem Om(s:UX)(w:UW)(hs:s.size<=maxLen) :
  Calls Tryz.prog 208 #[.string s,.func (.func 209) #[] #[]] w fun e w'=>e= .returned (.int .u64 (dgF dg1 (toL s)))/\w=w':=by
 have hs':s.size<=9223372036854775807:=by unfold maxLen at hs;exact hs
 go_enter Tryz.func208,Tryz.ntmps208
 go_wp2
 go_loop[5,9] (fun q5 q9=>∃k:Nat,k<=s.size/\q9= .int .i64 k/\q5= .int .u64 (dgF dg1 ((toL s).take k))) (fun _ q9=>s.size - (intOf q9).toNat)
 case atStart=>exact⟨0,ZX _,rfl,rfl⟩
 case round =>
  obtain⟨k,hk,rfl,rfl⟩:=hrel;by_cases hlt:k<s.size
  . have hlz: (k:Int)< (s.size:Int):=by omega
    have hkl:k< (toL s).length:=by rw[<-aQ];exact hlt
    have HN:Hid (dgF dg1 ((toL s).take (k+1))=dg1 (dgF dg1 ((toL s).take k)) (IntKind.u64.wrap (s[k].toNat:Int))):=Fe dg1 hkl;generalize dgF dg1 ((toL s).take k)=h0 at *;go_wp2_with fail;refine(Rx _ _ _).mono ?_;rintro e w1 ⟨rfl,rfl⟩;go_wp2_with fail
    go_round
    case rel=>exact⟨k+1,by omega,by go_num,by rw[HN.o];rfl⟩
    case measure=>simp[intOf];omega
  . have hlz:¬(k:Int)< (s.size:Int):=by omega
    have HE:Hid ((toL s).take k=toL s):=ZU (by rw[<-aQ];omega);go_wp2_with fail;go_ret
    exact⟨by rw[HE.o];rfl,rfl⟩
theorem NQ(s:UX)(w:UW)(hs:s.size<=maxLen) :
  Calls Tryz.prog 208 #[.string s,.func (.func 210) #[] #[]] w fun e w'=>e= .returned (.int .u64 (dgF dg2 (toL s)))/\w=w':=by
 have hs':s.size<=9223372036854775807:=by unfold maxLen at hs;exact hs
 go_enter Tryz.func208,Tryz.ntmps208
 go_wp2
 go_loop[5,9] (fun q5 q9=>∃k:Nat,k<=s.size/\q9= .int .i64 k/\q5= .int .u64 (dgF dg2 ((toL s).take k))) (fun _ q9=>s.size - (intOf q9).toNat)
 case atStart=>exact⟨0,ZX _,rfl,rfl⟩
 case round =>
  obtain⟨k,hk,rfl,rfl⟩:=hrel;by_cases hlt:k<s.size
  . have hlz: (k:Int)< (s.size:Int):=by omega
    have hkl:k< (toL s).length:=by rw[<-aQ];exact hlt
    have HN:Hid (dgF dg2 ((toL s).take (k+1))=dg2 (dgF dg2 ((toL s).take k)) (IntKind.u64.wrap (s[k].toNat:Int))):=Fe dg2 hkl;generalize dgF dg2 ((toL s).take k)=h0 at *;go_wp2_with fail;refine(Q4 _ _ _).mono ?_;rintro e w1 ⟨rfl,rfl⟩;go_wp2_with fail
    go_round
    case rel=>exact⟨k+1,by omega,by go_num,by rw[HN.o];rfl⟩
    case measure=>simp[intOf];omega
  . have hlz:¬(k:Int)< (s.size:Int):=by omega
    have HE:Hid ((toL s).take k=toL s):=ZU (by rw[<-aQ];omega);go_wp2_with fail;go_ret
    exact⟨by rw[HE.o];rfl,rfl⟩
theorem rJ{fn:Func}{c:Tmp}(h:fn.results= #[.cell c 50]){w:UW}{a:Array UY}{b:Nat}{x y:UY}(ha:a[c]?.getD undef= .pointer (some ⟨b,0,none⟩))(hk:Bk w b 50 #[x,y]) :
  (results fn a).run Tryz.prog w= .ok (.agg #[x,y]) w:=by
 have h0:=hk.cell 0;have h1:=hk.cell 1;simp at h0 h1;simp[results,h,ha,go_sem,h0,h1]
def aA(d:Dig):UY:= .agg #[.int .u64 d.1,.int .u64 d.2]
def nS(s:UX)(w:UW)(e:Ending)(w':UW):Prop:=e= .returned (aA (ofB (toL s)))/\U0 w w'
theorem tY(s:UX)(w:UW)(hs:s.size<=maxLen):Calls Tryz.prog 126 #[.string s] w (nS s w):=by
 have HE:Hid (ofB (toL s)=if dgF dg1 (toL s)=0/\dgF dg2 (toL s)=0 then(0,1) else(dgF dg1 (toL s),dgF dg2 (toL s))):=rfl;have H1:=ai (Om s (w.alloc (.cells #[.int .u64 0,.int .u64 0] 50)) hs);have H2:=ai (NQ s (w.alloc (.cells #[.int .u64 0,.int .u64 0] 50)) hs);have HV:Hid (∀q,ofB (toL s)=q->∀e w',e=Ending.returned (aA q)->U0 w w'->nS s w e w'):=fun q h e w' h1 h2=>by subst h;exact⟨h1,h2⟩
 generalize dgF dg1 (toL s)=x at *;generalize dgF dg2 (toL s)=y at *
 go_enter Tryz.func126,Tryz.ntmps126
 go_wp2_with fail;refine H1.o.mono ?_;rintro e w1 ⟨rfl,rfl⟩;go_wp2_with fail;refine H2.o.mono ?_;rintro e w1 ⟨rfl,rfl⟩;obtain⟨W,hW⟩:=NX9 ((w.alloc (.cells #[.int .u64 0,.int .u64 0] 50)).alloc (.cells #[.int .u64 x,.int .u64 y] 50))
 have K0:Hid (Bk W w.heap.size 50 #[.int .u64 0,.int .u64 0]):=by rw[<-hW];exact(Bk.new w _ _).alloc _
 have K1:Hid (Bk W (w.heap.size+1) 50 #[.int .u64 x,.int .u64 y]):=by
  rw[<-hW];have:=Bk.new (w.alloc (.cells #[.int .u64 0,.int .u64 0] 50)) 50 #[.int .u64 x,.int .u64 y];rw[Z9]at this;exact this
 have HB:U6 w W:=by rw[<-hW];exact((ah _ w).alloc aj _).alloc (by simp) _
 have u0:=K0.o.cell 0;have u1:=K0.o.cell 1;have v0:=K1.o.cell 0;have v1:=K1.o.cell 1;simp at u0 u1 v0 v1;have f0:=K0.o.free 0;have f1:=K0.o.free 1;have g1:=K1.o.free 1;clear H1 H2;by_cases hz:x=0/\y=0
 . have hb: (x == 0 && y == 0)=true:=by simp[hz]
   have HQ:Hid (ofB (toL s)= (x,1)):=by show _=_;rw[HE.o,if_pos hz,hz.1]
   clear hz;have W2:Hid (Bk (W.setCell ⟨w.heap.size+1,1,none⟩ (.int .u64 1)) (w.heap.size+1) 50 #[.int .u64 x,.int .u64 1]):=by
    have:=K1.o.set 1 (.int .u64 1);show Bk _ _ _ _;simpa using this
   have a:Hid (Bk (W.setCell ⟨w.heap.size+1,1,none⟩ (.int .u64 1)) w.heap.size 50 #[.int .u64 0,.int .u64 0]):=K0.o.far (by simp) _;have a0:=W2.o.cell 0;have a1:=W2.o.cell 1;have b0:=a.o.cell 0;have b1:=a.o.cell 1;simp at a0 a1 b0 b1;have d0:=a.o.free 0;have d1:=a.o.free 1;clear HE;go_wp2_with fail;refine ZW (rJ Tryz.results126 rfl (a.o.set2 _ _)) rfl ?_;exact HV.o _ HQ.o _ _ rfl (eP (HB.o.setCell (p:=⟨w.heap.size+1,1,none⟩) (by simp) _) aj _ _)
 . have hb: (x == 0 && y == 0)=false:=by
     rw[Bool.eq_false_iff];intro h;simp at h;exact hz h
   have HQ:Hid (ofB (toL s)= (x,y)):=by show _=_;rw[HE.o,if_neg hz]
   clear hz HE;go_wp2_with fail;refine ZW (rJ Tryz.results126 rfl (K0.o.set2 _ _)) rfl ?_;exact HV.o _ HQ.o _ _ rfl (eP HB.o aj _ _)
