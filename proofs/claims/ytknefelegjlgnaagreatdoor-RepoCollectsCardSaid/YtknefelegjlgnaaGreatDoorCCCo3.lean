/-
  Lemmas of the card.
-/
import Derived.Test.YtknefelegjlgnaaGreatDoorCCCo2
set_option maxRecDepth 100000
set_option maxHeartbeats 2000000
namespace Go.Proofs.YtknefelegjlgnaaGreatDoor
open Go.RowKit
structure Dk where
 sz:Nat
 ss:List Td
 pn:List (Nat×Td)
 lf:Int
structure Dk.Ok(d:Dk):Prop where
 sz0:0<d.sz
 sz1:d.sz<=512
 n0:0<d.ss.length
 n1:d.ss.length<=1000
 len:∀s∈d.ss,s.length=d.sz
 pn:∀w∈d.pn,w.1<d.ss.length/\w.2.length=d.sz
 lf: -1<=d.lf
 lm:d.lf<=9223372036854775807
abbrev Dop:=Option (Nat×Td)
def fZ(x:Int):Int:=if 0<x then x - 1 else x
def settle(ss:List Td)(ws:List (Nat×Td)):List Td:=ws.foldl (fun s w=>s.set w.1 w.2) ss
def doO(d:Dk):Dop->Dk
 | some w=>{d with pn:=d.pn++ [w],lf:=fZ d.lf}
 | none=>{d with ss:=settle d.ss d.pn,pn:= [],lf:=fZ d.lf}
def aK:Dk->List Dop->Dk×Int
 | d,[]=>(d,0)
 | d,o::os=>if d.lf=0 then(d,20) else aK (doO d o) os
def iC(sz:Nat)(p:Int):Nat:=(p.tmod (sz+1:Nat)).natAbs
def di(sz:Nat):List Td->List (Nat×Td)->List Int->List Td
 | ss,[],_=>ss
 | ss,w::ws,ps=>di sz (ss.set w.1 (w.2.take (iC sz (ps.headD 0))++ (ss.getD w.1 []).drop (iC sz (ps.headD 0)))) ws ps.tail
def gK(d:Dk)(ps:List Int):Dk:={d with ss:=di d.sz d.ss d.pn ps,pn:= [],lf:= -1}
theorem l7(ws:List (Nat×Td)):∀ss:List Td,(settle ss ws).length=ss.length:=by
 induction ws with
 | nil=>intro ss;rfl
 | cons w ws ih=>intro ss;show(settle (ss.set w.1 w.2) ws).length=_;rw[ih,List.length_set]
theorem mr{sz:Nat}:∀(ws:List (Nat×Td))(ss:List Td)(ps:List Int),(di sz ss ws ps).length=ss.length
 | [],_,_=>rfl
 | w::ws,ss,ps=>by rw[di,mr ws,List.length_set]
theorem su{sz:Nat}(Q:Nat->Td->Prop):∀(ws:List (Nat×Td))(ss:List Td)(ps:List Int),(∀i s,ss[i]? =some s->Q i s)-> (∀w∈ws,∀s q,Q w.1 s->Q w.1 (w.2.take q++s.drop q))->∀i s,(di sz ss ws ps)[i]? =some s->Q i s
 | [],_,_,h,_,i,s,hs=>h i s hs
 | w::ws,ss,ps,h,hw,i,s,hs=>by
   rw[di]at hs;refine su Q ws _ _ (fun j t ht=>?_) (fun x hx=>hw x (by simp[hx])) i s hs;rw[List.getElem?_set]at ht;split at ht
   . rename_i e
     subst e;split at ht
     . rename_i hl
       cases ht
       refine hw w (by simp) _ _ (h w.1 _ ?_);rw[List.getD_eq_getElem?_getD,Z5 hl];rfl
     . cases ht
   . exact h j t ht
theorem rq(Q:Nat->Td->Prop):∀(ws:List (Nat×Td))(ss:List Td),(∀i s,ss[i]? =some s->Q i s)-> (∀w∈ws,Q w.1 w.2)->∀i s,(settle ss ws)[i]? =some s->Q i s
 | [],_,h,_,i,s,hs=>h i s hs
 | w::ws,ss,h,hw,i,s,hs=>by
   refine rq Q ws (ss.set w.1 w.2) (fun j t ht=>?_) (fun x hx=>hw x (by simp[hx])) i s hs;rw[List.getElem?_set]at ht;split at ht
   . rename_i e
     subst e;split at ht
     . cases ht;exact hw w (by simp)
     . cases ht
   . exact h j t ht
theorem BA(ss:List Td)(w:Nat×Td):settle ss [w]=ss.set w.1 w.2:=rfl
theorem DJ{L:List Td}{i:Nat}{x:Td}(h:L[i]? =some x):L.set i x=L:=by
 refine List.ext_getElem? fun j=>?_;rw[List.getElem?_set];split
 . rename_i e
   subst e;rw[if_pos (List.getElem?_eq_some_iff.1 h).1,h]
 . rfl
theorem Iq(ss:List Td)(a b:List (Nat×Td)):settle ss (a++b)=settle (settle ss a) b:=by simp[settle]
theorem oK:∀(os:List Dop)(d:Dk),∃pre suf,os=pre++suf/\ (aK d os).1=pre.foldl doO d/\ ((suf= []/\ (aK d os).2=0)∨ ((aK d os).2=20/\ (aK d os).1.lf=0))
 | [],d=>⟨[],[],rfl,rfl,.inl ⟨rfl,rfl⟩⟩
 | o::os,d=>by
   by_cases h:d.lf=0
   . exact⟨[],o::os,rfl,by simp[aK,h],.inr (by simp[aK,h])⟩
   . obtain⟨pre,suf,h1,h2,h3⟩:=oK os (doO d o)
     refine⟨o::pre,suf,by rw[h1];rfl,?_,?_⟩
     . rw[aK,if_neg h];exact h2
     . rw[aK,if_neg h];exact h3
theorem QI{d:Dk}{o:Dop}(h:d.lf= -1): (doO d o).lf= -1:=by cases o <;> simp[doO,fZ,h]
theorem rH:∀(os:List Dop)(d:Dk),d.lf= -1->aK d os= (os.foldl doO d,0)/\ (os.foldl doO d).lf= -1
 | [],d,h=>⟨rfl,h⟩
 | o::os,d,h=>by rw[aK,if_neg (by omega)];exact rH os _ (QI h)
theorem oh:∀(ws:List (Nat×Td))(d:Dk),((ws.map some).foldl doO d).ss=d.ss/\ ((ws.map some).foldl doO d).pn=d.pn++ws/\ ((ws.map some).foldl doO d).sz=d.sz
 | [],d=>⟨rfl,by simp,rfl⟩
 | w::ws,d=>by
   obtain⟨h1,h2,h3⟩:=oh ws (doO d (some w));exact⟨h1,by rw[List.map_cons,List.foldl_cons,h2];simp[doO],h3⟩
/-! ### journals -/
def hf(ss:List Td):Nat:=(ss.length - 1) / 2
def aH(ss:List Td)(a:Nat):Nat:=1+ (a - 1)*hf ss
def area(ss:List Td)(a:Nat):Td:=((ss.drop (aH ss a)).take (hf ss)).flatten
def dD(sz a:Nat):Td:=bJ sz [UInt8.ofNat a]
structure Jn(sz:Nat)(ss:List Td)(a:Nat)(rs:List Td)(u:Nat):Prop where
 sz0:0<sz
 n3:3<=ss.length
 len:∀s∈ss,s.length=sz
 act:a=1∨a=2
 mark:ss[0]? =some (dD sz a)
 recs:frs sz (area ss a)=some (rs,u)
section
variable {sz : Nat} {ss ss' : List Td} {a u : Nat} {rs l : List Td}
theorem yf{L:List Td}(h:∀s∈L,s.length=sz):L.flatten.length=L.length*sz:=by
 induction L with
 | nil=>simp
 | cons x L ih=>rw[List.flatten_cons,af,ih (fun s hs=>h s (by simp[hs])),h x (by simp),Z4,Nat.succ_mul];omega
theorem Af{L:List Td}(h:∀s∈L,s.length=sz)(k:Nat):L.flatten.take (k*sz)= (L.take k).flatten:=by
 induction L generalizing k with
 | nil=>simp
 | cons x L ih =>
   cases k with
   | zero=>simp
   | succ k =>
     have hx:=h x (by simp);rw[List.flatten_cons,List.take_append,hx,ZU (by rw[hx,Nat.succ_mul];omega),Nat.succ_mul,Nat.add_sub_cancel,ih (fun s hs=>h s (by simp[hs])),List.take_succ_cons,List.flatten_cons]
theorem Ap{L:List Td}(h:∀s∈L,s.length=sz)(k:Nat):L.flatten.drop (k*sz)= (L.drop k).flatten:=by
 induction L generalizing k with
 | nil=>simp
 | cons x L ih =>
   cases k with
   | zero=>simp
   | succ k =>
     have hx:=h x (by simp);rw[List.flatten_cons,List.drop_append,hx,List.drop_of_length_le (l:=x) (by rw[hx,Nat.succ_mul];omega),List.nil_append,Nat.succ_mul,Nat.add_sub_cancel,ih (fun s hs=>h s (by simp[hs])),List.drop_succ_cons]
def fB(ss:List Td)(a:Nat):List Td:=(ss.drop (aH ss a)).take (hf ss)
theorem kZ{i:Nat}: (fB ss a)[i]? =if i<hf ss then ss[aH ss a+i]? else none:=by
 unfold fB;rw[List.getElem?_take,List.getElem?_drop]
theorem iL(h:a=1∨a=2)(hn:3<=ss.length):aH ss a+hf ss<=ss.length/\1<=aH ss a/\1<=hf ss:=by
 unfold aH hf;rcases h with rfl | rfl <;> omega
theorem D8(h:a=1∨a=2)(hn:3<=ss.length): (fB ss a).length=hf ss:=by
 have:=iL h hn;unfold fB;rw[List.length_take,List.length_drop];omega
theorem jD(h:∀s∈ss,s.length=sz):∀s∈fB ss a,s.length=sz:=fun s hs=>h s (List.mem_of_mem_drop (List.mem_of_mem_take hs))
theorem Jn.u_le(h:Jn sz ss a rs u):u<=hf ss:=by
 have h1:=FM h.sz0 _ _ _ _ aj h.recs (by
  show sz ∣ (fB ss a).flatten.length;rw[yf (jD h.len)];exact Nat.dvd_mul_left _ _)
 have h2: (area ss a).length=hf ss*sz:=by
  show(fB ss a).flatten.length=_;rw[yf (jD h.len),D8 h.act h.n3]
 rw[h2]at h1;exact Nat.le_of_mul_le_mul_right h1 h.sz0
theorem Jn.free(h:Jn sz ss a rs u){s:Td}(hu:u<hf ss)(hs:ss[aH ss a+u]? =some s):zer s:=by
 have h1:=Fb h.sz0 _ _ _ _ aj h.recs;have h2: (area ss a).drop (u*sz)= ((fB ss a).drop u).flatten:=Ap (jD h.len) u;have h3: (fB ss a)[u]? =some s:=by rw[kZ,if_pos hu];exact hs
 have hl:=List.getElem?_eq_some_iff.1 h3;rw[h2,List.drop_eq_getElem_cons hl.1,hl.2,List.flatten_cons]at h1;intro x hx;refine h1 x ?_;cases s with
 | nil=>cases hx
 | cons y s=>exact hx
theorem Jn.other(h:Jn sz ss a rs u)(hn:ss'.length=ss.length)(hl:∀s∈ss',s.length=sz)(h0:ss'[0]? =ss[0]?)(hu:∀i,i<u->ss'[aH ss a+i]? =ss[aH ss a+i]?){k:Nat}(hr:frs sz (((fB ss' a).drop u).flatten)=some (l,k)):Jn sz ss' a (rs++l) (u+k):=by
 have e1:hf ss'=hf ss:=by unfold hf;rw[hn]
 have e2:aH ss' a=aH ss a:=by unfold aH;rw[e1]
 refine⟨h.sz0,by rw[hn];exact h.n3,hl,h.act,h0.trans h.mark,?_⟩;refine FO h.sz0 _ _ _ _ _ _ _ aj h.recs ?_ ?_
 . show(fB ss' a).flatten.take _= (fB ss a).flatten.take _
   rw[Af (jD hl),Af (jD h.len)]
   congr 1
   refine List.ext_getElem? fun i=>?_;rw[List.getElem?_take,List.getElem?_take];split
   . rename_i hi
     rw[kZ,kZ,e1,e2,hu i hi]
   . rfl
 . show frs sz ((fB ss' a).flatten.drop _)=_
   rw[Ap (jD hl)];exact hr
theorem xw{L:List Td}(hsz:0<sz)(hl:∀s∈L,s.length=sz)(h:∀s,L[0]? =some s->zer s):zer L.flatten:=by
 cases L with
 | nil=>intro x hx;cases hx
 | cons s L =>
   have hs:=h s rfl;cases s with
   | nil=>have:=hl [] (by simp);simp at this;omega
   | cons y s=>intro x hx;exact hs x hx
theorem Jn.keep(h:Jn sz ss a rs u)(hn:ss'.length=ss.length)(hl:∀s∈ss',s.length=sz)(h0:ss'[0]? =ss[0]?)(hu:∀i,i<u->ss'[aH ss a+i]? =ss[aH ss a+i]?)(hz:∀s,u<hf ss->ss'[aH ss a+u]? =some s->zer s):Jn sz ss' a rs u:=by
 have e1:hf ss'=hf ss:=by unfold hf;rw[hn]
 have e2:aH ss' a=aH ss a:=by unfold aH;rw[e1]
 have:=h.other (l:= []) (k:=0) hn hl h0 hu (kJ (xw h.sz0 (fun s hs=>jD hl s (List.mem_of_mem_drop hs)) (fun s hs=>by
  rw[List.getElem?_drop,kZ,e1,e2]at hs;split at hs
  . rename_i hi;exact hz s hi hs
  . cases hs)))
 rwa[List.append_nil]at this
end
/-! ### appending -/
def dO(at_:Nat)(S:List Td)(e sz:Nat):List (Nat×Td):=(S.zipIdx at_).map (fun p=>(p.2,p.1))++ (if at_+S.length<e then [(at_+S.length,bJ sz [])] else [])
def ji:List Td->List Td
 | []=> []
 | s::S=>(0::s.tail)::S
def fV(sz:Nat)(ss:List Td)(a u:Nat)(S:List Td):List Dop :=
 (dO (aH ss a+u) (ji S) (aH ss a+hf ss) sz).map some++ [none,some (aH ss a+u,S.headD []),none]
def gG(sz:Nat)(ss:List Td)(a:Nat)(S:List Td):List Dop :=
 (dO (aH ss (3 - a)) S (aH ss (3 - a)+hf ss) sz).map some++ [none,some (0,dD sz (3 - a)),none]
theorem xG:∀(S:List Td)(p:Nat)(ss:List Td),p+S.length<=ss.length->∀i,(settle ss ((S.zipIdx p).map (fun q=>(q.2,q.1))))[i]? =if p<=i/\i<p+S.length then S[i - p]? else ss[i]?
 | [],p,ss,_,i=>by simp[settle];omega
 | s::S,p,ss,h,i=>by
   show(settle (ss.set p s) ((S.zipIdx (p+1)).map (fun q=>(q.2,q.1))))[i]? =_;rw[Z4]at h ⊢;rw[xG S (p+1) (ss.set p s) (by rw[List.length_set];omega) i];by_cases h1:p+1<=i/\i<p+1+S.length
   . rw[if_pos h1,if_pos (by omega),show i - p= (i - (p+1))+1 by omega,List.getElem?_cons_succ]
   . rw[if_neg h1,List.getElem?_set]
     by_cases h2:p=i
     . subst h2
       rw[if_pos rfl,if_pos (by omega),if_pos (by omega),Nat.sub_self,List.getElem?_cons_zero]
     . rw[if_neg h2,if_neg (by omega)]
theorem Dy{S:List Td}{p e sz:Nat}{ss:List Td}(h:p+S.length<=e)(he:e<=ss.length)(i:Nat): (settle ss (dO p S e sz))[i]? =if p<=i/\i<p+S.length then S[i - p]? else if i=p+S.length/\i<e then some (bJ sz []) else ss[i]? :=by
 unfold dO;rw[Iq];split
 . rename_i hlt
   show((settle ss _).set _ _)[i]? =_;rw[List.getElem?_set,l7,xG S p ss (by omega) i];by_cases h1:p+S.length=i
   . rw[if_pos h1,if_pos (by omega),if_neg (by omega),if_pos (by omega)]
   . rw[if_neg h1,if_neg (c:=i=p+S.length/\i<e) (by omega)]
 . rename_i hlt
   show(settle ss _)[i]? =_;rw[xG S p ss (by omega) i,if_neg (c:=i=p+S.length/\i<e) (by omega)]
theorem sH{S:List Td}{p e sz:Nat}{w:Nat×Td}(h:p+S.length<=e)(hw:w∈dO p S e sz):p<=w.1/\w.1<e/\ (S[w.1 - p]? =some w.2∨ (w.1=p+S.length/\w.2=bJ sz [])):=by
 unfold dO at hw;rcases List.mem_append.1 hw with hw | hw
 . obtain⟨q,hq,rfl⟩:=List.mem_map.1 hw
   have h1:=List.mem_zipIdx hq;obtain⟨h2,h3,h4⟩:=h1;refine⟨h2,by show q.2<e;omega,.inl ?_⟩;show S[q.2 - p]? =some q.1;rw[h4];exact Z5 _
 . split at hw
   . rename_i hlt
     rw[ae]at hw;subst hw;exact⟨by show p<=p+S.length;omega,hlt,.inr ⟨rfl,rfl⟩⟩
   . cases hw
theorem Ci{W pre suf:List Dop}{x y z:Dop}(h:W++ [x,y,z]=pre++suf): (∃t,W=pre++t)∨pre=W++ [x]∨pre=W++ [x,y]∨ (pre=W++ [x,y,z]/\suf= []):=by
 rcases List.append_eq_append_iff.1 h with ⟨t,h1,h2⟩ | ⟨t,h1,h2⟩
 . match t,h2 with
   | [],h2=>exact .inl ⟨[],by rw[h1];simp⟩
   | [_],h2=>simp only[List.cons_append,List.nil_append,List.cons.injEq]at h2;rw[h2.1];exact .inr (.inl h1)
   | [_,_],h2=>simp only[List.cons_append,List.nil_append,List.cons.injEq]at h2;rw[h2.1,h2.2.1];exact .inr (.inr (.inl h1))
   | _::_::_::t,h2 =>
     simp only[List.cons_append,List.cons.injEq]at h2;have h3:=List.append_eq_nil_iff.1 h2.2.2.2.symm;rw[h3.1,<-h2.1,<-h2.2.1,<-h2.2.2.1]at h1;exact .inr (.inr (.inr ⟨h1,h3.2⟩))
 . exact .inl ⟨t,h1⟩
theorem EU{pre t:List Dop}{V:List (Nat×Td)}(h:V.map some=pre++t):∃V':List (Nat×Td),pre=V'.map some/\∀w∈V',w∈V:=by
 refine⟨V.take pre.length,?_,fun w hw=>List.mem_of_mem_take hw⟩;rw[List.map_take,h,List.take_left]
theorem OT{x y:Td}(h0:0<x.length)(hx:zer x)(hy:zer y)(q:Nat):zer (x.take q++y.drop q):=by
 cases q with
 | zero=>simpa using hy
 | succ q =>
   cases x with
   | nil=>simp at h0
   | cons a x=>intro z hz;exact hx z (by simpa using hz)
theorem yt{sz:Nat}{x y:Td}(hx:x.length=sz)(hy:y.length=sz)(q:Nat): (x.take q++y.drop q).length=sz:=by
 rw[af,List.length_take,List.length_drop];omega
theorem CX{x y:UInt8}{t:Td}(q:Nat): (x::t).take q++ (y::t).drop q=if q=0 then y::t else x::t:=by
 cases q with
 | zero=>rfl
 | succ q=>rw[if_neg (by omega)];simp
theorem sS(sz:Nat):zer (bJ sz []):=by
 intro x hx;unfold bJ at hx;rw[List.nil_append]at hx;exact List.eq_of_mem_replicate (List.mem_of_mem_head? hx)
theorem DF(sz a:Nat):dD sz a=UInt8.ofNat a::List.replicate (sz - 1) 0:=by simp[dD,bJ]
section
variable {sz : Nat} {ss ss' S : List Td} {a u : Nat} {rs l : List Td}
structure SecF(sz:Nat)(l:List Td)(S:List Td):Prop where
 fit:gm l
 eq:S=secs sz (aC l)
theorem SecF.cons(h:SecF sz l S)(hz:0<sz):∃t S1,S= (1::t)::S1/\ (1::t:Td).length=sz:=by
 have h1:aC l≠ []:=by unfold aC;simp
 have h2:=wC hz h1;obtain⟨k,rfl⟩:∃k,sz=k+1:=⟨sz - 1,by omega⟩
 have h3: (aC l).take (k+1)=1:: (ak (bU l).length++bU l).take k:=rfl;have h4:=iO (sz:=k+1) (t:=(aC l).take (k+1)) (by rw[List.length_take];omega);rw[h3]at h2 h4;exact⟨_,_,h.eq.trans h2,h4⟩
theorem SecF.siz(h:SecF sz l S)(hz:0<sz):∀s∈S,s.length=sz:=by rw[h.eq];exact(lZ hz _ _ aj).2.1
theorem SecF.read(h:SecF sz l S)(hz:0<sz){rest:Td}(hr:zer rest):frs sz (S.flatten++rest)=some (l,S.length):=by
 have h1:=P7 hz h.fit hr;rw[h.eq,h1,(lZ hz _ _ aj).1]
theorem Ej(hz:0<sz)(hl:∀s∈ss',s.length=sz){k:Nat}(h:∀s,k<hf ss'->ss'[aH ss' a+k]? =some s->zer s):zer ((fB ss' a).drop k).flatten :=
 xw hz (fun s hs=>jD hl s (List.mem_of_mem_drop hs)) (fun s hs=>by
  rw[List.getElem?_drop,kZ]at hs;split at hs
  . rename_i hi;exact h s hi hs
  . cases hs)
theorem BC{S:List Td}{k:Nat}(hk:k+S.length<=hf ss')(h:∀i,i<S.length->ss'[aH ss' a+ (k+i)]? =S[i]?): (fB ss' a).drop k=S++ (fB ss' a).drop (k+S.length):=by
 refine List.ext_getElem? fun i=>?_;rw[List.getElem?_drop,List.getElem?_append];split
 . rename_i hi
   rw[kZ,if_pos (by omega),h i hi]
 . rename_i hi
   rw[List.getElem?_drop]
   congr 1;omega
theorem Jn.frame(h:Jn sz ss a rs u){S:List Td}(hS:SecF sz l S)(hk:u+S.length<=hf ss)(hn:ss'.length=ss.length)(hl:∀s∈ss',s.length=sz)(h0:ss'[0]? =ss[0]?)(hu:∀i,i<u->ss'[aH ss a+i]? =ss[aH ss a+i]?)
  (hs:∀i,i<S.length->ss'[aH ss a+ (u+i)]? =S[i]?) (hz:∀s,u+S.length<hf ss->ss'[aH ss a+ (u+S.length)]? =some s->zer s):Jn sz ss' a (rs++l) (u+S.length):=by
 have e1:hf ss'=hf ss:=by unfold hf;rw[hn]
 have e2:aH ss' a=aH ss a:=by unfold aH;rw[e1]
 refine h.other hn hl h0 hu ?_;rw[BC (by rw[e1];exact hk) (by rw[e2];exact hs),List.flatten_append];exact hS.read h.sz0 (Ej h.sz0 hl (by rw[e1,e2];exact hz))
theorem BN(h:Jn sz ss a rs u){S:List Td}(hS:SecF sz l S)(hk:u+S.length<=hf ss){lf:Int}{pre suf:List Dop}(hp:fV sz ss a u S=pre++suf)(ps:List Int) :
  let d:=pre.foldl doO ⟨sz,ss,[],lf⟩
  (Jn sz (di sz d.ss d.pn ps) a rs u∨Jn sz (di sz d.ss d.pn ps) a (rs++l) (u+S.length))/\ (suf= []->d.pn= []/\Jn sz d.ss a (rs++l) (u+S.length)):=by
 have hfit:=iL h.act h.n3;obtain⟨t,S1,rfl,ht⟩:=hS.cons h.sz0;have hSz:=hS.siz h.sz0;have hkl:u<hf ss:=by rw[Z4]at hk;omega
 have hfl: (ji ((1::t)::S1))= (0::t)::S1:=rfl;have hle:aH ss a+u+ (((0:UInt8)::t)::S1).length<=aH ss a+hf ss:=by simp only[Z4]at hk ⊢;omega
 have hW:∀w∈dO (aH ss a+u) ((0::t)::S1) (aH ss a+hf ss) sz,aH ss a+u<=w.1/\w.1<aH ss a+hf ss/\w.2.length=sz/\ (w.1=aH ss a+u->zer w.2):=by
  intro w hw;obtain⟨h1,h2,h3⟩:=sH hle hw;refine⟨h1,h2,?_,?_⟩
  . rcases h3 with h3 | ⟨_,h3⟩
    . rcases List.mem_cons.1 (Z7 h3) with e | e
      . rw[e];simpa using ht
      . exact hSz _ (by simp[e])
    . rw[h3];exact iO (by simp)
  . intro e
    rcases h3 with h3 | ⟨h3,_⟩
    . rw[e,Nat.sub_self]at h3
      simp only[List.getElem?_cons_zero,Option.some.injEq]at h3;rw[<-h3];intro x hx;simpa using hx.symm
    . rw[Z4]at h3;omega
 let Q:Nat->Td->Prop:=fun i s=>s.length=sz/\ ((i<aH ss a+u∨aH ss a+hf ss<=i)->ss[i]? =some s)/\ (i=aH ss a+u->zer s)
 have f:∀i s,ss[i]? =some s->Q i s:=fun i s hs=>⟨h.len s (Z7 hs),fun _=>hs,fun e=>h.free hkl (by rw[<-e];exact hs)⟩
 have g:∀ss':List Td,ss'.length=ss.length-> (∀i s,ss'[i]? =some s->Q i s)->Jn sz ss' a rs u:=by
  intro ss' hn hq;have hsame:∀i,i<aH ss a+u->ss'[i]? =ss[i]? :=by
   intro i hi;have hl:i<ss'.length:=by rw[hn];omega
   have:=(hq i _ (Z5 hl)).2.1 (.inl hi);rw[this,Z5 hl]
  refine h.keep hn (fun s hs=>?_) (hsame 0 (by omega)) (fun i hi=>hsame _ (by omega)) (fun s _ hs=>(hq _ _ hs).2.2 rfl);obtain⟨i,hi⟩:=List.mem_iff_getElem?.1 hs;exact(hq i s hi).1
 have j:∀i s,(settle ss (dO (aH ss a+u) ((0::t)::S1) (aH ss a+hf ss) sz))[i]? =some s->Q i s :=
  rq Q _ _ f (fun w hw=>by
   obtain⟨h1,h2,h3,h4⟩:=hW w hw;exact⟨h3,fun e=>by omega,h4⟩)
 obtain⟨b,c⟩:=NX9 (settle ss (dO (aH ss a+u) ((0::t)::S1) (aH ss a+hf ss) sz))
 have hget:=Dy (sz:=sz) (ss:=ss) hle (by omega);rw[c]at j;simp only[c]at hget;have hn1:b.length=ss.length:=by rw[<-c,l7]
 have hJ1:=g b hn1 j;have hp0:b[aH ss a+u]? =some (0::t):=by rw[hget,if_pos (by simp),Nat.sub_self];rfl
 have hpl:aH ss a+u<b.length:=by rw[hn1];omega
 have hJ2:Jn sz (b.set (aH ss a+u) (1::t)) a (rs++l) (u+ ((1::t)::S1).length):=by
  have hne:∀i,i≠aH ss a+u-> (b.set (aH ss a+u) (1::t))[i]? =b[i]? :=fun i hi=>List.getElem?_set_ne (Ne.symm hi);refine h.frame hS hk (by rw[List.length_set];exact hn1) ?_ ?_ ?_ ?_ ?_
  . intro s hs
    rcases List.mem_or_eq_of_mem_set hs with hs | rfl
    . exact hJ1.len s hs
    . exact ht
  . rw[hne 0 (by omega),hget,if_neg (by omega),if_neg (by omega)]
  . intro i hi
    rw[hne _ (by omega),hget,if_neg (by omega),if_neg (by simp only[Z4];omega)]
  . intro i hi
    by_cases e:i=0
    . subst e;rw[Nat.add_zero,List.getElem?_set_self hpl];rfl
    . rw[hne _ (by omega),hget,if_pos (by simp only[Z4]at hi ⊢;omega),show aH ss a+ (u+i) - (aH ss a+u)= (i - 1)+1 by omega,List.getElem?_cons_succ]
      rw[show i= (i - 1)+1 by omega,List.getElem?_cons_succ];rfl
  . intro s hlt hs
    rw[hne _ (by simp),hget,if_neg (by simp only[Z4]at hlt ⊢;omega),if_pos (by simp only[Z4]at hlt ⊢;omega)]at hs;cases hs;exact sS sz
 have hset:di sz b [(aH ss a+u,1::t)] ps=b∨di sz b [(aH ss a+u,1::t)] ps=b.set (aH ss a+u) (1::t):=by
  have hg:b.getD (aH ss a+u) []=0::t:=by rw[List.getD_eq_getElem?_getD,hp0];rfl
  simp only[di,hg,CX];split
  . left;exact DJ hp0
  . right;rfl
 unfold fV at hp;rw[hfl]at hp;obtain⟨f1,f2,f3⟩:=oh (dO (aH ss a+u) ((0::t)::S1) (aH ss a+hf ss) sz) ⟨sz,ss,[],lf⟩;rw[List.nil_append]at f2;rcases Ci hp with ⟨t',h1⟩ | rfl | rfl | ⟨rfl,rfl⟩
 . obtain⟨V,rfl,hV⟩:=EU h1
   obtain⟨g1,g2,g3⟩:=oh V ⟨sz,ss,[],lf⟩;rw[List.nil_append]at g2;refine⟨.inl ?_,fun e=>?_⟩
   . rw[g1,g2]
     refine g _ (mr _ _ _) (su Q _ _ _ f (fun w hw s q hs=>?_));obtain⟨h1,h2,h3,h4⟩:=hW w (hV w hw);exact⟨yt h3 hs.1 q,fun e=>by omega,fun e=>OT (by rw[h3];exact h.sz0) (h4 e) (hs.2.2 e) q⟩
   . subst e
     exfalso
     have h5:=congrArg List.length hp;have h6:=congrArg List.length h1;simp only[af,Z4,List.length_nil,List.length_map]at h5 h6;omega
 . rw[List.foldl_append]
   refine⟨.inl ?_,fun e=>?_⟩
   . simp only[List.foldl_cons,List.foldl_nil,doO,f1,f2,c,di]
     exact hJ1
   . subst e
     have:=congrArg List.length hp;simp at this
 . rw[List.foldl_append]
   refine⟨?_,fun e=>?_⟩
   . simp only[List.foldl_cons,List.foldl_nil,doO,f1,f2,c,List.nil_append,List.headD_cons]
     rcases hset with e | e
     . rw[e];exact .inl hJ1
     . rw[e];exact .inr hJ2
   . subst e
     have:=congrArg List.length hp;simp at this
 . rw[List.foldl_append]
   simp only[List.foldl_cons,List.foldl_nil,doO,f1,f2,c,List.nil_append,List.headD_cons,di,BA];exact⟨.inr hJ2,fun _=>⟨trivial,hJ2⟩⟩
theorem KO(h:Jn sz ss a rs u){S:List Td}(hS:SecF sz l S)(hk:S.length<=hf ss){lf:Int}{pre suf:List Dop}(hp:gG sz ss a S=pre++suf)(ps:List Int) :
  let d:=pre.foldl doO ⟨sz,ss,[],lf⟩
  (Jn sz (di sz d.ss d.pn ps) a rs u∨Jn sz (di sz d.ss d.pn ps) (3 - a) l S.length)/\ (suf= []->d.pn= []/\Jn sz d.ss (3 - a) l S.length):=by
 have hfit:=iL h.act h.n3;have hb:3 - a=1∨3 - a=2:=by rcases h.act with rfl | rfl <;> simp
 have hfb:=iL hb h.n3;have hSz:=hS.siz h.sz0;have hap:∀i,i<hf ss->aH ss a+i<aH ss (3 - a)∨aH ss (3 - a)+hf ss<=aH ss a+i:=by
  intro i hi;unfold aH;rcases h.act with rfl | rfl <;> simp <;> omega
 have hu:=h.u_le;obtain⟨p,hpp⟩:=NX9 (aH ss (3 - a))
 rw[hpp]at hap hfb;have hle:p+S.length<=p+hf ss:=by omega
 have hW:∀w∈dO p S (p+hf ss) sz,p<=w.1/\w.1<p+hf ss/\w.2.length=sz:=by
  intro w hw;obtain⟨h1,h2,h3⟩:=sH hle hw;refine⟨h1,h2,?_⟩;rcases h3 with h3 | ⟨_,h3⟩
  . exact hSz _ (Z7 h3)
  . rw[h3];exact iO (by simp)
 let Q:Nat->Td->Prop:=fun i s=>s.length=sz/\ ((i<p∨p+hf ss<=i)->ss[i]? =some s)
 have g:∀i s,ss[i]? =some s->Q i s:=fun i s hs=>⟨h.len s (Z7 hs),fun _=>hs⟩
 have j:∀ss':List Td,ss'.length=ss.length-> (∀i s,ss'[i]? =some s->Q i s)->Jn sz ss' a rs u:=by
  intro ss' hn hq;have hsame:∀i,i<ss.length-> (i<p∨p+hf ss<=i)->ss'[i]? =ss[i]? :=by
   intro i hi hi2;have hl:i<ss'.length:=by rw[hn];exact hi
   have:=(hq i _ (Z5 hl)).2 hi2;rw[this,Z5 hl]
  refine h.keep hn (fun s hs=>?_) (hsame 0 (by omega) (by omega)) (fun i hi=>hsame _ (by omega) (hap i (by omega))) (fun s hlt hs=>?_)
  . obtain⟨i,hi⟩:=List.mem_iff_getElem?.1 hs
    exact(hq i s hi).1
  . rw[hsame _ (by omega) (hap u hlt)]at hs
    exact h.free hlt hs
 obtain⟨c,f⟩:=NX9 (settle ss (dO p S (p+hf ss) sz))
 have m:∀i s,c[i]? =some s->Q i s:=by
  rw[<-f];exact rq Q _ _ g (fun w hw=>by
   obtain⟨h1,h2,h3⟩:=hW w hw;exact⟨h3,fun e=>by omega⟩)
 have hget:=Dy (sz:=sz) (ss:=ss) hle (by omega);simp only[f]at hget;have hn1:c.length=ss.length:=by rw[<-f,l7]
 have hJ1:=j c hn1 m;have hl0:0<c.length:=by rw[hn1];omega
 have hmk:∀b,(dD sz b).length=sz:=fun b=>iO (by have:=h.sz0;simp;omega);have hJ2:Jn sz (c.set 0 (dD sz (3 - a))) (3 - a) l S.length:=by
  have e1:hf (c.set 0 (dD sz (3 - a)))=hf ss:=by unfold hf;rw[List.length_set,hn1]
  have e2:aH (c.set 0 (dD sz (3 - a))) (3 - a)=p:=by rw[<-hpp];unfold aH;rw[e1]
  have hne:∀i,i≠0-> (c.set 0 (dD sz (3 - a)))[i]? =c[i]? :=fun i hi=>List.getElem?_set_ne (Ne.symm hi);have hl:∀s∈c.set 0 (dD sz (3 - a)),s.length=sz:=by
   intro s hs;rcases List.mem_or_eq_of_mem_set hs with hs | rfl
   . exact hJ1.len s hs
   . exact hmk _
  refine⟨h.sz0,by rw[List.length_set,hn1];exact h.n3,hl,hb,List.getElem?_set_self hl0,?_⟩;show frs sz ((fB _ (3 - a)).flatten)=_;have hsp:=BC (ss':=c.set 0 (dD sz (3 - a))) (a:=3 - a) (S:=S) (k:=0) (by rw[e1];omega) (by
   intro i hi;rw[e2,hne _ (by omega),hget,if_pos (by omega)];congr 1;omega)
  rw[List.drop_zero,Nat.zero_add]at hsp;rw[hsp,List.flatten_append];exact hS.read h.sz0 (Ej h.sz0 hl (by
   intro s hlt hs;rw[e1]at hlt;rw[e2,hne _ (by omega),hget,if_neg (by omega),if_pos (by omega)]at hs;cases hs;exact sS sz))
 have hset:di sz c [(0,dD sz (3 - a))] ps=c∨di sz c [(0,dD sz (3 - a))] ps=c.set 0 (dD sz (3 - a)):=by
  have hp0:=hJ1.mark;have hg:c.getD 0 []=dD sz a:=by rw[List.getD_eq_getElem?_getD,hp0];rfl
  simp only[di,hg];rw[DF]at hp0 ⊢;rw[DF,CX];split
  . left;exact DJ hp0
  . right;rfl
 unfold gG at hp;rw[hpp]at hp;obtain⟨f1,f2,f3⟩:=oh (dO p S (p+hf ss) sz) ⟨sz,ss,[],lf⟩;rw[List.nil_append]at f2;rcases Ci hp with ⟨t',h1⟩ | rfl | rfl | ⟨rfl,rfl⟩
 . obtain⟨V,rfl,hV⟩:=EU h1
   obtain⟨g1,g2,g3⟩:=oh V ⟨sz,ss,[],lf⟩;rw[List.nil_append]at g2;refine⟨.inl ?_,fun e=>?_⟩
   . rw[g1,g2]
     refine j _ (mr _ _ _) (su Q _ _ _ g (fun w hw s q hs=>?_));obtain⟨h1,h2,h3⟩:=hW w (hV w hw);exact⟨yt h3 hs.1 q,fun e=>by omega⟩
   . subst e
     exfalso
     have h5:=congrArg List.length hp;have h6:=congrArg List.length h1;simp only[af,Z4,List.length_nil,List.length_map]at h5 h6;omega
 . rw[List.foldl_append]
   refine⟨.inl ?_,fun e=>?_⟩
   . simp only[List.foldl_cons,List.foldl_nil,doO,f1,f2,f,di]
     exact hJ1
   . subst e
     have:=congrArg List.length hp;simp at this
 . rw[List.foldl_append]
   refine⟨?_,fun e=>?_⟩
   . simp only[List.foldl_cons,List.foldl_nil,doO,f1,f2,f,List.nil_append]
     rcases hset with e | e
     . rw[e];exact .inl hJ1
     . rw[e];exact .inr hJ2
   . subst e
     have:=congrArg List.length hp;simp at this
 . rw[List.foldl_append]
   simp only[List.foldl_cons,List.foldl_nil,doO,f1,f2,f,List.nil_append,di,BA];exact⟨.inr hJ2,fun _=>⟨trivial,hJ2⟩⟩
end
/-! ### disks that hold a journal -/
structure Dur(d:Dk)(rs:List Td):Prop where
 ok:d.Ok
 pn:d.pn= []
 jn:∃a u,Jn d.sz d.ss a rs u
structure Brk(d:Dk)(rs rs':List Td):Prop where
 ok:d.Ok
 lf:d.lf=0
 cut:∀ps,Dur (gK d ps) rs∨Dur (gK d ps) rs'
theorem Eu{x:Int}(h:x<=9223372036854775807):fZ x<=9223372036854775807:=by unfold fZ;split <;> omega
theorem DV{x:Int}(h: -1<=x): -1<=fZ x:=by unfold fZ;split <;> omega
def jX(d:Dk)(o:Dop):Prop:=∀w,o=some w->w.1<d.ss.length/\w.2.length=d.sz
theorem xq(d:Dk)(o:Dop): (doO d o).sz=d.sz/\ (doO d o).ss.length=d.ss.length:=by
 cases o with
 | none=>exact⟨rfl,l7 _ _⟩
 | some w=>exact⟨rfl,rfl⟩
theorem Dk.Ok.doO{d:Dk}(h:d.Ok){o:Dop}(ho:jX d o): (Go.Proofs.YtknefelegjlgnaaGreatDoor.doO d o).Ok:=by
 cases o with
 | none =>
   refine⟨h.sz0,h.sz1,by show 0< (settle _ _).length;rw[l7];exact h.n0,by show(settle _ _).length<=_;rw[l7];exact h.n1,?_,(by intro w hw;cases hw),DV h.lf,Eu h.lm⟩;intro s hs;obtain⟨i,hi⟩:=List.mem_iff_getElem?.1 hs;exact rq (fun _ s=>s.length=d.sz) _ _ (fun i s hs=>h.len s (Z7 hs)) (fun w hw=>(h.pn w hw).2) i s hi
 | some w =>
   refine⟨h.sz0,h.sz1,h.n0,h.n1,h.len,?_,DV h.lf,Eu h.lm⟩;intro x hx;rcases List.mem_append.1 hx with hx | hx
   . exact h.pn x hx
   . rw[ae]at hx;subst hx;exact ho x rfl
theorem tN:∀(os:List Dop)(d:Dk),d.Ok-> (∀o∈os,jX d o)-> (os.foldl doO d).Ok/\ (os.foldl doO d).sz=d.sz/\ (os.foldl doO d).ss.length=d.ss.length
 | [],d,h,_=>⟨h,rfl,rfl⟩
 | o::os,d,h,ho=>by
   obtain⟨k1,k2⟩:=xq d o;obtain⟨h1,h2,h3⟩:=tN os _ (h.doO (ho o (by simp))) (fun x hx w hw=>by rw[k1,k2];exact ho x (by simp[hx]) w hw);exact⟨h1,h2.trans k1,h3.trans k2⟩
theorem Dk.Ok.cut{d:Dk}(h:d.Ok)(ps:List Int): (gK d ps).Ok:=by
 refine⟨h.sz0,h.sz1,by show 0< (di _ _ _ _).length;rw[mr];exact h.n0,by show(di _ _ _ _).length<=_;rw[mr];exact h.n1,?_,(by intro w hw;cases hw),by show(-1:Int)<= -1;omega,by show(-1:Int)<=_;omega⟩;intro s hs;obtain⟨i,hi⟩:=List.mem_iff_getElem?.1 hs;exact su (fun _ s=>s.length=d.sz) _ _ _ (fun i s hs=>h.len s (Z7 hs)) (fun w hw s q hq=>yt (h.pn w hw).2 hq q) i s hi
theorem Dur.cut{d:Dk}{rs:List Td}(h:Dur d rs)(ps:List Int):Dur (gK d ps) rs:=by
 refine⟨h.ok.cut ps,rfl,?_⟩;show ∃a u,Jn d.sz (di d.sz d.ss d.pn ps) a rs u;rw[h.pn];exact h.jn
theorem Fz{d:Dk}{rs rs':List Td}(h:Dur d rs)(os:List Dop)(hf:∀o∈os,jX d o)
  (hs:∀pre suf ps,os=pre++suf->let e:=pre.foldl doO ⟨d.sz,d.ss,[],d.lf⟩
    ((∃a u,Jn d.sz (di d.sz e.ss e.pn ps) a rs u)∨ (∃a u,Jn d.sz (di d.sz e.ss e.pn ps) a rs' u))/\ (suf= []->e.pn= []/\∃a u,Jn d.sz e.ss a rs' u)) :
  ((aK d os).2=0/\Dur (aK d os).1 rs')∨ ((aK d os).2=20/\Brk (aK d os).1 rs rs'):=by
 obtain⟨pre,suf,h1,h2,h3⟩:=oK os d;have hd:d= ⟨d.sz,d.ss,[],d.lf⟩:=by rw[<-h.pn]
 obtain⟨k1,k2,k3⟩:=tN pre d h.ok (fun o ho=>hf o (by rw[h1];exact List.mem_append_left _ ho));rcases h3 with ⟨e,h3⟩ | ⟨h3,h4⟩
 . left
   refine⟨h3,?_⟩;have:=(hs pre suf [] h1).2 e;simp only[<-hd]at this;rw[h2];exact⟨k1,this.1,by rw[k2];exact this.2⟩
 . right
   refine⟨h3,?_⟩;rw[h2]at h4 ⊢;refine⟨k1,h4,fun ps=>?_⟩;have:=(hs pre suf ps h1).1;simp only[<-hd]at this;rw[<-k2]at this;rcases this with h | h
   . exact .inl ⟨k1.cut ps,rfl,h⟩
   . exact .inr ⟨k1.cut ps,rfl,h⟩
theorem Fa{d:Dk}{W:List (Nat×Td)}{x:Nat×Td}(hW:∀w∈W,w.1<d.ss.length/\w.2.length=d.sz)(hx:x.1<d.ss.length/\x.2.length=d.sz):∀o∈W.map some++ [none,some x,none],jX d o:=by
 intro o ho w hw;subst hw;rcases List.mem_append.1 ho with ho | ho
 . obtain⟨y,hy,e⟩:=List.mem_map.1 ho
   cases e;exact hW _ hy
 . simp only[List.mem_cons,reduceCtorEq,Option.some.injEq,List.not_mem_nil,or_false,false_or]at ho
   subst ho;exact hx
theorem yl{d:Dk}{rs l S:List Td}{a u:Nat}(hj:Jn d.sz d.ss a rs u)(hS:SecF d.sz l S)(hk:S.length<=hf d.ss - u):u+S.length<=hf d.ss/\∀o∈fV d.sz d.ss a u S,jX d o:=by
 have hu:=hj.u_le;have hfit:=iL hj.act hj.n3;obtain⟨t,S1,e,ht⟩:=hS.cons hj.sz0;have hk':u+S.length<=hf d.ss:=by rw[e,Z4]at hk ⊢;omega
 have hsz:=hS.siz hj.sz0;have hlen: (ji S).length=S.length:=by rw[e];rfl
 refine⟨hk',Fa (fun w hw=>?_) ⟨?_,?_⟩⟩
 . obtain⟨h1,h2,h3⟩:=sH (by rw[hlen];omega) hw
   refine⟨by omega,?_⟩;rcases h3 with h3 | ⟨_,h3⟩
   . have:=Z7 h3
     rw[e]at this hsz;rcases List.mem_cons.1 this with e | e
     . rw[e];simpa using ht
     . exact hsz _ (by simp[e])
   . rw[h3];exact iO (by simp)
 . rw[e,Z4]at hk';show aH d.ss a+u<_;omega
 . rw[e];exact ht
theorem Qg{d:Dk}{rs l S:List Td}{a u:Nat}(h:Dur d rs)(hj:Jn d.sz d.ss a rs u)(hS:SecF d.sz l S)(hk:S.length<=hf d.ss - u) :
  ((aK d (fV d.sz d.ss a u S)).2=0/\Dur (aK d (fV d.sz d.ss a u S)).1 (rs++l))∨ ((aK d (fV d.sz d.ss a u S)).2=20/\Brk (aK d (fV d.sz d.ss a u S)).1 rs (rs++l)):=by
 obtain⟨hk',hf⟩:=yl hj hS hk;refine Fz h _ hf (fun pre suf ps hp=>?_);obtain⟨h1,h2⟩:=BN (lf:=d.lf) hj hS hk' hp ps;exact⟨h1.imp (fun h=>⟨_,_,h⟩) (fun h=>⟨_,_,h⟩),fun e=>⟨(h2 e).1,_,_,(h2 e).2⟩⟩
theorem EG{d:Dk}{rs l S:List Td}{a u:Nat}(hd:d.Ok)(hj:Jn d.sz d.ss a rs u)(hS:SecF d.sz l S)(hk:S.length<=hf d.ss):∀o∈gG d.sz d.ss a S,jX d o:=by
 have hb:3 - a=1∨3 - a=2:=by rcases hj.act with rfl | rfl <;> simp
 have hfb:=iL hb hj.n3;have hsz:=hS.siz hj.sz0;refine Fa (fun w hw=>?_) ⟨?_,?_⟩
 . obtain⟨h1,h2,h3⟩:=sH (by omega) hw
   refine⟨by omega,?_⟩;rcases h3 with h3 | ⟨_,h3⟩
   . exact hsz _ (Z7 h3)
   . rw[h3];exact iO (by simp)
 . exact hd.n0
 . exact iO (by have:=hj.sz0;simp;omega)
theorem Qi{d:Dk}{rs l S:List Td}{a u:Nat}(h:Dur d rs)(hj:Jn d.sz d.ss a rs u)(hS:SecF d.sz l S)(hk:S.length<=hf d.ss) :
  ((aK d (gG d.sz d.ss a S)).2=0/\Dur (aK d (gG d.sz d.ss a S)).1 l)∨ ((aK d (gG d.sz d.ss a S)).2=20/\Brk (aK d (gG d.sz d.ss a S)).1 rs l):=by
 refine Fz h _ (EG h.ok hj hS hk) (fun pre suf ps hp=>?_);obtain⟨h1,h2⟩:=KO (lf:=d.lf) hj hS hk hp ps;exact⟨h1.imp (fun h=>⟨_,_,h⟩) (fun h=>⟨_,_,h⟩),fun e=>⟨(h2 e).1,_,_,(h2 e).2⟩⟩
/-! ### formatting -/
def bT(sz:Nat)(ss:List Td):List Dop:= [some (aH ss 1,bJ sz []),some (aH ss 2,bJ sz []),none,some (0,dD sz 1),none]
theorem EJ{d:Dk}(hd:d.Ok)(hn:3<=d.ss.length)(hp:d.pn= [])(hl:d.lf= -1): (aK d (bT d.sz d.ss)).2=0/\Dur (aK d (bT d.sz d.ss)).1 []/\ (aK d (bT d.sz d.ss)).1.lf= -1/\Jn (aK d (bT d.sz d.ss)).1.sz (aK d (bT d.sz d.ss)).1.ss 1 [] 0:=by
 obtain⟨h1,h2⟩:=rH (bT d.sz d.ss) d hl;rw[h1];have f1:=iL (ss:=d.ss) (.inl rfl) hn;have f2:=iL (ss:=d.ss) (.inr rfl) hn;have hz: (bJ d.sz []).length=d.sz:=iO (by simp);have hm: (dD d.sz 1).length=d.sz:=iO (by have:=hd.sz0;simp;omega);obtain⟨k1,k2,k3⟩:=tN (bT d.sz d.ss) d hd (by
  intro o ho w hw;subst hw;simp only[bT,List.mem_cons,reduceCtorEq,Option.some.injEq,List.not_mem_nil,or_false,false_or]at ho;rcases ho with rfl | rfl | rfl
  . exact⟨by show aH d.ss 1<_;omega,hz⟩
  . exact⟨by show aH d.ss 2<_;omega,hz⟩
  . exact⟨hd.n0,hm⟩)
 suffices hJ:Jn ((bT d.sz d.ss).foldl doO d).sz ((bT d.sz d.ss).foldl doO d).ss 1 [] 0 from⟨rfl,⟨k1,rfl,1,0,hJ⟩,h2,hJ⟩
 obtain⟨e,he⟩:=NX9 (((bT d.sz d.ss).foldl doO d))
 have hss:e.ss= ((d.ss.set (aH d.ss 1) (bJ d.sz [])).set (aH d.ss 2) (bJ d.sz [])).set 0 (dD d.sz 1):=by
  rw[<-he];simp[bT,doO,hp,settle]
 rw[he]at k1 k2 k3 ⊢;have e1:hf e.ss=hf d.ss:=by unfold hf;rw[k3]
 have e2:aH e.ss 1=aH d.ss 1:=by unfold aH;rw[e1]
 show Jn e.sz e.ss 1 [] 0;refine⟨k1.sz0,by omega,k1.len,.inl rfl,?_,?_⟩
 . rw[hss,k2,List.getElem?_set_self (by simp only[List.length_set];omega)]
 . refine kJ (xw k1.sz0 (jD k1.len) (fun s hs=>?_))
   replace hs: (fB e.ss 1)[0]? =some s:=hs
   rw[kZ,e1,e2,if_pos (by omega),Nat.add_zero,hss,List.getElem?_set_ne (by omega),List.getElem?_set,List.getElem?_set_self (by omega)]at hs;split at hs
   . split at hs
     . cases hs;exact sS _
     . cases hs
   . cases hs;exact sS _
section
open Go.Maps
def jd(v:Tc):Option (DataW Tc×List MemPlace):=some (.held v,[])
theorem sV{v u:Tc}{ps:List MemPlace}(h:jd v=some (.held u,ps)):v=u:=by
 simp[jd]at h;exact h.1
def Rm(w:SX)(P:Program)(k:TypeId)(b N:Nat)(g:SY->Option Tc):Prop :=
 ∃D:DataW Tc,w.ownsMap P k jd b N D/\∀s:SY,Maps.has D (.string s.data.toList)= (g s).isSome/\∀z,D.atKey (.string s.data.toList) (.held z)= .held ((g s).getD z)
def upd(g:SY->Option Tc)(s:SY)(v:Tc):SY->Option Tc:=fun t=>if t=s then some v else g t
theorem Ns(g:SY->Option Tc)(s:SY)(v:Tc):upd g s v s=some v:=by simp[upd]
theorem MB(g:SY->Option Tc){s t:SY}(v:Tc)(h:t≠s):upd g s v t=g t:=by simp[upd,h]
section
variable {w w' : SX} {P : Program} {k t e : TypeId} {b N : Nat} {g : SY -> Option Tc}
theorem Rm.made(w:SX)(P:Program)(k:TypeId):Rm (w.alloc (.map #[] 0)) P k w.heap.size 0 (fun _=>none) :=
 ⟨.map [],World.ownsMap_made w P k jd,fun _=>⟨rfl,fun _=>rfl⟩⟩
theorem Rm.lt(h:Rm w P k b N g):b<w.heap.size:=h.choose_spec.1.lt
theorem Rm.more(h:Rm w P k b N g){M:Nat}(hm:N<=M):Rm w P k b M g:=by
 obtain⟨D,h1,h2⟩:=h;exact⟨D,h1.mono hm,h2⟩
theorem Rm.kept{row:Option Nat}(h:Rm w P k b N g)(hg:w.grownBy w' row)(hr:some b≠row):Rm w' P k b N g:=by
 obtain⟨D,h1,h2⟩:=h;exact⟨D,h1.kept hg hr,h2⟩
theorem Rm.below{B:Nat}(h:Rm w P k b N g)(hb:Below B w w')(hB:b<B):Rm w' P k b N g:=by
 obtain⟨D,⟨es,clock,h1,h2⟩,h3⟩:=h;exact⟨D,⟨es,clock,(hb.block b hB).trans h1,h2⟩,h3⟩
theorem Rm.alloc(h:Rm w P k b N g)(o:Obj):Rm (w.alloc o) P k b N g:=h.kept (World.grownBy_alloc w o none) (by simp)
theorem pY(hk:P.underlying k=some .string){s:SY}(hs:s.size<=maxLen):keyOf P k (.string s)=some (.string s.data.toList):=by simp[keyOf,hk,mapKey];exact hs
theorem Rm.look(h:Rm w P k b N g)(hk:P.underlying k=some .string)(ht:P.underlying t=some (.map k e)){z:Tc}(hz: (zeroValue e).run P w= .ok z w){s:SY}(hs:s.size<=maxLen) :
  (Instr.lookup t (.map (some b)) (.string s) false).run P w= .ok ((g s).getD z) w:=by
 obtain⟨D,h1,h2⟩:=h;obtain⟨v,ps,hrun,hv⟩:=h1.lookup (string_keyed hk) ht hz (zd:= .held z) (zp:= []) rfl (pY hk hs);rw[(h2 s).2 z]at hv;rw[hrun,sV hv]
theorem Rm.look_ok(h:Rm w P k b N g)(hk:P.underlying k=some .string)(ht:P.underlying t=some (.map k e)){z:Tc}(hz: (zeroValue e).run P w= .ok z w){s:SY}(hs:s.size<=maxLen) :
  (Instr.lookup t (.map (some b)) (.string s) true).run P w= .ok (.tuple #[(g s).getD z,.bool (g s).isSome]) w:=by
 obtain⟨D,h1,h2⟩:=h;obtain⟨v,ps,hrun,hv⟩:=h1.look_ok (string_keyed hk) ht hz (zd:= .held z) (zp:= []) rfl (pY hk hs);rw[(h2 s).2 z]at hv;rw[hrun,sV hv,(h2 s).1]
theorem lit_ne{s r:SY}(h:r≠s): (Lit.string r.data.toList)≠ .string s.data.toList:=fun e=>h (jM (by injection e))
theorem Rm.put(h:Rm w P k b N g)(hk:P.underlying k=some .string)(ht:P.underlying t=some (.map k e))(hn:N<maxLen){s:SY}(hs:s.size<=maxLen)(v:Tc) :
  ∃w',(Instr.mapUpdate t (.map (some b)) (.string s) v).run P w= .ok () w'/\Rm w' P k b (N+1) (upd g s v)/\w.grownBy w' (some b):=by
 obtain⟨D,h1,h2⟩:=h;obtain⟨w',hrun,ho,hg⟩:=h1.update (string_keyed hk) ht hn (pY hk hs) (d:= .held v) (ps:= []) rfl;refine⟨w',hrun,⟨_,ho,fun r=>?_⟩,hg⟩;have hkl:=(string_keyed hk).key (pY hk hs);by_cases hr:r=s
 . subst hr
   rw[Ns,has_put_same h1.isMap hkl];exact⟨rfl,fun z=>atKey_put_same h1.isMap hkl _ _⟩
 . rw[MB _ _ hr,has_put_other (lit_ne hr)]
   exact⟨(h2 r).1,fun z=>(atKey_put_other (lit_ne hr) _ _).trans ((h2 r).2 z)⟩
theorem nT{ops:Array Oper}{rest:List Oper}{o:Oper}{a:Act}{Q:Exit->Act->SX->Prop}(hgd:o.guard=none)(m x y:Operand)(t:TypeId)(hop:o.op=Op.mapUpdate t m x y)
  (k e:TypeId) (hk:P.underlying k=some .string) (ht:P.underlying t=some (.map k e)) (b N:Nat) (g:SY->Option Tc) (hm:a.eval m= .map (some b)) (h:Rm w P k b N g) (hn:N<maxLen)
  (s:SY) (hs:s.size<=maxLen) (v:Tc) (hx:a.eval x= .string s) (hy:a.eval y=v)
  (hK:∀w',Rm w' P k b (N+1) (upd g s v)->w.grownBy w' (some b)->wpList P ops Q rest (a.put o.dst undef) w'):wpList P ops Q (o::rest) a w:=by
 refine wpList_plain hgd fun K' hK'=>?_;obtain⟨w',hrun,r1,r2⟩:=h.put hk ht hn hs v;unfold Oper.wp;simp[execOp,hop,hm,hx,hy,hrun,Result.andThen];exact hK' _ _ (hK w' r1 r2)
/-! ### ranging -/
variable {r cnt : Nat} {left : SY -> Bool}
end
end
section
open Go.Maps
def rmv(g:SY->Option Tc)(s:SY):SY->Option Tc:=fun t=>if t=s then none else g t
theorem Rm.del{w:SX}{P:Program}{k t e:TypeId}{b N:Nat}{g:SY->Option Tc}(h:Rm w P k b N g)(hk:P.underlying k=some .string)(ht:P.underlying t=some (.map k e)){s:SY}(hs:s.size<=maxLen)(ty:TypeId) :
  ∃w',(Builtin.delete_ #[t,k] ty #[.map (some b),.string s]).run P w= .ok (.tuple #[]) w'/\Rm w' P k b N (rmv g s)/\w.grownBy w' (some b):=by
 obtain⟨D,h1,h2⟩:=h;obtain⟨w',hrun,ho,hg⟩:=h1.drop (string_keyed hk) ht (pY hk hs) ty;refine⟨w',hrun,⟨_,ho,fun r=>?_⟩,hg.grown⟩;unfold rmv;by_cases hr:r=s
 . subst hr
   rw[if_pos rfl];exact⟨has_del_same,fun z=>atKey_del_same _⟩
 . rw[if_neg hr]
   exact⟨(has_del_other (lit_ne hr)).trans (h2 r).1,fun z=>(atKey_del_other (lit_ne hr) _).trans ((h2 r).2 z)⟩
theorem Iw{P:Program}{w:SX}{ops:Array Oper}{rest:List Oper}{o:Oper}{a:Act}{Q:Exit->Act->SX->Prop}(hgd:o.guard=none)(m x:Operand)(t k:TypeId)(hop:o.op=Op.call {callee:=Callee.builtin Builtin.delete,args:=#[m,x],argTypes:=#[t,k]})
  (e:TypeId) (hk:P.underlying k=some .string) (ht:P.underlying t=some (.map k e)) (b N:Nat) (g:SY->Option Tc) (hm:a.eval m= .map (some b)) (h:Rm w P k b N g)
  (s:SY) (hs:s.size<=maxLen) (hx:a.eval x= .string s)
  (hK:∀w',Rm w' P k b N (rmv g s)->w.grownBy w' (some b)->wpList P ops Q rest (a.put o.dst (.tuple #[])) w'):wpList P ops Q (o::rest) a w:=by
 refine wpList_plain hgd fun K' hK'=>?_;obtain⟨w',hrun,r1,r2⟩:=h.del hk ht hs o.type;unfold Oper.wp;simp[execOp,hop,resolve,invoke,builtin,hm,hx,hrun,Result.andThen];exact hK' _ _ (hK w' r1 r2)
end
def uO(c:Int):Bool:=((decide (97<=c) && decide (c<=122)) || ((decide (65<=c) && decide (c<=90)) || (decide (48<=c) && decide (c<=57)))) || (decide (c=46) || (decide (c=95) || decide (c=45)))
def nN(c:UInt8):Bool:=uO (c.toNat:Int)
def jb(l:List UInt8):Bool:=decide (1<=l.length) && (decide (l.length<=24) && (!(decide (l= [46])) && (!(decide (l= [46,46])) && l.all nN)))
def nameB(s:SY):Bool:=jb (bl s)
theorem Jw(c:Int)(w:SX):Calls Tryz.prog 259 #[.int .u8 c] w fun e w'=>e= .returned (.bool (uO c))/\w=w':=by
 go_enter Tryz.func259,Tryz.ntmps259
 go_wp2
 all_goals (go_ret;refine⟨bF ?_,rfl⟩;rw[Bool.eq_iff_iff];simp[uO];try omega)
def AllTo(l:List UInt8)(k:Nat):Prop:=∀j c,j<k->l[j]? =some c->nN c=true
theorem AllTo.step{l:List UInt8}{k:Nat}{c:UInt8}(h:AllTo l k)(hc:l[k]? =some c)(ho:nN c=true):AllTo l (k+1):=fun j x hj hx=>by
 by_cases e:j=k
 . subst e;rw[hc]at hx;cases hx;exact ho
 . exact h j x (by omega) hx
theorem AllTo.all{l:List UInt8}(h:AllTo l l.length):l.all nN=true:=by
 rw[List.all_eq_true];intro c hc;obtain⟨j,hj,e⟩:=List.getElem_of_mem hc;exact h j c hj (by rw[<-e];exact Z5 _)
theorem jy(s:SY)(w:SX)(hs:s.size<=maxLen):Calls Tryz.prog 195 #[.string s] w fun e w'=>e= .returned (.bool (nameB s))/\w=w':=by
 unfold maxLen at hs;have HL:=ai (iY s)
 go_enter Tryz.func195,Tryz.ntmps195
 have hno:∀b:Bool,nameB s=b->Hid (nameB s=b):=fun b h=>h;have hls: (bl s).length=s.size:=(iY s).symm;by_cases c1: (s.size:Int)<1
 . have hv:=hno false (by unfold nameB jb;rw[decide_eq_false (by omega),Bool.false_and])
   clear hno hls;go_wp2_with fail;go_ret
   exact⟨bF hv.o.symm,rfl⟩
 by_cases c2: (24:Int)< (s.size:Int)
 . have hv:=hno false (by unfold nameB jb;rw[decide_eq_false (p:=(bl s).length<=24) (by omega)];simp)
   clear hno hls;go_wp2_with fail;go_ret
   exact⟨bF hv.o.symm,rfl⟩
 have h3: (s.toList == [46])=decide (bl s= [46]):=by rw[ByteArray.toList_eq];unfold bl;rw[Bool.eq_iff_iff];simp
 have h4: (s.toList == [46,46])=decide (bl s= [46,46]):=by rw[ByteArray.toList_eq];unfold bl;rw[Bool.eq_iff_iff];simp
 by_cases c3:bl s= [46]
 . have hv:=hno false (by unfold nameB jb;rw[decide_eq_true c3];simp)
   rw[decide_eq_true c3]at h3;clear hno hls h4 c3;go_wp2_with fail;go_ret
   exact⟨bF hv.o.symm,rfl⟩
 rw[decide_eq_false c3]at h3;by_cases c4:bl s= [46,46]
 . have hv:=hno false (by unfold nameB jb;rw[decide_eq_true c4];simp)
   rw[decide_eq_true c4]at h4;clear hno hls c4 c3;go_wp2_with fail;go_ret
   exact⟨bF hv.o.symm,rfl⟩
 rw[decide_eq_false c4]at h4;have HV:Hid (nameB s= (bl s).all nN):=by
  show _=_;unfold nameB jb;rw[decide_eq_true (p:=1<= (bl s).length) (by omega),decide_eq_true (p:=(bl s).length<=24) (by omega),decide_eq_false c3,decide_eq_false c4];simp
 have d:=ai hls;clear hno c3 c4 hls;go_wp2_with fail
 go_loop[22] (fun i=>∃k:Nat,k<=s.size/\i= .int .i64 k/\Hid (AllTo (bl s) k)) (fun i=>s.size - (intOf i).toNat)
 case atStart=>exact⟨0,ZX _,rfl,fun j c h=>absurd h (by omega)⟩
 case round =>
  obtain⟨k,hk,rfl,hA⟩:=hrel;by_cases hlt:k<s.size
  . have hkz: (k:Int)< (s.size:Int):=by omega
    have HG:=ai (Dv s k hlt);have a:=ai (Jw (s[k].toNat:Int));cases hv:uO (s[k].toNat:Int) with
    | true =>
      have HA2:Hid (AllTo (bl s) (k+1)):=hA.o.step HG.o hv;rw[hv]at a;clear hv hA
      go_wp2_with (go_at_call 259;refine(a.o _).mono ?_;rintro e w' ⟨rfl,rfl⟩)
      go_round
      case rel=>exact⟨k+1,hlt,by go_num,HA2.o⟩
      case measure=>simp[intOf];omega
    | false =>
      have HF:Hid (nameB s=false):=by
       show _=_;rw[HV.o,List.all_eq_false];exact⟨s[k],Z7 HG.o,by unfold nN;rw[hv];simp⟩
      rw[hv]at a;clear hv hA
      go_wp2_with (go_at_call 259;refine(a.o _).mono ?_;rintro e w' ⟨rfl,rfl⟩)
      go_ret
      exact⟨bF HF.o.symm,rfl⟩
  . have hkz:¬(k:Int)< (s.size:Int):=by omega
    have HT:Hid (nameB s=true):=by
     show _=_;rw[HV.o];refine AllTo.all ?_;have:=hA.o
     rwa[show k= (bl s).length from by rw[d.o];omega]at this
    clear hA;go_wp2_with fail;go_ret
    exact⟨bF HT.o.symm,rfl⟩
section
open Go.RowKit Go.Shelf
attribute [local go_sem] Oper.semAt_some
def bW(s:SY):Bool:=decide ((bl s).length<=100) && (bG (bl s)).all jb
theorem vV{w:SX}{a:Array Tc}{r:Nat}{x:Bool}(ha:a[2]?.getD undef= .pointer (some ⟨r,0,none⟩))(h:w.heap[r]? =some (.cells #[.bool x] 4 (0,0))) :
  (results Tryz.f196 a).run Tryz.prog w= .ok (.bool x) w:=by
 have hc:=cell_of_one h;simp[results,Tryz.results196,ha,go_sem,hc]
theorem Ky(s:SY)(w:SX)(hs:s.size<=maxLen) :
  Calls Tryz.prog 196 #[.string s] w fun e w'=>e= .returned (.bool (bW s))/\Tf w w':=by
 refine(callsIn_wide (n:=6)).1 ?_;unfold maxLen at hs;have HL:=ai (iY s);have a:Fence.wide.fn 194:=trivial;have b:Fence.wide.fn 195:=trivial;refine callsIn_of_wp_marks Tryz.func196 rfl trivial ?_ rfl;simp only[Tryz.ntmps196,List.size_toArray,Z4,List.length_nil,Nat.reduceAdd,Nat.reduceSub,Array.replicate_succ,Array.replicate_zero,List.push_toArray,List.append_toArray,List.nil_append,List.cons_append];by_cases c1:100< (s.size:Int)
 . have hv:Hid (bW s=false):=by
     show _=_;have:=HL.o;unfold bW bl;rw[decide_eq_false (by omega),Bool.false_and]
   gi_wp2_with fail
   refine⟨_,vV rfl (World.alloc_heap_new w _),?_⟩;exact⟨bF hv.o.symm,(ah _ _).alloc aj _⟩
 have c1': (s.size:Int)<=100:=by omega
 have HN:Hid (bW s= (bG (bl s)).all jb):=by
  show _=_;have:=HL.o;unfold bW;rw[decide_eq_true (by unfold bl;omega),Bool.true_and]
 gi_wp2_with (gi_at_call 194;refine(callsIn_wide.2 (Am _ _)).mono ?_;rintro e w' ⟨rfl,rfl⟩)
 obtain⟨W0,hW0⟩:=NX9 ((((w.alloc (.cells #[.bool false] 4)).alloc (.cells #[.string s] 9)).alloc (.cells #[.string ⟨#[47]⟩] 9)).alloc (.cells #[.int .i64 0] 3))
 have hz:W0.heap.size=w.heap.size+4:=by rw[<-hW0];simp
 have g0:W0.heap[w.heap.size]? =some (.cells #[.bool false] 4 (0,0)):=by
  rw[<-hW0];exact(Below.heap_alloc _ _ _ (by simp;omega)).trans ((Below.heap_alloc _ _ _ (by simp;omega)).trans ((Below.heap_alloc _ _ _ (by simp)).trans (World.alloc_heap_new w _)))
 have g1:W0.heap[w.heap.size+1]? =some (.cells #[.string s] 9 (0,0)):=by
  rw[<-hW0];refine(Below.heap_alloc _ _ _ (by simp)).trans ((Below.heap_alloc _ _ _ (by simp)).trans ?_);have:=World.alloc_heap_new (w.alloc (.cells #[.bool false] 4)) (.cells #[.string s] 9);rwa[Z9]at this
 have g2:W0.heap[w.heap.size+1+1]? =some (.cells #[.string ⟨#[47]⟩] 9 (0,0)):=by
  rw[<-hW0];refine(Below.heap_alloc _ _ _ (by simp)).trans ?_;have:=World.alloc_heap_new ((w.alloc (.cells #[.bool false] 4)).alloc (.cells #[.string s] 9)) (.cells #[.string ⟨#[47]⟩] 9);rwa[Z9,Z9]at this
 have g3:W0.heap[w.heap.size+1+2]? =some (.cells #[.int .i64 0] 3 (0,0)):=by
  rw[<-hW0];have:=World.alloc_heap_new (((w.alloc (.cells #[.bool false] 4)).alloc (.cells #[.string s] 9)).alloc (.cells #[.string ⟨#[47]⟩] 9)) (.cells #[.int .i64 0] 3);rwa[Z9,Z9,Z9]at this
 have hb0:Tf w W0:=by
  rw[<-hW0];exact((((ah _ w).alloc aj _).alloc (by simp) _).alloc (by simp;omega) _).alloc (by simp;omega) _
 rw[hW0];refine vC (F:=Fence.wide) (n:=6) rfl (by omega) (gf:=297) (lb:=#[.pointer (some ⟨w.heap.size+1+1,0,none⟩),.pointer (some ⟨w.heap.size+1,0,none⟩),.pointer (some ⟨w.heap.size+1+2,0,none⟩)]) rfl trivial (enters_of Tryz.func297 (by kernel_rfl) rfl)
  (Dq 5 (w.heap.size+1) (by omega) s W0 (by omega) (by omega) g1 g2 g3) Ff (fun W l o hl=>BV (m:=w.heap.size+4) (by omega) W l o (by omega)) (BJ) (ah _ _) (fun _=>rfl)
  (fun pre W=>W.heap[w.heap.size]? =some (.cells #[.bool false] 4 (0,0))/\Hid (∀x∈pre,nameB x=true)/\Tf w W/\w.heap.size+4<=W.heap.size)
  (fun c pre W=>c= .ret/\W.heap[w.heap.size]? =some (.cells #[.bool false] 4 (0,0))/\Hid (∃x∈pre,nameB x=false)/\Tf w W)
  ?hI ?hIx ?hIS ⟨g0,by simp[Hid],hb0,by omega⟩ ?a1 ?assign ?body ?done ?stop
 case assign =>
  intro l x W K hK;have HKK:=ai hK;clear hK
  gi_wp2
  exact HKK.o
 case hI =>
  rintro pre A B row ⟨h1,h2,h3,h4⟩ hg hr;refine⟨rO h1 hg (fun e=>?_),h2,h3.grown hg h3.size (fun k e=>?_),ZY h4 hg.size⟩
  . have:=(hr _ e.symm).1;omega
  . have:=(hr _ e).1;omega
 case hIx =>
  rintro c pre A B row ⟨h0,h1,h2,h3⟩ hg hr;refine⟨h0,rO h1 hg (fun e=>?_),h2,h3.grown hg h3.size (fun k e=>?_)⟩
  . have:=(hr _ e.symm).1;omega
  . have:=(hr _ e).1;omega
 case hIS =>
  rintro pre A B ⟨h1,h2,h3,h4⟩ ⟨v,rfl⟩;exact⟨(Z8 _ _ _ _ (by simp)).trans h1,h2,h3.setCell (p:=⟨w.heap.size+1,0,none⟩) (by simp) _,by simpa [World.setCell] using h4⟩
 case body =>
  rintro l pre x W ⟨r,hr⟩ ⟨h1,h2,h3,h4⟩;have hxs:x.size<=maxLen:=by
   have hm:bl x∈bG (bl s):=by rw[<-hr];simp
   have h5:=oI (bl s) _ hm;have h6:=iY x;have h7:=HL.o;unfold bl at h5;unfold maxLen;omega
  have c0:=cell_of_one h1;have f0:=free_of_one h1;have H1:=ai h1;have H3:=ai h3;clear h1 h3 g0 g1 g2 g3 hb0 hW0 hr;cases hv:nameB x with
  | true =>
    have HV:=ai hv;clear hv
    gi_wp2_with (gi_at_call 195;refine(CallsIn.inRound l (callsIn_wide.2 (jy x _ hxs))).mono ?_;rintro e w' ⟨rfl,rfl⟩;rw[HV.o])
    refine⟨⟨Nat.le_refl _,fun k o hk _=>hk⟩,fun k h5 h6=>rfl,H1.o,?_,H3.o,h4⟩;intro y hy;rcases List.mem_append.1 hy with h | h
    . exact h2.o y h
    . simp at h;subst h;exact HV.o
  | false =>
    have HV:=ai hv;clear hv
    gi_wp2_with (gi_at_call 195;refine(CallsIn.inRound l (callsIn_wide.2 (jy x _ hxs))).mono ?_;rintro e w' ⟨rfl,rfl⟩;rw[HV.o])
    exact⟨KeepsOthers.setCell _ _ _,rfl,one_setCell H1.o,⟨x,by simp,HV.o⟩,H3.o.setCell (p:=⟨w.heap.size,0,none⟩) aj _⟩
 case done =>
  rintro D xs W hD hS ⟨h1,h2,h3,h4⟩ hK;have c0:=cell_of_one h1;have f0:=free_of_one h1;have H1:=ai h1;have H3:=ai h3;have HK:=ai hK;have HS:=ai hS;clear h1 h3 hK hS
  gi_wp2
  have hK2:=(KeepsOthers.setCell W ⟨w.heap.size,0,none⟩ (.bool true)).same D _ HK.o rfl;refine⟨by simp,.inl ⟨_,_,rfl,run_takeDeferred hK2,?_⟩⟩;refine⟨_,vV rfl ((World.putObj_heap_other (by omega)).trans (one_setCell H1.o)),bF ?_,?_⟩
  . rw[HN.o]
    symm
    rw[List.all_eq_true];intro y hy;have hy':y∈xs.map bl:=by rw[HS.o];exact hy
    obtain⟨x,hx,rfl⟩:=List.mem_map.1 hy';exact h2.o x hx
  . exact(H3.o.setCell (p:=⟨w.heap.size,0,none⟩) aj _).grown (grownBy_putObj' _ _ _) ((H3.o.setCell (p:=⟨w.heap.size,0,none⟩) aj _).size) (fun k e=>by cases e;omega)
 case stop =>
  rintro D c pre W hD hS ⟨rfl,h1,h2,h3⟩ hK;have H1:=ai h1;have H3:=ai h3;have HK:=ai hK;have HS:=ai hS;clear h1 h3 hK hS
  gi_wp2
  refine⟨by simp,.inl ⟨_,_,rfl,run_takeDeferred HK.o,?_⟩⟩;refine⟨_,vV rfl ((World.putObj_heap_other (by omega)).trans H1.o),bF ?_,?_⟩
  . rw[HN.o]
    symm
    rw[List.all_eq_false];obtain⟨x,hx,hxv⟩:=h2.o;obtain⟨r,hr⟩:=HS.o;refine⟨bl x,?_,by simpa [nameB] using hxv⟩;rw[<-hr];exact List.mem_append.2 (.inl (List.mem_map.2 ⟨x,hx,rfl⟩))
  . exact H3.o.grown (grownBy_putObj' _ _ _) H3.o.size (fun k e=>by cases e;omega)
end
theorem Sl.of_bk{w:SX}{b size n:Nat}{t:TypeId}{cs:Array Tc}(h:Bk w b t cs)(hl:cs.size=n*size):Sl w w.heap.size size (some ⟨b,0,none⟩) n cs.toList :=
 ⟨by simpa using hl,fun _=>⟨b,0,rfl,h.lt,fun j u hu=>by rw[Nat.zero_add,h.cell];simpa using hu⟩⟩
@[go_sem] theorem SG : Tryz.prog.eqGuardType Tryz.prog.depth 82 = false := by kernel_rfl
theorem Qr:Tryz.prog.stoodInHeld 82=false:=by kernel_rfl
@[go_sem high] theorem SS (s t s' t' : SY) (w : SX) : (Op.equalIn 10000 82 (.agg #[.string s, .string t]) (.agg #[.string s', .string t'])).run Tryz.prog w = .ok (s.toList == s'.toList && t.toList == t'.toList) w := by
 have hS:Tryz.prog.underlying 82=some (.struct (Tryz.prog.fieldsOf 82)):=by kernel_rfl
 have a9:=Tryz.isAgg9;have u9:=Tryz.underlying9;rw[show(10000:Nat)=9999+1 from rfl,run_equalIn_agg w 9999 82 _ _ hS Qr];simp only[Program.fieldsOf,Tryz.underlying82]
 go_simp
 by_cases h1:s.toList=s'.toList <;> by_cases h2:t.toList=t'.toList <;> simp[h1,h2]
@[go_sem] theorem Sv : Tryz.prog.eqGuardType Tryz.prog.depth 50 = false := by kernel_rfl
theorem yQ(dd:Nat)(a b c d:Int)(w:SX): (Op.equalIn (dd+2) 50 (.agg #[.int .u64 a,.int .u64 b]) (.agg #[.int .u64 c,.int .u64 d])).run Tryz.prog w= .ok (a == c && b == d) w:=by
 have u3:=Tryz.underlying48;have a3:=Tryz.isAgg48;have z3:=Tryz.sizeOf48;rw[Op.equalIn];simp only[Sem.run_bind,run_underlying Tryz.underlying50,Result.andThen_ok];simp only[Std.Legacy.Range.forIn_eq_forIn_range',Std.Legacy.Range.size,Nat.sub_zero,Nat.add_sub_cancel,Nat.div_one,List.range'_succ,List.range'_zero,List.forIn_cons,List.forIn_nil]
 go_simp
 by_cases h1:a=c <;> by_cases h2:b=d <;> simp[h1,h2]
@[go_sem high] theorem SK (a b c d : Int) (w : SX) : (Op.equalIn 10000 50 (.agg #[.int .u64 a, .int .u64 b]) (.agg #[.int .u64 c, .int .u64 d])).run Tryz.prog w = .ok (a == c && b == d) w := yQ 9998 a b c d w
def dg1(h b:Int):Int:=IntKind.u64.wrap (bits .xor .u64 h b*1099511628211)
def dg2(h b:Int):Int:=bits .xor .u64 (IntKind.u64.wrap (h*1099511628211)) b
def dgF(g:Int->Int->Int)(l:Td):Int:=l.foldl (fun h b=>g h (IntKind.u64.wrap (b.toNat:Int))) 14695981039346656037
def ofB(l:Td):Dig:=if dgF dg1 l=0/\dgF dg2 l=0 then(0,1) else(dgF dg1 l,dgF dg2 l)
theorem Ew(g:Int->Int->Int){l:Td}{k:Nat}(hk:k<l.length):dgF g (l.take (k+1))=g (dgF g (l.take k)) (IntKind.u64.wrap (l[k].toNat:Int)):=by
 unfold dgF;rw[aW (Z5 hk),List.foldl_append];rfl
theorem O7(h b:Int)(w:SX):Calls Tryz.prog 209 #[.int .u64 h,.int .u64 b] w fun e w'=>e= .returned (.int .u64 (dg1 h b))/\w=w':=by
 go_enter Tryz.func209,Tryz.ntmps209
 go_wp2
 go_ret
 exact⟨rfl,rfl⟩
theorem PW(h b:Int)(w:SX):Calls Tryz.prog 210 #[.int .u64 h,.int .u64 b] w fun e w'=>e= .returned (.int .u64 (dg2 h b))/\w=w':=by
 go_enter Tryz.func210,Tryz.ntmps210
 go_wp2
 go_ret
 exact⟨rfl,rfl⟩
theorem LD(s:SY)(w:SX)(hs:s.size<=maxLen) :
  Calls Tryz.prog 208 #[.string s,.func (.func 209) #[] #[]] w fun e w'=>e= .returned (.int .u64 (dgF dg1 (toL s)))/\w=w':=by
 have hs':s.size<=9223372036854775807:=by unfold maxLen at hs;exact hs
 go_enter Tryz.func208,Tryz.ntmps208
 go_wp2
 go_loop[5,9] (fun q5 q9=>∃k:Nat,k<=s.size/\q9= .int .i64 k/\q5= .int .u64 (dgF dg1 ((toL s).take k))) (fun _ q9=>s.size - (intOf q9).toNat)
 case atStart=>exact⟨0,ZX _,rfl,rfl⟩
 case round =>
  obtain⟨k,hk,rfl,rfl⟩:=hrel;by_cases hlt:k<s.size
  . have hlz: (k:Int)< (s.size:Int):=by omega
    have hkl:k< (toL s).length:=by rw[<-aT];exact hlt
    have HN:Hid (dgF dg1 ((toL s).take (k+1))=dg1 (dgF dg1 ((toL s).take k)) (IntKind.u64.wrap (s[k].toNat:Int))):=Ew dg1 hkl;generalize dgF dg1 ((toL s).take k)=h0 at *;go_wp2_with fail;refine(O7 _ _ _).mono ?_;rintro e w1 ⟨rfl,rfl⟩;go_wp2_with fail
    go_round
    case rel=>exact⟨k+1,by omega,by go_num,by rw[HN.o];rfl⟩
    case measure=>simp[intOf];omega
  . have hlz:¬(k:Int)< (s.size:Int):=by omega
    have HE:Hid ((toL s).take k=toL s):=ZU (by rw[<-aT];omega);go_wp2_with fail;go_ret
    exact⟨by rw[HE.o];rfl,rfl⟩
theorem KZ(s:SY)(w:SX)(hs:s.size<=maxLen) :
  Calls Tryz.prog 208 #[.string s,.func (.func 210) #[] #[]] w fun e w'=>e= .returned (.int .u64 (dgF dg2 (toL s)))/\w=w':=by
 have hs':s.size<=9223372036854775807:=by unfold maxLen at hs;exact hs
 go_enter Tryz.func208,Tryz.ntmps208
 go_wp2
 go_loop[5,9] (fun q5 q9=>∃k:Nat,k<=s.size/\q9= .int .i64 k/\q5= .int .u64 (dgF dg2 ((toL s).take k))) (fun _ q9=>s.size - (intOf q9).toNat)
 case atStart=>exact⟨0,ZX _,rfl,rfl⟩
 case round =>
  obtain⟨k,hk,rfl,rfl⟩:=hrel;by_cases hlt:k<s.size
  . have hlz: (k:Int)< (s.size:Int):=by omega
    have hkl:k< (toL s).length:=by rw[<-aT];exact hlt
    have HN:Hid (dgF dg2 ((toL s).take (k+1))=dg2 (dgF dg2 ((toL s).take k)) (IntKind.u64.wrap (s[k].toNat:Int))):=Ew dg2 hkl;generalize dgF dg2 ((toL s).take k)=h0 at *;go_wp2_with fail;refine(PW _ _ _).mono ?_;rintro e w1 ⟨rfl,rfl⟩;go_wp2_with fail
    go_round
    case rel=>exact⟨k+1,by omega,by go_num,by rw[HN.o];rfl⟩
    case measure=>simp[intOf];omega
  . have hlz:¬(k:Int)< (s.size:Int):=by omega
    have HE:Hid ((toL s).take k=toL s):=ZU (by rw[<-aT];omega);go_wp2_with fail;go_ret
    exact⟨by rw[HE.o];rfl,rfl⟩
theorem oQ{fn:Func}{c:Tmp}(h:fn.results= #[.cell c 50]){w:SX}{a:Array Tc}{b:Nat}{x y:Tc}(ha:a[c]?.getD undef= .pointer (some ⟨b,0,none⟩))(hk:Bk w b 50 #[x,y]) :
  (results fn a).run Tryz.prog w= .ok (.agg #[x,y]) w:=by
 have h0:=hk.cell 0;have h1:=hk.cell 1;simp at h0 h1;simp[results,h,ha,go_sem,h0,h1]
def aG(d:Dig):Tc:= .agg #[.int .u64 d.1,.int .u64 d.2]
def nK(s:SY)(w:SX)(e:Ending)(w':SX):Prop:=e= .returned (aG (ofB (toL s)))/\Tf w w'
theorem ug(s:SY)(w:SX)(hs:s.size<=maxLen):Calls Tryz.prog 126 #[.string s] w (nK s w):=by
 have HE:Hid (ofB (toL s)=if dgF dg1 (toL s)=0/\dgF dg2 (toL s)=0 then(0,1) else(dgF dg1 (toL s),dgF dg2 (toL s))):=rfl;have H1:=ai (LD s (w.alloc (.cells #[.int .u64 0,.int .u64 0] 50)) hs);have H2:=ai (KZ s (w.alloc (.cells #[.int .u64 0,.int .u64 0] 50)) hs);have HV:Hid (∀q,ofB (toL s)=q->∀e w',e=Ending.returned (aG q)->Tf w w'->nK s w e w'):=fun q h e w' h1 h2=>by subst h;exact⟨h1,h2⟩
 generalize dgF dg1 (toL s)=x at *;generalize dgF dg2 (toL s)=y at *
 go_enter Tryz.func126,Tryz.ntmps126
 go_wp2_with fail;refine H1.o.mono ?_;rintro e w1 ⟨rfl,rfl⟩;go_wp2_with fail;refine H2.o.mono ?_;rintro e w1 ⟨rfl,rfl⟩;obtain⟨W,hW⟩:=NX9 ((w.alloc (.cells #[.int .u64 0,.int .u64 0] 50)).alloc (.cells #[.int .u64 x,.int .u64 y] 50))
 have K0:Hid (Bk W w.heap.size 50 #[.int .u64 0,.int .u64 0]):=by rw[<-hW];exact(Bk.new w _ _).alloc _
 have K1:Hid (Bk W (w.heap.size+1) 50 #[.int .u64 x,.int .u64 y]):=by
  rw[<-hW];have:=Bk.new (w.alloc (.cells #[.int .u64 0,.int .u64 0] 50)) 50 #[.int .u64 x,.int .u64 y];rw[Z9]at this;exact this
 have HB:Ti w W:=by rw[<-hW];exact((ah _ w).alloc aj _).alloc (by simp) _
 have u0:=K0.o.cell 0;have u1:=K0.o.cell 1;have v0:=K1.o.cell 0;have v1:=K1.o.cell 1;simp at u0 u1 v0 v1;have f0:=K0.o.free 0;have f1:=K0.o.free 1;have g1:=K1.o.free 1;clear H1 H2;by_cases hz:x=0/\y=0
 . have hb: (x == 0 && y == 0)=true:=by simp[hz]
   have HQ:Hid (ofB (toL s)= (x,1)):=by show _=_;rw[HE.o,if_pos hz,hz.1]
   clear hz;have W2:Hid (Bk (W.setCell ⟨w.heap.size+1,1,none⟩ (.int .u64 1)) (w.heap.size+1) 50 #[.int .u64 x,.int .u64 1]):=by
    have:=K1.o.set 1 (.int .u64 1);show Bk _ _ _ _;simpa using this
   have a:Hid (Bk (W.setCell ⟨w.heap.size+1,1,none⟩ (.int .u64 1)) w.heap.size 50 #[.int .u64 0,.int .u64 0]):=K0.o.far (by simp) _;have a0:=W2.o.cell 0;have a1:=W2.o.cell 1;have b0:=a.o.cell 0;have b1:=a.o.cell 1;simp at a0 a1 b0 b1;have d0:=a.o.free 0;have d1:=a.o.free 1;clear HE;go_wp2_with fail;refine ZW (oQ Tryz.results126 rfl (a.o.set2 _ _)) rfl ?_;exact HV.o _ HQ.o _ _ rfl (eU (HB.o.setCell (p:=⟨w.heap.size+1,1,none⟩) (by simp) _) aj _ _)
 . have hb: (x == 0 && y == 0)=false:=by
     rw[Bool.eq_false_iff];intro h;simp at h;exact hz h
   have HQ:Hid (ofB (toL s)= (x,y)):=by show _=_;rw[HE.o,if_neg hz]
   clear hz HE;go_wp2_with fail;refine ZW (oQ Tryz.results126 rfl (K0.o.set2 _ _)) rfl ?_;exact HV.o _ HQ.o _ _ rfl (eU HB.o aj _ _)
