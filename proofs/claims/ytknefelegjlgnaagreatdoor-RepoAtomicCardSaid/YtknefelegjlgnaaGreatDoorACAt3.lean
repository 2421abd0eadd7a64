/-
  Lemmas of the card.
-/
import Derived.Test.YtknefelegjlgnaaGreatDoorACAt2
set_option maxRecDepth 100000
set_option maxHeartbeats 2000000
namespace Go.Proofs.YtknefelegjlgnaaGreatDoor
open Go.RowKit
structure Dk where
 sz:Nat
 ss:List M5
 pn:List (Nat×M5)
 lf:Int
structure Dk.Ok(d:Dk):Prop where
 sz0:0<d.sz
 sz1:d.sz<=512
 n0:0<d.ss.length
 n1:d.ss.length<=1000
 len:∀s∈d.ss,s.length=d.sz
 pn:∀w∈d.pn,w.1<d.ss.length/\w.2.length=d.sz
 lf: -1<=d.lf
 lm:d.lf<=9223372036854775807
abbrev Dop:=Option (Nat×M5)
def eH(x:Int):Int:=if 0<x then x - 1 else x
def settle(ss:List M5)(ws:List (Nat×M5)):List M5:=ws.foldl (fun s w=>s.set w.1 w.2) ss
def doO(d:Dk):Dop->Dk
 | some w=>{d with pn:=d.pn++ [w],lf:=eH d.lf}
 | none=>{d with ss:=settle d.ss d.pn,pn:= [],lf:=eH d.lf}
def aH:Dk->List Dop->Dk×Int
 | d,[]=>(d,0)
 | d,o::os=>if d.lf=0 then(d,20) else aH (doO d o) os
def fQ(sz:Nat)(p:Int):Nat:=(p.tmod (sz+1:Nat)).natAbs
def bM(sz:Nat):List M5->List (Nat×M5)->List Int->List M5
 | ss,[],_=>ss
 | ss,w::ws,ps=>bM sz (ss.set w.1 (w.2.take (fQ sz (ps.headD 0))++ (ss.getD w.1 []).drop (fQ sz (ps.headD 0)))) ws ps.tail
def ek(d:Dk)(ps:List Int):Dk:={d with ss:=bM d.sz d.ss d.pn ps,pn:= [],lf:= -1}
theorem kr(ws:List (Nat×M5)):∀ss:List M5,(settle ss ws).length=ss.length:=by
 induction ws with
 | nil=>intro ss;rfl
 | cons w ws ih=>intro ss;show(settle (ss.set w.1 w.2) ws).length=_;rw[ih,List.length_set]
theorem jF{sz:Nat}:∀(ws:List (Nat×M5))(ss:List M5)(ps:List Int),(bM sz ss ws ps).length=ss.length
 | [],_,_=>rfl
 | w::ws,ss,ps=>by rw[bM,jF ws,List.length_set]
theorem oJ{sz:Nat}(Q:Nat->M5->Prop):∀(ws:List (Nat×M5))(ss:List M5)(ps:List Int),(∀i s,ss[i]? =some s->Q i s)-> (∀w∈ws,∀s q,Q w.1 s->Q w.1 (w.2.take q++s.drop q))->∀i s,(bM sz ss ws ps)[i]? =some s->Q i s
 | [],_,_,h,_,i,s,hs=>h i s hs
 | w::ws,ss,ps,h,hw,i,s,hs=>by
   rw[bM]at hs;refine oJ Q ws _ _ (fun j t ht=>?_) (fun x hx=>hw x (by simp[hx])) i s hs;rw[List.getElem?_set]at ht;split at ht
   . rename_i e
     subst e;split at ht
     . rename_i hl
       cases ht
       refine hw w (by simp) _ _ (h w.1 _ ?_);rw[List.getD_eq_getElem?_getD,Z6 hl];rfl
     . cases ht
   . exact h j t ht
theorem nX(Q:Nat->M5->Prop):∀(ws:List (Nat×M5))(ss:List M5),(∀i s,ss[i]? =some s->Q i s)-> (∀w∈ws,Q w.1 w.2)->∀i s,(settle ss ws)[i]? =some s->Q i s
 | [],_,h,_,i,s,hs=>h i s hs
 | w::ws,ss,h,hw,i,s,hs=>by
   refine nX Q ws (ss.set w.1 w.2) (fun j t ht=>?_) (fun x hx=>hw x (by simp[hx])) i s hs;rw[List.getElem?_set]at ht;split at ht
   . rename_i e
     subst e;split at ht
     . cases ht;exact hw w (by simp)
     . cases ht
   . exact h j t ht
theorem xQ(ss:List M5)(w:Nat×M5):settle ss [w]=ss.set w.1 w.2:=rfl
theorem Ai{L:List M5}{i:Nat}{x:M5}(h:L[i]? =some x):L.set i x=L:=by
 refine List.ext_getElem? fun j=>?_;rw[List.getElem?_set];split
 . rename_i e
   subst e;rw[if_pos (List.getElem?_eq_some_iff.1 h).1,h]
 . rfl
theorem DU(ss:List M5)(a b:List (Nat×M5)):settle ss (a++b)=settle (settle ss a) b:=by simp[settle]
theorem mr:∀(os:List Dop)(d:Dk),∃pre suf,os=pre++suf/\ (aH d os).1=pre.foldl doO d/\ ((suf= []/\ (aH d os).2=0)∨ ((aH d os).2=20/\ (aH d os).1.lf=0))
 | [],d=>⟨[],[],rfl,rfl,.inl ⟨rfl,rfl⟩⟩
 | o::os,d=>by
   by_cases h:d.lf=0
   . exact⟨[],o::os,rfl,by simp[aH,h],.inr (by simp[aH,h])⟩
   . obtain⟨pre,suf,h1,h2,h3⟩:=mr os (doO d o)
     refine⟨o::pre,suf,by rw[h1];rfl,?_,?_⟩
     . rw[aH,if_neg h];exact h2
     . rw[aH,if_neg h];exact h3
theorem Lt{d:Dk}{o:Dop}(h:d.lf= -1): (doO d o).lf= -1:=by cases o <;> simp[doO,eH,h]
theorem ko:∀(os:List Dop)(d:Dk),d.lf= -1->aH d os= (os.foldl doO d,0)/\ (os.foldl doO d).lf= -1
 | [],d,h=>⟨rfl,h⟩
 | o::os,d,h=>by rw[aH,if_neg (by omega)];exact ko os _ (Lt h)
theorem lQ:∀(ws:List (Nat×M5))(d:Dk),((ws.map some).foldl doO d).ss=d.ss/\ ((ws.map some).foldl doO d).pn=d.pn++ws/\ ((ws.map some).foldl doO d).sz=d.sz
 | [],d=>⟨rfl,by simp,rfl⟩
 | w::ws,d=>by
   obtain⟨h1,h2,h3⟩:=lQ ws (doO d (some w));exact⟨h1,by rw[List.map_cons,List.foldl_cons,h2];simp[doO],h3⟩
/-! ### journals -/
def hf(ss:List M5):Nat:=(ss.length - 1) / 2
def aC(ss:List M5)(a:Nat):Nat:=1+ (a - 1)*hf ss
def wu(ss:List M5)(a:Nat):M5:=((ss.drop (aC ss a)).take (hf ss)).flatten
def bY(sz a:Nat):M5:=bB sz [UInt8.ofNat a]
structure Jn(sz:Nat)(ss:List M5)(a:Nat)(rs:List M5)(u:Nat):Prop where
 sz0:0<sz
 n3:3<=ss.length
 len:∀s∈ss,s.length=sz
 act:a=1∨a=2
 mark:ss[0]? =some (bY sz a)
 recs:frs sz (wu ss a)=some (rs,u)
section
variable {sz : Nat} {ss ss' : List M5} {a u : Nat} {rs l : List M5}
theorem uX{L:List M5}(h:∀s∈L,s.length=sz):L.flatten.length=L.length*sz:=by
 induction L with
 | nil=>simp
 | cons x L ih=>rw[List.flatten_cons,ae,ih (fun s hs=>h s (by simp[hs])),h x (by simp),Z5,Nat.succ_mul];omega
theorem xh{L:List M5}(h:∀s∈L,s.length=sz)(k:Nat):L.flatten.take (k*sz)= (L.take k).flatten:=by
 induction L generalizing k with
 | nil=>simp
 | cons x L ih =>
   cases k with
   | zero=>simp
   | succ k =>
     have hx:=h x (by simp);rw[List.flatten_cons,List.take_append,hx,ZW (by rw[hx,Nat.succ_mul];omega),Nat.succ_mul,Nat.add_sub_cancel,ih (fun s hs=>h s (by simp[hs])),List.take_succ_cons,List.flatten_cons]
theorem xk{L:List M5}(h:∀s∈L,s.length=sz)(k:Nat):L.flatten.drop (k*sz)= (L.drop k).flatten:=by
 induction L generalizing k with
 | nil=>simp
 | cons x L ih =>
   cases k with
   | zero=>simp
   | succ k =>
     have hx:=h x (by simp);rw[List.flatten_cons,List.drop_append,hx,List.drop_of_length_le (l:=x) (by rw[hx,Nat.succ_mul];omega),List.nil_append,Nat.succ_mul,Nat.add_sub_cancel,ih (fun s hs=>h s (by simp[hs])),List.drop_succ_cons]
def dU(ss:List M5)(a:Nat):List M5:=(ss.drop (aC ss a)).take (hf ss)
theorem jH{i:Nat}: (dU ss a)[i]? =if i<hf ss then ss[aC ss a+i]? else none:=by
 unfold dU;rw[List.getElem?_take,List.getElem?_drop]
theorem gy(h:a=1∨a=2)(hn:3<=ss.length):aC ss a+hf ss<=ss.length/\1<=aC ss a/\1<=hf ss:=by
 unfold aC hf;rcases h with rfl | rfl <;> omega
theorem zV(h:a=1∨a=2)(hn:3<=ss.length): (dU ss a).length=hf ss:=by
 have:=gy h hn;unfold dU;rw[List.length_take,List.length_drop];omega
theorem iG(h:∀s∈ss,s.length=sz):∀s∈dU ss a,s.length=sz:=fun s hs=>h s (List.mem_of_mem_drop (List.mem_of_mem_take hs))
theorem Jn.u_le(h:Jn sz ss a rs u):u<=hf ss:=by
 have h1:=BX h.sz0 _ _ _ _ ai h.recs (by
  show sz ∣ (dU ss a).flatten.length;rw[uX (iG h.len)];exact Nat.dvd_mul_left _ _)
 have h2: (wu ss a).length=hf ss*sz:=by
  show(dU ss a).flatten.length=_;rw[uX (iG h.len),zV h.act h.n3]
 rw[h2]at h1;exact Nat.le_of_mul_le_mul_right h1 h.sz0
theorem Jn.free(h:Jn sz ss a rs u){s:M5}(hu:u<hf ss)(hs:ss[aC ss a+u]? =some s):zer s:=by
 have h1:=Bt h.sz0 _ _ _ _ ai h.recs;have h2: (wu ss a).drop (u*sz)= ((dU ss a).drop u).flatten:=xk (iG h.len) u;have h3: (dU ss a)[u]? =some s:=by rw[jH,if_pos hu];exact hs
 have hl:=List.getElem?_eq_some_iff.1 h3;rw[h2,List.drop_eq_getElem_cons hl.1,hl.2,List.flatten_cons]at h1;intro x hx;refine h1 x ?_;cases s with
 | nil=>cases hx
 | cons y s=>exact hx
theorem Jn.other(h:Jn sz ss a rs u)(hn:ss'.length=ss.length)(hl:∀s∈ss',s.length=sz)(h0:ss'[0]? =ss[0]?)(hu:∀i,i<u->ss'[aC ss a+i]? =ss[aC ss a+i]?){k:Nat}(hr:frs sz (((dU ss' a).drop u).flatten)=some (l,k)):Jn sz ss' a (rs++l) (u+k):=by
 have e1:hf ss'=hf ss:=by unfold hf;rw[hn]
 have e2:aC ss' a=aC ss a:=by unfold aC;rw[e1]
 refine⟨h.sz0,by rw[hn];exact h.n3,hl,h.act,h0.trans h.mark,?_⟩;refine BH h.sz0 _ _ _ _ _ _ _ ai h.recs ?_ ?_
 . show(dU ss' a).flatten.take _= (dU ss a).flatten.take _
   rw[xh (iG hl),xh (iG h.len)]
   congr 1
   refine List.ext_getElem? fun i=>?_;rw[List.getElem?_take,List.getElem?_take];split
   . rename_i hi
     rw[jH,jH,e1,e2,hu i hi]
   . rfl
 . show frs sz ((dU ss' a).flatten.drop _)=_
   rw[xk (iG hl)];exact hr
theorem tq{L:List M5}(hsz:0<sz)(hl:∀s∈L,s.length=sz)(h:∀s,L[0]? =some s->zer s):zer L.flatten:=by
 cases L with
 | nil=>intro x hx;cases hx
 | cons s L =>
   have hs:=h s rfl;cases s with
   | nil=>have:=hl [] (by simp);simp at this;omega
   | cons y s=>intro x hx;exact hs x hx
theorem Jn.keep(h:Jn sz ss a rs u)(hn:ss'.length=ss.length)(hl:∀s∈ss',s.length=sz)(h0:ss'[0]? =ss[0]?)(hu:∀i,i<u->ss'[aC ss a+i]? =ss[aC ss a+i]?)(hz:∀s,u<hf ss->ss'[aC ss a+u]? =some s->zer s):Jn sz ss' a rs u:=by
 have e1:hf ss'=hf ss:=by unfold hf;rw[hn]
 have e2:aC ss' a=aC ss a:=by unfold aC;rw[e1]
 have:=h.other (l:= []) (k:=0) hn hl h0 hu (jq (tq h.sz0 (fun s hs=>iG hl s (List.mem_of_mem_drop hs)) (fun s hs=>by
  rw[List.getElem?_drop,jH,e1,e2]at hs;split at hs
  . rename_i hi;exact hz s hi hs
  . cases hs)))
 rwa[List.append_nil]at this
end
/-! ### appending -/
def dm(at_:Nat)(S:List M5)(e sz:Nat):List (Nat×M5):=(S.zipIdx at_).map (fun p=>(p.2,p.1))++ (if at_+S.length<e then [(at_+S.length,bB sz [])] else [])
def ic:List M5->List M5
 | []=> []
 | s::S=>(0::s.tail)::S
def eF(sz:Nat)(ss:List M5)(a u:Nat)(S:List M5):List Dop :=
 (dm (aC ss a+u) (ic S) (aC ss a+hf ss) sz).map some++ [none,some (aC ss a+u,S.headD []),none]
def fe(sz:Nat)(ss:List M5)(a:Nat)(S:List M5):List Dop :=
 (dm (aC ss (3 - a)) S (aC ss (3 - a)+hf ss) sz).map some++ [none,some (0,bY sz (3 - a)),none]
theorem tX:∀(S:List M5)(p:Nat)(ss:List M5),p+S.length<=ss.length->∀i,(settle ss ((S.zipIdx p).map (fun q=>(q.2,q.1))))[i]? =if p<=i/\i<p+S.length then S[i - p]? else ss[i]?
 | [],p,ss,_,i=>by simp[settle];omega
 | s::S,p,ss,h,i=>by
   show(settle (ss.set p s) ((S.zipIdx (p+1)).map (fun q=>(q.2,q.1))))[i]? =_;rw[Z5]at h ⊢;rw[tX S (p+1) (ss.set p s) (by rw[List.length_set];omega) i];by_cases h1:p+1<=i/\i<p+1+S.length
   . rw[if_pos h1,if_pos (by omega),show i - p= (i - (p+1))+1 by omega,List.getElem?_cons_succ]
   . rw[if_neg h1,List.getElem?_set]
     by_cases h2:p=i
     . subst h2
       rw[if_pos rfl,if_pos (by omega),if_pos (by omega),Nat.sub_self,List.getElem?_cons_zero]
     . rw[if_neg h2,if_neg (by omega)]
theorem Ay{S:List M5}{p e sz:Nat}{ss:List M5}(h:p+S.length<=e)(he:e<=ss.length)(i:Nat): (settle ss (dm p S e sz))[i]? =if p<=i/\i<p+S.length then S[i - p]? else if i=p+S.length/\i<e then some (bB sz []) else ss[i]? :=by
 unfold dm;rw[DU];split
 . rename_i hlt
   show((settle ss _).set _ _)[i]? =_;rw[List.getElem?_set,kr,tX S p ss (by omega) i];by_cases h1:p+S.length=i
   . rw[if_pos h1,if_pos (by omega),if_neg (by omega),if_pos (by omega)]
   . rw[if_neg h1,if_neg (c:=i=p+S.length/\i<e) (by omega)]
 . rename_i hlt
   show(settle ss _)[i]? =_;rw[tX S p ss (by omega) i,if_neg (c:=i=p+S.length/\i<e) (by omega)]
theorem pF{S:List M5}{p e sz:Nat}{w:Nat×M5}(h:p+S.length<=e)(hw:w∈dm p S e sz):p<=w.1/\w.1<e/\ (S[w.1 - p]? =some w.2∨ (w.1=p+S.length/\w.2=bB sz [])):=by
 unfold dm at hw;rcases List.mem_append.1 hw with hw | hw
 . obtain⟨q,hq,rfl⟩:=List.mem_map.1 hw
   have h1:=List.mem_zipIdx hq;obtain⟨h2,h3,h4⟩:=h1;refine⟨h2,by show q.2<e;omega,.inl ?_⟩;show S[q.2 - p]? =some q.1;rw[h4];exact Z6 _
 . split at hw
   . rename_i hlt
     rw[aa]at hw;subst hw;exact⟨by show p<=p+S.length;omega,hlt,.inr ⟨rfl,rfl⟩⟩
   . cases hw
theorem yG{W pre suf:List Dop}{x y z:Dop}(h:W++ [x,y,z]=pre++suf): (∃t,W=pre++t)∨pre=W++ [x]∨pre=W++ [x,y]∨ (pre=W++ [x,y,z]/\suf= []):=by
 rcases List.append_eq_append_iff.1 h with ⟨t,h1,h2⟩ | ⟨t,h1,h2⟩
 . match t,h2 with
   | [],h2=>exact .inl ⟨[],by rw[h1];simp⟩
   | [_],h2=>simp only[List.cons_append,List.nil_append,List.cons.injEq]at h2;rw[h2.1];exact .inr (.inl h1)
   | [_,_],h2=>simp only[List.cons_append,List.nil_append,List.cons.injEq]at h2;rw[h2.1,h2.2.1];exact .inr (.inr (.inl h1))
   | _::_::_::t,h2 =>
     simp only[List.cons_append,List.cons.injEq]at h2;have h3:=List.append_eq_nil_iff.1 h2.2.2.2.symm;rw[h3.1,<-h2.1,<-h2.2.1,<-h2.2.2.1]at h1;exact .inr (.inr (.inr ⟨h1,h3.2⟩))
 . exact .inl ⟨t,h1⟩
theorem Bj{pre t:List Dop}{V:List (Nat×M5)}(h:V.map some=pre++t):∃V':List (Nat×M5),pre=V'.map some/\∀w∈V',w∈V:=by
 refine⟨V.take pre.length,?_,fun w hw=>List.mem_of_mem_take hw⟩;rw[List.map_take,h,List.take_left]
theorem Js{x y:M5}(h0:0<x.length)(hx:zer x)(hy:zer y)(q:Nat):zer (x.take q++y.drop q):=by
 cases q with
 | zero=>simpa using hy
 | succ q =>
   cases x with
   | nil=>simp at h0
   | cons a x=>intro z hz;exact hx z (by simpa using hz)
theorem uO{sz:Nat}{x y:M5}(hx:x.length=sz)(hy:y.length=sz)(q:Nat): (x.take q++y.drop q).length=sz:=by
 rw[ae,List.length_take,List.length_drop];omega
theorem yI{x y:UInt8}{t:M5}(q:Nat): (x::t).take q++ (y::t).drop q=if q=0 then y::t else x::t:=by
 cases q with
 | zero=>rfl
 | succ q=>rw[if_neg (by omega)];simp
theorem oV(sz:Nat):zer (bB sz []):=by
 intro x hx;unfold bB at hx;rw[List.nil_append]at hx;exact List.eq_of_mem_replicate (List.mem_of_mem_head? hx)
theorem Ah(sz a:Nat):bY sz a=UInt8.ofNat a::List.replicate (sz - 1) 0:=by simp[bY,bB]
section
variable {sz : Nat} {ss ss' S : List M5} {a u : Nat} {rs l : List M5}
structure SecF(sz:Nat)(l:List M5)(S:List M5):Prop where
 fit:eO l
 eq:S=secs sz (az l)
theorem SecF.cons(h:SecF sz l S)(hz:0<sz):∃t S1,S= (1::t)::S1/\ (1::t:M5).length=sz:=by
 have h1:az l≠ []:=by unfold az;simp
 have h2:=sP hz h1;obtain⟨k,rfl⟩:∃k,sz=k+1:=⟨sz - 1,by omega⟩
 have h3: (az l).take (k+1)=1:: (aj (bJ l).length++bJ l).take k:=rfl;have h4:=gD (sz:=k+1) (t:=(az l).take (k+1)) (by rw[List.length_take];omega);rw[h3]at h2 h4;exact⟨_,_,h.eq.trans h2,h4⟩
theorem SecF.siz(h:SecF sz l S)(hz:0<sz):∀s∈S,s.length=sz:=by rw[h.eq];exact(kg hz _ _ ai).2.1
theorem SecF.read(h:SecF sz l S)(hz:0<sz){rest:M5}(hr:zer rest):frs sz (S.flatten++rest)=some (l,S.length):=by
 have h1:=J7 hz h.fit hr;rw[h.eq,h1,(kg hz _ _ ai).1]
theorem AY(hz:0<sz)(hl:∀s∈ss',s.length=sz){k:Nat}(h:∀s,k<hf ss'->ss'[aC ss' a+k]? =some s->zer s):zer ((dU ss' a).drop k).flatten :=
 tq hz (fun s hs=>iG hl s (List.mem_of_mem_drop hs)) (fun s hs=>by
  rw[List.getElem?_drop,jH]at hs;split at hs
  . rename_i hi;exact h s hi hs
  . cases hs)
theorem x9{S:List M5}{k:Nat}(hk:k+S.length<=hf ss')(h:∀i,i<S.length->ss'[aC ss' a+ (k+i)]? =S[i]?): (dU ss' a).drop k=S++ (dU ss' a).drop (k+S.length):=by
 refine List.ext_getElem? fun i=>?_;rw[List.getElem?_drop,List.getElem?_append];split
 . rename_i hi
   rw[jH,if_pos (by omega),h i hi]
 . rename_i hi
   rw[List.getElem?_drop]
   congr 1;omega
theorem Jn.frame(h:Jn sz ss a rs u){S:List M5}(hS:SecF sz l S)(hk:u+S.length<=hf ss)(hn:ss'.length=ss.length)(hl:∀s∈ss',s.length=sz)(h0:ss'[0]? =ss[0]?)(hu:∀i,i<u->ss'[aC ss a+i]? =ss[aC ss a+i]?)
  (hs:∀i,i<S.length->ss'[aC ss a+ (u+i)]? =S[i]?) (hz:∀s,u+S.length<hf ss->ss'[aC ss a+ (u+S.length)]? =some s->zer s):Jn sz ss' a (rs++l) (u+S.length):=by
 have e1:hf ss'=hf ss:=by unfold hf;rw[hn]
 have e2:aC ss' a=aC ss a:=by unfold aC;rw[e1]
 refine h.other hn hl h0 hu ?_;rw[x9 (by rw[e1];exact hk) (by rw[e2];exact hs),List.flatten_append];exact hS.read h.sz0 (AY h.sz0 hl (by rw[e1,e2];exact hz))
theorem yt(h:Jn sz ss a rs u){S:List M5}(hS:SecF sz l S)(hk:u+S.length<=hf ss){lf:Int}{pre suf:List Dop}(hp:eF sz ss a u S=pre++suf)(ps:List Int) :
  let d:=pre.foldl doO ⟨sz,ss,[],lf⟩
  (Jn sz (bM sz d.ss d.pn ps) a rs u∨Jn sz (bM sz d.ss d.pn ps) a (rs++l) (u+S.length))/\ (suf= []->d.pn= []/\Jn sz d.ss a (rs++l) (u+S.length)):=by
 have G:=gy h.act h.n3;obtain⟨t,S1,rfl,ht⟩:=hS.cons h.sz0;have C:=hS.siz h.sz0;have D:u<hf ss:=by rw[Z5]at hk;omega
 have E: (ic ((1::t)::S1))= (0::t)::S1:=rfl;have p:aC ss a+u+ (((0:UInt8)::t)::S1).length<=aC ss a+hf ss:=by simp only[Z5]at hk ⊢;omega
 have hW:∀w∈dm (aC ss a+u) ((0::t)::S1) (aC ss a+hf ss) sz,aC ss a+u<=w.1/\w.1<aC ss a+hf ss/\w.2.length=sz/\ (w.1=aC ss a+u->zer w.2):=by
  intro w hw;obtain⟨h1,h2,h3⟩:=pF p hw;refine⟨h1,h2,?_,?_⟩
  . rcases h3 with h3 | ⟨_,h3⟩
    . rcases List.mem_cons.1 (Z7 h3) with e | e
      . rw[e];simpa using ht
      . exact C _ (by simp[e])
    . rw[h3];exact gD (by simp)
  . intro e
    rcases h3 with h3 | ⟨h3,_⟩
    . rw[e,Nat.sub_self]at h3
      simp only[List.getElem?_cons_zero,Option.some.injEq]at h3;rw[<-h3];intro x hx;simpa using hx.symm
    . rw[Z5]at h3;omega
 let Q:Nat->M5->Prop:=fun i s=>s.length=sz/\ ((i<aC ss a+u∨aC ss a+hf ss<=i)->ss[i]? =some s)/\ (i=aC ss a+u->zer s)
 have r:∀i s,ss[i]? =some s->Q i s:=fun i s hs=>⟨h.len s (Z7 hs),fun _=>hs,fun e=>h.free D (by rw[<-e];exact hs)⟩
 have v:∀g:List M5,g.length=ss.length-> (∀i s,g[i]? =some s->Q i s)->Jn sz g a rs u:=by
  intro g hn hq;have j:∀i,i<aC ss a+u->g[i]? =ss[i]? :=by
   intro i hi;have hl:i<g.length:=by rw[hn];omega
   have:=(hq i _ (Z6 hl)).2.1 (.inl hi);rw[this,Z6 hl]
  refine h.keep hn (fun s hs=>?_) (j 0 (by omega)) (fun i hi=>j _ (by omega)) (fun s _ hs=>(hq _ _ hs).2.2 rfl);obtain⟨i,hi⟩:=List.mem_iff_getElem?.1 hs;exact(hq i s hi).1
 have y:∀i s,(settle ss (dm (aC ss a+u) ((0::t)::S1) (aC ss a+hf ss) sz))[i]? =some s->Q i s :=
  nX Q _ _ r (fun w hw=>by
   obtain⟨h1,h2,h3,h4⟩:=hW w hw;exact⟨h3,fun e=>by omega,h4⟩)
 obtain⟨b,c⟩:=NX9 (settle ss (dm (aC ss a+u) ((0::t)::S1) (aC ss a+hf ss) sz))
 have f:=Ay (sz:=sz) (ss:=ss) p (by omega);rw[c]at y;simp only[c]at f;have m:b.length=ss.length:=by rw[<-c,kr]
 have n:=v b m y;have z:b[aC ss a+u]? =some (0::t):=by rw[f,if_pos (by simp),Nat.sub_self];rfl
 have F:aC ss a+u<b.length:=by rw[m];omega
 have o:Jn sz (b.set (aC ss a+u) (1::t)) a (rs++l) (u+ ((1::t)::S1).length):=by
  have k:∀i,i≠aC ss a+u-> (b.set (aC ss a+u) (1::t))[i]? =b[i]? :=fun i hi=>List.getElem?_set_ne (Ne.symm hi);refine h.frame hS hk (by rw[List.length_set];exact m) ?_ ?_ ?_ ?_ ?_
  . intro s hs
    rcases List.mem_or_eq_of_mem_set hs with hs | rfl
    . exact n.len s hs
    . exact ht
  . rw[k 0 (by omega),f,if_neg (by omega),if_neg (by omega)]
  . intro i hi
    rw[k _ (by omega),f,if_neg (by omega),if_neg (by simp only[Z5];omega)]
  . intro i hi
    by_cases e:i=0
    . subst e;rw[Nat.add_zero,List.getElem?_set_self F];rfl
    . rw[k _ (by omega),f,if_pos (by simp only[Z5]at hi ⊢;omega),show aC ss a+ (u+i) - (aC ss a+u)= (i - 1)+1 by omega,List.getElem?_cons_succ]
      rw[show i= (i - 1)+1 by omega,List.getElem?_cons_succ];rfl
  . intro s A hs
    rw[k _ (by simp),f,if_neg (by simp only[Z5]at A ⊢;omega),if_pos (by simp only[Z5]at A ⊢;omega)]at hs;cases hs;exact oV sz
 have B:bM sz b [(aC ss a+u,1::t)] ps=b∨bM sz b [(aC ss a+u,1::t)] ps=b.set (aC ss a+u) (1::t):=by
  have hg:b.getD (aC ss a+u) []=0::t:=by rw[List.getD_eq_getElem?_getD,z];rfl
  simp only[bM,hg,yI];split
  . left;exact Ai z
  . right;rfl
 unfold eF at hp;rw[E]at hp;obtain⟨f1,f2,f3⟩:=lQ (dm (aC ss a+u) ((0::t)::S1) (aC ss a+hf ss) sz) ⟨sz,ss,[],lf⟩;rw[List.nil_append]at f2;rcases yG hp with ⟨t',h1⟩ | rfl | rfl | ⟨rfl,rfl⟩
 . obtain⟨V,rfl,hV⟩:=Bj h1
   obtain⟨g1,g2,g3⟩:=lQ V ⟨sz,ss,[],lf⟩;rw[List.nil_append]at g2;refine⟨.inl ?_,fun e=>?_⟩
   . rw[g1,g2]
     refine v _ (jF _ _ _) (oJ Q _ _ _ r (fun w hw s q hs=>?_));obtain⟨h1,h2,h3,h4⟩:=hW w (hV w hw);exact⟨uO h3 hs.1 q,fun e=>by omega,fun e=>Js (by rw[h3];exact h.sz0) (h4 e) (hs.2.2 e) q⟩
   . subst e
     exfalso
     have h5:=congrArg List.length hp;have h6:=congrArg List.length h1;simp only[ae,Z5,List.length_nil,List.length_map]at h5 h6;omega
 . rw[List.foldl_append]
   refine⟨.inl ?_,fun e=>?_⟩
   . simp only[List.foldl_cons,List.foldl_nil,doO,f1,f2,c,bM]
     exact n
   . subst e
     have:=congrArg List.length hp;simp at this
 . rw[List.foldl_append]
   refine⟨?_,fun e=>?_⟩
   . simp only[List.foldl_cons,List.foldl_nil,doO,f1,f2,c,List.nil_append,List.headD_cons]
     rcases B with e | e
     . rw[e];exact .inl n
     . rw[e];exact .inr o
   . subst e
     have:=congrArg List.length hp;simp at this
 . rw[List.foldl_append]
   simp only[List.foldl_cons,List.foldl_nil,doO,f1,f2,c,List.nil_append,List.headD_cons,bM,xQ];exact⟨.inr o,fun _=>⟨trivial,o⟩⟩
theorem FE(h:Jn sz ss a rs u){S:List M5}(hS:SecF sz l S)(hk:S.length<=hf ss){lf:Int}{pre suf:List Dop}(hp:fe sz ss a S=pre++suf)(ps:List Int) :
  let d:=pre.foldl doO ⟨sz,ss,[],lf⟩
  (Jn sz (bM sz d.ss d.pn ps) a rs u∨Jn sz (bM sz d.ss d.pn ps) (3 - a) l S.length)/\ (suf= []->d.pn= []/\Jn sz d.ss (3 - a) l S.length):=by
 have K:=gy h.act h.n3;have hb:3 - a=1∨3 - a=2:=by rcases h.act with rfl | rfl <;> simp
 have E:=gy hb h.n3;have F:=hS.siz h.sz0;have r:∀i,i<hf ss->aC ss a+i<aC ss (3 - a)∨aC ss (3 - a)+hf ss<=aC ss a+i:=by
  intro i hi;unfold aC;rcases h.act with rfl | rfl <;> simp <;> omega
 have hu:=h.u_le;obtain⟨p,t⟩:=NX9 (aC ss (3 - a))
 rw[t]at r E;have y:p+S.length<=p+hf ss:=by omega
 have hW:∀w∈dm p S (p+hf ss) sz,p<=w.1/\w.1<p+hf ss/\w.2.length=sz:=by
  intro w hw;obtain⟨h1,h2,h3⟩:=pF y hw;refine⟨h1,h2,?_⟩;rcases h3 with h3 | ⟨_,h3⟩
  . exact F _ (Z7 h3)
  . rw[h3];exact gD (by simp)
 let Q:Nat->M5->Prop:=fun i s=>s.length=sz/\ ((i<p∨p+hf ss<=i)->ss[i]? =some s)
 have z:∀i s,ss[i]? =some s->Q i s:=fun i s hs=>⟨h.len s (Z7 hs),fun _=>hs⟩
 have A:∀ss':List M5,ss'.length=ss.length-> (∀i s,ss'[i]? =some s->Q i s)->Jn sz ss' a rs u:=by
  intro ss' hn hq;have g:∀i,i<ss.length-> (i<p∨p+hf ss<=i)->ss'[i]? =ss[i]? :=by
   intro i hi G;have hl:i<ss'.length:=by rw[hn];exact hi
   have:=(hq i _ (Z6 hl)).2 G;rw[this,Z6 hl]
  refine h.keep hn (fun s hs=>?_) (g 0 (by omega) (by omega)) (fun i hi=>g _ (by omega) (r i (by omega))) (fun s m hs=>?_)
  . obtain⟨i,hi⟩:=List.mem_iff_getElem?.1 hs
    exact(hq i s hi).1
  . rw[g _ (by omega) (r u m)]at hs
    exact h.free m hs
 obtain⟨c,f⟩:=NX9 (settle ss (dm p S (p+hf ss) sz))
 have H:∀i s,c[i]? =some s->Q i s:=by
  rw[<-f];exact nX Q _ _ z (fun w hw=>by
   obtain⟨h1,h2,h3⟩:=hW w hw;exact⟨h3,fun e=>by omega⟩)
 have j:=Ay (sz:=sz) (ss:=ss) y (by omega);simp only[f]at j;have n:c.length=ss.length:=by rw[<-f,kr]
 have o:=A c n H;have I:0<c.length:=by rw[n];omega
 have J:∀b,(bY sz b).length=sz:=fun b=>gD (by have:=h.sz0;simp;omega);have v:Jn sz (c.set 0 (bY sz (3 - a))) (3 - a) l S.length:=by
  have e1:hf (c.set 0 (bY sz (3 - a)))=hf ss:=by unfold hf;rw[List.length_set,n]
  have e2:aC (c.set 0 (bY sz (3 - a))) (3 - a)=p:=by rw[<-t];unfold aC;rw[e1]
  have B:∀i,i≠0-> (c.set 0 (bY sz (3 - a)))[i]? =c[i]? :=fun i hi=>List.getElem?_set_ne (Ne.symm hi);have hl:∀s∈c.set 0 (bY sz (3 - a)),s.length=sz:=by
   intro s hs;rcases List.mem_or_eq_of_mem_set hs with hs | rfl
   . exact o.len s hs
   . exact J _
  refine⟨h.sz0,by rw[List.length_set,n];exact h.n3,hl,hb,List.getElem?_set_self I,?_⟩;show frs sz ((dU _ (3 - a)).flatten)=_;have C:=x9 (ss':=c.set 0 (bY sz (3 - a))) (a:=3 - a) (S:=S) (k:=0) (by rw[e1];omega) (by
   intro i hi;rw[e2,B _ (by omega),j,if_pos (by omega)];congr 1;omega)
  rw[List.drop_zero,Nat.zero_add]at C;rw[C,List.flatten_append];exact hS.read h.sz0 (AY h.sz0 hl (by
   intro s m hs;rw[e1]at m;rw[e2,B _ (by omega),j,if_neg (by omega),if_pos (by omega)]at hs;cases hs;exact oV sz))
 have D:bM sz c [(0,bY sz (3 - a))] ps=c∨bM sz c [(0,bY sz (3 - a))] ps=c.set 0 (bY sz (3 - a)):=by
  have x:=o.mark;have hg:c.getD 0 []=bY sz a:=by rw[List.getD_eq_getElem?_getD,x];rfl
  simp only[bM,hg];rw[Ah]at x ⊢;rw[Ah,yI];split
  . left;exact Ai x
  . right;rfl
 unfold fe at hp;rw[t]at hp;obtain⟨f1,f2,f3⟩:=lQ (dm p S (p+hf ss) sz) ⟨sz,ss,[],lf⟩;rw[List.nil_append]at f2;rcases yG hp with ⟨t',h1⟩ | rfl | rfl | ⟨rfl,rfl⟩
 . obtain⟨V,rfl,hV⟩:=Bj h1
   obtain⟨g1,g2,g3⟩:=lQ V ⟨sz,ss,[],lf⟩;rw[List.nil_append]at g2;refine⟨.inl ?_,fun e=>?_⟩
   . rw[g1,g2]
     refine A _ (jF _ _ _) (oJ Q _ _ _ z (fun w hw s q hs=>?_));obtain⟨h1,h2,h3⟩:=hW w (hV w hw);exact⟨uO h3 hs.1 q,fun e=>by omega⟩
   . subst e
     exfalso
     have h5:=congrArg List.length hp;have h6:=congrArg List.length h1;simp only[ae,Z5,List.length_nil,List.length_map]at h5 h6;omega
 . rw[List.foldl_append]
   refine⟨.inl ?_,fun e=>?_⟩
   . simp only[List.foldl_cons,List.foldl_nil,doO,f1,f2,f,bM]
     exact o
   . subst e
     have:=congrArg List.length hp;simp at this
 . rw[List.foldl_append]
   refine⟨?_,fun e=>?_⟩
   . simp only[List.foldl_cons,List.foldl_nil,doO,f1,f2,f,List.nil_append]
     rcases D with e | e
     . rw[e];exact .inl o
     . rw[e];exact .inr v
   . subst e
     have:=congrArg List.length hp;simp at this
 . rw[List.foldl_append]
   simp only[List.foldl_cons,List.foldl_nil,doO,f1,f2,f,List.nil_append,bM,xQ];exact⟨.inr v,fun _=>⟨trivial,v⟩⟩
end
/-! ### disks that hold a journal -/
structure Dur(d:Dk)(rs:List M5):Prop where
 ok:d.Ok
 pn:d.pn= []
 jn:∃a u,Jn d.sz d.ss a rs u
structure Brk(d:Dk)(rs rs':List M5):Prop where
 ok:d.Ok
 lf:d.lf=0
 cut:∀ps,Dur (ek d ps) rs∨Dur (ek d ps) rs'
theorem AV{x:Int}(h:x<=9223372036854775807):eH x<=9223372036854775807:=by unfold eH;split <;> omega
theorem zy{x:Int}(h: -1<=x): -1<=eH x:=by unfold eH;split <;> omega
def iZ(d:Dk)(o:Dop):Prop:=∀w,o=some w->w.1<d.ss.length/\w.2.length=d.sz
theorem uq(d:Dk)(o:Dop): (doO d o).sz=d.sz/\ (doO d o).ss.length=d.ss.length:=by
 cases o with
 | none=>exact⟨rfl,kr _ _⟩
 | some w=>exact⟨rfl,rfl⟩
theorem Dk.Ok.doO{d:Dk}(h:d.Ok){o:Dop}(ho:iZ d o): (Go.Proofs.YtknefelegjlgnaaGreatDoor.doO d o).Ok:=by
 cases o with
 | none =>
   refine⟨h.sz0,h.sz1,by show 0< (settle _ _).length;rw[kr];exact h.n0,by show(settle _ _).length<=_;rw[kr];exact h.n1,?_,(by intro w hw;cases hw),zy h.lf,AV h.lm⟩;intro s hs;obtain⟨i,hi⟩:=List.mem_iff_getElem?.1 hs;exact nX (fun _ s=>s.length=d.sz) _ _ (fun i s hs=>h.len s (Z7 hs)) (fun w hw=>(h.pn w hw).2) i s hi
 | some w =>
   refine⟨h.sz0,h.sz1,h.n0,h.n1,h.len,?_,zy h.lf,AV h.lm⟩;intro x hx;rcases List.mem_append.1 hx with hx | hx
   . exact h.pn x hx
   . rw[aa]at hx;subst hx;exact ho x rfl
theorem qb:∀(os:List Dop)(d:Dk),d.Ok-> (∀o∈os,iZ d o)-> (os.foldl doO d).Ok/\ (os.foldl doO d).sz=d.sz/\ (os.foldl doO d).ss.length=d.ss.length
 | [],d,h,_=>⟨h,rfl,rfl⟩
 | o::os,d,h,ho=>by
   obtain⟨k1,k2⟩:=uq d o;obtain⟨h1,h2,h3⟩:=qb os _ (h.doO (ho o (by simp))) (fun x hx w hw=>by rw[k1,k2];exact ho x (by simp[hx]) w hw);exact⟨h1,h2.trans k1,h3.trans k2⟩
theorem Dk.Ok.cut{d:Dk}(h:d.Ok)(ps:List Int): (ek d ps).Ok:=by
 refine⟨h.sz0,h.sz1,by show 0< (bM _ _ _ _).length;rw[jF];exact h.n0,by show(bM _ _ _ _).length<=_;rw[jF];exact h.n1,?_,(by intro w hw;cases hw),by show(-1:Int)<= -1;omega,by show(-1:Int)<=_;omega⟩;intro s hs;obtain⟨i,hi⟩:=List.mem_iff_getElem?.1 hs;exact oJ (fun _ s=>s.length=d.sz) _ _ _ (fun i s hs=>h.len s (Z7 hs)) (fun w hw s q hq=>uO (h.pn w hw).2 hq q) i s hi
theorem Dur.cut{d:Dk}{rs:List M5}(h:Dur d rs)(ps:List Int):Dur (ek d ps) rs:=by
 refine⟨h.ok.cut ps,rfl,?_⟩;show ∃a u,Jn d.sz (bM d.sz d.ss d.pn ps) a rs u;rw[h.pn];exact h.jn
theorem BN{d:Dk}{rs rs':List M5}(h:Dur d rs)(os:List Dop)(hf:∀o∈os,iZ d o)
  (hs:∀pre suf ps,os=pre++suf->let e:=pre.foldl doO ⟨d.sz,d.ss,[],d.lf⟩
    ((∃a u,Jn d.sz (bM d.sz e.ss e.pn ps) a rs u)∨ (∃a u,Jn d.sz (bM d.sz e.ss e.pn ps) a rs' u))/\ (suf= []->e.pn= []/\∃a u,Jn d.sz e.ss a rs' u)) :
  ((aH d os).2=0/\Dur (aH d os).1 rs')∨ ((aH d os).2=20/\Brk (aH d os).1 rs rs'):=by
 obtain⟨pre,suf,h1,h2,h3⟩:=mr os d;have hd:d= ⟨d.sz,d.ss,[],d.lf⟩:=by rw[<-h.pn]
 obtain⟨k1,k2,k3⟩:=qb pre d h.ok (fun o ho=>hf o (by rw[h1];exact List.mem_append_left _ ho));rcases h3 with ⟨e,h3⟩ | ⟨h3,h4⟩
 . left
   refine⟨h3,?_⟩;have:=(hs pre suf [] h1).2 e;simp only[<-hd]at this;rw[h2];exact⟨k1,this.1,by rw[k2];exact this.2⟩
 . right
   refine⟨h3,?_⟩;rw[h2]at h4 ⊢;refine⟨k1,h4,fun ps=>?_⟩;have:=(hs pre suf ps h1).1;simp only[<-hd]at this;rw[<-k2]at this;rcases this with h | h
   . exact .inl ⟨k1.cut ps,rfl,h⟩
   . exact .inr ⟨k1.cut ps,rfl,h⟩
theorem BK{d:Dk}{W:List (Nat×M5)}{x:Nat×M5}(hW:∀w∈W,w.1<d.ss.length/\w.2.length=d.sz)(hx:x.1<d.ss.length/\x.2.length=d.sz):∀o∈W.map some++ [none,some x,none],iZ d o:=by
 intro o ho w hw;subst hw;rcases List.mem_append.1 ho with ho | ho
 . obtain⟨y,hy,e⟩:=List.mem_map.1 ho
   cases e;exact hW _ hy
 . simp only[List.mem_cons,reduceCtorEq,Option.some.injEq,List.not_mem_nil,or_false,false_or]at ho
   subst ho;exact hx
theorem uH{d:Dk}{rs l S:List M5}{a u:Nat}(hj:Jn d.sz d.ss a rs u)(hS:SecF d.sz l S)(hk:S.length<=hf d.ss - u):u+S.length<=hf d.ss/\∀o∈eF d.sz d.ss a u S,iZ d o:=by
 have hu:=hj.u_le;have g:=gy hj.act hj.n3;obtain⟨t,S1,e,ht⟩:=hS.cons hj.sz0;have b:u+S.length<=hf d.ss:=by rw[e,Z5]at hk ⊢;omega
 have c:=hS.siz hj.sz0;have f: (ic S).length=S.length:=by rw[e];rfl
 refine⟨b,BK (fun w hw=>?_) ⟨?_,?_⟩⟩
 . obtain⟨h1,h2,h3⟩:=pF (by rw[f];omega) hw
   refine⟨by omega,?_⟩;rcases h3 with h3 | ⟨_,h3⟩
   . have:=Z7 h3
     rw[e]at this c;rcases List.mem_cons.1 this with e | e
     . rw[e];simpa using ht
     . exact c _ (by simp[e])
   . rw[h3];exact gD (by simp)
 . rw[e,Z5]at b;show aC d.ss a+u<_;omega
 . rw[e];exact ht
theorem JS{d:Dk}{rs l S:List M5}{a u:Nat}(h:Dur d rs)(hj:Jn d.sz d.ss a rs u)(hS:SecF d.sz l S)(hk:S.length<=hf d.ss - u) :
  ((aH d (eF d.sz d.ss a u S)).2=0/\Dur (aH d (eF d.sz d.ss a u S)).1 (rs++l))∨ ((aH d (eF d.sz d.ss a u S)).2=20/\Brk (aH d (eF d.sz d.ss a u S)).1 rs (rs++l)):=by
 obtain⟨b,hf⟩:=uH hj hS hk;refine BN h _ hf (fun pre suf ps hp=>?_);obtain⟨h1,h2⟩:=yt (lf:=d.lf) hj hS b hp ps;exact⟨h1.imp (fun h=>⟨_,_,h⟩) (fun h=>⟨_,_,h⟩),fun e=>⟨(h2 e).1,_,_,(h2 e).2⟩⟩
theorem BO{d:Dk}{rs l S:List M5}{a u:Nat}(hd:d.Ok)(hj:Jn d.sz d.ss a rs u)(hS:SecF d.sz l S)(hk:S.length<=hf d.ss):∀o∈fe d.sz d.ss a S,iZ d o:=by
 have hb:3 - a=1∨3 - a=2:=by rcases hj.act with rfl | rfl <;> simp
 have c:=gy hb hj.n3;have b:=hS.siz hj.sz0;refine BK (fun w hw=>?_) ⟨?_,?_⟩
 . obtain⟨h1,h2,h3⟩:=pF (by omega) hw
   refine⟨by omega,?_⟩;rcases h3 with h3 | ⟨_,h3⟩
   . exact b _ (Z7 h3)
   . rw[h3];exact gD (by simp)
 . exact hd.n0
 . exact gD (by have:=hj.sz0;simp;omega)
theorem J3{d:Dk}{rs l S:List M5}{a u:Nat}(h:Dur d rs)(hj:Jn d.sz d.ss a rs u)(hS:SecF d.sz l S)(hk:S.length<=hf d.ss) :
  ((aH d (fe d.sz d.ss a S)).2=0/\Dur (aH d (fe d.sz d.ss a S)).1 l)∨ ((aH d (fe d.sz d.ss a S)).2=20/\Brk (aH d (fe d.sz d.ss a S)).1 rs l):=by
 refine BN h _ (BO h.ok hj hS hk) (fun pre suf ps hp=>?_);obtain⟨h1,h2⟩:=FE (lf:=d.lf) hj hS hk hp ps;exact⟨h1.imp (fun h=>⟨_,_,h⟩) (fun h=>⟨_,_,h⟩),fun e=>⟨(h2 e).1,_,_,(h2 e).2⟩⟩
/-! ### formatting -/
def bH(sz:Nat)(ss:List M5):List Dop:= [some (aC ss 1,bB sz []),some (aC ss 2,bB sz []),none,some (0,bY sz 1),none]
theorem Cb{d:Dk}(hd:d.Ok)(hn:3<=d.ss.length)(hp:d.pn= [])(hl:d.lf= -1): (aH d (bH d.sz d.ss)).2=0/\Dur (aH d (bH d.sz d.ss)).1 []/\ (aH d (bH d.sz d.ss)).1.lf= -1/\Jn (aH d (bH d.sz d.ss)).1.sz (aH d (bH d.sz d.ss)).1.ss 1 [] 0:=by
 obtain⟨h1,h2⟩:=ko (bH d.sz d.ss) d hl;rw[h1];have f1:=gy (ss:=d.ss) (.inl rfl) hn;have f2:=gy (ss:=d.ss) (.inr rfl) hn;have hz: (bB d.sz []).length=d.sz:=gD (by simp);have hm: (bY d.sz 1).length=d.sz:=gD (by have:=hd.sz0;simp;omega);obtain⟨k1,k2,k3⟩:=qb (bH d.sz d.ss) d hd (by
  intro o ho w hw;subst hw;simp only[bH,List.mem_cons,reduceCtorEq,Option.some.injEq,List.not_mem_nil,or_false,false_or]at ho;rcases ho with rfl | rfl | rfl
  . exact⟨by show aC d.ss 1<_;omega,hz⟩
  . exact⟨by show aC d.ss 2<_;omega,hz⟩
  . exact⟨hd.n0,hm⟩)
 suffices hJ:Jn ((bH d.sz d.ss).foldl doO d).sz ((bH d.sz d.ss).foldl doO d).ss 1 [] 0 from⟨rfl,⟨k1,rfl,1,0,hJ⟩,h2,hJ⟩
 obtain⟨e,he⟩:=NX9 (((bH d.sz d.ss).foldl doO d))
 have a:e.ss= ((d.ss.set (aC d.ss 1) (bB d.sz [])).set (aC d.ss 2) (bB d.sz [])).set 0 (bY d.sz 1):=by
  rw[<-he];simp[bH,doO,hp,settle]
 rw[he]at k1 k2 k3 ⊢;have e1:hf e.ss=hf d.ss:=by unfold hf;rw[k3]
 have e2:aC e.ss 1=aC d.ss 1:=by unfold aC;rw[e1]
 show Jn e.sz e.ss 1 [] 0;refine⟨k1.sz0,by omega,k1.len,.inl rfl,?_,?_⟩
 . rw[a,k2,List.getElem?_set_self (by simp only[List.length_set];omega)]
 . refine jq (tq k1.sz0 (iG k1.len) (fun s hs=>?_))
   replace hs: (dU e.ss 1)[0]? =some s:=hs
   rw[jH,e1,e2,if_pos (by omega),Nat.add_zero,a,List.getElem?_set_ne (by omega),List.getElem?_set,List.getElem?_set_self (by omega)]at hs;split at hs
   . split at hs
     . cases hs;exact oV _
     . cases hs
   . cases hs;exact oV _
section
open Go.Maps
def gV(v:M4):Option (DataW M4×List MemPlace):=some (.held v,[])
theorem oW{v u:M4}{ps:List MemPlace}(h:gV v=some (.held u,ps)):v=u:=by
 simp[gV]at h;exact h.1
def Rm(w:MZ)(P:Program)(k:TypeId)(b N:Nat)(g:M3->Option M4):Prop :=
 ∃D:DataW M4,w.ownsMap P k gV b N D/\∀s:M3,Maps.has D (.string s.data.toList)= (g s).isSome/\∀z,D.atKey (.string s.data.toList) (.held z)= .held ((g s).getD z)
def upd(g:M3->Option M4)(s:M3)(v:M4):M3->Option M4:=fun t=>if t=s then some v else g t
theorem JD(g:M3->Option M4)(s:M3)(v:M4):upd g s v s=some v:=by simp[upd]
theorem Gi(g:M3->Option M4){s t:M3}(v:M4)(h:t≠s):upd g s v t=g t:=by simp[upd,h]
section
variable {w w' : MZ} {P : Program} {k t e : TypeId} {b N : Nat} {g : M3 -> Option M4}
theorem Rm.made(w:MZ)(P:Program)(k:TypeId):Rm (w.alloc (.map #[] 0)) P k w.heap.size 0 (fun _=>none) :=
 ⟨.map [],World.ownsMap_made w P k gV,fun _=>⟨rfl,fun _=>rfl⟩⟩
theorem Rm.lt(h:Rm w P k b N g):b<w.heap.size:=h.choose_spec.1.lt
theorem Rm.more(h:Rm w P k b N g){M:Nat}(hm:N<=M):Rm w P k b M g:=by
 obtain⟨D,h1,h2⟩:=h;exact⟨D,h1.mono hm,h2⟩
theorem Rm.kept{row:Option Nat}(h:Rm w P k b N g)(hg:w.grownBy w' row)(hr:some b≠row):Rm w' P k b N g:=by
 obtain⟨D,h1,h2⟩:=h;exact⟨D,h1.kept hg hr,h2⟩
theorem Rm.below{B:Nat}(h:Rm w P k b N g)(hb:Below B w w')(hB:b<B):Rm w' P k b N g:=by
 obtain⟨D,⟨es,a,h1,h2⟩,h3⟩:=h;exact⟨D,⟨es,a,(hb.block b hB).trans h1,h2⟩,h3⟩
theorem Rm.alloc(h:Rm w P k b N g)(o:Obj):Rm (w.alloc o) P k b N g:=h.kept (World.grownBy_alloc w o none) (by simp)
theorem mU(hk:P.underlying k=some .string){s:M3}(hs:s.size<=maxLen):keyOf P k (.string s)=some (.string s.data.toList):=by simp[keyOf,hk,mapKey];exact hs
theorem Rm.look(h:Rm w P k b N g)(hk:P.underlying k=some .string)(ht:P.underlying t=some (.map k e)){z:M4}(hz: (zeroValue e).run P w= .ok z w){s:M3}(hs:s.size<=maxLen) :
  (Instr.lookup t (.map (some b)) (.string s) false).run P w= .ok ((g s).getD z) w:=by
 obtain⟨D,h1,h2⟩:=h;obtain⟨v,ps,a,hv⟩:=h1.lookup (string_keyed hk) ht hz (zd:= .held z) (zp:= []) rfl (mU hk hs);rw[(h2 s).2 z]at hv;rw[a,oW hv]
theorem Rm.look_ok(h:Rm w P k b N g)(hk:P.underlying k=some .string)(ht:P.underlying t=some (.map k e)){z:M4}(hz: (zeroValue e).run P w= .ok z w){s:M3}(hs:s.size<=maxLen) :
  (Instr.lookup t (.map (some b)) (.string s) true).run P w= .ok (.tuple #[(g s).getD z,.bool (g s).isSome]) w:=by
 obtain⟨D,h1,h2⟩:=h;obtain⟨v,ps,a,hv⟩:=h1.look_ok (string_keyed hk) ht hz (zd:= .held z) (zp:= []) rfl (mU hk hs);rw[(h2 s).2 z]at hv;rw[a,oW hv,(h2 s).1]
theorem lit_ne{s r:M3}(h:r≠s): (Lit.string r.data.toList)≠ .string s.data.toList:=fun e=>h (iQ (by injection e))
theorem Rm.put(h:Rm w P k b N g)(hk:P.underlying k=some .string)(ht:P.underlying t=some (.map k e))(hn:N<maxLen){s:M3}(hs:s.size<=maxLen)(v:M4) :
  ∃w',(Instr.mapUpdate t (.map (some b)) (.string s) v).run P w= .ok () w'/\Rm w' P k b (N+1) (upd g s v)/\w.grownBy w' (some b):=by
 obtain⟨D,h1,h2⟩:=h;obtain⟨w',a,ho,hg⟩:=h1.update (string_keyed hk) ht hn (mU hk hs) (d:= .held v) (ps:= []) rfl;refine⟨w',a,⟨_,ho,fun r=>?_⟩,hg⟩;have c:=(string_keyed hk).key (mU hk hs);by_cases hr:r=s
 . subst hr
   rw[JD,has_put_same h1.isMap c];exact⟨rfl,fun z=>atKey_put_same h1.isMap c _ _⟩
 . rw[Gi _ _ hr,has_put_other (lit_ne hr)]
   exact⟨(h2 r).1,fun z=>(atKey_put_other (lit_ne hr) _ _).trans ((h2 r).2 z)⟩
theorem lL{ops:Array Oper}{rest:List Oper}{o:Oper}{a:Act}{Q:Exit->Act->MZ->Prop}(hgd:o.guard=none)(m x y:Operand)(t:TypeId)(hop:o.op=Op.mapUpdate t m x y)
  (k e:TypeId) (hk:P.underlying k=some .string) (ht:P.underlying t=some (.map k e)) (b N:Nat) (g:M3->Option M4) (hm:a.eval m= .map (some b)) (h:Rm w P k b N g) (hn:N<maxLen)
  (s:M3) (hs:s.size<=maxLen) (v:M4) (hx:a.eval x= .string s) (hy:a.eval y=v)
  (hK:∀w',Rm w' P k b (N+1) (upd g s v)->w.grownBy w' (some b)->wpList P ops Q rest (a.put o.dst undef) w'):wpList P ops Q (o::rest) a w:=by
 refine wpList_plain hgd fun K' hK'=>?_;obtain⟨w',c,r1,r2⟩:=h.put hk ht hn hs v;unfold Oper.wp;simp[execOp,hop,hm,hx,hy,c,Result.andThen];exact hK' _ _ (hK w' r1 r2)
/-! ### ranging -/
variable {r cnt : Nat} {left : M3 -> Bool}
end
end
section
open Go.Maps
def rmv(g:M3->Option M4)(s:M3):M3->Option M4:=fun t=>if t=s then none else g t
theorem Rm.del{w:MZ}{P:Program}{k t e:TypeId}{b N:Nat}{g:M3->Option M4}(h:Rm w P k b N g)(hk:P.underlying k=some .string)(ht:P.underlying t=some (.map k e)){s:M3}(hs:s.size<=maxLen)(ty:TypeId) :
  ∃w',(Builtin.delete_ #[t,k] ty #[.map (some b),.string s]).run P w= .ok (.tuple #[]) w'/\Rm w' P k b N (rmv g s)/\w.grownBy w' (some b):=by
 obtain⟨D,h1,h2⟩:=h;obtain⟨w',a,ho,hg⟩:=h1.drop (string_keyed hk) ht (mU hk hs) ty;refine⟨w',a,⟨_,ho,fun r=>?_⟩,hg.grown⟩;unfold rmv;by_cases hr:r=s
 . subst hr
   rw[if_pos rfl];exact⟨has_del_same,fun z=>atKey_del_same _⟩
 . rw[if_neg hr]
   exact⟨(has_del_other (lit_ne hr)).trans (h2 r).1,fun z=>(atKey_del_other (lit_ne hr) _).trans ((h2 r).2 z)⟩
theorem DR{P:Program}{w:MZ}{ops:Array Oper}{rest:List Oper}{o:Oper}{a:Act}{Q:Exit->Act->MZ->Prop}(hgd:o.guard=none)(m x:Operand)(t k:TypeId)(hop:o.op=Op.call {callee:=Callee.builtin Builtin.delete,args:=#[m,x],argTypes:=#[t,k]})
  (e:TypeId) (hk:P.underlying k=some .string) (ht:P.underlying t=some (.map k e)) (b N:Nat) (g:M3->Option M4) (hm:a.eval m= .map (some b)) (h:Rm w P k b N g)
  (s:M3) (hs:s.size<=maxLen) (hx:a.eval x= .string s)
  (hK:∀w',Rm w' P k b N (rmv g s)->w.grownBy w' (some b)->wpList P ops Q rest (a.put o.dst (.tuple #[])) w'):wpList P ops Q (o::rest) a w:=by
 refine wpList_plain hgd fun K' hK'=>?_;obtain⟨w',c,r1,r2⟩:=h.del hk ht hs o.type;unfold Oper.wp;simp[execOp,hop,resolve,invoke,builtin,hm,hx,c,Result.andThen];exact hK' _ _ (hK w' r1 r2)
end
def qK(c:Int):Bool:=((decide (97<=c) && decide (c<=122)) || ((decide (65<=c) && decide (c<=90)) || (decide (48<=c) && decide (c<=57)))) || (decide (c=46) || (decide (c=95) || decide (c=45)))
def lI(c:UInt8):Bool:=qK (c.toNat:Int)
def gT(l:List UInt8):Bool:=decide (1<=l.length) && (decide (l.length<=24) && (!(decide (l= [46])) && (!(decide (l= [46,46])) && l.all lI)))
def bI(s:M3):Bool:=gT (bl s)
theorem Ey(c:Int)(w:MZ):Calls Tryz.prog 259 #[.int .u8 c] w fun e w'=>e= .returned (.bool (qK c))/\w=w':=by
 go_enter Tryz.func259,Tryz.ntmps259
 go_wp2
 all_goals (go_ret;refine⟨aY ?_,rfl⟩;rw[Bool.eq_iff_iff];simp[qK];try omega)
def AllTo(l:List UInt8)(k:Nat):Prop:=∀j c,j<k->l[j]? =some c->lI c=true
theorem AllTo.step{l:List UInt8}{k:Nat}{c:UInt8}(h:AllTo l k)(hc:l[k]? =some c)(ho:lI c=true):AllTo l (k+1):=fun j x hj hx=>by
 by_cases e:j=k
 . subst e;rw[hc]at hx;cases hx;exact ho
 . exact h j x (by omega) hx
theorem AllTo.all{l:List UInt8}(h:AllTo l l.length):l.all lI=true:=by
 rw[List.all_eq_true];intro c hc;obtain⟨j,hj,e⟩:=List.getElem_of_mem hc;exact h j c hj (by rw[<-e];exact Z6 _)
theorem iC(s:M3)(w:MZ)(hs:s.size<=maxLen):Calls Tryz.prog 195 #[.string s] w fun e w'=>e= .returned (.bool (bI s))/\w=w':=by
 unfold maxLen at hs;have HL:=ah (gN s)
 go_enter Tryz.func195,Tryz.ntmps195
 have a:∀b:Bool,bI s=b->Hid (bI s=b):=fun b h=>h;have d: (bl s).length=s.size:=(gN s).symm;by_cases c1: (s.size:Int)<1
 . have hv:=a false (by unfold bI gT;rw[decide_eq_false (by omega),Bool.false_and])
   clear a d;go_wp2_with fail;go_ret
   exact⟨aY hv.o.symm,rfl⟩
 by_cases c2: (24:Int)< (s.size:Int)
 . have hv:=a false (by unfold bI gT;rw[decide_eq_false (p:=(bl s).length<=24) (by omega)];simp)
   clear a d;go_wp2_with fail;go_ret
   exact⟨aY hv.o.symm,rfl⟩
 have h3: (s.toList == [46])=decide (bl s= [46]):=by rw[ByteArray.toList_eq];unfold bl;rw[Bool.eq_iff_iff];simp
 have h4: (s.toList == [46,46])=decide (bl s= [46,46]):=by rw[ByteArray.toList_eq];unfold bl;rw[Bool.eq_iff_iff];simp
 by_cases c3:bl s= [46]
 . have hv:=a false (by unfold bI gT;rw[decide_eq_true c3];simp)
   rw[decide_eq_true c3]at h3;clear a d h4 c3;go_wp2_with fail;go_ret
   exact⟨aY hv.o.symm,rfl⟩
 rw[decide_eq_false c3]at h3;by_cases c4:bl s= [46,46]
 . have hv:=a false (by unfold bI gT;rw[decide_eq_true c4];simp)
   rw[decide_eq_true c4]at h4;clear a d c4 c3;go_wp2_with fail;go_ret
   exact⟨aY hv.o.symm,rfl⟩
 rw[decide_eq_false c4]at h4;have HV:Hid (bI s= (bl s).all lI):=by
  show _=_;unfold bI gT;rw[decide_eq_true (p:=1<= (bl s).length) (by omega),decide_eq_true (p:=(bl s).length<=24) (by omega),decide_eq_false c3,decide_eq_false c4];simp
 have g:=ah d;clear a c3 c4 d;go_wp2_with fail
 go_loop[22] (fun i=>∃k:Nat,k<=s.size/\i= .int .i64 k/\Hid (AllTo (bl s) k)) (fun i=>s.size - (intOf i).toNat)
 case atStart=>exact⟨0,ZZ _,rfl,fun j c h=>absurd h (by omega)⟩
 case round =>
  obtain⟨k,hk,rfl,hA⟩:=hrel;by_cases hlt:k<s.size
  . have l: (k:Int)< (s.size:Int):=by omega
    have HG:=ah (zC s k hlt);have f:=ah (Ey (s[k].toNat:Int));cases hv:qK (s[k].toNat:Int) with
    | true =>
      have m:Hid (AllTo (bl s) (k+1)):=hA.o.step HG.o hv;rw[hv]at f;clear hv hA
      go_wp2_with (go_at_call 259;refine(f.o _).mono ?_;rintro e w' ⟨rfl,rfl⟩)
      go_round
      case rel=>exact⟨k+1,hlt,by go_num,m.o⟩
      case measure=>simp[intOf];omega
    | false =>
      have HF:Hid (bI s=false):=by
       show _=_;rw[HV.o,List.all_eq_false];exact⟨s[k],Z7 HG.o,by unfold lI;rw[hv];simp⟩
      rw[hv]at f;clear hv hA
      go_wp2_with (go_at_call 259;refine(f.o _).mono ?_;rintro e w' ⟨rfl,rfl⟩)
      go_ret
      exact⟨aY HF.o.symm,rfl⟩
  . have l:¬(k:Int)< (s.size:Int):=by omega
    have HT:Hid (bI s=true):=by
     show _=_;rw[HV.o];refine AllTo.all ?_;have:=hA.o
     rwa[show k= (bl s).length from by rw[g.o];omega]at this
    clear hA;go_wp2_with fail;go_ret
    exact⟨aY HT.o.symm,rfl⟩
section
open Go.RowKit Go.Shelf
attribute [local go_sem] Oper.semAt_some
def bL(s:M3):Bool:=decide ((bl s).length<=100) && (aZ (bl s)).all gT
theorem sj{w:MZ}{a:Array M4}{r:Nat}{x:Bool}(ha:a[2]?.getD undef= .pointer (some ⟨r,0,none⟩))(h:w.heap[r]? =some (.cells #[.bool x] 4 (0,0))) :
  (results Tryz.f196 a).run Tryz.prog w= .ok (.bool x) w:=by
 have hc:=cell_of_one h;simp[results,Tryz.results196,ha,go_sem,hc]
theorem Fp(s:M3)(w:MZ)(hs:s.size<=maxLen) :
  Calls Tryz.prog 196 #[.string s] w fun e w'=>e= .returned (.bool (bL s))/\Below w.heap.size w w':=by
 refine(callsIn_wide (n:=6)).1 ?_;unfold maxLen at hs;have HL:=ah (gN s);have t:Fence.wide.fn 194:=trivial;have u:Fence.wide.fn 195:=trivial;refine callsIn_of_wp_marks Tryz.func196 rfl trivial ?_ rfl;simp only[Tryz.ntmps196,List.size_toArray,Z5,List.length_nil,Nat.reduceAdd,Nat.reduceSub,Array.replicate_succ,Array.replicate_zero,List.push_toArray,List.append_toArray,List.nil_append,List.cons_append];by_cases c1:100< (s.size:Int)
 . have hv:Hid (bL s=false):=by
     show _=_;have:=HL.o;unfold bL bl;rw[decide_eq_false (by omega),Bool.false_and]
   gi_wp2_with fail
   refine⟨_,sj rfl (World.alloc_heap_new w _),?_⟩;exact⟨aY hv.o.symm,(af _ _).alloc ai _⟩
 have z: (s.size:Int)<=100:=by omega
 have HN:Hid (bL s= (aZ (bl s)).all gT):=by
  show _=_;have:=HL.o;unfold bL;rw[decide_eq_true (by unfold bl;omega),Bool.true_and]
 gi_wp2_with (gi_at_call 194;refine(callsIn_wide.2 (wY _ _)).mono ?_;rintro e w' ⟨rfl,rfl⟩)
 obtain⟨W0,a⟩:=NX9 ((((w.alloc (.cells #[.bool false] 4)).alloc (.cells #[.string s] 9)).alloc (.cells #[.string ⟨#[47]⟩] 9)).alloc (.cells #[.int .i64 0] 3))
 have hz:W0.heap.size=w.heap.size+4:=by rw[<-a];simp
 have g0:W0.heap[w.heap.size]? =some (.cells #[.bool false] 4 (0,0)):=by
  rw[<-a];exact(Below.heap_alloc _ _ _ (by simp;omega)).trans ((Below.heap_alloc _ _ _ (by simp;omega)).trans ((Below.heap_alloc _ _ _ (by simp)).trans (World.alloc_heap_new w _)))
 have g1:W0.heap[w.heap.size+1]? =some (.cells #[.string s] 9 (0,0)):=by
  rw[<-a];refine(Below.heap_alloc _ _ _ (by simp)).trans ((Below.heap_alloc _ _ _ (by simp)).trans ?_);have:=World.alloc_heap_new (w.alloc (.cells #[.bool false] 4)) (.cells #[.string s] 9);rwa[Z9]at this
 have g2:W0.heap[w.heap.size+1+1]? =some (.cells #[.string ⟨#[47]⟩] 9 (0,0)):=by
  rw[<-a];refine(Below.heap_alloc _ _ _ (by simp)).trans ?_;have:=World.alloc_heap_new ((w.alloc (.cells #[.bool false] 4)).alloc (.cells #[.string s] 9)) (.cells #[.string ⟨#[47]⟩] 9);rwa[Z9,Z9]at this
 have g3:W0.heap[w.heap.size+1+2]? =some (.cells #[.int .i64 0] 3 (0,0)):=by
  rw[<-a];have:=World.alloc_heap_new (((w.alloc (.cells #[.bool false] 4)).alloc (.cells #[.string s] 9)).alloc (.cells #[.string ⟨#[47]⟩] 9)) (.cells #[.int .i64 0] 3);rwa[Z9,Z9,Z9]at this
 have b:Below w.heap.size w W0:=by
  rw[<-a];exact((((af _ w).alloc ai _).alloc (by simp) _).alloc (by simp;omega) _).alloc (by simp;omega) _
 rw[a];refine rG (F:=Fence.wide) (n:=6) rfl (by omega) (gf:=297) (lb:=#[.pointer (some ⟨w.heap.size+1+1,0,none⟩),.pointer (some ⟨w.heap.size+1,0,none⟩),.pointer (some ⟨w.heap.size+1+2,0,none⟩)]) rfl trivial (enters_of Tryz.func297 (by kernel_rfl) rfl)
  (yO 5 (w.heap.size+1) (by omega) s W0 (by omega) (by omega) g1 g2 g3) Br (fun W l o hl=>yK (m:=w.heap.size+4) (by omega) W l o (by omega)) (yz) (af _ _) (fun _=>rfl)
  (fun pre W=>W.heap[w.heap.size]? =some (.cells #[.bool false] 4 (0,0))/\Hid (∀x∈pre,bI x=true)/\Below w.heap.size w W/\w.heap.size+4<=W.heap.size)
  (fun c pre W=>c= .ret/\W.heap[w.heap.size]? =some (.cells #[.bool false] 4 (0,0))/\Hid (∃x∈pre,bI x=false)/\Below w.heap.size w W)
  ?hI ?hIx ?hIS ⟨g0,by simp[Hid],b,by omega⟩ ?a1 ?assign ?body ?done ?stop
 case assign =>
  intro l x W K hK;have f:=ah hK;clear hK
  gi_wp2
  exact f.o
 case hI =>
  rintro pre A B g ⟨h1,h2,h3,h4⟩ hg hr;refine⟨oC h1 hg (fun e=>?_),h2,h3.grown hg h3.size (fun k e=>?_),Z0 h4 hg.size⟩
  . have:=(hr _ e.symm).1;omega
  . have:=(hr _ e).1;omega
 case hIx =>
  rintro c pre A B g ⟨h0,h1,h2,h3⟩ hg hr;refine⟨h0,oC h1 hg (fun e=>?_),h2,h3.grown hg h3.size (fun k e=>?_)⟩
  . have:=(hr _ e.symm).1;omega
  . have:=(hr _ e).1;omega
 case hIS =>
  rintro pre A B ⟨h1,h2,h3,h4⟩ ⟨v,rfl⟩;exact⟨(Z8 _ _ _ _ (by simp)).trans h1,h2,h3.setCell (p:=⟨w.heap.size+1,0,none⟩) (by simp) _,by simpa [World.setCell] using h4⟩
 case body =>
  rintro l pre x W ⟨r,hr⟩ ⟨h1,h2,h3,h4⟩;have d:x.size<=maxLen:=by
   have hm:bl x∈aZ (bl s):=by rw[<-hr];simp
   have h5:=lZ (bl s) _ hm;have h6:=gN x;have h7:=HL.o;unfold bl at h5;unfold maxLen;omega
  have c0:=cell_of_one h1;have f0:=free_of_one h1;have H1:=ah h1;have H3:=ah h3;clear h1 h3 g0 g1 g2 g3 b a hr;cases hv:bI x with
  | true =>
    have HV:=ah hv;clear hv
    gi_wp2_with (gi_at_call 195;refine(CallsIn.inRound l (callsIn_wide.2 (iC x _ d))).mono ?_;rintro e w' ⟨rfl,rfl⟩;rw[HV.o])
    refine⟨⟨Nat.le_refl _,fun k o hk _=>hk⟩,fun k h5 h6=>rfl,H1.o,?_,H3.o,h4⟩;intro y hy;rcases List.mem_append.1 hy with h | h
    . exact h2.o y h
    . simp at h;subst h;exact HV.o
  | false =>
    have HV:=ah hv;clear hv
    gi_wp2_with (gi_at_call 195;refine(CallsIn.inRound l (callsIn_wide.2 (iC x _ d))).mono ?_;rintro e w' ⟨rfl,rfl⟩;rw[HV.o])
    exact⟨KeepsOthers.setCell _ _ _,rfl,one_setCell H1.o,⟨x,by simp,HV.o⟩,H3.o.setCell (p:=⟨w.heap.size,0,none⟩) ai _⟩
 case done =>
  rintro D xs W hD hS ⟨h1,h2,h3,h4⟩ hK;have c0:=cell_of_one h1;have f0:=free_of_one h1;have H1:=ah h1;have H3:=ah h3;have HK:=ah hK;have HS:=ah hS;clear h1 h3 hK hS
  gi_wp2
  have i:=(KeepsOthers.setCell W ⟨w.heap.size,0,none⟩ (.bool true)).same D _ HK.o rfl;refine⟨by simp,.inl ⟨_,_,rfl,run_takeDeferred i,?_⟩⟩;refine⟨_,sj rfl ((World.putObj_heap_other (by omega)).trans (one_setCell H1.o)),aY ?_,?_⟩
  . rw[HN.o]
    symm
    rw[List.all_eq_true];intro y hy;have j:y∈xs.map bl:=by rw[HS.o];exact hy
    obtain⟨x,hx,rfl⟩:=List.mem_map.1 j;exact h2.o x hx
  . exact(H3.o.setCell (p:=⟨w.heap.size,0,none⟩) ai _).grown (grownBy_putObj' _ _ _) ((H3.o.setCell (p:=⟨w.heap.size,0,none⟩) ai _).size) (fun k e=>by cases e;omega)
 case stop =>
  rintro D c pre W hD hS ⟨rfl,h1,h2,h3⟩ hK;have H1:=ah h1;have H3:=ah h3;have HK:=ah hK;have HS:=ah hS;clear h1 h3 hK hS
  gi_wp2
  refine⟨by simp,.inl ⟨_,_,rfl,run_takeDeferred HK.o,?_⟩⟩;refine⟨_,sj rfl ((World.putObj_heap_other (by omega)).trans H1.o),aY ?_,?_⟩
  . rw[HN.o]
    symm
    rw[List.all_eq_false];obtain⟨x,hx,q⟩:=h2.o;obtain⟨r,hr⟩:=HS.o;refine⟨bl x,?_,by simpa [bI] using q⟩;rw[<-hr];exact List.mem_append.2 (.inl (List.mem_map.2 ⟨x,hx,rfl⟩))
  . exact H3.o.grown (grownBy_putObj' _ _ _) H3.o.size (fun k e=>by cases e;omega)
end
theorem Sl.of_bk{w:MZ}{b size n:Nat}{t:TypeId}{cs:Array M4}(h:Bk w b t cs)(hl:cs.size=n*size):Sl w w.heap.size size (some ⟨b,0,none⟩) n cs.toList :=
 ⟨by simpa using hl,fun _=>⟨b,0,rfl,h.lt,fun j u hu=>by rw[Nat.zero_add,h.cell];simpa using hu⟩⟩
@[go_sem] theorem ML : Tryz.prog.eqGuardType Tryz.prog.depth 82 = false := by kernel_rfl
theorem KN:Tryz.prog.stoodInHeld 82=false:=by kernel_rfl
@[go_sem high] theorem MW (s t s' t' : M3) (w : MZ) : (Op.equalIn 10000 82 (.agg #[.string s, .string t]) (.agg #[.string s', .string t'])).run Tryz.prog w = .ok (s.toList == s'.toList && t.toList == t'.toList) w := by
 have hS:Tryz.prog.underlying 82=some (.struct (Tryz.prog.fieldsOf 82)):=by kernel_rfl
 have a9:=Tryz.isAgg9;have u9:=Tryz.underlying9;rw[show(10000:Nat)=9999+1 from rfl,run_equalIn_agg w 9999 82 _ _ hS KN];simp only[Program.fieldsOf,Tryz.underlying82]
 go_simp
 by_cases h1:s.toList=s'.toList <;> by_cases h2:t.toList=t'.toList <;> simp[h1,h2]
@[go_sem] theorem MJ : Tryz.prog.eqGuardType Tryz.prog.depth 50 = false := by kernel_rfl
theorem vF(dd:Nat)(a b c d:Int)(w:MZ): (Op.equalIn (dd+2) 50 (.agg #[.int .u64 a,.int .u64 b]) (.agg #[.int .u64 c,.int .u64 d])).run Tryz.prog w= .ok (a == c && b == d) w:=by
 have u3:=Tryz.underlying48;have a3:=Tryz.isAgg48;have z3:=Tryz.sizeOf48;rw[Op.equalIn];simp only[Sem.run_bind,run_underlying Tryz.underlying50,Result.andThen_ok];simp only[Std.Legacy.Range.forIn_eq_forIn_range',Std.Legacy.Range.size,Nat.sub_zero,Nat.add_sub_cancel,Nat.div_one,List.range'_succ,List.range'_zero,List.forIn_cons,List.forIn_nil]
 go_simp
 by_cases h1:a=c <;> by_cases h2:b=d <;> simp[h1,h2]
@[go_sem high] theorem MU (a b c d : Int) (w : MZ) : (Op.equalIn 10000 50 (.agg #[.int .u64 a, .int .u64 b]) (.agg #[.int .u64 c, .int .u64 d])).run Tryz.prog w = .ok (a == c && b == d) w := vF 9998 a b c d w
def dg1(h b:Int):Int:=IntKind.u64.wrap (bits .xor .u64 h b*1099511628211)
def dg2(h b:Int):Int:=bits .xor .u64 (IntKind.u64.wrap (h*1099511628211)) b
def dgF(g:Int->Int->Int)(l:M5):Int:=l.foldl (fun h b=>g h (IntKind.u64.wrap (b.toNat:Int))) 14695981039346656037
def ofB(l:M5):Dig:=if dgF dg1 l=0/\dgF dg2 l=0 then(0,1) else(dgF dg1 l,dgF dg2 l)
theorem zM(g:Int->Int->Int){l:M5}{k:Nat}(hk:k<l.length):dgF g (l.take (k+1))=g (dgF g (l.take k)) (IntKind.u64.wrap (l[k].toNat:Int)):=by
 unfold dgF;rw[aS (Z6 hk),List.foldl_append];rfl
theorem Kq(h b:Int)(w:MZ):Calls Tryz.prog 209 #[.int .u64 h,.int .u64 b] w fun e w'=>e= .returned (.int .u64 (dg1 h b))/\w=w':=by
 go_enter Tryz.func209,Tryz.ntmps209
 go_wp2
 go_ret
 exact⟨rfl,rfl⟩
theorem JM(h b:Int)(w:MZ):Calls Tryz.prog 210 #[.int .u64 h,.int .u64 b] w fun e w'=>e= .returned (.int .u64 (dg2 h b))/\w=w':=by
 go_enter Tryz.func210,Tryz.ntmps210
 go_wp2
 go_ret
 exact⟨rfl,rfl⟩
theorem GJ(s:M3)(w:MZ)(hs:s.size<=maxLen) :
  Calls Tryz.prog 208 #[.string s,.func (.func 209) #[] #[]] w fun e w'=>e= .returned (.int .u64 (dgF dg1 (toL s)))/\w=w':=by
 have c:s.size<=9223372036854775807:=by unfold maxLen at hs;exact hs
 go_enter Tryz.func208,Tryz.ntmps208
 go_wp2
 go_loop[5,9] (fun q5 q9=>∃k:Nat,k<=s.size/\q9= .int .i64 k/\q5= .int .u64 (dgF dg1 ((toL s).take k))) (fun _ q9=>s.size - (intOf q9).toNat)
 case atStart=>exact⟨0,ZZ _,rfl,rfl⟩
 case round =>
  obtain⟨k,hk,rfl,rfl⟩:=hrel;by_cases hlt:k<s.size
  . have a: (k:Int)< (s.size:Int):=by omega
    have b:k< (toL s).length:=by rw[<-aP];exact hlt
    have HN:Hid (dgF dg1 ((toL s).take (k+1))=dg1 (dgF dg1 ((toL s).take k)) (IntKind.u64.wrap (s[k].toNat:Int))):=zM dg1 b;generalize dgF dg1 ((toL s).take k)=h0 at *;go_wp2_with fail;refine(Kq _ _ _).mono ?_;rintro e w1 ⟨rfl,rfl⟩;go_wp2_with fail
    go_round
    case rel=>exact⟨k+1,by omega,by go_num,by rw[HN.o];rfl⟩
    case measure=>simp[intOf];omega
  . have a:¬(k:Int)< (s.size:Int):=by omega
    have HE:Hid ((toL s).take k=toL s):=ZW (by rw[<-aP];omega);go_wp2_with fail;go_ret
    exact⟨by rw[HE.o];rfl,rfl⟩
theorem Gy(s:M3)(w:MZ)(hs:s.size<=maxLen) :
  Calls Tryz.prog 208 #[.string s,.func (.func 210) #[] #[]] w fun e w'=>e= .returned (.int .u64 (dgF dg2 (toL s)))/\w=w':=by
 have c:s.size<=9223372036854775807:=by unfold maxLen at hs;exact hs
 go_enter Tryz.func208,Tryz.ntmps208
 go_wp2
 go_loop[5,9] (fun q5 q9=>∃k:Nat,k<=s.size/\q9= .int .i64 k/\q5= .int .u64 (dgF dg2 ((toL s).take k))) (fun _ q9=>s.size - (intOf q9).toNat)
 case atStart=>exact⟨0,ZZ _,rfl,rfl⟩
 case round =>
  obtain⟨k,hk,rfl,rfl⟩:=hrel;by_cases hlt:k<s.size
  . have a: (k:Int)< (s.size:Int):=by omega
    have b:k< (toL s).length:=by rw[<-aP];exact hlt
    have HN:Hid (dgF dg2 ((toL s).take (k+1))=dg2 (dgF dg2 ((toL s).take k)) (IntKind.u64.wrap (s[k].toNat:Int))):=zM dg2 b;generalize dgF dg2 ((toL s).take k)=h0 at *;go_wp2_with fail;refine(JM _ _ _).mono ?_;rintro e w1 ⟨rfl,rfl⟩;go_wp2_with fail
    go_round
    case rel=>exact⟨k+1,by omega,by go_num,by rw[HN.o];rfl⟩
    case measure=>simp[intOf];omega
  . have a:¬(k:Int)< (s.size:Int):=by omega
    have HE:Hid ((toL s).take k=toL s):=ZW (by rw[<-aP];omega);go_wp2_with fail;go_ret
    exact⟨by rw[HE.o];rfl,rfl⟩
theorem mi{fn:Func}{c:Tmp}(h:fn.results= #[.cell c 50]){w:MZ}{a:Array M4}{b:Nat}{x y:M4}(ha:a[c]?.getD undef= .pointer (some ⟨b,0,none⟩))(hk:Bk w b 50 #[x,y]) :
  (results fn a).run Tryz.prog w= .ok (.agg #[x,y]) w:=by
 have h0:=hk.cell 0;have h1:=hk.cell 1;simp at h0 h1;simp[results,h,ha,go_sem,h0,h1]
def aB(d:Dig):M4:= .agg #[.int .u64 d.1,.int .u64 d.2]
def lC(s:M3)(w:MZ)(e:Ending)(w':MZ):Prop:=e= .returned (aB (ofB (toL s)))/\Below w.heap.size w w'
theorem qh(s:M3)(w:MZ)(hs:s.size<=maxLen):Calls Tryz.prog 126 #[.string s] w (lC s w):=by
 have HE:Hid (ofB (toL s)=if dgF dg1 (toL s)=0/\dgF dg2 (toL s)=0 then(0,1) else(dgF dg1 (toL s),dgF dg2 (toL s))):=rfl;have H1:=ah (GJ s (w.alloc (.cells #[.int .u64 0,.int .u64 0] 50)) hs);have H2:=ah (Gy s (w.alloc (.cells #[.int .u64 0,.int .u64 0] 50)) hs);have HV:Hid (∀q,ofB (toL s)=q->∀e w',e=Ending.returned (aB q)->Below w.heap.size w w'->lC s w e w'):=fun q h e w' h1 h2=>by subst h;exact⟨h1,h2⟩
 generalize dgF dg1 (toL s)=x at *;generalize dgF dg2 (toL s)=y at *
 go_enter Tryz.func126,Tryz.ntmps126
 go_wp2_with fail;refine H1.o.mono ?_;rintro e w1 ⟨rfl,rfl⟩;go_wp2_with fail;refine H2.o.mono ?_;rintro e w1 ⟨rfl,rfl⟩;obtain⟨W,hW⟩:=NX9 ((w.alloc (.cells #[.int .u64 0,.int .u64 0] 50)).alloc (.cells #[.int .u64 x,.int .u64 y] 50))
 have K0:Hid (Bk W w.heap.size 50 #[.int .u64 0,.int .u64 0]):=by rw[<-hW];exact(Bk.new w _ _).alloc _
 have K1:Hid (Bk W (w.heap.size+1) 50 #[.int .u64 x,.int .u64 y]):=by
  rw[<-hW];have:=Bk.new (w.alloc (.cells #[.int .u64 0,.int .u64 0] 50)) 50 #[.int .u64 x,.int .u64 y];rw[Z9]at this;exact this
 have HB:Hid (Below w.heap.size w W):=by rw[<-hW];exact((af _ w).alloc ai _).alloc (by simp) _
 have u0:=K0.o.cell 0;have u1:=K0.o.cell 1;have v0:=K1.o.cell 0;have v1:=K1.o.cell 1;simp at u0 u1 v0 v1;have f0:=K0.o.free 0;have f1:=K0.o.free 1;have g1:=K1.o.free 1;clear H1 H2;by_cases hz:x=0/\y=0
 . have hb: (x == 0 && y == 0)=true:=by simp[hz]
   have HQ:Hid (ofB (toL s)= (x,1)):=by show _=_;rw[HE.o,if_pos hz,hz.1]
   clear hz;have W2:Hid (Bk (W.setCell ⟨w.heap.size+1,1,none⟩ (.int .u64 1)) (w.heap.size+1) 50 #[.int .u64 x,.int .u64 1]):=by
    have:=K1.o.set 1 (.int .u64 1);show Bk _ _ _ _;simpa using this
   have KF:Hid (Bk (W.setCell ⟨w.heap.size+1,1,none⟩ (.int .u64 1)) w.heap.size 50 #[.int .u64 0,.int .u64 0]):=K0.o.far (by simp) _;have a0:=W2.o.cell 0;have a1:=W2.o.cell 1;have b0:=KF.o.cell 0;have b1:=KF.o.cell 1;simp at a0 a1 b0 b1;have d0:=KF.o.free 0;have d1:=KF.o.free 1;clear HE;go_wp2_with fail;refine ZY (mi Tryz.results126 rfl (KF.o.set2 _ _)) rfl ?_;exact HV.o _ HQ.o _ _ rfl (dR (HB.o.setCell (p:=⟨w.heap.size+1,1,none⟩) (by simp) _) ai _ _)
 . have hb: (x == 0 && y == 0)=false:=by
     rw[Bool.eq_false_iff];intro h;simp at h;exact hz h
   have HQ:Hid (ofB (toL s)= (x,y)):=by show _=_;rw[HE.o,if_neg hz]
   clear hz HE;go_wp2_with fail;refine ZY (mi Tryz.results126 rfl (K0.o.set2 _ _)) rfl ?_;exact HV.o _ HQ.o _ _ rfl (dR HB.o ai _ _)
