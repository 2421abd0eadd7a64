/-
  Lemmas of the card.
-/
import Derived.Shelf.SlIter.Stops
import Derived.Lib.Overlaps
import Derived.Test.YtknefelegjlgnaaGreatDoorCCCp12
set_option maxRecDepth 100000
set_option maxHeartbeats 8000000
namespace Go.Proofs.YtknefelegjlgnaaGreatDoor
open Go.RowKit
theorem BO:∀l:List UInt8,bZ l<l.length->l=l.take (bZ l)++47::l.drop (bZ l+1)
 | [],h=>by simp at h
 | c::r,h=>by
   by_cases hc:c=47
   . subst hc;simp[bZ]
   . simp only[bZ,if_neg hc]at h ⊢
     have:=BO r (by simpa using h)
     simpa using this
theorem vN:∀l:List UInt8,∀c∈l.take (bZ l),c≠47
 | [],c,h=>by simp at h
 | d::r,c,h=>by
   by_cases hd:d=47
   . subst hd;simp[bZ]at h
   . simp only[bZ,if_neg hd,List.take_succ_cons,List.mem_cons]at h
     rcases h with rfl | h
     . exact hd
     . exact vN r c h
theorem lK(s:UX)(a b:Nat):bl (s.extract a b)= ((bl s).take b).drop a:=by
 unfold bl;rw[lX,List.drop_take]
theorem iP(s:UX): (bl s).length=s.size:=rfl
def kQ(s:UX):UX×UX×Bool:=if bZ (bl s)<s.size then(s.extract 0 (bZ (bl s)),s.extract (bZ (bl s)+1) s.size,true) else(s,⟨#[]⟩,false)
def fsN(s:UX):UX:=(kQ s).1
def rsN(s:UX):UX:=(kQ s).2.1
def deN(s:UX):Bool:=(kQ s).2.2
theorem Rj{s a b:UX}{m:Bool}(h:uB s a b m):a=fsN s/\b=rsN s/\m=deN s:=by
 unfold fsN rsN deN kQ;rcases h with ⟨h,rfl,rfl,rfl⟩ | ⟨h,rfl,rfl,rfl⟩
 . rw[if_pos h];exact⟨rfl,rfl,rfl⟩
 . rw[if_neg (by omega)];exact⟨rfl,rfl,rfl⟩
theorem kz{s:UX}(h:deN s=true):bl s=bl (fsN s)++47::bl (rsN s):=by
 unfold deN fsN rsN kQ at *;split at h
 . rename_i hl
   rw[if_pos hl];simp only;rw[lK,lK,ZU (i:=s.size) (by rw[iP];exact Nat.le_refl _),List.drop_zero];exact BO _ hl
 . cases h
theorem mQ{s:UX}(h:deN s=false):fsN s=s:=by
 unfold deN fsN kQ at *;split at h
 . cases h
 . rename_i hl;rw[if_neg hl]
theorem xm(s:UX):nT (fsN s):=by
 unfold fsN kQ;split
 . rename_i hl
   intro c hc;simp only at hc;rw[lK,List.drop_zero]at hc;exact vN _ c hc
 . rename_i hl
   intro c hc;simp only at hc;have: (bl s).take (bZ (bl s))=bl s:=ZU (by rw[iP];omega);rw[<-this]at hc;exact vN _ c hc
theorem yT{s:UX}(hn:nT s):fsN s=s/\deN s=false:=by
 have hd:deN s=false:=by
  cases hd:deN s with
  | false=>rfl
  | true =>
    have:=kz hd;exact absurd rfl (hn 47 (by rw[this];simp))
 exact⟨mQ hd,hd⟩
theorem rQ(s:UX):bP s=true↔s.size<=100/\∀l∈bC (bl s),iQ l=true:=by
 unfold bP;rw[Bool.and_eq_true,decide_eq_true_eq,List.all_eq_true];rfl
theorem BI(s:UX):bC (bl s)=if deN s=true then bl (fsN s)::bC (bl (rsN s)) else [bl s]:=by
 rw[AX];unfold deN fsN rsN kQ;by_cases h:bZ (bl s)<s.size
 . rw[if_pos (by rw[iP];exact h),if_pos h]
   simp only;rw[if_pos trivial,lK,lK,ZU (i:=s.size) (by rw[iP];exact Nat.le_refl _),List.drop_zero]
 . rw[if_neg (by rw[iP];exact h),if_neg h]
   simp
theorem CS{s:UX}(h:bP s=true):nameB (fsN s)=true:=by
 have h2:=((rQ s).1 h).2;rw[BI]at h2;cases hd:deN s with
 | true=>rw[hd,if_pos rfl]at h2;exact h2 _ (by simp)
 | false=>rw[hd]at h2;rw[mQ hd];exact h2 _ (by simp)
theorem wK{s:UX}(h:bP s=true)(hd:deN s=true):bP (rsN s)=true/\ (rsN s).size<s.size:=by
 have h1:=(rQ s).1 h;have h2:=h1.2;rw[BI,hd,if_pos rfl]at h2;have hl:=congrArg List.length (kz hd);simp only[af,Z4]at hl;have hz: (rsN s).size<s.size:=by rw[<-iP,<-iP];omega
 exact⟨(rQ _).2 ⟨by omega,fun l hl=>h2 l (by simp[hl])⟩,hz⟩
theorem sF{s:UX}(h:bP s=true):s.size<=100:=((rQ s).1 h).1
theorem xg(d p:UX):jJ d p=true↔∃r,bl p=bl d++47::r:=by
 unfold jJ;simp only[Bool.and_eq_true,decide_eq_true_eq];constructor
 . rintro ⟨h1,h2,h3⟩
   refine⟨(bl p).drop (d.size+1),?_⟩;have hk:=List.getElem?_eq_some_iff.1 h3;have e:bl d= (bl p).take d.size:=by rw[<-h2,lK,List.drop_zero,h2]
   rw[e,<-hk.2,<-List.drop_eq_getElem_cons hk.1,List.take_append_drop]
 . rintro ⟨r,h⟩
   have hl:=congrArg List.length h;simp only[af,Z4,iP]at hl;refine⟨by omega,?_,?_⟩
   . apply yP
     rw[lK,h,List.drop_zero,List.take_append_of_le_length (by rw[iP];exact Nat.le_refl _),ZU (by rw[iP];exact Nat.le_refl _)]
   . rw[h,List.getElem?_append_right (by rw[iP];exact Nat.le_refl _),iP];simp
structure OkL(l:List Fl):Prop where
 path:∀f∈l,bP f.1=true
 data:∀f∈l,f.2.size<=60000
 few:l.length<=200
 nod: (l.map Prod.fst).Nodup
 nob:∀f∈l,∀g∈l,jJ f.1 g.1=false
def inD(l:List Fl)(n:UX):List Fl:=(l.filter (fun f=>deN f.1 && decide (fsN f.1=n))).map (fun f=>(rsN f.1,f.2))
theorem mem_inD{l:List Fl}{n:UX}{f:Fl}:f∈inD l n↔∃g∈l,deN g.1=true/\fsN g.1=n/\f= (rsN g.1,g.2):=by
 unfold inD;rw[List.mem_map];constructor
 . rintro ⟨g,hg,rfl⟩
   rw[List.mem_filter,Bool.and_eq_true,decide_eq_true_eq]at hg;exact⟨g,hg.1,hg.2.1,hg.2.2,rfl⟩
 . rintro ⟨g,hg,h1,h2,rfl⟩
   exact⟨g,by rw[List.mem_filter,Bool.and_eq_true,decide_eq_true_eq];exact⟨hg,h1,h2⟩,rfl⟩
theorem Tv{s t:UX}(hs:deN s=true)(ht:deN t=true)(h1:fsN s=fsN t)(h2:rsN s=rsN t):s=t:=by
 apply yP
 rw[kz hs,kz ht,h1,h2]
theorem FY(l:List Fl)(n:UX): (inD l n).length<=l.length:=by
 unfold inD;rw[List.length_map];exact List.length_filter_le _ _
theorem OkL.sub{l:List Fl}(h:OkL l)(n:UX):OkL (inD l n) where
 path f hf:=by
  obtain⟨g,hg,h1,_,rfl⟩:=mem_inD.1 hf;exact(wK (h.path g hg) h1).1
 data f hf:=by
  obtain⟨g,hg,_,_,rfl⟩:=mem_inD.1 hf;exact h.data g hg
 few:=ZY (FY l n) h.few
 nod:=by
  unfold inD;rw[List.map_map];have h1: (l.filter (fun f=>deN f.1 && decide (fsN f.1=n))).Pairwise (fun a b=>a.1≠b.1):=by
   have:=h.nod;unfold List.Nodup at this;rw[List.pairwise_map]at this;exact this.filter _
  unfold List.Nodup;rw[List.pairwise_map];refine h1.imp_of_mem ?_;intro a b ha hb hab he;rw[List.mem_filter,Bool.and_eq_true,decide_eq_true_eq]at ha hb;exact hab (Tv ha.2.1 hb.2.1 (ha.2.2.trans hb.2.2.symm) he)
 nob f hf g hg:=by
  obtain⟨f',hf',h1,h2,rfl⟩:=mem_inD.1 hf;obtain⟨g',hg',h3,h4,rfl⟩:=mem_inD.1 hg;rw[Bool.eq_false_iff];intro hb;obtain⟨r,hr⟩:=(xg _ _).1 hb;have:=h.nob f' hf' g' hg';rw[Bool.eq_false_iff]at this;refine this ((xg _ _).2 ⟨r,?_⟩);rw[kz h1,kz h3,h2,h4,hr];simp
def cZ(l:List Fl):List UX:=l.foldl (fun a f=>gp a (fsN f.1)) []
theorem Gh(l:List Fl):∀a:List UX,Asc a->Asc (l.foldl (fun a f=>gp a (fsN f.1)) a)/\∀x,x∈l.foldl (fun a f=>gp a (fsN f.1)) a↔x∈a∨∃f∈l,x=fsN f.1:=by
 induction l with
 | nil=>intro a h;exact⟨h,fun x=>by simp⟩
 | cons f l ih =>
   intro a h;rw[List.foldl_cons];obtain⟨h1,h2⟩:=ih (gp a (fsN f.1)) (ER _ h);refine⟨h1,fun x=>?_⟩;rw[h2,wZ];simp only[List.mem_cons];constructor
   . rintro ((h | h) | ⟨g,hg,h⟩)
     . exact .inl h
     . exact .inr ⟨f,.inl rfl,h⟩
     . exact .inr ⟨g,.inr hg,h⟩
   . rintro (h | ⟨g,rfl | hg,h⟩)
     . exact .inl (.inl h)
     . exact .inl (.inr h)
     . exact .inr ⟨g,hg,h⟩
theorem x9(l:List Fl):Asc (cZ l):=(Gh l [] List.Pairwise.nil).1
theorem nms_mem{l:List Fl}{x:UX}:x∈cZ l↔∃f∈l,x=fsN f.1:=by
 unfold cZ;rw[(Gh l [] List.Pairwise.nil).2 x];simp
theorem OO(a:List UX)(s:UX): (gp a s).length<=a.length+1:=by
 by_cases h:a[iq a s]? =some s
 . rw[EX h];omega
 . rw[D5 h];simp;omega
theorem QU(l:List Fl): (cZ l).length<=l.length:=by
 have:∀(l:List Fl)(a:List UX),(l.foldl (fun a f=>gp a (fsN f.1)) a).length<=a.length+l.length:=by
  intro l
  induction l with
  | nil=>intro a;simp
  | cons f l ih=>intro a;rw[List.foldl_cons];have:=ih (gp a (fsN f.1));have:=OO a (fsN f.1);simp only[Z4];omega
 have:=this l []
 simpa [cZ] using this
def eG(l:List Fl)(n:UX):Option UX:=(l.find? (fun f=>decide (f.1=n))).map Prod.snd
theorem oD{l:List Fl}(hn: (l.map Prod.fst).Nodup){n s:UX}:eG l n=some s↔ (n,s)∈l:=by
 unfold eG
 induction l with
 | nil=>simp
 | cons f l ih =>
   rw[List.map_cons,List.nodup_cons]at hn;by_cases e:f.1=n
   . rw[List.find?_cons_of_pos (by simpa using e)]
     simp only[Option.map_some,Option.some.injEq,List.mem_cons];constructor
     . rintro rfl;left;rw[<-e]
     . rintro (h | h)
       . rw[<-h]
       . exact absurd (List.mem_map_of_mem (f:=Prod.fst) h) (by rw[<-e];exact hn.1)
   . rw[List.find?_cons_of_neg (by simpa using e),ih hn.2,List.mem_cons]
     exact⟨.inr,fun h=>h.resolve_left (fun h=>e (by rw[<-h]))⟩
theorem look9_none{l:List Fl}{n:UX}:eG l n=none↔∀f∈l,f.1≠n:=by
 unfold eG;rw[Option.map_eq_none_iff,List.find?_eq_none];simp
def eU(s:UX):Ob:=⟨1,s,[],zD,[],⟨#[]⟩,0,⟨#[]⟩⟩
def dY(es:List Ent):Ob:=⟨2,⟨#[]⟩,es,zD,[],⟨#[]⟩,0,⟨#[]⟩⟩
theorem EO(k:Int)(d:UX)(es:List Ent):NoC ⟨k,d,es,zD,[],⟨#[]⟩,0,⟨#[]⟩⟩:=⟨rfl,rfl,rfl,rfl,rfl⟩
theorem sK{s:UX}(h:s.size<=60000):OkO (eU s) where
 f:= .blob (.inl rfl) rfl (EO _ _ _) (by show s.size<=_;omega)
 len:=by
  show(ak 1++ax (toL s)).length<=65536;unfold ax;rw[aQ]at h;have h1:=gq 5 1 (by omega);have h2:=gq 5 (toL s).length (by omega);simp only[af];omega
theorem CW:∀{es:List Ent},(∀e∈es,je e)-> (es.flatMap aU).length<=52*es.length
 | [],_=>by simp
 | e::es,h=>by
   have ih:=CW (es:=es) (fun x hx=>h x (by simp[hx]));have hn:=iV (h e (by simp)).nm;rw[aQ]at hn;have h1:=gq 5 (toL e.nm).length (by omega);have h2:=gq 5 (if e.dir=true then 1 else 0) (by split <;> omega);rw[List.flatMap_cons,af,Z4];have: (aU e).length<=52:=by
    unfold aU ax;simp only[af,iy];omega
   omega
theorem wQ{es:List Ent}(h:jV es):OkO (dY es) where
 f:= .tree rfl rfl (EO _ _ _) h
 len:=by
  show(ak 2++gY (dY es)).length<=65536;have h1:=gq 5 2 (by omega);have h2:=gq 5 es.length (by have:=h.few;omega);have h3:=CW h.all;have h4:=h.few;have:gY (dY es)=ak es.length++es.flatMap aU:=by unfold gY;exact if_pos rfl
  rw[this];simp only[af];omega
theorem F7(x:Int):0<=IntKind.u64.wrap x/\IntKind.u64.wrap x<18446744073709551616:=by
 have e:IntKind.u64.wrap x=x % 18446744073709551616:=rfl;rw[e];omega
theorem FQ{g:Int->Int->Int}(hg:∀a b,0<=g a b/\g a b<18446744073709551616)(l:UZ):0<=dgF g l/\dgF g l<18446744073709551616:=by
 unfold dgF;have:∀(l:UZ)(z:Int),0<=z/\z<18446744073709551616->0<=l.foldl (fun h b=>g h (IntKind.u64.wrap (b.toNat:Int))) z/\l.foldl (fun h b=>g h (IntKind.u64.wrap (b.toNat:Int))) z<18446744073709551616:=by
  intro l
  induction l with
  | nil=>intro z h;exact h
  | cons c l ih=>intro z _;exact ih _ (hg _ _)
 exact this l _ ⟨by decide,by decide⟩
theorem fJ(l:UZ):WfD (ofB l):=by
 have h1:=FQ (g:=dg1) (fun a b=>F7 _) l;have h2:=FQ (g:=dg2) (fun a b=>F7 _) l;unfold ofB WfD;split
 . exact⟨by decide,by decide,by decide,by decide⟩
 . exact⟨h1.1,h1.2,h2.1,h2.2⟩
theorem kL(l:UZ):ofB l≠zD:=by
 unfold ofB zD;split
 . decide
 . rename_i h
   intro e;rw[Prod.mk.injEq]at e;exact h e
def wt(l:List Fl):Nat:=(l.map (fun f=>f.1.size+1)).sum
def nV(l:List Fl)(n:UX):List Fl:=l.filter (fun f=>decide (fsN f.1=n))
def kR(l:List Fl)(ns:List UX):List Fl:=l.filter (fun f=>!iF ns (fsN f.1))
theorem kK(f:Fl)(l:List Fl):wt (f::l)=f.1.size+1+wt l:=by simp[wt]
theorem wG(ns:List UX)(n x:UX):iF (ns++ [n]) x= (iF ns x || decide (x=n)):=by
 rw[Bool.eq_iff_iff,pq,Bool.or_eq_true,pq,List.mem_append,ae,decide_eq_true_eq]
theorem PD(l:List Fl){ns:List UX}{n:UX}(hn:n∉ns):wt (kR l ns)=wt (kR l (ns++ [n]))+wt (nV l n):=by
 induction l with
 | nil=>rfl
 | cons f l ih =>
   unfold kR nV at *;by_cases h2:fsN f.1=n
   . have h1:iF ns (fsN f.1)=false:=by rw[Bool.eq_false_iff];intro h;exact hn (by rw[<-h2];exact(pq _ _).1 h)
     rw[List.filter_cons_of_pos (by simp[h1]),List.filter_cons_of_neg (by rw[wG];simp[h2]),List.filter_cons_of_pos (by simpa using h2),kK,kK,ih];omega
   . cases h1:iF ns (fsN f.1) with
     | true=>rw[List.filter_cons_of_neg (by simp[h1]),List.filter_cons_of_neg (by rw[wG];simp[h1]),List.filter_cons_of_neg (by simpa using h2),ih]
     | false=>rw[List.filter_cons_of_pos (by simp[h1]),List.filter_cons_of_pos (by rw[wG];simp[h1,h2]),List.filter_cons_of_neg (by simpa using h2),kK,kK,ih];omega
theorem Hg(l:List Fl)(n:UX):wt (inD l n)+ (inD l n).length<=wt (nV l n):=by
 induction l with
 | nil=>simp[inD,wt]
 | cons f l ih =>
   unfold inD nV at *;by_cases h2:fsN f.1=n
   . rw[List.filter_cons_of_pos (p:=fun f:Fl=>decide (fsN f.1=n)) (by simpa using h2),kK]
     cases hd:deN f.1 with
     | true =>
       rw[List.filter_cons_of_pos (by simp[hd,h2]),List.map_cons,kK,Z4];have hl:=congrArg List.length (kz hd);simp only[af,Z4,iP]at hl;simp only;omega
     | false =>
       rw[List.filter_cons_of_neg (by simp[hd])];omega
   . rw[List.filter_cons_of_neg (p:=fun f:Fl=>decide (fsN f.1=n)) (by simpa using h2),List.filter_cons_of_neg (by simp[h2])]
     exact ih
theorem SX{l:List Fl}{f:Fl}(h:f∈l):1<=wt l:=by
 induction l with
 | nil=>cases h
 | cons g l ih=>rw[kK];omega
theorem TI(l:List Fl):wt (kR l [])=wt l:=by
 unfold kR;rw[List.filter_eq_self.2 (fun f _=>by simp[iF])]
theorem TV{l:List Fl}{k:Nat}(h:∀f∈l,f.1.size<=k):wt l<= (k+1)*l.length:=by
 induction l with
 | nil=>simp[wt]
 | cons f l ih =>
   rw[kK,Z4,Nat.mul_succ];have:=ih (fun g hg=>h g (by simp[hg]));have:=h f (by simp);omega
theorem xR{p q:List Itm}{o:Ob}(h:bH p o=some q):q.length<=p.length+1:=PX h
noncomputable def fF(g:List Itm->List Fl->Option (List Itm×Dig))(l:List Fl):List Itm->List UX->List Ent->Option (List Itm×List Ent)
 | p,[],es=>some (p,es)
 | p,n::r,es=>match eG l n with
   | some s=>match bH p (eU s) with
     | none=>none
     | some q=>fF g l q r (es++ [⟨n,false,dgO (eU s)⟩])
   | none=>match g p (inD l n) with
     | none=>none
     | some (q,d)=>fF g l q r (es++ [⟨n,true,d⟩])
noncomputable def sto:Nat->List Itm->List Fl->Option (List Itm×Dig)
 | 0,_,_=>none
 | k+1,p,l=>match fF (sto k) l p (cZ l) [] with
   | none=>none
   | some (q,es)=>match bH q (dY es) with
     | none=>none
     | some r=>some (r,dgO (dY es))
theorem wM{g:List Itm->List Fl->Option (List Itm×Dig)}{l:List Fl}{p q:List Itm}{n s:UX}{r:List UX}{es:List Ent}(h:eG l n=some s)(hp:bH p (eU s)=some q) :
  fF g l p (n::r) es=fF g l q r (es++ [⟨n,false,dgO (eU s)⟩]):=by rw[fF,h];simp only[hp]
theorem KU{g:List Itm->List Fl->Option (List Itm×Dig)}{l:List Fl}{p:List Itm}{n s:UX}{r:List UX}{es:List Ent}(h:eG l n=some s)(hp:bH p (eU s)=none) :
  fF g l p (n::r) es=none:=by rw[fF,h];simp only[hp]
theorem PU{g:List Itm->List Fl->Option (List Itm×Dig)}{l:List Fl}{p q:List Itm}{d:Dig}{n:UX}{r:List UX}{es:List Ent}(h:eG l n=none)(hp:g p (inD l n)=some (q,d)) :
  fF g l p (n::r) es=fF g l q r (es++ [⟨n,true,d⟩]):=by rw[fF,h];simp only[hp]
theorem Nv{g:List Itm->List Fl->Option (List Itm×Dig)}{l:List Fl}{p:List Itm}{n:UX}{r:List UX}{es:List Ent}(h:eG l n=none)(hp:g p (inD l n)=none) :
  fF g l p (n::r) es=none:=by rw[fF,h];simp only[hp]
structure StoAt(k:Nat)(l:List Fl)(p0:List Itm)(j:Nat)(p:List Itm)(es:List Ent):Prop where
 eq:fF (sto k) l p0 (cZ l) []=fF (sto k) l p ((cZ l).drop j) es
 ok:PlOk p
 nm:es.map Ent.nm= (cZ l).take j
 all:∀e∈es,je e
 sub:subP p0 p
 len:p.length+wt (kR l ((cZ l).take j))<=p0.length+wt l
theorem StoAt.start{k:Nat}{l:List Fl}{p:List Itm}(h:PlOk p):StoAt k l p 0 p []:=⟨rfl,h,rfl,(fun e he=>by cases he),subP.refl _,by rw[List.take_zero,TI];omega⟩
theorem xU{l:List Fl}{j:Nat}{n:UX}(hn: (cZ l)[j]? =some n):wt (kR l ((cZ l).take j))=wt (kR l ((cZ l).take (j+1)))+wt (nV l n):=by
 rw[bJ hn];refine PD l ?_;intro hm;have hnd:=(x9 l).nodup;obtain⟨i,hi,e⟩:=List.getElem_of_mem hm;rw[List.length_take]at hi;rw[List.getElem_take]at e;obtain⟨h1,h2⟩:=List.getElem?_eq_some_iff.1 hn;exact List.pairwise_iff_getElem.1 hnd i j (by omega) h1 (by omega) (e.trans h2.symm)
theorem StoAt.drop{k:Nat}{l:List Fl}{p0 p:List Itm}{j:Nat}{es:List Ent}(h:StoAt k l p0 j p es){n:UX}(hn: (cZ l)[j]? =some n):fF (sto k) l p0 (cZ l) []=fF (sto k) l p (n:: (cZ l).drop (j+1)) es:=by
 rw[h.eq,yI hn]
theorem zi{l:List Fl}(hl:OkL l){j:Nat}{n:UX}(hn: (cZ l)[j]? =some n):nameB n=true:=by
 obtain⟨f,hf,rfl⟩:=nms_mem.1 (Z7 hn);exact CS (hl.path f hf)
theorem StoAt.file{k:Nat}{l:List Fl}{p0 p q:List Itm}{j:Nat}{es:List Ent}(h:StoAt k l p0 j p es)(hl:OkL l){n s:UX}(hn: (cZ l)[j]? =some n)(hs:eG l n=some s)(hp:bH p (eU s)=some q) :
  StoAt k l p0 (j+1) q (es++ [⟨n,false,dgO (eU s)⟩]) where
 eq:=by rw[h.drop hn,wM hs hp]
 ok:=pJ h.ok (sK (hl.data _ ((oD hl.nod).1 hs))) hp
 nm:=by rw[List.map_append,h.nm,bJ hn];rfl
 all e he:=by
  rcases List.mem_append.1 he with he | he
  . exact h.all e he
  . rw[ae]at he;subst he
    exact⟨zi hl hn,fJ _,kL _⟩
 sub:=h.sub.trans (mZ h.ok hp)
 len:=by
  have h1:=h.len;rw[xU hn]at h1;have h2:=xR hp;have hm:=(oD hl.nod).1 hs;obtain⟨f,_,e⟩:=nms_mem.1 (Z7 hn);have h3:1<=wt (nV l n):=SX (f:=(n,s)) (List.mem_filter.2 ⟨hm,by rw[decide_eq_true_eq];show fsN n=n;rw[e];exact(yT (xm _)).1⟩);omega
theorem StoAt.filex{k:Nat}{l:List Fl}{p0 p:List Itm}{j:Nat}{es:List Ent}(h:StoAt k l p0 j p es){n s:UX}(hn: (cZ l)[j]? =some n)(hs:eG l n=some s)(hp:bH p (eU s)=none) :
  sto (k+1) p0 l=none:=by rw[sto,h.drop hn,KU hs hp]
structure qJ(p q:List Itm)(d:Dig)(l:List Fl):Prop where
 ok:PlOk q
 sub:subP p q
 wf:WfD d
 nz:d≠zD
 len:q.length<=p.length+wt l+1
theorem StoAt.dir{k:Nat}{l:List Fl}{p0 p q:List Itm}{j:Nat}{es:List Ent}(h:StoAt k l p0 j p es)(hl:OkL l){n:UX}{d:Dig}(hn: (cZ l)[j]? =some n)(hs:eG l n=none)(hp:sto k p (inD l n)=some (q,d))(hr:qJ p q d (inD l n))(hne:inD l n≠ []) :
  StoAt k l p0 (j+1) q (es++ [⟨n,true,d⟩]) where
 eq:=by rw[h.drop hn,PU hs hp]
 ok:=hr.ok
 nm:=by rw[List.map_append,h.nm,bJ hn];rfl
 all e he:=by
  rcases List.mem_append.1 he with he | he
  . exact h.all e he
  . rw[ae]at he;subst he
    exact⟨zi hl hn,hr.wf,hr.nz⟩
 sub:=h.sub.trans hr.sub
 len:=by
  have h1:=h.len;rw[xU hn]at h1;have h2:=hr.len;have h3:=Hg l n;have h4:0< (inD l n).length:=List.length_pos_iff.2 hne;omega
theorem StoAt.dirx{k:Nat}{l:List Fl}{p0 p:List Itm}{j:Nat}{es:List Ent}(h:StoAt k l p0 j p es){n:UX}(hn: (cZ l)[j]? =some n)(hs:eG l n=none)(hp:sto k p (inD l n)=none) :
  sto (k+1) p0 l=none:=by rw[sto,h.drop hn,Nv hs hp]
theorem O7{es:List Ent}(h:Asc (es.map Ent.nm)){j:Nat}{a b:Ent}(ha:es[j]? =some a)(hb:es[j+1]? =some b):less a.nm b.nm=true:=by
 unfold Asc at h;rw[List.pairwise_map,List.pairwise_iff_getElem]at h;obtain⟨h1,rfl⟩:=List.getElem?_eq_some_iff.1 ha;obtain⟨h2,rfl⟩:=List.getElem?_eq_some_iff.1 hb;exact h j (j+1) h1 h2 (by omega)
theorem StoAt.es{k:Nat}{l:List Fl}{p0 p:List Itm}{j:Nat}{es:List Ent}(h:StoAt k l p0 j p es)(hl:OkL l):jV es where
 few:=by
  have h1:=congrArg List.length h.nm;rw[List.length_map,List.length_take]at h1;have:=QU l;have:=hl.few;omega
 all:=h.all
 asc j' a b ha hb:=O7 (by rw[h.nm];exact(x9 l).sublist (List.take_sublist _ _)) ha hb
theorem StoAt.done{k:Nat}{l:List Fl}{p0 p q:List Itm}{j:Nat}{es:List Ent}(h:StoAt k l p0 j p es)(hj: (cZ l).length<=j)(hp:bH p (dY es)=some q):sto (k+1) p0 l=some (q,dgO (dY es)):=by
 rw[sto,h.eq,List.drop_of_length_le hj];simp only[fF,hp]
theorem StoAt.donex{k:Nat}{l:List Fl}{p0 p:List Itm}{j:Nat}{es:List Ent}(h:StoAt k l p0 j p es)(hj: (cZ l).length<=j)(hp:bH p (dY es)=none):sto (k+1) p0 l=none:=by
 rw[sto,h.eq,List.drop_of_length_le hj];simp only[fF,hp]
theorem StoAt.res{k:Nat}{l:List Fl}{p0 p q:List Itm}{j:Nat}{es:List Ent}(h:StoAt k l p0 j p es)(hl:OkL l)(hp:bH p (dY es)=some q):qJ p0 q (dgO (dY es)) l :=
 ⟨pJ h.ok (wQ (h.es hl)) hp,h.sub.trans (mZ h.ok hp),fJ _,kL _,by have:=xR hp;have:=h.len;omega⟩
theorem StoAt.elen{k:Nat}{l:List Fl}{p0 p:List Itm}{j:Nat}{es:List Ent}(h:StoAt k l p0 j p es)(hj:j<= (cZ l).length):es.length=j:=by
 have:=congrArg List.length h.nm;rw[List.length_map,List.length_take]at this;omega
theorem StoAt.plen{k:Nat}{l:List Fl}{p0 p:List Itm}{j:Nat}{es:List Ent}(h:StoAt k l p0 j p es):p.length<=p0.length+wt l:=by have:=h.len;omega
theorem SG{l:List Fl}{n:UX}(hn:n∈cZ l)(h:eG l n=none):inD l n≠ []:=by
 obtain⟨f,hf,rfl⟩:=nms_mem.1 hn;intro e;cases hd:deN f.1 with
 | true =>
   have: (rsN f.1,f.2)∈inD l (fsN f.1):=mem_inD.2 ⟨f,hf,hd,rfl,rfl⟩;rw[e]at this;cases this
 | false=>exact look9_none.1 h f hf (mQ hd).symm
end Go.Proofs.YtknefelegjlgnaaGreatDoor
namespace Go.Proofs
open Go.Shelf
def Tryz.keysF_ren:Go.Shelf.Ren:=⟨fun | 7=>200 | 10=>261 | n=>n,fun | 23=>274 | 26=>9 | 3=>82 | 28=>240 | 0=>0 | 27=>239 | 33=>195 | 4=>4 | n=>n,fun | n=>n⟩
theorem Tryz.keysF:Go.Proofs.SlLaysZ.n7 Tryz.prog Tryz.keysF_ren:={
 mixed:=by kernel_rfl
 f7:=⟨Tryz.f200.name,by decide,Tryz.func200.trans (congrArg some (by kernel_rfl))⟩
 f10:=⟨Tryz.f261.name,by decide,Tryz.func261.trans (congrArg some (by kernel_rfl))⟩
 t0:=Tryz.underlying0
 a0:=Tryz.isAgg0
 z0:=Tryz.sizeOf0
 v0:=Tryz.zeroValue0
 t4:=Tryz.underlying4
 a4:=Tryz.isAgg4
 z4:=Tryz.sizeOf4
 v4:=Tryz.zeroValue4
 t23:=Tryz.underlying274
 a23:=Tryz.isAgg274
 z23:=Tryz.sizeOf274
 v23:=Tryz.zeroValue274
 t26:=Tryz.underlying9
 a26:=Tryz.isAgg9
 z26:=Tryz.sizeOf9
 v26:=Tryz.zeroValue9
 t27:=Tryz.underlying239
 a27:=Tryz.isAgg239
 z27:=Tryz.sizeOf239
 v27:=Tryz.zeroValue239
 t28:=Tryz.underlying240
 a28:=Tryz.isAgg240
 z28:=Tryz.sizeOf240
 v28:=Tryz.zeroValue240
 t33:=Tryz.underlying195
 a33:=Tryz.isAgg195
 z33:=Tryz.sizeOf195
 v33:=Tryz.zeroValue195}
def Tryz.keysB_ren:Go.Shelf.Ren:=⟨fun | 7=>202 | 10=>262 | n=>n,fun | 23=>273 | 26=>9 | 3=>63 | 28=>240 | 0=>0 | 27=>239 | 33=>195 | 4=>4 | n=>n,fun | n=>n⟩
theorem Tryz.keysB:Go.Proofs.SlLaysZ.n7 Tryz.prog Tryz.keysB_ren:={
 mixed:=by kernel_rfl
 f7:=⟨Tryz.f202.name,by decide,Tryz.func202.trans (congrArg some (by kernel_rfl))⟩
 f10:=⟨Tryz.f262.name,by decide,Tryz.func262.trans (congrArg some (by kernel_rfl))⟩
 t0:=Tryz.underlying0
 a0:=Tryz.isAgg0
 z0:=Tryz.sizeOf0
 v0:=Tryz.zeroValue0
 t4:=Tryz.underlying4
 a4:=Tryz.isAgg4
 z4:=Tryz.sizeOf4
 v4:=Tryz.zeroValue4
 t23:=Tryz.underlying273
 a23:=Tryz.isAgg273
 z23:=Tryz.sizeOf273
 v23:=Tryz.zeroValue273
 t26:=Tryz.underlying9
 a26:=Tryz.isAgg9
 z26:=Tryz.sizeOf9
 v26:=Tryz.zeroValue9
 t27:=Tryz.underlying239
 a27:=Tryz.isAgg239
 z27:=Tryz.sizeOf239
 v27:=Tryz.zeroValue239
 t28:=Tryz.underlying240
 a28:=Tryz.isAgg240
 z28:=Tryz.sizeOf240
 v28:=Tryz.zeroValue240
 t33:=Tryz.underlying195
 a33:=Tryz.isAgg195
 z33:=Tryz.sizeOf195
 v33:=Tryz.zeroValue195}
end Go.Proofs
namespace Go.Proofs.YtknefelegjlgnaaGreatDoor
open Go.RowKit
section
open Go.Maps
attribute [local go_sem] Oper.semAt_some
theorem bT{W:UW}{base size n:Nat}{e:TypeId}{v:UY}{xs:List UY}(h:W.ownsRow base e size v n xs){k:Nat}(hk:v.ownBlock=some k):base<=k/\∃cur,W.heap[k]? =some (.cells cur e (0,0)):=by
 rcases h.2 with ⟨rfl,_⟩ | ⟨g,cap,cur,rfl,h1,h2,_⟩
 . cases hk
 . cases hk;exact⟨h1,cur,h2⟩
theorem iY{W W':UW}{base size n:Nat}{e:TypeId}{v:UY}{xs:List UY}(h:W.ownsRow base e size v n xs)(hk:∀k,v.ownBlock=some k->W'.heap[k]? =W.heap[k]?):W'.ownsRow base e size v n xs:=by
 refine⟨h.1,?_⟩;rcases h.2 with h0 | ⟨g,cap,cur,rfl,h1,h2,h3⟩
 . exact .inl h0
 . exact .inr ⟨g,cap,cur,rfl,h1,(hk g rfl).trans h2,h3⟩
end
section
open Go.RowKit Go.Maps Go.Sort Go.Shelf
attribute [local go_sem] Oper.semAt_some
theorem LU{w:UW}{P:Program}{k:TypeId}{b N:Nat}{D:DataW UY}(hown:w.ownsMap P k jf b N D)(hk:P.underlying k=some .string): (strKeys D).Nodup:=by
 obtain⟨es,hD,hpw,_⟩:=hown.entries (string_keyed hk);obtain⟨es',hD',hko⟩:=hown.keysOf;obtain rfl:es=es':=by rw[hD]at hD';simpa using hD'
 subst hD;show(es.map fun p=>strOf p.1).Nodup;refine List.pairwise_map.2 (hpw.imp_of_mem fun {p q} hp' hq' hne e=>hne ?_);obtain⟨v,hv⟩:=hko p hp';obtain⟨u,hu⟩:=hko q hq';obtain⟨a,_,ha,_⟩:=Maps.keyOf_str hk hv;obtain⟨b,_,hb,_⟩:=Maps.keyOf_str hk hu;rw[ha,hb]at e ⊢;exact congrArg _ e
structure jT(g:UX->Option UY)(N:Nat)(ks:List UX):Prop where
 nod:ks.Nodup
 mem:∀x,x∈ks↔ (g x).isSome=true
 few:ks.length<=N
theorem Rm.keys{w:UW}{P:Program}{k:TypeId}{b N:Nat}{g:UX->Option UY}(h:Rm w P k b N g)(hk:P.underlying k=some .string) :
  ∃D:DataW UY,w.ownsMap P k jf b N D/\Maps.size D<=N/\∀ss:List (List UInt8),ss.Perm (strKeys D)/\ (∀x,x∈ss↔Maps.has D (.string x)=true)->jT g N (ss.map ub):=by
 obtain⟨D,h1,h2⟩:=h;have hsz:Maps.size D<=N:=h1.size_le;refine⟨D,h1,hsz,fun ss hs=>?_⟩;have hnd:=(hs.1.nodup_iff).2 (LU h1 hk);refine⟨?_,fun x=>?_,?_⟩
 . unfold List.Nodup
   rw[List.pairwise_map];exact hnd.imp (fun hne e=>hne (by have:=congrArg bl e;simpa [bl,ub] using this))
 . rw[<-(h2 x).1,<-hs.2,List.mem_map]
   constructor
   . rintro ⟨l,hl,rfl⟩;simpa [ub] using hl
   . intro h;exact⟨bl x,h,by rw[qi]⟩
 . rw[List.length_map,hs.1.length_eq]
   obtain⟨es,rfl,_⟩:=h1.keysOf;have: (strKeys (DataW.map es)).length=Maps.size (DataW.map es):=by simp[strKeys,Maps.size]
   omega
theorem Je{w:UW}{base size n b:Nat}{e t:TypeId}{v u:UY}{xs:List UY}(h:w.ownsRow base e size v n xs)(hb:w.heap[b]? =some (.cells #[u] t (0,0)))(x:UY)(hne:e≠t:=by decide): (w.setCell ⟨b,0,none⟩ x).ownsRow base e size v n xs:=by
 refine h.kept (row:=some b) ⟨rfl,rfl,rfl,by simp,fun k _ hk=>Z8 _ _ _ k (fun e=>hk (by rw[e]))⟩ ?_;cases hv:v.ownBlock with
 | none=>exact .inl rfl
 | some k =>
   refine .inr fun he=>?_;obtain⟨_,cur,hc⟩:=bT h hv;cases he
   rw[hb]at hc;cases hc
   exact hne rfl
theorem Hy(x:List UInt8):encStr x= .string (ub x):=rfl
theorem vJ(gf:Nat)(lb:Array UY)(eg:∀args w,(callFunc gf args).run Tryz.prog w= .ok (.enter gf args) w)(S Sp:List (List UInt8)->Prop)(N:Nat)(A:OA)(n c:Nat)(l0:List UX)(w0 w:UW)
  (hrow:w.ownsRow w0.heap.size 9 1 (.slice A n c) n (strs l0)) (hbw:U0 w0 w) (hn:n+N<=1000000) (hseq:SeqStops Fence.wide 5 Tryz.prog gf lb encStr S Sp N w) :
  Calls Tryz.prog 201 #[.slice A n c,.func (.func gf) #[] lb] w fun e w' =>
   ∃A' c' ss,e= .returned (.slice A' (n+ss.length) c')/\S ss/\w'.ownsRow w0.heap.size 9 1 (.slice A' (n+ss.length) c') (n+ss.length) (strs (l0++ss.map ub))/\U0 w0 w':=by
 refine(callsIn_wide (n:=6)).1 ?_;have hf1:Fence.wide.fn gf:=trivial;refine callsIn_of_wp_marks Tryz.func201 rfl trivial ?_ rfl;simp only[Tryz.ntmps201,List.size_toArray,Z4,List.length_nil,Nat.reduceAdd,Nat.reduceSub,Array.replicate_succ,Array.replicate_zero,List.push_toArray,List.append_toArray,List.nil_append,List.cons_append];have f:=ai hrow;have s:=ai hbw;have g:=ai hseq;have i:=hbw.size;clear hrow hbw hseq
 gi_wp2
 obtain⟨W2,hW2⟩:=NX9 (w.alloc (.cells #[.slice A n c] 22))
 have hb2:U0 w0 W2:=by rw[<-hW2];exact s.o.alloc i _
 have hb2':U0 w W2:=by rw[<-hW2];exact(ah _ w).alloc aj _
 have g1:W2.heap[w.heap.size]? =some (.cells #[.slice A n c] 22 (0,0)):=by rw[<-hW2];exact World.alloc_heap_new w _
 have hy2:W2.heap.size=w.heap.size+1:=by rw[<-hW2];simp
 have hr2:W2.ownsRow w0.heap.size 9 1 (.slice A n c) n (strs l0):=by
  rw[<-hW2];exact f.o.kept (World.grownBy_alloc w _ none) (by cases hv: (Value.slice A n c).ownBlock with | none=>exact .inl rfl | some k=>exact .inr (by simp))
 rw[hW2];clear hW2;refine wpIn_rangeFunc_ownF (α:=List UInt8) (F:=Fence.wide) (n:=6) rfl (by omega) (gf:=gf) (lb:=lb) rfl trivial eg (encs:=fun x=> #[encStr x]) (Kp:=KeepsWalks) (S:=S) (Sp:=Sp) (N:=N) (w0:=w) g.o (fun h k=>walksK_t h k) (fun W l o o' h1 h2 h3 h4=>walksK_b (w:=W2) W l o o' h1 h2 h3 h4) hb2' (fun _=>rfl)
  (fun pre W=>∃a cq,W.heap[w.heap.size]? =some (.cells #[.slice a (n+pre.length) cq] 22 (0,0))/\W.ownsRow w0.heap.size 9 1 (.slice a (n+pre.length) cq) (n+pre.length) (strs (l0++pre.map ub))/\U0 w0 W)
  (fun _ _ _=>False)
  ?hI ?hIx ⟨A,c,g1,by simpa using hr2,hb2⟩
  (fun x=>{tmps:=#[.slice A n c,.func (.func gf) #[] lb,.pointer (some ⟨w.heap.size,0,none⟩),undef,.slice none 0 0,encStr x,.func (.func gf) #[] lb,encStr x,undef,undef,undef,undef,undef],defers:= []}) ?assign ?body ?done ?stop
 case hI =>
  rintro pre A1 C row ⟨a,cq,h0,h1,h2⟩ hg hr;refine⟨a,cq,DV h0 hg (fun e=>?_),h1.kept hg ?_,h2.grown hg h2.size (fun k e=>?_)⟩
  . have:=(hr _ e.symm).1;omega
  . cases hv: (Value.slice a (n+pre.length) cq).ownBlock with
    | none=>exact .inl rfl
    | some k =>
      refine .inr fun e=>?_;obtain⟨_,cur,m⟩:=bT h1 hv;obtain⟨_,o,ho,hc⟩:=hr _ e.symm;rw[m]at ho;cases ho;cases hc
  . have:=(hr _ e).1;omega
 case hIx=>rintro c pre A1 C row hf _ _;exact hf
 case stop=>rintro D c pre W hD hS hf hK;exact hf.elim
 case assign =>
  intro l x W K hK;have HKK:=ai hK;clear hK;simp only[Hy]
  gi_wp2
  exact HKK.o
 case body =>
  rintro l pre y W ⟨a,cq,h0,h1,h2⟩ hlen;have c0:=cell_of_one h0;have f0:=free_of_one h0;have H0:=ai h0;have H1:=ai h1;have H2:=ai h2;have t:w.heap.size<W.heap.size:=(Array.getElem?_eq_some_iff.1 h0).1;have v:=h2.size;obtain⟨i0,hi,hz0,hz1',hz2'⟩:=info_parts jP;have Hi:=ai hi;have z:=ai hz0;have B:=ai hz1';have E:=ai hz2';clear h0 h1 h2 g1 hb2 hb2' hr2 hi hz0 hz1' hz2';simp only[Hy]
  gi_wp2_with (gi_at_builtin;refine aN ?_)
  refine aH ?_;refine nY (base:=w0.heap.size) (size:=1) rfl (.tmp 8) (.tmp 10) 22 rfl 9 i0 _ 16 Tryz.underlying22 Hi.o z.o B.o E.o rfl (by decide) (.slice a (n+pre.length) cq) (n+pre.length) (strs (l0++pre.map ub)) rfl ?own (W.heap.size+1) _ 1 _ [.string (ub y)] rfl ?nw (by simp[Value.oneCell']) ?l1 ?l2 ?l3 ?_
  case own=>exact H1.o.kept (World.grownBy_alloc W _ none) (by cases hv: (Value.slice a (n+pre.length) cq).ownBlock with | none=>exact .inl rfl | some k=>exact .inr (by simp))
  case nw=>exact⟨rfl,fun _=>⟨W.heap.size,0,rfl,Nat.lt_succ_self _,fun j u hu=>by have:=OT W 9 (ub y) j u hu;rwa[Addr.add_lit]at this⟩⟩
  case l1=>unfold maxLen;omega
  case l2=>omega
  case l3=>simp;omega
  intro A4 c4 w4 q hg4 J L;have G:Hid (w4.ownsRow w0.heap.size 9 1 (.slice A4 (n+ (pre.length+1)) c4) (n+ (pre.length+1)) (strs (l0++ (pre++ [y]).map ub))):=by
   show World.ownsRow _ _ _ _ _ _ _;have e:strs (l0++ (pre++ [y]).map ub)=strs (l0++pre.map ub)++ [.string (ub y)]:=by simp[strs]
   rw[e];exact q
  have d:Hid (∀k,(Value.slice a (n+pre.length) cq).ownBlock=some k->w0.heap.size<=k/\∃cur,W.heap[k]? =some (.cells cur 9 (0,0))):=fun k hk=>bT H1.o hk;have H:Hid (∀k,(Value.slice a (n+pre.length) cq).ownBlock=some k->k≠w.heap.size):=fun k hk e=>by
   obtain⟨_,cur,hc⟩:=d.o k hk;rw[e,H0.o]at hc;cases hc
  have b:Hid (w4.heap[w.heap.size]? =some (.cells #[.slice a (n+pre.length) cq] 22 (0,0))):=DV ((Below.heap_alloc W _ _ t).trans H0.o) hg4 (fun e=>H.o _ e.symm rfl);have M:=cell_of_one b.o;have O:=free_of_one b.o;have HB4:U6 w0 w4:=(H2.o.alloc v _).grown hg4 (by simp;omega) (fun k hk=>(d.o k hk).1);have r:Hid (KeepsOthers W (w4.setCell ⟨w.heap.size,0,none⟩ (.slice A4 (n+ (pre.length+1)) c4))):=((KeepsOthers.alloc W _).trans (KeepsOthers.of_grownBy hg4 (fun j o hj ho=>by
   obtain⟨_,cur,hc⟩:=d.o j hj;rw[(Below.heap_alloc W _ j (Array.getElem?_eq_some_iff.1 hc).1).trans hc]at ho;cases ho;rfl))).trans (KeepsOthers.setCell _ _ _)
  have I:Hid ((w4.setCell ⟨w.heap.size,0,none⟩ (.slice A4 (n+ (pre.length+1)) c4)).ownsRow w0.heap.size 9 1 (.slice A4 (n+ (pre.length+1)) c4) (n+ (pre.length+1)) (strs (l0++ (pre++ [y]).map ub))):=Je G.o b.o _;have hea:n+pre.length+1=n+ (pre.length+1):=by omega
  clear q hg4 c0 f0
  gi_wp2
  refine⟨r.o,r.o.walks,A4,c4,?_,?_,?_⟩
  . rw[af];exact one_setCell b.o
  . rw[af];exact I.o
  . exact HB4.o.setCell (p:=⟨w.heap.size,0,none⟩) i _
 case done =>
  rintro D xs W hD hS ⟨a,cq,h0,h1,h2⟩ hK;have c0:=cell_of_one h0;have H1:=ai h1;have HK:=ai hK;have H2:=ai h2;have HS:=ai hS;clear h0 h1 h2 hK hS g1 hb2 hb2' hr2
  gi_wp2
  refine⟨by simp,.inl ⟨_,_,rfl,run_takeDeferred HK.o,?_⟩⟩;refine⟨_,results_tmp rfl _ _ _,a,cq,xs,rfl,HS.o,?_,?_⟩
  . exact H1.o.kept (grownBy_putObj' _ _ _) (by
      cases hv: (Value.slice a (n+xs.length) cq).ownBlock with
      | none=>exact .inl rfl
      | some k =>
        refine .inr fun e=>?_;cases e
        obtain⟨_,cur,hc⟩:=bT H1.o hv;rw[HK.o]at hc;cases hc)
  . exact H2.o.grown (grownBy_putObj' _ _ _) H2.o.size (fun k e=>by cases e;omega)
theorem NS(b:Nat)(w:UW):Calls Tryz.prog 200 #[.map (some b)] w fun e w'=>e= .returned (.func (.func 261) #[] #[.pointer (some ⟨w.heap.size,0,none⟩)])/\w'=w.alloc (.cells #[.map (some b)] 274):=by
 go_enter Tryz.func200,Tryz.ntmps200
 go_wp2_with fail;go_ret
 exact⟨rfl,rfl⟩
theorem Ov{Bm b N:Nat}{g:UX->Option UY}{w:UW}(hM:Rm w Tryz.prog 9 b N g)(hc:w.cell? ⟨Bm,0,none⟩=some (.map (some b)))(hB:Bm<w.heap.size) :
  ∃S Sp,SeqStops Fence.wide 5 Tryz.prog 261 #[.pointer (some ⟨Bm,0,none⟩)] encStr S Sp N w/\∀ss,S ss->jT g N (ss.map ub):=by
 obtain⟨D,h1,h2,h3⟩:=hM.keys Tryz.underlying9;refine⟨_,_,fun l J Jx W hW hJ hJx hY h0=>AnyZ.keys_stops (ρ:=Tryz.keysF_ren) {Tryz.keysF with} Fence.wide 5 trivial rfl (by omega) Bm b N D w hB hc h1 l J Jx W hW hJ hJx (fun pre x W1 hj hl=>hY pre x W1 hj (Nat.lt_of_lt_of_le hl h2)) h0,h3⟩
theorem TR:∀args w,(callFunc 261 args).run Tryz.prog w= .ok (.enter 261 args) w:=enters_of Tryz.func261 (by kernel_rfl) rfl
def Uj(g:UX->Option UY)(N n:Nat)(l0:List UX)(w0:UW)(e:Ending)(w':UW):Prop :=
 ∃A c ks,e= .returned (.slice A (n+ks.length) c)/\jT g N ks/\w'.ownsRow w0.heap.size 9 1 (.slice A (n+ks.length) c) (n+ks.length) (strs (l0++ks))/\U0 w0 w'
theorem PE(Bm b N:Nat)(g:UX->Option UY)(A:OA)(n c:Nat)(l0:List UX)(w0 w:UW)(hM:Rm w Tryz.prog 9 b N g)(hc:w.cell? ⟨Bm,0,none⟩=some (.map (some b)))(hB:Bm<w.heap.size)
  (hrow:w.ownsRow w0.heap.size 9 1 (.slice A n c) n (strs l0)) (hbw:U0 w0 w) (hn:n+N<=1000000) :
  Calls Tryz.prog 201 #[.slice A n c,.func (.func 261) #[] #[.pointer (some ⟨Bm,0,none⟩)]] w (Uj g N n l0 w0):=by
 obtain⟨S,Sp,h1,h2⟩:=Ov hM hc hB;refine(vJ _ _ TR S Sp N A n c l0 w0 w hrow hbw hn h1).mono ?_;rintro e w' ⟨A',c',ss,rfl,hS,hr,hb⟩;exact⟨A',c',ss.map ub,by rw[List.length_map],h2 ss hS,by rw[List.length_map];exact hr,hb⟩
theorem ND(b:Nat)(w:UW):Calls Tryz.prog 202 #[.map (some b)] w fun e w'=>e= .returned (.func (.func 262) #[] #[.pointer (some ⟨w.heap.size,0,none⟩)])/\w'=w.alloc (.cells #[.map (some b)] 273):=by
 go_enter Tryz.func202,Tryz.ntmps202
 go_wp2_with fail;go_ret
 exact⟨rfl,rfl⟩
theorem Oo{Bm b N:Nat}{g:UX->Option UY}{w:UW}(hM:Rm w Tryz.prog 9 b N g)(hc:w.cell? ⟨Bm,0,none⟩=some (.map (some b)))(hB:Bm<w.heap.size) :
  ∃S Sp,SeqStops Fence.wide 5 Tryz.prog 262 #[.pointer (some ⟨Bm,0,none⟩)] encStr S Sp N w/\∀ss,S ss->jT g N (ss.map ub):=by
 obtain⟨D,h1,h2,h3⟩:=hM.keys Tryz.underlying9;refine⟨_,_,fun l J Jx W hW hJ hJx hY h0=>AnyZ.keys_stops (ρ:=Tryz.keysB_ren) {Tryz.keysB with} Fence.wide 5 trivial rfl (by omega) Bm b N D w hB hc h1 l J Jx W hW hJ hJx (fun pre x W1 hj hl=>hY pre x W1 hj (Nat.lt_of_lt_of_le hl h2)) h0,h3⟩
theorem TN:∀args w,(callFunc 262 args).run Tryz.prog w= .ok (.enter 262 args) w:=enters_of Tryz.func262 (by kernel_rfl) rfl
def Ue(g:UX->Option UY)(N n:Nat)(l0:List UX)(w0:UW)(e:Ending)(w':UW):Prop :=
 ∃A c ks,e= .returned (.slice A (n+ks.length) c)/\jT g N ks/\w'.ownsRow w0.heap.size 9 1 (.slice A (n+ks.length) c) (n+ks.length) (strs (l0++ks))/\U0 w0 w'
theorem P8(Bm b N:Nat)(g:UX->Option UY)(A:OA)(n c:Nat)(l0:List UX)(w0 w:UW)(hM:Rm w Tryz.prog 9 b N g)(hc:w.cell? ⟨Bm,0,none⟩=some (.map (some b)))(hB:Bm<w.heap.size)
  (hrow:w.ownsRow w0.heap.size 9 1 (.slice A n c) n (strs l0)) (hbw:U0 w0 w) (hn:n+N<=1000000) :
  Calls Tryz.prog 201 #[.slice A n c,.func (.func 262) #[] #[.pointer (some ⟨Bm,0,none⟩)]] w (Ue g N n l0 w0):=by
 obtain⟨S,Sp,h1,h2⟩:=Oo hM hc hB;refine(vJ _ _ TN S Sp N A n c l0 w0 w hrow hbw hn h1).mono ?_;rintro e w' ⟨A',c',ss,rfl,hS,hr,hb⟩;exact⟨A',c',ss.map ub,by rw[List.length_map],h2 ss hS,by rw[List.length_map];exact hr,hb⟩
def TQ(g:UX->Option UY)(N:Nat)(w:UW)(e:Ending)(w':UW):Prop :=
 ∃A c ks,e= .returned (.slice A ks.length c)/\jT g N ks/\w'.ownsRow w.heap.size 9 1 (.slice A ks.length c) ks.length (strs ks)/\U0 w w'
theorem N7(Bm b N:Nat)(g:UX->Option UY)(w:UW)(hM:Rm w Tryz.prog 9 b N g)(hc:w.cell? ⟨Bm,0,none⟩=some (.map (some b)))(hB:Bm<w.heap.size)(hn:N<=1000000) :
  Calls Tryz.prog 199 #[.func (.func 261) #[] #[.pointer (some ⟨Bm,0,none⟩)]] w (TQ g N w):=by
 have HA:=ai (PE Bm b N g none 0 0 [] w w hM hc hB (World.ownsRow_nil _ _ _ _) (ah _ _) (by omega));clear hM
 go_enter Tryz.func199,Tryz.ntmps199
 go_wp2_with (go_at_call 201;refine HA.o.mono ?_;rintro e w1 ⟨A,c,ks,rfl,h⟩;rw[Nat.zero_add,List.nil_append]at h;have HH:=ai h;clear h)
 go_ret
 exact⟨A,c,ks,rfl,HH.o⟩
end
structure Fgr(w:UW)(base:Nat)(e:TypeId)(f:UX->UY)(L:UX->List Fl):Prop where
 own:∀i,w.ownsRow base e 2 (f i) (L i).length (flat flC (L i))
 apart:∀i j k,(f i).ownBlock=some k-> (f j).ownBlock=some k->i=j
section
variable {w w' : UW} {base : Nat} {e : TypeId} {f : UX -> UY} {L : UX -> List Fl}
theorem Fgr.start(w:UW)(base:Nat)(e:TypeId):Fgr w base e (fun _=> .slice none 0 0) (fun _=> []) :=
 ⟨fun _=>World.ownsRow_nil w base e 2,fun i j k h=>by cases h⟩
theorem Fgr.kept{row:Option Nat}(h:Fgr w base e f L)(hg:w.grownBy w' row)(hr:∀i,(f i).ownBlock=none∨ (f i).ownBlock≠row):Fgr w' base e f L :=
 ⟨fun i=>(h.own i).kept hg (hr i),h.apart⟩
theorem Fgr.below(h:Fgr w base e f L)(hb:U0 w w'):Fgr w' base e f L :=
 h.kept (row:=none) ⟨hb.os,hb.tape,hb.output,hb.size,fun k hk _=>hb.block k hk⟩ (fun i=>by cases hv: (f i).ownBlock with | none=>exact .inl rfl | some k=>exact .inr (by simp))
theorem Fgr.other{b:Nat}(h:Fgr w base e f L)(hg:w.grownBy w' (some b))(hb:b<base):Fgr w' base e f L :=
 h.kept hg (fun i=>by
  cases hv: (f i).ownBlock with
  | none=>exact .inl rfl
  | some k=>exact .inr (fun e=>by have:=((h.own i).lt k hv).1;cases e;omega))
theorem Fgr.app(h:Fgr w base e f L)(i:UX){x:Fl}{g cap:Nat}(ho:w'.ownsRow base e 2 (.slice (some ⟨g,0,none⟩) ((L i).length+1) cap) ((L i).length+1) (flat flC (L i)++flC x))(hg:w.grownBy w' (f i).ownBlock)
  (hat: (f i).ownBlock=some g∨g=w.heap.size):Fgr w' base e (fun j=>if j=i then .slice (some ⟨g,0,none⟩) ((L i).length+1) cap else f j) (fun j=>if j=i then L i++ [x] else L j):=by
 have hlt:∀j k,(f j).ownBlock=some k->k<w.heap.size:=fun j k hk=>((h.own j).lt k hk).2;refine⟨fun j=>?_,fun j l k hj hl=>?_⟩
 . by_cases hji:j=i
   . simp only[hji,if_true]
     rw[af];have:flat flC (L i++ [x])=flat flC (L i)++flC x:=by rw[bI];simp[flat]
     rw[this];exact ho
   . simp only[hji,if_false]
     refine(h.own j).kept hg ?_;cases hv: (f j).ownBlock with
     | none=>exact .inl rfl
     | some k=>exact .inr (fun e'=>hji (h.apart j i k hv e'.symm))
 . have new:∀j,j≠i-> (f j).ownBlock=some g->False:=fun j hj hb=>by
     rcases hat with hat | hat
     . exact hj (h.apart j i g hb hat)
     . have:=hlt j g hb;omega
   by_cases hji:j=i
   . by_cases hli:l=i
     . rw[hji,hli]
     . simp only[hji,if_true,hli,if_false]at hj hl
       have:g=k:=by simpa [Value.ownBlock] using hj
       exact(new l hli (this ▸ hl)).elim
   . by_cases hli:l=i
     . simp only[hji,if_false,hli,if_true]at hj hl
       have:g=k:=by simpa [Value.ownBlock] using hl
       exact(new j hji (this ▸ hj)).elim
     . simp only[hji,hli,if_false]at hj hl
       exact h.apart j l k hj hl
end
theorem ES(l:List Fl)(f:Fl)(s:UX):inD (l++ [f]) s=inD l s++ (if deN f.1=true/\fsN f.1=s then [(rsN f.1,f.2)] else []):=by
 unfold inD;rw[List.filter_append,List.map_append]
 congr 1
 by_cases h:deN f.1=true/\fsN f.1=s
 . rw[if_pos h,List.filter_cons_of_pos (by simp[h.1,h.2])];rfl
 . rw[if_neg h,List.filter_cons_of_neg (by simpa using h)];rfl
theorem BL{l:List Fl}{f:Fl}(hn:f.1∉l.map Prod.fst)(s:UX):eG (l++ [f]) s=if f.1=s then some f.2 else eG l s:=by
 unfold eG;rw[List.find?_append];by_cases h:f.1=s
 . rw[if_pos h]
   have:l.find? (fun f=>decide (f.1=s))=none:=by
    rw[List.find?_eq_none];intro x hx he;exact hn (by rw[h,<-(of_decide_eq_true he)];exact List.mem_map_of_mem hx)
   rw[this];simp[h]
 . rw[if_neg h]
   cases l.find? (fun f=>decide (f.1=s)) with
   | none=>simp[h]
   | some x=>simp
def jw:UY:= .slice none 0 0
def nP(f:Fl):UY:= .agg #[.string f.1,.string f.2]
structure StM(w:UW)(bb bf base N:Nat)(gb gf:UX->Option UY)(l:List Fl):Prop where
 b:Rm w Tryz.prog 9 bb N gb
 f:Rm w Tryz.prog 9 bf N gf
 rows:Fgr w base 82 (fun s=>(gb s).getD jw) (inD l)
 gbs:∀s,(gb s).isSome=true↔inD l s≠ []
 gfs:∀s,gf s=if deN s=true then none else(eG l s).map (fun d=>nP (s,d))
section
variable {w w' : UW} {bb bf base N : Nat} {gb gf : UX -> Option UY} {l : List Fl}
theorem StM.below(h:StM w bb bf base N gb gf l)(hb:U0 w w'):StM w' bb bf base N gb gf l :=
 ⟨h.b.below hb h.b.lt,h.f.below hb h.f.lt,h.rows.below hb,h.gbs,h.gfs⟩
theorem StM.alloc(h:StM w bb bf base N gb gf l)(o:Obj):StM (w.alloc o) bb bf base N gb gf l:=h.below ((ah _ w).alloc aj o)
theorem StM.start(w:UW)(base:Nat):StM ((w.alloc (.map #[] 0)).alloc (.map #[] 0)) w.heap.size (w.heap.size+1) base 0 (fun _=>none) (fun _=>none) []:=by
 refine⟨(Rm.made w Tryz.prog _).alloc _,?_,Fgr.start _ _ _,fun s=>by simp[inD],fun s=>by simp[eG]⟩;have:=Rm.made (w.alloc (.map #[] 0)) Tryz.prog 9;rw[Z9]at this;exact this
theorem StM.file(h:StM w bb bf base N gb gf l)(hne:bb≠bf)(hbf:bf<base){f:Fl}(hd:deN f.1=false)(hn:f.1∉l.map Prod.fst)(hr:Rm w' Tryz.prog 9 bf (N+1) (upd gf f.1 (nP f)))(hg:w.grownBy w' (some bf)) :
  StM w' bb bf base (N+1) gb (upd gf f.1 (nP f)) (l++ [f]):=by
 have e:inD (l++ [f])=inD l:=by
  funext s
  rw[ES,if_neg (by rw[hd];simp),List.append_nil]
 refine⟨(h.b.kept hg (fun e=>hne (Option.some.inj e))).more (by omega),hr,by rw[e];exact h.rows.other hg hbf,fun s=>by rw[e];exact h.gbs s,fun s=>?_⟩;unfold upd;rw[BL hn];by_cases hs:s=f.1
 . subst hs
   rw[if_pos rfl,hd,if_pos rfl];rfl
 . rw[if_neg hs,if_neg (show ¬f.1=s from fun e=>hs e.symm)]
   exact h.gfs s
theorem StM.dir{w1:UW}(h:StM w bb bf base N gb gf l)(hlt:bb<base/\bf<base/\bb≠bf){f:Fl}(hd:deN f.1=true)(hn:f.1∉l.map Prod.fst){g cap:Nat}
  (ho:w1.ownsRow base 82 2 (.slice (some ⟨g,0,none⟩) ((inD l (fsN f.1)).length+1) cap) ((inD l (fsN f.1)).length+1) (flat flC (inD l (fsN f.1))++flC (rsN f.1,f.2))) (hg:w.grownBy w1 ((gb (fsN f.1)).getD jw).ownBlock)
  (hat: ((gb (fsN f.1)).getD jw).ownBlock=some g∨g=w.heap.size)
  (hr:Rm w' Tryz.prog 9 bb (N+1) (upd gb (fsN f.1) (.slice (some ⟨g,0,none⟩) ((inD l (fsN f.1)).length+1) cap))) (hg2:w1.grownBy w' (some bb)) :
  StM w' bb bf base (N+1) (upd gb (fsN f.1) (.slice (some ⟨g,0,none⟩) ((inD l (fsN f.1)).length+1) cap)) gf (l++ [f]):=by
 have hne:∀b,b<base->some b≠ ((gb (fsN f.1)).getD jw).ownBlock:=fun b hb e=>by have:=((h.rows.own (fsN f.1)).lt b e.symm).1;omega
 have e1: (fun s=>(upd gb (fsN f.1) (.slice (some ⟨g,0,none⟩) ((inD l (fsN f.1)).length+1) cap) s).getD jw)=fun s=>if s=fsN f.1 then .slice (some ⟨g,0,none⟩) ((inD l (fsN f.1)).length+1) cap else(gb s).getD jw:=by
  funext s
  unfold upd;by_cases hs:s=fsN f.1
  . rw[if_pos hs,if_pos hs];rfl
  . rw[if_neg hs,if_neg hs]
 have e2:inD (l++ [f])=fun s=>if s=fsN f.1 then inD l (fsN f.1)++ [(rsN f.1,f.2)] else inD l s:=by
  funext s
  rw[ES];by_cases hs:s=fsN f.1
  . subst hs;rw[if_pos ⟨hd,rfl⟩,if_pos rfl]
  . rw[if_neg (fun e=>hs e.2.symm),if_neg hs,List.append_nil]
 refine⟨hr,((h.f.kept hg (hne bf hlt.2.1)).kept hg2 (fun e=>hlt.2.2 (by cases e;rfl))).more (by omega),?_,fun s=>?_,fun s=>?_⟩
 . rw[e1,e2]
   exact(h.rows.app (fsN f.1) ho hg hat).other hg2 hlt.1
 . rw[e2]
   unfold upd;by_cases hs:s=fsN f.1
   . simp[hs]
   . simp only[if_neg hs];exact h.gbs s
 . rw[BL hn]
   by_cases hs:f.1=s
   . subst hs;rw[h.gfs,if_pos hd,if_pos hd]
   . rw[if_neg hs];exact h.gfs s
end
theorem Qu{gb gf:UX->Option UY}{l:List Fl}(hl:OkL l)(h1:∀s,(gb s).isSome=true↔inD l s≠ [])(h2:∀s,gf s=if deN s=true then none else(eG l s).map (fun d=>nP (s,d))){N M:Nat}{ks qs:List UX}(hk:jT gf N ks)(hq:jT gb M qs) :
  iT (ks++qs)=cZ l/\∀n∈cZ l,deN n=false:=by
 have hfl:∀x,x∈ks↔deN x=false/\∃d,(x,d)∈l:=fun x=>by
  rw[hk.mem,h2];cases hd:deN x with
  | true=>simp
  | false =>
    simp only[Bool.false_eq_true,if_false,Option.isSome_map,true_and];rw[Option.isSome_iff_exists];constructor
    . rintro ⟨d,h⟩;exact⟨d,(oD hl.nod).1 h⟩
    . rintro ⟨d,h⟩;exact⟨d,(oD hl.nod).2 h⟩
 have hdr:∀x,x∈qs↔∃g∈l,deN g.1=true/\fsN g.1=x:=fun x=>by
  rw[hq.mem,h1];constructor
  . intro h
    obtain⟨f,hf⟩:=List.exists_mem_of_ne_nil _ h;obtain⟨g,hg,a,b,_⟩:=mem_inD.1 hf;exact⟨g,hg,a,b⟩
  . rintro ⟨g,hg,a,b⟩ e
    have: (rsN g.1,g.2)∈inD l x:=mem_inD.2 ⟨g,hg,a,b,rfl⟩;rw[e]at this;cases this
 have hdis:∀x,x∈ks->x∉qs:=fun x hx hx'=>by
  obtain⟨_,d,hd⟩:=(hfl x).1 hx;obtain⟨g,hg,a,b⟩:=(hdr x).1 hx';have h3:=hl.nob _ hd g hg;rw[Bool.eq_false_iff]at h3;refine h3 ((xg _ _).2 ⟨bl (rsN g.1),?_⟩);rw[kz a,b]
 have hno:∀n∈cZ l,deN n=false:=fun n hn=>by
  obtain⟨f,_,rfl⟩:=nms_mem.1 hn;exact(yT (xm _)).2
 refine⟨yK (Eo (List.nodup_append.2 ⟨hk.nod,hq.nod,fun a ha b hb e=>hdis a ha (by rw[e];exact hb)⟩)) (x9 l) (fun x=>?_),hno⟩;rw[EZ,List.mem_append,hfl,hdr,nms_mem];constructor
 . rintro (⟨h,d,hd⟩ | ⟨g,hg,_,h⟩)
   . exact⟨_,hd,(mQ h).symm⟩
   . exact⟨g,hg,h.symm⟩
 . rintro ⟨f,hf,rfl⟩
   cases hd:deN f.1 with
   | false=>exact .inl ⟨(yT (xm _)).2,f.2,by rw[mQ hd];exact hf⟩
   | true=>exact .inr ⟨f,hf,hd,rfl⟩
theorem iL{P:Program}{ops:Array Oper}{rest:List Oper}{o:Oper}{a:Act}{w:UW}{Q:Exit->Act->UW->Prop}(s x:Operand)(t:TypeId)(_:o.op= .call {callee:= .builtin .append,args:=#[s,x],argTypes:=#[t,t]})
  (h:Hid (wpList P ops Q (o::rest) a w)):wpList P ops Q (o::rest) a w:=h
theorem oJ{w:UW}{base size n c:Nat}{e:TypeId}{A:OA}{xs:List UY}(h:Apd w base e size A n c xs)(k:Nat):Apd (w.drewN k) base e size A n c xs:=h
def LkE(o:Ob)(w:UW)(e:Ending)(w':UW):Prop :=
 ∃A n c,n= (bW o).length/\e= .returned (.slice A n c)/\Apd w' w.heap.size 50 2 A n c (flat dgC (bW o))/\U0 w w'
theorem Qd{l:List Ent}{k:Nat}{x:Ent}(h:l[k]? =some x): (l.take (k+1)).map Ent.dg= (l.take k).map Ent.dg++ [x.dg]:=by
 rw[bJ h,List.map_append];rfl
theorem FP{w:UW}{base base' size n c:Nat}{e:TypeId}{A:OA}{xs:List UY}(h:Apd w base e size A n c xs)(hb:base'<=base):Apd w base' e size A n c xs:=by
 rcases h with h | h
 . exact .inl (kW h hb)
 . exact .inr h
theorem Ox(o:Ob)(s:Osl)(B:Nat)(w:UW)(hm:ObM w B o s)(hB:B<=w.heap.size)(ho:OkO o)(hen:s.en<=100000)(hpn:s.pn<=100000) :
  Calls Tryz.prog 53 #[obV o s] w (LkE o w):=by
 obtain⟨W0,hW0⟩:=NX9 (w.alloc (.cells (obC o s) 109))
 have HB0:U6 w W0:=by rw[<-hW0];exact(ah _ w).alloc aj _
 have f:Hid (Bk W0 w.heap.size 109 (obC o s)):=by rw[<-hW0];exact Bk.new w _ _
 have z0:w.heap.size<W0.heap.size:=f.o.lt;have h:=ai (hm.below HB0.o hB);have j:=ai (oQ o s B W0 h.o (by omega) ho);have l:=ai hm.elen;have A:=ai hm.plen;obtain⟨i0,hi,hz0,hz1,hz2⟩:=info_parts lM;have Hi:=ai hi;have m:=ai hz0;have r:=ai hz1;have t:=ai hz2;have HW0:=ai hW0;obtain⟨k0,da,es,⟨t1,t2⟩,ps,I,ti,ms⟩:=o;obtain⟨eA,en,ec,pA,pn,pc⟩:=s;unfold obV obC at *;simp only at HB0 f h j l A HW0 hen hpn ⊢;obtain⟨c0,c1,c2,c3,c4,c5,c6,c7,c8⟩:=f.o.nine;rw[<-HW0.o]at c0 c1 c2 c3 c4 c5 c6 c7 c8;clear hi hz0 hz1 hz2 hW0 hm ho
 go_enter Tryz.func53,Tryz.ntmps53
 go_wp2_with fail;rw[HW0.o];refine j.o.mono ?_;rintro e w1 ⟨rfl,hb1⟩;have u:=ai (f.o.below hb1 z0);have C:=ai (h.o.below hb1 (by omega));have HB1:U6 w w1:=HB0.o.trans (hb1.mono (by omega));have z1:w.heap.size<w1.heap.size:=u.o.lt;clear hb1 j c0 c1 c2 c3 c4 c5 c6 c7 c8 HW0;have J:Hid (Sl w1 B 4 eA en (flat enC es)):=C.o.e;have K:Hid (Sl w1 B 2 pA pn (flat dgC ps)):=C.o.p;obtain⟨c0,c1,c2,c3,c4,c5,c6,c7,c8⟩:=u.o.nine;go_wp2_with fail
 go_loopw[3,12] (fun q i wr=>∃(k:Nat)(A':OA)(c':Nat),k<=en/\i= .int .i64 k/\q= .slice A' k c'/\k<=c'/\c'<=maxLen/\Hid (Apd wr w1.heap.size 50 2 A' k c' (flat dgC ((es.take k).map Ent.dg)))/\U6 w1 wr) (fun _ i _=>en - (intOf i).toNat)
 case atStart=>exact⟨0,none,0,ZX _,rfl,rfl,Nat.le_refl _,ZX _,.inr ⟨rfl,rfl,rfl⟩,ah _ _⟩
 case round =>
  obtain⟨k,A',c',hk,rfl,rfl,hkc,hcm,hO,hBel⟩:=hrel;have HO:=ai hO.o;have c:=ai hBel.o;have zr:w1.heap.size<=wr.heap.size:=c.o.size;clear hO hBel c0 c1 c2 c3 c4 c5 c6 c7 c8;by_cases hlt:k<en
  . obtain⟨bb,off,x,rfl,hbB,hx,y0,y1,y2,y3⟩:=(J.o.below c.o (by omega)).en hlt
    have hlz: (k:Int)< (en:Int):=by omega
    have HX:=ai hx;clear hx;obtain⟨X,xd,⟨d1,d2⟩⟩:=x;simp only at y0 y1 y2 y3;have L:Hid ((es.take (k+1)).map Ent.dg= (es.take k).map Ent.dg++ [(d1,d2)]):=Qd HX.o;obtain⟨W,hW⟩:=NX9 (wr.alloc (.cells #[.string X,.bool xd,.int .u64 d1,.int .u64 d2] 185))
    have hbW:U0 wr W:=by rw[<-hW];exact(ah _ wr).alloc aj _
    have D:Hid (Bk W wr.heap.size 185 #[.string X,.bool xd,.int .u64 d1,.int .u64 d2]):=by rw[<-hW];exact Bk.new wr _ _
    have eW:W.heap.size=wr.heap.size+1:=by rw[<-hW];simp
    have M:Hid (Bk (W.alloc (.cells #[.int .u64 d1,.int .u64 d2] 50)) (wr.heap.size+1) 50 #[.int .u64 d1,.int .u64 d2]):=by
     have e:=Bk.new W 50 #[.int .u64 d1,.int .u64 d2]
     rwa[eW]at e
    have HOW:=ai (HO.o.below hbW);have E:U6 w1 W:=c.o.trans (hbW.mono zr);have g2:=D.o.cell 2;have g3:=D.o.cell 3;simp at g2 g3;rw[<-hW]at g2 g3;have zW:w1.heap.size<=W.heap.size:=E.o.size;have N:=ai hW;clear hW hbW eW
    go_wp2_with (at_builtin;refine iL (.tmp 16) (.tmp 19) 47 rfl ?_)
    rw[N.o];refine aH ?_;refine dZ (base:=w1.heap.size) (size:=2) _ rfl (.tmp 16) (.tmp 19) 47 rfl 50 i0 _ 16 Tryz.underlying47 Hi.o m.o r.o t.o rfl (by decide) A' k c' _ rfl (Apd.below HOW.o ((ah _ _).alloc aj _)) _ _ 1 1 (flat dgC [(d1,d2)]) rfl (Sl.of_bk (n:=1) (size:=2) M.o rfl) (kH _) (by unfold maxLen;omega) (by omega) (by rw[Z9];omega) ?_;intro A4 c4 w4 b hb4 hn4 hm4 _;rw[<-bI,<-L.o]at b;have v:=ai b;have HB4:U6 w1 w4:=(Below.alloc E.o (by omega) _).trans hb4;clear b hb4;go_wp2_with fail;go_roundw
    case rel=>exact⟨k+1,A4,c4,hlt,by go_num,rfl,hn4,hm4,v.o,HB4.o⟩
    case measure=>simp[intOf];omega
  . have hlz:¬(k:Int)< (en:Int):=by omega
    have hke:k=en:=by omega
    have HT:Hid (es.take k=es):=ZU (by have:es.length=en:=l.o;omega);rw[HT.o]at HO;obtain⟨g,hwo⟩:∃g,g=wr:=⟨_,rfl⟩
    subst hwo;have O:=ai (u.o.below c.o z1);have P:=ai (K.o.below c.o (by omega));have F:U6 w g:=HB1.o.trans (c.o.mono (by omega));obtain⟨c0,c1,c2,c3,c4,c5,c6,c7,c8⟩:=O.o.nine;have G:es.length=en:=l.o;have H:ps.length=pn:=A.o;by_cases hk3:k0=3
    . subst hk3
      have d:Hid (bW ⟨3,da,es,(t1,t2),ps,I,ti,ms⟩= (es.map Ent.dg++ [(t1,t2)])++ps):=by show _=_;unfold bW;simp
      have y:Hid (k+1+pn= (bW ⟨3,da,es,(t1,t2),ps,I,ti,ms⟩).length):=by show _=_;rw[d.o];simp only[af,List.length_map,List.length_singleton];omega
      have Q:Hid (Bk (g.alloc (.cells #[.int .u64 t1,.int .u64 t2] 50)) g.heap.size 50 #[.int .u64 t1,.int .u64 t2]):=Bk.new g _ _;clear G H hke
      go_wp2_with (at_builtin;refine iL (.tmp 25) (.tmp 28) 47 rfl ?_)
      refine aH ?_;refine dZ (base:=w1.heap.size) (size:=2) _ rfl (.tmp 25) (.tmp 28) 47 rfl 50 i0 _ 16 Tryz.underlying47 Hi.o m.o r.o t.o rfl (by decide) A' k c' _ rfl (Apd.below HO.o ((ah _ _).alloc aj _)) _ _ 1 1 (flat dgC [(t1,t2)]) rfl (Sl.of_bk (n:=1) (size:=2) Q.o rfl) (kH _) (by unfold maxLen;omega) (by omega) (by rw[Z9];omega) ?_;intro A4 R w4 b hb4 hn4 hm4 _;rw[<-bI]at b;have v:=ai b;have a:Below w1.heap.size g w4:=(Below.alloc (ah _ g) (by omega) _).trans hb4;have S:=ai (P.o.below a (by omega));have HB4:U6 w w4:=F.o.trans (a.mono (by omega));have z4:w1.heap.size<=w4.heap.size:=by have:=a.size;omega
      have c5:=(a.cell (p:=⟨w.heap.size,5,none⟩) (by show w.heap.size<_;omega)).trans c5;clear b hb4 a c0 c1 c2 c3 c4 c6 c7 c8
      go_wp2_with (at_builtin;refine iL (.tmp 30) (.tmp 32) 47 rfl ?_)
      refine aH ?_;refine dZ (base:=w1.heap.size) (size:=2) _ rfl (.tmp 30) (.tmp 32) 47 rfl 50 i0 _ 16 Tryz.underlying47 Hi.o m.o r.o t.o rfl (by decide) A4 (k+1) R _ rfl v.o B pA pn pc (flat dgC ps) rfl S.o (kH _) (by unfold maxLen;omega) (by omega) z4 ?_;intro A5 T w5 z hb5 Y Z _;rw[<-bI,<-d.o]at z;have U:=ai z;have V:U6 w w5:=HB4.o.trans (hb5.mono (by omega));clear z hb5 c5;go_wp2_with fail;go_ret
      exact⟨A5,k+1+pn,T,y.o,rfl,FP U.o (by omega),V.o⟩
    . have d:Hid (bW ⟨k0,da,es,(t1,t2),ps,I,ti,ms⟩=es.map Ent.dg):=by show _=_;unfold bW;simp[hk3]
      have y:Hid (k= (bW ⟨k0,da,es,(t1,t2),ps,I,ti,ms⟩).length):=by show _=_;rw[d.o,List.length_map];omega
      have hkb: (k0 == 3)=false:=by simpa using hk3
      clear G H hke hk3;go_wp2_with fail;go_ret
      exact⟨A',k,c',y.o,rfl,by rw[d.o];exact FP HO.o (by omega),F.o⟩
