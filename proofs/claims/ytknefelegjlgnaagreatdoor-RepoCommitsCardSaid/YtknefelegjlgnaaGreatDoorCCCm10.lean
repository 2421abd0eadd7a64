/-Lemmas.-/
import Derived.Shelf.SlIter.Stops
import Derived.Lib.Overlaps
import Derived.Test.YtknefelegjlgnaaGreatDoorCCCm9
set_option maxRecDepth 100000
set_option maxHeartbeats 16000000
namespace Go.Proofs.YtknefelegjlgnaaGreatDoor
open Go.RowKit
theorem jA(a b:VB):bl (a++b)=bl a++bl b:=by
 unfold bl;rw[ByteArray.data_append,Array.toList_append]
theorem nV{a b:VB}(h:bl a=bl b):a=b:=by rw[<-qH a,<-qH b,h]
theorem zi:bl slB= [47]:=rfl
def ou(s:VB):Prop:=∀c∈bl s,c≠47
theorem PZ{c:UInt8}(h:mr c=true):c≠47:=by
 rintro rfl;revert h;decide
theorem OE{s:VB}(h:nameB s=true):ou s:=by
 unfold nameB iV at h;simp only[Bool.and_eq_true,List.all_eq_true]at h;exact fun c hc=>PZ (h.2.2.2.2 c hc)
theorem sO{s:VB}(h:nameB s=true):1<=s.size/\s.size<=24:=by
 unfold nameB iV at h;simp only[Bool.and_eq_true,decide_eq_true_eq]at h;rw[jb];exact⟨h.1,h.2.1⟩
def Tl(r:List UInt8):Prop:=r= []∨∃r',r=47::r'
theorem Ed{n r:List UInt8}(hn:∀c∈n,c≠47)(hr:Tl r): (n++r).takeWhile (fun c=>decide (c≠47))=n:=by
 induction n with
 | nil =>
   rcases hr with rfl | ⟨r',rfl⟩ <;> simp
 | cons c n ih =>
   rw[List.cons_append,List.takeWhile_cons_of_pos (by simp[hn c (by simp)]),ih (fun d hd=>hn d (by simp[hd]))]
theorem RQ{n m:VB}{r t:List UInt8}(hn:ou n)(hm:ou m)(hr:Tl r)(ht:Tl t)(h:bl n++r=bl m++t):n=m/\r=t:=by
 have h1:=Ed hn hr;rw[h,Ed hm ht]at h1;have e:=nV h1;subst e;exact⟨rfl,List.append_cancel_left h⟩
def Und(pre:VB)(fs:List Fl):Prop:=∀f∈fs,∃r,bl f.1=bl pre++r
theorem II{g:Dig->VB->List Fl×Int}{p:List Itm}{pre:VB}(hg:∀d q,Und q (g d q).1):∀{es:List Ent}{f:Fl},f∈ (vsE g p pre es).1->∃e∈es,∃r,Tl r/\bl f.1=bl pre++ (bl e.nm++r):=by
 intro es
 induction es with
 | nil=>intro f h;cases h
 | cons e es ih =>
   intro f h;have more:f∈ (vsE g p pre es).1->∃e'∈e::es,∃r,Tl r/\bl f.1=bl pre++ (bl e'.nm++r):=fun h=>by
    obtain⟨e',he,r,h1,h2⟩:=ih h;exact⟨e',List.mem_cons_of_mem _ he,r,h1,h2⟩
   have sub:f∈ (g e.dg (pre++e.nm++slB)).1->∃e'∈e::es,∃r,Tl r/\bl f.1=bl pre++ (bl e'.nm++r):=fun h=>by
    obtain⟨r,hr⟩:=hg _ _ f h;rw[jA,jA,zi]at hr;exact⟨e,by simp,47::r,.inr ⟨r,rfl⟩,by rw[hr];simp⟩
   by_cases hf:100< (pre++e.nm).size
   . rw[yS hf]at h;cases h
   . cases hd:e.dir with
     | true =>
       by_cases hz: (g e.dg (pre++e.nm++slB)).2=0
       . rw[uo hf hd (s:=(g e.dg (pre++e.nm++slB)).1) (by rw[<-hz])]at h
         rcases List.mem_append.1 h with h | h
         . exact sub h
         . exact more h
       . rw[yx hf hd (s:=(g e.dg (pre++e.nm++slB)).1) hz rfl]at h
         exact sub h
     | false =>
       cases hp:aC p e.dg with
       | none=>rw[yh hf hd hp]at h;cases h
       | some o =>
         by_cases hk:o.kind=1
         . rw[sZ hf hd hp hk]at h
           rcases List.mem_cons.1 h with rfl | h
           . exact⟨e,by simp,[],.inl rfl,by simp[jA]⟩
           . exact more h
         . rw[xR hf hd hp hk]at h;cases h
theorem Rk(p:List Itm):∀(n:Nat)(d:Dig)(pre:VB),Und pre (vis p n d pre).1:=by
 intro n
 induction n with
 | zero=>intro d pre f h;cases h
 | succ n ih =>
   intro d pre f h;rw[vis]at h;split at h
   . cases h
   . split at h
     . split at h
       . cases h
       . obtain⟨e,_,r,_,hr⟩:=II ih h
         exact⟨_,hr⟩
     . cases h
theorem Oo{es:List Ent}(h:jU es):es.Pairwise (fun a b=>a.nm≠b.nm):=by
 have hp:es.Pairwise (fun a b=>less a.nm b.nm=true):=by
  rw[List.pairwise_iff_getElem];intro i j hi hj hij;have key:∀k,i+k+1<es.length->∀b,es[i+k+1]? =some b->less es[i].nm b.nm=true:=by
   intro k
   induction k with
   | zero=>intro hk b hb;exact h.asc i _ _ (Z5 hi) hb
   | succ k ih =>
     intro hk b hb;have h1:=ih (by omega) _ (Z5 (by omega));exact jW h1 (h.asc (i+k+1) _ _ (Z5 (by omega)) (by rw[show i+k+1+1=i+ (k+1)+1 by omega];exact hb))
  exact key (j - i - 1) (by omega) _ (by rw[show i+ (j - i - 1)+1=j by omega];exact Z5 hj)
 exact hp.imp (fun h=>xM h)
theorem OM{g:Dig->VB->List Fl×Int}{p:List Itm}{pre:VB}(hg:∀d q,Und q (g d q).1)(hn:∀d q,((g d q).1.map Prod.fst).Nodup) :
  ∀{es:List Ent},es.Pairwise (fun a b=>a.nm≠b.nm)-> (∀e∈es,ou e.nm)-> ((vsE g p pre es).1.map Prod.fst).Nodup:=by
 intro es
 induction es with
 | nil=>intro _ _;exact List.nodup_nil
 | cons e es ih =>
   intro ha hs;have ha':=List.pairwise_cons.1 ha;have ih':=ih ha'.2 (fun e' he=>hs e' (by simp[he]));have far:∀f∈ (vsE g p pre es).1,∀r,Tl r->bl f.1≠bl pre++ (bl e.nm++r):=fun f hf r hr he=>by
    obtain⟨e',he',r',hr',h2⟩:=II hg hf;rw[h2]at he;have:=(RQ (hs e' (by simp[he'])) (hs e (by simp)) hr' hr (List.append_cancel_left he)).1;exact ha'.1 e' he' this.symm
   by_cases hf:100< (pre++e.nm).size
   . rw[yS hf];exact List.nodup_nil
   . cases hd:e.dir with
     | true =>
       by_cases hz: (g e.dg (pre++e.nm++slB)).2=0
       . rw[uo hf hd (s:=(g e.dg (pre++e.nm++slB)).1) (by rw[<-hz]),List.map_append,List.nodup_append]
         refine⟨hn _ _,ih',?_⟩;intro a ha b hb hab;obtain⟨f,hf1,rfl⟩:=List.mem_map.1 ha;obtain⟨f',hf2,rfl⟩:=List.mem_map.1 hb;obtain⟨r,hr⟩:=hg _ _ f hf1;rw[jA,jA,zi]at hr;refine far f' hf2 (47::r) (.inr ⟨r,rfl⟩) ?_;rw[<-hab,hr];simp
       . rw[yx hf hd (s:=(g e.dg (pre++e.nm++slB)).1) hz rfl]
         exact hn _ _
     | false =>
       cases hp:aC p e.dg with
       | none=>rw[yh hf hd hp];exact List.nodup_nil
       | some o =>
         by_cases hk:o.kind=1
         . rw[sZ hf hd hp hk,List.map_cons,List.nodup_cons]
           refine⟨fun hm=>?_,ih'⟩;obtain⟨f,hf1,he⟩:=List.mem_map.1 hm;exact far f hf1 [] (.inl rfl) (by rw[he];simp[jA])
         . rw[xR hf hd hp hk];exact List.nodup_nil
theorem FP{o:Ob}(h:OkO o)(hk:o.kind=2):jU o.ents:=by
 cases h.f with
 | blob k _ _ _=>rcases k with k | k <;> omega
 | tree _ _ _ e=>exact e
 | commit k _ _ _=>omega
theorem Dq{p:List Itm}(h:PlOk p):∀(n:Nat)(d:Dig)(pre:VB),((vis p n d pre).1.map Prod.fst).Nodup:=by
 intro n
 induction n with
 | zero=>intro d pre;exact List.nodup_nil
 | succ n ih =>
   intro d pre;rw[vis];split
   . exact List.nodup_nil
   . rename_i o ho
     split
     . rename_i hk
       split
       . exact List.nodup_nil
       . have hes:=FP (G7 h ho) hk
         exact OM (Rk p n) ih (Oo hes) (fun e he=>OE (hes.all e he).nm)
     . exact List.nodup_nil
theorem NU{l:List Fl}(h:AscF l): (l.map Prod.fst).Nodup:=by
 unfold List.Nodup;rw[List.pairwise_map];exact List.Pairwise.imp (fun h=>xM h) h
section
variable {l out : List Fl} {f g : Fl} {i : Nat} {put : Bool}
end
section
variable {g : Dig -> VB -> List Fl × Int} {p : List Itm} {pre : VB} {es : List Ent} {l fs m : List Fl} {j : Nat} {e : Ent}
end
section
open Go.RowKit Go.Shelf
theorem OQ{l:List UInt8}{i:Nat}(h1:l[i]? =some 47)(h2:∀j,j<i->l[j]? ≠some 47):dw l=i :=
 wU h2 (Nat.le_of_lt (List.getElem?_eq_some_iff.1 h1).1) (.inr h1)
theorem Oj{l:List UInt8}(h:∀c∈l,c≠47):dw l=l.length :=
 wU (fun _ _ e=>h 47 (Z7 e) rfl) aj (.inl rfl)
theorem KP(s:VB)(w:VA)(hs:s.size<=maxLen):Calls Tryz.prog 260 #[.string s,.string ⟨#[47]⟩] w (IL s w):=by
 have hs':s.size<=9223372036854775807:=by unfold maxLen at hs;exact hs
 have HX:=ai (Tryz.stringslite_Index_one s 47 w);by_cases hi:Lib.indexByte s.data.toList 47= -1
 . have HN:Hid (vw s s ⟨#[]⟩ false):=by
     have:dw (bl s)=s.size:=Oj (fun c hc e=>by
      obtain⟨j,hj,e'⟩:=List.getElem_of_mem hc;exact Lib.indexByte_none hi j (by rw[<-e,<-e'];exact Z5 _))
     exact .inr ⟨this,rfl,rfl,rfl⟩
   rw[hi]at HX;clear hi
   go_enter Tryz.func260,Tryz.ntmps260
   go_wp2_with fail;refine HX.o.mono ?_;rintro e w1 ⟨rfl,rfl⟩;go_wp2_with fail
   go_ret3
   exact⟨_,_,_,rfl,HN.o,ah _ _⟩
 . obtain⟨i,hi'⟩:∃i:Nat,Lib.indexByte s.data.toList 47=i:=⟨(Lib.indexByte s.data.toList 47).toNat,by have:=Lib.indexByte_ge s.data.toList 47;omega⟩
   obtain⟨h1,h2⟩:=Lib.indexByte_some hi';have hil:i<s.size:=by rw[jb];exact(List.getElem?_eq_some_iff.1 h1).1
   have HN:Hid (vw s (s.extract 0 i) (s.extract (i+1) s.size) true):=by
    have e:dw (bl s)=i:=OQ h1 h2;exact .inl ⟨by rw[e];exact hil,by rw[e],by rw[e],rfl⟩
   rw[hi']at HX;clear hi hi' h1 h2
   go_enter Tryz.func260,Tryz.ntmps260
   go_wp2_with fail;refine HX.o.mono ?_;rintro e w1 ⟨rfl,rfl⟩;have hi0: (0:Int)<= (i:Int):=by omega
   go_wp2_with fail
   go_quiet(fail)
   go_wp2_with fail
   go_ret3
   exact⟨_,_,_,rfl,HN.o,cZ (ah _ _) _⟩
theorem Sr(s:VB)(w:VA)(hs:s.size<=maxLen):Calls Tryz.prog 198 #[.string s,.string ⟨#[47]⟩] w (IL s w):=by
 have HX:=ai (KP s w hs)
 go_enter Tryz.func198,Tryz.ntmps198
 go_wp2_with fail;refine HX.o.mono ?_;rintro e w1 ⟨a,b,m,rfl,hc,hb⟩;have HC:=ai hc;have HB:=ai hb;clear hc hb;go_wp2_with fail
 go_ret3
 exact⟨_,_,_,rfl,HC.o,HB.o⟩
end
theorem CP:∀l:List UInt8,dw l<l.length->l=l.take (dw l)++47::l.drop (dw l+1)
 | [],h=>by simp at h
 | c::r,h=>by
   by_cases hc:c=47
   . subst hc;simp[dw]
   . simp only[dw,if_neg hc]at h ⊢
     have:=CP r (by simpa using h)
     simpa using this
theorem wC:∀l:List UInt8,∀c∈l.take (dw l),c≠47
 | [],c,h=>by simp at h
 | d::r,c,h=>by
   by_cases hd:d=47
   . subst hd;simp[dw]at h
   . simp only[dw,if_neg hd,List.take_succ_cons,List.mem_cons]at h
     rcases h with rfl | h
     . exact hd
     . exact wC r c h
theorem lV(s:VB)(a b:Nat):bl (s.extract a b)= ((bl s).take b).drop a:=by
 unfold bl;rw[mG,List.drop_take]
theorem ik(s:VB): (bl s).length=s.size:=rfl
def lu(s:VB):VB×VB×Bool:=if dw (bl s)<s.size then(s.extract 0 (dw (bl s)),s.extract (dw (bl s)+1) s.size,true) else(s,⟨#[]⟩,false)
def fsN(s:VB):VB:=(lu s).1
def rsN(s:VB):VB:=(lu s).2.1
def deN(s:VB):Bool:=(lu s).2.2
theorem Su{s a b:VB}{m:Bool}(h:vw s a b m):a=fsN s/\b=rsN s/\m=deN s:=by
 unfold fsN rsN deN lu;rcases h with ⟨h,rfl,rfl,rfl⟩ | ⟨h,rfl,rfl,rfl⟩
 . rw[if_pos h];exact⟨rfl,rfl,rfl⟩
 . rw[if_neg (by omega)];exact⟨rfl,rfl,rfl⟩
theorem jI{s:VB}(h:deN s=true):bl s=bl (fsN s)++47::bl (rsN s):=by
 unfold deN fsN rsN lu at *;split at h
 . rename_i hl
   rw[if_pos hl];simp only;rw[lV,lV,ZU (i:=s.size) (by rw[ik];exact Nat.le_refl _),List.drop_zero];exact CP _ hl
 . cases h
theorem lI{s:VB}(h:deN s=false):fsN s=s:=by
 unfold deN fsN lu at *;split at h
 . cases h
 . rename_i hl;rw[if_neg hl]
theorem yj(s:VB):ou (fsN s):=by
 unfold fsN lu;split
 . rename_i hl
   intro c hc;simp only at hc;rw[lV,List.drop_zero]at hc;exact wC _ c hc
 . rename_i hl
   intro c hc;simp only at hc;have: (bl s).take (dw (bl s))=bl s:=ZU (by rw[ik];omega);rw[<-this]at hc;exact wC _ c hc
theorem zh{s:VB}(hn:ou s):fsN s=s/\deN s=false:=by
 have hd:deN s=false:=by
  cases hd:deN s with
  | false=>rfl
  | true =>
    have:=jI hd;exact absurd rfl (hn 47 (by rw[this];simp))
 exact⟨lI hd,hd⟩
theorem sG(s:VB):dh s=true↔s.size<=100/\∀l∈bI (bl s),iV l=true:=by
 unfold dh;rw[Bool.and_eq_true,decide_eq_true_eq,List.all_eq_true];rfl
theorem Dc(s:VB):bI (bl s)=if deN s=true then bl (fsN s)::bI (bl (rsN s)) else [bl s]:=by
 rw[Bg];unfold deN fsN rsN lu;by_cases h:dw (bl s)<s.size
 . rw[if_pos (by rw[ik];exact h),if_pos h]
   simp only;rw[if_pos trivial,lV,lV,ZU (i:=s.size) (by rw[ik];exact Nat.le_refl _),List.drop_zero]
 . rw[if_neg (by rw[ik];exact h),if_neg h]
   simp
theorem rZ{s:VB}(h:dh s=true):nameB (fsN s)=true:=by
 have h2:=((sG s).1 h).2;rw[Dc]at h2;cases hd:deN s with
 | true=>rw[hd,if_pos rfl]at h2;exact h2 _ (by simp)
 | false=>rw[hd]at h2;rw[lI hd];exact h2 _ (by simp)
theorem wJ{s:VB}(h:dh s=true)(hd:deN s=true):dh (rsN s)=true/\ (rsN s).size<s.size:=by
 have h1:=(sG s).1 h;have h2:=h1.2;rw[Dc,hd,if_pos rfl]at h2;have hl:=congrArg List.length (jI hd);simp only[af,Z4]at hl;have hz: (rsN s).size<s.size:=by rw[<-ik,<-ik];omega
 exact⟨(sG _).2 ⟨by omega,fun l hl=>h2 l (by simp[hl])⟩,hz⟩
theorem tu{s:VB}(h:dh s=true):s.size<=100:=((sG s).1 h).1
theorem sS(d p:VB):jR d p=true↔∃r,bl p=bl d++47::r:=by
 unfold jR;simp only[Bool.and_eq_true,decide_eq_true_eq];constructor
 . rintro ⟨h1,h2,h3⟩
   refine⟨(bl p).drop (d.size+1),?_⟩;have hk:=List.getElem?_eq_some_iff.1 h3;have e:bl d= (bl p).take d.size:=by rw[<-h2,lV,List.drop_zero,h2]
   rw[e,<-hk.2,<-List.drop_eq_getElem_cons hk.1,List.take_append_drop]
 . rintro ⟨r,h⟩
   have hl:=congrArg List.length h;simp only[af,Z4,ik]at hl;refine⟨by omega,?_,?_⟩
   . apply nV
     rw[lV,h,List.drop_zero,List.take_append_of_le_length (by rw[ik];exact Nat.le_refl _),ZU (by rw[ik];exact Nat.le_refl _)]
   . rw[h,List.getElem?_append_right (by rw[ik];exact Nat.le_refl _),ik];simp
structure OkL(l:List Fl):Prop where
 path:∀f∈l,dh f.1=true
 data:∀f∈l,f.2.size<=60000
 few:l.length<=200
 nod: (l.map Prod.fst).Nodup
 nob:∀f∈l,∀g∈l,jR f.1 g.1=false
def inD(l:List Fl)(n:VB):List Fl:=(l.filter (fun f=>deN f.1 && decide (fsN f.1=n))).map (fun f=>(rsN f.1,f.2))
theorem mem_inD{l:List Fl}{n:VB}{f:Fl}:f∈inD l n↔∃g∈l,deN g.1=true/\fsN g.1=n/\f= (rsN g.1,g.2):=by
 unfold inD;rw[List.mem_map];constructor
 . rintro ⟨g,hg,rfl⟩
   rw[List.mem_filter,Bool.and_eq_true,decide_eq_true_eq]at hg;exact⟨g,hg.1,hg.2.1,hg.2.2,rfl⟩
 . rintro ⟨g,hg,h1,h2,rfl⟩
   exact⟨g,by rw[List.mem_filter,Bool.and_eq_true,decide_eq_true_eq];exact⟨hg,h1,h2⟩,rfl⟩
theorem TQ{s t:VB}(hs:deN s=true)(ht:deN t=true)(h1:fsN s=fsN t)(h2:rsN s=rsN t):s=t:=by
 apply nV
 rw[jI hs,jI ht,h1,h2]
theorem Hm(l:List Fl)(n:VB): (inD l n).length<=l.length:=by
 unfold inD;rw[List.length_map];exact List.length_filter_le _ _
theorem OkL.sub{l:List Fl}(h:OkL l)(n:VB):OkL (inD l n) where
 path f hf:=by
  obtain⟨g,hg,h1,_,rfl⟩:=mem_inD.1 hf;exact(wJ (h.path g hg) h1).1
 data f hf:=by
  obtain⟨g,hg,_,_,rfl⟩:=mem_inD.1 hf;exact h.data g hg
 few:=ZY (Hm l n) h.few
 nod:=by
  unfold inD;rw[List.map_map];have h1: (l.filter (fun f=>deN f.1 && decide (fsN f.1=n))).Pairwise (fun a b=>a.1≠b.1):=by
   have:=h.nod;unfold List.Nodup at this;rw[List.pairwise_map]at this;exact this.filter _
  unfold List.Nodup;rw[List.pairwise_map];refine h1.imp_of_mem ?_;intro a b ha hb hab he;rw[List.mem_filter,Bool.and_eq_true,decide_eq_true_eq]at ha hb;exact hab (TQ ha.2.1 hb.2.1 (ha.2.2.trans hb.2.2.symm) he)
 nob f hf g hg:=by
  obtain⟨f',hf',h1,h2,rfl⟩:=mem_inD.1 hf;obtain⟨g',hg',h3,h4,rfl⟩:=mem_inD.1 hg;rw[Bool.eq_false_iff];intro hb;obtain⟨r,hr⟩:=(sS _ _).1 hb;have:=h.nob f' hf' g' hg';rw[Bool.eq_false_iff]at this;refine this ((sS _ _).2 ⟨r,?_⟩);rw[jI h1,jI h3,h2,h4,hr];simp
def bJ(l:List Fl):List VB:=l.foldl (fun a f=>gq a (fsN f.1)) []
theorem Ha(l:List Fl):∀a:List VB,Asc a->Asc (l.foldl (fun a f=>gq a (fsN f.1)) a)/\∀x,x∈l.foldl (fun a f=>gq a (fsN f.1)) a↔x∈a∨∃f∈l,x=fsN f.1:=by
 induction l with
 | nil=>intro a h;exact⟨h,fun x=>by simp⟩
 | cons f l ih =>
   intro a h;rw[List.foldl_cons];obtain⟨h1,h2⟩:=ih (gq a (fsN f.1)) (Fe _ h);refine⟨h1,fun x=>?_⟩;rw[h2,xP];simp only[List.mem_cons];constructor
   . rintro ((h | h) | ⟨g,hg,h⟩)
     . exact .inl h
     . exact .inr ⟨f,.inl rfl,h⟩
     . exact .inr ⟨g,.inr hg,h⟩
   . rintro (h | ⟨g,rfl | hg,h⟩)
     . exact .inl (.inl h)
     . exact .inl (.inr h)
     . exact .inr ⟨g,hg,h⟩
theorem uh(l:List Fl):Asc (bJ l):=(Ha l [] List.Pairwise.nil).1
theorem nms_mem{l:List Fl}{x:VB}:x∈bJ l↔∃f∈l,x=fsN f.1:=by
 unfold bJ;rw[(Ha l [] List.Pairwise.nil).2 x];simp
theorem Qz(a:List VB)(s:VB): (gq a s).length<=a.length+1:=by
 by_cases h:a[iD a s]? =some s
 . rw[Fg h];omega
 . rw[Fh h];simp;omega
theorem Gs(l:List Fl): (bJ l).length<=l.length:=by
 have:∀(l:List Fl)(a:List VB),(l.foldl (fun a f=>gq a (fsN f.1)) a).length<=a.length+l.length:=by
  intro l
  induction l with
  | nil=>intro a;simp
  | cons f l ih=>intro a;rw[List.foldl_cons];have:=ih (gq a (fsN f.1));have:=Qz a (fsN f.1);simp only[Z4];omega
 have:=this l []
 simpa [bJ] using this
def eF(l:List Fl)(n:VB):Option VB:=(l.find? (fun f=>decide (f.1=n))).map Prod.snd
theorem jX{l:List Fl}(hn: (l.map Prod.fst).Nodup){n s:VB}:eF l n=some s↔ (n,s)∈l:=by
 unfold eF
 induction l with
 | nil=>simp
 | cons f l ih =>
   rw[List.map_cons,List.nodup_cons]at hn;by_cases e:f.1=n
   . rw[List.find?_cons_of_pos (by simpa using e)]
     simp only[Option.map_some,Option.some.injEq,List.mem_cons];constructor
     . rintro rfl;left;rw[<-e]
     . rintro (h | h)
       . rw[<-h]
       . exact absurd (List.mem_map_of_mem (f:=Prod.fst) h) (by rw[<-e];exact hn.1)
   . rw[List.find?_cons_of_neg (by simpa using e),ih hn.2,List.mem_cons]
     exact⟨.inr,fun h=>h.resolve_left (fun h=>e (by rw[<-h]))⟩
theorem look9_none{l:List Fl}{n:VB}:eF l n=none↔∀f∈l,f.1≠n:=by
 unfold eF;rw[Option.map_eq_none_iff,List.find?_eq_none];simp
def dU(s:VB):Ob:=⟨1,s,[],zD,[],⟨#[]⟩,0,⟨#[]⟩⟩
def dK(es:List Ent):Ob:=⟨2,⟨#[]⟩,es,zD,[],⟨#[]⟩,0,⟨#[]⟩⟩
theorem ET(k:Int)(d:VB)(es:List Ent):NoC ⟨k,d,es,zD,[],⟨#[]⟩,0,⟨#[]⟩⟩:=⟨rfl,rfl,rfl,rfl,rfl⟩
theorem pU{s:VB}(h:s.size<=60000):OkO (dU s) where
 f:= .blob (.inl rfl) rfl (ET _ _ _) (by show s.size<=_;omega)
 len:=by
  show(ak 1++ax (toL s)).length<=65536;unfold ax;rw[aQ]at h;have h1:=gy 5 1 (by omega);have h2:=gy 5 (toL s).length (by omega);simp only[af];omega
theorem D6:∀{es:List Ent},(∀e∈es,jh e)-> (es.flatMap aU).length<=52*es.length
 | [],_=>by simp
 | e::es,h=>by
   have ih:=D6 (es:=es) (fun x hx=>h x (by simp[hx]));have hn:=iZ (h e (by simp)).nm;rw[aQ]at hn;have h1:=gy 5 (toL e.nm).length (by omega);have h2:=gy 5 (if e.dir=true then 1 else 0) (by split <;> omega);rw[List.flatMap_cons,af,Z4];have: (aU e).length<=52:=by
    unfold aU ax;simp only[af,iE];omega
   omega
theorem sH{es:List Ent}(h:jU es):OkO (dK es) where
 f:= .tree rfl rfl (ET _ _ _) h
 len:=by
  show(ak 2++gX (dK es)).length<=65536;have h1:=gy 5 2 (by omega);have h2:=gy 5 es.length (by have:=h.few;omega);have h3:=D6 h.all;have h4:=h.few;have:gX (dK es)=ak es.length++es.flatMap aU:=by unfold gX;exact if_pos rfl
  rw[this];simp only[af];omega
theorem GU(x:Int):0<=IntKind.u64.wrap x/\IntKind.u64.wrap x<18446744073709551616:=by
 have e:IntKind.u64.wrap x=x % 18446744073709551616:=rfl;rw[e];omega
theorem Hq{g:Int->Int->Int}(hg:∀a b,0<=g a b/\g a b<18446744073709551616)(l:VD):0<=dgF g l/\dgF g l<18446744073709551616:=by
 unfold dgF;have:∀(l:VD)(z:Int),0<=z/\z<18446744073709551616->0<=l.foldl (fun h b=>g h (IntKind.u64.wrap (b.toNat:Int))) z/\l.foldl (fun h b=>g h (IntKind.u64.wrap (b.toNat:Int))) z<18446744073709551616:=by
  intro l
  induction l with
  | nil=>intro z h;exact h
  | cons c l ih=>intro z _;exact ih _ (hg _ _)
 exact this l _ ⟨by decide,by decide⟩
theorem eY(l:VD):WfD (ofB l):=by
 have h1:=Hq (g:=dg1) (fun a b=>GU _) l;have h2:=Hq (g:=dg2) (fun a b=>GU _) l;unfold ofB WfD;split
 . exact⟨by decide,by decide,by decide,by decide⟩
 . exact⟨h1.1,h1.2,h2.1,h2.2⟩
theorem jL(l:VD):ofB l≠zD:=by
 unfold ofB zD;split
 . decide
 . rename_i h
   intro e;rw[Prod.mk.injEq]at e;exact h e
def wt(l:List Fl):Nat:=(l.map (fun f=>f.1.size+1)).sum
def oz(l:List Fl)(n:VB):List Fl:=l.filter (fun f=>decide (fsN f.1=n))
def lD(l:List Fl)(ns:List VB):List Fl:=l.filter (fun f=>!iH ns (fsN f.1))
theorem kQ(f:Fl)(l:List Fl):wt (f::l)=f.1.size+1+wt l:=by simp[wt]
theorem wY(ns:List VB)(n x:VB):iH (ns++ [n]) x= (iH ns x || decide (x=n)):=by
 rw[Bool.eq_iff_iff,pI,Bool.or_eq_true,pI,List.mem_append,ae,decide_eq_true_eq]
theorem QV(l:List Fl){ns:List VB}{n:VB}(hn:n∉ns):wt (lD l ns)=wt (lD l (ns++ [n]))+wt (oz l n):=by
 induction l with
 | nil=>rfl
 | cons f l ih =>
   unfold lD oz at *;by_cases h2:fsN f.1=n
   . have h1:iH ns (fsN f.1)=false:=by rw[Bool.eq_false_iff];intro h;exact hn (by rw[<-h2];exact(pI _ _).1 h)
     rw[List.filter_cons_of_pos (by simp[h1]),List.filter_cons_of_neg (by rw[wY];simp[h2]),List.filter_cons_of_pos (by simpa using h2),kQ,kQ,ih];omega
   . cases h1:iH ns (fsN f.1) with
     | true=>rw[List.filter_cons_of_neg (by simp[h1]),List.filter_cons_of_neg (by rw[wY];simp[h1]),List.filter_cons_of_neg (by simpa using h2),ih]
     | false=>rw[List.filter_cons_of_pos (by simp[h1]),List.filter_cons_of_pos (by rw[wY];simp[h1,h2]),List.filter_cons_of_neg (by simpa using h2),kQ,kQ,ih];omega
theorem IA(l:List Fl)(n:VB):wt (inD l n)+ (inD l n).length<=wt (oz l n):=by
 induction l with
 | nil=>simp[inD,wt]
 | cons f l ih =>
   unfold inD oz at *;by_cases h2:fsN f.1=n
   . rw[List.filter_cons_of_pos (p:=fun f:Fl=>decide (fsN f.1=n)) (by simpa using h2),kQ]
     cases hd:deN f.1 with
     | true =>
       rw[List.filter_cons_of_pos (by simp[hd,h2]),List.map_cons,kQ,Z4];have hl:=congrArg List.length (jI hd);simp only[af,Z4,ik]at hl;simp only;omega
     | false =>
       rw[List.filter_cons_of_neg (by simp[hd])];omega
   . rw[List.filter_cons_of_neg (p:=fun f:Fl=>decide (fsN f.1=n)) (by simpa using h2),List.filter_cons_of_neg (by simp[h2])]
     exact ih
theorem Ut{l:List Fl}{f:Fl}(h:f∈l):1<=wt l:=by
 induction l with
 | nil=>cases h
 | cons g l ih=>rw[kQ];omega
theorem Ub(l:List Fl):wt (lD l [])=wt l:=by
 unfold lD;rw[List.filter_eq_self.2 (fun f _=>by simp[iH])]
theorem UA{l:List Fl}{k:Nat}(h:∀f∈l,f.1.size<=k):wt l<= (k+1)*l.length:=by
 induction l with
 | nil=>simp[wt]
 | cons f l ih =>
   rw[kQ,Z4,Nat.mul_succ];have:=ih (fun g hg=>h g (by simp[hg]));have:=h f (by simp);omega
theorem xN{p q:List Itm}{o:Ob}(h:bC p o=some q):q.length<=p.length+1:=PX h
noncomputable def dP(g:List Itm->List Fl->Option (List Itm×Dig))(l:List Fl):List Itm->List VB->List Ent->Option (List Itm×List Ent)
 | p,[],es=>some (p,es)
 | p,n::r,es=>match eF l n with
   | some s=>match bC p (dU s) with
     | none=>none
     | some q=>dP g l q r (es++ [⟨n,false,dgO (dU s)⟩])
   | none=>match g p (inD l n) with
     | none=>none
     | some (q,d)=>dP g l q r (es++ [⟨n,true,d⟩])
noncomputable def sto:Nat->List Itm->List Fl->Option (List Itm×Dig)
 | 0,_,_=>none
 | k+1,p,l=>match dP (sto k) l p (bJ l) [] with
   | none=>none
   | some (q,es)=>match bC q (dK es) with
     | none=>none
     | some r=>some (r,dgO (dK es))
theorem pq{g:List Itm->List Fl->Option (List Itm×Dig)}{l:List Fl}{p q:List Itm}{n s:VB}{r:List VB}{es:List Ent}(h:eF l n=some s)(hp:bC p (dU s)=some q) :
  dP g l p (n::r) es=dP g l q r (es++ [⟨n,false,dgO (dU s)⟩]):=by rw[dP,h];simp only[hp]
theorem BZ{g:List Itm->List Fl->Option (List Itm×Dig)}{l:List Fl}{p:List Itm}{n s:VB}{r:List VB}{es:List Ent}(h:eF l n=some s)(hp:bC p (dU s)=none) :
  dP g l p (n::r) es=none:=by rw[dP,h];simp only[hp]
theorem xU{g:List Itm->List Fl->Option (List Itm×Dig)}{l:List Fl}{p q:List Itm}{d:Dig}{n:VB}{r:List VB}{es:List Ent}(h:eF l n=none)(hp:g p (inD l n)=some (q,d)) :
  dP g l p (n::r) es=dP g l q r (es++ [⟨n,true,d⟩]):=by rw[dP,h];simp only[hp]
theorem DY{g:List Itm->List Fl->Option (List Itm×Dig)}{l:List Fl}{p:List Itm}{n:VB}{r:List VB}{es:List Ent}(h:eF l n=none)(hp:g p (inD l n)=none) :
  dP g l p (n::r) es=none:=by rw[dP,h];simp only[hp]
structure StoAt(k:Nat)(l:List Fl)(p0:List Itm)(j:Nat)(p:List Itm)(es:List Ent):Prop where
 eq:dP (sto k) l p0 (bJ l) []=dP (sto k) l p ((bJ l).drop j) es
 ok:PlOk p
 nm:es.map Ent.nm= (bJ l).take j
 all:∀e∈es,jh e
 sub:subP p0 p
 len:p.length+wt (lD l ((bJ l).take j))<=p0.length+wt l
theorem StoAt.start{k:Nat}{l:List Fl}{p:List Itm}(h:PlOk p):StoAt k l p 0 p []:=⟨rfl,h,rfl,(fun e he=>by cases he),subP.refl _,by rw[List.take_zero,Ub];omega⟩
theorem yg{l:List Fl}{j:Nat}{n:VB}(hn: (bJ l)[j]? =some n):wt (lD l ((bJ l).take j))=wt (lD l ((bJ l).take (j+1)))+wt (oz l n):=by
 rw[aV hn];refine QV l ?_;intro hm;have hnd:=(uh l).nodup;obtain⟨i,hi,e⟩:=List.getElem_of_mem hm;rw[List.length_take]at hi;rw[List.getElem_take]at e;obtain⟨h1,h2⟩:=List.getElem?_eq_some_iff.1 hn;exact List.pairwise_iff_getElem.1 hnd i j (by omega) h1 (by omega) (e.trans h2.symm)
theorem StoAt.drop{k:Nat}{l:List Fl}{p0 p:List Itm}{j:Nat}{es:List Ent}(h:StoAt k l p0 j p es){n:VB}(hn: (bJ l)[j]? =some n):dP (sto k) l p0 (bJ l) []=dP (sto k) l p (n:: (bJ l).drop (j+1)) es:=by
 rw[h.eq,yT hn]
theorem zJ{l:List Fl}(hl:OkL l){j:Nat}{n:VB}(hn: (bJ l)[j]? =some n):nameB n=true:=by
 obtain⟨f,hf,rfl⟩:=nms_mem.1 (Z7 hn);exact rZ (hl.path f hf)
theorem StoAt.file{k:Nat}{l:List Fl}{p0 p q:List Itm}{j:Nat}{es:List Ent}(h:StoAt k l p0 j p es)(hl:OkL l){n s:VB}(hn: (bJ l)[j]? =some n)(hs:eF l n=some s)(hp:bC p (dU s)=some q) :
  StoAt k l p0 (j+1) q (es++ [⟨n,false,dgO (dU s)⟩]) where
 eq:=by rw[h.drop hn,pq hs hp]
 ok:=lN h.ok (pU (hl.data _ ((jX hl.nod).1 hs))) hp
 nm:=by rw[List.map_append,h.nm,aV hn];rfl
 all e he:=by
  rcases List.mem_append.1 he with he | he
  . exact h.all e he
  . rw[ae]at he;subst he
    exact⟨zJ hl hn,eY _,jL _⟩
 sub:=h.sub.trans (kz h.ok hp)
 len:=by
  have h1:=h.len;rw[yg hn]at h1;have h2:=xN hp;have hm:=(jX hl.nod).1 hs;obtain⟨f,_,e⟩:=nms_mem.1 (Z7 hn);have h3:1<=wt (oz l n):=Ut (f:=(n,s)) (List.mem_filter.2 ⟨hm,by rw[decide_eq_true_eq];show fsN n=n;rw[e];exact(zh (yj _)).1⟩);omega
theorem StoAt.filex{k:Nat}{l:List Fl}{p0 p:List Itm}{j:Nat}{es:List Ent}(h:StoAt k l p0 j p es){n s:VB}(hn: (bJ l)[j]? =some n)(hs:eF l n=some s)(hp:bC p (dU s)=none) :
  sto (k+1) p0 l=none:=by rw[sto,h.drop hn,BZ hs hp]
structure qV(p q:List Itm)(d:Dig)(l:List Fl):Prop where
 ok:PlOk q
 sub:subP p q
 wf:WfD d
 nz:d≠zD
 len:q.length<=p.length+wt l+1
theorem StoAt.dir{k:Nat}{l:List Fl}{p0 p q:List Itm}{j:Nat}{es:List Ent}(h:StoAt k l p0 j p es)(hl:OkL l){n:VB}{d:Dig}(hn: (bJ l)[j]? =some n)(hs:eF l n=none)(hp:sto k p (inD l n)=some (q,d))(hr:qV p q d (inD l n))(hne:inD l n≠ []) :
  StoAt k l p0 (j+1) q (es++ [⟨n,true,d⟩]) where
 eq:=by rw[h.drop hn,xU hs hp]
 ok:=hr.ok
 nm:=by rw[List.map_append,h.nm,aV hn];rfl
 all e he:=by
  rcases List.mem_append.1 he with he | he
  . exact h.all e he
  . rw[ae]at he;subst he
    exact⟨zJ hl hn,hr.wf,hr.nz⟩
 sub:=h.sub.trans hr.sub
 len:=by
  have h1:=h.len;rw[yg hn]at h1;have h2:=hr.len;have h3:=IA l n;have h4:0< (inD l n).length:=List.length_pos_iff.2 hne;omega
theorem StoAt.dirx{k:Nat}{l:List Fl}{p0 p:List Itm}{j:Nat}{es:List Ent}(h:StoAt k l p0 j p es){n:VB}(hn: (bJ l)[j]? =some n)(hs:eF l n=none)(hp:sto k p (inD l n)=none) :
  sto (k+1) p0 l=none:=by rw[sto,h.drop hn,DY hs hp]
theorem FB{es:List Ent}(h:Asc (es.map Ent.nm)){j:Nat}{a b:Ent}(ha:es[j]? =some a)(hb:es[j+1]? =some b):less a.nm b.nm=true:=by
 unfold Asc at h;rw[List.pairwise_map,List.pairwise_iff_getElem]at h;obtain⟨h1,rfl⟩:=List.getElem?_eq_some_iff.1 ha;obtain⟨h2,rfl⟩:=List.getElem?_eq_some_iff.1 hb;exact h j (j+1) h1 h2 (by omega)
theorem StoAt.es{k:Nat}{l:List Fl}{p0 p:List Itm}{j:Nat}{es:List Ent}(h:StoAt k l p0 j p es)(hl:OkL l):jU es where
 few:=by
  have h1:=congrArg List.length h.nm;rw[List.length_map,List.length_take]at h1;have:=Gs l;have:=hl.few;omega
 all:=h.all
 asc j' a b ha hb:=FB (by rw[h.nm];exact(uh l).sublist (List.take_sublist _ _)) ha hb
theorem StoAt.done{k:Nat}{l:List Fl}{p0 p q:List Itm}{j:Nat}{es:List Ent}(h:StoAt k l p0 j p es)(hj: (bJ l).length<=j)(hp:bC p (dK es)=some q):sto (k+1) p0 l=some (q,dgO (dK es)):=by
 rw[sto,h.eq,List.drop_of_length_le hj];simp only[dP,hp]
theorem StoAt.donex{k:Nat}{l:List Fl}{p0 p:List Itm}{j:Nat}{es:List Ent}(h:StoAt k l p0 j p es)(hj: (bJ l).length<=j)(hp:bC p (dK es)=none):sto (k+1) p0 l=none:=by
 rw[sto,h.eq,List.drop_of_length_le hj];simp only[dP,hp]
theorem StoAt.res{k:Nat}{l:List Fl}{p0 p q:List Itm}{j:Nat}{es:List Ent}(h:StoAt k l p0 j p es)(hl:OkL l)(hp:bC p (dK es)=some q):qV p0 q (dgO (dK es)) l :=
 ⟨lN h.ok (sH (h.es hl)) hp,h.sub.trans (kz h.ok hp),eY _,jL _,by have:=xN hp;have:=h.len;omega⟩
theorem StoAt.elen{k:Nat}{l:List Fl}{p0 p:List Itm}{j:Nat}{es:List Ent}(h:StoAt k l p0 j p es)(hj:j<= (bJ l).length):es.length=j:=by
 have:=congrArg List.length h.nm;rw[List.length_map,List.length_take]at this;omega
theorem StoAt.plen{k:Nat}{l:List Fl}{p0 p:List Itm}{j:Nat}{es:List Ent}(h:StoAt k l p0 j p es):p.length<=p0.length+wt l:=by have:=h.len;omega
theorem Iz{l:List Fl}{n:VB}(hn:n∈bJ l)(h:eF l n=none):inD l n≠ []:=by
 obtain⟨f,hf,rfl⟩:=nms_mem.1 hn;intro e;cases hd:deN f.1 with
 | true =>
   have: (rsN f.1,f.2)∈inD l (fsN f.1):=mem_inD.2 ⟨f,hf,hd,rfl,rfl⟩;rw[e]at this;cases this
 | false=>exact look9_none.1 h f hf (lI hd).symm
end Go.Proofs.YtknefelegjlgnaaGreatDoor
namespace Go.Proofs
open Go.Shelf
def Tryz.keysF_ren:Go.Shelf.Ren:=⟨fun | 7=>200 | 10=>261 | n=>n,fun | 23=>274 | 26=>9 | 3=>82 | 28=>240 | 0=>0 | 27=>239 | 33=>195 | 4=>4 | n=>n,fun | n=>n⟩
theorem Tryz.keysF:Go.Proofs.SlLaysZ.n7 Tryz.prog Tryz.keysF_ren:={
 mixed:=by kernel_rfl
 f7:=⟨Tryz.f200.name,by decide,Tryz.func200.trans (congrArg some (by kernel_rfl))⟩
 f10:=⟨Tryz.f261.name,by decide,Tryz.func261.trans (congrArg some (by kernel_rfl))⟩
 t0:=Tryz.underlying0
 a0:=Tryz.isAgg0
 z0:=Tryz.sizeOf0
 v0:=Tryz.zeroValue0
 t4:=Tryz.underlying4
 a4:=Tryz.isAgg4
 z4:=Tryz.sizeOf4
 v4:=Tryz.zeroValue4
 t23:=Tryz.underlying274
 a23:=Tryz.isAgg274
 z23:=Tryz.sizeOf274
 v23:=Tryz.zeroValue274
 t26:=Tryz.underlying9
 a26:=Tryz.isAgg9
 z26:=Tryz.sizeOf9
 v26:=Tryz.zeroValue9
 t27:=Tryz.underlying239
 a27:=Tryz.isAgg239
 z27:=Tryz.sizeOf239
 v27:=Tryz.zeroValue239
 t28:=Tryz.underlying240
 a28:=Tryz.isAgg240
 z28:=Tryz.sizeOf240
 v28:=Tryz.zeroValue240
 t33:=Tryz.underlying195
 a33:=Tryz.isAgg195
 z33:=Tryz.sizeOf195
 v33:=Tryz.zeroValue195}
def Tryz.keysB_ren:Go.Shelf.Ren:=⟨fun | 7=>202 | 10=>262 | n=>n,fun | 23=>273 | 26=>9 | 3=>63 | 28=>240 | 0=>0 | 27=>239 | 33=>195 | 4=>4 | n=>n,fun | n=>n⟩
theorem Tryz.keysB:Go.Proofs.SlLaysZ.n7 Tryz.prog Tryz.keysB_ren:={
 mixed:=by kernel_rfl
 f7:=⟨Tryz.f202.name,by decide,Tryz.func202.trans (congrArg some (by kernel_rfl))⟩
 f10:=⟨Tryz.f262.name,by decide,Tryz.func262.trans (congrArg some (by kernel_rfl))⟩
 t0:=Tryz.underlying0
 a0:=Tryz.isAgg0
 z0:=Tryz.sizeOf0
 v0:=Tryz.zeroValue0
 t4:=Tryz.underlying4
 a4:=Tryz.isAgg4
 z4:=Tryz.sizeOf4
 v4:=Tryz.zeroValue4
 t23:=Tryz.underlying273
 a23:=Tryz.isAgg273
 z23:=Tryz.sizeOf273
 v23:=Tryz.zeroValue273
 t26:=Tryz.underlying9
 a26:=Tryz.isAgg9
 z26:=Tryz.sizeOf9
 v26:=Tryz.zeroValue9
 t27:=Tryz.underlying239
 a27:=Tryz.isAgg239
 z27:=Tryz.sizeOf239
 v27:=Tryz.zeroValue239
 t28:=Tryz.underlying240
 a28:=Tryz.isAgg240
 z28:=Tryz.sizeOf240
 v28:=Tryz.zeroValue240
 t33:=Tryz.underlying195
 a33:=Tryz.isAgg195
 z33:=Tryz.sizeOf195
 v33:=Tryz.zeroValue195}
end Go.Proofs
namespace Go.Proofs.YtknefelegjlgnaaGreatDoor
open Go.RowKit
section
open Go.Maps
attribute [local go_sem] Oper.semAt_some
theorem bV{W:VA}{base size n:Nat}{e:TypeId}{v:VC}{xs:List VC}(h:W.ownsRow base e size v n xs){k:Nat}(hk:v.ownBlock=some k):base<=k/\∃cur,W.heap[k]? =some (.cells cur e (0,0)):=by
 rcases h.2 with ⟨rfl,_⟩ | ⟨g,cap,cur,rfl,h1,h2,_⟩
 . cases hk
 . cases hk;exact⟨h1,cur,h2⟩
theorem jc{W W':VA}{base size n:Nat}{e:TypeId}{v:VC}{xs:List VC}(h:W.ownsRow base e size v n xs)(hk:∀k,v.ownBlock=some k->W'.heap[k]? =W.heap[k]?):W'.ownsRow base e size v n xs:=by
 refine⟨h.1,?_⟩;rcases h.2 with h0 | ⟨g,cap,cur,rfl,h1,h2,h3⟩
 . exact .inl h0
 . exact .inr ⟨g,cap,cur,rfl,h1,(hk g rfl).trans h2,h3⟩
end
section
open Go.RowKit Go.Maps Go.Sort Go.Shelf
attribute [local go_sem] Oper.semAt_some
theorem LU{w:VA}{P:Program}{k:TypeId}{b N:Nat}{D:DataW VC}(hown:w.ownsMap P k jl b N D)(hk:P.underlying k=some .string): (strKeys D).Nodup:=by
 obtain⟨es,hD,hpw,_⟩:=hown.entries (string_keyed hk);obtain⟨es',hD',hko⟩:=hown.keysOf;obtain rfl:es=es':=by rw[hD]at hD';simpa using hD'
 subst hD;show(es.map fun p=>strOf p.1).Nodup;refine List.pairwise_map.2 (hpw.imp_of_mem fun {p q} hp' hq' hne e=>hne ?_);obtain⟨v,hv⟩:=hko p hp';obtain⟨u,hu⟩:=hko q hq';obtain⟨a,_,ha,_⟩:=Maps.keyOf_str hk hv;obtain⟨b,_,hb,_⟩:=Maps.keyOf_str hk hu;rw[ha,hb]at e ⊢;exact congrArg _ e
structure kG(g:VB->Option VC)(N:Nat)(ks:List VB):Prop where
 nod:ks.Nodup
 mem:∀x,x∈ks↔ (g x).isSome=true
 few:ks.length<=N
theorem Rm.keys{w:VA}{P:Program}{k:TypeId}{b N:Nat}{g:VB->Option VC}(h:Rm w P k b N g)(hk:P.underlying k=some .string) :
  ∃D:DataW VC,w.ownsMap P k jl b N D/\Maps.size D<=N/\∀ss:List (List UInt8),ss.Perm (strKeys D)/\ (∀x,x∈ss↔Maps.has D (.string x)=true)->kG g N (ss.map ub):=by
 obtain⟨D,h1,h2⟩:=h;have hsz:Maps.size D<=N:=h1.size_le;refine⟨D,h1,hsz,fun ss hs=>?_⟩;have hnd:=(hs.1.nodup_iff).2 (LU h1 hk);refine⟨?_,fun x=>?_,?_⟩
 . unfold List.Nodup
   rw[List.pairwise_map];exact hnd.imp (fun hne e=>hne (by have:=congrArg bl e;simpa [bl,ub] using this))
 . rw[<-(h2 x).1,<-hs.2,List.mem_map]
   constructor
   . rintro ⟨l,hl,rfl⟩;simpa [ub] using hl
   . intro h;exact⟨bl x,h,by rw[qH]⟩
 . rw[List.length_map,hs.1.length_eq]
   obtain⟨es,rfl,_⟩:=h1.keysOf;have: (strKeys (DataW.map es)).length=Maps.size (DataW.map es):=by simp[strKeys,Maps.size]
   omega
theorem Jz{w:VA}{base size n b:Nat}{e t:TypeId}{v u:VC}{xs:List VC}(h:w.ownsRow base e size v n xs)(hb:w.heap[b]? =some (.cells #[u] t (0,0)))(x:VC)(hne:e≠t:=by decide): (w.setCell ⟨b,0,none⟩ x).ownsRow base e size v n xs:=by
 refine h.kept (row:=some b) ⟨rfl,rfl,rfl,by simp,fun k _ hk=>Z8 _ _ _ k (fun e=>hk (by rw[e]))⟩ ?_;cases hv:v.ownBlock with
 | none=>exact .inl rfl
 | some k =>
   refine .inr fun he=>?_;obtain⟨_,cur,hc⟩:=bV h hv;cases he
   rw[hb]at hc;cases hc
   exact hne rfl
theorem Ir(x:List UInt8):encStr x= .string (ub x):=rfl
theorem vZ(gf:Nat)(lb:Array VC)(eg:∀args w,(callFunc gf args).run Tryz.prog w= .ok (.enter gf args) w)(S Sp:List (List UInt8)->Prop)(N:Nat)(A:OA)(n c:Nat)(l0:List VB)(w0 w:VA)
  (hrow:w.ownsRow w0.heap.size 9 1 (.slice A n c) n (strs l0)) (hbw:VE w0 w) (hn:n+N<=1000000) (hseq:SeqStops Fence.wide 5 Tryz.prog gf lb encStr S Sp N w) :
  Calls Tryz.prog 201 #[.slice A n c,.func (.func gf) #[] lb] w fun e w' =>
   ∃A' c' ss,e= .returned (.slice A' (n+ss.length) c')/\S ss/\w'.ownsRow w0.heap.size 9 1 (.slice A' (n+ss.length) c') (n+ss.length) (strs (l0++ss.map ub))/\VE w0 w':=by
 refine(callsIn_wide (n:=6)).1 ?_;have hf1:Fence.wide.fn gf:=trivial;refine callsIn_of_wp_marks Tryz.func201 rfl trivial ?_ rfl;simp only[Tryz.ntmps201,List.size_toArray,Z4,List.length_nil,Nat.reduceAdd,Nat.reduceSub,Array.replicate_succ,Array.replicate_zero,List.push_toArray,List.append_toArray,List.nil_append,List.cons_append];have f:=ai hrow;have s:=ai hbw;have g:=ai hseq;have i:=hbw.size;clear hrow hbw hseq
 gi_wp2
 obtain⟨W2,hW2⟩:=NX9 (w.alloc (.cells #[.slice A n c] 22))
 have hb2:VE w0 W2:=by rw[<-hW2];exact s.o.alloc i _
 have hb2':VE w W2:=by rw[<-hW2];exact(ah _ w).alloc aj _
 have g1:W2.heap[w.heap.size]? =some (.cells #[.slice A n c] 22 (0,0)):=by rw[<-hW2];exact World.alloc_heap_new w _
 have hy2:W2.heap.size=w.heap.size+1:=by rw[<-hW2];simp
 have hr2:W2.ownsRow w0.heap.size 9 1 (.slice A n c) n (strs l0):=by
  rw[<-hW2];exact f.o.kept (World.grownBy_alloc w _ none) (by cases hv: (Value.slice A n c).ownBlock with | none=>exact .inl rfl | some k=>exact .inr (by simp))
 rw[hW2];clear hW2;refine wpIn_rangeFunc_ownF (α:=List UInt8) (F:=Fence.wide) (n:=6) rfl (by omega) (gf:=gf) (lb:=lb) rfl trivial eg (encs:=fun x=> #[encStr x]) (Kp:=KeepsWalks) (S:=S) (Sp:=Sp) (N:=N) (w0:=w) g.o (fun h k=>walksK_t h k) (fun W l o o' h1 h2 h3 h4=>walksK_b (w:=W2) W l o o' h1 h2 h3 h4) hb2' (fun _=>rfl)
  (fun pre W=>∃a cq,W.heap[w.heap.size]? =some (.cells #[.slice a (n+pre.length) cq] 22 (0,0))/\W.ownsRow w0.heap.size 9 1 (.slice a (n+pre.length) cq) (n+pre.length) (strs (l0++pre.map ub))/\VE w0 W)
  (fun _ _ _=>False)
  ?hI ?hIx ⟨A,c,g1,by simpa using hr2,hb2⟩
  (fun x=>{tmps:=#[.slice A n c,.func (.func gf) #[] lb,.pointer (some ⟨w.heap.size,0,none⟩),undef,.slice none 0 0,encStr x,.func (.func gf) #[] lb,encStr x,undef,undef,undef,undef,undef],defers:= []}) ?assign ?body ?done ?stop
 case hI =>
  rintro pre A1 C row ⟨a,cq,h0,h1,h2⟩ hg hr;refine⟨a,cq,DX h0 hg (fun e=>?_),h1.kept hg ?_,h2.grown hg h2.size (fun k e=>?_)⟩
  . have:=(hr _ e.symm).1;omega
  . cases hv: (Value.slice a (n+pre.length) cq).ownBlock with
    | none=>exact .inl rfl
    | some k =>
      refine .inr fun e=>?_;obtain⟨_,cur,m⟩:=bV h1 hv;obtain⟨_,o,ho,hc⟩:=hr _ e.symm;rw[m]at ho;cases ho;cases hc
  . have:=(hr _ e).1;omega
 case hIx=>rintro c pre A1 C row hf _ _;exact hf
 case stop=>rintro D c pre W hD hS hf hK;exact hf.elim
 case assign =>
  intro l x W K hK;have HKK:=ai hK;clear hK;simp only[Ir]
  gi_wp2
  exact HKK.o
 case body =>
  rintro l pre y W ⟨a,cq,h0,h1,h2⟩ hlen;have c0:=cell_of_one h0;have f0:=free_of_one h0;have H0:=ai h0;have H1:=ai h1;have H2:=ai h2;have t:w.heap.size<W.heap.size:=(Array.getElem?_eq_some_iff.1 h0).1;have v:=h2.size;obtain⟨i0,hi,hz0,hz1',hz2'⟩:=info_parts kD;have Hi:=ai hi;have z:=ai hz0;have B:=ai hz1';have E:=ai hz2';clear h0 h1 h2 g1 hb2 hb2' hr2 hi hz0 hz1' hz2';simp only[Ir]
  gi_wp2_with (gi_at_builtin;refine aO ?_)
  refine aH ?_;refine oG (base:=w0.heap.size) (size:=1) rfl (.tmp 8) (.tmp 10) 22 rfl 9 i0 _ 16 Tryz.underlying22 Hi.o z.o B.o E.o rfl (by decide) (.slice a (n+pre.length) cq) (n+pre.length) (strs (l0++pre.map ub)) rfl ?own (W.heap.size+1) _ 1 _ [.string (ub y)] rfl ?nw (by simp[Value.oneCell']) ?l1 ?l2 ?l3 ?_
  case own=>exact H1.o.kept (World.grownBy_alloc W _ none) (by cases hv: (Value.slice a (n+pre.length) cq).ownBlock with | none=>exact .inl rfl | some k=>exact .inr (by simp))
  case nw=>exact⟨rfl,fun _=>⟨W.heap.size,0,rfl,Nat.lt_succ_self _,fun j u hu=>by have:=QC W 9 (ub y) j u hu;rwa[Addr.add_lit]at this⟩⟩
  case l1=>unfold maxLen;omega
  case l2=>omega
  case l3=>simp;omega
  intro A4 c4 w4 q hg4 J L;have G:Hid (w4.ownsRow w0.heap.size 9 1 (.slice A4 (n+ (pre.length+1)) c4) (n+ (pre.length+1)) (strs (l0++ (pre++ [y]).map ub))):=by
   show World.ownsRow _ _ _ _ _ _ _;have e:strs (l0++ (pre++ [y]).map ub)=strs (l0++pre.map ub)++ [.string (ub y)]:=by simp[strs]
   rw[e];exact q
  have d:Hid (∀k,(Value.slice a (n+pre.length) cq).ownBlock=some k->w0.heap.size<=k/\∃cur,W.heap[k]? =some (.cells cur 9 (0,0))):=fun k hk=>bV H1.o hk;have H:Hid (∀k,(Value.slice a (n+pre.length) cq).ownBlock=some k->k≠w.heap.size):=fun k hk e=>by
   obtain⟨_,cur,hc⟩:=d.o k hk;rw[e,H0.o]at hc;cases hc
  have b:Hid (w4.heap[w.heap.size]? =some (.cells #[.slice a (n+pre.length) cq] 22 (0,0))):=DX ((Below.heap_alloc W _ _ t).trans H0.o) hg4 (fun e=>H.o _ e.symm rfl);have M:=cell_of_one b.o;have O:=free_of_one b.o;have HB4:VF w0 w4:=(H2.o.alloc v _).grown hg4 (by simp;omega) (fun k hk=>(d.o k hk).1);have r:Hid (KeepsOthers W (w4.setCell ⟨w.heap.size,0,none⟩ (.slice A4 (n+ (pre.length+1)) c4))):=((KeepsOthers.alloc W _).trans (KeepsOthers.of_grownBy hg4 (fun j o hj ho=>by
   obtain⟨_,cur,hc⟩:=d.o j hj;rw[(Below.heap_alloc W _ j (Array.getElem?_eq_some_iff.1 hc).1).trans hc]at ho;cases ho;rfl))).trans (KeepsOthers.setCell _ _ _)
  have I:Hid ((w4.setCell ⟨w.heap.size,0,none⟩ (.slice A4 (n+ (pre.length+1)) c4)).ownsRow w0.heap.size 9 1 (.slice A4 (n+ (pre.length+1)) c4) (n+ (pre.length+1)) (strs (l0++ (pre++ [y]).map ub))):=Jz G.o b.o _;have hea:n+pre.length+1=n+ (pre.length+1):=by omega
  clear q hg4 c0 f0
  gi_wp2
  refine⟨r.o,r.o.walks,A4,c4,?_,?_,?_⟩
  . rw[af];exact one_setCell b.o
  . rw[af];exact I.o
  . exact HB4.o.setCell (p:=⟨w.heap.size,0,none⟩) i _
 case done =>
  rintro D xs W hD hS ⟨a,cq,h0,h1,h2⟩ hK;have c0:=cell_of_one h0;have H1:=ai h1;have HK:=ai hK;have H2:=ai h2;have HS:=ai hS;clear h0 h1 h2 hK hS g1 hb2 hb2' hr2
  gi_wp2
  refine⟨by simp,.inl ⟨_,_,rfl,run_takeDeferred HK.o,?_⟩⟩;refine⟨_,results_tmp rfl _ _ _,a,cq,xs,rfl,HS.o,?_,?_⟩
  . exact H1.o.kept (grownBy_putObj' _ _ _) (by
      cases hv: (Value.slice a (n+xs.length) cq).ownBlock with
      | none=>exact .inl rfl
      | some k =>
        refine .inr fun e=>?_;cases e
        obtain⟨_,cur,hc⟩:=bV H1.o hv;rw[HK.o]at hc;cases hc)
  . exact H2.o.grown (grownBy_putObj' _ _ _) H2.o.size (fun k e=>by cases e;omega)
theorem N8(b:Nat)(w:VA):Calls Tryz.prog 200 #[.map (some b)] w fun e w'=>e= .returned (.func (.func 261) #[] #[.pointer (some ⟨w.heap.size,0,none⟩)])/\w'=w.alloc (.cells #[.map (some b)] 274):=by
 go_enter Tryz.func200,Tryz.ntmps200
 go_wp2_with fail;go_ret
 exact⟨rfl,rfl⟩
theorem Pe{Bm b N:Nat}{g:VB->Option VC}{w:VA}(hM:Rm w Tryz.prog 9 b N g)(hc:w.cell? ⟨Bm,0,none⟩=some (.map (some b)))(hB:Bm<w.heap.size) :
  ∃S Sp,SeqStops Fence.wide 5 Tryz.prog 261 #[.pointer (some ⟨Bm,0,none⟩)] encStr S Sp N w/\∀ss,S ss->kG g N (ss.map ub):=by
 obtain⟨D,h1,h2,h3⟩:=hM.keys Tryz.underlying9;refine⟨_,_,fun l J Jx W hW hJ hJx hY h0=>AnyZ.keys_stops (ρ:=Tryz.keysF_ren) {Tryz.keysF with} Fence.wide 5 trivial rfl (by omega) Bm b N D w hB hc h1 l J Jx W hW hJ hJx (fun pre x W1 hj hl=>hY pre x W1 hj (Nat.lt_of_lt_of_le hl h2)) h0,h3⟩
theorem Uz:∀args w,(callFunc 261 args).run Tryz.prog w= .ok (.enter 261 args) w:=enters_of Tryz.func261 (by kernel_rfl) rfl
def UE(g:VB->Option VC)(N n:Nat)(l0:List VB)(w0:VA)(e:Ending)(w':VA):Prop :=
 ∃A c ks,e= .returned (.slice A (n+ks.length) c)/\kG g N ks/\w'.ownsRow w0.heap.size 9 1 (.slice A (n+ks.length) c) (n+ks.length) (strs (l0++ks))/\VE w0 w'
theorem QH(Bm b N:Nat)(g:VB->Option VC)(A:OA)(n c:Nat)(l0:List VB)(w0 w:VA)(hM:Rm w Tryz.prog 9 b N g)(hc:w.cell? ⟨Bm,0,none⟩=some (.map (some b)))(hB:Bm<w.heap.size)
  (hrow:w.ownsRow w0.heap.size 9 1 (.slice A n c) n (strs l0)) (hbw:VE w0 w) (hn:n+N<=1000000) :
  Calls Tryz.prog 201 #[.slice A n c,.func (.func 261) #[] #[.pointer (some ⟨Bm,0,none⟩)]] w (UE g N n l0 w0):=by
 obtain⟨S,Sp,h1,h2⟩:=Pe hM hc hB;refine(vZ _ _ Uz S Sp N A n c l0 w0 w hrow hbw hn h1).mono ?_;rintro e w' ⟨A',c',ss,rfl,hS,hr,hb⟩;exact⟨A',c',ss.map ub,by rw[List.length_map],h2 ss hS,by rw[List.length_map];exact hr,hb⟩
theorem Ph(b:Nat)(w:VA):Calls Tryz.prog 202 #[.map (some b)] w fun e w'=>e= .returned (.func (.func 262) #[] #[.pointer (some ⟨w.heap.size,0,none⟩)])/\w'=w.alloc (.cells #[.map (some b)] 273):=by
 go_enter Tryz.func202,Tryz.ntmps202
 go_wp2_with fail;go_ret
 exact⟨rfl,rfl⟩
theorem Oy{Bm b N:Nat}{g:VB->Option VC}{w:VA}(hM:Rm w Tryz.prog 9 b N g)(hc:w.cell? ⟨Bm,0,none⟩=some (.map (some b)))(hB:Bm<w.heap.size) :
  ∃S Sp,SeqStops Fence.wide 5 Tryz.prog 262 #[.pointer (some ⟨Bm,0,none⟩)] encStr S Sp N w/\∀ss,S ss->kG g N (ss.map ub):=by
 obtain⟨D,h1,h2,h3⟩:=hM.keys Tryz.underlying9;refine⟨_,_,fun l J Jx W hW hJ hJx hY h0=>AnyZ.keys_stops (ρ:=Tryz.keysB_ren) {Tryz.keysB with} Fence.wide 5 trivial rfl (by omega) Bm b N D w hB hc h1 l J Jx W hW hJ hJx (fun pre x W1 hj hl=>hY pre x W1 hj (Nat.lt_of_lt_of_le hl h2)) h0,h3⟩
theorem Ux:∀args w,(callFunc 262 args).run Tryz.prog w= .ok (.enter 262 args) w:=enters_of Tryz.func262 (by kernel_rfl) rfl
def UQ(g:VB->Option VC)(N n:Nat)(l0:List VB)(w0:VA)(e:Ending)(w':VA):Prop :=
 ∃A c ks,e= .returned (.slice A (n+ks.length) c)/\kG g N ks/\w'.ownsRow w0.heap.size 9 1 (.slice A (n+ks.length) c) (n+ks.length) (strs (l0++ks))/\VE w0 w'
theorem PW(Bm b N:Nat)(g:VB->Option VC)(A:OA)(n c:Nat)(l0:List VB)(w0 w:VA)(hM:Rm w Tryz.prog 9 b N g)(hc:w.cell? ⟨Bm,0,none⟩=some (.map (some b)))(hB:Bm<w.heap.size)
  (hrow:w.ownsRow w0.heap.size 9 1 (.slice A n c) n (strs l0)) (hbw:VE w0 w) (hn:n+N<=1000000) :
  Calls Tryz.prog 201 #[.slice A n c,.func (.func 262) #[] #[.pointer (some ⟨Bm,0,none⟩)]] w (UQ g N n l0 w0):=by
 obtain⟨S,Sp,h1,h2⟩:=Oy hM hc hB;refine(vZ _ _ Ux S Sp N A n c l0 w0 w hrow hbw hn h1).mono ?_;rintro e w' ⟨A',c',ss,rfl,hS,hr,hb⟩;exact⟨A',c',ss.map ub,by rw[List.length_map],h2 ss hS,by rw[List.length_map];exact hr,hb⟩
def Uy(g:VB->Option VC)(N:Nat)(w:VA)(e:Ending)(w':VA):Prop :=
 ∃A c ks,e= .returned (.slice A ks.length c)/\kG g N ks/\w'.ownsRow w.heap.size 9 1 (.slice A ks.length c) ks.length (strs ks)/\VE w w'
theorem OL(Bm b N:Nat)(g:VB->Option VC)(w:VA)(hM:Rm w Tryz.prog 9 b N g)(hc:w.cell? ⟨Bm,0,none⟩=some (.map (some b)))(hB:Bm<w.heap.size)(hn:N<=1000000) :
  Calls Tryz.prog 199 #[.func (.func 261) #[] #[.pointer (some ⟨Bm,0,none⟩)]] w (Uy g N w):=by
 have HA:=ai (QH Bm b N g none 0 0 [] w w hM hc hB (World.ownsRow_nil _ _ _ _) (ah _ _) (by omega));clear hM
 go_enter Tryz.func199,Tryz.ntmps199
 go_wp2_with (go_at_call 201;refine HA.o.mono ?_;rintro e w1 ⟨A,c,ks,rfl,h⟩;rw[Nat.zero_add,List.nil_append]at h;have HH:=ai h;clear h)
 go_ret
 exact⟨A,c,ks,rfl,HH.o⟩
end
structure Fgr(w:VA)(base:Nat)(e:TypeId)(f:VB->VC)(L:VB->List Fl):Prop where
 own:∀i,w.ownsRow base e 2 (f i) (L i).length (flat flC (L i))
 apart:∀i j k,(f i).ownBlock=some k-> (f j).ownBlock=some k->i=j
section
variable {w w' : VA} {base : Nat} {e : TypeId} {f : VB -> VC} {L : VB -> List Fl}
theorem Fgr.start(w:VA)(base:Nat)(e:TypeId):Fgr w base e (fun _=> .slice none 0 0) (fun _=> []) :=
 ⟨fun _=>World.ownsRow_nil w base e 2,fun i j k h=>by cases h⟩
theorem Fgr.kept{row:Option Nat}(h:Fgr w base e f L)(hg:w.grownBy w' row)(hr:∀i,(f i).ownBlock=none∨ (f i).ownBlock≠row):Fgr w' base e f L :=
 ⟨fun i=>(h.own i).kept hg (hr i),h.apart⟩
theorem Fgr.below(h:Fgr w base e f L)(hb:VE w w'):Fgr w' base e f L :=
 h.kept (row:=none) ⟨hb.os,hb.tape,hb.output,hb.size,fun k hk _=>hb.block k hk⟩ (fun i=>by cases hv: (f i).ownBlock with | none=>exact .inl rfl | some k=>exact .inr (by simp))
theorem Fgr.other{b:Nat}(h:Fgr w base e f L)(hg:w.grownBy w' (some b))(hb:b<base):Fgr w' base e f L :=
 h.kept hg (fun i=>by
  cases hv: (f i).ownBlock with
  | none=>exact .inl rfl
  | some k=>exact .inr (fun e=>by have:=((h.own i).lt k hv).1;cases e;omega))
theorem Fgr.app(h:Fgr w base e f L)(i:VB){x:Fl}{g cap:Nat}(ho:w'.ownsRow base e 2 (.slice (some ⟨g,0,none⟩) ((L i).length+1) cap) ((L i).length+1) (flat flC (L i)++flC x))(hg:w.grownBy w' (f i).ownBlock)
  (hat: (f i).ownBlock=some g∨g=w.heap.size):Fgr w' base e (fun j=>if j=i then .slice (some ⟨g,0,none⟩) ((L i).length+1) cap else f j) (fun j=>if j=i then L i++ [x] else L j):=by
 have hlt:∀j k,(f j).ownBlock=some k->k<w.heap.size:=fun j k hk=>((h.own j).lt k hk).2;refine⟨fun j=>?_,fun j l k hj hl=>?_⟩
 . by_cases hji:j=i
   . simp only[hji,if_true]
     rw[af];have:flat flC (L i++ [x])=flat flC (L i)++flC x:=by rw[bQ];simp[flat]
     rw[this];exact ho
   . simp only[hji,if_false]
     refine(h.own j).kept hg ?_;cases hv: (f j).ownBlock with
     | none=>exact .inl rfl
     | some k=>exact .inr (fun e'=>hji (h.apart j i k hv e'.symm))
 . have new:∀j,j≠i-> (f j).ownBlock=some g->False:=fun j hj hb=>by
     rcases hat with hat | hat
     . exact hj (h.apart j i g hb hat)
     . have:=hlt j g hb;omega
   by_cases hji:j=i
   . by_cases hli:l=i
     . rw[hji,hli]
     . simp only[hji,if_true,hli,if_false]at hj hl
       have:g=k:=by simpa [Value.ownBlock] using hj
       exact(new l hli (this ▸ hl)).elim
   . by_cases hli:l=i
     . simp only[hji,if_false,hli,if_true]at hj hl
       have:g=k:=by simpa [Value.ownBlock] using hl
       exact(new j hji (this ▸ hj)).elim
     . simp only[hji,hli,if_false]at hj hl
       exact h.apart j l k hj hl
end
theorem ED(l:List Fl)(f:Fl)(s:VB):inD (l++ [f]) s=inD l s++ (if deN f.1=true/\fsN f.1=s then [(rsN f.1,f.2)] else []):=by
 unfold inD;rw[List.filter_append,List.map_append]
 congr 1
 by_cases h:deN f.1=true/\fsN f.1=s
 . rw[if_pos h,List.filter_cons_of_pos (by simp[h.1,h.2])];rfl
 . rw[if_neg h,List.filter_cons_of_neg (by simpa using h)];rfl
theorem Ci{l:List Fl}{f:Fl}(hn:f.1∉l.map Prod.fst)(s:VB):eF (l++ [f]) s=if f.1=s then some f.2 else eF l s:=by
 unfold eF;rw[List.find?_append];by_cases h:f.1=s
 . rw[if_pos h]
   have:l.find? (fun f=>decide (f.1=s))=none:=by
    rw[List.find?_eq_none];intro x hx he;exact hn (by rw[h,<-(of_decide_eq_true he)];exact List.mem_map_of_mem hx)
   rw[this];simp[h]
 . rw[if_neg h]
   cases l.find? (fun f=>decide (f.1=s)) with
   | none=>simp[h]
   | some x=>simp
def jD:VC:= .slice none 0 0
def oh(f:Fl):VC:= .agg #[.string f.1,.string f.2]
structure StM(w:VA)(bb bf base N:Nat)(gb gf:VB->Option VC)(l:List Fl):Prop where
 b:Rm w Tryz.prog 9 bb N gb
 f:Rm w Tryz.prog 9 bf N gf
 rows:Fgr w base 82 (fun s=>(gb s).getD jD) (inD l)
 gbs:∀s,(gb s).isSome=true↔inD l s≠ []
 gfs:∀s,gf s=if deN s=true then none else(eF l s).map (fun d=>oh (s,d))
section
variable {w w' : VA} {bb bf base N : Nat} {gb gf : VB -> Option VC} {l : List Fl}
theorem StM.below(h:StM w bb bf base N gb gf l)(hb:VE w w'):StM w' bb bf base N gb gf l :=
 ⟨h.b.below hb h.b.lt,h.f.below hb h.f.lt,h.rows.below hb,h.gbs,h.gfs⟩
theorem StM.alloc(h:StM w bb bf base N gb gf l)(o:Obj):StM (w.alloc o) bb bf base N gb gf l:=h.below ((ah _ w).alloc aj o)
theorem StM.start(w:VA)(base:Nat):StM ((w.alloc (.map #[] 0)).alloc (.map #[] 0)) w.heap.size (w.heap.size+1) base 0 (fun _=>none) (fun _=>none) []:=by
 refine⟨(Rm.made w Tryz.prog _).alloc _,?_,Fgr.start _ _ _,fun s=>by simp[inD],fun s=>by simp[eF]⟩;have:=Rm.made (w.alloc (.map #[] 0)) Tryz.prog 9;rw[Z9]at this;exact this
theorem StM.file(h:StM w bb bf base N gb gf l)(hne:bb≠bf)(hbf:bf<base){f:Fl}(hd:deN f.1=false)(hn:f.1∉l.map Prod.fst)(hr:Rm w' Tryz.prog 9 bf (N+1) (upd gf f.1 (oh f)))(hg:w.grownBy w' (some bf)) :
  StM w' bb bf base (N+1) gb (upd gf f.1 (oh f)) (l++ [f]):=by
 have e:inD (l++ [f])=inD l:=by
  funext s
  rw[ED,if_neg (by rw[hd];simp),List.append_nil]
 refine⟨(h.b.kept hg (fun e=>hne (Option.some.inj e))).more (by omega),hr,by rw[e];exact h.rows.other hg hbf,fun s=>by rw[e];exact h.gbs s,fun s=>?_⟩;unfold upd;rw[Ci hn];by_cases hs:s=f.1
 . subst hs
   rw[if_pos rfl,hd,if_pos rfl];rfl
 . rw[if_neg hs,if_neg (show ¬f.1=s from fun e=>hs e.symm)]
   exact h.gfs s
theorem StM.dir{w1:VA}(h:StM w bb bf base N gb gf l)(hlt:bb<base/\bf<base/\bb≠bf){f:Fl}(hd:deN f.1=true)(hn:f.1∉l.map Prod.fst){g cap:Nat}
  (ho:w1.ownsRow base 82 2 (.slice (some ⟨g,0,none⟩) ((inD l (fsN f.1)).length+1) cap) ((inD l (fsN f.1)).length+1) (flat flC (inD l (fsN f.1))++flC (rsN f.1,f.2))) (hg:w.grownBy w1 ((gb (fsN f.1)).getD jD).ownBlock)
  (hat: ((gb (fsN f.1)).getD jD).ownBlock=some g∨g=w.heap.size)
  (hr:Rm w' Tryz.prog 9 bb (N+1) (upd gb (fsN f.1) (.slice (some ⟨g,0,none⟩) ((inD l (fsN f.1)).length+1) cap))) (hg2:w1.grownBy w' (some bb)) :
  StM w' bb bf base (N+1) (upd gb (fsN f.1) (.slice (some ⟨g,0,none⟩) ((inD l (fsN f.1)).length+1) cap)) gf (l++ [f]):=by
 have hne:∀b,b<base->some b≠ ((gb (fsN f.1)).getD jD).ownBlock:=fun b hb e=>by have:=((h.rows.own (fsN f.1)).lt b e.symm).1;omega
 have e1: (fun s=>(upd gb (fsN f.1) (.slice (some ⟨g,0,none⟩) ((inD l (fsN f.1)).length+1) cap) s).getD jD)=fun s=>if s=fsN f.1 then .slice (some ⟨g,0,none⟩) ((inD l (fsN f.1)).length+1) cap else(gb s).getD jD:=by
  funext s
  unfold upd;by_cases hs:s=fsN f.1
  . rw[if_pos hs,if_pos hs];rfl
  . rw[if_neg hs,if_neg hs]
 have e2:inD (l++ [f])=fun s=>if s=fsN f.1 then inD l (fsN f.1)++ [(rsN f.1,f.2)] else inD l s:=by
  funext s
  rw[ED];by_cases hs:s=fsN f.1
  . subst hs;rw[if_pos ⟨hd,rfl⟩,if_pos rfl]
  . rw[if_neg (fun e=>hs e.2.symm),if_neg hs,List.append_nil]
 refine⟨hr,((h.f.kept hg (hne bf hlt.2.1)).kept hg2 (fun e=>hlt.2.2 (by cases e;rfl))).more (by omega),?_,fun s=>?_,fun s=>?_⟩
 . rw[e1,e2]
   exact(h.rows.app (fsN f.1) ho hg hat).other hg2 hlt.1
 . rw[e2]
   unfold upd;by_cases hs:s=fsN f.1
   . simp[hs]
   . simp only[if_neg hs];exact h.gbs s
 . rw[Ci hn]
   by_cases hs:f.1=s
   . subst hs;rw[h.gfs,if_pos hd,if_pos hd]
   . rw[if_neg hs];exact h.gfs s
end
theorem PH{gb gf:VB->Option VC}{l:List Fl}(hl:OkL l)(h1:∀s,(gb s).isSome=true↔inD l s≠ [])(h2:∀s,gf s=if deN s=true then none else(eF l s).map (fun d=>oh (s,d))){N M:Nat}{ks qs:List VB}(hk:kG gf N ks)(hq:kG gb M qs) :
  iW (ks++qs)=bJ l/\∀n∈bJ l,deN n=false:=by
 have hfl:∀x,x∈ks↔deN x=false/\∃d,(x,d)∈l:=fun x=>by
  rw[hk.mem,h2];cases hd:deN x with
  | true=>simp
  | false =>
    simp only[Bool.false_eq_true,if_false,Option.isSome_map,true_and];rw[Option.isSome_iff_exists];constructor
    . rintro ⟨d,h⟩;exact⟨d,(jX hl.nod).1 h⟩
    . rintro ⟨d,h⟩;exact⟨d,(jX hl.nod).2 h⟩
 have hdr:∀x,x∈qs↔∃g∈l,deN g.1=true/\fsN g.1=x:=fun x=>by
  rw[hq.mem,h1];constructor
  . intro h
    obtain⟨f,hf⟩:=List.exists_mem_of_ne_nil _ h;obtain⟨g,hg,a,b,_⟩:=mem_inD.1 hf;exact⟨g,hg,a,b⟩
  . rintro ⟨g,hg,a,b⟩ e
    have: (rsN g.1,g.2)∈inD l x:=mem_inD.2 ⟨g,hg,a,b,rfl⟩;rw[e]at this;cases this
 have hdis:∀x,x∈ks->x∉qs:=fun x hx hx'=>by
  obtain⟨_,d,hd⟩:=(hfl x).1 hx;obtain⟨g,hg,a,b⟩:=(hdr x).1 hx';have h3:=hl.nob _ hd g hg;rw[Bool.eq_false_iff]at h3;refine h3 ((sS _ _).2 ⟨bl (rsN g.1),?_⟩);rw[jI a,b]
 have hno:∀n∈bJ l,deN n=false:=fun n hn=>by
  obtain⟨f,_,rfl⟩:=nms_mem.1 hn;exact(zh (yj _)).2
 refine⟨yN (FN (List.nodup_append.2 ⟨hk.nod,hq.nod,fun a ha b hb e=>hdis a ha (by rw[e];exact hb)⟩)) (uh l) (fun x=>?_),hno⟩;rw[EK,List.mem_append,hfl,hdr,nms_mem];constructor
 . rintro (⟨h,d,hd⟩ | ⟨g,hg,_,h⟩)
   . exact⟨_,hd,(lI h).symm⟩
   . exact⟨g,hg,h.symm⟩
 . rintro ⟨f,hf,rfl⟩
   cases hd:deN f.1 with
   | false=>exact .inl ⟨(zh (yj _)).2,f.2,by rw[lI hd];exact hf⟩
   | true=>exact .inr ⟨f,hf,hd,rfl⟩
theorem iP{P:Program}{ops:Array Oper}{rest:List Oper}{o:Oper}{a:Act}{w:VA}{Q:Exit->Act->VA->Prop}(s x:Operand)(t:TypeId)(_:o.op= .call {callee:= .builtin .append,args:=#[s,x],argTypes:=#[t,t]})
  (h:Hid (wpList P ops Q (o::rest) a w)):wpList P ops Q (o::rest) a w:=h
theorem pF{w:VA}{base size n c:Nat}{e:TypeId}{A:OA}{xs:List VC}(h:Apd w base e size A n c xs)(k:Nat):Apd (w.drewN k) base e size A n c xs:=h
def LkE(o:Ob)(w:VA)(e:Ending)(w':VA):Prop :=
 ∃A n c,n= (df o).length/\e= .returned (.slice A n c)/\Apd w' w.heap.size 50 2 A n c (flat dgC (df o))/\VE w w'
theorem Qa{l:List Ent}{k:Nat}{x:Ent}(h:l[k]? =some x): (l.take (k+1)).map Ent.dg= (l.take k).map Ent.dg++ [x.dg]:=by
 rw[aV h,List.map_append];rfl
theorem F6{w:VA}{base base' size n c:Nat}{e:TypeId}{A:OA}{xs:List VC}(h:Apd w base e size A n c xs)(hb:base'<=base):Apd w base' e size A n c xs:=by
 rcases h with h | h
 . exact .inl (lG h hb)
 . exact .inr h
theorem OZ(o:Ob)(s:Osl)(B:Nat)(w:VA)(hm:ObM w B o s)(hB:B<=w.heap.size)(ho:OkO o)(hen:s.en<=100000)(hpn:s.pn<=100000) :
  Calls Tryz.prog 53 #[obV o s] w (LkE o w):=by
 obtain⟨W0,hW0⟩:=NX9 (w.alloc (.cells (obC o s) 109))
 have HB0:VF w W0:=by rw[<-hW0];exact(ah _ w).alloc aj _
 have f:Hid (Bk W0 w.heap.size 109 (obC o s)):=by rw[<-hW0];exact Bk.new w _ _
 have z0:w.heap.size<W0.heap.size:=f.o.lt;have h:=ai (hm.below HB0.o hB);have j:=ai (pM o s B W0 h.o (by omega) ho);have l:=ai hm.elen;have A:=ai hm.plen;obtain⟨i0,hi,hz0,hz1,hz2⟩:=info_parts lZ;have Hi:=ai hi;have m:=ai hz0;have r:=ai hz1;have t:=ai hz2;have HW0:=ai hW0;obtain⟨k0,da,es,⟨t1,t2⟩,ps,I,ti,ms⟩:=o;obtain⟨eA,en,ec,pA,pn,pc⟩:=s;unfold obV obC at *;simp only at HB0 f h j l A HW0 hen hpn ⊢;obtain⟨c0,c1,c2,c3,c4,c5,c6,c7,c8⟩:=f.o.nine;rw[<-HW0.o]at c0 c1 c2 c3 c4 c5 c6 c7 c8;clear hi hz0 hz1 hz2 hW0 hm ho
 go_enter Tryz.func53,Tryz.ntmps53
 go_wp2_with fail;rw[HW0.o];refine j.o.mono ?_;rintro e w1 ⟨rfl,hb1⟩;have u:=ai (f.o.below hb1 z0);have C:=ai (h.o.below hb1 (by omega));have HB1:VF w w1:=HB0.o.trans (hb1.mono (by omega));have z1:w.heap.size<w1.heap.size:=u.o.lt;clear hb1 j c0 c1 c2 c3 c4 c5 c6 c7 c8 HW0;have J:Hid (Sl w1 B 4 eA en (flat enC es)):=C.o.e;have K:Hid (Sl w1 B 2 pA pn (flat dgC ps)):=C.o.p;obtain⟨c0,c1,c2,c3,c4,c5,c6,c7,c8⟩:=u.o.nine;go_wp2_with fail
 go_loopw[3,12] (fun q i wr=>∃(k:Nat)(A':OA)(c':Nat),k<=en/\i= .int .i64 k/\q= .slice A' k c'/\k<=c'/\c'<=maxLen/\Hid (Apd wr w1.heap.size 50 2 A' k c' (flat dgC ((es.take k).map Ent.dg)))/\VF w1 wr) (fun _ i _=>en - (intOf i).toNat)
 case atStart=>exact⟨0,none,0,ZX _,rfl,rfl,Nat.le_refl _,ZX _,.inr ⟨rfl,rfl,rfl⟩,ah _ _⟩
 case round =>
  obtain⟨k,A',c',hk,rfl,rfl,hkc,hcm,hO,hBel⟩:=hrel;have HO:=ai hO.o;have c:=ai hBel.o;have zr:w1.heap.size<=wr.heap.size:=c.o.size;clear hO hBel c0 c1 c2 c3 c4 c5 c6 c7 c8;by_cases hlt:k<en
  . obtain⟨bb,off,x,rfl,hbB,hx,y0,y1,y2,y3⟩:=(J.o.below c.o (by omega)).en hlt
    have hlz: (k:Int)< (en:Int):=by omega
    have HX:=ai hx;clear hx;obtain⟨X,xd,⟨d1,d2⟩⟩:=x;simp only at y0 y1 y2 y3;have L:Hid ((es.take (k+1)).map Ent.dg= (es.take k).map Ent.dg++ [(d1,d2)]):=Qa HX.o;obtain⟨W,hW⟩:=NX9 (wr.alloc (.cells #[.string X,.bool xd,.int .u64 d1,.int .u64 d2] 185))
    have hbW:VE wr W:=by rw[<-hW];exact(ah _ wr).alloc aj _
    have D:Hid (Bk W wr.heap.size 185 #[.string X,.bool xd,.int .u64 d1,.int .u64 d2]):=by rw[<-hW];exact Bk.new wr _ _
    have eW:W.heap.size=wr.heap.size+1:=by rw[<-hW];simp
    have M:Hid (Bk (W.alloc (.cells #[.int .u64 d1,.int .u64 d2] 50)) (wr.heap.size+1) 50 #[.int .u64 d1,.int .u64 d2]):=by
     have e:=Bk.new W 50 #[.int .u64 d1,.int .u64 d2]
     rwa[eW]at e
    have HOW:=ai (HO.o.below hbW);have E:VF w1 W:=c.o.trans (hbW.mono zr);have g2:=D.o.cell 2;have g3:=D.o.cell 3;simp at g2 g3;rw[<-hW]at g2 g3;have zW:w1.heap.size<=W.heap.size:=E.o.size;have N:=ai hW;clear hW hbW eW
    go_wp2_with (at_builtin;refine iP (.tmp 16) (.tmp 19) 47 rfl ?_)
    rw[N.o];refine aH ?_;refine eG (base:=w1.heap.size) (size:=2) _ rfl (.tmp 16) (.tmp 19) 47 rfl 50 i0 _ 16 Tryz.underlying47 Hi.o m.o r.o t.o rfl (by decide) A' k c' _ rfl (Apd.below HOW.o ((ah _ _).alloc aj _)) _ _ 1 1 (flat dgC [(d1,d2)]) rfl (Sl.of_bk (n:=1) (size:=2) M.o rfl) (kT _) (by unfold maxLen;omega) (by omega) (by rw[Z9];omega) ?_;intro A4 c4 w4 b hb4 hn4 hm4 _;rw[<-bQ,<-L.o]at b;have v:=ai b;have HB4:VF w1 w4:=(Below.alloc E.o (by omega) _).trans hb4;clear b hb4;go_wp2_with fail;go_roundw
    case rel=>exact⟨k+1,A4,c4,hlt,by go_num,rfl,hn4,hm4,v.o,HB4.o⟩
    case measure=>simp[intOf];omega
  . have hlz:¬(k:Int)< (en:Int):=by omega
    have hke:k=en:=by omega
    have HT:Hid (es.take k=es):=ZU (by have:es.length=en:=l.o;omega);rw[HT.o]at HO;obtain⟨g,hwo⟩:∃g,g=wr:=⟨_,rfl⟩
    subst hwo;have O:=ai (u.o.below c.o z1);have P:=ai (K.o.below c.o (by omega));have F:VF w g:=HB1.o.trans (c.o.mono (by omega));obtain⟨c0,c1,c2,c3,c4,c5,c6,c7,c8⟩:=O.o.nine;have G:es.length=en:=l.o;have H:ps.length=pn:=A.o;by_cases hk3:k0=3
    . subst hk3
      have d:Hid (df ⟨3,da,es,(t1,t2),ps,I,ti,ms⟩= (es.map Ent.dg++ [(t1,t2)])++ps):=by show _=_;unfold df;simp
      have y:Hid (k+1+pn= (df ⟨3,da,es,(t1,t2),ps,I,ti,ms⟩).length):=by show _=_;rw[d.o];simp only[af,List.length_map,List.length_singleton];omega
      have Q:Hid (Bk (g.alloc (.cells #[.int .u64 t1,.int .u64 t2] 50)) g.heap.size 50 #[.int .u64 t1,.int .u64 t2]):=Bk.new g _ _;clear G H hke
      go_wp2_with (at_builtin;refine iP (.tmp 25) (.tmp 28) 47 rfl ?_)
      refine aH ?_;refine eG (base:=w1.heap.size) (size:=2) _ rfl (.tmp 25) (.tmp 28) 47 rfl 50 i0 _ 16 Tryz.underlying47 Hi.o m.o r.o t.o rfl (by decide) A' k c' _ rfl (Apd.below HO.o ((ah _ _).alloc aj _)) _ _ 1 1 (flat dgC [(t1,t2)]) rfl (Sl.of_bk (n:=1) (size:=2) Q.o rfl) (kT _) (by unfold maxLen;omega) (by omega) (by rw[Z9];omega) ?_;intro A4 R w4 b hb4 hn4 hm4 _;rw[<-bQ]at b;have v:=ai b;have a:Below w1.heap.size g w4:=(Below.alloc (ah _ g) (by omega) _).trans hb4;have S:=ai (P.o.below a (by omega));have HB4:VF w w4:=F.o.trans (a.mono (by omega));have z4:w1.heap.size<=w4.heap.size:=by have:=a.size;omega
      have c5:=(a.cell (p:=⟨w.heap.size,5,none⟩) (by show w.heap.size<_;omega)).trans c5;clear b hb4 a c0 c1 c2 c3 c4 c6 c7 c8
      go_wp2_with (at_builtin;refine iP (.tmp 30) (.tmp 32) 47 rfl ?_)
      refine aH ?_;refine eG (base:=w1.heap.size) (size:=2) _ rfl (.tmp 30) (.tmp 32) 47 rfl 50 i0 _ 16 Tryz.underlying47 Hi.o m.o r.o t.o rfl (by decide) A4 (k+1) R _ rfl v.o B pA pn pc (flat dgC ps) rfl S.o (kT _) (by unfold maxLen;omega) (by omega) z4 ?_;intro A5 T w5 z hb5 Y Z _;rw[<-bQ,<-d.o]at z;have U:=ai z;have V:VF w w5:=HB4.o.trans (hb5.mono (by omega));clear z hb5 c5;go_wp2_with fail;go_ret
      exact⟨A5,k+1+pn,T,y.o,rfl,F6 U.o (by omega),V.o⟩
    . have d:Hid (df ⟨k0,da,es,(t1,t2),ps,I,ti,ms⟩=es.map Ent.dg):=by show _=_;unfold df;simp[hk3]
      have y:Hid (k= (df ⟨k0,da,es,(t1,t2),ps,I,ti,ms⟩).length):=by show _=_;rw[d.o,List.length_map];omega
      have hkb: (k0 == 3)=false:=by simpa using hk3
      clear G H hke hk3;go_wp2_with fail;go_ret
      exact⟨A',k,c',y.o,rfl,by rw[d.o];exact F6 HO.o (by omega),F.o⟩
def UnE(a b:List Itm)(w:VA)(e:Ending)(w':VA):Prop :=
 ((∃r A c,UniR a b r/\e= .returned (.tuple #[.slice A r.length c,.int .i64 0])/\Sl w' w'.heap.size 3 A r.length (flat itC r)/\r.length<=c/\c<=maxLen)∨ (jM a b/\e= .returned (.tuple #[.slice none 0 0,.int .i64 16])))/\VE w w'
theorem LY(A B:OA)(n1 c1 n2 c2 Bs:Nat)(a b:List Itm)(w:VA)(h0:Sl w Bs 3 A n1 (flat itC a))(h1:Sl w Bs 3 B n2 (flat itC b))(hB:Bs<=w.heap.size)(hn1:n1<=400000)(hn2:n2<=400000)(ha:AscI a)(hb:AscI b) :
  Calls Tryz.prog 75 #[.slice A n1 c1,.slice B n2 c2] w (UnE a b w):=by
 have D:=ai (h0.len dD (by omega));have HL2:=ai (h1.len dD (by omega));have H0:=ai h0;have H1:=ai h1;have t:=ai ha;have HAB:=ai hb;clear h0 h1 ha hb;obtain⟨i0,hi,hz0,hz1,hz2⟩:=info_parts lY;have Hi:=ai hi;have k:=ai hz0;have o:=ai hz1;have r:=ai hz2;clear hi hz0 hz1 hz2
 go_enter Tryz.func75,Tryz.ntmps75
 go_wp2_with fail
 go_loopw[6,7,8] (fun q u v wr=>∃(out:List Itm)(A':OA)(c' i j:Nat),u= .int .i64 (i:Int)/\v= .int .i64 (j:Int)/\q= .slice A' out.length c'/\out.length<=c'/\c'<=maxLen/\Hid (i<=n1/\j<=n2/\UAt a b i j out)/\Hid (Apd wr w.heap.size 118 3 A' out.length c' (flat itC out))/\VF w wr) (fun _ u v _=>(n1 - (intOf u).toNat)+ (n2 - (intOf v).toNat))
 case atStart=>exact⟨[],none,0,0,0,rfl,rfl,rfl,Nat.le_refl _,ZX _,⟨ZX _,ZX _,UAt.start a b⟩,.inr ⟨rfl,rfl,rfl⟩,ah _ _⟩
 case round =>
  obtain⟨out,A',c',i,j,rfl,rfl,rfl,hmc,hcm,hAt,hO,hBel⟩:=hrel;have HO:=ai hO.o;have d:=ai hBel.o;obtain⟨hi1,hj2,hat⟩:=hAt.o;have HAT:=ai hat
  have hol:=hat.len;obtain⟨m,hm⟩:=NX9 out.length
  have HM:=ai hm;rw[hm]at hmc hol HO ⊢;have zr:w.heap.size<=wr.heap.size:=d.o.size;clear hO hBel hm hAt hat
  by_cases hi:i<n1
  . have hiz: (i:Int)< (n1:Int):=by omega
    have hie: ((i:Int) == (n1:Int))=false:=by rw[beq_eq_false_iff_ne];omega
    obtain⟨ba,oa,x,rfl,hba,hx,x0,s,z⟩:=(H0.o.below d.o hB).it hi;have HX:=ai hx;clear hx;obtain⟨⟨x1,x2⟩,xs⟩:=x;simp only at x0 s z;by_cases hj:j<n2
    . have hjz: (j:Int)< (n2:Int):=by omega
      have hje: ((j:Int) == (n2:Int))=false:=by rw[beq_eq_false_iff_ne];omega
      obtain⟨bb,ob,y,rfl,hbb,hy,y0,y1',y2'⟩:=(H1.o.below d.o hB).it hj;have C:=ai hy;clear hy;obtain⟨⟨y1,y2⟩,ys⟩:=y;simp only at y0 y1' y2';have HCM:=ai (fun W=>xC (x1,x2) (y1,y2) W);unfold CmE at HCM;simp only[az]at HCM;obtain⟨cz,hcz⟩:=NX9 (dH (x1,x2) (y1,y2))
      rw[hcz]at HCM;have E:=ai hcz;clear hcz;have H3:Hid (cz= -1/\ltD (x1,x2) (y1,y2)∨cz=0/\ (x1,x2)= (y1,y2)∨cz=1/\ltD (y1,y2) (x1,x2)):=by
       show _∨_∨_;rw[<-E.o];unfold dH;by_cases e: (x1,x2)= (y1,y2)
       . rw[if_pos e];exact .inr (.inl ⟨rfl,e⟩)
       . rw[if_neg e]
         by_cases l:ltD (x1,x2) (y1,y2)
         . rw[if_pos l];exact .inl ⟨rfl,l⟩
         . rw[if_neg l]
           refine .inr (.inr ⟨rfl,?_⟩);by_cases l2:ltD (y1,y2) (x1,x2)
           . exact l2
           . exact absurd (nC l l2) e
      have H:ba<wr.heap.size:=by omega
      have I:bb<wr.heap.size:=by omega
      go_wp2_with fail
      go_region_held3 (fun w'=>w'.cell? ⟨ba,oa+i*3,none⟩=some (.int .u64 x1)/\w'.cell? ⟨ba,oa+i*3+1,none⟩=some (.int .u64 x2)/\w'.cell? ⟨bb,ob+j*3,none⟩=some (.int .u64 y1)/\w'.cell? ⟨bb,ob+j*3+1,none⟩=some (.int .u64 y2))
       (first | exact⟨x0,s,y0,y1'⟩ | exact⟨n0.o,n1'.o,F.o,n3.o⟩)
       (first
         | (go_at_call 55;refine(HCM.o _).mono ?_;rintro e w8 ⟨rfl,hb8⟩
            have n0:=ai ((hb8.cell (p:=⟨ba,oa+i*3,none⟩) (by show ba<_;simp;omega)).trans x0);have n1':=ai ((hb8.cell (p:=⟨ba,oa+i*3+1,none⟩) (by show ba<_;simp;omega)).trans s);have F:=ai ((hb8.cell (p:=⟨bb,ob+j*3,none⟩) (by show bb<_;simp;omega)).trans y0);have n3:=ai ((hb8.cell (p:=⟨bb,ob+j*3+1,none⟩) (by show bb<_;simp;omega)).trans y1');have f:VF wr w8:=(ah _ wr).drew.trans hb8;clear hb8))
      have x0:=(f.o.cell (p:=⟨ba,oa+i*3,none⟩) (by show ba<_;omega)).trans x0;have s:=(f.o.cell (p:=⟨ba,oa+i*3+1,none⟩) (by show ba<_;omega)).trans s;have z:=(f.o.cell (p:=⟨ba,oa+i*3+2,none⟩) (by show ba<_;omega)).trans z;have y0:=(f.o.cell (p:=⟨bb,ob+j*3,none⟩) (by show bb<_;omega)).trans y0;have y1':=(f.o.cell (p:=⟨bb,ob+j*3+1,none⟩) (by show bb<_;omega)).trans y1';have y2':=(f.o.cell (p:=⟨bb,ob+j*3+2,none⟩) (by show bb<_;omega)).trans y2'
      replace HO:=ai (HO.o.below f.o)
      replace d:VF w w8:=d.o.trans (f.o.mono zr)
      have h:w.heap.size<=w8.heap.size:=d.o.size;clear n0 n1' F n3 f E;rcases H3.o with ⟨hcz,hl⟩ | ⟨hcz,he⟩ | ⟨hcz,hl⟩
      . have HN:Hid (i+1<=n1/\j<=n2/\UAt a b (i+1) j (out++ [((x1,x2),xs)])):=⟨by omega,by omega,HAT.o.fst t.o HX.o (rY HAB.o C.o hl)⟩
        subst hcz;clear H3 hl HCM;go_wp2_with fail
        go_quiet(fail)
        go_wp2_with (at_builtin;refine iP (.tmp 58) (.tmp 63) 29 rfl ?_)
        refine aH ?_;refine eG (base:=w.heap.size) (size:=3) _ rfl (.tmp 58) (.tmp 63) 29 rfl 118 i0 _ 32 Tryz.underlying29 Hi.o k.o o.o r.o rfl (by decide) A' m c' _ rfl (Apd.below (pF HO.o _) ((ah _ _).alloc aj _)) _ _ 1 1 (flat itC [((x1,x2),xs)]) rfl (Sl.of_bk (n:=1) (size:=3) (Bk.new _ _ _) rfl) (jr _) (by unfold maxLen;omega) (by omega) (by rw[Z9];exact Nat.le_succ_of_le h) ?_;intro A4 c4 w4 c hb4 hn4 hm4 _;rw[<-bQ]at c;have g:=ai c;have HB4:VF w w4:=(Below.alloc (cZ d.o _) h _).trans hb4;clear c hb4;go_wp2_with fail;go_roundw
        case rel=>exact⟨out++ [((x1,x2),xs)],A4,c4,i+1,j,by go_num,by go_num,by rw[af,HM.o];rfl,by rw[af,HM.o];exact hn4,hm4,HN.o,by rw[af,HM.o];exact g.o,HB4.o⟩
        case measure=>simp[intOf];omega
      . injection he with he1 he2
        subst he1;subst he2;subst hcz;have t2:=lS xs ys;have l1: (xs.toList != ys.toList)=!(decide (xs=ys)):=by rw[<-lS];rfl
        clear H3 HCM;by_cases hs:xs=ys
        . subst hs
          have HN:Hid (i+1<=n1/\j+1<=n2/\UAt a b (i+1) (j+1) (out++ [((x1,x2),xs)])):=⟨by omega,by omega,HAT.o.both t.o HAB.o HX.o C.o⟩
          rw[decide_eq_true rfl]at t2 l1;go_wp2_with fail
          go_quiet(fail)
          go_wp2_with (at_builtin;refine iP (.tmp 58) (.tmp 63) 29 rfl ?_)
          refine aH ?_;refine eG (base:=w.heap.size) (size:=3) _ rfl (.tmp 58) (.tmp 63) 29 rfl 118 i0 _ 32 Tryz.underlying29 Hi.o k.o o.o r.o rfl (by decide) A' m c' _ rfl (Apd.below (pF HO.o _) ((ah _ _).alloc aj _)) _ _ 1 1 (flat itC [((x1,x2),xs)]) rfl (Sl.of_bk (n:=1) (size:=3) (Bk.new _ _ _) rfl) (jr _) (by unfold maxLen;omega) (by omega) (by rw[Z9];exact Nat.le_succ_of_le h) ?_;intro A4 c4 w4 c hb4 hn4 hm4 _;rw[<-bQ]at c;have g:=ai c;have HB4:VF w w4:=(Below.alloc (cZ d.o _) h _).trans hb4;clear c hb4;go_wp2_with fail;go_roundw
          case rel=>exact⟨out++ [((x1,x2),xs)],A4,c4,i+1,j+1,by go_num,by go_num,by rw[af,HM.o];rfl,by rw[af,HM.o];exact hn4,hm4,HN.o,by rw[af,HM.o];exact g.o,HB4.o⟩
          case measure=>simp[intOf];omega
        . have G:Hid (jM a b):=FC HX.o C.o rfl hs
          rw[decide_eq_false hs]at t2 l1;clear hs;go_wp2_with fail
          go_quiet(fail)
          go_wp2_with fail;go_ret2
          exact⟨.inr ⟨G.o,rfl⟩,cZ d.o _⟩
      . have HN:Hid (i<=n1/\j+1<=n2/\UAt a b i (j+1) (out++ [((y1,y2),ys)])):=⟨by omega,by omega,HAT.o.snd HAB.o C.o (rY t.o HX.o hl)⟩
        subst hcz;clear H3 hl HCM;go_wp2_with fail
        go_quiet(fail)
        go_wp2_with (at_builtin;refine iP (.tmp 69) (.tmp 74) 29 rfl ?_)
        refine aH ?_;refine eG (base:=w.heap.size) (size:=3) _ rfl (.tmp 69) (.tmp 74) 29 rfl 118 i0 _ 32 Tryz.underlying29 Hi.o k.o o.o r.o rfl (by decide) A' m c' _ rfl (Apd.below (pF HO.o _) ((ah _ _).alloc aj _)) _ _ 1 1 (flat itC [((y1,y2),ys)]) rfl (Sl.of_bk (n:=1) (size:=3) (Bk.new _ _ _) rfl) (jr _) (by unfold maxLen;omega) (by omega) (by rw[Z9];exact Nat.le_succ_of_le h) ?_;intro A4 c4 w4 c hb4 hn4 hm4 _;rw[<-bQ]at c;have g:=ai c;have HB4:VF w w4:=(Below.alloc (cZ d.o _) h _).trans hb4;clear c hb4;go_wp2_with fail;go_roundw
        case rel=>exact⟨out++ [((y1,y2),ys)],A4,c4,i,j+1,by go_num,by go_num,by rw[af,HM.o];rfl,by rw[af,HM.o];exact hn4,hm4,HN.o,by rw[af,HM.o];exact g.o,HB4.o⟩
        case measure=>simp[intOf];omega
    . have hj':j=n2:=by omega
      subst hj';have HN:Hid (i+1<=n1/\j<=j/\UAt a b (i+1) j (out++ [((x1,x2),xs)])):=⟨by omega,Nat.le_refl _,HAT.o.fst t.o HX.o (sD (by rw[HL2.o];exact Nat.le_refl _))⟩
      go_wp2_with fail
      go_quiet(fail)
      go_wp2_with (at_builtin;refine iP (.tmp 58) (.tmp 63) 29 rfl ?_)
      refine aH ?_;refine eG (base:=w.heap.size) (size:=3) _ rfl (.tmp 58) (.tmp 63) 29 rfl 118 i0 _ 32 Tryz.underlying29 Hi.o k.o o.o r.o rfl (by decide) A' m c' _ rfl (Apd.below (pF HO.o _) ((ah _ _).alloc aj _)) _ _ 1 1 (flat itC [((x1,x2),xs)]) rfl (Sl.of_bk (n:=1) (size:=3) (Bk.new _ _ _) rfl) (jr _) (by unfold maxLen;omega) (by omega) (by rw[Z9];exact Nat.le_succ_of_le zr) ?_;intro A4 c4 w4 c hb4 hn4 hm4 _;rw[<-bQ]at c;have g:=ai c;have HB4:VF w w4:=(Below.alloc (cZ d.o _) zr _).trans hb4;clear c hb4;go_wp2_with fail;go_roundw
      case rel=>exact⟨out++ [((x1,x2),xs)],A4,c4,i+1,j,by go_num,by go_num,by rw[af,HM.o];rfl,by rw[af,HM.o];exact hn4,hm4,HN.o,by rw[af,HM.o];exact g.o,HB4.o⟩
      case measure=>simp[intOf];omega
  . have hi':i=n1:=by omega
    subst hi';have hiz:¬(i:Int)< (i:Int):=by omega
    by_cases hj:j<n2
    . have hjz: (j:Int)< (n2:Int):=by omega
      obtain⟨bb,ob,y,rfl,hbb,hy,y0,y1',y2'⟩:=(H1.o.below d.o hB).it hj;have C:=ai hy;clear hy;obtain⟨⟨y1,y2⟩,ys⟩:=y;simp only at y0 y1' y2';have HN:Hid (i<=i/\j+1<=n2/\UAt a b i (j+1) (out++ [((y1,y2),ys)])):=⟨Nat.le_refl _,by omega,HAT.o.snd HAB.o C.o (sD (by rw[D.o];exact Nat.le_refl _))⟩
      go_wp2_with fail
      go_quiet(fail)
      go_wp2_with (at_builtin;refine iP (.tmp 69) (.tmp 74) 29 rfl ?_)
      refine aH ?_;refine eG (base:=w.heap.size) (size:=3) _ rfl (.tmp 69) (.tmp 74) 29 rfl 118 i0 _ 32 Tryz.underlying29 Hi.o k.o o.o r.o rfl (by decide) A' m c' _ rfl (Apd.below (pF HO.o _) ((ah _ _).alloc aj _)) _ _ 1 1 (flat itC [((y1,y2),ys)]) rfl (Sl.of_bk (n:=1) (size:=3) (Bk.new _ _ _) rfl) (jr _) (by unfold maxLen;omega) (by omega) (by rw[Z9];exact Nat.le_succ_of_le zr) ?_;intro A4 c4 w4 c hb4 hn4 hm4 _;rw[<-bQ]at c;have g:=ai c;have HB4:VF w w4:=(Below.alloc (cZ d.o _) zr _).trans hb4;clear c hb4;go_wp2_with fail;go_roundw
      case rel=>exact⟨out++ [((y1,y2),ys)],A4,c4,i,j+1,by go_num,by go_num,by rw[af,HM.o];rfl,by rw[af,HM.o];exact hn4,hm4,HN.o,by rw[af,HM.o];exact g.o,HB4.o⟩
      case measure=>simp[intOf];omega
    . have hj':j=n2:=by omega
      subst hj';have hjz:¬(j:Int)< (j:Int):=by omega
      have HU:Hid (UniR a b out):=HAT.o.done (by rw[D.o];exact Nat.le_refl _) (by rw[HL2.o];exact Nat.le_refl _);go_wp2_with fail;go_ret2
      exact⟨.inl ⟨out,A',c',HU.o,by rw[HM.o];rfl,by rw[HM.o];exact HO.o.sl,by rw[HM.o];exact hmc,hcm⟩,d.o⟩
