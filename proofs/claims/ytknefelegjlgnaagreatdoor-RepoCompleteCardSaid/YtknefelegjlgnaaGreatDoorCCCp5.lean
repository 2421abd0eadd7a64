/-
  Lemmas of the card.
-/
import Derived.Maps.OwnIn
import Derived.StillTail
import Derived.Shelf.Strings.LastIndex
import Derived.Test.YtknefelegjlgnaaGreatDoorCCCp4
set_option maxRecDepth 100000
set_option maxHeartbeats 4000000
namespace Go.Proofs.YtknefelegjlgnaaGreatDoor
open Go.RowKit
section
/-! ### groups -/
abbrev Gru:=List Upd×List UZ
def headB(us:List Upd)(n:Nat):UZ:=ak n++ (encR us).1
def aP(g:Gru):List UZ:=headB g.1 g.2.length::g.2
def recs(gs:List Gru):List UZ:=gs.flatMap aP
structure GOk(g:Gru):Prop where
 few:g.1.length<=1000
 pr:dJ g.1=0
 us:∀u∈g.1,u.1.size<=65536/\WfU u
 os:g.2.length<=1099511627776
theorem GOk.enc{g:Gru}(h:GOk g):encR g.1= (ak g.1.length++bG g.1,0):=by
 unfold encR;rw[if_neg (by have:=h.few;omega),if_neg (by simp[h.pr])]
theorem GOk.dec{g:Gru}(h:GOk g):eH (encR g.1).1= (g.1,0):=by rw[h.enc];exact Rz h.few h.pr h.us
theorem GOk.num{g:Gru}(h:GOk g):az (headB g.1 g.2.length)= (g.2.length,(ak g.2.length).length,0):=kE h.os _
def grU(gs:List Gru):List Upd:=gs.flatMap (·.1)
def grO(gs:List Gru):List UZ:=gs.flatMap (·.2)
/-! ### what is complete -/
def Miss(p:List Itm)(ds:List Dig):Prop:=∃x,x≠zD/\Rchd p ds x/\aG p x=none
open Classical in
noncomputable def dL(p:List Itm)(d:Dig):Int:=match aG p d with
 | none=>8
 | some o=>if o.kind=3 then(if Miss p [d] then 8 else 0) else 9
theorem compl_zero{p:List Itm}{d:Dig}:dL p d=0↔ (∃o,aG p d=some o/\o.kind=3)/\¬Miss p [d]:=by
 unfold dL;cases aG p d with
 | none=>simp
 | some o =>
   simp only[Option.some.injEq,exists_eq_left'];by_cases h:o.kind=3
   . rw[if_pos h];by_cases hm:Miss p [d] <;> simp[h,hm]
   . simp[h]
theorem Rchd.mono{p q:List Itm}(hp:PlOk p)(hq:PlOk q)(hs:subP p q){ds:List Dig}{x:Dig}(h:Rchd p ds x):Rchd q ds x:=by
 induction h with
 | root h=>exact .root h
 | link _ g m ih=>exact .link ih (mF hp hq hs g) m
theorem Miss.mono{p q:List Itm}(hp:PlOk p)(hq:PlOk q)(hs:subP p q){ds:List Dig}(hm:¬Miss p ds):¬Miss q ds:=by
 rintro ⟨x,hx,hr,hg⟩;have key:∀{y},Rchd q ds y->Rchd p ds y:=by
  intro y h
  induction h with
  | root h=>exact .root h
  | @link d x o _ g m ih =>
    cases hg:aG p d with
    | none=>exact absurd ⟨d,tq hq g,ih,hg⟩ hm
    | some o' =>
      have:=mF hp hq hs hg;rw[g]at this;cases this;exact .link ih hg m
 have h1:=key hr;cases hg2:aG p x with
 | none=>exact hm ⟨x,hx,h1,hg2⟩
 | some o=>have:=mF hp hq hs hg2;rw[hg]at this;cases this
theorem ML{p q:List Itm}(hp:PlOk p)(hq:PlOk q)(hs:subP p q){d:Dig}(h:dL p d=0):dL q d=0:=by
 obtain⟨⟨o,ho,hk⟩,hm⟩:=compl_zero.1 h;exact compl_zero.2 ⟨⟨o,mF hp hq hs ho,hk⟩,Miss.mono hp hq hs hm⟩
theorem LP{p q:List Itm}(hp:PlOk p)(hq:PlOk q)(hs:subP q p){d:Dig}(hc:∀x,Rchd p [d] x->∀o,aG p x=some o->aG q x=some o)(h:dL p d=0):dL q d=0:=by
 obtain⟨⟨o,ho,hk⟩,hm⟩:=compl_zero.1 h;refine compl_zero.2 ⟨⟨o,hc d (.root (by simp)) o ho,hk⟩,?_⟩;rintro ⟨x,hx,hr,hg⟩;have hr2:=hr.mono hq hp hs;cases hg2:aG p x with
 | none=>exact hm ⟨x,hx,hr2,hg2⟩
 | some o'=>rw[hc x hr2 o' hg2]at hg;cases hg
/-! ### what records mean -/
structure Mt(gs:List Gru)(p:List Itm)(rs:List Rf)(lg:List Upd):Prop where
 ok:∀g∈gs,GOk g
 pl:PlOk p
 ob:∀b,b∈grO gs↔∃i∈p,b=toL i.2
 rf:aW rs lg=0
 lo:lg=grU gs
 co:∀r∈rs,dL p r.2=0
theorem Mt.nil:Mt [] [] [] []:=⟨by simp,PlOk.nil,by simp[grO],rfl,rfl,by simp⟩
/-! ### refs -/
theorem vS:∀(us:List Upd)(l:List Rf)(lg:List Upd),(dX l lg us).2.2=0-> (dX l lg us).2.1=lg++us/\ (dX l lg us).1= (aO l us).1/\ (aO l us).2=0/\ (∀u∈us,dG u=0)
 | [],l,lg,_=>by simp[dX,aO]
 | u::us,l,lg,h=>by
   rw[qY]at h ⊢;unfold gQ at h ⊢;by_cases h1:bD l u≠0
   . rw[if_pos h1]at h;simp[h1]at h
   . rw[if_neg h1]at h ⊢
     by_cases h2:1000<=lg.length
     . rw[if_pos h2]at h;simp at h
     . rw[if_neg h2]at h ⊢
       simp only[ne_eq,not_true,if_false]at h ⊢;obtain⟨a1,a2,a3,a4⟩:=vS us _ _ h;rw[aO,if_neg h1];refine⟨by rw[a1];simp,a2,a3,fun v hv=>?_⟩;rcases List.mem_cons.1 hv with rfl | hv
       . unfold bD at h1
         by_cases hp:dG v≠0
         . rw[if_pos hp]at h1;exact absurd hp h1
         . simpa using hp
       . exact a4 v hv
theorem Cc:∀(us:List Upd)(l:List Rf)(lg:List Upd),(dX l lg us).2.2=0->lg.length<=1000->lg.length+us.length<=1000
 | [],l,lg,_,h=>h
 | u::us,l,lg,h,hl=>by
   rw[qY]at h;unfold gQ at h;by_cases h1:bD l u≠0
   . rw[if_pos h1]at h;simp[h1]at h
   . rw[if_neg h1]at h
     by_cases h2:1000<=lg.length
     . rw[if_pos h2]at h;simp at h
     . rw[if_neg h2]at h
       simp only[ne_eq,not_true,if_false]at h;have:=Cc us _ _ h (by rw[af];simp;omega);simp at this ⊢;omega
theorem Bq:∀(a b:List Upd)(l:List Rf),(aO l a).2=0->aO l (a++b)=aO (aO l a).1 b
 | [],b,l,_=>rfl
 | u::a,b,l,h=>by
   rw[List.cons_append,aO,aO];rw[aO]at h;by_cases h1:bD l u≠0
   . rw[if_pos h1]at h;exact absurd h h1
   . rw[if_neg h1]at h ⊢;rw[if_neg h1];exact Bq a b _ h
structure II(rs:List Rf)(lg us:List Upd)(rs':List Rf):Prop where
 chk:aW rs' (lg++us)=0
 pr:dJ us=0
 len:us.length<=1000
 eq:dE rs lg us= (rs',lg++us,0)
theorem vZ{rs:List Rf}{lg us:List Upd}(h: (dE rs lg us).2.2=0):II rs lg us (dE rs lg us).1:=by
 have e0:dE rs lg us=if aW rs lg≠0 then([],[],aW rs lg) else dX rs lg us:=rfl;by_cases h1:aW rs lg≠0
 . rw[e0,if_pos h1]at h;exact absurd h h1
 . rw[if_neg h1]at e0
   have hc:aW rs lg=0:=by simpa using h1
   have hl:=jl hc;rw[e0]at h ⊢;obtain⟨a1,a2,a3,a4⟩:=vS us _ _ h;have hlen:=Cc us _ _ h hl;have hr:=(pR hl).1 hc;refine⟨(pR (by rw[af];omega)).2 ?_,(wL us).2 a4,by omega,?_⟩
   . rw[Bq lg us [] (by rw[hr]),hr]
     exact Prod.ext a2.symm a3
   . rw[e0];exact Prod.ext rfl (Prod.ext a1 h)
theorem Cb:∀(us:List Upd)(l:List Rf)(lg:List Upd),(aO l us).2=0->lg.length+us.length<=1000->dX l lg us= ((aO l us).1,lg++us,0)
 | [],l,lg,_,_=>by simp[dX,aO]
 | u::us,l,lg,h,hl=>by
   rw[aO]at h ⊢;by_cases h1:bD l u≠0
   . rw[if_pos h1]at h;exact absurd h h1
   . rw[if_neg h1]at h ⊢
     rw[dX,if_neg h1,if_neg (by simp at hl;omega),Cb us _ _ h (by simp at hl ⊢;omega)];simp
theorem CP{rs:List Rf}{lg:List Upd}(h:aW rs lg=0):dE [] [] lg= (rs,lg,0):=by
 have hl:=jl h;have hr:=(pR hl).1 h;show(if aW [] []≠0 then _ else dX [] [] lg)=_;rw[if_neg (by simp[aW,aO]),Cb lg [] [] (by rw[hr]) (by simpa using hl),hr];rfl
theorem Ic{rs:List Rf}{lg:List Upd}(h:aW rs lg=0):dJ lg=0:=by
 have:=CP h;exact(vZ (by rw[this])).pr
theorem Ea:∀(us:List Upd)(l:List Rf),(aO l us).1.length<=l.length+us.length
 | [],l=>by simp[aO]
 | u::us,l=>by
   rw[aO];by_cases h:bD l u≠0
   . rw[if_pos h];simp
   . rw[if_neg h]
     have h1:=Ea us (dh l u.1 u.2.2);have h2:∀(l:List Rf)(s:UX)(d:Dig),(dh l s d).length<=l.length+1:=by
      intro l s d
      induction l with
      | nil=>simp only[dh];split <;> simp
      | cons r l ih =>
        simp only[dh];split
        . simp;omega
        . rw[af]
          have g1: (if r.1=s then l else r::l).length<=l.length+1:=by split <;> simp
          have g2: (if d= (0,0) then [] else [(s,d)]:List Rf).length<=1:=by split <;> simp
          rw[Z4];omega
     have:=h2 l u.1 u.2.2;simp;omega
theorem nC{rs:List Rf}{lg:List Upd}(h:aW rs lg=0):rs.length<=1000:=by
 have h1:=jl h;have h2:=(pR h1).1 h;have h3:=Ea lg [];rw[h2]at h3;simp at h3;omega
/-! ### writing -/
structure Rp where
 d:Dk
 p:List Itm
 rs:List Rf
 lg:List Upd
inductive gX
 | no
 | keep
 | app (g:Gru) (p:List Itm) (rs:List Rf) (lg:List Upd)
 | rew (g:Gru) (p:List Itm) (rs:List Rf) (lg:List Upd)
def dO(p q:List Itm):List Itm:=q.filter fun i=>(bM p i.1).isNone
def aY(p:List Itm):List UZ:=p.map fun i=>toL i.2
open Classical in
noncomputable def uM(p q:List Itm):List Itm:=if h:∃r,UniR p q r then h.choose else []
theorem yG{p q r:List Itm}(h:UniR p q r):uM p q=r:=by
 have hx:∃r,UniR p q r:=⟨r,h⟩
 unfold uM;rw[dif_pos hx];exact hx.choose_spec.uniq h
open Classical in
noncomputable def dH(p:List Itm)(rs:List Rf)(lg:List Upd)(q:List Itm)(us:List Upd):gX :=
 if PlOk q/\¬jS p q/\ (dE rs lg us).2.2=0/\∀u∈us,u.2.2≠zD->dL (uM p q) u.2.2=0 then
  if dO p q= []/\us= [] then .keep else .app (us,aY (dO p q)) (uM p q) (dE rs lg us).1 (lg++us)
 else .no
open Classical in
noncomputable def iD(p:List Itm)(rs:List Rf):List Itm:=p.filter fun i=>decide (Rchd p (rs.map (·.2)) i.1)
open Classical in
noncomputable def gV(p:List Itm)(rs:List Rf)(lg:List Upd):gX :=
 if(iD p rs).length=p.length then .keep else .rew (lg,aY (iD p rs)) (iD p rs) rs lg
def zRp:Rp:=⟨⟨0,[],[],0⟩,[],[],[]⟩
def after(r:Rp)(x:Dk×Int)(p:List Itm)(rs:List Rf)(lg:List Upd):Rp×Int :=
 if x.2=0 then(⟨x.1,p,rs,lg⟩,0) else if x.2=20 then({r with d:=x.1},20) else(zRp,x.2)
theorem Dt{p q:List Itm}(hp:AscI p){i:Itm}:i∈dO p q↔i∈q/\∀b,(i.1,b)∉p:=by
 unfold dO;rw[List.mem_filter,Option.isNone_iff_eq_none,BR hp]
theorem Dl{p:List Itm}{b:UZ}:b∈aY p↔∃i∈p,b=toL i.2:=by
 unfold aY;rw[List.mem_map];exact⟨fun⟨i,h,e⟩=>⟨i,h,e.symm⟩,fun⟨i,h,e⟩=>⟨i,h,e.symm⟩⟩
theorem Su{p q:List Itm}(_:PlOk p)(_:PlOk q)(h:¬jS p q){i:Itm}(hi:i∈q){b:UX}(hb: (i.1,b)∈p):i∈p:=by
 have:b=i.2:=Classical.byContradiction fun hne=>h ⟨i.1,b,i.2,hb,hi,hne⟩;rw[this]at hb;exact hb
theorem Po{l:List Rf}{s:UX}{d:Dig}{r:Rf}(h:r∈dh l s d): (r.2=d/\d≠zD)∨r∈l:=by
 induction l with
 | nil =>
   simp only[dh]at h;by_cases hd:d= (0,0)
   . rw[if_pos hd]at h;cases h
   . rw[if_neg hd]at h;rw[List.mem_singleton.1 h];exact .inl ⟨rfl,hd⟩
 | cons q l ih =>
   simp only[dh]at h;by_cases hl:less q.1 s=true
   . rw[if_pos hl]at h
     rcases List.mem_cons.1 h with rfl | h
     . exact .inr (by simp)
     . exact(ih h).imp id (List.mem_cons_of_mem _)
   . rw[if_neg hl]at h
     rcases List.mem_append.1 h with h | h
     . by_cases hd:d= (0,0)
       . rw[if_pos hd]at h;cases h
       . rw[if_neg hd]at h;rw[List.mem_singleton.1 h];exact .inl ⟨rfl,hd⟩
     . by_cases e:q.1=s
       . rw[if_pos e]at h;exact .inr (List.mem_cons_of_mem _ h)
       . rw[if_neg e]at h;exact .inr h
theorem ET:∀(us:List Upd){l:List Rf}{r:Rf},r∈ (aO l us).1->r∈l∨∃u∈us,u.2.2=r.2/\u.2.2≠zD
 | [],l,r,h=> .inl h
 | u::us,l,r,h=>by
   rw[aO]at h;by_cases h1:bD l u≠0
   . rw[if_pos h1]at h;exact .inl h
   . rw[if_neg h1]at h
     rcases ET us h with h | ⟨v,hv,h2⟩
     . rcases Po h with ⟨h2,h3⟩ | h
       . exact .inr ⟨u,by simp,h2.symm,h3⟩
       . exact .inl h
     . exact .inr ⟨v,by simp[hv],h2⟩
theorem Lc{rs:List Rf}{lg us:List Upd}(h: (dE rs lg us).2.2=0){r:Rf}(hr:r∈ (dE rs lg us).1):r∈rs∨∃u∈us,u.2.2=r.2/\u.2.2≠zD:=by
 have e0:dE rs lg us=if aW rs lg≠0 then([],[],aW rs lg) else dX rs lg us:=rfl;by_cases h1:aW rs lg≠0
 . rw[e0,if_pos h1]at h;exact absurd h h1
 . rw[if_neg h1]at e0
   rw[e0]at h hr;rw[(vS us _ _ h).2.1]at hr;exact ET us hr
theorem Mt.app{gs:List Gru}{p q:List Itm}{rs rs':List Rf}{lg lg' us:List Upd}{g:Gru}{p':List Itm}(h:Mt gs p rs lg)(hu:∀u∈us,u.1.size<=65536/\WfU u)(hq: (dO p q).length<=1099511627776)
  (hpl:dH p rs lg q us= .app g p' rs' lg') (hun:¬jS p q->∃r,UniR p q r):GOk g/\Mt (gs++ [g]) p' rs' lg':=by
 unfold dH at hpl;split at hpl
 . rename_i hc
   obtain⟨c1,c2,c3,c4⟩:=hc;split at hpl
   . cases hpl
   . cases hpl
     obtain⟨r,hr⟩:=hun c2;rw[yG hr]at c4 ⊢;have ha:=vZ c3;have hg:GOk (us,aY (dO p q)):=⟨ha.len,ha.pr,hu,by
      show(aY (dO p q)).length<=_;unfold aY;rw[List.length_map];exact hq⟩
     have hpr:=hr.plOk h.pl c1;refine⟨hg,fun g' hg'=>?_,hpr,fun b=>?_,ha.chk,by rw[h.lo];simp[grU],fun x hx=>?_⟩
     . rcases List.mem_append.1 hg' with h1 | h1
       . exact h.ok g' h1
       . rw[List.mem_singleton.1 h1];exact hg
     . unfold grO
       rw[List.flatMap_append,List.mem_append,(show b∈gs.flatMap (·.2)↔_ from h.ob b)];simp only[List.flatMap_cons,List.flatMap_nil,List.append_nil,Dl];constructor
       . rintro (⟨i,hi,e⟩ | ⟨i,hi,e⟩)
         . exact⟨i,(hr.mem i).2 (.inl hi),e⟩
         . exact⟨i,(hr.mem i).2 (.inr ((Dt h.pl.asc).1 hi).1),e⟩
       . rintro ⟨i,hi,e⟩
         rcases (hr.mem i).1 hi with hi | hi
         . exact .inl ⟨i,hi,e⟩
         . by_cases hb:∃b,(i.1,b)∈p
           . obtain⟨b',hb⟩:=hb
             exact .inl ⟨i,Su h.pl c1 c2 hi hb,e⟩
           . exact .inr ⟨i,(Dt h.pl.asc).2 ⟨hi,fun b' hb'=>hb ⟨b',hb'⟩⟩,e⟩
     . rcases Lc c3 hx with h1 | ⟨u,hu1,hu2,hu3⟩
       . exact ML h.pl hpr hr.sub1 (h.co x h1)
       . rw[<-hu2];exact c4 u hu1 hu3
 . cases hpl
theorem Qe(p:List Itm)(rs:List Rf):subP (iD p rs) p:=fun _ hi=>(List.mem_filter.1 hi).1
theorem PlOk.filter{p:List Itm}(h:PlOk p)(f:Itm->Bool):PlOk (p.filter f) :=
 ⟨fun i hi=>h.enc i (List.mem_filter.1 hi).1,fun i hi=>h.dg i (List.mem_filter.1 hi).1,h.asc.filter _⟩
theorem Gt{p:List Itm}(h:PlOk p)(rs:List Rf):PlOk (iD p rs):=h.filter _
theorem O5{p:List Itm}(h:PlOk p){rs:List Rf}{x:Dig}(hx:Rchd p (rs.map (·.2)) x){o:Ob}(hg:aG p x=some o):aG (iD p rs) x=some o:=by
 obtain⟨h1,h2⟩:=(iw h).1 hg;refine(iw (Gt h rs)).2 ⟨h1,?_⟩;unfold iD;rw[List.mem_filter];exact⟨h2,by simpa using hx⟩
theorem Rchd.more{p:List Itm}{ds es:List Dig}(hs:∀d∈ds,d∈es){x:Dig}(h:Rchd p ds x):Rchd p es x:=by
 induction h with
 | root h=>exact .root (hs _ h)
 | link _ g m ih=>exact .link ih g m
theorem Mt.rew{gs:List Gru}{p p':List Itm}{rs rs':List Rf}{lg lg':List Upd}{g:Gru}(h:Mt gs p rs lg)(hp:p.length<=1099511627776)(hpl:gV p rs lg= .rew g p' rs' lg'):GOk g/\Mt [g] p' rs' lg':=by
 unfold gV at hpl;split at hpl
 . cases hpl
 . cases hpl
   have hk:=Gt h.pl rs;have hlen: (aY (iD p rs)).length<=1099511627776:=by
    unfold aY iD;rw[List.length_map];have:=List.length_filter_le (fun i:Itm=>@decide (Rchd p (rs.map (·.2)) i.1) (Classical.propDecidable _)) p;omega
   have hg:GOk (lg,aY (iD p rs)):=⟨jl h.rf,Ic h.rf,fun u hu=>by
    have hu:u∈grU gs:=by rw[<-h.lo];exact hu
    obtain⟨g,hg,hu⟩:=List.mem_flatMap.1 hu;exact(h.ok g hg).us u hu,hlen⟩
   refine⟨hg,fun g' hg'=>by rw[List.mem_singleton.1 hg'];exact hg,hk,fun b=>by simp[grO,Dl],h.rf,by simp[grU],fun x hx=>?_⟩;exact LP h.pl hk (Qe p rs) (fun y hy o ho=>O5 h.pl (hy.more (fun d hd=>by rw[List.mem_singleton.1 hd];exact List.mem_map_of_mem hx)) ho) (h.co x hx)
end
structure Dsl where
 a1:OA
 c1:Nat
 a2:OA
 c2:Nat
def aC(b:UZ):List UY:= [.string (ofL b)]
def wrC(w:Nat×UZ):List UY:= [.int .i64 w.1,.string (ofL w.2)]
theorem dW(b:UZ): (aC b).length=1:=rfl
theorem tC(w:Nat×UZ): (wrC w).length=2:=rfl
def dkC(d:Dk)(s:Dsl):Array UY:=#[.int .i64 d.sz,.slice s.a1 d.ss.length s.c1,.slice s.a2 d.pn.length s.c2,.int .i64 d.lf]
def dkV(d:Dk)(s:Dsl):UY:= .agg (dkC d s)
structure DkM(w:UW)(B:Nat)(d:Dk)(s:Dsl):Prop where
 ss:Sl w B 1 s.a1 d.ss.length (flat aC d.ss)
 pn:Sl w B 2 s.a2 d.pn.length (flat wrC d.pn)
theorem DkM.below{w w':UW}{B B':Nat}{d:Dk}{s:Dsl}(h:DkM w B d s)(hb:Below B' w w')(hB:B<=B'):DkM w' B d s:=⟨h.ss.below hb hB,h.pn.below hb hB⟩
theorem DkM.more{w:UW}{B B':Nat}{d:Dk}{s:Dsl}(h:DkM w B d s)(hB:B<=B'):DkM w B' d s:=⟨h.ss.more hB,h.pn.more hB⟩
theorem Bk.dk4{w:UW}{b:Nat}{t:TypeId}{x0 x1 x2 x3:UY}(h:Bk w b t #[x0,x1,x2,x3]):w.cell? ⟨b,0,none⟩=some x0/\w.cell? ⟨b,1,none⟩=some x1/\w.cell? ⟨b,2,none⟩=some x2/\w.cell? ⟨b,3,none⟩=some x3:=by
 have h0:=h.cell 0;have h1:=h.cell 1;have h2:=h.cell 2;have h3:=h.cell 3;simp at h0 h1 h2 h3;exact⟨h0,h1,h2,h3⟩
def jF(n s:Int):Bool:=decide (1<=n/\n<=1000/\1<=s/\s<=512)
def hasB(n:Nat)(i:Int):Bool:=decide (0<=i/\i<n)
theorem Fb(n s:Int)(w:UW):Calls Tryz.prog 73 #[.int .i64 n,.int .i64 s] w fun e w'=>e= .returned (.bool (jF n s))/\w=w':=by
 go_enter Tryz.func73,Tryz.ntmps73
 by_cases h1:1<=n
 . by_cases h2:n<=1000
   . by_cases h3:1<=s
     . by_cases h4:s<=512
       . go_wp2;go_ret;exact⟨dD (decide_eq_true (by omega)).symm,rfl⟩
       . go_wp2;go_ret;exact⟨dD (decide_eq_false (by omega)).symm,rfl⟩
     . go_wp2;go_ret;exact⟨dD (decide_eq_false (by omega)).symm,rfl⟩
   . go_wp2;go_ret;exact⟨dD (decide_eq_false (by omega)).symm,rfl⟩
 . go_wp2;go_ret;exact⟨dD (decide_eq_false (by omega)).symm,rfl⟩
theorem DL(x:Int)(w:UW)(h: -1<=x)(h2:x<=9223372036854775807):Calls Tryz.prog 172 #[.int .i64 x] w fun e w'=>e= .returned (.int .i64 (fM x))/\w=w':=by
 go_enter Tryz.func172,Tryz.ntmps172
 unfold fM;by_cases h1:0<x
 . rw[if_pos h1];go_wp2;go_ret;exact⟨rfl,rfl⟩
 . rw[if_neg h1];go_wp2;go_ret;exact⟨rfl,rfl⟩
theorem EG(d:Dk)(s:Dsl)(i:Int)(w:UW):Calls Tryz.prog 118 #[dkV d s,.int .i64 i] w fun e w'=>e= .returned (.bool (hasB d.ss.length i))/\U0 w w':=by
 have HB:Hid (U0 w (w.alloc (.cells (dkC d s) 25))):=(ah _ w).alloc aj _;obtain⟨k0,k1,k2,k3⟩:=(Bk.new w 25 (dkC d s)).dk4;obtain⟨n,hn⟩:=NX9 d.ss.length
 simp only[dkV,dkC,hn]at *
 go_enter Tryz.func118,Tryz.ntmps118
 by_cases h1:0<=i
 . by_cases h2:i<n
   . go_wp2;go_ret;exact⟨dD (decide_eq_true (by omega)).symm,HB.o⟩
   . go_wp2;go_ret;exact⟨dD (decide_eq_false (by omega)).symm,HB.o⟩
 . go_wp2;go_ret;exact⟨dD (decide_eq_false (by omega)).symm,HB.o⟩
theorem rF(d:Dk)(s:Dsl)(B:Nat)(w:UW)(hd:d.Ok)(hm:DkM w B d s)(hB:B<=w.heap.size)(hp:d.pn.length<=1000000):Calls Tryz.prog 58 #[dkV d s] w fun e w'=>e= .returned (.int .i64 0)/\U0 w w':=by
 obtain⟨W,hW⟩:=NX9 (w.alloc (.cells (dkC d s) 25))
 have HB0:U6 w W:=by rw[<-hW];exact(ah _ w).alloc aj _
 have HK:Hid (Bk W w.heap.size 25 (dkC d s)):=by rw[<-hW];exact Bk.new w _ _
 have HM:Hid (DkM W B d s):=hm.below HB0.o hB;have HD:=ai hd;have HH:=ai (fun i W=>EG d s i W);have h1:=hd.n0;have h2:=hd.n1;have h3:=hd.sz0;have h4:=hd.sz1;have h5:=hd.lf;obtain⟨n,hn⟩:=NX9 d.ss.length
 obtain⟨m,hmm⟩:=NX9 d.pn.length
 have HN:=ai hn;have g:=ai hmm;have HR:=ai (Fb n d.sz W);rw[show jF n d.sz=true from decide_eq_true (by rw[<-hn];exact⟨by omega,by omega,by omega,by omega⟩)]at HR;simp only[dkV,dkC,hn,hmm]at HK hW h1 h2 hp HH ⊢;clear hd hm hn hmm;obtain⟨k0,k1,k2,k3⟩:=HK.o.dk4;have h:w.heap.size<W.heap.size:=HK.o.lt
 go_enter Tryz.func58,Tryz.ntmps58
 go_wp2_with fail;refine HR.o.mono ?_;rintro e w1 ⟨rfl,rfl⟩;go_wp2_with fail
 go_loopw[17] (fun i wr=>∃k:Nat,k<=n/\i= .int .i64 k/\W=wr) (fun i _=>n - (intOf i).toNat)
 case atStart=>exact⟨0,ZX _,rfl,rfl⟩
 case round =>
  obtain⟨k,hk,rfl,rfl⟩:=hrel;by_cases hlt:k<n
  . obtain⟨b,off,x,hA,hb,hx,hc⟩:=HM.o.ss.at_ dW (by omega) (by rw[HN.o];exact hlt)
    have x0:=hc 0 _ rfl;have hs: ((ofL x).size:Int)=d.sz:=by rw[bK];have:=HD.o.len x (Z7 hx);omega
    rw[hA]at k1 ⊢;simp only[Nat.mul_one,Nat.add_zero]at x0;clear hc hx;go_wp2_with fail;go_roundw
    case rel=>exact⟨k+1,by omega,by go_num,trivial⟩
    case measure=>simp[intOf];omega
  . go_wp2_with fail
    go_loopw[30] (fun i wr=>∃k:Nat,k<=m/\i= .int .i64 k/\U6 W wr) (fun i _=>m - (intOf i).toNat)
    case atStart=>exact⟨0,ZX _,rfl,ah _ _⟩
    case round =>
     obtain⟨k,hk,rfl,hbw⟩:=hrel;have a:=ai hbw.o;clear hbw hlt k0 k1 k2 k3;have zr:w.heap.size<wr.heap.size:=by have:=a.o.size;omega
     obtain⟨k0,k1,k2,k3⟩:=(HK.o.below a.o h).dk4;by_cases hlt:k<m
     . obtain⟨b,off,⟨xi,xd⟩,hA,hb,hx,hc⟩:=(HM.o.below a.o (by have:=h;omega)).pn.at_ tC (by omega) (by rw[g.o];exact hlt)
       have x0:=hc 0 _ rfl;have x1:=hc 1 _ rfl;obtain⟨g1,g2⟩:=HD.o.pn _ (Z7 hx);have hs: ((ofL xd).size:Int)=d.sz:=by rw[bK];simp only at g2;omega
       have c:=ai (HH.o xi);rw[show hasB n xi=true from decide_eq_true (by rw[<-HN.o];simp only at g1;omega)]at c;simp only[Nat.add_zero]at x0;rw[hA]at k2 c ⊢;clear hc hx g1 g2;go_wp2_with fail;refine(c.o _).mono ?_;rintro e w2 ⟨rfl,hb2⟩;have f:U6 W w2:=(a.o.alloc a.o.size _).trans (hb2.mono (by have:=a.o.size;simp;omega));have HX:=ai (((Bk.new wr 175 #[.int .i64 xi,.string (ofL xd)]).below hb2 (by simp)));have j:=ai (HK.o.below f.o h);clear hb2 k0 k1 k2 k3 x0 x1;obtain⟨k0,k1,k2,k3⟩:=j.o.dk4;have x0:=HX.o.cell 0;have x1:=HX.o.cell 1;simp at x0 x1;go_wp2_with fail;go_roundw
       case rel=>exact⟨k+1,by omega,by go_num,f.o⟩
       case measure=>simp[intOf];omega
     . go_wp2_with fail
       go_ret
       exact⟨rfl,HB0.o.trans (a.o.mono (by omega))⟩
theorem Sl.avoid{w w':UW}{B size n:Nat}{A:OA}{xs:List UY}(h:Sl w B size A n xs)(hk:∀b off,A=some ⟨b,off,none⟩->0<n-> (∀j u,xs[j]? =some u->w.cell? ⟨b,off+j,none⟩=some u)->w'.heap[b]? =w.heap[b]?):Sl w' B size A n xs :=
 ⟨h.1,fun hn=>by
   obtain⟨b,off,e,hb,hc⟩:=h.2 hn;exact⟨b,off,e,hb,fun j u hu=>(World.cell?_of_block (hk b off e hn hc)).trans (hc j u hu)⟩⟩
theorem DkM.avoid{w w':UW}{B b:Nat}{d:Dk}{s:Dsl}{t:TypeId}{p1 p2:OA}{y0 y3:Int}{n1 c1 n2 c2:Nat}(h:DkM w B d s)(hk:Bk w b t #[.int .i64 y0,.slice p1 n1 c1,.slice p2 n2 c2,.int .i64 y3])(hw:∀b',b'≠b->w'.heap[b']? =w.heap[b']?):DkM w' B d s:=by
 have key:∀b' o x,w.cell? ⟨b',o,none⟩=some (.string x)->w'.heap[b']? =w.heap[b']? :=by
  intro b' o x hx;refine hw b' ?_;rintro rfl;rw[hk.cell]at hx
  match o,hx with
  | 0,hx=>simp at hx
  | 1,hx=>simp at hx
  | 2,hx=>simp at hx
  | 3,hx=>simp at hx
  | o+4,hx=>simp at hx
 refine⟨h.ss.avoid fun b' off e hn hc=>?_,h.pn.avoid fun b' off e hn hc=>?_⟩
 . have hx:d.ss[0]? =some d.ss[0]:=Z5 hn
   exact key b' (off+0) _ (hc 0 _ (by have:=iG (enc:=aC) dW d.ss 0 0 _ hx (by omega);simpa [aC] using this))
 . have hx:d.pn[0]? =some d.pn[0]:=Z5 hn
   exact key b' (off+1) _ (hc 1 _ (by have:=iG (enc:=wrC) tC d.pn 0 1 _ hx (by omega);simpa [wrC] using this))
theorem DkM.box{w:UW}{B b:Nat}{d:Dk}{s:Dsl}{t:TypeId}{p1 p2:OA}{y0 y3:Int}{n1 c1 n2 c2:Nat}(h:DkM w B d s)(hk:Bk w b t #[.int .i64 y0,.slice p1 n1 c1,.slice p2 n2 c2,.int .i64 y3])(z0 z1 z2 z3:UY) :
  DkM ((((w.setCell ⟨b,0,none⟩ z0).setCell ⟨b,1,none⟩ z1).setCell ⟨b,2,none⟩ z2).setCell ⟨b,3,none⟩ z3) B d s :=
 h.avoid hk fun _ hne=>(Z8 _ _ _ _ hne).trans ((Z8 _ _ _ _ hne).trans ((Z8 _ _ _ _ hne).trans (Z8 _ _ _ _ hne)))
theorem DkM.box1{w:UW}{B b:Nat}{d:Dk}{s:Dsl}{t:TypeId}{p1 p2:OA}{y0 y3:Int}{n1 c1 n2 c2:Nat}(h:DkM w B d s)(hk:Bk w b t #[.int .i64 y0,.slice p1 n1 c1,.slice p2 n2 c2,.int .i64 y3])(i:Nat)(z:UY):DkM (w.setCell ⟨b,i,none⟩ z) B d s :=
 h.avoid hk fun _ hne=>Z8 _ _ _ _ hne
def Apd(w:UW)(base:Nat)(e:TypeId)(size:Nat)(A:OA)(n c:Nat)(xs:List UY):Prop :=
 w.ownsRow base e size (.slice A n c) n xs∨ (n=0/\c=0/\xs= [])
section
variable {P : Program} {w w' : UW} {base size n c : Nat} {e : TypeId} {A : OA} {xs : List UY}
theorem Apd.sl(h:Apd w base e size A n c xs):Sl w w.heap.size size A n xs:=by
 rcases h with h | ⟨rfl,rfl,rfl⟩
 . exact Sl.of_own h
 . exact Sl.nil _ _ _ _
theorem Apd.below(h:Apd w base e size A n c xs)(hb:U0 w w'):Apd w' base e size A n c xs:=by
 rcases h with h | h
 . exact .inl (h.kept (row:=none) ⟨hb.os,hb.tape,hb.output,hb.size,fun k hk _=>hb.block k hk⟩ (by
     cases hv: (Value.slice A n c).ownBlock with
     | none=>exact .inl rfl
     | some k=>exact .inr (by simp)))
 . exact .inr h
theorem Apd.setCell(h:Apd w base e size A n c xs){a:Addr}(ha:a.block<base)(u:UY):Apd (w.setCell a u) base e size A n c xs:=by
 rcases h with h | h
 . exact .inl (ownsRow_setCell_below h ha u)
 . exact .inr h
theorem Jv(hg:w.grownBy w' none):U0 w w':=⟨hg.os,hg.tape,hg.output,hg.size,fun k hk=>hg.block k hk (by simp)⟩
theorem zV(t ty:TypeId)(i:TypeInfo)(z:UY)(bytes:Nat)(ht:P.underlying t=some (.slice e))(hi:P.info? e=some i)(hz:i.zero=some z)
  (hsize:i.size=size) (hby:i.bytes=bytes) (hzs:z.cells.size=size) (hsz:0<size)
  {B:Nat} {A':OA} {m c':Nat} {ys:List UY} (hsl:Sl w B size A' m ys) (h1:∀u∈ys,u.oneCell'=true)
  (h63:m<=maxLen) (hbytes:m*bytes<=140737488355328) (hbase:base<=w.heap.size) (A:OA) :
  ∃A2 c2 w',(Builtin.append_ #[t,t] ty #[.slice A 0 0,.slice A' m c']).run P w= .ok (.slice A2 m c2) w'/\Apd w' base e size A2 m c2 ys/\U0 w w'/\m<=c2/\c2<=maxLen:=by
 rcases Nat.eq_zero_or_pos m with h | hm
 . subst h
   have hy:ys= []:=by
    have:=hsl.1;rw[Nat.zero_mul]at this;exact List.length_eq_zero_iff.1 this
   subst hy;refine⟨A,0,w,?_,.inr ⟨rfl,rfl,rfl⟩,ah _ _,Nat.le_refl _,ZX _⟩;cases A <;> cases A' <;> simp[Builtin.append_,run_underlying ht,sizeOf,typeInfo,hi,Builtin.lenOf,Builtin.firstCells,loadCells,loadCellsFrom,storeCells]
 . -- as onto nil
   have hrun: (Builtin.append_ #[t,t] ty #[.slice A 0 0,.slice A' m c']).run P w= (Builtin.append_ #[t,t] ty #[.slice none 0 0,.slice A' m c']).run P w:=by
    obtain⟨b,off,rfl,_,_⟩:=hsl.2 hm;cases A with
    | none=>rfl
    | some ad =>
      have hroom:¬m=0:=by omega
      have hfit:¬281474976710656<Builtin.nextslicecap m 0*i.bytes:=by
       have:=growslice_fits (old:=0) (need:=m) (bytes:=bytes) (by omega) hbytes;rw[hby];omega
      simp[Builtin.append_,run_underlying ht,sizeOf,typeInfo,hi,Builtin.lenOf,Builtin.firstCells,loadCells,loadCellsFrom,hroom,hfit]
   obtain⟨A2,c2,w2,hr,ho,hg,hc1,hc2⟩:=lW (P:=P) (base:=base) (v:= .slice none 0 0) (n:=0) (xs:= []) t ty i z bytes ht hi hz hsize hby hzs hsz (World.ownsRow_nil w base e size) (c:=c') hsl h1 (by omega) (by rw[Nat.zero_add];exact hbytes) hbase;simp only[Nat.zero_add,List.nil_append]at hr ho hc1;exact⟨A2,c2,w2,hrun.trans hr,.inl ho,Jv hg,hc1,hc2⟩
def OthersKept(e:TypeId)(w w':UW):Prop:=∀(base size n:Nat)(e':TypeId)(v:UY)(xs:List UY),e'≠e->w.ownsRow base e' size v n xs->w'.ownsRow base e' size v n xs
theorem Jr(t ty:TypeId)(i:TypeInfo)(z:UY)(bytes:Nat)(ht:P.underlying t=some (.slice e))(hi:P.info? e=some i)(hz:i.zero=some z)
  (hsize:i.size=size) (hby:i.bytes=bytes) (hzs:z.cells.size=size) (hsz:0<size) (ha:Apd w base e size A n c xs)
  {B:Nat} {A':OA} {m c':Nat} {ys:List UY} (hsl:Sl w B size A' m ys) (h1:∀u∈ys,u.oneCell'=true)
  (h63:n+m<=maxLen) (hbytes: (n+m)*bytes<=140737488355328) (hbase:base<=w.heap.size) :
  ∃A2 c2 w',(Builtin.append_ #[t,t] ty #[.slice A n c,.slice A' m c']).run P w= .ok (.slice A2 (n+m) c2) w'/\Apd w' base e size A2 (n+m) c2 (xs++ys)/\Below base w w'/\n+m<=c2/\c2<=maxLen/\OthersKept e w w':=by
 rcases ha with h | ⟨rfl,rfl,rfl⟩
 . obtain⟨A2,c2,w2,hr,ho,hg,hc1,hc2⟩:=lW (P:=P) t ty i z bytes ht hi hz hsize hby hzs hsz h (c:=c') hsl h1 h63 hbytes hbase
   exact⟨A2,c2,w2,hr,.inl ho,(ah _ w).grown hg hbase (fun k hk=>jy h k hk),hc1,hc2,fun _ _ _ _ _ _ hne h'=>h'.kept hg (Jz h h' hne)⟩
 . obtain⟨A2,c2,w2,hr,ho,hg,hc1,hc2⟩:=zV (P:=P) (base:=base) t ty i z bytes ht hi hz hsize hby hzs hsz (c':=c') hsl h1 (by omega) (by rw[Nat.zero_add]at hbytes;exact hbytes) hbase A
   rw[Nat.zero_add,List.nil_append];exact⟨A2,c2,w2,hr,ho,hg.mono hbase,hc1,hc2,fun _ _ _ _ v _ _ h'=>h'.kept (row:=none) ⟨hg.os,hg.tape,hg.output,hg.size,fun k hk _=>hg.block k hk⟩ (by cases hv:v.ownBlock with | none=>exact .inl rfl | some k=>exact .inr (by simp))⟩
theorem dZ(w:UW){ops:Array Oper}{rest:List Oper}{o:Oper}{a:Act}{Q:Exit->Act->UW->Prop}(hgd:o.guard=none)(s x:Operand)(t:TypeId)
  (ho:o.op= .call {callee:= .builtin .append,args:=#[s,x],argTypes:=#[t,t]})
  (e:TypeId) (i:TypeInfo) (z:UY) (bytes:Nat) (ht:P.underlying t=some (.slice e)) (hi:P.info? e=some i) (hz:i.zero=some z)
  (hsize:i.size=size) (hby:i.bytes=bytes) (hzs:z.cells.size=size) (hsz:0<size)
  (A:OA) (n c:Nat) (xs:List UY) (hs:a.eval s= .slice A n c) (hown:Apd w base e size A n c xs)
  (B:Nat) (A':OA) (m c':Nat) (ys:List UY) (hx:a.eval x= .slice A' m c') (hsl:Sl w B size A' m ys) (h1:∀u∈ys,u.oneCell'=true)
  (h63:n+m<=maxLen) (hbytes: (n+m)*bytes<=140737488355328) (hbase:base<=w.heap.size)
  (h:∀A2 c2 w',Apd w' base e size A2 (n+m) c2 (xs++ys)->Below base w w'->n+m<=c2->c2<=maxLen->OthersKept e w w'->wpList P ops Q rest (a.put o.dst (.slice A2 (n+m) c2)) w'):wpList P ops Q (o::rest) a w:=by
 refine wpList_plain hgd fun K hK=>?_;obtain⟨A2,c2,w',hr,ho',hg,hc1,hc2,hok⟩:=Jr (P:=P) t o.type i z bytes ht hi hz hsize hby hzs hsz hown (c':=c') hsl h1 h63 hbytes hbase;unfold Oper.wp;simp[execOp,ho,resolve,invoke,builtin,hs,hx,hr,Result.andThen];exact hK _ _ (h A2 c2 w' ho' hg hc1 hc2 hok)
end
theorem Sl.new(w:UW)(t:TypeId)(xs:List UY)(n:Nat){size:Nat}(h:xs.length=n*size):Sl (w.alloc (.cells xs.toArray t)) (w.heap.size+1) size (some ⟨w.heap.size,0,none⟩) n xs :=
 ⟨h,fun _=>⟨w.heap.size,0,rfl,by omega,fun j u hu=>by
   rw[Nat.zero_add,(Bk.new w t xs.toArray).cell j]
   simpa using hu⟩⟩
theorem ls5{vs:List UY}(h:vs.length=5):∃v0 v1 v2 v3 v4,vs=v0::v1::v2::v3::v4:: []:=by
 match vs,h with
 | v0::v1::v2::v3::v4:: [],_=>exact⟨_,_,_,_,_,rfl⟩
theorem ls7{vs:List UY}(h:vs.length=7):∃v0 v1 v2 v3 v4 v5 v6,vs=v0::v1::v2::v3::v4::v5::v6:: []:=by
 match vs,h with
 | v0::v1::v2::v3::v4::v5::v6:: [],_=>exact⟨_,_,_,_,_,_,_,rfl⟩
theorem IZ{vs:List UY}(h:vs.length=10):∃v0 v1 v2 v3 v4 v5 v6 v7 v8 v9,vs=v0::v1::v2::v3::v4::v5::v6::v7::v8::v9:: []:=by
 match vs,h with
 | v0::v1::v2::v3::v4::v5::v6::v7::v8::v9:: [],_=>exact⟨_,_,_,_,_,_,_,_,_,_,rfl⟩
theorem zI{vs:List UY}(h:vs.length=11):∃v0 v1 v2 v3 v4 v5 v6 v7 v8 v9 v10,vs=v0::v1::v2::v3::v4::v5::v6::v7::v8::v9::v10:: []:=by
 match vs,h with
 | v0::v1::v2::v3::v4::v5::v6::v7::v8::v9::v10:: [],_=>exact⟨_,_,_,_,_,_,_,_,_,_,_,rfl⟩
theorem Jb{vs:List UY}(h:vs.length=12):∃v0 v1 v2 v3 v4 v5 v6 v7 v8 v9 v10 v11,vs=v0::v1::v2::v3::v4::v5::v6::v7::v8::v9::v10::v11:: []:=by
 match vs,h with
 | v0::v1::v2::v3::v4::v5::v6::v7::v8::v9::v10::v11:: [],_=>exact⟨_,_,_,_,_,_,_,_,_,_,_,_,rfl⟩
def Que(w:UW)(base:Nat)(e:TypeId)(size:Nat)(A:OA)(n c:Nat)(xs:List UY):Prop :=
 xs.length=n*size/\ ((n=0/\c=0)∨∃g off cur,A=some ⟨g,off,none⟩/\base<=g/\w.heap[g]? =some (.cells cur e (0,0))/\n<=c/\c<=maxLen/\cur.size=off+c*size/\ (cur.toList.drop off).take (n*size)=xs)
section
variable {P : Program} {w w' : UW} {base size n c : Nat} {e : TypeId} {A : OA} {xs : List UY}
theorem Que.of_own(h:w.ownsRow base e size (.slice A n c) n xs):Que w base e size A n c xs:=by
 refine⟨h.1,?_⟩;rcases h.2 with ⟨hv,h0⟩ | ⟨g,cap,cur,hv,h1,h2,h3,h4,h5,h6⟩
 . simp at hv;exact .inl ⟨h0,hv.2.2⟩
 . simp at hv
   obtain⟨rfl,rfl⟩:=hv;exact .inr ⟨g,0,cur,rfl,h1,h2,h3,h4,by omega,by simpa using h6⟩
theorem Que.more{base':Nat}(h:Que w base e size A n c xs)(hb:base'<=base):Que w base' e size A n c xs:=by
 obtain⟨h0,h | ⟨g,off,cur,h1,h2,h3⟩⟩:=h
 . exact⟨h0,.inl h⟩
 . exact⟨h0,.inr ⟨g,off,cur,h1,by omega,h3⟩⟩
theorem Que.le(h:Que w base e size A n c xs):n<=c/\c<=maxLen:=by
 obtain⟨h0,⟨rfl,rfl⟩ | ⟨g,off,cur,h1,h2,h3,h4,h5,_⟩⟩:=h
 . exact⟨Nat.le_refl _,ZX _⟩
 . exact⟨h4,h5⟩
theorem Que.sl(h:Que w base e size A n c xs):Sl w w.heap.size size A n xs:=by
 obtain⟨h0,⟨rfl,rfl⟩ | ⟨g,off,cur,h1,h2,h3,h4,h5,h6,h7⟩⟩:=h
 . exact⟨h0,fun h=>absurd h (by omega)⟩
 . refine⟨h0,fun _=>⟨g,off,h1,(Array.getElem?_eq_some_iff.1 h3).1,fun j u hu=>?_⟩⟩
   rw[<-h7,List.getElem?_take]at hu;split at hu
   . rw[List.getElem?_drop]at hu
     simp[World.cell?,h3]
     simpa using hu
   . cases hu
theorem Jo(t ty:TypeId)(i:TypeInfo)(z:UY)(bytes:Nat)(ht:P.underlying t=some (.slice e))(hi:P.info? e=some i)(hz:i.zero=some z)
  (hsize:i.size=size) (hby:i.bytes=bytes) (hzs:z.cells.size=size) (hsz:0<size) (ha:Que w base e size A n c xs)
  {B:Nat} {A':OA} {m c':Nat} {ys:List UY} (hsl:Sl w B size A' m ys) (h1:∀u∈ys,u.oneCell'=true) (hm:0<m)
  (h63:n+m<=maxLen) (hbytes: (n+m)*bytes<=140737488355328) (hbase:base<=w.heap.size) :
  ∃A2 c2 w' row,(Builtin.append_ #[t,t] ty #[.slice A n c,.slice A' m c']).run P w= .ok (.slice A2 (n+m) c2) w'/\Que w' base e size A2 (n+m) c2 (xs++ys)/\w.grownBy w' row/\ (∀g,row=some g->base<=g/\ (∃cur,w.heap[g]? =some (.cells cur e (0,0)))/\c≠0/\∃off,A=some ⟨g,off,none⟩)/\∀g off,A2=some ⟨g,off,none⟩-> (c≠0/\∃off,A=some ⟨g,off,none⟩)∨w.heap.size<=g:=by
 obtain⟨h0,⟨rfl,rfl⟩ | ⟨g,off,cur,rfl,h2,h3,h4,h5,h6,h7⟩⟩:=ha
 . have hx:xs= []:=List.eq_nil_of_length_eq_zero (by simpa using h0)
   subst hx;obtain⟨A2,c2,w2,hr,ho,hg,hc1,hc2⟩:=zV (P:=P) (base:=w.heap.size) t ty i z bytes ht hi hz hsize hby hzs hsz (c':=c') hsl h1 (by omega) (by rw[Nat.zero_add]at hbytes;exact hbytes) aj A;rw[Nat.zero_add,List.nil_append];rcases ho with ho | ⟨e1,_⟩
   . refine⟨A2,c2,w2,none,hr,(Que.of_own ho).more hbase,⟨hg.os,hg.tape,hg.output,hg.size,fun k hk _=>hg.block k hk⟩,(fun g h=>by cases h),fun g off e=> .inr ?_⟩
     subst e;exact(ho.lt g rfl).1
   . omega
 . obtain⟨b',off',rfl,hb',hcy⟩:=hsl.2 hm
   have hnews:∀j u,ys[j]? =some u->w.cell? (Addr.add ⟨b',off',none⟩ j)=some u:=fun j u hj=>by rw[Addr.add_lit];exact hcy j u hj
   by_cases hroom:n+m<=c
   . subst hsize
     have hf:=run_firstCells_some (P:=P) w i.size m ⟨b',off',none⟩ m c' ys hsl.1 hnews;have hfit:off+n*i.size+ys.length<=cur.size:=by
      rw[hsl.1,h6,Nat.add_assoc,<-Nat.add_mul];exact Nat.add_le_add_left (Nat.mul_le_mul_right _ hroom) _
     have hst:=run_storeCells_at P g (off+n*i.size) e ys 0 cur w h3 (by simpa using hfit) h1;simp only[Nat.add_zero]at hst;refine⟨some ⟨g,off,none⟩,c,w.setRow g (cur.toList.take (off+n*i.size)++ys++cur.toList.drop (off+n*i.size+ys.length)).toArray,some g,?_,?_,⟨rfl,rfl,rfl,by simp,fun k _ hk=>setRow_other w g k _ (fun e=>hk (by simp[e]))⟩,(fun g' e'=>by cases e';exact⟨h2,⟨cur,h3⟩,by omega,off,rfl⟩),fun g' o' e'=> .inl ⟨by omega,off,by cases e';rfl⟩⟩
     . simp[Builtin.append_,run_underlying ht,sizeOf,typeInfo,hi,Builtin.lenOf,hroom,hf,Addr.add_lit,hst]
     . have hlen: (xs++ys).length= (n+m)*i.size:=by rw[af,h0,hsl.1,Nat.add_mul]
       refine⟨hlen,.inr ⟨g,off,_,rfl,h2,setRow_heap w g cur _ e _ h3,hroom,h5,?_,?_⟩⟩
       . simp only[List.size_toArray,af,List.length_take,List.length_drop,Array.length_toList]
         omega
       . have e1:cur.toList.take (off+n*i.size)=cur.toList.take off++xs:=by rw[<-h7,List.take_add]
         have e2: (cur.toList.take off).length=off:=by rw[List.length_take,Array.length_toList];omega
         simp only[e1,ZZ];rw[List.drop_append_of_le_length (by omega),List.drop_of_length_le (by omega),List.nil_append,<-ZZ,<-hlen];exact List.take_left
   . obtain⟨v',w2,hrun,r1,r2⟩:=run_append_arg_grows (P:=P) w t ty e i z size bytes ht hi hz hsize hby hzs hsz ⟨g,off,none⟩ n c xs h0 (fun j u hj=>by
       rw[Addr.add_lit];have:=(Que.sl (w:=w) (base:=base) (e:=e) (c:=c) ⟨h0,.inr ⟨g,off,cur,rfl,h2,h3,h4,h5,h6,h7⟩⟩).2;rcases Nat.eq_zero_or_pos n with hn | hn
       . subst hn
         have hx:xs= []:=List.eq_nil_of_length_eq_zero (by simpa using h0);subst hx;simp at hj
       . obtain⟨b1,o1,e1,_,hc1⟩:=this hn
         simp at e1;obtain⟨rfl,rfl⟩:=e1;exact hc1 j u hj) ⟨b',off',none⟩ m c' ys hsl.1 hnews (by omega) h63 hbytes
     rcases r1.2 with ⟨_,h8⟩ | ⟨g2,cap2,cur2,rfl,h8,_⟩
     . omega
     . exact⟨_,cap2,w2,none,hrun,(Que.of_own r1).more hbase,r2,(fun g h=>by cases h),fun g' o' e'=> .inr (by cases e';exact h8)⟩
end
section
def IQ{α:Type}(F:Fence)(n:Nat)(P:Program)(g:Nat)(lb:Array UY)(encs:α->Array UY)(Kp St:UW->UW->Prop)(Pf S Sp:List α->Prop)(hz:Nat)(w:UW):Prop :=
 ∀(l:Nat)(J Jx:List α->UW->Prop)(W:UW),U0 w W->W.heap.size=hz-> (∀pre A B,J pre A->St A B->J pre B) ->
  (∀pre x W1,Pf (pre++ [x])->J pre W1->YieldAt F (n - 1) P l (encs x) W1 fun e W' =>
    (e= .returned (.bool true)/\J (pre++ [x]) W'/\Kp W1 W')∨ (e= .returned (.bool false)/\Jx (pre++ [x]) W')) ->
  J [] W ->
  CallsIn F n P g (#[.func (.yield l) #[] #[]]++lb) W fun e W'=>(∃v,e= .returned v)/\ ((∃xs,S xs/\J xs W')∨ (∃pre,Sp pre/\Jx pre W'))
def Rec2(D:Nat)(W W':UW):Prop:=W'.heap[D]? =W.heap[D]? /\W'.heap[D+1]? =W.heap[D+1]?
theorem Rec2.refl(D:Nat)(W:UW):Rec2 D W W:=⟨rfl,rfl⟩
def xX{α:Type}(D:Nat)(Kp:UW->UW->Prop)(I:List α->UW->Prop)(Ix:Code->List α->UW->Prop)(xs:List α)(W:UW):Exit->Act->UW->Prop
 | .normal,_,W'=>Rec2 D W W'/\Kp W W'/\I xs W'
 | .ret,_,W'=>Rec2 D W W'/\Ix .ret xs W'
 | .exit id,_,W'=>Rec2 D W W'/\Ix (.exit id) xs W'
 | .goto t,_,W'=>Rec2 D W W'/\Ix (.goto t) xs W'
 | .panic _,_,_=>False
 | .outgrown,_,_=>False
variable {F : Fence} {n : Nat} {P : Program}
end
section
open Go.Maps
section
variable {F : Fence} {n' : Nat} {P : Program} {w : UW}
theorem nY{base size:Nat}{ops:Array Oper}{rest:List Oper}{o:Oper}{a:Act}{Q:Exit->Act->UW->Prop}(hgd:o.guard=none)(s x:Operand)(t:TypeId)
  (ho:o.op= .call {callee:= .builtin .append,args:=#[s,x],argTypes:=#[t,t]})
  (e:TypeId) (i:TypeInfo) (z:UY) (bytes:Nat) (ht:P.underlying t=some (.slice e)) (hi:P.info? e=some i) (hz:i.zero=some z)
  (hsize:i.size=size) (hby:i.bytes=bytes) (hzs:z.cells.size=size) (hsz:0<size)
  (v:UY) (n:Nat) (xs:List UY) (hs:a.eval s=v) (hown:w.ownsRow base e size v n xs)
  (B:Nat) (A:OA) (m c:Nat) (ys:List UY) (hx:a.eval x= .slice A m c) (hsl:Sl w B size A m ys) (h1:∀u∈ys,u.oneCell'=true)
  (h63:n+m<=maxLen) (hbytes: (n+m)*bytes<=140737488355328) (hbase:base<=w.heap.size)
  (h:∀A' c' w',w'.ownsRow base e size (.slice A' (n+m) c') (n+m) (xs++ys)->w.grownBy w' v.ownBlock->n+m<=c'->c'<=maxLen->wpListIn F n' P ops Q rest (a.put o.dst (.slice A' (n+m) c')) w'):wpListIn F n' P ops Q (o::rest) a w:=by
 refine wpListIn_plain hgd fun K hK=>?_;obtain⟨A',c',w',hr,ho',hg,hc1,hc2⟩:=lW (P:=P) t o.type i z bytes ht hi hz hsize hby hzs hsz hown (c:=c) hsl h1 h63 hbytes hbase;unfold Oper.wpIn;refine⟨?_,?_⟩
 . simp[Oper.about,ho,resolve,Target.leads,Sem.run_pure]
 . rw[Oper.semAt_plain F _ _ (by rw[ho];intro c hc';cases hc')]
   simp[execOp,ho,resolve,invoke,builtin,hs,hx,hr,Result.andThen];exact hK _ _ (h A' c' w' ho' hg hc1 hc2)
end
def isRow(e:TypeId):Option Obj->Prop
 | some (.cells _ t _)=>t=e
 | _=>False
end
section
variable {α : Type} {nx : α -> List α} {s : α}
theorem nodup_len:∀(l u:List α),l.Nodup-> (∀x∈l,x∈u)->l.length<=u.length
 | [],_,_,_=>ZX _
 | x::l,u,hn,hs=>by
   obtain⟨a,b,e⟩:=List.append_of_mem (hs x (by simp));subst e;rw[List.nodup_cons]at hn;have:=nodup_len l (a++b) hn.2 (fun y hy=>by
    have h:=hs y (by simp[hy]);rcases List.mem_append.1 h with h | h
    . exact List.mem_append_left _ h
    . rcases List.mem_cons.1 h with h | h
      . subst h;exact absurd hy hn.1
      . exact List.mem_append_right _ h)
   simp only[af,Z4]at this ⊢;omega
end
section
open Go.Maps
attribute [local go_sem] Oper.semAt_some
theorem Tz{a b:UX}(h:a≠b): (a.toList == b.toList)=false:=by
 rw[beq_eq_false_iff_ne];intro e;rw[ByteArray.toList_eq,ByteArray.toList_eq]at e;exact h (kX e)
theorem TL(a:UX): (a.toList == a.toList)=true:=by simp
end
section
open Go.Maps
attribute [local go_sem] Oper.semAt_some
theorem DV{w w':UW}{b:Nat}{v:UY}{t:TypeId}{row:Option Nat}(h:w.heap[b]? =some (.cells #[v] t (0,0)))(hg:w.grownBy w' row)(hr:some b≠row):w'.heap[b]? =some (.cells #[v] t (0,0)) :=
 (hg.block b (Array.getElem?_eq_some_iff.1 h).1 hr).trans h
end
section
open Go.Maps
theorem jP: (Tryz.prog.info? 9).map (fun i=>(i.zero,i.size,i.bytes))=some (some (.string ⟨#[]⟩),1,16):=by kernel_rfl
abbrev Ix:=Bool×UX
end
section
open Go.Maps
theorem OT(w:UW)(t:TypeId)(x:UX):∀j u,[Value.string x][j]? =some u-> (w.alloc (.cells #[.string x] t)).cell? (Addr.add ⟨w.heap.size,0,none⟩ j)=some u:=by
 intro j u h;cases j with
 | zero =>
   have hk:Bk (w.alloc (.cells #[.string x] t)) w.heap.size t #[.string x]:=Bk.new w _ _;have:=hk.cell 0;simp at this h;subst h;simp[Addr.add]
 | succ j=>simp at h
end
section
open Go.Maps
attribute [local go_sem] Oper.semAt_some
theorem xQ(a b:UX):Op.bytesLess a.toList b.toList=less a b:=by
 rw[ByteArray.toList_eq,ByteArray.toList_eq];rfl
end
section
def aX(a:Act):List (Tmp×UY)->Act
 | []=>a
 | p::r=>aX (a.put (some p.1) p.2) r
theorem Ro(a:Act)(d:Tmp)(v u:UY): (a.put (some d) v).put (some d) u=a.put (some d) u:=by
 simp[Act.put]
theorem vI(a:Act)(d:Tmp)(v:UY):∀(l:List (Tmp×UY)),(∀p∈l,p.1≠d)->aX (a.put (some d) v) l= (aX a l).put (some d) v
 | [],_=>rfl
 | p::l,h=>by
   have hne:p.1≠d:=h p (by simp);show aX ((a.put (some d) v).put (some p.1) p.2) l= (aX (a.put (some p.1) p.2) l).put (some d) v;rw[Act.put_comm a v p.2 (x:=some d) (y:=some p.1) (fun x hx e=>by cases hx;cases e;exact hne rfl)];exact vI _ d v l (fun q hq=>h q (by simp[hq]))
theorem vO(a:Act):∀(ds:List Tmp)(vs:List UY)(i:Nat)(d:Tmp)(v:UY),ds.Nodup->ds.length=vs.length->ds[i]? =some d ->
  aX a (ds.zip (vs.set i v))= (aX a (ds.zip vs)).put (some d) v
 | [],_,_,_,_,_,_,h=>by simp at h
 | d0::ds,[],_,_,_,_,hl,_=>by simp at hl
 | d0::ds,v0::vs,0,d,v,hn,hl,h=>by
   simp only[List.getElem?_cons_zero,Option.some.injEq]at h;subst h;have hnd:=List.nodup_cons.1 hn;have hm:∀p∈ds.zip vs,p.1≠d0:=fun p hp e=>hnd.1 (by have:=(List.of_mem_zip hp).1;rwa[e]at this);show aX (a.put (some d0) v) (ds.zip vs)= (aX (a.put (some d0) v0) (ds.zip vs)).put (some d0) v;rw[vI _ _ _ _ hm,vI _ _ _ _ hm,Ro]
 | d0::ds,v0::vs,i+1,d,v,hn,hl,h=>by
   simp only[List.getElem?_cons_succ]at h;show aX (a.put (some d0) v0) (ds.zip (vs.set i v))= (aX (a.put (some d0) v0) (ds.zip vs)).put (some d) v;exact vO _ ds vs i d v (List.nodup_cons.1 hn).2 (by simpa using hl) h
theorem OG(a:Act)(d:Tmp):a.put (some d) (a.tmps.getD d undef)=a:=by
 show({a with tmps:=a.tmps.setIfInBounds d (a.tmps.getD d undef)}:Act)=a;have:a.tmps.setIfInBounds d (a.tmps.getD d undef)=a.tmps:=?_
 . rw[this]
 apply Array.ext
 . simp
 . intro i h1 h2
   rw[Array.getElem_setIfInBounds (by simpa using h2)];split
   . rename_i e;subst e;simp[show d<a.tmps.size by simpa using h2]
   . rfl
theorem vk(a:Act):∀(ds:List Tmp),aX a (ds.zip (ds.map fun d=>a.tmps.getD d undef))=a
 | []=>rfl
 | d::ds=>by
   show aX (a.put (some d) (a.tmps.getD d undef)) _=a;rw[OG];exact vk a ds
variable {P : Program} {Q : Exit -> Act -> UW -> Prop}
def Gives(P:Program)(o:Oper)(a:Act)(w:UW)(Ψ:UY->UW->Prop):Prop :=
 ∀(K:Act->UW->Prop)(Q:Exit->Act->UW->Prop),(∀v w',Ψ v w'->K (a.put o.dst v) w')->o.wp P a w K Q
theorem aS{o:Oper}{a:Act}{w w':UW}{v:UY}{Ψ:UY->UW->Prop}(hr: (execOp a.eval o).run P w= .ok (.value v) w')(h:Ψ v w'):Gives P o a w Ψ:=fun K Q hK=>by
 unfold Oper.wp;rw[hr];exact hK v w' h
theorem mi{o:Oper}{a:Act}{w:UW}{f:FuncId}{args:Array UY}{Ψ:UY->UW->Prop}(hr: (execOp a.eval o).run P w= .ok (.enter f args) w)
  (h:Calls P f args w fun e w'=>∃v,e= .returned v/\Ψ v w'):Gives P o a w Ψ:=fun K Q hK=>by
 unfold Oper.wp;rw[hr];exact h.mono fun e w' ⟨v,he,hv⟩=>by subst he;exact hK v w' hv
theorem JF{o:Oper}{a:Act}{w w':UW}{r v u:UY}{Ψ:UY->UW->Prop}(s x:Operand)(t:TypeId)(ho:o.op= .call {callee:= .builtin .append,args:=#[s,x],argTypes:=#[t,t]})
  (hs:a.eval s=v) (hx:a.eval x=u) (hr: (Builtin.append_ #[t,t] o.type #[v,u]).run P w= .ok r w') (h:Ψ r w'):Gives P o a w Ψ :=
 aS (v:=r) (w':=w') (by simp[execOp,ho,resolve,invoke,builtin,hs,hx,hr,Result.andThen]) h
def dstsOf(l:List Oper)(n:Nat):List Tmp:=(l.take n).map fun o=>o.dst.getD 0
def jE(l:List Oper)(n:Nat):Array Bool:=((List.range l.length).map fun i=>decide (i<n)).toArray
theorem AO{l:List Bool}{i:Nat}(h:l[i]? =some false): (l.set i true).count false+1=l.count false:=by
 induction l generalizing i with
 | nil=>simp at h
 | cons b l ih =>
   cases i with
   | zero=>simp only[List.getElem?_cons_zero,Option.some.injEq]at h;subst h;simp
   | succ i =>
     simp only[List.getElem?_cons_succ]at h;have:=ih h;cases b <;> simp[List.set_cons_succ] <;> omega
end
section
variable {P : Program} {Q : Exit -> Act -> UW -> Prop}
def nN(P:Program)(ops:Array Oper)(o:Oper)(a:Act)(w:UW)(Ψ:UY->UW->Prop):Prop :=
 (Region.wanted o (yielded ops a.tmps)=true/\Gives P o a w Ψ)∨ (Region.wanted o (yielded ops a.tmps)=false/\Ψ undef w)
def ng(l:List Oper)(n:Nat):Bool :=
 decide (n<l.length) && Region.sinkB .any l.toArray n && Region.chainB .any l.toArray n && Region.seqB .any l.toArray (l.length - n) n (jE l n) &&
 (l.take n).all (fun o=>o.dst.isSome) && decide (dstsOf l n).Nodup && (List.range n).all (fun i=>match l[i]? with | some o=>o.after.all (fun e=>decide (e.on<i)) | none=>false)
theorem Jd{id:Nat}{l:List Oper}{a0:Act}{w0:UW}(n:Nat)(hm:P.follows .mixedOrders=true)(hB:ng l n=true)
  (R:UW->Prop) (E:UW->UW->Prop) (Φ:Nat->UY->UW->Prop) (hR:∀w w',R w->E w w'->R w') (hΦ:∀i v w w',Φ i v w->E w w'->Φ i v w')
  (h0:R {w0 with drawn:=w0.drawn+1})
  (hstep:∀(i:Nat)(o:Oper)(vs:List UY)(w:UW),i<n->l[i]? =some o->vs.length=n->R w-> (∀e∈o.after,Region.binds .any e=true->∀v,vs[e.on]? =some v->Φ e.on v w) ->
    nN P l.toArray o (aX a0 ((dstsOf l n).zip vs)) w fun v w'=>E w w'/\Φ i v w')
  (htail:∀(vs:List UY)(w:UW),vs.length=n->R w-> (∀i v,vs[i]? =some v->Φ i v w)->wpList P l.toArray Q (l.drop n) (aX a0 ((dstsOf l n).zip vs)) w) :
  (Code.region id l.toArray true).wp P Q a0 w0:=by
 simp only[ng,Bool.and_eq_true,decide_eq_true_eq,List.all_eq_true]at hB;obtain⟨⟨⟨⟨⟨⟨hn,hs⟩,hc⟩,hseq⟩,hdst⟩,hnd⟩,hback⟩:=hB;have hdl: (dstsOf l n).length=n:=by simp[dstsOf];omega
 refine wp_region_any hm ?_
 -- the state:which operations have been carried out,what the temporaries hold
 have main:∀(f:Nat)(listed:Array Bool)(vs:List UY)(w:UW),HeadInv .any l.toArray n listed->vs.length=n->R w ->
   (∀i v,i<n->listed.getD i false=true->vs[i]? =some v->Φ i v w)-> (listed.toList.take n).count false=f ->
   wpAny P .any l.toArray Q (f+ (l.length - n)) listed (aX a0 ((dstsOf l n).zip vs)) w:=by
  intro f
  induction f with
  | zero =>
    intro listed vs w inv hv hw b hcnt;have hall:∀i,i<n->listed.getD i false=true:=by
     intro i hi;have hsz:i<listed.size:=by rw[inv.size];simp;omega
     have hmem:listed.toList[i]? =some listed[i]:=by simp[hsz]
     have hne:listed[i]≠false:=by
      intro e;have hm2:false∈listed.toList.take n:=by
       rw[List.mem_take_iff_getElem];exact⟨i,by simp;omega,by simpa using e⟩
      have:=List.count_pos_iff.2 hm2;omega
     simp[hsz];simpa using hne
    have hfull:listed=jE l n:=by
     apply Array.ext
     . rw[inv.size];simp[jE]
     . intro i h1 h2
       have hil:i<l.length:=by rw[inv.size]at h1;simpa using h1
       simp only[jE,List.getElem_toArray,List.getElem_map,List.getElem_range];by_cases hi:i<n
       . have:=hall i hi;simp[h1]at this;simp[this,hi]
       . have:=inv.tail i (by omega) (by simpa using hil);simp[h1]at this;simp[this,hi]
    subst hfull;have hw':=htail vs w hv hw (fun i v hi=>b i v (by have:=(List.getElem?_eq_some_iff.1 hi).1;omega) (hall i (by have:=(List.getElem?_eq_some_iff.1 hi).1;omega)) hi);have:=wpAny_of_seq (md:= .any) (Q':=Q) (l.drop n) n (jE l n) _ w (fun j=>by simp[List.getElem?_drop]) (by rw[List.length_drop];exact hseq) hw';rw[List.length_drop]at this
    simpa using this
  | succ f ih =>
    intro listed vs w inv hv hw b hcnt;have hun:∃i,i<n/\listed.getD i true=false:=by
     have:0< (listed.toList.take n).count false:=by omega
     have hm2:=List.count_pos_iff.1 this;rw[List.mem_take_iff_getElem]at hm2;obtain⟨i,hi,hv2⟩:=hm2;refine⟨i,by simp at hi;omega,?_⟩;have hsz:i<listed.size:=by simp at hi;omega
     rw[Array.getD_eq_getD_getElem?,Array.getElem?_eq_getElem hsz];simpa using hv2
    rw[show f+1+ (l.length - n)= (f+ (l.length - n))+1 by omega];obtain⟨i0,hi0,hu0⟩:=hun;have a:∀i∈Region.ready .any l.toArray listed,i<n:=by
     intro i hi;rcases Nat.lt_or_ge i n with h | h
     . exact h
     . exact absurd hi (tail_waits hs hc (by simpa using hn) inv _ i0 rfl hi0 hu0 i h)
    have hne:Region.ready .any l.toArray listed≠ []:=by
     -- the first operation that is not yet carried out and whose own conditions are all met:by the least such index
     intro hnil;obtain⟨m,hm1,hm2⟩:∃m,(m<n/\listed.getD m true=false)/\∀k,k<m->¬(k<n/\listed.getD k true=false):=by
      have:∀m,(m<n/\listed.getD m true=false)->∃m,(m<n/\listed.getD m true=false)/\∀k,k<m->¬(k<n/\listed.getD k true=false):=by
       intro m
       induction m using Nat.strongRecOn with
       | _ m ihm =>
         intro h;by_cases hex:∃k,k<m/\ (k<n/\listed.getD k true=false)
         . obtain⟨k,hk,hk2⟩:=hex;exact ihm k hk hk2
         . exact⟨m,h,fun k hk hk2=>hex ⟨k,hk,hk2⟩⟩
      exact this i0 ⟨hi0,hu0⟩
     have hml:m<l.length:=by omega
     have hmo:l[m]? =some l[m]:=Z5 hml;have hb1:=hback m (List.mem_range.2 hm1.1);rw[hmo]at hb1;simp only at hb1;have hmr:m∈Region.ready .any l.toArray listed:=by
      refine mem_ready.2 ⟨hm1.2,l[m],by simp,fun e he _=>?_⟩;have hlt:e.on<m:=by
       have:=(Array.all_eq_true_iff_forall_mem.1 hb1) e he
       simpa using this
      have hnot:=hm2 e.on hlt;cases hx:listed.getD e.on true with
      | true =>
        have hsz:e.on<listed.size:=by rw[inv.size];simp;omega
        simp[hsz]at hx ⊢;exact hx
      | false=>exact absurd ⟨by omega,hx⟩ hnot
     rw[hnil]at hmr;cases hmr
    refine⟨fun h=>absurd h hne,fun i hi=>?_⟩;have hin:=a i hi;obtain⟨hlf,o,ho,g⟩:=mem_ready.1 hi;have ho':l[i]? =some o:=by simpa using ho
    have hmem:o∈l.take n:=List.mem_take_iff_getElem.2 ⟨i,(by have:=(List.getElem?_eq_some_iff.1 ho').1;omega),(List.getElem?_eq_some_iff.1 ho').2⟩;have hdo:=hdst o hmem;obtain⟨d,hd⟩:=Option.isSome_iff_exists.1 hdo;have hdi: (dstsOf l n)[i]? =some d:=by
     simp[dstsOf,hin,ho',hd]
    have p:=hstep i o vs w hin ho' hv hw (fun e he hb v hve=>by
     have hle:=g e he hb;have hen:e.on<n:=by have:=(List.getElem?_eq_some_iff.1 hve).1;omega
     exact b e.on v hen hle hve)
    have hgo:∀v w',(E w w'/\Φ i v w')->wpAny P .any l.toArray Q (f+ (l.length - n)) (listed.setIfInBounds i true) ((aX a0 ((dstsOf l n).zip vs)).put o.dst v) w':=?hgo
    case hgo =>
     intro v w' hvw;rw[hd,<-vO a0 (dstsOf l n) vs i d v hnd (by rw[hdl,hv]) hdi];have hsz:i<listed.size:=by rw[inv.size];simp;omega
     have q:listed.toList[i]? =some false:=by
      simp[hsz]at hlf ⊢;exact hlf
     refine ih (listed.setIfInBounds i true) (vs.set i v) w' (inv.set hi hin) (by simpa using hv) (hR w w' hw hvw.1) ?_ ?_
     . intro j u hj hlj c
       by_cases e:j=i
       . subst e
         have hjl:j<vs.length:=by omega
         rw[List.getElem?_set_self hjl]at c;cases c;exact hvw.2
       . rw[List.getElem?_set_ne (fun h=>e h.symm)]at c
         rw[getD_set_ne false (fun h=>e h.symm)]at hlj;exact hΦ j u w w' (b j u hj hlj c) hvw.1
     . have: (listed.setIfInBounds i true).toList.take n= (listed.toList.take n).set i true:=by
         rw[Array.toList_setIfInBounds,List.take_set]
       rw[this];have h2:=AO (l:=listed.toList.take n) (i:=i) (by rw[List.getElem?_take,if_pos hin];exact q);omega
    unfold wpOp;simp only[ho];rcases p with ⟨hw1,hw2⟩ | ⟨hw1,hw2⟩
    . rw[if_pos hw1]
      exact .inl (hw2 _ _ hgo)
    . rw[if_neg (by rw[hw1];simp)]
      exact hgo undef w hw2
 have inv0:HeadInv .any l.toArray n (Array.replicate l.toArray.size false) :=
  ⟨by simp,fun j oj _ hl=>(by rw[getD_replicate_false]at hl;cases hl),fun t _ ht=>getD_in (by simpa using ht) (getD_replicate_false _ _)⟩
 have:=main n (Array.replicate l.toArray.size false) ((dstsOf l n).map fun d=>a0.tmps.getD d undef) _ inv0 (by simpa using hdl) h0
  (fun i v _ hl _=>by rw[getD_replicate_false]at hl;cases hl) (by simp;omega)
 rw[vk,show n+ (l.length - n)=l.toArray.size by simp;omega]at this;exact this
theorem lV{id:Nat}{l:List Oper}{a0:Act}{w0:UW}(n:Nat)(ds:List Tmp)(hm:P.follows .mixedOrders=true)(hB:ng l n=true)(hds:dstsOf l n=ds)
  (R:UW->Prop) (E:UW->UW->Prop) (Φ:Nat->UY->UW->Prop) (hR:∀w w',R w->E w w'->R w') (hΦ:∀i v w w',Φ i v w->E w w'->Φ i v w')
  (h0:R w0.drew)
  (hstep:∀(i:Nat)(o:Oper)(vs:List UY)(w:UW),i<n->l[i]? =some o->vs.length=n->R w-> (∀e∈o.after,Region.binds .any e=true->∀v,vs[e.on]? =some v->Φ e.on v w) ->
    nN P l.toArray o (aX a0 (ds.zip vs)) w fun v w'=>E w w'/\Φ i v w')
  (htail:∀(vs:List UY)(w:UW),vs.length=n->R w-> (∀i v,vs[i]? =some v->Φ i v w)->wpList P l.toArray Q (l.drop n) (aX a0 (ds.zip vs)) w) :
  (Code.region id l.toArray true).wp P Q a0 w0:=by
 subst hds;exact Jd n hm hB R E Φ hR hΦ h0 hstep htail
def nX(vals:List UY)(i:Nat)(v:UY)(_:UW):Prop:=∀u,vals[i]? =some u->v=u
end
section
open Go.Maps
theorem KI{a b:UX}{le:Bool}(h: (Op.bytesLess a.toList b.toList || a.toList == b.toList)=le):less b a=!le:=by
 rw[xQ,lF]at h;subst h;by_cases e:a=b
 . subst e;simp[jL]
 . simp only[e,decide_false,Bool.or_false]
   cases h1:less a b with
   | true=>rw[J8 h1];rfl
   | false =>
     cases h2:less b a with
     | true=>rfl
     | false=>exact absurd (l9 h1 h2) e
end
section
open Go.Maps
theorem yf{x:Int}(h1: -9223372036854775808<=x)(h2:x<9223372036854775808):IntKind.i64.wrap x=x:=by
 simp[IntKind.wrap,IntKind.bits,IntKind.signed];omega
end
