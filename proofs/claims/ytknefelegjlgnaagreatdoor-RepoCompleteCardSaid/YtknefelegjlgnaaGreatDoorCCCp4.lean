/-
  Lemmas of the card.
-/
import Derived.Test.YtknefelegjlgnaaGreatDoorCCCp3
set_option maxRecDepth 100000
set_option maxHeartbeats 1000000
namespace Go.Proofs.YtknefelegjlgnaaGreatDoor
open Go.RowKit
section
open Go.Maps
abbrev Rf:=UX×Dig
abbrev Upd:=UX×Dig×Dig
def upC(u:Upd):List UY:= [.string u.1,.int .u64 u.2.1.1,.int .u64 u.2.1.2,.int .u64 u.2.2.1,.int .u64 u.2.2.2]
def rfC(r:Rf):List UY:= [.string r.1,.int .u64 r.2.1,.int .u64 r.2.2]
theorem gy(u:Upd): (upC u).length=5:=rfl
theorem jm(r:Rf): (rfC r).length=3:=rfl
def I7(u:Upd):UY:= .agg #[.string u.1,.int .u64 u.2.1.1,.int .u64 u.2.1.2,.int .u64 u.2.2.1,.int .u64 u.2.2.2]
def dI:List Rf->UX->Dig
 | [],_=>(0,0)
 | r::l,s=>if r.1=s then r.2 else dI l s
def dh:List Rf->UX->Dig->List Rf
 | [],s,d=>if d= (0,0) then [] else [(s,d)]
 | r::l,s,d=>if less r.1 s then r::dh l s d else(if d= (0,0) then [] else [(s,d)])++ (if r.1=s then l else r::l)
def dG(u:Upd):Int:=if bP u.1 then(if u.2.1=u.2.2 then 1 else 0) else 6
def bD(l:List Rf)(u:Upd):Int:=if dG u≠0 then dG u else if dI l u.1≠u.2.1 then 17 else 0
def aO:List Rf->List Upd->List Rf×Int
 | l,[]=>(l,0)
 | l,u::us=>if bD l u≠0 then(l,bD l u) else aO (dh l u.1 u.2.2) us
def aW(rs:List Rf)(log:List Upd):Int :=
 if 1000<log.length then 4 else if(aO [] log).2≠0 then(aO [] log).2 else if(aO [] log).1=rs then 0 else 11
def dX:List Rf->List Upd->List Upd->List Rf×List Upd×Int
 | l,log,[]=>(l,log,0)
 | l,log,u::us=>if bD l u≠0 then([],[],bD l u) else if 1000<=log.length then([],[],4) else dX (dh l u.1 u.2.2) (log++ [u]) us
def dE(rs:List Rf)(log us:List Upd):List Rf×List Upd×Int :=
 if aW rs log≠0 then([],[],aW rs log) else dX rs log us
/-! ### maps that hold refs -/
def fE(l:List Rf):Prop:=l.Pairwise (fun a b=>less a.1 b.1=true)
theorem Ti{r:Rf}{l:List Rf}{s:UX}(h:fE (r::l))(hs:less r.1 s=false):∀q∈l,q.1≠s:=by
 intro q hq e;have:=(List.pairwise_cons.1 h).1 q hq;rw[e,hs]at this;cases this
theorem BP{l:List Rf}(h:fE l){r:Rf}(hr:r∈l):dI l r.1=r.2:=by
 induction l with
 | nil=>cases hr
 | cons q l ih =>
   have hc:=List.pairwise_cons.1 h;rcases List.mem_cons.1 hr with rfl | hr
   . simp[dI]
   . have:q.1≠r.1:=by
       intro e;have:=hc.1 r hr;rw[e]at this;unfold less at this;rw[rq]at this;cases this
     simp[dI,this,ih hc.2 hr]
def gQ(l:List Rf)(log:List Upd)(u:Upd):List Rf×List Upd×Int :=
 if bD l u≠0 then([],[],bD l u) else if 1000<=log.length then([],[],4) else(dh l u.1 u.2.2,log++ [u],0)
theorem jl{rs:List Rf}{log:List Upd}(h:aW rs log=0):log.length<=1000:=by
 unfold aW at h;by_cases hb:1000<log.length
 . rw[if_pos hb]at h;cases h
 . omega
theorem qY(l:List Rf)(log:List Upd)(u:Upd)(us:List Upd):dX l log (u::us)=if(gQ l log u).2.2≠0 then([],[],(gQ l log u).2.2) else dX (gQ l log u).1 (gQ l log u).2.1 us:=by
 rw[dX];unfold gQ;by_cases h1:bD l u≠0
 . rw[if_pos h1,if_pos h1,if_pos h1]
 . rw[if_neg h1,if_neg h1]
   by_cases h2:1000<=log.length
   . rw[if_pos h2,if_pos h2,if_pos (by simp)]
   . rw[if_neg h2,if_neg h2,if_neg (by simp)]
theorem EE{l:List Rf}{s:UX}{d:Dig}:∀{q:Rf},q∈dh l s d->q= (s,d)∨q∈l:=by
 induction l with
 | nil =>
   intro q hq;simp only[dh]at hq;by_cases hd:d= (0,0)
   . rw[if_pos hd]at hq;cases hq
   . rw[if_neg hd]at hq;exact .inl (List.mem_singleton.1 hq)
 | cons r l ih =>
   intro q hq;simp only[dh]at hq;by_cases hl:less r.1 s=true
   . rw[if_pos hl]at hq
     rcases List.mem_cons.1 hq with rfl | hq
     . exact .inr (by simp)
     . rcases ih hq with h | h
       . exact .inl h
       . exact .inr (List.mem_cons_of_mem _ h)
   . rw[if_neg hl]at hq
     rcases List.mem_append.1 hq with hq | hq
     . by_cases hd:d= (0,0)
       . rw[if_pos hd]at hq;cases hq
       . rw[if_neg hd]at hq;exact .inl (List.mem_singleton.1 hq)
     . by_cases e:r.1=s
       . rw[if_pos e]at hq;exact .inr (List.mem_cons_of_mem _ hq)
       . rw[if_neg e]at hq;exact .inr hq
theorem xu{l:List Rf}(s:UX)(d:Dig)(h:fE l):fE (dh l s d):=by
 induction l with
 | nil =>
   simp only[dh];by_cases hd:d= (0,0)
   . rw[if_pos hd];exact List.Pairwise.nil
   . rw[if_neg hd];exact List.pairwise_singleton _ _
 | cons r l ih =>
   have hc:=List.pairwise_cons.1 h;simp only[dh];by_cases hl:less r.1 s=true
   . rw[if_pos hl]
     refine List.pairwise_cons.2 ⟨fun q hq=>?_,ih hc.2⟩;rcases EE hq with rfl | hq
     . exact hl
     . exact hc.1 q hq
   . rw[if_neg hl]
     have hl':less r.1 s=false:=by simpa using hl
     have key:∀q,(fE q)-> (∀x∈q,less s x.1=true)->fE ((if d= (0,0) then [] else [(s,d)])++q):=by
      intro q hq hx;by_cases hd:d= (0,0)
      . rw[if_pos hd];exact hq
      . rw[if_neg hd];exact List.pairwise_cons.2 ⟨hx,hq⟩
     by_cases e:r.1=s
     . rw[if_pos e]
       exact key l hc.2 (fun x hx=>by have:=hc.1 x hx;rwa[e]at this)
     . rw[if_neg e]
       have a:less s r.1=true:=by
        cases hx:less s r.1 with
        | true=>rfl
        | false=>exact absurd (kX (wI _ _ hl' hx)) e
       refine key (r::l) h (fun x hx=>?_);rcases List.mem_cons.1 hx with rfl | hx
       . exact a
       . exact vH _ _ _ a (hc.1 x hx)
theorem xH:∀(us:List Upd)(l:List Rf),fE l->fE (aO l us).1
 | [],_,h=>h
 | u::us,l,h=>by
   rw[aO];by_cases he:bD l u≠0
   . rw[if_pos he];exact h
   . rw[if_neg he];exact xH us _ (xu _ _ h)
def stepG(l:List Rf)(u:Upd):List Rf×Int:=if bD l u≠0 then(l,bD l u) else(dh l u.1 u.2.2,0)
theorem Oy(l:List Rf)(u:Upd)(us:List Upd):aO l (u::us)=if(stepG l u).2≠0 then stepG l u else aO (stepG l u).1 us:=by
 rw[aO];unfold stepG;by_cases h:bD l u≠0
 . rw[if_pos h,if_pos h,if_pos h]
 . rw[if_neg h,if_neg h,if_neg (by simp)]
theorem CQ{l:List Rf}{u:Upd}(h:fE l):fE (stepG l u).1:=by
 unfold stepG;by_cases he:bD l u≠0
 . rw[if_pos he];exact h
 . rw[if_neg he];exact xu _ _ h
def OkR(l:List Rf):Prop:=fE l/\∀r∈l,r.2≠ (0,0)
theorem OkR.nil:OkR []:=⟨List.Pairwise.nil,fun r h=>by cases h⟩
theorem OkR.set{l:List Rf}(h:OkR l)(s:UX)(d:Dig):OkR (dh l s d):=by
 refine⟨xu s d h.1,?_⟩;have key:∀l:List Rf,(∀r∈l,r.2≠ (0,0))->∀q∈dh l s d,q.2≠ (0,0):=by
  intro l
  induction l with
  | nil =>
    intro _ q hq;simp only[dh]at hq;by_cases hd:d= (0,0)
    . rw[if_pos hd]at hq;cases hq
    . rw[if_neg hd]at hq;rw[List.mem_singleton.1 hq];exact hd
  | cons r l ih =>
    intro hl q hq;simp only[dh]at hq;by_cases hlt:less r.1 s=true
    . rw[if_pos hlt]at hq
      rcases List.mem_cons.1 hq with rfl | hq
      . exact hl _ (by simp)
      . exact ih (fun x hx=>hl x (List.mem_cons_of_mem _ hx)) q hq
    . rw[if_neg hlt]at hq
      rcases List.mem_append.1 hq with hq | hq
      . by_cases hd:d= (0,0)
        . rw[if_pos hd]at hq;cases hq
        . rw[if_neg hd]at hq;rw[List.mem_singleton.1 hq];exact hd
      . by_cases e:r.1=s
        . rw[if_pos e]at hq;exact hl q (List.mem_cons_of_mem _ hq)
        . rw[if_neg e]at hq;exact hl q hq
 exact key l h.2
theorem GG:∀(us:List Upd){l:List Rf},OkR l->OkR (aO l us).1
 | [],_,h=>h
 | u::us,l,h=>by
   rw[aO];by_cases he:bD l u≠0
   . rw[if_pos he];exact h
   . rw[if_neg he];exact GG us (h.set _ _)
theorem pR{rs:List Rf}{log:List Upd}(h:log.length<=1000):aW rs log=0↔aO [] log= (rs,0):=by
 unfold aW;rw[if_neg (by omega)];constructor
 . intro hh
   by_cases h2: (aO [] log).2≠0
   . rw[if_pos h2]at hh;exact absurd hh h2
   . rw[if_neg h2]at hh
     by_cases h3: (aO [] log).1=rs
     . exact Prod.ext h3 (by simpa using h2)
     . rw[if_neg h3]at hh;cases hh
 . intro hh
   rw[hh];simp
theorem SK{rs:List Rf}{log:List Upd}(h:aW rs log=0):OkR rs:=by
 have:=(pR (jl h)).1 h;have h1:=GG log OkR.nil;rw[this]at h1;exact h1
theorem Fv{rs:List Rf}{log:List Upd}(h:aW rs log=0):fE rs:=by
 unfold aW at h;by_cases h1:1000<log.length
 . rw[if_pos h1]at h;cases h
 . rw[if_neg h1]at h
   by_cases h2: (aO [] log).2≠0
   . rw[if_pos h2]at h;exact absurd h h2
   . rw[if_neg h2]at h
     by_cases h3: (aO [] log).1=rs
     . rw[<-h3];exact xH log [] List.Pairwise.nil
     . rw[if_neg h3]at h;cases h
def fZ(l:List Rf)(s:UX):Option Rf:=l.find? (fun r=>decide (r.1=s))
def gL(l:List Rf)(s:UX):Option UY:=(fZ l s).map (fun r=>aA r.2)
theorem CX(l:List Rf)(s:UX):dI l s= ((fZ l s).map Prod.snd).getD (0,0):=by
 unfold fZ
 induction l with
 | nil=>rfl
 | cons r l ih =>
   rw[List.find?_cons];by_cases e:r.1=s
   . simp[dI,e]
   . simpa [dI,e] using ih
theorem L6{l:List Rf}{s:UX}(h:∀q∈l,q.1≠s):fZ l s=none:=by
 unfold fZ;rw[List.find?_eq_none];intro q hq;simpa using h q hq
theorem Dh{l:List Rf}(s:UX)(d:Dig)(h:fE l)(t:UX):fZ (dh l s d) t=if t=s then(if d= (0,0) then none else some (s,d)) else fZ l t:=by
 induction l with
 | nil =>
   simp only[dh];split
   . simp[fZ]
   . by_cases e:t=s
     . subst e;simp[fZ]
     . rw[if_neg e];simp[fZ,Ne.symm e]
 | cons r l ih =>
   have hc:=List.pairwise_cons.1 h;simp only[dh];have cons:∀(x:Rf)(m:List Rf),fZ (x::m) t=if x.1=t then some x else fZ m t:=fun x m=>by
    unfold fZ;rw[List.find?_cons];by_cases e:x.1=t <;> simp[e]
   by_cases hl:less r.1 s=true
   . rw[if_pos hl,cons,cons,ih hc.2]
     by_cases e:t=s
     . have:r.1≠t:=by
         intro e2;rw[e2,e]at hl;unfold less at hl;rw[rq]at hl;cases hl
       rw[if_neg this,if_pos e,if_pos e]
     . rw[if_neg e,if_neg e]
   . have hl':less r.1 s=false:=by simpa using hl
     rw[if_neg hl];have hn:fZ l s=none:=L6 (Ti h hl');have tail:fZ (if r.1=s then l else r::l) t=if t=s then none else fZ (r::l) t:=by
      by_cases e:t=s
      . subst e
        rw[if_pos rfl];by_cases e2:r.1=t
        . rw[if_pos e2];exact hn
        . rw[if_neg e2,cons,if_neg e2];exact hn
      . rw[if_neg e]
        by_cases e2:r.1=s
        . rw[if_pos e2,cons,if_neg (by rw[e2];exact Ne.symm e)]
        . rw[if_neg e2]
     by_cases hd:d= (0,0)
     . rw[if_pos hd,if_pos hd,List.nil_append,tail]
     . rw[if_neg hd,if_neg hd,List.singleton_append,cons,tail]
       by_cases e:t=s
       . subst e;simp
       . rw[if_neg (Ne.symm e),if_neg e,if_neg e]
theorem TK{l:List Rf}(s:UX)(h:fE l):rmv (gL l) s=gL (dh l s (0,0)):=by
 funext t
 unfold rmv gL;rw[Dh s _ h];by_cases e:t=s <;> simp[e]
theorem SS{l:List Rf}(s:UX){d:Dig}(hd:d≠ (0,0))(h:fE l):upd (gL l) s (aA d)=gL (dh l s d):=by
 funext t
 unfold upd gL;rw[Dh s _ h];by_cases e:t=s <;> simp[e,hd]
theorem FT(l:List Rf)(s:UX): (gL l s).getD (aA (0,0))=aA (dI l s):=by
 rw[CX];unfold gL;cases fZ l s <;> rfl
theorem F9(l:List Rf)(s:UX): (gL l s).isSome=true↔s∈l.map Prod.fst:=by
 unfold gL fZ;rw[Option.isSome_map,List.find?_isSome];simp[List.mem_map]
end
section
open Go.Maps
def WfU(u:Upd):Prop:=WfD u.2.1/\WfD u.2.2
def gU(u:Upd):UZ:=ax (toL u.1)++ay u.2.1++ay u.2.2
def rdU(l:UZ):Option (Upd×UZ) :=
 if(aK l).2.2≠0∨l.length< (aK l).2.1+32 then none else some ((ofL (aK l).1,dg (l.drop (aK l).2.1),dg (l.drop ((aK l).2.1+16))),l.drop ((aK l).2.1+32))
theorem QJ{u:Upd}(h:u.1.size<=65536)(hw:WfU u)(r:UZ):rdU (gU u++r)=some (u,r):=by
 have hg:=oM (t:=toL u.1) (by rw[<-aQ];exact h) (ay u.2.1++ (ay u.2.2++r));have e:gU u++r=ax (toL u.1)++ (ay u.2.1++ (ay u.2.2++r)):=by simp[gU]
 have d1: (ax (toL u.1)++ (ay u.2.1++ (ay u.2.2++r))).drop (ax (toL u.1)).length=ay u.2.1++ (ay u.2.2++r):=List.drop_left;have d2: (ax (toL u.1)++ (ay u.2.1++ (ay u.2.2++r))).drop ((ax (toL u.1)).length+16)=ay u.2.2++r:=by
  rw[<-List.drop_drop,d1,List.drop_left' (iy _)]
 have d3: (ax (toL u.1)++ (ay u.2.1++ (ay u.2.2++r))).drop ((ax (toL u.1)).length+32)=r:=by
  rw[show(ax (toL u.1)).length+32= (ax (toL u.1)).length+16+16 from rfl,<-List.drop_drop,d2,List.drop_left' (iy _)]
 unfold rdU;rw[e,hg];simp only[ne_eq,not_true,false_or];rw[if_neg (by simp[iy];omega),d1,d2,d3,pM hw.1,pM hw.2,ja]
def bG(us:List Upd):UZ:=us.flatMap gU
def rdL:Nat->UZ->Option (List Upd×UZ)
 | 0,l=>some ([],l)
 | n+1,l=>match rdU l with
   | none=>none
   | some (u,r)=>match rdL n r with
     | none=>none
     | some (us,q)=>some (u::us,q)
theorem FV:∀(us:List Upd)(r:UZ),(∀u∈us,u.1.size<=65536/\WfU u)->rdL us.length (bG us++r)=some (us,r)
 | [],r,_=>rfl
 | u::us,r,h=>by
   have h1:=QJ (h u (by simp)).1 (h u (by simp)).2 (bG us++r);have h2:=FV us r (fun v hv=>h v (by simp[hv]));have e:bG (u::us)++r=gU u++ (bG us++r):=by simp[bG]
   rw[e,Z4,rdL,h1];simp only[h2]
def dJ:List Upd->Int
 | []=>0
 | u::us=>if dG u≠0 then dG u else dJ us
def encR(us:List Upd):UZ×Int:=if 1000<us.length then([],4) else if dJ us≠0 then([],dJ us) else(ak us.length++bG us,0)
def fin(acc:List Upd):Option (List Upd×UZ)->List Upd×Int
 | none=>([],13)
 | some (us,r)=>if r= []/\dJ us=0 then(acc++us,0) else([],13)
def eH(l:UZ):List Upd×Int:=if(az l).2.2≠0∨1000< (az l).1 then([],13) else fin [] (rdL (az l).1 (l.drop (az l).2.1))
theorem wL:∀(us:List Upd),dJ us=0↔∀u∈us,dG u=0
 | []=>by simp[dJ]
 | u::us=>by
   rw[dJ];by_cases h:dG u=0
   . simp[h,wL us]
   . simp[h]
theorem Rz{us:List Upd}(hl:us.length<=1000)(he:dJ us=0)(hs:∀u∈us,u.1.size<=65536/\WfU u):eH (ak us.length++bG us)= (us,0):=by
 have hg:=kE (m:=us.length) (by omega) (bG us);have hr:=FV us [] hs;rw[List.append_nil]at hr;unfold eH;rw[hg];simp only[ne_eq,not_true,false_or];rw[if_neg (by omega),List.drop_left,hr];simp[fin,he]
end
structure Ent where
 nm:UX
 dir:Bool
 dg:Dig
structure Ob where
 kind:Int
 data:UX
 ents:List Ent
 tree:Dig
 pars:List Dig
 auth:UX
 time:Int
 msg:UX
def zD:Dig:=(0,0)
theorem lN:WfD zD:=⟨by decide,by decide,by decide,by decide⟩
def aU(e:Ent):UZ:=ax (toL e.nm)++ (ak (if e.dir=true then 1 else 0)++ay e.dg)
def gY(o:Ob):UZ :=
 if o.kind=2 then ak o.ents.length++o.ents.flatMap aU
 else if o.kind=3 then ay o.tree++ (ak o.pars.length++ (o.pars.flatMap ay++ (ax (toL o.auth)++ (ak o.time.toNat++ax (toL o.msg)))))
 else ax (toL o.data)
def aI(o:Ob):UZ:=ak o.kind.toNat++gY o
structure je(e:Ent):Prop where
 nm:nameB e.nm=true
 dg:WfD e.dg
 nz:e.dg≠zD
structure jV(l:List Ent):Prop where
 few:l.length<=200
 all:∀e∈l,je e
 asc:∀(j:Nat) a b,l[j]? =some a->l[j+1]? =some b->less a.nm b.nm=true
structure zQ(l:List Dig):Prop where
 few:l.length<=8
 wf:∀d∈l,WfD d
 nz:∀d∈l,d≠zD
 nod:l.Nodup
structure NoC(o:Ob):Prop where
 tree:o.tree=zD
 pars:o.pars= []
 auth:o.auth= ⟨#[]⟩
 time:o.time=0
 msg:o.msg= ⟨#[]⟩
structure OkC(o:Ob):Prop where
 wf:WfD o.tree
 nz:o.tree≠zD
 pars:zQ o.pars
 auth:nameB o.auth=true
 t0:0<=o.time
 t1:o.time<=1099511627776
 msg:o.msg.size<=200
inductive OkF(o:Ob):Prop
 | blob (k:o.kind=1∨o.kind=4) (e:o.ents= []) (c:NoC o) (d:o.data.size<=65536)
 | tree (k:o.kind=2) (d:o.data= ⟨#[]⟩) (c:NoC o) (e:jV o.ents)
 | commit (k:o.kind=3) (d:o.data= ⟨#[]⟩) (e:o.ents= []) (c:OkC o)
structure OkO(o:Ob):Prop where
 f:OkF o
 len: (aI o).length<=65536
theorem pg{a b:Nat}{r t:UZ}(h:ak a++r=ak b++t)(ha:a<=1099511627776)(hb:b<=1099511627776):a=b/\r=t:=by
 have h1:=kE ha r;rw[h,kE hb t]at h1;simp only[Prod.mk.injEq]at h1;obtain⟨rfl,_,_⟩:=h1;exact⟨rfl,List.append_cancel_left h⟩
theorem rZ{a b:UZ}{r t:UZ}(h:ax a++r=ax b++t)(ha:a.length<=65536)(hb:b.length<=65536):a=b/\r=t:=by
 have h1:=oM ha r;rw[h,oM hb t]at h1;simp only[Prod.mk.injEq]at h1;obtain⟨rfl,_,_⟩:=h1;exact⟨rfl,List.append_cancel_left h⟩
theorem xk{a b:Dig}{r t:UZ}(h:ay a++r=ay b++t)(ha:WfD a)(hb:WfD b):a=b/\r=t:=by
 have h1:=pM ha r;rw[h,pM hb t]at h1;subst h1;exact⟨rfl,List.append_cancel_left h⟩
theorem ny{a b:UX}(h:toL a=toL b):a=b:=by rw[<-ja a,<-ja b,h]
theorem iV{s:UX}(h:nameB s=true):s.size<=24:=by
 unfold nameB iQ at h;rw[Bool.and_eq_true,Bool.and_eq_true,decide_eq_true_eq,decide_eq_true_eq]at h;have e: (bl s).length=s.size:=rfl;have:=h.2.1;rw[e]at this;exact this
theorem Pe{a b:Ent}{r t:UZ}(h:aU a++r=aU b++t)(ha:je a)(hb:je b):a=b/\r=t:=by
 unfold aU at h;simp only[ZZ]at h;have sa:=iV ha.nm;have sb:=iV hb.nm;rw[aQ]at sa sb;obtain⟨h1,h⟩:=rZ h (by omega) (by omega);obtain⟨h2,h⟩:=pg h (by split <;> omega) (by split <;> omega);obtain⟨h3,h⟩:=xk h ha.dg hb.dg;refine⟨?_,h⟩;obtain⟨an,ad,c⟩:=a;obtain⟨d,bd,e⟩:=b;simp only at h1 h2 h3;have:=ny h1;subst this h3;cases ad <;> cases bd <;> simp at h2 <;> rfl
theorem DN:∀{l m:List Ent}{r t:UZ},l.flatMap aU++r=m.flatMap aU++t->l.length=m.length-> (∀e∈l,je e)-> (∀e∈m,je e)->l=m/\r=t
 | [],[],r,t,h,_,_,_=>⟨rfl,by simpa using h⟩
 | [],b::m,r,t,_,hl,_,_=>by cases hl
 | a::l,[],r,t,_,hl,_,_=>by cases hl
 | a::l,b::m,r,t,h,hl,h1,h2=>by
   rw[List.flatMap_cons,List.flatMap_cons,ZZ,ZZ]at h;obtain⟨rfl,h'⟩:=Pe h (h1 a (by simp)) (h2 b (by simp));obtain⟨rfl,h''⟩:=DN h' (by simpa using hl) (fun e he=>h1 e (by simp[he])) (fun e he=>h2 e (by simp[he]));exact⟨rfl,h''⟩
theorem Dz:∀{l m:List Dig}{r t:UZ},l.flatMap ay++r=m.flatMap ay++t->l.length=m.length-> (∀e∈l,WfD e)-> (∀e∈m,WfD e)->l=m/\r=t
 | [],[],r,t,h,_,_,_=>⟨rfl,by simpa using h⟩
 | [],b::m,r,t,_,hl,_,_=>by cases hl
 | a::l,[],r,t,_,hl,_,_=>by cases hl
 | a::l,b::m,r,t,h,hl,h1,h2=>by
   rw[List.flatMap_cons,List.flatMap_cons,ZZ,ZZ]at h;obtain⟨rfl,h'⟩:=xk h (h1 a (by simp)) (h2 b (by simp));obtain⟨rfl,h''⟩:=Dz h' (by simpa using hl) (fun e he=>h1 e (by simp[he])) (fun e he=>h2 e (by simp[he]));exact⟨rfl,h''⟩
theorem OkF.kind_le{o:Ob}(h:OkF o):1<=o.kind/\o.kind<=4:=by
 cases h with
 | blob k=>omega
 | tree k=>omega
 | commit k=>omega
theorem NoC.eq{a b:Ob}(ha:NoC a)(hb:NoC b)(hk:a.kind=b.kind)(hd:a.data=b.data)(he:a.ents=b.ents):a=b:=by
 obtain⟨k,d,e,t,p,u,i,m⟩:=a;obtain⟨k',d',e',t',p',u',i',m'⟩:=b;obtain⟨h1,h2,h3,h4,h5⟩:=ha;obtain⟨g1,g2,g3,g4,g5⟩:=hb;simp only at *;subst hk hd he h1 h2 h3 h4 h5 g1 g2 g3 g4 g5;rfl
theorem En{a b:Ob}(h:aI a=aI b)(ha:OkF a)(hb:OkF b):a=b:=by
 unfold aI at h;have ka:=ha.kind_le;have kb:=hb.kind_le;obtain⟨hk,h⟩:=pg h (by omega) (by omega);have hk:a.kind=b.kind:=by omega
 unfold gY at h;cases ha with
 | blob k1 e1 c1 d1 =>
   cases hb with
   | blob k2 e2 c2 d2 =>
     rw[if_neg (by omega),if_neg (by omega),if_neg (by omega),if_neg (by omega)]at h;rw[<-List.append_nil (ax (toL a.data)),<-List.append_nil (ax (toL b.data))]at h;obtain⟨h1,_⟩:=rZ h (by rw[<-aQ];exact d1) (by rw[<-aQ];exact d2);exact c1.eq c2 hk (ny h1) (by rw[e1,e2])
   | tree k2=>omega
   | commit k2=>omega
 | tree k1 d1 c1 e1 =>
   cases hb with
   | blob k2=>omega
   | tree k2 d2 c2 e2 =>
     rw[if_pos k1,if_pos k2]at h;obtain⟨hl,h⟩:=pg h (by have:=e1.few;omega) (by have:=e2.few;omega);rw[<-List.append_nil (a.ents.flatMap aU),<-List.append_nil (b.ents.flatMap aU)]at h;obtain⟨he,_⟩:=DN h hl e1.all e2.all;exact c1.eq c2 hk (by rw[d1,d2]) he
   | commit k2=>omega
 | commit k1 d1 e1 c1 =>
   cases hb with
   | blob k2=>omega
   | tree k2=>omega
   | commit k2 d2 e2 c2 =>
     rw[if_neg (by omega),if_pos k1,if_neg (by omega),if_pos k2]at h;obtain⟨ht,h⟩:=xk h c1.wf c2.wf;obtain⟨hl,h⟩:=pg h (by have:=c1.pars.few;omega) (by have:=c2.pars.few;omega);obtain⟨hp,h⟩:=Dz h hl c1.pars.wf c2.pars.wf;have s1:=iV c1.auth;have s2:=iV c2.auth;have s3:=c1.msg;have s4:=c2.msg;rw[aQ]at s1 s2 s3 s4;obtain⟨hu,h⟩:=rZ h (by omega) (by omega);obtain⟨hi,h⟩:=pg h (by have:=c1.t1;omega) (by have:=c2.t1;omega);rw[<-List.append_nil (ax (toL a.msg)),<-List.append_nil (ax (toL b.msg))]at h;obtain⟨hm,_⟩:=rZ h (by omega) (by omega);have hu':=ny hu;have hm':=ny hm;have hi':a.time=b.time:=by have:=c1.t0;have:=c2.t0;omega
     obtain⟨k,d,e,t,p,u,i,m⟩:=a;obtain⟨k',d',e',t',p',u',i',m'⟩:=b;simp only at hk d1 d2 e1 e2 ht hp hu' hi' hm';subst hk d1 d2 e1 e2 ht hp hu' hi' hm';rfl
section
def ltD(a b:Dig):Prop:=a.1<b.1∨ (a.1=b.1/\a.2<b.2)
instance (a b:Dig):Decidable (ltD a b):=by unfold ltD;infer_instance
def dC(a b:Dig):Int:=if a=b then 0 else if ltD a b then -1 else 1
theorem iW(a:Dig):¬ltD a a:=by unfold ltD;omega
theorem jM{a b c:Dig}(h:ltD a b)(h':ltD b c):ltD a c:=by unfold ltD at *;omega
theorem H9{a b:Dig}(h:ltD a b):a≠b:=by rintro rfl;exact iW a h
theorem mY{a b:Dig}(h:¬ltD a b)(h':¬ltD b a):a=b:=by
 obtain⟨a1,a2⟩:=a;obtain⟨b1,b2⟩:=b;unfold ltD at *;simp only at *;rw[Prod.mk.injEq];omega
theorem yl(a b:Dig):dC a b<0↔ltD a b:=by
 unfold dC;split
 . rename_i h;subst h;simp[iW]
 . split <;> simp_all
theorem rM(a b:Dig):dC a b=0↔a=b:=by
 unfold dC;split
 . simp_all
 . split <;> simp_all
abbrev Itm:=Dig×UX
structure PlOk(p:List Itm):Prop where
 enc:∀i∈p,∃o,OkO o/\i.2=ofL (aI o)
 dg:∀i∈p,i.1=ofB (toL i.2)
 asc:p.Pairwise (fun a b=>ltD a.1 b.1)
theorem PlOk.nil:PlOk []:=⟨(fun i h=>by cases h),(fun i h=>by cases h),List.Pairwise.nil⟩
def atD(p:List Itm)(d:Dig):Nat:=p.countP (fun i=>decide (ltD i.1 d))
def AscI(p:List Itm):Prop:=p.Pairwise (fun a b=>ltD a.1 b.1)
theorem Hf(p:List Itm)(d:Dig):atD p d<=p.length:=List.countP_le_length
theorem AscI.tail{i:Itm}{p:List Itm}(h:AscI (i::p)):AscI p:=(List.pairwise_cons.1 h).2
theorem AscI.head{i j:Itm}{p:List Itm}(h:AscI (i::p))(hj:j∈p):ltD i.1 j.1:=(List.pairwise_cons.1 h).1 j hj
theorem PL{p:List Itm}{d:Dig}(h:∀i∈p,¬ltD i.1 d):atD p d=0:=by
 unfold atD;rw[List.countP_eq_zero];intro i hi;simp[h i hi]
theorem vg{i:Itm}{p:List Itm}{d:Dig}(h:ltD i.1 d):atD (i::p) d=atD p d+1:=by
 unfold atD;rw[List.countP_cons_of_pos (by simp[h])]
theorem Bc{i:Itm}{p:List Itm}{d:Dig}(ha:AscI (i::p))(h:¬ltD i.1 d):atD (i::p) d=0 :=
 PL (fun j hj=>by
  rcases List.mem_cons.1 hj with rfl | hj
  . exact h
  . exact fun hl=>h (jM (ha.head hj) hl))
theorem Du{p:List Itm}{d:Dig}(ha:AscI p):∀{k:Nat}{i:Itm},p[k]? =some i->k<atD p d->ltD i.1 d:=by
 induction p with
 | nil=>intro k i h;simp at h
 | cons j p ih =>
   intro k i h hk;by_cases hj:ltD j.1 d
   . rw[vg hj]at hk
     cases k with
     | zero=>simp at h;subst h;exact hj
     | succ k=>simp at h;exact ih ha.tail h (by omega)
   . rw[Bc ha hj]at hk;omega
theorem Dn{p:List Itm}{d:Dig}(ha:AscI p):∀{k:Nat}{i:Itm},p[k]? =some i->atD p d<=k->¬ltD i.1 d:=by
 induction p with
 | nil=>intro k i h;simp at h
 | cons j p ih =>
   intro k i h hk;by_cases hj:ltD j.1 d
   . rw[vg hj]at hk
     cases k with
     | zero=>omega
     | succ k=>simp at h;exact ih ha.tail h (by omega)
   . cases k with
     | zero=>simp at h;subst h;exact hj
     | succ k =>
       simp at h;exact fun hl=>hj (jM (ha.head (Z7 h)) hl)
def bM(p:List Itm)(d:Dig):Option UX:=match p[atD p d]? with
 | some i=>if i.1=d then some i.2 else none
 | none=>none
theorem AscI.uniq{p:List Itm}(ha:AscI p){i j:Itm}(hi:i∈p)(hj:j∈p)(h:i.1=j.1):i=j:=by
 induction p with
 | nil=>cases hi
 | cons x p ih =>
   rcases List.mem_cons.1 hi with h1 | h1
   . rcases List.mem_cons.1 hj with h2 | h2
     . rw[h1,h2]
     . exact absurd h (H9 (by rw[h1];exact ha.head h2))
   . rcases List.mem_cons.1 hj with h2 | h2
     . exact absurd h.symm (H9 (by rw[h2];exact ha.head h1))
     . exact ih ha.tail h1 h2
theorem jB{p:List Itm}(ha:AscI p){d:Dig}{b:UX}:bM p d=some b↔ (d,b)∈p:=by
 induction p with
 | nil=>simp[bM]
 | cons x p ih =>
   by_cases hx:ltD x.1 d
   . have e:bM (x::p) d=bM p d:=by unfold bM;rw[vg hx];simp
     rw[e,ih ha.tail,List.mem_cons];exact⟨.inr,fun h=>h.resolve_left (fun h=>by rw[<-h]at hx;exact iW _ hx)⟩
   . unfold bM
     rw[Bc ha hx];simp only[List.getElem?_cons_zero,List.mem_cons];by_cases he:x.1=d
     . rw[if_pos he]
       constructor
       . intro h;cases h;left;rw[<-he]
       . rintro (h | h)
         . rw[<-h]
         . have:=ha.head h
           rw[he]at this;exact absurd this (iW _)
     . rw[if_neg he]
       constructor
       . intro h;cases h
       . rintro (h | h)
         . rw[<-h]at he;exact absurd rfl he
         . exact absurd (ha.head h) hx
theorem BR{p:List Itm}(ha:AscI p){d:Dig}:bM p d=none↔∀b,(d,b)∉p:=by
 constructor
 . intro h b hb;rw[(jB ha).2 hb]at h;cases h
 . intro h
   cases hf:bM p d with
   | none=>rfl
   | some b=>exact absurd ((jB ha).1 hf) (h b)
def dB(p:List Itm)(x:Itm):Option (List Itm):=match bM p x.1 with
 | some b=>if b=x.2 then some p else none
 | none=>some (p.take (atD p x.1)++ [x]++p.drop (atD p x.1))
theorem oN{p q:List Itm}{x:Itm}(ha:AscI p)(h:dB p x=some q)(i:Itm):i∈q↔i∈p∨i=x:=by
 unfold dB at h;cases hf:bM p x.1 with
 | some b =>
   rw[hf]at h;simp only at h;split at h
   . rename_i e;cases h
     have:=(jB ha).1 hf;rw[e]at this;exact⟨.inl,fun h=>h.elim id (fun h=>by rw[h];exact this)⟩
   . cases h
 | none =>
   rw[hf]at h;cases h
   have e:i∈p↔i∈p.take (atD p x.1)∨i∈p.drop (atD p x.1):=by rw[<-List.mem_append,List.take_append_drop]
   rw[e];simp only[List.mem_append,ae];constructor
   . rintro ((h | h) | h)
     . exact .inl (.inl h)
     . exact .inr h
     . exact .inl (.inr h)
   . rintro ((h | h) | h)
     . exact .inl (.inl h)
     . exact .inr h
     . exact .inl (.inr h)
theorem Pz{p q:List Itm}{x:Itm}(ha:AscI p)(h:dB p x=some q):AscI q:=by
 unfold dB at h;cases hf:bM p x.1 with
 | some b =>
   rw[hf]at h;simp only at h;split at h
   . cases h;exact ha
   . cases h
 | none =>
   rw[hf]at h;cases h
   have hn:=(BR ha).1 hf;have h1:∀a∈p.take (atD p x.1),ltD a.1 x.1:=fun a hm=>by
    obtain⟨k,hk⟩:=List.mem_iff_getElem?.1 hm;have hl:k<atD p x.1:=by
     have:=(List.getElem?_eq_some_iff.1 hk).1;rw[List.length_take]at this;omega
    rw[List.getElem?_take_of_lt hl]at hk;exact Du ha hk hl
   have h2:∀b∈p.drop (atD p x.1),ltD x.1 b.1:=fun b hm=>by
    obtain⟨k,hk⟩:=List.mem_iff_getElem?.1 hm;rw[List.getElem?_drop]at hk;have:=Dn (d:=x.1) ha hk (by omega);have hb:b∈p:=Z7 hk;by_cases hl:ltD x.1 b.1
    . exact hl
    . have e:=mY hl this
      have h3:=hn b.2;rw[show(x.1,b.2)=b by rw[e]]at h3;exact absurd hb h3
   unfold AscI at ha ⊢;rw[<-List.take_append_drop (atD p x.1) p]at ha;rw[List.pairwise_append]at ha;rw[ZZ,List.pairwise_append];refine⟨ha.1,?_,?_⟩
   . rw[List.singleton_append,List.pairwise_cons]
     exact⟨h2,ha.2.1⟩
   . intro a hm b hb
     rw[List.singleton_append,List.mem_cons]at hb;rcases hb with rfl | hb
     . exact h1 a hm
     . exact jM (h1 a hm) (h2 b hb)
theorem PX{p q:List Itm}{x:Itm}(h:dB p x=some q):q.length<=p.length+1:=by
 unfold dB at h;split at h
 . split at h
   . cases h;omega
   . cases h
 . cases h;simp;omega
theorem AscI.ext{p q:List Itm}(hp:AscI p)(hq:AscI q)(h:∀i,i∈p↔i∈q):p=q:=by
 induction p generalizing q with
 | nil =>
   cases q with
   | nil=>rfl
   | cons y q=>exact absurd ((h y).2 (by simp)) (by simp)
 | cons x p ih =>
   cases q with
   | nil=>exact absurd ((h x).1 (by simp)) (by simp)
   | cons y q =>
     have e:x=y:=by
      have h1:=(h x).1 (by simp);have h2:=(h y).2 (by simp);rcases List.mem_cons.1 h1 with e | h1
      . exact e
      rcases List.mem_cons.1 h2 with e | h2
      . exact e.symm
      exact absurd (jM (hq.head h1) (hp.head h2)) (iW _)
     subst e;rw[ih hp.tail hq.tail];intro i;constructor
     . intro hi
       rcases List.mem_cons.1 ((h i).1 (List.mem_cons_of_mem _ hi)) with rfl | h'
       . exact absurd (hp.head hi) (iW _)
       . exact h'
     . intro hi
       rcases List.mem_cons.1 ((h i).2 (List.mem_cons_of_mem _ hi)) with rfl | h'
       . exact absurd (hq.head hi) (iW _)
       . exact h'
theorem PlOk.ins{p q:List Itm}{o:Ob}(h:PlOk p)(ho:OkO o)(hi:dB p (ofB (aI o),ofL (aI o))=some q):PlOk q :=
 ⟨fun i hm=>((oN h.asc hi i).1 hm).elim (h.enc i) (fun e=>⟨o,ho,by rw[e]⟩),
  fun i hm=>((oN h.asc hi i).1 hm).elim (h.dg i) (fun e=>by rw[e];simp only;rw[dw]),
  Pz h.asc hi⟩
open Classical in
noncomputable def qF(s:UX):Ob:=if h:∃o,OkO o/\s=ofL (aI o) then h.choose else⟨0,⟨#[]⟩,[],zD,[],⟨#[]⟩,0,⟨#[]⟩⟩
theorem rY{o:Ob}(ho:OkO o):qF (ofL (aI o))=o:=by
 have h:∃o',OkO o'/\ofL (aI o)=ofL (aI o'):=⟨o,ho,rfl⟩
 unfold qF;rw[dif_pos h];have hs:=h.choose_spec;have:aI o=aI h.choose:=by have:=congrArg toL hs.2;rwa[dw,dw]at this
 exact(En this ho.f hs.1.f).symm
noncomputable def aG(p:List Itm)(d:Dig):Option Ob:=(bM p d).map qF
theorem iw{p:List Itm}(h:PlOk p){d:Dig}{o:Ob}:aG p d=some o↔OkO o/\ (d,ofL (aI o))∈p:=by
 unfold aG;rw[Option.map_eq_some_iff];constructor
 . rintro ⟨b,hb,rfl⟩
   have hm:=(jB h.asc).1 hb;obtain⟨o,ho,e⟩:=h.enc _ hm;simp only at e;rw[e,rY ho];rw[e]at hm;exact⟨ho,hm⟩
 . rintro ⟨ho,hm⟩
   exact⟨_,(jB h.asc).2 hm,rY ho⟩
theorem Gz{p:List Itm}(h:PlOk p){d:Dig}{o:Ob}(hg:aG p d=some o):OkO o:=((iw h).1 hg).1
theorem getP_none{p:List Itm}{d:Dig}:aG p d=none↔bM p d=none:=by
 unfold aG;rw[Option.map_eq_none_iff]
def bH(p:List Itm)(o:Ob):Option (List Itm):=dB p (ofB (aI o),ofL (aI o))
def dgO(o:Ob):Dig:=ofB (aI o)
theorem pJ{p q:List Itm}{o:Ob}(h:PlOk p)(ho:OkO o)(hi:bH p o=some q):PlOk q:=h.ins ho hi
theorem mP{p q:List Itm}{o:Ob}(h:PlOk p)(ho:OkO o)(hi:bH p o=some q):aG q (dgO o)=some o :=
 (iw (pJ h ho hi)).2 ⟨ho,(oN h.asc hi _).2 (.inr rfl)⟩
def subP(p q:List Itm):Prop:=∀i∈p,i∈q
theorem subP.refl(p:List Itm):subP p p:=fun _ h=>h
theorem subP.trans{p q r:List Itm}(h:subP p q)(k:subP q r):subP p r:=fun i hi=>k i (h i hi)
theorem mZ{p q:List Itm}{o:Ob}(h:PlOk p)(hi:bH p o=some q):subP p q:=fun i hm=>(oN h.asc hi i).2 (.inl hm)
theorem mF{p q:List Itm}(hp:PlOk p)(hq:PlOk q)(hs:subP p q){d:Dig}{o:Ob}(h:aG p d=some o):aG q d=some o :=
 (iw hq).2 ⟨((iw hp).1 h).1,hs _ ((iw hp).1 h).2⟩
theorem nD{p:List Itm}(h:PlOk p){d:Dig}{o:Ob}(hg:aG p d=some o):d=dgO o:=by
 have:=h.dg _ ((iw h).1 hg).2;simp only at this;rw[dw]at this;exact this
end
structure UAt(a b:List Itm)(i j:Nat)(out:List Itm):Prop where
 asc:AscI out
 mem:∀x,x∈out↔x∈a.take i∨x∈b.take j
 la:∀x∈out,∀y∈a.drop i,ltD x.1 y.1
 lb:∀x∈out,∀y∈b.drop j,ltD x.1 y.1
 len:out.length<=i+j
structure UniR(a b r:List Itm):Prop where
 asc:AscI r
 mem:∀x,x∈r↔x∈a∨x∈b
def jS(a b:List Itm):Prop:=∃d x y,(d,x)∈a/\ (d,y)∈b/\x≠y
section
variable {a b out : List Itm} {i j : Nat} {x y : Itm}
theorem UAt.start(a b:List Itm):UAt a b 0 0 [] :=
 ⟨List.Pairwise.nil,(fun x=>by simp),(fun x h=>by cases h),(fun x h=>by cases h),Nat.le_refl _⟩
theorem Oi(h:AscI out)(hl:∀z∈out,ltD z.1 x.1):AscI (out++ [x]):=by
 unfold AscI;rw[List.pairwise_append];exact⟨h,List.pairwise_singleton _ _,fun z hz t ht=>by rw[List.mem_singleton.1 ht];exact hl z hz⟩
theorem oH{α:Type}{l:List α}{i:Nat}{x:α}(h:l[i]? =some x):l.drop i=x::l.drop (i+1):=by
 obtain⟨h1,h2⟩:=List.getElem?_eq_some_iff.1 h;rw[List.drop_eq_getElem_cons h1,h2]
theorem rD{α:Type}{l:List α}{i:Nat}{x:α}(h:l[i]? =some x):l.take (i+1)=l.take i++ [x]:=by
 obtain⟨h1,h2⟩:=List.getElem?_eq_some_iff.1 h;rw[List.take_add_one,h];rfl
theorem oV(h:AscI a)(hx:a[i]? =some x):∀y∈a.drop (i+1),ltD x.1 y.1:=by
 have h1:AscI (a.drop i):=h.sublist (List.drop_sublist _ _);rw[oH hx]at h1;exact fun y hy=>h1.head hy
theorem UAt.add{i' j':Nat}(h:UAt a b i j out)(hm:∀z,(z∈a.take i'∨z∈b.take j')↔ (z∈a.take i∨z∈b.take j)∨z=x)(hlo:∀z∈out,ltD z.1 x.1)
  (hla:∀y∈a.drop i',ltD x.1 y.1/\y∈a.drop i) (hlb:∀y∈b.drop j',ltD x.1 y.1/\y∈b.drop j) (hl:i+j+1<=i'+j'):UAt a b i' j' (out++ [x]) where
 asc:=Oi h.asc hlo
 mem z:=by rw[List.mem_append,ae,h.mem,hm]
 la z hz y hy:=by
  rcases List.mem_append.1 hz with hz | hz
  . exact h.la z hz y (hla y hy).2
  . rw[List.mem_singleton.1 hz];exact(hla y hy).1
 lb z hz y hy:=by
  rcases List.mem_append.1 hz with hz | hz
  . exact h.lb z hz y (hlb y hy).2
  . rw[List.mem_singleton.1 hz];exact(hlb y hy).1
 len:=by have:=h.len;simp;omega
theorem qP{α:Type}{l:List α}{i:Nat}{y:α}(h:y∈l.drop (i+1)):y∈l.drop i:=by
 have:=(List.drop_sublist 1 (l.drop i))
 rw[List.drop_drop]at this;exact this.subset (by rwa[Nat.add_comm]at h ⊢)
theorem UAt.fst(h:UAt a b i j out)(ha:AscI a)(hx:a[i]? =some x)(hb:∀y∈b.drop j,ltD x.1 y.1):UAt a b (i+1) j (out++ [x]) :=
 h.add (fun z=>by rw[rD hx,List.mem_append,ae,or_right_comm])
  (fun z hz=>h.la z hz x (by rw[oH hx];simp)) (fun y hy=>⟨oV ha hx y hy,qP hy⟩) (fun y hy=>⟨hb y hy,hy⟩) (by omega)
theorem UAt.snd(h:UAt a b i j out)(hb:AscI b)(hx:b[j]? =some x)(ha:∀y∈a.drop i,ltD x.1 y.1):UAt a b i (j+1) (out++ [x]) :=
 h.add (fun z=>by rw[rD hx,List.mem_append,ae,or_assoc])
  (fun z hz=>h.lb z hz x (by rw[oH hx];simp)) (fun y hy=>⟨ha y hy,hy⟩) (fun y hy=>⟨oV hb hx y hy,qP hy⟩) (by omega)
theorem UAt.both(h:UAt a b i j out)(ha:AscI a)(hb:AscI b)(hx:a[i]? =some x)(hy:b[j]? =some x):UAt a b (i+1) (j+1) (out++ [x]) :=
 h.add (fun z=>by rw[rD hx,rD hy,List.mem_append,List.mem_append,ae];exact⟨fun h=>h.elim (fun h=>h.elim (fun h=> .inl (.inl h)) .inr) (fun h=>h.elim (fun h=> .inl (.inr h)) .inr),fun h=>h.elim (fun h=>h.elim (fun h=> .inl (.inl h)) (fun h=> .inr (.inl h))) (fun h=> .inl (.inr h))⟩)
  (fun z hz=>h.la z hz x (by rw[oH hx];simp)) (fun y hy=>⟨oV ha hx y hy,qP hy⟩) (fun z hz=>⟨oV hb hy z hz,qP hz⟩) (by omega)
theorem rP(hb:AscI b)(hy:b[j]? =some y){d:Dig}(h:ltD d y.1):∀z∈b.drop j,ltD d z.1:=by
 intro z hz;rw[oH hy]at hz;rcases List.mem_cons.1 hz with rfl | hz
 . exact h
 . exact jM h (oV hb hy z hz)
theorem rG(hj:b.length<=j){d:Dig}:∀z∈b.drop j,ltD d z.1:=by
 intro z hz;rw[List.drop_of_length_le hj]at hz;cases hz
theorem UAt.done(h:UAt a b i j out)(hi:a.length<=i)(hj:b.length<=j):UniR a b out :=
 ⟨h.asc,fun x=>by rw[h.mem,ZU hi,ZU hj]⟩
theorem Eh(hx:a[i]? =some x)(hy:b[j]? =some y)(hd:x.1=y.1)(hn:x.2≠y.2):jS a b :=
 ⟨x.1,x.2,y.2,Z7 hx,by rw[hd];exact Z7 hy,hn⟩
theorem UniR.plOk{r:List Itm}(h:UniR a b r)(ha:PlOk a)(hb:PlOk b):PlOk r :=
 ⟨fun i hi=>((h.mem i).1 hi).elim (ha.enc i) (hb.enc i),fun i hi=>((h.mem i).1 hi).elim (ha.dg i) (hb.dg i),h.asc⟩
theorem UniR.sub1{r:List Itm}(h:UniR a b r):subP a r:=fun i hi=>(h.mem i).2 (.inl hi)
theorem UniR.uniq{r s:List Itm}(h:UniR a b r)(g:UniR a b s):r=s:=AscI.ext h.asc g.asc (fun i=>by rw[h.mem,g.mem])
theorem UniR.clear{r:List Itm}(h:UniR a b r):¬jS a b:=by
 rintro ⟨d,u,v,h1,h2,hn⟩;have:=h.asc.uniq ((h.mem _).2 (.inl h1)) ((h.mem _).2 (.inr h2)) rfl;injection this with _ h3;exact hn h3
end
section
variable (p : List Itm) (hs : List Dig) (stop : Dig -> Prop) (dep : Int) (pre : UZ)
inductive Lv:Nat->Dig->Prop
 | head {d:Dig} (h:d∈hs):Lv 0 d
 | par {n:Nat} {d x:Dig} {o:Ob} (h:Lv n d) (g:aG p d=some o) (k:o.kind=3) (s:¬stop d) (m:x∈o.pars):Lv (n+1) x
def NC(d:Dig):Prop:=∃n:Nat,Lv p hs stop n d/\ (dep=0∨ (n:Int)<dep)
def touch(q:UZ):Prop:=pre <+: q∨q <+: pre
inductive Plc:Dig->UZ->Prop
 | root {c:Dig} {o:Ob} (h:NC p hs stop dep c) (g:aG p c=some o) (k:o.kind=3):Plc o.tree []
 | sub {d:Dig} {q:UZ} {o:Ob} {e:Ent} (h:Plc d q) (g:aG p d=some o) (k:o.kind=2) (m:e∈o.ents) (hd:e.dir=true) (t:touch pre (q++toL e.nm++ [47])):Plc e.dg (q++toL e.nm++ [47])
inductive Nd:Dig->Int->Prop
 | com {d:Dig} (h:NC p hs stop dep d):Nd d 3
 | dir {d:Dig} {q:UZ} (h:Plc p hs stop dep pre d q):Nd d 2
 | blob {d:Dig} {q:UZ} {o:Ob} {e:Ent} (h:Plc p hs stop dep pre d q) (g:aG p d=some o) (k:o.kind=2) (m:e∈o.ents) (hd:e.dir=false) (t:pre <+: q++toL e.nm):Nd e.dg 1
def Ja(d:Dig):Prop:=∃k,Nd p hs stop dep pre d k
def Wrong:Prop:=∃d k o,Nd p hs stop dep pre d k/\aG p d=some o/\o.kind≠k
def Ud:Prop:=∃d,Ja p hs stop dep pre d/\aG p d=none
def Uh(d:Dig):Prop:=NC p hs stop dep d/\∃o x,aG p d=some o/\o.kind=3/\x∈o.pars/\¬NC p hs stop dep x
end
def I8(l:List Dig):Prop:=l.Pairwise ltD
section
variable {p p' : List Itm} {hs : List Dig} {stop stop' : Dig -> Prop} {dep dep' : Int} {pre pre' : UZ}
end
/-! ### pools that keep some objects -/
def fP(p:List Itm)(l:List Dig):List Itm:=p.filter fun i=>decide (i.1∈l)
def uk(_:Dig):Prop:=False
section
variable {eR eL eK : Int} {p : List Itm} {hs : List Dig} {dep : Int} {pre : UZ} {l l' edge edge' : List Dig} {e e' : Int}
structure Ux(p:List Itm)(hs:List Dig)(dep:Int)(pre:UZ)(l edge:List Dig):Prop where
 h:0<=dep
 h':pre.length<=100
 m:¬Ud p hs uk dep pre
 w:¬Wrong p hs uk dep pre
 a:I8 l
 ml:∀d,d∈l↔Ja p hs uk dep pre d
 b:I8 edge
 me:∀d,d∈edge↔Uh p hs uk dep d
section
variable (hp : PlOk p) (N : Ux p hs dep pre l edge)
include hp N
end
def bW(o:Ob):List Dig:=o.ents.map Ent.dg++if o.kind=3 then o.tree::o.pars else []
inductive Rchd(p:List Itm)(rs:List Dig):Dig->Prop
 | root {d:Dig} (h:d∈rs):Rchd p rs d
 | link {d x:Dig} {o:Ob} (h:Rchd p rs d) (g:aG p d=some o) (m:x∈bW o):Rchd p rs x
structure qp(p:List Itm)(rs l m:List Dig):Prop where
 there:∀d,d∈l↔d≠zD/\Rchd p rs d/\aG p d≠none
 miss:∀d,d∈m↔d≠zD/\Rchd p rs d/\aG p d=none
 nd:l.Nodup
theorem tq(hp:PlOk p){d:Dig}{o:Ob}(h:aG p d=some o):d≠zD:=by
 rw[nD hp h];unfold dgO ofB;split
 . decide
 . rename_i h;intro e;apply h;unfold zD at e;simpa using e
end
