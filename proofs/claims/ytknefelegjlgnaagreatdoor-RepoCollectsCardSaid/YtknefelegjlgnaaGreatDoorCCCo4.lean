/-
  Lemmas of the card.
-/
import Derived.Test.YtknefelegjlgnaaGreatDoorCCCo3
set_option maxRecDepth 100000
set_option maxHeartbeats 1000000
namespace Go.Proofs.YtknefelegjlgnaaGreatDoor
open Go.RowKit
section
open Go.Maps
abbrev Rf:=SY×Dig
abbrev Upd:=SY×Dig×Dig
def upC(u:Upd):List Tc:= [.string u.1,.int .u64 u.2.1.1,.int .u64 u.2.1.2,.int .u64 u.2.2.1,.int .u64 u.2.2.2]
def rfC(r:Rf):List Tc:= [.string r.1,.int .u64 r.2.1,.int .u64 r.2.2]
theorem gB(u:Upd): (upC u).length=5:=rfl
theorem jg(r:Rf): (rfC r).length=3:=rfl
def GY(u:Upd):Tc:= .agg #[.string u.1,.int .u64 u.2.1.1,.int .u64 u.2.1.2,.int .u64 u.2.2.1,.int .u64 u.2.2.2]
def dI:List Rf->SY->Dig
 | [],_=>(0,0)
 | r::l,s=>if r.1=s then r.2 else dI l s
def dw:List Rf->SY->Dig->List Rf
 | [],s,d=>if d= (0,0) then [] else [(s,d)]
 | r::l,s,d=>if less r.1 s then r::dw l s d else(if d= (0,0) then [] else [(s,d)])++ (if r.1=s then l else r::l)
def dL(u:Upd):Int:=if bW u.1 then(if u.2.1=u.2.2 then 1 else 0) else 6
def bK(l:List Rf)(u:Upd):Int:=if dL u≠0 then dL u else if dI l u.1≠u.2.1 then 17 else 0
def aS:List Rf->List Upd->List Rf×Int
 | l,[]=>(l,0)
 | l,u::us=>if bK l u≠0 then(l,bK l u) else aS (dw l u.1 u.2.2) us
def aZ(rs:List Rf)(log:List Upd):Int :=
 if 1000<log.length then 4 else if(aS [] log).2≠0 then(aS [] log).2 else if(aS [] log).1=rs then 0 else 11
def eu:List Rf->List Upd->List Upd->List Rf×List Upd×Int
 | l,log,[]=>(l,log,0)
 | l,log,u::us=>if bK l u≠0 then([],[],bK l u) else if 1000<=log.length then([],[],4) else eu (dw l u.1 u.2.2) (log++ [u]) us
def dF(rs:List Rf)(log us:List Upd):List Rf×List Upd×Int :=
 if aZ rs log≠0 then([],[],aZ rs log) else eu rs log us
/-! ### maps that hold refs -/
def fJ(l:List Rf):Prop:=l.Pairwise (fun a b=>less a.1 b.1=true)
theorem QU{r:Rf}{l:List Rf}{s:SY}(h:fJ (r::l))(hs:less r.1 s=false):∀q∈l,q.1≠s:=by
 intro q hq e;have:=(List.pairwise_cons.1 h).1 q hq;rw[e,hs]at this;cases this
theorem JL{l:List Rf}(h:fJ l){r:Rf}(hr:r∈l):dI l r.1=r.2:=by
 induction l with
 | nil=>cases hr
 | cons q l ih =>
   have hc:=List.pairwise_cons.1 h;rcases List.mem_cons.1 hr with rfl | hr
   . simp[dI]
   . have:q.1≠r.1:=by
       intro e;have:=hc.1 r hr;rw[e]at this;unfold less at this;rw[ru]at this;cases this
     simp[dI,this,ih hc.2 hr]
def gU(l:List Rf)(log:List Upd)(u:Upd):List Rf×List Upd×Int :=
 if bK l u≠0 then([],[],bK l u) else if 1000<=log.length then([],[],4) else(dw l u.1 u.2.2,log++ [u],0)
theorem ja{rs:List Rf}{log:List Upd}(h:aZ rs log=0):log.length<=1000:=by
 unfold aZ at h;by_cases hb:1000<log.length
 . rw[if_pos hb]at h;cases h
 . omega
theorem rE(l:List Rf)(log:List Upd)(u:Upd)(us:List Upd):eu l log (u::us)=if(gU l log u).2.2≠0 then([],[],(gU l log u).2.2) else eu (gU l log u).1 (gU l log u).2.1 us:=by
 rw[eu];unfold gU;by_cases h1:bK l u≠0
 . rw[if_pos h1,if_pos h1,if_pos h1]
 . rw[if_neg h1,if_neg h1]
   by_cases h2:1000<=log.length
   . rw[if_pos h2,if_pos h2,if_pos (by simp)]
   . rw[if_neg h2,if_neg h2,if_neg (by simp)]
theorem NG{l:List Rf}{s:SY}{d:Dig}:∀{q:Rf},q∈dw l s d->q= (s,d)∨q∈l:=by
 induction l with
 | nil =>
   intro q hq;simp only[dw]at hq;by_cases hd:d= (0,0)
   . rw[if_pos hd]at hq;cases hq
   . rw[if_neg hd]at hq;exact .inl (List.mem_singleton.1 hq)
 | cons r l ih =>
   intro q hq;simp only[dw]at hq;by_cases hl:less r.1 s=true
   . rw[if_pos hl]at hq
     rcases List.mem_cons.1 hq with rfl | hq
     . exact .inr (by simp)
     . rcases ih hq with h | h
       . exact .inl h
       . exact .inr (List.mem_cons_of_mem _ h)
   . rw[if_neg hl]at hq
     rcases List.mem_append.1 hq with hq | hq
     . by_cases hd:d= (0,0)
       . rw[if_pos hd]at hq;cases hq
       . rw[if_neg hd]at hq;exact .inl (List.mem_singleton.1 hq)
     . by_cases e:r.1=s
       . rw[if_pos e]at hq;exact .inr (List.mem_cons_of_mem _ hq)
       . rw[if_neg e]at hq;exact .inr hq
theorem xP{l:List Rf}(s:SY)(d:Dig)(h:fJ l):fJ (dw l s d):=by
 induction l with
 | nil =>
   simp only[dw];by_cases hd:d= (0,0)
   . rw[if_pos hd];exact List.Pairwise.nil
   . rw[if_neg hd];exact List.pairwise_singleton _ _
 | cons r l ih =>
   have hc:=List.pairwise_cons.1 h;simp only[dw];by_cases hl:less r.1 s=true
   . rw[if_pos hl]
     refine List.pairwise_cons.2 ⟨fun q hq=>?_,ih hc.2⟩;rcases NG hq with rfl | hq
     . exact hl
     . exact hc.1 q hq
   . rw[if_neg hl]
     have hl':less r.1 s=false:=by simpa using hl
     have key:∀q,(fJ q)-> (∀x∈q,less s x.1=true)->fJ ((if d= (0,0) then [] else [(s,d)])++q):=by
      intro q hq hx;by_cases hd:d= (0,0)
      . rw[if_pos hd];exact hq
      . rw[if_neg hd];exact List.pairwise_cons.2 ⟨hx,hq⟩
     by_cases e:r.1=s
     . rw[if_pos e]
       exact key l hc.2 (fun x hx=>by have:=hc.1 x hx;rwa[e]at this)
     . rw[if_neg e]
       have a:less s r.1=true:=by
        cases hx:less s r.1 with
        | true=>rfl
        | false=>exact absurd (jM (wu _ _ hl' hx)) e
       refine key (r::l) h (fun x hx=>?_);rcases List.mem_cons.1 hx with rfl | hx
       . exact a
       . exact vI _ _ _ a (hc.1 x hx)
theorem xm:∀(us:List Upd)(l:List Rf),fJ l->fJ (aS l us).1
 | [],_,h=>h
 | u::us,l,h=>by
   rw[aS];by_cases he:bK l u≠0
   . rw[if_pos he];exact h
   . rw[if_neg he];exact xm us _ (xP _ _ h)
def stepG(l:List Rf)(u:Upd):List Rf×Int:=if bK l u≠0 then(l,bK l u) else(dw l u.1 u.2.2,0)
theorem LX(l:List Rf)(u:Upd)(us:List Upd):aS l (u::us)=if(stepG l u).2≠0 then stepG l u else aS (stepG l u).1 us:=by
 rw[aS];unfold stepG;by_cases h:bK l u≠0
 . rw[if_pos h,if_pos h,if_pos h]
 . rw[if_neg h,if_neg h,if_neg (by simp)]
theorem Cf{l:List Rf}{u:Upd}(h:fJ l):fJ (stepG l u).1:=by
 unfold stepG;by_cases he:bK l u≠0
 . rw[if_pos he];exact h
 . rw[if_neg he];exact xP _ _ h
def OkR(l:List Rf):Prop:=fJ l/\∀r∈l,r.2≠ (0,0)
theorem OkR.nil:OkR []:=⟨List.Pairwise.nil,fun r h=>by cases h⟩
theorem OkR.set{l:List Rf}(h:OkR l)(s:SY)(d:Dig):OkR (dw l s d):=by
 refine⟨xP s d h.1,?_⟩;have key:∀l:List Rf,(∀r∈l,r.2≠ (0,0))->∀q∈dw l s d,q.2≠ (0,0):=by
  intro l
  induction l with
  | nil =>
    intro _ q hq;simp only[dw]at hq;by_cases hd:d= (0,0)
    . rw[if_pos hd]at hq;cases hq
    . rw[if_neg hd]at hq;rw[List.mem_singleton.1 hq];exact hd
  | cons r l ih =>
    intro hl q hq;simp only[dw]at hq;by_cases hlt:less r.1 s=true
    . rw[if_pos hlt]at hq
      rcases List.mem_cons.1 hq with rfl | hq
      . exact hl _ (by simp)
      . exact ih (fun x hx=>hl x (List.mem_cons_of_mem _ hx)) q hq
    . rw[if_neg hlt]at hq
      rcases List.mem_append.1 hq with hq | hq
      . by_cases hd:d= (0,0)
        . rw[if_pos hd]at hq;cases hq
        . rw[if_neg hd]at hq;rw[List.mem_singleton.1 hq];exact hd
      . by_cases e:r.1=s
        . rw[if_pos e]at hq;exact hl q (List.mem_cons_of_mem _ hq)
        . rw[if_neg e]at hq;exact hl q hq
 exact key l h.2
theorem FN:∀(us:List Upd){l:List Rf},OkR l->OkR (aS l us).1
 | [],_,h=>h
 | u::us,l,h=>by
   rw[aS];by_cases he:bK l u≠0
   . rw[if_pos he];exact h
   . rw[if_neg he];exact FN us (h.set _ _)
theorem pR{rs:List Rf}{log:List Upd}(h:log.length<=1000):aZ rs log=0↔aS [] log= (rs,0):=by
 unfold aZ;rw[if_neg (by omega)];constructor
 . intro hh
   by_cases h2: (aS [] log).2≠0
   . rw[if_pos h2]at hh;exact absurd hh h2
   . rw[if_neg h2]at hh
     by_cases h3: (aS [] log).1=rs
     . exact Prod.ext h3 (by simpa using h2)
     . rw[if_neg h3]at hh;cases hh
 . intro hh
   rw[hh];simp
theorem QC{rs:List Rf}{log:List Upd}(h:aZ rs log=0):OkR rs:=by
 have:=(pR (ja h)).1 h;have h1:=FN log OkR.nil;rw[this]at h1;exact h1
theorem Ph{rs:List Rf}{log:List Upd}(h:aZ rs log=0):fJ rs:=by
 unfold aZ at h;by_cases h1:1000<log.length
 . rw[if_pos h1]at h;cases h
 . rw[if_neg h1]at h
   by_cases h2: (aS [] log).2≠0
   . rw[if_pos h2]at h;exact absurd h h2
   . rw[if_neg h2]at h
     by_cases h3: (aS [] log).1=rs
     . rw[<-h3];exact xm log [] List.Pairwise.nil
     . rw[if_neg h3]at h;cases h
def gq(l:List Rf)(s:SY):Option Rf:=l.find? (fun r=>decide (r.1=s))
def gL(l:List Rf)(s:SY):Option Tc:=(gq l s).map (fun r=>aG r.2)
theorem CS(l:List Rf)(s:SY):dI l s= ((gq l s).map Prod.snd).getD (0,0):=by
 unfold gq
 induction l with
 | nil=>rfl
 | cons r l ih =>
   rw[List.find?_cons];by_cases e:r.1=s
   . simp[dI,e]
   . simpa [dI,e] using ih
theorem JI{l:List Rf}{s:SY}(h:∀q∈l,q.1≠s):gq l s=none:=by
 unfold gq;rw[List.find?_eq_none];intro q hq;simpa using h q hq
theorem Cb{l:List Rf}(s:SY)(d:Dig)(h:fJ l)(t:SY):gq (dw l s d) t=if t=s then(if d= (0,0) then none else some (s,d)) else gq l t:=by
 induction l with
 | nil =>
   simp only[dw];split
   . simp[gq]
   . by_cases e:t=s
     . subst e;simp[gq]
     . rw[if_neg e];simp[gq,Ne.symm e]
 | cons r l ih =>
   have hc:=List.pairwise_cons.1 h;simp only[dw];have cons:∀(x:Rf)(m:List Rf),gq (x::m) t=if x.1=t then some x else gq m t:=fun x m=>by
    unfold gq;rw[List.find?_cons];by_cases e:x.1=t <;> simp[e]
   by_cases hl:less r.1 s=true
   . rw[if_pos hl,cons,cons,ih hc.2]
     by_cases e:t=s
     . have:r.1≠t:=by
         intro e2;rw[e2,e]at hl;unfold less at hl;rw[ru]at hl;cases hl
       rw[if_neg this,if_pos e,if_pos e]
     . rw[if_neg e,if_neg e]
   . have hl':less r.1 s=false:=by simpa using hl
     rw[if_neg hl];have hn:gq l s=none:=JI (QU h hl');have tail:gq (if r.1=s then l else r::l) t=if t=s then none else gq (r::l) t:=by
      by_cases e:t=s
      . subst e
        rw[if_pos rfl];by_cases e2:r.1=t
        . rw[if_pos e2];exact hn
        . rw[if_neg e2,cons,if_neg e2];exact hn
      . rw[if_neg e]
        by_cases e2:r.1=s
        . rw[if_pos e2,cons,if_neg (by rw[e2];exact Ne.symm e)]
        . rw[if_neg e2]
     by_cases hd:d= (0,0)
     . rw[if_pos hd,if_pos hd,List.nil_append,tail]
     . rw[if_neg hd,if_neg hd,List.singleton_append,cons,tail]
       by_cases e:t=s
       . subst e;simp
       . rw[if_neg (Ne.symm e),if_neg e,if_neg e]
theorem QZ{l:List Rf}(s:SY)(h:fJ l):rmv (gL l) s=gL (dw l s (0,0)):=by
 funext t
 unfold rmv gL;rw[Cb s _ h];by_cases e:t=s <;> simp[e]
theorem Q7{l:List Rf}(s:SY){d:Dig}(hd:d≠ (0,0))(h:fJ l):upd (gL l) s (aG d)=gL (dw l s d):=by
 funext t
 unfold upd gL;rw[Cb s _ h];by_cases e:t=s <;> simp[e,hd]
theorem EZ(l:List Rf)(s:SY): (gL l s).getD (aG (0,0))=aG (dI l s):=by
 rw[CS];unfold gL;cases gq l s <;> rfl
theorem E8(l:List Rf)(s:SY): (gL l s).isSome=true↔s∈l.map Prod.fst:=by
 unfold gL gq;rw[Option.isSome_map,List.find?_isSome];simp[List.mem_map]
end
section
open Go.Maps
def WfU(u:Upd):Prop:=WfD u.2.1/\WfD u.2.2
def gY(u:Upd):Td:=ax (toL u.1)++ay u.2.1++ay u.2.2
def rdU(l:Td):Option (Upd×Td) :=
 if(aN l).2.2≠0∨l.length< (aN l).2.1+32 then none else some ((ofL (aN l).1,dg (l.drop (aN l).2.1),dg (l.drop ((aN l).2.1+16))),l.drop ((aN l).2.1+32))
theorem PM{u:Upd}(h:u.1.size<=65536)(hw:WfU u)(r:Td):rdU (gY u++r)=some (u,r):=by
 have hg:=pg (t:=toL u.1) (by rw[<-aT];exact h) (ay u.2.1++ (ay u.2.2++r));have e:gY u++r=ax (toL u.1)++ (ay u.2.1++ (ay u.2.2++r)):=by simp[gY]
 have d1: (ax (toL u.1)++ (ay u.2.1++ (ay u.2.2++r))).drop (ax (toL u.1)).length=ay u.2.1++ (ay u.2.2++r):=List.drop_left;have d2: (ax (toL u.1)++ (ay u.2.1++ (ay u.2.2++r))).drop ((ax (toL u.1)).length+16)=ay u.2.2++r:=by
  rw[<-List.drop_drop,d1,List.drop_left' (ig _)]
 have d3: (ax (toL u.1)++ (ay u.2.1++ (ay u.2.2++r))).drop ((ax (toL u.1)).length+32)=r:=by
  rw[show(ax (toL u.1)).length+32= (ax (toL u.1)).length+16+16 from rfl,<-List.drop_drop,d2,List.drop_left' (ig _)]
 unfold rdU;rw[e,hg];simp only[ne_eq,not_true,false_or];rw[if_neg (by simp[ig];omega),d1,d2,d3,pU hw.1,pU hw.2,jC]
def bH(us:List Upd):Td:=us.flatMap gY
def rdL:Nat->Td->Option (List Upd×Td)
 | 0,l=>some ([],l)
 | n+1,l=>match rdU l with
   | none=>none
   | some (u,r)=>match rdL n r with
     | none=>none
     | some (us,q)=>some (u::us,q)
theorem Fq:∀(us:List Upd)(r:Td),(∀u∈us,u.1.size<=65536/\WfU u)->rdL us.length (bH us++r)=some (us,r)
 | [],r,_=>rfl
 | u::us,r,h=>by
   have h1:=PM (h u (by simp)).1 (h u (by simp)).2 (bH us++r);have h2:=Fq us r (fun v hv=>h v (by simp[hv]));have e:bH (u::us)++r=gY u++ (bH us++r):=by simp[bH]
   rw[e,Z4,rdL,h1];simp only[h2]
def dM:List Upd->Int
 | []=>0
 | u::us=>if dL u≠0 then dL u else dM us
def encR(us:List Upd):Td×Int:=if 1000<us.length then([],4) else if dM us≠0 then([],dM us) else(ak us.length++bH us,0)
def fin(acc:List Upd):Option (List Upd×Td)->List Upd×Int
 | none=>([],13)
 | some (us,r)=>if r= []/\dM us=0 then(acc++us,0) else([],13)
def eQ(l:Td):List Upd×Int:=if(aB l).2.2≠0∨1000< (aB l).1 then([],13) else fin [] (rdL (aB l).1 (l.drop (aB l).2.1))
theorem wF:∀(us:List Upd),dM us=0↔∀u∈us,dL u=0
 | []=>by simp[dM]
 | u::us=>by
   rw[dM];by_cases h:dL u=0
   . simp[h,wF us]
   . simp[h]
theorem Pe{us:List Upd}(hl:us.length<=1000)(he:dM us=0)(hs:∀u∈us,u.1.size<=65536/\WfU u):eQ (ak us.length++bH us)= (us,0):=by
 have hg:=kH (m:=us.length) (by omega) (bH us);have hr:=Fq us [] hs;rw[List.append_nil]at hr;unfold eQ;rw[hg];simp only[ne_eq,not_true,false_or];rw[if_neg (by omega),List.drop_left,hr];simp[fin,he]
end
structure Ent where
 nm:SY
 dir:Bool
 dg:Dig
structure Ob where
 kind:Int
 data:SY
 ents:List Ent
 tree:Dig
 pars:List Dig
 auth:SY
 time:Int
 msg:SY
def zD:Dig:=(0,0)
theorem lN:WfD zD:=⟨by decide,by decide,by decide,by decide⟩
def aU(e:Ent):Td:=ax (toL e.nm)++ (ak (if e.dir=true then 1 else 0)++ay e.dg)
def gX(o:Ob):Td :=
 if o.kind=2 then ak o.ents.length++o.ents.flatMap aU
 else if o.kind=3 then ay o.tree++ (ak o.pars.length++ (o.pars.flatMap ay++ (ax (toL o.auth)++ (ak o.time.toNat++ax (toL o.msg)))))
 else ax (toL o.data)
def aJ(o:Ob):Td:=ak o.kind.toNat++gX o
structure jc(e:Ent):Prop where
 nm:nameB e.nm=true
 dg:WfD e.dg
 nz:e.dg≠zD
structure lT(l:List Ent):Prop where
 few:l.length<=200
 all:∀e∈l,jc e
 asc:∀(j:Nat) a b,l[j]? =some a->l[j+1]? =some b->less a.nm b.nm=true
structure zn(l:List Dig):Prop where
 few:l.length<=8
 wf:∀d∈l,WfD d
 nz:∀d∈l,d≠zD
 nod:l.Nodup
structure NoC(o:Ob):Prop where
 tree:o.tree=zD
 pars:o.pars= []
 auth:o.auth= ⟨#[]⟩
 time:o.time=0
 msg:o.msg= ⟨#[]⟩
structure OkC(o:Ob):Prop where
 wf:WfD o.tree
 nz:o.tree≠zD
 pars:zn o.pars
 auth:nameB o.auth=true
 t0:0<=o.time
 t1:o.time<=1099511627776
 msg:o.msg.size<=200
inductive OkF(o:Ob):Prop
 | blob (k:o.kind=1∨o.kind=4) (e:o.ents= []) (c:NoC o) (d:o.data.size<=65536)
 | tree (k:o.kind=2) (d:o.data= ⟨#[]⟩) (c:NoC o) (e:lT o.ents)
 | commit (k:o.kind=3) (d:o.data= ⟨#[]⟩) (e:o.ents= []) (c:OkC o)
structure OkO(o:Ob):Prop where
 f:OkF o
 len: (aJ o).length<=65536
theorem pJ{a b:Nat}{r t:Td}(h:ak a++r=ak b++t)(ha:a<=1099511627776)(hb:b<=1099511627776):a=b/\r=t:=by
 have h1:=kH ha r;rw[h,kH hb t]at h1;simp only[Prod.mk.injEq]at h1;obtain⟨rfl,_,_⟩:=h1;exact⟨rfl,List.append_cancel_left h⟩
theorem sQ{a b:Td}{r t:Td}(h:ax a++r=ax b++t)(ha:a.length<=65536)(hb:b.length<=65536):a=b/\r=t:=by
 have h1:=pg ha r;rw[h,pg hb t]at h1;simp only[Prod.mk.injEq]at h1;obtain⟨rfl,_,_⟩:=h1;exact⟨rfl,List.append_cancel_left h⟩
theorem wX{a b:Dig}{r t:Td}(h:ay a++r=ay b++t)(ha:WfD a)(hb:WfD b):a=b/\r=t:=by
 have h1:=pU ha r;rw[h,pU hb t]at h1;subst h1;exact⟨rfl,List.append_cancel_left h⟩
theorem mY{a b:SY}(h:toL a=toL b):a=b:=by rw[<-jC a,<-jC b,h]
theorem iW{s:SY}(h:nameB s=true):s.size<=24:=by
 unfold nameB jb at h;rw[Bool.and_eq_true,Bool.and_eq_true,decide_eq_true_eq,decide_eq_true_eq]at h;have e: (bl s).length=s.size:=rfl;have:=h.2.1;rw[e]at this;exact this
theorem Oq{a b:Ent}{r t:Td}(h:aU a++r=aU b++t)(ha:jc a)(hb:jc b):a=b/\r=t:=by
 unfold aU at h;simp only[ZZ]at h;have sa:=iW ha.nm;have sb:=iW hb.nm;rw[aT]at sa sb;obtain⟨h1,h⟩:=sQ h (by omega) (by omega);obtain⟨h2,h⟩:=pJ h (by split <;> omega) (by split <;> omega);obtain⟨h3,h⟩:=wX h ha.dg hb.dg;refine⟨?_,h⟩;obtain⟨an,ad,c⟩:=a;obtain⟨d,bd,e⟩:=b;simp only at h1 h2 h3;have:=mY h1;subst this h3;cases ad <;> cases bd <;> simp at h2 <;> rfl
theorem CY:∀{l m:List Ent}{r t:Td},l.flatMap aU++r=m.flatMap aU++t->l.length=m.length-> (∀e∈l,jc e)-> (∀e∈m,jc e)->l=m/\r=t
 | [],[],r,t,h,_,_,_=>⟨rfl,by simpa using h⟩
 | [],b::m,r,t,_,hl,_,_=>by cases hl
 | a::l,[],r,t,_,hl,_,_=>by cases hl
 | a::l,b::m,r,t,h,hl,h1,h2=>by
   rw[List.flatMap_cons,List.flatMap_cons,ZZ,ZZ]at h;obtain⟨rfl,h'⟩:=Oq h (h1 a (by simp)) (h2 b (by simp));obtain⟨rfl,h''⟩:=CY h' (by simpa using hl) (fun e he=>h1 e (by simp[he])) (fun e he=>h2 e (by simp[he]));exact⟨rfl,h''⟩
theorem CB:∀{l m:List Dig}{r t:Td},l.flatMap ay++r=m.flatMap ay++t->l.length=m.length-> (∀e∈l,WfD e)-> (∀e∈m,WfD e)->l=m/\r=t
 | [],[],r,t,h,_,_,_=>⟨rfl,by simpa using h⟩
 | [],b::m,r,t,_,hl,_,_=>by cases hl
 | a::l,[],r,t,_,hl,_,_=>by cases hl
 | a::l,b::m,r,t,h,hl,h1,h2=>by
   rw[List.flatMap_cons,List.flatMap_cons,ZZ,ZZ]at h;obtain⟨rfl,h'⟩:=wX h (h1 a (by simp)) (h2 b (by simp));obtain⟨rfl,h''⟩:=CB h' (by simpa using hl) (fun e he=>h1 e (by simp[he])) (fun e he=>h2 e (by simp[he]));exact⟨rfl,h''⟩
theorem OkF.kind_le{o:Ob}(h:OkF o):1<=o.kind/\o.kind<=4:=by
 cases h with
 | blob k=>omega
 | tree k=>omega
 | commit k=>omega
theorem NoC.eq{a b:Ob}(ha:NoC a)(hb:NoC b)(hk:a.kind=b.kind)(hd:a.data=b.data)(he:a.ents=b.ents):a=b:=by
 obtain⟨k,d,e,t,p,u,i,m⟩:=a;obtain⟨k',d',e',t',p',u',i',m'⟩:=b;obtain⟨h1,h2,h3,h4,h5⟩:=ha;obtain⟨g1,g2,g3,g4,g5⟩:=hb;simp only at *;subst hk hd he h1 h2 h3 h4 h5 g1 g2 g3 g4 g5;rfl
theorem DI{a b:Ob}(h:aJ a=aJ b)(ha:OkF a)(hb:OkF b):a=b:=by
 unfold aJ at h;have ka:=ha.kind_le;have kb:=hb.kind_le;obtain⟨hk,h⟩:=pJ h (by omega) (by omega);have hk:a.kind=b.kind:=by omega
 unfold gX at h;cases ha with
 | blob k1 e1 c1 d1 =>
   cases hb with
   | blob k2 e2 c2 d2 =>
     rw[if_neg (by omega),if_neg (by omega),if_neg (by omega),if_neg (by omega)]at h;rw[<-List.append_nil (ax (toL a.data)),<-List.append_nil (ax (toL b.data))]at h;obtain⟨h1,_⟩:=sQ h (by rw[<-aT];exact d1) (by rw[<-aT];exact d2);exact c1.eq c2 hk (mY h1) (by rw[e1,e2])
   | tree k2=>omega
   | commit k2=>omega
 | tree k1 d1 c1 e1 =>
   cases hb with
   | blob k2=>omega
   | tree k2 d2 c2 e2 =>
     rw[if_pos k1,if_pos k2]at h;obtain⟨hl,h⟩:=pJ h (by have:=e1.few;omega) (by have:=e2.few;omega);rw[<-List.append_nil (a.ents.flatMap aU),<-List.append_nil (b.ents.flatMap aU)]at h;obtain⟨he,_⟩:=CY h hl e1.all e2.all;exact c1.eq c2 hk (by rw[d1,d2]) he
   | commit k2=>omega
 | commit k1 d1 e1 c1 =>
   cases hb with
   | blob k2=>omega
   | tree k2=>omega
   | commit k2 d2 e2 c2 =>
     rw[if_neg (by omega),if_pos k1,if_neg (by omega),if_pos k2]at h;obtain⟨ht,h⟩:=wX h c1.wf c2.wf;obtain⟨hl,h⟩:=pJ h (by have:=c1.pars.few;omega) (by have:=c2.pars.few;omega);obtain⟨hp,h⟩:=CB h hl c1.pars.wf c2.pars.wf;have s1:=iW c1.auth;have s2:=iW c2.auth;have s3:=c1.msg;have s4:=c2.msg;rw[aT]at s1 s2 s3 s4;obtain⟨hu,h⟩:=sQ h (by omega) (by omega);obtain⟨hi,h⟩:=pJ h (by have:=c1.t1;omega) (by have:=c2.t1;omega);rw[<-List.append_nil (ax (toL a.msg)),<-List.append_nil (ax (toL b.msg))]at h;obtain⟨hm,_⟩:=sQ h (by omega) (by omega);have hu':=mY hu;have hm':=mY hm;have hi':a.time=b.time:=by have:=c1.t0;have:=c2.t0;omega
     obtain⟨k,d,e,t,p,u,i,m⟩:=a;obtain⟨k',d',e',t',p',u',i',m'⟩:=b;simp only at hk d1 d2 e1 e2 ht hp hu' hi' hm';subst hk d1 d2 e1 e2 ht hp hu' hi' hm';rfl
section
def ltD(a b:Dig):Prop:=a.1<b.1∨ (a.1=b.1/\a.2<b.2)
instance (a b:Dig):Decidable (ltD a b):=by unfold ltD;infer_instance
def dC(a b:Dig):Int:=if a=b then 0 else if ltD a b then -1 else 1
theorem iI(a:Dig):¬ltD a a:=by unfold ltD;omega
theorem jL{a b c:Dig}(h:ltD a b)(h':ltD b c):ltD a c:=by unfold ltD at *;omega
theorem Gp{a b:Dig}(h:ltD a b):a≠b:=by rintro rfl;exact iI a h
theorem mM{a b:Dig}(h:¬ltD a b)(h':¬ltD b a):a=b:=by
 obtain⟨a1,a2⟩:=a;obtain⟨b1,b2⟩:=b;unfold ltD at *;simp only at *;rw[Prod.mk.injEq];omega
theorem yB(a b:Dig):dC a b<0↔ltD a b:=by
 unfold dC;split
 . rename_i h;subst h;simp[iI]
 . split <;> simp_all
theorem oP(a b:Dig):dC a b=0↔a=b:=by
 unfold dC;split
 . simp_all
 . split <;> simp_all
abbrev Itm:=Dig×SY
structure PlOk(p:List Itm):Prop where
 enc:∀i∈p,∃o,OkO o/\i.2=ofL (aJ o)
 dg:∀i∈p,i.1=ofB (toL i.2)
 asc:p.Pairwise (fun a b=>ltD a.1 b.1)
theorem PlOk.nil:PlOk []:=⟨(fun i h=>by cases h),(fun i h=>by cases h),List.Pairwise.nil⟩
def atD(p:List Itm)(d:Dig):Nat:=p.countP (fun i=>decide (ltD i.1 d))
def AscI(p:List Itm):Prop:=p.Pairwise (fun a b=>ltD a.1 b.1)
theorem Gn(p:List Itm)(d:Dig):atD p d<=p.length:=List.countP_le_length
theorem AscI.tail{i:Itm}{p:List Itm}(h:AscI (i::p)):AscI p:=(List.pairwise_cons.1 h).2
theorem AscI.head{i j:Itm}{p:List Itm}(h:AscI (i::p))(hj:j∈p):ltD i.1 j.1:=(List.pairwise_cons.1 h).1 j hj
theorem NM{p:List Itm}{d:Dig}(h:∀i∈p,¬ltD i.1 d):atD p d=0:=by
 unfold atD;rw[List.countP_eq_zero];intro i hi;simp[h i hi]
theorem ve{i:Itm}{p:List Itm}{d:Dig}(h:ltD i.1 d):atD (i::p) d=atD p d+1:=by
 unfold atD;rw[List.countP_cons_of_pos (by simp[h])]
theorem AX{i:Itm}{p:List Itm}{d:Dig}(ha:AscI (i::p))(h:¬ltD i.1 d):atD (i::p) d=0 :=
 NM (fun j hj=>by
  rcases List.mem_cons.1 hj with rfl | hj
  . exact h
  . exact fun hl=>h (jL (ha.head hj) hl))
theorem CU{p:List Itm}{d:Dig}(ha:AscI p):∀{k:Nat}{i:Itm},p[k]? =some i->k<atD p d->ltD i.1 d:=by
 induction p with
 | nil=>intro k i h;simp at h
 | cons j p ih =>
   intro k i h hk;by_cases hj:ltD j.1 d
   . rw[ve hj]at hk
     cases k with
     | zero=>simp at h;subst h;exact hj
     | succ k=>simp at h;exact ih ha.tail h (by omega)
   . rw[AX ha hj]at hk;omega
theorem BX{p:List Itm}{d:Dig}(ha:AscI p):∀{k:Nat}{i:Itm},p[k]? =some i->atD p d<=k->¬ltD i.1 d:=by
 induction p with
 | nil=>intro k i h;simp at h
 | cons j p ih =>
   intro k i h hk;by_cases hj:ltD j.1 d
   . rw[ve hj]at hk
     cases k with
     | zero=>omega
     | succ k=>simp at h;exact ih ha.tail h (by omega)
   . cases k with
     | zero=>simp at h;subst h;exact hj
     | succ k =>
       simp at h;exact fun hl=>hj (jL (ha.head (Z7 h)) hl)
def bM(p:List Itm)(d:Dig):Option SY:=match p[atD p d]? with
 | some i=>if i.1=d then some i.2 else none
 | none=>none
theorem AscI.uniq{p:List Itm}(ha:AscI p){i j:Itm}(hi:i∈p)(hj:j∈p)(h:i.1=j.1):i=j:=by
 induction p with
 | nil=>cases hi
 | cons x p ih =>
   rcases List.mem_cons.1 hi with h1 | h1
   . rcases List.mem_cons.1 hj with h2 | h2
     . rw[h1,h2]
     . exact absurd h (Gp (by rw[h1];exact ha.head h2))
   . rcases List.mem_cons.1 hj with h2 | h2
     . exact absurd h.symm (Gp (by rw[h2];exact ha.head h1))
     . exact ih ha.tail h1 h2
theorem jw{p:List Itm}(ha:AscI p){d:Dig}{b:SY}:bM p d=some b↔ (d,b)∈p:=by
 induction p with
 | nil=>simp[bM]
 | cons x p ih =>
   by_cases hx:ltD x.1 d
   . have e:bM (x::p) d=bM p d:=by unfold bM;rw[ve hx];simp
     rw[e,ih ha.tail,List.mem_cons];exact⟨.inr,fun h=>h.resolve_left (fun h=>by rw[<-h]at hx;exact iI _ hx)⟩
   . unfold bM
     rw[AX ha hx];simp only[List.getElem?_cons_zero,List.mem_cons];by_cases he:x.1=d
     . rw[if_pos he]
       constructor
       . intro h;cases h;left;rw[<-he]
       . rintro (h | h)
         . rw[<-h]
         . have:=ha.head h
           rw[he]at this;exact absurd this (iI _)
     . rw[if_neg he]
       constructor
       . intro h;cases h
       . rintro (h | h)
         . rw[<-h]at he;exact absurd rfl he
         . exact absurd (ha.head h) hx
theorem BP{p:List Itm}(ha:AscI p){d:Dig}:bM p d=none↔∀b,(d,b)∉p:=by
 constructor
 . intro h b hb;rw[(jw ha).2 hb]at h;cases h
 . intro h
   cases hf:bM p d with
   | none=>rfl
   | some b=>exact absurd ((jw ha).1 hf) (h b)
def dE(p:List Itm)(x:Itm):Option (List Itm):=match bM p x.1 with
 | some b=>if b=x.2 then some p else none
 | none=>some (p.take (atD p x.1)++ [x]++p.drop (atD p x.1))
theorem pK{p q:List Itm}{x:Itm}(ha:AscI p)(h:dE p x=some q)(i:Itm):i∈q↔i∈p∨i=x:=by
 unfold dE at h;cases hf:bM p x.1 with
 | some b =>
   rw[hf]at h;simp only at h;split at h
   . rename_i e;cases h
     have:=(jw ha).1 hf;rw[e]at this;exact⟨.inl,fun h=>h.elim id (fun h=>by rw[h];exact this)⟩
   . cases h
 | none =>
   rw[hf]at h;cases h
   have e:i∈p↔i∈p.take (atD p x.1)∨i∈p.drop (atD p x.1):=by rw[<-List.mem_append,List.take_append_drop]
   rw[e];simp only[List.mem_append,ae];constructor
   . rintro ((h | h) | h)
     . exact .inl (.inl h)
     . exact .inr h
     . exact .inl (.inr h)
   . rintro ((h | h) | h)
     . exact .inl (.inl h)
     . exact .inr h
     . exact .inl (.inr h)
theorem N9{p q:List Itm}{x:Itm}(ha:AscI p)(h:dE p x=some q):AscI q:=by
 unfold dE at h;cases hf:bM p x.1 with
 | some b =>
   rw[hf]at h;simp only at h;split at h
   . cases h;exact ha
   . cases h
 | none =>
   rw[hf]at h;cases h
   have hn:=(BP ha).1 hf;have h1:∀a∈p.take (atD p x.1),ltD a.1 x.1:=fun a hm=>by
    obtain⟨k,hk⟩:=List.mem_iff_getElem?.1 hm;have hl:k<atD p x.1:=by
     have:=(List.getElem?_eq_some_iff.1 hk).1;rw[List.length_take]at this;omega
    rw[List.getElem?_take_of_lt hl]at hk;exact CU ha hk hl
   have h2:∀b∈p.drop (atD p x.1),ltD x.1 b.1:=fun b hm=>by
    obtain⟨k,hk⟩:=List.mem_iff_getElem?.1 hm;rw[List.getElem?_drop]at hk;have:=BX (d:=x.1) ha hk (by omega);have hb:b∈p:=Z7 hk;by_cases hl:ltD x.1 b.1
    . exact hl
    . have e:=mM hl this
      have h3:=hn b.2;rw[show(x.1,b.2)=b by rw[e]]at h3;exact absurd hb h3
   unfold AscI at ha ⊢;rw[<-List.take_append_drop (atD p x.1) p]at ha;rw[List.pairwise_append]at ha;rw[ZZ,List.pairwise_append];refine⟨ha.1,?_,?_⟩
   . rw[List.singleton_append,List.pairwise_cons]
     exact⟨h2,ha.2.1⟩
   . intro a hm b hb
     rw[List.singleton_append,List.mem_cons]at hb;rcases hb with rfl | hb
     . exact h1 a hm
     . exact jL (h1 a hm) (h2 b hb)
theorem Oh{p q:List Itm}{x:Itm}(h:dE p x=some q):q.length<=p.length+1:=by
 unfold dE at h;split at h
 . split at h
   . cases h;omega
   . cases h
 . cases h;simp;omega
theorem AscI.ext{p q:List Itm}(hp:AscI p)(hq:AscI q)(h:∀i,i∈p↔i∈q):p=q:=by
 induction p generalizing q with
 | nil =>
   cases q with
   | nil=>rfl
   | cons y q=>exact absurd ((h y).2 (by simp)) (by simp)
 | cons x p ih =>
   cases q with
   | nil=>exact absurd ((h x).1 (by simp)) (by simp)
   | cons y q =>
     have e:x=y:=by
      have h1:=(h x).1 (by simp);have h2:=(h y).2 (by simp);rcases List.mem_cons.1 h1 with e | h1
      . exact e
      rcases List.mem_cons.1 h2 with e | h2
      . exact e.symm
      exact absurd (jL (hq.head h1) (hp.head h2)) (iI _)
     subst e;rw[ih hp.tail hq.tail];intro i;constructor
     . intro hi
       rcases List.mem_cons.1 ((h i).1 (List.mem_cons_of_mem _ hi)) with rfl | h'
       . exact absurd (hp.head hi) (iI _)
       . exact h'
     . intro hi
       rcases List.mem_cons.1 ((h i).2 (List.mem_cons_of_mem _ hi)) with rfl | h'
       . exact absurd (hq.head hi) (iI _)
       . exact h'
theorem PlOk.ins{p q:List Itm}{o:Ob}(h:PlOk p)(ho:OkO o)(hi:dE p (ofB (aJ o),ofL (aJ o))=some q):PlOk q :=
 ⟨fun i hm=>((pK h.asc hi i).1 hm).elim (h.enc i) (fun e=>⟨o,ho,by rw[e]⟩),
  fun i hm=>((pK h.asc hi i).1 hm).elim (h.dg i) (fun e=>by rw[e];simp only;rw[bY]),
  N9 h.asc hi⟩
open Classical in
noncomputable def qH(s:SY):Ob:=if h:∃o,OkO o/\s=ofL (aJ o) then h.choose else⟨0,⟨#[]⟩,[],zD,[],⟨#[]⟩,0,⟨#[]⟩⟩
theorem sD{o:Ob}(ho:OkO o):qH (ofL (aJ o))=o:=by
 have h:∃o',OkO o'/\ofL (aJ o)=ofL (aJ o'):=⟨o,ho,rfl⟩
 unfold qH;rw[dif_pos h];have hs:=h.choose_spec;have:aJ o=aJ h.choose:=by have:=congrArg toL hs.2;rwa[bY,bY]at this
 exact(DI this ho.f hs.1.f).symm
noncomputable def aO(p:List Itm)(d:Dig):Option Ob:=(bM p d).map qH
theorem iy{p:List Itm}(h:PlOk p){d:Dig}{o:Ob}:aO p d=some o↔OkO o/\ (d,ofL (aJ o))∈p:=by
 unfold aO;rw[Option.map_eq_some_iff];constructor
 . rintro ⟨b,hb,rfl⟩
   have hm:=(jw h.asc).1 hb;obtain⟨o,ho,e⟩:=h.enc _ hm;simp only at e;rw[e,sD ho];rw[e]at hm;exact⟨ho,hm⟩
 . rintro ⟨ho,hm⟩
   exact⟨_,(jw h.asc).2 hm,sD ho⟩
theorem O8{p:List Itm}(h:PlOk p){d:Dig}{o:Ob}(hg:aO p d=some o):OkO o:=((iy h).1 hg).1
theorem getP_none{p:List Itm}{d:Dig}:aO p d=none↔bM p d=none:=by
 unfold aO;rw[Option.map_eq_none_iff]
def bI(p:List Itm)(o:Ob):Option (List Itm):=dE p (ofB (aJ o),ofL (aJ o))
def dgO(o:Ob):Dig:=ofB (aJ o)
theorem pM{p q:List Itm}{o:Ob}(h:PlOk p)(ho:OkO o)(hi:bI p o=some q):PlOk q:=h.ins ho hi
theorem mV{p q:List Itm}{o:Ob}(h:PlOk p)(ho:OkO o)(hi:bI p o=some q):aO q (dgO o)=some o :=
 (iy (pM h ho hi)).2 ⟨ho,(pK h.asc hi _).2 (.inr rfl)⟩
def subP(p q:List Itm):Prop:=∀i∈p,i∈q
theorem subP.refl(p:List Itm):subP p p:=fun _ h=>h
theorem subP.trans{p q r:List Itm}(h:subP p q)(k:subP q r):subP p r:=fun i hi=>k i (h i hi)
theorem mQ{p q:List Itm}{o:Ob}(h:PlOk p)(hi:bI p o=some q):subP p q:=fun i hm=>(pK h.asc hi i).2 (.inl hm)
theorem l9{p q:List Itm}(hp:PlOk p)(hq:PlOk q)(hs:subP p q){d:Dig}{o:Ob}(h:aO p d=some o):aO q d=some o :=
 (iy hq).2 ⟨((iy hp).1 h).1,hs _ ((iy hp).1 h).2⟩
theorem ni{p:List Itm}(h:PlOk p){d:Dig}{o:Ob}(hg:aO p d=some o):d=dgO o:=by
 have:=h.dg _ ((iy h).1 hg).2;simp only at this;rw[bY]at this;exact this
end
structure UAt(a b:List Itm)(i j:Nat)(out:List Itm):Prop where
 asc:AscI out
 mem:∀x,x∈out↔x∈a.take i∨x∈b.take j
 la:∀x∈out,∀y∈a.drop i,ltD x.1 y.1
 lb:∀x∈out,∀y∈b.drop j,ltD x.1 y.1
 len:out.length<=i+j
structure UniR(a b r:List Itm):Prop where
 asc:AscI r
 mem:∀x,x∈r↔x∈a∨x∈b
def jU(a b:List Itm):Prop:=∃d x y,(d,x)∈a/\ (d,y)∈b/\x≠y
section
variable {a b out : List Itm} {i j : Nat} {x y : Itm}
theorem UAt.start(a b:List Itm):UAt a b 0 0 [] :=
 ⟨List.Pairwise.nil,(fun x=>by simp),(fun x h=>by cases h),(fun x h=>by cases h),Nat.le_refl _⟩
theorem MC(h:AscI out)(hl:∀z∈out,ltD z.1 x.1):AscI (out++ [x]):=by
 unfold AscI;rw[List.pairwise_append];exact⟨h,List.pairwise_singleton _ _,fun z hz t ht=>by rw[List.mem_singleton.1 ht];exact hl z hz⟩
theorem oG{α:Type}{l:List α}{i:Nat}{x:α}(h:l[i]? =some x):l.drop i=x::l.drop (i+1):=by
 obtain⟨h1,h2⟩:=List.getElem?_eq_some_iff.1 h;rw[List.drop_eq_getElem_cons h1,h2]
theorem rM{α:Type}{l:List α}{i:Nat}{x:α}(h:l[i]? =some x):l.take (i+1)=l.take i++ [x]:=by
 obtain⟨h1,h2⟩:=List.getElem?_eq_some_iff.1 h;rw[List.take_add_one,h];rfl
theorem pz(h:AscI a)(hx:a[i]? =some x):∀y∈a.drop (i+1),ltD x.1 y.1:=by
 have h1:AscI (a.drop i):=h.sublist (List.drop_sublist _ _);rw[oG hx]at h1;exact fun y hy=>h1.head hy
theorem UAt.add{i' j':Nat}(h:UAt a b i j out)(hm:∀z,(z∈a.take i'∨z∈b.take j')↔ (z∈a.take i∨z∈b.take j)∨z=x)(hlo:∀z∈out,ltD z.1 x.1)
  (hla:∀y∈a.drop i',ltD x.1 y.1/\y∈a.drop i) (hlb:∀y∈b.drop j',ltD x.1 y.1/\y∈b.drop j) (hl:i+j+1<=i'+j'):UAt a b i' j' (out++ [x]) where
 asc:=MC h.asc hlo
 mem z:=by rw[List.mem_append,ae,h.mem,hm]
 la z hz y hy:=by
  rcases List.mem_append.1 hz with hz | hz
  . exact h.la z hz y (hla y hy).2
  . rw[List.mem_singleton.1 hz];exact(hla y hy).1
 lb z hz y hy:=by
  rcases List.mem_append.1 hz with hz | hz
  . exact h.lb z hz y (hlb y hy).2
  . rw[List.mem_singleton.1 hz];exact(hlb y hy).1
 len:=by have:=h.len;simp;omega
theorem qV{α:Type}{l:List α}{i:Nat}{y:α}(h:y∈l.drop (i+1)):y∈l.drop i:=by
 have:=(List.drop_sublist 1 (l.drop i))
 rw[List.drop_drop]at this;exact this.subset (by rwa[Nat.add_comm]at h ⊢)
theorem UAt.fst(h:UAt a b i j out)(ha:AscI a)(hx:a[i]? =some x)(hb:∀y∈b.drop j,ltD x.1 y.1):UAt a b (i+1) j (out++ [x]) :=
 h.add (fun z=>by rw[rM hx,List.mem_append,ae,or_right_comm])
  (fun z hz=>h.la z hz x (by rw[oG hx];simp)) (fun y hy=>⟨pz ha hx y hy,qV hy⟩) (fun y hy=>⟨hb y hy,hy⟩) (by omega)
theorem UAt.snd(h:UAt a b i j out)(hb:AscI b)(hx:b[j]? =some x)(ha:∀y∈a.drop i,ltD x.1 y.1):UAt a b i (j+1) (out++ [x]) :=
 h.add (fun z=>by rw[rM hx,List.mem_append,ae,or_assoc])
  (fun z hz=>h.lb z hz x (by rw[oG hx];simp)) (fun y hy=>⟨ha y hy,hy⟩) (fun y hy=>⟨pz hb hx y hy,qV hy⟩) (by omega)
theorem UAt.both(h:UAt a b i j out)(ha:AscI a)(hb:AscI b)(hx:a[i]? =some x)(hy:b[j]? =some x):UAt a b (i+1) (j+1) (out++ [x]) :=
 h.add (fun z=>by rw[rM hx,rM hy,List.mem_append,List.mem_append,ae];exact⟨fun h=>h.elim (fun h=>h.elim (fun h=> .inl (.inl h)) .inr) (fun h=>h.elim (fun h=> .inl (.inr h)) .inr),fun h=>h.elim (fun h=>h.elim (fun h=> .inl (.inl h)) (fun h=> .inr (.inl h))) (fun h=> .inl (.inr h))⟩)
  (fun z hz=>h.la z hz x (by rw[oG hx];simp)) (fun y hy=>⟨pz ha hx y hy,qV hy⟩) (fun z hz=>⟨pz hb hy z hz,qV hz⟩) (by omega)
theorem rV(hb:AscI b)(hy:b[j]? =some y){d:Dig}(h:ltD d y.1):∀z∈b.drop j,ltD d z.1:=by
 intro z hz;rw[oG hy]at hz;rcases List.mem_cons.1 hz with rfl | hz
 . exact h
 . exact jL h (pz hb hy z hz)
theorem rY(hj:b.length<=j){d:Dig}:∀z∈b.drop j,ltD d z.1:=by
 intro z hz;rw[List.drop_of_length_le hj]at hz;cases hz
theorem UAt.done(h:UAt a b i j out)(hi:a.length<=i)(hj:b.length<=j):UniR a b out :=
 ⟨h.asc,fun x=>by rw[h.mem,ZU hi,ZU hj]⟩
theorem DY(hx:a[i]? =some x)(hy:b[j]? =some y)(hd:x.1=y.1)(hn:x.2≠y.2):jU a b :=
 ⟨x.1,x.2,y.2,Z7 hx,by rw[hd];exact Z7 hy,hn⟩
theorem UniR.plOk{r:List Itm}(h:UniR a b r)(ha:PlOk a)(hb:PlOk b):PlOk r :=
 ⟨fun i hi=>((h.mem i).1 hi).elim (ha.enc i) (hb.enc i),fun i hi=>((h.mem i).1 hi).elim (ha.dg i) (hb.dg i),h.asc⟩
theorem UniR.sub1{r:List Itm}(h:UniR a b r):subP a r:=fun i hi=>(h.mem i).2 (.inl hi)
theorem UniR.uniq{r s:List Itm}(h:UniR a b r)(g:UniR a b s):r=s:=AscI.ext h.asc g.asc (fun i=>by rw[h.mem,g.mem])
theorem UniR.clear{r:List Itm}(h:UniR a b r):¬jU a b:=by
 rintro ⟨d,u,v,h1,h2,hn⟩;have:=h.asc.uniq ((h.mem _).2 (.inl h1)) ((h.mem _).2 (.inr h2)) rfl;injection this with _ h3;exact hn h3
end
section
variable (p : List Itm) (hs : List Dig) (stop : Dig -> Prop) (dep : Int) (pre : Td)
inductive Lv:Nat->Dig->Prop
 | head {d:Dig} (h:d∈hs):Lv 0 d
 | par {n:Nat} {d x:Dig} {o:Ob} (h:Lv n d) (g:aO p d=some o) (k:o.kind=3) (s:¬stop d) (m:x∈o.pars):Lv (n+1) x
def NC(d:Dig):Prop:=∃n:Nat,Lv p hs stop n d/\ (dep=0∨ (n:Int)<dep)
def touch(q:Td):Prop:=pre <+: q∨q <+: pre
inductive Plc:Dig->Td->Prop
 | root {c:Dig} {o:Ob} (h:NC p hs stop dep c) (g:aO p c=some o) (k:o.kind=3):Plc o.tree []
 | sub {d:Dig} {q:Td} {o:Ob} {e:Ent} (h:Plc d q) (g:aO p d=some o) (k:o.kind=2) (m:e∈o.ents) (hd:e.dir=true) (t:touch pre (q++toL e.nm++ [47])):Plc e.dg (q++toL e.nm++ [47])
inductive Nd:Dig->Int->Prop
 | com {d:Dig} (h:NC p hs stop dep d):Nd d 3
 | dir {d:Dig} {q:Td} (h:Plc p hs stop dep pre d q):Nd d 2
 | blob {d:Dig} {q:Td} {o:Ob} {e:Ent} (h:Plc p hs stop dep pre d q) (g:aO p d=some o) (k:o.kind=2) (m:e∈o.ents) (hd:e.dir=false) (t:pre <+: q++toL e.nm):Nd e.dg 1
def G7(d:Dig):Prop:=∃k,Nd p hs stop dep pre d k
def Wrong:Prop:=∃d k o,Nd p hs stop dep pre d k/\aO p d=some o/\o.kind≠k
def RJ:Prop:=∃d,G7 p hs stop dep pre d/\aO p d=none
def Rt(d:Dig):Prop:=NC p hs stop dep d/\∃o x,aO p d=some o/\o.kind=3/\x∈o.pars/\¬NC p hs stop dep x
end
def G9(l:List Dig):Prop:=l.Pairwise ltD
section
variable {p p' : List Itm} {hs : List Dig} {stop stop' : Dig -> Prop} {dep dep' : Int} {pre pre' : Td}
end
/-! ### pools that keep some objects -/
def eY(p:List Itm)(l:List Dig):List Itm:=p.filter fun i=>decide (i.1∈l)
def um(_:Dig):Prop:=False
section
variable {eR eL eK : Int} {p : List Itm} {hs : List Dig} {dep : Int} {pre : Td} {l l' edge edge' : List Dig} {e e' : Int}
structure Si(p:List Itm)(hs:List Dig)(dep:Int)(pre:Td)(l edge:List Dig):Prop where
 h:0<=dep
 h':pre.length<=100
 m:¬RJ p hs um dep pre
 w:¬Wrong p hs um dep pre
 a:G9 l
 ml:∀d,d∈l↔G7 p hs um dep pre d
 b:G9 edge
 me:∀d,d∈edge↔Rt p hs um dep d
section
variable (hp : PlOk p) (N : Si p hs dep pre l edge)
include hp N
end
def cZ(o:Ob):List Dig:=o.ents.map Ent.dg++if o.kind=3 then o.tree::o.pars else []
inductive Rchd(p:List Itm)(rs:List Dig):Dig->Prop
 | root {d:Dig} (h:d∈rs):Rchd p rs d
 | link {d x:Dig} {o:Ob} (h:Rchd p rs d) (g:aO p d=some o) (m:x∈cZ o):Rchd p rs x
structure qw(p:List Itm)(rs l m:List Dig):Prop where
 there:∀d,d∈l↔d≠zD/\Rchd p rs d/\aO p d≠none
 miss:∀d,d∈m↔d≠zD/\Rchd p rs d/\aO p d=none
 nd:l.Nodup
theorem uf(hp:PlOk p){d:Dig}{o:Ob}(h:aO p d=some o):d≠zD:=by
 rw[ni hp h];unfold dgO ofB;split
 . decide
 . rename_i h;intro e;apply h;unfold zD at e;simpa using e
end
