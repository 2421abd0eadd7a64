/-
  Lemmas of the card.
-/
import Derived.StillTailTactics
import Derived.Test.YtknefelegjlgnaaGreatDoorCCCp11
set_option maxRecDepth 100000
set_option maxHeartbeats 8000000
namespace Go.Proofs.YtknefelegjlgnaaGreatDoor
open Go.RowKit
section
variable {p : List Itm} {hs : List Dig} {stop : Dig -> Prop} {n j : Nat} {level next : List Dig} {pre : List (Dig × Nat)} {d : Dig}
theorem rX{α:Type}[DecidableEq α]{l m:List α}(h:l.Nodup)(hs:∀x∈l,x∈m):l.length<=m.length:=by
 induction l generalizing m with
 | nil=>simp
 | cons a l ih =>
   have h1:=List.nodup_cons.1 h;have h2:=ih (m:=m.erase a) h1.2 fun x hx=>(List.mem_erase_of_ne (fun e=>h1.1 (by rw[<-e];exact hx))).2 (hs x (List.mem_cons_of_mem _ hx));have h3:=List.length_erase_of_mem (hs a (by simp));have h4:0<m.length:=List.length_pos_of_mem (hs a (by simp));rw[Z4];omega
variable {dep : Int}
end
section
open Go.Maps
structure KeyE{α:Type}(P:Program)(k:TypeId)(enc:α->UY)(sb:α->List UInt8)(ok:α->Prop):Prop where
 law:WideMaps.KeyLaw P k
 of:∀a,ok a->keyOf P k (enc a)=some (.string (sb a))
 inv:∀v l,keyOf P k v=some l->∃a,ok a/\v=enc a
 inj:∀a b,enc a=enc b->a=b
theorem KeyE.sb_inj{α:Type}{P:Program}{k:TypeId}{enc:α->UY}{sb:α->List UInt8}{ok:α->Prop}(E:KeyE P k enc sb ok){a b:α}(ha:ok a)(hb:ok b)(h:sb a=sb b):a=b :=
 E.inj _ _ (E.law.inj (E.of a ha) (by rw[h];exact E.of b hb))
theorem KeyE.lit_ne{α:Type}{P:Program}{k:TypeId}{enc:α->UY}{sb:α->List UInt8}{ok:α->Prop}(E:KeyE P k enc sb ok){a b:α}(ha:ok a)(hb:ok b)(h:a≠b):Lit.string (sb a)≠ .string (sb b) :=
 fun e=>h (E.sb_inj ha hb (by injection e))
def Gm{α:Type}(w:UW)(P:Program)(k:TypeId)(sb:α->List UInt8)(ok:α->Prop)(b N:Nat)(g:α->Option UY):Prop :=
 ∃D:DataW UY,w.ownsMap P k jf b N D/\∀a,ok a->Maps.has D (.string (sb a))= (g a).isSome/\∀z,D.atKey (.string (sb a)) (.held z)= .held ((g a).getD z)
def jG{α:Type}[DecidableEq α](g:α->Option UY)(s:α)(v:UY):α->Option UY:=fun t=>if t=s then some v else g t
theorem Ou{α:Type}[DecidableEq α](g:α->Option UY)(s:α)(v:UY):jG g s v s=some v:=by simp[jG]
theorem L8{α:Type}[DecidableEq α](g:α->Option UY){s t:α}(v:UY)(h:t≠s):jG g s v t=g t:=by simp[jG,h]
section
variable {α : Type} [DecidableEq α] {w w' : UW} {P : Program} {k t e : TypeId} {enc : α -> UY} {sb : α -> List UInt8} {ok : α -> Prop} {b N : Nat} {g : α -> Option UY}
omit [DecidableEq α] in
theorem Gm.made(w:UW)(P:Program)(k:TypeId)(sb:α->List UInt8)(ok:α->Prop):Gm (w.alloc (.map #[] 0)) P k sb ok w.heap.size 0 (fun _=>none) :=
 ⟨.map [],World.ownsMap_made w P k jf,fun _ _=>⟨rfl,fun _=>rfl⟩⟩
omit [DecidableEq α] in
theorem Gm.lt(h:Gm w P k sb ok b N g):b<w.heap.size:=h.choose_spec.1.lt
omit [DecidableEq α] in
theorem Gm.kept{row:Option Nat}(h:Gm w P k sb ok b N g)(hg:w.grownBy w' row)(hr:some b≠row):Gm w' P k sb ok b N g:=by
 obtain⟨D,h1,h2⟩:=h;exact⟨D,h1.kept hg hr,h2⟩
omit [DecidableEq α] in
theorem Gm.block(h:Gm w P k sb ok b N g)(hb:w'.heap[b]? =w.heap[b]?):Gm w' P k sb ok b N g:=by
 obtain⟨D,⟨es,clock,h1,h2⟩,h3⟩:=h;exact⟨D,⟨es,clock,hb.trans h1,h2⟩,h3⟩
omit [DecidableEq α] in
theorem Gm.below{B:Nat}(h:Gm w P k sb ok b N g)(hb:Below B w w')(hB:b<B):Gm w' P k sb ok b N g:=h.block (hb.block b hB)
omit [DecidableEq α] in
theorem Gm.look(h:Gm w P k sb ok b N g)(E:KeyE P k enc sb ok)(ht:P.underlying t=some (.map k e)){z:UY}(hz: (zeroValue e).run P w= .ok z w){s:α}(hs:ok s) :
  (Instr.lookup t (.map (some b)) (enc s) false).run P w= .ok ((g s).getD z) w:=by
 obtain⟨D,h1,h2⟩:=h;obtain⟨v,ps,hrun,hv⟩:=h1.lookup (Keyed.of_law E.law) ht hz (zd:= .held z) (zp:= []) rfl (E.of s hs);rw[(h2 s hs).2 z]at hv;rw[hrun,sN hv]
omit [DecidableEq α] in
theorem Gm.look_ok(h:Gm w P k sb ok b N g)(E:KeyE P k enc sb ok)(ht:P.underlying t=some (.map k e)){z:UY}(hz: (zeroValue e).run P w= .ok z w){s:α}(hs:ok s) :
  (Instr.lookup t (.map (some b)) (enc s) true).run P w= .ok (.tuple #[(g s).getD z,.bool (g s).isSome]) w:=by
 obtain⟨D,h1,h2⟩:=h;obtain⟨v,ps,hrun,hv⟩:=h1.look_ok (Keyed.of_law E.law) ht hz (zd:= .held z) (zp:= []) rfl (E.of s hs);rw[(h2 s hs).2 z]at hv;rw[hrun,sN hv,(h2 s hs).1]
theorem Gm.put(h:Gm w P k sb ok b N g)(E:KeyE P k enc sb ok)(ht:P.underlying t=some (.map k e))(hn:N<maxLen){s:α}(hs:ok s)(v:UY) :
  ∃w',(Instr.mapUpdate t (.map (some b)) (enc s) v).run P w= .ok () w'/\Gm w' P k sb ok b (N+1) (jG g s v)/\w.grownBy w' (some b):=by
 obtain⟨D,h1,h2⟩:=h;obtain⟨w',hrun,ho,hg⟩:=h1.update (Keyed.of_law E.law) ht hn (E.of s hs) (d:= .held v) (ps:= []) rfl;refine⟨w',hrun,⟨_,ho,fun r hr=>?_⟩,hg⟩;have hkl:=(Keyed.of_law E.law).key (E.of s hs);by_cases hrs:r=s
 . subst hrs
   rw[Ou,has_put_same h1.isMap hkl];exact⟨rfl,fun z=>atKey_put_same h1.isMap hkl _ _⟩
 . rw[L8 _ _ hrs,has_put_other (E.lit_ne hr hs hrs)]
   exact⟨(h2 r hr).1,fun z=>(atKey_put_other (E.lit_ne hr hs hrs) _ _).trans ((h2 r hr).2 z)⟩
theorem Ap{ops:Array Oper}{rest:List Oper}{o:Oper}{a:Act}{Q:Exit->Act->UW->Prop}(hgd:o.guard=none)(m x y:Operand)(t:TypeId)(hop:o.op=Op.mapUpdate t m x y)
  (k e:TypeId) (E:KeyE P k enc sb ok) (ht:P.underlying t=some (.map k e)) (b N:Nat) (g:α->Option UY) (hm:a.eval m= .map (some b)) (h:Gm w P k sb ok b N g) (hn:N<maxLen)
  (s:α) (hs:ok s) (v:UY) (hx:a.eval x=enc s) (hy:a.eval y=v)
  (hK:∀w',Gm w' P k sb ok b (N+1) (jG g s v)->w.grownBy w' (some b)->wpList P ops Q rest (a.put o.dst undef) w'):wpList P ops Q (o::rest) a w:=by
 refine wpList_plain hgd fun K' hK'=>?_;obtain⟨w',hrun,r1,r2⟩:=h.put E ht hn hs v;unfold Oper.wp;simp[execOp,hop,hm,hx,hy,hrun,Result.andThen];exact hK' _ _ (hK w' r1 r2)
/-! ### ranging -/
def GmR(w:UW)(P:Program)(k:TypeId)(sb:α->List UInt8)(ok:α->Prop)(b r N:Nat)(g:α->Option UY)(left:α->Bool)(cnt:Nat):Prop :=
 ∃(D:DataW UY)(lf:Lit->Bool),w.ranges P k jf b r N D lf cnt/\ (∀a,ok a->Maps.has D (.string (sb a))= (g a).isSome/\∀z,D.atKey (.string (sb a)) (.held z)= .held ((g a).getD z))/\∀a,ok a->lf (.string (sb a))=left a
variable {r cnt : Nat} {left : α -> Bool}
omit [DecidableEq α] in
theorem GmR.kept{row:Option Nat}(h:GmR w P k sb ok b r N g left cnt)(hg:w.grownBy w' row)(hb:some b≠row)(hr:some r≠row):GmR w' P k sb ok b r N g left cnt:=by
 obtain⟨D,lf,⟨es,clock,since,seen,c0,h1,F,hs,hD,h3,h4⟩,h2,h5⟩:=h;exact⟨D,lf,⟨es,clock,since,seen,c0,(hg.block b (Array.getElem?_eq_some_iff.1 h1).1 hb).trans h1,F,hs,hD,(hg.block r (Array.getElem?_eq_some_iff.1 h3).1 hr).trans h3,h4⟩,h2,h5⟩
omit [DecidableEq α] in
theorem GmR.blocks(h:GmR w P k sb ok b r N g left cnt)(hb:w'.heap[b]? =w.heap[b]?)(hr:w'.heap[r]? =w.heap[r]?):GmR w' P k sb ok b r N g left cnt:=by
 obtain⟨D,lf,⟨es,clock,since,seen,c0,h1,F,hs,hD,h3,h4⟩,h2,h5⟩:=h;exact⟨D,lf,⟨es,clock,since,seen,c0,hb.trans h1,F,hs,hD,hr.trans h3,h4⟩,h2,h5⟩
omit [DecidableEq α] in
theorem GmR.below{B:Nat}(h:GmR w P k sb ok b r N g left cnt)(hw:Below B w w')(hb:b<B)(hr:r<B):GmR w' P k sb ok b r N g left cnt:=h.blocks (hw.block b hb) (hw.block r hr)
omit [DecidableEq α] in
theorem Jh{ops:Array Oper}{rest:List Oper}{o:Oper}{a:Act}{Q:Exit->Act->UW->Prop}(hgd:o.guard=none)(m:Operand)(t:TypeId)(hop:o.op=Op.range t m)
  (k e:TypeId) (E:KeyE P k enc sb ok) (ht:P.underlying t=some (.map k e)) (b N:Nat) (g:α->Option UY) (hm:a.eval m= .map (some b)) (h:Gm w P k sb ok b N g)
  (hK:∀w' cnt,GmR w' P k sb ok b w.heap.size N g (fun s=>(g s).isSome) cnt->w.grownBy w' none->w'.heap.size=w.heap.size+1->wpList P ops Q rest (a.put o.dst (.pointer (some ⟨w.heap.size,0,none⟩))) w'):wpList P ops Q (o::rest) a w:=by
 obtain⟨D,h1,h2⟩:=h;refine wpList_range_own w hgd m t hop k e (Keyed.of_law E.law) ht jf b N D hm h1 (fun w' h3 h4 h5=>hK w' _ ⟨D,_,h3,h2,fun s hs=>(h2 s hs).1⟩ h4 h5)
theorem QX(E:KeyE P k enc sb ok){s z:α}(hs:ok s)(hz:ok z): (Lit.string (sb z)).sameKey (.string (sb s))=decide (z=s):=by
 rw[Bg];by_cases h:z=s
 . subst h;simp
 . simp only[h,decide_false]
   rw[beq_eq_false_iff_ne];exact fun e=>h (E.sb_inj hz hs e)
theorem Jk{ops:Array Oper}{rest:List Oper}{o:Oper}{a:Act}{Q:Exit->Act->UW->Prop}(hgd:o.guard=none)(it:Operand)(hop:o.op=Op.next it false)
  (k:TypeId) (E:KeyE P k enc sb ok) (b r N:Nat) (g:α->Option UY) (left:α->Bool) (cnt:Nat) (hit:a.eval it= .pointer (some ⟨r,0,none⟩)) (h:GmR w P k sb ok b r N g left cnt)
  (hDone: (∀s,ok s->left s=false)->wpList P ops Q rest (a.put o.dst (.tuple #[.bool false])) w)
  (hMore:∀(s:α)(v:UY)(w':UW)(cnt':Nat),ok s->left s=true->g s=some v->GmR w' P k sb ok b r N g (fun z=>left z && !decide (z=s)) cnt'->cnt'<cnt->w.grownBy w' (some r)->w'.heap.size=w.heap.size ->
    (Instr.entry (.pointer (some ⟨r,0,none⟩))).run P w'= .ok (.tuple #[enc s,v]) w'->wpList P ops Q rest (a.put o.dst (.tuple #[.bool true,enc s,v])) w'):wpList P ops Q (o::rest) a w:=by
 obtain⟨D,lf,h1,h2,h3⟩:=h;refine wpList_next_ranges (α:={a:α // ok a}) (β:=UY) w hgd it hop k (Keyed.of_law E.law) jf (fun s=>enc s.1) id (fun key kl hkey=>?_) (fun v y _=>⟨v,rfl⟩) b r N D lf cnt hit h1
  (fun _ hl=>hDone fun s hs=>by rw[<-h3 s hs];exact hl _) (fun s v kl y w' cnt' hkey hlk hv hat hrg hlt hgr hsz hen=>?_)
 . obtain⟨a,ha,e⟩:=E.inv _ _ hkey;exact⟨⟨a,ha⟩,e⟩
 . obtain⟨s,hs⟩:=s
   have e2:kl= .string (sb s):=by rw[E.of s hs]at hkey;cases hkey;rfl
   subst e2;have hl:left s=true:=by rw[<-h3 s hs];exact hlk
   have hy:y= (.held v,[]):=by simp[jf]at hv;exact hv.symm
   subst hy;have hg1: (g s).isSome=true:=by rw[<-(h2 s hs).1];exact has_true_of_atKey hat
   obtain⟨u,hu⟩:=Option.isSome_iff_exists.1 hg1;have hg2:g s=some v:=by
    have e1:=(h2 s hs).2 v;rw[hat]at e1;rw[hu]at e1 ⊢;simp at e1;rw[e1]
   exact hMore s v w' cnt' hs hl hg2 ⟨D,_,hrg,h2,fun z hz=>by simp only[h3 z hz,QX E hs hz]⟩ hlt hgr hsz hen
end
/-! ### digests as keys -/
def jI(d:Int×Int):List UInt8:=keyBytes [.int .u64 d.1,.int .u64 d.2]
def ik(d:Int×Int):Prop:=(Lit.int .u64 d.1).wf=true/\ (Lit.int .u64 d.2).wf=true
def dgV(d:Int×Int):UY:= .agg #[.int .u64 d.1,.int .u64 d.2]
theorem Td{P:Program}{k e:TypeId}(A:WideMaps.ArrKey P k e 2)(he:P.underlying e=some (.int .u64))(hsz:∃m,P.types.size=m+1):KeyE P k dgV jI ik where
 law:=A.law
 of:=fun a ha=>WideMaps.keyOf_pair A he hsz ha.1 ha.2
 inv:=fun v l h=>by
  have hwide:=A.wide;obtain⟨xs,L,rfl,h1,_⟩:=Go.keyOf_top hwide h;obtain⟨m,hm⟩:=hsz;rw[hm]at h1;unfold Program.keyLits at h1;simp only[A.hu]at h1;split at h1
  . rename_i hl
    rw[A.size]at hl;obtain⟨xs⟩:=xs
    match xs,hl with
    | [c0,c1],_ =>
      rw[show List.range 2= [0,1] from rfl,List.mapM_cons,List.mapM_cons,List.mapM_nil]at h1;simp only[bind,Option.map_eq_some_iff,Option.bind_eq_some_iff,pure,Option.some.injEq,A.one]at h1;obtain⟨_,⟨y0,h0,_,⟨y1,h2,_,rfl,rfl⟩,rfl⟩,_⟩:=h1;have d:∀(c:UY)(y:List Lit),P.keyLits (m+1) e [c]=some y->∃x:Int,c= .int .u64 x/\ (Lit.int .u64 x).wf=true:=fun c y h=>by
       cases c <;> simp[Program.keyLits,he]at h
       obtain⟨⟨rfl,hw⟩,_⟩:=h;exact⟨_,rfl,hw⟩
      obtain⟨a,rfl,wa⟩:=d c0 _ h0;obtain⟨b,rfl,wb⟩:=d c1 _ h2;exact⟨(a,b),⟨wa,wb⟩,rfl⟩
  . cases h1
 inj:=fun a b h=>by
  unfold dgV at h;injection h with h;injection h with h;cases a;cases b
  simp at h;simp[h]
/-! ### a digest and a string as a key -/
def plOk(x: (Int×Int)×UX):Prop:=ik x.1/\x.2.size<=maxLen
end
section
open Go.Maps
theorem Uw:Go.WideMaps.ArrKey Tryz.prog 50 48 2:=⟨Tryz.underlying50,by kernel_rfl,by kernel_rfl,by kernel_rfl⟩
theorem lT:KeyE Tryz.prog 50 dgV jI ik:=Td Uw Tryz.underlying48 ⟨Tryz.prog.types.size - 1,by kernel_rfl⟩
theorem kG{d:Dig}(h:WfD d):ik d:=by
 obtain⟨h1,h2,h3,h4⟩:=h;have e:∀x:Int,0<=x->x<18446744073709551616-> (Lit.int .u64 x).wf=true:=fun x ha hb=>by
  show(decide (IntKind.u64.min<=x) && decide (x<=IntKind.u64.max))=true;rw[show IntKind.u64.min=0 from rfl,show IntKind.u64.max=18446744073709551615 from rfl,Bool.and_eq_true,decide_eq_true_iff,decide_eq_true_iff];omega
 exact⟨e _ h1 h2,e _ h3 h4⟩
def sv{α:Type}(s:α->Bool):α->Option UY:=fun d=>if s d=true then some (.bool true) else none
theorem TB{α:Type}(s:α->Bool)(d:α): (sv s d).getD (.bool false)= .bool (s d):=by
 unfold sv;cases s d <;> rfl
theorem Hw{α:Type}[DecidableEq α](s:α->Bool)(d:α):jG (sv s) d (.bool true)=sv (setB s d):=by
 funext t
 unfold jG sv setB;by_cases e:t=d
 . simp[e]
 . simp[e]
abbrev Sd(w:UW)(b N:Nat)(s:Dig->Bool):Prop:=Gm w Tryz.prog 50 jI ik b N (sv s)
theorem Sd.made(w:UW):Sd (w.alloc (.map #[] 0)) w.heap.size 0 (fun _=>false):=Gm.made w _ _ _ _
theorem Sd.look{w:UW}{b N:Nat}{s:Dig->Bool}{t:TypeId}(h:Sd w b N s)(ht:Tryz.prog.underlying t=some (.map 50 4)){d:Dig}(hd:ik d) :
  (Instr.lookup t (.map (some b)) (.agg #[.int .u64 d.1,.int .u64 d.2]) false).run Tryz.prog w= .ok (.bool (s d)) w:=by
 have:=Gm.look h lT ht (Tryz.zeroValue4 w) hd;rw[TB]at this;exact this
section
variable {w : UW} {ops : Array Oper} {rest : List Oper} {o : Oper} {a : Act} {Q : Exit -> Act -> UW -> Prop}
theorem Am(hgd:o.guard=none)(m x y:Operand)(t:TypeId)(hop:o.op=Op.mapUpdate t m x y)(ht:Tryz.prog.underlying t=some (.map 50 4))
  (b N:Nat) (s:Dig->Bool) (hm:a.eval m= .map (some b)) (h:Sd w b N s) (hn:N<maxLen) (d:Dig) (hd:ik d) (hx:a.eval x= .agg #[.int .u64 d.1,.int .u64 d.2]) (hy:a.eval y= .bool true)
  (hK:∀w',Sd w' b (N+1) (setB s d)->w.grownBy w' (some b)->wpList Tryz.prog ops Q rest (a.put o.dst undef) w'):wpList Tryz.prog ops Q (o::rest) a w :=
 Ap hgd m x y t hop _ _ lT ht b N (sv s) hm h hn d hd _ hx hy (fun w' h1 h2=>hK w' (by show Gm _ _ _ _ _ _ _ (sv (setB s d));rw[<-Hw];exact h1) h2)
end
/-! ### places as keys -/
end
section
open Go.Maps
structure Wkb where
 b:Nat
 pA:OA
 pn:Nat
 pc:Nat
 pre:UX
 bc:Nat
 bn:Nat
 be:Nat
 bm:Nat
section
variable {base : Nat} {k : Wkb} {a b c : UW}
end
section
variable {w w' : UW} {base : Nat} {k : Wkb} {com : Dig -> Bool} {Nc N : Nat} {s : WkS}
end
section
variable {b : Nat} {x y z : UW}
end
end
section
open Go.Maps
end
section
open Go.Maps
theorem Tm{α:Type}{w:UW}{P:Program}{k:TypeId}{sb:α->List UInt8}{ok:α->Prop}{b r N cnt:Nat}{g:α->Option UY}{left:α->Bool}(h:GmR w P k sb ok b r N g left cnt):cnt<=N:=by
 obtain⟨D,lf,⟨es,clock,since,seen,c0,h1,F,hs,hD,h3,_,h4,_⟩,_⟩:=h;rw[<-h4];refine ZY ?_ hs;unfold leftOf;exact Array.size_filter_le
theorem RG{o:Ob}(h:OkO o):WfD o.tree:=by
 cases h.f with
 | blob _ _ c _=>rw[c.tree];exact lN
 | tree _ _ c _=>rw[c.tree];exact lN
 | commit _ _ _ c=>exact c.wf
theorem DU{o:Ob}(h:OkO o):o.pars.length<=8/\∀d∈o.pars,WfD d:=by
 cases h.f with
 | blob _ _ c _=>rw[c.pars];exact⟨by simp,fun d h=>by cases h⟩
 | tree _ _ c _=>rw[c.pars];exact⟨by simp,fun d h=>by cases h⟩
 | commit _ _ _ c=>exact⟨c.pars.few,c.pars.wf⟩
section
variable {w w' : UW} {base : Nat} {k : Wkb} {com : Dig -> Bool} {Nc N : Nat} {s : WkS} {d : Dig}
end
end
section
open Go.Maps
theorem OI{o:Ob}(h:OkO o):∀e∈o.ents,je e:=by
 cases h.f with
 | blob _ e _ _=>rw[e];intro x hx;cases hx
 | tree _ _ _ e=>exact e.all
 | commit _ _ e _=>rw[e];intro x hx;cases hx
section
variable {p : List Itm} {hs : List Dig} {stop : Dig -> Prop} {dep : Int} {pre : UX} {s : WkS}
end
end
structure ReJ(p:List Itm)(rs:List Dig)(met:Dig->Bool)(rl rm op:List Dig)(d:Dig)(done:List Dig):Prop where
 l:∀d∈rl,d≠zD/\Rchd p rs d/\aG p d≠none
 m:∀d∈rm,d≠zD/\Rchd p rs d/\aG p d=none
 o:∀d∈op,Rchd p rs d
 me:∀d,met d=true↔d=zD∨d∈rl∨d∈rm
 ro:∀d∈rs,met d=true∨d∈op
 cl:∀e∈rl,∀o x,aG p e=some o->x∈bW o-> (e=d->x∈done)->met x=true∨x∈op
 nl:rl.Nodup
 nm:rm.Nodup
structure ReI(p:List Itm)(rs:List Dig)(met:Dig->Bool)(rl rm op:List Dig):Prop where
 l:∀d∈rl,d≠zD/\Rchd p rs d/\aG p d≠none
 m:∀d∈rm,d≠zD/\Rchd p rs d/\aG p d=none
 o:∀d∈op,Rchd p rs d
 me:∀d,met d=true↔d=zD∨d∈rl∨d∈rm
 ro:∀d∈rs,met d=true∨d∈op
 cl:∀e∈rl,∀o x,aG p e=some o->x∈bW o->met x=true∨x∈op
 nl:rl.Nodup
 nm:rm.Nodup
section
variable {p : List Itm} {rs rl rm op done : List Dig} {met : Dig -> Bool} {d x : Dig} {o : Ob}
theorem ReI.start(p:List Itm)(rs:List Dig):ReI p rs (setB (fun _=>false) zD) [] [] rs where
 l:=fun d h=>by cases h
 m:=fun d h=>by cases h
 o:=fun d h=> .root h
 me:=fun d=>by rw[setB_true];simp
 ro:=fun d h=> .inr h
 cl:=fun e h=>by cases h
 nl:=List.nodup_nil
 nm:=List.nodup_nil
theorem lC{x d:Dig}(h:x∈op++ [d]):x∈op∨x=d:=by
 rcases List.mem_append.1 h with h | h
 . exact .inl h
 . exact .inr (List.mem_singleton.1 h)
theorem ReI.skip(h:ReI p rs met rl rm (op++ [d]))(hm:met d=true):ReI p rs met rl rm op where
 l:=h.l
 m:=h.m
 o:=fun x hx=>h.o x (List.mem_append_left _ hx)
 me:=h.me
 ro:=fun x hx=>(h.ro x hx).elim .inl fun h2=>(lC h2).elim .inr fun e=> .inl (e ▸ hm)
 cl:=fun e he o x g hx=>(h.cl e he o x g hx).elim .inl fun h2=>(lC h2).elim .inr fun e=> .inl (e ▸ hm)
 nl:=h.nl
 nm:=h.nm
theorem ReI.new(h:ReI p rs met rl rm (op++ [d]))(hm:met d=false):d≠zD/\d∉rl/\d∉rm/\Rchd p rs d:=by
 have h1:¬(d=zD∨d∈rl∨d∈rm):=fun h2=>by rw[(h.me d).2 h2]at hm;cases hm
 exact⟨fun e=>h1 (.inl e),fun e=>h1 (.inr (.inl e)),fun e=>h1 (.inr (.inr e)),h.o d (List.mem_append_right _ (List.mem_singleton.2 rfl))⟩
theorem ReI.miss(h:ReI p rs met rl rm (op++ [d]))(hm:met d=false)(hg:aG p d=none):ReI p rs (setB met d) rl (rm++ [d]) op:=by
 obtain⟨n1,n2,n3,n4⟩:=h.new hm;have up:∀{x},met x=true∨x∈op++ [d]->setB met d x=true∨x∈op:=fun h2=>h2.elim (fun h3=> .inl (setB_true.2 (.inr h3))) fun h3=>(lC h3).elim .inr fun e=> .inl (setB_true.2 (.inl e));refine⟨h.l,fun x hx=>?_,fun x hx=>h.o x (List.mem_append_left _ hx),fun x=>?_,fun x hx=>up (h.ro x hx),fun e he o x g hx=>up (h.cl e he o x g hx),h.nl,?_⟩
 . rcases List.mem_append.1 hx with hx | hx
   . exact h.m x hx
   . rw[List.mem_singleton.1 hx];exact⟨n1,n4,hg⟩
 . rw[setB_true,h.me,List.mem_append,ae]
   constructor
   . rintro (e | e | e | e)
     . exact .inr (.inr (.inr e))
     . exact .inl e
     . exact .inr (.inl e)
     . exact .inr (.inr (.inl e))
   . rintro (e | e | e | e)
     . exact .inr (.inl e)
     . exact .inr (.inr (.inl e))
     . exact .inr (.inr (.inr e))
     . exact .inl e
 . exact List.nodup_append.2 ⟨h.nm,List.nodup_cons.2 ⟨by simp,List.nodup_nil⟩,fun a ha b hb e=>by rw[List.mem_singleton.1 hb]at e;exact n3 (e ▸ ha)⟩
theorem ReI.got(h:ReI p rs met rl rm (op++ [d]))(hm:met d=false)(hg:aG p d=some o):ReJ p rs (setB met d) (rl++ [d]) rm op d []:=by
 obtain⟨n1,n2,n3,n4⟩:=h.new hm;have up:∀{x},met x=true∨x∈op++ [d]->setB met d x=true∨x∈op:=fun h2=>h2.elim (fun h3=> .inl (setB_true.2 (.inr h3))) fun h3=>(lC h3).elim .inr fun e=> .inl (setB_true.2 (.inl e));refine⟨fun x hx=>?_,h.m,fun x hx=>h.o x (List.mem_append_left _ hx),fun x=>?_,fun x hx=>up (h.ro x hx),fun e he o x g hx hd=>?_,?_,h.nm⟩
 . rcases List.mem_append.1 hx with hx | hx
   . exact h.l x hx
   . rw[List.mem_singleton.1 hx];exact⟨n1,n4,by rw[hg];simp⟩
 . rw[setB_true,h.me,List.mem_append,ae]
   constructor
   . rintro (e | e | e | e)
     . exact .inr (.inl (.inr e))
     . exact .inl e
     . exact .inr (.inl (.inl e))
     . exact .inr (.inr e)
   . rintro (e | (e | e) | e)
     . exact .inr (.inl e)
     . exact .inr (.inr (.inl e))
     . exact .inl e
     . exact .inr (.inr (.inr e))
 . rcases List.mem_append.1 he with he | he
   . exact up (h.cl e he o x g hx)
   . have:=hd (List.mem_singleton.1 he)
     cases this
 . exact List.nodup_append.2 ⟨h.nl,List.nodup_cons.2 ⟨by simp,List.nodup_nil⟩,fun a ha b hb e=>by rw[List.mem_singleton.1 hb]at e;exact n2 (e ▸ ha)⟩
theorem ReJ.pass(h:ReJ p rs met rl rm op d done)(hm:met x=true):ReJ p rs met rl rm op d (done++ [x]):=by
 refine⟨h.l,h.m,h.o,h.me,h.ro,fun e he o y g hy hd=>?_,h.nl,h.nm⟩;by_cases e2:y=x
 . exact .inl (e2 ▸ hm)
 . exact h.cl e he o y g hy fun e1=>(lC (hd e1)).elim id fun e3=>absurd e3 e2
theorem ReJ.push(h:ReJ p rs met rl rm op d done)(hr:Rchd p rs x):ReJ p rs met rl rm (op++ [x]) d (done++ [x]):=by
 refine⟨h.l,h.m,fun y hy=>(lC hy).elim (h.o y) (fun e=>e ▸ hr),h.me,fun y hy=>(h.ro y hy).elim .inl (fun h2=> .inr (List.mem_append_left _ h2)),fun e he o y g hy hd=>?_,h.nl,h.nm⟩;by_cases e2:y=x
 . exact .inr (by rw[e2];exact List.mem_append_right _ (List.mem_singleton.2 rfl))
 . exact(h.cl e he o y g hy fun e1=>(lC (hd e1)).elim id fun e3=>absurd e3 e2).elim .inl fun h2=> .inr (List.mem_append_left _ h2)
theorem ReJ.fin(h:ReJ p rs met rl rm op d (bW o))(hg:aG p d=some o):ReI p rs met rl rm op :=
 ⟨h.l,h.m,h.o,h.me,h.ro,fun e he o' x g hx=>h.cl e he o' x g hx fun e1=>by rw[e1,hg]at g;injection g with g;exact g ▸ hx,h.nl,h.nm⟩
theorem ReI.end_(hp:PlOk p)(h:ReI p rs met rl rm []){l m:List Dig}(hl:∀d,d∈l↔d∈rl)(hm:∀d,d∈m↔d∈rm)(hn:l.Nodup):qp p rs l m:=by
 have all:∀{d},Rchd p rs d->met d=true:=by
  intro d hd
  induction hd with
  | root hr=>exact(h.ro _ hr).elim id fun h2=>by cases h2
  | link _ g hx ih =>
    rcases (h.me _).1 ih with e | e | e
    . exact absurd e (tq hp g)
    . exact(h.cl _ e _ _ g hx).elim id fun h2=>by cases h2
    . have:=(h.m _ e).2.2;rw[g]at this;cases this
 refine⟨?_,?_,hn⟩
 . intro d
   rw[hl];constructor
   . exact h.l d
   . rintro ⟨h1,h2,h3⟩
     rcases (h.me d).1 (all h2) with e | e | e
     . exact absurd e h1
     . exact e
     . exact absurd (h.m d e).2.2 h3
 . intro d
   rw[hm];constructor
   . exact h.m d
   . rintro ⟨h1,h2,h3⟩
     rcases (h.me d).1 (all h2) with e | e | e
     . exact absurd e h1
     . exact absurd h3 (h.l d e).2.2
     . exact e
end
/-! ### bounds -/
noncomputable def reU(p:List Itm)(rs:List Dig):List Dig:=rs++p.flatMap fun i=>bW (qF i.2)
theorem Q9{p:List Itm}{rs:List Dig}(hp:PlOk p){d x:Dig}{o:Ob}(g:aG p d=some o)(hx:x∈bW o):x∈reU p rs:=by
 obtain⟨ho,hm⟩:=(iw hp).1 g;refine List.mem_append_right _ (List.mem_flatMap.2 ⟨_,hm,?_⟩);simp only;rw[rY ho];exact hx
theorem yF{p:List Itm}{rs:List Dig}(hp:PlOk p){d:Dig}(h:Rchd p rs d):d∈reU p rs:=by
 cases h with
 | root h=>exact List.mem_append_left _ h
 | link _ g m=>exact Q9 hp g m
theorem Dc{o:Ob}(h:OkO o): (bW o).length<=209:=by
 unfold bW;rw[af,List.length_map];cases h.f with
 | blob k e c _=>rw[e];rcases k with k | k <;> simp[k]
 | tree k _ _ e=>have:=e.few;simp[k];omega
 | commit k _ e c=>have:=c.pars.few;rw[e];simp[k];omega
theorem OU{o:Ob}(h:OkO o):∀d∈bW o,WfD d:=by
 intro d hd;unfold bW at hd;rcases List.mem_append.1 hd with hd | hd
 . obtain⟨e,he,rfl⟩:=List.mem_map.1 hd
   exact(OI h e he).dg
 . split at hd
   . rcases List.mem_cons.1 hd with rfl | hd
     . exact RG h
     . exact(DU h).2 d hd
   . cases hd
theorem yA{p:List Itm}{rs:List Dig}(hp:PlOk p)(hr:∀d∈rs,WfD d){d:Dig}(h:Rchd p rs d):WfD d:=by
 cases h with
 | root h=>exact hr d h
 | link _ g m=>exact OU (Gz hp g) d m
theorem BN{α β:Type}{f:α->List β}{n:Nat}:∀{l:List α},(∀x∈l,(f x).length<=n)-> (l.flatMap f).length<=l.length*n
 | [],_=>by simp
 | a::l,h=>by
   have h1:=h a (by simp);have h2:=BN (l:=l) (f:=f) (n:=n) fun x hx=>h x (by simp[hx]);rw[List.flatMap_cons,af,Z4,Nat.add_mul];omega
def qy(U:List Dig)(met:Dig->Bool):Nat:=U.countP fun d=>!met d
theorem He{f g:Dig->Bool}:∀{U:List Dig},(∀x,g x=true->f x=true)->U.countP g<=U.countP f
 | [],_=>by simp
 | a::U,h=>by
   have ih:=He (U:=U) h;rw[List.countP_cons,List.countP_cons];by_cases ha:g a=true
   . rw[if_pos ha,if_pos (h a ha)];omega
   . rw[if_neg ha];omega
theorem Hu{f g:Dig->Bool}{d:Dig}(hf:f d=true)(hg:g d=false):∀{U:List Dig},(∀x,g x=true->f x=true)->d∈U->U.countP g+1<=U.countP f
 | [],_,hd=>by cases hd
 | a::U,h,hd=>by
   rw[List.countP_cons,List.countP_cons];rcases List.mem_cons.1 hd with rfl | hd
   . have:=He (U:=U) h
     rw[if_pos hf,if_neg (by rw[hg];simp)];omega
   . have ih:=Hu hf hg h hd
     by_cases ha:g a=true
     . rw[if_pos ha,if_pos (h a ha)];omega
     . rw[if_neg ha];omega
theorem Le{U:List Dig}{met:Dig->Bool}{d:Dig}(hd:d∈U)(hm:met d=false):qy U (setB met d)+1<=qy U met:=by
 unfold qy;refine Hu (d:=d) (by simp[hm]) (by simp[setB]) (fun x hx=>?_) hd;simp[setB]at hx ⊢;exact hx.2
theorem PZ(U:List Dig)(met:Dig->Bool):qy U met<=U.length:=List.countP_le_length
theorem kH(l:List Dig):∀u∈flat dgC l,u.oneCell'=true:=fun u hu=>by
 unfold flat at hu;obtain⟨i,_,h⟩:=List.mem_flatMap.1 hu;simp[dgC]at h;rcases h with rfl | rfl <;> rfl
section
open Go.RowKit Go.Shelf
def bZ:List UInt8->Nat
 | []=>0
 | c::r=>if c=47 then 0 else bZ r+1
theorem wu:∀{l:List UInt8}{k:Nat},(∀j,j<k->l[j]? ≠some 47)->k<=l.length-> (k=l.length∨l[k]? =some 47)->bZ l=k
 | [],k,_,h,_=>by simp at h;simp[bZ,h]
 | c::r,0,_,_,h3=>by
   rcases h3 with h3 | h3
   . simp at h3
   . simp at h3;simp[bZ,h3]
 | c::r,k+1,h1,h2,h3=>by
   have hc:c≠47:=fun e=>h1 0 (by omega) (by simp[e]);simp only[bZ,if_neg hc];rw[wu (k:=k) (fun j hj=>by have:=h1 (j+1) (by omega);simpa using this) (by simp at h2;omega) (by
    rcases h3 with h3 | h3
    . left;simp at h3;omega
    . right;simpa using h3)]
theorem AX:∀(l:List UInt8),bC l=if bZ l<l.length then l.take (bZ l)::bC (l.drop (bZ l+1)) else [l]
 | []=>rfl
 | c::r=>by
   by_cases hc:c=47
   . subst hc;simp[bC,bZ]
   . have ih:=AX r
     simp only[bC,bZ,if_neg hc];rw[ih];by_cases h:bZ r<r.length
     . rw[if_pos h,if_pos (by simp;exact h)];simp
     . rw[if_neg h,if_neg (by simp;omega)]
end
section
open Go.RowKit Go.Shelf
def uB(s a b:UX)(m:Bool):Prop :=
 (bZ (bl s)<s.size/\a=s.extract 0 (bZ (bl s))/\b=s.extract (bZ (bl s)+1) s.size/\m=true)∨ (bZ (bl s)=s.size/\a=s/\b= ⟨#[]⟩/\m=false)
def Il(s:UX)(w:UW)(e:Ending)(w':UW):Prop:=∃a b m,e= .returned (.tuple #[.string a,.string b,.bool m])/\uB s a b m/\U0 w w'
end
section
open Go.Maps
def upB:Option UX->UX->Bool
 | none,_=>true
 | some q,s=>less q s
def gm:Option UX->List Fl->Int
 | _,[]=>0
 | p,f::r=>if bP f.1=true then(if upB p f.1=true then gm (some f.1) r else 10) else 6
def jr(fs:List Fl)(k:Nat):Option UX:=if k=0 then none else(fs[k - 1]?).map Prod.fst
theorem QM{fs:List Fl}{k:Nat}{f:Fl}(h:fs[k]? =some f):gm (jr fs k) (fs.drop k)=if bP f.1=true then(if upB (jr fs k) f.1=true then gm (jr fs (k+1)) (fs.drop (k+1)) else 10) else 6:=by
 have hp:jr fs (k+1)=some f.1:=by unfold jr;rw[if_neg (by omega),Nat.add_sub_cancel,h];rfl
 rw[List.drop_eq_getElem_cons (List.getElem?_eq_some_iff.1 h).1,(List.getElem?_eq_some_iff.1 h).2,gm,hp]
def jv(ps:List UX)(s:UX)(k:Nat):Bool:=decide ((bl s)[k]? =some 47) && iF ps (s.extract 0 k)
def uG(fs:List Fl):Prop:=∃f∈fs,∃j,j<f.1.size/\jv (fs.map Prod.fst) f.1 j=true
def TckR(fs:List Fl)(err:Int):Prop :=
 (200<fs.length/\err=4)∨ (fs.length<=200/\gm none fs≠0/\err=gm none fs)∨ (fs.length<=200/\gm none fs=0/\ ((uG fs/\err=7)∨ (¬uG fs/\err=0)))
theorem TckR.same{fs:List Fl}{e f:Int}(h:TckR fs e)(g:TckR fs f):e=f:=by
 rcases h with ⟨h1,h2⟩ | ⟨h1,h2,h3⟩ | ⟨h1,h2,h3⟩
 . rcases g with ⟨_,g2⟩ | ⟨g1,_⟩ | ⟨g1,_⟩
   . rw[h2,g2]
   . omega
   . omega
 . rcases g with ⟨g1,_⟩ | ⟨_,_,g3⟩ | ⟨_,g2,_⟩
   . omega
   . rw[h3,g3]
   . exact absurd g2 h2
 . rcases g with ⟨g1,_⟩ | ⟨_,g2,_⟩ | ⟨_,_,g3⟩
   . omega
   . exact absurd h2 g2
   . rcases h3 with ⟨h3,h4⟩ | ⟨h3,h4⟩
     . rcases g3 with ⟨_,g4⟩ | ⟨g3,_⟩
       . rw[h4,g4]
       . exact absurd h3 g3
     . rcases g3 with ⟨g3,_⟩ | ⟨_,g4⟩
       . exact absurd g3 h3
       . rw[h4,g4]
theorem MJ(A:OA)(n c B:Nat)(fs:List Fl)(w:UW)(h0:Sl w B 2 A n (flat flC fs))(hB:B<=w.heap.size)(hn:n<=1000000)(hsz:∀f∈fs,f.1.size<=1000000/\f.2.size<=60000) :
  Calls Tryz.prog 123 #[.slice A n c] w fun e w'=>∃err,e= .returned (.int .i64 err)/\TckR fs err/\U0 w w':=by
 have HL:=ai (h0.len jb (by omega));have H0:=ai h0;have H:=ai hsz;clear h0 hsz;have hmm:=@run_makeMap Tryz.prog;have hzz:=Tryz.zeroValue4
 go_enter Tryz.func123,Tryz.ntmps123
 by_cases hbig: (200:Int)< (n:Int)
 . have HE:Hid (TckR fs 4):= .inl ⟨by rw[HL.o];omega,rfl⟩
   go_wp2_with fail;go_ret
   exact⟨4,rfl,HE.o,ah _ _⟩
 have hsm:n<=200:=by omega
 have M:Hid (Rm (w.alloc (.map #[] 0)) Tryz.prog 9 w.heap.size 0 (pG ((fs.take 0).map Prod.fst))):=by
  show Rm _ _ _ _ _ (pG []);rw[Tf];exact Rm.made w Tryz.prog 9
 obtain⟨r,hr⟩:=NX9 (gm none fs)
 have HR:=ai hr;clear hr;go_wp2_with fail
 go_loopw[15] (fun i wr=>∃k:Nat,k<=n/\i= .int .i64 k/\Hid (Rm wr Tryz.prog 9 w.heap.size k (pG ((fs.take k).map Prod.fst)))/\Hid (r=gm (jr fs k) (fs.drop k))/\U6 w wr/\w.heap.size<wr.heap.size) (fun i _=>n - (intOf i).toNat)
 case atStart=>exact⟨0,ZX _,rfl,M.o,HR.o.symm,(ah _ w).alloc aj _,by simp⟩
 case round =>
  obtain⟨k,hk,rfl,hM,hC,hBel,hwz⟩:=hrel;by_cases hlt:k<n
  . obtain⟨b,off,f,rfl,hbB,hf,y0,y1⟩:=(H0.o.below hBel.o hB).fl hlt
    have hlz: (k:Int)< (n:Int):=by omega
    have HF:=ai hf;have hfs:=H.o f (Z7 hf);have hfm:f.1.size<=maxLen:=by unfold maxLen;omega
    have HC:=hC;rw[QM hf]at HC;obtain⟨W2,hW2⟩:=NX9 (wr.alloc (.cells #[.string f.1,.string f.2] 82))
    have s:Hid (Bk W2 wr.heap.size 82 #[.string f.1,.string f.2]):=by rw[<-hW2];exact Bk.new wr _ _
    have U:W2.heap.size=wr.heap.size+1:=by rw[<-hW2];simp
    have HB2:U6 wr W2:=by rw[<-hW2];exact(ah _ wr).alloc aj _
    have I:=ai (Lh f.1 W2 hfm);have x0:=s.o.cell 0;simp at x0;have J:=ai (bJ hf);clear hf
    go_wp2_with (go_at_call 196;refine I.o.mono ?_;rintro e w3 ⟨rfl,hb3⟩;refine aN ?_)
    refine aH ?_;have HB3:U6 wr w3:=HB2.o.trans (hb3.mono (by omega));have v:=ai (s.o.below hb3 (by omega));have hz3:=hb3.size;have x0:=v.o.cell 0;have x1:=v.o.cell 1;simp at x0 x1;clear hb3 I hW2;cases hp:bP f.1 with
    | false =>
      have HE:Hid (TckR fs 6):= .inr (.inl ⟨by rw[HL.o];omega,by rw[HR.o,HC.o,hp];simp,by rw[HR.o,HC.o,hp];simp⟩);clear hp;go_wp2_with fail;go_ret
      exact⟨6,rfl,HE.o,hBel.o.trans (HB3.o.mono (by omega))⟩
    | true =>
      rw[hp,if_pos rfl]at HC;have K:=ai (Ff f.2 w3);clear hp
      go_wp2_with (go_at_call 197;refine K.o.mono ?_;rintro e w4 ⟨rfl,hb4⟩;refine aN ?_)
      refine aH ?_;have L:=ai (LJ f.2 w4 hfs.2);have N:=ai (v.o.below hb4 (by omega));have HB4:U6 wr w4:=HB3.o.trans (hb4.mono (by omega));have V:=hb4.size;clear hb4 K x0 x1
      go_wp2_with (go_at_call 113;refine L.o.mono ?_;rintro e w5 ⟨rfl,hb5⟩;refine aN ?_)
      refine aH ?_;have x:=ai (N.o.below hb5 (by omega));have o:U6 wr w5:=HB4.o.trans (hb5.mono (by omega));have W:=hb5.size;clear hb5 L;obtain⟨q5,hq5⟩:∃q5:Nat,q5=0:=⟨0,rfl⟩
      cases k with
      | zero =>
        have HN:Hid (r=gm (jr fs 1) (fs.drop 1)):=by
         show _=_;rw[HC.o,if_pos];simp[jr,upB]
        have y:=ai (hM.o.below o.o hwz);clear HC hC;go_wp2_with fail
        go_quiet(fail)
        have z:=ai (x.o.drewN nq);have C:Hid (Rm (w5.drewN nq) Tryz.prog 9 w.heap.size 0 (pG ((fs.take 0).map Prod.fst))):=y.o.below (dm (ah _ w5) nq) (by omega);have d:U6 wr (w5.drewN nq):=dm o.o nq;have x0:=z.o.cell 0;simp at x0
        go_wp2_with (at_mapUpdate;refine aN ?_)
        refine aH ?_;refine nZ rfl _ _ _ 271 rfl 9 4 Tryz.underlying9 Tryz.underlying271 w.heap.size 0 _ rfl C.o (by unfold maxLen;omega) f.1 hfm _ rfl rfl ?_;intro w7 a l
        replace a:Rm w7 Tryz.prog 9 w.heap.size (0+1) (upd (pG ((fs.take 0).map Prod.fst)) f.1 (.bool true)):=a
        rw[<-FO]at a;have D:Hid (Rm w7 Tryz.prog 9 w.heap.size (0+1) (pG ((fs.take (0+1)).map Prod.fst))):=by show Rm _ _ _ _ _ _;rw[J.o,List.map_append];exact a
        have E:U6 w w7:=(hBel.o.trans (d.o.mono (by omega))).grown l (by have:=d.o.size;omega) (fun q e=>by cases e;omega);have O:=l.size;have P:wr.heap.size<= (w5.drewN nq).heap.size:=d.o.size;clear a l x0;go_wp2_with fail;go_roundw
        case rel=>exact⟨0+1,by omega,by go_num,D.o,HN.o,E.o,by omega⟩
        case measure=>simp[intOf];omega
      | succ k =>
        have y:=ai (hM.o.below o.o hwz);have u:U0 w w5:=hBel.o.trans (o.o.mono (by omega));obtain⟨b',off',p,hbe,_,hpp,p0,_⟩:=(H0.o.below u hB).fl (show k<n by omega);cases hbe
        obtain⟨le,hle⟩:=NX9 ((Op.bytesLess f.1.toList p.1.toList || f.1.toList == p.1.toList))
        have hls:=KI hle;have hpv:jr fs (k+1)=some p.1:=by unfold jr;rw[if_neg (by omega),Nat.add_sub_cancel,hpp];rfl
        rw[hpv,upB]at HC;have hg0:decide ((0:Int)< ((k+1:Nat):Int))=true:=by rw[decide_eq_true_iff];omega
        have x5:=x.o.cell 0;simp at x5;clear hpp hpv hC u;rw[hls]at HC;clear hls;cases le with
        | false =>
          have HN:Hid (r=gm (jr fs (k+1+1)) (fs.drop (k+1+1))):=by show _=_;rw[HC.o,if_pos (by decide)]
          clear HC;go_wp2_with fail
          go_quiet(fail)
          clear x5 p0 hle;have z:=ai (x.o.drewN nq);have C:Hid (Rm (w5.drewN nq) Tryz.prog 9 w.heap.size (k+1) (pG ((fs.take (k+1)).map Prod.fst))):=y.o.below (dm (ah _ w5) nq) (by omega);have d:U6 wr (w5.drewN nq):=dm o.o nq;have x0:=z.o.cell 0;simp at x0
          go_wp2_with (at_mapUpdate;refine aN ?_)
          refine aH ?_;refine nZ rfl _ _ _ 271 rfl 9 4 Tryz.underlying9 Tryz.underlying271 w.heap.size (k+1) _ rfl C.o (by unfold maxLen;omega) f.1 hfm _ rfl rfl ?_;intro w7 a l
          replace a:Rm w7 Tryz.prog 9 w.heap.size ((k+1)+1) (upd (pG ((fs.take (k+1)).map Prod.fst)) f.1 (.bool true)):=a
          rw[<-FO]at a;have D:Hid (Rm w7 Tryz.prog 9 w.heap.size ((k+1)+1) (pG ((fs.take ((k+1)+1)).map Prod.fst))):=by show Rm _ _ _ _ _ _;rw[J.o,List.map_append];exact a
          have E:U6 w w7:=(hBel.o.trans (d.o.mono (by omega))).grown l (by have:=d.o.size;omega) (fun q e=>by cases e;omega);have O:=l.size;have P:wr.heap.size<= (w5.drewN nq).heap.size:=d.o.size;clear a l x0;go_wp2_with fail;go_roundw
          case rel=>exact⟨(k+1)+1,by omega,by go_num,D.o,HN.o,E.o,by omega⟩
          case measure=>simp[intOf];omega
        | true =>
          have HE:Hid (TckR fs 10):= .inr (.inl ⟨by rw[HL.o];omega,by rw[HR.o,HC.o];simp,by rw[HR.o,HC.o];simp⟩);clear HC;go_wp2_with fail
          go_quiet(fail)
          go_wp2_with fail;go_ret
          exact⟨10,rfl,HE.o,hBel.o.trans (dm (o.o.mono (by omega)) _)⟩
  . have hlz:¬(k:Int)< (n:Int):=by omega
    have HZ:Hid (gm none fs=0):=by
     show _=_;rw[HR.o,hC.o,List.drop_of_length_le (by rw[HL.o];omega)];rfl
    have Q:Hid (Rm wr Tryz.prog 9 w.heap.size k (pG (fs.map Prod.fst))):=by
     have h1:=hM.o;rw[ZU (by rw[HL.o];omega)]at h1;exact h1
    have F:=ai hBel.o;obtain⟨we,hwe⟩:∃we,we=wr:=⟨_,rfl⟩
    subst hwe;clear hM hC hBel;go_wp2_with fail
    go_loopw[51] (fun i wr=>∃j:Nat,j<=n/\i= .int .i64 j/\Hid (∀f∈fs.take j,∀q,q<f.1.size->jv (fs.map Prod.fst) f.1 q=false)/\U6 we wr) (fun i _=>n - (intOf i).toNat)
    case atStart=>exact⟨0,ZX _,rfl,fun f hf=>by simp at hf,ah _ _⟩
    case round =>
     obtain⟨j,hj,rfl,hNo,t⟩:=hrel;have R:=t.o.size;by_cases hjn:j<n
     . have hBw2:U0 w wr:=F.o.trans (t.o.mono (by omega))
       obtain⟨b,off,f,rfl,hbB,hf,y0,y1⟩:=(H0.o.below hBw2 hB).fl hjn;have hjz: (j:Int)< (n:Int):=by omega
       have HF:=ai hf;have hfs:=H.o f (Z7 hf);obtain⟨W2,hW2⟩:=NX9 (wr.alloc (.cells #[.string f.1,.string f.2] 82))
       have s:Hid (Bk W2 wr.heap.size 82 #[.string f.1,.string f.2]):=by rw[<-hW2];exact Bk.new wr _ _
       have HB2:U6 we W2:=by rw[<-hW2];exact t.o.alloc R _
       have S:=ai (Q.o.below HB2.o hwz);have x0:=s.o.cell 0;simp at x0;obtain⟨wm,hwm⟩:∃wm,wm=wr:=⟨_,rfl⟩
       subst hwm;clear hf hBw2;go_wp2_with fail;clear hW2
       go_loopw[58] (fun i wr=>∃q:Nat,q<=f.1.size/\i= .int .i64 q/\Hid (∀m,m<q->jv (fs.map Prod.fst) f.1 m=false)/\wr=W2) (fun i _=>f.1.size - (intOf i).toNat)
       case atStart=>exact⟨0,ZX _,rfl,fun m hm=>absurd hm (by omega),rfl⟩
       case round =>
        obtain⟨q,hq,rfl,hNq,rfl⟩:=hrel;by_cases hqs:q<f.1.size
        . have hqz: (q:Int)< (f.1.size:Int):=by omega
          have X: (q:Int)<= (f.1.size:Int):=by omega
          have hxs: (f.1.extract 0 q).size<=maxLen:=by simp;unfold maxLen;omega
          have hg:=ED f.1 q hqs;have HG:Hid ((bl f.1)[q]? =some f.1[q]):=hg;have hlk:=S.o.look Tryz.underlying9 Tryz.underlying271 (hzz _) hxs;rw[TG]at hlk;clear hg;by_cases h47:f.1[q]=47
          . have t1: (((f.1[q].toNat:Nat):Int) == 47)=true:=by simp[h47]
            cases hm:iF (fs.map Prod.fst) (f.1.extract 0 q) with
            | true =>
              have HE:Hid (TckR fs 7):= .inr (.inr ⟨by rw[HL.o];omega,HZ.o,.inl ⟨⟨f,Z7 HF.o,q,hqs,by unfold jv;rw[HG.o,h47,hm];rfl⟩,rfl⟩⟩);rw[hm]at hlk;clear hm h47;go_wp2_with fail;go_ret
              exact⟨7,rfl,HE.o,F.o.trans (HB2.o.mono (by omega))⟩
            | false =>
              have G:Hid (∀m,m<q+1->jv (fs.map Prod.fst) f.1 m=false):=fun m hm'=>by
               by_cases e:m=q
               . subst e;unfold jv;rw[hm];simp
               . exact hNq.o m (by omega)
              rw[hm]at hlk;clear hm h47 hNq;go_wp2_with fail;go_roundw
              case rel=>exact⟨q+1,hqs,by go_num,G.o,trivial⟩
              case measure=>simp[intOf];omega
          . have t1: (((f.1[q].toNat:Nat):Int) == 47)=false:=by
              rw[beq_eq_false_iff_ne];intro e;apply h47
              apply UInt8.toNat_inj.1
              show f.1[q].toNat=47;omega
            have G:Hid (∀m,m<q+1->jv (fs.map Prod.fst) f.1 m=false):=fun m hm'=>by
             by_cases e:m=q
             . subst e;unfold jv;rw[HG.o,decide_eq_false (fun e=>h47 (Option.some.inj e)),Bool.false_and]
             . exact hNq.o m (by omega)
            clear h47 hNq;go_wp2_with fail;go_roundw
            case rel=>exact⟨q+1,hqs,by go_num,G.o,trivial⟩
            case measure=>simp[intOf];omega
        . have hqz:¬(q:Int)< (f.1.size:Int):=by omega
          have T:Hid (∀g∈fs.take (j+1),∀q,q<g.1.size->jv (fs.map Prod.fst) g.1 q=false):=fun g hg=>by
           rw[bJ HF.o]at hg;rcases List.mem_append.1 hg with hg | hg
           . exact hNo.o g hg
           . rw[List.mem_singleton.1 hg];exact fun m hm=>hNq.o m (by omega)
          clear hNq hNo;go_wp2_with fail;go_roundw
          case rel=>exact⟨j+1,hjn,by go_num,T.o,HB2.o⟩
          case measure=>simp[intOf];omega
     . have hjz:¬(j:Int)< (n:Int):=by omega
       have HE:Hid (TckR fs 0):= .inr (.inr ⟨by rw[HL.o];omega,HZ.o,.inr ⟨(fun h=>by
        obtain⟨f,hf,q,hq,hd⟩:=h;have:=hNo.o f (by rw[ZU (by rw[HL.o];omega)];exact hf) q hq;rw[this]at hd;cases hd),rfl⟩⟩)
       clear hNo;go_wp2_with fail;go_ret
       exact⟨0,rfl,HE.o,F.o.trans (t.o.mono (by omega))⟩
end
section
open Go.RowKit Go.Shelf
def jJ(d p:UX):Bool:=decide (d.size<p.size) && (decide (p.extract 0 d.size=d) && decide ((bl p)[d.size]? =some 47))
end
section
open Go.RowKit Go.Shelf
theorem RV{fs:List Fl}{f g:Fl}(hf:f∈fs)(hg:g∈fs)(h:jJ f.1 g.1=true):uG fs:=by
 unfold jJ at h;simp only[Bool.and_eq_true,decide_eq_true_eq]at h;obtain⟨h1,h2,h3⟩:=h;refine⟨g,hg,f.1.size,h1,?_⟩;unfold jv;rw[h2,decide_eq_true h3,Bool.true_and,pq];exact List.mem_map_of_mem hf
theorem Ry{fs:List Fl}(h:∀f∈fs,∀g∈fs,jJ f.1 g.1=false):¬uG fs:=by
 rintro ⟨g,hg,j,hj,hd⟩;unfold jv at hd;rw[Bool.and_eq_true,decide_eq_true_eq,pq]at hd;obtain⟨h1,h2⟩:=hd;obtain⟨f,hf,e⟩:=List.mem_map.1 h2;have:=h f hf g hg;have hs:f.1.size=j:=by
  have:=congrArg ByteArray.size e;rw[ByteArray.size_extract]at this;omega
 unfold jJ at this;rw[hs,<-e,decide_eq_true hj,decide_eq_true h1]at this;simp at this
end
def slB:UX:=⟨#[47]⟩
noncomputable def vsE(g:Dig->UX->List Fl×Int)(p:List Itm)(pre:UX):List Ent->List Fl×Int
 | []=>([],0)
 | e::r =>
   if 100< (pre++e.nm).size then([],4)
   else if e.dir=true then
    (let s:=g e.dg (pre++e.nm++slB);if s.2=0 then(s.1++ (vsE g p pre r).1,(vsE g p pre r).2) else s)
   else match aG p e.dg with
    | none=>([],8)
    | some o=>if o.kind=1 then((pre++e.nm,o.data):: (vsE g p pre r).1,(vsE g p pre r).2) else([],9)
noncomputable def vis(p:List Itm):Nat->Dig->UX->List Fl×Int
 | 0,_,_=>([],4)
 | n+1,d,pre=>match aG p d with
   | none=>([],8)
   | some o=>if o.kind=2 then(if o.ents= []/\pre≠ ⟨#[]⟩ then([],1) else vsE (vis p n) p pre o.ents) else([],9)
theorem yj{g:Dig->UX->List Fl×Int}{p:List Itm}{pre:UX}{e:Ent}{r:List Ent}(h:100< (pre++e.nm).size):vsE g p pre (e::r)= ([],4):=by rw[vsE,if_pos h]
theorem yx{g:Dig->UX->List Fl×Int}{p:List Itm}{pre:UX}{e:Ent}{r:List Ent}(h:¬100< (pre++e.nm).size)(hd:e.dir=true){s:List Fl}(hs:g e.dg (pre++e.nm++slB)= (s,0)) :
  vsE g p pre (e::r)= (s++ (vsE g p pre r).1,(vsE g p pre r).2):=by rw[vsE,if_neg h,if_pos hd,hs];rfl
theorem yw{g:Dig->UX->List Fl×Int}{p:List Itm}{pre:UX}{e:Ent}{r:List Ent}(h:¬100< (pre++e.nm).size)(hd:e.dir=true){s:List Fl}{z:Int}(hz:z≠0)(hs:g e.dg (pre++e.nm++slB)= (s,z)) :
  vsE g p pre (e::r)= (s,z):=by rw[vsE,if_neg h,if_pos hd,hs];simp only[if_neg hz]
theorem wU{g:Dig->UX->List Fl×Int}{p:List Itm}{pre:UX}{e:Ent}{r:List Ent}(h:¬100< (pre++e.nm).size)(hd:e.dir=false)(hg:aG p e.dg=none) :
  vsE g p pre (e::r)= ([],8):=by rw[vsE,if_neg h,if_neg (by rw[hd];simp),hg]
theorem wW{g:Dig->UX->List Fl×Int}{p:List Itm}{pre:UX}{e:Ent}{r:List Ent}(h:¬100< (pre++e.nm).size)(hd:e.dir=false){o:Ob}(hg:aG p e.dg=some o)(hk:o.kind≠1) :
  vsE g p pre (e::r)= ([],9):=by rw[vsE,if_neg h,if_neg (by rw[hd];simp),hg];simp only[if_neg hk]
theorem wY{g:Dig->UX->List Fl×Int}{p:List Itm}{pre:UX}{e:Ent}{r:List Ent}(h:¬100< (pre++e.nm).size)(hd:e.dir=false){o:Ob}(hg:aG p e.dg=some o)(hk:o.kind=1) :
  vsE g p pre (e::r)= ((pre++e.nm,o.data):: (vsE g p pre r).1,(vsE g p pre r).2):=by rw[vsE,if_neg h,if_neg (by rw[hd];simp),hg];simp only[if_pos hk]
def VisAt(g:Dig->UX->List Fl×Int)(p:List Itm)(pre:UX)(es:List Ent)(j:Nat)(fs:List Fl):Prop:=vsE g p pre es= (fs++ (vsE g p pre (es.drop j)).1,(vsE g p pre (es.drop j)).2)
theorem VisAt.start(g:Dig->UX->List Fl×Int)(p:List Itm)(pre:UX)(es:List Ent):VisAt g p pre es 0 []:=rfl
theorem yI{α:Type}{l:List α}{j:Nat}{x:α}(h:l[j]? =some x):l.drop j=x::l.drop (j+1):=by
 obtain⟨hl,rfl⟩:=List.getElem?_eq_some_iff.1 h;exact List.drop_eq_getElem_cons hl
theorem VisAt.done{g:Dig->UX->List Fl×Int}{p:List Itm}{pre:UX}{es:List Ent}{j:Nat}{fs:List Fl}(h:VisAt g p pre es j fs)(hj:es.length<=j):vsE g p pre es= (fs,0):=by
 unfold VisAt at h;rw[List.drop_of_length_le hj]at h;rw[h];simp[vsE]
theorem VisAt.fail{g:Dig->UX->List Fl×Int}{p:List Itm}{pre:UX}{es:List Ent}{j:Nat}{fs gs:List Fl}{z:Int}{e:Ent}(h:VisAt g p pre es j fs)(hj:es[j]? =some e)(hz:vsE g p pre (e::es.drop (j+1))= (gs,z)):vsE g p pre es= (fs++gs,z):=by
 unfold VisAt at h;rw[yI hj,hz]at h;exact h
theorem VisAt.more{g:Dig->UX->List Fl×Int}{p:List Itm}{pre:UX}{es:List Ent}{j:Nat}{fs gs:List Fl}{e:Ent}(h:VisAt g p pre es j fs)(hj:es[j]? =some e)
  (hz:vsE g p pre (e::es.drop (j+1))= (gs++ (vsE g p pre (es.drop (j+1))).1,(vsE g p pre (es.drop (j+1))).2)):VisAt g p pre es (j+1) (fs++gs):=by
 unfold VisAt at h ⊢;rw[yI hj,hz]at h;rw[h,ZZ]
theorem P6{p:List Itm}{n:Nat}{d:Dig}{pre:UX}(h:aG p d=none):vis p (n+1) d pre= ([],8):=by rw[vis,h]
theorem Pm{p:List Itm}{n:Nat}{d:Dig}{pre:UX}{o:Ob}(h:aG p d=some o)(hk:o.kind≠2):vis p (n+1) d pre= ([],9):=by rw[vis,h];simp only[if_neg hk]
theorem NU{p:List Itm}{n:Nat}{d:Dig}{pre:UX}{o:Ob}(h:aG p d=some o)(hk:o.kind=2)(he:o.ents= [])(hp:pre≠ ⟨#[]⟩):vis p (n+1) d pre= ([],1):=by rw[vis,h];simp only[if_pos hk,if_pos (And.intro he hp)]
theorem PH{p:List Itm}{n:Nat}{d:Dig}{pre:UX}{o:Ob}(h:aG p d=some o)(hk:o.kind=2)(he:¬(o.ents= []/\pre≠ ⟨#[]⟩)):vis p (n+1) d pre=vsE (vis p n) p pre o.ents:=by rw[vis,h];simp only[if_pos hk,if_neg he]
noncomputable def iE(p:List Itm)(d:Dig):List Fl×Int:=vis p 102 d ⟨#[]⟩
def AscF(l:List Fl):Prop:=l.Pairwise (fun a b=>less a.1 b.1=true)
structure zn(p:List Itm)(d:Dig)(fs:List Fl):Prop where
 few: (iE p d).1.length<=200
 ok: (iE p d).2=0
 perm:fs.Perm (iE p d).1
 asc:AscF fs
def kP(p:List Itm)(d:Dig)(err:Int):Prop:=(200< (iE p d).1.length/\err=4)∨ ((iE p d).1.length<=200/\ (iE p d).2≠0/\err= (iE p d).2)
theorem AscF.tail{f:Fl}{l:List Fl}(h:AscF (f::l)):AscF l:=(List.pairwise_cons.1 h).2
theorem AscF.head{f g:Fl}{l:List Fl}(h:AscF (f::l))(hg:g∈l):less f.1 g.1=true:=(List.pairwise_cons.1 h).1 g hg
theorem nK(a b:UX):bl (a++b)=bl a++bl b:=by
 unfold bl;rw[ByteArray.data_append,Array.toList_append]
theorem yP{a b:UX}(h:bl a=bl b):a=b:=by rw[<-qi a,<-qi b,h]
theorem Ia:bl slB= [47]:=rfl
def nT(s:UX):Prop:=∀c∈bl s,c≠47
theorem Qq{c:UInt8}(h:lU c=true):c≠47:=by
 rintro rfl;revert h;decide
theorem NT{s:UX}(h:nameB s=true):nT s:=by
 unfold nameB iQ at h;simp only[Bool.and_eq_true,List.all_eq_true]at h;exact fun c hc=>Qq (h.2.2.2.2 c hc)
theorem xE{s:UX}(h:nameB s=true):1<=s.size/\s.size<=24:=by
 unfold nameB iQ at h;simp only[Bool.and_eq_true,decide_eq_true_eq]at h;rw[iZ];exact⟨h.1,h.2.1⟩
def Tl(r:List UInt8):Prop:=r= []∨∃r',r=47::r'
theorem CO{n r:List UInt8}(hn:∀c∈n,c≠47)(hr:Tl r): (n++r).takeWhile (fun c=>decide (c≠47))=n:=by
 induction n with
 | nil =>
   rcases hr with rfl | ⟨r',rfl⟩ <;> simp
 | cons c n ih =>
   rw[List.cons_append,List.takeWhile_cons_of_pos (by simp[hn c (by simp)]),ih (fun d hd=>hn d (by simp[hd]))]
theorem Ru{n m:UX}{r t:List UInt8}(hn:nT n)(hm:nT m)(hr:Tl r)(ht:Tl t)(h:bl n++r=bl m++t):n=m/\r=t:=by
 have h1:=CO hn hr;rw[h,CO hm ht]at h1;have e:=yP h1;subst e;exact⟨rfl,List.append_cancel_left h⟩
def Und(pre:UX)(fs:List Fl):Prop:=∀f∈fs,∃r,bl f.1=bl pre++r
theorem Ie{g:Dig->UX->List Fl×Int}{p:List Itm}{pre:UX}(hg:∀d q,Und q (g d q).1):∀{es:List Ent}{f:Fl},f∈ (vsE g p pre es).1->∃e∈es,∃r,Tl r/\bl f.1=bl pre++ (bl e.nm++r):=by
 intro es
 induction es with
 | nil=>intro f h;cases h
 | cons e es ih =>
   intro f h;have more:f∈ (vsE g p pre es).1->∃e'∈e::es,∃r,Tl r/\bl f.1=bl pre++ (bl e'.nm++r):=fun h=>by
    obtain⟨e',he,r,h1,h2⟩:=ih h;exact⟨e',List.mem_cons_of_mem _ he,r,h1,h2⟩
   have sub:f∈ (g e.dg (pre++e.nm++slB)).1->∃e'∈e::es,∃r,Tl r/\bl f.1=bl pre++ (bl e'.nm++r):=fun h=>by
    obtain⟨r,hr⟩:=hg _ _ f h;rw[nK,nK,Ia]at hr;exact⟨e,by simp,47::r,.inr ⟨r,rfl⟩,by rw[hr];simp⟩
   by_cases hf:100< (pre++e.nm).size
   . rw[yj hf]at h;cases h
   . cases hd:e.dir with
     | true =>
       by_cases hz: (g e.dg (pre++e.nm++slB)).2=0
       . rw[yx hf hd (s:=(g e.dg (pre++e.nm++slB)).1) (by rw[<-hz])]at h
         rcases List.mem_append.1 h with h | h
         . exact sub h
         . exact more h
       . rw[yw hf hd (s:=(g e.dg (pre++e.nm++slB)).1) hz rfl]at h
         exact sub h
     | false =>
       cases hp:aG p e.dg with
       | none=>rw[wU hf hd hp]at h;cases h
       | some o =>
         by_cases hk:o.kind=1
         . rw[wY hf hd hp hk]at h
           rcases List.mem_cons.1 h with rfl | h
           . exact⟨e,by simp,[],.inl rfl,by simp[nK]⟩
           . exact more h
         . rw[wW hf hd hp hk]at h;cases h
theorem RQ(p:List Itm):∀(n:Nat)(d:Dig)(pre:UX),Und pre (vis p n d pre).1:=by
 intro n
 induction n with
 | zero=>intro d pre f h;cases h
 | succ n ih =>
   intro d pre f h;rw[vis]at h;split at h
   . cases h
   . split at h
     . split at h
       . cases h
       . obtain⟨e,_,r,_,hr⟩:=Ie ih h
         exact⟨_,hr⟩
     . cases h
theorem MR{es:List Ent}(h:jV es):es.Pairwise (fun a b=>a.nm≠b.nm):=by
 have hp:es.Pairwise (fun a b=>less a.nm b.nm=true):=by
  rw[List.pairwise_iff_getElem];intro i j hi hj hij;have key:∀k,i+k+1<es.length->∀b,es[i+k+1]? =some b->less es[i].nm b.nm=true:=by
   intro k
   induction k with
   | zero=>intro hk b hb;exact h.asc i _ _ (Z5 hi) hb
   | succ k ih =>
     intro hk b hb;have h1:=ih (by omega) _ (Z5 (by omega));exact jZ h1 (h.asc (i+k+1) _ _ (Z5 (by omega)) (by rw[show i+k+1+1=i+ (k+1)+1 by omega];exact hb))
  exact key (j - i - 1) (by omega) _ (by rw[show i+ (j - i - 1)+1=j by omega];exact Z5 hj)
 exact hp.imp (fun h=>wX h)
theorem NP{g:Dig->UX->List Fl×Int}{p:List Itm}{pre:UX}(hg:∀d q,Und q (g d q).1)(hn:∀d q,((g d q).1.map Prod.fst).Nodup) :
  ∀{es:List Ent},es.Pairwise (fun a b=>a.nm≠b.nm)-> (∀e∈es,nT e.nm)-> ((vsE g p pre es).1.map Prod.fst).Nodup:=by
 intro es
 induction es with
 | nil=>intro _ _;exact List.nodup_nil
 | cons e es ih =>
   intro ha hs;have ha':=List.pairwise_cons.1 ha;have ih':=ih ha'.2 (fun e' he=>hs e' (by simp[he]));have far:∀f∈ (vsE g p pre es).1,∀r,Tl r->bl f.1≠bl pre++ (bl e.nm++r):=fun f hf r hr he=>by
    obtain⟨e',he',r',hr',h2⟩:=Ie hg hf;rw[h2]at he;have:=(Ru (hs e' (by simp[he'])) (hs e (by simp)) hr' hr (List.append_cancel_left he)).1;exact ha'.1 e' he' this.symm
   by_cases hf:100< (pre++e.nm).size
   . rw[yj hf];exact List.nodup_nil
   . cases hd:e.dir with
     | true =>
       by_cases hz: (g e.dg (pre++e.nm++slB)).2=0
       . rw[yx hf hd (s:=(g e.dg (pre++e.nm++slB)).1) (by rw[<-hz]),List.map_append,List.nodup_append]
         refine⟨hn _ _,ih',?_⟩;intro a ha b hb hab;obtain⟨f,hf1,rfl⟩:=List.mem_map.1 ha;obtain⟨f',hf2,rfl⟩:=List.mem_map.1 hb;obtain⟨r,hr⟩:=hg _ _ f hf1;rw[nK,nK,Ia]at hr;refine far f' hf2 (47::r) (.inr ⟨r,rfl⟩) ?_;rw[<-hab,hr];simp
       . rw[yw hf hd (s:=(g e.dg (pre++e.nm++slB)).1) hz rfl]
         exact hn _ _
     | false =>
       cases hp:aG p e.dg with
       | none=>rw[wU hf hd hp];exact List.nodup_nil
       | some o =>
         by_cases hk:o.kind=1
         . rw[wY hf hd hp hk,List.map_cons,List.nodup_cons]
           refine⟨fun hm=>?_,ih'⟩;obtain⟨f,hf1,he⟩:=List.mem_map.1 hm;exact far f hf1 [] (.inl rfl) (by rw[he];simp[nK])
         . rw[wW hf hd hp hk];exact List.nodup_nil
theorem EK{o:Ob}(h:OkO o)(hk:o.kind=2):jV o.ents:=by
 cases h.f with
 | blob k _ _ _=>rcases k with k | k <;> omega
 | tree _ _ _ e=>exact e
 | commit k _ _ _=>omega
theorem Oa{p:List Itm}(h:PlOk p):∀(n:Nat)(d:Dig)(pre:UX),((vis p n d pre).1.map Prod.fst).Nodup:=by
 intro n
 induction n with
 | zero=>intro d pre;exact List.nodup_nil
 | succ n ih =>
   intro d pre;rw[vis];split
   . exact List.nodup_nil
   . rename_i o ho
     split
     . rename_i hk
       split
       . exact List.nodup_nil
       . have hes:=EK (Gz h ho) hk
         exact NP (RQ p n) ih (MR hes) (fun e he=>NT (hes.all e he).nm)
     . exact List.nodup_nil
theorem NF{l:List Fl}(h:AscF l): (l.map Prod.fst).Nodup:=by
 unfold List.Nodup;rw[List.pairwise_map];exact List.Pairwise.imp (fun h=>wX h) h
section
variable {l out : List Fl} {f g : Fl} {i : Nat} {put : Bool}
end
section
variable {g : Dig -> UX -> List Fl × Int} {p : List Itm} {pre : UX} {es : List Ent} {l fs m : List Fl} {j : Nat} {e : Ent}
end
section
open Go.RowKit Go.Shelf
theorem Oj{l:List UInt8}{i:Nat}(h1:l[i]? =some 47)(h2:∀j,j<i->l[j]? ≠some 47):bZ l=i :=
 wu h2 (Nat.le_of_lt (List.getElem?_eq_some_iff.1 h1).1) (.inr h1)
theorem NH{l:List UInt8}(h:∀c∈l,c≠47):bZ l=l.length :=
 wu (fun _ _ e=>h 47 (Z7 e) rfl) aj (.inl rfl)
theorem KD(s:UX)(w:UW)(hs:s.size<=maxLen):Calls Tryz.prog 260 #[.string s,.string ⟨#[47]⟩] w (Il s w):=by
 have hs':s.size<=9223372036854775807:=by unfold maxLen at hs;exact hs
 have HX:=ai (Tryz.stringslite_Index_one s 47 w);by_cases hi:Lib.indexByte s.data.toList 47= -1
 . have HN:Hid (uB s s ⟨#[]⟩ false):=by
     have:bZ (bl s)=s.size:=NH (fun c hc e=>by
      obtain⟨j,hj,e'⟩:=List.getElem_of_mem hc;exact Lib.indexByte_none hi j (by rw[<-e,<-e'];exact Z5 _))
     exact .inr ⟨this,rfl,rfl,rfl⟩
   rw[hi]at HX;clear hi
   go_enter Tryz.func260,Tryz.ntmps260
   go_wp2_with fail;refine HX.o.mono ?_;rintro e w1 ⟨rfl,rfl⟩;go_wp2_with fail
   go_ret3
   exact⟨_,_,_,rfl,HN.o,ah _ _⟩
 . obtain⟨i,hi'⟩:∃i:Nat,Lib.indexByte s.data.toList 47=i:=⟨(Lib.indexByte s.data.toList 47).toNat,by have:=Lib.indexByte_ge s.data.toList 47;omega⟩
   obtain⟨h1,h2⟩:=Lib.indexByte_some hi';have hil:i<s.size:=by rw[iZ];exact(List.getElem?_eq_some_iff.1 h1).1
   have HN:Hid (uB s (s.extract 0 i) (s.extract (i+1) s.size) true):=by
    have e:bZ (bl s)=i:=Oj h1 h2;exact .inl ⟨by rw[e];exact hil,by rw[e],by rw[e],rfl⟩
   rw[hi']at HX;clear hi hi' h1 h2
   go_enter Tryz.func260,Tryz.ntmps260
   go_wp2_with fail;refine HX.o.mono ?_;rintro e w1 ⟨rfl,rfl⟩;have hi0: (0:Int)<= (i:Int):=by omega
   go_wp2_with fail
   go_quiet(fail)
   go_wp2_with fail
   go_ret3
   exact⟨_,_,_,rfl,HN.o,dm (ah _ _) _⟩
theorem RP(s:UX)(w:UW)(hs:s.size<=maxLen):Calls Tryz.prog 198 #[.string s,.string ⟨#[47]⟩] w (Il s w):=by
 have HX:=ai (KD s w hs)
 go_enter Tryz.func198,Tryz.ntmps198
 go_wp2_with fail;refine HX.o.mono ?_;rintro e w1 ⟨a,b,m,rfl,hc,hb⟩;have HC:=ai hc;have HB:=ai hb;clear hc hb;go_wp2_with fail
 go_ret3
 exact⟨_,_,_,rfl,HC.o,HB.o⟩
end
