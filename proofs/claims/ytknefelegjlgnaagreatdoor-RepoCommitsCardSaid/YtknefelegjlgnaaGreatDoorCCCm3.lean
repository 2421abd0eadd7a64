/-Lemmas.-/
import Derived.Test.YtknefelegjlgnaaGreatDoorCCCm2
set_option maxRecDepth 100000
set_option maxHeartbeats 4000000
namespace Go.Proofs.YtknefelegjlgnaaGreatDoor
open Go.RowKit
@[go_sem] theorem Vj : Tryz.prog.eqGuardType Tryz.prog.depth 50 = false := by kernel_rfl
theorem zC(dd:Nat)(a b c d:Int)(w:VA): (Op.equalIn (dd+2) 50 (.agg #[.int .u64 a,.int .u64 b]) (.agg #[.int .u64 c,.int .u64 d])).run Tryz.prog w= .ok (a == c && b == d) w:=by
 have u3:=Tryz.underlying48;have a3:=Tryz.isAgg48;have z3:=Tryz.sizeOf48;rw[Op.equalIn];simp only[Sem.run_bind,run_underlying Tryz.underlying50,Result.andThen_ok];simp only[Std.Legacy.Range.forIn_eq_forIn_range',Std.Legacy.Range.size,Nat.sub_zero,Nat.add_sub_cancel,Nat.div_one,List.range'_succ,List.range'_zero,List.forIn_cons,List.forIn_nil]
 go_simp
 by_cases h1:a=c <;> by_cases h2:b=d <;> simp[h1,h2]
@[go_sem high] theorem Vx (a b c d : Int) (w : VA) : (Op.equalIn 10000 50 (.agg #[.int .u64 a, .int .u64 b]) (.agg #[.int .u64 c, .int .u64 d])).run Tryz.prog w = .ok (a == c && b == d) w := zC 9998 a b c d w
def dg1(h b:Int):Int:=IntKind.u64.wrap (bits .xor .u64 h b*1099511628211)
def dg2(h b:Int):Int:=bits .xor .u64 (IntKind.u64.wrap (h*1099511628211)) b
def dgF(g:Int->Int->Int)(l:VD):Int:=l.foldl (fun h b=>g h (IntKind.u64.wrap (b.toNat:Int))) 14695981039346656037
def ofB(l:VD):Dig:=if dgF dg1 l=0/\dgF dg2 l=0 then(0,1) else(dgF dg1 l,dgF dg2 l)
theorem Fv(g:Int->Int->Int){l:VD}{k:Nat}(hk:k<l.length):dgF g (l.take (k+1))=g (dgF g (l.take k)) (IntKind.u64.wrap (l[k].toNat:Int)):=by
 unfold dgF;rw[aV (Z5 hk),List.foldl_append];rfl
theorem Rx(h b:Int)(w:VA):Calls Tryz.prog 209 #[.int .u64 h,.int .u64 b] w fun e w'=>e= .returned (.int .u64 (dg1 h b))/\w=w':=by
 go_enter Tryz.func209,Tryz.ntmps209
 go_wp2
 go_ret
 exact⟨rfl,rfl⟩
theorem RF(h b:Int)(w:VA):Calls Tryz.prog 210 #[.int .u64 h,.int .u64 b] w fun e w'=>e= .returned (.int .u64 (dg2 h b))/\w=w':=by
 go_enter Tryz.func210,Tryz.ntmps210
 go_wp2
 go_ret
 exact⟨rfl,rfl⟩
theorem Og(s:VB)(w:VA)(hs:s.size<=maxLen) :
  Calls Tryz.prog 208 #[.string s,.func (.func 209) #[] #[]] w fun e w'=>e= .returned (.int .u64 (dgF dg1 (toL s)))/\w=w':=by
 have hs':s.size<=9223372036854775807:=by unfold maxLen at hs;exact hs
 go_enter Tryz.func208,Tryz.ntmps208
 go_wp2
 go_loop[5,9] (fun q5 q9=>∃k:Nat,k<=s.size/\q9= .int .i64 k/\q5= .int .u64 (dgF dg1 ((toL s).take k))) (fun _ q9=>s.size - (intOf q9).toNat)
 case atStart=>exact⟨0,ZX _,rfl,rfl⟩
 case round =>
  obtain⟨k,hk,rfl,rfl⟩:=hrel;by_cases hlt:k<s.size
  . have hlz: (k:Int)< (s.size:Int):=by omega
    have hkl:k< (toL s).length:=by rw[<-aQ];exact hlt
    have HN:Hid (dgF dg1 ((toL s).take (k+1))=dg1 (dgF dg1 ((toL s).take k)) (IntKind.u64.wrap (s[k].toNat:Int))):=Fv dg1 hkl;generalize dgF dg1 ((toL s).take k)=h0 at *;go_wp2_with fail;refine(Rx _ _ _).mono ?_;rintro e w1 ⟨rfl,rfl⟩;go_wp2_with fail
    go_round
    case rel=>exact⟨k+1,by omega,by go_num,by rw[HN.o];rfl⟩
    case measure=>simp[intOf];omega
  . have hlz:¬(k:Int)< (s.size:Int):=by omega
    have HE:Hid ((toL s).take k=toL s):=ZU (by rw[<-aQ];omega);go_wp2_with fail;go_ret
    exact⟨by rw[HE.o];rfl,rfl⟩
theorem OJ(s:VB)(w:VA)(hs:s.size<=maxLen) :
  Calls Tryz.prog 208 #[.string s,.func (.func 210) #[] #[]] w fun e w'=>e= .returned (.int .u64 (dgF dg2 (toL s)))/\w=w':=by
 have hs':s.size<=9223372036854775807:=by unfold maxLen at hs;exact hs
 go_enter Tryz.func208,Tryz.ntmps208
 go_wp2
 go_loop[5,9] (fun q5 q9=>∃k:Nat,k<=s.size/\q9= .int .i64 k/\q5= .int .u64 (dgF dg2 ((toL s).take k))) (fun _ q9=>s.size - (intOf q9).toNat)
 case atStart=>exact⟨0,ZX _,rfl,rfl⟩
 case round =>
  obtain⟨k,hk,rfl,rfl⟩:=hrel;by_cases hlt:k<s.size
  . have hlz: (k:Int)< (s.size:Int):=by omega
    have hkl:k< (toL s).length:=by rw[<-aQ];exact hlt
    have HN:Hid (dgF dg2 ((toL s).take (k+1))=dg2 (dgF dg2 ((toL s).take k)) (IntKind.u64.wrap (s[k].toNat:Int))):=Fv dg2 hkl;generalize dgF dg2 ((toL s).take k)=h0 at *;go_wp2_with fail;refine(RF _ _ _).mono ?_;rintro e w1 ⟨rfl,rfl⟩;go_wp2_with fail
    go_round
    case rel=>exact⟨k+1,by omega,by go_num,by rw[HN.o];rfl⟩
    case measure=>simp[intOf];omega
  . have hlz:¬(k:Int)< (s.size:Int):=by omega
    have HE:Hid ((toL s).take k=toL s):=ZU (by rw[<-aQ];omega);go_wp2_with fail;go_ret
    exact⟨by rw[HE.o];rfl,rfl⟩
theorem sJ{fn:Func}{c:Tmp}(h:fn.results= #[.cell c 50]){w:VA}{a:Array VC}{b:Nat}{x y:VC}(ha:a[c]?.getD undef= .pointer (some ⟨b,0,none⟩))(hk:Bk w b 50 #[x,y]) :
  (results fn a).run Tryz.prog w= .ok (.agg #[x,y]) w:=by
 have h0:=hk.cell 0;have h1:=hk.cell 1;simp at h0 h1;simp[results,h,ha,go_sem,h0,h1]
def az(d:Dig):VC:= .agg #[.int .u64 d.1,.int .u64 d.2]
def og(s:VB)(w:VA)(e:Ending)(w':VA):Prop:=e= .returned (az (ofB (toL s)))/\VE w w'
theorem uC(s:VB)(w:VA)(hs:s.size<=maxLen):Calls Tryz.prog 126 #[.string s] w (og s w):=by
 have HE:Hid (ofB (toL s)=if dgF dg1 (toL s)=0/\dgF dg2 (toL s)=0 then(0,1) else(dgF dg1 (toL s),dgF dg2 (toL s))):=rfl;have H1:=ai (Og s (w.alloc (.cells #[.int .u64 0,.int .u64 0] 50)) hs);have H2:=ai (OJ s (w.alloc (.cells #[.int .u64 0,.int .u64 0] 50)) hs);have HV:Hid (∀q,ofB (toL s)=q->∀e w',e=Ending.returned (az q)->VE w w'->og s w e w'):=fun q h e w' h1 h2=>by subst h;exact⟨h1,h2⟩
 generalize dgF dg1 (toL s)=x at *;generalize dgF dg2 (toL s)=y at *
 go_enter Tryz.func126,Tryz.ntmps126
 go_wp2_with fail;refine H1.o.mono ?_;rintro e w1 ⟨rfl,rfl⟩;go_wp2_with fail;refine H2.o.mono ?_;rintro e w1 ⟨rfl,rfl⟩;obtain⟨W,hW⟩:=NX9 ((w.alloc (.cells #[.int .u64 0,.int .u64 0] 50)).alloc (.cells #[.int .u64 x,.int .u64 y] 50))
 have K0:Hid (Bk W w.heap.size 50 #[.int .u64 0,.int .u64 0]):=by rw[<-hW];exact(Bk.new w _ _).alloc _
 have K1:Hid (Bk W (w.heap.size+1) 50 #[.int .u64 x,.int .u64 y]):=by
  rw[<-hW];have:=Bk.new (w.alloc (.cells #[.int .u64 0,.int .u64 0] 50)) 50 #[.int .u64 x,.int .u64 y];rw[Z9]at this;exact this
 have HB:VF w W:=by rw[<-hW];exact((ah _ w).alloc aj _).alloc (by simp) _
 have u0:=K0.o.cell 0;have u1:=K0.o.cell 1;have v0:=K1.o.cell 0;have v1:=K1.o.cell 1;simp at u0 u1 v0 v1;have f0:=K0.o.free 0;have f1:=K0.o.free 1;have g1:=K1.o.free 1;clear H1 H2;by_cases hz:x=0/\y=0
 . have hb: (x == 0 && y == 0)=true:=by simp[hz]
   have HQ:Hid (ofB (toL s)= (x,1)):=by show _=_;rw[HE.o,if_pos hz,hz.1]
   clear hz;have W2:Hid (Bk (W.setCell ⟨w.heap.size+1,1,none⟩ (.int .u64 1)) (w.heap.size+1) 50 #[.int .u64 x,.int .u64 1]):=by
    have:=K1.o.set 1 (.int .u64 1);show Bk _ _ _ _;simpa using this
   have a:Hid (Bk (W.setCell ⟨w.heap.size+1,1,none⟩ (.int .u64 1)) w.heap.size 50 #[.int .u64 0,.int .u64 0]):=K0.o.far (by simp) _;have a0:=W2.o.cell 0;have a1:=W2.o.cell 1;have b0:=a.o.cell 0;have b1:=a.o.cell 1;simp at a0 a1 b0 b1;have d0:=a.o.free 0;have d1:=a.o.free 1;clear HE;go_wp2_with fail;refine ZW (sJ Tryz.results126 rfl (a.o.set2 _ _)) rfl ?_;exact HV.o _ HQ.o _ _ rfl (eX (HB.o.setCell (p:=⟨w.heap.size+1,1,none⟩) (by simp) _) aj _ _)
 . have hb: (x == 0 && y == 0)=false:=by
     rw[Bool.eq_false_iff];intro h;simp at h;exact hz h
   have HQ:Hid (ofB (toL s)= (x,y)):=by show _=_;rw[HE.o,if_neg hz]
   clear hz HE;go_wp2_with fail;refine ZW (sJ Tryz.results126 rfl (K0.o.set2 _ _)) rfl ?_;exact HV.o _ HQ.o _ _ rfl (eX HB.o aj _ _)
section
open Go.Maps
abbrev Rf:=VB×Dig
abbrev Upd:=VB×Dig×Dig
def upC(u:Upd):List VC:= [.string u.1,.int .u64 u.2.1.1,.int .u64 u.2.1.2,.int .u64 u.2.2.1,.int .u64 u.2.2.2]
def rfC(r:Rf):List VC:= [.string r.1,.int .u64 r.2.1,.int .u64 r.2.2]
theorem gz(u:Upd): (upC u).length=5:=rfl
theorem jg(r:Rf): (rfC r).length=3:=rfl
def Jm(u:Upd):VC:= .agg #[.string u.1,.int .u64 u.2.1.1,.int .u64 u.2.1.2,.int .u64 u.2.2.1,.int .u64 u.2.2.2]
def dB:List Rf->VB->Dig
 | [],_=>(0,0)
 | r::l,s=>if r.1=s then r.2 else dB l s
def bZ:List Rf->VB->Dig->List Rf
 | [],s,d=>if d= (0,0) then [] else [(s,d)]
 | r::l,s,d=>if less r.1 s then r::bZ l s d else(if d= (0,0) then [] else [(s,d)])++ (if r.1=s then l else r::l)
def dI(u:Upd):Int:=if dh u.1 then(if u.2.1=u.2.2 then 1 else 0) else 6
def bM(l:List Rf)(u:Upd):Int:=if dI u≠0 then dI u else if dB l u.1≠u.2.1 then 17 else 0
def aP:List Rf->List Upd->List Rf×Int
 | l,[]=>(l,0)
 | l,u::us=>if bM l u≠0 then(l,bM l u) else aP (bZ l u.1 u.2.2) us
def bu(rs:List Rf)(log:List Upd):Int :=
 if 1000<log.length then 4 else if(aP [] log).2≠0 then(aP [] log).2 else if(aP [] log).1=rs then 0 else 11
def dR:List Rf->List Upd->List Upd->List Rf×List Upd×Int
 | l,log,[]=>(l,log,0)
 | l,log,u::us=>if bM l u≠0 then([],[],bM l u) else if 1000<=log.length then([],[],4) else dR (bZ l u.1 u.2.2) (log++ [u]) us
def di(rs:List Rf)(log us:List Upd):List Rf×List Upd×Int :=
 if bu rs log≠0 then([],[],bu rs log) else dR rs log us
/-! ### maps that hold refs -/
def fJ(l:List Rf):Prop:=l.Pairwise (fun a b=>less a.1 b.1=true)
theorem Un{r:Rf}{l:List Rf}{s:VB}(h:fJ (r::l))(hs:less r.1 s=false):∀q∈l,q.1≠s:=by
 intro q hq e;have:=(List.pairwise_cons.1 h).1 q hq;rw[e,hs]at this;cases this
theorem NF{l:List Rf}(h:fJ l){r:Rf}(hr:r∈l):dB l r.1=r.2:=by
 induction l with
 | nil=>cases hr
 | cons q l ih =>
   have hc:=List.pairwise_cons.1 h;rcases List.mem_cons.1 hr with rfl | hr
   . simp[dB]
   . have:q.1≠r.1:=by
       intro e;have:=hc.1 r hr;rw[e]at this;unfold less at this;rw[rG]at this;cases this
     simp[dB,this,ih hc.2 hr]
def gV(l:List Rf)(log:List Upd)(u:Upd):List Rf×List Upd×Int :=
 if bM l u≠0 then([],[],bM l u) else if 1000<=log.length then([],[],4) else(bZ l u.1 u.2.2,log++ [u],0)
theorem jv{rs:List Rf}{log:List Upd}(h:bu rs log=0):log.length<=1000:=by
 unfold bu at h;by_cases hb:1000<log.length
 . rw[if_pos hb]at h;cases h
 . omega
theorem rM(l:List Rf)(log:List Upd)(u:Upd)(us:List Upd):dR l log (u::us)=if(gV l log u).2.2≠0 then([],[],(gV l log u).2.2) else dR (gV l log u).1 (gV l log u).2.1 us:=by
 rw[dR];unfold gV;by_cases h1:bM l u≠0
 . rw[if_pos h1,if_pos h1,if_pos h1]
 . rw[if_neg h1,if_neg h1]
   by_cases h2:1000<=log.length
   . rw[if_pos h2,if_pos h2,if_pos (by simp)]
   . rw[if_neg h2,if_neg h2,if_neg (by simp)]
theorem QN{l:List Rf}{s:VB}{d:Dig}:∀{q:Rf},q∈bZ l s d->q= (s,d)∨q∈l:=by
 induction l with
 | nil =>
   intro q hq;simp only[bZ]at hq;by_cases hd:d= (0,0)
   . rw[if_pos hd]at hq;cases hq
   . rw[if_neg hd]at hq;exact .inl (List.mem_singleton.1 hq)
 | cons r l ih =>
   intro q hq;simp only[bZ]at hq;by_cases hl:less r.1 s=true
   . rw[if_pos hl]at hq
     rcases List.mem_cons.1 hq with rfl | hq
     . exact .inr (by simp)
     . rcases ih hq with h | h
       . exact .inl h
       . exact .inr (List.mem_cons_of_mem _ h)
   . rw[if_neg hl]at hq
     rcases List.mem_append.1 hq with hq | hq
     . by_cases hd:d= (0,0)
       . rw[if_pos hd]at hq;cases hq
       . rw[if_neg hd]at hq;exact .inl (List.mem_singleton.1 hq)
     . by_cases e:r.1=s
       . rw[if_pos e]at hq;exact .inr (List.mem_cons_of_mem _ hq)
       . rw[if_neg e]at hq;exact .inr hq
theorem yc{l:List Rf}(s:VB)(d:Dig)(h:fJ l):fJ (bZ l s d):=by
 induction l with
 | nil =>
   simp only[bZ];by_cases hd:d= (0,0)
   . rw[if_pos hd];exact List.Pairwise.nil
   . rw[if_neg hd];exact List.pairwise_singleton _ _
 | cons r l ih =>
   have hc:=List.pairwise_cons.1 h;simp only[bZ];by_cases hl:less r.1 s=true
   . rw[if_pos hl]
     refine List.pairwise_cons.2 ⟨fun q hq=>?_,ih hc.2⟩;rcases QN hq with rfl | hq
     . exact hl
     . exact hc.1 q hq
   . rw[if_neg hl]
     have hl':less r.1 s=false:=by simpa using hl
     have key:∀q,(fJ q)-> (∀x∈q,less s x.1=true)->fJ ((if d= (0,0) then [] else [(s,d)])++q):=by
      intro q hq hx;by_cases hd:d= (0,0)
      . rw[if_pos hd];exact hq
      . rw[if_neg hd];exact List.pairwise_cons.2 ⟨hx,hq⟩
     by_cases e:r.1=s
     . rw[if_pos e]
       exact key l hc.2 (fun x hx=>by have:=hc.1 x hx;rwa[e]at this)
     . rw[if_neg e]
       have a:less s r.1=true:=by
        cases hx:less s r.1 with
        | true=>rfl
        | false=>exact absurd (iR (wZ _ _ hl' hx)) e
       refine key (r::l) h (fun x hx=>?_);rcases List.mem_cons.1 hx with rfl | hx
       . exact a
       . exact wB _ _ _ a (hc.1 x hx)
theorem xY:∀(us:List Upd)(l:List Rf),fJ l->fJ (aP l us).1
 | [],_,h=>h
 | u::us,l,h=>by
   rw[aP];by_cases he:bM l u≠0
   . rw[if_pos he];exact h
   . rw[if_neg he];exact xY us _ (yc _ _ h)
def stepG(l:List Rf)(u:Upd):List Rf×Int:=if bM l u≠0 then(l,bM l u) else(bZ l u.1 u.2.2,0)
theorem OX(l:List Rf)(u:Upd)(us:List Upd):aP l (u::us)=if(stepG l u).2≠0 then stepG l u else aP (stepG l u).1 us:=by
 rw[aP];unfold stepG;by_cases h:bM l u≠0
 . rw[if_pos h,if_pos h,if_pos h]
 . rw[if_neg h,if_neg h,if_neg (by simp)]
theorem Dl{l:List Rf}{u:Upd}(h:fJ l):fJ (stepG l u).1:=by
 unfold stepG;by_cases he:bM l u≠0
 . rw[if_pos he];exact h
 . rw[if_neg he];exact yc _ _ h
def OkR(l:List Rf):Prop:=fJ l/\∀r∈l,r.2≠ (0,0)
theorem OkR.nil:OkR []:=⟨List.Pairwise.nil,fun r h=>by cases h⟩
theorem OkR.set{l:List Rf}(h:OkR l)(s:VB)(d:Dig):OkR (bZ l s d):=by
 refine⟨yc s d h.1,?_⟩;have key:∀l:List Rf,(∀r∈l,r.2≠ (0,0))->∀q∈bZ l s d,q.2≠ (0,0):=by
  intro l
  induction l with
  | nil =>
    intro _ q hq;simp only[bZ]at hq;by_cases hd:d= (0,0)
    . rw[if_pos hd]at hq;cases hq
    . rw[if_neg hd]at hq;rw[List.mem_singleton.1 hq];exact hd
  | cons r l ih =>
    intro hl q hq;simp only[bZ]at hq;by_cases hlt:less r.1 s=true
    . rw[if_pos hlt]at hq
      rcases List.mem_cons.1 hq with rfl | hq
      . exact hl _ (by simp)
      . exact ih (fun x hx=>hl x (List.mem_cons_of_mem _ hx)) q hq
    . rw[if_neg hlt]at hq
      rcases List.mem_append.1 hq with hq | hq
      . by_cases hd:d= (0,0)
        . rw[if_pos hd]at hq;cases hq
        . rw[if_neg hd]at hq;rw[List.mem_singleton.1 hq];exact hd
      . by_cases e:r.1=s
        . rw[if_pos e]at hq;exact hl q (List.mem_cons_of_mem _ hq)
        . rw[if_neg e]at hq;exact hl q hq
 exact key l h.2
theorem Gy:∀(us:List Upd){l:List Rf},OkR l->OkR (aP l us).1
 | [],_,h=>h
 | u::us,l,h=>by
   rw[aP];by_cases he:bM l u≠0
   . rw[if_pos he];exact h
   . rw[if_neg he];exact Gy us (h.set _ _)
theorem ql{rs:List Rf}{log:List Upd}(h:log.length<=1000):bu rs log=0↔aP [] log= (rs,0):=by
 unfold bu;rw[if_neg (by omega)];constructor
 . intro hh
   by_cases h2: (aP [] log).2≠0
   . rw[if_pos h2]at hh;exact absurd hh h2
   . rw[if_neg h2]at hh
     by_cases h3: (aP [] log).1=rs
     . exact Prod.ext h3 (by simpa using h2)
     . rw[if_neg h3]at hh;cases hh
 . intro hh
   rw[hh];simp
theorem Ud{rs:List Rf}{log:List Upd}(h:bu rs log=0):OkR rs:=by
 have:=(ql (jv h)).1 h;have h1:=Gy log OkR.nil;rw[this]at h1;exact h1
theorem Gz{rs:List Rf}{log:List Upd}(h:bu rs log=0):fJ rs:=by
 unfold bu at h;by_cases h1:1000<log.length
 . rw[if_pos h1]at h;cases h
 . rw[if_neg h1]at h
   by_cases h2: (aP [] log).2≠0
   . rw[if_pos h2]at h;exact absurd h h2
   . rw[if_neg h2]at h
     by_cases h3: (aP [] log).1=rs
     . rw[<-h3];exact xY log [] List.Pairwise.nil
     . rw[if_neg h3]at h;cases h
def fZ(l:List Rf)(s:VB):Option Rf:=l.find? (fun r=>decide (r.1=s))
def gL(l:List Rf)(s:VB):Option VC:=(fZ l s).map (fun r=>az r.2)
theorem wV(l:List Rf)(s:VB):dB l s= ((fZ l s).map Prod.snd).getD (0,0):=by
 unfold fZ
 induction l with
 | nil=>rfl
 | cons r l ih =>
   rw[List.find?_cons];by_cases e:r.1=s
   . simp[dB,e]
   . simpa [dB,e] using ih
theorem LK{l:List Rf}{s:VB}(h:∀q∈l,q.1≠s):fZ l s=none:=by
 unfold fZ;rw[List.find?_eq_none];intro q hq;simpa using h q hq
theorem wR{l:List Rf}(s:VB)(d:Dig)(h:fJ l)(t:VB):fZ (bZ l s d) t=if t=s then(if d= (0,0) then none else some (s,d)) else fZ l t:=by
 induction l with
 | nil =>
   simp only[bZ];split
   . simp[fZ]
   . by_cases e:t=s
     . subst e;simp[fZ]
     . rw[if_neg e];simp[fZ,Ne.symm e]
 | cons r l ih =>
   have hc:=List.pairwise_cons.1 h;simp only[bZ];have cons:∀(x:Rf)(m:List Rf),fZ (x::m) t=if x.1=t then some x else fZ m t:=fun x m=>by
    unfold fZ;rw[List.find?_cons];by_cases e:x.1=t <;> simp[e]
   by_cases hl:less r.1 s=true
   . rw[if_pos hl,cons,cons,ih hc.2]
     by_cases e:t=s
     . have:r.1≠t:=by
         intro e2;rw[e2,e]at hl;unfold less at hl;rw[rG]at hl;cases hl
       rw[if_neg this,if_pos e,if_pos e]
     . rw[if_neg e,if_neg e]
   . have hl':less r.1 s=false:=by simpa using hl
     rw[if_neg hl];have hn:fZ l s=none:=LK (Un h hl');have tail:fZ (if r.1=s then l else r::l) t=if t=s then none else fZ (r::l) t:=by
      by_cases e:t=s
      . subst e
        rw[if_pos rfl];by_cases e2:r.1=t
        . rw[if_pos e2];exact hn
        . rw[if_neg e2,cons,if_neg e2];exact hn
      . rw[if_neg e]
        by_cases e2:r.1=s
        . rw[if_pos e2,cons,if_neg (by rw[e2];exact Ne.symm e)]
        . rw[if_neg e2]
     by_cases hd:d= (0,0)
     . rw[if_pos hd,if_pos hd,List.nil_append,tail]
     . rw[if_neg hd,if_neg hd,List.singleton_append,cons,tail]
       by_cases e:t=s
       . subst e;simp
       . rw[if_neg (Ne.symm e),if_neg e,if_neg e]
theorem Ug{l:List Rf}(s:VB)(h:fJ l):rmv (gL l) s=gL (bZ l s (0,0)):=by
 funext t
 unfold rmv gL;rw[wR s _ h];by_cases e:t=s <;> simp[e]
theorem Uk{l:List Rf}(s:VB){d:Dig}(hd:d≠ (0,0))(h:fJ l):upd (gL l) s (az d)=gL (bZ l s d):=by
 funext t
 unfold upd gL;rw[wR s _ h];by_cases e:t=s <;> simp[e,hd]
theorem GX(l:List Rf)(s:VB): (gL l s).getD (az (0,0))=az (dB l s):=by
 rw[wV];unfold gL;cases fZ l s <;> rfl
theorem Gi(l:List Rf)(s:VB): (gL l s).isSome=true↔s∈l.map Prod.fst:=by
 unfold gL fZ;rw[Option.isSome_map,List.find?_isSome];simp[List.mem_map]
end
section
open Go.Maps
def WfU(u:Upd):Prop:=WfD u.2.1/\WfD u.2.2
def gW(u:Upd):VD:=ax (toL u.1)++ay u.2.1++ay u.2.2
def rdU(l:VD):Option (Upd×VD) :=
 if(aK l).2.2≠0∨l.length< (aK l).2.1+32 then none else some ((ofL (aK l).1,dg (l.drop (aK l).2.1),dg (l.drop ((aK l).2.1+16))),l.drop ((aK l).2.1+32))
theorem SQ{u:Upd}(h:u.1.size<=65536)(hw:WfU u)(r:VD):rdU (gW u++r)=some (u,r):=by
 have hg:=pJ (t:=toL u.1) (by rw[<-aQ];exact h) (ay u.2.1++ (ay u.2.2++r));have e:gW u++r=ax (toL u.1)++ (ay u.2.1++ (ay u.2.2++r)):=by simp[gW]
 have d1: (ax (toL u.1)++ (ay u.2.1++ (ay u.2.2++r))).drop (ax (toL u.1)).length=ay u.2.1++ (ay u.2.2++r):=List.drop_left;have d2: (ax (toL u.1)++ (ay u.2.1++ (ay u.2.2++r))).drop ((ax (toL u.1)).length+16)=ay u.2.2++r:=by
  rw[<-List.drop_drop,d1,List.drop_left' (iE _)]
 have d3: (ax (toL u.1)++ (ay u.2.1++ (ay u.2.2++r))).drop ((ax (toL u.1)).length+32)=r:=by
  rw[show(ax (toL u.1)).length+32= (ax (toL u.1)).length+16+16 from rfl,<-List.drop_drop,d2,List.drop_left' (iE _)]
 unfold rdU;rw[e,hg];simp only[ne_eq,not_true,false_or];rw[if_neg (by simp[iE];omega),d1,d2,d3,qh hw.1,qh hw.2,jd]
def bP(us:List Upd):VD:=us.flatMap gW
def rdL:Nat->VD->Option (List Upd×VD)
 | 0,l=>some ([],l)
 | n+1,l=>match rdU l with
   | none=>none
   | some (u,r)=>match rdL n r with
     | none=>none
     | some (us,q)=>some (u::us,q)
theorem Gw:∀(us:List Upd)(r:VD),(∀u∈us,u.1.size<=65536/\WfU u)->rdL us.length (bP us++r)=some (us,r)
 | [],r,_=>rfl
 | u::us,r,h=>by
   have h1:=SQ (h u (by simp)).1 (h u (by simp)).2 (bP us++r);have h2:=Gw us r (fun v hv=>h v (by simp[hv]));have e:bP (u::us)++r=gW u++ (bP us++r):=by simp[bP]
   rw[e,Z4,rdL,h1];simp only[h2]
def dM:List Upd->Int
 | []=>0
 | u::us=>if dI u≠0 then dI u else dM us
def encR(us:List Upd):VD×Int:=if 1000<us.length then([],4) else if dM us≠0 then([],dM us) else(ak us.length++bP us,0)
def fin(acc:List Upd):Option (List Upd×VD)->List Upd×Int
 | none=>([],13)
 | some (us,r)=>if r= []/\dM us=0 then(acc++us,0) else([],13)
def eQ(l:VD):List Upd×Int:=if(aA l).2.2≠0∨1000< (aA l).1 then([],13) else fin [] (rdL (aA l).1 (l.drop (aA l).2.1))
theorem wM:∀(us:List Upd),dM us=0↔∀u∈us,dI u=0
 | []=>by simp[dM]
 | u::us=>by
   rw[dM];by_cases h:dI u=0
   . simp[h,wM us]
   . simp[h]
theorem SB{us:List Upd}(hl:us.length<=1000)(he:dM us=0)(hs:∀u∈us,u.1.size<=65536/\WfU u):eQ (ak us.length++bP us)= (us,0):=by
 have hg:=kL (m:=us.length) (by omega) (bP us);have hr:=Gw us [] hs;rw[List.append_nil]at hr;unfold eQ;rw[hg];simp only[ne_eq,not_true,false_or];rw[if_neg (by omega),List.drop_left,hr];simp[fin,he]
end
structure Ent where
 nm:VB
 dir:Bool
 dg:Dig
structure Ob where
 kind:Int
 data:VB
 ents:List Ent
 tree:Dig
 pars:List Dig
 auth:VB
 time:Int
 msg:VB
def zD:Dig:=(0,0)
theorem l7:WfD zD:=⟨by decide,by decide,by decide,by decide⟩
def aU(e:Ent):VD:=ax (toL e.nm)++ (ak (if e.dir=true then 1 else 0)++ay e.dg)
def gX(o:Ob):VD :=
 if o.kind=2 then ak o.ents.length++o.ents.flatMap aU
 else if o.kind=3 then ay o.tree++ (ak o.pars.length++ (o.pars.flatMap ay++ (ax (toL o.auth)++ (ak o.time.toNat++ax (toL o.msg)))))
 else ax (toL o.data)
def aI(o:Ob):VD:=ak o.kind.toNat++gX o
structure jh(e:Ent):Prop where
 nm:nameB e.nm=true
 dg:WfD e.dg
 nz:e.dg≠zD
structure jU(l:List Ent):Prop where
 few:l.length<=200
 all:∀e∈l,jh e
 asc:∀(j:Nat) a b,l[j]? =some a->l[j+1]? =some b->less a.nm b.nm=true
structure Ae(l:List Dig):Prop where
 few:l.length<=8
 wf:∀d∈l,WfD d
 nz:∀d∈l,d≠zD
 nod:l.Nodup
structure NoC(o:Ob):Prop where
 tree:o.tree=zD
 pars:o.pars= []
 auth:o.auth= ⟨#[]⟩
 time:o.time=0
 msg:o.msg= ⟨#[]⟩
structure OkC(o:Ob):Prop where
 wf:WfD o.tree
 nz:o.tree≠zD
 pars:Ae o.pars
 auth:nameB o.auth=true
 t0:0<=o.time
 t1:o.time<=1099511627776
 msg:o.msg.size<=200
inductive OkF(o:Ob):Prop
 | blob (k:o.kind=1∨o.kind=4) (e:o.ents= []) (c:NoC o) (d:o.data.size<=65536)
 | tree (k:o.kind=2) (d:o.data= ⟨#[]⟩) (c:NoC o) (e:jU o.ents)
 | commit (k:o.kind=3) (d:o.data= ⟨#[]⟩) (e:o.ents= []) (c:OkC o)
structure OkO(o:Ob):Prop where
 f:OkF o
 len: (aI o).length<=65536
theorem pO{a b:Nat}{r t:VD}(h:ak a++r=ak b++t)(ha:a<=1099511627776)(hb:b<=1099511627776):a=b/\r=t:=by
 have h1:=kL ha r;rw[h,kL hb t]at h1;simp only[Prod.mk.injEq]at h1;obtain⟨rfl,_,_⟩:=h1;exact⟨rfl,List.append_cancel_left h⟩
theorem sV{a b:VD}{r t:VD}(h:ax a++r=ax b++t)(ha:a.length<=65536)(hb:b.length<=65536):a=b/\r=t:=by
 have h1:=pJ ha r;rw[h,pJ hb t]at h1;simp only[Prod.mk.injEq]at h1;obtain⟨rfl,_,_⟩:=h1;exact⟨rfl,List.append_cancel_left h⟩
theorem xy{a b:Dig}{r t:VD}(h:ay a++r=ay b++t)(ha:WfD a)(hb:WfD b):a=b/\r=t:=by
 have h1:=qh ha r;rw[h,qh hb t]at h1;subst h1;exact⟨rfl,List.append_cancel_left h⟩
theorem nP{a b:VB}(h:toL a=toL b):a=b:=by rw[<-jd a,<-jd b,h]
theorem iZ{s:VB}(h:nameB s=true):s.size<=24:=by
 unfold nameB iV at h;rw[Bool.and_eq_true,Bool.and_eq_true,decide_eq_true_eq,decide_eq_true_eq]at h;have e: (bl s).length=s.size:=rfl;have:=h.2.1;rw[e]at this;exact this
theorem QO{a b:Ent}{r t:VD}(h:aU a++r=aU b++t)(ha:jh a)(hb:jh b):a=b/\r=t:=by
 unfold aU at h;simp only[ZZ]at h;have sa:=iZ ha.nm;have sb:=iZ hb.nm;rw[aQ]at sa sb;obtain⟨h1,h⟩:=sV h (by omega) (by omega);obtain⟨h2,h⟩:=pO h (by split <;> omega) (by split <;> omega);obtain⟨h3,h⟩:=xy h ha.dg hb.dg;refine⟨?_,h⟩;obtain⟨an,ad,c⟩:=a;obtain⟨d,bd,e⟩:=b;simp only at h1 h2 h3;have:=nP h1;subst this h3;cases ad <;> cases bd <;> simp at h2 <;> rfl
theorem DU:∀{l m:List Ent}{r t:VD},l.flatMap aU++r=m.flatMap aU++t->l.length=m.length-> (∀e∈l,jh e)-> (∀e∈m,jh e)->l=m/\r=t
 | [],[],r,t,h,_,_,_=>⟨rfl,by simpa using h⟩
 | [],b::m,r,t,_,hl,_,_=>by cases hl
 | a::l,[],r,t,_,hl,_,_=>by cases hl
 | a::l,b::m,r,t,h,hl,h1,h2=>by
   rw[List.flatMap_cons,List.flatMap_cons,ZZ,ZZ]at h;obtain⟨rfl,h'⟩:=QO h (h1 a (by simp)) (h2 b (by simp));obtain⟨rfl,h''⟩:=DU h' (by simpa using hl) (fun e he=>h1 e (by simp[he])) (fun e he=>h2 e (by simp[he]));exact⟨rfl,h''⟩
theorem Dx:∀{l m:List Dig}{r t:VD},l.flatMap ay++r=m.flatMap ay++t->l.length=m.length-> (∀e∈l,WfD e)-> (∀e∈m,WfD e)->l=m/\r=t
 | [],[],r,t,h,_,_,_=>⟨rfl,by simpa using h⟩
 | [],b::m,r,t,_,hl,_,_=>by cases hl
 | a::l,[],r,t,_,hl,_,_=>by cases hl
 | a::l,b::m,r,t,h,hl,h1,h2=>by
   rw[List.flatMap_cons,List.flatMap_cons,ZZ,ZZ]at h;obtain⟨rfl,h'⟩:=xy h (h1 a (by simp)) (h2 b (by simp));obtain⟨rfl,h''⟩:=Dx h' (by simpa using hl) (fun e he=>h1 e (by simp[he])) (fun e he=>h2 e (by simp[he]));exact⟨rfl,h''⟩
theorem OkF.kind_le{o:Ob}(h:OkF o):1<=o.kind/\o.kind<=4:=by
 cases h with
 | blob k=>omega
 | tree k=>omega
 | commit k=>omega
theorem NoC.eq{a b:Ob}(ha:NoC a)(hb:NoC b)(hk:a.kind=b.kind)(hd:a.data=b.data)(he:a.ents=b.ents):a=b:=by
 obtain⟨k,d,e,t,p,u,i,m⟩:=a;obtain⟨k',d',e',t',p',u',i',m'⟩:=b;obtain⟨h1,h2,h3,h4,h5⟩:=ha;obtain⟨g1,g2,g3,g4,g5⟩:=hb;simp only at *;subst hk hd he h1 h2 h3 h4 h5 g1 g2 g3 g4 g5;rfl
theorem EL{a b:Ob}(h:aI a=aI b)(ha:OkF a)(hb:OkF b):a=b:=by
 unfold aI at h;have ka:=ha.kind_le;have kb:=hb.kind_le;obtain⟨hk,h⟩:=pO h (by omega) (by omega);have hk:a.kind=b.kind:=by omega
 unfold gX at h;cases ha with
 | blob k1 e1 c1 d1 =>
   cases hb with
   | blob k2 e2 c2 d2 =>
     rw[if_neg (by omega),if_neg (by omega),if_neg (by omega),if_neg (by omega)]at h;rw[<-List.append_nil (ax (toL a.data)),<-List.append_nil (ax (toL b.data))]at h;obtain⟨h1,_⟩:=sV h (by rw[<-aQ];exact d1) (by rw[<-aQ];exact d2);exact c1.eq c2 hk (nP h1) (by rw[e1,e2])
   | tree k2=>omega
   | commit k2=>omega
 | tree k1 d1 c1 e1 =>
   cases hb with
   | blob k2=>omega
   | tree k2 d2 c2 e2 =>
     rw[if_pos k1,if_pos k2]at h;obtain⟨hl,h⟩:=pO h (by have:=e1.few;omega) (by have:=e2.few;omega);rw[<-List.append_nil (a.ents.flatMap aU),<-List.append_nil (b.ents.flatMap aU)]at h;obtain⟨he,_⟩:=DU h hl e1.all e2.all;exact c1.eq c2 hk (by rw[d1,d2]) he
   | commit k2=>omega
 | commit k1 d1 e1 c1 =>
   cases hb with
   | blob k2=>omega
   | tree k2=>omega
   | commit k2 d2 e2 c2 =>
     rw[if_neg (by omega),if_pos k1,if_neg (by omega),if_pos k2]at h;obtain⟨ht,h⟩:=xy h c1.wf c2.wf;obtain⟨hl,h⟩:=pO h (by have:=c1.pars.few;omega) (by have:=c2.pars.few;omega);obtain⟨hp,h⟩:=Dx h hl c1.pars.wf c2.pars.wf;have s1:=iZ c1.auth;have s2:=iZ c2.auth;have s3:=c1.msg;have s4:=c2.msg;rw[aQ]at s1 s2 s3 s4;obtain⟨hu,h⟩:=sV h (by omega) (by omega);obtain⟨hi,h⟩:=pO h (by have:=c1.t1;omega) (by have:=c2.t1;omega);rw[<-List.append_nil (ax (toL a.msg)),<-List.append_nil (ax (toL b.msg))]at h;obtain⟨hm,_⟩:=sV h (by omega) (by omega);have hu':=nP hu;have hm':=nP hm;have hi':a.time=b.time:=by have:=c1.t0;have:=c2.t0;omega
     obtain⟨k,d,e,t,p,u,i,m⟩:=a;obtain⟨k',d',e',t',p',u',i',m'⟩:=b;simp only at hk d1 d2 e1 e2 ht hp hu' hi' hm';subst hk d1 d2 e1 e2 ht hp hu' hi' hm';rfl
section
def ltD(a b:Dig):Prop:=a.1<b.1∨ (a.1=b.1/\a.2<b.2)
instance (a b:Dig):Decidable (ltD a b):=by unfold ltD;infer_instance
def dH(a b:Dig):Int:=if a=b then 0 else if ltD a b then -1 else 1
theorem ja(a:Dig):¬ltD a a:=by unfold ltD;omega
theorem jY{a b c:Dig}(h:ltD a b)(h':ltD b c):ltD a c:=by unfold ltD at *;omega
theorem IE{a b:Dig}(h:ltD a b):a≠b:=by rintro rfl;exact ja a h
theorem nC{a b:Dig}(h:¬ltD a b)(h':¬ltD b a):a=b:=by
 obtain⟨a1,a2⟩:=a;obtain⟨b1,b2⟩:=b;unfold ltD at *;simp only at *;rw[Prod.mk.injEq];omega
theorem yP(a b:Dig):dH a b<0↔ltD a b:=by
 unfold dH;split
 . rename_i h;subst h;simp[ja]
 . split <;> simp_all
theorem sF(a b:Dig):dH a b=0↔a=b:=by
 unfold dH;split
 . simp_all
 . split <;> simp_all
abbrev Itm:=Dig×VB
structure PlOk(p:List Itm):Prop where
 enc:∀i∈p,∃o,OkO o/\i.2=ofL (aI o)
 dg:∀i∈p,i.1=ofB (toL i.2)
 asc:p.Pairwise (fun a b=>ltD a.1 b.1)
theorem PlOk.nil:PlOk []:=⟨(fun i h=>by cases h),(fun i h=>by cases h),List.Pairwise.nil⟩
def atD(p:List Itm)(d:Dig):Nat:=p.countP (fun i=>decide (ltD i.1 d))
def AscI(p:List Itm):Prop:=p.Pairwise (fun a b=>ltD a.1 b.1)
theorem Iw(p:List Itm)(d:Dig):atD p d<=p.length:=List.countP_le_length
theorem AscI.tail{i:Itm}{p:List Itm}(h:AscI (i::p)):AscI p:=(List.pairwise_cons.1 h).2
theorem AscI.head{i j:Itm}{p:List Itm}(h:AscI (i::p))(hj:j∈p):ltD i.1 j.1:=(List.pairwise_cons.1 h).1 j hj
theorem PM{p:List Itm}{d:Dig}(h:∀i∈p,¬ltD i.1 d):atD p d=0:=by
 unfold atD;rw[List.countP_eq_zero];intro i hi;simp[h i hi]
theorem vT{i:Itm}{p:List Itm}{d:Dig}(h:ltD i.1 d):atD (i::p) d=atD p d+1:=by
 unfold atD;rw[List.countP_cons_of_pos (by simp[h])]
theorem BD{i:Itm}{p:List Itm}{d:Dig}(ha:AscI (i::p))(h:¬ltD i.1 d):atD (i::p) d=0 :=
 PM (fun j hj=>by
  rcases List.mem_cons.1 hj with rfl | hj
  . exact h
  . exact fun hl=>h (jY (ha.head hj) hl))
theorem Ea{p:List Itm}{d:Dig}(ha:AscI p):∀{k:Nat}{i:Itm},p[k]? =some i->k<atD p d->ltD i.1 d:=by
 induction p with
 | nil=>intro k i h;simp at h
 | cons j p ih =>
   intro k i h hk;by_cases hj:ltD j.1 d
   . rw[vT hj]at hk
     cases k with
     | zero=>simp at h;subst h;exact hj
     | succ k=>simp at h;exact ih ha.tail h (by omega)
   . rw[BD ha hj]at hk;omega
theorem DC{p:List Itm}{d:Dig}(ha:AscI p):∀{k:Nat}{i:Itm},p[k]? =some i->atD p d<=k->¬ltD i.1 d:=by
 induction p with
 | nil=>intro k i h;simp at h
 | cons j p ih =>
   intro k i h hk;by_cases hj:ltD j.1 d
   . rw[vT hj]at hk
     cases k with
     | zero=>omega
     | succ k=>simp at h;exact ih ha.tail h (by omega)
   . cases k with
     | zero=>simp at h;subst h;exact hj
     | succ k =>
       simp at h;exact fun hl=>hj (jY (ha.head (Z7 h)) hl)
def bT(p:List Itm)(d:Dig):Option VB:=match p[atD p d]? with
 | some i=>if i.1=d then some i.2 else none
 | none=>none
theorem AscI.uniq{p:List Itm}(ha:AscI p){i j:Itm}(hi:i∈p)(hj:j∈p)(h:i.1=j.1):i=j:=by
 induction p with
 | nil=>cases hi
 | cons x p ih =>
   rcases List.mem_cons.1 hi with h1 | h1
   . rcases List.mem_cons.1 hj with h2 | h2
     . rw[h1,h2]
     . exact absurd h (IE (by rw[h1];exact ha.head h2))
   . rcases List.mem_cons.1 hj with h2 | h2
     . exact absurd h.symm (IE (by rw[h2];exact ha.head h1))
     . exact ih ha.tail h1 h2
theorem jo{p:List Itm}(ha:AscI p){d:Dig}{b:VB}:bT p d=some b↔ (d,b)∈p:=by
 induction p with
 | nil=>simp[bT]
 | cons x p ih =>
   by_cases hx:ltD x.1 d
   . have e:bT (x::p) d=bT p d:=by unfold bT;rw[vT hx];simp
     rw[e,ih ha.tail,List.mem_cons];exact⟨.inr,fun h=>h.resolve_left (fun h=>by rw[<-h]at hx;exact ja _ hx)⟩
   . unfold bT
     rw[BD ha hx];simp only[List.getElem?_cons_zero,List.mem_cons];by_cases he:x.1=d
     . rw[if_pos he]
       constructor
       . intro h;cases h;left;rw[<-he]
       . rintro (h | h)
         . rw[<-h]
         . have:=ha.head h
           rw[he]at this;exact absurd this (ja _)
     . rw[if_neg he]
       constructor
       . intro h;cases h
       . rintro (h | h)
         . rw[<-h]at he;exact absurd rfl he
         . exact absurd (ha.head h) hx
theorem CY{p:List Itm}(ha:AscI p){d:Dig}:bT p d=none↔∀b,(d,b)∉p:=by
 constructor
 . intro h b hb;rw[(jo ha).2 hb]at h;cases h
 . intro h
   cases hf:bT p d with
   | none=>rfl
   | some b=>exact absurd ((jo ha).1 hf) (h b)
def dC(p:List Itm)(x:Itm):Option (List Itm):=match bT p x.1 with
 | some b=>if b=x.2 then some p else none
 | none=>some (p.take (atD p x.1)++ [x]++p.drop (atD p x.1))
theorem pW{p q:List Itm}{x:Itm}(ha:AscI p)(h:dC p x=some q)(i:Itm):i∈q↔i∈p∨i=x:=by
 unfold dC at h;cases hf:bT p x.1 with
 | some b =>
   rw[hf]at h;simp only at h;split at h
   . rename_i e;cases h
     have:=(jo ha).1 hf;rw[e]at this;exact⟨.inl,fun h=>h.elim id (fun h=>by rw[h];exact this)⟩
   . cases h
 | none =>
   rw[hf]at h;cases h
   have e:i∈p↔i∈p.take (atD p x.1)∨i∈p.drop (atD p x.1):=by rw[<-List.mem_append,List.take_append_drop]
   rw[e];simp only[List.mem_append,ae];constructor
   . rintro ((h | h) | h)
     . exact .inl (.inl h)
     . exact .inr h
     . exact .inl (.inr h)
   . rintro ((h | h) | h)
     . exact .inl (.inl h)
     . exact .inr h
     . exact .inl (.inr h)
theorem QD{p q:List Itm}{x:Itm}(ha:AscI p)(h:dC p x=some q):AscI q:=by
 unfold dC at h;cases hf:bT p x.1 with
 | some b =>
   rw[hf]at h;simp only at h;split at h
   . cases h;exact ha
   . cases h
 | none =>
   rw[hf]at h;cases h
   have hn:=(CY ha).1 hf;have h1:∀a∈p.take (atD p x.1),ltD a.1 x.1:=fun a hm=>by
    obtain⟨k,hk⟩:=List.mem_iff_getElem?.1 hm;have hl:k<atD p x.1:=by
     have:=(List.getElem?_eq_some_iff.1 hk).1;rw[List.length_take]at this;omega
    rw[List.getElem?_take_of_lt hl]at hk;exact Ea ha hk hl
   have h2:∀b∈p.drop (atD p x.1),ltD x.1 b.1:=fun b hm=>by
    obtain⟨k,hk⟩:=List.mem_iff_getElem?.1 hm;rw[List.getElem?_drop]at hk;have:=DC (d:=x.1) ha hk (by omega);have hb:b∈p:=Z7 hk;by_cases hl:ltD x.1 b.1
    . exact hl
    . have e:=nC hl this
      have h3:=hn b.2;rw[show(x.1,b.2)=b by rw[e]]at h3;exact absurd hb h3
   unfold AscI at ha ⊢;rw[<-List.take_append_drop (atD p x.1) p]at ha;rw[List.pairwise_append]at ha;rw[ZZ,List.pairwise_append];refine⟨ha.1,?_,?_⟩
   . rw[List.singleton_append,List.pairwise_cons]
     exact⟨h2,ha.2.1⟩
   . intro a hm b hb
     rw[List.singleton_append,List.mem_cons]at hb;rcases hb with rfl | hb
     . exact h1 a hm
     . exact jY (h1 a hm) (h2 b hb)
theorem PX{p q:List Itm}{x:Itm}(h:dC p x=some q):q.length<=p.length+1:=by
 unfold dC at h;split at h
 . split at h
   . cases h;omega
   . cases h
 . cases h;simp;omega
theorem Om{p:List Itm}{x:Itm}(ha:AscI p)(h:x∈p):dC p x=some p:=by
 unfold dC;rw[(jo ha).2 (show(x.1,x.2)∈p from h)];simp
theorem AscI.ext{p q:List Itm}(hp:AscI p)(hq:AscI q)(h:∀i,i∈p↔i∈q):p=q:=by
 induction p generalizing q with
 | nil =>
   cases q with
   | nil=>rfl
   | cons y q=>exact absurd ((h y).2 (by simp)) (by simp)
 | cons x p ih =>
   cases q with
   | nil=>exact absurd ((h x).1 (by simp)) (by simp)
   | cons y q =>
     have e:x=y:=by
      have h1:=(h x).1 (by simp);have h2:=(h y).2 (by simp);rcases List.mem_cons.1 h1 with e | h1
      . exact e
      rcases List.mem_cons.1 h2 with e | h2
      . exact e.symm
      exact absurd (jY (hq.head h1) (hp.head h2)) (ja _)
     subst e;rw[ih hp.tail hq.tail];intro i;constructor
     . intro hi
       rcases List.mem_cons.1 ((h i).1 (List.mem_cons_of_mem _ hi)) with rfl | h'
       . exact absurd (hp.head hi) (ja _)
       . exact h'
     . intro hi
       rcases List.mem_cons.1 ((h i).2 (List.mem_cons_of_mem _ hi)) with rfl | h'
       . exact absurd (hq.head hi) (ja _)
       . exact h'
theorem PlOk.ins{p q:List Itm}{o:Ob}(h:PlOk p)(ho:OkO o)(hi:dC p (ofB (aI o),ofL (aI o))=some q):PlOk q :=
 ⟨fun i hm=>((pW h.asc hi i).1 hm).elim (h.enc i) (fun e=>⟨o,ho,by rw[e]⟩),
  fun i hm=>((pW h.asc hi i).1 hm).elim (h.dg i) (fun e=>by rw[e];simp only;rw[dE]),
  QD h.asc hi⟩
open Classical in
noncomputable def qW(s:VB):Ob:=if h:∃o,OkO o/\s=ofL (aI o) then h.choose else⟨0,⟨#[]⟩,[],zD,[],⟨#[]⟩,0,⟨#[]⟩⟩
theorem tJ{o:Ob}(ho:OkO o):qW (ofL (aI o))=o:=by
 have h:∃o',OkO o'/\ofL (aI o)=ofL (aI o'):=⟨o,ho,rfl⟩
 unfold qW;rw[dif_pos h];have hs:=h.choose_spec;have:aI o=aI h.choose:=by have:=congrArg toL hs.2;rwa[dE,dE]at this
 exact(EL this ho.f hs.1.f).symm
noncomputable def aC(p:List Itm)(d:Dig):Option Ob:=(bT p d).map qW
theorem iI{p:List Itm}(h:PlOk p){d:Dig}{o:Ob}:aC p d=some o↔OkO o/\ (d,ofL (aI o))∈p:=by
 unfold aC;rw[Option.map_eq_some_iff];constructor
 . rintro ⟨b,hb,rfl⟩
   have hm:=(jo h.asc).1 hb;obtain⟨o,ho,e⟩:=h.enc _ hm;simp only at e;rw[e,tJ ho];rw[e]at hm;exact⟨ho,hm⟩
 . rintro ⟨ho,hm⟩
   exact⟨_,(jo h.asc).2 hm,tJ ho⟩
theorem G7{p:List Itm}(h:PlOk p){d:Dig}{o:Ob}(hg:aC p d=some o):OkO o:=((iI h).1 hg).1
theorem getP_none{p:List Itm}{d:Dig}:aC p d=none↔bT p d=none:=by
 unfold aC;rw[Option.map_eq_none_iff]
def bC(p:List Itm)(o:Ob):Option (List Itm):=dC p (ofB (aI o),ofL (aI o))
def dgO(o:Ob):Dig:=ofB (aI o)
theorem lN{p q:List Itm}{o:Ob}(h:PlOk p)(ho:OkO o)(hi:bC p o=some q):PlOk q:=h.ins ho hi
theorem jZ{p q:List Itm}{o:Ob}(h:PlOk p)(ho:OkO o)(hi:bC p o=some q):aC q (dgO o)=some o :=
 (iI (lN h ho hi)).2 ⟨ho,(pW h.asc hi _).2 (.inr rfl)⟩
def subP(p q:List Itm):Prop:=∀i∈p,i∈q
theorem subP.refl(p:List Itm):subP p p:=fun _ h=>h
theorem subP.trans{p q r:List Itm}(h:subP p q)(k:subP q r):subP p r:=fun i hi=>k i (h i hi)
theorem kz{p q:List Itm}{o:Ob}(h:PlOk p)(hi:bC p o=some q):subP p q:=fun i hm=>(pW h.asc hi i).2 (.inl hm)
theorem jH{p q:List Itm}(hp:PlOk p)(hq:PlOk q)(hs:subP p q){d:Dig}{o:Ob}(h:aC p d=some o):aC q d=some o :=
 (iI hq).2 ⟨((iI hp).1 h).1,hs _ ((iI hp).1 h).2⟩
theorem Dh{p:List Itm}{o:Ob}(h:PlOk p)(hg:aC p (dgO o)=some o):bC p o=some p :=
 Om h.asc ((iI h).1 hg).2
theorem jK{p:List Itm}(h:PlOk p){d:Dig}{o:Ob}(hg:aC p d=some o):d=dgO o:=by
 have:=h.dg _ ((iI h).1 hg).2;simp only at this;rw[dE]at this;exact this
end
structure UAt(a b:List Itm)(i j:Nat)(out:List Itm):Prop where
 asc:AscI out
 mem:∀x,x∈out↔x∈a.take i∨x∈b.take j
 la:∀x∈out,∀y∈a.drop i,ltD x.1 y.1
 lb:∀x∈out,∀y∈b.drop j,ltD x.1 y.1
 len:out.length<=i+j
structure UniR(a b r:List Itm):Prop where
 asc:AscI r
 mem:∀x,x∈r↔x∈a∨x∈b
def jM(a b:List Itm):Prop:=∃d x y,(d,x)∈a/\ (d,y)∈b/\x≠y
section
variable {a b out : List Itm} {i j : Nat} {x y : Itm}
theorem UAt.start(a b:List Itm):UAt a b 0 0 [] :=
 ⟨List.Pairwise.nil,(fun x=>by simp),(fun x h=>by cases h),(fun x h=>by cases h),Nat.le_refl _⟩
theorem Ou(h:AscI out)(hl:∀z∈out,ltD z.1 x.1):AscI (out++ [x]):=by
 unfold AscI;rw[List.pairwise_append];exact⟨h,List.pairwise_singleton _ _,fun z hz t ht=>by rw[List.mem_singleton.1 ht];exact hl z hz⟩
theorem oP{α:Type}{l:List α}{i:Nat}{x:α}(h:l[i]? =some x):l.drop i=x::l.drop (i+1):=by
 obtain⟨h1,h2⟩:=List.getElem?_eq_some_iff.1 h;rw[List.drop_eq_getElem_cons h1,h2]
theorem rU{α:Type}{l:List α}{i:Nat}{x:α}(h:l[i]? =some x):l.take (i+1)=l.take i++ [x]:=by
 obtain⟨h1,h2⟩:=List.getElem?_eq_some_iff.1 h;rw[List.take_add_one,h];rfl
theorem pK(h:AscI a)(hx:a[i]? =some x):∀y∈a.drop (i+1),ltD x.1 y.1:=by
 have h1:AscI (a.drop i):=h.sublist (List.drop_sublist _ _);rw[oP hx]at h1;exact fun y hy=>h1.head hy
theorem UAt.add{i' j':Nat}(h:UAt a b i j out)(hm:∀z,(z∈a.take i'∨z∈b.take j')↔ (z∈a.take i∨z∈b.take j)∨z=x)(hlo:∀z∈out,ltD z.1 x.1)
  (hla:∀y∈a.drop i',ltD x.1 y.1/\y∈a.drop i) (hlb:∀y∈b.drop j',ltD x.1 y.1/\y∈b.drop j) (hl:i+j+1<=i'+j'):UAt a b i' j' (out++ [x]) where
 asc:=Ou h.asc hlo
 mem z:=by rw[List.mem_append,ae,h.mem,hm]
 la z hz y hy:=by
  rcases List.mem_append.1 hz with hz | hz
  . exact h.la z hz y (hla y hy).2
  . rw[List.mem_singleton.1 hz];exact(hla y hy).1
 lb z hz y hy:=by
  rcases List.mem_append.1 hz with hz | hz
  . exact h.lb z hz y (hlb y hy).2
  . rw[List.mem_singleton.1 hz];exact(hlb y hy).1
 len:=by have:=h.len;simp;omega
theorem ru{α:Type}{l:List α}{i:Nat}{y:α}(h:y∈l.drop (i+1)):y∈l.drop i:=by
 have:=(List.drop_sublist 1 (l.drop i))
 rw[List.drop_drop]at this;exact this.subset (by rwa[Nat.add_comm]at h ⊢)
theorem UAt.fst(h:UAt a b i j out)(ha:AscI a)(hx:a[i]? =some x)(hb:∀y∈b.drop j,ltD x.1 y.1):UAt a b (i+1) j (out++ [x]) :=
 h.add (fun z=>by rw[rU hx,List.mem_append,ae,or_right_comm])
  (fun z hz=>h.la z hz x (by rw[oP hx];simp)) (fun y hy=>⟨pK ha hx y hy,ru hy⟩) (fun y hy=>⟨hb y hy,hy⟩) (by omega)
theorem UAt.snd(h:UAt a b i j out)(hb:AscI b)(hx:b[j]? =some x)(ha:∀y∈a.drop i,ltD x.1 y.1):UAt a b i (j+1) (out++ [x]) :=
 h.add (fun z=>by rw[rU hx,List.mem_append,ae,or_assoc])
  (fun z hz=>h.lb z hz x (by rw[oP hx];simp)) (fun y hy=>⟨ha y hy,hy⟩) (fun y hy=>⟨pK hb hx y hy,ru hy⟩) (by omega)
theorem UAt.both(h:UAt a b i j out)(ha:AscI a)(hb:AscI b)(hx:a[i]? =some x)(hy:b[j]? =some x):UAt a b (i+1) (j+1) (out++ [x]) :=
 h.add (fun z=>by rw[rU hx,rU hy,List.mem_append,List.mem_append,ae];exact⟨fun h=>h.elim (fun h=>h.elim (fun h=> .inl (.inl h)) .inr) (fun h=>h.elim (fun h=> .inl (.inr h)) .inr),fun h=>h.elim (fun h=>h.elim (fun h=> .inl (.inl h)) (fun h=> .inr (.inl h))) (fun h=> .inl (.inr h))⟩)
  (fun z hz=>h.la z hz x (by rw[oP hx];simp)) (fun y hy=>⟨pK ha hx y hy,ru hy⟩) (fun z hz=>⟨pK hb hy z hz,ru hz⟩) (by omega)
theorem rY(hb:AscI b)(hy:b[j]? =some y){d:Dig}(h:ltD d y.1):∀z∈b.drop j,ltD d z.1:=by
 intro z hz;rw[oP hy]at hz;rcases List.mem_cons.1 hz with rfl | hz
 . exact h
 . exact jY h (pK hb hy z hz)
theorem sD(hj:b.length<=j){d:Dig}:∀z∈b.drop j,ltD d z.1:=by
 intro z hz;rw[List.drop_of_length_le hj]at hz;cases hz
theorem UAt.done(h:UAt a b i j out)(hi:a.length<=i)(hj:b.length<=j):UniR a b out :=
 ⟨h.asc,fun x=>by rw[h.mem,ZU hi,ZU hj]⟩
theorem FC(hx:a[i]? =some x)(hy:b[j]? =some y)(hd:x.1=y.1)(hn:x.2≠y.2):jM a b :=
 ⟨x.1,x.2,y.2,Z7 hx,by rw[hd];exact Z7 hy,hn⟩
theorem UniR.plOk{r:List Itm}(h:UniR a b r)(ha:PlOk a)(hb:PlOk b):PlOk r :=
 ⟨fun i hi=>((h.mem i).1 hi).elim (ha.enc i) (hb.enc i),fun i hi=>((h.mem i).1 hi).elim (ha.dg i) (hb.dg i),h.asc⟩
theorem UniR.sub1{r:List Itm}(h:UniR a b r):subP a r:=fun i hi=>(h.mem i).2 (.inl hi)
theorem UniR.uniq{r s:List Itm}(h:UniR a b r)(g:UniR a b s):r=s:=AscI.ext h.asc g.asc (fun i=>by rw[h.mem,g.mem])
theorem UniR.clear{r:List Itm}(h:UniR a b r):¬jM a b:=by
 rintro ⟨d,u,v,h1,h2,hn⟩;have:=h.asc.uniq ((h.mem _).2 (.inl h1)) ((h.mem _).2 (.inr h2)) rfl;injection this with _ h3;exact hn h3
end
section
variable (p : List Itm) (hs : List Dig) (stop : Dig -> Prop) (dep : Int) (pre : VD)
inductive Lv:Nat->Dig->Prop
 | head {d:Dig} (h:d∈hs):Lv 0 d
 | par {n:Nat} {d x:Dig} {o:Ob} (h:Lv n d) (g:aC p d=some o) (k:o.kind=3) (s:¬stop d) (m:x∈o.pars):Lv (n+1) x
def NC(d:Dig):Prop:=∃n:Nat,Lv p hs stop n d/\ (dep=0∨ (n:Int)<dep)
def touch(q:VD):Prop:=pre <+: q∨q <+: pre
inductive Plc:Dig->VD->Prop
 | root {c:Dig} {o:Ob} (h:NC p hs stop dep c) (g:aC p c=some o) (k:o.kind=3):Plc o.tree []
 | sub {d:Dig} {q:VD} {o:Ob} {e:Ent} (h:Plc d q) (g:aC p d=some o) (k:o.kind=2) (m:e∈o.ents) (hd:e.dir=true) (t:touch pre (q++toL e.nm++ [47])):Plc e.dg (q++toL e.nm++ [47])
inductive Nd:Dig->Int->Prop
 | com {d:Dig} (h:NC p hs stop dep d):Nd d 3
 | dir {d:Dig} {q:VD} (h:Plc p hs stop dep pre d q):Nd d 2
 | blob {d:Dig} {q:VD} {o:Ob} {e:Ent} (h:Plc p hs stop dep pre d q) (g:aC p d=some o) (k:o.kind=2) (m:e∈o.ents) (hd:e.dir=false) (t:pre <+: q++toL e.nm):Nd e.dg 1
def Jv(d:Dig):Prop:=∃k,Nd p hs stop dep pre d k
def Wrong:Prop:=∃d k o,Nd p hs stop dep pre d k/\aC p d=some o/\o.kind≠k
def UL:Prop:=∃d,Jv p hs stop dep pre d/\aC p d=none
def UT(d:Dig):Prop:=NC p hs stop dep d/\∃o x,aC p d=some o/\o.kind=3/\x∈o.pars/\¬NC p hs stop dep x
end
def Jh(l:List Dig):Prop:=l.Pairwise ltD
section
variable {p p' : List Itm} {hs : List Dig} {stop stop' : Dig -> Prop} {dep dep' : Int} {pre pre' : VD}
end
/-! ### pools that keep some objects -/
def fQ(p:List Itm)(l:List Dig):List Itm:=p.filter fun i=>decide (i.1∈l)
theorem EM{p q:List Itm}(hp:PlOk p)(hq:PlOk q)(hs:subP q p){d:Dig}{o:Ob}(h:aC q d=some o):aC p d=some o:=jH hq hp hs h
def uN(_:Dig):Prop:=False
section
variable {eR eL eK : Int} {p : List Itm} {hs : List Dig} {dep : Int} {pre : VD} {l l' edge edge' : List Dig} {e e' : Int}
structure U6(p:List Itm)(hs:List Dig)(dep:Int)(pre:VD)(l edge:List Dig):Prop where
 h:0<=dep
 h':pre.length<=100
 m:¬UL p hs uN dep pre
 w:¬Wrong p hs uN dep pre
 a:Jh l
 ml:∀d,d∈l↔Jv p hs uN dep pre d
 b:Jh edge
 me:∀d,d∈edge↔UT p hs uN dep d
section
variable (hp : PlOk p) (N : U6 p hs dep pre l edge)
include hp N
end
def df(o:Ob):List Dig:=o.ents.map Ent.dg++if o.kind=3 then o.tree::o.pars else []
inductive Rchd(p:List Itm)(rs:List Dig):Dig->Prop
 | root {d:Dig} (h:d∈rs):Rchd p rs d
 | link {d x:Dig} {o:Ob} (h:Rchd p rs d) (g:aC p d=some o) (m:x∈df o):Rchd p rs x
structure uS(p:List Itm)(rs l m:List Dig):Prop where
 there:∀d,d∈l↔d≠zD/\Rchd p rs d/\aC p d≠none
 miss:∀d,d∈m↔d≠zD/\Rchd p rs d/\aC p d=none
 nd:l.Nodup
theorem qi(hp:PlOk p){d:Dig}{o:Ob}(h:aC p d=some o):d≠zD:=by
 rw[jK hp h];unfold dgO ofB;split
 . decide
 . rename_i h;intro e;apply h;unfold zD at e;simpa using e
end
section
/-! ### groups -/
abbrev Gru:=List Upd×List VD
def headB(us:List Upd)(n:Nat):VD:=ak n++ (encR us).1
def aN(g:Gru):List VD:=headB g.1 g.2.length::g.2
def recs(gs:List Gru):List VD:=gs.flatMap aN
structure GOk(g:Gru):Prop where
 few:g.1.length<=1000
 pr:dM g.1=0
 us:∀u∈g.1,u.1.size<=65536/\WfU u
 os:g.2.length<=1099511627776
theorem GOk.enc{g:Gru}(h:GOk g):encR g.1= (ak g.1.length++bP g.1,0):=by
 unfold encR;rw[if_neg (by have:=h.few;omega),if_neg (by simp[h.pr])]
theorem GOk.dec{g:Gru}(h:GOk g):eQ (encR g.1).1= (g.1,0):=by rw[h.enc];exact SB h.few h.pr h.us
theorem GOk.num{g:Gru}(h:GOk g):aA (headB g.1 g.2.length)= (g.2.length,(ak g.2.length).length,0):=kL h.os _
def grU(gs:List Gru):List Upd:=gs.flatMap (·.1)
def grO(gs:List Gru):List VD:=gs.flatMap (·.2)
/-! ### what is complete -/
def Miss(p:List Itm)(ds:List Dig):Prop:=∃x,x≠zD/\Rchd p ds x/\aC p x=none
open Classical in
noncomputable def dO(p:List Itm)(d:Dig):Int:=match aC p d with
 | none=>8
 | some o=>if o.kind=3 then(if Miss p [d] then 8 else 0) else 9
theorem compl_zero{p:List Itm}{d:Dig}:dO p d=0↔ (∃o,aC p d=some o/\o.kind=3)/\¬Miss p [d]:=by
 unfold dO;cases aC p d with
 | none=>simp
 | some o =>
   simp only[Option.some.injEq,exists_eq_left'];by_cases h:o.kind=3
   . rw[if_pos h];by_cases hm:Miss p [d] <;> simp[h,hm]
   . simp[h]
theorem Rchd.mono{p q:List Itm}(hp:PlOk p)(hq:PlOk q)(hs:subP p q){ds:List Dig}{x:Dig}(h:Rchd p ds x):Rchd q ds x:=by
 induction h with
 | root h=>exact .root h
 | link _ g m ih=>exact .link ih (jH hp hq hs g) m
theorem Miss.mono{p q:List Itm}(hp:PlOk p)(hq:PlOk q)(hs:subP p q){ds:List Dig}(hm:¬Miss p ds):¬Miss q ds:=by
 rintro ⟨x,hx,hr,hg⟩;have key:∀{y},Rchd q ds y->Rchd p ds y:=by
  intro y h
  induction h with
  | root h=>exact .root h
  | @link d x o _ g m ih =>
    cases hg:aC p d with
    | none=>exact absurd ⟨d,qi hq g,ih,hg⟩ hm
    | some o' =>
      have:=jH hp hq hs hg;rw[g]at this;cases this;exact .link ih hg m
 have h1:=key hr;cases hg2:aC p x with
 | none=>exact hm ⟨x,hx,h1,hg2⟩
 | some o=>have:=jH hp hq hs hg2;rw[hg]at this;cases this
theorem MB{p q:List Itm}(hp:PlOk p)(hq:PlOk q)(hs:subP p q){d:Dig}(h:dO p d=0):dO q d=0:=by
 obtain⟨⟨o,ho,hk⟩,hm⟩:=compl_zero.1 h;exact compl_zero.2 ⟨⟨o,jH hp hq hs ho,hk⟩,Miss.mono hp hq hs hm⟩
theorem Nh{p q:List Itm}(hp:PlOk p)(hq:PlOk q)(hs:subP q p){d:Dig}(hc:∀x,Rchd p [d] x->∀o,aC p x=some o->aC q x=some o)(h:dO p d=0):dO q d=0:=by
 obtain⟨⟨o,ho,hk⟩,hm⟩:=compl_zero.1 h;refine compl_zero.2 ⟨⟨o,hc d (.root (by simp)) o ho,hk⟩,?_⟩;rintro ⟨x,hx,hr,hg⟩;have hr2:=hr.mono hq hp hs;cases hg2:aC p x with
 | none=>exact hm ⟨x,hx,hr2,hg2⟩
 | some o'=>rw[hc x hr2 o' hg2]at hg;cases hg
/-! ### what records mean -/
structure Mt(gs:List Gru)(p:List Itm)(rs:List Rf)(lg:List Upd):Prop where
 ok:∀g∈gs,GOk g
 pl:PlOk p
 ob:∀b,b∈grO gs↔∃i∈p,b=toL i.2
 rf:bu rs lg=0
 lo:lg=grU gs
 co:∀r∈rs,dO p r.2=0
theorem Mt.nil:Mt [] [] [] []:=⟨by simp,PlOk.nil,by simp[grO],rfl,rfl,by simp⟩
/-! ### refs -/
theorem wF:∀(us:List Upd)(l:List Rf)(lg:List Upd),(dR l lg us).2.2=0-> (dR l lg us).2.1=lg++us/\ (dR l lg us).1= (aP l us).1/\ (aP l us).2=0/\ (∀u∈us,dI u=0)
 | [],l,lg,_=>by simp[dR,aP]
 | u::us,l,lg,h=>by
   rw[rM]at h ⊢;unfold gV at h ⊢;by_cases h1:bM l u≠0
   . rw[if_pos h1]at h;simp[h1]at h
   . rw[if_neg h1]at h ⊢
     by_cases h2:1000<=lg.length
     . rw[if_pos h2]at h;simp at h
     . rw[if_neg h2]at h ⊢
       simp only[ne_eq,not_true,if_false]at h ⊢;obtain⟨a1,a2,a3,a4⟩:=wF us _ _ h;rw[aP,if_neg h1];refine⟨by rw[a1];simp,a2,a3,fun v hv=>?_⟩;rcases List.mem_cons.1 hv with rfl | hv
       . unfold bM at h1
         by_cases hp:dI v≠0
         . rw[if_pos hp]at h1;exact absurd hp h1
         . simpa using hp
       . exact a4 v hv
theorem Cj:∀(us:List Upd)(l:List Rf)(lg:List Upd),(dR l lg us).2.2=0->lg.length<=1000->lg.length+us.length<=1000
 | [],l,lg,_,h=>h
 | u::us,l,lg,h,hl=>by
   rw[rM]at h;unfold gV at h;by_cases h1:bM l u≠0
   . rw[if_pos h1]at h;simp[h1]at h
   . rw[if_neg h1]at h
     by_cases h2:1000<=lg.length
     . rw[if_pos h2]at h;simp at h
     . rw[if_neg h2]at h
       simp only[ne_eq,not_true,if_false]at h;have:=Cj us _ _ h (by rw[af];simp;omega);simp at this ⊢;omega
theorem BL:∀(a b:List Upd)(l:List Rf),(aP l a).2=0->aP l (a++b)=aP (aP l a).1 b
 | [],b,l,_=>rfl
 | u::a,b,l,h=>by
   rw[List.cons_append,aP,aP];rw[aP]at h;by_cases h1:bM l u≠0
   . rw[if_pos h1]at h;exact absurd h h1
   . rw[if_neg h1]at h ⊢;rw[if_neg h1];exact BL a b _ h
structure Jd(rs:List Rf)(lg us:List Upd)(rs':List Rf):Prop where
 chk:bu rs' (lg++us)=0
 pr:dM us=0
 len:us.length<=1000
 eq:di rs lg us= (rs',lg++us,0)
theorem xm{rs:List Rf}{lg us:List Upd}(h: (di rs lg us).2.2=0):Jd rs lg us (di rs lg us).1:=by
 have e0:di rs lg us=if bu rs lg≠0 then([],[],bu rs lg) else dR rs lg us:=rfl;by_cases h1:bu rs lg≠0
 . rw[e0,if_pos h1]at h;exact absurd h h1
 . rw[if_neg h1]at e0
   have hc:bu rs lg=0:=by simpa using h1
   have hl:=jv hc;rw[e0]at h ⊢;obtain⟨a1,a2,a3,a4⟩:=wF us _ _ h;have hlen:=Cj us _ _ h hl;have hr:=(ql hl).1 hc;refine⟨(ql (by rw[af];omega)).2 ?_,(wM us).2 a4,by omega,?_⟩
   . rw[BL lg us [] (by rw[hr]),hr]
     exact Prod.ext a2.symm a3
   . rw[e0];exact Prod.ext rfl (Prod.ext a1 h)
theorem CZ:∀(us:List Upd)(l:List Rf)(lg:List Upd),(aP l us).2=0->lg.length+us.length<=1000->dR l lg us= ((aP l us).1,lg++us,0)
 | [],l,lg,_,_=>by simp[dR,aP]
 | u::us,l,lg,h,hl=>by
   rw[aP]at h ⊢;by_cases h1:bM l u≠0
   . rw[if_pos h1]at h;exact absurd h h1
   . rw[if_neg h1]at h ⊢
     rw[dR,if_neg h1,if_neg (by simp at hl;omega),CZ us _ _ h (by simp at hl ⊢;omega)];simp
theorem Ec{rs:List Rf}{lg:List Upd}(h:bu rs lg=0):di [] [] lg= (rs,lg,0):=by
 have hl:=jv h;have hr:=(ql hl).1 h;show(if bu [] []≠0 then _ else dR [] [] lg)=_;rw[if_neg (by simp[bu,aP]),CZ lg [] [] (by rw[hr]) (by simpa using hl),hr];rfl
theorem Ii{rs:List Rf}{lg:List Upd}(h:bu rs lg=0):dM lg=0:=by
 have:=Ec h;exact(xm (by rw[this])).pr
theorem EN:∀(us:List Upd)(l:List Rf),(aP l us).1.length<=l.length+us.length
 | [],l=>by simp[aP]
 | u::us,l=>by
   rw[aP];by_cases h:bM l u≠0
   . rw[if_pos h];simp
   . rw[if_neg h]
     have h1:=EN us (bZ l u.1 u.2.2);have h2:∀(l:List Rf)(s:VB)(d:Dig),(bZ l s d).length<=l.length+1:=by
      intro l s d
      induction l with
      | nil=>simp only[bZ];split <;> simp
      | cons r l ih =>
        simp only[bZ];split
        . simp;omega
        . rw[af]
          have g1: (if r.1=s then l else r::l).length<=l.length+1:=by split <;> simp
          have g2: (if d= (0,0) then [] else [(s,d)]:List Rf).length<=1:=by split <;> simp
          rw[Z4];omega
     have:=h2 l u.1 u.2.2;simp;omega
theorem nK{rs:List Rf}{lg:List Upd}(h:bu rs lg=0):rs.length<=1000:=by
 have h1:=jv h;have h2:=(ql h1).1 h;have h3:=EN lg [];rw[h2]at h3;simp at h3;omega
/-! ### writing -/
structure Rp where
 d:Dk
 p:List Itm
 rs:List Rf
 lg:List Upd
inductive gI
 | no
 | keep
 | app (g:Gru) (p:List Itm) (rs:List Rf) (lg:List Upd)
 | rew (g:Gru) (p:List Itm) (rs:List Rf) (lg:List Upd)
def dS(p q:List Itm):List Itm:=q.filter fun i=>(bT p i.1).isNone
def bD(p:List Itm):List VD:=p.map fun i=>toL i.2
open Classical in
noncomputable def oq(p q:List Itm):List Itm:=if h:∃r,UniR p q r then h.choose else []
theorem yM{p q r:List Itm}(h:UniR p q r):oq p q=r:=by
 have hx:∃r,UniR p q r:=⟨r,h⟩
 unfold oq;rw[dif_pos hx];exact hx.choose_spec.uniq h
open Classical in
noncomputable def dm(p:List Itm)(rs:List Rf)(lg:List Upd)(q:List Itm)(us:List Upd):gI :=
 if PlOk q/\¬jM p q/\ (di rs lg us).2.2=0/\∀u∈us,u.2.2≠zD->dO (oq p q) u.2.2=0 then
  if dS p q= []/\us= [] then .keep else .app (us,bD (dS p q)) (oq p q) (di rs lg us).1 (lg++us)
 else .no
open Classical in
noncomputable def iG(p:List Itm)(rs:List Rf):List Itm:=p.filter fun i=>decide (Rchd p (rs.map (·.2)) i.1)
open Classical in
noncomputable def gZ(p:List Itm)(rs:List Rf)(lg:List Upd):gI :=
 if(iG p rs).length=p.length then .keep else .rew (lg,bD (iG p rs)) (iG p rs) rs lg
def zRp:Rp:=⟨⟨0,[],[],0⟩,[],[],[]⟩
def after(r:Rp)(x:Dk×Int)(p:List Itm)(rs:List Rf)(lg:List Upd):Rp×Int :=
 if x.2=0 then(⟨x.1,p,rs,lg⟩,0) else if x.2=20 then({r with d:=x.1},20) else(zRp,x.2)
theorem Dp{p q:List Itm}(hp:AscI p){i:Itm}:i∈dS p q↔i∈q/\∀b,(i.1,b)∉p:=by
 unfold dS;rw[List.mem_filter,Option.isNone_iff_eq_none,CY hp]
theorem Dv{p:List Itm}{b:VD}:b∈bD p↔∃i∈p,b=toL i.2:=by
 unfold bD;rw[List.mem_map];exact⟨fun⟨i,h,e⟩=>⟨i,h,e.symm⟩,fun⟨i,h,e⟩=>⟨i,h,e.symm⟩⟩
theorem TA{p q:List Itm}(_:PlOk p)(_:PlOk q)(h:¬jM p q){i:Itm}(hi:i∈q){b:VB}(hb: (i.1,b)∈p):i∈p:=by
 have:b=i.2:=Classical.byContradiction fun hne=>h ⟨i.1,b,i.2,hb,hi,hne⟩;rw[this]at hb;exact hb
theorem Pq{l:List Rf}{s:VB}{d:Dig}{r:Rf}(h:r∈bZ l s d): (r.2=d/\d≠zD)∨r∈l:=by
 induction l with
 | nil =>
   simp only[bZ]at h;by_cases hd:d= (0,0)
   . rw[if_pos hd]at h;cases h
   . rw[if_neg hd]at h;rw[List.mem_singleton.1 h];exact .inl ⟨rfl,hd⟩
 | cons q l ih =>
   simp only[bZ]at h;by_cases hl:less q.1 s=true
   . rw[if_pos hl]at h
     rcases List.mem_cons.1 h with rfl | h
     . exact .inr (by simp)
     . exact(ih h).imp id (List.mem_cons_of_mem _)
   . rw[if_neg hl]at h
     rcases List.mem_append.1 h with h | h
     . by_cases hd:d= (0,0)
       . rw[if_pos hd]at h;cases h
       . rw[if_neg hd]at h;rw[List.mem_singleton.1 h];exact .inl ⟨rfl,hd⟩
     . by_cases e:q.1=s
       . rw[if_pos e]at h;exact .inr (List.mem_cons_of_mem _ h)
       . rw[if_neg e]at h;exact .inr h
theorem FM:∀(us:List Upd){l:List Rf}{r:Rf},r∈ (aP l us).1->r∈l∨∃u∈us,u.2.2=r.2/\u.2.2≠zD
 | [],l,r,h=> .inl h
 | u::us,l,r,h=>by
   rw[aP]at h;by_cases h1:bM l u≠0
   . rw[if_pos h1]at h;exact .inl h
   . rw[if_neg h1]at h
     rcases FM us h with h | ⟨v,hv,h2⟩
     . rcases Pq h with ⟨h2,h3⟩ | h
       . exact .inr ⟨u,by simp,h2.symm,h3⟩
       . exact .inl h
     . exact .inr ⟨v,by simp[hv],h2⟩
theorem Nb{rs:List Rf}{lg us:List Upd}(h: (di rs lg us).2.2=0){r:Rf}(hr:r∈ (di rs lg us).1):r∈rs∨∃u∈us,u.2.2=r.2/\u.2.2≠zD:=by
 have e0:di rs lg us=if bu rs lg≠0 then([],[],bu rs lg) else dR rs lg us:=rfl;by_cases h1:bu rs lg≠0
 . rw[e0,if_pos h1]at h;exact absurd h h1
 . rw[if_neg h1]at e0
   rw[e0]at h hr;rw[(wF us _ _ h).2.1]at hr;exact FM us hr
theorem Mt.app{gs:List Gru}{p q:List Itm}{rs rs':List Rf}{lg lg' us:List Upd}{g:Gru}{p':List Itm}(h:Mt gs p rs lg)(hu:∀u∈us,u.1.size<=65536/\WfU u)(hq: (dS p q).length<=1099511627776)
  (hpl:dm p rs lg q us= .app g p' rs' lg') (hun:¬jM p q->∃r,UniR p q r):GOk g/\Mt (gs++ [g]) p' rs' lg':=by
 unfold dm at hpl;split at hpl
 . rename_i hc
   obtain⟨c1,c2,c3,c4⟩:=hc;split at hpl
   . cases hpl
   . cases hpl
     obtain⟨r,hr⟩:=hun c2;rw[yM hr]at c4 ⊢;have ha:=xm c3;have hg:GOk (us,bD (dS p q)):=⟨ha.len,ha.pr,hu,by
      show(bD (dS p q)).length<=_;unfold bD;rw[List.length_map];exact hq⟩
     have hpr:=hr.plOk h.pl c1;refine⟨hg,fun g' hg'=>?_,hpr,fun b=>?_,ha.chk,by rw[h.lo];simp[grU],fun x hx=>?_⟩
     . rcases List.mem_append.1 hg' with h1 | h1
       . exact h.ok g' h1
       . rw[List.mem_singleton.1 h1];exact hg
     . unfold grO
       rw[List.flatMap_append,List.mem_append,(show b∈gs.flatMap (·.2)↔_ from h.ob b)];simp only[List.flatMap_cons,List.flatMap_nil,List.append_nil,Dv];constructor
       . rintro (⟨i,hi,e⟩ | ⟨i,hi,e⟩)
         . exact⟨i,(hr.mem i).2 (.inl hi),e⟩
         . exact⟨i,(hr.mem i).2 (.inr ((Dp h.pl.asc).1 hi).1),e⟩
       . rintro ⟨i,hi,e⟩
         rcases (hr.mem i).1 hi with hi | hi
         . exact .inl ⟨i,hi,e⟩
         . by_cases hb:∃b,(i.1,b)∈p
           . obtain⟨b',hb⟩:=hb
             exact .inl ⟨i,TA h.pl c1 c2 hi hb,e⟩
           . exact .inr ⟨i,(Dp h.pl.asc).2 ⟨hi,fun b' hb'=>hb ⟨b',hb'⟩⟩,e⟩
     . rcases Nb c3 hx with h1 | ⟨u,hu1,hu2,hu3⟩
       . exact MB h.pl hpr hr.sub1 (h.co x h1)
       . rw[<-hu2];exact c4 u hu1 hu3
 . cases hpl
theorem Qw(p:List Itm)(rs:List Rf):subP (iG p rs) p:=fun _ hi=>(List.mem_filter.1 hi).1
theorem PlOk.filter{p:List Itm}(h:PlOk p)(f:Itm->Bool):PlOk (p.filter f) :=
 ⟨fun i hi=>h.enc i (List.mem_filter.1 hi).1,fun i hi=>h.dg i (List.mem_filter.1 hi).1,h.asc.filter _⟩
theorem Hl{p:List Itm}(h:PlOk p)(rs:List Rf):PlOk (iG p rs):=h.filter _
theorem Qs{p:List Itm}(h:PlOk p){rs:List Rf}{x:Dig}(hx:Rchd p (rs.map (·.2)) x){o:Ob}(hg:aC p x=some o):aC (iG p rs) x=some o:=by
 obtain⟨h1,h2⟩:=(iI h).1 hg;refine(iI (Hl h rs)).2 ⟨h1,?_⟩;unfold iG;rw[List.mem_filter];exact⟨h2,by simpa using hx⟩
theorem Rchd.more{p:List Itm}{ds es:List Dig}(hs:∀d∈ds,d∈es){x:Dig}(h:Rchd p ds x):Rchd p es x:=by
 induction h with
 | root h=>exact .root (hs _ h)
 | link _ g m ih=>exact .link ih g m
theorem Mt.rew{gs:List Gru}{p p':List Itm}{rs rs':List Rf}{lg lg':List Upd}{g:Gru}(h:Mt gs p rs lg)(hp:p.length<=1099511627776)(hpl:gZ p rs lg= .rew g p' rs' lg'):GOk g/\Mt [g] p' rs' lg':=by
 unfold gZ at hpl;split at hpl
 . cases hpl
 . cases hpl
   have hk:=Hl h.pl rs;have hlen: (bD (iG p rs)).length<=1099511627776:=by
    unfold bD iG;rw[List.length_map];have:=List.length_filter_le (fun i:Itm=>@decide (Rchd p (rs.map (·.2)) i.1) (Classical.propDecidable _)) p;omega
   have hg:GOk (lg,bD (iG p rs)):=⟨jv h.rf,Ii h.rf,fun u hu=>by
    have hu:u∈grU gs:=by rw[<-h.lo];exact hu
    obtain⟨g,hg,hu⟩:=List.mem_flatMap.1 hu;exact(h.ok g hg).us u hu,hlen⟩
   refine⟨hg,fun g' hg'=>by rw[List.mem_singleton.1 hg'];exact hg,hk,fun b=>by simp[grO,Dv],h.rf,by simp[grU],fun x hx=>?_⟩;exact Nh h.pl hk (Qw p rs) (fun y hy o ho=>Qs h.pl (hy.more (fun d hd=>by rw[List.mem_singleton.1 hd];exact List.mem_map_of_mem hx)) ho) (h.co x hx)
end
structure Dsl where
 a1:OA
 c1:Nat
 a2:OA
 c2:Nat
def aF(b:VD):List VC:= [.string (ofL b)]
def wrC(w:Nat×VD):List VC:= [.int .i64 w.1,.string (ofL w.2)]
theorem dJ(b:VD): (aF b).length=1:=rfl
theorem uq(w:Nat×VD): (wrC w).length=2:=rfl
def dkC(d:Dk)(s:Dsl):Array VC:=#[.int .i64 d.sz,.slice s.a1 d.ss.length s.c1,.slice s.a2 d.pn.length s.c2,.int .i64 d.lf]
def dkV(d:Dk)(s:Dsl):VC:= .agg (dkC d s)
structure DkM(w:VA)(B:Nat)(d:Dk)(s:Dsl):Prop where
 ss:Sl w B 1 s.a1 d.ss.length (flat aF d.ss)
 pn:Sl w B 2 s.a2 d.pn.length (flat wrC d.pn)
theorem DkM.below{w w':VA}{B B':Nat}{d:Dk}{s:Dsl}(h:DkM w B d s)(hb:Below B' w w')(hB:B<=B'):DkM w' B d s:=⟨h.ss.below hb hB,h.pn.below hb hB⟩
theorem DkM.more{w:VA}{B B':Nat}{d:Dk}{s:Dsl}(h:DkM w B d s)(hB:B<=B'):DkM w B' d s:=⟨h.ss.more hB,h.pn.more hB⟩
theorem Bk.dk4{w:VA}{b:Nat}{t:TypeId}{x0 x1 x2 x3:VC}(h:Bk w b t #[x0,x1,x2,x3]):w.cell? ⟨b,0,none⟩=some x0/\w.cell? ⟨b,1,none⟩=some x1/\w.cell? ⟨b,2,none⟩=some x2/\w.cell? ⟨b,3,none⟩=some x3:=by
 have h0:=h.cell 0;have h1:=h.cell 1;have h2:=h.cell 2;have h3:=h.cell 3;simp at h0 h1 h2 h3;exact⟨h0,h1,h2,h3⟩
def jP(n s:Int):Bool:=decide (1<=n/\n<=1000/\1<=s/\s<=512)
def hasB(n:Nat)(i:Int):Bool:=decide (0<=i/\i<n)
theorem FD(n s:Int)(w:VA):Calls Tryz.prog 73 #[.int .i64 n,.int .i64 s] w fun e w'=>e= .returned (.bool (jP n s))/\w=w':=by
 go_enter Tryz.func73,Tryz.ntmps73
 by_cases h1:1<=n
 . by_cases h2:n<=1000
   . by_cases h3:1<=s
     . by_cases h4:s<=512
       . go_wp2;go_ret;exact⟨bF (decide_eq_true (by omega)).symm,rfl⟩
       . go_wp2;go_ret;exact⟨bF (decide_eq_false (by omega)).symm,rfl⟩
     . go_wp2;go_ret;exact⟨bF (decide_eq_false (by omega)).symm,rfl⟩
   . go_wp2;go_ret;exact⟨bF (decide_eq_false (by omega)).symm,rfl⟩
 . go_wp2;go_ret;exact⟨bF (decide_eq_false (by omega)).symm,rfl⟩
theorem D8(x:Int)(w:VA)(h: -1<=x)(h2:x<=9223372036854775807):Calls Tryz.prog 172 #[.int .i64 x] w fun e w'=>e= .returned (.int .i64 (fP x))/\w=w':=by
 go_enter Tryz.func172,Tryz.ntmps172
 unfold fP;by_cases h1:0<x
 . rw[if_pos h1];go_wp2;go_ret;exact⟨rfl,rfl⟩
 . rw[if_neg h1];go_wp2;go_ret;exact⟨rfl,rfl⟩
theorem Fb(d:Dk)(s:Dsl)(i:Int)(w:VA):Calls Tryz.prog 118 #[dkV d s,.int .i64 i] w fun e w'=>e= .returned (.bool (hasB d.ss.length i))/\VE w w':=by
 have HB:Hid (VE w (w.alloc (.cells (dkC d s) 25))):=(ah _ w).alloc aj _;obtain⟨k0,k1,k2,k3⟩:=(Bk.new w 25 (dkC d s)).dk4;obtain⟨n,hn⟩:=NX9 d.ss.length
 simp only[dkV,dkC,hn]at *
 go_enter Tryz.func118,Tryz.ntmps118
 by_cases h1:0<=i
 . by_cases h2:i<n
   . go_wp2;go_ret;exact⟨bF (decide_eq_true (by omega)).symm,HB.o⟩
   . go_wp2;go_ret;exact⟨bF (decide_eq_false (by omega)).symm,HB.o⟩
 . go_wp2;go_ret;exact⟨bF (decide_eq_false (by omega)).symm,HB.o⟩
theorem rV(d:Dk)(s:Dsl)(B:Nat)(w:VA)(hd:d.Ok)(hm:DkM w B d s)(hB:B<=w.heap.size)(hp:d.pn.length<=1000000):Calls Tryz.prog 58 #[dkV d s] w fun e w'=>e= .returned (.int .i64 0)/\VE w w':=by
 obtain⟨W,hW⟩:=NX9 (w.alloc (.cells (dkC d s) 25))
 have HB0:VF w W:=by rw[<-hW];exact(ah _ w).alloc aj _
 have HK:Hid (Bk W w.heap.size 25 (dkC d s)):=by rw[<-hW];exact Bk.new w _ _
 have HM:Hid (DkM W B d s):=hm.below HB0.o hB;have HD:=ai hd;have HH:=ai (fun i W=>Fb d s i W);have h1:=hd.n0;have h2:=hd.n1;have h3:=hd.sz0;have h4:=hd.sz1;have h5:=hd.lf;obtain⟨n,hn⟩:=NX9 d.ss.length
 obtain⟨m,hmm⟩:=NX9 d.pn.length
 have HN:=ai hn;have g:=ai hmm;have HR:=ai (FD n d.sz W);rw[show jP n d.sz=true from decide_eq_true (by rw[<-hn];exact⟨by omega,by omega,by omega,by omega⟩)]at HR;simp only[dkV,dkC,hn,hmm]at HK hW h1 h2 hp HH ⊢;clear hd hm hn hmm;obtain⟨k0,k1,k2,k3⟩:=HK.o.dk4;have h:w.heap.size<W.heap.size:=HK.o.lt
 go_enter Tryz.func58,Tryz.ntmps58
 go_wp2_with fail;refine HR.o.mono ?_;rintro e w1 ⟨rfl,rfl⟩;go_wp2_with fail
 go_loopw[17] (fun i wr=>∃k:Nat,k<=n/\i= .int .i64 k/\W=wr) (fun i _=>n - (intOf i).toNat)
 case atStart=>exact⟨0,ZX _,rfl,rfl⟩
 case round =>
  obtain⟨k,hk,rfl,rfl⟩:=hrel;by_cases hlt:k<n
  . obtain⟨b,off,x,hA,hb,hx,hc⟩:=HM.o.ss.at_ dJ (by omega) (by rw[HN.o];exact hlt)
    have x0:=hc 0 _ rfl;have hs: ((ofL x).size:Int)=d.sz:=by rw[bU];have:=HD.o.len x (Z7 hx);omega
    rw[hA]at k1 ⊢;simp only[Nat.mul_one,Nat.add_zero]at x0;clear hc hx;go_wp2_with fail;go_roundw
    case rel=>exact⟨k+1,by omega,by go_num,trivial⟩
    case measure=>simp[intOf];omega
  . go_wp2_with fail
    go_loopw[30] (fun i wr=>∃k:Nat,k<=m/\i= .int .i64 k/\VF W wr) (fun i _=>m - (intOf i).toNat)
    case atStart=>exact⟨0,ZX _,rfl,ah _ _⟩
    case round =>
     obtain⟨k,hk,rfl,hbw⟩:=hrel;have a:=ai hbw.o;clear hbw hlt k0 k1 k2 k3;have zr:w.heap.size<wr.heap.size:=by have:=a.o.size;omega
     obtain⟨k0,k1,k2,k3⟩:=(HK.o.below a.o h).dk4;by_cases hlt:k<m
     . obtain⟨b,off,⟨xi,xd⟩,hA,hb,hx,hc⟩:=(HM.o.below a.o (by have:=h;omega)).pn.at_ uq (by omega) (by rw[g.o];exact hlt)
       have x0:=hc 0 _ rfl;have x1:=hc 1 _ rfl;obtain⟨g1,g2⟩:=HD.o.pn _ (Z7 hx);have hs: ((ofL xd).size:Int)=d.sz:=by rw[bU];simp only at g2;omega
       have c:=ai (HH.o xi);rw[show hasB n xi=true from decide_eq_true (by rw[<-HN.o];simp only at g1;omega)]at c;simp only[Nat.add_zero]at x0;rw[hA]at k2 c ⊢;clear hc hx g1 g2;go_wp2_with fail;refine(c.o _).mono ?_;rintro e w2 ⟨rfl,hb2⟩;have f:VF W w2:=(a.o.alloc a.o.size _).trans (hb2.mono (by have:=a.o.size;simp;omega));have HX:=ai (((Bk.new wr 175 #[.int .i64 xi,.string (ofL xd)]).below hb2 (by simp)));have j:=ai (HK.o.below f.o h);clear hb2 k0 k1 k2 k3 x0 x1;obtain⟨k0,k1,k2,k3⟩:=j.o.dk4;have x0:=HX.o.cell 0;have x1:=HX.o.cell 1;simp at x0 x1;go_wp2_with fail;go_roundw
       case rel=>exact⟨k+1,by omega,by go_num,f.o⟩
       case measure=>simp[intOf];omega
     . go_wp2_with fail
       go_ret
       exact⟨rfl,HB0.o.trans (a.o.mono (by omega))⟩
