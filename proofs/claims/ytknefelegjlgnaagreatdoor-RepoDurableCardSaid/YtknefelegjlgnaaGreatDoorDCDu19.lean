/-
  Lemmas of the card.
-/
import Derived.Test.YtknefelegjlgnaaGreatDoorDCDu18
set_option maxRecDepth 100000
set_option maxHeartbeats 8000000
namespace Go.Proofs.YtknefelegjlgnaaGreatDoor
open Go.RowKit
theorem vv: (Tryz.prog.info? 166).map (fun i=>(i.zero,i.size,i.bytes))=some (some .nilFunc,1,8):=by kernel_rfl
theorem OpV.grown{w w':MQ}{B:Nat}{v:MS}{o:Dop}{row:Option Nat}(h:OpV w B v o)(hg:w.grownBy w' row)(hr:∀k,row=some k->∃cur,w.heap[k]? =some (.cells cur 166 (0,0))):OpV w' B v o:=by
 cases o with
 | none=>exact h
 | some x =>
   obtain⟨b1,b2,h1,h2,e,k1,k2⟩:=h;refine⟨b1,b2,h1,h2,e,k1.grown hg (fun e=>?_),k2.grown hg (fun e=>?_)⟩
   . obtain⟨cur,hc⟩:=hr b1 e.symm
     rw[show w.heap[b1]? =_ from k1]at hc;cases hc
   . obtain⟨cur,hc⟩:=hr b2 e.symm
     rw[show w.heap[b2]? =_ from k2]at hc;cases hc
theorem OpV.one{w:MQ}{B:Nat}{v:MS}{o:Dop}(h:OpV w B v o):v.oneCell'=true:=by
 cases o with
 | none=>rw[show v=_ from h];rfl
 | some x=>obtain⟨_,_,_,_,e,_⟩:=h;rw[e];rfl
theorem OpV.fn{w:MQ}{B:Nat}{v:MS}{x:Nat×MU}(h:OpV w B v (some x)):∃p1 p2,v= .func (.func 169) #[] #[p1,p2]:=by
 obtain⟨_,_,_,_,e,_⟩:=h;exact⟨_,_,e⟩
structure OpsO(w:MQ)(base:Nat)(A:OA)(n c:Nat)(vs:List MS)(os:List Dop):Prop where
 own:w.ownsRow base 166 1 (.slice A n c) n vs
 len:os.length=n
 op:∀(i:Nat) v o,vs[i]? =some v->os[i]? =some o->OpV w w.heap.size v o
theorem OpsO.m{w:MQ}{base:Nat}{A:OA}{n c:Nat}{vs:List MS}{os:List Dop}(h:OpsO w base A n c vs os):OpsM w w.heap.size A n vs os:=⟨Sl.of_own h.own,h.len,h.op⟩
theorem OpsO.below{w w':MQ}{base:Nat}{A:OA}{n c:Nat}{vs:List MS}{os:List Dop}(h:OpsO w base A n c vs os)(hb:Below w.heap.size w w'):OpsO w' base A n c vs os :=
 ⟨h.own.kept (row:=none) ⟨hb.os,hb.tape,hb.output,hb.size,fun k hk _=>hb.block k hk⟩ (by cases hv: (Value.slice A n c).ownBlock with | none=>exact .inl rfl | some k=>exact .inr (by simp)),h.len,fun i v o hv ho=>((h.op i v o hv ho).below hb ai).more hb.size⟩
theorem OpsO.snoc{w w':MQ}{base:Nat}{A A':OA}{n c c':Nat}{vs:List MS}{os:List Dop}{v:MS}{o:Dop}(h:OpsO w base A n c vs os)(hv:OpV w w.heap.size v o)(ho:w'.ownsRow base 166 1 (.slice A' (n+1) c') (n+1) (vs++ [v]))(hg:w.grownBy w' (Value.slice A n c).ownBlock):OpsO w' base A' (n+1) c' (vs++ [v]) (os++ [o]):=by
 have hr:∀k,(Value.slice A n c).ownBlock=some k->∃cur,w.heap[k]? =some (.cells cur 166 (0,0)):=fun k hk=>(bT h.own hk).2;have hl:vs.length=n:=by have:=h.own.1;omega
 refine⟨ho,by rw[ae,h.len];rfl,fun i u p hu hp=>?_⟩;have hsz:=hg.size;rw[List.getElem?_append]at hu hp;rw[hl]at hu;rw[h.len]at hp;split at hu
 . rename_i hi
   rw[if_pos hi]at hp;exact((h.op i u p hu hp).grown hg hr).more hsz
 . rename_i hi
   rw[if_neg hi]at hp;have hi2:i - n=0:=by
    rcases Nat.eq_zero_or_pos (i - n) with h | h
    . exact h
    . rw[List.getElem?_eq_none (by simp;omega)]at hu;cases hu
   rw[hi2]at hu hp;cases hu;cases hp
   exact(hv.grown hg hr).more hsz
theorem Ie{S:List MU}{k p:Nat}{x:MU}(h:S[k]? =some x): (((S.take (k+1)).zipIdx p).map (fun q=>(q.2,q.1))).map some= (((S.take k).zipIdx p).map (fun q=>(q.2,q.1))).map some++ [some (p+k,x)]:=by
 have hk:=(List.getElem?_eq_some_iff.1 h).1;rw[aS h,List.zipIdx_append,List.map_append,List.map_append,List.length_take,Nat.min_eq_left (by omega)];rfl
def Me(n:Nat)(os:List Dop)(w:MQ)(e:Ending)(w':MQ):Prop:=∃A' n' c' vs,e= .returned (.slice A' n' c')/\OpsO w' w.heap.size A' n' c' vs os/\Below w.heap.size w w'/\n'<=n+1/\n'<=c'/\c'<=maxLen
theorem Ah(p e sz:Nat)(A:OA)(n c B:Nat)(S:List MU)(w:MQ)(h:Sl w B 1 A n (flat aA S))(hB:B<=w.heap.size)(hn:n<=1000)(hp:p<=1000)(hz:sz<=512) :
  Calls Tryz.prog 111 #[.int .i64 p,.slice A n c,.int .i64 e,.int .i64 sz] w (Me n ((dh p S e sz).map some) w):=by
 have HL:=ah (h.len dG (by omega));have H:=ah h;obtain⟨i0,hi,hz0,hz1,hz2⟩:=info_parts vv;have Hi:=ah hi;have Hz0:=ah hz0;have Hz1:=ah hz1;have Hz2:=ah hz2;have HW:=ah (fun(i:Nat)(x:MU)(w:MQ)=>kg i x w);clear hi hz0 hz1 hz2 h
 go_enter Tryz.func111,Tryz.ntmps111
 go_wp2_with fail
 go_loopw[0,9,14] (fun a v i wr=>∃(k:Nat)(A':OA)(c':Nat)(vs:List MS),k<=n/\i= .int .i64 k/\a= .int .i64 (p+k:Nat)/\v= .slice A' k c'/\Hid (OpsO wr w.heap.size A' k c' vs ((((S.take k).zipIdx p).map (fun q=>(q.2,q.1))).map some))/\Hid (Below w.heap.size w wr)/\k<=c'/\c'<=maxLen) (fun _ _ i _=>n - (intOf i).toNat)
 case atStart=>exact⟨0,none,0,[],ZZ _,rfl,rfl,rfl,⟨World.ownsRow_nil _ _ _ _,rfl,fun i v o hv=>by simp at hv⟩,af _ _,Nat.le_refl _,ZZ _⟩
 case round =>
  obtain⟨k,A',c',vs,hk,rfl,rfl,rfl,hO,hBel,hkc,hcm⟩:=hrel;by_cases hlt:k<n
  . obtain⟨b,off,x,rfl,hb,hx,hc⟩:=(H.out.below hBel.out hB).at_ dG (by omega) hlt
    have x0:=hc 0 _ rfl;simp only[Nat.mul_one,Nat.add_zero]at x0;have HS:=ah (Ie (p:=p) hx);clear hc hx;go_wp2_with fail;refine(HW.out (p+k) x _).mono ?_;rintro en w2 ⟨v,rfl,hv,hb2⟩;obtain⟨p1,p2,rfl⟩:=hv.fn;have HO2:=ah (hO.out.below hb2);have HB2:Hid (Below w.heap.size w w2):=hBel.out.trans (hb2.mono hBel.out.size);have HV:Hid (OpV (w2.alloc (.cells #[(.func (.func 169) #[] #[p1,p2])] 166)) (w2.alloc (.cells #[(.func (.func 169) #[] #[p1,p2])] 166)).heap.size (.func (.func 169) #[] #[p1,p2]) (some (p+k,x))):=(hv.below ((af w2.heap.size w2).alloc ai _) ai).more (by simp);have hv1:∀u∈ [(Value.func (.func 169) #[] #[p1,p2])],u.oneCell'=true:=fun u hu=>by rw[List.mem_singleton.1 hu];exact hv.one
    have HO3:Hid (OpsO (w2.alloc (.cells #[(.func (.func 169) #[] #[p1,p2])] 166)) w.heap.size A' k c' vs ((((S.take k).zipIdx p).map (fun q=>(q.2,q.1))).map some)):=HO2.out.below ((af w2.heap.size w2).alloc ai _);have z2:=HB2.out.size;clear hv hb2 hO
    go_wp2_with (at_builtin;refine aM ?_)
    refine aF ?_;refine iL (base:=w.heap.size) (size:=1) _ rfl (.tmp 18) (.tmp 22) 169 rfl 166 i0 _ 8 Tryz.underlying169 Hi.out Hz0.out Hz1.out Hz2.out rfl (by decide) (.slice A' k c') k vs (by rfl) HO3.out.own (w2.heap.size+1) (some ⟨w2.heap.size,0,none⟩) 1 1 [(.func (.func 169) #[] #[p1,p2])] (by rfl) (Sl.new w2 166 [(.func (.func 169) #[] #[p1,p2])] 1 rfl) hv1 (by unfold maxLen;omega) (by omega) (by simp;omega) ?_;intro A4 c4 w4 ho4 hg4 hc4 hm4;have HO4:=ah (HO3.out.snoc HV.out ho4 hg4);rw[<-HS.out]at HO4;have HB4:Hid (Below w.heap.size w w4):=(HB2.out.alloc (by omega) _).grown hg4 (by simp;omega) (fun g hg=>iw HO3.out.own g hg);have HM4:=ah hm4;clear ho4 hg4 hm4 HV HO3 hv1;go_wp2_with fail;go_roundw
    case rel=>exact⟨k+1,A4,c4,_,by omega,by go_num,by go_num,rfl,HO4.out,HB4.out,hc4,HM4.out⟩
    case measure=>simp[intOf];omega
  . obtain rfl:k=n:=by omega
    have HE:Hid (S.take k=S):=by show _=_;rw[<-HL.out,List.take_length]
    rw[HE.out]at hO;have HF:Hid (dh p S e sz= (S.zipIdx p).map (fun q=>(q.2,q.1))++ (if p+k<e then [(p+k,bB sz [])] else [])):=by show _=_;unfold dh;rw[HL.out]
    have HO:=ah hO.out;clear hO;by_cases h2:p+k<e
    . have HF2:Hid ((dh p S e sz).map some= ((S.zipIdx p).map (fun q=>(q.2,q.1))).map some++ [some (p+k,bB sz [])]):=by show _=_;rw[HF.out,if_pos h2,List.map_append];rfl
      have h2i: (p:Int)+ (k:Int)< (e:Int):=by omega
      have HPD:=ah (lZ [] sz wr (by simp) hz);rw[show ofL []= ⟨#[]⟩ from rfl]at HPD;go_wp2_with fail;refine HPD.out.mono ?_;rintro en w2 ⟨rfl,hb2⟩;have HB2:=ah hb2;clear hb2 HPD;go_wp2_with fail;refine(HW.out (p+k) (bB sz []) _).mono ?_;rintro en w3 ⟨v,rfl,hv,hb3⟩;obtain⟨p1,p2,rfl⟩:=hv.fn;have HO2:=ah ((HO.out.below HB2.out).below hb3);have HB3:Hid (Below w.heap.size w w3):=(hBel.out.trans (HB2.out.mono hBel.out.size)).trans (hb3.mono (Z0 hBel.out.size HB2.out.size));have HV:Hid (OpV (w3.alloc (.cells #[(.func (.func 169) #[] #[p1,p2])] 166)) (w3.alloc (.cells #[(.func (.func 169) #[] #[p1,p2])] 166)).heap.size (.func (.func 169) #[] #[p1,p2]) (some (p+k,bB sz []))):=(hv.below ((af w3.heap.size w3).alloc ai _) ai).more (by simp);have hv1:∀u∈ [(Value.func (.func 169) #[] #[p1,p2])],u.oneCell'=true:=fun u hu=>by rw[List.mem_singleton.1 hu];exact hv.one
      have HO3:Hid (OpsO (w3.alloc (.cells #[(.func (.func 169) #[] #[p1,p2])] 166)) w.heap.size A' k c' vs (((S.zipIdx p).map (fun q=>(q.2,q.1))).map some)):=HO2.out.below ((af w3.heap.size w3).alloc ai _);have z3:=HB3.out.size;clear hv hb3 HO HB2
      go_wp2_with (at_builtin;refine aM ?_)
      refine aF ?_;refine iL (base:=w.heap.size) (size:=1) _ rfl (.tmp 30) (.tmp 35) 169 rfl 166 i0 _ 8 Tryz.underlying169 Hi.out Hz0.out Hz1.out Hz2.out rfl (by decide) (.slice A' k c') k vs (by rfl) HO3.out.own (w3.heap.size+1) (some ⟨w3.heap.size,0,none⟩) 1 1 [(.func (.func 169) #[] #[p1,p2])] (by rfl) (Sl.new w3 166 [(.func (.func 169) #[] #[p1,p2])] 1 rfl) hv1 (by unfold maxLen;omega) (by omega) (by simp;omega) ?_;intro A4 c4 w4 ho4 hg4 hc4 hm4;have HO4:=ah (HO3.out.snoc HV.out ho4 hg4);rw[<-HF2.out]at HO4;have HB4:Hid (Below w.heap.size w w4):=(HB3.out.alloc (by omega) _).grown hg4 (by simp;omega) (fun g hg=>iw HO3.out.own g hg);have HM4:=ah hm4;clear ho4 hg4 hm4 HV HO3 hv1;go_wp2_with fail;go_ret
      exact⟨A4,k+1,c4,_,rfl,HO4.out,HB4.out,Nat.le_refl _,hc4,HM4.out⟩
    . have HF2:Hid ((dh p S e sz).map some= ((S.zipIdx p).map (fun q=>(q.2,q.1))).map some):=by show _=_;rw[HF.out,if_neg h2,List.append_nil]
      have h2i:¬(p:Int)+ (k:Int)< (e:Int):=by omega
      rw[<-HF2.out]at HO;go_wp2_with fail;go_ret
      exact⟨A',k,c',vs,rfl,HO.out,hBel.out,Nat.le_succ _,hkc,hcm⟩
section
variable {P : Program} {w : MQ} {base size : Nat} {e : TypeId}
theorem wD{ops:Array Oper}{o:Oper}{a:Act}{K:Act->MQ->Prop}{Q:Exit->Act->MQ->Prop}{E:Prop}(hgd:o.guard=none)(s x:Operand)(t:TypeId)
  (ho:o.op= .call {callee:= .builtin .append,args:=#[s,x],argTypes:=#[t,t]})
  (base:Nat) (e:TypeId) (i:TypeInfo) (z:MS) (size bytes:Nat) (ht:P.underlying t=some (.slice e)) (hi:P.info? e=some i) (hz:i.zero=some z)
  (hsize:i.size=size) (hby:i.bytes=bytes) (hzs:z.cells.size=size) (hsz:0<size)
  (v:MS) (n:Nat) (xs:List MS) (hs:a.eval s=v) (hown:w.ownsRow base e size v n xs)
  (B:Nat) (A:OA) (m c:Nat) (ys:List MS) (hx:a.eval x= .slice A m c) (hsl:Sl w B size A m ys) (h1:∀u∈ys,u.oneCell'=true)
  (h63:n+m<=maxLen) (hbytes: (n+m)*bytes<=140737488355328) (hbase:base<=w.heap.size)
  (h:∀A' c' w',w'.ownsRow base e size (.slice A' (n+m) c') (n+m) (xs++ys)->w.grownBy w' v.ownBlock->n+m<=c'->c'<=maxLen->K (a.put o.dst (.slice A' (n+m) c')) w') :
  if Region.wanted o (yielded ops a.tmps)=true then Oper.wp P o a w K Q else E:=by
 have hw:Region.wanted o (yielded ops a.tmps)=true:=by simp[Region.wanted,hgd]
 rw[if_pos hw];obtain⟨A',c',w',hr,ho',hg,hc1,hc2⟩:=jV (P:=P) t o.type i z bytes ht hi hz hsize hby hzs hsz hown (c:=c) hsl h1 h63 hbytes hbase;unfold Oper.wp;simp[execOp,ho,resolve,invoke,builtin,hs,hx,hr,Result.andThen];exact h A' c' w' ho' hg hc1 hc2
end
theorem OpsO.app{w w':MQ}{base:Nat}{A A':OA}{n m c c':Nat}{vs vs2:List MS}{os os2:List Dop}(h:OpsO w base A n c vs os)(hl:os2.length=m)(hv:∀(i:Nat) v o,vs2[i]? =some v->os2[i]? =some o->OpV w w.heap.size v o)(ho:w'.ownsRow base 166 1 (.slice A' (n+m) c') (n+m) (vs++vs2))(hg:w.grownBy w' (Value.slice A n c).ownBlock):OpsO w' base A' (n+m) c' (vs++vs2) (os++os2):=by
 have hr:∀k,(Value.slice A n c).ownBlock=some k->∃cur,w.heap[k]? =some (.cells cur 166 (0,0)):=fun k hk=>(bT h.own hk).2;have hvl:vs.length=n:=by have:=h.own.1;omega
 refine⟨ho,by rw[ae,h.len,hl],fun i u p hu hp=>?_⟩;have hsz:=hg.size;rw[List.getElem?_append]at hu hp;rw[hvl]at hu;rw[h.len]at hp;split at hu
 . rename_i hi
   rw[if_pos hi]at hp;exact((h.op i u p hu hp).grown hg hr).more hsz
 . rename_i hi
   rw[if_neg hi]at hp;exact((hv _ u p hu hp).grown hg hr).more hsz
def CG(rs:List MU)(w:MQ)(e:Ending)(w':MQ):Prop:=∃A c,e= .returned (.tuple #[.slice A rs.length c,.int .i64 0])/\Sl w' w'.heap.size 1 A rs.length (flat aA rs)/\rs.length<=c/\c<=maxLen/\Below w.heap.size w w'
theorem Ej(d:Dk)(s:Dsl)(B a u:Nat)(rs:List MU)(w:MQ)(hd:d.Ok)(hpn:d.pn= [])(hj:Jn d.sz d.ss a rs u)(hm:DkM w B d s)(hB:B<=w.heap.size) :
  Calls Tryz.prog 36 #[dkV d s] w (CG rs w):=by
 obtain⟨W,hW⟩:∃W,w.alloc (.cells (dkC d s) 25)=W:=⟨_,rfl⟩
 have HB0:Hid (Below w.heap.size w W):=by rw[<-hW];exact(af _ w).alloc ai _
 have zW:W.heap.size=w.heap.size+1:=by rw[<-hW];simp
 have HK:Hid (Bk W w.heap.size 25 (dkC d s)):=by rw[<-hW];exact Bk.new w _ _
 have HO:=ah (sG d s B a u rs W hd hpn hj (hm.below HB0.out hB) (by omega));have HW:=ah hW;clear hW hm hd hj hpn;obtain⟨n,hn⟩:∃n,d.ss.length=n:=⟨_,rfl⟩
 obtain⟨m,hm⟩:∃m,d.pn.length=m:=⟨_,rfl⟩
 simp only[dkV,dkC,hn,hm]at HO HK HW ⊢;obtain⟨k0,k1,k2,k3⟩:=HK.out.dk4;clear hn hm
 go_enter Tryz.func36,Tryz.ntmps36
 go_wp2_with fail;rw[HW.out];refine HO.out.mono ?_;rintro e w1 ⟨A,c,rfl,hs,hc1,hc2,hb1⟩;have HS:=ah hs;have HC1:=ah hc1;have HC2:=ah hc2;have HB1:Hid (Below w.heap.size w w1):=HB0.out.trans (hb1.mono (by omega));clear hs hc1 hc2 hb1
 go_wp2
 go_ret2
 exact⟨A,c,rfl,(HS.out.alloc ai _).more (by simp),HC1.out,HC2.out,HB1.out.alloc HB1.out.size _⟩
def zDk:Dk:=⟨0,[],[],0⟩
def cB(d:Dk)(a u:Nat)(l:List MU):Dk×Int :=
 if ¬dS l=true then(zDk,4) else if hf d.ss - u< (secs d.sz (az l)).length then(zDk,19) else aH d (eD d.sz d.ss a u (secs d.sz (az l)))
theorem ng(w:MQ):DkM w w.heap.size zDk ⟨none,0,none,0⟩:=⟨Sl.nil _ _ _ _,Sl.nil _ _ _ _⟩
theorem Fq(d:Dk)(s:Dsl)(B a u:Nat)(rs l:List MU)(A:OA)(n c B2:Nat)(w:MQ)(hd:d.Ok)(hpn:d.pn= [])(hj:Jn d.sz d.ss a rs u)(hm:DkM w B d s)(hB:B<=w.heap.size)
  (hs:Sl w B2 1 A n (flat aA l)) (hB2:B2<=w.heap.size) (hn:n<=maxLen) (hl0:l≠ []) :
  Calls Tryz.prog 77 #[dkV d s,.slice A n c] w (aW (cB d a u l).1 (cB d a u l).2 w):=by
 obtain⟨W,hW⟩:∃W,(w.alloc (.cells (dkC d s) 25)).alloc (.cells #[.int .i64 0,.slice none 0 0,.slice none 0 0,.int .i64 0] 25)=W:=⟨_,rfl⟩
 have HB0:Hid (Below w.heap.size w W):=by rw[<-hW];exact((af _ w).alloc ai _).alloc (by simp) _
 have HK:Hid (Bk W w.heap.size 25 (dkC d s)):=by rw[<-hW];exact(Bk.new w _ _).alloc _
 have HZ:Hid (Bk W (w.heap.size+1) 25 #[.int .i64 0,.slice none 0 0,.slice none 0 0,.int .i64 0]):=by
  rw[<-hW];have:=Bk.new (w.alloc (.cells (dkC d s) 25)) 25 #[.int .i64 0,.slice none 0 0,.slice none 0 0,.int .i64 0]
  rwa[Z9]at this
 have zW:W.heap.size=w.heap.size+2:=by rw[<-hW];simp
 have HM:Hid (DkM W B d s):=hm.below HB0.out hB;have HO:=ah (sG d s B a u rs W hd hpn hj HM.out (by omega));have HE:=ah (fun w' (hb:Below W.heap.size W w')=>wB A n c B2 d.sz l w' (hs.below (HB0.out.trans (hb.mono (by omega))) hB2) (by have:=hb.size;omega) hn hd.sz0 hd.sz1);have HFI:=ah (fun w'=>mi d s a w' (by have:=hj.n3;omega) hd.n1 hj.act);have HHA:=ah (fun w'=>oQ d s w' (by have:=hj.n3;omega) hd.n1);have HR1:Hid (¬dS l=true->∀e w',aW zDk 4 w e w'->aW (cB d a u l).1 (cB d a u l).2 w e w'):=fun h e w' hh=>by rw[cB,if_pos h];exact hh
 have HR2:Hid (dS l=true->hf d.ss - u< (secs d.sz (az l)).length->∀e w',aW zDk 19 w e w'->aW (cB d a u l).1 (cB d a u l).2 w e w'):=fun h h2 e w' hh=>by rw[cB,if_neg (by simp[h]),if_pos h2];exact hh
 have HR3:Hid (dS l=true->¬hf d.ss - u< (secs d.sz (az l)).length->∀e w',aW (aH d (eD d.sz d.ss a u (secs d.sz (az l)))).1 (aH d (eD d.sz d.ss a u (secs d.sz (az l)))).2 w e w'->aW (cB d a u l).1 (cB d a u l).2 w e w'):=fun h h2 e w' hh=>by rw[cB,if_neg (by simp[h]),if_neg h2];exact hh
 have hul:=hj.u_le;have HD:=ah hd;have HJ:=ah hj;have HW:=ah hW;have HNE:=ah hl0;have HPN:=ah hpn;generalize aW (cB d a u l).1 (cB d a u l).2 w=RR at *;clear hd hj hm hs hl0 hW hpn;obtain⟨ns,hns⟩:∃ns,d.ss.length=ns:=⟨_,rfl⟩
 obtain⟨np,hnp⟩:∃np,d.pn.length=np:=⟨_,rfl⟩
 have HNS:=ah hns;have HNP:=ah hnp;simp only[dkV,dkC,hns,hnp]at HO HFI HHA HK HW ⊢;clear hns hnp;obtain⟨k0,k1,k2,k3⟩:=HK.out.dk4;obtain⟨z0,z1,z2,z3⟩:=HZ.out.dk4
 go_enter Tryz.func77,Tryz.ntmps77
 go_wp2_with fail;rw[HW.out];refine HO.out.mono ?_;rintro e w1 ⟨A1,c1,rfl,hs1,hc1,hc2,hb1⟩;obtain⟨W2,hW2⟩:∃W2,w1.alloc (.cells #[.int .i64 a,.slice A1 rs.length c1,.int .i64 u] 142)=W2:=⟨_,rfl⟩
 have HB2:Hid (Below W.heap.size W W2):=by rw[<-hW2];exact hb1.alloc hb1.size _
 have HC2:Hid (Bk W2 w1.heap.size 142 #[.int .i64 a,.slice A1 rs.length c1,.int .i64 u]):=by rw[<-hW2];exact Bk.new w1 _ _
 have z1s:=hb1.size;have z2s:W2.heap.size=w1.heap.size+1:=by rw[<-hW2];simp
 have HK2:Hid (Bk W2 w.heap.size 25 #[.int .i64 d.sz,.slice s.a1 ns s.c1,.slice s.a2 np s.c2,.int .i64 d.lf]):=HK.out.below HB2.out (by omega);have HZ2:Hid (Bk W2 (w.heap.size+1) 25 #[.int .i64 0,.slice none 0 0,.slice none 0 0,.int .i64 0]):=HZ.out.below HB2.out (by omega);obtain⟨q0,q1,q2,q3⟩:=HK2.out.dk4;have HW2:=ah hW2;rw[<-hW2]at q0 q1 q2 q3;clear hs1 hc1 hc2 hb1 hW2 HO k0 k1 k2 k3 z0 z1 z2 z3;go_wp2_with fail;rw[HW2.out];refine(HE.out _ HB2.out).mono ?_;rintro e w3 ⟨hb3,h3⟩;have HB3:Hid (Below W.heap.size W w3):=HB2.out.trans (hb3.mono (by omega));have HK3:=ah (HK2.out.below hb3 HK2.out.lt);have HZ3:=ah (HZ2.out.below hb3 HZ2.out.lt);have HC3:=ah (HC2.out.below hb3 HC2.out.lt);have z3s:=hb3.size;obtain⟨q0,q1,q2,q3⟩:=HK3.out.dk4;obtain⟨z0,z1,z2,z3⟩:=HZ3.out.dk4;obtain⟨f0,f1,f2,f3⟩:=fr4 HZ3.out;obtain⟨g0,g1,g2⟩:=HC3.out.three;clear hb3;by_cases hf:dS l=true
 . rw[if_pos ⟨hf,HNE.out⟩]at h3
   obtain⟨A3,c3,rfl,ho3,hcc,hcm⟩:=h3;have HO3:=ah ho3;have HCC:=ah hcc;have HCM:=ah hcm;have HF:=ah hf;have hsf:SecF d.sz l (secs d.sz (az l)):=⟨fitB_iff.1 hf,rfl⟩
   obtain⟨S,hS⟩:∃S,secs d.sz (az l)=S:=⟨_,rfl⟩
   rw[hS]at hsf ho3 HO3 HCC;have HSQ:=ah hS;rw[hS]at HR2 HR3 ⊢;obtain⟨t,S1,hSc,htl⟩:=hsf.cons HD.out.sz0;obtain⟨m,hm⟩:∃m,S.length=m:=⟨_,rfl⟩
   have hm1:0<m:=by rw[<-hm,hSc];simp
   rw[hm]at ho3 HO3 HCC HR2 HR3 ⊢;have HMM:=ah hm;obtain⟨gb,rfl⟩:∃gb,A3=some ⟨gb,0,none⟩:=by
    rcases ho3.2 with ⟨_,h⟩ | ⟨g,cap,cur,hv,_⟩
    . omega
    . cases hv;exact⟨g,rfl⟩
   have HSF:=ah hsf;have HSC:=ah hSc;have HTL:=ah htl;have hmi:¬((m:Int)=0):=by omega
   obtain⟨h,hh⟩:∃h,Go.Proofs.YtknefelegjlgnaaGreatDoor.hf d.ss=h:=⟨_,rfl⟩
   rw[hh]at HR2 HR3 HHA hul;have hmle:m<=65600000:=by rw[<-hm,<-hS];exact Z0 (xk HD.out.sz0 _) (by have:=mG (fitB_iff.1 hf);have:=ek (n:=(bJ l).length) (by omega);simp only[az,Z5,ae];omega)
   have hhle:h<=1000:=by rw[<-hh];unfold Go.Proofs.YtknefelegjlgnaaGreatDoor.hf;have:=HNS.out;have:=HD.out.n1;omega
   have HHH:=ah hh;clear ho3 hcc hcm hsf hS hSc htl hm hh hf;go_wp2_with fail
   go_region_held3 (fun w'=>w'.cell? ⟨w.heap.size,0,none⟩=some (.int .i64 d.sz)/\w'.cell? ⟨w.heap.size,1,none⟩=some (.slice s.a1 ns s.c1)/\w'.cell? ⟨w.heap.size,2,none⟩=some (.slice s.a2 np s.c2)/\w'.cell? ⟨w.heap.size,3,none⟩=some (.int .i64 d.lf)/\w'.cell? ⟨w1.heap.size,2,none⟩=some (.int .i64 u))
    (first | exact⟨q0,q1,q2,q3,g2⟩ | exact⟨m0.out,m1.out,m2.out,m3.out,m4.out⟩)
    (first
      | (go_at_call 110;refine(HHA.out _).mono ?_;rintro e w4 ⟨rfl,hb4⟩
         have HB4:Hid (Below w3.heap.size w3 w4):=((af _ w3).drew).trans hb4;obtain⟨u0,u1,u2,u3⟩:=(HK3.out.below HB4.out HK3.out.lt).dk4;obtain⟨_,_,u4⟩:=(HC3.out.below HB4.out HC3.out.lt).three;have m0:=ah u0;have m1:=ah u1;have m2:=ah u2;have m3:=ah u3;have m4:=ah u4;clear hb4 u0 u1 u2 u3 u4))
   clear q0 q1 q2 q3 g0 g1 g2 f0 f1 f2 f3 z0 z1 z2 z3 m0 m1 m2 m3 m4;have z4s:=HB4.out.size;have HB4W:Hid (Below W.heap.size W w4):=HB3.out.trans (HB4.out.mono (by omega));have HK4:=ah (HK3.out.below HB4.out HK3.out.lt);have HZ4:=ah (HZ3.out.below HB4.out HZ3.out.lt);have HC4:=ah (HC3.out.below HB4.out HC3.out.lt);have HO4:Hid (w4.ownsRow W2.heap.size 9 1 (.slice (some ⟨gb,0,none⟩) m c3) m (flat aA S)):=fJ HO3.out HB4.out;obtain⟨q0,q1,q2,q3⟩:=HK4.out.dk4;obtain⟨z0,z1,z2,z3⟩:=HZ4.out.dk4;obtain⟨f0,f1,f2,f3⟩:=fr4 HZ4.out;obtain⟨g0,g1,g2⟩:=HC4.out.three;have hwr:IntKind.i64.wrap ((h:Int) - (u:Int))= (h:Int) - (u:Int):=by rw[IntKind.wrap_i64];omega
   by_cases hfull:h - u<m
   . have hli: (h:Int) - (u:Int)< (m:Int):=by omega
     have HFU:=ah hfull;clear hfull;go_wp2_with fail;refine ZY (fq Tryz.results77 rfl (HZ4.out.set4 _ _ _ _) rfl) rfl ?_;exact HR2.out HF.out HFU.out _ _ ⟨⟨none,0,none,0⟩,rfl,ng _,dF (HB0.out.trans (HB4W.out.mono (by omega))) (by omega) _ _ _ _⟩
   . have hli:¬(h:Int) - (u:Int)< (m:Int):=by omega
     have HFU:=ah hfull;clear hfull HR2;obtain⟨st,hst⟩:∃st,aC d.ss a=st:=⟨_,rfl⟩
     rw[hst]at HFI;have hfa:=gm (ss:=d.ss) HJ.out.act HJ.out.n3;rw[hst,HHH.out,HNS.out]at hfa;have hns:=HD.out.n1;rw[HNS.out]at hns;have HST:=ah hst;clear hst;go_wp2_with fail;refine(HFI.out _).mono ?_;rintro e w5 ⟨rfl,hb5⟩;have z5s:=hb5.size;have HB5W:Hid (Below W.heap.size W w5):=HB4W.out.trans (hb5.mono (by omega));have HK5:=ah (HK4.out.below hb5 HK4.out.lt);have HZ5:=ah (HZ4.out.below hb5 HZ4.out.lt);have HC5:=ah (HC4.out.below hb5 HC4.out.lt);have HO5:Hid (w5.ownsRow W2.heap.size 9 1 (.slice (some ⟨gb,0,none⟩) m c3) m (flat aA S)):=fJ HO4.out hb5;obtain⟨hgb,cur,hcur,hcu⟩:=mZ HO5.out;obtain⟨fs,hfs⟩:∃fs,ofL (1::t)=fs:=⟨_,rfl⟩
     have hS0:S[0]? =some (1::t):=by rw[HSC.out];rfl
     have x0:w5.cell? ⟨gb,0,none⟩=some (.string fs):=by
      rw[hcur.cell,hcu 0 _ (by have:=gy (enc:=aA) dG S 0 0 _ hS0 (by omega);simpa [aA] using this),hfs]
     have xf:=hcur.free 0;have hfz:fs.size=t.length+1:=by rw[<-hfs,bG];rfl
     have hfz1: (1:Int)<= (fs.size:Int):=by omega
     have HF2:Hid ((⟨#[0]⟩:MR)++fs.extract 1 fs.size=ofL (0::t)):=by
      show _=_;have h1:fs.extract 1 fs.size=ofL t:=by rw[<-hfs,<-iE ((ofL (1::t)).extract 1 (ofL (1::t)).size),mF,bO];rfl
      rw[h1,show(⟨#[0]⟩:MR)=ofL [0] from rfl,mM];rfl
     have htl2:t.length<=512:=by have:=HTL.out;have:=HD.out.sz1;rw[Z5]at *;omega
     have hbig:¬(9223372036854775807<1+t.length):=by omega
     have HFS:=ah hfs;rw[hfz]at HF2;obtain⟨f3s,hf3s⟩:∃x,(⟨#[0]⟩:MR)++fs.extract 1 (t.length+1)=x:=⟨_,rfl⟩
     rw[hf3s]at HF2;have HF3S:=ah hf3s;have hgl:=hcur.lt;clear hb5 hcur hcu hfs hS0 q0 q1 q2 q3 z0 z1 z2 z3 f0 f1 f2 f3 g0 g1 g2 hf3s;obtain⟨q0,q1,q2,q3⟩:=HK5.out.dk4;obtain⟨g0,g1,g2⟩:=HC5.out.three;go_wp2_with fail;rw[HF3S.out,HF2.out];obtain⟨w6,hw6⟩:∃w6,w5.setCell ⟨gb,0,none⟩ (.string (ofL (0::t)))=w6:=⟨_,rfl⟩
     have HB6W:Hid (Below W.heap.size W w6):=by rw[<-hw6];exact HB5W.out.setCell (p:=⟨gb,0,none⟩) (by show W.heap.size<=gb;omega) _
     have z6s:w6.heap.size=w5.heap.size:=by rw[<-hw6];simp
     have HK6:Hid (Bk w6 w.heap.size 25 #[.int .i64 d.sz,.slice s.a1 ns s.c1,.slice s.a2 np s.c2,.int .i64 d.lf]):=by rw[<-hw6];exact HK5.out.far (p:=⟨gb,0,none⟩) (by show w.heap.size≠gb;omega) _
     have HZ6:Hid (Bk w6 (w.heap.size+1) 25 #[.int .i64 0,.slice none 0 0,.slice none 0 0,.int .i64 0]):=by rw[<-hw6];exact HZ5.out.far (p:=⟨gb,0,none⟩) (by show w.heap.size+1≠gb;omega) _
     have HO6:Hid (w6.ownsRow W2.heap.size 9 1 (.slice (some ⟨gb,0,none⟩) m c3) m (flat aA (gZ S))):=by
      have h:=qZ (i:=0) HO5.out (.string (ofL (0::t)));rw[wM]at h;have e:gZ S=S.set 0 (0::t):=by rw[HSC.out];rfl
      rw[<-hw6,e];exact h
     rw[hw6];clear hw6 x0 xf hbig hfz hfz1 q0 q1 q2 q3 g0 g1 g2;obtain⟨q0,q1,q2,q3⟩:=HK6.out.dk4;have HFL:=ah (fun w' (hb:Below w6.heap.size w6 w')=>Ah (st+u) (st+h) d.sz (some ⟨gb,0,none⟩) m c3 w6.heap.size (gZ S) w' ((Sl.of_own HO6.out).below hb ai) hb.size (by omega) (by omega) HD.out.sz1);rw[Int.natCast_add,Int.natCast_add]at HFL;have hwst:IntKind.i64.wrap ((st:Int)+ (h:Int))= (st:Int)+ (h:Int):=by rw[IntKind.wrap_i64];omega
     go_region_held3 (fun w'=>w'.cell? ⟨w.heap.size,0,none⟩=some (.int .i64 d.sz)/\w'.cell? ⟨w.heap.size,1,none⟩=some (.slice s.a1 ns s.c1)/\w'.cell? ⟨w.heap.size,2,none⟩=some (.slice s.a2 np s.c2)/\w'.cell? ⟨w.heap.size,3,none⟩=some (.int .i64 d.lf))
      (first | exact⟨q0,q1,q2,q3⟩ | exact⟨m0.out,m1.out,m2.out,m3.out⟩ | exact⟨n0.out,n1.out,n2.out,n3.out⟩)
      (first
        | (go_at_call 110;refine(HHA.out _).mono ?_;rintro e w7 ⟨rfl,hb7⟩
           have HB7:Hid (Below w6.heap.size w6 w7):=((af _ w6).drew).trans hb7;obtain⟨u0,u1,u2,u3⟩:=(HK6.out.below HB7.out HK6.out.lt).dk4;have m0:=ah u0;have m1:=ah u1;have m2:=ah u2;have m3:=ah u3;clear hb7 u0 u1 u2 u3)
        | (go_at_call 111;refine(HFL.out _ HB7.out).mono ?_;rintro e w8 ⟨A8,n8,c8,vs,rfl,ho8,hb8,hn8,hc8,hm8⟩
           have HB8:Hid (Below w6.heap.size w6 w8):=HB7.out.trans (hb8.mono HB7.out.size);obtain⟨u0,u1,u2,u3⟩:=(HK6.out.below HB8.out HK6.out.lt).dk4;have n0:=ah u0;have n1:=ah u1;have n2:=ah u2;have n3:=ah u3;have HO8:=ah ho8;have HN8:=ah hn8;have HC8:=ah hc8;have HM8:=ah hm8;have z78:=HB7.out.size;have hb78:=hb8.size;clear hb8 ho8 hn8 hc8 hm8 u0 u1 u2 u3))
     obtain⟨hksum,hfit⟩:=uQ HJ.out HSF.out (by rw[HMM.out,HHH.out];omega);have HFIT:=ah hfit;have HOPS:Hid ((dh (st+u) (gZ S) (st+h) d.sz).map some++ [none,some (st+u,1::t),none]=eD d.sz d.ss a u S):=by
      show _=_;unfold eD;rw[HST.out,HHH.out,show S.headD []=1::t by rw[HSC.out];rfl]
     have hoslen: ((dh (st+u) (gZ S) (st+h) d.sz).map some).length=n8:=HO8.out.len;have HOSL:=ah hoslen;obtain⟨os,hos⟩:∃os,(dh (st+u) (gZ S) (st+h) d.sz).map some=os:=⟨_,rfl⟩
     rw[hos]at HO8 HOPS HOSL;have HW98:=ah (fun w'=>kg (st+u) (1::t) w');rw[HFS.out,Int.natCast_add]at HW98;have HMW:Hid (DkM w8 W.heap.size d s):=(HM.out.more hB |>.more (by omega)).below (HB6W.out.trans (HB8.out.mono (by omega))) ai;clear hfit hoslen hos n0 n1 n2 n3 m0 m1 m2 m3 q0 q1 q2 q3;obtain⟨i0,hi,hzz0,hzz1,hzz2⟩:=info_parts vv;have Hi:=ah hi;have Hz0:=ah hzz0;have Hz1:=ah hzz1;have Hz2:=ah hzz2;clear hi hzz0 hzz1 hzz2;have HK8:=ah (HK6.out.below HB8.out HK6.out.lt);have HZ8:=ah (HZ6.out.below HB8.out HZ6.out.lt);obtain⟨q0,q1,q2,q3⟩:=HK8.out.dk4;have z8s:=HB8.out.size;have z8s':w7.heap.size<=w8.heap.size:=hb78;obtain⟨d12,hd12⟩:∃x,(aH d (eD d.sz d.ss a u S)).1=x:=⟨_,rfl⟩
     obtain⟨x12,hx12⟩:∃x,(aH d (eD d.sz d.ss a u S)).2=x:=⟨_,rfl⟩
     have HRUN:=ah (fun w' A' c' vs' (ho:OpsM w' w'.heap.size A' (n8+3) vs' (eD d.sz d.ss a u S)) (hm:DkM w' w'.heap.size d s)=>uF d s w'.heap.size A' (n8+3) c' vs' (eD d.sz d.ss a u S) w' HD.out hm ai ho HFIT.out (by rw[HPN.out,ho.len];have:=HN8.out;simp;omega));unfold aW at HRUN;rw[hd12,hx12]at HRUN HR3;simp only[dkV,dkC,HNS.out,HNP.out]at HRUN;clear hd12 hx12;go_wp2_with fail
     go_region_held3 (fun w'=>w'.cell? ⟨w.heap.size,0,none⟩=some (.int .i64 d.sz)/\w'.cell? ⟨w.heap.size,1,none⟩=some (.slice s.a1 ns s.c1)/\w'.cell? ⟨w.heap.size,2,none⟩=some (.slice s.a2 np s.c2)/\w'.cell? ⟨w.heap.size,3,none⟩=some (.int .i64 d.lf))
      (first | exact⟨y0.out,y1.out,y2.out,y3.out⟩ | exact⟨r0.out,r1.out,r2.out,r3.out⟩ | exact⟨n0.out,n1.out,n2.out,n3.out⟩ | exact⟨t0.out,t1.out,t2.out,t3.out⟩ | exact⟨m0.out,m1.out,m2.out,m3.out⟩ | exact⟨q0,q1,q2,q3⟩)
      (first
        | (go_at_call 98;refine(HW98.out _).mono ?_;rintro e w9 ⟨v,rfl,hv,hb9⟩;obtain⟨p1,p2,rfl⟩:=hv.fn
           have HB9:Hid (Below w8.heap.size w8 w9):=((af _ w8).drew).trans hb9;have HV:=ah hv;have z9s:=HB9.out.size;have hbl:Below w9.heap.size w9 (w9.alloc (.cells #[.func (.func 100) #[] #[],.func (.func 169) #[] #[p1,p2],.func (.func 100) #[] #[]] 166)):=(af _ w9).alloc ai _;have HO10:Hid (OpsO (w9.alloc (.cells #[.func (.func 100) #[] #[],.func (.func 169) #[] #[p1,p2],.func (.func 100) #[] #[]] 166)) w7.heap.size A8 n8 c8 vs os):=(HO8.out.below HB9.out).below hbl;have HBL:=ah hbl;obtain⟨u0,u1,u2,u3⟩:=(HK8.out.below HB9.out HK8.out.lt).dk4;have m0:=ah u0;have m1:=ah u1;have m2:=ah u2;have m3:=ah u3;obtain⟨v0,v1,v2,v3⟩:=((HK8.out.below HB9.out HK8.out.lt).below hbl (by have:=HK8.out.lt;omega)).dk4;have t0:=ah v0;have t1:=ah v1;have t2:=ah v2;have t3:=ah v3;clear hv hb9 hbl u0 u1 u2 u3 v0 v1 v2 v3)
        | (go_at_call 97;refine(HRUN.out _ A11 c11 _ HO11.out.m (HMW.out.below HB11.out (by omega) |>.more (by have:=HB11.out.size;omega))).mono ?_
           rintro e w12 ⟨s12,rfl,hm12,hb12⟩;have HM12:=ah hm12;have HB12:Hid (Below w7.heap.size w8 w12):=HB11.out.trans (hb12.mono (by have:=HB11.out.size;omega));have HZ12:=ah (HZ8.out.below HB12.out (by omega));obtain⟨e0,e1,e2,e3⟩:=HZ12.out.dk4;obtain⟨u0,u1,u2,u3⟩:=(HK8.out.below HB12.out (by omega)).dk4;have r0:=ah u0;have r1:=ah u1;have r2:=ah u2;have r3:=ah u3;have hne1:w.heap.size≠w.heap.size+1:=by omega
           obtain⟨v0,v1,v2,v3⟩:=(((((HK8.out.below HB12.out (by omega)).far (p:=⟨w.heap.size+1,0,none⟩) hne1 (.int .i64 d12.sz)).far (p:=⟨w.heap.size+1,1,none⟩) hne1 (.slice s12.a1 d12.ss.length s12.c1)).far (p:=⟨w.heap.size+1,2,none⟩) hne1 (.slice s12.a2 d12.pn.length s12.c2)).far (p:=⟨w.heap.size+1,3,none⟩) hne1 (.int .i64 d12.lf)).dk4;have y0:=ah v0;have y1:=ah v1;have y2:=ah v2;have y3:=ah v3;clear u0 u1 u2 u3 v0 v1 v2 v3;obtain⟨f0,f1,f2,f3⟩:=fr4 HZ12.out;clear hm12 hb12)
        | (refine wD (by rfl) (.tmp 72) (.tmp 76) 169 (by rfl) w7.heap.size 166 i0 _ 1 8 Tryz.underlying169 Hi.out Hz0.out Hz1.out Hz2.out rfl (by decide) (.slice A8 n8 c8) n8 vs (by rfl) HO10.out.own (w9.heap.size+1) (some ⟨w9.heap.size,0,none⟩) 3 3 [.func (.func 100) #[] #[],.func (.func 169) #[] #[p1,p2],.func (.func 100) #[] #[]] (by rfl) (Sl.new w9 _ _ 3 rfl) (fun x hx=>by simp at hx;rcases hx with rfl | rfl | rfl <;> rfl) (by have:=HN8.out;unfold maxLen;omega) (by have:=HN8.out;omega) (by simp;omega) ?_
           intro A11 c11 w11 ho11 hg11 hc11 hm11;have HO11:Hid (OpsO w11 w7.heap.size A11 (n8+3) c11 (vs++ [.func (.func 100) #[] #[],.func (.func 169) #[] #[p1,p2],.func (.func 100) #[] #[]]) (os++ [none,some (st+u,1::t),none])):=HO10.out.app rfl (fun i x o hx ho=>by
            match i,hx,ho with
            | 0,hx,ho=>cases hx;cases ho;rfl
            | 1,hx,ho=>cases hx;cases ho;exact(HV.out.below HBL.out ai).more (by simp)
            | 2,hx,ho=>cases hx;cases ho;rfl) ho11 hg11
           rw[HOPS.out]at HO11;have HB11:Hid (Below w7.heap.size w8 w11):=(((HB9.out.trans (HBL.out.mono (by omega))).mono z8s').grown hg11 (by simp;omega) (fun g hg=>iw HO10.out.own g hg))
           obtain⟨u0,u1,u2,u3⟩:=(HK8.out.below HB11.out (by omega)).dk4;have n0:=ah u0;have n1:=ah u1;have n2:=ah u2;have n3:=ah u3;clear u0 u1 u2 u3 ho11 hg11 hc11 hm11))
     go_wp2_with fail;refine ZY (fq Tryz.results77 rfl (HZ12.out.set4 _ _ _ _) rfl) rfl ?_;exact HR3.out HF.out HFU.out _ _ ⟨s12,rfl,(HM12.out.box HZ12.out _ _ _ _).more (by simp),dF (HB0.out.trans ((HB6W.out.trans ((HB8.out.mono (by omega)).trans (HB12.out.mono (by omega)))).mono (by omega))) (by omega) _ _ _ _⟩
 . rw[if_neg (fun h=>hf h.1)]at h3
   have hp4: (eQ l).2=4:=by rw[eQ,if_neg hf]
   rw[hp4]at h3;subst h3;have HF:=ah hf;clear hf hp4
   go_wp2
   refine ZY (fq Tryz.results77 rfl (HZ3.out.set4 _ _ _ _) rfl) rfl ?_;exact HR1.out HF.out _ _ ⟨⟨none,0,none,0⟩,rfl,ng _,dF (HB0.out.trans (HB3.out.mono (by omega))) (by omega) _ _ _ _⟩
def dC(d:Dk)(a:Nat)(l:List MU):Dk×Int :=
 if ¬dS l=true then(zDk,4) else if hf d.ss< (secs d.sz (az l)).length then(zDk,19) else aH d (eY d.sz d.ss a (secs d.sz (az l)))
theorem Ez(d:Dk)(s:Dsl)(B a u:Nat)(rs l:List MU)(A:OA)(n c B2:Nat)(w:MQ)(hd:d.Ok)(hpn:d.pn= [])(hj:Jn d.sz d.ss a rs u)(hm:DkM w B d s)(hB:B<=w.heap.size)
  (hs:Sl w B2 1 A n (flat aA l)) (hB2:B2<=w.heap.size) (hn:n<=maxLen) (hl0:l≠ []) :
  Calls Tryz.prog 49 #[dkV d s,.slice A n c] w (aW (dC d a l).1 (dC d a l).2 w):=by
 obtain⟨W,hW⟩:∃W,(w.alloc (.cells (dkC d s) 25)).alloc (.cells #[.int .i64 0,.slice none 0 0,.slice none 0 0,.int .i64 0] 25)=W:=⟨_,rfl⟩
 have HB0:Hid (Below w.heap.size w W):=by rw[<-hW];exact((af _ w).alloc ai _).alloc (by simp) _
 have HK:Hid (Bk W w.heap.size 25 (dkC d s)):=by rw[<-hW];exact(Bk.new w _ _).alloc _
 have HZ:Hid (Bk W (w.heap.size+1) 25 #[.int .i64 0,.slice none 0 0,.slice none 0 0,.int .i64 0]):=by
  rw[<-hW];have:=Bk.new (w.alloc (.cells (dkC d s) 25)) 25 #[.int .i64 0,.slice none 0 0,.slice none 0 0,.int .i64 0]
  rwa[Z9]at this
 have zW:W.heap.size=w.heap.size+2:=by rw[<-hW];simp
 have HM:Hid (DkM W B d s):=hm.below HB0.out hB;have HO:=ah (sG d s B a u rs W hd hpn hj HM.out (by omega));have HE:=ah (fun w' (hb:Below W.heap.size W w')=>wB A n c B2 d.sz l w' (hs.below (HB0.out.trans (hb.mono (by omega))) hB2) (by have:=hb.size;omega) hn hd.sz0 hd.sz1);obtain⟨b,hb,hab⟩:∃b:Nat,3 - a=b/\ (3:Int) - (a:Int)= (b:Int):=⟨3 - a,rfl,by have:=hj.act;omega⟩
 have hbact:b=1∨b=2:=by have:=hj.act;omega
 have HFI:=ah (fun w'=>mi d s b w' (by have:=hj.n3;omega) hd.n1 hbact);have HBB:=ah hb;clear hb;have HHA:=ah (fun w'=>oQ d s w' (by have:=hj.n3;omega) hd.n1);have HR1:Hid (¬dS l=true->∀e w',aW zDk 4 w e w'->aW (dC d a l).1 (dC d a l).2 w e w'):=fun h e w' hh=>by rw[dC,if_pos h];exact hh
 have HR2:Hid (dS l=true->hf d.ss< (secs d.sz (az l)).length->∀e w',aW zDk 19 w e w'->aW (dC d a l).1 (dC d a l).2 w e w'):=fun h h2 e w' hh=>by rw[dC,if_neg (by simp[h]),if_pos h2];exact hh
 have HR3:Hid (dS l=true->¬hf d.ss< (secs d.sz (az l)).length->∀e w',aW (aH d (eY d.sz d.ss a (secs d.sz (az l)))).1 (aH d (eY d.sz d.ss a (secs d.sz (az l)))).2 w e w'->aW (dC d a l).1 (dC d a l).2 w e w'):=fun h h2 e w' hh=>by rw[dC,if_neg (by simp[h]),if_neg h2];exact hh
 have hul:=hj.u_le;have HD:=ah hd;have HJ:=ah hj;have HW:=ah hW;have HNE:=ah hl0;have HPN:=ah hpn;generalize aW (dC d a l).1 (dC d a l).2 w=RR at *;clear hd hj hm hs hl0 hW hpn;obtain⟨ns,hns⟩:∃ns,d.ss.length=ns:=⟨_,rfl⟩
 obtain⟨np,hnp⟩:∃np,d.pn.length=np:=⟨_,rfl⟩
 have HNS:=ah hns;have HNP:=ah hnp;simp only[dkV,dkC,hns,hnp]at HO HFI HHA HK HW ⊢;clear hns hnp;obtain⟨k0,k1,k2,k3⟩:=HK.out.dk4;obtain⟨z0,z1,z2,z3⟩:=HZ.out.dk4
 go_enter Tryz.func49,Tryz.ntmps49
 go_wp2_with fail;rw[HW.out];refine HO.out.mono ?_;rintro e w1 ⟨A1,c1,rfl,hs1,hc1,hc2,hb1⟩;obtain⟨W2,hW2⟩:∃W2,w1.alloc (.cells #[.int .i64 a,.slice A1 rs.length c1,.int .i64 u] 142)=W2:=⟨_,rfl⟩
 have HB2:Hid (Below W.heap.size W W2):=by rw[<-hW2];exact hb1.alloc hb1.size _
 have HC2:Hid (Bk W2 w1.heap.size 142 #[.int .i64 a,.slice A1 rs.length c1,.int .i64 u]):=by rw[<-hW2];exact Bk.new w1 _ _
 have z1s:=hb1.size;have z2s:W2.heap.size=w1.heap.size+1:=by rw[<-hW2];simp
 have HK2:Hid (Bk W2 w.heap.size 25 #[.int .i64 d.sz,.slice s.a1 ns s.c1,.slice s.a2 np s.c2,.int .i64 d.lf]):=HK.out.below HB2.out (by omega);have HZ2:Hid (Bk W2 (w.heap.size+1) 25 #[.int .i64 0,.slice none 0 0,.slice none 0 0,.int .i64 0]):=HZ.out.below HB2.out (by omega);obtain⟨q0,q1,q2,q3⟩:=HK2.out.dk4;have HW2:=ah hW2;rw[<-hW2]at q0 q1 q2 q3;clear hs1 hc1 hc2 hb1 hW2 HO k0 k1 k2 k3 z0 z1 z2 z3;go_wp2_with fail;rw[HW2.out];refine(HE.out _ HB2.out).mono ?_;rintro e w3 ⟨hb3,h3⟩;have HB3:Hid (Below W.heap.size W w3):=HB2.out.trans (hb3.mono (by omega));have HK3:=ah (HK2.out.below hb3 HK2.out.lt);have HZ3:=ah (HZ2.out.below hb3 HZ2.out.lt);have HC3:=ah (HC2.out.below hb3 HC2.out.lt);have z3s:=hb3.size;obtain⟨q0,q1,q2,q3⟩:=HK3.out.dk4;obtain⟨z0,z1,z2,z3⟩:=HZ3.out.dk4;obtain⟨f0,f1,f2,f3⟩:=fr4 HZ3.out;obtain⟨g0,g1,g2⟩:=HC3.out.three;clear hb3;by_cases hf:dS l=true
 . rw[if_pos ⟨hf,HNE.out⟩]at h3
   obtain⟨A3,c3,rfl,ho3,hcc,hcm⟩:=h3;have HO3:=ah ho3;have HCC:=ah hcc;have HCM:=ah hcm;have HF:=ah hf;have hsf:SecF d.sz l (secs d.sz (az l)):=⟨fitB_iff.1 hf,rfl⟩
   obtain⟨S,hS⟩:∃S,secs d.sz (az l)=S:=⟨_,rfl⟩
   rw[hS]at hsf ho3 HO3 HCC;have HSQ:=ah hS;rw[hS]at HR2 HR3 ⊢;obtain⟨t,S1,hSc,htl⟩:=hsf.cons HD.out.sz0;obtain⟨m,hm⟩:∃m,S.length=m:=⟨_,rfl⟩
   have hm1:0<m:=by rw[<-hm,hSc];simp
   rw[hm]at ho3 HO3 HCC HR2 HR3 ⊢;have HMM:=ah hm;obtain⟨gb,rfl⟩:∃gb,A3=some ⟨gb,0,none⟩:=by
    rcases ho3.2 with ⟨_,h⟩ | ⟨g,cap,cur,hv,_⟩
    . omega
    . cases hv;exact⟨g,rfl⟩
   have HSF:=ah hsf;have HSC:=ah hSc;have HTL:=ah htl;have hmi:¬((m:Int)=0):=by omega
   obtain⟨h,hh⟩:∃h,Go.Proofs.YtknefelegjlgnaaGreatDoor.hf d.ss=h:=⟨_,rfl⟩
   rw[hh]at HR2 HR3 HHA hul;have hmle:m<=65600000:=by rw[<-hm,<-hS];exact Z0 (xk HD.out.sz0 _) (by have:=mG (fitB_iff.1 hf);have:=ek (n:=(bJ l).length) (by omega);simp only[az,Z5,ae];omega)
   have hhle:h<=1000:=by rw[<-hh];unfold Go.Proofs.YtknefelegjlgnaaGreatDoor.hf;have:=HNS.out;have:=HD.out.n1;omega
   have HHH:=ah hh;clear ho3 hcc hcm hsf hS hSc htl hm hh hf;go_wp2_with fail;refine(HHA.out _).mono ?_;rintro e w4 ⟨rfl,hb4⟩;have HB4:=ah hb4;clear hb4 q0 q1 q2 q3 g0 g1 g2 f0 f1 f2 f3 z0 z1 z2 z3;have z4s:=HB4.out.size;have HB4W:Hid (Below W.heap.size W w4):=HB3.out.trans (HB4.out.mono (by omega));have HK4:=ah (HK3.out.below HB4.out HK3.out.lt);have HZ4:=ah (HZ3.out.below HB4.out HZ3.out.lt);have HC4:=ah (HC3.out.below HB4.out HC3.out.lt);have HO4:Hid (w4.ownsRow W2.heap.size 9 1 (.slice (some ⟨gb,0,none⟩) m c3) m (flat aA S)):=fJ HO3.out HB4.out;obtain⟨q0,q1,q2,q3⟩:=HK4.out.dk4;obtain⟨z0,z1,z2,z3⟩:=HZ4.out.dk4;obtain⟨f0,f1,f2,f3⟩:=fr4 HZ4.out;obtain⟨g0,g1,g2⟩:=HC4.out.three;by_cases hfull:h<m
   . have hli: (h:Int)< (m:Int):=by omega
     have HFU:=ah hfull;clear hfull;go_wp2_with fail;refine ZY (fq Tryz.results49 rfl (HZ4.out.set4 _ _ _ _) rfl) rfl ?_;exact HR2.out HF.out HFU.out _ _ ⟨⟨none,0,none,0⟩,rfl,ng _,dF (HB0.out.trans (HB4W.out.mono (by omega))) (by omega) _ _ _ _⟩
   . have hli:¬(h:Int)< (m:Int):=by omega
     have HFU:=ah hfull;clear hfull HR2;obtain⟨st,hst⟩:∃st,aC d.ss b=st:=⟨_,rfl⟩
     rw[hst]at HFI;have hfa:=gm (ss:=d.ss) hbact HJ.out.n3;rw[hst,HHH.out,HNS.out]at hfa;have hns:=HD.out.n1;rw[HNS.out]at hns;have HST:=ah hst;clear hst;go_wp2_with fail;refine(HFI.out _).mono ?_;rintro e w5 ⟨rfl,hb5⟩;have z5s:=hb5.size;have HB5W:Hid (Below W.heap.size W w5):=HB4W.out.trans (hb5.mono (by omega));have HK5:=ah (HK4.out.below hb5 HK4.out.lt);have HZ5:=ah (HZ4.out.below hb5 HZ4.out.lt);have HC5:=ah (HC4.out.below hb5 HC4.out.lt);have HO5:Hid (w5.ownsRow W2.heap.size 9 1 (.slice (some ⟨gb,0,none⟩) m c3) m (flat aA S)):=fJ HO4.out hb5;clear hb5 q0 q1 q2 q3 z0 z1 z2 z3 f0 f1 f2 f3 g0 g1 g2;obtain⟨q0,q1,q2,q3⟩:=HK5.out.dk4;go_wp2_with fail;have HFL:=ah (fun w' (hb:Below w5.heap.size w5 w')=>Ah st (st+h) d.sz (some ⟨gb,0,none⟩) m c3 w5.heap.size S w' ((Sl.of_own HO5.out).below hb ai) hb.size (by omega) (by omega) HD.out.sz1);rw[Int.natCast_add]at HFL;have hwst:IntKind.i64.wrap ((st:Int)+ (h:Int))= (st:Int)+ (h:Int):=by rw[IntKind.wrap_i64];omega
     go_region_held3 (fun w'=>w'.cell? ⟨w.heap.size,0,none⟩=some (.int .i64 d.sz)/\w'.cell? ⟨w.heap.size,1,none⟩=some (.slice s.a1 ns s.c1)/\w'.cell? ⟨w.heap.size,2,none⟩=some (.slice s.a2 np s.c2)/\w'.cell? ⟨w.heap.size,3,none⟩=some (.int .i64 d.lf))
      (first | exact⟨q0,q1,q2,q3⟩ | exact⟨m0.out,m1.out,m2.out,m3.out⟩ | exact⟨n0.out,n1.out,n2.out,n3.out⟩)
      (first
        | (go_at_call 110;refine(HHA.out _).mono ?_;rintro e w7 ⟨rfl,hb7⟩
           have HB7:Hid (Below w5.heap.size w5 w7):=((af _ w5).drew).trans hb7;obtain⟨u0,u1,u2,u3⟩:=(HK5.out.below HB7.out HK5.out.lt).dk4;have m0:=ah u0;have m1:=ah u1;have m2:=ah u2;have m3:=ah u3;clear hb7 u0 u1 u2 u3)
        | (go_at_call 111;refine(HFL.out _ HB7.out).mono ?_;rintro e w8a ⟨A8,n8,c8,vs,rfl,ho8,hb8,hn8,hc8,hm8⟩
           have HB8a:Hid (Below w5.heap.size w5 w8a):=HB7.out.trans (hb8.mono HB7.out.size);obtain⟨u0,u1,u2,u3⟩:=(HK5.out.below HB8a.out HK5.out.lt).dk4;have n0:=ah u0;have n1:=ah u1;have n2:=ah u2;have n3:=ah u3;have HO8a:=ah ho8;have HN8:=ah hn8;have HC8:=ah hc8;have HM8:=ah hm8;have z78:=HB7.out.size;have hb78:=hb8.size;clear hb8 ho8 hn8 hc8 hm8 u0 u1 u2 u3))
     have hut:Utf8.encode (b:Int)=ofL [UInt8.ofNat b]:=by rcases hbact with rfl | rfl <;> rfl
     have HPD:=ah (fun w'=>lZ [UInt8.ofNat b] d.sz w' (by have:=HD.out.sz0;simp;omega) HD.out.sz1);obtain⟨mk,hmk⟩:∃mk,ofL (bX d.sz b)=mk:=⟨_,rfl⟩
     rw[show ofL (bB d.sz [UInt8.ofNat b])=mk from hmk,<-hut]at HPD;have HFS:=ah hmk;clear hmk hut n0 n1 n2 n3 m0 m1 m2 m3 q0 q1 q2 q3;obtain⟨q0,q1,q2,q3⟩:=(HK5.out.below HB8a.out HK5.out.lt).dk4;go_wp2_with fail;refine(HPD.out _).mono ?_;rintro e w8 ⟨rfl,hb8⟩;have HB8:Hid (Below w5.heap.size w5 w8):=HB8a.out.trans (hb8.mono HB8a.out.size);have HO8:=ah (HO8a.out.below hb8);have hb79:w7.heap.size<=w8.heap.size:=Z0 hb78 hb8.size;clear hb8 HO8a HPD q0 q1 q2 q3;have hfit:=Ba HD.out HJ.out HSF.out (by rw[HMM.out,HHH.out];omega);have HFIT:=ah hfit;have HOPS:Hid ((dh st S (st+h) d.sz).map some++ [none,some (0,bX d.sz b),none]=eY d.sz d.ss a S):=by
      show _=_;unfold eY;rw[HBB.out,HST.out,HHH.out]
     have hoslen: ((dh st S (st+h) d.sz).map some).length=n8:=HO8.out.len;have HOSL:=ah hoslen;obtain⟨os,hos⟩:∃os,(dh st S (st+h) d.sz).map some=os:=⟨_,rfl⟩
     rw[hos]at HO8 HOPS HOSL;have HW98:=ah (fun w'=>kg 0 (bX d.sz b) w');rw[HFS.out]at HW98;have HMW:Hid (DkM w8 W.heap.size d s):=(HM.out.more hB |>.more (by omega)).below (HB5W.out.trans (HB8.out.mono (by omega))) ai;clear hfit hoslen hos;obtain⟨i0,hi,hzz0,hzz1,hzz2⟩:=info_parts vv;have Hi:=ah hi;have Hz0:=ah hzz0;have Hz1:=ah hzz1;have Hz2:=ah hzz2;clear hi hzz0 hzz1 hzz2;have HK8:=ah (HK5.out.below HB8.out HK5.out.lt);have HZ8:=ah (HZ5.out.below HB8.out HZ5.out.lt);obtain⟨q0,q1,q2,q3⟩:=HK8.out.dk4;have z8s:=HB8.out.size;have z8s':w7.heap.size<=w8.heap.size:=hb79;obtain⟨d12,hd12⟩:∃x,(aH d (eY d.sz d.ss a S)).1=x:=⟨_,rfl⟩
     obtain⟨x12,hx12⟩:∃x,(aH d (eY d.sz d.ss a S)).2=x:=⟨_,rfl⟩
     have HRUN:=ah (fun w' A' c' vs' (ho:OpsM w' w'.heap.size A' (n8+3) vs' (eY d.sz d.ss a S)) (hm:DkM w' w'.heap.size d s)=>uF d s w'.heap.size A' (n8+3) c' vs' (eY d.sz d.ss a S) w' HD.out hm ai ho HFIT.out (by rw[HPN.out,ho.len];have:=HN8.out;simp;omega));unfold aW at HRUN;rw[hd12,hx12]at HRUN HR3;simp only[dkV,dkC,HNS.out,HNP.out]at HRUN;clear hd12 hx12;go_wp2_with fail
     go_region_held3 (fun w'=>w'.cell? ⟨w.heap.size,0,none⟩=some (.int .i64 d.sz)/\w'.cell? ⟨w.heap.size,1,none⟩=some (.slice s.a1 ns s.c1)/\w'.cell? ⟨w.heap.size,2,none⟩=some (.slice s.a2 np s.c2)/\w'.cell? ⟨w.heap.size,3,none⟩=some (.int .i64 d.lf))
      (first | exact⟨y0.out,y1.out,y2.out,y3.out⟩ | exact⟨r0.out,r1.out,r2.out,r3.out⟩ | exact⟨n0.out,n1.out,n2.out,n3.out⟩ | exact⟨t0.out,t1.out,t2.out,t3.out⟩ | exact⟨m0.out,m1.out,m2.out,m3.out⟩ | exact⟨q0,q1,q2,q3⟩)
      (first
        | (go_at_call 98;refine(HW98.out _).mono ?_;rintro e w9 ⟨v,rfl,hv,hb9⟩;obtain⟨p1,p2,rfl⟩:=hv.fn
           have HB9:Hid (Below w8.heap.size w8 w9):=((af _ w8).drew).trans hb9;have HV:=ah hv;have z9s:=HB9.out.size;have hbl:Below w9.heap.size w9 (w9.alloc (.cells #[.func (.func 100) #[] #[],.func (.func 169) #[] #[p1,p2],.func (.func 100) #[] #[]] 166)):=(af _ w9).alloc ai _;have HO10:Hid (OpsO (w9.alloc (.cells #[.func (.func 100) #[] #[],.func (.func 169) #[] #[p1,p2],.func (.func 100) #[] #[]] 166)) w7.heap.size A8 n8 c8 vs os):=(HO8.out.below HB9.out).below hbl;have HBL:=ah hbl;obtain⟨u0,u1,u2,u3⟩:=(HK8.out.below HB9.out HK8.out.lt).dk4;have m0:=ah u0;have m1:=ah u1;have m2:=ah u2;have m3:=ah u3;obtain⟨v0,v1,v2,v3⟩:=((HK8.out.below HB9.out HK8.out.lt).below hbl (by have:=HK8.out.lt;omega)).dk4;have t0:=ah v0;have t1:=ah v1;have t2:=ah v2;have t3:=ah v3;clear hv hb9 hbl u0 u1 u2 u3 v0 v1 v2 v3)
        | (go_at_call 97;refine(HRUN.out _ A11 c11 _ HO11.out.m (HMW.out.below HB11.out (by omega) |>.more (by have:=HB11.out.size;omega))).mono ?_
           rintro e w12 ⟨s12,rfl,hm12,hb12⟩;have HM12:=ah hm12;have HB12:Hid (Below w7.heap.size w8 w12):=HB11.out.trans (hb12.mono (by have:=HB11.out.size;omega));have HZ12:=ah (HZ8.out.below HB12.out (by omega));obtain⟨e0,e1,e2,e3⟩:=HZ12.out.dk4;obtain⟨u0,u1,u2,u3⟩:=(HK8.out.below HB12.out (by omega)).dk4;have r0:=ah u0;have r1:=ah u1;have r2:=ah u2;have r3:=ah u3;have hne1:w.heap.size≠w.heap.size+1:=by omega
           obtain⟨v0,v1,v2,v3⟩:=(((((HK8.out.below HB12.out (by omega)).far (p:=⟨w.heap.size+1,0,none⟩) hne1 (.int .i64 d12.sz)).far (p:=⟨w.heap.size+1,1,none⟩) hne1 (.slice s12.a1 d12.ss.length s12.c1)).far (p:=⟨w.heap.size+1,2,none⟩) hne1 (.slice s12.a2 d12.pn.length s12.c2)).far (p:=⟨w.heap.size+1,3,none⟩) hne1 (.int .i64 d12.lf)).dk4;have y0:=ah v0;have y1:=ah v1;have y2:=ah v2;have y3:=ah v3;clear u0 u1 u2 u3 v0 v1 v2 v3;obtain⟨f0,f1,f2,f3⟩:=fr4 HZ12.out;clear hm12 hb12)
        | (refine wD (by rfl) (.tmp 61) (.tmp 64) 169 (by rfl) w7.heap.size 166 i0 _ 1 8 Tryz.underlying169 Hi.out Hz0.out Hz1.out Hz2.out rfl (by decide) (.slice A8 n8 c8) n8 vs (by rfl) HO10.out.own (w9.heap.size+1) (some ⟨w9.heap.size,0,none⟩) 3 3 [.func (.func 100) #[] #[],.func (.func 169) #[] #[p1,p2],.func (.func 100) #[] #[]] (by rfl) (Sl.new w9 _ _ 3 rfl) (fun x hx=>by simp at hx;rcases hx with rfl | rfl | rfl <;> rfl) (by have:=HN8.out;unfold maxLen;omega) (by have:=HN8.out;omega) (by simp;omega) ?_
           intro A11 c11 w11 ho11 hg11 hc11 hm11;have HO11:Hid (OpsO w11 w7.heap.size A11 (n8+3) c11 (vs++ [.func (.func 100) #[] #[],.func (.func 169) #[] #[p1,p2],.func (.func 100) #[] #[]]) (os++ [none,some (0,bX d.sz b),none])):=HO10.out.app rfl (fun i x o hx ho=>by
            match i,hx,ho with
            | 0,hx,ho=>cases hx;cases ho;rfl
            | 1,hx,ho=>cases hx;cases ho;exact(HV.out.below HBL.out ai).more (by simp)
            | 2,hx,ho=>cases hx;cases ho;rfl) ho11 hg11
           rw[HOPS.out]at HO11;have HB11:Hid (Below w7.heap.size w8 w11):=(((HB9.out.trans (HBL.out.mono (by omega))).mono z8s').grown hg11 (by simp;omega) (fun g hg=>iw HO10.out.own g hg))
           obtain⟨u0,u1,u2,u3⟩:=(HK8.out.below HB11.out (by omega)).dk4;have n0:=ah u0;have n1:=ah u1;have n2:=ah u2;have n3:=ah u3;clear u0 u1 u2 u3 ho11 hg11 hc11 hm11))
     go_wp2_with fail;refine ZY (fq Tryz.results49 rfl (HZ12.out.set4 _ _ _ _) rfl) rfl ?_;exact HR3.out HF.out HFU.out _ _ ⟨s12,rfl,(HM12.out.box HZ12.out _ _ _ _).more (by simp),dF (HB0.out.trans ((HB5W.out.trans ((HB8.out.mono (by omega)).trans (HB12.out.mono (by omega)))).mono (by omega))) (by omega) _ _ _ _⟩
 . rw[if_neg (fun h=>hf h.1)]at h3
   have hp4: (eQ l).2=4:=by rw[eQ,if_neg hf]
   rw[hp4]at h3;subst h3;have HF:=ah hf;clear hf hp4
   go_wp2
   refine ZY (fq Tryz.results49 rfl (HZ3.out.set4 _ _ _ _) rfl) rfl ?_;exact HR1.out HF.out _ _ ⟨⟨none,0,none,0⟩,rfl,ng _,dF (HB0.out.trans (HB3.out.mono (by omega))) (by omega) _ _ _ _⟩
theorem AY(l:List Rf)(u:Upd):bD l u≠20:=by
 unfold bD df
 repeat' split
 all_goals decide
theorem yE:∀(us:List Upd)(l:List Rf)(lg:List Upd),(dH l lg us).2.2≠20
 | [],_,_=>by simp[dH]
 | u::us,l,lg=>by
   rw[nY];unfold fu;by_cases h1:bD l u≠0
   . rw[if_pos h1];simp only[ne_eq,h1,not_false_iff,if_true];exact AY l u
   . rw[if_neg h1]
     by_cases h2:1000<=lg.length
     . rw[if_pos h2];simp
     . rw[if_neg h2];simp only[ne_eq,not_true,if_false];exact yE us _ _
theorem uJ:∀(us:List Upd)(l:List Rf),(aO l us).2≠20
 | [],_=>by simp[aO]
 | u::us,l=>by
   rw[aO];by_cases h1:bD l u≠0
   . rw[if_pos h1];exact AY l u
   . rw[if_neg h1];exact uJ us _
theorem GX(rs:List Rf)(lg us:List Upd): (bZ rs lg us).2.2≠20:=by
 show(if aV rs lg≠0 then([],[],aV rs lg) else dH rs lg us:List Rf×List Upd×Int).2.2≠20;split
 . simp only
   unfold aV
   repeat' split
   . decide
   . exact uJ lg []
   . decide
   . decide
 . exact yE us rs lg
theorem I6(p:List Itm)(d:Dig):dm p d≠20:=by
 unfold dm;split
 . decide
 . split
   . split <;> decide
   . decide
theorem AscI.nodup_len{p l:List Itm}(h:AscI p)(hs:∀i∈p,i∈l):p.length<=l.length :=
 pz (h.imp (fun {a b} hl e=>by rw[e]at hl;exact gI _ hl)) hs
def ExE(r:Rp)(a u:Nat)(pl:fw)(w:MQ)(e:Ending)(w':MQ):Prop:=match pl with
 | .no=>∃x:Int,x≠0/\x≠20/\dO zRp x w e w'
 | .keep=>dO r 0 w e w'
 | .app g p rs lg=>dO (after r (cB r.d a u (aN g)) p rs lg).1 (after r (cB r.d a u (aN g)) p rs lg).2 w e w'
 | .rew g p rs lg=>dO (after r (dC r.d a (aN g)) p rs lg).1 (after r (dC r.d a (aN g)) p rs lg).2 w e w'
theorem El{p q:List Itm}{k:Nat}{x:Itm}(h:q[k]? =some x):dA p (q.take (k+1))=if(bE p x.1).isSome=true then dA p (q.take k) else dA p (q.take k)++ [x]:=by
 rw[aS h];unfold dA;rw[List.filter_append];cases hf:bE p x.1 with
 | none=>simp[hf]
 | some b=>simp[hf]
theorem ExE.err{r:Rp}{a u:Nat}{w w':MQ}{x:Int}(h1:x≠0)(h2:x≠20)(hb:Below w.heap.size w w'):ExE r a u .no w (.returned (.tuple #[.agg rzC,.int .i64 x])) w':=⟨x,h1,h2,zRs,rfl,RpM.zero _ _,hb⟩
theorem yS(r:Rp)(s:Rsl)(x:Dk×Int)(q:Dsl)(p:List Itm)(rs:List Rf)(lg:List Upd)(t:Rsl)(w w':MQ)(hb:Below w.heap.size w w')(hr:RpM w' w'.heap.size r s)(hp:RpM w' w'.heap.size ⟨zDk,p,rs,lg⟩ t)(hx:DkM w' w'.heap.size x.1 q) :
  dO (after r x p rs lg).1 (after r x p rs lg).2 w (.returned (.tuple #[if x.2=0 then rpV {(⟨zDk,p,rs,lg⟩:Rp) with d:=x.1} {t with d:=q} else if x.2=20 then rpV {r with d:=x.1} {s with d:=q} else rpV zRp zRs,.int .i64 x.2])) w':=by
 unfold after;by_cases h0:x.2=0
 . rw[if_pos h0,if_pos h0,h0]
   exact⟨{t with d:=q},rfl,⟨hx,hp.p,hp.rf,hp.l,hp.pc,hp.pm⟩,hb⟩
 . rw[if_neg h0,if_neg h0]
   by_cases h2:x.2=20
   . rw[if_pos h2,if_pos h2,h2]
     exact⟨{s with d:=q},rfl,⟨hx,hr.p,hr.rf,hr.l,hr.pc,hr.pm⟩,hb⟩
   . rw[if_neg h2,if_neg h2]
     exact⟨zRs,rfl,RpM.zero _ _,hb⟩
def iV:Prop:=∀(A:OA)(n c B:Nat)(q:List Itm)(w:MQ),Sl w B 3 A n (flat itC q)->B<=w.heap.size->n<=200000-> (∀i∈q,i.2.size<=65536)-> (∀i∈q,WfD i.1) ->
 Calls Tryz.prog 33 #[.slice A n c] w fun e w'=>∃x:Int,e= .returned (.int .i64 x)/\ (x=0↔PlOk q)/\x≠20/\Below w.heap.size w w'
section
open Go.Maps
def bV(rs:List Rf)(log:List Upd)(s:MR):Dig×Int :=
 if aV rs log≠0 then((0,0),aV rs log) else if bL s then(if cZ rs s= (0,0) then((0,0),8) else(cZ rs s,0)) else((0,0),6)
def qp(r:Dig×Int)(w:MQ)(e:Ending)(w':MQ):Prop:=e= .returned (.tuple #[.agg #[.int .u64 r.1.1,.int .u64 r.1.2],.int .i64 r.2])/\Below w.heap.size w w'
theorem l9{fn:Func}{c i:Tmp}(h:fn.results= #[.cell c 50,.tmp i]){w:MQ}{a:Array MS}{b:Nat}{x y v:MS}(ha:a[c]?.getD undef= .pointer (some ⟨b,0,none⟩))(hk:Bk w b 50 #[x,y])(hv:a[i]?.getD undef=v) :
  (results fn a).run Tryz.prog w= .ok (.tuple #[.agg #[x,y],v]) w:=by
 have h0:=hk.cell 0;have h1:=hk.cell 1;simp at h0 h1;simp[results,h,ha,hv,go_sem,h0,h1]
theorem Lb(l:List Rf)(s:MR)(h:OkR l): (gL l s).isSome=!decide (cZ l s= (0,0)):=by
 rw[yC];unfold gL;cases hf:eT l s with
 | none=>simp
 | some r =>
   have:=h.2 r (List.mem_of_find?_eq_some hf);simp[this]
theorem Eu{w:MQ}{b n:Nat}{l:List Rf}(h:Rm w Tryz.prog 9 b n (gL l))(hl:OkR l){s:MR}(hs:s.size<=maxLen): (Instr.lookup 132 (.map (some b)) (.string s) true).run Tryz.prog w= .ok (.tuple #[aB (cZ l s),.bool (!decide (cZ l s= (0,0)))]) w:=by
 rw[<-AU,<-Lb l s hl];exact h.look_ok Tryz.underlying9 Tryz.underlying132 (Tryz.zeroValue50 w) hs
theorem Gf(A0 A1:OA)(n0 c0 n1 c1 B:Nat)(rs:List Rf)(log:List Upd)(s:MR)(w:MQ)(h0:Sl w B 3 A0 n0 (flat rfC rs))(h1:Sl w B 5 A1 n1 (flat upC log))(hB:B<=w.heap.size)
  (hn0:n0<=maxLen) (hn1:n1<=maxLen) (hs:s.size<=maxLen) (hs2:∀u∈log,u.1.size<=maxLen) :
  Calls Tryz.prog 66 #[.agg #[.slice A0 n0 c0,.slice A1 n1 c1],.string s] w (qp (bV rs log s) w):=by
 have H0:=ah h0;have H1:=ah h1;clear h0 h1;have HS:=ah hs;have HS2:=ah hs2;have HN0:=ah hn0;have HN1:=ah hn1;clear hs hs2 hn0 hn1;have HR:Hid (∀r,bV rs log s=r->∀e w',qp r w e w'->qp (bV rs log s) w e w'):=fun r h e w' hh=>by rw[h];exact hh
 have HG:Hid (bV rs log s=if aV rs log≠0 then((0,0),aV rs log) else if bL s then(if cZ rs s= (0,0) then((0,0),8) else(cZ rs s,0)) else((0,0),6)):=rfl
 go_enter Tryz.func66,Tryz.ntmps66
 go_wp2_with fail;have hbel:Below w.heap.size w ((w.alloc (.cells #[.slice A0 n0 c0,.slice A1 n1 c1] 33)).alloc (.cells #[.int .u64 0,.int .u64 0] 50)):=((af _ w).alloc ai _).alloc (by simp) _;refine(xR A0 A1 n0 c0 n1 c1 B rs log _ (H0.out.below hbel hB) (H1.out.below hbel hB) (by simp;omega) HN0.out HN1.out HS2.out).mono ?_;rintro e w1 ⟨mb,rfl,hb1,hm⟩;have k1:Bk w1 (w.heap.size+1) 50 #[.int .u64 0,.int .u64 0]:=by
  have:=Bk.new (w.alloc (.cells #[.slice A0 n0 c0,.slice A1 n1 c1] 33)) 50 #[.int .u64 0,.int .u64 0];rw[Z9]at this;exact this.below hb1 (by simp)
 have HB1:Hid (Below w.heap.size w w1):=hbel.trans (hb1.mono (by simp;omega));have hz1:w.heap.size+2<=w1.heap.size:=by have:=hb1.size;simp at this;omega
 have HM:=ah hm;clear hb1 hbel hm;have K1:=ah k1;obtain⟨r0,r1,f0,f1⟩:=k1.agg;clear k1;by_cases hc:aV rs log=0
 . have HCE:=ah hc
   have HOK:=ah (Lx hc);obtain⟨b,rfl,hbge,hown⟩:=HM.out hc;have HO:=ah hown;have hbl:=hown.lt;clear hown hbge HM;rw[HCE.out];clear hc;go_wp2_with fail;refine(wQ s _ HS.out).mono ?_;rintro e w2 ⟨rfl,hb2⟩;have hz2:=hb2.size;have K2:=ah (K1.out.below hb2 (by omega));have HB2:=ah (HB1.out.trans (hb2.mono (by omega)));have HO2:=ah (HO.out.kept (iq hb2 none) (by simp));clear hb2 r0 r1 f0 f1;obtain⟨r0,r1,f0,f1⟩:=K2.out.agg;cases hn:bL s with
   | false =>
     have hst:Hid (bV rs log s= ((0,0),6)):=by show _=_;rw[HG.out,HCE.out,hn];simp
     clear hn
     go_wp2
     exact ZY (l9 Tryz.results66 rfl (K2.out.set2 _ _) rfl) rfl (HR.out _ hst.out _ _ ⟨rfl,dQ HB2.out (by omega) _ _⟩)
   | true =>
     have hst:Hid (bV rs log s=if cZ rs s= (0,0) then((0,0),8) else(cZ rs s,0)):=by show _=_;rw[HG.out,HCE.out,hn];simp
     clear hn;have hlk:=Eu HO2.out HOK.out HS.out;obtain⟨⟨g0,g1⟩,hg⟩:∃g:Dig,cZ rs s=g:=⟨_,rfl⟩
     rw[hg]at hst hlk;have HGL:=ah hg;clear hg;simp only[aB]at hlk;have J1:=ah (K2.out.alloc (.cells #[.int .u64 g0,.int .u64 g1] 50));have HB3:Hid (Below w.heap.size w (w2.alloc (.cells #[.int .u64 g0,.int .u64 g1] 50))):=HB2.out.alloc (by omega) _;obtain⟨q0,q1,e0,e1⟩:=J1.out.agg;by_cases hz: ((g0,g1):Dig)= (0,0)
     . rw[decide_eq_true hz]at hlk
       simp only[Bool.not_true]at hlk;have hfin:Hid (bV rs log s= ((0,0),8)):=by show _=_;rw[hst.out,if_pos hz]
       clear hz
       go_wp2
       exact ZY (l9 Tryz.results66 rfl (J1.out.set2 _ _) rfl) rfl (HR.out _ hfin.out _ _ ⟨rfl,dQ HB3.out (by omega) _ _⟩)
     . rw[decide_eq_false hz]at hlk
       simp only[Bool.not_false]at hlk;have hfin:Hid (bV rs log s= ((g0,g1),0)):=by show _=_;rw[hst.out,if_neg hz]
       clear hz
       go_wp2
       exact ZY (l9 Tryz.results66 rfl (J1.out.set2 _ _) rfl) rfl (HR.out _ hfin.out _ _ ⟨rfl,dQ HB3.out (by omega) _ _⟩)
 . have hne: (aV rs log != 0)=true:=by rw[bne_iff_ne];exact hc
   have hst:Hid (bV rs log s= ((0,0),aV rs log)):=by show _=_;rw[HG.out,if_pos hc]
   clear hc HM
   go_wp2
   exact ZY (l9 Tryz.results66 rfl (K1.out.set2 _ _) rfl) rfl (HR.out _ hst.out _ _ ⟨rfl,dQ HB1.out (by omega) _ _⟩)
end
end Go.Proofs.YtknefelegjlgnaaGreatDoor
