/-
  Lemmas of the card.
-/
import Derived.Test.YtknefelegjlgnaaGreatDoorACAt18
set_option maxRecDepth 100000
set_option maxHeartbeats 8000000
namespace Go.Proofs.YtknefelegjlgnaaGreatDoor
open Go.RowKit
theorem vE: (Tryz.prog.info? 166).map (fun i=>(i.zero,i.size,i.bytes))=some (some .nilFunc,1,8):=by kernel_rfl
theorem OpV.grown{w w':MZ}{B:Nat}{v:M4}{o:Dop}{row:Option Nat}(h:OpV w B v o)(hg:w.grownBy w' row)(hr:∀k,row=some k->∃cur,w.heap[k]? =some (.cells cur 166 (0,0))):OpV w' B v o:=by
 cases o with
 | none=>exact h
 | some x =>
   obtain⟨b1,b2,h1,h2,e,k1,k2⟩:=h;refine⟨b1,b2,h1,h2,e,k1.grown hg (fun e=>?_),k2.grown hg (fun e=>?_)⟩
   . obtain⟨cur,hc⟩:=hr b1 e.symm
     rw[show w.heap[b1]? =_ from k1]at hc;cases hc
   . obtain⟨cur,hc⟩:=hr b2 e.symm
     rw[show w.heap[b2]? =_ from k2]at hc;cases hc
theorem OpV.one{w:MZ}{B:Nat}{v:M4}{o:Dop}(h:OpV w B v o):v.oneCell'=true:=by
 cases o with
 | none=>rw[show v=_ from h];rfl
 | some x=>obtain⟨_,_,_,_,e,_⟩:=h;rw[e];rfl
theorem OpV.fn{w:MZ}{B:Nat}{v:M4}{x:Nat×M5}(h:OpV w B v (some x)):∃p1 p2,v= .func (.func 169) #[] #[p1,p2]:=by
 obtain⟨_,_,_,_,e,_⟩:=h;exact⟨_,_,e⟩
structure OpsO(w:MZ)(base:Nat)(A:OA)(n c:Nat)(vs:List M4)(os:List Dop):Prop where
 own:w.ownsRow base 166 1 (.slice A n c) n vs
 len:os.length=n
 op:∀(i:Nat) v o,vs[i]? =some v->os[i]? =some o->OpV w w.heap.size v o
theorem OpsO.m{w:MZ}{base:Nat}{A:OA}{n c:Nat}{vs:List M4}{os:List Dop}(h:OpsO w base A n c vs os):OpsM w w.heap.size A n vs os:=⟨Sl.of_own h.own,h.len,h.op⟩
theorem OpsO.below{w w':MZ}{base:Nat}{A:OA}{n c:Nat}{vs:List M4}{os:List Dop}(h:OpsO w base A n c vs os)(hb:Below w.heap.size w w'):OpsO w' base A n c vs os :=
 ⟨h.own.kept (row:=none) ⟨hb.os,hb.tape,hb.output,hb.size,fun k hk _=>hb.block k hk⟩ (by cases hv: (Value.slice A n c).ownBlock with | none=>exact .inl rfl | some k=>exact .inr (by simp)),h.len,fun i v o hv ho=>((h.op i v o hv ho).below hb ai).more hb.size⟩
theorem OpsO.snoc{w w':MZ}{base:Nat}{A A':OA}{n c c':Nat}{vs:List M4}{os:List Dop}{v:M4}{o:Dop}(h:OpsO w base A n c vs os)(hv:OpV w w.heap.size v o)(ho:w'.ownsRow base 166 1 (.slice A' (n+1) c') (n+1) (vs++ [v]))(hg:w.grownBy w' (Value.slice A n c).ownBlock):OpsO w' base A' (n+1) c' (vs++ [v]) (os++ [o]):=by
 have hr:∀k,(Value.slice A n c).ownBlock=some k->∃cur,w.heap[k]? =some (.cells cur 166 (0,0)):=fun k hk=>(bU h.own hk).2;have hl:vs.length=n:=by have:=h.own.1;omega
 refine⟨ho,by rw[ae,h.len];rfl,fun i u p hu hp=>?_⟩;have a:=hg.size;rw[List.getElem?_append]at hu hp;rw[hl]at hu;rw[h.len]at hp;split at hu
 . rename_i hi
   rw[if_pos hi]at hp;exact((h.op i u p hu hp).grown hg hr).more a
 . rename_i hi
   rw[if_neg hi]at hp;have b:i - n=0:=by
    rcases Nat.eq_zero_or_pos (i - n) with h | h
    . exact h
    . rw[List.getElem?_eq_none (by simp;omega)]at hu;cases hu
   rw[b]at hu hp;cases hu;cases hp
   exact(hv.grown hg hr).more a
theorem IY{S:List M5}{k p:Nat}{x:M5}(h:S[k]? =some x): (((S.take (k+1)).zipIdx p).map (fun q=>(q.2,q.1))).map some= (((S.take k).zipIdx p).map (fun q=>(q.2,q.1))).map some++ [some (p+k,x)]:=by
 have hk:=(List.getElem?_eq_some_iff.1 h).1;rw[aS h,List.zipIdx_append,List.map_append,List.map_append,List.length_take,Nat.min_eq_left (by omega)];rfl
def Mf(n:Nat)(os:List Dop)(w:MZ)(e:Ending)(w':MZ):Prop:=∃A' n' c' vs,e= .returned (.slice A' n' c')/\OpsO w' w.heap.size A' n' c' vs os/\Below w.heap.size w w'/\n'<=n+1/\n'<=c'/\c'<=maxLen
theorem AA(p e sz:Nat)(A:OA)(n c B:Nat)(S:List M5)(w:MZ)(h:Sl w B 1 A n (flat aA S))(hB:B<=w.heap.size)(hn:n<=1000)(hp:p<=1000)(hz:sz<=512) :
  Calls Tryz.prog 111 #[.int .i64 p,.slice A n c,.int .i64 e,.int .i64 sz] w (Mf n ((dm p S e sz).map some) w):=by
 have HL:=ah (h.len dI (by omega));have H:=ah h;obtain⟨i0,hi,J,K,L⟩:=info_parts vE;have Hi:=ah hi;have M:=ah J;have N:=ah K;have O:=ah L;have HW:=ah (fun(i:Nat)(x:M5)(w:MZ)=>jZ i x w);clear hi J K L h
 go_enter Tryz.func111,Tryz.ntmps111
 go_wp2_with fail
 go_loopw[0,9,14] (fun a v i wr=>∃(k:Nat)(A':OA)(c':Nat)(vs:List M4),k<=n/\i= .int .i64 k/\a= .int .i64 (p+k:Nat)/\v= .slice A' k c'/\Hid (OpsO wr w.heap.size A' k c' vs ((((S.take k).zipIdx p).map (fun q=>(q.2,q.1))).map some))/\Hid (Below w.heap.size w wr)/\k<=c'/\c'<=maxLen) (fun _ _ i _=>n - (intOf i).toNat)
 case atStart=>exact⟨0,none,0,[],ZZ _,rfl,rfl,rfl,⟨World.ownsRow_nil _ _ _ _,rfl,fun i v o hv=>by simp at hv⟩,af _ _,Nat.le_refl _,ZZ _⟩
 case round =>
  obtain⟨k,A',c',vs,hk,rfl,rfl,rfl,hO,d,Q,R⟩:=hrel;by_cases hlt:k<n
  . obtain⟨b,U,x,rfl,hb,hx,hc⟩:=(H.o.below d.o hB).at_ dI (by omega) hlt
    have x0:=hc 0 _ rfl;simp only[Nat.mul_one,Nat.add_zero]at x0;have HS:=ah (IY (p:=p) hx);clear hc hx;go_wp2_with fail;refine(HW.o (p+k) x _).mono ?_;rintro en w2 ⟨v,rfl,hv,m⟩;obtain⟨p1,p2,rfl⟩:=hv.fn;have z:=ah (hO.o.below m);have j:Hid (Below w.heap.size w w2):=d.o.trans (m.mono d.o.size);have HV:Hid (OpV (w2.alloc (.cells #[(.func (.func 169) #[] #[p1,p2])] 166)) (w2.alloc (.cells #[(.func (.func 169) #[] #[p1,p2])] 166)).heap.size (.func (.func 169) #[] #[p1,p2]) (some (p+k,x))):=(hv.below ((af w2.heap.size w2).alloc ai _) ai).more (by simp);have r:∀u∈ [(Value.func (.func 169) #[] #[p1,p2])],u.oneCell'=true:=fun u hu=>by rw[List.mem_singleton.1 hu];exact hv.one
    have f:Hid (OpsO (w2.alloc (.cells #[(.func (.func 169) #[] #[p1,p2])] 166)) w.heap.size A' k c' vs ((((S.take k).zipIdx p).map (fun q=>(q.2,q.1))).map some)):=z.o.below ((af w2.heap.size w2).alloc ai _);have z2:=j.o.size;clear hv m hO
    go_wp2_with (at_builtin;refine aN ?_)
    refine aF ?_;refine iM (base:=w.heap.size) (size:=1) _ rfl (.tmp 18) (.tmp 22) 169 rfl 166 i0 _ 8 Tryz.underlying169 Hi.o M.o N.o O.o rfl (by decide) (.slice A' k c') k vs (by rfl) f.o.own (w2.heap.size+1) (some ⟨w2.heap.size,0,none⟩) 1 1 [(.func (.func 169) #[] #[p1,p2])] (by rfl) (Sl.new w2 166 [(.func (.func 169) #[] #[p1,p2])] 1 rfl) r (by unfold maxLen;omega) (by omega) (by simp;omega) ?_;intro A4 c4 w4 s l C t;have y:=ah (f.o.snoc HV.o s l);rw[<-HS.o]at y;have D:Hid (Below w.heap.size w w4):=(j.o.alloc (by omega) _).grown l (by simp;omega) (fun g hg=>iy f.o.own g hg);have E:=ah t;clear s l t HV f r;go_wp2_with fail;go_roundw
    case rel=>exact⟨k+1,A4,c4,_,by omega,by go_num,by go_num,rfl,y.o,D.o,C,E.o⟩
    case measure=>simp[intOf];omega
  . obtain rfl:k=n:=by omega
    have HE:Hid (S.take k=S):=by show _=_;rw[<-HL.o,List.take_length]
    rw[HE.o]at hO;have HF:Hid (dm p S e sz= (S.zipIdx p).map (fun q=>(q.2,q.1))++ (if p+k<e then [(p+k,bB sz [])] else [])):=by show _=_;unfold dm;rw[HL.o]
    have HO:=ah hO.o;clear hO;by_cases h2:p+k<e
    . have F:Hid ((dm p S e sz).map some= ((S.zipIdx p).map (fun q=>(q.2,q.1))).map some++ [some (p+k,bB sz [])]):=by show _=_;rw[HF.o,if_pos h2,List.map_append];rfl
      have T: (p:Int)+ (k:Int)< (e:Int):=by omega
      have G:=ah (l7 [] sz wr (by simp) hz);rw[show ofL []= ⟨#[]⟩ from rfl]at G;go_wp2_with fail;refine G.o.mono ?_;rintro en w2 ⟨rfl,m⟩;have j:=ah m;clear m G;go_wp2_with fail;refine(HW.o (p+k) (bB sz []) _).mono ?_;rintro en w3 ⟨v,rfl,hv,I⟩;obtain⟨p1,p2,rfl⟩:=hv.fn;have z:=ah ((HO.o.below j.o).below I);have P:Hid (Below w.heap.size w w3):=(d.o.trans (j.o.mono d.o.size)).trans (I.mono (Z0 d.o.size j.o.size));have HV:Hid (OpV (w3.alloc (.cells #[(.func (.func 169) #[] #[p1,p2])] 166)) (w3.alloc (.cells #[(.func (.func 169) #[] #[p1,p2])] 166)).heap.size (.func (.func 169) #[] #[p1,p2]) (some (p+k,bB sz []))):=(hv.below ((af w3.heap.size w3).alloc ai _) ai).more (by simp);have r:∀u∈ [(Value.func (.func 169) #[] #[p1,p2])],u.oneCell'=true:=fun u hu=>by rw[List.mem_singleton.1 hu];exact hv.one
      have f:Hid (OpsO (w3.alloc (.cells #[(.func (.func 169) #[] #[p1,p2])] 166)) w.heap.size A' k c' vs (((S.zipIdx p).map (fun q=>(q.2,q.1))).map some)):=z.o.below ((af w3.heap.size w3).alloc ai _);have z3:=P.o.size;clear hv I HO j
      go_wp2_with (at_builtin;refine aN ?_)
      refine aF ?_;refine iM (base:=w.heap.size) (size:=1) _ rfl (.tmp 30) (.tmp 35) 169 rfl 166 i0 _ 8 Tryz.underlying169 Hi.o M.o N.o O.o rfl (by decide) (.slice A' k c') k vs (by rfl) f.o.own (w3.heap.size+1) (some ⟨w3.heap.size,0,none⟩) 1 1 [(.func (.func 169) #[] #[p1,p2])] (by rfl) (Sl.new w3 166 [(.func (.func 169) #[] #[p1,p2])] 1 rfl) r (by unfold maxLen;omega) (by omega) (by simp;omega) ?_;intro A4 c4 w4 s l C t;have y:=ah (f.o.snoc HV.o s l);rw[<-F.o]at y;have D:Hid (Below w.heap.size w w4):=(P.o.alloc (by omega) _).grown l (by simp;omega) (fun g hg=>iy f.o.own g hg);have E:=ah t;clear s l t HV f r;go_wp2_with fail;go_ret
      exact⟨A4,k+1,c4,_,rfl,y.o,D.o,Nat.le_refl _,C,E.o⟩
    . have F:Hid ((dm p S e sz).map some= ((S.zipIdx p).map (fun q=>(q.2,q.1))).map some):=by show _=_;rw[HF.o,if_neg h2,List.append_nil]
      have T:¬(p:Int)+ (k:Int)< (e:Int):=by omega
      rw[<-F.o]at HO;go_wp2_with fail;go_ret
      exact⟨A',k,c',vs,rfl,HO.o,d.o,Nat.le_succ _,Q,R⟩
section
variable {P : Program} {w : MZ} {base size : Nat} {e : TypeId}
theorem wP{ops:Array Oper}{o:Oper}{a:Act}{K:Act->MZ->Prop}{Q:Exit->Act->MZ->Prop}{E:Prop}(hgd:o.guard=none)(s x:Operand)(t:TypeId)
  (ho:o.op= .call {callee:= .builtin .append,args:=#[s,x],argTypes:=#[t,t]})
  (base:Nat) (e:TypeId) (i:TypeInfo) (z:M4) (size bytes:Nat) (ht:P.underlying t=some (.slice e)) (hi:P.info? e=some i) (hz:i.zero=some z)
  (hsize:i.size=size) (hby:i.bytes=bytes) (hzs:z.cells.size=size) (hsz:0<size)
  (v:M4) (n:Nat) (xs:List M4) (hs:a.eval s=v) (hown:w.ownsRow base e size v n xs)
  (B:Nat) (A:OA) (m c:Nat) (ys:List M4) (hx:a.eval x= .slice A m c) (hsl:Sl w B size A m ys) (h1:∀u∈ys,u.oneCell'=true)
  (h63:n+m<=maxLen) (hbytes: (n+m)*bytes<=140737488355328) (hbase:base<=w.heap.size)
  (h:∀A' c' w',w'.ownsRow base e size (.slice A' (n+m) c') (n+m) (xs++ys)->w.grownBy w' v.ownBlock->n+m<=c'->c'<=maxLen->K (a.put o.dst (.slice A' (n+m) c')) w') :
  if Region.wanted o (yielded ops a.tmps)=true then Oper.wp P o a w K Q else E:=by
 have hw:Region.wanted o (yielded ops a.tmps)=true:=by simp[Region.wanted,hgd]
 rw[if_pos hw];obtain⟨A',c',w',hr,b,hg,d,f⟩:=jW (P:=P) t o.type i z bytes ht hi hz hsize hby hzs hsz hown (c:=c) hsl h1 h63 hbytes hbase;unfold Oper.wp;simp[execOp,ho,resolve,invoke,builtin,hs,hx,hr,Result.andThen];exact h A' c' w' b hg d f
end
theorem OpsO.app{w w':MZ}{base:Nat}{A A':OA}{n m c c':Nat}{vs vs2:List M4}{os os2:List Dop}(h:OpsO w base A n c vs os)(hl:os2.length=m)(hv:∀(i:Nat) v o,vs2[i]? =some v->os2[i]? =some o->OpV w w.heap.size v o)(ho:w'.ownsRow base 166 1 (.slice A' (n+m) c') (n+m) (vs++vs2))(hg:w.grownBy w' (Value.slice A n c).ownBlock):OpsO w' base A' (n+m) c' (vs++vs2) (os++os2):=by
 have hr:∀k,(Value.slice A n c).ownBlock=some k->∃cur,w.heap[k]? =some (.cells cur 166 (0,0)):=fun k hk=>(bU h.own hk).2;have b:vs.length=n:=by have:=h.own.1;omega
 refine⟨ho,by rw[ae,h.len,hl],fun i u p hu hp=>?_⟩;have a:=hg.size;rw[List.getElem?_append]at hu hp;rw[b]at hu;rw[h.len]at hp;split at hu
 . rename_i hi
   rw[if_pos hi]at hp;exact((h.op i u p hu hp).grown hg hr).more a
 . rename_i hi
   rw[if_neg hi]at hp;exact((hv _ u p hu hp).grown hg hr).more a
def CY(rs:List M5)(w:MZ)(e:Ending)(w':MZ):Prop:=∃A c,e= .returned (.tuple #[.slice A rs.length c,.int .i64 0])/\Sl w' w'.heap.size 1 A rs.length (flat aA rs)/\rs.length<=c/\c<=maxLen/\Below w.heap.size w w'
theorem EM(d:Dk)(s:Dsl)(B a u:Nat)(rs:List M5)(w:MZ)(hd:d.Ok)(hpn:d.pn= [])(hj:Jn d.sz d.ss a rs u)(hm:DkM w B d s)(hB:B<=w.heap.size) :
  Calls Tryz.prog 36 #[dkV d s] w (CY rs w):=by
 obtain⟨W,hW⟩:=NX9 (w.alloc (.cells (dkC d s) 25))
 have b:Hid (Below w.heap.size w W):=by rw[<-hW];exact(af _ w).alloc ai _
 have zW:W.heap.size=w.heap.size+1:=by rw[<-hW];simp
 have HK:Hid (Bk W w.heap.size 25 (dkC d s)):=by rw[<-hW];exact Bk.new w _ _
 have HO:=ah (sW d s B a u rs W hd hpn hj (hm.below b.o hB) (by omega));have HW:=ah hW;clear hW hm hd hj hpn;obtain⟨n,hn⟩:=NX9 d.ss.length
 obtain⟨m,hm⟩:=NX9 d.pn.length
 simp only[dkV,dkC,hn,hm]at HO HK HW ⊢;obtain⟨k0,k1,k2,k3⟩:=HK.o.dk4;clear hn hm
 go_enter Tryz.func36,Tryz.ntmps36
 go_wp2_with fail;rw[HW.o];refine HO.o.mono ?_;rintro e w1 ⟨A,c,rfl,hs,f,g,h⟩;have HS:=ah hs;have j:=ah f;have k:=ah g;have i:Hid (Below w.heap.size w w1):=b.o.trans (h.mono (by omega));clear hs f g h
 go_wp2
 go_ret2
 exact⟨A,c,rfl,(HS.o.alloc ai _).more (by simp),j.o,k.o,i.o.alloc i.o.size _⟩
def zDk:Dk:=⟨0,[],[],0⟩
def bS(d:Dk)(a u:Nat)(l:List M5):Dk×Int :=
 if ¬dF l=true then(zDk,4) else if hf d.ss - u< (secs d.sz (az l)).length then(zDk,19) else aH d (eF d.sz d.ss a u (secs d.sz (az l)))
theorem nk(w:MZ):DkM w w.heap.size zDk ⟨none,0,none,0⟩:=⟨Sl.nil _ _ _ _,Sl.nil _ _ _ _⟩
theorem Ga(d:Dk)(s:Dsl)(B a u:Nat)(rs l:List M5)(A:OA)(n c B2:Nat)(w:MZ)(hd:d.Ok)(hpn:d.pn= [])(hj:Jn d.sz d.ss a rs u)(hm:DkM w B d s)(hB:B<=w.heap.size)
  (hs:Sl w B2 1 A n (flat aA l)) (hB2:B2<=w.heap.size) (hn:n<=maxLen) (hl0:l≠ []) :
  Calls Tryz.prog 77 #[dkV d s,.slice A n c] w (aW (bS d a u l).1 (bS d a u l).2 w):=by
 obtain⟨W,hW⟩:=NX9 ((w.alloc (.cells (dkC d s) 25)).alloc (.cells #[.int .i64 0,.slice none 0 0,.slice none 0 0,.int .i64 0] 25))
 have J:Hid (Below w.heap.size w W):=by rw[<-hW];exact((af _ w).alloc ai _).alloc (by simp) _
 have HK:Hid (Bk W w.heap.size 25 (dkC d s)):=by rw[<-hW];exact(Bk.new w _ _).alloc _
 have HZ:Hid (Bk W (w.heap.size+1) 25 #[.int .i64 0,.slice none 0 0,.slice none 0 0,.int .i64 0]):=by
  rw[<-hW];have:=Bk.new (w.alloc (.cells (dkC d s) 25)) 25 #[.int .i64 0,.slice none 0 0,.slice none 0 0,.int .i64 0]
  rwa[Z9]at this
 have zW:W.heap.size=w.heap.size+2:=by rw[<-hW];simp
 have HM:Hid (DkM W B d s):=hm.below J.o hB;have HO:=ah (sW d s B a u rs W hd hpn hj HM.o (by omega));have HE:=ah (fun w' (hb:Below W.heap.size W w')=>wK A n c B2 d.sz l w' (hs.below (J.o.trans (hb.mono (by omega))) hB2) (by have:=hb.size;omega) hn hd.sz0 hd.sz1);have bk:=ah (fun w'=>mg d s a w' (by have:=hj.n3;omega) hd.n1 hj.act);have ad:=ah (fun w'=>oN d s w' (by have:=hj.n3;omega) hd.n1);have cP:Hid (¬dF l=true->∀e w',aW zDk 4 w e w'->aW (bS d a u l).1 (bS d a u l).2 w e w'):=fun h e w' hh=>by rw[bS,if_pos h];exact hh
 have K:Hid (dF l=true->hf d.ss - u< (secs d.sz (az l)).length->∀e w',aW zDk 19 w e w'->aW (bS d a u l).1 (bS d a u l).2 w e w'):=fun h h2 e w' hh=>by rw[bS,if_neg (by simp[h]),if_pos h2];exact hh
 have L:Hid (dF l=true->¬hf d.ss - u< (secs d.sz (az l)).length->∀e w',aW (aH d (eF d.sz d.ss a u (secs d.sz (az l)))).1 (aH d (eF d.sz d.ss a u (secs d.sz (az l)))).2 w e w'->aW (bS d a u l).1 (bS d a u l).2 w e w'):=fun h h2 e w' hh=>by rw[bS,if_neg (by simp[h]),if_neg h2];exact hh
 have cQ:=hj.u_le;have HD:=ah hd;have HJ:=ah hj;have HW:=ah hW;have cR:=ah hl0;have cS:=ah hpn;generalize aW (bS d a u l).1 (bS d a u l).2 w=RR at *;clear hd hj hm hs hl0 hW hpn;obtain⟨ns,M⟩:=NX9 d.ss.length
 obtain⟨np,bm⟩:=NX9 d.pn.length
 have ag:=ah M;have cT:=ah bm;simp only[dkV,dkC,M,bm]at HO bk ad HK HW ⊢;clear M bm;obtain⟨k0,k1,k2,k3⟩:=HK.o.dk4;obtain⟨z0,z1,z2,z3⟩:=HZ.o.dk4
 go_enter Tryz.func77,Tryz.ntmps77
 go_wp2_with fail;rw[HW.o];refine HO.o.mono ?_;rintro e w1 ⟨A1,c1,rfl,cU,cV,cW,al⟩;obtain⟨W2,G⟩:=NX9 (w1.alloc (.cells #[.int .i64 a,.slice A1 rs.length c1,.int .i64 u] 142))
 have am:Hid (Below W.heap.size W W2):=by rw[<-G];exact al.alloc al.size _
 have cb:Hid (Bk W2 w1.heap.size 142 #[.int .i64 a,.slice A1 rs.length c1,.int .i64 u]):=by rw[<-G];exact Bk.new w1 _ _
 have ec:=al.size;have ed:W2.heap.size=w1.heap.size+1:=by rw[<-G];simp
 have bn:Hid (Bk W2 w.heap.size 25 #[.int .i64 d.sz,.slice s.a1 ns s.c1,.slice s.a2 np s.c2,.int .i64 d.lf]):=HK.o.below am.o (by omega);have cc:Hid (Bk W2 (w.heap.size+1) 25 #[.int .i64 0,.slice none 0 0,.slice none 0 0,.int .i64 0]):=HZ.o.below am.o (by omega);obtain⟨q0,q1,q2,q3⟩:=bn.o.dk4;have cX:=ah G;rw[<-G]at q0 q1 q2 q3;clear cU cV cW al G HO k0 k1 k2 k3 z0 z1 z2 z3;go_wp2_with fail;rw[cX.o];refine(HE.o _ am.o).mono ?_;rintro e w3 ⟨H,h3⟩;have cd:Hid (Below W.heap.size W w3):=am.o.trans (H.mono (by omega));have N:=ah (bn.o.below H bn.o.lt);have O:=ah (cc.o.below H cc.o.lt);have P:=ah (cb.o.below H cb.o.lt);have ee:=H.size;obtain⟨q0,q1,q2,q3⟩:=N.o.dk4;obtain⟨z0,z1,z2,z3⟩:=O.o.dk4;obtain⟨f0,f1,f2,f3⟩:=fr4 O.o;obtain⟨g0,g1,g2⟩:=P.o.three;clear H;by_cases hf:dF l=true
 . rw[if_pos ⟨hf,cR.o⟩]at h3
   obtain⟨A3,c3,rfl,Q,ce,cf⟩:=h3;have bo:=ah Q;have cg:=ah ce;have ef:=ah cf;have HF:=ah hf;have an:SecF d.sz l (secs d.sz (az l)):=⟨fitB_iff.1 hf,rfl⟩
   obtain⟨S,hS⟩:=NX9 (secs d.sz (az l))
   rw[hS]at an Q bo cg;have eg:=ah hS;rw[hS]at K L ⊢;obtain⟨t,S1,bp,ch⟩:=an.cons HD.o.sz0;obtain⟨m,hm⟩:=NX9 S.length
   have eh:0<m:=by rw[<-hm,bp];simp
   rw[hm]at Q bo cg K L ⊢;have cY:=ah hm;obtain⟨gb,rfl⟩:∃gb,A3=some ⟨gb,0,none⟩:=by
    rcases Q.2 with ⟨_,h⟩ | ⟨g,cap,da,hv,_⟩
    . omega
    . cases hv;exact⟨g,rfl⟩
   have db:=ah an;have bq:=ah bp;have dc:=ah ch;have ei:¬((m:Int)=0):=by omega
   obtain⟨h,hh⟩:=NX9 (Go.Proofs.YtknefelegjlgnaaGreatDoor.hf d.ss)
   rw[hh]at K L ad cQ;have dN:m<=65600000:=by rw[<-hm,<-hS];exact Z0 (xH HD.o.sz0 _) (by have:=mE (fitB_iff.1 hf);have:=eB (n:=(bJ l).length) (by omega);simp only[az,Z5,ae];omega)
   have dT:h<=1000:=by rw[<-hh];unfold Go.Proofs.YtknefelegjlgnaaGreatDoor.hf;have:=ag.o;have:=HD.o.n1;omega
   have br:=ah hh;clear Q ce cf an hS bp ch hm hh hf;go_wp2_with fail
   go_region_held3 (fun w'=>w'.cell? ⟨w.heap.size,0,none⟩=some (.int .i64 d.sz)/\w'.cell? ⟨w.heap.size,1,none⟩=some (.slice s.a1 ns s.c1)/\w'.cell? ⟨w.heap.size,2,none⟩=some (.slice s.a2 np s.c2)/\w'.cell? ⟨w.heap.size,3,none⟩=some (.int .i64 d.lf)/\w'.cell? ⟨w1.heap.size,2,none⟩=some (.int .i64 u))
    (first | exact⟨q0,q1,q2,q3,g2⟩ | exact⟨m0.o,m1.o,m2.o,m3.o,m4.o⟩)
    (first
      | (go_at_call 110;refine(ad.o _).mono ?_;rintro e w4 ⟨rfl,ci⟩
         have f:Hid (Below w3.heap.size w3 w4):=((af _ w3).drew).trans ci;obtain⟨u0,u1,u2,u3⟩:=(N.o.below f.o N.o.lt).dk4;obtain⟨_,_,u4⟩:=(P.o.below f.o P.o.lt).three;have m0:=ah u0;have m1:=ah u1;have m2:=ah u2;have m3:=ah u3;have m4:=ah u4;clear ci u0 u1 u2 u3 u4))
   clear q0 q1 q2 q3 g0 g1 g2 f0 f1 f2 f3 z0 z1 z2 z3 m0 m1 m2 m3 m4;have ej:=f.o.size;have ar:Hid (Below W.heap.size W w4):=cd.o.trans (f.o.mono (by omega));have bs:=ah (N.o.below f.o N.o.lt);have R:=ah (O.o.below f.o O.o.lt);have bt:=ah (P.o.below f.o P.o.lt);have dd:Hid (w4.ownsRow W2.heap.size 9 1 (.slice (some ⟨gb,0,none⟩) m c3) m (flat aA S)):=fM bo.o f.o;obtain⟨q0,q1,q2,q3⟩:=bs.o.dk4;obtain⟨z0,z1,z2,z3⟩:=R.o.dk4;obtain⟨f0,f1,f2,f3⟩:=fr4 R.o;obtain⟨g0,g1,g2⟩:=bt.o.three;have el:IntKind.i64.wrap ((h:Int) - (u:Int))= (h:Int) - (u:Int):=by rw[IntKind.wrap_i64];omega
   by_cases hfull:h - u<m
   . have de: (h:Int) - (u:Int)< (m:Int):=by omega
     have bv:=ah hfull;clear hfull;go_wp2_with fail;refine ZY (fw Tryz.results77 rfl (R.o.set4 _ _ _ _) rfl) rfl ?_;exact K.o HF.o bv.o _ _ ⟨⟨none,0,none,0⟩,rfl,nk _,dH (J.o.trans (ar.o.mono (by omega))) (by omega) _ _ _ _⟩
   . have de:¬(h:Int) - (u:Int)< (m:Int):=by omega
     have bv:=ah hfull;clear hfull K;obtain⟨st,ao⟩:=NX9 (aC d.ss a)
     rw[ao]at bk;have dj:=gy (ss:=d.ss) HJ.o.act HJ.o.n3;rw[ao,br.o,ag.o]at dj;have M:=HD.o.n1;rw[ag.o]at M;have dk:=ah ao;clear ao;go_wp2_with fail;refine(bk.o _).mono ?_;rintro e w5 ⟨rfl,k⟩;have em:=k.size;have cj:Hid (Below W.heap.size W w5):=ar.o.trans (k.mono (by omega));have ck:=ah (bs.o.below k bs.o.lt);have dl:=ah (R.o.below k R.o.lt);have dn:=ah (bt.o.below k bt.o.lt);have cl:Hid (w5.ownsRow W2.heap.size 9 1 (.slice (some ⟨gb,0,none⟩) m c3) m (flat aA S)):=fM dd.o k;obtain⟨en,da,y,cm⟩:=ni cl.o;obtain⟨fs,T⟩:=NX9 (ofL (1::t))
     have cn:S[0]? =some (1::t):=by rw[bq.o];rfl
     have x0:w5.cell? ⟨gb,0,none⟩=some (.string fs):=by
      rw[y.cell,cm 0 _ (by have:=gG (enc:=aA) dI S 0 0 _ cn (by omega);simpa [aA] using this),T]
     have xf:=y.free 0;have co:fs.size=t.length+1:=by rw[<-T,bG];rfl
     have cp: (1:Int)<= (fs.size:Int):=by omega
     have bw:Hid ((⟨#[0]⟩:M3)++fs.extract 1 fs.size=ofL (0::t)):=by
      show _=_;have h1:fs.extract 1 fs.size=ofL t:=by rw[<-T,<-iF ((ofL (1::t)).extract 1 (ofL (1::t)).size),mI,bP];rfl
      rw[h1,show(⟨#[0]⟩:M3)=ofL [0] from rfl,mO];rfl
     have ea:t.length<=512:=by have:=dc.o;have:=HD.o.sz1;rw[Z5]at *;omega
     have cq:¬(9223372036854775807<1+t.length):=by omega
     have dp:=ah T;rw[co]at bw;obtain⟨eo,U⟩:=NX9 ((⟨#[0]⟩:M3)++fs.extract 1 (t.length+1))
     rw[U]at bw;have cr:=ah U;have ep:=y.lt;clear k y cm T cn q0 q1 q2 q3 z0 z1 z2 z3 f0 f1 f2 f3 g0 g1 g2 U;obtain⟨q0,q1,q2,q3⟩:=ck.o.dk4;obtain⟨g0,g1,g2⟩:=dn.o.three;go_wp2_with fail;rw[cr.o,bw.o];obtain⟨w6,q⟩:=NX9 (w5.setCell ⟨gb,0,none⟩ (.string (ofL (0::t))))
     have au:Hid (Below W.heap.size W w6):=by rw[<-q];exact cj.o.setCell (p:=⟨gb,0,none⟩) (by show W.heap.size<=gb;omega) _
     have er:w6.heap.size=w5.heap.size:=by rw[<-q];simp
     have r:Hid (Bk w6 w.heap.size 25 #[.int .i64 d.sz,.slice s.a1 ns s.c1,.slice s.a2 np s.c2,.int .i64 d.lf]):=by rw[<-q];exact ck.o.far (p:=⟨gb,0,none⟩) (by show w.heap.size≠gb;omega) _
     have cs:Hid (Bk w6 (w.heap.size+1) 25 #[.int .i64 0,.slice none 0 0,.slice none 0 0,.int .i64 0]):=by rw[<-q];exact dl.o.far (p:=⟨gb,0,none⟩) (by show w.heap.size+1≠gb;omega) _
     have dq:Hid (w6.ownsRow W2.heap.size 9 1 (.slice (some ⟨gb,0,none⟩) m c3) m (flat aA (ic S))):=by
      have h:=ry (i:=0) cl.o (.string (ofL (0::t)));rw[wR]at h;have e:ic S=S.set 0 (0::t):=by rw[bq.o];rfl
      rw[<-q,e];exact h
     rw[q];clear q x0 xf cq co cp q0 q1 q2 q3 g0 g1 g2;obtain⟨q0,q1,q2,q3⟩:=r.o.dk4;have ct:=ah (fun w' (hb:Below w6.heap.size w6 w')=>AA (st+u) (st+h) d.sz (some ⟨gb,0,none⟩) m c3 w6.heap.size (ic S) w' ((Sl.of_own dq.o).below hb ai) hb.size (by omega) (by omega) HD.o.sz1);rw[Int.natCast_add,Int.natCast_add]at ct;have eb:IntKind.i64.wrap ((st:Int)+ (h:Int))= (st:Int)+ (h:Int):=by rw[IntKind.wrap_i64];omega
     go_region_held3 (fun w'=>w'.cell? ⟨w.heap.size,0,none⟩=some (.int .i64 d.sz)/\w'.cell? ⟨w.heap.size,1,none⟩=some (.slice s.a1 ns s.c1)/\w'.cell? ⟨w.heap.size,2,none⟩=some (.slice s.a2 np s.c2)/\w'.cell? ⟨w.heap.size,3,none⟩=some (.int .i64 d.lf))
      (first | exact⟨q0,q1,q2,q3⟩ | exact⟨m0.o,m1.o,m2.o,m3.o⟩ | exact⟨n0.o,n1.o,n2.o,n3.o⟩)
      (first
        | (go_at_call 110;refine(ad.o _).mono ?_;rintro e w7 ⟨rfl,cu⟩
           have V:Hid (Below w6.heap.size w6 w7):=((af _ w6).drew).trans cu;obtain⟨u0,u1,u2,u3⟩:=(r.o.below V.o r.o.lt).dk4;have m0:=ah u0;have m1:=ah u1;have m2:=ah u2;have m3:=ah u3;clear cu u0 u1 u2 u3)
        | (go_at_call 111;refine(ct.o _ V.o).mono ?_;rintro e w8 ⟨A8,n8,c8,vs,rfl,cv,bx,cw,cx,cy⟩
           have I:Hid (Below w6.heap.size w6 w8):=V.o.trans (bx.mono V.o.size);obtain⟨u0,u1,u2,u3⟩:=(r.o.below I.o r.o.lt).dk4;have n0:=ah u0;have n1:=ah u1;have n2:=ah u2;have n3:=ah u3;have bz:=ah cv;have ca:=ah cw;have es:=ah cx;have et:=ah cy;have ev:=V.o.size;have cz:=bx.size;clear bx cv cw cx cy u0 u1 u2 u3))
     obtain⟨dr,av⟩:=uH HJ.o db.o (by rw[cY.o,br.o];omega);have cA:=ah av;have aw:Hid ((dm (st+u) (ic S) (st+h) d.sz).map some++ [none,some (st+u,1::t),none]=eF d.sz d.ss a u S):=by
      show _=_;unfold eF;rw[dk.o,br.o,show S.headD []=1::t by rw[bq.o];rfl]
     have z: ((dm (st+u) (ic S) (st+h) d.sz).map some).length=n8:=bz.o.len;have cC:=ah z;obtain⟨os,cD⟩:=NX9 ((dm (st+u) (ic S) (st+h) d.sz).map some)
     rw[cD]at bz aw cC;have aD:=ah (fun w'=>jZ (st+u) (1::t) w');rw[dp.o,Int.natCast_add]at aD;have ds:Hid (DkM w8 W.heap.size d s):=(HM.o.more hB |>.more (by omega)).below (au.o.trans (I.o.mono (by omega))) ai;clear av z cD n0 n1 n2 n3 m0 m1 m2 m3 q0 q1 q2 q3;obtain⟨i0,hi,aE,ba,bb⟩:=info_parts vE;have Hi:=ah hi;have dt:=ah aE;have du:=ah ba;have dv:=ah bb;clear hi aE ba bb;have b:=ah (r.o.below I.o r.o.lt);have dx:=ah (cs.o.below I.o cs.o.lt);obtain⟨q0,q1,q2,q3⟩:=b.o.dk4;have ew:=I.o.size;have cE:w7.heap.size<=w8.heap.size:=cz;obtain⟨ap,bd⟩:=NX9 ((aH d (eF d.sz d.ss a u S)).1)
     obtain⟨ex,bf⟩:=NX9 ((aH d (eF d.sz d.ss a u S)).2)
     have C:=ah (fun w' A' c' vs' (ho:OpsM w' w'.heap.size A' (n8+3) vs' (eF d.sz d.ss a u S)) (hm:DkM w' w'.heap.size d s)=>uM d s w'.heap.size A' (n8+3) c' vs' (eF d.sz d.ss a u S) w' HD.o hm ai ho cA.o (by rw[cS.o,ho.len];have:=ca.o;simp;omega));unfold aW at C;rw[bd,bf]at C L;simp only[dkV,dkC,ag.o,cT.o]at C;clear bd bf;go_wp2_with fail
     go_region_held3 (fun w'=>w'.cell? ⟨w.heap.size,0,none⟩=some (.int .i64 d.sz)/\w'.cell? ⟨w.heap.size,1,none⟩=some (.slice s.a1 ns s.c1)/\w'.cell? ⟨w.heap.size,2,none⟩=some (.slice s.a2 np s.c2)/\w'.cell? ⟨w.heap.size,3,none⟩=some (.int .i64 d.lf))
      (first | exact⟨y0.o,y1.o,y2.o,y3.o⟩ | exact⟨r0.o,r1.o,r2.o,r3.o⟩ | exact⟨n0.o,n1.o,n2.o,n3.o⟩ | exact⟨t0.o,t1.o,t2.o,t3.o⟩ | exact⟨m0.o,m1.o,m2.o,m3.o⟩ | exact⟨q0,q1,q2,q3⟩)
      (first
        | (go_at_call 98;refine(aD.o _).mono ?_;rintro e w9 ⟨v,rfl,hv,cF⟩;obtain⟨p1,p2,rfl⟩:=hv.fn
           have X:Hid (Below w8.heap.size w8 w9):=((af _ w8).drew).trans cF;have HV:=ah hv;have ey:=X.o.size;have aq:Below w9.heap.size w9 (w9.alloc (.cells #[.func (.func 100) #[] #[],.func (.func 169) #[] #[p1,p2],.func (.func 100) #[] #[]] 166)):=(af _ w9).alloc ai _;have Y:Hid (OpsO (w9.alloc (.cells #[.func (.func 100) #[] #[],.func (.func 169) #[] #[p1,p2],.func (.func 100) #[] #[]] 166)) w7.heap.size A8 n8 c8 vs os):=(bz.o.below X.o).below aq;have cG:=ah aq;obtain⟨u0,u1,u2,u3⟩:=(b.o.below X.o b.o.lt).dk4;have m0:=ah u0;have m1:=ah u1;have m2:=ah u2;have m3:=ah u3;obtain⟨v0,v1,v2,v3⟩:=((b.o.below X.o b.o.lt).below aq (by have:=b.o.lt;omega)).dk4;have t0:=ah v0;have t1:=ah v1;have t2:=ah v2;have t3:=ah v3;clear hv cF aq u0 u1 u2 u3 v0 v1 v2 v3)
        | (go_at_call 97;refine(C.o _ cH cI _ bg.o.m (ds.o.below j.o (by omega) |>.more (by have:=j.o.size;omega))).mono ?_
           rintro e dy ⟨Z,rfl,bh,bi⟩;have cJ:=ah bh;have D:Hid (Below w7.heap.size w8 dy):=j.o.trans (bi.mono (by have:=j.o.size;omega));have E:=ah (dx.o.below D.o (by omega));obtain⟨e0,e1,e2,e3⟩:=E.o.dk4;obtain⟨u0,u1,u2,u3⟩:=(b.o.below D.o (by omega)).dk4;have r0:=ah u0;have r1:=ah u1;have r2:=ah u2;have r3:=ah u3;have F:w.heap.size≠w.heap.size+1:=by omega
           obtain⟨v0,v1,v2,v3⟩:=(((((b.o.below D.o (by omega)).far (p:=⟨w.heap.size+1,0,none⟩) F (.int .i64 ap.sz)).far (p:=⟨w.heap.size+1,1,none⟩) F (.slice Z.a1 ap.ss.length Z.c1)).far (p:=⟨w.heap.size+1,2,none⟩) F (.slice Z.a2 ap.pn.length Z.c2)).far (p:=⟨w.heap.size+1,3,none⟩) F (.int .i64 ap.lf)).dk4;have y0:=ah v0;have y1:=ah v1;have y2:=ah v2;have y3:=ah v3;clear u0 u1 u2 u3 v0 v1 v2 v3;obtain⟨f0,f1,f2,f3⟩:=fr4 E.o;clear bh bi)
        | (refine wP (by rfl) (.tmp 72) (.tmp 76) 169 (by rfl) w7.heap.size 166 i0 _ 1 8 Tryz.underlying169 Hi.o dt.o du.o dv.o rfl (by decide) (.slice A8 n8 c8) n8 vs (by rfl) Y.o.own (w9.heap.size+1) (some ⟨w9.heap.size,0,none⟩) 3 3 [.func (.func 100) #[] #[],.func (.func 169) #[] #[p1,p2],.func (.func 100) #[] #[]] (by rfl) (Sl.new w9 _ _ 3 rfl) (fun x hx=>by simp at hx;rcases hx with rfl | rfl | rfl <;> rfl) (by have:=ca.o;unfold maxLen;omega) (by have:=ca.o;omega) (by simp;omega) ?_
           intro cH cI cL bj ab cM cN;have bg:Hid (OpsO cL w7.heap.size cH (n8+3) cI (vs++ [.func (.func 100) #[] #[],.func (.func 169) #[] #[p1,p2],.func (.func 100) #[] #[]]) (os++ [none,some (st+u,1::t),none])):=Y.o.app rfl (fun i x o hx ho=>by
            match i,hx,ho with
            | 0,hx,ho=>cases hx;cases ho;rfl
            | 1,hx,ho=>cases hx;cases ho;exact(HV.o.below cG.o ai).more (by simp)
            | 2,hx,ho=>cases hx;cases ho;rfl) bj ab
           rw[aw.o]at bg;have j:Hid (Below w7.heap.size w8 cL):=(((X.o.trans (cG.o.mono (by omega))).mono cE).grown ab (by simp;omega) (fun g hg=>iy Y.o.own g hg))
           obtain⟨u0,u1,u2,u3⟩:=(b.o.below j.o (by omega)).dk4;have n0:=ah u0;have n1:=ah u1;have n2:=ah u2;have n3:=ah u3;clear u0 u1 u2 u3 bj ab cM cN))
     go_wp2_with fail;refine ZY (fw Tryz.results77 rfl (E.o.set4 _ _ _ _) rfl) rfl ?_;exact L.o HF.o bv.o _ _ ⟨Z,rfl,(cJ.o.box E.o _ _ _ _).more (by simp),dH (J.o.trans ((au.o.trans ((I.o.mono (by omega)).trans (D.o.mono (by omega)))).mono (by omega))) (by omega) _ _ _ _⟩
 . rw[if_neg (fun h=>hf h.1)]at h3
   have cO: (eU l).2=4:=by rw[eU,if_neg hf]
   rw[cO]at h3;subst h3;have HF:=ah hf;clear hf cO
   go_wp2
   refine ZY (fw Tryz.results77 rfl (O.o.set4 _ _ _ _) rfl) rfl ?_;exact cP.o HF.o _ _ ⟨⟨none,0,none,0⟩,rfl,nk _,dH (J.o.trans (cd.o.mono (by omega))) (by omega) _ _ _ _⟩
def bZ(d:Dk)(a:Nat)(l:List M5):Dk×Int :=
 if ¬dF l=true then(zDk,4) else if hf d.ss< (secs d.sz (az l)).length then(zDk,19) else aH d (fe d.sz d.ss a (secs d.sz (az l)))
theorem EP(d:Dk)(s:Dsl)(B a u:Nat)(rs l:List M5)(A:OA)(n c B2:Nat)(w:MZ)(hd:d.Ok)(hpn:d.pn= [])(hj:Jn d.sz d.ss a rs u)(hm:DkM w B d s)(hB:B<=w.heap.size)
  (hs:Sl w B2 1 A n (flat aA l)) (hB2:B2<=w.heap.size) (hn:n<=maxLen) (hl0:l≠ []) :
  Calls Tryz.prog 49 #[dkV d s,.slice A n c] w (aW (bZ d a l).1 (bZ d a l).2 w):=by
 obtain⟨W,hW⟩:=NX9 ((w.alloc (.cells (dkC d s) 25)).alloc (.cells #[.int .i64 0,.slice none 0 0,.slice none 0 0,.int .i64 0] 25))
 have K:Hid (Below w.heap.size w W):=by rw[<-hW];exact((af _ w).alloc ai _).alloc (by simp) _
 have HK:Hid (Bk W w.heap.size 25 (dkC d s)):=by rw[<-hW];exact(Bk.new w _ _).alloc _
 have HZ:Hid (Bk W (w.heap.size+1) 25 #[.int .i64 0,.slice none 0 0,.slice none 0 0,.int .i64 0]):=by
  rw[<-hW];have:=Bk.new (w.alloc (.cells (dkC d s) 25)) 25 #[.int .i64 0,.slice none 0 0,.slice none 0 0,.int .i64 0]
  rwa[Z9]at this
 have zW:W.heap.size=w.heap.size+2:=by rw[<-hW];simp
 have HM:Hid (DkM W B d s):=hm.below K.o hB;have HO:=ah (sW d s B a u rs W hd hpn hj HM.o (by omega));have HE:=ah (fun w' (hb:Below W.heap.size W w')=>wK A n c B2 d.sz l w' (hs.below (K.o.trans (hb.mono (by omega))) hB2) (by have:=hb.size;omega) hn hd.sz0 hd.sz1);obtain⟨b,hb,dr⟩:∃b:Nat,3 - a=b/\ (3:Int) - (a:Int)= (b:Int):=⟨3 - a,rfl,by have:=hj.act;omega⟩
 have r:b=1∨b=2:=by have:=hj.act;omega
 have bj:=ah (fun w'=>mg d s b w' (by have:=hj.n3;omega) hd.n1 r);have cH:=ah hb;clear hb;have Z:=ah (fun w'=>oN d s w' (by have:=hj.n3;omega) hd.n1);have cI:Hid (¬dF l=true->∀e w',aW zDk 4 w e w'->aW (bZ d a l).1 (bZ d a l).2 w e w'):=fun h e w' hh=>by rw[bZ,if_pos h];exact hh
 have L:Hid (dF l=true->hf d.ss< (secs d.sz (az l)).length->∀e w',aW zDk 19 w e w'->aW (bZ d a l).1 (bZ d a l).2 w e w'):=fun h h2 e w' hh=>by rw[bZ,if_neg (by simp[h]),if_pos h2];exact hh
 have M:Hid (dF l=true->¬hf d.ss< (secs d.sz (az l)).length->∀e w',aW (aH d (fe d.sz d.ss a (secs d.sz (az l)))).1 (aH d (fe d.sz d.ss a (secs d.sz (az l)))).2 w e w'->aW (bZ d a l).1 (bZ d a l).2 w e w'):=fun h h2 e w' hh=>by rw[bZ,if_neg (by simp[h]),if_neg h2];exact hh
 have cJ:=hj.u_le;have HD:=ah hd;have HJ:=ah hj;have HW:=ah hW;have cL:=ah hl0;have cM:=ah hpn;generalize aW (bZ d a l).1 (bZ d a l).2 w=RR at *;clear hd hj hm hs hl0 hW hpn;obtain⟨ns,N⟩:=NX9 d.ss.length
 obtain⟨np,bk⟩:=NX9 d.pn.length
 have ab:=ah N;have cN:=ah bk;simp only[dkV,dkC,N,bk]at HO bj Z HK HW ⊢;clear N bk;obtain⟨k0,k1,k2,k3⟩:=HK.o.dk4;obtain⟨z0,z1,z2,z3⟩:=HZ.o.dk4
 go_enter Tryz.func49,Tryz.ntmps49
 go_wp2_with fail;rw[HW.o];refine HO.o.mono ?_;rintro e w1 ⟨A1,c1,rfl,cO,cP,cQ,ad⟩;obtain⟨W2,H⟩:=NX9 (w1.alloc (.cells #[.int .i64 a,.slice A1 rs.length c1,.int .i64 u] 142))
 have ag:Hid (Below W.heap.size W W2):=by rw[<-H];exact ad.alloc ad.size _
 have cb:Hid (Bk W2 w1.heap.size 142 #[.int .i64 a,.slice A1 rs.length c1,.int .i64 u]):=by rw[<-H];exact Bk.new w1 _ _
 have ds:=ad.size;have dt:W2.heap.size=w1.heap.size+1:=by rw[<-H];simp
 have bm:Hid (Bk W2 w.heap.size 25 #[.int .i64 d.sz,.slice s.a1 ns s.c1,.slice s.a2 np s.c2,.int .i64 d.lf]):=HK.o.below ag.o (by omega);have cc:Hid (Bk W2 (w.heap.size+1) 25 #[.int .i64 0,.slice none 0 0,.slice none 0 0,.int .i64 0]):=HZ.o.below ag.o (by omega);obtain⟨q0,q1,q2,q3⟩:=bm.o.dk4;have cR:=ah H;rw[<-H]at q0 q1 q2 q3;clear cO cP cQ ad H HO k0 k1 k2 k3 z0 z1 z2 z3;go_wp2_with fail;rw[cR.o];refine(HE.o _ ag.o).mono ?_;rintro e w3 ⟨I,h3⟩;have cd:Hid (Below W.heap.size W w3):=ag.o.trans (I.mono (by omega));have bn:=ah (bm.o.below I bm.o.lt);have O:=ah (cc.o.below I cc.o.lt);have bo:=ah (cb.o.below I cb.o.lt);have du:=I.size;obtain⟨q0,q1,q2,q3⟩:=bn.o.dk4;obtain⟨z0,z1,z2,z3⟩:=O.o.dk4;obtain⟨f0,f1,f2,f3⟩:=fr4 O.o;obtain⟨g0,g1,g2⟩:=bo.o.three;clear I;by_cases hf:dF l=true
 . rw[if_pos ⟨hf,cL.o⟩]at h3
   obtain⟨A3,c3,rfl,P,ce,cf⟩:=h3;have bp:=ah P;have cg:=ah ce;have dv:=ah cf;have HF:=ah hf;have al:SecF d.sz l (secs d.sz (az l)):=⟨fitB_iff.1 hf,rfl⟩
   obtain⟨S,hS⟩:=NX9 (secs d.sz (az l))
   rw[hS]at al P bp cg;have dx:=ah hS;rw[hS]at L M ⊢;obtain⟨t,S1,bq,ch⟩:=al.cons HD.o.sz0;obtain⟨m,hm⟩:=NX9 S.length
   have dy:0<m:=by rw[<-hm,bq];simp
   rw[hm]at P bp cg L M ⊢;have cS:=ah hm;obtain⟨gb,rfl⟩:∃gb,A3=some ⟨gb,0,none⟩:=by
    rcases P.2 with ⟨_,h⟩ | ⟨g,cap,cur,hv,_⟩
    . omega
    . cases hv;exact⟨g,rfl⟩
   have cT:=ah al;have dN:=ah bq;have dT:=ah ch;have ea:¬((m:Int)=0):=by omega
   obtain⟨h,hh⟩:=NX9 (Go.Proofs.YtknefelegjlgnaaGreatDoor.hf d.ss)
   rw[hh]at L M Z cJ;have dn:m<=65600000:=by rw[<-hm,<-hS];exact Z0 (xH HD.o.sz0 _) (by have:=mE (fitB_iff.1 hf);have:=eB (n:=(bJ l).length) (by omega);simp only[az,Z5,ae];omega)
   have dp:h<=1000:=by rw[<-hh];unfold Go.Proofs.YtknefelegjlgnaaGreatDoor.hf;have:=ab.o;have:=HD.o.n1;omega
   have br:=ah hh;clear P ce cf al hS bq ch hm hh hf;go_wp2_with fail;refine(Z.o _).mono ?_;rintro e w4 ⟨rfl,ci⟩;have J:=ah ci;clear ci q0 q1 q2 q3 g0 g1 g2 f0 f1 f2 f3 z0 z1 z2 z3;have eb:=J.o.size;have ap:Hid (Below W.heap.size W w4):=cd.o.trans (J.o.mono (by omega));have bs:=ah (bn.o.below J.o bn.o.lt);have Q:=ah (O.o.below J.o O.o.lt);have bt:=ah (bo.o.below J.o bo.o.lt);have cU:Hid (w4.ownsRow W2.heap.size 9 1 (.slice (some ⟨gb,0,none⟩) m c3) m (flat aA S)):=fM bp.o J.o;obtain⟨q0,q1,q2,q3⟩:=bs.o.dk4;obtain⟨z0,z1,z2,z3⟩:=Q.o.dk4;obtain⟨f0,f1,f2,f3⟩:=fr4 Q.o;obtain⟨g0,g1,g2⟩:=bt.o.three;by_cases hfull:h<m
   . have cV: (h:Int)< (m:Int):=by omega
     have bv:=ah hfull;clear hfull;go_wp2_with fail;refine ZY (fw Tryz.results49 rfl (Q.o.set4 _ _ _ _) rfl) rfl ?_;exact L.o HF.o bv.o _ _ ⟨⟨none,0,none,0⟩,rfl,nk _,dH (K.o.trans (ap.o.mono (by omega))) (by omega) _ _ _ _⟩
   . have cV:¬(h:Int)< (m:Int):=by omega
     have bv:=ah hfull;clear hfull L;obtain⟨st,am⟩:=NX9 (aC d.ss b)
     rw[am]at bj;have cW:=gy (ss:=d.ss) r HJ.o.n3;rw[am,br.o,ab.o]at cW;have N:=HD.o.n1;rw[ab.o]at N;have cX:=ah am;clear am;go_wp2_with fail;refine(bj.o _).mono ?_;rintro e w5 ⟨rfl,y⟩;have ec:=y.size;have aq:Hid (Below W.heap.size W w5):=ap.o.trans (y.mono (by omega));have f:=ah (bs.o.below y bs.o.lt);have cj:=ah (Q.o.below y Q.o.lt);have ed:=ah (bt.o.below y bt.o.lt);have cY:Hid (w5.ownsRow W2.heap.size 9 1 (.slice (some ⟨gb,0,none⟩) m c3) m (flat aA S)):=fM cU.o y;clear y q0 q1 q2 q3 z0 z1 z2 z3 f0 f1 f2 f3 g0 g1 g2;obtain⟨q0,q1,q2,q3⟩:=f.o.dk4;go_wp2_with fail;have ck:=ah (fun w' (hb:Below w5.heap.size w5 w')=>AA st (st+h) d.sz (some ⟨gb,0,none⟩) m c3 w5.heap.size S w' ((Sl.of_own cY.o).below hb ai) hb.size (by omega) (by omega) HD.o.sz1);rw[Int.natCast_add]at ck;have dq:IntKind.i64.wrap ((st:Int)+ (h:Int))= (st:Int)+ (h:Int):=by rw[IntKind.wrap_i64];omega
     go_region_held3 (fun w'=>w'.cell? ⟨w.heap.size,0,none⟩=some (.int .i64 d.sz)/\w'.cell? ⟨w.heap.size,1,none⟩=some (.slice s.a1 ns s.c1)/\w'.cell? ⟨w.heap.size,2,none⟩=some (.slice s.a2 np s.c2)/\w'.cell? ⟨w.heap.size,3,none⟩=some (.int .i64 d.lf))
      (first | exact⟨q0,q1,q2,q3⟩ | exact⟨m0.o,m1.o,m2.o,m3.o⟩ | exact⟨n0.o,n1.o,n2.o,n3.o⟩)
      (first
        | (go_at_call 110;refine(Z.o _).mono ?_;rintro e w7 ⟨rfl,cl⟩
           have R:Hid (Below w5.heap.size w5 w7):=((af _ w5).drew).trans cl;obtain⟨u0,u1,u2,u3⟩:=(f.o.below R.o f.o.lt).dk4;have m0:=ah u0;have m1:=ah u1;have m2:=ah u2;have m3:=ah u3;clear cl u0 u1 u2 u3)
        | (go_at_call 111;refine(ck.o _ R.o).mono ?_;rintro e da ⟨A8,n8,c8,vs,rfl,cm,k,cn,co,cp⟩
           have z:Hid (Below w5.heap.size w5 da):=R.o.trans (k.mono R.o.size);obtain⟨u0,u1,u2,u3⟩:=(f.o.below z.o f.o.lt).dk4;have n0:=ah u0;have n1:=ah u1;have n2:=ah u2;have n3:=ah u3;have ar:=ah cm;have bw:=ah cn;have ee:=ah co;have ef:=ah cp;have eg:=R.o.size;have cq:=k.size;clear k cm cn co cp u0 u1 u2 u3))
     have cr:Utf8.encode (b:Int)=ofL [UInt8.ofNat b]:=by rcases r with rfl | rfl <;> rfl
     have bx:=ah (fun w'=>l7 [UInt8.ofNat b] d.sz w' (by have:=HD.o.sz0;simp;omega) HD.o.sz1);obtain⟨mk,bz⟩:=NX9 (ofL (bY d.sz b))
     rw[show ofL (bB d.sz [UInt8.ofNat b])=mk from bz,<-cr]at bx;have db:=ah bz;clear bz cr n0 n1 n2 n3 m0 m1 m2 m3 q0 q1 q2 q3;obtain⟨q0,q1,q2,q3⟩:=(f.o.below z.o f.o.lt).dk4;go_wp2_with fail;refine(bx.o _).mono ?_;rintro e w8 ⟨rfl,k⟩;have T:Hid (Below w5.heap.size w5 w8):=z.o.trans (k.mono z.o.size);have ca:=ah (ar.o.below k);have cs:w7.heap.size<=w8.heap.size:=Z0 cq k.size;clear k ar bx q0 q1 q2 q3;have au:=BO HD.o HJ.o cT.o (by rw[cS.o,br.o];omega);have ct:=ah au;have av:Hid ((dm st S (st+h) d.sz).map some++ [none,some (0,bY d.sz b),none]=fe d.sz d.ss a S):=by
      show _=_;unfold fe;rw[cH.o,cX.o,br.o]
     have C: ((dm st S (st+h) d.sz).map some).length=n8:=ca.o.len;have cu:=ah C;obtain⟨os,cv⟩:=NX9 ((dm st S (st+h) d.sz).map some)
     rw[cv]at ca av cu;have aw:=ah (fun w'=>jZ 0 (bY d.sz b) w');rw[db.o]at aw;have dc:Hid (DkM w8 W.heap.size d s):=(HM.o.more hB |>.more (by omega)).below (aq.o.trans (T.o.mono (by omega))) ai;clear au C cv;obtain⟨i0,hi,aD,aE,ba⟩:=info_parts vE;have Hi:=ah hi;have dd:=ah aD;have de:=ah aE;have dj:=ah ba;clear hi aD aE ba;have j:=ah (f.o.below T.o f.o.lt);have dk:=ah (cj.o.below T.o cj.o.lt);obtain⟨q0,q1,q2,q3⟩:=j.o.dk4;have eh:=T.o.size;have cw:w7.heap.size<=w8.heap.size:=cs;obtain⟨an,bb⟩:=NX9 ((aH d (fe d.sz d.ss a S)).1)
     obtain⟨ei,bd⟩:=NX9 ((aH d (fe d.sz d.ss a S)).2)
     have D:=ah (fun w' A' c' vs' (ho:OpsM w' w'.heap.size A' (n8+3) vs' (fe d.sz d.ss a S)) (hm:DkM w' w'.heap.size d s)=>uM d s w'.heap.size A' (n8+3) c' vs' (fe d.sz d.ss a S) w' HD.o hm ai ho ct.o (by rw[cM.o,ho.len];have:=bw.o;simp;omega));unfold aW at D;rw[bb,bd]at D M;simp only[dkV,dkC,ab.o,cN.o]at D;clear bb bd;go_wp2_with fail
     go_region_held3 (fun w'=>w'.cell? ⟨w.heap.size,0,none⟩=some (.int .i64 d.sz)/\w'.cell? ⟨w.heap.size,1,none⟩=some (.slice s.a1 ns s.c1)/\w'.cell? ⟨w.heap.size,2,none⟩=some (.slice s.a2 np s.c2)/\w'.cell? ⟨w.heap.size,3,none⟩=some (.int .i64 d.lf))
      (first | exact⟨y0.o,y1.o,y2.o,y3.o⟩ | exact⟨r0.o,r1.o,r2.o,r3.o⟩ | exact⟨n0.o,n1.o,n2.o,n3.o⟩ | exact⟨t0.o,t1.o,t2.o,t3.o⟩ | exact⟨m0.o,m1.o,m2.o,m3.o⟩ | exact⟨q0,q1,q2,q3⟩)
      (first
        | (go_at_call 98;refine(aw.o _).mono ?_;rintro e w9 ⟨v,rfl,hv,cx⟩;obtain⟨p1,p2,rfl⟩:=hv.fn
           have U:Hid (Below w8.heap.size w8 w9):=((af _ w8).drew).trans cx;have HV:=ah hv;have ej:=U.o.size;have ao:Below w9.heap.size w9 (w9.alloc (.cells #[.func (.func 100) #[] #[],.func (.func 169) #[] #[p1,p2],.func (.func 100) #[] #[]] 166)):=(af _ w9).alloc ai _;have V:Hid (OpsO (w9.alloc (.cells #[.func (.func 100) #[] #[],.func (.func 169) #[] #[p1,p2],.func (.func 100) #[] #[]] 166)) w7.heap.size A8 n8 c8 vs os):=(ca.o.below U.o).below ao;have cy:=ah ao;obtain⟨u0,u1,u2,u3⟩:=(j.o.below U.o j.o.lt).dk4;have m0:=ah u0;have m1:=ah u1;have m2:=ah u2;have m3:=ah u3;obtain⟨v0,v1,v2,v3⟩:=((j.o.below U.o j.o.lt).below ao (by have:=j.o.lt;omega)).dk4;have t0:=ah v0;have t1:=ah v1;have t2:=ah v2;have t3:=ah v3;clear hv cx ao u0 u1 u2 u3 v0 v1 v2 v3)
        | (go_at_call 97;refine(D.o _ cz cA _ bf.o.m (dc.o.below q.o (by omega) |>.more (by have:=q.o.size;omega))).mono ?_
           rintro e dl ⟨X,rfl,bg,bh⟩;have cC:=ah bg;have E:Hid (Below w7.heap.size w8 dl):=q.o.trans (bh.mono (by have:=q.o.size;omega));have F:=ah (dk.o.below E.o (by omega));obtain⟨e0,e1,e2,e3⟩:=F.o.dk4;obtain⟨u0,u1,u2,u3⟩:=(j.o.below E.o (by omega)).dk4;have r0:=ah u0;have r1:=ah u1;have r2:=ah u2;have r3:=ah u3;have G:w.heap.size≠w.heap.size+1:=by omega
           obtain⟨v0,v1,v2,v3⟩:=(((((j.o.below E.o (by omega)).far (p:=⟨w.heap.size+1,0,none⟩) G (.int .i64 an.sz)).far (p:=⟨w.heap.size+1,1,none⟩) G (.slice X.a1 an.ss.length X.c1)).far (p:=⟨w.heap.size+1,2,none⟩) G (.slice X.a2 an.pn.length X.c2)).far (p:=⟨w.heap.size+1,3,none⟩) G (.int .i64 an.lf)).dk4;have y0:=ah v0;have y1:=ah v1;have y2:=ah v2;have y3:=ah v3;clear u0 u1 u2 u3 v0 v1 v2 v3;obtain⟨f0,f1,f2,f3⟩:=fr4 F.o;clear bg bh)
        | (refine wP (by rfl) (.tmp 61) (.tmp 64) 169 (by rfl) w7.heap.size 166 i0 _ 1 8 Tryz.underlying169 Hi.o dd.o de.o dj.o rfl (by decide) (.slice A8 n8 c8) n8 vs (by rfl) V.o.own (w9.heap.size+1) (some ⟨w9.heap.size,0,none⟩) 3 3 [.func (.func 100) #[] #[],.func (.func 169) #[] #[p1,p2],.func (.func 100) #[] #[]] (by rfl) (Sl.new w9 _ _ 3 rfl) (fun x hx=>by simp at hx;rcases hx with rfl | rfl | rfl <;> rfl) (by have:=bw.o;unfold maxLen;omega) (by have:=bw.o;omega) (by simp;omega) ?_
           intro cz cA cD bi Y cE cF;have bf:Hid (OpsO cD w7.heap.size cz (n8+3) cA (vs++ [.func (.func 100) #[] #[],.func (.func 169) #[] #[p1,p2],.func (.func 100) #[] #[]]) (os++ [none,some (0,bY d.sz b),none])):=V.o.app rfl (fun i x o hx ho=>by
            match i,hx,ho with
            | 0,hx,ho=>cases hx;cases ho;rfl
            | 1,hx,ho=>cases hx;cases ho;exact(HV.o.below cy.o ai).more (by simp)
            | 2,hx,ho=>cases hx;cases ho;rfl) bi Y
           rw[av.o]at bf;have q:Hid (Below w7.heap.size w8 cD):=(((U.o.trans (cy.o.mono (by omega))).mono cw).grown Y (by simp;omega) (fun g hg=>iy V.o.own g hg))
           obtain⟨u0,u1,u2,u3⟩:=(j.o.below q.o (by omega)).dk4;have n0:=ah u0;have n1:=ah u1;have n2:=ah u2;have n3:=ah u3;clear u0 u1 u2 u3 bi Y cE cF))
     go_wp2_with fail;refine ZY (fw Tryz.results49 rfl (F.o.set4 _ _ _ _) rfl) rfl ?_;exact M.o HF.o bv.o _ _ ⟨X,rfl,(cC.o.box F.o _ _ _ _).more (by simp),dH (K.o.trans ((aq.o.trans ((T.o.mono (by omega)).trans (E.o.mono (by omega)))).mono (by omega))) (by omega) _ _ _ _⟩
 . rw[if_neg (fun h=>hf h.1)]at h3
   have cG: (eU l).2=4:=by rw[eU,if_neg hf]
   rw[cG]at h3;subst h3;have HF:=ah hf;clear hf cG
   go_wp2
   refine ZY (fw Tryz.results49 rfl (O.o.set4 _ _ _ _) rfl) rfl ?_;exact cI.o HF.o _ _ ⟨⟨none,0,none,0⟩,rfl,nk _,dH (K.o.trans (cd.o.mono (by omega))) (by omega) _ _ _ _⟩
theorem BL(l:List Rf)(u:Upd):bD l u≠20:=by
 unfold bD di
 repeat' split
 all_goals decide
theorem yA:∀(us:List Upd)(l:List Rf)(lg:List Upd),(dJ l lg us).2.2≠20
 | [],_,_=>by simp[dJ]
 | u::us,l,lg=>by
   rw[oh];unfold fB;by_cases h1:bD l u≠0
   . rw[if_pos h1];simp only[ne_eq,h1,not_false_iff,if_true];exact BL l u
   . rw[if_neg h1]
     by_cases h2:1000<=lg.length
     . rw[if_pos h2];simp
     . rw[if_neg h2];simp only[ne_eq,not_true,if_false];exact yA us _ _
theorem uZ:∀(us:List Upd)(l:List Rf),(aO l us).2≠20
 | [],_=>by simp[aO]
 | u::us,l=>by
   rw[aO];by_cases h1:bD l u≠0
   . rw[if_pos h1];exact BL l u
   . rw[if_neg h1];exact uZ us _
theorem GH(rs:List Rf)(lg us:List Upd): (cK rs lg us).2.2≠20:=by
 show(if aV rs lg≠0 then([],[],aV rs lg) else dJ rs lg us:List Rf×List Upd×Int).2.2≠20;split
 . simp only
   unfold aV
   repeat' split
   . decide
   . exact uZ lg []
   . decide
   . decide
 . exact yA us rs lg
theorem IG(p:List Itm)(d:Dig):dz p d≠20:=by
 unfold dz;split
 . decide
 . split
   . split <;> decide
   . decide
theorem AscI.nodup_len{p l:List Itm}(h:AscI p)(hs:∀i∈p,i∈l):p.length<=l.length :=
 oM (h.imp (fun {a b} hl e=>by rw[e]at hl;exact gK _ hl)) hs
def ExE(r:Rp)(a u:Nat)(pl:fC)(w:MZ)(e:Ending)(w':MZ):Prop:=match pl with
 | .no=>∃x:Int,x≠0/\x≠20/\dw zRp x w e w'
 | .keep=>dw r 0 w e w'
 | .app g p rs lg=>dw (after r (bS r.d a u (aM g)) p rs lg).1 (after r (bS r.d a u (aM g)) p rs lg).2 w e w'
 | .rew g p rs lg=>dw (after r (bZ r.d a (aM g)) p rs lg).1 (after r (bZ r.d a (aM g)) p rs lg).2 w e w'
theorem EE{p q:List Itm}{k:Nat}{x:Itm}(h:q[k]? =some x):dC p (q.take (k+1))=if(bE p x.1).isSome=true then dC p (q.take k) else dC p (q.take k)++ [x]:=by
 rw[aS h];unfold dC;rw[List.filter_append];cases hf:bE p x.1 with
 | none=>simp[hf]
 | some b=>simp[hf]
theorem ExE.err{r:Rp}{a u:Nat}{w w':MZ}{x:Int}(h1:x≠0)(h2:x≠20)(hb:Below w.heap.size w w'):ExE r a u .no w (.returned (.tuple #[.agg rzC,.int .i64 x])) w':=⟨x,h1,h2,zRs,rfl,RpM.zero _ _,hb⟩
theorem yT(r:Rp)(s:Rsl)(x:Dk×Int)(q:Dsl)(p:List Itm)(rs:List Rf)(lg:List Upd)(t:Rsl)(w w':MZ)(hb:Below w.heap.size w w')(hr:RpM w' w'.heap.size r s)(hp:RpM w' w'.heap.size ⟨zDk,p,rs,lg⟩ t)(hx:DkM w' w'.heap.size x.1 q) :
  dw (after r x p rs lg).1 (after r x p rs lg).2 w (.returned (.tuple #[if x.2=0 then rpV {(⟨zDk,p,rs,lg⟩:Rp) with d:=x.1} {t with d:=q} else if x.2=20 then rpV {r with d:=x.1} {s with d:=q} else rpV zRp zRs,.int .i64 x.2])) w':=by
 unfold after;by_cases h0:x.2=0
 . rw[if_pos h0,if_pos h0,h0]
   exact⟨{t with d:=q},rfl,⟨hx,hp.p,hp.rf,hp.l,hp.pc,hp.pm⟩,hb⟩
 . rw[if_neg h0,if_neg h0]
   by_cases h2:x.2=20
   . rw[if_pos h2,if_pos h2,h2]
     exact⟨{s with d:=q},rfl,⟨hx,hr.p,hr.rf,hr.l,hr.pc,hr.pm⟩,hb⟩
   . rw[if_neg h2,if_neg h2]
     exact⟨zRs,rfl,RpM.zero _ _,hb⟩
def iW:Prop:=∀(A:OA)(n c B:Nat)(q:List Itm)(w:MZ),Sl w B 3 A n (flat itC q)->B<=w.heap.size->n<=200000-> (∀i∈q,i.2.size<=65536)-> (∀i∈q,WfD i.1) ->
 Calls Tryz.prog 33 #[.slice A n c] w fun e w'=>∃x:Int,e= .returned (.int .i64 x)/\ (x=0↔PlOk q)/\x≠20/\Below w.heap.size w w'
section
open Go.Maps
def bW(rs:List Rf)(log:List Upd)(s:M3):Dig×Int :=
 if aV rs log≠0 then((0,0),aV rs log) else if bL s then(if df rs s= (0,0) then((0,0),8) else(df rs s,0)) else((0,0),6)
def ql(r:Dig×Int)(w:MZ)(e:Ending)(w':MZ):Prop:=e= .returned (.tuple #[.agg #[.int .u64 r.1.1,.int .u64 r.1.2],.int .i64 r.2])/\Below w.heap.size w w'
theorem lY{fn:Func}{c i:Tmp}(h:fn.results= #[.cell c 50,.tmp i]){w:MZ}{a:Array M4}{b:Nat}{x y v:M4}(ha:a[c]?.getD undef= .pointer (some ⟨b,0,none⟩))(hk:Bk w b 50 #[x,y])(hv:a[i]?.getD undef=v) :
  (results fn a).run Tryz.prog w= .ok (.tuple #[.agg #[x,y],v]) w:=by
 have h0:=hk.cell 0;have h1:=hk.cell 1;simp at h0 h1;simp[results,h,ha,hv,go_sem,h0,h1]
theorem K8(l:List Rf)(s:M3)(h:OkR l): (gL l s).isSome=!decide (df l s= (0,0)):=by
 rw[zh];unfold gL;cases hf:eT l s with
 | none=>simp
 | some r =>
   have:=h.2 r (List.mem_of_find?_eq_some hf);simp[this]
theorem Em{w:MZ}{b n:Nat}{l:List Rf}(h:Rm w Tryz.prog 9 b n (gL l))(hl:OkR l){s:M3}(hs:s.size<=maxLen): (Instr.lookup 132 (.map (some b)) (.string s) true).run Tryz.prog w= .ok (.tuple #[aB (df l s),.bool (!decide (df l s= (0,0)))]) w:=by
 rw[<-BA,<-K8 l s hl];exact h.look_ok Tryz.underlying9 Tryz.underlying132 (Tryz.zeroValue50 w) hs
theorem Gl(A0 A1:OA)(n0 c0 n1 c1 B:Nat)(rs:List Rf)(log:List Upd)(s:M3)(w:MZ)(h0:Sl w B 3 A0 n0 (flat rfC rs))(h1:Sl w B 5 A1 n1 (flat upC log))(hB:B<=w.heap.size)
  (hn0:n0<=maxLen) (hn1:n1<=maxLen) (hs:s.size<=maxLen) (hs2:∀u∈log,u.1.size<=maxLen) :
  Calls Tryz.prog 66 #[.agg #[.slice A0 n0 c0,.slice A1 n1 c1],.string s] w (ql (bW rs log s) w):=by
 have H0:=ah h0;have H1:=ah h1;clear h0 h1;have HS:=ah hs;have q:=ah hs2;have t:=ah hn0;have v:=ah hn1;clear hs hs2 hn0 hn1;have HR:Hid (∀r,bW rs log s=r->∀e w',ql r w e w'->ql (bW rs log s) w e w'):=fun r h e w' hh=>by rw[h];exact hh
 have HG:Hid (bW rs log s=if aV rs log≠0 then((0,0),aV rs log) else if bL s then(if df rs s= (0,0) then((0,0),8) else(df rs s,0)) else((0,0),6)):=rfl
 go_enter Tryz.func66,Tryz.ntmps66
 go_wp2_with fail;have c:Below w.heap.size w ((w.alloc (.cells #[.slice A0 n0 c0,.slice A1 n1 c1] 33)).alloc (.cells #[.int .u64 0,.int .u64 0] 50)):=((af _ w).alloc ai _).alloc (by simp) _;refine(xW A0 A1 n0 c0 n1 c1 B rs log _ (H0.o.below c hB) (H1.o.below c hB) (by simp;omega) t.o v.o q.o).mono ?_;rintro e w1 ⟨mb,rfl,k,hm⟩;have k1:Bk w1 (w.heap.size+1) 50 #[.int .u64 0,.int .u64 0]:=by
  have:=Bk.new (w.alloc (.cells #[.slice A0 n0 c0,.slice A1 n1 c1] 33)) 50 #[.int .u64 0,.int .u64 0];rw[Z9]at this;exact this.below k (by simp)
 have m:Hid (Below w.heap.size w w1):=c.trans (k.mono (by simp;omega));have z:w.heap.size+2<=w1.heap.size:=by have:=k.size;simp at this;omega
 have HM:=ah hm;clear k c hm;have K1:=ah k1;obtain⟨r0,r1,f0,f1⟩:=k1.agg;clear k1;by_cases hc:aV rs log=0
 . have l:=ah hc
   have x:=ah (KZ hc);obtain⟨b,rfl,n,f⟩:=HM.o hc;have HO:=ah f;have A:=f.lt;clear f n HM;rw[l.o];clear hc;go_wp2_with fail;refine(wX s _ HS.o).mono ?_;rintro e w2 ⟨rfl,i⟩;have C:=i.size;have K2:=ah (K1.o.below i (by omega));have o:=ah (m.o.trans (i.mono (by omega)));have y:=ah (HO.o.kept (iA i none) (by simp));clear i r0 r1 f0 f1;obtain⟨r0,r1,f0,f1⟩:=K2.o.agg;cases hn:bL s with
   | false =>
     have a:Hid (bW rs log s= ((0,0),6)):=by show _=_;rw[HG.o,l.o,hn];simp
     clear hn
     go_wp2
     exact ZY (lY Tryz.results66 rfl (K2.o.set2 _ _) rfl) rfl (HR.o _ a.o _ _ ⟨rfl,dR o.o (by omega) _ _⟩)
   | true =>
     have a:Hid (bW rs log s=if df rs s= (0,0) then((0,0),8) else(df rs s,0)):=by show _=_;rw[HG.o,l.o,hn];simp
     clear hn;have d:=Em y.o x.o HS.o;obtain⟨⟨g0,g1⟩,hg⟩:∃g:Dig,df rs s=g:=⟨_,rfl⟩
     rw[hg]at a d;have D:=ah hg;clear hg;simp only[aB]at d;have J1:=ah (K2.o.alloc (.cells #[.int .u64 g0,.int .u64 g1] 50));have p:Hid (Below w.heap.size w (w2.alloc (.cells #[.int .u64 g0,.int .u64 g1] 50))):=o.o.alloc (by omega) _;obtain⟨q0,q1,e0,e1⟩:=J1.o.agg;by_cases hz: ((g0,g1):Dig)= (0,0)
     . rw[decide_eq_true hz]at d
       simp only[Bool.not_true]at d;have j:Hid (bW rs log s= ((0,0),8)):=by show _=_;rw[a.o,if_pos hz]
       clear hz
       go_wp2
       exact ZY (lY Tryz.results66 rfl (J1.o.set2 _ _) rfl) rfl (HR.o _ j.o _ _ ⟨rfl,dR p.o (by omega) _ _⟩)
     . rw[decide_eq_false hz]at d
       simp only[Bool.not_false]at d;have j:Hid (bW rs log s= ((g0,g1),0)):=by show _=_;rw[a.o,if_neg hz]
       clear hz
       go_wp2
       exact ZY (lY Tryz.results66 rfl (J1.o.set2 _ _) rfl) rfl (HR.o _ j.o _ _ ⟨rfl,dR p.o (by omega) _ _⟩)
 . have E: (aV rs log != 0)=true:=by rw[bne_iff_ne];exact hc
   have a:Hid (bW rs log s= ((0,0),aV rs log)):=by show _=_;rw[HG.o,if_pos hc]
   clear hc HM
   go_wp2
   exact ZY (lY Tryz.results66 rfl (K1.o.set2 _ _) rfl) rfl (HR.o _ a.o _ _ ⟨rfl,dR m.o (by omega) _ _⟩)
end
