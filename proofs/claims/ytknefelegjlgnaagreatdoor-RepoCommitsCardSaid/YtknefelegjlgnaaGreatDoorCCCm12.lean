/-Lemmas.-/
import Derived.Test.YtknefelegjlgnaaGreatDoorCCCm11
set_option maxRecDepth 100000
set_option maxHeartbeats 4000000
namespace Go.Proofs.YtknefelegjlgnaaGreatDoor
open Go.RowKit
section
open Go.Maps
@[go_sem] theorem Vp : Tryz.prog.eqGuardType Tryz.prog.depth 50 = false := by kernel_rfl
@[go_sem] theorem Vl : Tryz.prog.eqGuardType Tryz.prog.depth 85 = false := by kernel_rfl
@[go_sem] theorem Vm : Tryz.prog.eqGuardType Tryz.prog.depth 52 = false := by kernel_rfl
theorem Am(dd:Nat)(a b c d:Int)(w:VA): (Op.equalIn (dd+2) 50 (.agg #[.int .u64 a,.int .u64 b]) (.agg #[.int .u64 c,.int .u64 d])).run Tryz.prog w= .ok (a == c && b == d) w:=by
 have u3:=Tryz.underlying48;have a3:=Tryz.isAgg48;have z3:=Tryz.sizeOf48;rw[Op.equalIn];simp only[Sem.run_bind,run_underlying Tryz.underlying50,Result.andThen_ok];simp only[Std.Legacy.Range.forIn_eq_forIn_range',Std.Legacy.Range.size,Nat.sub_zero,Nat.add_sub_cancel,Nat.div_one,List.range'_succ,List.range'_zero,List.forIn_cons,List.forIn_nil]
 go_simp
 by_cases h1:a=c <;> by_cases h2:b=d <;> simp[h1,h2]
@[go_sem high] theorem Vr (a b c d : Int) (w : VA) : (Op.equalIn 10000 50 (.agg #[.int .u64 a, .int .u64 b]) (.agg #[.int .u64 c, .int .u64 d])).run Tryz.prog w = .ok (a == c && b == d) w := Am 9998 a b c d w
theorem Tu:Tryz.prog.stoodInHeld 52=false:=by kernel_rfl
theorem TF:Tryz.prog.stoodInHeld 85=false:=by kernel_rfl
@[go_sem high] theorem Vs (s t : VB) (a b c d : Int) (w : VA) : (Op.equalIn 10000 52 (.agg #[.string s, .int .u64 a, .int .u64 b]) (.agg #[.string t, .int .u64 c, .int .u64 d])).run Tryz.prog w = .ok (s.toList == t.toList && (a == c && b == d)) w := by
 have hS:Tryz.prog.underlying 52=some (.struct (Tryz.prog.fieldsOf 52)):=by kernel_rfl
 have a28:=Tryz.isAgg50;have z28:=Tryz.sizeOf50;have a9:=Tryz.isAgg9;have u9:=Tryz.underlying9;have e28:=fun w=>Am 9997 a b c d w;rw[show(10000:Nat)=9999+1 from rfl,run_equalIn_agg w 9999 52 _ _ hS Tu];simp only[Program.fieldsOf,Tryz.underlying52]
 go_simp
 by_cases h1:s.toList=t.toList <;> by_cases h2:a=c <;> by_cases h3:b=d <;> simp[h1,h2,h3]
@[go_sem high] theorem Vt (s t : VB) (a b c d a' b' c' d' : Int) (w : VA) :
  (Op.equalIn 10000 85 (.agg #[.string s,.int .u64 a,.int .u64 b,.int .u64 c,.int .u64 d]) (.agg #[.string t,.int .u64 a',.int .u64 b',.int .u64 c',.int .u64 d'])).run Tryz.prog w= .ok (s.toList == t.toList && (a == a' && b == b') && (c == c' && d == d')) w:=by
 have hS:Tryz.prog.underlying 85=some (.struct (Tryz.prog.fieldsOf 85)):=by kernel_rfl
 have a28:=Tryz.isAgg50;have z28:=Tryz.sizeOf50;have a9:=Tryz.isAgg9;have u9:=Tryz.underlying9;have e28:=fun a b c d w=>Am 9997 a b c d w;rw[show(10000:Nat)=9999+1 from rfl,run_equalIn_agg w 9999 85 _ _ hS TF];simp only[Program.fieldsOf,Tryz.underlying85]
 go_simp
 by_cases h1:s.toList=t.toList <;> by_cases h2:a=a' <;> by_cases h3:b=b' <;> by_cases h4:c=c' <;> by_cases h5:d=d' <;> simp[h1,h2,h3,h4,h5]
theorem vV{d e:Dig}(h:d=e): (d.1 == e.1 && d.2 == e.2)=true:=by simp[h]
theorem vI{d e:Dig}(h:d≠e): (d.1 == e.1 && d.2 == e.2)=false:=by
 rw[Bool.eq_false_iff];intro hh;simp at hh;exact h (Prod.ext hh.1 hh.2)
theorem UH{W w1:VA}{B:Nat}(hb:Below B W w1):∀b o,b<B->w1.cell? ⟨b,o,none⟩=W.cell? ⟨b,o,none⟩:=fun b o h=>hb.cell (p:=⟨b,o,none⟩) h
theorem vK(u:Upd)(w:VA)(hs:u.1.size<=maxLen) :
  Calls Tryz.prog 152 #[Jm u] w fun e w'=>e= .returned (.int .i64 (dI u))/\VE w w':=by
 obtain⟨s,⟨a,b⟩,⟨c,d⟩⟩:=u;have hP:Hid (dI (s,(a,b),(c,d))=if dh s then(if(a,b)= (c,d) then 1 else 0) else 6):=rfl;generalize dI (s,(a,b),(c,d))=pe at *;show Calls Tryz.prog 152 #[.agg #[.string s,.int .u64 a,.int .u64 b,.int .u64 c,.int .u64 d]] w _;have HS:=ai hs;clear hs
 go_enter Tryz.func152,Tryz.ntmps152
 go_wp2_with fail;refine(Bj s _ HS.o).mono ?_;rintro e w1 ⟨rfl,hb⟩;have hc:=UH hb;have H1:=hc w.heap.size 1 (by simp);have H2:=hc w.heap.size 2 (by simp);have H3:=hc w.heap.size 3 (by simp);have H4:=hc w.heap.size 4 (by simp);have HB:=ai (((ah _ _).alloc aj _).trans (hb.mono (by simp)));clear hc hb;simp at H1 H2 H3 H4;cases hn:dh s with
 | false =>
   go_wp2
   go_ret
   exact⟨yU (by rw[hP.o,hn];rfl),HB.o⟩
 | true =>
   by_cases e: (a,b)= ((c,d):Dig)
   . have t1:=vV e
     simp only at t1;have HE:=ai e;clear e
     go_wp2
     go_ret
     exact⟨yU (by rw[hP.o,hn,if_pos HE.o];rfl),HB.o⟩
   . have t1:=vI e
     simp only at t1;have HE:=ai e;clear e
     go_wp2
     go_ret
     exact⟨yU (by rw[hP.o,hn,if_neg HE.o];rfl),HB.o⟩
def qK(us:List Upd):Bool:=us.any (fun u=>decide (150<u.1.size)) || decide (12<us.length)
theorem Sl.upd{w:VA}{B n k:Nat}{A:OA}{us:List Upd}(h:Sl w B 5 A n (flat upC us))(hk:k<n) :
  ∃b off u,A=some ⟨b,off,none⟩/\b<B/\us[k]? =some u/\w.cell? ⟨b,off+k*5,none⟩=some (.string u.1)/\w.cell? ⟨b,off+k*5+1,none⟩=some (.int .u64 u.2.1.1)
   /\w.cell? ⟨b,off+k*5+2,none⟩=some (.int .u64 u.2.1.2)/\w.cell? ⟨b,off+k*5+3,none⟩=some (.int .u64 u.2.2.1)/\w.cell? ⟨b,off+k*5+4,none⟩=some (.int .u64 u.2.2.2):=by
 obtain⟨b,off,u,rfl,hb,hu,hc⟩:=h.at_ gz (by omega) hk;exact⟨b,off,u,rfl,hb,hu,hc 0 _ rfl,hc 1 _ rfl,hc 2 _ rfl,hc 3 _ rfl,hc 4 _ rfl⟩
theorem Sl.ref{w:VA}{B n k:Nat}{A:OA}{rs:List Rf}(h:Sl w B 3 A n (flat rfC rs))(hk:k<n) :
  ∃b off r,A=some ⟨b,off,none⟩/\b<B/\rs[k]? =some r/\w.cell? ⟨b,off+k*3,none⟩=some (.string r.1)/\w.cell? ⟨b,off+k*3+1,none⟩=some (.int .u64 r.2.1)
   /\w.cell? ⟨b,off+k*3+2,none⟩=some (.int .u64 r.2.2):=by
 obtain⟨b,off,u,rfl,hb,hu,hc⟩:=h.at_ jg (by omega) hk;exact⟨b,off,u,rfl,hb,hu,hc 0 _ rfl,hc 1 _ rfl,hc 2 _ rfl⟩
theorem MP(A:OA)(n c B:Nat)(us:List Upd)(w:VA)(hS:Sl w B 5 A n (flat upC us))(hm:n<=maxLen) :
  Calls Tryz.prog 121 #[.slice A n c] w fun e w'=>e= .returned (.bool (qK us))/\w=w':=by
 unfold maxLen at hm;have HL:=ai (hS.len gz (by omega));have HS:=ai hS;clear hS;have hM:Hid (qK us= (us.any (fun u=>decide (150<u.1.size)) || decide (12<us.length))):=rfl;generalize qK us=mb at *
 go_enter Tryz.func121,Tryz.ntmps121
 go_wp2
 go_loop[3] (fun i=>∃k:Nat,k<=n/\i= .int .i64 k/\Hid ((us.take k).any (fun u=>decide (150<u.1.size))=false)) (fun i=>n - (intOf i).toNat)
 case atStart=>exact⟨0,ZX _,rfl,by simp[Hid]⟩
 case round =>
  obtain⟨k,hk,rfl,hno⟩:=hrel;by_cases hlt:k<n
  . obtain⟨b,off,u,rfl,hb,hu,h0,_,_,_,_⟩:=HS.o.upd hlt
    have HU:=ai hu;clear hu;by_cases hbig:150<u.1.size
    . go_wp2
      go_ret
      refine⟨bF ?_,rfl⟩;rw[hM.o];have:us.any (fun u=>decide (150<u.1.size))=true:=List.any_eq_true.2 ⟨u,Z7 HU.o,by simpa using hbig⟩;rw[this];rfl
    . have hn:Hid ((us.take (k+1)).any (fun u=>decide (150<u.1.size))=false):=by
        show _=false;rw[aV HU.o,List.any_append,hno.o];simpa using hbig
      go_wp2
      go_round
      case rel=>exact⟨k+1,by omega,by go_num,hn⟩
      case measure=>simp[intOf];omega
  . have hall:Hid (us.any (fun u=>decide (150<u.1.size))=false):=by
      have:=hno.o
      rwa[ZU (by rw[HL.o];omega)]at this
    have hd:decide (12<n)=decide (12< (n:Int)):=by
     rw[decide_eq_decide];omega
    have HD:=ai hd;clear hd
    go_wp2
    go_ret
    refine⟨bF ?_,rfl⟩;rw[hM.o,hall.o,HL.o,HD.o];rfl
theorem J6(A0 A1:OA)(n0 c0 n1 c1 B:Nat)(rs qs:List Rf)(w:VA)(h0:Sl w B 3 A0 n0 (flat rfC rs))(h1:Sl w B 3 A1 n1 (flat rfC qs))(m0:n0<=maxLen) :
  Calls Tryz.prog 56 #[.slice A0 n0 c0,.slice A1 n1 c1] w fun e w'=>e= .returned (.bool (decide (rs=qs)))/\∃k,w'=w.drewN k:=by
 unfold maxLen at m0;have a:=ai (h0.len jg (by omega));have b:=ai (h1.len jg (by omega));have H0:=ai h0;have H1:=ai h1;clear h0 h1;have hM:Hid (decide (rs=qs)=true↔rs=qs):=decide_eq_true_iff;generalize decide (rs=qs)=mb at *;by_cases hn:n0=n1
 . subst hn
   go_enter Tryz.func56,Tryz.ntmps56
   go_wp2
   go_loopw[5] (fun i wr=>∃k nq:Nat,k<=n0/\i= .int .i64 k/\wr=w.drewN nq/\Hid (rs.take k=qs.take k)) (fun i _=>n0 - (intOf i).toNat)
   case atStart=>exact⟨0,0,ZX _,rfl,rfl,rfl⟩
   case round =>
    obtain⟨k,nq,hk,rfl,rfl,heq⟩:=hrel;by_cases hlt:k<n0
    . obtain⟨b0,o0,r,rfl,_,hr,x0,x1,x2⟩:=H0.o.ref hlt
      obtain⟨b1,o1,q,rfl,_,hq,y0,y1,y2⟩:=H1.o.ref hlt;have HR:=ai hr;have HQ:=ai hq;clear hr hq;have hlz: (k:Int)< (n0:Int):=by omega
      by_cases e:r=q
      . have t1: (r.1.toList == q.1.toList && (r.2.1 == q.2.1 && r.2.2 == q.2.2))=true:=by rw[e];simp
        have HE:=ai e;clear e;have hnx:Hid (rs.take (k+1)=qs.take (k+1)):=by
         show _=_;rw[aV HR.o,aV HQ.o,heq.o,HE.o]
        go_wp2
        go_quiet(fail)
        go_wp2
        go_roundw
        case rel=>exact⟨k+1,_,by omega,by go_num,rfl,hnx⟩
        case measure=>simp[intOf];omega
      . have t1: (r.1.toList == q.1.toList && (r.2.1 == q.2.1 && r.2.2 == q.2.2))=false:=by
          rw[Bool.eq_false_iff];intro hh;simp only[Bool.and_eq_true,beq_iff_eq,ByteArray.toList_eq]at hh;apply e
          exact Prod.ext (iR hh.1) (Prod.ext hh.2.1 hh.2.2)
        have HE:=ai e;clear e
        go_wp2
        go_quiet(fail)
        go_wp2
        go_ret
        refine⟨bF ?_,⟨_,World.drewN_drewN _ _ _⟩⟩
        symm
        rw[Bool.eq_false_iff];intro hh;have:=hM.o.1 hh;subst this;exact HE.o (Option.some.inj (HR.o.symm.trans HQ.o))
    . have hall:Hid (mb=true):=by
        have:=heq.o;rw[ZU (by rw[a.o];omega),ZU (by rw[b.o];omega)]at this;exact hM.o.2 this
      go_wp2
      go_ret
      exact⟨bF hall.o.symm,_,rfl⟩
 . have hne: ((n0:Int) != (n1:Int))=true:=by rw[bne_iff_ne];omega
   go_enter Tryz.func56,Tryz.ntmps56
   go_wp2
   go_ret
   refine⟨bF ?_,0,rfl⟩
   symm
   rw[Bool.eq_false_iff];intro hh;have:=hM.o.1 hh;subst this;exact hn (a.o.symm.trans b.o)
theorem Kw(A0 A1:OA)(n0 c0 n1 c1 B:Nat)(rs qs:List Upd)(w:VA)(h0:Sl w B 5 A0 n0 (flat upC rs))(h1:Sl w B 5 A1 n1 (flat upC qs))(m0:n0<=maxLen) :
  Calls Tryz.prog 57 #[.slice A0 n0 c0,.slice A1 n1 c1] w fun e w'=>e= .returned (.bool (decide (rs=qs)))/\∃k,w'=w.drewN k:=by
 unfold maxLen at m0;have a:=ai (h0.len gz (by omega));have b:=ai (h1.len gz (by omega));have H0:=ai h0;have H1:=ai h1;clear h0 h1;have hM:Hid (decide (rs=qs)=true↔rs=qs):=decide_eq_true_iff;generalize decide (rs=qs)=mb at *;by_cases hn:n0=n1
 . subst hn
   go_enter Tryz.func57,Tryz.ntmps57
   go_wp2
   go_loopw[5] (fun i wr=>∃k nq:Nat,k<=n0/\i= .int .i64 k/\wr=w.drewN nq/\Hid (rs.take k=qs.take k)) (fun i _=>n0 - (intOf i).toNat)
   case atStart=>exact⟨0,0,ZX _,rfl,rfl,rfl⟩
   case round =>
    obtain⟨k,nq,hk,rfl,rfl,heq⟩:=hrel;by_cases hlt:k<n0
    . obtain⟨b0,o0,r,rfl,_,hr,x0,x1,x2,x3,x4⟩:=H0.o.upd hlt
      obtain⟨b1,o1,q,rfl,_,hq,y0,y1,y2,y3,y4⟩:=H1.o.upd hlt;have HR:=ai hr;have HQ:=ai hq;clear hr hq;have hlz: (k:Int)< (n0:Int):=by omega
      by_cases e:r=q
      . have t1: (r.1.toList == q.1.toList && (r.2.1.1 == q.2.1.1 && r.2.1.2 == q.2.1.2) && (r.2.2.1 == q.2.2.1 && r.2.2.2 == q.2.2.2))=true:=by rw[e];simp
        have HE:=ai e;clear e;have hnx:Hid (rs.take (k+1)=qs.take (k+1)):=by
         show _=_;rw[aV HR.o,aV HQ.o,heq.o,HE.o]
        go_wp2
        go_quiet(fail)
        go_wp2
        go_roundw
        case rel=>exact⟨k+1,_,by omega,by go_num,rfl,hnx⟩
        case measure=>simp[intOf];omega
      . have t1: (r.1.toList == q.1.toList && (r.2.1.1 == q.2.1.1 && r.2.1.2 == q.2.1.2) && (r.2.2.1 == q.2.2.1 && r.2.2.2 == q.2.2.2))=false:=by
          rw[Bool.eq_false_iff];intro hh;simp only[Bool.and_eq_true,beq_iff_eq,ByteArray.toList_eq]at hh;apply e
          exact Prod.ext (iR hh.1.1) (Prod.ext (Prod.ext hh.1.2.1 hh.1.2.2) (Prod.ext hh.2.1 hh.2.2))
        have HE:=ai e;clear e
        go_wp2
        go_quiet(fail)
        go_wp2
        go_ret
        refine⟨bF ?_,⟨_,World.drewN_drewN _ _ _⟩⟩
        symm
        rw[Bool.eq_false_iff];intro hh;have:=hM.o.1 hh;subst this;exact HE.o (Option.some.inj (HR.o.symm.trans HQ.o))
    . have hall:Hid (mb=true):=by
        have:=heq.o;rw[ZU (by rw[a.o];omega),ZU (by rw[b.o];omega)]at this;exact hM.o.2 this
      go_wp2
      go_ret
      exact⟨bF hall.o.symm,_,rfl⟩
 . have hne: ((n0:Int) != (n1:Int))=true:=by rw[bne_iff_ne];omega
   go_enter Tryz.func57,Tryz.ntmps57
   go_wp2
   go_ret
   refine⟨bF ?_,0,rfl⟩
   symm
   rw[Bool.eq_false_iff];intro hh;have:=hM.o.1 hh;subst this;exact hn (a.o.symm.trans b.o)
theorem oI{B:Nat}{a w:VA}(h:Below B a w)(n:Nat):Below B a (w.drewN n):=⟨h.os,h.tape,h.output,h.size,h.block⟩
theorem NG(A0 A1 A2 A3:OA)(n0 c0 n1 c1 n2 c2 n3 c3 B:Nat)(rs qs:List Rf)(us vs:List Upd)(w:VA)(h0:Sl w B 3 A0 n0 (flat rfC rs))(h1:Sl w B 5 A1 n1 (flat upC us))(h2:Sl w B 3 A2 n2 (flat rfC qs))(h3:Sl w B 5 A3 n3 (flat upC vs))(hB:B<=w.heap.size)(m0:n0<=maxLen)(m1:n1<=maxLen) :
  Calls Tryz.prog 19 #[.agg #[.slice A0 n0 c0,.slice A1 n1 c1],.agg #[.slice A2 n2 c2,.slice A3 n3 c3]] w fun e w'=>e= .returned (.bool (decide (rs=qs) && decide (us=vs)))/\VE w w':=by
 have hz:B<= (w.alloc (.cells #[.slice A0 n0 c0,.slice A1 n1 c1] 33)).heap.size:=by simp;omega
 have HB:=ai (((ah w.heap.size w).alloc aj (.cells #[.slice A0 n0 c0,.slice A1 n1 c1] 33)).alloc (by simp) (.cells #[.slice A2 n2 c2,.slice A3 n3 c3] 33));have H0:=ai ((h0.alloc hB (.cells #[.slice A0 n0 c0,.slice A1 n1 c1] 33)).alloc hz (.cells #[.slice A2 n2 c2,.slice A3 n3 c3] 33));have H1:=ai ((h1.alloc hB (.cells #[.slice A0 n0 c0,.slice A1 n1 c1] 33)).alloc hz (.cells #[.slice A2 n2 c2,.slice A3 n3 c3] 33));have H2:=ai ((h2.alloc hB (.cells #[.slice A0 n0 c0,.slice A1 n1 c1] 33)).alloc hz (.cells #[.slice A2 n2 c2,.slice A3 n3 c3] 33));have H3:=ai ((h3.alloc hB (.cells #[.slice A0 n0 c0,.slice A1 n1 c1] 33)).alloc hz (.cells #[.slice A2 n2 c2,.slice A3 n3 c3] 33));have M0:=ai m0;have M1:=ai m1;clear h0 h1 h2 h3 m0 m1 hz
 go_enter Tryz.func19,Tryz.ntmps19
 go_wp2_with fail;refine(J6 A0 A2 n0 c0 n2 c2 B rs qs _ H0.o H2.o M0.o).mono ?_;rintro e w1 ⟨rfl,k1,rfl⟩;cases hd:decide (rs=qs) with
 | false =>
   go_wp2_with fail;go_ret
   exact⟨bF (by rw[hd];rfl),oI HB.o _⟩
 | true =>
   go_wp2_with fail;refine(Kw A1 A3 n1 c1 n3 c3 B us vs _ (H1.o.drewN _) (H3.o.drewN _) M1.o).mono ?_;rintro e w2 ⟨rfl,k2,rfl⟩;go_wp2_with fail;go_ret
   exact⟨bF (by rw[hd,Bool.true_and]),oI HB.o _⟩
end
section
open Go.Maps
theorem EH{w:VA}{b n:Nat}{l:List Rf}(h:Rm w Tryz.prog 9 b n (gL l)){s:VB}(hs:s.size<=maxLen): (Instr.lookup 132 (.map (some b)) (.string s) false).run Tryz.prog w= .ok (az (dB l s)) w:=by
 rw[<-GX];exact h.look Tryz.underlying9 Tryz.underlying132 (Tryz.zeroValue50 w) hs
theorem jE{w w':VA}(h:VE w w')(row:Option Nat):w.grownBy w' row:=⟨h.os,h.tape,h.output,h.size,fun k hk _=>h.block k hk⟩
def zy(b n:Nat)(r:List Rf×Int)(w:VA)(e:Ending)(w':VA):Prop :=
 e= .returned (.int .i64 r.2)/\Rm w' Tryz.prog 9 b n (gL r.1)/\w.grownBy w' (some b)
theorem DJ(b n:Nat)(l:List Rf)(u:Upd)(w:VA)(hown:Rm w Tryz.prog 9 b n (gL l))(hl:fJ l)(hn:n<maxLen)(hs:u.1.size<=maxLen) :
  Calls Tryz.prog 85 #[.map (some b),Jm u] w (zy b (n+1) (stepG l u) w):=by
 obtain⟨s,⟨o0,o1⟩,⟨q0,q1⟩⟩:=u;show Calls Tryz.prog 85 #[.map (some b),.agg #[.string s,.int .u64 o0,.int .u64 o1,.int .u64 q0,.int .u64 q1]] w _;have HS:Hid (s.size<=maxLen):=hs;clear hs;have HN:=ai hn;have HL:=ai hl;have HO:=ai hown;have hblt:=hown.lt;clear hn hl hown;have HR:Hid (∀r,stepG l (s,(o0,o1),(q0,q1))=r->∀e w',zy b (n+1) r w e w'->zy b (n+1) (stepG l (s,(o0,o1),(q0,q1))) w e w'):=fun r h e w' hh=>by rw[h];exact hh
 go_enter Tryz.func85,Tryz.ntmps85
 go_wp2_with fail;refine(vK (s,(o0,o1),(q0,q1)) _ HS.o).mono ?_;rintro e w1 ⟨rfl,hb1⟩;have k1:Bk w1 w.heap.size 85 #[.string s,.int .u64 o0,.int .u64 o1,.int .u64 q0,.int .u64 q1]:=(Bk.new w 85 _).below hb1 (by simp);have HB1:VF w w1:=((ah _ w).alloc aj _).trans (hb1.mono (by simp));clear hb1;have c:Hid (Rm w1 Tryz.prog 9 b n (gL l)):=HO.o.kept (jE HB1.o none) (by simp);have u0:=k1.cell 0;have u1:=k1.cell 1;have u2:=k1.cell 2;have u3:=k1.cell 3;have u4:=k1.cell 4;simp at u0 u1 u2 u3 u4;clear k1;by_cases hp:dI (s,(o0,o1),(q0,q1))=0
 . have HP:=ai hp
   rw[HP.o];clear hp;have hlk:=EH c.o HS.o;obtain⟨⟨g0,g1⟩,hg⟩:∃g:Dig,dB l s=g:=⟨_,rfl⟩
   rw[hg]at hlk;have HG:=ai hg;clear hg;simp only[az]at hlk;by_cases heq: ((g0,g1):Dig)= (o0,o1)
   . have t1:=vV heq
     simp only at t1;have herr:Hid (bM l (s,(o0,o1),(q0,q1))=0):=by
      show _=_;unfold bM;rw[if_neg (by rw[HP.o];simp),if_neg (by rw[show dB l (s,(o0,o1),(q0,q1)).1=dB l s from rfl,HG.o,heq];simp)]
     have hst:Hid (stepG l (s,(o0,o1),(q0,q1))= (bZ l s (q0,q1),0)):=by
      show _=_;unfold stepG;rw[herr.o,if_neg (by simp)]
     clear heq;by_cases hz: ((q0,q1):Dig)= (0,0)
     . have t2:=vV hz
       simp only at t2;have HZ:=ai hz;clear hz
       go_wp2_with (at_delete;refine JY rfl _ _ 132 9 rfl 50 Tryz.underlying9 Tryz.underlying132 b n (gL l) rfl c.o s HS.o rfl ?_;intro w2 hown2 a)
       rw[Ug s HL.o,<-HZ.o]at hown2;have d:=ai (hown2.more (Nat.le_succ n));have HT2:=ai a;clear hown2 a
       go_wp2
       go_ret
       exact HR.o _ hst.o _ _ ⟨rfl,d.o,(jE HB1.o (some b)).trans HT2.o⟩
     . have t2:=vI hz
       simp only at t2;have HZ:=ai hz;clear hz
       go_wp2_with (at_mapUpdate;refine oH rfl _ _ _ 132 rfl 9 50 Tryz.underlying9 Tryz.underlying132 b n (gL l) rfl c.o HN.o s HS.o (az (q0,q1)) rfl rfl ?_;intro w2 hown2 a)
       rw[Uk s HZ.o HL.o]at hown2;have d:=ai hown2;have HT2:=ai a;clear hown2 a
       go_wp2
       go_ret
       exact HR.o _ hst.o _ _ ⟨rfl,d.o,(jE HB1.o (some b)).trans HT2.o⟩
   . have t1:=vI heq
     simp only at t1;have hst:Hid (stepG l (s,(o0,o1),(q0,q1))= (l,17)):=by
      show _=_;have e1:bM l (s,(o0,o1),(q0,q1))=17:=by
       unfold bM;rw[if_neg (by rw[HP.o];simp),if_pos (by rw[show dB l (s,(o0,o1),(q0,q1)).1=dB l s from rfl,HG.o];exact heq)]
      unfold stepG;rw[e1,if_pos (by simp)]
     clear heq
     go_wp2
     go_ret
     exact HR.o _ hst.o _ _ ⟨rfl,c.o.more (Nat.le_succ n),jE HB1.o (some b)⟩
 . have hne: (dI (s,(o0,o1),(q0,q1)) != 0)=true:=by rw[bne_iff_ne];exact hp
   have hst:Hid (stepG l (s,(o0,o1),(q0,q1))= (l,dI (s,(o0,o1),(q0,q1)))):=by
    show _=_;have e1:bM l (s,(o0,o1),(q0,q1))=dI (s,(o0,o1),(q0,q1)):=if_pos hp;unfold stepG;rw[e1,if_pos hp]
   clear hp
   go_wp2
   go_ret
   exact HR.o _ hst.o _ _ ⟨rfl,c.o.more (Nat.le_succ n),jE HB1.o (some b)⟩
def zG(n:Nat)(r:List Rf×Int)(w:VA)(e:Ending)(w':VA):Prop :=
 ∃mb:Option Nat,e= .returned (.tuple #[.map mb,.int .i64 r.2])/\VE w w'/\ (r.2=0->∃b,mb=some b/\w.heap.size<=b/\Rm w' Tryz.prog 9 b n (gL r.1))
theorem MV(A:OA)(n c B:Nat)(us:List Upd)(w:VA)(h:Sl w B 5 A n (flat upC us))(hB:B<=w.heap.size)(hn:n<=1000)(hs:∀u∈us,u.1.size<=maxLen) :
  Calls Tryz.prog 132 #[.slice A n c] w (zG n (aP [] us) w):=by
 have HL:=ai (h.len gz (by omega));have H:=ai h;have HS:=ai hs;clear h hs;have HR:Hid (∀r,aP [] us=r->∀e w',zG n r w e w'->zG n (aP [] us) w e w'):=fun r h e w' hh=>by rw[h];exact hh
 have hmax:1000<maxLen:=by unfold maxLen;omega
 have hmm:=@run_makeMap Tryz.prog
 go_enter Tryz.func132,Tryz.ntmps132
 go_wp2
 go_loopw[11] (fun i wr=>∃(k:Nat)(l:List Rf),k<=n/\i= .int .i64 k/\Hid (Rm wr Tryz.prog 9 w.heap.size k (gL l))/\Hid (fJ l)/\VF w wr/\w.heap.size+1<=wr.heap.size/\Hid (aP [] us=aP l (us.drop k))) (fun i _=>n - (intOf i).toNat)
 case atStart=>exact⟨0,[],ZX _,rfl,Rm.made w _ _,List.Pairwise.nil,(ah _ _).alloc aj _,by simp,rfl⟩
 case round =>
  obtain⟨k,l,hk,rfl,O,SR,hBel,hwz,hrun⟩:=hrel;by_cases hlt:k<n
  . obtain⟨b,off,u,rfl,hbB,hu,y0,y1,y2,y3,y4⟩:=(H.o.below hBel.o hB).upd hlt
    have f:=ai hu;have g:=ai (HS.o u (Z7 hu));clear hu;have hst2:Hid (aP [] us=if(stepG l u).2≠0 then stepG l u else aP (stepG l u).1 (us.drop (k+1))):=by
     show _=_;have hl:=List.getElem?_eq_some_iff.1 f.o;rw[hrun.o,List.drop_eq_getElem_cons hl.1,hl.2,OX]
    obtain⟨s,⟨o0,o1⟩,⟨q0,q1⟩⟩:=u;have hlz: (k:Int)< (n:Int):=by omega
    go_wp2_with fail;refine(DJ w.heap.size k l (s,(o0,o1),(q0,q1)) _ (by first | exact O.o.alloc _ | trace_state) SR.o (by omega) g.o).mono ?_;rintro e w2 ⟨rfl,hown2,hg2⟩;have hzz:wr.heap.size<=w2.heap.size:=by have:=hg2.size;simp at this;omega
    have a:=ai hown2;have HB2:VF w w2:=(hBel.o.alloc (by omega) _).grown hg2 (by simp;omega) (fun k e=>by cases e;exact Nat.le_refl _);have d:Hid (fJ (stepG l (s,(o0,o1),(q0,q1))).1):=Dl SR.o;clear hown2 hg2 y0 y1 y2 y3 y4;generalize hgg:stepG l (s,(o0,o1),(q0,q1))=r at *;obtain⟨l2,x⟩:=r;simp only at a d hst2 ⊢;by_cases hx:x=0
    . subst hx
      have hnx:Hid (aP [] us=aP l2 (us.drop (k+1))):=by
       show _=_;rw[hst2.o,if_neg (by simp)]
      go_wp2
      go_roundw
      case rel=>exact⟨k+1,l2,by omega,by go_num,a.o,d.o,HB2.o,by omega,hnx.o⟩
      case measure=>simp[intOf];omega
    . have hne: (x != 0)=true:=by rw[bne_iff_ne];exact hx
      have hfin:Hid (aP [] us= (l2,x)):=by
       show _=_;rw[hst2.o,if_pos hx]
      have HX:=ai hx;clear hx
      go_wp2
      go_ret2
      exact HR.o _ hfin.o _ _ ⟨none,rfl,HB2.o,fun h=>absurd h HX.o⟩
  . have hfin:Hid (aP [] us= (l,0)):=by
      show _=_;rw[hrun.o,List.drop_of_length_le (by rw[HL.o];omega)];rfl
    go_wp2
    go_ret2
    exact HR.o _ hfin.o _ _ ⟨some w.heap.size,rfl,hBel.o,fun _=>⟨_,rfl,Nat.le_refl _,O.o.more hk⟩⟩
end
section
open Go.RowKit Go.Maps Go.Sort Go.Shelf
attribute [local go_sem] Oper.semAt_some
theorem Oe(gf:Nat)(lb:Array VC)(eg:∀args w,(callFunc gf args).run Tryz.prog w= .ok (.enter gf args) w)(S Sp:List (List UInt8)->Prop)(N:Nat)(w:VA)(hn:N<=1000000)(hseq:SeqStops Fence.wide 5 Tryz.prog gf lb encStr S Sp N w) :
  Calls Tryz.prog 199 #[.func (.func gf) #[] lb] w fun e w' =>
   ∃A c ss,e= .returned (.slice A ss.length c)/\S ss/\w'.ownsRow w.heap.size 9 1 (.slice A ss.length c) ss.length (strs (ss.map ub))/\VE w w':=by
 have HA:=ai (vZ gf lb eg S Sp N none 0 0 [] w w (World.ownsRow_nil _ _ _ _) (ah _ _) (by omega) hseq);clear hseq
 go_enter Tryz.func199,Tryz.ntmps199
 go_wp2_with (go_at_call 201;refine HA.o.mono ?_;rintro e w1 ⟨A,c,ss,rfl,h⟩;rw[Nat.zero_add,List.nil_append]at h;have HH:=ai h;clear h)
 go_ret
 exact⟨A,c,ss,rfl,HH.o⟩
theorem Ll(gf:Nat)(lb:Array VC)(eg:∀args w,(callFunc gf args).run Tryz.prog w= .ok (.enter gf args) w)(S Sp:List (List UInt8)->Prop)(N:Nat)(w:VA)(hn:N<=1000000)(hS:∀ss,S ss->ss.length<=N)(hseq:SeqStops Fence.wide 5 Tryz.prog gf lb encStr S Sp N w) :
  Calls Tryz.prog 153 #[.func (.func gf) #[] lb] w fun e w' =>
   ∃A c ss,e= .returned (.slice A ss.length c)/\S ss/\w'.ownsRow w.heap.size 9 1 (.slice A ss.length c) ss.length (strs (iW (ss.map ub)))/\VE w w':=by
 have HA:=ai (Oe gf lb eg S Sp N w (by omega) hseq);clear hseq
 go_enter Tryz.func153,Tryz.ntmps153
 go_wp2_with fail;refine HA.o.mono ?_;rintro e w1 ⟨A,c,ss,rfl,hs,hrow,hb⟩;have b:=ai hs;have HB:=ai hb;have a:=ai hrow;have hl:=hS ss hs;have HS:=ai (EI w.heap.size ss.length c A (ss.map ub) w1 hrow (by omega));clear hs hb hrow HA;go_wp2_with fail;refine HS.o.mono ?_;rintro e w2 ⟨rfl,h1,h2⟩;have HB2:VF w w2:=HB.o.grown h2 HB.o.size (fun k hk=>jF a.o k hk);have H1:=ai h1;clear h1 h2 HS;go_wp2_with fail;go_ret
 exact⟨A,c,ss,rfl,b.o,H1.o,HB2.o⟩
def SkE(g:VB->Option VC)(N:Nat)(w:VA)(e:Ending)(w':VA):Prop :=
 ∃A c ks,e= .returned (.slice A ks.length c)/\Asc ks/\ (∀x,x∈ks↔ (g x).isSome=true)/\ks.length<=N/\w'.ownsRow w.heap.size 9 1 (.slice A ks.length c) ks.length (strs ks)/\VE w w'
theorem Me{gf:Nat}{lb:Array VC}{g:VB->Option VC}{N:Nat}{w:VA}(eg:∀args w,(callFunc gf args).run Tryz.prog w= .ok (.enter gf args) w)(hn:N<=1000000)
  (h:∃S Sp,SeqStops Fence.wide 5 Tryz.prog gf lb encStr S Sp N w/\∀ss,S ss->kG g N (ss.map ub)):Calls Tryz.prog 153 #[.func (.func gf) #[] lb] w (SkE g N w):=by
 obtain⟨S,Sp,h1,h2⟩:=h;refine(Ll gf lb eg S Sp N w hn (fun ss hs=>by have:=(h2 ss hs).few;rwa[List.length_map]at this) h1).mono ?_;rintro e w' ⟨A,c,ss,rfl,hs,hr,hb⟩;have hk:=h2 ss hs;have hl: (iW (ss.map ub)).length=ss.length:=by rw[FK,List.length_map]
 exact⟨A,c,iW (ss.map ub),by rw[hl],FN hk.nod,fun x=>by rw[EK];exact hk.mem x,by rw[hl];have:=hk.few;rwa[List.length_map]at this,by rw[hl];exact hr,hb⟩
end
end Go.Proofs.YtknefelegjlgnaaGreatDoor
namespace Go.Proofs
open Go.Shelf
def Tryz.keysR_ren:Go.Shelf.Ren:=⟨fun | 7=>154 | 10=>233 | n=>n,fun | 23=>132 | 26=>9 | 3=>50 | 28=>240 | 0=>0 | 27=>239 | 33=>195 | 4=>4 | n=>n,fun | n=>n⟩
theorem Tryz.keysR:Go.Proofs.SlLaysZ.n7 Tryz.prog Tryz.keysR_ren:={
 mixed:=by kernel_rfl
 f7:=⟨Tryz.f154.name,by decide,Tryz.func154.trans (congrArg some (by kernel_rfl))⟩
 f10:=⟨Tryz.f233.name,by decide,Tryz.func233.trans (congrArg some (by kernel_rfl))⟩
 t0:=Tryz.underlying0
 a0:=Tryz.isAgg0
 z0:=Tryz.sizeOf0
 v0:=Tryz.zeroValue0
 t4:=Tryz.underlying4
 a4:=Tryz.isAgg4
 z4:=Tryz.sizeOf4
 v4:=Tryz.zeroValue4
 t23:=Tryz.underlying132
 a23:=Tryz.isAgg132
 z23:=Tryz.sizeOf132
 v23:=Tryz.zeroValue132
 t26:=Tryz.underlying9
 a26:=Tryz.isAgg9
 z26:=Tryz.sizeOf9
 v26:=Tryz.zeroValue9
 t27:=Tryz.underlying239
 a27:=Tryz.isAgg239
 z27:=Tryz.sizeOf239
 v27:=Tryz.zeroValue239
 t28:=Tryz.underlying240
 a28:=Tryz.isAgg240
 z28:=Tryz.sizeOf240
 v28:=Tryz.zeroValue240
 t33:=Tryz.underlying195
 a33:=Tryz.isAgg195
 z33:=Tryz.sizeOf195
 v33:=Tryz.zeroValue195}
end Go.Proofs
namespace Go.Proofs.YtknefelegjlgnaaGreatDoor
open Go.RowKit
section
open Go.Maps
theorem Uw: (Tryz.prog.info? 52).map (fun i=>(i.zero,i.size,i.bytes))=some (some (.agg #[.string ⟨#[]⟩,.int .u64 0,.int .u64 0]),3,32):=by kernel_rfl
theorem uJ: (Tryz.prog.info? 85).map (fun i=>(i.zero,i.size,i.bytes))=some (some (.agg #[.string ⟨#[]⟩,.int .u64 0,.int .u64 0,.int .u64 0,.int .u64 0]),5,48):=by kernel_rfl
def Eg(l:List Rf)(w:VA)(e:Ending)(w':VA):Prop :=
 ∃A m c,e= .returned (.slice A m c)/\Sl w' w'.heap.size 3 A m (flat rfC l)/\m<=c/\c<=maxLen/\VE w w'/\w'.ownsRow w.heap.size 52 3 (.slice A m c) m (flat rfC l)
theorem KN(l:List Rf):∀u∈flat rfC l,u.oneCell'=true:=by
 intro u hu;obtain⟨r,_,hr⟩:=List.mem_flatMap.1 hu;simp only[rfC,List.mem_cons,List.not_mem_nil,or_false]at hr;rcases hr with rfl | rfl | rfl <;> rfl
theorem rE(l:List Upd):∀u∈flat upC l,u.oneCell'=true:=by
 intro u hu;obtain⟨r,_,hr⟩:=List.mem_flatMap.1 hu;simp only[upC,List.mem_cons,List.not_mem_nil,or_false]at hr;rcases hr with rfl | rfl | rfl | rfl | rfl <;> rfl
theorem KJ(l:List Rf):∀u∈flat rfC l,yl u=true:=by
 intro u hu;obtain⟨r,_,hr⟩:=List.mem_flatMap.1 hu;simp only[rfC,List.mem_cons,List.not_mem_nil,or_false]at hr;rcases hr with rfl | rfl | rfl <;> rfl
theorem KX(l:List Upd):∀u∈flat upC l,yl u=true:=by
 intro u hu;obtain⟨r,_,hr⟩:=List.mem_flatMap.1 hu;simp only[upC,List.mem_cons,List.not_mem_nil,or_false]at hr;rcases hr with rfl | rfl | rfl | rfl | rfl <;> rfl
def Jt(r:Rf):List VC:= [.string r.1]
theorem Pz(r:Rf): (Jt r).length=1:=rfl
theorem Na(l:List Rf):strs (l.map Prod.fst)=flat Jt l:=by
 induction l with
 | nil=>rfl
 | cons r l ih=>unfold strs flat at ih ⊢;rw[List.map_cons,List.map_cons,ih];rfl
theorem Rm.key_le{w:VA}{P:Program}{k:TypeId}{b N:Nat}{g:VB->Option VC}(h:Rm w P k b N g)(hk:P.underlying k=some .string){s:VB}(hs: (g s).isSome=true):s.size<=maxLen:=by
 obtain⟨D,h1,h2⟩:=h;have h3:=(h2 s).1;rw[hs]at h3;obtain⟨es,rfl,hko⟩:=h1.keysOf;rw[Maps.has_eq,List.any_eq_true]at h3;obtain⟨p,hp,h4⟩:=h3;obtain⟨v,hv⟩:=hko p hp;obtain⟨y,_,hy,hl⟩:=Maps.keyOf_str hk hv;rw[hy,BX,beq_iff_eq]at h4;rw[h4,Array.length_toList]at hl;exact hl
theorem NP(b:Nat)(w:VA):Calls Tryz.prog 154 #[.map (some b)] w fun e w'=>e= .returned (.func (.func 233) #[] #[.pointer (some ⟨w.heap.size,0,none⟩)])/\w'=w.alloc (.cells #[.map (some b)] 132):=by
 go_enter Tryz.func154,Tryz.ntmps154
 go_wp2_with fail;go_ret
 exact⟨rfl,rfl⟩
theorem Lr(Bm b N:Nat)(g:VB->Option VC)(w:VA)(hM:Rm w Tryz.prog 9 b N g)(hc:w.cell? ⟨Bm,0,none⟩=some (.map (some b)))(hB:Bm<w.heap.size)(hn:N<=1000000) :
  Calls Tryz.prog 153 #[.func (.func 233) #[] #[.pointer (some ⟨Bm,0,none⟩)]] w (SkE g N w) :=
 Me (enters_of Tryz.func233 (by kernel_rfl) rfl) hn (by
  obtain⟨D,h1,h2,h3⟩:=hM.keys Tryz.underlying9;exact⟨_,_,fun l J Jx W hW hJ hJx hY h0=>AnyZ.keys_stops (ρ:=Tryz.keysR_ren) {Tryz.keysR with} Fence.wide 5 trivial rfl (by omega) Bm b N D w hB hc h1 l J Jx W hW hJ hJx (fun pre x W1 hj hl=>hY pre x W1 hj (Nat.lt_of_lt_of_le hl h2)) h0,h3⟩)
theorem CB(b n:Nat)(l:List Rf)(w:VA)(hown:Rm w Tryz.prog 9 b n (gL l))(hl:fJ l)(hn:n<=100000) :
  Calls Tryz.prog 86 #[.map (some b)] w (Eg l w):=by
 have HS:Hid (∀r∈l,r.1.size<=maxLen):=fun r hr=>hown.key_le Tryz.underlying9 ((Gi l r.1).2 (List.mem_map.2 ⟨r,hr,rfl⟩));have HL:=ai hl;have HO:=ai hown;have hblt:=hown.lt;clear hl hown;obtain⟨i0,hi,hz0,hz1,hz2⟩:=info_parts Uw;have Hi:=ai hi;have d:=ai hz0;have f:=ai hz1;have h:=ai hz2;clear hi hz0 hz1 hz2;generalize hRR:Eg l w=RR at *;have HRR:=ai hRR;clear hRR
 go_enter Tryz.func86,Tryz.ntmps86
 go_wp2_with fail;refine(NP b _).mono ?_;rintro e w0 ⟨rfl,rfl⟩;have j:=ai (Lr w.heap.size b n (gL l) (w.alloc (.cells #[.map (some b)] 132)) (HO.o.alloc _) ((Bk.new w 132 #[.map (some b)]).cell 0) (by simp) (by omega));go_wp2_with fail;refine j.o.mono ?_;rintro e w1 ⟨A1,c1,ks,rfl,hka,a,hlen,hrow,hb1⟩;obtain rfl:ks=l.map Prod.fst:=yN hka (List.pairwise_map.2 HL.o) (fun x=>(a x).trans (Gi l x));rw[Na,List.length_map]at hrow;rw[List.length_map]at hlen;obtain⟨_,_,e1,hc1,hm1⟩:=rC hrow;cases e1
 have HK:=ai (Sl.of_own hrow);have HB1:VF w w1:=((ah _ w).alloc aj _).trans (hb1.mono (by simp));have hz1:w.heap.size+1<=w1.heap.size:=by have:=hb1.size;simp at this;omega
 have m:=ai (HO.o.kept (jE HB1.o none) (by simp));clear hka a hrow hb1 hm1;rw[List.length_map]
 go_wp2
 go_loopw[3,10] (fun v i wr=>∃(k:Nat)(A:OA)(c:Nat),k<=l.length/\i= .int .i64 k/\v= .slice A k c/\Hid (wr.ownsRow w1.heap.size 52 3 (.slice A k c) k (flat rfC (l.take k)))/\VF w1 wr/\w1.heap.size<=wr.heap.size) (fun _ i _=>l.length - (intOf i).toNat)
 case atStart=>exact⟨0,none,0,ZX _,rfl,rfl,World.ownsRow_nil _ _ _ _,ah _ _,Nat.le_refl _⟩
 case round =>
  obtain⟨k,A,c,hk,rfl,rfl,O,hBel,hwz⟩:=hrel;by_cases hlt:k<l.length
  . obtain⟨b1,off,r,rfl,hbB,hr,hc⟩:=(HK.o.below hBel.o aj).at_ Pz (by omega) hlt
    have y0:=hc 0 _ rfl;simp at y0;have HRk:=ai hr;have o:=ai (HS.o r (Z7 hr));clear hr hc;have hlk:=EH (m.o.kept (jE hBel.o none) (by simp)) o.o;rw[NF HL.o (Z7 HRk.o)]at hlk;obtain⟨s,⟨d0,d1⟩⟩:=r;simp only[az]at hlk y0;have hlz: (k:Int)< (l.length:Int):=by omega
    go_wp2_with (at_builtin;refine aO ?_)
    refine aH ?_;refine jV (base:=w1.heap.size) _ rfl (.tmp 14) (.tmp 20) 30 rfl 52 i0 _ 32 Tryz.underlying30 Hi.o d.o f.o h.o rfl (by decide) _ k (flat rfC (l.take k)) rfl (O.o.alloc _) (wr.heap.size+1) _ 1 _ (flat rfC [(s,(d0,d1))]) rfl ?hs2 (KN _) ?b4 ?b5 ?b6 ?_
    case hs2=>exact Sl.new wr 52 (flat rfC [(s,(d0,d1))]) 1 rfl
    case b4=>simp[maxLen];omega
    case b5=>omega
    case b6=>simp;omega
    intro A2 c2 w2 hown2 hg2 hc2 hm2;have hb2:VE w1 w2:=(hBel.o.alloc hwz _).grown hg2 (by simp;omega) (fun g hg=>jF O.o g hg);rw[<-bQ,<-aV HRk.o]at hown2;have p:=ai hown2;have HB2:=ai hb2;clear hown2 hg2 hb2 hc2 hm2 y0 hlk
    go_wp2
    go_roundw
    case rel=>exact⟨k+1,A2,c2,by omega,by go_num,rfl,p.o,HB2.o,HB2.o.size⟩
    case measure=>simp[intOf];omega
  . have hke:k=l.length:=by omega
    have O2:=O.o;rw[hke,List.take_length]at O2;have q:=ai O2;clear O2;subst hke
    go_wp2
    rw[<-HRR.o];obtain⟨_,_,e6,t,hc6⟩:=rC q.o;cases e6
    exact⟨A,_,c,rfl,Sl.of_own q.o,t,hc6,HB1.o.trans (hBel.o.mono (by omega)),Bc q.o (by omega)⟩
end
section
open Go.Maps
theorem KT(A0 A1:OA)(n0 c0 n1 c1 B:Nat)(rs qs:List Rf)(w:VA)(h0:Sl w B 3 A0 n0 (flat rfC rs))(h1:Sl w B 3 A1 n1 (flat rfC qs))(m0:n0<=maxLen) :
  Calls Tryz.prog 62 #[.slice A0 n0 c0,.slice A1 n1 c1] w fun e w'=>e= .returned (.bool (decide (rs=qs)))/\∃k,w'=w.drewN k:=by
 unfold maxLen at m0;have a:=ai (h0.len jg (by omega));have b:=ai (h1.len jg (by omega));have H0:=ai h0;have H1:=ai h1;clear h0 h1;have hM:Hid (decide (rs=qs)=true↔rs=qs):=decide_eq_true_iff;generalize decide (rs=qs)=mb at *;by_cases hn:n0=n1
 . subst hn
   go_enter Tryz.func62,Tryz.ntmps62
   go_wp2
   go_loopw[13] (fun i wr=>∃k nq:Nat,k<=n0/\i= .int .i64 k/\wr=w.drewN nq/\Hid (rs.take k=qs.take k)) (fun i _=>n0 - (intOf i).toNat)
   case atStart=>exact⟨0,0,ZX _,rfl,rfl,rfl⟩
   case round =>
    obtain⟨k,nq,hk,rfl,rfl,heq⟩:=hrel;by_cases hlt:k<n0
    . obtain⟨b0,o0,r,rfl,_,hr,x0,x1,x2⟩:=H0.o.ref hlt
      obtain⟨b1,o1,q,rfl,_,hq,y0,y1,y2⟩:=H1.o.ref hlt;have HR:=ai hr;have HQ:=ai hq;clear hr hq;have hlz: (k:Int)< (n0:Int):=by omega
      by_cases e:r=q
      . have t1: (r.1.toList == q.1.toList && (r.2.1 == q.2.1 && r.2.2 == q.2.2))=true:=by rw[e];simp
        have HE:=ai e;clear e;have hnx:Hid (rs.take (k+1)=qs.take (k+1)):=by
         show _=_;rw[aV HR.o,aV HQ.o,heq.o,HE.o]
        go_wp2
        go_quiet(fail)
        go_wp2
        go_roundw
        case rel=>exact⟨k+1,_,by omega,by go_num,rfl,hnx⟩
        case measure=>simp[intOf];omega
      . have t1: (r.1.toList == q.1.toList && (r.2.1 == q.2.1 && r.2.2 == q.2.2))=false:=by
          rw[Bool.eq_false_iff];intro hh;simp only[Bool.and_eq_true,beq_iff_eq,ByteArray.toList_eq]at hh;apply e
          exact Prod.ext (iR hh.1) (Prod.ext hh.2.1 hh.2.2)
        have HE:=ai e;clear e
        go_wp2
        go_quiet(fail)
        go_wp2
        go_ret
        refine⟨bF ?_,⟨_,World.drewN_drewN _ _ _⟩⟩
        symm
        rw[Bool.eq_false_iff];intro hh;have:=hM.o.1 hh;subst this;exact HE.o (Option.some.inj (HR.o.symm.trans HQ.o))
    . have hall:Hid (mb=true):=by
        have:=heq.o;rw[ZU (by rw[a.o];omega),ZU (by rw[b.o];omega)]at this;exact hM.o.2 this
      go_wp2
      go_ret
      exact⟨bF hall.o.symm,_,rfl⟩
 . have hne: ((n0:Int) != (n1:Int))=true:=by rw[bne_iff_ne];omega
   go_enter Tryz.func62,Tryz.ntmps62
   go_wp2
   go_ret
   refine⟨bF ?_,0,rfl⟩
   symm
   rw[Bool.eq_false_iff];intro hh;have:=hM.o.1 hh;subst this;exact hn (a.o.symm.trans b.o)
theorem Bk.agg{w:VA}{b:Nat}{t:TypeId}{x y:VC}(h:Bk w b t #[x,y]):w.cell? ⟨b,0,none⟩=some x/\w.cell? ⟨b,1,none⟩=some y/\w.frozen? ⟨b,0,none⟩=false/\w.frozen? ⟨b,1,none⟩=false:=by
 have h0:=h.cell 0;have h1:=h.cell 1;simp at h0 h1;exact⟨h0,h1,h.free 0,h.free 1⟩
theorem Rm.drew{w:VA}{P:Program}{k:TypeId}{b N:Nat}{g:VB->Option VC}(h:Rm w P k b N g):Rm w.drew P k b N g:=h
def zH(rs:List Rf)(x:Int)(w:VA)(e:Ending)(w':VA):Prop :=
 ∃mb:Option Nat,e= .returned (.tuple #[.map mb,.int .i64 x])/\VE w w'/\ (x=0->∃b,mb=some b/\w.heap.size<=b/\Rm w' Tryz.prog 9 b 1000 (gL rs))
theorem Di(A0 A1:OA)(n0 c0 n1 c1 B:Nat)(rs:List Rf)(log:List Upd)(w:VA)(h0:Sl w B 3 A0 n0 (flat rfC rs))(h1:Sl w B 5 A1 n1 (flat upC log))(hB:B<=w.heap.size)
  (hn0:n0<=maxLen) (hn1:n1<=maxLen) (hs:∀u∈log,u.1.size<=maxLen) :
  Calls Tryz.prog 71 #[.agg #[.slice A0 n0 c0,.slice A1 n1 c1]] w (zH rs (bu rs log) w):=by
 have a:=ai (h1.len gz (by omega));have H0:=ai (h0.alloc hB (.cells #[.slice A0 n0 c0,.slice A1 n1 c1] 33));have H1:=ai (h1.alloc hB (.cells #[.slice A0 n0 c0,.slice A1 n1 c1] 33));clear h0 h1;have HS:=ai hs;clear hs;have n:=ai hn0;clear hn0;have HB:=ai ((ah w.heap.size w).alloc aj (.cells #[.slice A0 n0 c0,.slice A1 n1 c1] 33));have hC:Hid (bu rs log=if 1000<log.length then 4 else if(aP [] log).2≠0 then(aP [] log).2 else if(aP [] log).1=rs then 0 else 11):=rfl;generalize bu rs log=ce at *;have HR:Hid (∀r,ce=r->∀e w',zH rs r w e w'->zH rs ce w e w'):=fun r h e w' hh=>by rw[h];exact hh
 unfold maxLen at hn1;by_cases hbig:1000<n1
 . have hfin:Hid (ce=4):=by show _=_;rw[hC.o,if_pos (by rw[a.o];exact hbig)]
   go_enter Tryz.func71,Tryz.ntmps71
   go_wp2_with fail;go_ret2
   exact HR.o _ hfin.o _ _ ⟨none,rfl,HB.o,fun h=>by cases h⟩
 . have hC2:Hid (ce=if(aP [] log).2≠0 then(aP [] log).2 else if(aP [] log).1=rs then 0 else 11):=by
     show _=_;rw[hC.o,if_neg (by rw[a.o];exact hbig)]
   have f:=ai (xY log [] List.Pairwise.nil);generalize hr:aP [] log=r at *;obtain⟨l,x⟩:=r;have g:=ai hr;clear hr
   go_enter Tryz.func71,Tryz.ntmps71
   go_wp2_with fail;refine(MV A1 n1 c1 B log _ H1.o (by simp;omega) (by omega) HS.o).mono ?_;rintro e w1 ⟨mb,rfl,hb,hm⟩;rw[g.o]at hm ⊢;simp only at hm ⊢;have k0:Bk w1 w.heap.size 33 #[.slice A0 n0 c0,.slice A1 n1 c1]:=(Bk.new w 33 _).below hb (by simp);obtain⟨x0,x1,_,_⟩:=k0.agg;have i:=ai (H0.o.below hb (by simp;omega));have HB1:=ai (HB.o.trans (hb.mono (by simp)));have hz:w.heap.size+1<=w1.heap.size:=by have:=hb.size;simp at this;omega
   have HM:=ai hm;have K0:=ai k0;clear hm hb k0;by_cases hx:x=0
   . subst hx
     obtain⟨b,rfl,d,hown⟩:=HM.o rfl;clear HM;have HO:=ai (hown.more (show n1<=1000 by omega));have hbl:=hown.lt;clear hown;have KS:Hid (∀W,VE w1 W->W.cell? ⟨w.heap.size,0,none⟩=some (.slice A0 n0 c0)):=fun W hb=>(hb.cell (p:=⟨w.heap.size,0,none⟩) (by show w.heap.size<_;omega)).trans x0;go_wp2_with fail
     go_region_held3 (fun w'=>w'.cell? ⟨w.heap.size,0,none⟩=some (.slice A0 n0 c0)) (first | exact x0 | exact KS.o _ ((ah _ _).drew.trans hb2) | exact KS.o _ (oI ((ah _ _).drew.trans hb2) _)) (first | (go_at_call 86;refine(CB b 1000 l _ HO.o.drew f.o (by omega)).mono ?_;rintro e w2 ⟨A,m,c,rfl,hSl,hmc,hcm,hb2,_⟩) | (go_at_call 62;refine(KT A A0 m c n0 c0 w2.heap.size l rs _ hSl ((i.o.drew.below hb2 (by show _<=w1.heap.size;omega)).more (by have:w1.heap.size<=w2.heap.size:=hb2.size;omega)) (by omega)).mono ?_;rintro e w3 ⟨rfl,k,rfl⟩))
     have HB2:VF w (w2.drewN k):=oI (HB1.o.drew.trans (hb2.mono (by show _<=w1.heap.size;omega))) _;have j:Hid (Rm (w2.drewN k) Tryz.prog 9 b 1000 (gL l)):=(HO.o.drew.kept (jE (oI hb2 k) none) (by simp))
     have hk2:Bk (w2.drewN k) w.heap.size 33 #[.slice A0 n0 c0,.slice A1 n1 c1]:=(K0.o.drew.below hb2 (by show _<w1.heap.size;omega)).drewN k;clear hSl hb2 hcm;by_cases he:l=rs
     . have hd:decide (l=rs)=true:=decide_eq_true he
       have hfin:Hid (ce=0):=by show _=_;rw[hC2.o];simp[he]
       rw[hd];have HE:=ai he;clear hd he;go_wp2_with fail;go_ret2
       exact HR.o _ hfin.o _ _ ⟨some b,rfl,HB2.o,fun _=>⟨b,rfl,by simp at d;omega,by rw[<-HE.o];exact j.o⟩⟩
     . have hd:decide (l=rs)=false:=decide_eq_false he
       have hfin:Hid (ce=11):=by show _=_;rw[hC2.o];simp[he]
       rw[hd];clear hd he;go_wp2_with fail;go_ret2
       exact HR.o _ hfin.o _ _ ⟨none,rfl,HB2.o,fun h=>by cases h⟩
   . have hne: (x != 0)=true:=by rw[bne_iff_ne];exact hx
     have hfin:Hid (ce=x):=by show _=_;rw[hC2.o];simp[hx]
     have HX:=ai hx;clear hx;go_wp2_with fail;go_ret2
     exact HR.o _ hfin.o _ _ ⟨none,rfl,HB1.o,fun h=>absurd h HX.o⟩
theorem rq{P:Program}(w:VA)(t e:TypeId)(a:OA)(l c:Nat)(h:P.underlying t=some (.slice e)): (binOp .eql t (.slice a l c) (.slice none 0 0)).run P w= .ok (.bool a.isNone) w:=by
 simp only[binOp];simp[run_equal_slice_nil w t e a l c h]
def IP(us:List Upd)(n:Nat)(w:VA)(e:Ending)(w':VA):Prop :=
 ∃A c,e= .returned (.slice A n c)/\Apd w' w.heap.size 85 5 A n c (flat upC us)/\VE w w'/\n<=c/\c<=maxLen
theorem KH(A:OA)(n c B:Nat)(us:List Upd)(w:VA)(h:Sl w B 5 A n (flat upC us))(hB:B<=w.heap.size)(hn:n<=100000) :
  Calls Tryz.prog 84 #[.slice A n c] w (IP us n w):=by
 have H:=ai h;clear h;obtain⟨i0,hi,hz0,hz1',hz2'⟩:=info_parts uJ;have Hi:=ai hi;have d:=ai hz0;have f:=ai hz1';have g:=ai hz2';clear hi hz0 hz1' hz2';generalize hRR:IP us n w=RR at *;have HRR:=ai hRR;clear hRR;cases A with
 | none =>
   have h0:n=0:=by
    rcases Nat.eq_zero_or_pos n with h | h
    . exact h
    . obtain⟨b,off,e,_⟩:=H.o.2 h;cases e
   subst h0;have hx:flat upC us= []:=by
    have:=H.o.1;rw[Nat.zero_mul]at this;exact List.length_eq_zero_iff.1 this
   have hnn:∀w:VA,(binOp .eql 31 (.slice none 0 c) (.slice none 0 0)).run Tryz.prog w= .ok (.bool true) w:=fun w=>rq w 31 85 none 0 c Tryz.underlying31
   go_enter Tryz.func84,Tryz.ntmps84
   go_wp2
   rw[<-HRR.o];exact⟨none,0,rfl,.inr ⟨rfl,rfl,hx⟩,ah _ _,Nat.le_refl _,ZX _⟩
 | some a =>
   have hnn:∀w:VA,(binOp .eql 31 (.slice (some a) n c) (.slice none 0 0)).run Tryz.prog w= .ok (.bool false) w:=fun w=>rq w 31 85 (some a) n c Tryz.underlying31
   go_enter Tryz.func84,Tryz.ntmps84
   go_wp2_with (at_builtin;refine aO ?_)
   refine aH ?_;refine eG (base:=w.heap.size) _ rfl (.tmp 5) (.tmp 6) 31 rfl 85 i0 _ 48 Tryz.underlying31 Hi.o d.o f.o g.o rfl (by decide) _ 0 0 [] rfl (.inr ⟨rfl,rfl,rfl⟩) B _ n c (flat upC us) rfl (H.o.alloc hB _) (rE _) (by unfold maxLen;omega) (by omega) (by simp) ?_;intro A2 c2 w2 ha hb hc1 hm1 hok;rw[Nat.zero_add,List.nil_append]at ha;rw[Nat.zero_add]at hc1 ⊢;have HA:=ai ha;have HB:=ai (((ah _ w).alloc aj _).trans hb);have HM:=ai hm1;clear ha hb hok hm1
   go_wp2
   rw[<-HRR.o];exact⟨A2,c2,rfl,HA.o,HB.o,hc1,HM.o⟩
end
section
open Go.Maps
def Q8(w:VA)(base av n:Nat)(bs:VD)(e:Ending)(w':VA):Prop:=∃A c,e= .returned (.slice A n c)/\Txt w' base av A n c bs/\Below base w w'/\w'.heap[av]? =w.heap[av]?
theorem Aw(d:Dig)(hd:WfD d)(A:OA)(n c base av:Nat)(bs:VD)(w:VA)(h:Txt w base av A n c bs)(hbase:base<=w.heap.size)(hav:av<w.heap.size)(hlen:n<=1099511627776) :
  Calls Tryz.prog 179 #[.slice A n c,az d] w (Q8 w base av (n+16) (bs++ay d)):=by
 obtain⟨x,y⟩:=d;obtain⟨hx0,hx1,hy0,hy1⟩:=hd;simp only at hx0 hx1 hy0 hy1;obtain⟨x,rfl⟩:=Int.eq_ofNat_of_zero_le hx0;obtain⟨y,rfl⟩:=Int.eq_ofNat_of_zero_le hy0;have o:=ai hx1;have r:=ai hy1;clear hx0 hx1 hy0 hy1;show Calls Tryz.prog 179 #[.slice A n c,.agg #[.int .u64 x,.int .u64 y]] w _;obtain⟨i0,hi,hz0,hz1,hz2⟩:=info_parts infoByte;have Hi:=ai hi;have s:=ai hz0;have t:=ai hz1;have B:=ai hz2;clear hi hz0 hz1 hz2;have HT:Hid (Txt (w.alloc (.cells #[.int .u64 x,.int .u64 y] 50)) base av A n c bs):=h.below ((ah _ _).alloc aj _);have HB:Hid (Below base w (w.alloc (.cells #[.int .u64 x,.int .u64 y] 50))):=(ah _ _).alloc hbase _;clear h
 go_enter Tryz.func179,Tryz.ntmps179
 go_wp2
 go_loopw[0,9] (fun v i wr=>∃(k:Nat)(A':OA)(m c':Nat),k<=2/\i= .int .i64 k/\v= .slice A' m c'/\Hid (m=n+8*k)/\Hid (Txt wr base av A' m c' (bs++ (ay (x,y)).take (8*k)))/\Hid (Below base w wr)/\base<=wr.heap.size/\Hid (wr.heap[av]? =w.heap[av]?)/\av<wr.heap.size) (fun _ i _=>2 - (intOf i).toNat)
 case atStart=>exact⟨0,A,n,c,by omega,rfl,rfl,rfl,by show Txt _ _ _ _ _ _ _;rw[show 8*0=0 from rfl,List.take_zero,List.append_nil];exact HT.o,HB.o,by simp;omega,Below.heap_alloc w _ av hav,by simp;omega⟩
 case round =>
  obtain⟨k,A',m,c',hk,rfl,rfl,hm,hT,hB,hwz,a,hal⟩:=hrel;by_cases hlt2:k<2
  . have hlz: (k:Int)<2:=by omega
    obtain⟨z,hz,hix,hby⟩:∃z:Nat,Hid (z<18446744073709551616)/\ (∀w,(Instr.index 50 (.agg #[.int .u64 (x:Int),.int .u64 (y:Int)]) (.int .i64 (k:Int))).run Tryz.prog w= .ok (.int .u64 (z:Int)) w)/\ (∀j,j<8-> (ay ((x:Int),(y:Int)))[8*k+j]? =some (UInt8.ofNat (z / 256 ^ (7 - j) % 256))):=by
     rcases Nat.lt_or_ge k 1 with h1 | h1
     . obtain rfl:k=0:=by omega
       refine⟨x,by show _<_;have:=o.o;omega,fun w=>by kernel_rfl,fun j hj=>?_⟩;unfold ay;rw[List.getElem?_append_left (by rw[jy];omega),Int.toNat_natCast,show 8*0+j=j by omega];exact qy 8 x j hj
     . obtain rfl:k=1:=by omega
       refine⟨y,by show _<_;have:=r.o;omega,fun w=>by kernel_rfl,fun j hj=>?_⟩;unfold ay;rw[List.getElem?_append_right (by rw[jy];omega),Int.toNat_natCast,jy,show 8*1+j - 8=j by omega];exact qy 8 y j hj
    have C:=ai hby;clear hby
    go_wp2
    obtain⟨H,rfl⟩:∃H:VA,H=wr:=⟨_,rfl⟩
    go_loopw[0,7] (fun v i wr=>∃(j:Nat)(A':OA)(m c':Nat),j<=8/\i= .int .i64 (56 - 8* (j:Int))/\v= .slice A' m c'/\Hid (m=n+8*k+j)/\Hid (Txt wr base av A' m c' (bs++ (ay ((x:Int),(y:Int))).take (8*k+j)))/\Hid (Below base w wr)/\base<=wr.heap.size/\Hid (wr.heap[av]? =w.heap[av]?)/\av<wr.heap.size) (fun _ i _=>(intOf i+8).toNat)
    case atStart=>exact⟨0,A',m,c',by omega,rfl,rfl,hm,hT,hB,hwz,a,hal⟩
    case round =>
     obtain⟨j,A',m,c',hj,rfl,rfl,hm,hT,hB,hwz,a,hal⟩:=hrel;by_cases hlt:j<8
     . have hji: (0:Int)<=56 - 8* (j:Int):=by omega
       obtain⟨p,hp⟩:=NX9 (z / 256 ^ (7 - j))
       have hsh:∀yk,Op.shift .shr .u64 (z:Int) yk (56 - 8* (j:Int))=pure (.int .u64 (p:Int)):=fun yk=>by
        rw[shift_shr .u64 yk _ _ hji (by show _<= (64:Int);omega),<-hp];rw[show(56 - 8* (j:Int)).toNat=8* (7 - j) by omega];have e: ((z:Int) / 2 ^ (8* (7 - j)))= ((z / 256 ^ (7 - j):Nat):Int):=by
         rw[show(256:Nat)=2 ^ 8 from rfl,<-Nat.pow_mul];simp
        rw[e]
       obtain⟨b,hb⟩:=NX9 (UInt8.ofNat (p % 256))
       have hw:IntKind.u8.wrap (p:Int)= (b.toNat:Int):=by
        rw[IntKind.wrap_u8,<-hb,lF (by omega)];omega
       have D:Hid ((ay ((x:Int),(y:Int)))[8*k+j]? =some b):=by
        show _=_;rw[C.o j hlt,hp,hb]
       clear hp hb;generalize hq:56 - 8* (j:Int)=q at *;have HQ:=ai hq;clear hq
       go_wp2_with (at_builtin;refine aO ?_)
       refine aH ?_;have hml:m<=2000000000000:=by have:=hm.o;omega
       refine Ap (base:=base) (av:=av) rfl (.tmp 16) (.tmp 21) 213 213 rfl 5 i0 Tryz.underlying213 Hi.o s.o t.o B.o A' m c' (bs++ (ay ((x:Int),(y:Int))).take (8*k+j)) rfl ?tx _ 1 [b] rfl ?src (by omega) (by simp;omega) (by simp;omega) ?_
       case tx=>exact hT.o.below ((ah _ _).alloc aj _)
       case src =>
        refine Src.ofSlice _ Tryz.underlying213 ⟨wr.heap.size,0,none⟩ 1 1 (bc [b]) rfl (fun i u hu=>?_) (fun u hu=>?_)
        . match i,hu with
          | 0,hu=>simp[bc]at hu;subst hu;simp[Addr.add]
        . simp[bc]at hu;subst hu;rfl
       intro A5 c5 w5 a5 hb5 hv5;have HV5:Hid (w5.heap[av]? =w.heap[av]?):=(hv5.trans (Below.heap_alloc wr _ av hal)).trans a.o;have f:av<w5.heap.size:=by have:=hb5.size;simp at this;omega
       clear hv5;rw[ZZ,<-aV D.o]at a5;have E:=ai a5;have F:=ai ((hB.o.alloc hwz (.cells #[.int .u8 b.toNat] 5)).trans hb5);have G:base<=w5.heap.size:=by have:=hb5.size;simp at this;omega
       clear a5 hb5;have hq1: -100<=q:=by have:=HQ.o;omega
       have hq2:q<=100:=by have:=HQ.o;omega
       go_wp2
       go_roundw
       case rel=>exact⟨j+1,A5,m+1,c5,by omega,by rw[<-HQ.o];congr 1;omega,rfl,by show _=_;have:=hm.o;omega,E.o,F.o,G,HV5.o,f⟩
       case measure=>have:=HQ.o;simp[intOf];omega
     . have hji:¬(0:Int)<=56 - 8* (j:Int):=by omega
       have g:Hid (j=8):=by show _=_;omega
       generalize hq:56 - 8* (j:Int)=q at *;clear hq
       go_wp2
       go_roundw
       case rel=>exact⟨k+1,A',m,c',by omega,by go_num,rfl,by show _=_;have:=hm.o;have:=g.o;omega,by show Txt _ _ _ _ _ _ _;have h1:=hT.o;rw[g.o]at h1;exact h1,hB.o,hwz,a.o,hal⟩
       case measure=>simp[intOf];omega
  . have hlz:¬(k:Int)<2:=by omega
    have l:Hid (k=2):=by show _=_;omega
    have hT2:=hT.o;have hm2:=hm.o;rw[l.o,ZU (by rw[iE];omega)]at hT2;rw[l.o]at hm2;obtain rfl:m=n+16:=hm2;have HT2:=ai hT2;clear hT2 hm
    go_wp2
    go_ret
    exact⟨A',c',rfl,HT2.o,hB.o,a.o⟩
theorem BG{u:Upd}(h:dI u=0):u.1.size<=100:=by
 unfold dI at h;by_cases hn:dh u.1=true
 . rcases Nat.lt_or_ge 100 u.1.size with hl | hl
   . unfold dh at hn;rw[decide_eq_false (by have:=jb u.1;unfold bl;omega),Bool.false_and]at hn;cases hn
   . exact hl
 . rw[if_neg hn]at h;cases h
theorem PG{u:Upd}(h:u.1.size<=100): (gW u).length<=138:=by
 have h1:=gy 0 u.1.size (by omega);unfold gW ax;rw[<-aQ];simp[iE,<-aQ];omega
theorem Fa:∀(us:List Upd),(∀u∈us,u.1.size<=100)-> (bP us).length<=138*us.length
 | [],_=>by simp[bP]
 | u::us,h=>by
   have h1:=PG (h u (by simp));have h2:=Fa us (fun v hv=>h v (by simp[hv]));have e:bP (u::us)=gW u++bP us:=rfl;rw[e,af,Z4];omega
theorem DN(us:List Upd)(u:Upd):bP (us++ [u])=bP us++gW u:=by simp[bP]
theorem NV{us:List Upd}{k:Nat}{u:Upd}(h:us[k]? =some u):dM (us.drop k)=if dI u≠0 then dI u else dM (us.drop (k+1)):=by
 have hl:=List.getElem?_eq_some_iff.1 h;rw[List.drop_eq_getElem_cons hl.1,dM,hl.2]
theorem Ti(s:VB)(w:VA):Src Tryz.prog 1 9 (.string s) s.size (bc (toL s)) w:=by
 have h:=Src.ofString (P:=Tryz.prog) w Tryz.underlying9 s;exact h
def uQ(r:VD×Int)(w:VA)(e:Ending)(w':VA):Prop:=e= .returned (.tuple #[.string (ofL r.1),.int .i64 r.2])/\VE w w'
theorem Ky(A:OA)(n c B:Nat)(us:List Upd)(w:VA)(h0:Sl w B 5 A n (flat upC us))(hB:B<=w.heap.size)(hn:n<=maxLen)(hs:∀u∈us,u.1.size<=maxLen)(hw:∀u∈us,WfU u) :
  Calls Tryz.prog 108 #[.slice A n c] w (uQ (encR us) w):=by
 unfold maxLen at hn;have HL:=ai (h0.len gz (by omega));have H0:=ai h0;have HS:=ai hs;have HW:=ai hw;clear h0 hs hw;have HR:Hid (∀r,encR us=r->∀e w',uQ r w e w'->uQ (encR us) w e w'):=fun r h e w' hh=>by rw[h];exact hh
 have HD:Hid (encR us=if 1000<us.length then([],4) else if dM us≠0 then([],dM us) else(ak us.length++bP us,0)):=rfl;obtain⟨i0,hi,hz0,hz1,hz2⟩:=info_parts infoByte;have Hi:=ai hi;have g:=ai hz0;have j:=ai hz1;have l:=ai hz2;clear hi hz0 hz1 hz2;by_cases hlim:1000<n
 . have o: (1000:Int)< (n:Int):=by omega
   have hfin:Hid (encR us= ([],4)):=by show _=_;rw[HD.o,if_pos (by rw[HL.o];exact hlim)]
   clear HD
   go_enter Tryz.func108,Tryz.ntmps108
   go_wp2
   go_ret2
   exact HR.o _ hfin.o _ _ ⟨rfl,ah _ _⟩
 . have o:¬(1000:Int)< (n:Int):=by omega
   have HD2:Hid (encR us=if dM us≠0 then([],dM us) else(ak us.length++bP us,0)):=by show _=_;rw[HD.o,if_neg (by rw[HL.o];exact hlim)]
   clear HD
   go_enter Tryz.func108,Tryz.ntmps108
   go_wp2
   go_loopw[19] (fun i wr=>∃k:Nat,k<=n/\i= .int .i64 k/\Hid (dM us=dM (us.drop k))/\VF w wr) (fun i _=>n - (intOf i).toNat)
   case atStart=>exact⟨0,ZX _,rfl,rfl,ah _ _⟩
   case round =>
    obtain⟨k,hk,rfl,hE,hBel⟩:=hrel;by_cases hlt:k<n
    . obtain⟨b,off,u,rfl,hbB,hu,y0,y1,y2,y3,y4⟩:=(H0.o.below hBel.o hB).upd hlt
      have HST:=ai (NV hu);have p:=ai (HS.o u (Z7 hu));clear hu;obtain⟨s,⟨o0,o1⟩,⟨q0,q1⟩⟩:=u;have hlz: (k:Int)< (n:Int):=by omega
      go_wp2_with fail;refine(vK (s,(o0,o1),(q0,q1)) _ p.o).mono ?_;generalize hpe:dI (s,(o0,o1),(q0,q1))=pe at *;rintro e w1 ⟨rfl,hb1⟩;have HB1:VF w w1:=(hBel.o.alloc hBel.o.size _).trans (hb1.mono (by have:=hBel.o.size;simp;omega));clear hb1 y0 y1 y2 y3 y4 hpe;by_cases hp:pe=0
      . subst hp
        have HN:Hid (dM us=dM (us.drop (k+1))):=by show _=_;rw[hE.o,HST.o];simp
        go_wp2
        go_roundw
        case rel=>exact⟨k+1,by omega,by go_num,HN.o,HB1.o⟩
        case measure=>simp[intOf];omega
      . have hne: (pe != 0)=true:=by rw[bne_iff_ne];exact hp
        have hfin:Hid (encR us= ([],pe)):=by
         show _=_;have e1:dM us=pe:=by rw[hE.o,HST.o,if_pos hp]
         rw[HD2.o,e1,if_pos hp]
        clear hp
        go_wp2
        go_ret2
        exact HR.o _ hfin.o _ _ ⟨rfl,HB1.o⟩
    . have hlz:¬(k:Int)< (n:Int):=by omega
      have hE0:dM us=0:=by rw[hE.o,List.drop_of_length_le (by rw[HL.o];omega)];rfl
      have hfin:Hid (encR us= (ak n++bP us,0)):=by
       show _=_;rw[HD2.o,hE0,HL.o];simp
      have HP:=ai ((wM us).1 hE0);clear hE hE0 HD2;go_wp2_with fail;refine(rQ n (by omega) _).mono ?_;rintro e w2 ⟨rfl,hb2⟩;have HB2:=ai (hBel.o.trans (hb2.mono hBel.o.size));clear hb2;have E: (ak n).length<=6:=gy 5 n (by omega);obtain⟨A1,c1,w3,hrun,hT,hb3⟩:=QB (P:=Tryz.prog) 9 213 5 (ofL (ak n)) Tryz.underlying9 Tryz.underlying213 Tryz.underlying5 (by rw[bU];unfold maxLen;omega) w2;have HT:=ai hT;have HB3:=ai hb3;have hsz: (ofL (ak n)).size= (ak n).length:=rfl;have HM:Hid ((ak n).length= (ak n).length+ (bP (us.take 0)).length):=by show _=_;simp[bP]
      rw[hsz]at hrun HT;rw[dE]at HT;have hz3:w2.heap.size<=w3.heap.size:=hb3.size;clear hsz hT hb3
      go_wp2
      obtain⟨C,rfl⟩:∃C:VA,C=wr:=⟨_,rfl⟩
      go_loopw[9,39] (fun v i wr=>∃(k:Nat)(A':OA)(m c':Nat),k<=n/\i= .int .i64 k/\v= .slice A' m c'/\Hid (m= (ak n).length+ (bP (us.take k)).length)/\Hid (Txt wr w2.heap.size wr.heap.size A' m c' (ak n++bP (us.take k)))/\VF w2 wr/\w2.heap.size<=wr.heap.size) (fun _ i _=>n - (intOf i).toNat)
      case atStart=>exact⟨0,A1,_,c1,ZX _,rfl,rfl,HM.o,by show Txt _ _ _ _ _ _ _;rw[List.take_zero,show bP []= [] from rfl,List.append_nil];exact HT.o.avoid aj,HB3.o,hz3⟩
      case round =>
       clear HT HB3 hrun HM hz3;obtain⟨k,A',m,c',hk,rfl,rfl,hm,hT,hB4,hwz⟩:=hrel;have HB4:=ai (HB2.o.trans (hB4.o.mono HB2.o.size));by_cases hlt:k<n
       . obtain⟨b,off,u,rfl,hbB,hu,y0,y1,y2,y3,y4⟩:=(H0.o.below HB4.o hB).upd hlt
         have hmem:=Z7 hu;have a:=BG (HP.o u hmem);have d:=ai (HW.o u hmem);have q:Hid (ak n++bP (us.take (k+1))=ak n++bP (us.take k)++gW u):=by
          show _=_;rw[aV hu,DN,ZZ]
         have hml:m<=200000:=by
          have h1:=Fa (us.take k) (fun v hv=>BG (HP.o v (List.mem_of_mem_take hv)));have h2:=hm.o;rw[List.length_take]at h1;omega
         have x:Hid ((bP (us.take (k+1))).length= (bP (us.take k)).length+ (gW u).length):=by
          show _=_;rw[aV hu,DN,af]
         clear hu hmem;obtain⟨s,⟨o0,o1⟩,⟨q0,q1⟩⟩:=u;simp only at a;have hlz: (k:Int)< (n:Int):=by omega
         have D:=hwz;have hx0:Bk (wr.alloc (.cells #[.string s,.int .u64 o0,.int .u64 o1,.int .u64 q0,.int .u64 q1] 85)) wr.heap.size 85 #[.string s,.int .u64 o0,.int .u64 o1,.int .u64 q0,.int .u64 q1]:=Bk.new wr 85 _;have HX0:=ai hx0;clear hx0;go_wp2_with fail;refine(BI s (by omega) _).mono ?_;obtain⟨t,ht⟩:=NX9 (ofL (ax (toL s)))
         rw[ht];have f:Hid (toL t=ax (toL s)):=by show _=_;rw[<-ht];rfl
         have htl:t.size<=110:=by
          rw[<-ht,bU];unfold ax;have h1:=gy 0 (toL s).length (by rw[<-aQ];omega);rw[af,<-aQ]at *;omega
         clear ht;rintro e w4 ⟨rfl,hb4⟩;have F:wr.heap.size+1<=w4.heap.size:=by have:=hb4.size;simp at this;omega
         have K4:=ai (HX0.o.below hb4 (by simp));have T4:=ai ((hT.o.below ((ah _ wr).alloc aj _)).below hb4);have B4:=ai ((hB4.o.alloc hwz (.cells #[.string s,.int .u64 o0,.int .u64 o1,.int .u64 q0,.int .u64 q1] 85)).trans (hb4.mono (by simp;omega)));clear hb4 y0 y1 y2 y3 y4
         go_wp2_with (at_builtin;refine aO ?_)
         refine aH ?_;refine Ap (base:=w2.heap.size) (av:=wr.heap.size) rfl (.tmp 49) (.tmp 50) 213 9 rfl 5 i0 Tryz.underlying213 Hi.o g.o j.o l.o A' m c' (ak n++bP (us.take k)) rfl T4.o (.string t) t.size (toL t) rfl (Ti t _) (by omega) (by omega) (by omega) ?_;intro A5 c5 w5 a5 hb5 hv5;have T5:=ai a5;have B5:=ai (B4.o.trans hb5);have G:=hb5.size;have K5:Hid (Bk w5 wr.heap.size 85 #[.string s,.int .u64 o0,.int .u64 o1,.int .u64 q0,.int .u64 q1]):=hv5.trans K4.o;clear a5 hb5 hv5 T4 B4 K4;have u1:=K5.o.cell 1;have u2:=K5.o.cell 2;simp at u1 u2;go_wp2_with fail;refine(Aw (o0,o1) d.o.1 A5 _ c5 w2.heap.size wr.heap.size _ _ T5.o (by omega) (by omega) (by omega)).mono ?_;rintro e w6 ⟨A6,c6,rfl,a6,hb6,hv6⟩;have T6:=ai a6;have B6:=ai (B5.o.trans hb6);have H:=hb6.size;have K6:Hid (Bk w6 wr.heap.size 85 #[.string s,.int .u64 o0,.int .u64 o1,.int .u64 q0,.int .u64 q1]):=hv6.trans K5.o;clear a6 hb6 hv6 u1 u2 T5 B5 K5;have u3:=K6.o.cell 3;have u4:=K6.o.cell 4;simp at u3 u4;go_wp2_with fail;refine(Aw (q0,q1) d.o.2 A6 _ c6 w2.heap.size wr.heap.size _ _ T6.o (by omega) (by omega) (by omega)).mono ?_;rintro e w7 ⟨I,c7,rfl,a7,hb7,hv7⟩;have J:=hb7.size;have y:=ai (B6.o.trans hb7);have e1:ak n++bP (us.take k)++toL t++ay (o0,o1)++ay (q0,q1)=ak n++bP (us.take (k+1)):=by
          rw[q.o,f.o];simp[gW]
         rw[e1]at a7;have T7:=ai (a7.avoid aj);have z:Hid (m+t.size+16+16= (ak n).length+ (bP (us.take (k+1))).length):=by
          show _=_;have h1:=hm.o;have h2:=x.o;have h3: (gW (s,(o0,o1),(q0,q1))).length=t.size+32:=by
           rw[aQ,f.o];simp[gW,iE]
          omega
         clear a7 hb7 hv7 u3 u4 T6 B6 K6 e1
         go_wp2
         go_roundw
         case rel=>exact⟨k+1,I,_,c7,by omega,by go_num,rfl,z.o,T7.o,y.o,by omega⟩
         case measure=>simp[intOf];omega
       . have hlz:¬(k:Int)< (n:Int):=by omega
         have hT2:=hT.o;rw[ZU (by rw[HL.o];omega)]at hT2;have hconv:=hT2.run_string (P:=Tryz.prog) 213 9 5 Tryz.underlying213 Tryz.underlying5 Tryz.underlying9;clear hT2 hT
         go_wp2
         go_ret2
         exact HR.o _ hfin.o _ _ ⟨rfl,HB4.o⟩
end
theorem Nu{α:Type}{enc:α->List VC}(l:List α)(x:α):flat enc (l++ [x])=flat enc l++enc x:=by rw[bQ];simp[flat]
theorem Gv:∀(us:List Upd),(∀u∈us,u.1.size<=65536)-> (bP us).length<=65574*us.length
 | [],_=>by simp[bP]
 | u::us,h=>by
   have h1:=Gv us (fun x hx=>h x (by simp[hx]));have h2:=h u (by simp);have h3:=fK (n:=(toL u.1).length) (by rw[<-aQ];omega);have h4: (toL u.1).length<=65536:=by rw[<-aQ];exact h2
   unfold bP at h1 ⊢;simp only[List.flatMap_cons,af,Z4,gW,ax,iE]at h1 ⊢;omega
def zO(l:List VD)(w:VA)(e:Ending)(w':VA):Prop:=∃A m c,e= .returned (.tuple #[.slice A m c,.int .i64 0])/\Sl w' w'.heap.size 1 A m (flat aF l)/\m=l.length/\m<=c/\c<=maxLen/\VE w w'
theorem Dj(us:List Upd)(A1:OA)(n1 c1:Nat)(p:List Itm)(A:OA)(n c B:Nat)(w:VA)(h0:Sl w B 5 A1 n1 (flat upC us))(h1:Sl w B 3 A n (flat itC p))(hB:B<=w.heap.size)(hg:GOk (us,bD p))(hn:n<=100000) :
  Calls Tryz.prog 48 #[.slice A1 n1 c1,.slice A n c] w (zO (aN (us,bD p)) w):=by
 have hpl:=h1.len dD (by omega);have v:=h0.len gz (by omega);have hfew:=hg.few;have j:=ai (rQ n (by omega) w);have hen:=hg.enc;have HE:Hid (∀W,VE w W->Calls Tryz.prog 108 #[.slice A1 n1 c1] W fun e w'=>e= .returned (.tuple #[.string (ofL (encR us).1),.int .i64 0])/\VE W w'):=fun W hb=>by
  have:=Ky A1 n1 c1 B us W (h0.below hb hB) (by have:=hb.size;omega) (by unfold maxLen;simp only at hfew;omega) (fun u hu=>by have:=(hg.us u hu).1;unfold maxLen;omega) (fun u hu=>(hg.us u hu).2);unfold uQ at this;rw[hen]at this ⊢;exact this
 have m: (encR us).1.length<=70000000:=by
  rw[hen];have h1:=Gv us (fun u hu=>(hg.us u hu).1);have h2:=fK (n:=us.length) (by simp only at hfew;omega);simp only[af]at hfew ⊢;omega
 obtain⟨s1,hs1⟩:=NX9 (ofL (ak n))
 obtain⟨s2,hs2⟩:=NX9 (ofL (encR us).1)
 have hz1:s1.size<=6:=by rw[<-hs1,bU];exact fK (by omega)
 have hz2:s2.size<=70000000:=by rw[<-hs2,bU];exact m
 have HS:Hid (Value.string (s1++s2)= .string (ofL (headB us n))):=by
  show _=_;rw[<-hs1,<-hs2];rfl
 have F:¬(9223372036854775807<s1.size+s2.size):=by omega
 rw[hs1]at j;rw[hs2]at HE;obtain⟨i0,hi,d,f,h⟩:=info_parts kD;have Hi:=ai hi;have y:=ai d;have z:=ai f;have C:=ai h;have HP:=ai h1;have a:=ai hpl;clear h0 h1 hg hfew hen m hs1 hs2 hz1 hz2 hpl v hi d f h
 go_enter Tryz.func48,Tryz.ntmps48
 go_wp2_with fail;refine j.o.mono ?_;rintro e w1 ⟨rfl,hb1⟩;have HB1:=ai hb1;have o:=ai (HE.o w1 hb1);clear hb1 HE j;go_wp2_with fail;refine o.o.mono ?_;rintro e w2 ⟨rfl,hb2⟩;have HB2:VF w w2:=HB1.o.trans (hb2.mono HB1.o.size);clear hb2 o HB1;have z2:=HB2.o.size;go_wp2_with fail
 go_loopw[9,35] (fun q i wr=>∃(k:Nat)(A':OA)(c':Nat),k<=n/\i= .int .i64 k/\q= .slice A' (k+1) c'/\k+1<=c'/\c'<=maxLen/\Hid (wr.ownsRow w.heap.size 9 1 (.slice A' (k+1) c') (k+1) (flat aF (headB us n::bD (p.take k))))/\VF w wr) (fun _ i _=>n - (intOf i).toNat)
 case atStart =>
  refine⟨0,_,1,ZX _,rfl,rfl,by omega,by unfold maxLen;omega,?_,HB2.o.alloc z2 _⟩;show World.ownsRow _ _ _ _ _ _ _;have:=World.ownsRow_lit (base:=w.heap.size) (e:=9) (size:=1) w2 #[.string (s1++s2)] 1 z2 (by unfold maxLen;omega) rfl;rw[HS.o]at this ⊢;exact this
 case round =>
  obtain⟨k,A',c',hk,rfl,rfl,hc1,hc2,hO,hBel⟩:=hrel;have HO:=ai hO.o;have b:=ai hBel.o;have zr:w.heap.size<=wr.heap.size:=b.o.size;clear hO hBel;by_cases hlt:k<n
  . obtain⟨bb,off,x,rfl,hbB,hx,y0,y1,y2⟩:=(HP.o.below b.o hB).it hlt
    have hlz: (k:Int)< (n:Int):=by omega
    have HX:Hid (flat aF (headB us n::bD (p.take (k+1)))=flat aF (headB us n::bD (p.take k))++ [.string x.2]):=by
     show _=_;rw[aV hx,show bD (p.take k++ [x])=bD (p.take k)++ [toL x.2] by simp[bD],<-List.cons_append,Nu];simp[aF,jd]
    clear hx;obtain⟨⟨x1,x2⟩,xs⟩:=x;simp only at y0 y1 y2 HX;have D:Hid (Bk ((wr.alloc (.cells #[.int .u64 x1,.int .u64 x2,.string xs] 118)).alloc (.cells #[.string xs] 9)) (wr.heap.size+1) 9 #[.string xs]):=by
     have e:=Bk.new (wr.alloc (.cells #[.int .u64 x1,.int .u64 x2,.string xs] 118)) 9 #[.string xs]
     rwa[Z9]at e
    have hbx:VE wr ((wr.alloc (.cells #[.int .u64 x1,.int .u64 x2,.string xs] 118)).alloc (.cells #[.string xs] 9)):=((ah _ wr).alloc aj _).alloc (by simp) _;have r:=ai (gQ HO.o hbx);have l:Hid (VE w ((wr.alloc (.cells #[.int .u64 x1,.int .u64 x2,.string xs] 118)).alloc (.cells #[.string xs] 9))):=b.o.trans (hbx.mono zr);clear hbx
    go_wp2_with (at_builtin;refine uk (.tmp 39) (.tmp 42) 22 rfl ?_)
    refine aH ?_;refine jV (base:=w.heap.size) (size:=1) _ rfl (.tmp 39) (.tmp 42) 22 rfl 9 i0 _ 16 Tryz.underlying22 Hi.o y.o z.o C.o rfl (by decide) (.slice A' (k+1) c') (k+1) _ rfl r.o _ _ 1 1 [.string xs] rfl (Sl.of_bk (n:=1) (size:=1) D.o rfl) (by simp[Value.oneCell']) (by unfold maxLen;omega) (by omega) l.o.size ?_;intro A4 c4 w4 ho hg s t;rw[<-HX.o]at ho;have E:=ai ho;have HB4:VF w w4:=l.o.grown hg l.o.size (fun g e=>(bV r.o e).1);clear ho hg y0 y1 y2;go_wp2_with fail;go_roundw
    case rel=>exact⟨k+1,A4,c4,hlt,by go_num,rfl,s,t,E.o,HB4.o⟩
    case measure=>simp[intOf];omega
  . have hlz:¬(k:Int)< (n:Int):=by omega
    have HT:Hid (headB us n::bD (p.take k)=aN (us,bD p)):=by
     show _=_;rw[ZU (by have:=a.o;omega)];have: (bD p).length=n:=by unfold bD;rw[List.length_map];exact a.o
     unfold aN;simp only[this]
    rw[HT.o]at HO;have HL:Hid (k+1= (aN (us,bD p)).length):=by show _=_;rw[<-HT.o,Z4];unfold bD;rw[List.length_map,List.length_take,a.o];omega
    go_wp2
    go_ret2
    exact⟨A',k+1,c',rfl,Sl.of_own HO.o,HL.o,hc1,hc2,b.o⟩
section
open Go.Maps
def nY(r:List Rf×List Upd×Int)(w:VA)(e:Ending)(w':VA):Prop :=
 ∃A m c A' m' c',e= .returned (.tuple #[.agg #[.slice A m c,.slice A' m' c'],.int .i64 r.2.2])/\Sl w' w'.heap.size 3 A m (flat rfC r.1)/\m<=c/\c<=maxLen ∧
  Sl w' w'.heap.size 5 A' m' (flat upC r.2.1)/\m'<=c'/\c'<=maxLen/\VE w w'
theorem rO{fn:Func}{c i:Tmp}(h:fn.results= #[.cell c 33,.tmp i]){w:VA}{a:Array VC}{b:Nat}{x y v:VC}(ha:a[c]?.getD undef= .pointer (some ⟨b,0,none⟩))(hk:Bk w b 33 #[x,y])(hv:a[i]?.getD undef=v) :
  (results fn a).run Tryz.prog w= .ok (.tuple #[.agg #[x,y],v]) w:=by
 have h0:=hk.cell 0;have h1:=hk.cell 1;simp at h0 h1;simp[results,h,ha,hv,go_sem,h0,h1]
theorem vN{x:Int}{w w':VA}{e:Ending}(he:e= .returned (.tuple #[.agg #[.slice none 0 0,.slice none 0 0],.int .i64 x]))(hb:VE w w'):nY ([],[],x) w e w' :=
 ⟨none,0,0,none,0,0,he,Sl.nil _ _ _ _,Nat.le_refl _,ZX _,Sl.nil _ _ _ _,Nat.le_refl _,ZX _,hb⟩
theorem O4(l:List Rf)(u:Upd): (stepG l u).2=bM l u:=by
 unfold stepG;by_cases h:bM l u≠0
 . rw[if_pos h]
 . rw[if_neg h];exact(by simpa using h:bM l u=0).symm
theorem N9{l:List Rf}{u:Upd}(h:bM l u=0): (stepG l u).1=bZ l u.1 u.2.2:=by
 unfold stepG;rw[if_neg (by simpa using h)]
theorem Bz(A0 A1 A2:OA)(n0 c0 n1 c1 n2 c2 B:Nat)(rs:List Rf)(log us:List Upd)(w:VA)(h0:Sl w B 3 A0 n0 (flat rfC rs))(h1:Sl w B 5 A1 n1 (flat upC log))(h2:Sl w B 5 A2 n2 (flat upC us))(hB:B<=w.heap.size)
  (hn0:n0<=maxLen) (hn1:n1<=maxLen) (hn2:n2<=10000) (hs:∀u∈us,u.1.size<=maxLen) (hs2:∀u∈log,u.1.size<=maxLen) :
  Calls Tryz.prog 39 #[.agg #[.slice A0 n0 c0,.slice A1 n1 c1],.slice A2 n2 c2] w (nY (di rs log us) w):=by
 have j:=ai (h1.len gz (by omega));have HL2:=ai (h2.len gz (by omega));have H0:=ai h0;have H1:=ai h1;have H2:=ai h2;clear h0 h1 h2;have HS:=ai hs;have HS2:=ai hs2;clear hs hs2;have C:=ai hn0;have D:=ai hn1;clear hn0 hn1;obtain⟨i0,hi,hz0,hz1',hz2'⟩:=info_parts uJ;have Hi:=ai hi;have E:=ai hz0;have F:=ai hz1';have G:=ai hz2';clear hi hz0 hz1' hz2';have HU:Hid (di rs log us=if bu rs log≠0 then([],[],bu rs log) else dR rs log us):=rfl;have HR:Hid (∀r,di rs log us=r->∀e w',nY r w e w'->nY (di rs log us) w e w'):=fun r h e w' hh=>by rw[h];exact hh
 go_enter Tryz.func39,Tryz.ntmps39
 go_wp2_with fail;have hbel:VE w ((w.alloc (.cells #[.slice A0 n0 c0,.slice A1 n1 c1] 33)).alloc (.cells #[.slice none 0 0,.slice none 0 0] 33)) :=
  ((ah _ w).alloc aj _).alloc (by simp) _
 refine(Di A0 A1 n0 c0 n1 c1 B rs log _ (H0.o.below hbel hB) (H1.o.below hbel hB) (by simp;omega) C.o D.o HS2.o).mono ?_;rintro e w1 ⟨mb,rfl,hb1,hm⟩;have k0:Bk w1 w.heap.size 33 #[.slice A0 n0 c0,.slice A1 n1 c1]:=((Bk.new w 33 _).alloc _).below hb1 (by simp;omega);have k1:Bk w1 (w.heap.size+1) 33 #[.slice none 0 0,.slice none 0 0]:=by
  have:=Bk.new (w.alloc (.cells #[.slice A0 n0 c0,.slice A1 n1 c1] 33)) 33 #[.slice none 0 0,.slice none 0 0];rw[Z9]at this;exact this.below hb1 (by simp)
 have HB1:VF w w1:=hbel.trans (hb1.mono (by simp;omega));have hz1:w.heap.size+2<=w1.heap.size:=by have:=hb1.size;simp at this;omega
 have HM:=ai hm;clear hb1 hbel hm;have K1:=ai k1;obtain⟨x0,x1,_,_⟩:=k0.agg;obtain⟨r0,r1,f0,f1⟩:=k1.agg;clear k0 k1;by_cases hc:bu rs log=0
 . have hlen:=jv hc
   have hst:Hid (di rs log us=dR rs log us):=by
    show _=_;rw[HU.o,hc,if_neg (by simp)]
   have hn1:n1<=1000:=by rw[<-j.o];exact hlen
   have H:=ai (Gz hc);obtain⟨b,rfl,f,hown⟩:=HM.o hc;have I:w.heap.size+2<=b:=by simp at f;omega
   clear f HM;have HO:=ai hown;have hbl:=hown.lt;clear hown;have J:=ai hc;rw[J.o];clear hc hlen;go_wp2_with fail;refine(KH A1 n1 c1 B log _ (H1.o.below HB1.o hB) (by omega) (by omega)).mono ?_;rintro e w2 ⟨A3,c3,rfl,n,hb2,hc3,o⟩;have K:=ai n;have hz2:=hb2.size;have K2:=ai (K1.o.below hb2 (by omega));have L:=ai (HO.o.kept (jE hb2 none) (by simp));have HB2:=ai (HB1.o.trans (hb2.mono (by omega)));have M:=ai o;clear n hb2 o x0 x1 r0 r1 f0 f1
   go_wp2
   go_loopw[8,26] (fun v i wr=>∃(k:Nat)(A:OA)(m c:Nat)(l:List Rf)(a:List Upd),k<=n2/\i= .int .i64 k/\v= .slice A m c/\Hid (Bk wr (w.heap.size+1) 33 #[.slice none 0 0,.slice none 0 0]) ∧
     Hid (Rm wr Tryz.prog 9 b (1000+k) (gL l))/\Hid (fJ l)/\Hid (Apd wr w1.heap.size 85 5 A m c (flat upC a))/\m<=c/\Hid (c<=maxLen)/\m<=1000/\Hid (a.length=m)/\VF w wr/\w1.heap.size<=wr.heap.size/\Hid (di rs log us=dR l a (us.drop k))) (fun _ i _=>n2 - (intOf i).toNat)
   case atStart=>exact⟨0,A3,n1,c3,rs,log,ZX _,rfl,rfl,K2.o,L.o,H.o,K.o,hc3,M.o,hn1,j.o,HB2.o,hz2,hst.o⟩
   case round =>
    obtain⟨k,A,m,c,l,a,hk,rfl,rfl,B1,O,SR,Y,hmc,hcm,hm,g,hBel,hwz,hrun⟩:=hrel;by_cases hlt:k<n2
    . obtain⟨b3,off,u,rfl,hbB,hu,y0,y1,y2,y3,y4⟩:=(H2.o.below hBel.o hB).upd hlt
      have N:=ai hu;have P:=ai (HS.o u (Z7 hu));clear hu;have hst2:Hid (di rs log us=if(gV l a u).2.2≠0 then([],[],(gV l a u).2.2) else dR (gV l a u).1 (gV l a u).2.1 (us.drop (k+1))):=by
       show _=_;have hl:=List.getElem?_eq_some_iff.1 N.o;rw[hrun.o,List.drop_eq_getElem_cons hl.1,hl.2,rM]
      obtain⟨s,⟨o0,o1⟩,⟨q0,q1⟩⟩:=u;have hlz: (k:Int)< (n2:Int):=by omega
      go_wp2_with fail;refine(DJ b (1000+k) l (s,(o0,o1),(q0,q1)) _ (O.o.alloc _) SR.o (by unfold maxLen;omega) P.o).mono ?_;rintro e w3 ⟨rfl,hown3,hg3⟩;have hzz:wr.heap.size+1<=w3.heap.size:=by have:=hg3.size;simp at this;omega
      have d3:Bk w3 wr.heap.size 85 #[.string s,.int .u64 o0,.int .u64 o1,.int .u64 q0,.int .u64 q1]:=(Bk.new wr 85 _).grown hg3 (by intro e;injection e;omega);have u0:=d3.cell 0;have u1:=d3.cell 1;have u2:=d3.cell 2;have u3:=d3.cell 3;have u4:=d3.cell 4;simp at u0 u1 u2 u3 u4;have e3:=(B1.o.alloc (.cells #[.string s,.int .u64 o0,.int .u64 o1,.int .u64 q0,.int .u64 q1] 85)).grown hg3 (by intro e;injection e;omega);obtain⟨r0,r1,f0,f1⟩:=e3.agg;have E3:=ai e3;have p:=ai hown3;have Q:Hid (Apd w3 w1.heap.size 85 5 A m c (flat upC a)):=(Y.o.below ((ah _ _).alloc aj _)).grown hg3 (fun k e=>by cases e;exact hbl);have HB3:VF w w3:=(hBel.o.alloc (by omega) _).grown hg3 (by simp;omega) (fun k e=>by cases e;omega);have q:Hid (fJ (stepG l (s,(o0,o1),(q0,q1))).1):=Dl SR.o;clear hown3 hg3 y0 y1 y2 y3 y4 d3 e3;have d:=O4 l (s,(o0,o1),(q0,q1));by_cases hx:bM l (s,(o0,o1),(q0,q1))=0
      . have t:=N9 hx
        rw[d,hx];rw[t]at p q;have HX:=ai hx;clear hx d t;by_cases hlim:1000<=m
        . have hfin:Hid (di rs log us= ([],[],4)):=by
            show _=_;have e1:gV l a (s,(o0,o1),(q0,q1))= ([],[],4):=by
             unfold gV;rw[HX.o,if_neg (by simp),if_pos (by rw[g.o];exact hlim)]
            rw[hst2.o,e1,if_pos (by simp)]
          go_wp2_with fail;exact ZW (rO Tryz.results39 rfl (E3.o.set2 _ _) rfl) rfl (HR.o _ hfin.o _ _ (vN rfl (eX HB3.o (by omega) _ _)))
        . have hnx:Hid (di rs log us=dR (bZ l s (q0,q1)) (a++ [(s,(o0,o1),(q0,q1))]) (us.drop (k+1))):=by
            show _=_;have e1:gV l a (s,(o0,o1),(q0,q1))= (bZ l s (q0,q1),a++ [(s,(o0,o1),(q0,q1))],0):=by
             unfold gV;rw[HX.o,if_neg (by simp),if_neg (by rw[g.o];exact hlim)]
            rw[hst2.o,e1,if_neg (by simp)]
          have x:Hid ((a++ [(s,(o0,o1),(q0,q1))]).length=m+1):=by show _=_;rw[af,g.o];rfl
          go_wp2_with (at_builtin;refine aO ?_)
          refine aH ?_;refine eG (base:=w1.heap.size) _ rfl (.tmp 41) (.tmp 43) 31 rfl 85 i0 _ 48 Tryz.underlying31 Hi.o E.o F.o G.o rfl (by decide) A m c (flat upC a) rfl (Q.o.below ((ah _ _).alloc aj _)) (w3.heap.size+1) _ 1 _ (flat upC [(s,(o0,o1),(q0,q1))]) rfl (Sl.new w3 85 (flat upC [(s,(o0,o1),(q0,q1))]) 1 rfl) (rE _) (by unfold maxLen;omega) (by omega) (by simp;omega) ?_;intro A5 c5 w5 a5 hb5 hc5 y z;have Z:w3.heap.size+1<=w5.heap.size:=by have:=hb5.size;simp at this;omega
          have E5:=ai ((E3.o.alloc (.cells #[.string s,.int .u64 o0,.int .u64 o1,.int .u64 q0,.int .u64 q1] 85)).below hb5 (by omega));have R:=ai ((p.o.alloc (.cells #[.string s,.int .u64 o0,.int .u64 o1,.int .u64 q0,.int .u64 q1] 85)).below hb5 hbl);have S:=ai ((HB3.o.alloc (by omega) (.cells #[.string s,.int .u64 o0,.int .u64 o1,.int .u64 q0,.int .u64 q1] 85)).trans (hb5.mono (by omega)));rw[<-bQ]at a5;have T:=ai a5;have U:=ai y;clear a5 hb5 y z u0 u1 u2 u3 u4 r0 r1 f0 f1
          go_wp2
          go_roundw
          case rel=>exact⟨k+1,A5,m+1,c5,_,_,by omega,by go_num,rfl,E5.o,R.o,q.o,T.o,hc5,U.o,by omega,x.o,S.o,by omega,hnx.o⟩
          case measure=>simp[intOf];omega
      . have hne: (bM l (s,(o0,o1),(q0,q1)) != 0)=true:=by rw[bne_iff_ne];exact hx
        have hfin:Hid (di rs log us= ([],[],bM l (s,(o0,o1),(q0,q1)))):=by
         show _=_;have e1:gV l a (s,(o0,o1),(q0,q1))= ([],[],bM l (s,(o0,o1),(q0,q1))):=if_pos hx;rw[hst2.o,e1,if_pos hx]
        rw[d];clear hx d;go_wp2_with fail;exact ZW (rO Tryz.results39 rfl (E3.o.set2 _ _) rfl) rfl (HR.o _ hfin.o _ _ (vN rfl (eX HB3.o (by omega) _ _)))
    . have hfin:Hid (di rs log us= (l,a,0)):=by
        show _=_;rw[hrun.o,List.drop_of_length_le (by rw[HL2.o];omega)];rfl
      go_wp2_with fail;refine(CB b (1000+k) l _ O.o SR.o (by omega)).mono ?_;rintro e w3 ⟨A6,m6,c6,rfl,s6,V,hc6,hb6,_⟩;have ag:=hb6.size;have e6:=B1.o.below hb6 (by omega);obtain⟨r0,r1,f0,f1⟩:=e6.agg;have E6:=ai e6;have S6:=ai s6;have W:=ai hc6;have X:=ai (hBel.o.trans (hb6.mono (by omega)));have S7:=ai (Y.o.below hb6).sl;clear e6 s6 hb6 hc6;go_wp2_with fail;exact ZW (rO Tryz.results39 rfl (E6.o.set2 _ _) rfl) rfl (HR.o _ hfin.o _ _ ⟨A6,m6,c6,A,m,c,rfl,(S6.o.box2 (by omega) (KJ _) E6.o _ _).more (Nat.le_of_eq (by simp)),V,W.o,(S7.o.box2 (by omega) (KX _) E6.o _ _).more (Nat.le_of_eq (by simp)),hmc,hcm.o,eX X.o (by omega) _ _⟩)
 . have hne: (bu rs log != 0)=true:=by rw[bne_iff_ne];exact hc
   have hst:Hid (di rs log us= ([],[],bu rs log)):=by
    show _=_;rw[HU.o,if_pos hc]
   clear hc
   go_wp2
   exact ZW (rO Tryz.results39 rfl (K1.o.set2 _ _) rfl) rfl (HR.o _ hst.o _ _ (vN rfl (eX HB1.o (by omega) _ _)))
end
