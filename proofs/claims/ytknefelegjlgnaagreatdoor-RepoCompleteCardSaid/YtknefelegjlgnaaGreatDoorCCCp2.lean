/-
  Lemmas of the card.
-/
import Derived.Lib.SmallJoins
import Derived.Test.YtknefelegjlgnaaGreatDoorCards
import Derived.Test.YtknefelegjlgnaaGreatDoorTie
import Derived.Deep.DeepHandedRow
import Derived.Lib.LaidIn
import Derived.Test.YtknefelegjlgnaaGreatDoorCCCp1
set_option maxRecDepth 100000
set_option maxHeartbeats 1000000
namespace Go.Proofs.YtknefelegjlgnaaGreatDoor
open Go.RowKit
abbrev Fl:=UX×UX
def flC(f:Fl):List UY:= [.string f.1,.string f.2]
theorem jb(f:Fl): (flC f).length=2:=rfl
theorem dm{B:Nat}{w w':UW}(h:Below B w w'):∀q,Below B w (w'.drewN q)
 | 0=>h
 | q+1=>(dm h q).drew
theorem Sl.fl{w:UW}{B n k:Nat}{A:OA}{fs:List Fl}(h:Sl w B 2 A n (flat flC fs))(hk:k<n) :
  ∃b off f,A=some ⟨b,off,none⟩/\b<B/\fs[k]? =some f/\w.cell? ⟨b,off+k*2,none⟩=some (.string f.1)/\w.cell? ⟨b,off+k*2+1,none⟩=some (.string f.2):=by
 obtain⟨b,off,x,e,hb,hx,hc⟩:=h.at_ jb (by omega) hk;exact⟨b,off,x,e,hb,hx,hc 0 _ rfl,hc 1 _ rfl⟩
section
open Go.ChangeShapes Go.WideShapes Go.ChangeAt Go.RowKit Go.Joins Go.Deep
theorem sQ:Tryz.prog.cellsOf 9=1:=by kernel_rfl
theorem GY:Tryz.prog.cellsOf 82=2:=by kernel_rfl
theorem Qx:Tryz.prog.cellsOf 63=1:=by kernel_rfl
theorem Gi{α:Type}{p:Nat->α->Prop}:∀(n:Nat),(∀i,i<n->∃x,p i x)->∃xs:List α,xs.length=n/\∀i x,xs[i]? =some x->p i x
 | 0,_=>⟨[],rfl,fun i x h=>by simp at h⟩
 | n+1,h=>by
   obtain⟨xs,hl,hp⟩:=Gi n (fun i hi=>h i (by omega));obtain⟨y,hy⟩:=h n (by omega);refine⟨xs++ [y],by simp[hl],fun i x hx=>?_⟩;rcases Nat.lt_or_ge i xs.length with hi | hi
   . rw[List.getElem?_append_left hi]at hx;exact hp i x hx
   . rw[List.getElem?_append_right hi]at hx
     have:i - xs.length=0:=by
      rcases Nat.eq_zero_or_pos (i - xs.length) with h0 | h0
      . exact h0
      . rw[List.getElem?_eq_none (by simp;omega)]at hx;cases hx
     rw[this]at hx;simp at hx;subst hx;have:i=n:=by omega
     rw[this];exact hy
theorem qH{α:Type}{l:List α}(h:l.length=2):∃a b,l= [a,b]:=by
 match l,h with
 | [a,b],_=>exact⟨a,b,rfl⟩
theorem uK{α:Type}{l:List α}(h:l.length=3):∃a b c,l= [a,b,c]:=by
 match l,h with
 | [a,b,c],_=>exact⟨a,b,c,rfl⟩
section
variable {H : Type} {enc : TypeId × UY -> H} {P : Program} {w : UW} {base : Nat} {spare : Nat -> Bool} {held : Bool} {fuel : Nat} {cs : List UY} {x : DataW H × List MemPlace}
theorem pz{α:Type}{t e:TypeId}{s:Nat}{encA:α->List UY}{Q:α->Prop}(ht:P.underlying t=some (.slice e))(hC:P.cellsOf e=s)(h0:0<s)(hl:∀a,(encA a).length=s)
  (hel:∀(fuel:Nat)(cs:List UY)(x:DataW H×List MemPlace),DataW.trod enc P w base spare held fuel e cs=some x->∃a,cs=encA a/\Q a)
  (h:DataW.trod enc P w base spare held fuel t cs=some x):∃A n c xs,cs= [.slice A n c]/\Sl w w.heap.size s A n (flat encA xs)/\n<=c/\c<=maxLen/\∀a∈xs,Q a:=by
 rcases open_slice ht h with ⟨rfl,_⟩ | ⟨a,len,cap,m,n,D,Pl,rfl,_,hlc,hcm,hm,_,hi⟩
 . exact⟨none,0,0,[],rfl,Sl.nil _ _ _ _,Nat.le_refl _,ZX _,fun a ha=>by cases ha⟩
 . have hlm:len<=m:=by rw[hm];split <;> omega
   obtain⟨xs,hxl,hxs⟩:=Gi (p:=fun i (y:α)=>w.cells? base (a.add (i*s)) s=some (encA y)/\Q y) len (fun i hi'=>by
    obtain⟨cs',hc,ht'⟩:=hi i (by omega);obtain⟨y,rfl,hq⟩:=hel _ _ _ ht';rw[hC]at hc;exact⟨y,hc,hq⟩)
   refine⟨some a,len,cap,xs,rfl,⟨by rw[gZ hl,hxl],fun hn=>?_⟩,hlc,hcm,fun y hy=>?_⟩
   . have hcell:∀(k j:Nat)(y:α),xs[k]? =some y->j<s->w.cell? ((a.add (k*s)).add j)= (encA y)[j]? :=fun k j y hy hj=>(World.cells?_some (hxs k y hy).1).2.2 j hj
     have hx0:xs[0]? =some (xs[0]'(by omega)):=Z5 (by omega);have hsome:∃v,w.cell? a=some v:=by
      have:=hcell 0 0 _ hx0 h0;have hg: (encA (xs[0]'(by omega)))[0]? =some ((encA (xs[0]'(by omega)))[0]'(by rw[hl];exact h0)):=Z5 (by rw[hl];exact h0);rw[hg]at this;simp[Addr.add]at this;exact⟨_,this⟩
     obtain⟨v,hv⟩:=hsome;have hsp:=World.cell?_spot hv;obtain⟨b,off,sp⟩:=a;simp only at hsp;subst hsp;refine⟨b,off,rfl,?_,fun j u hu=>?_⟩
     . unfold World.cell? at hv
       simp only at hv;rcases Nat.lt_or_ge b w.heap.size with hb | hb
       . exact hb
       . rw[Array.getElem?_eq_none hb]at hv;cases hv
     . have hj:j<xs.length*s:=by
         have:=(List.getElem?_eq_some_iff.1 hu).1
         rwa[gZ hl]at this
       have hk:j / s<xs.length:=Nat.div_lt_of_lt_mul (by rwa[Nat.mul_comm]at hj);have hr:j % s<s:=Nat.mod_lt _ h0;have hy:xs[j / s]? =some (xs[j / s]'hk):=Z5 hk;have e:j / s*s+j % s=j:=by rw[Nat.mul_comm];exact Nat.div_add_mod j s
       have h1:=iG hl xs (j / s) (j % s) _ hy hr;rw[e,hu]at h1;have h2:=hcell (j / s) (j % s) _ hy hr;rw[<-h1,Go.Deep.add_add,e]at h2;rw[<-h2]
       congr 1
       unfold Addr.add;split
       . rename_i hz;subst hz;rfl
       . rfl
   . obtain⟨i,hi',rfl⟩:=List.getElem_of_mem hy
     exact(hxs i _ (Z5 hi')).2
theorem OV{t s:TypeId}{f0 f1:Field}(ht:P.underlying t=some (.struct #[f0,f1]))(o0:f0.offset=0)(o1:f1.offset=1)(t0:f0.type=s)(t1:f1.type=s)(hs:P.underlying s=some .string)
  (hC:P.cellsOf t=2) (hcs:P.cellsOf s=1) (h:DataW.trod enc P w base spare held fuel t cs=some x):∃f:Fl,cs=flC f/\f.1.size<=maxLen/\f.2.size<=maxLen:=by
 obtain⟨xs,m,_,_,hlen,hxl,hf⟩:=DataW.trod_struct ht h;rw[hC]at hlen;obtain⟨c0,c1,rfl⟩:=qH hlen;obtain⟨y0,y1,rfl⟩:=qH hxl;have h0:=hf 0 f0 rfl;have h1:=hf 1 f1 rfl;rw[o0,t0,hcs]at h0;rw[o1,t1,hcs]at h1;simp at h0 h1;obtain⟨a,ha,_,hz⟩:=DataW.trod_string hs h0;obtain⟨b,hb,_,hz2⟩:=DataW.trod_string hs h1;simp at ha hb;exact⟨(a,b),by rw[ha,hb];rfl,hz,hz2⟩
end
section
variable {H : Type} {enc : TypeId × UY -> H} {W : UW} {base : Nat} {v : UY} {d : DataW H} {p : List MemPlace} {r : Reach} {b0 : Nat} {sp : Nat -> Bool} {held : Bool}
end
end
section
open Go.ChangeShapes Go.WideShapes Go.ChangeAt Go.RowKit Go.Joins Go.Deep
theorem own:ownKnob Tryz.prog.godebug=none:=by kernel_rfl
theorem laidOut:laidOutB Tryz.prog=true:=by kernel_rfl
section
variable {H : Type} {enc : TypeId × UY -> H} {W : UW} {v : UY} {d : DataW H} {p : List MemPlace} {sp : Nat -> Bool}
theorem keep{W':UW}{t:TypeId}(hr:Tryz.prog.readableRec t=true)(hrow:t<Tryz.prog.types.size)(h:DataW.Trod enc Tryz.prog W 0 (fun _=>true) true t v d p)(hb:U0 W W')(hlt:∀x∈p,x.block<W.heap.size)(hsp:∀x∈p,sp x.block=true) :
  DataW.Trod enc Tryz.prog W' 0 sp true t v d p :=
 WideElems.Trod_stays laidOut hr hrow h (fun x hx=>hb.same (hlt x hx)) hsp
end
theorem post_below{H:Type}{enc:TypeId×UY->H}{P:Program}{f:Func}{s:ChangeSpec}{apart fresh handsOn again:Bool}{W W':UW}{args:Array UY}{v:UY}{ds gs:List (DataW H)}{before pa pv:List MemPlace}
  (hW:DataW.Whole enc P f.params.toList s.vars apart W args.toList ds gs before)
  (hres:∀(b:Nat)(sp:Nat->Bool)(hd:Bool),DataW.TrodAll enc P W' b sp hd f.resultTypes.toList (v.resultList f.resultTypes.size) (s.fn H (ds++gs)).results [])
  (hargs:∀sp:Nat->Bool,(∀p∈before,sp p.block=true)->DataW.TrodAll enc P W' 0 sp true f.params.toList args.toList (s.fn H (ds++gs)).args pa)
  (hvars:∀sp:Nat->Bool,(∀p∈before,sp p.block=true)->DataW.TrodVars enc P W' sp s.vars (s.fn H (ds++gs)).vars pv)
  (hps:before=pa++pv) (hb:U0 W W')
  (hok:∀(j:Nat)(t:TypeId)(r:UY),f.resultTypes[j]? =some t-> (v.resultList f.resultTypes.size)[j]? =some r->Value.okWide P W' .any 0 t r) :
  s.post enc P f apart fresh handsOn again W args v W':=by
 have hlt:∀p∈before,p.block<W.heap.size:=fun p hp=>hW.lt p hp;have hold:∀p∈before,(fun b=>decide (b<W.heap.size)) p.block=true:=fun p hp=>by simpa using hlt p hp
 refine⟨ds,gs,before,[],pa,pv,hW,hres _ _ _,hargs _ hold,hvars _ hold,World.keptBut_mono (fun p hp=>⟨hp,?_⟩) (hb.frame (· ∈before)),fun _=>?_⟩
 . rw[hps,List.mem_append]at hp
   exact Or.inr hp
 . obtain⟨_,_,_,_,_,hz,hn⟩:=hW
   refine⟨hok,_,_,([]++pa)++pv,⟨[]++pa,pv,trodAll_append (hargs _ (fun _ _=>rfl)) (hres _ _ _),hvars _ (fun _ _=>rfl),rfl,?_,?_⟩,?_⟩
   . intro b off hp
     have hin:MemPlace.cell b off∈before:=by rw[hps];simpa using hp
     rw[hb.frozen (hlt _ hin)];exact hz b off hin
   . intro ha
     have:=hn ha;rw[hps]at this
     simpa using this
   . intro p hp _
     rw[hps]
     simpa using hp
noncomputable def laidWorld(os:Os):UW :=
 let w0:=World.holding Tryz.prog os ⟨#[],#[],[]⟩
 let put (h:Array Obj) (g:Nat) (cs:Array UY):Array Obj:=h.modify g fun
  | .cells _ t frozen=> .cells cs t frozen
  | o=>o
 let h1:=put w0.heap 1 (Go.Pinned.utf8FirstZ.map fun(z:Nat)=>Value.int .u8 (z:Int)).toArray
 let h2:=put h1 2 (([128,191,160,191,128,159,144,191,128,143].map fun(z:Int)=>Value.int .u8 z)++List.replicate 22 (Value.int .u8 0)).toArray
 {w0 with heap:=h2}
theorem laid_met (os : Os) (args : Array Value) : laidMet Tryz.prog [("unicode/utf8.acceptRanges", Rows.laid_unicode_utf8_acceptRanges), ("unicode/utf8.first", Rows.laid_unicode_utf8_first)] ((laidWorld os).forCall (fun _ _ => 0) ⟨#[], args, []⟩).memory :=
 (LaidIn.of_run (l := [("unicode/utf8.acceptRanges", Rows.laid_unicode_utf8_acceptRanges), ("unicode/utf8.first", Rows.laid_unicode_utf8_first)]) [2, 1] 8 (by kernel_rfl) (by kernel_rfl) (by kernel_rfl) (by kernel_rfl)).met
end
abbrev Dig:=Int×Int
def ofL(l:UZ):UX:=⟨l.toArray⟩
def toL(s:UX):UZ:=s.data.toList
theorem dw(l:UZ):toL (ofL l)=l:=rfl
theorem ja(s:UX):ofL (toL s)=s:=by cases s;simp[ofL,toL]
theorem aQ(s:UX):s.size= (toL s).length:=by cases s;rfl
theorem bK(l:UZ): (ofL l).size=l.length:=rfl
/-! ### numbers -/
def ak(n:Nat):UZ:=if n<128 then [UInt8.ofNat n] else UInt8.ofNat (n % 128+128)::ak (n / 128)
 termination_by n
 decreasing_by omega
theorem eu{n:Nat}(h:n<128):ak n= [UInt8.ofNat n]:=by rw[ak,if_pos h]
theorem lu{n:Nat}(h:¬n<128):ak n=UInt8.ofNat (n % 128+128)::ak (n / 128):=by rw[ak,if_neg h]
theorem E8(n:Nat):0< (ak n).length:=by
 by_cases h:n<128
 . rw[eu h];simp
 . rw[lu h];simp
theorem gq:∀(k n:Nat),n<128 ^ (k+1)-> (ak n).length<=k+1
 | 0,n,h=>by rw[eu (by simpa using h)];simp
 | k+1,n,h=>by
   by_cases hs:n<128
   . rw[eu hs];simp
   . rw[lu hs,Z4]
     have:=gq k (n / 128) (by rw[Nat.div_lt_iff_lt_mul (by omega)];rw[Nat.pow_succ]at h;omega);omega
theorem kT{n:Nat}(h:n<256): (UInt8.ofNat n).toNat=n:=by simp[UInt8.toNat_ofNat'];omega
def gi:Nat->Nat->Nat->Nat->UZ->Nat×Nat×Int
 | 0,_,_,_,_=>(0,0,13)
 | _+1,_,_,_,[]=>(0,0,12)
 | f+1,i,n,u,d::r =>
   if d.toNat<128 then(if(d.toNat=0/\0<i)∨1099511627776<n+d.toNat*u then(0,0,13) else(n+d.toNat*u,i+1,0))
   else gi f (i+1) (n+ (d.toNat - 128)*u) (u*128) r
def az(l:UZ):Nat×Nat×Int:=gi 6 0 0 1 l
theorem Hl:∀(f i n u m:Nat)(r:UZ),(ak m).length<=f->n+m*u<=1099511627776-> (i=0∨0<m)->gi f i n u (ak m++r)= (n+m*u,i+ (ak m).length,0)
 | 0,i,n,u,m,r,h,_,_=>by have:=E8 m;omega
 | f+1,i,n,u,m,r,h,hm,hi=>by
   by_cases hs:m<128
   . have e:=kT (n:=m) (by omega)
     rw[eu hs,List.cons_append,gi,e,if_pos hs,if_neg (by omega)];rfl
   . have e:=kT (n:=m % 128+128) (by omega)
     rw[lu hs]at h ⊢;have e1:n+ (m % 128+128 - 128)*u+m / 128* (u*128)=n+m*u:=by
      have:m*u= (128* (m / 128)+m % 128)*u:=by rw[Nat.div_add_mod]
      rw[this,Nat.add_sub_cancel,Nat.add_mul,Nat.mul_comm u 128,<-Nat.mul_assoc,Nat.mul_comm (m / 128) 128];omega
     rw[List.cons_append,gi,e,if_neg (by omega),Hl f (i+1) _ _ (m / 128) r (by simp at h;omega) (by omega) (.inr (by omega)),e1];simp only[Z4,Prod.mk.injEq,and_true,true_and];omega
theorem Hm:∀(f i n u:Nat)(l:UZ)(x k:Nat),gi f i n u l= (x,k,0)->∃m r,l=ak m++r/\k=i+ (ak m).length/\x=n+m*u/\ (i=0∨0<m)/\x<=1099511627776
 | 0,i,n,u,l,x,k,h=>by simp[gi]at h
 | f+1,i,n,u,[],x,k,h=>by simp[gi]at h
 | f+1,i,n,u,d::r,x,k,h=>by
   rw[gi]at h;by_cases hs:d.toNat<128
   . rw[if_pos hs]at h
     by_cases hc: (d.toNat=0/\0<i)∨1099511627776<n+d.toNat*u
     . rw[if_pos hc]at h;simp at h
     . rw[if_neg hc]at h
       simp only[Prod.mk.injEq,and_true]at h;refine⟨d.toNat,r,?_,?_,h.1.symm,by omega,by omega⟩
       . rw[eu hs];simp
       . rw[eu hs];simp;omega
   . rw[if_neg hs]at h
     obtain⟨m,r',rfl,hk,hx,hm,hM⟩:=Hm f (i+1) _ _ r x k h;have hm':0<m:=by omega
     have hd:d.toNat<256:=d.toNat_lt;have hb:¬(d.toNat - 128+128*m)<128:=by omega
     have e1: (d.toNat - 128+128*m) % 128+128=d.toNat:=by omega
     have e2: (d.toNat - 128+128*m) / 128=m:=by omega
     refine⟨d.toNat - 128+128*m,r',?_,?_,?_,by omega,hM⟩
     . rw[lu hb,e1,e2];simp
     . rw[lu hb,e1,e2];simp;omega
     . rw[hx,Nat.add_mul,Nat.mul_comm u 128,<-Nat.mul_assoc,Nat.mul_comm m 128];omega
theorem kE{m:Nat}(h:m<=1099511627776)(r:UZ):az (ak m++r)= (m,(ak m).length,0):=by
 have hl: (ak m).length<=6:=gq 5 m (by omega);have:=Hl 6 0 0 1 m r hl (by omega) (.inl rfl);unfold az;rw[this];simp
theorem sO{l:UZ}{x k:Nat}(h:az l= (x,k,0)):∃r,l=ak x++r/\k= (ak x).length/\x<=1099511627776:=by
 obtain⟨m,r,h1,h2,h3,_,h5⟩:=Hm 6 0 0 1 l x k h;have:x=m:=by omega
 subst this;exact⟨r,h1,by omega,h5⟩
theorem Iu:∀(f i n u:Nat)(l:UZ),(gi f i n u l).2.1<=i+l.length
 | 0,i,n,u,l=>by simp[gi]
 | f+1,i,n,u,[]=>by simp[gi]
 | f+1,i,n,u,d::r=>by
   rw[gi];split
   . split <;> simp
   . have:=Iu f (i+1) (n+ (d.toNat - 128)*u) (u*128) r;simp;omega
theorem ni(l:UZ): (az l).2.1<=l.length:=by have:=Iu 6 0 0 1 l;unfold az;omega
theorem G7:∀(f i n u:Nat)(l:UZ),(gi f i n u l).1<=1099511627776
 | 0,i,n,u,l=>by simp[gi]
 | f+1,i,n,u,[]=>by simp[gi]
 | f+1,i,n,u,d::r=>by
   rw[gi];split
   . split
     . simp
     . simp;omega
   . exact G7 f _ _ _ r
theorem xW(l:UZ): (az l).1<=1099511627776:=G7 6 0 0 1 l
/-! ### texts -/
def aK(l:UZ):UZ×Nat×Int :=
 if(az l).2.2≠0 then([],0,(az l).2.2) else if 65536< (az l).1 then([],0,13) else if l.length< (az l).2.1+ (az l).1 then([],0,12)
 else((l.drop (az l).2.1).take (az l).1,(az l).2.1+ (az l).1,0)
def ax(t:UZ):UZ:=ak t.length++t
theorem oM{t:UZ}(h:t.length<=65536)(r:UZ):aK (ax t++r)= (t,(ax t).length,0):=by
 have:=kE (m:=t.length) (by omega) (t++r);unfold aK ax;rw[ZZ,this];simp only[ne_eq,not_true,if_false];rw[if_neg (by omega),if_neg (by simp)];simp
theorem EJ{l t:UZ}{k:Nat}(h:aK l= (t,k,0)):∃r,l=ax t++r/\k= (ax t).length/\t.length<=65536:=by
 unfold aK at h;by_cases h1: (az l).2.2≠0
 . rw[if_pos h1]at h;simp at h;exact absurd h.2.2 h1
 . rw[if_neg h1]at h
   by_cases h2:65536< (az l).1
   . rw[if_pos h2]at h;simp at h
   . rw[if_neg h2]at h
     by_cases h3:l.length< (az l).2.1+ (az l).1
     . rw[if_pos h3]at h;simp at h
     . rw[if_neg h3]at h
       generalize hg:az l=g at *;obtain⟨n,m,e⟩:=g;have he:e=0:=by simpa using h1
       subst he;obtain⟨r,rfl,rfl,_⟩:=sO hg;simp only[Prod.mk.injEq,and_true]at h h2 h3;simp only[List.drop_left,af]at h h3;have hl: (r.take n).length=n:=by rw[List.length_take];omega
       rw[<-h.1,<-h.2];refine⟨r.drop n,?_,?_,by omega⟩
       . unfold ax;rw[hl,ZZ,List.take_append_drop]
       . unfold ax;rw[hl,af,hl]
theorem tH(l:UZ): (aK l).2.1<=l.length:=by
 unfold aK;split
 . simp
 . split
   . simp
   . split
     . simp
     . simp;omega
/-! ### digests -/
def be:Nat->Nat->UZ
 | 0,_=> []
 | k+1,n=>UInt8.ofNat (n / 256 ^ k % 256)::be k n
def dR(a:Nat)(l:UZ):Nat:=l.foldl (fun a b=>a*256+b.toNat) a
theorem jq:∀(k n:Nat),(be k n).length=k
 | 0,_=>rfl
 | k+1,n=>by simp[be,jq k n]
theorem yg:∀(k n a:Nat),dR a (be k n)=a*256 ^ k+n % 256 ^ k
 | 0,n,a=>by simp[dR,be];omega
 | k+1,n,a=>by
   have e:=kT (n:=n / 256 ^ k % 256) (by omega);show dR (a*256+ (UInt8.ofNat (n / 256 ^ k % 256)).toNat) (be k n)=_;rw[yg k n,e,Nat.pow_succ,Nat.mod_mul,Nat.add_mul,Nat.mul_assoc,Nat.mul_comm 256 (256 ^ k),Nat.mul_comm (n / 256 ^ k % 256)];omega
theorem nG:∀(l:UZ)(a:Nat),dR a l< (a+1)*256 ^ l.length
 | [],a=>by simp[dR]
 | d::l,a=>by
   show dR (a*256+d.toNat) l<_;have h:=nG l (a*256+d.toNat);have hd:d.toNat<256:=d.toNat_lt;refine Nat.lt_of_lt_of_le h ?_;rw[Z4,Nat.pow_succ,Nat.mul_comm (256 ^ l.length) 256,<-Nat.mul_assoc];exact Nat.mul_le_mul_right _ (by omega)
theorem vK:∀(l:UZ)(a:Nat),dR a l=a*256 ^ l.length+dR 0 l
 | [],a=>by simp[dR]
 | d::l,a=>by
   show dR (a*256+d.toNat) l=a*256 ^ (l.length+1)+dR (0*256+d.toNat) l;rw[Nat.zero_mul,Nat.zero_add,vK l (a*256+d.toNat),vK l d.toNat,Nat.pow_succ,Nat.add_mul,Nat.mul_comm (256 ^ l.length) 256,<-Nat.mul_assoc];omega
theorem yS:∀(l:UZ)(c:Nat),be l.length (c*256 ^ l.length+dR 0 l)=l
 | [],c=>rfl
 | d::l,c=>by
   have hd:d.toNat<256:=d.toNat_lt;have hv:dR 0 l<256 ^ l.length:=by have:=nG l 0;simpa using this
   have e:c*256 ^ (l.length+1)+dR 0 (d::l)= (c*256+d.toNat)*256 ^ l.length+dR 0 l:=by
    show _+dR (0*256+d.toNat) l=_;rw[Nat.zero_mul,Nat.zero_add,vK l d.toNat,Nat.pow_succ,Nat.add_mul,Nat.mul_comm (256 ^ l.length) 256,<-Nat.mul_assoc];omega
   have hpos:0<256 ^ l.length:=Nat.pow_pos (by omega);show UInt8.ofNat ((c*256 ^ (l.length+1)+dR 0 (d::l)) / 256 ^ l.length % 256)::be l.length (c*256 ^ (l.length+1)+dR 0 (d::l))=_;rw[e,yS l (c*256+d.toNat)]
   congr 1
   rw[Nat.mul_comm (c*256+d.toNat),Nat.mul_add_div hpos,Nat.div_eq_of_lt hv];have: (c*256+d.toNat+0) % 256=d.toNat:=by omega
   rw[this];simp
def WfD(d:Dig):Prop:=0<=d.1/\d.1<18446744073709551616/\0<=d.2/\d.2<18446744073709551616
def ay(d:Dig):UZ:=be 8 d.1.toNat++be 8 d.2.toNat
def dg(l:UZ):Dig:=((dR 0 (l.take 8):Int),(dR 0 ((l.drop 8).take 8):Int))
theorem iy(d:Dig): (ay d).length=16:=by simp[ay,jq]
theorem pM{d:Dig}(h:WfD d)(r:UZ):dg (ay d++r)=d:=by
 have e1: ((ay d++r).take 8)=be 8 d.1.toNat:=by
  unfold ay;rw[ZZ,List.take_left' (jq _ _)]
 have e2: (((ay d++r).drop 8).take 8)=be 8 d.2.toNat:=by
  unfold ay;rw[ZZ,List.drop_left' (jq _ _),List.take_left' (jq _ _)]
 unfold dg;rw[e1,e2,yg,yg];obtain⟨a,b⟩:=d;obtain⟨h1,h2,h3,h4⟩:=h;simp only at h1 h2 h3 h4 ⊢;refine Prod.ext ?_ ?_
 . show((0*256 ^ 8+a.toNat % 256 ^ 8:Nat):Int)=a
   omega
 . show((0*256 ^ 8+b.toNat % 256 ^ 8:Nat):Int)=b
   omega
theorem QK{l:UZ}(h:16<=l.length):ay (dg l)=l.take 16:=by
 have h1: (l.take 8).length=8:=by rw[List.length_take];omega
 have h2: ((l.drop 8).take 8).length=8:=by rw[List.length_take,List.length_drop];omega
 have e1:=yS (l.take 8) 0;have e2:=yS ((l.drop 8).take 8) 0;rw[h1]at e1;rw[h2]at e2;simp only[Nat.zero_mul,Nat.zero_add]at e1 e2;unfold ay dg;simp only[Int.toNat_natCast];rw[e1,e2,<-List.take_add]
theorem TT(l:UZ):WfD (dg l):=by
 have h1:=nG (l.take 8) 0;have h2:=nG ((l.drop 8).take 8) 0;have l1: (l.take 8).length<=8:=by rw[List.length_take];omega
 have l2: ((l.drop 8).take 8).length<=8:=by rw[List.length_take];omega
 have p1:256 ^ (l.take 8).length<=256 ^ 8:=Nat.pow_le_pow_right (by omega) l1;have p2:256 ^ ((l.drop 8).take 8).length<=256 ^ 8:=Nat.pow_le_pow_right (by omega) l2;refine⟨?_,?_,?_,?_⟩ <;> simp only[dg] <;> omega
/-! ### lists of texts -/
def bV(l:List UZ):UZ:=ak l.length++l.flatMap ax
def gG:Nat->Nat->UZ->Option (List UZ×Nat)
 | 0,k,_=>some ([],k)
 | n+1,k,b=>if(aK b).2.2≠0 then none else match gG n (k+ (aK b).2.1) (b.drop (aK b).2.1) with
   | none=>none
   | some (l,c)=>some ((aK b).1::l,c)
def gB(b:UZ):Option (List UZ×Nat):=if(az b).2.2≠0∨1000< (az b).1 then none else gG (az b).1 (az b).2.1 (b.drop (az b).2.1)
def fQ(l:List UZ):Prop:=l.length<=1000/\∀t∈l,t.length<=65536
theorem Ey:∀(l:List UZ)(k:Nat)(r:UZ),(∀t∈l,t.length<=65536)->gG l.length k (l.flatMap ax++r)=some (l,k+ (l.flatMap ax).length)
 | [],k,r,_=>rfl
 | t::l,k,r,h=>by
   have ht:=oM (h t (by simp)) (l.flatMap ax++r);rw[Z4,gG,List.flatMap_cons,ZZ,ht];simp only[ne_eq,not_true,if_false,List.drop_left];rw[Ey l _ r (fun x hx=>h x (by simp[hx]))];simp only[af,Nat.add_assoc]
theorem Eb:∀(n k:Nat)(b:UZ)(l:List UZ)(c:Nat),gG n k b=some (l,c)->l.length=n/\ (∀t∈l,t.length<=65536)/\c=k+ (l.flatMap ax).length/\∃r,b=l.flatMap ax++r
 | 0,k,b,l,c,h=>by
   simp only[gG,Option.some.injEq,Prod.mk.injEq]at h;obtain⟨rfl,rfl⟩:=h;exact⟨rfl,by simp,by simp,b,rfl⟩
 | n+1,k,b,l,c,h=>by
   rw[gG]at h;split at h
   . cases h
   . rename_i hz
     split at h
     . cases h
     . rename_i l' c' hr
       simp only[Option.some.injEq,Prod.mk.injEq]at h;obtain⟨rfl,rfl⟩:=h;generalize hg:aK b=g at *;obtain⟨t,m,e⟩:=g;obtain rfl:e=0:=by simpa using hz
       obtain⟨r,rfl,rfl,ht⟩:=EJ hg;simp only[List.drop_left]at hr;obtain⟨h1,h2,h3,r',rfl⟩:=Eb n _ _ _ _ hr;refine⟨by simp[h1],?_,?_,r',by simp⟩
       . intro x hx
         rcases List.mem_cons.1 hx with rfl | hx
         . exact ht
         . exact h2 x hx
       . rw[h3];simp[Nat.add_assoc]
theorem MQ{l:List UZ}(h:fQ l)(r:UZ):gB (bV l++r)=some (l,(bV l).length):=by
 have hi:=kE (m:=l.length) (by have:=h.1;omega) (l.flatMap ax++r);unfold gB bV;rw[ZZ,hi];simp only[ne_eq,not_true,false_or,List.drop_left];rw[if_neg (by have:=h.1;omega),Ey l _ r h.2,af]
theorem Oq{b:UZ}{l:List UZ}{c:Nat}(h:gB b=some (l,c)):fQ l/\c= (bV l).length/\∃r,b=bV l++r:=by
 unfold gB at h;split at h
 . cases h
 . rename_i hn
   generalize hg:az b=g at *;obtain⟨n,m,e⟩:=g;simp only[not_or,Nat.not_lt,ne_eq,Decidable.not_not]at hn;obtain⟨rfl,hn⟩:=hn;obtain⟨r,rfl,rfl,_⟩:=sO hg;simp only[List.drop_left]at h;obtain⟨rfl,h2,rfl,r',rfl⟩:=Eb _ _ _ _ _ h;exact⟨⟨hn,h2⟩,by simp[bV],r',by simp[bV]⟩
theorem fH{n:Nat}(h:n<=1099511627776): (ak n).length<=6:=gq 5 n (by omega)
theorem uT:∀(l:List UZ),(∀t∈l,t.length<=65536)-> (l.flatMap ax).length<=65542*l.length
 | [],_=>by simp
 | t::l,h=>by
   have h1:=uT l (fun x hx=>h x (by simp[hx]));have h2:=h t (by simp);have h3:=fH (n:=t.length) (by omega);simp only[List.flatMap_cons,af,Z4,ax]at h1 ⊢;omega
theorem oW{l:List UZ}(h:fQ l): (bV l).length<=65543000:=by
 have h1:=uT l h.2;have h2:=fH (n:=l.length) (by have:=h.1;omega);have h3:=h.1;simp only[bV,af];omega
/-! ### frames -/
def aB(l:List UZ):UZ:=1:: (ak (bV l).length++bV l)
def dP:UZ->Option (List UZ×Nat)
 | []=>none
 | x::s=>if x≠1∨ (az s).2.2≠0∨s.length< (az s).2.1+ (az s).1 then none else
   match gB ((s.drop (az s).2.1).take (az s).1) with
   | none=>none
   | some (l,c)=>if c= (az s).1 then some (l,1+ (az s).2.1+ (az s).1) else none
theorem Fa{l:List UZ}(h:fQ l)(r:UZ):dP (aB l++r)=some (l,(aB l).length):=by
 have hi:=kE (m:=(bV l).length) (by have:=oW h;omega) (bV l++r);have ht:=MQ h [];rw[List.append_nil]at ht;unfold aB;simp only[List.cons_append,ZZ,dP,hi,ne_eq,not_true,false_or,List.drop_left,List.take_left,ht,if_true];rw[if_neg (by simp)];simp;omega
theorem mX{b:UZ}{l:List UZ}{c:Nat}(h:dP b=some (l,c)):fQ l/\c= (aB l).length/\∃r,b=aB l++r:=by
 cases b with
 | nil=>cases h
 | cons x s =>
   rw[dP]at h;split at h
   . cases h
   . rename_i hn
     split at h
     . cases h
     . rename_i lq cq ht
       by_cases hc:cq= (az s).1
       . rw[if_pos hc]at h
         simp only[Option.some.injEq,Prod.mk.injEq]at h;obtain⟨rfl,rfl⟩:=h;obtain⟨⟨n,m,e⟩,hg⟩:∃g,az s=g:=⟨_,rfl⟩
         simp only[hg,not_or,Nat.not_lt,ne_eq,Decidable.not_not]at hn ht hc ⊢;obtain⟨rfl,rfl,hle⟩:=hn;obtain⟨r,rfl,rfl,_⟩:=sO hg;simp only[List.drop_left]at ht hc;obtain⟨hf,rfl,r',hr⟩:=Oq ht;have hl: (r.take n).length=n:=by rw[List.length_take];rw[af]at hle;omega
         have hr0:r'= []:=by
          have:=congrArg List.length hr;rw[hl,af]at this;exact List.length_eq_zero_iff.1 (by omega)
         subst hr0;rw[List.append_nil]at hr;refine⟨hf,?_,r.drop n,?_⟩
         . simp only[aB,Z4,af,hc];omega
         . unfold aB
           rw[hc,<-hr];simp
       . rw[if_neg hc]at h;cases h
theorem mV(l:List UZ):2<= (aB l).length:=by
 have:=E8 (bV l).length;simp only[aB,Z4,af];omega
/-! ### areas -/
def nsec(c sz:Nat):Nat:=(c+sz - 1) / sz
theorem FK{c sz:Nat}(h:0<sz):c<=nsec c sz*sz:=by
 unfold nsec;have h1:=Nat.div_add_mod (c+sz - 1) sz;have h2:=Nat.mod_lt (c+sz - 1) h;rw[Nat.mul_comm]at h1;omega
theorem Gj{c sz:Nat}(h:0<sz)(hc:0<c):nsec c sz*sz<c+sz:=by
 unfold nsec;have h1:=Nat.div_mul_le_self (c+sz - 1) sz;omega
theorem mO{c sz:Nat}(h:0<sz)(hc:0<c):0<nsec c sz:=by
 rcases Nat.eq_zero_or_pos (nsec c sz) with e | e
 . have:=FK (c:=c) h;rw[e]at this;omega
 . exact e
def zer(b:UZ):Prop:=∀x,b.head? =some x->x=0
instance (b:UZ):Decidable (zer b):=by unfold zer;cases b with
 | nil=>exact isTrue (by simp)
 | cons x s=>exact if h:x=0 then isTrue (by simp[h]) else isFalse (by simpa using h)
def frs(sz:Nat)(b:UZ):Option (List UZ×Nat) :=
 if zer b then some ([],0) else match dP b with
 | none=>none
 | some (l,c)=>if 0<nsec c sz*sz/\0<b.length then match frs sz (b.drop (nsec c sz*sz)) with
   | none=>none
   | some (r,u)=>some (l++r,nsec c sz+u)
   else none
 termination_by b.length
 decreasing_by rw[List.length_drop];omega
theorem kF{sz:Nat}{b:UZ}(h:zer b):frs sz b=some ([],0):=by rw[frs,if_pos h]
theorem kZ{sz:Nat}{b:UZ}{l:List UZ}{c:Nat}(hz:0<sz)(h:¬zer b)(hd:dP b=some (l,c)):frs sz b=match frs sz (b.drop (nsec c sz*sz)) with
  | none=>none
  | some (r,u)=>some (l++r,nsec c sz+u):=by
 obtain⟨_,rfl,r,rfl⟩:=mX hd;have h2:=mV l;rw[frs,if_neg h,hd];simp only;rw[if_pos ⟨Nat.mul_pos (mO hz (by omega)) hz,by rw[af];omega⟩]
theorem pI{sz:Nat}{b:UZ}(h:¬zer b)(hd:dP b=none):frs sz b=none:=by rw[frs,if_neg h,hd]
theorem Gu{sz:Nat}(hz:0<sz):∀(n:Nat)(b:UZ)(rs:List UZ)(u:Nat),b.length<=n->frs sz b=some (rs,u)->sz ∣ b.length->u*sz<=b.length
 | n,b,rs,u,hn,h,hd=>by
   by_cases h0:zer b
   . rw[kF h0]at h
     simp only[Option.some.injEq,Prod.mk.injEq]at h;rw[<-h.2];omega
   . cases hdec:dP b with
     | none=>rw[pI h0 hdec]at h;cases h
     | some q =>
       obtain⟨l,c⟩:=q;rw[kZ hz h0 hdec]at h;obtain⟨_,rfl,r,rfl⟩:=mX hdec;have h2:=mV l;have hk:=mO hz (c:=(aB l).length) (by omega);have hlt:=Gj hz (c:=(aB l).length) (by omega);have hle:nsec (aB l).length sz*sz<= (aB l++r).length:=by
        obtain⟨q,hq⟩:=hd;rw[hq,Nat.mul_comm sz q];refine Nat.mul_le_mul_right _ ?_;have: (aB l).length<=q*sz:=by rw[Nat.mul_comm,<-hq,af];omega
        have h3:nsec (aB l).length sz*sz< (q+1)*sz:=by rw[Nat.succ_mul];omega
        exact Nat.lt_succ_iff.1 (Nat.lt_of_mul_lt_mul_right h3)
       have hks:=Nat.mul_pos hk hz;split at h
       . cases h
       . rename_i r' u' hr
         simp only[Option.some.injEq,Prod.mk.injEq]at h;obtain⟨_,rfl⟩:=h;cases n with
         | zero=>rw[af]at hn;omega
         | succ n =>
           have:=Gu hz n _ _ _ (by rw[List.length_drop];omega) hr (by rw[List.length_drop];exact Nat.dvd_sub hd (Nat.dvd_mul_left _ _));rw[List.length_drop]at this;rw[Nat.add_mul];omega
theorem Fz{sz:Nat}(hz:0<sz):∀(n:Nat)(b:UZ)(rs:List UZ)(u:Nat),b.length<=n->frs sz b=some (rs,u)->zer (b.drop (u*sz))
 | n,b,rs,u,hn,h=>by
   by_cases h0:zer b
   . rw[kF h0]at h
     simp only[Option.some.injEq,Prod.mk.injEq]at h;rw[<-h.2];simpa using h0
   . cases hdec:dP b with
     | none=>rw[pI h0 hdec]at h;cases h
     | some q =>
       obtain⟨l,c⟩:=q;rw[kZ hz h0 hdec]at h;obtain⟨_,rfl,r,rfl⟩:=mX hdec;have h2:=mV l;have hks:=Nat.mul_pos (mO hz (c:=(aB l).length) (by omega)) hz;split at h
       . cases h
       . rename_i r' u' hr
         simp only[Option.some.injEq,Prod.mk.injEq]at h;obtain⟨_,rfl⟩:=h;cases n with
         | zero=>rw[af]at hn;omega
         | succ n =>
           have:=Fz hz n _ _ _ (by rw[List.length_drop,af];rw[af]at hn;omega) hr
           rwa[List.drop_drop,<-Nat.add_mul]at this
theorem FI{sz:Nat}(hz:0<sz):∀(n:Nat)(b b':UZ)(rs l:List UZ)(u k:Nat),b.length<=n->frs sz b=some (rs,u)->b'.take (u*sz)=b.take (u*sz)->frs sz (b'.drop (u*sz))=some (l,k)->frs sz b'=some (rs++l,u+k)
 | n,b,b',rs,l,u,k,hn,h,ht,hd=>by
   by_cases h0:zer b
   . rw[kF h0]at h
     simp only[Option.some.injEq,Prod.mk.injEq]at h;obtain⟨rfl,rfl⟩:=h
     simpa using hd
   . cases hdec:dP b with
     | none=>rw[pI h0 hdec]at h;cases h
     | some q =>
       obtain⟨l0,c⟩:=q;rw[kZ hz h0 hdec]at h;obtain⟨hf,rfl,r,rfl⟩:=mX hdec;have h2:=mV l0;have hge:=FK (c:=(aB l0).length) hz;have hks:=Nat.mul_pos (mO hz (c:=(aB l0).length) (by omega)) hz;split at h
       . cases h
       . rename_i r' u' hr
         simp only[Option.some.injEq,Prod.mk.injEq]at h;obtain⟨rfl,rfl⟩:=h;have hb':∃s,b'=aB l0++s:=by
          refine⟨b'.drop (aB l0).length,?_⟩;have e1: (b'.take ((nsec (aB l0).length sz+u')*sz)).take (aB l0).length= ((aB l0++r).take ((nsec (aB l0).length sz+u')*sz)).take (aB l0).length:=by rw[ht]
          rw[List.take_take,List.take_take,Nat.min_eq_left (by rw[Nat.add_mul];omega),List.take_left]at e1;exact(by rw[e1]:aB l0++b'.drop (aB l0).length=b'.take (aB l0).length++b'.drop (aB l0).length).trans (List.take_append_drop _ _) |>.symm
         obtain⟨s,rfl⟩:=hb';have a:=Fa hf s;have h0':¬zer (aB l0++s):=fun h=>by have:=h 1 rfl;simp at this
         rw[kZ hz h0' a];cases n with
         | zero=>rw[af]at hn;omega
         | succ n =>
           have:=FI hz n _ ((aB l0++s).drop (nsec (aB l0).length sz*sz)) r' l u' k (by rw[List.length_drop,af];rw[af]at hn;omega) hr (by
            rw[List.take_drop,List.take_drop,<-Nat.add_mul,ht]) (by rw[List.drop_drop,<-Nat.add_mul];exact hd)
           rw[this];simp[Nat.add_assoc]
/-! ### a text in sectors -/
def bF(sz:Nat)(t:UZ):UZ:=t++List.replicate (sz - t.length) 0
def secs(sz:Nat)(t:UZ):List UZ:=if 0<t.length/\0<sz then bF sz (t.take sz)::secs sz (t.drop sz) else []
 termination_by t.length
 decreasing_by rw[List.length_drop];omega
theorem iM{sz:Nat}{t:UZ}(h:t.length<=sz): (bF sz t).length=sz:=by simp[bF];omega
theorem Em(sz:Nat):secs sz []= []:=by rw[secs];simp
theorem wJ{sz:Nat}{t:UZ}(hz:0<sz)(h:t≠ []):secs sz t=bF sz (t.take sz)::secs sz (t.drop sz):=by
 rw[secs,if_pos ⟨List.length_pos_iff.2 h,hz⟩]
theorem NK{sz:Nat}(hz:0<sz):nsec 0 sz=0:=by unfold nsec;exact Nat.div_eq_of_lt (by omega)
theorem P7{c sz:Nat}(hz:0<sz)(hc:0<c):nsec c sz=1+nsec (c - sz) sz:=by
 unfold nsec;by_cases h:sz<=c
 . have:c+sz - 1= (c - sz+sz - 1)+sz:=by omega
   rw[this,Nat.add_div_right _ hz];omega
 . rw[show c - sz=0 by omega,Nat.div_eq_of_lt (show 0+sz - 1<sz by omega),Nat.div_eq_of_lt_le (k:=1) (by omega) (by omega)]
theorem mg{sz:Nat}(hz:0<sz):∀(n:Nat)(t:UZ),t.length<=n-> (secs sz t).length=nsec t.length sz/\ (∀s∈secs sz t,s.length=sz)/\∃z,(secs sz t).flatten=t++List.replicate z 0
 | n,t,hn=>by
   by_cases h:t= []
   . subst h
     rw[Em];exact⟨by simp[NK hz],by simp,0,by simp⟩
   . have hp:=List.length_pos_iff.2 h
     rw[wJ hz h];cases n with
     | zero=>omega
     | succ n =>
       obtain⟨h1,h2,z,h3⟩:=mg hz n (t.drop sz) (by rw[List.length_drop];omega);refine⟨?_,?_,?_⟩
       . rw[Z4,h1,List.length_drop,P7 hz hp];omega
       . intro s hs
         rcases List.mem_cons.1 hs with rfl | hs
         . exact iM (by rw[List.length_take];omega)
         . exact h2 s hs
       . rw[List.flatten_cons,h3]
         by_cases hl:sz<=t.length
         . refine⟨z,?_⟩
           have:sz - (t.take sz).length=0:=by rw[List.length_take];omega
           rw[bF,this,List.replicate_zero,List.append_nil,<-ZZ,List.take_append_drop]
         . refine⟨sz - (t.take sz).length+z,?_⟩
           rw[bF,List.drop_of_length_le (by omega),List.nil_append,ZU (by omega),ZZ,List.replicate_append_replicate]
theorem Rn{sz:Nat}(hz:0<sz){l:List UZ}(hf:fQ l){rest:UZ}(hr:zer rest):frs sz ((secs sz (aB l)).flatten++rest)=some (l,nsec (aB l).length sz):=by
 obtain⟨h1,h2,z,h3⟩:=mg hz _ (aB l) aj;have hlen: (secs sz (aB l)).flatten.length=nsec (aB l).length sz*sz:=by
  rw[List.length_flatten,<-h1];have:∀(L:List UZ),(∀s∈L,s.length=sz)-> (L.map List.length).sum=L.length*sz:=by
   intro L
   induction L with
   | nil=>simp
   | cons x L ih=>intro h;rw[List.map_cons,List.sum_cons,ih (fun s hs=>h s (by simp[hs])),h x (by simp),Z4,Nat.succ_mul];omega
  exact this _ h2
 have hd:=Fa hf (List.replicate z 0++rest);have h0:¬zer (aB l++ (List.replicate z 0++rest)):=fun h=>by have:=h 1 rfl;simp at this
 rw[<-ZZ,<-h3]at hd h0;rw[kZ hz h0 hd,List.drop_left' hlen,kF hr];simp
