/-Lemmas.-/
import Derived.WalkSpells
import Derived.WalkLawsBesides
import Derived.Lib.Hide
import Derived.Deep.AppendLies
import Derived.RangeFuncNested
import Derived.RangeFuncBound
import Derived.Sort.KeysCollected
import Derived.Shelf.Strings.OnBuilder
import Derived.Shelf.Small.Bits
import Derived.Shelf.Small.Strs
import Derived.Shelf.Strings.Shaped
import Derived.Shelf.Sort.Plain
import Derived.Shelf.Strings.Repeat
import Derived.Shelf.Unicode.DecodeSlow
import Derived.Shelf.Slices.In.SortNone
import Derived.Lib.SmallJoins
import Derived.Test.YtknefelegjlgnaaGreatDoorCards
import Derived.Test.YtknefelegjlgnaaGreatDoorTie
import Derived.Deep.DeepHandedRow
import Derived.Lib.LaidIn
set_option maxRecDepth 100000
set_option maxHeartbeats 1000000
theorem Go.RowKit.Hid.o{p:Prop}(h:Hid p):p:=h
namespace Go.Proofs.YtknefelegjlgnaaGreatDoor
abbrev VE(a b:Go.World):=Go.RowKit.Below a.heap.size a b
abbrev VF(a b:Go.World):=Go.RowKit.Hid (Go.RowKit.Below a.heap.size a b)
theorem ah (B : Nat) (w : World) : Go.RowKit.Below B w w := Go.RowKit.Below.refl B w
theorem af.{u} {α : Type u} {x y : List α} : (x ++ y).length = x.length + y.length := List.length_append
theorem ae.{u} {α : Type u} {a b : α} : a ∈ [b] ↔ a = b := List.mem_singleton
theorem Z9 (w : World) (o : Obj) : (w.alloc o).heap.size = w.heap.size + 1 := World.size_alloc w o
theorem Z8 (w : World) (a : Addr) (u : Value) (k : Nat) : k ≠ a.block → (w.setCell a u).heap[k]? = w.heap[k]? := Go.RowKit.Below.heap_setCell w a u k
theorem Z7.{u} {α : Type u} {l : List α} {i : Nat} {a : α} : l[i]? = some a → a ∈ l := List.mem_of_getElem?
theorem Z5.{u} {α : Type u} {l : List α} {i : Nat} (h : i < l.length) : l[i]? = some l[i] := List.getElem?_eq_getElem h
theorem Z4.{u} {α : Type u} {a : α} {x : List α} : (a :: x).length = x.length + 1 := List.length_cons
theorem ZZ.{u} {α : Type u} (x y z : List α) : x ++ y ++ z = x ++ (y ++ z) := List.append_assoc x y z
theorem ZY {n m k : Nat} : n ≤ m → m ≤ k → n ≤ k := Nat.le_trans
theorem ZX (n : Nat) : 0 ≤ n := Nat.zero_le n
theorem ZW {P : Program} {fn : Func} {R : Ending → World → Prop} {a : Act} {w : World} {v : Value} : (results fn a.tmps).run P w = .ok v w → a.defers = [] → R (.returned v) w → bodyPost P fn R .ret a w := bodyPost_ret
theorem ZV.{u} {α : Type u} {i : Nat} {a : α} {l : List α} : l[i]? = some a ↔ ∃ (h : i < l.length), l[i] = a := List.getElem?_eq_some_iff
theorem ZU.{u} {α : Type u} {i : Nat} {l : List α} : l.length ≤ i → l.take i = l := List.take_of_length_le
theorem ZT.{u} {α : Type u} {i : Nat} {b : α} {xs : Array α} : xs[i]? = some b ↔ ∃ (h : i < xs.size), xs[i] = b := Array.getElem?_eq_some_iff
abbrev VA := World
abbrev VB := ByteArray
abbrev VC := Value
abbrev VD := List UInt8
abbrev OA:=Option Addr
theorem NX9{α:Type _}(a:α):∃x,a=x:=⟨a,rfl⟩
theorem ai{p:Prop}(h:p):Go.RowKit.Hid p:=Lib.hid h
theorem aj{n:Nat}:n<=n:=Nat.le_refl n
theorem aT{a b:VC}(h:some a=some b):a=b:=Option.some.inj h
open Go.RowKit
theorem bF{a b:Bool}(h:a=b):Ending.returned (.bool a)= .returned (.bool b):=by rw[h]
theorem yU{k:IntKind}{a b:Int}(h:a=b):Ending.returned (.int k a)= .returned (.int k b):=by rw[h]
def Sl(w:VA)(B size:Nat)(A:OA)(n:Nat)(xs:List VC):Prop :=
 xs.length=n*size/\ (0<n->∃b off,A=some ⟨b,off,none⟩/\b<B/\∀j u,xs[j]? =some u->w.cell? ⟨b,off+j,none⟩=some u)
section
variable {w w' : VA} {B B' size n : Nat} {A : OA} {xs : List VC}
theorem Sl.nil(w:VA)(B size:Nat)(A:OA):Sl w B size A 0 []:=⟨by simp,fun h=>absurd h (by omega)⟩
theorem Sl.keep(h:Sl w B size A n xs)(hk:∀p:Addr,p.block<B->w'.cell? p=w.cell? p):Sl w' B size A n xs :=
 ⟨h.1,fun hn=>by
   obtain⟨b,off,e,hb,hc⟩:=h.2 hn;exact⟨b,off,e,hb,fun j u hu=>(hk ⟨b,off+j,none⟩ hb).trans (hc j u hu)⟩⟩
theorem Sl.more(h:Sl w B size A n xs)(hB:B<=B'):Sl w B' size A n xs :=
 ⟨h.1,fun hn=>by
   obtain⟨b,off,e,hb,hc⟩:=h.2 hn;exact⟨b,off,e,by omega,hc⟩⟩
theorem Sl.below(h:Sl w B size A n xs)(hb:Below B' w w')(hB:B<=B'):Sl w' B size A n xs:=h.keep fun _ hp=>hb.cell (by omega)
theorem Sl.alloc(h:Sl w B size A n xs)(hB:B<=w.heap.size)(o:Obj):Sl (w.alloc o) B size A n xs :=
 h.keep fun p hp=>World.cell?_of_block (w:=w) (Below.heap_alloc w o p.block (by omega))
theorem Sl.drew(h:Sl w B size A n xs):Sl w.drew B size A n xs:=h
theorem Sl.drewN(h:Sl w B size A n xs)(k:Nat):Sl (w.drewN k) B size A n xs:=h
theorem Sl.of_own{base:Nat}{e:TypeId}{c:Nat}(h:w.ownsRow base e size (.slice A n c) n xs):Sl w w.heap.size size A n xs:=by
 refine⟨h.1,fun hn=>?_⟩;rcases h.2 with ⟨hv,h0⟩ | ⟨g,cap,cur,hv,_,hh,_,_,_,hcur⟩
 . omega
 . injection hv with hA
   subst hA;refine⟨g,0,rfl,(Array.getElem?_eq_some_iff.1 hh).1,fun j u hu=>?_⟩;have:=h.cells (g:=g) rfl j u hu
   rwa[Addr.add_lit]at this
end
def flat{α:Type}(enc:α->List VC)(xs:List α):List VC:=xs.flatMap enc
section
variable {α : Type} {enc : α -> List VC} {s : Nat}
theorem ig(hs:∀x,(enc x).length=s)(xs:List α): (flat enc xs).length=xs.length*s:=by
 induction xs with
 | nil=>simp[flat]
 | cons x xs ih=>simp only[flat,List.flatMap_cons,af,Z4]at ih ⊢;rw[ih,hs,Nat.add_mul];omega
theorem bQ(xs ys:List α):flat enc (xs++ys)=flat enc xs++flat enc ys:=by simp[flat]
theorem iJ(hs:∀x,(enc x).length=s)(xs:List α)(k j:Nat)(x:α)(h:xs[k]? =some x)(hj:j<s): (flat enc xs)[k*s+j]? = (enc x)[j]? :=by
 induction xs generalizing k with
 | nil=>simp at h
 | cons v us ih =>
   cases k with
   | zero =>
     simp only[List.getElem?_cons_zero,Option.some.injEq]at h;subst h;simp only[flat,List.flatMap_cons,Nat.zero_mul,Nat.zero_add];rw[List.getElem?_append_left (by rw[hs];exact hj)]
   | succ k =>
     simp only[List.getElem?_cons_succ]at h;rw[<-ih k h];simp only[flat,List.flatMap_cons];rw[List.getElem?_append_right (by rw[hs,Nat.succ_mul];omega),hs]
     congr 1
     rw[Nat.succ_mul];omega
theorem rX(hs:∀x,(enc x).length=s)(xs:List α)(k:Nat):flat enc (xs.take k)= (flat enc xs).take (k*s):=by
 induction xs generalizing k with
 | nil=>simp[flat]
 | cons v us ih =>
   cases k with
   | zero=>simp[flat]
   | succ k =>
     have:=ih k;simp only[flat,List.take_succ_cons,List.flatMap_cons]at this ⊢;rw[this,List.take_append,hs,ZU (l:=enc v) (by rw[hs,Nat.succ_mul];omega),Nat.succ_mul,Nat.add_sub_cancel]
theorem DI(hs:∀x,(enc x).length=s)(xs:List α)(k:Nat):flat enc (xs.drop k)= (flat enc xs).drop (k*s):=by
 induction xs generalizing k with
 | nil=>simp[flat]
 | cons v us ih =>
   cases k with
   | zero=>simp[flat]
   | succ k =>
     have:=ih k;simp only[flat,List.drop_succ_cons,List.flatMap_cons]at this ⊢;rw[this,List.drop_append,hs,List.drop_of_length_le (l:=enc v) (by rw[hs,Nat.succ_mul];omega),List.nil_append,Nat.succ_mul,Nat.add_sub_cancel]
variable {w : VA} {B n : Nat} {A : OA} {xs : List α}
theorem Sl.len(hs:∀x,(enc x).length=s)(h0:0<s)(h:Sl w B s A n (flat enc xs)):xs.length=n:=by
 have:=h.1;rw[ig hs]at this;exact Nat.eq_of_mul_eq_mul_right h0 this
theorem Sl.at_{k:Nat}(hs:∀x,(enc x).length=s)(h0:0<s)(h:Sl w B s A n (flat enc xs))(hk:k<n) :
  ∃b off x,A=some ⟨b,off,none⟩/\b<B/\xs[k]? =some x/\∀j v,(enc x)[j]? =some v->w.cell? ⟨b,off+k*s+j,none⟩=some v:=by
 obtain⟨b,off,rfl,hb,hc⟩:=h.2 (by omega);have hl:=h.len hs h0;have hu:xs[k]? =some xs[k]:=Z5 (by omega);refine⟨b,off,xs[k],rfl,hb,hu,fun j v hv=>?_⟩;have hj:j<s:=by
  have:=(List.getElem?_eq_some_iff.1 hv).1
  rwa[hs]at this
 rw[Nat.add_assoc];exact hc _ v ((iJ hs xs k j _ hu hj).trans hv)
theorem Sl.take_{k:Nat}(hs:∀x,(enc x).length=s)(h0:0<s)(h:Sl w B s A n (flat enc xs))(hk:k<=n):Sl w B s A k (flat enc (xs.take k)):=by
 have hl:=h.len hs h0;refine⟨by rw[ig hs,List.length_take];congr 1;omega,fun hk0=>?_⟩;obtain⟨b,off,e,hb,hc⟩:=h.2 (by omega);refine⟨b,off,e,hb,fun j u hu=>hc j u ?_⟩;rw[rX hs]at hu;rw[List.getElem?_take]at hu;split at hu
 . exact hu
 . cases hu
end
theorem aV{α:Type}{l:List α}{k:Nat}{x:α}(h:l[k]? =some x):l.take (k+1)=l.take k++ [x]:=by
 have hk:=(List.getElem?_eq_some_iff.1 h).1;rw[List.take_succ_eq_append_getElem hk]
 congr 2
 exact(List.getElem?_eq_some_iff.1 h).2
def Bk(w:VA)(b:Nat)(t:TypeId)(cs:Array VC):Prop:=w.heap[b]? =some (.cells cs t (0,0))
section
variable {w w' : VA} {b : Nat} {t : TypeId} {cs : Array VC}
theorem Bk.lt(h:Bk w b t cs):b<w.heap.size:=(Array.getElem?_eq_some_iff.1 h).1
theorem Bk.cell(h:Bk w b t cs)(i:Nat):w.cell? ⟨b,i,none⟩=cs[i]? :=by
 unfold Bk at h;simp[World.cell?,h]
theorem Bk.free(h:Bk w b t cs)(i:Nat):w.frozen? ⟨b,i,none⟩=false:=by
 unfold Bk at h;simp[World.frozen?,h]
theorem fr4{w:VA}{b:Nat}{t:TypeId}{cs:Array VC}(h:Bk w b t cs):w.frozen? ⟨b,0,none⟩=false/\w.frozen? ⟨b,1,none⟩=false/\w.frozen? ⟨b,2,none⟩=false/\w.frozen? ⟨b,3,none⟩=false:=⟨h.free 0,h.free 1,h.free 2,h.free 3⟩
theorem fr9{w:VA}{b:Nat}{t:TypeId}{cs:Array VC}(h:Bk w b t cs):w.frozen? ⟨b,0,none⟩=false/\w.frozen? ⟨b,1,none⟩=false/\w.frozen? ⟨b,2,none⟩=false/\w.frozen? ⟨b,3,none⟩=false/\w.frozen? ⟨b,4,none⟩=false/\w.frozen? ⟨b,5,none⟩=false/\w.frozen? ⟨b,6,none⟩=false/\w.frozen? ⟨b,7,none⟩=false/\w.frozen? ⟨b,8,none⟩=false:=⟨h.free 0,h.free 1,h.free 2,h.free 3,h.free 4,h.free 5,h.free 6,h.free 7,h.free 8⟩
theorem Bk.new(w:VA)(t:TypeId)(cs:Array VC):Bk (w.alloc (.cells cs t)) w.heap.size t cs:=heap_alloc_new w _
theorem Bk.alloc(h:Bk w b t cs)(o:Obj):Bk (w.alloc o) b t cs:=(Below.heap_alloc w o b h.lt).trans h
theorem Bk.below{B:Nat}(h:Bk w b t cs)(hb:Below B w w')(hB:b<B):Bk w' b t cs:=(hb.block b hB).trans h
theorem Bk.grown{row:Option Nat}(h:Bk w b t cs)(hg:w.grownBy w' row)(hr:some b≠row):Bk w' b t cs:=(hg.block b h.lt hr).trans h
theorem Bk.far(h:Bk w b t cs){p:Addr}(hp:b≠p.block)(u:VC):Bk (w.setCell p u) b t cs:=(Z8 w p u b hp).trans h
theorem Bk.drew(h:Bk w b t cs):Bk w.drew b t cs:=h
theorem Bk.drewN(h:Bk w b t cs)(k:Nat):Bk (w.drewN k) b t cs:=h
theorem Bk.set(h:Bk w b t cs)(i:Nat)(u:VC):Bk (w.setCell ⟨b,i,none⟩ u) b t (cs.setIfInBounds i u):=by
 unfold Bk at h ⊢;simp[World.setCell,Array.getElem?_modify,h]
theorem Bk.set2{x y:VC}(h:Bk w b t #[x,y])(x' y':VC):Bk ((w.setCell ⟨b,0,none⟩ x').setCell ⟨b,1,none⟩ y') b t #[x',y']:=by
 have:=(h.set 0 x').set 1 y'
 simpa using this
end
theorem eX{B b:Nat}{w w':VA}(h:Below B w w')(hb:B<=b)(x y:VC):Below B w ((w'.setCell ⟨b,0,none⟩ x).setCell ⟨b,1,none⟩ y) :=
 (h.setCell (p:=⟨b,0,none⟩) hb x).setCell (p:=⟨b,1,none⟩) hb y
theorem Sl.setCell{w:VA}{B size n:Nat}{A:OA}{xs:List VC}(h:Sl w B size A n xs){p:Addr}(hp:B<=p.block)(u:VC):Sl (w.setCell p u) B size A n xs :=
 h.keep fun q hq=>World.cell?_of_block (w:=w) (Z8 w p u q.block (by omega))
def yl:VC->Bool
 | .slice _ _ _=>false
 | _=>true
theorem Sl.box2{w:VA}{B size n b:Nat}{t:TypeId}{A:OA}{xs:List VC}{a0 a1:OA}{l0 l1 k0 k1:Nat}(h:Sl w B size A n xs)(h0:0<size)(hx:∀u∈xs,yl u=true)
  (hk:Bk w b t #[.slice a0 l0 k0,.slice a1 l1 k1]) (x y:VC):Sl ((w.setCell ⟨b,0,none⟩ x).setCell ⟨b,1,none⟩ y) B size A n xs:=by
 refine⟨h.1,fun hn=>?_⟩;obtain⟨b',off,rfl,hb',hc⟩:=h.2 hn;have hlen:0<xs.length:=by rw[h.1];exact Nat.mul_pos hn h0
 have hne:b'≠b:=by
  rintro rfl;have h1:=hc 0 xs[0] (Z5 hlen);rw[hk.cell,Nat.add_zero]at h1;have h2:=hx xs[0] (List.getElem_mem hlen)
  match off,h1 with
  | 0,h1=>simp at h1;rw[<-h1]at h2;cases h2
  | 1,h1=>simp at h1;rw[<-h1]at h2;cases h2
  | o+2,h1=>simp at h1
 refine⟨b',off,rfl,hb',fun j u hu=>?_⟩;rw[<-hc j u hu];exact World.cell?_of_block ((Z8 _ _ _ b' hne).trans (Z8 _ _ _ b' hne))
def strs(l:List VB):List VC:=l.map Value.string
theorem tN(l:List VB): (strs l).length=l.length:=by simp[strs]
section
variable {ι : Type} {w w' : VA} {base : Nat} {e : TypeId} {f : ι -> VC} {L : ι -> List VB}
end
theorem Sl.str_at{w:VA}{B n k:Nat}{A:OA}{l:List VB}(h:Sl w B 1 A n (strs l))(hk:k<n):∃b off x,A=some ⟨b,off,none⟩/\b<B/\l[k]? =some x/\w.cell? ⟨b,off+k,none⟩=some (.string x):=by
 obtain⟨b,off,e,hb,hc⟩:=h.2 (by omega);have hl:l.length=n:=by have:=h.1;rw[tN]at this;omega
 have hx:l[k]? =some (l[k]'(by omega)):=Z5 _;exact⟨b,off,_,e,hb,hx,hc k _ (by simp[strs,hx])⟩
section
def Ah{α:Type}(F:Fence)(n:Nat)(P:Program)(g:Nat)(lb:Array VC)(encs:α->Array VC)(Kp St:VA->VA->Prop)(Pf S Sp:List α->Prop)(w:VA):Prop :=
 ∀(l:Nat)(J Jx:List α->VA->Prop)(W:VA),VE w W-> (∀pre A B,J pre A->St A B->J pre B) ->
  (∀pre x W1,Pf (pre++ [x])->J pre W1->YieldAt F (n - 1) P l (encs x) W1 fun e W' =>
    (e= .returned (.bool true)/\J (pre++ [x]) W'/\Kp W1 W')∨ (e= .returned (.bool false)/\Jx (pre++ [x]) W')) ->
  J [] W ->
  CallsIn F n P g (#[.func (.yield l) #[] #[]]++lb) W fun e W'=>(∃v,e= .returned v)/\ ((∃xs,S xs/\J xs W')∨ (∃pre,Sp pre/\Jx pre W'))
variable {F : Fence} {n : Nat} {P : Program}
theorem vS{α:Type}{g:Operand}{ps:Array Tmp}{assign body:Code}{Q:Exit->Act->VA->Prop}{a:Act}{w:VA}
  (hro:F.round=none) (h1:1<=n) {gf:Nat} {lb:Array VC} (hg:a.eval g= .func (.func gf) #[] lb) (hFg:F.fn gf) (eg:∀args w,(callFunc gf args).run P w= .ok (.enter gf args) w)
  {encs:α->Array VC} {Kp St:VA->VA->Prop} {Pf S Sp:List α->Prop} {w0:VA} (hseq:Ah F (n - 1) P gf lb encs Kp St Pf S Sp w0)
  (hKt:∀{A B C:VA},Kp A B->Kp B C->Kp A C) (hKb:∀(W:VA)(l:Nat)(o':Obj),w.heap.size<=l->Kp W (W.putObj l o')) (hSo:∀A B,St A B->KeepsOthers A B) (hb0:VE w0 w) (hps:∀x,(encs x).size=ps.size)
  (I:List α->VA->Prop) (Ix:Code->List α->VA->Prop) (hI:OwnFrom w.heap.size I) (hIx:∀c,OwnFrom w.heap.size (Ix c)) (hIS:∀pre A B,I pre A->St A B->I pre B) (h0:I [] w) (a₁:α->Act)
  (hassign:∀(l:Nat)(x:α)(W:VA)(K:Act->VA->Prop),K (a₁ x) W ->
    assign.wpIn (F.inRound l) (n - 1 - 1) P (Exit.then K (fun _ _ _=>False)) {tmps:=(ps.zip (encs x)).foldl (fun t (p,v)=>t.setIfInBounds p v) a.tmps,defers:= []} W)
  (hbody:∀(l:Nat)(pre:List α)(x:α)(W:VA),Pf (pre++ [x])->I pre W->body.wpIn (F.inRound l) (n - 1 - 1) P (ownPostK Kp I Ix (pre++ [x]) W) (a₁ x) W)
  (hdone:∀(D:Nat)(xs:List α)(W:VA),w.heap.size<=D->S xs->I xs W->W.heap[D]? =some (.deferred (some []))->Q .normal {a with defers:={target:= .collected D,args:=#[]}::a.defers} W)
  (hstop:∀(D:Nat)(c:Code)(pre:List α)(W:VA),w.heap.size<=D->Sp pre->Ix c pre W->W.heap[D]? =some (.deferred (some []))->c.wpIn F n P Q {a with defers:={target:= .collected D,args:=#[]}::a.defers} W) :
  (Code.rangeFunc g ps assign body).wpIn F n P Q a w:=by
 refine wpIn_rangeFunc ?_;intro fn hfn;rw[hro]
 -- the loop's record in block L,the block of its deferred calls in block D
 obtain⟨D,hD⟩:=NX9 w.heap.size
 obtain⟨rec,hrec⟩:∃rec:LoopState->Option Code->Loop,rec=fun st pe=>{state:=st,pending:=pe,fn,tmps:=a.tmps,params:=ps,assign,body,defers:=D}:=⟨_,rfl⟩
 obtain⟨W1,hW1⟩:=NX9 ((w.alloc (.deferred (some []))).alloc (.loop (rec .ready none)))
 have hL1:W1.heap[D+1]? =some (.loop (rec .ready none)):=by
  rw[<-hW1,<-hD];have:=World.alloc_heap_new (w.alloc (.deferred (some []))) (.loop (rec .ready none));rwa[Z9]at this
 have hK1:W1.heap[D]? =some (.deferred (some [])):=by
  rw[<-hW1,<-hD];exact(Below.heap_alloc _ _ _ (by simp)).trans (World.alloc_heap_new w _)
 have hI1:I [] W1:=by rw[<-hW1];exact hI.alloc _ (hI.alloc _ h0)
 have hb1:VE w0 W1:=by
  rw[<-hW1];exact hb0.trans ((((ah _ w).alloc aj _).alloc (by simp) _).mono hb0.size)
 refine⟨D+1,[{target:= .collected D,args:=#[]}],W1,{target:= .fn (.func gf) lb,args:=#[.func (.yield (D+1)) #[] #[]]},W1,gf,
  #[.func (.yield (D+1)) #[] #[]]++lb,W1,?_,?_,?_,?_,fun _=>h1,?_⟩
 . rw[<-hW1,hrec,<-hD];exact run_enterLoop_outer _ _ _ _ _
 . simp only[resolve,hg]
   simp[go_sem]
 . intro f' hf';simp[Target.leads]at hf';subst hf';exact hFg
 . simp[invoke,go_sem,eg]
 . refine(hseq (D+1)
     (fun pre W=>I pre W/\W.heap[D+1]? =some (.loop (rec .ready none))/\W.heap[D]? =some (.deferred (some [])))
     (fun pre W=>∃c,Ix c pre W/\W.heap[D+1]? =some (.loop (rec .done (some c)))/\W.heap[D]? =some (.deferred (some [])))
     W1 hb1
     (fun pre A B hs hst=>⟨hIS pre A B hs.1 hst,(hSo A B hst).same _ _ hs.2.1 rfl,(hSo A B hst).same _ _ hs.2.2 rfl⟩)
     ?_ ⟨hI1,hL1,hK1⟩).mono ?_
   . rintro pre x W b ⟨hi,hl,hk⟩
     have hlt:D+1<W.heap.size:=(Array.getElem?_eq_some_iff.1 hl).1;have hy:=run_yield (P:=P) (args:=encs x) hl (by rw[hrec];exact hps x);rw[hrec]at hy;refine⟨fn,_,assign,body,hy,roundIn_of_wpIn hfn (hassign _ x W _ ⟨_,run_beginRound hl (by rw[hrec]),?_⟩)⟩;obtain⟨W2,hW2⟩:∃W2,W.putObj (D+1) (.loop {rec .ready none with state:= .busy})=W2:=⟨_,rfl⟩
     have hl2:W2.heap[D+1]? =some (.loop {rec .ready none with state:= .busy}):=by rw[<-hW2];exact World.putObj_heap_same hlt
     have hk2:W2.heap[D]? =some (.deferred (some [])):=by rw[<-hW2];exact(World.putObj_heap_other (by omega)).trans hk
     have hw2:Kp W W2:=by rw[<-hW2];exact hKb _ _ _ (by omega)
     have hi2:I pre W2:=by rw[<-hW2];exact hI.putObj _ hi (by omega) hl rfl
     rw[hW2];refine wpIn_mono (hbody _ pre x _ b hi2) ?_;have fin:∀(jump:Option Code)(W3:VA),KeepsOthers W2 W3 ->
       (Instr.endRound (D+1) jump).run P W3= .ok (.bool jump.isNone) (W3.putObj (D+1) (.loop (rec (if jump.isNone then .ready else .done) jump))) ∧
       W3.heap[D+1]? =some (.loop {rec .ready none with state:= .busy}) ∧
       (W3.putObj (D+1) (.loop (rec (if jump.isNone then .ready else .done) jump))).heap[D+1]? =some (.loop (rec (if jump.isNone then .ready else .done) jump)) ∧
       (W3.putObj (D+1) (.loop (rec (if jump.isNone then .ready else .done) jump))).heap[D]? =some (.deferred (some [])):=fun jump W3 hk3=>by
      have hl3:=hk3.same _ _ hl2 rfl;have:=run_endRound (P:=P) jump hl3;rw[hrec]at this ⊢;exact⟨this,by rw[hrec]at hl3;exact hl3,World.putObj_heap_same (Array.getElem?_eq_some_iff.1 hl3).1,(World.putObj_heap_other (by omega)).trans (hk3.same _ _ hk2 rfl)⟩
     rintro e a3 W3 hp;cases e with
     | normal =>
       obtain⟨hk3,hkp3,hi3⟩:=hp;obtain⟨hr,hl3,hl4,hk4⟩:=fin none W3 hk3;exact⟨_,_,hr,.inl ⟨rfl,⟨hI.putObj _ hi3 (by omega) hl3 rfl,hl4,hk4⟩,hKt (hKt hw2 hkp3) (hKb _ _ _ (by omega))⟩⟩
     | ret =>
       obtain⟨hk3,hi3⟩:=hp;obtain⟨hr,hl3,hl4,hk4⟩:=fin (some .ret) W3 hk3;exact⟨_,_,hr,.inr ⟨rfl,.ret,(hIx _).putObj _ hi3 (by omega) hl3 rfl,hl4,hk4⟩⟩
     | exit id =>
       obtain⟨hk3,hi3⟩:=hp;obtain⟨hr,hl3,hl4,hk4⟩:=fin (some (.exit id)) W3 hk3;exact⟨_,_,hr,.inr ⟨rfl,.exit id,(hIx _).putObj _ hi3 (by omega) hl3 rfl,hl4,hk4⟩⟩
     | goto t =>
       obtain⟨hk3,hi3⟩:=hp;obtain⟨hr,hl3,hl4,hk4⟩:=fin (some (.goto t)) W3 hk3;exact⟨_,_,hr,.inr ⟨rfl,.goto t,(hIx _).putObj _ hi3 (by omega) hl3 rfl,hl4,hk4⟩⟩
     | panic ch=>exact hp.elim
     | outgrown=>exact hp.elim
   . rintro e W2 ⟨⟨v,rfl⟩,(⟨xs,hS,hi,hl,hk⟩ | ⟨pre,hSp,c,hi,hl,hk⟩)⟩
     . exact⟨none,_,by have:=run_endLoop (P:=P) hl (by rw[hrec];simp);rw[hrec]at this;exact this,hdone _ xs _ (by omega) hS (hI.putObj _ hi (by omega) hl rfl) ((World.putObj_heap_other (by omega)).trans hk)⟩
     . exact⟨some c,_,by have:=run_endLoop (P:=P) hl (by rw[hrec];simp);rw[hrec]at this;exact this,hstop _ c pre _ (by omega) hSp ((hIx c).putObj _ hi (by omega) hl rfl) ((World.putObj_heap_other (by omega)).trans hk)⟩
end
theorem aO{p:Prop}(h:Hid p):p:=h
theorem aH{p:Prop}(h:p):Hid p:=h
section
variable {P : Program} {w : VA} {base size n : Nat} {e : TypeId} {v : VC} {xs : List VC}
theorem rC(h:w.ownsRow base e size v n xs):∃A c,v= .slice A n c/\n<=c/\c<=maxLen:=by
 rcases h.2 with ⟨rfl,rfl⟩ | ⟨g,cap,cur,rfl,_,_,h1,h2,_⟩
 . exact⟨none,0,rfl,Nat.le_refl _,ZX _⟩
 . exact⟨_,cap,rfl,h1,h2⟩
theorem Bc{base':Nat}(h:w.ownsRow base e size v n xs)(hb:base'<=base):w.ownsRow base' e size v n xs:=by
 refine⟨h.1,?_⟩;rcases h.2 with h | ⟨g,cap,cur,h1,h2,h3⟩
 . exact .inl h
 . exact .inr ⟨g,cap,cur,h1,by omega,h3⟩
theorem JX{base' size' n':Nat}{e':TypeId}{v':VC}{xs':List VC}(h:w.ownsRow base e size v n xs)(h':w.ownsRow base' e' size' v' n' xs')(hne:e'≠e):v'.ownBlock=none∨v'.ownBlock≠v.ownBlock:=by
 rcases h'.2 with ⟨rfl,_⟩ | ⟨g',cap',cur',rfl,_,hh',_⟩
 . exact .inl rfl
 . rcases h.2 with ⟨rfl,_⟩ | ⟨g,cap,cur,rfl,_,hh,_⟩
   . exact .inr (by simp[Value.ownBlock])
   . refine .inr fun he=>?_
     simp only[Value.ownBlock,Option.some.injEq]at he;subst he;rw[hh]at hh';injection hh' with hh';injection hh' with _ ht;exact hne ht.symm
theorem jF(h:w.ownsRow base e size v n xs):∀k,v.ownBlock=some k->base<=k:=fun k hk=>(h.lt k hk).1
theorem mF(t ty:TypeId)(i:TypeInfo)(z:VC)(bytes:Nat)(ht:P.underlying t=some (.slice e))(hi:P.info? e=some i)(hz:i.zero=some z)
  (hsize:i.size=size) (hby:i.bytes=bytes) (hzs:z.cells.size=size) (hsz:0<size) (hown:w.ownsRow base e size v n xs)
  {B:Nat} {A:OA} {m c:Nat} {ys:List VC} (hsl:Sl w B size A m ys) (h1:∀u∈ys,u.oneCell'=true)
  (h63:n+m<=maxLen) (hbytes: (n+m)*bytes<=140737488355328) (hbase:base<=w.heap.size) :
  ∃A' c' w',(Builtin.append_ #[t,t] ty #[v,.slice A m c]).run P w= .ok (.slice A' (n+m) c') w'/\w'.ownsRow base e size (.slice A' (n+m) c') (n+m) (xs++ys)/\w.grownBy w' v.ownBlock/\n+m<=c'/\c'<=maxLen:=by
 have key:∃v' w',(Builtin.append_ #[t,t] ty #[v,.slice A m c]).run P w= .ok v' w'/\w'.ownsRow base e size v' (n+m) (xs++ys)/\w.grownBy w' v.ownBlock:=by
  cases A with
  | none =>
    have hm:m=0:=by
     rcases Nat.eq_zero_or_pos m with h | h
     . exact h
     . obtain⟨b,off,e1,_⟩:=hsl.2 h;cases e1
    subst hm;have hy:ys= []:=by
     have:=hsl.1;rw[Nat.zero_mul]at this;exact List.length_eq_zero_iff.1 this
    subst hy;refine⟨v,w,?_,by simpa using hown,⟨rfl,rfl,rfl,Nat.le_refl _,fun _ _ _=>rfl⟩⟩;rcases hown.2 with ⟨rfl,rfl⟩ | ⟨g,cap,cur,rfl,_,_,hnc,_⟩
    . simp[Builtin.append_,run_underlying ht,sizeOf,typeInfo,hi,Builtin.lenOf,Builtin.firstCells]
    . simp[Builtin.append_,run_underlying ht,sizeOf,typeInfo,hi,Builtin.lenOf,Builtin.firstCells,hnc,storeCells]
  | some ad =>
    have hc:∀j u,ys[j]? =some u->w.cell? (ad.add j)=some u:=by
     intro j u hu;have hm:0<m:=by
      rcases Nat.eq_zero_or_pos m with h | h
      . subst h
        have:=hsl.1;rw[Nat.zero_mul]at this;rw[List.length_eq_zero_iff.1 this]at hu;cases hu
      . exact h
     obtain⟨b,off,e1,_,hcell⟩:=hsl.2 hm;cases e1
     rw[Addr.add_lit];exact hcell j u hu
    obtain⟨v',w',hr,ho,hg,_⟩:=run_append_own (P:=P) w base t ty e i z size bytes ht hi hz hsize hby hzs hsz v n xs hown ad m c ys hsl.1 hc h1 h63 hbytes hbase;exact⟨v',w',hr,ho,hg⟩
 obtain⟨v',w',hr,ho,hg⟩:=key;obtain⟨A',c',rfl,hc1,hc2⟩:=rC ho;exact⟨A',c',w',hr,ho,hg,hc1,hc2⟩
theorem jV(w:VA){ops:Array Oper}{rest:List Oper}{o:Oper}{a:Act}{Q:Exit->Act->VA->Prop}(hgd:o.guard=none)(s x:Operand)(t:TypeId)
  (ho:o.op= .call {callee:= .builtin .append,args:=#[s,x],argTypes:=#[t,t]})
  (e:TypeId) (i:TypeInfo) (z:VC) (bytes:Nat) (ht:P.underlying t=some (.slice e)) (hi:P.info? e=some i) (hz:i.zero=some z)
  (hsize:i.size=size) (hby:i.bytes=bytes) (hzs:z.cells.size=size) (hsz:0<size)
  (v:VC) (n:Nat) (xs:List VC) (hs:a.eval s=v) (hown:w.ownsRow base e size v n xs)
  (B:Nat) (A:OA) (m c:Nat) (ys:List VC) (hx:a.eval x= .slice A m c) (hsl:Sl w B size A m ys) (h1:∀u∈ys,u.oneCell'=true)
  (h63:n+m<=maxLen) (hbytes: (n+m)*bytes<=140737488355328) (hbase:base<=w.heap.size)
  (h:∀A' c' w',w'.ownsRow base e size (.slice A' (n+m) c') (n+m) (xs++ys)->w.grownBy w' v.ownBlock->n+m<=c'->c'<=maxLen->wpList P ops Q rest (a.put o.dst (.slice A' (n+m) c')) w'):wpList P ops Q (o::rest) a w:=by
 refine wpList_plain hgd fun K hK=>?_;obtain⟨A',c',w',hr,ho',hg,hc1,hc2⟩:=mF (P:=P) t o.type i z bytes ht hi hz hsize hby hzs hsz hown (c:=c) hsl h1 h63 hbytes hbase;unfold Oper.wp;simp[execOp,ho,resolve,invoke,builtin,hs,hx,hr,Result.andThen];exact hK _ _ (h A' c' w' ho' hg hc1 hc2)
theorem ry(t:TypeId)(i:TypeInfo)(ht:P.underlying t=some (.slice e))(hi:P.info? e=some i)(A:OA)(n c k:Nat)(hk:k<=c)(w:VA) :
  (Instr.sliceAt t (.slice A n c) none (some (.int .i64 k)) none).run P w= .ok (.slice A k c) w:=by
 have hA:Option.map (fun x:Addr=>x.add 0) A=A:=by cases A <;> simp[Addr.add]
 simp[Instr.sliceAt,Instr.slice,run_underlying ht,Instr.sliceBounds,Instr.sliceBound,asIntOf,hk,sizeOf,typeInfo,hi,hA]
theorem JH(t:TypeId)(i:TypeInfo)(ht:P.underlying t=some (.slice e))(hi:P.info? e=some i)(hsz:i.size=size)(A:OA)(n c k:Nat)(hk:k<=n)(hnc:n<=c) :
  ∃Ak,(∀w:VA,(Instr.sliceAt t (.slice A n c) (some (.int .i64 k)) none none).run P w= .ok (.slice Ak (n - k) (c - k)) w)/\∀(w:VA)(B:Nat)(xs:List VC),Sl w B size A n xs->Sl w B size Ak (n - k) (xs.drop (k*size)):=by
 refine⟨if c=k then A else A.map (·.add (k*size)),fun w=>?_,fun w B xs h=>?_⟩
 . simp[Instr.sliceAt,Instr.slice,run_underlying ht,Instr.sliceBounds,Instr.sliceBound,asIntOf,hk,sizeOf,typeInfo,hi,hsz]
 . refine⟨by rw[List.length_drop,h.1,Nat.sub_mul],fun hn=>?_⟩
   obtain⟨b,off,rfl,hb,hc⟩:=h.2 (by omega);rw[if_neg (by omega)];refine⟨b,off+k*size,by simp[Addr.add_lit],hb,fun j u hu=>?_⟩;rw[Nat.add_assoc];exact hc _ u (by rw[List.getElem?_drop]at hu;exact hu)
end
section
open Go.Maps
def less(s t:VB):Bool:=Op.bytesLess s.data.toList t.data.toList
theorem iR{s t:VB}(h:s.data.toList=t.data.toList):s=t:=by
 cases s;cases t;congr 1;exact Array.toList_inj.1 h
theorem BX(a b:List UInt8): (Lit.string a).sameKey (.string b)= (a == b):=rfl
theorem rG:∀(a:List UInt8),Op.bytesLess a a=false
 | []=>rfl
 | a::r=>by simp[Op.bytesLess,rG r]
theorem wB:∀(a b c:List UInt8),Op.bytesLess a b=true->Op.bytesLess b c=true->Op.bytesLess a c=true
 | [],[],_=>by simp[Op.bytesLess]
 | [],_::_,[]=>by simp[Op.bytesLess]
 | [],_::_,_::_=>by simp[Op.bytesLess]
 | _::_,[],_=>by simp[Op.bytesLess]
 | _::_,_::_,[]=>by simp[Op.bytesLess]
 | a::r,b::s,c::t=>by
   simp only[Op.bytesLess,Bool.or_eq_true,Bool.and_eq_true,decide_eq_true_eq,beq_iff_eq];rintro (h1 | ⟨rfl,h1⟩) (h2 | ⟨rfl,h2⟩)
   . exact .inl (UInt8.lt_trans h1 h2)
   . exact .inl h1
   . exact .inl h2
   . exact .inr ⟨rfl,wB r s t h1 h2⟩
theorem wZ:∀(a b:List UInt8),Op.bytesLess a b=false->Op.bytesLess b a=false->a=b
 | [],[]=>fun _ _=>rfl
 | [],_::_=>by simp[Op.bytesLess]
 | _::_,[]=>by simp[Op.bytesLess]
 | a::r,b::s=>by
   simp only[Op.bytesLess,Bool.or_eq_false_iff,Bool.and_eq_false_iff,decide_eq_false_iff_not,beq_eq_false_iff_ne];rintro ⟨h1,h2⟩ ⟨h3,h4⟩;have e:a=b:=by
    apply UInt8.toNat_inj.1
    rw[UInt8.lt_iff_toNat_lt]at h1 h3;omega
   subst e;rcases h2 with h2 | h2
   . exact absurd rfl h2
   . rcases h4 with h4 | h4
     . exact absurd rfl h4
     . rw[wZ r s h2 h4]
end
def Asc(l:List VB):Prop:=l.Pairwise (fun a b=>less a b=true)
theorem iY(a:VB):less a a=false:=rG _
theorem jW{a b c:VB}(h:less a b=true)(h':less b c=true):less a c=true:=wB _ _ _ h h'
theorem mY{a b:VB}(h:less a b=false)(h':less b a=false):a=b:=iR (wZ _ _ h h')
theorem xM{a b:VB}(h:less a b=true):a≠b:=by rintro rfl;rw[iY]at h;cases h
theorem KA{a b:VB}(h:less a b=true):less b a=false:=by
 cases h':less b a with
 | false=>rfl
 | true=>have:=jW h h';rw[iY]at this;cases this
theorem Asc.nodup{l:List VB}(h:Asc l):l.Nodup:=List.Pairwise.imp (fun h=>xM h) h
theorem yN:∀{l m:List VB},Asc l->Asc m-> (∀x,x∈l↔x∈m)->l=m
 | [],[],_,_,_=>rfl
 | [],b::m,_,_,h=>by have:=(h b).2 (by simp);cases this
 | a::l,[],_,_,h=>by have:=(h a).1 (by simp);cases this
 | a::l,b::m,hl,hm,h=>by
   have ha:=List.pairwise_cons.1 hl;have hb:=List.pairwise_cons.1 hm;have e:a=b:=by
    rcases List.mem_cons.1 ((h a).1 (by simp)) with e | e
    . exact e
    . rcases List.mem_cons.1 ((h b).2 (by simp)) with e' | e'
      . exact e'.symm
      . have h1:=hb.1 a e
        have h2:=ha.1 b e';have:=jW h1 h2;rw[iY]at this;cases this
   subst e
   congr 1
   refine yN ha.2 hb.2 fun x=>⟨fun hx=>?_,fun hx=>?_⟩
   . rcases List.mem_cons.1 ((h x).1 (by simp[hx])) with e | e
     . subst e;have:=ha.1 x hx;rw[iY]at this;cases this
     . exact e
   . rcases List.mem_cons.1 ((h x).2 (by simp[hx])) with e | e
     . subst e;have:=hb.1 x hx;rw[iY]at this;cases this
     . exact e
def gq:List VB->VB->List VB
 | [],s=> [s]
 | r::l,s=>if less r s then r::gq l s else if r=s then r::l else s::r::l
theorem xP:∀(l:List VB)(s x:VB),x∈gq l s↔x∈l∨x=s
 | [],s,x=>by simp[gq]
 | r::l,s,x=>by
   simp only[gq];by_cases h1:less r s=true
   . rw[if_pos h1,List.mem_cons,xP l s x,List.mem_cons]
     constructor
     . rintro (e | e | e)
       . exact .inl (.inl e)
       . exact .inl (.inr e)
       . exact .inr e
     . rintro ((e | e) | e)
       . exact .inl e
       . exact .inr (.inl e)
       . exact .inr (.inr e)
   . rw[if_neg h1]
     by_cases h2:r=s
     . rw[if_pos h2]
       constructor
       . exact .inl
       . rintro (e | e)
         . exact e
         . rw[e,<-h2];simp
     . rw[if_neg h2,List.mem_cons]
       constructor
       . rintro (e | e)
         . exact .inr e
         . exact .inl e
       . rintro (e | e)
         . exact .inr e
         . exact .inl e
theorem Fe:∀{l:List VB}(s:VB),Asc l->Asc (gq l s)
 | [],s,_=>List.pairwise_singleton _ _
 | r::l,s,h=>by
   have hc:=List.pairwise_cons.1 h;simp only[gq];by_cases h1:less r s=true
   . rw[if_pos h1]
     refine List.pairwise_cons.2 ⟨fun x hx=>?_,Fe s hc.2⟩;rcases (xP l s x).1 hx with e | e
     . exact hc.1 x e
     . rw[e];exact h1
   . rw[if_neg h1]
     by_cases h2:r=s
     . rw[if_pos h2];exact h
     . rw[if_neg h2]
       have hsr:less s r=true:=by
        cases hx:less s r with
        | true=>rfl
        | false=>exact absurd (mY (by simpa using h1) hx) h2
       refine List.pairwise_cons.2 ⟨fun x hx=>?_,h⟩;rcases List.mem_cons.1 hx with e | e
       . rw[e];exact hsr
       . exact jW hsr (hc.1 x e)
def iD:List VB->VB->Nat
 | [],_=>0
 | r::l,s=>if less r s then iD l s+1 else 0
theorem Fg:∀{l:List VB}{s:VB},l[iD l s]? =some s->gq l s=l
 | [],s,h=>by simp at h
 | r::l,s,h=>by
   simp only[gq];by_cases h1:less r s=true
   . have e:iD (r::l) s=iD l s+1:=by simp[iD,h1]
     rw[e,List.getElem?_cons_succ]at h;rw[if_pos h1,Fg h]
   . have e:iD (r::l) s=0:=by simp[iD,h1]
     rw[e,List.getElem?_cons_zero]at h;rw[if_neg h1,if_pos (by simpa using h)]
theorem Fh:∀{l:List VB}{s:VB},l[iD l s]? ≠some s->gq l s=l.take (iD l s)++ [s]++l.drop (iD l s)
 | [],s,_=>by simp[gq]
 | r::l,s,h=>by
   simp only[gq];by_cases h1:less r s=true
   . have e:iD (r::l) s=iD l s+1:=by simp[iD,h1]
     rw[e,List.getElem?_cons_succ]at h;rw[if_pos h1,Fh h,e];simp
   . have e:iD (r::l) s=0:=by simp[iD,h1]
     rw[e,List.getElem?_cons_zero]at h;rw[if_neg h1,if_neg (by simpa using h),e];simp
end Go.Proofs.YtknefelegjlgnaaGreatDoor
namespace Go.Proofs
open Go.Shelf
def Tryz.lays169_ren:Go.Shelf.Ren:=⟨fun | 169=>138 | n=>n,fun | 70=>212 | 9=>9 | 0=>0 | 72=>215 | 37=>213 | 127=>296 | 3=>3 | 5=>5 | n=>n,fun | n=>n⟩
theorem Tryz.lays169:Go.Proofs.Lays.n169 Tryz.prog Tryz.lays169_ren:={
 mixed:=by kernel_rfl
 f169:=Tryz.func138.trans (congrArg some (by kernel_rfl))
 t0:=Tryz.underlying0
 a0:=Tryz.isAgg0
 z0:=Tryz.sizeOf0
 v0:=Tryz.zeroValue0
 t3:=Tryz.underlying3
 a3:=Tryz.isAgg3
 z3:=Tryz.sizeOf3
 v3:=Tryz.zeroValue3
 t9:=Tryz.underlying9
 a9:=Tryz.isAgg9
 z9:=Tryz.sizeOf9
 v9:=Tryz.zeroValue9
 t37:=Tryz.underlying213
 a37:=Tryz.isAgg213
 z37:=Tryz.sizeOf213
 v37:=Tryz.zeroValue213
 t70:=Tryz.underlying212
 a70:=Tryz.isAgg212
 z70:=Tryz.sizeOf212
 v70:=Tryz.zeroValue212
 t72:=Tryz.underlying215
 a72:=Tryz.isAgg215
 z72:=Tryz.sizeOf215
 v72:=Tryz.zeroValue215
 t127:=Tryz.underlying296
 a127:=Tryz.isAgg296
 z127:=Tryz.sizeOf296
 v127:=Tryz.zeroValue296}
theorem Tryz.Builder_Extra_169:Builder.Extra Tryz.prog Tryz.lays169_ren:={
 sizeBuilder:=by kernel_rfl
 liesBuilder:=by kernel_rfl
 t5:=Tryz.underlying5
 a5:=Tryz.isAgg5
 z5:=Tryz.sizeOf5
 v5:=Tryz.zeroValue5
 infoByte:=by kernel_rfl
 cellsByte:=by kernel_rfl
 sizeByte:=by kernel_rfl
 neB5:=by decide}
open Go.RowKit in
theorem Tryz.Builder_String_any(B b:Nat)(l:List UInt8)(w:World)(h:Lib.IsBuilder 215 5 B b (Lib.byteCells l) w)(hBw:B ≤ w.heap.size) :
  Calls Tryz.prog 138 #[.pointer (some ⟨b,0,none⟩)] w fun e w'=>e= .returned (.string ⟨l.toArray⟩) ∧ Below B w w':=Any.Builder_String_any Tryz.lays169 Tryz.Builder_Extra_169 B b l w h hBw
def Tryz.lays156_ren:Go.Shelf.Ren:=⟨fun | 156=>139 | 165=>135 | 166=>136 | 169=>138 | 240=>219 | 241=>220 | 276=>278 | 277=>279 | n=>n,fun | 31=>22 | 9=>9 | 3=>3 | 4=>4 | 0=>0 | 20=>20 | 72=>215 | 76=>219 | 70=>212 | 37=>213 | 75=>218 | 127=>296 | 164=>348 | 5=>5 | 80=>222 | n=>n,fun | n=>n⟩
theorem Tryz.lays156:Go.Proofs.Lays.n156 Tryz.prog Tryz.lays156_ren:={
 mixed:=by kernel_rfl
 f156:=Tryz.func139.trans (congrArg some (by kernel_rfl))
 f165:=Tryz.func135.trans (congrArg some (by kernel_rfl))
 f166:=Tryz.func136.trans (congrArg some (by kernel_rfl))
 f169:=Tryz.func138.trans (congrArg some (by kernel_rfl))
 f240:=Tryz.func219.trans (congrArg some (by kernel_rfl))
 f241:=Tryz.func220.trans (congrArg some (by kernel_rfl))
 f276:=Tryz.func278.trans (congrArg some (by kernel_rfl))
 f277:=Tryz.func279.trans (congrArg some (by kernel_rfl))
 t0:=Tryz.underlying0
 a0:=Tryz.isAgg0
 z0:=Tryz.sizeOf0
 v0:=Tryz.zeroValue0
 t3:=Tryz.underlying3
 a3:=Tryz.isAgg3
 z3:=Tryz.sizeOf3
 v3:=Tryz.zeroValue3
 t4:=Tryz.underlying4
 a4:=Tryz.isAgg4
 z4:=Tryz.sizeOf4
 v4:=Tryz.zeroValue4
 t9:=Tryz.underlying9
 a9:=Tryz.isAgg9
 z9:=Tryz.sizeOf9
 v9:=Tryz.zeroValue9
 t20:=Tryz.underlying20
 a20:=Tryz.isAgg20
 z20:=Tryz.sizeOf20
 v20:=Tryz.zeroValue20
 t31:=Tryz.underlying22
 a31:=Tryz.isAgg22
 z31:=Tryz.sizeOf22
 v31:=Tryz.zeroValue22
 t37:=Tryz.underlying213
 a37:=Tryz.isAgg213
 z37:=Tryz.sizeOf213
 v37:=Tryz.zeroValue213
 t70:=Tryz.underlying212
 a70:=Tryz.isAgg212
 z70:=Tryz.sizeOf212
 v70:=Tryz.zeroValue212
 t72:=Tryz.underlying215
 a72:=Tryz.isAgg215
 z72:=Tryz.sizeOf215
 v72:=Tryz.zeroValue215
 t75:=Tryz.underlying218
 a75:=Tryz.isAgg218
 z75:=Tryz.sizeOf218
 v75:=Tryz.zeroValue218
 t76:=Tryz.underlying219
 a76:=Tryz.isAgg219
 z76:=Tryz.sizeOf219
 v76:=Tryz.zeroValue219
 t127:=Tryz.underlying296
 a127:=Tryz.isAgg296
 z127:=Tryz.sizeOf296
 v127:=Tryz.zeroValue296
 t164:=Tryz.underlying348
 a164:=Tryz.isAgg348
 z164:=Tryz.sizeOf348
 v164:=Tryz.zeroValue348}
def Tryz.lays106_ren:Go.Shelf.Ren:=⟨fun | 106=>131 | 213=>215 | 265=>277 | n=>n,fun | 9=>9 | 3=>3 | n=>n,fun | n=>n⟩
theorem Tryz.lays106:Go.Proofs.Lays.n106 Tryz.prog Tryz.lays106_ren:={
 mixed:=by kernel_rfl
 f106:=Tryz.func131.trans (congrArg some (by kernel_rfl))
 f213:=Tryz.func215.trans (congrArg some (by kernel_rfl))
 f265:=Tryz.func277.trans (congrArg some (by kernel_rfl))
 t3:=Tryz.underlying3
 a3:=Tryz.isAgg3
 z3:=Tryz.sizeOf3
 v3:=Tryz.zeroValue3
 t9:=Tryz.underlying9
 a9:=Tryz.isAgg9
 z9:=Tryz.sizeOf9
 v9:=Tryz.zeroValue9}
open Go.RowKit in
theorem Tryz.strings_Compare(a b:ByteArray)(w:World) :
  Calls Tryz.prog 131 #[.string a,.string b] w fun e w'=>e= .returned (.int .i64 (Lib.compareBytes a.data.toList b.data.toList)) ∧ w'=w:=Any.strings_Compare Tryz.lays106 a b w
def Tryz.lays219_ren:Go.Shelf.Ren:=⟨fun | 219=>300 | 217=>326 | 225=>327 | 224=>328 | 267=>329 | 266=>338 | 314=>339 | n=>n,fun | 9=>9 | 3=>3 | 4=>4 | 5=>5 | 46=>188 | 146=>292 | 51=>267 | n=>n,fun | 1=>0 | n=>n⟩
theorem Tryz.lays219:Go.Proofs.Lays.n219 Tryz.prog Tryz.lays219_ren:={
 mixed:=by kernel_rfl
 f217:=Tryz.func326.trans (congrArg some (by kernel_rfl))
 f219:=Tryz.func300.trans (congrArg some (by kernel_rfl))
 f224:=Tryz.func328.trans (congrArg some (by kernel_rfl))
 f225:=Tryz.func327.trans (congrArg some (by kernel_rfl))
 f266:=Tryz.func338.trans (congrArg some (by kernel_rfl))
 f267:=Tryz.func329.trans (congrArg some (by kernel_rfl))
 f314:=Tryz.func339.trans (congrArg some (by kernel_rfl))
 t3:=Tryz.underlying3
 a3:=Tryz.isAgg3
 z3:=Tryz.sizeOf3
 v3:=Tryz.zeroValue3
 t4:=Tryz.underlying4
 a4:=Tryz.isAgg4
 z4:=Tryz.sizeOf4
 v4:=Tryz.zeroValue4
 t5:=Tryz.underlying5
 a5:=Tryz.isAgg5
 z5:=Tryz.sizeOf5
 v5:=Tryz.zeroValue5
 t9:=Tryz.underlying9
 a9:=Tryz.isAgg9
 z9:=Tryz.sizeOf9
 v9:=Tryz.zeroValue9
 t46:=Tryz.underlying188
 a46:=Tryz.isAgg188
 z46:=Tryz.sizeOf188
 v46:=Tryz.zeroValue188
 t51:=Tryz.underlying267
 a51:=Tryz.isAgg267
 z51:=Tryz.sizeOf267
 v51:=Tryz.zeroValue267
 t146:=Tryz.underlying292
 a146:=Tryz.isAgg292
 z146:=Tryz.sizeOf292
 v146:=Tryz.zeroValue292
 g1:=by kernel_rfl}
open Go.RowKit Go.Lib in
theorem Tryz.stringslite_Index_one(s:ByteArray)(c:UInt8)(w:World) :
  Calls Tryz.prog 300 #[.string s,.string ⟨#[c]⟩] w fun e w'=>e= .returned (.int .i64 (Lib.indexByte s.data.toList c)) ∧ w'=w:=Any.stringslite_Index_one Tryz.lays219 s c w
def Tryz.lays143_ren:Go.Shelf.Ren:=⟨fun | 143=>299 | 219=>300 | 217=>326 | 225=>327 | 224=>328 | 267=>329 | 266=>338 | 314=>339 | n=>n,fun | 9=>9 | 3=>3 | 4=>4 | 5=>5 | 46=>188 | 146=>292 | 51=>267 | n=>n,fun | 1=>0 | n=>n⟩
theorem Tryz.lays143:Go.Proofs.Lays.n143 Tryz.prog Tryz.lays143_ren:={
 mixed:=by kernel_rfl
 f143:=Tryz.func299.trans (congrArg some (by kernel_rfl))
 f217:=Tryz.func326.trans (congrArg some (by kernel_rfl))
 f219:=Tryz.func300.trans (congrArg some (by kernel_rfl))
 f224:=Tryz.func328.trans (congrArg some (by kernel_rfl))
 f225:=Tryz.func327.trans (congrArg some (by kernel_rfl))
 f266:=Tryz.func338.trans (congrArg some (by kernel_rfl))
 f267:=Tryz.func329.trans (congrArg some (by kernel_rfl))
 f314:=Tryz.func339.trans (congrArg some (by kernel_rfl))
 t3:=Tryz.underlying3
 a3:=Tryz.isAgg3
 z3:=Tryz.sizeOf3
 v3:=Tryz.zeroValue3
 t4:=Tryz.underlying4
 a4:=Tryz.isAgg4
 z4:=Tryz.sizeOf4
 v4:=Tryz.zeroValue4
 t5:=Tryz.underlying5
 a5:=Tryz.isAgg5
 z5:=Tryz.sizeOf5
 v5:=Tryz.zeroValue5
 t9:=Tryz.underlying9
 a9:=Tryz.isAgg9
 z9:=Tryz.sizeOf9
 v9:=Tryz.zeroValue9
 t46:=Tryz.underlying188
 a46:=Tryz.isAgg188
 z46:=Tryz.sizeOf188
 v46:=Tryz.zeroValue188
 t51:=Tryz.underlying267
 a51:=Tryz.isAgg267
 z51:=Tryz.sizeOf267
 v51:=Tryz.zeroValue267
 t146:=Tryz.underlying292
 a146:=Tryz.isAgg292
 z146:=Tryz.sizeOf292
 v146:=Tryz.zeroValue292
 g1:=by kernel_rfl}
open Go.RowKit Go.Lib in
theorem Tryz.strings_Index_one(s:ByteArray)(c:UInt8)(w:World) :
  Calls Tryz.prog 299 #[.string s,.string ⟨#[c]⟩] w fun e w'=>e= .returned (.int .i64 (Lib.indexByte s.data.toList c)) ∧ w'=w:=Any.strings_Index_one Tryz.lays143 s c w
def Tryz.lays190_ren:Go.Shelf.Ren:=⟨fun | 190=>203 | 125=>115 | 258=>263 | 128=>191 | 129=>192 | 302=>301 | 303=>302 | 304=>303 | 305=>304 | 306=>305 | 307=>306 | 308=>307 | 309=>308 | 310=>309 | 333=>330 | 329=>254 | 330=>255 | 334=>331 | 335=>332 | 336=>333 | 344=>340 | n=>n,fun | 31=>22 | 9=>9 | 3=>3 | 46=>188 | 0=>0 | 51=>267 | 53=>48 | 4=>4 | 183=>261 | 182=>260 | 131=>181 | 5=>5 | 218=>328 | 222=>332 | 228=>361 | 229=>362 | n=>n,fun | n=>n⟩
theorem Tryz.lays190:Go.Proofs.Lays.n190 Tryz.prog Tryz.lays190_ren:={
 mixed:=by kernel_rfl
 f125:=Tryz.func115.trans (congrArg some (by kernel_rfl))
 f128:=Tryz.func191.trans (congrArg some (by kernel_rfl))
 f129:=Tryz.func192.trans (congrArg some (by kernel_rfl))
 f190:=Tryz.func203.trans (congrArg some (by kernel_rfl))
 f258:=Tryz.func263.trans (congrArg some (by kernel_rfl))
 f302:=Tryz.func301.trans (congrArg some (by kernel_rfl))
 f303:=Tryz.func302.trans (congrArg some (by kernel_rfl))
 f304:=Tryz.func303.trans (congrArg some (by kernel_rfl))
 f305:=Tryz.func304.trans (congrArg some (by kernel_rfl))
 f306:=Tryz.func305.trans (congrArg some (by kernel_rfl))
 f307:=Tryz.func306.trans (congrArg some (by kernel_rfl))
 f308:=Tryz.func307.trans (congrArg some (by kernel_rfl))
 f309:=Tryz.func308.trans (congrArg some (by kernel_rfl))
 f310:=Tryz.func309.trans (congrArg some (by kernel_rfl))
 f329:=Tryz.func254.trans (congrArg some (by kernel_rfl))
 f330:=Tryz.func255.trans (congrArg some (by kernel_rfl))
 f333:=Tryz.func330.trans (congrArg some (by kernel_rfl))
 f334:=Tryz.func331.trans (congrArg some (by kernel_rfl))
 f335:=Tryz.func332.trans (congrArg some (by kernel_rfl))
 f336:=Tryz.func333.trans (congrArg some (by kernel_rfl))
 f344:=Tryz.func340.trans (congrArg some (by kernel_rfl))
 t0:=Tryz.underlying0
 a0:=Tryz.isAgg0
 z0:=Tryz.sizeOf0
 v0:=Tryz.zeroValue0
 t3:=Tryz.underlying3
 a3:=Tryz.isAgg3
 z3:=Tryz.sizeOf3
 v3:=Tryz.zeroValue3
 t4:=Tryz.underlying4
 a4:=Tryz.isAgg4
 z4:=Tryz.sizeOf4
 v4:=Tryz.zeroValue4
 t5:=Tryz.underlying5
 a5:=Tryz.isAgg5
 z5:=Tryz.sizeOf5
 v5:=Tryz.zeroValue5
 t9:=Tryz.underlying9
 a9:=Tryz.isAgg9
 z9:=Tryz.sizeOf9
 v9:=Tryz.zeroValue9
 t31:=Tryz.underlying22
 a31:=Tryz.isAgg22
 z31:=Tryz.sizeOf22
 v31:=Tryz.zeroValue22
 t46:=Tryz.underlying188
 a46:=Tryz.isAgg188
 z46:=Tryz.sizeOf188
 v46:=Tryz.zeroValue188
 t51:=Tryz.underlying267
 a51:=Tryz.isAgg267
 z51:=Tryz.sizeOf267
 v51:=Tryz.zeroValue267
 t53:=Tryz.underlying48
 a53:=Tryz.isAgg48
 z53:=Tryz.sizeOf48
 v53:=Tryz.zeroValue48
 t131:=Tryz.underlying181
 a131:=Tryz.isAgg181
 z131:=Tryz.sizeOf181
 v131:=Tryz.zeroValue181
 t182:=Tryz.underlying260
 a182:=Tryz.isAgg260
 z182:=Tryz.sizeOf260
 v182:=Tryz.zeroValue260
 t183:=Tryz.underlying261
 a183:=Tryz.isAgg261
 z183:=Tryz.sizeOf261
 v183:=Tryz.zeroValue261
 t218:=Tryz.underlying328
 a218:=Tryz.isAgg328
 z218:=Tryz.sizeOf328
 v218:=Tryz.zeroValue328
 t222:=Tryz.underlying332
 a222:=Tryz.isAgg332
 z222:=Tryz.sizeOf332
 v222:=Tryz.zeroValue332
 t228:=Tryz.underlying361
 a228:=Tryz.isAgg361
 z228:=Tryz.sizeOf361
 v228:=Tryz.zeroValue361
 t229:=Tryz.underlying362
 a229:=Tryz.isAgg362
 z229:=Tryz.sizeOf362
 v229:=Tryz.zeroValue362}
open Go.Sort Go.RowKit in
theorem Tryz.slices_Sort_string(blk off cap:Nat)(ss:List (List UInt8))(w:World)(hH:Holds encStr w blk off ss.toArray)(hblk:blk<w.heap.size)(hsz:ss.length<4611686018427387904) :
  Calls Tryz.prog 203 #[.slice (some ⟨blk,off,none⟩) ss.length cap] w fun e w' =>
   e= .returned (.tuple #[]) ∧ ∃n os,w'=grow (putRow encStr (Sort.ahead w n) blk off (ss.mergeSort fun x y=>decide (x ≤ y)).toArray) os:=Any.slices_Sort_string Tryz.lays190 blk off cap ss w hH hblk hsz
def Tryz.lays105_ren:Go.Shelf.Ren:=⟨fun | 105=>74 | 212=>133 | 99=>134 | 165=>135 | 166=>136 | 170=>137 | 169=>138 | 263=>216 | 264=>217 | 206=>218 | 240=>219 | 241=>220 | 276=>278 | 277=>279 | n=>n,fun | 9=>9 | 3=>3 | 4=>4 | 20=>20 | 0=>0 | 46=>188 | 109=>209 | 5=>5 | 72=>215 | 76=>219 | 51=>267 | 146=>292 | 53=>48 | 148=>294 | 70=>212 | 37=>213 | 75=>218 | 127=>296 | 164=>348 | 80=>222 | n=>n,fun | n=>n⟩
theorem Tryz.lays105:Go.Proofs.Lays.n105 Tryz.prog Tryz.lays105_ren:={
 mixed:=by kernel_rfl
 f99:=Tryz.func134.trans (congrArg some (by kernel_rfl))
 f105:=Tryz.func74.trans (congrArg some (by kernel_rfl))
 f165:=Tryz.func135.trans (congrArg some (by kernel_rfl))
 f166:=Tryz.func136.trans (congrArg some (by kernel_rfl))
 f169:=Tryz.func138.trans (congrArg some (by kernel_rfl))
 f170:=Tryz.func137.trans (congrArg some (by kernel_rfl))
 f206:=Tryz.func218.trans (congrArg some (by kernel_rfl))
 f212:=Tryz.func133.trans (congrArg some (by kernel_rfl))
 f240:=Tryz.func219.trans (congrArg some (by kernel_rfl))
 f241:=Tryz.func220.trans (congrArg some (by kernel_rfl))
 f263:=Tryz.func216.trans (congrArg some (by kernel_rfl))
 f264:=Tryz.func217.trans (congrArg some (by kernel_rfl))
 f276:=Tryz.func278.trans (congrArg some (by kernel_rfl))
 f277:=Tryz.func279.trans (congrArg some (by kernel_rfl))
 t0:=Tryz.underlying0
 a0:=Tryz.isAgg0
 z0:=Tryz.sizeOf0
 v0:=Tryz.zeroValue0
 t3:=Tryz.underlying3
 a3:=Tryz.isAgg3
 z3:=Tryz.sizeOf3
 v3:=Tryz.zeroValue3
 t4:=Tryz.underlying4
 a4:=Tryz.isAgg4
 z4:=Tryz.sizeOf4
 v4:=Tryz.zeroValue4
 t5:=Tryz.underlying5
 a5:=Tryz.isAgg5
 z5:=Tryz.sizeOf5
 v5:=Tryz.zeroValue5
 t9:=Tryz.underlying9
 a9:=Tryz.isAgg9
 z9:=Tryz.sizeOf9
 v9:=Tryz.zeroValue9
 t20:=Tryz.underlying20
 a20:=Tryz.isAgg20
 z20:=Tryz.sizeOf20
 v20:=Tryz.zeroValue20
 t37:=Tryz.underlying213
 a37:=Tryz.isAgg213
 z37:=Tryz.sizeOf213
 v37:=Tryz.zeroValue213
 t46:=Tryz.underlying188
 a46:=Tryz.isAgg188
 z46:=Tryz.sizeOf188
 v46:=Tryz.zeroValue188
 t51:=Tryz.underlying267
 a51:=Tryz.isAgg267
 z51:=Tryz.sizeOf267
 v51:=Tryz.zeroValue267
 t53:=Tryz.underlying48
 a53:=Tryz.isAgg48
 z53:=Tryz.sizeOf48
 v53:=Tryz.zeroValue48
 t70:=Tryz.underlying212
 a70:=Tryz.isAgg212
 z70:=Tryz.sizeOf212
 v70:=Tryz.zeroValue212
 t72:=Tryz.underlying215
 a72:=Tryz.isAgg215
 z72:=Tryz.sizeOf215
 v72:=Tryz.zeroValue215
 t75:=Tryz.underlying218
 a75:=Tryz.isAgg218
 z75:=Tryz.sizeOf218
 v75:=Tryz.zeroValue218
 t76:=Tryz.underlying219
 a76:=Tryz.isAgg219
 z76:=Tryz.sizeOf219
 v76:=Tryz.zeroValue219
 t109:=Tryz.underlying209
 a109:=Tryz.isAgg209
 z109:=Tryz.sizeOf209
 v109:=Tryz.zeroValue209
 t127:=Tryz.underlying296
 a127:=Tryz.isAgg296
 z127:=Tryz.sizeOf296
 v127:=Tryz.zeroValue296
 t146:=Tryz.underlying292
 a146:=Tryz.isAgg292
 z146:=Tryz.sizeOf292
 v146:=Tryz.zeroValue292
 t148:=Tryz.underlying294
 a148:=Tryz.isAgg294
 z148:=Tryz.sizeOf294
 v148:=Tryz.zeroValue294
 t164:=Tryz.underlying348
 a164:=Tryz.isAgg348
 z164:=Tryz.sizeOf348
 v164:=Tryz.zeroValue348}
open Go.RowKit Go.Sort in
theorem Tryz.slices_Sort_string_none(p:Option Addr)(cap:Nat)(w:World) :
  Calls Tryz.prog 203 #[.slice p 0 cap] w fun e w'=>e= .returned (.tuple #[]) ∧ w'=w:=Any.slices_Sort_string_none Tryz.lays190 p cap w
end Go.Proofs
namespace Go.Proofs.YtknefelegjlgnaaGreatDoor
open Go.RowKit
section
open Go.RowKit Go.Sort
def bl(s:VB):List UInt8:=s.data.toList
def ub(l:List UInt8):VB:=⟨l.toArray⟩
theorem qH(s:VB):ub (bl s)=s:=by cases s;simp[ub,bl]
theorem IZ(l:List UInt8):bl (ub l)=l:=by simp[ub,bl]
theorem F5:∀(a b:List UInt8),decide (a<=b)=!Op.bytesLess b a
 | [],b=>by cases b <;> simp[Op.bytesLess]
 | a::r,[]=>by simp[Op.bytesLess]
 | a::r,b::s=>by
   have ih:=F5 r s;rw[Bool.eq_iff_iff]at ih ⊢;simp only[decide_eq_true_eq,Op.bytesLess,Bool.not_eq_true',Bool.or_eq_false_iff,Bool.and_eq_false_iff,decide_eq_false_iff_not,beq_eq_false_iff_ne,List.cons_le_cons_iff]at ih ⊢;constructor
   . rintro (h | ⟨h,h'⟩)
     . exact⟨fun h2=>absurd (UInt8.lt_trans h h2) (UInt8.lt_irrefl _),.inl fun e=>by subst e;exact absurd h (UInt8.lt_irrefl _)⟩
     . subst h;exact⟨UInt8.lt_irrefl _,.inr (ih.1 h')⟩
   . rintro ⟨h1,h2⟩
     by_cases e:a=b
     . subst e
       rcases h2 with h2 | h2
       . exact absurd rfl h2
       . exact .inr ⟨rfl,ih.2 h2⟩
     . left
       rw[UInt8.lt_iff_toNat_lt]at h1 ⊢;have:a.toNat≠b.toNat:=fun h=>e (UInt8.toNat_inj.1 h);omega
def Srt(l:List VB):Prop:=l.Pairwise (fun a b=>less b a=false)
theorem Srt.asc{l:List VB}(h:Srt l)(hn:l.Nodup):Asc l:=by
 unfold Srt at h;unfold Asc;have:=h.and hn;refine this.imp ?_;rintro a b ⟨h1,h2⟩;cases h3:less a b with
 | true=>rfl
 | false=>exact absurd (mY h3 h1) h2
def iW(l:List VB):List VB:=((l.map bl).mergeSort fun x y=>decide (x<=y)).map ub
theorem wQ(l:List VB): (iW l).Perm l:=by
 have h:=(List.mergeSort_perm (l.map bl) fun x y=>decide (x<=y)).map ub;rw[List.map_map]at h;have e:l.map (ub ∘ bl)=l:=by
  conv=>rhs;rw[<-List.map_id l]
  exact List.map_congr_left fun x _=>qH x
 rwa[e]at h
theorem P7(l:List VB):Srt (iW l):=by
 unfold Srt iW;rw[List.pairwise_map];have h:=List.pairwise_mergeSort (le:=fun x y:List UInt8=>decide (x<=y)) (fun a b c h1 h2=>by simp only[decide_eq_true_eq]at *;exact List.le_trans h1 h2) (fun a b=>by simp only[Bool.or_eq_true,decide_eq_true_eq];exact List.le_total a b) (l.map bl);refine h.imp ?_;intro a b h1;rw[F5]at h1;show Op.bytesLess (bl (ub b)) (bl (ub a))=false;rw[IZ,IZ]
 simpa using h1
theorem FK(l:List VB): (iW l).length=l.length:=(wQ l).length_eq
theorem EK(l:List VB)(x:VB):x∈iW l↔x∈l:=(wQ l).mem_iff
theorem FN{l:List VB}(h:l.Nodup):Asc (iW l):=(P7 l).asc ((wQ l).nodup_iff.2 h)
theorem Pm(l:List VB)(j:Nat)(x:VB)(h:l[j]? =some x): (strs l)[j]? =some (.string x):=by simp[strs,h]
theorem JU(off n:Nat)(d:Array (List UInt8))(cur:Array VC)(hd:d.size=n)(ho:off=0)(hn:n<=cur.size): (putCells encStr off d cur).toList.take n=d.toList.map encStr:=by
 subst ho hd;apply List.ext_getElem?
 intro k;rw[List.getElem?_take];by_cases hk:k<d.size
 . have hk2:k<cur.size:=by omega
   rw[if_pos hk,List.getElem?_map];simp[putCells,hk,hk2]
 . rw[if_neg hk,List.getElem?_eq_none (by simp;omega)]
theorem EI(base n c:Nat)(A:OA)(l:List VB)(w:VA)(h:w.ownsRow base 9 1 (.slice A n c) n (strs l))(hn:n<=1000000000) :
  Calls Tryz.prog 203 #[.slice A n c] w fun e w'=>e= .returned (.tuple #[])/\w'.ownsRow base 9 1 (.slice A n c) n (strs (iW l))/\w.grownBy w' (Value.slice A n c).ownBlock:=by
 have hl:l.length=n:=by have:=h.1;rw[tN]at this;omega
 rcases h.2 with ⟨hv,h0⟩ | ⟨g,cap,cur,hv,h1,h2,h3,h4,h5,h6⟩
 . simp only[Value.slice.injEq]at hv
   obtain⟨rfl,_,rfl⟩:=hv;subst h0;obtain rfl:l= []:=List.eq_nil_of_length_eq_zero hl;refine(Tryz.slices_Sort_string_none _ _ _).mono ?_;rintro e w' ⟨rfl,rfl⟩;exact⟨rfl,by simpa [iW] using h,rfl,rfl,rfl,Nat.le_refl _,fun _ _ _=>rfl⟩
 . simp only[Value.slice.injEq]at hv
   obtain⟨rfl,_,rfl⟩:=hv;have hsz:n<=cur.size:=by omega
   have hH:Holds encStr w g 0 (l.map bl).toArray:=by
    intro j hj;have hj':j<l.length:=by simpa using hj
    have hx:l[j]? =some l[j]:=Z5 hj';refine⟨?_,by simp[World.frozen?,h2]⟩;have h7: (strs l)[j]? =some (.string l[j]):=Pm l j _ hx;rw[<-h6,List.getElem?_take,if_pos (by omega)]at h7;have e:encStr ((l.map bl).toArray[j]!)= .string l[j]:=by
     show Value.string (ub _)=_;simp[hj',qH]
    rw[e];simp[World.cell?,h2]
    simpa using h7
   have hc:=Tryz.slices_Sort_string g 0 c (l.map bl) w hH (Array.getElem?_eq_some_iff.1 h2).1 (by rw[List.length_map];omega);rw[List.length_map,hl]at hc;refine hc.mono ?_;rintro e w' ⟨rfl,k,os,rfl⟩;have hlt:=(Array.getElem?_eq_some_iff.1 h2).1;have hms: ((l.map bl).mergeSort fun x y=>decide (x<=y)).toArray.size=n:=by simp[hl]
   refine⟨rfl,⟨by rw[tN,FK,hl];omega,.inr ⟨g,c,putCells encStr 0 ((l.map bl).mergeSort fun x y=>decide (x<=y)).toArray cur,rfl,h1,?_,h3,h4,by simp[putCells];omega,?_⟩⟩,rfl,rfl,rfl,by simp,fun b hb hr=>?_⟩
   . simp only[grow,putRow,mapBlock,Sort.ahead]
     rw[Array.getElem?_append_left (by simpa using hlt),Array.getElem?_modify,if_pos rfl,h2];rfl
   . rw[Nat.mul_one,JU 0 n _ cur hms rfl hsz]
     simp[strs,iW,ub,Function.comp_def]
   . simp only[grow,putRow,mapBlock,Sort.ahead]
     rw[Array.getElem?_append_left (by simpa using hb),Array.getElem?_modify,if_neg (fun e=>hr (by rw[e];rfl))]
end
section
open Go.RowKit Go.Shelf
attribute [local go_sem] Oper.semAt_some
theorem jb(s:VB):s.size=s.data.toList.length:=(Array.length_toList).symm
theorem EU(s:VB)(k:Nat)(h:k<s.size):s.data.toList[k]? =some s[k]:=by
 rw[Z5 (by rw[<-jb];exact h)];rfl
theorem mG(s:VB)(k i:Nat): (s.extract k i).data.toList= (s.data.toList.drop k).take (i - k):=by
 simp[ByteArray.data_extract]
def bI:List UInt8->List (List UInt8)
 | []=> [[]]
 | c::r=>if c=47 then []::bI r else match bI r with
   | []=> [[c]]
   | h::t=>(c::h)::t
theorem KU(seg:List UInt8)(h:∀c∈seg,c≠47):bI seg= [seg]:=by
 induction seg with
 | nil=>rfl
 | cons c r ih =>
   unfold bI;rw[if_neg (h c (by simp)),ih (fun d hd=>h d (by simp[hd]))]
theorem Nq(seg r:List UInt8)(h:∀c∈seg,c≠47):bI (seg++47::r)=seg::bI r:=by
 induction seg with
 | nil=>rw[List.nil_append,bI,if_pos rfl]
 | cons c t ih =>
   rw[List.cons_append,bI,if_neg (h c (by simp)),ih (fun d hd=>h d (by simp[hd]))]
theorem oQ:∀(l p:List UInt8),p∈bI l->p.length<=l.length
 | [],p,h=>by simp[bI]at h;simp[h]
 | c::r,p,h=>by
   unfold bI at h;split at h
   . rcases List.mem_cons.1 h with e | h
     . simp[e]
     . have:=oQ r p h;simp;omega
   . split at h
     . simp at h;simp[h]
     . rename_i h2 t e
       rcases List.mem_cons.1 h with e2 | h3
       . have:=oQ r h2 (by rw[e];simp)
         rw[e2];simp;omega
       . have:=oQ r p (by rw[e];simp[h3])
         simp;omega
def qR(lo:Nat)(A B:VA):Prop:=∀k,lo<=k->k<lo+3->B.heap[k]? =A.heap[k]?
theorem GN{lo:Nat}{A B C:VA}(h:qR lo A B)(k:qR lo B C):qR lo A C:=fun i h1 h2=>(k i h1 h2).trans (h i h1 h2)
theorem DZ{lo m:Nat}(h:lo+3<=m)(W:VA)(l:Nat)(o:Obj)(hl:m<=l):qR lo W (W.putObj l o):=fun k _ h2=>World.putObj_heap_other (by omega)
def StS(lo:Nat)(A B:VA):Prop:=∃v,B=A.setCell ⟨lo,0,none⟩ (.string v)
theorem CU{lo:Nat}(A B:VA)(h:StS lo A B):KeepsOthers A B:=by
 obtain⟨v,rfl⟩:=h;exact KeepsOthers.setCell _ _ _
def zU(lo:Nat)(w:VA):Nat:=match w.cell? ⟨lo,0,none⟩ with
 | some (.string s)=>s.size
 | _=>0
theorem Ey{lo:Nat}{w:VA}{s:VB}(h:w.heap[lo]? =some (.cells #[.string s] 9 (0,0))):zU lo w=s.size:=by
 have:=cell_of_one h;simp[zU,this]
theorem Qm{l:List UInt8}{i:Nat}(h:Lib.indexByte l 47=i):bI l=l.take i::bI (l.drop (i+1)):=by
 obtain⟨h1,h2⟩:=Lib.indexByte_some h;have hi:=(List.getElem?_eq_some_iff.1 h1).1;have e:l=l.take i++47::l.drop (i+1):=by
  conv=>lhs;rw[<-List.take_append_drop i l]
  congr 1
  rw[List.drop_eq_getElem_cons hi]
  congr 1
  exact(List.getElem?_eq_some_iff.1 h1).2
 conv=>lhs;rw[e]
 refine Nq _ _ fun c hc e=>?_;subst e;obtain⟨j,hj,hv⟩:=List.getElem_of_mem hc;have hj':j<i:=by simp at hj;omega
 apply h2 j hj'
 rw[<-hv,List.getElem_take];exact Z5 _
theorem ML{l:List UInt8}(h:Lib.indexByte l 47= -1):bI l= [l]:=by
 refine KU _ fun c hc e=>?_;subst e;obtain⟨j,hj,hv⟩:=List.getElem_of_mem hc;exact Lib.indexByte_none h j (by rw[<-hv];exact Z5 _)
theorem DL(n lo:Nat)(hn:1<=n)(s:VB)(w:VA)(hs:s.size<=9223372036854775807)(hlo:lo+3<=w.heap.size)
  (h0:w.heap[lo]? =some (.cells #[.string s] 9 (0,0))) (h1:w.heap[lo+1]? =some (.cells #[.string ⟨#[47]⟩] 9 (0,0))) (h2:w.heap[lo+2]? =some (.cells #[.int .i64 0] 3 (0,0))) :
  Ah Fence.wide n Tryz.prog 297 #[.pointer (some ⟨lo+1,0,none⟩),.pointer (some ⟨lo,0,none⟩),.pointer (some ⟨lo+2,0,none⟩)] (fun x:VB=> #[.string x]) (qR lo) (StS lo)
   (fun pre=>∃r,pre.map bl++r=bI (bl s)) (fun xs=>xs.map bl=bI (bl s)) (fun pre=>∃r,pre.map bl++r=bI (bl s)) w:=fun l J Jx W hW hJ hY hJ0=>by
 have g0:W.heap[lo]? =some (.cells #[.string s] 9 (0,0)):=(hW.block lo (by omega)).trans h0;have g1:W.heap[lo+1]? =some (.cells #[.string ⟨#[47]⟩] 9 (0,0)):=(hW.block (lo+1) (by omega)).trans h1;have g2:W.heap[lo+2]? =some (.cells #[.int .i64 0] 3 (0,0)):=(hW.block (lo+2) (by omega)).trans h2;clear hW h0 h1 h2;have c1:=cell_of_one g1;have G0:=ai g0;have G1:=ai g1;have G2:=ai g2;have HJ:=ai hJ;have d:=ai hY;have b:=ai hJ0;clear g0 g1 g2 hJ hY hJ0;refine callsIn_of_wp Tryz.func297 rfl trivial ?_ rfl;simp only[Tryz.ntmps297,List.size_toArray,Z4,List.length_nil,Nat.reduceAdd,Nat.reduceSub,Array.replicate_succ,Array.replicate_zero,List.push_toArray,List.append_toArray,List.nil_append,List.cons_append]
 gi_wp2_with fail
 gi_loopw [7,8] (fun _ _ wr=>∃(pre:List VB)(cur:VB),cur.size<=9223372036854775807/\Hid (wr.heap[lo]? =some (.cells #[.string cur] 9 (0,0)))/\Hid (wr.heap[lo+1]? =some (.cells #[.string ⟨#[47]⟩] 9 (0,0)))/\Hid (wr.heap[lo+2]? =some (.cells #[.int .i64 0] 3 (0,0)))/\Hid (pre.map bl++bI (bl cur)=bI (bl s))/\J pre wr)
  (fun _ _ wr=>zU lo wr)
 case atStart=>exact⟨[],s,hs,G0,G1,G2,rfl,b.o⟩
 case round =>
  obtain⟨pre,cur,hcs,k0,k1,k2,hsp,hj⟩:=hrel;have d0:=cell_of_one k0.o;have d1:=cell_of_one k1.o;have d2:=cell_of_one k2.o;have f0:=free_of_one k0.o;have a:=ai hj;clear hj;have f:Fence.wide.fn 299:=trivial;by_cases hi:Lib.indexByte cur.data.toList 47= -1
  . have HI:=ai hi
    have HE:=ai (ML hi);clear hi;obtain⟨fn,tmps,assign,body,hy,hR⟩:=d.o pre cur wr ⟨[],by rw[List.map_append,<-hsp.o,List.append_nil];show _=_++bI cur.data.toList;rw[HE.o];rfl⟩ a.o;have HR:=ai hR;clear hR
    gi_wp2_with (gi_at_call 299;refine(callsIn_wide.2 (Tryz.strings_Index_one _ _ _)).mono ?_;rintro e w' ⟨rfl,rfl⟩;rw[HI.o])
    refine HR.o.mono ?_;rintro e W3 (⟨rfl,hJ3,_⟩ | ⟨rfl,hJx3⟩)
    . gi_wp2
      go_end0
      exact⟨⟨_,rfl⟩,.inl ⟨pre++ [cur],by rw[List.map_append,<-hsp.o];show _=_++bI cur.data.toList;rw[HE.o];rfl,hJ3⟩⟩
    . gi_wp2
      go_end0
      exact⟨⟨_,rfl⟩,.inr ⟨pre++ [cur],⟨[],by rw[List.map_append,<-hsp.o,List.append_nil];show _=_++bI cur.data.toList;rw[HE.o];rfl⟩,hJx3⟩⟩
  . obtain⟨i,hi'⟩:∃i:Nat,Lib.indexByte cur.data.toList 47=i:=⟨(Lib.indexByte cur.data.toList 47).toNat,by have:=Lib.indexByte_ge cur.data.toList 47;omega⟩
    have hil:i<cur.size:=by
     rw[jb];exact(List.getElem?_eq_some_iff.1 (Lib.indexByte_some hi').1).1
    have HI:=ai hi';have HE:=ai (Qm hi');clear hi hi';obtain⟨fn,tmps,assign,body,hy,hR⟩:=d.o pre (cur.extract 0 i) wr ⟨bI (cur.data.toList.drop (i+1)),by
      rw[List.map_append,<-hsp.o,ZZ];show _=_++bI cur.data.toList;rw[HE.o];simp[bl]⟩ a.o
    have HR:=ai hR;clear hR
    gi_wp2_with (gi_at_call 299;refine(callsIn_wide.2 (Tryz.strings_Index_one _ _ _)).mono ?_;rintro e w' ⟨rfl,rfl⟩;rw[HI.o])
    refine HR.o.mono ?_;rintro e W3 (⟨rfl,hJ3,hK3⟩ | ⟨rfl,hJx3⟩)
    . have m0:=(hK3 lo (by omega) (by omega)).trans k0.o
      have m1:=(hK3 (lo+1) (by omega) (by omega)).trans k1.o;have m2:=(hK3 (lo+2) (by omega) (by omega)).trans k2.o;have e0:=cell_of_one m0;have e1:=cell_of_one m1;have q0:=free_of_one m0;have M0:=ai m0;have M1:=ai m1;have M2:=ai m2;have c:=ai hJ3;clear m0 m1 m2 hJ3 hK3 d0 d1 d2 f0
      gi_wp2
      go_roundw
      case rel =>
       refine⟨pre++ [cur.extract 0 i],cur.extract (i+1) cur.size,by rw[ByteArray.size_extract];omega,one_setCell M0.o,(Z8 _ _ _ _ (by simp)).trans M1.o,(Z8 _ _ _ _ (by simp)).trans M2.o,?_,HJ.o _ _ _ c.o ⟨_,rfl⟩⟩;show _=_;rw[<-hsp.o,List.map_append,ZZ];show _=_++bI cur.data.toList;rw[HE.o];have e2:bl (cur.extract (i+1) cur.size)=cur.data.toList.drop (i+1):=by
        unfold bl;rw[mG,ZU (by rw[List.length_drop,<-jb];omega)]
       rw[e2];simp[bl]
      case measure =>
       rw[Ey (one_setCell M0.o),Ey k0.o,ByteArray.size_extract];omega
    . gi_wp2
      refine ZW (results_none rfl _ _ _) rfl ?_;exact⟨⟨_,rfl⟩,.inr ⟨pre++ [cur.extract 0 i],⟨bI (cur.data.toList.drop (i+1)),by
       rw[List.map_append,<-hsp.o,ZZ];show _=_++bI cur.data.toList;rw[HE.o];simp[bl]⟩,hJx3⟩⟩
theorem Bh(s:VB)(w:VA) :
  Calls Tryz.prog 194 #[.string s,.string ⟨#[47]⟩] w fun e w'=>e= .returned (.func (.func 297) #[] #[.pointer (some ⟨w.heap.size+1,0,none⟩),.pointer (some ⟨w.heap.size,0,none⟩),.pointer (some ⟨w.heap.size+2,0,none⟩)]) ∧
   w'= ((w.alloc (.cells #[.string s] 9)).alloc (.cells #[.string ⟨#[47]⟩] 9)).alloc (.cells #[.int .i64 0] 3):=by
 go_enter Tryz.func194,Tryz.ntmps194
 go_wp2
 go_ret
 exact⟨rfl,rfl⟩
end
section
open Go.RowKit Go.Shelf
attribute [local go_sem] Oper.semAt_some
theorem rP{w w':VA}{b:Nat}{v:VC}{t:TypeId}{row:Option Nat}(h:w.heap[b]? =some (.cells #[v] t (0,0)))(hg:w.grownBy w' row)(hr:some b≠row):w'.heap[b]? =some (.cells #[v] t (0,0)) :=
 (hg.block b (Array.getElem?_eq_some_iff.1 h).1 hr).trans h
end
section
open Go.RowKit Go.Shelf
def iH(l:List VB)(x:VB):Bool:=l.any (fun y=>decide (y=x))
theorem pI(l:List VB)(x:VB):iH l x=true↔x∈l:=by simp[iH,List.any_eq_true]
theorem lS(a b:VB): (a.toList == b.toList)=decide (a=b):=by
 by_cases e:a=b
 . subst e;simp
 . rw[decide_eq_false e,beq_eq_false_iff_ne]
   intro h;rw[ByteArray.toList_eq,ByteArray.toList_eq]at h;exact e (iR h)
theorem qp(s:VB)(l:List UInt8): (s.toList == l)=decide (s= ⟨l.toArray⟩):=by
 rw[<-lS]
 congr 1
 rw[ByteArray.toList_eq]
end
abbrev Fl:=VB×VB
def flC(f:Fl):List VC:= [.string f.1,.string f.2]
theorem iw(f:Fl): (flC f).length=2:=rfl
theorem cZ{B:Nat}{w w':VA}(h:Below B w w'):∀q,Below B w (w'.drewN q)
 | 0=>h
 | q+1=>(cZ h q).drew
theorem Sl.fl{w:VA}{B n k:Nat}{A:OA}{fs:List Fl}(h:Sl w B 2 A n (flat flC fs))(hk:k<n) :
  ∃b off f,A=some ⟨b,off,none⟩/\b<B/\fs[k]? =some f/\w.cell? ⟨b,off+k*2,none⟩=some (.string f.1)/\w.cell? ⟨b,off+k*2+1,none⟩=some (.string f.2):=by
 obtain⟨b,off,x,e,hb,hx,hc⟩:=h.at_ iw (by omega) hk;exact⟨b,off,x,e,hb,hx,hc 0 _ rfl,hc 1 _ rfl⟩
section
open Go.ChangeShapes Go.WideShapes Go.ChangeAt Go.RowKit Go.Joins Go.Deep
theorem qg:Tryz.prog.cellsOf 9=1:=by kernel_rfl
theorem uy:Tryz.prog.cellsOf 82=2:=by kernel_rfl
theorem Q4:Tryz.prog.cellsOf 63=1:=by kernel_rfl
theorem F7{α:Type}{p:Nat->α->Prop}:∀(n:Nat),(∀i,i<n->∃x,p i x)->∃xs:List α,xs.length=n/\∀i x,xs[i]? =some x->p i x
 | 0,_=>⟨[],rfl,fun i x h=>by simp at h⟩
 | n+1,h=>by
   obtain⟨xs,hl,hp⟩:=F7 n (fun i hi=>h i (by omega));obtain⟨y,hy⟩:=h n (by omega);refine⟨xs++ [y],by simp[hl],fun i x hx=>?_⟩;rcases Nat.lt_or_ge i xs.length with hi | hi
   . rw[List.getElem?_append_left hi]at hx;exact hp i x hx
   . rw[List.getElem?_append_right hi]at hx
     have:i - xs.length=0:=by
      rcases Nat.eq_zero_or_pos (i - xs.length) with h0 | h0
      . exact h0
      . rw[List.getElem?_eq_none (by simp;omega)]at hx;cases hx
     rw[this]at hx;simp at hx;subst hx;have:i=n:=by omega
     rw[this];exact hy
theorem qX{α:Type}{l:List α}(h:l.length=2):∃a b,l= [a,b]:=by
 match l,h with
 | [a,b],_=>exact⟨a,b,rfl⟩
theorem ve{α:Type}{l:List α}(h:l.length=3):∃a b c,l= [a,b,c]:=by
 match l,h with
 | [a,b,c],_=>exact⟨a,b,c,rfl⟩
section
variable {H : Type} {enc : TypeId × VC -> H} {P : Program} {w : VA} {base : Nat} {spare : Nat -> Bool} {held : Bool} {fuel : Nat} {cs : List VC} {x : DataW H × List MemPlace}
theorem nH{α:Type}{t e:TypeId}{s:Nat}{encA:α->List VC}{Q:α->Prop}(ht:P.underlying t=some (.slice e))(hC:P.cellsOf e=s)(h0:0<s)(hl:∀a,(encA a).length=s)
  (hel:∀(fuel:Nat)(cs:List VC)(x:DataW H×List MemPlace),DataW.trod enc P w base spare held fuel e cs=some x->∃a,cs=encA a/\Q a)
  (h:DataW.trod enc P w base spare held fuel t cs=some x):∃A n c xs,cs= [.slice A n c]/\Sl w w.heap.size s A n (flat encA xs)/\n<=c/\c<=maxLen/\∀a∈xs,Q a:=by
 rcases open_slice ht h with ⟨rfl,_⟩ | ⟨a,len,cap,m,n,D,Pl,rfl,_,hlc,hcm,hm,_,hi⟩
 . exact⟨none,0,0,[],rfl,Sl.nil _ _ _ _,Nat.le_refl _,ZX _,fun a ha=>by cases ha⟩
 . have hlm:len<=m:=by rw[hm];split <;> omega
   obtain⟨xs,hxl,hxs⟩:=F7 (p:=fun i (y:α)=>w.cells? base (a.add (i*s)) s=some (encA y)/\Q y) len (fun i hi'=>by
    obtain⟨cs',hc,ht'⟩:=hi i (by omega);obtain⟨y,rfl,hq⟩:=hel _ _ _ ht';rw[hC]at hc;exact⟨y,hc,hq⟩)
   refine⟨some a,len,cap,xs,rfl,⟨by rw[ig hl,hxl],fun hn=>?_⟩,hlc,hcm,fun y hy=>?_⟩
   . have hcell:∀(k j:Nat)(y:α),xs[k]? =some y->j<s->w.cell? ((a.add (k*s)).add j)= (encA y)[j]? :=fun k j y hy hj=>(World.cells?_some (hxs k y hy).1).2.2 j hj
     have hx0:xs[0]? =some (xs[0]'(by omega)):=Z5 (by omega);have hsome:∃v,w.cell? a=some v:=by
      have:=hcell 0 0 _ hx0 h0;have hg: (encA (xs[0]'(by omega)))[0]? =some ((encA (xs[0]'(by omega)))[0]'(by rw[hl];exact h0)):=Z5 (by rw[hl];exact h0);rw[hg]at this;simp[Addr.add]at this;exact⟨_,this⟩
     obtain⟨v,hv⟩:=hsome;have hsp:=World.cell?_spot hv;obtain⟨b,off,sp⟩:=a;simp only at hsp;subst hsp;refine⟨b,off,rfl,?_,fun j u hu=>?_⟩
     . unfold World.cell? at hv
       simp only at hv;rcases Nat.lt_or_ge b w.heap.size with hb | hb
       . exact hb
       . rw[Array.getElem?_eq_none hb]at hv;cases hv
     . have hj:j<xs.length*s:=by
         have:=(List.getElem?_eq_some_iff.1 hu).1
         rwa[ig hl]at this
       have hk:j / s<xs.length:=Nat.div_lt_of_lt_mul (by rwa[Nat.mul_comm]at hj);have hr:j % s<s:=Nat.mod_lt _ h0;have hy:xs[j / s]? =some (xs[j / s]'hk):=Z5 hk;have e:j / s*s+j % s=j:=by rw[Nat.mul_comm];exact Nat.div_add_mod j s
       have h1:=iJ hl xs (j / s) (j % s) _ hy hr;rw[e,hu]at h1;have h2:=hcell (j / s) (j % s) _ hy hr;rw[<-h1,Go.Deep.add_add,e]at h2;rw[<-h2]
       congr 1
       unfold Addr.add;split
       . rename_i hz;subst hz;rfl
       . rfl
   . obtain⟨i,hi',rfl⟩:=List.getElem_of_mem hy
     exact(hxs i _ (Z5 hi')).2
theorem EF{t s:TypeId}{f0 f1:Field}(ht:P.underlying t=some (.struct #[f0,f1]))(o0:f0.offset=0)(o1:f1.offset=1)(t0:f0.type=s)(t1:f1.type=s)(hs:P.underlying s=some .string)
  (hC:P.cellsOf t=2) (hcs:P.cellsOf s=1) (h:DataW.trod enc P w base spare held fuel t cs=some x):∃f:Fl,cs=flC f/\f.1.size<=maxLen/\f.2.size<=maxLen:=by
 obtain⟨xs,m,_,_,hlen,hxl,hf⟩:=DataW.trod_struct ht h;rw[hC]at hlen;obtain⟨c0,c1,rfl⟩:=qX hlen;obtain⟨y0,y1,rfl⟩:=qX hxl;have h0:=hf 0 f0 rfl;have h1:=hf 1 f1 rfl;rw[o0,t0,hcs]at h0;rw[o1,t1,hcs]at h1;simp at h0 h1;obtain⟨a,ha,_,hz⟩:=DataW.trod_string hs h0;obtain⟨b,hb,_,hz2⟩:=DataW.trod_string hs h1;simp at ha hb;exact⟨(a,b),by rw[ha,hb];rfl,hz,hz2⟩
end
section
variable {H : Type} {enc : TypeId × VC -> H} {W : VA} {base : Nat} {v : VC} {d : DataW H} {p : List MemPlace} {r : Reach} {b0 : Nat} {sp : Nat -> Bool} {held : Bool}
theorem open_str(hv:Value.okWide Tryz.prog W r b0 9 v)(h:DataW.Trod enc Tryz.prog W base sp held 9 v d p):∃s:VB,v= .string s/\s.size<=maxLen:=by
 obtain⟨s,rfl⟩:=okWide_string Tryz.underlying9 hv;obtain⟨fuel,hf⟩:=h;obtain⟨s',he,_,hz⟩:=DataW.trod_string Tryz.underlying9 hf;have e1: [Value.string s]= [Value.string s']:=he;simp at e1;exact⟨s,rfl,by rw[e1];exact hz⟩
theorem open_files(hv:Value.okWide Tryz.prog W r b0 63 v)(h:DataW.Trod enc Tryz.prog W base sp held 63 v d p):∃A n c fs,v= .slice A n c/\Sl W W.heap.size 2 A n (flat flC fs)/\n<=c/\c<=maxLen/\∀f∈fs,f.1.size<=maxLen/\f.2.size<=maxLen:=by
 obtain⟨A,n,c,rfl⟩:=okWide_slice Tryz.underlying63 hv;obtain⟨fuel,hf⟩:=h;obtain⟨A',n',c',us,he,h1,h2,h3,h4⟩:=nH (encA:=flC) (Q:=fun f=>f.1.size<=maxLen/\f.2.size<=maxLen) Tryz.underlying63 uy (by omega) iw (fun _ _ _ hh=>EF Tryz.underlying82 rfl rfl rfl rfl Tryz.underlying9 uy qg hh) hf;refine⟨A',n',c',us,?_,h1,h2,h3,h4⟩;have: [Value.slice A n c]= [Value.slice A' n' c']:=he
 simpa using this
end
end
section
open Go.ChangeShapes Go.WideShapes Go.ChangeAt Go.RowKit Go.Joins Go.Deep
theorem own:ownKnob Tryz.prog.godebug=none:=by kernel_rfl
theorem laidOut:laidOutB Tryz.prog=true:=by kernel_rfl
section
variable {H : Type} {enc : TypeId × VC -> H} {W : VA} {v : VC} {d : DataW H} {p : List MemPlace} {sp : Nat -> Bool}
theorem keep{W':VA}{t:TypeId}(hr:Tryz.prog.readableRec t=true)(hrow:t<Tryz.prog.types.size)(h:DataW.Trod enc Tryz.prog W 0 (fun _=>true) true t v d p)(hb:VE W W')(hlt:∀x∈p,x.block<W.heap.size)(hsp:∀x∈p,sp x.block=true) :
  DataW.Trod enc Tryz.prog W' 0 sp true t v d p :=
 WideElems.Trod_stays laidOut hr hrow h (fun x hx=>hb.same (hlt x hx)) hsp
end
theorem post_below{H:Type}{enc:TypeId×VC->H}{P:Program}{f:Func}{s:ChangeSpec}{apart fresh handsOn again:Bool}{W W':VA}{args:Array VC}{v:VC}{ds gs:List (DataW H)}{before pa pv:List MemPlace}
  (hW:DataW.Whole enc P f.params.toList s.vars apart W args.toList ds gs before)
  (hres:∀(b:Nat)(sp:Nat->Bool)(hd:Bool),DataW.TrodAll enc P W' b sp hd f.resultTypes.toList (v.resultList f.resultTypes.size) (s.fn H (ds++gs)).results [])
  (hargs:∀sp:Nat->Bool,(∀p∈before,sp p.block=true)->DataW.TrodAll enc P W' 0 sp true f.params.toList args.toList (s.fn H (ds++gs)).args pa)
  (hvars:∀sp:Nat->Bool,(∀p∈before,sp p.block=true)->DataW.TrodVars enc P W' sp s.vars (s.fn H (ds++gs)).vars pv)
  (hps:before=pa++pv) (hb:VE W W')
  (hok:∀(j:Nat)(t:TypeId)(r:VC),f.resultTypes[j]? =some t-> (v.resultList f.resultTypes.size)[j]? =some r->Value.okWide P W' .any 0 t r) :
  s.post enc P f apart fresh handsOn again W args v W':=by
 have hlt:∀p∈before,p.block<W.heap.size:=fun p hp=>hW.lt p hp;have hold:∀p∈before,(fun b=>decide (b<W.heap.size)) p.block=true:=fun p hp=>by simpa using hlt p hp
 refine⟨ds,gs,before,[],pa,pv,hW,hres _ _ _,hargs _ hold,hvars _ hold,World.keptBut_mono (fun p hp=>⟨hp,?_⟩) (hb.frame (· ∈before)),fun _=>?_⟩
 . rw[hps,List.mem_append]at hp
   exact Or.inr hp
 . obtain⟨_,_,_,_,_,hz,hn⟩:=hW
   refine⟨hok,_,_,([]++pa)++pv,⟨[]++pa,pv,trodAll_append (hargs _ (fun _ _=>rfl)) (hres _ _ _),hvars _ (fun _ _=>rfl),rfl,?_,?_⟩,?_⟩
   . intro b off hp
     have hin:MemPlace.cell b off∈before:=by rw[hps];simpa using hp
     rw[hb.frozen (hlt _ hin)];exact hz b off hin
   . intro ha
     have:=hn ha;rw[hps]at this
     simpa using this
   . intro p hp _
     rw[hps]
     simpa using hp
noncomputable def laidWorld(os:Os):VA :=
 let w0:=World.holding Tryz.prog os ⟨#[],#[],[]⟩
 let put (h:Array Obj) (g:Nat) (cs:Array VC):Array Obj:=h.modify g fun
  | .cells _ t frozen=> .cells cs t frozen
  | o=>o
 let h1:=put w0.heap 1 (Go.Pinned.utf8FirstZ.map fun(z:Nat)=>Value.int .u8 (z:Int)).toArray
 let h2:=put h1 2 (([128,191,160,191,128,159,144,191,128,143].map fun(z:Int)=>Value.int .u8 z)++List.replicate 22 (Value.int .u8 0)).toArray
 {w0 with heap:=h2}
theorem laid_met (os : Os) (args : Array Value) : laidMet Tryz.prog [("unicode/utf8.acceptRanges", Rows.laid_unicode_utf8_acceptRanges), ("unicode/utf8.first", Rows.laid_unicode_utf8_first)] ((laidWorld os).forCall (fun _ _ => 0) ⟨#[], args, []⟩).memory :=
 (LaidIn.of_run (l := [("unicode/utf8.acceptRanges", Rows.laid_unicode_utf8_acceptRanges), ("unicode/utf8.first", Rows.laid_unicode_utf8_first)]) [2, 1] 8 (by kernel_rfl) (by kernel_rfl) (by kernel_rfl) (by kernel_rfl)).met
end
