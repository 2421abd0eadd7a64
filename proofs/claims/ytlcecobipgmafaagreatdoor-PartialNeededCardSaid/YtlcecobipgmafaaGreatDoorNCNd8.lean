/-
  Lemmas of the card.
-/
import Derived.Test.YtlcecobipgmafaaGreatDoorNCNd7
import Derived.Test.YtlcecobipgmafaaGreatDoorNCNd4
import Derived.Test.YtlcecobipgmafaaGreatDoorNCNd2
import Derived.Test.YtlcecobipgmafaaGreatDoorNCNd3
set_option maxRecDepth 100000
set_option maxHeartbeats 8000000
namespace Go.Proofs.YtlcecobipgmafaaGreatDoor
open Go.RowKit
def yt (p : List Itm) (l : List Fl) (w : World) (e : Ending) (w' : World) : Prop :=
 ((∃ z, TckR l z /\ z ≠ 0 /\ e = .returned (.tuple #[.slice none 0 0, az zD, .int .i64 z])) ∨
  (TckR l 0 /\ ((∃ q d A c, sto 101 p l = some (q, d) /\ kr p q d l /\ e = .returned (.tuple #[.slice A q.length c, az d, .int .i64 0]) /\ Sl w' w'.heap.size 3 A q.length (flat itC q) /\ q.length <= c /\ c <= maxLen) ∨ (sto 101 p l = none /\ e = .returned (.tuple #[.slice none 0 0, az zD, .int .i64 16]))))) /\ Below w.heap.size w w'
theorem FZ {l : List Fl} (h : OkL l) : wt l <= 20200 := by
 have h1 := FV (l := l) (k := 100) (fun f hf => kX (h.path f hf)); have h2 := h.few; have : (100 + 1) * l.length <= 101 * 200 := Nat.mul_le_mul_left 101 h2; omega
theorem Af (A : OA) (n c B : Nat) (p : List Itm) (A1 : OA) (m c1 : Nat) (l : List Fl) (w : World) (h0 : Sl w B 3 A n (flat itC p)) (h1 : Sl w B 2 A1 m (flat flC l)) (hB : B <= w.heap.size) (hnc : n <= c) (hcm : c <= maxLen) (hn : n <= 700000) (hm : m <= 1000000) (hp : PlOk p) (hsz : ∀ f ∈ l, f.1.size <= 1000000 /\ f.2.size <= 60000) :
  Calls Tryz.prog 46 #[.slice A n c, .slice A1 m c1] w (yt p l w) := by
 have HP := ah hp; have H0 := ah h0; have H1 := ah h1; have HSZ := ah hsz; have HNC := ah hnc; have HCM := ah hcm; obtain ⟨W, hW⟩ : ∃ W, w.alloc (.cells #[.int .u64 0, .int .u64 0] 42) = W := ⟨_, rfl⟩
 have HB0 : Hid (Below w.heap.size w W) := by rw [<- hW]; exact (Below.refl _ w).alloc ai _
 have HD : Hid (Bk W w.heap.size 42 #[.int .u64 0, .int .u64 0]) := by rw [<- hW]; exact Bk.new w _ _
 have HC := ah (Aw A1 m c1 B l W (h1.below HB0.out hB) (Nat.le_trans hB HB0.out.size) hm hsz); have HW := ah hW; have zW : w.heap.size < W.heap.size := HD.out.lt; clear hp h0 h1 hsz hnc hcm hW
 go_enter Tryz.func46, Tryz.ntmps46
 go_wp2_with fail; rw [HW.out]; refine HC.out.mono ?_; rintro e w2 ⟨z, rfl, hz, hb⟩; have HZ := ah hz; have HB2 : Hid (Below w.heap.size w w2) := HB0.out.trans (hb.mono HB0.out.size); have HD2 := ah (HD.out.below hb zW); obtain ⟨y0, y1, _, _⟩ := HD2.out.two; have g0 := HD2.out.free 0; have g1 := HD2.out.free 1; have z2 := hb.size; clear hz hb HC; by_cases h0 : z = 0
 . have t1 : (z != 0) = false := by rw [h0]; rfl
   have HZ0 : Hid (TckR l 0) := by show TckR l 0; rw [<- h0]; exact HZ.out
   obtain ⟨hok, _⟩ := FY HZ0.out (fun f hf => (HSZ.out f hf).2); have hwt := FZ hok; have HS := ah (BN 100 l hok (fun f hf => kX (hok.path f hf)) p A n c A1 m c1 B w2 (H0.out.below HB2.out hB) (H1.out.below HB2.out hB) (Nat.le_trans hB HB2.out.size) HNC.out HCM.out HP.out (by omega)); unfold qP at HS; simp only [az] at HS; clear h0 hok hwt; go_wp2_with fail; refine HS.out.mono ?_; rintro e w3 ⟨hq, hb⟩; have HB3 : Hid (Below w.heap.size w w3) := HB2.out.trans (hb.mono HB2.out.size); have HD3 := ah (HD2.out.below hb (by omega)); obtain ⟨y0, y1, _, _⟩ := HD3.out.two; have g0 := HD3.out.free 0; have g1 := HD3.out.free 1; clear hb HS; rcases hq with ⟨q, ⟨d1, d2⟩, A2, c2, hs, hr, rfl, hsl, hc2, hm2, _⟩ | ⟨hs, rfl⟩
   . have HN := ah hs; have HR := ah hr; have HSL := ah hsl
     have HNE := ah (HSL.out.dgbox HD3.out); clear hs hr hsl; go_wp2_with fail; refine bodyPost_ret (fK Tryz.results46 rfl rfl (HD3.out.set2 _ _) rfl) rfl ⟨.inr ⟨HZ0.out, .inl ⟨q, (d1, d2), A2, c2, HN.out, HR.out, rfl, ?_, hc2, hm2⟩⟩, di HB3.out ai _ _⟩; have := HSL.out.ne (b := w.heap.size) HNE.out (fun k hk => (Below.heap_setCell (w3.setCell ⟨w.heap.size, 0, none⟩ (.int .u64 d1)) ⟨w.heap.size, 1, none⟩ (.int .u64 d2) k hk).trans (Below.heap_setCell w3 ⟨w.heap.size, 0, none⟩ (.int .u64 d1) k hk))
     simpa using this
   . have HN := ah hs
     clear hs; go_wp2_with fail; refine bodyPost_ret (fK Tryz.results46 rfl rfl (HD3.out.set2 _ _) rfl) rfl ⟨.inr ⟨HZ0.out, .inr ⟨HN.out, rfl⟩⟩, di HB3.out ai _ _⟩
 . have t1 : (z != 0) = true := by rw [bne_iff_ne]; exact h0
   have H0' := ah h0; clear h0; go_wp2_with fail; refine bodyPost_ret (fK Tryz.results46 rfl rfl (HD2.out.set2 _ _) rfl) rfl ⟨.inl ⟨z, HZ.out, H0'.out, rfl⟩, di HB2.out ai _ _⟩
section
variable {a b out : List Itm} {i j : Nat} {x y : Itm}
theorem tK {α : Type} {l : List α} {i : Nat} {x : α} (h : l[i]? = some x) : l.take (i + 1) = l.take i ++ [x] := by
 obtain ⟨h1, h2⟩ := List.getElem?_eq_some_iff.1 h; rw [List.take_add_one, h]; rfl
end
section
variable (p : List Itm) (hs : List Dig) (stop : Dig -> Prop) (dep : Int) (pre : Bytes)
inductive Lv : Nat -> Dig -> Prop
 | head {d : Dig} (h : d ∈ hs) : Lv 0 d
 | par {n : Nat} {d x : Dig} {o : Ob} (h : Lv n d) (g : ay p d = some o) (k : o.kind = 3) (s : ¬ stop d) (m : x ∈ o.pars) : Lv (n + 1) x
def NC (d : Dig) : Prop := ∃ n : Nat, Lv p hs stop n d /\ (dep = 0 ∨ (n : Int) < dep)
def touch (q : Bytes) : Prop := pre <+: q ∨ q <+: pre
inductive Plc : Dig -> Bytes -> Prop
 | root {c : Dig} {o : Ob} (h : NC p hs stop dep c) (g : ay p c = some o) (k : o.kind = 3) : Plc o.tree []
 | sub {d : Dig} {q : Bytes} {o : Ob} {e : Ent} (h : Plc d q) (g : ay p d = some o) (k : o.kind = 2) (m : e ∈ o.ents) (hd : e.dir = true) (t : touch pre (q ++ toL e.nm ++ [47])) : Plc e.dg (q ++ toL e.nm ++ [47])
inductive Nd : Dig -> Int -> Prop
 | com {d : Dig} (h : NC p hs stop dep d) : Nd d 3
 | dir {d : Dig} {q : Bytes} (h : Plc p hs stop dep pre d q) : Nd d 2
 | blob {d : Dig} {q : Bytes} {o : Ob} {e : Ent} (h : Plc p hs stop dep pre d q) (g : ay p d = some o) (k : o.kind = 2) (m : e ∈ o.ents) (hd : e.dir = false) (t : pre <+: q ++ toL e.nm) : Nd e.dg 1
def Need (d : Dig) : Prop := ∃ k, Nd p hs stop dep pre d k
def bZ : Prop := ∃ d k o, Nd p hs stop dep pre d k /\ ay p d = some o /\ o.kind ≠ k
def dY : Prop := ∃ d, Need p hs stop dep pre d /\ ay p d = none
def dZ (d : Dig) : Prop := NC p hs stop dep d /\ ∃ o x, ay p d = some o /\ o.kind = 3 /\ x ∈ o.pars /\ ¬ NC p hs stop dep x
end
def AscD (l : List Dig) : Prop := l.Pairwise ltD
theorem AscD.ext : ∀ {a b : List Dig}, AscD a -> AscD b -> (∀ d, d ∈ a ↔ d ∈ b) -> a = b
 | [], [], _, _, _ => rfl
 | [], y :: b, _, _, h => by have := (h y).2 (by simp); simp at this
 | x :: a, [], _, _, h => by have := (h x).1 (by simp); simp at this
 | x :: a, y :: b, ha, hb, h => by
   have ha' := List.pairwise_cons.1 ha; have hb' := List.pairwise_cons.1 hb; have e : x = y := by
    rcases List.mem_cons.1 ((h x).1 (by simp)) with e | hx
    . exact e
    . rcases List.mem_cons.1 ((h y).2 (by simp)) with e | hy
      . exact e.symm
      . exact absurd (fo (hb'.1 x hx) (ha'.1 y hy)) (dQ y)
   subst e; rw [AscD.ext ha'.2 hb'.2 fun d => ?_]; constructor
   . intro hd
     rcases List.mem_cons.1 ((h d).1 (List.mem_cons_of_mem _ hd)) with e | hd'
     . subst e; exact absurd (ha'.1 d hd) (dQ d)
     . exact hd'
   . intro hd
     rcases List.mem_cons.1 ((h d).2 (List.mem_cons_of_mem _ hd)) with e | hd'
     . subst e; exact absurd (hb'.1 d hd) (dQ d)
     . exact hd'
/-! ### growing -/
section
variable {p p' : List Itm} {hs : List Dig} {stop stop' : Dig -> Prop} {dep dep' : Int} {pre pre' : Bytes}
theorem Lv.mono (hp : ∀ d o, ay p d = some o -> ay p' d = some o) (hst : ∀ d, stop' d -> stop d) : ∀ {n : Nat} {d : Dig}, Lv p hs stop n d -> Lv p' hs stop' n d := by
 intro n d h
 induction h with
 | head h => exact .head h
 | par _ g k s m ih => exact .par ih (hp _ _ g) k (fun h => s (hst _ h)) m
theorem NC.mono (hp : ∀ d o, ay p d = some o -> ay p' d = some o) (hst : ∀ d, stop' d -> stop d) (hd : ∀ n : Nat, (dep = 0 ∨ (n : Int) < dep) -> (dep' = 0 ∨ (n : Int) < dep')) {d : Dig} (h : NC p hs stop dep d) : NC p' hs stop' dep' d := by
 obtain ⟨n, h1, h2⟩ := h; exact ⟨n, h1.mono hp hst, hd n h2⟩
theorem touch.mono (hpre : pre' <+: pre) {q : Bytes} (h : touch pre q) : touch pre' q := by
 rcases h with h | h
 . exact .inl (hpre.trans h)
 . exact List.prefix_or_prefix_of_prefix hpre h
theorem Plc.mono (hp : ∀ d o, ay p d = some o -> ay p' d = some o) (hst : ∀ d, stop' d -> stop d) (hd : ∀ n : Nat, (dep = 0 ∨ (n : Int) < dep) -> (dep' = 0 ∨ (n : Int) < dep')) (hpre : pre' <+: pre) :
  ∀ {d : Dig} {q : Bytes}, Plc p hs stop dep pre d q -> Plc p' hs stop' dep' pre' d q := by
 intro d q h
 induction h with
 | root h g k => exact .root (h.mono hp hst hd) (hp _ _ g) k
 | sub _ g k m hd t ih => exact .sub ih (hp _ _ g) k m hd (t.mono hpre)
theorem Nd.mono (hp : ∀ d o, ay p d = some o -> ay p' d = some o) (hst : ∀ d, stop' d -> stop d) (hd : ∀ n : Nat, (dep = 0 ∨ (n : Int) < dep) -> (dep' = 0 ∨ (n : Int) < dep')) (hpre : pre' <+: pre) {d : Dig} {k : Int}
  (h : Nd p hs stop dep pre d k) : Nd p' hs stop' dep' pre' d k := by
 cases h with
 | com h => exact .com (h.mono hp hst hd)
 | dir h => exact .dir (h.mono hp hst hd hpre)
 | blob h g k m hd' t => exact .blob (h.mono hp hst hd hpre) (hp _ _ g) k m hd' (hpre.trans t)
/-! ### a clone, and a clone without one object -/
theorem Lv.less {x : Dig} (hp : ∀ d o, ay p d = some o -> Need p hs (fun _ => False) dep pre d -> d ≠ x -> ay p' d = some o) (hst : ∀ d, stop' d -> dZ p hs (fun _ => False) dep d) :
  ∀ {n : Nat} {d : Dig}, Lv p hs (fun _ => False) n d -> (dep = 0 ∨ (n : Int) < dep) -> NC p' hs stop' dep x ∨ Lv p' hs stop' n d := by
 intro n d h
 induction h with
 | head h => intro _; exact .inr (.head h)
 | @par n d y o h g k s m ih =>
   intro hn; have hn' : dep = 0 ∨ (n : Int) < dep := by omega
   rcases ih hn' with hx | hd
   . exact .inl hx
   . by_cases e : d = x
     . subst e; exact .inl ⟨n, hd, hn'⟩
     . refine .inr (.par hd (hp _ _ g ⟨3, .com ⟨n, h, hn'⟩⟩ e) k (fun hs' => ?_) m)
       obtain ⟨_, o', y', g', _, m', hy⟩ := hst _ hs'; obtain rfl : o = o' := by rw [g] at g'; cases g'; rfl
       exact hy ⟨n + 1, .par h g k s m', hn⟩
theorem NC.less {x : Dig} (hp : ∀ d o, ay p d = some o -> Need p hs (fun _ => False) dep pre d -> d ≠ x -> ay p' d = some o) (hst : ∀ d, stop' d -> dZ p hs (fun _ => False) dep d) {d : Dig} (h : NC p hs (fun _ => False) dep d) :
  NC p' hs stop' dep x ∨ NC p' hs stop' dep d := by
 obtain ⟨n, h1, h2⟩ := h; rcases h1.less hp hst h2 with h | h
 . exact .inl h
 . exact .inr ⟨n, h, h2⟩
theorem Plc.less {x : Dig} (hp : ∀ d o, ay p d = some o -> Need p hs (fun _ => False) dep pre d -> d ≠ x -> ay p' d = some o) (hst : ∀ d, stop' d -> dZ p hs (fun _ => False) dep d) :
  ∀ {d : Dig} {q : Bytes}, Plc p hs (fun _ => False) dep pre d q -> Need p' hs stop' dep pre x ∨ Plc p' hs stop' dep pre d q := by
 intro d q h
 induction h with
 | @root c o h g k =>
   rcases h.less hp hst with h' | h'
   . exact .inl ⟨3, .com h'⟩
   . by_cases e : c = x
     . subst e; exact .inl ⟨3, .com h'⟩
     . exact .inr (.root h' (hp _ _ g ⟨3, .com h⟩ e) k)
 | @sub d q o e h g k m hd t ih =>
   rcases ih with h' | h'
   . exact .inl h'
   . by_cases e' : d = x
     . subst e'; exact .inl ⟨2, .dir h'⟩
     . exact .inr (.sub h' (hp _ _ g ⟨2, .dir h⟩ e') k m hd t)
theorem Nd.less {x : Dig} (hp : ∀ d o, ay p d = some o -> Need p hs (fun _ => False) dep pre d -> d ≠ x -> ay p' d = some o) (hst : ∀ d, stop' d -> dZ p hs (fun _ => False) dep d) {d : Dig} {k : Int}
  (h : Nd p hs (fun _ => False) dep pre d k) : Need p' hs stop' dep pre x ∨ Nd p' hs stop' dep pre d k := by
 cases h with
 | com h =>
   rcases h.less hp hst with h' | h'
   . exact .inl ⟨3, .com h'⟩
   . exact .inr (.com h')
 | dir h =>
   rcases h.less hp hst with h' | h'
   . exact .inl h'
   . exact .inr (.dir h')
 | @blob d q o e h g k m hd t =>
   rcases h.less hp hst with h' | h'
   . exact .inl h'
   . by_cases e' : d = x
     . subst e'; exact .inl ⟨2, .dir h'⟩
     . exact .inr (.blob h' (hp _ _ g ⟨2, .dir h⟩ e') k m hd t)
theorem Need.less {x : Dig} (hp : ∀ d o, ay p d = some o -> Need p hs (fun _ => False) dep pre d -> d ≠ x -> ay p' d = some o) (hst : ∀ d, stop' d -> dZ p hs (fun _ => False) dep d)
  (h : Need p hs (fun _ => False) dep pre x) : Need p' hs stop' dep pre x := by
 obtain ⟨k, h⟩ := h; rcases h.less hp hst with h' | h'
 . exact h'
 . exact ⟨k, h'⟩
end
/-! ### pools that keep some objects -/
def aN (p : List Itm) (l : List Dig) : List Itm := p.filter fun i => decide (i.1 ∈ l)
theorem keepP_mem {p : List Itm} {l : List Dig} {i : Itm} : i ∈ aN p l ↔ i ∈ p /\ i.1 ∈ l := by simp [aN]
theorem PlOk.sub {p q : List Itm} (h : PlOk p) (hs : q.Sublist p) : PlOk q := ⟨fun i hi => h.1 i (hs.subset hi), fun i hi => h.2 i (hs.subset hi), h.3.sublist hs⟩
theorem PlOk.keep {p : List Itm} (h : PlOk p) (l : List Dig) : PlOk (aN p l) := h.sub List.filter_sublist
theorem vz {p q : List Itm} (hp : PlOk p) (hq : PlOk q) {d : Dig} (h : ∀ b, (d, b) ∈ p ↔ (d, b) ∈ q) : ay p d = ay q d := by
 cases hg : ay q d with
 | some o =>
   have := (dR hq).1 hg; exact (dR hp).2 ⟨this.1, (h _).2 this.2⟩
 | none =>
   rw [getP_none, jw hq.asc] at hg; rw [getP_none, jw hp.asc]; exact fun b hb => hg b ((h b).1 hb)
theorem BR {p : List Itm} (h : PlOk p) {l : List Dig} {d : Dig} (hd : d ∈ l) : ay (aN p l) d = ay p d :=
 vz (h.keep l) h fun b => by rw [keepP_mem]; exact and_iff_left hd
def aF (_ : Dig) : Prop := False
inductive NdR (eR eL eK : Int) (p : List Itm) (hs : List Dig) (dep : Int) (pre : Bytes) : List Dig -> List Dig -> Int -> Prop
 | range (h : dep < 0) : NdR eR eL eK p hs dep pre [] [] eR
 | limit (h : 0 <= dep) (h' : 100 < pre.length) : NdR eR eL eK p hs dep pre [] [] eL
 | lacks (h : 0 <= dep) (h' : pre.length <= 100) (m : dY p hs aF dep pre) : NdR eR eL eK p hs dep pre [] [] 8
 | wrong (h : 0 <= dep) (h' : pre.length <= 100) (m : ¬ dY p hs aF dep pre) (w : bZ p hs aF dep pre) : NdR eR eL eK p hs dep pre [] [] eK
 | ok {l edge : List Dig} (h : 0 <= dep) (h' : pre.length <= 100) (m : ¬ dY p hs aF dep pre) (w : ¬ bZ p hs aF dep pre) (a : AscD l) (ml : ∀ d, d ∈ l ↔ Need p hs aF dep pre d)
     (b : AscD edge) (me : ∀ d, d ∈ edge ↔ dZ p hs aF dep d) : NdR eR eL eK p hs dep pre l edge 0
section
variable {eR eL eK : Int} {p : List Itm} {hs : List Dig} {dep : Int} {pre : Bytes} {l l' edge edge' : List Dig} {e e' : Int}
theorem NdR.uniq (h : NdR eR eL eK p hs dep pre l edge e) (h' : NdR eR eL eK p hs dep pre l' edge' e') : l = l' /\ edge = edge' /\ e = e' := by
 cases h <;> cases h' <;> first
  | exact ⟨rfl, rfl, rfl⟩
  | (exfalso; omega)
  | (exfalso; rename_i m _ _ _ m'; exact absurd ‹dY p hs aF dep pre› ‹¬ dY p hs aF dep pre›)
  | (exfalso; exact absurd ‹dY p hs aF dep pre› ‹¬ dY p hs aF dep pre›)
  | (exfalso; exact absurd ‹bZ p hs aF dep pre› ‹¬ bZ p hs aF dep pre›)
  | skip
 rename_i h1 h2 m w a ml b me h1' h2' m' w' a' ml' b' me'
 exact ⟨a.ext a' fun d => (ml d).trans (ml' d).symm, b.ext b' fun d => (me d).trans (me' d).symm, rfl⟩
structure NdOk (p : List Itm) (hs : List Dig) (dep : Int) (pre : Bytes) (l edge : List Dig) : Prop where
 h : 0 <= dep
 h' : pre.length <= 100
 m : ¬ dY p hs aF dep pre
 w : ¬ bZ p hs aF dep pre
 a : AscD l
 ml : ∀ d, d ∈ l ↔ Need p hs aF dep pre d
 b : AscD edge
 me : ∀ d, d ∈ edge ↔ dZ p hs aF dep d
theorem NdR.get (hR : eR ≠ 0) (hL : eL ≠ 0) (hK : eK ≠ 0) (h : NdR eR eL eK p hs dep pre l edge 0) : NdOk p hs dep pre l edge := by
 cases h with
 | ok h h' m w a ml b me => exact ⟨h, h', m, w, a, ml, b, me⟩
 | range h => exact absurd rfl hR
 | limit h h' => exact absurd rfl hL
 | wrong h h' m w => exact absurd rfl hK
theorem NdR.none (h : NdR eR eL eK p hs dep pre l edge e) (he : e ≠ 0) : l = [] /\ edge = [] := by
 cases h <;> first | exact ⟨rfl, rfl⟩ | exact absurd rfl he
inductive MsR (eR eL eK : Int) (q : List Itm) (hs : List Dig) (dep : Int) (pre : Bytes) (edge : List Dig) : List Dig -> Int -> Prop
 | range (h : dep < 0) : MsR eR eL eK q hs dep pre edge [] eR
 | limit (h : 0 <= dep) (h' : 100 < pre.length) : MsR eR eL eK q hs dep pre edge [] eL
 | wrong (h : 0 <= dep) (h' : pre.length <= 100) (w : bZ q hs (· ∈ edge) dep pre) : MsR eR eL eK q hs dep pre edge [] eK
 | ok {l : List Dig} (h : 0 <= dep) (h' : pre.length <= 100) (w : ¬ bZ q hs (· ∈ edge) dep pre) (ml : ∀ d, d ∈ l ↔ Need q hs (· ∈ edge) dep pre d /\ ay q d = none) : MsR eR eL eK q hs dep pre edge l 0
section
variable (hp : PlOk p) (N : NdOk p hs dep pre l edge)
include hp N
omit hp in
theorem NdOk.has {d : Dig} (h : Need p hs aF dep pre d) : ∃ o, ay p d = some o := by
 cases hg : ay p d with
 | some o => exact ⟨o, rfl⟩
 | none => exact absurd ⟨d, h, hg⟩ N.m
omit N in
theorem oO {q : List Itm} (hq : subP q (aN p l)) (hqo : PlOk q) {d : Dig} {o : Ob} (h : ay q d = some o) : ay p d = some o :=
 kU hqo hp (fun i hi => (keepP_mem.1 (hq i hi)).1) h
theorem NdOk.right {q : List Itm} {edge' : List Dig} (hq : subP q (aN p l)) (hqo : PlOk q) : ¬ bZ q hs (· ∈ edge') dep pre := by
 rintro ⟨d, k, o, h1, h2, h3⟩; exact N.w ⟨d, k, o, h1.mono (fun d o h => oO hp hq hqo h) (fun d h => h.elim) (fun _ h => h) (List.prefix_refl _), oO hp hq hqo h2, h3⟩
theorem NdOk.whole {lm : List Dig} {f : Int} (M : MsR eR eL eK (aN p l) hs dep pre edge lm f) : f = 0 /\ lm = [] := by
 cases M with
 | range h => have := N.h; omega
 | limit h h' => have := N.h'; omega
 | wrong h h' w => exact absurd w (N.right hp (subP.refl _) (hp.keep l))
 | ok h h' w ml =>
   refine ⟨rfl, List.eq_nil_iff_forall_not_mem.2 fun d hd => ?_⟩; obtain ⟨⟨k, h1⟩, h2⟩ := (ml d).1 hd; have h3 : Need p hs aF dep pre d := ⟨k, h1.mono (fun d o h => oO hp (subP.refl _) (hp.keep l) h) (fun d h => h.elim) (fun _ h => h) (List.prefix_refl _)⟩
   obtain ⟨o, ho⟩ := N.has h3; rw [BR hp ((N.ml d).2 h3), ho] at h2; cases h2
theorem NdOk.less {q : List Itm} {x : Itm} {lm : List Dig} {f : Int} (hqo : PlOk q) (hx : x ∈ aN p l) (hq : ∀ i, i ∈ q ↔ i ∈ aN p l /\ i.1 ≠ x.1) (M : MsR eR eL eK q hs dep pre edge lm f) : f = 0 /\ x.1 ∈ lm := by
 have hsub : subP q (aN p l) := fun i hi => ((hq i).1 hi).1; cases M with
 | range h => have := N.h; omega
 | limit h h' => have := N.h'; omega
 | wrong h h' w => exact absurd w (N.right hp hsub hqo)
 | ok h h' w ml =>
   refine ⟨rfl, (ml x.1).2 ⟨?_, ?_⟩⟩
   . have h3 : Need p hs aF dep pre x.1 := (N.ml _).1 (keepP_mem.1 hx).2
     refine Need.less (p := p) (fun d o hd hn hne => ?_) (fun d hd => (N.me d).1 hd) h3; rw [vz hqo hp (fun b => by rw [hq, keepP_mem]; exact ⟨fun h => h.1.1, fun h => ⟨⟨h, (N.ml d).2 hn⟩, hne⟩⟩)]; exact hd
   . rw [getP_none, jw hqo.asc]
     exact fun b hb => ((hq _).1 hb).2 rfl
end
def GrS (d0 : Int) (p0 : Bytes) (d1 : Int) (p1 : Bytes) : Prop := (d0 = 0 ∨ (0 < d1 /\ d1 <= d0)) /\ p0 <+: p1
theorem Need.grow {d0 d1 : Int} {p0 p1 : Bytes} (G : GrS d0 p0 d1 p1) {d : Dig} (h : Need p hs aF d1 p1 d) : Need p hs aF d0 p0 d := by
 obtain ⟨k, h⟩ := h; refine ⟨k, h.mono (fun _ _ h => h) (fun _ h => h) (fun n hn => ?_) G.2⟩; have := G.1; omega
def dX (o : Ob) : List Dig := o.ents.map Ent.dg ++ if o.kind = 3 then o.tree :: o.pars else []
end
def tSX : ByteArray := ⟨#[115, 114, 99, 47, 120]⟩
def tS : ByteArray := ⟨#[115, 114, 99]⟩
def tX : ByteArray := ⟨#[120]⟩
def tY : ByteArray := ⟨#[121]⟩
def t1 : ByteArray := ⟨#[49]⟩
def t2 : ByteArray := ⟨#[50]⟩
def tA : ByteArray := ⟨#[97]⟩
def tB : ByteArray := ⟨#[98]⟩
def tC : ByteArray := ⟨#[99]⟩
def exL : List Fl := [(tSX, t1), (tY, t2)]
theorem lN (s : ByteArray) (h : s.size < 128) : au (toL s) = UInt8.ofNat s.size :: toL s := by
 unfold au; have : (toL s).length = s.size := by simp [toL]
 rw [this, bM h]; rfl
theorem iG (s : ByteArray) (h : s.size < 128) : aB (bP s) = 1 :: UInt8.ofNat s.size :: toL s := by
 show aj 1 ++ au (toL s) = _; rw [bM (by omega), lN s h]; rfl
theorem pX (e : Ent) (h : e.nm.size < 128) : aH e = UInt8.ofNat e.nm.size :: toL e.nm ++ (if e.dir = true then 1 else 0) :: ak e.dg := by
 unfold aH; rw [lN _ h]; cases e.dir <;> rw [bM (by simp)] <;> simp
theorem uz (es : List Ent) (h : es.length < 128) : aB (bI es) = 2 :: UInt8.ofNat es.length :: es.flatMap aH := by
 show aj 2 ++ (aj es.length ++ es.flatMap aH) = _; rw [bM (n := 2) (by omega), bM h]; rfl
def gM (t : Dig) (ps : List Dig) (a : ByteArray) : Ob := ⟨3, ⟨#[]⟩, [], t, ps, a, 0, ⟨#[]⟩⟩
theorem nZ (t : Dig) (ps : List Dig) (a : ByteArray) (h : ps.length < 128) (h' : a.size < 128) : aB (gM t ps a) = 3 :: (ak t ++ (UInt8.ofNat ps.length :: (ps.flatMap ak ++ (UInt8.ofNat a.size :: (toL a ++ [0, 0]))))) := by
 show aj 3 ++ (ak t ++ (aj ps.length ++ (ps.flatMap ak ++ (au (toL a) ++ (aj 0 ++ au (toL ⟨#[]⟩)))))) = _; rw [bM (n := 3) (by omega), bM h, lN a h', lN ⟨#[]⟩ (by decide), bM (n := 0) (by omega)]; rfl
def yB1 : Itm := (ofB [1, 1, 49], ofL [1, 1, 49])
def yB2 : Itm := (ofB [1, 1, 50], ofL [1, 1, 50])
def cT : Bytes := [2, 1, 1, 120, 0] ++ ak (ofB [1, 1, 49])
def yT : Itm := (ofB cT, ofL cT)
def cR : Bytes := [2, 2, 3, 115, 114, 99, 1] ++ ak (ofB cT) ++ [1, 121, 0] ++ ak (ofB [1, 1, 50])
def yR : Itm := (ofB cR, ofL cR)
def cA : Bytes := 3 :: (ak (ofB cR) ++ [0, 1, 97, 0, 0])
def yA : Itm := (ofB cA, ofL cA)
def cB : Bytes := 3 :: (ak (ofB cR) ++ 1 :: (ak (ofB cA) ++ [1, 98, 0, 0]))
def yB : Itm := (ofB cB, ofL cB)
def cC : Bytes := 3 :: (ak (ofB cR) ++ 1 :: (ak (ofB cB) ++ [1, 99, 0, 0]))
def yC : Itm := (ofB cC, ofL cC)
def r1 : List Itm := (bE [] yB1).getD []
def r2 : List Itm := (bE r1 yT).getD []
def r3 : List Itm := (bE r2 yB2).getD []
def r4 : List Itm := (bE r3 yR).getD []
def r5 : List Itm := (bE r4 yA).getD []
def r6 : List Itm := (bE r5 yB).getD []
def r7 : List Itm := (bE r6 yC).getD []
theorem gT {α : Type} {o : Option (List α)} (h : o.isSome = true) : o = some (o.getD []) := by cases o with | none => cases h | some _ => rfl
theorem j1 : bE [] yB1 = some r1 := gT (by decide +kernel)
theorem j2 : bE r1 yT = some r2 := gT (by decide +kernel)
theorem j3 : bE r2 yB2 = some r3 := gT (by decide +kernel)
theorem j4 : bE r3 yR = some r4 := gT (by decide +kernel)
theorem j5 : bE r4 yA = some r5 := gT (by decide +kernel)
theorem j6 : bE r5 yB = some r6 := gT (by decide +kernel)
theorem j7 : bE r6 yC = some r7 := gT (by decide +kernel)
theorem xG : r4.length = 4 := by decide +kernel
theorem FJ : r5.length = 5 := by decide +kernel
theorem EX : r6.length = 6 := by decide +kernel
theorem EW : r7.length = 7 := by decide +kernel
theorem F4 : bB [] (bP t1) = some r1 := by unfold bB; rw [iG t1 (by decide)]; exact j1
theorem F6 : bB r2 (bP t2) = some r3 := by unfold bB; rw [iG t2 (by decide)]; exact j3
theorem EB : dgO (bP t1) = ofB [1, 1, 49] := by unfold dgO; rw [iG t1 (by decide)]; rfl
theorem EF : dgO (bP t2) = ofB [1, 1, 50] := by unfold dgO; rw [iG t2 (by decide)]; rfl
def oT : Ob := bI [⟨tX, false, ofB [1, 1, 49]⟩]
def oR : Ob := bI [⟨tS, true, ofB cT⟩, ⟨tY, false, ofB [1, 1, 50]⟩]
def oA : Ob := gM (ofB cR) [] tA
def oB : Ob := gM (ofB cR) [ofB cA] tB
def oC : Ob := gM (ofB cR) [ofB cB] tC
theorem qz : aB oT = cT := by
 unfold oT; rw [uz _ (by decide), List.flatMap_cons, List.flatMap_nil, pX _ (by decide)]; rfl
theorem qp : aB oR = cR := by
 unfold oR; rw [uz _ (by decide), List.flatMap_cons, List.flatMap_cons, List.flatMap_nil, pX _ (by decide), pX _ (by decide)]; rfl
theorem qJ : aB oA = cA := by unfold oA; rw [nZ _ _ _ (by decide) (by decide)]; rfl
theorem mI : aB oB = cB := by unfold oB; rw [nZ _ _ _ (by simp) (by decide)]; simp; rfl
theorem mF : aB oC = cC := by unfold oC; rw [nZ _ _ _ (by simp) (by decide)]; simp; rfl
theorem xX : bB r4 oA = some r5 := by unfold bB; rw [qJ]; exact j5
theorem xY : bB r5 oB = some r6 := by unfold bB; rw [mI]; exact j6
theorem xS : bB r6 oC = some r7 := by unfold bB; rw [mF]; exact j7
theorem Gq : aU exL = [tS, tY] := by decide +kernel
theorem Gv : aU [(tX, t1)] = [tX] := by decide +kernel
theorem Gu : inD exL tS = [(tX, t1)] := by decide +kernel
theorem Cf (k : Nat) : sto (k + 1) [] [(tX, t1)] = some (r2, ofB cT) := by
 rw [sto, Gv, kW (s := t1) (by decide +kernel) F4, bQ, List.nil_append, EB]; simp only; have : bB r1 (bI [⟨tX, false, ofB [1, 1, 49]⟩]) = some r2 := by unfold bB; rw [show aB (bI [⟨tX, false, ofB [1, 1, 49]⟩]) = cT from qz]; exact j2
 rw [this]; simp only [dgO, show aB (bI [⟨tX, false, ofB [1, 1, 49]⟩]) = cT from qz]
theorem pF : sto 101 [] exL = some (r4, ofB cR) := by
 rw [sto, Gq, oF (by decide +kernel) (by rw [Gu]; exact Cf 99), kW (s := t2) (by decide +kernel) F6, bQ, List.nil_append, EF]; simp only [List.cons_append, List.nil_append]; have : bB r3 (bI [⟨tS, true, ofB cT⟩, ⟨tY, false, ofB [1, 1, 50]⟩]) = some r4 := by unfold bB; rw [show aB (bI [⟨tS, true, ofB cT⟩, ⟨tY, false, ofB [1, 1, 50]⟩]) = cR from qp]; exact j4
 rw [this]; simp only [dgO, show aB (bI [⟨tS, true, ofB cT⟩, ⟨tY, false, ofB [1, 1, 50]⟩]) = cR from qp]
section
attribute [local irreducible] ofB ak cA cB cC cR cT ofL
theorem xN : AscF exL := by unfold AscF; decide +kernel
theorem xokAw : OkL exL where
 path := by decide +kernel
 data := by decide +kernel
 few := by decide
 nod := uB xN
 nob := by decide +kernel
theorem F8 : TckR exL 0 := Ep xokAw xN
theorem xpl4 : PlOk r4 := (Ev 101 [] exL r4 (ofB cR) xokAw PlOk.nil pF).2.1
theorem yh : OkO oA where
 f := .commit rfl rfl rfl ⟨dL _, eF _, ⟨by decide, (fun d h => by cases h), (fun d h => by cases h), List.nodup_nil⟩, by decide +kernel, by decide, by decide, by decide⟩
 len := by rw [qJ]; decide +kernel
theorem qY : OkO oB where
 f := .commit rfl rfl rfl ⟨dL _, eF _, ⟨by decide, (fun d h => by rw [List.mem_singleton.1 h]; exact dL _), (fun d h => by rw [List.mem_singleton.1 h]; exact eF _), by simp [oB, gM]⟩, by decide +kernel, by decide, by decide, by decide⟩
 len := by rw [mI]; decide +kernel
theorem qM : OkO oC where
 f := .commit rfl rfl rfl ⟨dL _, eF _, ⟨by decide, (fun d h => by rw [List.mem_singleton.1 h]; exact dL _), (fun d h => by rw [List.mem_singleton.1 h]; exact eF _), by simp [oC, gM]⟩, by decide +kernel, by decide, by decide, by decide⟩
 len := by rw [mF]; decide +kernel
theorem xpl5 : PlOk r5 := gB xpl4 yh xX
theorem xpl6 : PlOk r6 := gB xpl5 qY xY
theorem qK : PlOk r7 := gB xpl6 qM xS
theorem qG : AscI r1 := lJ PlOk.nil.asc j1
theorem mH : AscI r2 := lJ qG j2
theorem mG : AscI r3 := lJ mH j3
theorem mV {i : Itm} (h : i ∈ r4) : i ∈ r7 := (bX xpl6.asc j7 _).2 (.inl ((bX xpl5.asc j6 _).2 (.inl ((bX xpl4.asc j5 _).2 (.inl h)))))
theorem Gi : yB ∈ r7 := (bX xpl6.asc j7 _).2 (.inl ((bX xpl5.asc j6 _).2 (.inr rfl)))
theorem Gn : yC ∈ r7 := (bX xpl6.asc j7 _).2 (.inr rfl)
theorem Gz : yR ∈ r7 := mV ((bX mG j4 _).2 (.inr rfl))
theorem GG : yB2 ∈ r7 := mV ((bX mG j4 _).2 (.inl ((bX mH j3 _).2 (.inr rfl))))
theorem GA : yT ∈ r7 := mV ((bX mG j4 _).2 (.inl ((bX mH j3 _).2 (.inl ((bX qG j2 _).2 (.inr rfl))))))
theorem F5 : yB1 ∈ r7 := mV ((bX mG j4 _).2 (.inl ((bX mH j3 _).2 (.inl ((bX qG j2 _).2 (.inl ((bX PlOk.nil.asc j1 _).2 (.inr rfl))))))))
theorem iX {d : Dig} {b : Bytes} {o : Ob} (ho : OkO o) (e : aB o = b) (h : (d, ofL b) ∈ r7) : ay r7 d = some o := (dR qK).2 ⟨ho, by rw [e]; exact h⟩
theorem xgB : ay r7 (ofB cB) = some oB := iX qY mI Gi
theorem xgC : ay r7 (ofB cC) = some oC := iX qM mF Gn
theorem xZ {es : List Ent} (h1 : es.length <= 200) (h2 : ∀ e ∈ es, dM e) (h3 : ∀ (j : Nat) a b, es[j]? = some a -> es[j + 1]? = some b -> less a.nm b.nm = true) : OkO (bI es) := kL ⟨h1, h2, h3⟩
theorem Gg : OkO oT := xZ (by decide) (fun e h => by rw [List.mem_singleton.1 h]; exact ⟨by decide +kernel, dL _, eF _⟩) (fun j a b h1 h2 => by simp at h2)
theorem Gw : OkO oR := xZ (by decide) (fun e h => by
  rcases List.mem_cons.1 h with rfl | h
  . exact ⟨by decide +kernel, dL _, eF _⟩
  . rw [List.mem_singleton.1 h]; exact ⟨by decide +kernel, dL _, eF _⟩) (fun j a b h1 h2 => by
  match j, h1, h2 with
  | 0, h1, h2 => simp at h1 h2; subst h1; subst h2; decide +kernel
  | j + 1, h1, h2 => simp at h2)
theorem xgT : ay r7 (ofB cT) = some oT := iX Gg qz GA
theorem xgR : ay r7 (ofB cR) = some oR := iX Gw qp Gz
theorem xg1 : ay r7 (ofB [1, 1, 49]) = some (bP t1) := iX (jB (by decide)) (iG t1 (by decide)) F5
theorem xg2 : ay r7 (ofB [1, 1, 50]) = some (bP t2) := iX (jB (by decide)) (iG t2 (by decide)) GG
/-! ### depth 2 -/
def mE : Bytes := [115, 114, 99, 47]
theorem qX {d : Dig} (h : Lv r7 [ofB cC] aF 0 d) : d = ofB cC := by
 cases h with
 | head h => exact List.mem_singleton.1 h
theorem Gr {d : Dig} (h : Lv r7 [ofB cC] aF 1 d) : d = ofB cB := by
 cases h with
 | par h g k s m =>
   rw [qX h, xgC] at g; injection g with g; subst g; exact List.mem_singleton.1 m
theorem xnc2 {d : Dig} : NC r7 [ofB cC] aF 2 d ↔ d = ofB cC ∨ d = ofB cB := by
 constructor
 . rintro ⟨n, h, h2⟩
   match n, h, h2 with
   | 0, h, _ => exact .inl (qX h)
   | 1, h, _ => exact .inr (Gr h)
   | n + 2, _, h2 => omega
 . rintro (rfl | rfl)
   . exact ⟨0, .head (List.mem_singleton.2 rfl), .inr (by decide)⟩
   . exact ⟨1, .par (.head (List.mem_singleton.2 rfl)) xgC rfl (fun h => h) (List.mem_singleton.2 rfl), .inr (by decide)⟩
theorem xnc1 {d : Dig} : NC r7 [ofB cC] aF 1 d ↔ d = ofB cC := by
 constructor
 . rintro ⟨n, h, h2⟩
   match n, h, h2 with
   | 0, h, _ => exact qX h
   | n + 1, _, h2 => omega
 . rintro rfl
   exact ⟨0, .head (List.mem_singleton.2 rfl), .inr (by decide)⟩
theorem yl {dep : Int} {pre : Bytes} (hc : ∀ d, NC r7 [ofB cC] aF dep d -> d = ofB cC ∨ d = ofB cB) {d : Dig} {q : Bytes} (h : Plc r7 [ofB cC] aF dep pre d q) : (d = ofB cR /\ q = []) ∨ (d = ofB cT /\ q = mE) := by
 induction h with
 | root h g k =>
   rcases hc _ h with rfl | rfl
   . rw [xgC] at g; injection g with g; subst g; exact .inl ⟨rfl, rfl⟩
   . rw [xgB] at g; injection g with g; subst g; exact .inl ⟨rfl, rfl⟩
 | sub h g k m hd t ih =>
   rcases ih with ⟨rfl, rfl⟩ | ⟨rfl, rfl⟩
   . rw [xgR] at g; injection g with g; subst g
     rcases List.mem_cons.1 m with rfl | m
     . exact .inr ⟨rfl, rfl⟩
     . rw [List.mem_singleton.1 m] at hd; cases hd
   . rw [xgT] at g; injection g with g; subst g
     rw [List.mem_singleton.1 m] at hd; cases hd
theorem mU {dep : Int} {pre : Bytes} (hc : NC r7 [ofB cC] aF dep (ofB cC)) : Plc r7 [ofB cC] aF dep pre (ofB cR) [] := .root hc xgC rfl
theorem mQ {dep : Int} {pre : Bytes} (hc : NC r7 [ofB cC] aF dep (ofB cC)) (ht : touch pre mE) : Plc r7 [ofB cC] aF dep pre (ofB cT) mE := .sub (e := ⟨tS, true, ofB cT⟩) (mU hc) xgR rfl (List.mem_cons_self) rfl ht
theorem xnd {dep : Int} {pre : Bytes} (hc : ∀ d, NC r7 [ofB cC] aF dep d -> d = ofB cC ∨ d = ofB cB) {d : Dig} {k : Int} (h : Nd r7 [ofB cC] aF dep pre d k) :
  (NC r7 [ofB cC] aF dep d /\ k = 3) ∨ (d = ofB cR /\ k = 2) ∨ (d = ofB cT /\ k = 2) ∨ (d = ofB [1, 1, 50] /\ k = 1 /\ pre <+: toL tY) ∨ (d = ofB [1, 1, 49] /\ k = 1) := by
 cases h with
 | com h => exact .inl ⟨h, rfl⟩
 | dir h =>
   rcases yl hc h with ⟨rfl, _⟩ | ⟨rfl, _⟩
   . exact .inr (.inl ⟨rfl, rfl⟩)
   . exact .inr (.inr (.inl ⟨rfl, rfl⟩))
 | blob h g k m hd t =>
   rcases yl hc h with ⟨rfl, rfl⟩ | ⟨rfl, rfl⟩
   . rw [xgR] at g; injection g with g; subst g
     rcases List.mem_cons.1 m with rfl | m
     . cases hd
     . rw [List.mem_singleton.1 m] at t ⊢; exact .inr (.inr (.inr (.inl ⟨rfl, rfl, t⟩)))
   . rw [xgT] at g; injection g with g; subst g
     rw [List.mem_singleton.1 m]; exact .inr (.inr (.inr (.inr ⟨rfl, rfl⟩)))
theorem xV {dep : Int} {pre : Bytes} (hc : ∀ d, NC r7 [ofB cC] aF dep d -> d = ofB cC ∨ d = ofB cB) {d : Dig} {k : Int} (h : Nd r7 [ofB cC] aF dep pre d k) : ∃ o, ay r7 d = some o /\ o.kind = k := by
 rcases xnd hc h with ⟨h3, rfl⟩ | ⟨rfl, rfl⟩ | ⟨rfl, rfl⟩ | ⟨rfl, rfl, _⟩ | ⟨rfl, rfl⟩
 . rcases hc _ h3 with rfl | rfl
   . exact ⟨_, xgC, rfl⟩
   . exact ⟨_, xgB, rfl⟩
 . exact ⟨_, xgR, rfl⟩
 . exact ⟨_, xgT, rfl⟩
 . exact ⟨_, xg2, rfl⟩
 . exact ⟨_, xg1, rfl⟩
theorem xok {dep : Int} {pre : Bytes} (hd : 0 <= dep) (hp : pre.length <= 100) (hc : ∀ d, NC r7 [ofB cC] aF dep d -> d = ofB cC ∨ d = ofB cB) {l edge : List Dig} {z : Int} (h : NdR 2 4 9 r7 [ofB cC] dep pre l edge z) :
  z = 0 /\ NdOk r7 [ofB cC] dep pre l edge := by
 have hL : ¬ dY r7 [ofB cC] aF dep pre := by
  rintro ⟨d, ⟨k, hn⟩, hg⟩; obtain ⟨o, ho, _⟩ := xV hc hn; rw [hg] at ho; cases ho
 have hW : ¬ bZ r7 [ofB cC] aF dep pre := by
  rintro ⟨d, k, o, hn, hg, hk⟩; obtain ⟨o', ho, hk'⟩ := xV hc hn; rw [hg] at ho; injection ho with ho; subst ho; exact hk hk'
 cases h with
 | range h => omega
 | limit _ h => omega
 | lacks _ _ m => exact absurd m hL
 | wrong _ _ _ w => exact absurd w hW
 | ok h h' m w a ml b me => exact ⟨rfl, h, h', m, w, a, ml, b, me⟩
def xW : List Dig := [ofB cC, ofB cB, ofB cR, ofB cT, ofB [1, 1, 50], ofB [1, 1, 49]]
def x9 : List Dig := [ofB cC, ofB cR, ofB cT, ofB [1, 1, 49]]
theorem sw {p : List Itm} {l m : List Dig} (h : ∀ d, d ∈ l ↔ d ∈ m) : aN p l = aN p m := by
 unfold aN; exact List.filter_congr fun i _ => by rw [Bool.eq_iff_iff]; simp [h]
theorem EP {l edge : List Dig} {z : Int} (h : NdR 2 4 9 r7 [ofB cC] 2 [] l edge z) : z = 0 /\ (aN r7 l).length = 6 /\ edge = [ofB cB] := by
 have hc : ∀ d, NC r7 [ofB cC] aF 2 d -> d = ofB cC ∨ d = ofB cB := fun d => xnc2.1; obtain ⟨rfl, N⟩ := xok (by decide) (by decide) hc h; have hC : NC r7 [ofB cC] aF 2 (ofB cC) := xnc2.2 (.inl rfl); have hm : ∀ d, d ∈ l ↔ d ∈ xW := fun d => by
  rw [N.ml]; unfold xW; constructor
  . rintro ⟨k, hn⟩
    rcases xnd hc hn with ⟨h3, rfl⟩ | ⟨rfl, rfl⟩ | ⟨rfl, rfl⟩ | ⟨rfl, rfl, _⟩ | ⟨rfl, rfl⟩
    . rcases hc _ h3 with rfl | rfl <;> simp
    all_goals simp
  . intro h
    simp only [List.mem_cons, List.not_mem_nil, or_false] at h; rcases h with rfl | rfl | rfl | rfl | rfl | rfl
    . exact ⟨3, .com hC⟩
    . exact ⟨3, .com (xnc2.2 (.inr rfl))⟩
    . exact ⟨2, .dir (mU hC)⟩
    . exact ⟨2, .dir (mQ hC (.inl (List.nil_prefix)))⟩
    . exact ⟨1, .blob (e := ⟨tY, false, ofB [1, 1, 50]⟩) (mU hC) xgR rfl (by simp [oR, bI]) rfl List.nil_prefix⟩
    . exact ⟨1, .blob (e := ⟨tX, false, ofB [1, 1, 49]⟩) (mQ hC (.inl (List.nil_prefix))) xgT rfl (by simp [oT, bI]) rfl List.nil_prefix⟩
 refine ⟨rfl, ?_, ?_⟩
 . rw [sw hm]; decide +kernel
 . refine N.b.ext (List.pairwise_singleton _ _) fun d => ?_
   rw [N.me, List.mem_singleton]; constructor
   . rintro ⟨hd, o, x, hg, _, hx, hn⟩
     rcases xnc2.1 hd with rfl | rfl
     . rw [xgC] at hg; injection hg with hg; subst hg
       exact absurd (xnc2.2 (.inr (List.mem_singleton.1 hx))) hn
     . rfl
   . rintro rfl
     refine ⟨xnc2.2 (.inr rfl), oB, ofB cA, xgB, rfl, List.mem_singleton.2 rfl, fun h => ?_⟩; rcases xnc2.1 h with h | h
     . exact absurd h (by decide +kernel)
     . exact absurd h (by decide +kernel)
theorem EO {l edge : List Dig} {z : Int} (h : NdR 2 4 9 r7 [ofB cC] 1 mE l edge z) : z = 0 /\ (aN r7 l).length = 4 := by
 have hc : ∀ d, NC r7 [ofB cC] aF 1 d -> d = ofB cC ∨ d = ofB cB := fun d h => .inl (xnc1.1 h); obtain ⟨rfl, N⟩ := xok (by decide) (by decide) hc h; have hC : NC r7 [ofB cC] aF 1 (ofB cC) := xnc1.2 rfl; have hm : ∀ d, d ∈ l ↔ d ∈ x9 := fun d => by
  rw [N.ml]; unfold x9; constructor
  . rintro ⟨k, hn⟩
    rcases xnd hc hn with ⟨h3, rfl⟩ | ⟨rfl, rfl⟩ | ⟨rfl, rfl⟩ | ⟨rfl, rfl, h⟩ | ⟨rfl, rfl⟩
    . rw [xnc1.1 h3]; simp
    . simp
    . simp
    . exact absurd h (by decide)
    . simp
  . intro h
    simp only [List.mem_cons, List.not_mem_nil, or_false] at h; rcases h with rfl | rfl | rfl | rfl
    . exact ⟨3, .com hC⟩
    . exact ⟨2, .dir (mU hC)⟩
    . exact ⟨2, .dir (mQ hC (.inl (List.prefix_refl _)))⟩
    . exact ⟨1, .blob (e := ⟨tX, false, ofB [1, 1, 49]⟩) (mQ hC (.inl (List.prefix_refl _))) xgT rfl (by simp [oT, bI]) rfl ⟨[120], by decide⟩⟩
 refine ⟨rfl, ?_⟩; rw [sw hm]; decide +kernel
end
section
attribute [local irreducible] ofB ak cA cB cC cR cT ofL
theorem Gl : dgO oA = ofB cA := by unfold dgO; rw [qJ]
theorem GJ : dgO oB = ofB cB := by unfold dgO; rw [mI]
theorem Gy : dgO oC = ofB cC := by unfold dgO; rw [mF]
theorem BG {w w' : World} {e : Ending} (h : yt [] exL w e w') : ∃ A c, e = .returned (.tuple #[.slice A 4 c, az (ofB cR), .int .i64 0]) /\ Sl w' w'.heap.size 3 A 4 (flat itC r4) /\ 4 <= c /\ c <= maxLen /\ Below w.heap.size w w' := by
 obtain ⟨h, hb⟩ := h; rcases h with ⟨z, hz, hn, _⟩ | ⟨_, ⟨q, d, A, c, h1, _, rfl, h3, h4, h5⟩ | ⟨h1, _⟩⟩
 . exact absurd (TckR.same hz F8) hn
 . rw [pF] at h1
   injection h1 with h1; injection h1 with h1 h2; subst h1; subst h2; rw [xG] at h3 h4; exact ⟨A, c, by rw [xG], h3, h4, h5, hb⟩
 . rw [pF] at h1; cases h1
theorem pI {A0 : OA} {c0 n : Nat} {p q : List Itm} {o : Ob} {d : Dig} {w w' : World} {e : Ending} (h : PuE A0 c0 p o w e w') (hp : bB p o = some q) (hd : dgO o = d) (hn : q.length = n) :
  ∃ A c, e = .returned (.tuple #[.slice A n c, az d, .int .i64 0]) /\ Sl w' w'.heap.size 3 A n (flat itC q) /\ n <= c /\ c <= maxLen /\ Below w.heap.size w w' := by
 obtain ⟨h, hb⟩ := h; rcases h with ⟨q', A, c, h1, rfl, h3, h4, h5, _⟩ | ⟨h1, _⟩
 . rw [hp] at h1
   injection h1 with h1; subst h1; subst hd; subst hn; exact ⟨A, c, rfl, h3, h4, h5, hb⟩
 . rw [hp] at h1; cases h1
theorem DU {fn : Func} {r c i : Tmp} (h : fn.results = #[.tmp r, .cell c 42, .cell i 42]) {w : World} {a : Array Value} {b b' : Nat} {x y u x' y' : Value} (hr : a[r]?.getD undef = u) (ha : a[c]?.getD undef = .pointer (some ⟨b, 0, none⟩)) (hk : Bk w b 42 #[x, y]) (ha' : a[i]?.getD undef = .pointer (some ⟨b', 0, none⟩)) (hk' : Bk w b' 42 #[x', y']) :
  (results fn a).run Tryz.prog w = .ok (.tuple #[u, .agg #[x, y], .agg #[x', y']]) w := by
 obtain ⟨h0, h1, _, _⟩ := hk.two; obtain ⟨h0', h1', _, _⟩ := hk'.two; simp [results, h, hr, ha, ha', go_sem, h0, h1, h0', h1']
theorem Bk.oth {w : World} {b b' : Nat} {t : TypeId} {cs : Array Value} (h : Bk w b t cs) (hn : b ≠ b') (x y : Value) : Bk ((w.setCell ⟨b', 0, none⟩ x).setCell ⟨b', 1, none⟩ y) b t cs :=
 (Below.heap_setCell _ ⟨b', 1, none⟩ y b hn).trans ((Below.heap_setCell w ⟨b', 0, none⟩ x b hn).trans h)
def yz (w : World) (e : Ending) (w' : World) : Prop :=
 ∃ A c, e = .returned (.tuple #[.slice A 7 c, az (ofB cB), az (ofB cC)]) /\ Sl w' w'.heap.size 3 A 7 (flat itC r7) /\ 7 <= c /\ c <= maxLen /\ Below w.heap.size w w'
theorem aO {w w' : World} {n size : Nat} {A : OA} {l : List Value} (h : Sl w w.heap.size size A n l) (hb : Below w.heap.size w w') : Sl w' w'.heap.size size A n l := (h.below hb ai).more hb.size
theorem Bv (w : World) : Calls Tryz.prog 25 #[] w (yz w) := by
 obtain ⟨W0, hW0⟩ : ∃ W, (w.alloc (.cells #[.int .u64 0, .int .u64 0] 42)).alloc (.cells #[.int .u64 0, .int .u64 0] 42) = W := ⟨_, rfl⟩
 have HB0 : Hid (Below w.heap.size w W0) := by rw [<- hW0]; exact ((Below.refl _ w).alloc ai _).alloc (by simp) _
 have HP0 : Hid (Bk W0 w.heap.size 42 #[.int .u64 0, .int .u64 0]) := by rw [<- hW0]; exact (Bk.new w _ _).alloc _
 have HQ0 : Hid (Bk W0 (w.heap.size + 1) 42 #[.int .u64 0, .int .u64 0]) := by
  rw [<- hW0]; have := Bk.new (w.alloc (.cells #[.int .u64 0, .int .u64 0] 42)) 42 #[.int .u64 0, .int .u64 0]; rw [World.size_alloc] at this; exact this
 have z0 : w.heap.size + 1 < W0.heap.size := HQ0.out.lt; obtain ⟨W1, hW1⟩ : ∃ W, W0.alloc (.cells #[.string ⟨#[115, 114, 99, 47, 120]⟩, .string ⟨#[49]⟩, .string ⟨#[121]⟩, .string ⟨#[50]⟩] 94) = W := ⟨_, rfl⟩
 have HB1 : Hid (Below W0.heap.size W0 W1) := by rw [<- hW1]; exact (Below.refl _ W0).alloc ai _
 have e0 : W0.heap.size = w.heap.size + 1 + 1 := by rw [<- hW0]; simp
 have HS1 : Hid (Sl W1 W1.heap.size 2 (some ⟨w.heap.size + 1 + 1, 0, none⟩) 2 (flat flC exL)) := by
  rw [<- hW1, <- e0]; exact Sl.of_bk (n := 2) (size := 2) (Bk.new W0 _ _) rfl
 have HST := ah (Af none 0 0 W1.heap.size [] (some ⟨w.heap.size + 1 + 1, 0, none⟩) 2 2 exL W1 ⟨rfl, fun h => absurd h (Nat.lt_irrefl 0)⟩ HS1.out ai ai (Nat.zero_le _) (Nat.zero_le _) (by omega) PlOk.nil (fun f hf => ⟨Nat.le_trans (kX (xokAw.path f hf)) (by omega), xokAw.data f hf⟩)); have HW0 := ah hW0; have HW1 := ah hW1; clear hW0 hW1 e0
 go_enter Tryz.func25, Tryz.ntmps25
 go_wp2_with fail; rw [HW0.out, HW1.out]; refine HST.out.mono ?_; rintro e w4 hst; obtain ⟨A4, c4, rfl, hs4, hc4, hm4, hb4⟩ := BG hst; have HS4 := ah hs4; have hb04 : Below W0.heap.size W0 w4 := HB1.out.trans (hb4.mono HB1.out.size); have HB4 : Hid (Below w.heap.size w w4) := HB0.out.trans (hb04.mono HB0.out.size); have HP4 := ah (HP0.out.below hb04 (by omega)); have HQ4 := ah (HQ0.out.below hb04 (by omega)); have z4 : w.heap.size + 1 < w4.heap.size := HQ4.out.lt; clear hst hs4 hb4 hb04 HST HB1 HS1 HW0 HW1 HP0 HQ0 HB0; obtain ⟨⟨t1, t2⟩, ht⟩ : ∃ d, ofB cR = d := ⟨_, rfl⟩
 have HT := ah ht; rw [ht]; simp only [az]; clear ht; obtain ⟨W4, hW4⟩ : ∃ W, w4.alloc (.cells #[.int .u64 t1, .int .u64 t2] 42) = W := ⟨_, rfl⟩
 have hbW4 : Below w4.heap.size w4 W4 := by rw [<- hW4]; exact (Below.refl _ w4).alloc ai _
 have HKW4 : Hid (Bk W4 w4.heap.size 42 #[.int .u64 t1, .int .u64 t2]) := by rw [<- hW4]; exact Bk.new w4 _ _
 have zW4 : w4.heap.size < W4.heap.size := HKW4.out.lt; have hbt : Below w4.heap.size w4 W4 := hbW4; have HC := ah (jI A4 4 c4 W4.heap.size r4 oA ⟨none, 0, 0, none, 0, 0⟩ W4 (aO HS4.out hbt) ⟨Sl.nil _ _ _ _, Sl.nil _ _ _ _, Nat.le_refl _, Nat.zero_le _, Nat.le_refl _, Nat.zero_le _⟩ ai hc4 hm4 (by omega) xpl4.asc yh); have hv : obV oA ⟨none, 0, 0, none, 0, 0⟩ = .agg #[.int .i64 3, .string ⟨#[]⟩, .slice none 0 0, .int .u64 t1, .int .u64 t2, .slice none 0 0, .string ⟨#[97]⟩, .int .i64 0, .string ⟨#[]⟩] := by
  have h : ∀ d, ofB cR = d -> obV oA ⟨none, 0, 0, none, 0, 0⟩ = .agg #[.int .i64 3, .string ⟨#[]⟩, .slice none 0 0, .int .u64 d.1, .int .u64 d.2, .slice none 0 0, .string ⟨#[97]⟩, .int .i64 0, .string ⟨#[]⟩] := fun d h => by rw [<- h]; rfl
  exact h _ HT.out
 rw [hv] at HC; clear hv; have HPn := ah (HP4.out.below hbt HP4.out.lt); have HQn := ah (HQ4.out.below hbt HQ4.out.lt); have HBn : Hid (Below w.heap.size w W4) := HB4.out.trans (hbt.mono (by have := HB4.out.size; omega)); obtain ⟨x0, x1, _, _⟩ := HKW4.out.two; rw [<- hW4] at x0 x1; have HWx := ah hW4; clear hW4 hbt hbW4; go_wp2_with fail; rw [HWx.out]; refine HC.out.mono ?_; rintro e w5 hst; obtain ⟨A5, c5, rfl, hs5, hc5, hm5, hb⟩ := pI hst xX Gl FJ; have HS5 := ah hs5; have HB5 : Hid (Below w.heap.size w w5) := HBn.out.trans (hb.mono HBn.out.size); have HP5 := ah (HPn.out.below hb HPn.out.lt); have HQ5 := ah (HQn.out.below hb HQn.out.lt); have HX5 : Hid (Bk w5 w4.heap.size 42 #[.int .u64 t1, .int .u64 t2]) := HKW4.out.below hb zW4; have z5 : W4.heap.size <= w5.heap.size := hb.size; clear hst hs5 hb HC HBn HWx x0 x1 HPn HQn HP4 HQ4 HB4 HS4 HKW4; obtain ⟨⟨a1, a2⟩, hd⟩ : ∃ d, ofB cA = d := ⟨_, rfl⟩
 have HDa := ah hd; rw [hd]; simp only [az]; clear hd; obtain ⟨W5, hW5⟩ : ∃ W, w5.alloc (.cells #[.int .u64 a1, .int .u64 a2] 42) = W := ⟨_, rfl⟩
 have hbW5 : Below w5.heap.size w5 W5 := by rw [<- hW5]; exact (Below.refl _ w5).alloc ai _
 have HKW5 : Hid (Bk W5 w5.heap.size 42 #[.int .u64 a1, .int .u64 a2]) := by rw [<- hW5]; exact Bk.new w5 _ _
 have zW5 : w5.heap.size < W5.heap.size := HKW5.out.lt; have eW5 : W5.heap.size = w5.heap.size + 1 := by rw [<- hW5]; simp
 obtain ⟨W5s, hW5s⟩ : ∃ W, W5.alloc (.cells #[.int .u64 a1, .int .u64 a2] 42) = W := ⟨_, rfl⟩
 have hbW5s : Below W5.heap.size W5 W5s := by rw [<- hW5s]; exact (Below.refl _ W5).alloc ai _
 have HSW5s : Hid (Sl W5s W5s.heap.size 2 (some ⟨w5.heap.size + 1, 0, none⟩) 1 (flat dgC [(a1, a2)])) := by rw [<- hW5s, <- eW5]; exact Sl.of_bk (n := 1) (size := 2) (Bk.new W5 _ _) rfl
 have ztW5 : W5.heap.size <= W5s.heap.size := hbW5s.size; have hbt : Below w5.heap.size w5 W5s := hbW5.trans (hbW5s.mono hbW5.size); have HC := ah (jI A5 5 c5 W5s.heap.size r5 oB ⟨none, 0, 0, some ⟨w5.heap.size + 1, 0, none⟩, 1, 1⟩ W5s (aO HS5.out hbt) ⟨Sl.nil _ _ _ _, by simp only [oB, gM]; rw [HDa.out]; exact HSW5s.out, Nat.le_refl _, Nat.zero_le _, Nat.le_refl _, by unfold maxLen; simp⟩ ai hc5 hm5 (by omega) xpl5.asc qY); have hv : obV oB ⟨none, 0, 0, some ⟨w5.heap.size + 1, 0, none⟩, 1, 1⟩ = .agg #[.int .i64 3, .string ⟨#[]⟩, .slice none 0 0, .int .u64 t1, .int .u64 t2, .slice (some ⟨w5.heap.size + 1, 0, none⟩) 1 1, .string ⟨#[98]⟩, .int .i64 0, .string ⟨#[]⟩] := by
  have h : ∀ d, ofB cR = d -> obV oB ⟨none, 0, 0, some ⟨w5.heap.size + 1, 0, none⟩, 1, 1⟩ = .agg #[.int .i64 3, .string ⟨#[]⟩, .slice none 0 0, .int .u64 d.1, .int .u64 d.2, .slice (some ⟨w5.heap.size + 1, 0, none⟩) 1 1, .string ⟨#[98]⟩, .int .i64 0, .string ⟨#[]⟩] := fun d h => by rw [<- h]; rfl
  exact h _ HT.out
 rw [hv] at HC; clear hv; have HPn := ah (HP5.out.below hbt HP5.out.lt); have HQn := ah (HQ5.out.below hbt HQ5.out.lt); have HXn := ah (HX5.out.below hbt HX5.out.lt); have HBn : Hid (Below w.heap.size w W5s) := HB5.out.trans (hbt.mono (by have := HB5.out.size; omega)); have HKn : Hid (Bk W5s w5.heap.size 42 #[.int .u64 a1, .int .u64 a2]) := HKW5.out.below hbW5s zW5; obtain ⟨x0, x1, _, _⟩ := HKW5.out.two; rw [<- hW5] at x0 x1; have hbw := hbW5; obtain ⟨y0, y1, _, _⟩ := (HX5.out.below hbw (by omega)).two; rw [<- hW5] at y0 y1; have HWx := ah hW5; have HWy := ah hW5s; clear eW5 hW5 hW5s hbt hbW5s hbW5 hbw; go_wp2_with fail; rw [HWx.out, HWy.out]; refine HC.out.mono ?_; rintro e w6 hst; obtain ⟨A6, c6, rfl, hs6, hc6, hm6, hb⟩ := pI hst xY GJ EX; have HS6 := ah hs6; have HB6 : Hid (Below w.heap.size w w6) := HBn.out.trans (hb.mono HBn.out.size); have HP6 := ah (HPn.out.below hb HPn.out.lt); have HQ6 := ah (HQn.out.below hb HQn.out.lt); have HX6 := ah (HXn.out.below hb HXn.out.lt); have HYb6 : Hid (Bk w6 w5.heap.size 42 #[.int .u64 a1, .int .u64 a2]) := HKn.out.below hb HKn.out.lt; have z6 : W5s.heap.size <= w6.heap.size := hb.size; clear hst hs6 hb HC HBn HWx x0 x1 y0 y1 HWy HKn HPn HQn HXn HP5 HQ5 HX5 HB5 HS5 HKW5 HSW5s; obtain ⟨⟨b1, b2⟩, hd⟩ : ∃ d, ofB cB = d := ⟨_, rfl⟩
 have HDb := ah hd; rw [hd]; simp only [az]; clear hd; obtain ⟨W6, hW6⟩ : ∃ W, w6.alloc (.cells #[.int .u64 b1, .int .u64 b2] 42) = W := ⟨_, rfl⟩
 have hbW6 : Below w6.heap.size w6 W6 := by rw [<- hW6]; exact (Below.refl _ w6).alloc ai _
 have HKW6 : Hid (Bk W6 w6.heap.size 42 #[.int .u64 b1, .int .u64 b2]) := by rw [<- hW6]; exact Bk.new w6 _ _
 have zW6 : w6.heap.size < W6.heap.size := HKW6.out.lt; have eW6 : W6.heap.size = w6.heap.size + 1 := by rw [<- hW6]; simp
 obtain ⟨W6s, hW6s⟩ : ∃ W, W6.alloc (.cells #[.int .u64 b1, .int .u64 b2] 42) = W := ⟨_, rfl⟩
 have hbW6s : Below W6.heap.size W6 W6s := by rw [<- hW6s]; exact (Below.refl _ W6).alloc ai _
 have HSW6s : Hid (Sl W6s W6s.heap.size 2 (some ⟨w6.heap.size + 1, 0, none⟩) 1 (flat dgC [(b1, b2)])) := by rw [<- hW6s, <- eW6]; exact Sl.of_bk (n := 1) (size := 2) (Bk.new W6 _ _) rfl
 have ztW6 : W6.heap.size <= W6s.heap.size := hbW6s.size; have hbt : Below w6.heap.size w6 W6s := hbW6.trans (hbW6s.mono hbW6.size); have HC := ah (jI A6 6 c6 W6s.heap.size r6 oC ⟨none, 0, 0, some ⟨w6.heap.size + 1, 0, none⟩, 1, 1⟩ W6s (aO HS6.out hbt) ⟨Sl.nil _ _ _ _, by simp only [oC, gM]; rw [HDb.out]; exact HSW6s.out, Nat.le_refl _, Nat.zero_le _, Nat.le_refl _, by unfold maxLen; simp⟩ ai hc6 hm6 (by omega) xpl6.asc qM); have hv : obV oC ⟨none, 0, 0, some ⟨w6.heap.size + 1, 0, none⟩, 1, 1⟩ = .agg #[.int .i64 3, .string ⟨#[]⟩, .slice none 0 0, .int .u64 t1, .int .u64 t2, .slice (some ⟨w6.heap.size + 1, 0, none⟩) 1 1, .string ⟨#[99]⟩, .int .i64 0, .string ⟨#[]⟩] := by
  have h : ∀ d, ofB cR = d -> obV oC ⟨none, 0, 0, some ⟨w6.heap.size + 1, 0, none⟩, 1, 1⟩ = .agg #[.int .i64 3, .string ⟨#[]⟩, .slice none 0 0, .int .u64 d.1, .int .u64 d.2, .slice (some ⟨w6.heap.size + 1, 0, none⟩) 1 1, .string ⟨#[99]⟩, .int .i64 0, .string ⟨#[]⟩] := fun d h => by rw [<- h]; rfl
  exact h _ HT.out
 rw [hv] at HC; clear hv; have HPn := ah (HP6.out.below hbt HP6.out.lt); have HQn := ah (HQ6.out.below hbt HQ6.out.lt); have HXn := ah (HX6.out.below hbt HX6.out.lt); have HYbn := ah (HYb6.out.below hbt HYb6.out.lt); have HBn : Hid (Below w.heap.size w W6s) := HB6.out.trans (hbt.mono (by have := HB6.out.size; omega)); have HKn : Hid (Bk W6s w6.heap.size 42 #[.int .u64 b1, .int .u64 b2]) := HKW6.out.below hbW6s zW6; obtain ⟨x0, x1, _, _⟩ := HKW6.out.two; rw [<- hW6] at x0 x1; have hbw := hbW6; obtain ⟨y0, y1, _, _⟩ := (HX6.out.below hbw (by omega)).two; rw [<- hW6] at y0 y1; have HWx := ah hW6; have HWy := ah hW6s; clear eW6 hW6 hW6s hbt hbW6s hbW6 hbw; go_wp2_with fail; rw [HWx.out, HWy.out]; refine HC.out.mono ?_; rintro e w7 hst; obtain ⟨A7, c7, rfl, hs7, hc7, hm7, hb⟩ := pI hst xS Gy EW; have HS7 := ah hs7; have HB7 : Hid (Below w.heap.size w w7) := HBn.out.trans (hb.mono HBn.out.size); have HP7 := ah (HPn.out.below hb HPn.out.lt); have HQ7 := ah (HQn.out.below hb HQn.out.lt); have HX7 := ah (HXn.out.below hb HXn.out.lt); have HYb7 := ah (HYbn.out.below hb HYbn.out.lt); have HYc7 : Hid (Bk w7 w6.heap.size 42 #[.int .u64 b1, .int .u64 b2]) := HKn.out.below hb HKn.out.lt; have z7 : W6s.heap.size <= w7.heap.size := hb.size; clear hst hs7 hb HC HBn HWx x0 x1 y0 y1 HWy HKn HPn HQn HXn HYbn HP6 HQ6 HX6 HYb6 HB6 HS6 HKW6 HSW6s; obtain ⟨⟨c1, c2⟩, hd⟩ : ∃ d, ofB cC = d := ⟨_, rfl⟩
 have HDc := ah hd; rw [hd]; simp only [az]; clear hd; obtain ⟨W7, hW7⟩ : ∃ W, w7.alloc (.cells #[.int .u64 c1, .int .u64 c2] 42) = W := ⟨_, rfl⟩
 have hbW7 : Below w7.heap.size w7 W7 := by rw [<- hW7]; exact (Below.refl _ w7).alloc ai _
 have HKW7 : Hid (Bk W7 w7.heap.size 42 #[.int .u64 c1, .int .u64 c2]) := by rw [<- hW7]; exact Bk.new w7 _ _
 have HPx := ah (HP7.out.below hbW7 (by omega)); have HQx := ah (HQ7.out.below hbW7 (by omega)); have HYx := ah (HYc7.out.below hbW7 (by omega)); have HSx := ah (aO HS7.out hbW7); have HBx : Hid (Below w.heap.size w W7) := HB7.out.trans (hbW7.mono HB7.out.size); have HWx := ah hW7; clear hW7 hbW7 HP7 HQ7 HYc7 HX7 HS7 HB7; obtain ⟨_, _, g0, g1⟩ := HPx.out.two; obtain ⟨_, _, k0, k1⟩ := HQx.out.two; obtain ⟨x0, x1, _, _⟩ := HYx.out.two; obtain ⟨y0, y1, _, _⟩ := HKW7.out.two; have n1 : w.heap.size ≠ w7.heap.size := by omega
 have n2 : w.heap.size + 1 ≠ w7.heap.size := by omega
 have n3 : w.heap.size ≠ w6.heap.size := by omega
 have n4 : w.heap.size + 1 ≠ w6.heap.size := by omega
 have n5 : w.heap.size ≠ w.heap.size + 1 := by omega
 go_wp2_with fail; rw [HWx.out]
 go_region
 go_wp2_with fail; refine bodyPost_ret (DU Tryz.results25 rfl rfl (((HPx.out.set2 (.int .u64 b1) (.int .u64 b2)).oth n5 (.int .u64 c1) (.int .u64 c2)).drew) rfl (((HQx.out.oth n5.symm (.int .u64 b1) (.int .u64 b2)).set2 (.int .u64 c1) (.int .u64 c2)).drew)) rfl ?_; refine ⟨A7, c7, by rw [HDb.out, HDc.out]; rfl, ?_, hc7, hm7, ?_⟩
 . have h1 := HSx.out.ne (b := w.heap.size) (HSx.out.dgbox HPx.out) (fun k hk => (Below.heap_setCell (W7.setCell ⟨w.heap.size, 0, none⟩ (.int .u64 b1)) ⟨w.heap.size, 1, none⟩ (.int .u64 b2) k hk).trans (Below.heap_setCell W7 ⟨w.heap.size, 0, none⟩ (.int .u64 b1) k hk))
   have h2 := h1.ne (b := w.heap.size + 1) (h1.dgbox (HQx.out.oth n5.symm (.int .u64 b1) (.int .u64 b2))) (fun k hk => (Below.heap_setCell _ ⟨w.heap.size + 1, 1, none⟩ (.int .u64 c2) k hk).trans (Below.heap_setCell _ ⟨w.heap.size + 1, 0, none⟩ (.int .u64 c1) k hk))
   simpa using h2.drew
 . exact (di (di HBx.out (by omega) _ _) (by omega) _ _).drew
end
abbrev Pla := Dig × ByteArray
structure WkS where
 ne : Dig -> Bool
 ed : Dig -> Bool
 me : Pla -> Bool
 op : List Pla
 wr : Bool
def aK {α : Type} [DecidableEq α] (f : α -> Bool) (x : α) : α -> Bool := fun y => decide (y = x) || f y
theorem setB_true {α : Type} [DecidableEq α] {f : α -> Bool} {x y : α} : aK f x y = true ↔ y = x ∨ f y = true := by simp [aK]
def nB : ByteArray := ⟨#[]⟩
def gJ (q n : ByteArray) : ByteArray := q ++ n ++ ⟨#[47]⟩
theorem iJ (a b : ByteArray) : toL (a ++ b) = toL a ++ toL b := by simp [toL]
theorem oI (q n : ByteArray) : toL (gJ q n) = toL q ++ toL n ++ [47] := by unfold gJ; rw [iJ, iJ]; rfl
instance (a b : Bytes) : Decidable (a <+: b) := decidable_of_iff (a.isPrefixOf b = true) List.isPrefixOf_iff_prefix
def nrm (pre q : Bytes) : Bytes := if pre <+: q then pre else q
def eT (pre q : ByteArray) : ByteArray := if toL pre <+: toL q then pre else q
theorem uT (pre q : ByteArray) : toL (eT pre q) = nrm (toL pre) (toL q) := by unfold eT nrm; split <;> rfl
theorem vQ (pre q r : Bytes) : nrm pre (nrm pre q ++ r) = nrm pre (q ++ r) := by
 unfold nrm; by_cases h : pre <+: q
 . rw [if_pos h, if_pos (List.prefix_append _ _), if_pos (h.trans (List.prefix_append _ _))]
 . rw [if_neg h]
theorem wJ (pre q r : Bytes) : pre <+: nrm pre q ++ r ↔ pre <+: q ++ r := by
 unfold nrm; by_cases h : pre <+: q
 . rw [if_pos h]; exact ⟨fun _ => h.trans (List.prefix_append _ _), fun _ => List.prefix_append _ _⟩
 . rw [if_neg h]
theorem ug (pre q r : Bytes) : touch pre (nrm pre q ++ r) ↔ touch pre (q ++ r) := by
 unfold nrm; by_cases h : pre <+: q
 . rw [if_pos h]; exact ⟨fun _ => .inl (h.trans (List.prefix_append _ _)), fun _ => .inl (List.prefix_append _ _)⟩
 . rw [if_neg h]
section
variable (p : List Itm) (com : Dig -> Bool) (pre : ByteArray)
noncomputable def aL (s : WkS) (d : Dig) (k : Int) : WkS × Option Ob :=
 match ay p d with
 | none => ({ s with ne := aK s.ne d }, none)
 | some o => if o.kind = k then ({ s with ne := aK s.ne d }, some o) else ({ s with ne := aK s.ne d, wr := true }, none)
def bY (s : WkS) (x : Pla) : WkS := if s.me x = true then s else { s with me := aK s.me x, op := s.op ++ [x] }
def bH (s : WkS) (d : Dig) (q : ByteArray) : WkS := if toL pre <+: toL q then bY s (d, pre) else if toL q <+: toL pre then bY s (d, q) else s
noncomputable def dA (s : WkS) (c : Dig) : WkS :=
 match aL p s c 3 with
 | (s, none) => s
 | (s, some o) => if o.pars.any (fun x => !com x) = true then { bH pre s o.tree nB with ed := aK (bH pre s o.tree nB).ed c } else bH pre s o.tree nB
noncomputable def bz (q : ByteArray) (s : WkS) (e : Ent) : WkS :=
 if e.dir = true then bH pre s e.dg (gJ q e.nm) else if toL pre <+: toL (q ++ e.nm) then (aL p s e.dg 1).1 else s
noncomputable def bV (s : WkS) (x : Pla) : WkS :=
 match aL p s x.1 2 with
 | (s, none) => s
 | (s, some o) => o.ents.foldl (bz p pre x.2) s
end
structure LeS (s s' : WkS) : Prop where
 ne : ∀ d, s.ne d = true -> s'.ne d = true
 ed : ∀ d, s.ed d = true -> s'.ed d = true
 me : ∀ x, s.me x = true -> s'.me x = true
 wr : s.wr = true -> s'.wr = true
 op : ∀ x, x ∈ s.op -> x ∈ s'.op
theorem LeS.refl (s : WkS) : LeS s s := ⟨fun _ h => h, fun _ h => h, fun _ h => h, fun h => h, fun _ h => h⟩
theorem LeS.trans {a b c : WkS} (h : LeS a b) (k : LeS b c) : LeS a c := ⟨fun d x => k.ne d (h.ne d x), fun d x => k.ed d (h.ed d x), fun d x => k.me d (h.me d x), fun x => k.wr (h.wr x), fun d x => k.op d (h.op d x)⟩
section
variable {p : List Itm} {com : Dig -> Bool} {pre : ByteArray} {hs : List Dig} {stop : Dig -> Prop} {dep : Int}
theorem pW (s : WkS) (d : Dig) (k : Int) : LeS s (aL p s d k).1 := by
 unfold aL; have h : ∀ y, s.ne y = true -> aK s.ne d y = true := fun y hy => setB_true.2 (.inr hy); split
 . exact ⟨h, fun _ h => h, fun _ h => h, fun h => h, fun _ h => h⟩
 . split
   . exact ⟨h, fun _ h => h, fun _ h => h, fun h => h, fun _ h => h⟩
   . exact ⟨h, fun _ h => h, fun _ h => h, fun _ => rfl, fun _ h => h⟩
theorem uM (s : WkS) (x : Pla) : LeS s (bY s x) := by
 unfold bY; split
 . exact .refl s
 . exact ⟨fun _ h => h, fun _ h => h, fun _ h => setB_true.2 (.inr h), fun h => h, fun _ h => List.mem_append_left _ h⟩
theorem jS (s : WkS) (d : Dig) (q : ByteArray) : LeS s (bH pre s d q) := by
 unfold bH; split
 . exact uM _ _
 . split
   . exact uM _ _
   . exact .refl s
theorem pg (s : WkS) (c : Dig) : LeS s (dA p com pre s c) := by
 unfold dA; have h1 := pW (p := p) s c 3; split
 . rename_i s1 h; rw [h] at h1; exact h1
 . rename_i s1 o h
   rw [h] at h1; have h2 := jS (pre := pre) s1 o.tree nB; split
   . exact h1.trans (h2.trans ⟨fun _ h => h, fun _ h => setB_true.2 (.inr h), fun _ h => h, fun h => h, fun _ h => h⟩)
   . exact h1.trans h2
theorem El (q : ByteArray) (s : WkS) (e : Ent) : LeS s (bz p pre q s e) := by
 unfold bz; split
 . exact jS _ _ _
 . split
   . exact pW _ _ _
   . exact .refl s
theorem gV (q : ByteArray) : ∀ (l : List Ent) (s : WkS), LeS s (l.foldl (bz p pre q) s)
 | [], s => .refl s
 | e :: l, s => (El q s e).trans (gV q l _)
theorem pq (s : WkS) (x : Pla) : LeS s (bV p pre s x) := by
 unfold bV; have h1 := pW (p := p) s x.1 2; split
 . rename_i s1 h; rw [h] at h1; exact h1
 . rename_i s1 o h
   rw [h] at h1; exact h1.trans (gV _ _ _)
structure Snd (p : List Itm) (hs : List Dig) (stop : Dig -> Prop) (dep : Int) (pre : ByteArray) (s : WkS) : Prop where
 ne : ∀ d, s.ne d = true -> Need p hs stop dep (toL pre) d
 ed : ∀ d, s.ed d = true -> dZ p hs stop dep d
 me : ∀ x, s.me x = true -> ∃ q, Plc p hs stop dep (toL pre) x.1 q /\ nrm (toL pre) q = toL x.2
 wr : s.wr = true -> bZ p hs stop dep (toL pre)
 op : ∀ x, x ∈ s.op -> s.me x = true
theorem Snd.get {s : WkS} (h : Snd p hs stop dep pre s) {d : Dig} {k : Int} (hd : Nd p hs stop dep (toL pre) d k) : Snd p hs stop dep pre (aL p s d k).1 := by
 have hn : ∀ y, aK s.ne d y = true -> Need p hs stop dep (toL pre) y := fun y hy => by
  rcases setB_true.1 hy with rfl | hy
  . exact ⟨k, hd⟩
  . exact h.ne y hy
 unfold aL; split
 . exact ⟨hn, h.ed, h.me, h.wr, h.op⟩
 . rename_i o ho
   split
   . exact ⟨hn, h.ed, h.me, h.wr, h.op⟩
   . rename_i hk; exact ⟨hn, h.ed, h.me, fun _ => ⟨d, k, o, hd, ho, hk⟩, h.op⟩
theorem Snd.push {s : WkS} (h : Snd p hs stop dep pre s) {x : Pla} (hx : ∃ q, Plc p hs stop dep (toL pre) x.1 q /\ nrm (toL pre) q = toL x.2) : Snd p hs stop dep pre (bY s x) := by
 unfold bY; split
 . exact h
 . refine ⟨h.ne, h.ed, fun y hy => ?_, h.wr, fun y hy => ?_⟩
   . rcases setB_true.1 hy with rfl | hy
     . exact hx
     . exact h.me y hy
   . rcases List.mem_append.1 hy with hy | hy
     . exact setB_true.2 (.inr (h.op y hy))
     . exact setB_true.2 (.inl (List.mem_singleton.1 hy))
theorem Snd.dir {s : WkS} (h : Snd p hs stop dep pre s) {d : Dig} {q : ByteArray} (hx : touch (toL pre) (toL q) -> ∃ q', Plc p hs stop dep (toL pre) d q' /\ nrm (toL pre) q' = nrm (toL pre) (toL q)) : Snd p hs stop dep pre (bH pre s d q) := by
 unfold bH; split
 . rename_i hq
   obtain ⟨q', h1, h2⟩ := hx (.inl hq); exact h.push ⟨q', h1, by rw [h2]; unfold nrm; rw [if_pos hq]⟩
 . rename_i hn
   split
   . rename_i hq
     obtain ⟨q', h1, h2⟩ := hx (.inr hq); exact h.push ⟨q', h1, by rw [h2]; unfold nrm; rw [if_neg hn]⟩
   . exact h
theorem iC {s s' : WkS} {d : Dig} {k : Int} {o : Ob} (h : aL p s d k = (s', some o)) : ay p d = some o /\ o.kind = k := by
 unfold aL at h; split at h
 . cases h
 . split at h
   . rename_i o' h1 h2; cases h; exact ⟨h1, h2⟩
   . cases h
theorem um {s s' : WkS} {d : Dig} {k : Int} (h : aL p s d k = (s', none)) : ∀ o, ay p d = some o -> o.kind ≠ k /\ s'.wr = true := by
 intro o ho; unfold aL at h; rw [ho] at h; simp only at h; split at h
 . cases h
 . rename_i h2; cases h; exact ⟨h2, rfl⟩
theorem pE (s : WkS) (d : Dig) (k : Int) : (aL p s d k).1.ne d = true := by
 have h : aK s.ne d d = true := setB_true.2 (.inl rfl); unfold aL; split
 . exact h
 . split <;> exact h
theorem oZ (s : WkS) (d : Dig) (k : Int) {o : Ob} (h : ay p d = some o) (hk : o.kind ≠ k) : (aL p s d k).1.wr = true := by
 unfold aL; rw [h]; simp only; rw [if_neg hk]
theorem Snd.comm {s : WkS} (h : Snd p hs stop dep pre s) {c : Dig} (hc : NC p hs stop dep c) (hcom : ∀ d, com d = true ↔ NC p hs stop dep d) : Snd p hs stop dep pre (dA p com pre s c) := by
 have h1 : Snd p hs stop dep pre (aL p s c 3).1 := h.get (.com hc); unfold dA; split
 . rename_i s1 e; rw [e] at h1; exact h1
 . rename_i s1 o e
   rw [e] at h1; obtain ⟨ho, hk⟩ := iC e; have h2 : Snd p hs stop dep pre (bH pre s1 o.tree nB) := Snd.dir h1 fun _ => ⟨[], .root hc ho hk, rfl⟩
   split
   . rename_i ha
     obtain ⟨x, hx, hn⟩ := List.any_eq_true.1 ha; refine ⟨h2.ne, fun d hd => ?_, h2.me, h2.wr, h2.op⟩; rcases setB_true.1 hd with rfl | hd
     . exact ⟨hc, o, x, ho, hk, hx, fun hh => by rw [(hcom x).2 hh] at hn; cases hn⟩
     . exact h2.ed d hd
   . exact h2
theorem Snd.ent {s : WkS} (h : Snd p hs stop dep pre s) {d : Dig} {q : ByteArray} {q' : Bytes} {o : Ob} {e : Ent} (hd : Plc p hs stop dep (toL pre) d q') (hq : nrm (toL pre) q' = toL q) (ho : ay p d = some o) (hk : o.kind = 2) (he : e ∈ o.ents) :
  Snd p hs stop dep pre (bz p pre q s e) := by
 unfold bz; split
 . rename_i hdir
   refine h.dir fun ht => ⟨_, .sub hd ho hk he hdir ?_, ?_⟩
   . rw [oI, <- hq, List.append_assoc, ug] at ht
     rw [List.append_assoc]; exact ht
   . rw [oI, <- hq, List.append_assoc, List.append_assoc, vQ]
 . rename_i hdir
   split
   . rename_i ht
     rw [iJ, <- hq, wJ] at ht; exact h.get (.blob hd ho hk he (by simpa using hdir) ht)
   . exact h
theorem Snd.ents {d : Dig} {q : ByteArray} {q' : Bytes} {o : Ob} (hd : Plc p hs stop dep (toL pre) d q') (hq : nrm (toL pre) q' = toL q) (ho : ay p d = some o) (hk : o.kind = 2) :
  ∀ (l : List Ent) (s : WkS), (∀ e ∈ l, e ∈ o.ents) -> Snd p hs stop dep pre s -> Snd p hs stop dep pre (l.foldl (bz p pre q) s)
 | [], _, _, h => h
 | e :: l, s, hl, h => Snd.ents hd hq ho hk l _ (fun x hx => hl x (List.mem_cons_of_mem _ hx)) (h.ent hd hq ho hk (hl e (by simp)))
theorem Snd.pop {s : WkS} (h : Snd p hs stop dep pre s) {l : List Pla} (hl : ∀ x ∈ l, x ∈ s.op) : Snd p hs stop dep pre { s with op := l } :=
 ⟨h.ne, h.ed, h.me, h.wr, fun x hx => h.op x (hl x hx)⟩
theorem Snd.vis {s : WkS} (h : Snd p hs stop dep pre s) {x : Pla} (hx : s.me x = true) : Snd p hs stop dep pre (bV p pre s x) := by
 obtain ⟨q', hd, hq⟩ := h.me x hx; have h1 : Snd p hs stop dep pre (aL p s x.1 2).1 := h.get (.dir hd); unfold bV; split
 . rename_i s1 e; rw [e] at h1; exact h1
 . rename_i s1 o e
   rw [e] at h1; obtain ⟨ho, hk⟩ := iC e; exact Snd.ents hd hq ho hk _ _ (fun _ h => h) h1
/-! ### completeness -/
def EntDn (p : List Itm) (pre : ByteArray) (s : WkS) (q : ByteArray) (e : Ent) : Prop :=
 (e.dir = true -> touch (toL pre) (toL (gJ q e.nm)) -> s.me (e.dg, eT pre (gJ q e.nm)) = true) ∧
 (e.dir = false -> toL pre <+: toL (q ++ e.nm) -> s.ne e.dg = true /\ ∀ o, ay p e.dg = some o -> o.kind ≠ 1 -> s.wr = true)
def Dn (p : List Itm) (pre : ByteArray) (s : WkS) (x : Pla) : Prop :=
 s.ne x.1 = true /\ ∀ o, ay p x.1 = some o -> (o.kind ≠ 2 -> s.wr = true) /\ (o.kind = 2 -> ∀ e ∈ o.ents, EntDn p pre s x.2 e)
def CDn (p : List Itm) (com : Dig -> Bool) (pre : ByteArray) (s : WkS) (c : Dig) : Prop :=
 s.ne c = true /\ ∀ o, ay p c = some o -> (o.kind ≠ 3 -> s.wr = true) /\ (o.kind = 3 -> s.me (o.tree, eT pre nB) = true /\ ((∃ x ∈ o.pars, com x = false) -> s.ed c = true))
theorem EntDn.mono {s s' : WkS} (h : LeS s s') {q : ByteArray} {e : Ent} (k : EntDn p pre s q e) : EntDn p pre s' q e :=
 ⟨fun a b => h.me _ (k.1 a b), fun a b => ⟨h.ne _ (k.2 a b).1, fun o x y => h.wr ((k.2 a b).2 o x y)⟩⟩
theorem Dn.mono {s s' : WkS} (h : LeS s s') {x : Pla} (k : Dn p pre s x) : Dn p pre s' x :=
 ⟨h.ne _ k.1, fun o ho => ⟨fun a => h.wr ((k.2 o ho).1 a), fun a e he => ((k.2 o ho).2 a e he).mono h⟩⟩
theorem CDn.mono {s s' : WkS} (h : LeS s s') {c : Dig} (k : CDn p com pre s c) : CDn p com pre s' c :=
 ⟨h.ne _ k.1, fun o ho => ⟨fun a => h.wr ((k.2 o ho).1 a), fun a => ⟨h.me _ ((k.2 o ho).2 a).1, fun x => h.ed _ (((k.2 o ho).2 a).2 x)⟩⟩⟩
theorem l7 (s : WkS) (x : Pla) : (bY s x).me x = true := by
 unfold bY; split
 . assumption
 . exact setB_true.2 (.inl rfl)
theorem wX {s : WkS} {d : Dig} {q : ByteArray} (h : touch (toL pre) (toL q)) : (bH pre s d q).me (d, eT pre q) = true := by
 unfold bH eT; by_cases h1 : toL pre <+: toL q
 . rw [if_pos h1, if_pos h1]; exact l7 _ _
 . have h2 : toL q <+: toL pre := h.resolve_left h1
   rw [if_neg h1, if_neg h1, if_pos h2]; exact l7 _ _
theorem E5 (s : WkS) (q : ByteArray) (e : Ent) : EntDn p pre (bz p pre q s e) q e := by
 refine ⟨fun hd ht => ?_, fun hd ht => ?_⟩
 . unfold bz; rw [if_pos hd]; exact wX ht
 . unfold bz
   rw [if_neg (by rw [hd]; decide), if_pos ht]; exact ⟨pE _ _ _, fun o ho hk => oZ _ _ _ ho hk⟩
theorem vY (q : ByteArray) : ∀ (l : List Ent) (s : WkS), ∀ e ∈ l, EntDn p pre (l.foldl (bz p pre q) s) q e
 | e :: l, s, x, hx => by
   rw [List.foldl_cons]; rcases List.mem_cons.1 hx with rfl | hx
   . exact (E5 s q x).mono (gV q l _)
   . exact vY q l _ x hx
theorem FC (s : WkS) (x : Pla) : Dn p pre (bV p pre s x) x := by
 have hle := pq (p := p) (pre := pre) s x; refine ⟨?_, fun o ho => ⟨fun hk => ?_, fun hk => ?_⟩⟩
 . have h0 := pE (p := p) s x.1 2
   unfold bV; split
   . rename_i s1 e; rw [e] at h0; exact h0
   . rename_i s1 o e; rw [e] at h0; exact (gV _ _ _).ne _ h0
 . have h0 := oZ (p := p) s x.1 2 ho hk
   unfold bV; split
   . rename_i s1 e; rw [e] at h0; exact h0
   . rename_i s1 o e; rw [e] at h0; exact (gV _ _ _).wr h0
 . unfold bV
   split
   . rename_i s1 e; exact absurd hk (um e o ho).1
   . rename_i s1 o' e
     obtain ⟨ho', _⟩ := iC e; rw [ho] at ho'; cases ho'; exact vY _ _ _
theorem uu (pre : Bytes) : touch pre [] := .inr List.nil_prefix
theorem Et (s : WkS) (c : Dig) : CDn p com pre (dA p com pre s c) c := by
 refine ⟨?_, fun o ho => ⟨fun hk => ?_, fun hk => ?_⟩⟩
 . have h0 := pE (p := p) s c 3
   unfold dA; split
   . rename_i s1 e; rw [e] at h0; exact h0
   . rename_i s1 o e
     rw [e] at h0; split <;> exact (jS _ _ _).ne _ h0
 . have h0 := oZ (p := p) s c 3 ho hk
   unfold dA; split
   . rename_i s1 e; rw [e] at h0; exact h0
   . rename_i s1 o e
     rw [e] at h0; split <;> exact (jS _ _ _).wr h0
 . unfold dA
   split
   . rename_i s1 e; exact absurd hk (um e o ho).1
   . rename_i s1 o' e
     obtain ⟨ho', _⟩ := iC e; rw [ho] at ho'; cases ho'; have ht : (bH pre s1 o.tree nB).me (o.tree, eT pre nB) = true := wX (uu _); split
     . exact ⟨ht, fun _ => setB_true.2 (.inl rfl)⟩
     . rename_i ha
       refine ⟨ht, fun ⟨x, hx, hn⟩ => absurd (List.any_eq_true.2 ⟨x, hx, by rw [hn]; rfl⟩) ha⟩
theorem Co {s : WkS} (hS : Snd p hs stop dep pre s) (hcom : ∀ d, com d = true ↔ NC p hs stop dep d) (hC : ∀ c, com c = true -> CDn p com pre s c) (hD : ∀ x, s.me x = true -> Dn p pre s x) :
  (∀ d, s.ne d = true ↔ Need p hs stop dep (toL pre) d) /\ (s.wr = true ↔ bZ p hs stop dep (toL pre)) /\ ∀ d, s.ed d = true ↔ dZ p hs stop dep d := by
 have hP : ∀ {d : Dig} {q : Bytes}, Plc p hs stop dep (toL pre) d q -> s.me (d, ofL (nrm (toL pre) q)) = true := by
  intro d q h
  induction h with
  | @root c o h g k =>
    have h1 := ((hC c ((hcom c).2 h)).2 o g).2 k; have e : eT pre nB = ofL (nrm (toL pre) []) := by rw [<- fu (eT pre nB), uT]; rfl
    rw [<- e]; exact h1.1
  | @sub d q o e h g k m hd t ih =>
    have h1 := ((hD _ ih).2 o g).2 k e m; have e1 : toL (gJ (ofL (nrm (toL pre) q)) e.nm) = nrm (toL pre) q ++ (toL e.nm ++ [47]) := by rw [oI, eD, List.append_assoc]
    have h2 := h1.1 hd (by rw [e1, ug, <- List.append_assoc]; exact t); have e2 : eT pre (gJ (ofL (nrm (toL pre) q)) e.nm) = ofL (nrm (toL pre) (q ++ toL e.nm ++ [47])) := by
     rw [<- fu (eT _ _), uT, e1, vQ, List.append_assoc]
    rw [e2] at h2; exact h2
 have hN : ∀ {d : Dig} {k : Int}, Nd p hs stop dep (toL pre) d k -> s.ne d = true /\ ∀ o, ay p d = some o -> o.kind ≠ k -> s.wr = true := by
  intro d k h; cases h with
  | com h => exact ⟨(hC d ((hcom d).2 h)).1, fun o ho hk => ((hC d ((hcom d).2 h)).2 o ho).1 hk⟩
  | dir h => exact ⟨(hD _ (hP h)).1, fun o ho hk => ((hD _ (hP h)).2 o ho).1 hk⟩
  | @blob d q o e h g k m hd t =>
    refine (((hD _ (hP h)).2 o g).2 k e m).2 hd ?_; rw [iJ, eD, wJ]; exact t
 refine ⟨fun d => ⟨hS.ne d, fun ⟨k, h⟩ => (hN h).1⟩, ⟨hS.wr, fun ⟨d, k, o, h1, h2, h3⟩ => (hN h1).2 o h2 h3⟩, fun d => ⟨hS.ed d, fun ⟨h, o, x, g, k, m, hx⟩ => ?_⟩⟩; refine (((hC d ((hcom d).2 h)).2 o g).2 k).2 ⟨x, m, ?_⟩; cases hc : com x with
 | false => rfl
 | true => exact absurd ((hcom x).1 hc) hx
end
section
variable {p : List Itm} {hs : List Dig} {stop : Dig -> Prop} {dep : Int} {n : Nat} {seen : Dig -> Bool} {level : List Dig}
structure LvI (p : List Itm) (hs : List Dig) (stop : Dig -> Prop) (dep : Int) (n : Nat) (seen : Dig -> Bool) (level : List Dig) : Prop where
 snd : ∀ d, seen d = true -> NC p hs stop dep d
 cpl : ∀ k d, k < n -> Lv p hs stop k d -> seen d = true
 lv : ∀ d ∈ level, Lv p hs stop n d
 nx : ∀ d, Lv p hs stop n d -> d ∈ level ∨ seen d = true
 from_ : ∀ d, seen d = true -> ∃ k, k < n /\ Lv p hs stop k d
theorem LvI.start (p : List Itm) (hs : List Dig) (stop : Dig -> Prop) (dep : Int) : LvI p hs stop dep 0 (fun _ => false) hs where
 snd d h := by cases h
 cpl k d h := by omega
 lv d h := .head h
 nx d h := by cases h with | head h => exact .inl h
 from_ d h := by cases h
structure LvJ (p : List Itm) (hs : List Dig) (stop : Dig -> Prop) (dep : Int) (n : Nat) (level : List Dig) (j : Nat) (seen : Dig -> Bool) (next : List Dig) : Prop where
 snd : ∀ d, seen d = true -> NC p hs stop dep d
 cpl : ∀ k d, k < n -> Lv p hs stop k d -> seen d = true
 lv : ∀ d ∈ level, Lv p hs stop n d
 nx : ∀ d, Lv p hs stop n d -> d ∈ level ∨ seen d = true
 from_ : ∀ d, seen d = true -> ∃ k, k < n + 1 /\ Lv p hs stop k d
 done : ∀ d ∈ level.take j, seen d = true
 ln : ∀ d ∈ next, Lv p hs stop (n + 1) d
 pars : ∀ d, seen d = true -> ∀ o, ay p d = some o -> o.kind = 3 -> ¬ stop d -> ∀ x ∈ o.pars, x ∈ next ∨ ∃ k, k <= n /\ Lv p hs stop k x
theorem LvI.into (h : LvI p hs stop dep n seen level) : LvJ p hs stop dep n level 0 seen [] where
 snd := h.snd
 cpl := h.cpl
 lv := h.lv
 nx := h.nx
 from_ d hd := by obtain ⟨k, h1, h2⟩ := h.from_ d hd; exact ⟨k, by omega, h2⟩
 done d hd := by simp at hd
 ln d hd := by cases hd
 pars d hd o g k s x hx := by
  obtain ⟨k', hk, hl⟩ := h.from_ d hd; exact .inr ⟨k' + 1, by omega, .par hl g k s hx⟩
variable {j : Nat} {next : List Dig} {d : Dig}
theorem LvJ.skip (h : LvJ p hs stop dep n level j seen next) (hd : level[j]? = some d) (hs' : seen d = true) : LvJ p hs stop dep n level (j + 1) seen next :=
 ⟨h.snd, h.cpl, h.lv, h.nx, h.from_, (fun x hx => by
   rw [tK hd] at hx; rcases List.mem_append.1 hx with hx | hx
   . exact h.done x hx
   . rw [List.mem_singleton.1 hx]; exact hs'), h.ln, h.pars⟩
def dm (o : Option Ob) (st : Bool) (next : List Dig) : List Dig := match o with
 | some o => if o.kind = 3 /\ st = false then next ++ o.pars else next
 | none => next
theorem LvJ.take (h : LvJ p hs stop dep n level j seen next) (hd : level[j]? = some d) (hn : dep = 0 ∨ (n : Int) < dep) {st : Bool} (hst : st = true ↔ stop d) :
  LvJ p hs stop dep n level (j + 1) (aK seen d) (dm (ay p d) st next) := by
 have hl : Lv p hs stop n d := h.lv d (List.mem_of_getElem? hd); have hsub : ∀ x, x ∈ next -> x ∈ dm (ay p d) st next := fun x hx => by
  unfold dm; split
  . split
    . exact List.mem_append_left _ hx
    . exact hx
  . exact hx
 refine ⟨fun x hx => ?_, fun k x hk hx => setB_true.2 (.inr (h.cpl k x hk hx)), h.lv, fun x hx => (h.nx x hx).imp_right fun hh => setB_true.2 (.inr hh), fun x hx => ?_, fun x hx => ?_, fun x hx => ?_, fun x hx o g k s y hy => ?_⟩
 . rcases setB_true.1 hx with rfl | hx
   . exact ⟨n, hl, hn⟩
   . exact h.snd x hx
 . rcases setB_true.1 hx with rfl | hx
   . exact ⟨n, by omega, hl⟩
   . exact h.from_ x hx
 . rw [tK hd] at hx
   rcases List.mem_append.1 hx with hx | hx
   . exact setB_true.2 (.inr (h.done x hx))
   . exact setB_true.2 (.inl (List.mem_singleton.1 hx))
 . unfold dm at hx
   split at hx
   . rename_i o ho
     split at hx
     . rename_i hk
       rcases List.mem_append.1 hx with hx | hx
       . exact h.ln x hx
       . exact .par hl ho hk.1 (fun hh => by have := hst.2 hh; rw [hk.2] at this; cases this) hx
     . exact h.ln x hx
   . exact h.ln x hx
 . rcases setB_true.1 hx with rfl | hx
   . refine .inl ?_
     unfold dm; rw [g]; simp only; rw [if_pos ⟨k, by cases hb : st with | false => rfl | true => exact absurd (hst.1 hb) s⟩]; exact List.mem_append_right _ hy
   . exact (h.pars x hx o g k s y hy).imp_left (hsub y)
theorem LvJ.nextLv (h : LvJ p hs stop dep n level level.length seen next) : LvI p hs stop dep (n + 1) seen next where
 snd := h.snd
 cpl k d hk hl := by
  by_cases e : k = n
  . subst e
    rcases h.nx d hl with hd | hd
    . exact h.done d (by rw [List.take_length]; exact hd)
    . exact hd
  . exact h.cpl k d (by omega) hl
 lv := h.ln
 from_ := h.from_
 nx x hx := by
  cases hx with
  | par hl g k s m =>
    rename_i d o
    have hd : seen d = true := by
     rcases h.nx d hl with hd | hd
     . exact h.done d (by rw [List.take_length]; exact hd)
     . exact hd
    rcases h.pars d hd o g k s x m with hx | ⟨k', hk', hl'⟩
    . exact .inl hx
    . refine .inr ?_
      by_cases e : k' = n
      . subst e
        rcases h.nx x hl' with hx | hx
        . exact h.done x (by rw [List.take_length]; exact hx)
        . exact hx
      . exact h.cpl k' x (by omega) hl'
theorem LvI.fin (h : LvI p hs stop dep n seen []) (d : Dig) : seen d = true ↔ NC p hs stop dep d := by
 refine ⟨h.snd d, fun ⟨k, hl, _⟩ => ?_⟩; have hx : ∀ x, Lv p hs stop n x -> seen x = true := fun x hx => (h.nx x hx).resolve_left (by simp); have hall : ∀ (i : Nat) (x : Dig), Lv p hs stop i x -> ∃ k, k <= n /\ Lv p hs stop k x := by
  intro i x hx'
  induction hx' with
  | head hh => exact ⟨0, Nat.zero_le _, .head hh⟩
  | @par i c y o hc g k s m ih =>
    obtain ⟨k', hk', hl'⟩ := ih; by_cases e : k' < n
    . exact ⟨k' + 1, by omega, .par hl' g k s m⟩
    . have e' : k' = n := by omega
      subst e'; have hsn : seen c = true := hx c hl'; obtain ⟨k2, h2, hl2⟩ := h.from_ c hsn; exact ⟨k2 + 1, by omega, .par hl2 g k s m⟩
 obtain ⟨k', hk', hl'⟩ := hall k d hl; by_cases e : k' = n
 . subst e; exact hx d hl'
 . exact h.cpl k' d (by omega) hl'
theorem LvI.cut (h : LvI p hs stop dep n seen level) (h0 : dep ≠ 0) (hn : dep <= n) (d : Dig) : seen d = true ↔ NC p hs stop dep d :=
 ⟨h.snd d, fun ⟨k, hl, hk⟩ => h.cpl k d (by omega) hl⟩
theorem LvJ.cut (h : LvJ p hs stop dep n level j seen next) (h0 : dep ≠ 0) (hn : dep <= n) (d : Dig) : seen d = true ↔ NC p hs stop dep d :=
 ⟨h.snd d, fun ⟨k, hl, hk⟩ => h.cpl k d (by omega) hl⟩
end
section
variable {p : List Itm} {com : Dig -> Bool} {pre : ByteArray} {hs : List Dig} {stop : Dig -> Prop} {dep : Int} {s s' : WkS}
def Frs (s s' : WkS) : Prop := ∀ x, s'.me x = true -> s.me x = true ∨ x ∈ s'.op
theorem Frs.refl (s : WkS) : Frs s s := fun _ h => .inl h
theorem Frs.trans {a b c : WkS} (h : Frs a b) (l : LeS b c) (k : Frs b c) : Frs a c := fun x hx => by
 rcases k x hx with hx | hx
 . exact (h x hx).imp_right (l.op x)
 . exact .inr hx
theorem wP (s : WkS) (d : Dig) (k : Int) : (aL p s d k).1.me = s.me /\ (aL p s d k).1.op = s.op := by
 unfold aL; split
 . exact ⟨rfl, rfl⟩
 . split <;> exact ⟨rfl, rfl⟩
theorem nY (s : WkS) (d : Dig) (k : Int) : Frs s (aL p s d k).1 := fun x hx => .inl (by rw [(wP s d k).1] at hx; exact hx)
theorem uy (s : WkS) (x : Pla) : Frs s (bY s x) := by
 unfold bY; split
 . exact .refl s
 . intro y hy
   rcases setB_true.1 hy with rfl | hy
   . exact .inr (List.mem_append_right _ (by simp))
   . exact .inl hy
theorem vB (s : WkS) (d : Dig) (q : ByteArray) : Frs s (bH pre s d q) := by
 unfold bH; split
 . exact uy _ _
 . split
   . exact uy _ _
   . exact .refl s
theorem Dr (s : WkS) (c : Dig) : Frs s (dA p com pre s c) := by
 unfold dA; have h1 := nY (p := p) s c 3; split
 . rename_i s1 h; rw [h] at h1; exact h1
 . rename_i s1 o h
   rw [h] at h1; have h2 := h1.trans (jS (pre := pre) s1 o.tree nB) (vB s1 o.tree nB); split
   . exact fun x hx => h2 x hx
   . exact h2
theorem CQ (q : ByteArray) (s : WkS) (e : Ent) : Frs s (bz p pre q s e) := by
 unfold bz; split
 . exact vB _ _ _
 . split
   . exact nY _ _ _
   . exact .refl s
theorem vE (q : ByteArray) : ∀ (l : List Ent) (s : WkS), Frs s (l.foldl (bz p pre q) s)
 | [], s => .refl s
 | e :: l, s => (CQ q s e).trans (gV q l _) (vE q l _)
theorem CP (s : WkS) (x : Pla) : Frs s (bV p pre s x) := by
 unfold bV; have h1 := nY (p := p) s x.1 2; split
 . rename_i s1 h; rw [h] at h1; exact h1
 . rename_i s1 o h
   rw [h] at h1; exact h1.trans (gV _ _ _) (vE _ _ _)
structure WkI (p : List Itm) (hs : List Dig) (stop : Dig -> Prop) (dep : Int) (pre : ByteArray) (com : Dig -> Bool) (dn : Dig -> Prop) (s : WkS) : Prop where
 snd : Snd p hs stop dep pre s
 cdn : ∀ c, dn c -> CDn p com pre s c
 dnp : ∀ x, s.me x = true -> x ∈ s.op ∨ Dn p pre s x
variable {dn : Dig -> Prop}
def s0S : WkS := ⟨fun _ => false, fun _ => false, fun _ => false, [], false⟩
theorem WkI.start : WkI p hs stop dep pre com (fun _ => False) s0S :=
 ⟨⟨(fun d h => by cases h), (fun d h => by cases h), (fun d h => by cases h), (fun h => by cases h), (fun d h => by cases h)⟩, (fun c h => h.elim), (fun x h => by cases h)⟩
theorem WkI.comm (h : WkI p hs stop dep pre com dn s) {c : Dig} (hc : NC p hs stop dep c) (hcom : ∀ d, com d = true ↔ NC p hs stop dep d) : WkI p hs stop dep pre com (fun d => dn d ∨ d = c) (dA p com pre s c) where
 snd := h.snd.comm hc hcom
 cdn d hd := by
  rcases hd with hd | rfl
  . exact (h.cdn d hd).mono (pg s c)
  . exact Et s d
 dnp x hx := by
  rcases Dr s c x hx with hx | hx
  . rcases h.dnp x hx with hx | hx
    . exact .inl ((pg s c).op x hx)
    . exact .inr (hx.mono (pg s c))
  . exact .inl hx
theorem WkI.pop (h : WkI p hs stop dep pre com dn s) {l : List Pla} {x : Pla} (hl : s.op = l ++ [x]) : WkI p hs stop dep pre com dn (bV p pre { s with op := l } x) where
 snd := (h.snd.pop (fun y hy => by rw [hl]; exact List.mem_append_left _ hy)).vis (h.snd.op x (by rw [hl]; simp))
 cdn d hd := CDn.mono (pq _ x) (show CDn p com pre { s with op := l } d from h.cdn d hd)
 dnp y hy := by
  have hle := pq (p := p) (pre := pre) { s with op := l } x; rcases CP { s with op := l } x y hy with hy | hy
  . rcases h.dnp y hy with hy | hy
    . rw [hl] at hy
      rcases List.mem_append.1 hy with hy | hy
      . exact .inl (hle.op y hy)
      . rw [List.mem_singleton.1 hy]; exact .inr (FC _ x)
    . exact .inr (Dn.mono hle (show Dn p pre { s with op := l } y from hy))
  . exact .inl hy
theorem WkI.end_ (h : WkI p hs stop dep pre com dn s) (hcom : ∀ d, com d = true ↔ NC p hs stop dep d) (hdn : ∀ d, com d = true -> dn d) (ho : s.op = []) :
  (∀ d, s.ne d = true ↔ Need p hs stop dep (toL pre) d) /\ (s.wr = true ↔ bZ p hs stop dep (toL pre)) /\ ∀ d, s.ed d = true ↔ dZ p hs stop dep d :=
 Co h.snd hcom (fun c hc => h.cdn c (hdn c hc)) (fun x hx => (h.dnp x hx).resolve_left (by rw [ho]; simp))
/-! ### the measure -/
noncomputable def mM (p : List Itm) : List Dig := p.flatMap fun i => (fw i.2).tree :: (fw i.2).ents.map Ent.dg
noncomputable def fP (p : List Itm) (pre : ByteArray) : List Pla := (mM p).flatMap fun d => (List.range ((toL pre).length + 1)).map fun i => (d, ofL ((toL pre).take i))
theorem oz (hp : PlOk p) {d : Dig} {o : Ob} (h : ay p d = some o) : ∃ i ∈ p, fw i.2 = o := by
 have h1 := (dR hp).1 h; exact ⟨_, h1.2, fq h1.1⟩
theorem xB (hp : PlOk p) {d : Dig} {q : Bytes} (h : Plc p hs stop dep (toL pre) d q) : d ∈ mM p /\ touch (toL pre) q := by
 cases h with
 | root h g k =>
   obtain ⟨i, hi, e⟩ := oz hp g; exact ⟨List.mem_flatMap.2 ⟨i, hi, by rw [e]; simp⟩, uu _⟩
 | sub h g k m hd t =>
   obtain ⟨i, hi, e⟩ := oz hp g; exact ⟨List.mem_flatMap.2 ⟨i, hi, by rw [e]; exact List.mem_cons_of_mem _ (List.mem_map_of_mem m)⟩, t⟩
theorem vP {a q : Bytes} (h : touch a q) : nrm a q <+: a := by
 unfold nrm; split
 . exact List.prefix_refl _
 . rename_i hn; exact h.resolve_left hn
theorem Snd.inU (hp : PlOk p) (h : Snd p hs stop dep pre s) {x : Pla} (hx : s.me x = true) : x ∈ fP p pre := by
 obtain ⟨q, h1, h2⟩ := h.me x hx; obtain ⟨h3, h4⟩ := xB hp h1; have h5 := vP h4; rw [h2] at h5; refine List.mem_flatMap.2 ⟨x.1, h3, List.mem_map.2 ⟨(toL x.2).length, List.mem_range.2 (by have := h5.length_le; omega), ?_⟩⟩; rw [<- List.prefix_iff_eq_take.1 h5, fu]
theorem Snd.short (h : Snd p hs stop dep pre s) (hp : PlOk p) {x : Pla} (hx : s.me x = true) : toL x.2 <+: toL pre := by
 obtain ⟨q, h1, h2⟩ := h.me x hx; rw [<- h2]; exact vP (xB hp h1).2
noncomputable def fQ (p : List Itm) (pre : ByteArray) (s : WkS) : Nat := (fP p pre).countP fun x => s.me x
theorem lL (s : WkS) : fQ p pre s <= (fP p pre).length := List.countP_le_length
theorem uI {α : Type} {f g : α -> Bool} (hfg : ∀ x, f x = true -> g x = true) : ∀ {l : List α} {y : α}, y ∈ l -> f y = false -> g y = true -> l.countP f + 1 <= l.countP g
 | a :: l, y, hy, h1, h2 => by
   rw [List.countP_cons, List.countP_cons]; rcases List.mem_cons.1 hy with rfl | hy
   . rw [if_neg (by rw [h1]; decide), if_pos h2]
     have := List.countP_mono_left (l := l) (p := f) (q := g) fun x _ => hfg x; omega
   . have := uI hfg hy h1 h2
     have h3 : (if f a = true then 1 else 0) <= (if g a = true then 1 else 0) := by
      by_cases e : f a = true
      . rw [if_pos e, if_pos (hfg a e)]; exact Nat.le_refl _
      . rw [if_neg e]; omega
     omega
def Msr (p : List Itm) (pre : ByteArray) (s s' : WkS) : Prop := s'.op.length + fQ p pre s <= s.op.length + fQ p pre s'
theorem Msr.refl (s : WkS) : Msr p pre s s := Nat.le_refl _
theorem Msr.trans {a b c : WkS} (h : Msr p pre a b) (k : Msr p pre b c) : Msr p pre a c := by unfold Msr at *; omega
theorem Msr.get (s : WkS) (d : Dig) (k : Int) : Msr p pre s (aL p s d k).1 := by
 have := wP (p := p) s d k; unfold Msr fQ; rw [this.1, this.2]; exact Nat.le_refl _
theorem Msr.push (s : WkS) {x : Pla} (hx : x ∈ fP p pre) : Msr p pre s (bY s x) := by
 unfold bY; split
 . exact .refl s
 . rename_i hn
   have := uI (f := s.me) (g := aK s.me x) (fun y hy => setB_true.2 (.inr hy)) hx (by simpa using hn) (setB_true.2 (.inl rfl)); show (s.op ++ [x]).length + (fP p pre).countP s.me <= s.op.length + (fP p pre).countP (aK s.me x); rw [List.length_append]; simp only [List.length_cons, List.length_nil]; omega
theorem C8 (hp : PlOk p) {s : WkS} {d : Dig} {q : ByteArray} (h : Snd p hs stop dep pre (bH pre s d q)) : Msr p pre s (bH pre s d q) := by
 unfold bH at h ⊢; split
 . rename_i h1
   rw [if_pos h1] at h; exact .push s (h.inU hp (l7 s _))
 . rename_i h1
   rw [if_neg h1] at h; split
   . rename_i h2
     rw [if_pos h2] at h; exact .push s (h.inU hp (l7 s _))
   . exact .refl s
theorem Cg (hp : PlOk p) {s : WkS} {q : ByteArray} {e : Ent} (h : Snd p hs stop dep pre (bz p pre q s e)) : Msr p pre s (bz p pre q s e) := by
 unfold bz at h ⊢; split
 . rename_i h1
   rw [if_pos h1] at h; exact C8 hp h
 . split
   . exact .get _ _ _
   . exact .refl s
theorem oG (hp : PlOk p) {d : Dig} {q : ByteArray} {q' : Bytes} {o : Ob} (hd : Plc p hs stop dep (toL pre) d q') (hq : nrm (toL pre) q' = toL q) (ho : ay p d = some o) (hk : o.kind = 2) :
  ∀ (l : List Ent) (s : WkS), (∀ e ∈ l, e ∈ o.ents) -> Snd p hs stop dep pre s -> Msr p pre s (l.foldl (bz p pre q) s)
 | [], s, _, _ => .refl s
 | e :: l, s, hl, h =>
   have h1 := h.ent hd hq ho hk (hl e (by simp))
   (Cg hp h1).trans (oG hp hd hq ho hk l _ (fun x hx => hl x (List.mem_cons_of_mem _ hx)) h1)
theorem CZ (hp : PlOk p) {s : WkS} (h : Snd p hs stop dep pre s) {x : Pla} (hx : s.me x = true) : Msr p pre s (bV p pre s x) := by
 obtain ⟨q', hd, hq⟩ := h.me x hx; have h0 : Msr p pre s (aL p s x.1 2).1 := .get _ _ _; have h1 : Snd p hs stop dep pre (aL p s x.1 2).1 := h.get (.dir hd); unfold bV; split
 . rename_i s1 e; rw [e] at h0; exact h0
 . rename_i s1 o e
   rw [e] at h0 h1; obtain ⟨ho, hk⟩ := iC e; exact h0.trans (oG hp hd hq ho hk _ _ (fun _ h => h) h1)
noncomputable def vS (p : List Itm) (pre : ByteArray) (s : WkS) : Nat := s.op.length + ((fP p pre).length - fQ p pre s)
theorem CG (hp : PlOk p) {s : WkS} (h : Snd p hs stop dep pre s) {l : List Pla} {x : Pla} (hl : s.op = l ++ [x]) : vS p pre (bV p pre { s with op := l } x) + 1 <= vS p pre s := by
 have h1 := CZ hp (h.pop (l := l) (fun y hy => by rw [hl]; exact List.mem_append_left _ hy)) (show ({ s with op := l } : WkS).me x = true from h.op x (by rw [hl]; simp)); have h2 : s.op.length = l.length + 1 := by rw [hl]; simp
 have h3 := lL (p := p) (pre := pre) (bV p pre { s with op := l } x); have h4 := lL (p := p) (pre := pre) s; have h5 : (bV p pre { s with op := l } x).op.length + fQ p pre s <= l.length + fQ p pre (bV p pre { s with op := l } x) := h1; unfold vS; omega
theorem ky {α β : Type} {f : α -> List β} {n : Nat} : ∀ (l : List α), (∀ x ∈ l, (f x).length <= n) -> (l.flatMap f).length <= l.length * n
 | [], _ => by simp
 | x :: l, h => by
   rw [List.flatMap_cons, List.length_append, List.length_cons, Nat.succ_mul]; have h1 := h x (by simp); have h2 := ky l fun y hy => h y (List.mem_cons_of_mem _ hy); omega
theorem wC {o : Ob} (h : OkO o) : o.ents.length <= 200 := by
 cases h.f with
 | blob _ e => rw [e]; simp
 | tree _ _ _ e => exact e.few
 | commit _ _ e => rw [e]; simp
theorem Dw (hp : PlOk p) : (mM p).length <= p.length * 201 :=
 ky p fun i hi => by
  obtain ⟨o, ho, e⟩ := hp.1 i hi; rw [e, fq ho, List.length_cons, List.length_map]; have := wC ho; omega
theorem Db (hp : PlOk p) : (fP p pre).length <= p.length * 201 * ((toL pre).length + 1) :=
 Nat.le_trans (ky (n := (toL pre).length + 1) (mM p) fun d _ => by simp) (Nat.mul_le_mul_right _ (Dw hp))
theorem AB (hp : PlOk p) (hn : p.length <= 40) (hq : (toL pre).length <= 100) : (fP p pre).length <= 812040 := by
 have h1 := Db (pre := pre) hp; have h2 : p.length * 201 * ((toL pre).length + 1) <= 40 * 201 * 101 := Nat.mul_le_mul (Nat.mul_le_mul_right _ hn) (by omega); omega
end
def bJ (pre : List (Dig × Nat)) : Dig -> Bool := fun d => decide (d ∈ pre.map Prod.fst)
theorem seenD_true {pre : List (Dig × Nat)} {d : Dig} : bJ pre d = true ↔ d ∈ pre.map Prod.fst := by unfold bJ; rw [decide_eq_true_iff]
theorem nD (pre : List (Dig × Nat)) (d : Dig) (n : Nat) : bJ (pre ++ [(d, n)]) = aK (bJ pre) d := by
 funext y
 rw [Bool.eq_iff_iff, setB_true, seenD_true, seenD_true, List.map_append, List.mem_append]; simp; exact or_comm
structure DiE (p : List Itm) (hs : List Dig) (stop : Dig -> Prop) (pre : List (Dig × Nat)) : Prop where
 lv : ∀ x ∈ pre, Lv p hs stop x.2 x.1
 low : ∀ q x, pre = q ++ [x] -> ∀ k, k < x.2 -> ∀ d, Lv p hs stop k d -> d ∈ q.map Prod.fst
 nod : (pre.map Prod.fst).Nodup
def DiS (p : List Itm) (hs : List Dig) (stop : Dig -> Prop) (xs : List (Dig × Nat)) : Prop := (∀ x ∈ xs, Lv p hs stop x.2 x.1) /\ (∀ d n, Lv p hs stop n d -> d ∈ xs.map Prod.fst) /\ (xs.map Prod.fst).Nodup
structure DiI (p : List Itm) (hs : List Dig) (stop : Dig -> Prop) (n : Nat) (level : List Dig) (pre : List (Dig × Nat)) : Prop where
 li : LvI p hs stop 0 n (bJ pre) level
 lv : ∀ x ∈ pre, Lv p hs stop x.2 x.1
 nod : (pre.map Prod.fst).Nodup
structure DiJ (p : List Itm) (hs : List Dig) (stop : Dig -> Prop) (n : Nat) (level : List Dig) (j : Nat) (pre : List (Dig × Nat)) (next : List Dig) : Prop where
 lj : LvJ p hs stop 0 n level j (bJ pre) next
 lv : ∀ x ∈ pre, Lv p hs stop x.2 x.1
 nod : (pre.map Prod.fst).Nodup
section
variable {p : List Itm} {hs : List Dig} {stop : Dig -> Prop} {n j : Nat} {level next : List Dig} {pre : List (Dig × Nat)} {d : Dig}
theorem DiI.start (p : List Itm) (hs : List Dig) (stop : Dig -> Prop) : DiI p hs stop 0 hs [] where
 li := by
  have e : bJ [] = fun _ => false := by funext d; simp [bJ]
  rw [e]; exact LvI.start p hs stop 0
 lv := fun x hx => by cases hx
 nod := List.nodup_nil
theorem DiI.into (h : DiI p hs stop n level pre) : DiJ p hs stop n level 0 pre [] := ⟨h.li.into, h.lv, h.nod⟩
theorem DiI.fin (h : DiI p hs stop n [] pre) : DiS p hs stop pre := ⟨h.lv, fun d k hk => seenD_true.1 ((h.li.fin d).2 ⟨k, hk, .inl rfl⟩), h.nod⟩
theorem DiJ.skip (h : DiJ p hs stop n level j pre next) (hd : level[j]? = some d) (hs' : bJ pre d = true) : DiJ p hs stop n level (j + 1) pre next := ⟨h.lj.skip hd hs', h.lv, h.nod⟩
theorem DiJ.yields (h : DiJ p hs stop n level j pre next) (hd : level[j]? = some d) (hs' : bJ pre d = false) : DiE p hs stop (pre ++ [(d, n)]) where
 lv x hx := by
  rcases List.mem_append.1 hx with hx | hx
  . exact h.lv x hx
  . rw [List.mem_singleton.1 hx]; exact h.lj.lv d (List.mem_of_getElem? hd)
 low q x e k hk c hc := by
  obtain ⟨rfl, e2⟩ := List.append_inj' e rfl; cases e2
  exact seenD_true.1 (h.lj.cpl k c hk hc)
 nod := by
  rw [List.map_append]; refine List.nodup_append.2 ⟨h.nod, by simp, fun a ha b hb => ?_⟩; rintro rfl; simp at hb; subst hb; have := seenD_true.2 ha; rw [hs'] at this; cases this
theorem DiJ.take (h : DiJ p hs stop n level j pre next) (hd : level[j]? = some d) (hs' : bJ pre d = false) {st : Bool} (hst : st = true ↔ stop d) : DiJ p hs stop n level (j + 1) (pre ++ [(d, n)]) (dm (ay p d) st next) where
 lj := by rw [nD]; exact h.lj.take hd (.inl rfl) hst
 lv := (h.yields hd hs').lv
 nod := (h.yields hd hs').nod
theorem DiJ.nextLv (h : DiJ p hs stop n level level.length pre next) : DiI p hs stop (n + 1) next pre := ⟨h.lj.nextLv, h.lv, h.nod⟩
noncomputable def eY (p : List Itm) (hs : List Dig) : List Dig := hs ++ p.flatMap fun i => (fw i.2).pars
theorem Fv (hp : PlOk p) (h : Lv p hs stop n d) : d ∈ eY p hs := by
 cases h with
 | head h => exact List.mem_append_left _ h
 | par _ g _ _ m =>
   obtain ⟨i, hi, e⟩ := oz hp g; exact List.mem_append_right _ (List.mem_flatMap.2 ⟨i, hi, by rw [e]; exact m⟩)
theorem uL {α : Type} [DecidableEq α] {l m : List α} (h : l.Nodup) (hs : ∀ x ∈ l, x ∈ m) : l.length <= m.length := by
 induction l generalizing m with
 | nil => simp
 | cons a l ih =>
   have h1 := List.nodup_cons.1 h; have h2 := ih (m := m.erase a) h1.2 fun x hx => (List.mem_erase_of_ne (fun e => h1.1 (by rw [<- e]; exact hx))).2 (hs x (List.mem_cons_of_mem _ hx)); have h3 := List.length_erase_of_mem (hs a (by simp)); have h4 : 0 < m.length := List.length_pos_of_mem (hs a (by simp)); rw [List.length_cons]; omega
theorem iY (hp : PlOk p) (h1 : ∀ x ∈ pre, Lv p hs stop x.2 x.1) (h2 : (pre.map Prod.fst).Nodup) : pre.length <= (eY p hs).length := by
 have := uL h2 (m := eY p hs) fun x hx => by
  obtain ⟨y, hy, rfl⟩ := List.mem_map.1 hx; exact Fv hp (h1 y hy)
 rwa [List.length_map] at this
theorem BS (st : Bool) (h : ∀ o, ay p d = some o -> o.kind ≠ 3) : dm (ay p d) st next = next := by
 unfold dm; split
 . rename_i o ho; rw [if_neg fun hh => h o ho hh.1]
 . rfl
theorem BJ {o : Ob} (h : ay p d = some o) : dm (ay p d) true next = next := by
 rw [h]; unfold dm; simp
theorem Ej {o : Ob} (h : ay p d = some o) (hk : o.kind = 3) : dm (ay p d) false next = next ++ o.pars := by
 rw [h]; unfold dm; simp [hk]
variable {dep : Int}
theorem DiE.cut {q : List (Dig × Nat)} {x : Dig × Nat} (h : DiE p hs stop (q ++ [x])) (h0 : dep ≠ 0) (hx : dep <= x.2) (hq : ∀ y ∈ q, (y.2 : Int) < dep) (d : Dig) : d ∈ q.map Prod.fst ↔ NC p hs stop dep d := by
 constructor
 . intro hd
   obtain ⟨y, hy, rfl⟩ := List.mem_map.1 hd; exact ⟨y.2, h.lv y (List.mem_append_left _ hy), .inr (hq y hy)⟩
 . rintro ⟨k, hl, hk⟩
   exact h.low q x rfl k (by omega) d hl
theorem DiS.all {xs : List (Dig × Nat)} (h : DiS p hs stop xs) (hq : ∀ y ∈ xs, dep = 0 ∨ (y.2 : Int) < dep) (d : Dig) : d ∈ xs.map Prod.fst ↔ NC p hs stop dep d := by
 constructor
 . intro hd
   obtain ⟨y, hy, rfl⟩ := List.mem_map.1 hd; exact ⟨y.2, h.1 y hy, hq y hy⟩
 . rintro ⟨k, hl, _⟩
   exact h.2.1 d k hl
end
end Go.Proofs.YtlcecobipgmafaaGreatDoor
