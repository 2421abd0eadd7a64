/-
  Lemmas: tree.Store. The union of two pools: where the merging of two ascending lists stands; in plain Lean. Partial clones: what is needed of a pool, in plain Lean: commits by levels, directories by places, and the laws of clones. The laws of partial clones, in plain Lean: what Needed, Missing and Reach answer is one thing; a clone lacks nothing, without one object it lacks this; a greater scope needs more; the whole clone is what is reached. The chapter's example: a pool with three commits; in plain Lean. The chapter's example: what is needed of it; in plain Lean. cordwoodlaw14.chain. The walk that finds what is needed, in plain Lean: its state, its steps, and that at its end it has found what is needed. The commits by levels, in plain Lean: where the search for them stands, and what it has found at its end. The walk's invariant and its measure, in plain Lean. The commits with their distances, in plain Lean: what distances yields.
-/
import Derived.Test.YtlcecobipgmafaaGreatDoorP7
import Derived.Test.YtlcecobipgmafaaGreatDoorP4
import Derived.Test.YtlcecobipgmafaaGreatDoorP2
import Derived.Test.YtlcecobipgmafaaGreatDoorP3

namespace Go.Proofs.YtlcecobipgmafaaGreatDoor
open Go.RowKit

def StrE (p : List Itm) (l : List Fl) (w : World) (e : Ending) (w' : World) : Prop :=
  ((∃ z, TckR l z ∧ z ≠ 0 ∧ e = .returned (.tuple #[.slice none 0 0, digV zD, .int .i64 z])) ∨
   (TckR l 0 ∧ ((∃ q d A c, sto 101 p l = some (q, d) ∧ StoR p q d l ∧ e = .returned (.tuple #[.slice A q.length c, digV d, .int .i64 0]) ∧ Sl w' w'.heap.size 3 A q.length (flat itC q) ∧ q.length ≤ c ∧ c ≤ maxLen) ∨ (sto 101 p l = none ∧ e = .returned (.tuple #[.slice none 0 0, digV zD, .int .i64 16]))))) ∧ Below w.heap.size w w'
theorem wt_ok {l : List Fl} (h : OkL l) : wt l ≤ 20200 := by
  have h1 := wt_le (l := l) (k := 100) (fun f hf => path_len (h.path f hf))
  have h2 := h.few
  have : (100 + 1) * l.length ≤ 101 * 200 := Nat.mul_le_mul_left 101 h2
  omega
set_option maxRecDepth 100000 in
set_option maxHeartbeats 4000000 in
theorem tstore_any (A : Option Addr) (n c B : Nat) (p : List Itm) (A1 : Option Addr) (m c1 : Nat) (l : List Fl) (w : World) (h0 : Sl w B 3 A n (flat itC p)) (h1 : Sl w B 2 A1 m (flat flC l)) (hB : B ≤ w.heap.size) (hnc : n ≤ c) (hcm : c ≤ maxLen) (hn : n ≤ 700000) (hm : m ≤ 1000000) (hp : PlOk p) (hsz : ∀ f ∈ l, f.1.size ≤ 1000000 ∧ f.2.size ≤ 60000) :
    Calls Tryz.prog 46 #[.slice A n c, .slice A1 m c1] w (StrE p l w) := by
  have HP := Lib.hid hp; have H0 := Lib.hid h0; have H1 := Lib.hid h1; have HSZ := Lib.hid hsz; have HNC := Lib.hid hnc; have HCM := Lib.hid hcm
  obtain ⟨W, hW⟩ : ∃ W, w.alloc (.cells #[.int .u64 0, .int .u64 0] 42) = W := ⟨_, rfl⟩
  have HB0 : Hid (Below w.heap.size w W) := by rw [← hW]; exact (Below.refl _ w).alloc (Nat.le_refl _) _
  have HD : Hid (Bk W w.heap.size 42 #[.int .u64 0, .int .u64 0]) := by rw [← hW]; exact Bk.new w _ _
  have HC := Lib.hid (tcheck_any A1 m c1 B l W (h1.below HB0.out hB) (Nat.le_trans hB HB0.out.size) hm hsz)
  have HW := Lib.hid hW
  have zW : w.heap.size < W.heap.size := HD.out.lt
  clear hp h0 h1 hsz hnc hcm hW
  go_enter Tryz.func46, Tryz.ntmps46
  go_wp2_with fail
  rw [HW.out]
  refine HC.out.mono ?_
  rintro e w2 ⟨z, rfl, hz, hb⟩
  have HZ := Lib.hid hz
  have HB2 : Hid (Below w.heap.size w w2) := HB0.out.trans (hb.mono HB0.out.size)
  have HD2 := Lib.hid (HD.out.below hb zW)
  obtain ⟨y0, y1, _, _⟩ := HD2.out.two
  have g0 := HD2.out.free 0; have g1 := HD2.out.free 1
  have z2 := hb.size
  clear hz hb HC
  by_cases h0 : z = 0
  · have t1 : (z != 0) = false := by rw [h0]; rfl
    have HZ0 : Hid (TckR l 0) := by show TckR l 0; rw [← h0]; exact HZ.out
    obtain ⟨hok, _⟩ := ck_ok HZ0.out (fun f hf => (HSZ.out f hf).2)
    have hwt := wt_ok hok
    have HS := Lib.hid (store_all 100 l hok (fun f hf => path_len (hok.path f hf)) p A n c A1 m c1 B w2 (H0.out.below HB2.out hB) (H1.out.below HB2.out hB) (Nat.le_trans hB HB2.out.size) HNC.out HCM.out HP.out (by omega))
    unfold StoE at HS
    simp only [digV] at HS
    clear h0 hok hwt
    go_wp2_with fail
    refine HS.out.mono ?_
    rintro e w3 ⟨hq, hb⟩
    have HB3 : Hid (Below w.heap.size w w3) := HB2.out.trans (hb.mono HB2.out.size)
    have HD3 := Lib.hid (HD2.out.below hb (by omega))
    obtain ⟨y0, y1, _, _⟩ := HD3.out.two
    have g0 := HD3.out.free 0; have g1 := HD3.out.free 1
    clear hb HS
    rcases hq with ⟨q, ⟨d1, d2⟩, A2, c2, hs, hr, rfl, hsl, hc2, hm2, _⟩ | ⟨hs, rfl⟩
    · have HN := Lib.hid hs; have HR := Lib.hid hr; have HSL := Lib.hid hsl
      have HNE := Lib.hid (HSL.out.dgbox HD3.out)
      clear hs hr hsl
      go_wp2_with fail
      refine bodyPost_ret (res_pcp Tryz.results46 rfl rfl (HD3.out.set2 _ _) rfl) rfl ⟨.inr ⟨HZ0.out, .inl ⟨q, (d1, d2), A2, c2, HN.out, HR.out, rfl, ?_, hc2, hm2⟩⟩, below_set2 HB3.out (Nat.le_refl _) _ _⟩
      have := HSL.out.ne (b := w.heap.size) HNE.out (fun k hk => (Below.heap_setCell (w3.setCell ⟨w.heap.size, 0, none⟩ (.int .u64 d1)) ⟨w.heap.size, 1, none⟩ (.int .u64 d2) k hk).trans (Below.heap_setCell w3 ⟨w.heap.size, 0, none⟩ (.int .u64 d1) k hk))
      simpa using this
    · have HN := Lib.hid hs
      clear hs
      go_wp2_with fail
      refine bodyPost_ret (res_pcp Tryz.results46 rfl rfl (HD3.out.set2 _ _) rfl) rfl ⟨.inr ⟨HZ0.out, .inr ⟨HN.out, rfl⟩⟩, below_set2 HB3.out (Nat.le_refl _) _ _⟩
  · have t1 : (z != 0) = true := by rw [bne_iff_ne]; exact h0
    have H0' := Lib.hid h0
    clear h0
    go_wp2_with fail
    refine bodyPost_ret (res_pcp Tryz.results46 rfl rfl (HD2.out.set2 _ _) rfl) rfl ⟨.inl ⟨z, HZ.out, H0'.out, rfl⟩, below_set2 HB2.out (Nat.le_refl _) _ _⟩
end Go.Proofs.YtlcecobipgmafaaGreatDoor

namespace Go.Proofs.YtlcecobipgmafaaGreatDoor
open Go.RowKit

structure UAt (a b : List Itm) (i j : Nat) (out : List Itm) : Prop where
  asc : AscI out
  mem : ∀ x, x ∈ out ↔ x ∈ a.take i ∨ x ∈ b.take j
  la : ∀ x ∈ out, ∀ y ∈ a.drop i, ltD x.1 y.1
  lb : ∀ x ∈ out, ∀ y ∈ b.drop j, ltD x.1 y.1
  len : out.length ≤ i + j
structure UniR (a b r : List Itm) : Prop where
  asc : AscI r
  mem : ∀ x, x ∈ r ↔ x ∈ a ∨ x ∈ b
def Clash (a b : List Itm) : Prop := ∃ d x y, (d, x) ∈ a ∧ (d, y) ∈ b ∧ x ≠ y
section
variable {a b out : List Itm} {i j : Nat} {x y : Itm}
theorem UAt.start (a b : List Itm) : UAt a b 0 0 [] :=
  ⟨List.Pairwise.nil, (fun x => by simp), (fun x h => by cases h), (fun x h => by cases h), Nat.le_refl _⟩
theorem asc_snocI (h : AscI out) (hl : ∀ z ∈ out, ltD z.1 x.1) : AscI (out ++ [x]) := by
  unfold AscI
  rw [List.pairwise_append]
  exact ⟨h, List.pairwise_singleton _ _, fun z hz t ht => by rw [List.mem_singleton.1 ht]; exact hl z hz⟩
theorem drop_cons' {α : Type} {l : List α} {i : Nat} {x : α} (h : l[i]? = some x) : l.drop i = x :: l.drop (i + 1) := by
  obtain ⟨h1, h2⟩ := List.getElem?_eq_some_iff.1 h
  rw [List.drop_eq_getElem_cons h1, h2]
theorem take_snoc' {α : Type} {l : List α} {i : Nat} {x : α} (h : l[i]? = some x) : l.take (i + 1) = l.take i ++ [x] := by
  obtain ⟨h1, h2⟩ := List.getElem?_eq_some_iff.1 h
  rw [List.take_add_one, h]; rfl
theorem asc_next (h : AscI a) (hx : a[i]? = some x) : ∀ y ∈ a.drop (i + 1), ltD x.1 y.1 := by
  have h1 : AscI (a.drop i) := h.sublist (List.drop_sublist _ _)
  rw [drop_cons' hx] at h1
  exact fun y hy => h1.head hy
theorem UAt.add {i' j' : Nat} (h : UAt a b i j out) (hm : ∀ z, (z ∈ a.take i' ∨ z ∈ b.take j') ↔ (z ∈ a.take i ∨ z ∈ b.take j) ∨ z = x) (hlo : ∀ z ∈ out, ltD z.1 x.1)
    (hla : ∀ y ∈ a.drop i', ltD x.1 y.1 ∧ y ∈ a.drop i) (hlb : ∀ y ∈ b.drop j', ltD x.1 y.1 ∧ y ∈ b.drop j) (hl : i + j + 1 ≤ i' + j') : UAt a b i' j' (out ++ [x]) where
  asc := asc_snocI h.asc hlo
  mem z := by rw [List.mem_append, List.mem_singleton, h.mem, hm]
  la z hz y hy := by
    rcases List.mem_append.1 hz with hz | hz
    · exact h.la z hz y (hla y hy).2
    · rw [List.mem_singleton.1 hz]; exact (hla y hy).1
  lb z hz y hy := by
    rcases List.mem_append.1 hz with hz | hz
    · exact h.lb z hz y (hlb y hy).2
    · rw [List.mem_singleton.1 hz]; exact (hlb y hy).1
  len := by have := h.len; simp; omega
theorem mem_drop_next {α : Type} {l : List α} {i : Nat} {y : α} (h : y ∈ l.drop (i + 1)) : y ∈ l.drop i := by
  have := (List.drop_sublist 1 (l.drop i))
  rw [List.drop_drop] at this
  exact this.subset (by rwa [Nat.add_comm] at h ⊢)
theorem UAt.fst (h : UAt a b i j out) (ha : AscI a) (hx : a[i]? = some x) (hb : ∀ y ∈ b.drop j, ltD x.1 y.1) : UAt a b (i + 1) j (out ++ [x]) :=
  h.add (fun z => by rw [take_snoc' hx, List.mem_append, List.mem_singleton, or_right_comm])
    (fun z hz => h.la z hz x (by rw [drop_cons' hx]; simp)) (fun y hy => ⟨asc_next ha hx y hy, mem_drop_next hy⟩) (fun y hy => ⟨hb y hy, hy⟩) (by omega)
theorem UAt.snd (h : UAt a b i j out) (hb : AscI b) (hx : b[j]? = some x) (ha : ∀ y ∈ a.drop i, ltD x.1 y.1) : UAt a b i (j + 1) (out ++ [x]) :=
  h.add (fun z => by rw [take_snoc' hx, List.mem_append, List.mem_singleton, or_assoc])
    (fun z hz => h.lb z hz x (by rw [drop_cons' hx]; simp)) (fun y hy => ⟨ha y hy, hy⟩) (fun y hy => ⟨asc_next hb hx y hy, mem_drop_next hy⟩) (by omega)
theorem UAt.both (h : UAt a b i j out) (ha : AscI a) (hb : AscI b) (hx : a[i]? = some x) (hy : b[j]? = some x) : UAt a b (i + 1) (j + 1) (out ++ [x]) :=
  h.add (fun z => by rw [take_snoc' hx, take_snoc' hy, List.mem_append, List.mem_append, List.mem_singleton]; exact ⟨fun h => h.elim (fun h => h.elim (fun h => .inl (.inl h)) .inr) (fun h => h.elim (fun h => .inl (.inr h)) .inr), fun h => h.elim (fun h => h.elim (fun h => .inl (.inl h)) (fun h => .inr (.inl h))) (fun h => .inl (.inr h))⟩)
    (fun z hz => h.la z hz x (by rw [drop_cons' hx]; simp)) (fun y hy => ⟨asc_next ha hx y hy, mem_drop_next hy⟩) (fun z hz => ⟨asc_next hb hy z hz, mem_drop_next hz⟩) (by omega)
theorem above_all (hb : AscI b) (hy : b[j]? = some y) {d : Dig} (h : ltD d y.1) : ∀ z ∈ b.drop j, ltD d z.1 := by
  intro z hz
  rw [drop_cons' hy] at hz
  rcases List.mem_cons.1 hz with rfl | hz
  · exact h
  · exact ltD_trans h (asc_next hb hy z hz)
theorem none_left (hj : b.length ≤ j) {d : Dig} : ∀ z ∈ b.drop j, ltD d z.1 := by
  intro z hz; rw [List.drop_of_length_le hj] at hz; cases hz
theorem UAt.done (h : UAt a b i j out) (hi : a.length ≤ i) (hj : b.length ≤ j) : UniR a b out :=
  ⟨h.asc, fun x => by rw [h.mem, List.take_of_length_le hi, List.take_of_length_le hj]⟩
theorem clash_of (hx : a[i]? = some x) (hy : b[j]? = some y) (hd : x.1 = y.1) (hn : x.2 ≠ y.2) : Clash a b :=
  ⟨x.1, x.2, y.2, List.mem_of_getElem? hx, by rw [hd]; exact List.mem_of_getElem? hy, hn⟩
theorem UniR.plOk {r : List Itm} (h : UniR a b r) (ha : PlOk a) (hb : PlOk b) : PlOk r :=
  ⟨fun i hi => ((h.mem i).1 hi).elim (ha.enc i) (hb.enc i), fun i hi => ((h.mem i).1 hi).elim (ha.dg i) (hb.dg i), h.asc⟩
theorem UniR.uniq {r s : List Itm} (h : UniR a b r) (g : UniR a b s) : r = s := AscI.ext h.asc g.asc (fun i => by rw [h.mem, g.mem])
theorem UniR.clear {r : List Itm} (h : UniR a b r) : ¬ Clash a b := by
  rintro ⟨d, u, v, h1, h2, hn⟩
  have := h.asc.uniq ((h.mem _).2 (.inl h1)) ((h.mem _).2 (.inr h2)) rfl
  injection this with _ h3
  exact hn h3
end
end Go.Proofs.YtlcecobipgmafaaGreatDoor

namespace Go.Proofs.YtlcecobipgmafaaGreatDoor
open Go.RowKit

section
variable (p : List Itm) (hs : List Dig) (stop : Dig → Prop) (dep : Int) (pre : Bytes)
inductive Lv : Nat → Dig → Prop
  | head {d : Dig} (h : d ∈ hs) : Lv 0 d
  | par {n : Nat} {d x : Dig} {o : Ob} (h : Lv n d) (g : getP p d = some o) (k : o.kind = 3) (s : ¬ stop d) (m : x ∈ o.pars) : Lv (n + 1) x
def NC (d : Dig) : Prop := ∃ n : Nat, Lv p hs stop n d ∧ (dep = 0 ∨ (n : Int) < dep)
def touch (q : Bytes) : Prop := pre <+: q ∨ q <+: pre
inductive Plc : Dig → Bytes → Prop
  | root {c : Dig} {o : Ob} (h : NC p hs stop dep c) (g : getP p c = some o) (k : o.kind = 3) : Plc o.tree []
  | sub {d : Dig} {q : Bytes} {o : Ob} {e : Ent} (h : Plc d q) (g : getP p d = some o) (k : o.kind = 2) (m : e ∈ o.ents) (hd : e.dir = true) (t : touch pre (q ++ toL e.nm ++ [47])) : Plc e.dg (q ++ toL e.nm ++ [47])
inductive Nd : Dig → Int → Prop
  | com {d : Dig} (h : NC p hs stop dep d) : Nd d 3
  | dir {d : Dig} {q : Bytes} (h : Plc p hs stop dep pre d q) : Nd d 2
  | blob {d : Dig} {q : Bytes} {o : Ob} {e : Ent} (h : Plc p hs stop dep pre d q) (g : getP p d = some o) (k : o.kind = 2) (m : e ∈ o.ents) (hd : e.dir = false) (t : pre <+: q ++ toL e.nm) : Nd e.dg 1
def Need (d : Dig) : Prop := ∃ k, Nd p hs stop dep pre d k
def Wrong : Prop := ∃ d k o, Nd p hs stop dep pre d k ∧ getP p d = some o ∧ o.kind ≠ k
def Lacks : Prop := ∃ d, Need p hs stop dep pre d ∧ getP p d = none
def EdgeD (d : Dig) : Prop := NC p hs stop dep d ∧ ∃ o x, getP p d = some o ∧ o.kind = 3 ∧ x ∈ o.pars ∧ ¬ NC p hs stop dep x
end
def AscD (l : List Dig) : Prop := l.Pairwise ltD
theorem AscD.ext : ∀ {a b : List Dig}, AscD a → AscD b → (∀ d, d ∈ a ↔ d ∈ b) → a = b
  | [], [], _, _, _ => rfl
  | [], y :: b, _, _, h => by have := (h y).2 (by simp); simp at this
  | x :: a, [], _, _, h => by have := (h x).1 (by simp); simp at this
  | x :: a, y :: b, ha, hb, h => by
    have ha' := List.pairwise_cons.1 ha
    have hb' := List.pairwise_cons.1 hb
    have e : x = y := by
      rcases List.mem_cons.1 ((h x).1 (by simp)) with e | hx
      · exact e
      · rcases List.mem_cons.1 ((h y).2 (by simp)) with e | hy
        · exact e.symm
        · exact absurd (ltD_trans (hb'.1 x hx) (ha'.1 y hy)) (ltD_irrefl y)
    subst e
    rw [AscD.ext ha'.2 hb'.2 fun d => ?_]
    constructor
    · intro hd
      rcases List.mem_cons.1 ((h d).1 (List.mem_cons_of_mem _ hd)) with e | hd'
      · subst e; exact absurd (ha'.1 d hd) (ltD_irrefl d)
      · exact hd'
    · intro hd
      rcases List.mem_cons.1 ((h d).2 (List.mem_cons_of_mem _ hd)) with e | hd'
      · subst e; exact absurd (hb'.1 d hd) (ltD_irrefl d)
      · exact hd'

/-! ### growing -/
section
variable {p p' : List Itm} {hs : List Dig} {stop stop' : Dig → Prop} {dep dep' : Int} {pre pre' : Bytes}
theorem Lv.mono (hp : ∀ d o, getP p d = some o → getP p' d = some o) (hst : ∀ d, stop' d → stop d) : ∀ {n : Nat} {d : Dig}, Lv p hs stop n d → Lv p' hs stop' n d := by
  intro n d h
  induction h with
  | head h => exact .head h
  | par _ g k s m ih => exact .par ih (hp _ _ g) k (fun h => s (hst _ h)) m
theorem NC.mono (hp : ∀ d o, getP p d = some o → getP p' d = some o) (hst : ∀ d, stop' d → stop d) (hd : ∀ n : Nat, (dep = 0 ∨ (n : Int) < dep) → (dep' = 0 ∨ (n : Int) < dep')) {d : Dig} (h : NC p hs stop dep d) : NC p' hs stop' dep' d := by
  obtain ⟨n, h1, h2⟩ := h
  exact ⟨n, h1.mono hp hst, hd n h2⟩
theorem touch.mono (hpre : pre' <+: pre) {q : Bytes} (h : touch pre q) : touch pre' q := by
  rcases h with h | h
  · exact .inl (hpre.trans h)
  · exact List.prefix_or_prefix_of_prefix hpre h
theorem Plc.mono (hp : ∀ d o, getP p d = some o → getP p' d = some o) (hst : ∀ d, stop' d → stop d) (hd : ∀ n : Nat, (dep = 0 ∨ (n : Int) < dep) → (dep' = 0 ∨ (n : Int) < dep')) (hpre : pre' <+: pre) :
    ∀ {d : Dig} {q : Bytes}, Plc p hs stop dep pre d q → Plc p' hs stop' dep' pre' d q := by
  intro d q h
  induction h with
  | root h g k => exact .root (h.mono hp hst hd) (hp _ _ g) k
  | sub _ g k m hd t ih => exact .sub ih (hp _ _ g) k m hd (t.mono hpre)
theorem Nd.mono (hp : ∀ d o, getP p d = some o → getP p' d = some o) (hst : ∀ d, stop' d → stop d) (hd : ∀ n : Nat, (dep = 0 ∨ (n : Int) < dep) → (dep' = 0 ∨ (n : Int) < dep')) (hpre : pre' <+: pre) {d : Dig} {k : Int}
    (h : Nd p hs stop dep pre d k) : Nd p' hs stop' dep' pre' d k := by
  cases h with
  | com h => exact .com (h.mono hp hst hd)
  | dir h => exact .dir (h.mono hp hst hd hpre)
  | blob h g k m hd' t => exact .blob (h.mono hp hst hd hpre) (hp _ _ g) k m hd' (hpre.trans t)

/-! ### a clone, and a clone without one object -/
theorem Lv.less {x : Dig} (hp : ∀ d o, getP p d = some o → Need p hs (fun _ => False) dep pre d → d ≠ x → getP p' d = some o) (hst : ∀ d, stop' d → EdgeD p hs (fun _ => False) dep d) :
    ∀ {n : Nat} {d : Dig}, Lv p hs (fun _ => False) n d → (dep = 0 ∨ (n : Int) < dep) → NC p' hs stop' dep x ∨ Lv p' hs stop' n d := by
  intro n d h
  induction h with
  | head h => intro _; exact .inr (.head h)
  | @par n d y o h g k s m ih =>
    intro hn
    have hn' : dep = 0 ∨ (n : Int) < dep := by omega
    rcases ih hn' with hx | hd
    · exact .inl hx
    · by_cases e : d = x
      · subst e; exact .inl ⟨n, hd, hn'⟩
      · refine .inr (.par hd (hp _ _ g ⟨3, .com ⟨n, h, hn'⟩⟩ e) k (fun hs' => ?_) m)
        obtain ⟨_, o', y', g', _, m', hy⟩ := hst _ hs'
        obtain rfl : o = o' := by rw [g] at g'; cases g'; rfl
        exact hy ⟨n + 1, .par h g k s m', hn⟩
theorem NC.less {x : Dig} (hp : ∀ d o, getP p d = some o → Need p hs (fun _ => False) dep pre d → d ≠ x → getP p' d = some o) (hst : ∀ d, stop' d → EdgeD p hs (fun _ => False) dep d) {d : Dig} (h : NC p hs (fun _ => False) dep d) :
    NC p' hs stop' dep x ∨ NC p' hs stop' dep d := by
  obtain ⟨n, h1, h2⟩ := h
  rcases h1.less hp hst h2 with h | h
  · exact .inl h
  · exact .inr ⟨n, h, h2⟩
theorem Plc.less {x : Dig} (hp : ∀ d o, getP p d = some o → Need p hs (fun _ => False) dep pre d → d ≠ x → getP p' d = some o) (hst : ∀ d, stop' d → EdgeD p hs (fun _ => False) dep d) :
    ∀ {d : Dig} {q : Bytes}, Plc p hs (fun _ => False) dep pre d q → Need p' hs stop' dep pre x ∨ Plc p' hs stop' dep pre d q := by
  intro d q h
  induction h with
  | @root c o h g k =>
    rcases h.less hp hst with h' | h'
    · exact .inl ⟨3, .com h'⟩
    · by_cases e : c = x
      · subst e; exact .inl ⟨3, .com h'⟩
      · exact .inr (.root h' (hp _ _ g ⟨3, .com h⟩ e) k)
  | @sub d q o e h g k m hd t ih =>
    rcases ih with h' | h'
    · exact .inl h'
    · by_cases e' : d = x
      · subst e'; exact .inl ⟨2, .dir h'⟩
      · exact .inr (.sub h' (hp _ _ g ⟨2, .dir h⟩ e') k m hd t)
theorem Nd.less {x : Dig} (hp : ∀ d o, getP p d = some o → Need p hs (fun _ => False) dep pre d → d ≠ x → getP p' d = some o) (hst : ∀ d, stop' d → EdgeD p hs (fun _ => False) dep d) {d : Dig} {k : Int}
    (h : Nd p hs (fun _ => False) dep pre d k) : Need p' hs stop' dep pre x ∨ Nd p' hs stop' dep pre d k := by
  cases h with
  | com h =>
    rcases h.less hp hst with h' | h'
    · exact .inl ⟨3, .com h'⟩
    · exact .inr (.com h')
  | dir h =>
    rcases h.less hp hst with h' | h'
    · exact .inl h'
    · exact .inr (.dir h')
  | @blob d q o e h g k m hd t =>
    rcases h.less hp hst with h' | h'
    · exact .inl h'
    · by_cases e' : d = x
      · subst e'; exact .inl ⟨2, .dir h'⟩
      · exact .inr (.blob h' (hp _ _ g ⟨2, .dir h⟩ e') k m hd t)
theorem Need.less {x : Dig} (hp : ∀ d o, getP p d = some o → Need p hs (fun _ => False) dep pre d → d ≠ x → getP p' d = some o) (hst : ∀ d, stop' d → EdgeD p hs (fun _ => False) dep d)
    (h : Need p hs (fun _ => False) dep pre x) : Need p' hs stop' dep pre x := by
  obtain ⟨k, h⟩ := h
  rcases h.less hp hst with h' | h'
  · exact h'
  · exact ⟨k, h'⟩
end

/-! ### pools that keep some objects -/
def keepP (p : List Itm) (l : List Dig) : List Itm := p.filter fun i => decide (i.1 ∈ l)
theorem keepP_mem {p : List Itm} {l : List Dig} {i : Itm} : i ∈ keepP p l ↔ i ∈ p ∧ i.1 ∈ l := by simp [keepP]
theorem PlOk.sub {p q : List Itm} (h : PlOk p) (hs : q.Sublist p) : PlOk q := ⟨fun i hi => h.1 i (hs.subset hi), fun i hi => h.2 i (hs.subset hi), h.3.sublist hs⟩
theorem PlOk.keep {p : List Itm} (h : PlOk p) (l : List Dig) : PlOk (keepP p l) := h.sub List.filter_sublist
theorem getP_iff {p q : List Itm} (hp : PlOk p) (hq : PlOk q) {d : Dig} (h : ∀ b, (d, b) ∈ p ↔ (d, b) ∈ q) : getP p d = getP q d := by
  cases hg : getP q d with
  | some o =>
    have := (getP_some hq).1 hg
    exact (getP_some hp).2 ⟨this.1, (h _).2 this.2⟩
  | none =>
    rw [getP_none, findP_none hq.asc] at hg
    rw [getP_none, findP_none hp.asc]
    exact fun b hb => hg b ((h b).1 hb)
theorem getP_keep {p : List Itm} (h : PlOk p) {l : List Dig} {d : Dig} (hd : d ∈ l) : getP (keepP p l) d = getP p d :=
  getP_iff (h.keep l) h fun b => by rw [keepP_mem]; exact and_iff_left hd
end Go.Proofs.YtlcecobipgmafaaGreatDoor

namespace Go.Proofs.YtlcecobipgmafaaGreatDoor
open Go.RowKit

def noStop (_ : Dig) : Prop := False
inductive NdR (eR eL eK : Int) (p : List Itm) (hs : List Dig) (dep : Int) (pre : Bytes) : List Dig → List Dig → Int → Prop
  | range (h : dep < 0) : NdR eR eL eK p hs dep pre [] [] eR
  | limit (h : 0 ≤ dep) (h' : 100 < pre.length) : NdR eR eL eK p hs dep pre [] [] eL
  | lacks (h : 0 ≤ dep) (h' : pre.length ≤ 100) (m : Lacks p hs noStop dep pre) : NdR eR eL eK p hs dep pre [] [] 8
  | wrong (h : 0 ≤ dep) (h' : pre.length ≤ 100) (m : ¬ Lacks p hs noStop dep pre) (w : Wrong p hs noStop dep pre) : NdR eR eL eK p hs dep pre [] [] eK
  | ok {l edge : List Dig} (h : 0 ≤ dep) (h' : pre.length ≤ 100) (m : ¬ Lacks p hs noStop dep pre) (w : ¬ Wrong p hs noStop dep pre) (a : AscD l) (ml : ∀ d, d ∈ l ↔ Need p hs noStop dep pre d)
      (b : AscD edge) (me : ∀ d, d ∈ edge ↔ EdgeD p hs noStop dep d) : NdR eR eL eK p hs dep pre l edge 0
section
variable {eR eL eK : Int} {p : List Itm} {hs : List Dig} {dep : Int} {pre : Bytes} {l l' edge edge' : List Dig} {e e' : Int}
theorem NdR.uniq (h : NdR eR eL eK p hs dep pre l edge e) (h' : NdR eR eL eK p hs dep pre l' edge' e') : l = l' ∧ edge = edge' ∧ e = e' := by
  cases h <;> cases h' <;> first
    | exact ⟨rfl, rfl, rfl⟩
    | (exfalso; omega)
    | (exfalso; rename_i m _ _ _ m'; exact absurd ‹Lacks p hs noStop dep pre› ‹¬ Lacks p hs noStop dep pre›)
    | (exfalso; exact absurd ‹Lacks p hs noStop dep pre› ‹¬ Lacks p hs noStop dep pre›)
    | (exfalso; exact absurd ‹Wrong p hs noStop dep pre› ‹¬ Wrong p hs noStop dep pre›)
    | skip
  rename_i h1 h2 m w a ml b me h1' h2' m' w' a' ml' b' me'
  exact ⟨a.ext a' fun d => (ml d).trans (ml' d).symm, b.ext b' fun d => (me d).trans (me' d).symm, rfl⟩
structure NdOk (p : List Itm) (hs : List Dig) (dep : Int) (pre : Bytes) (l edge : List Dig) : Prop where
  h : 0 ≤ dep
  h' : pre.length ≤ 100
  m : ¬ Lacks p hs noStop dep pre
  w : ¬ Wrong p hs noStop dep pre
  a : AscD l
  ml : ∀ d, d ∈ l ↔ Need p hs noStop dep pre d
  b : AscD edge
  me : ∀ d, d ∈ edge ↔ EdgeD p hs noStop dep d
theorem NdR.get (hR : eR ≠ 0) (hL : eL ≠ 0) (hK : eK ≠ 0) (h : NdR eR eL eK p hs dep pre l edge 0) : NdOk p hs dep pre l edge := by
  cases h with
  | ok h h' m w a ml b me => exact ⟨h, h', m, w, a, ml, b, me⟩
  | range h => exact absurd rfl hR
  | limit h h' => exact absurd rfl hL
  | wrong h h' m w => exact absurd rfl hK
theorem NdR.none (h : NdR eR eL eK p hs dep pre l edge e) (he : e ≠ 0) : l = [] ∧ edge = [] := by
  cases h <;> first | exact ⟨rfl, rfl⟩ | exact absurd rfl he
inductive MsR (eR eL eK : Int) (q : List Itm) (hs : List Dig) (dep : Int) (pre : Bytes) (edge : List Dig) : List Dig → Int → Prop
  | range (h : dep < 0) : MsR eR eL eK q hs dep pre edge [] eR
  | limit (h : 0 ≤ dep) (h' : 100 < pre.length) : MsR eR eL eK q hs dep pre edge [] eL
  | wrong (h : 0 ≤ dep) (h' : pre.length ≤ 100) (w : Wrong q hs (· ∈ edge) dep pre) : MsR eR eL eK q hs dep pre edge [] eK
  | ok {l : List Dig} (h : 0 ≤ dep) (h' : pre.length ≤ 100) (w : ¬ Wrong q hs (· ∈ edge) dep pre) (ml : ∀ d, d ∈ l ↔ Need q hs (· ∈ edge) dep pre d ∧ getP q d = none) : MsR eR eL eK q hs dep pre edge l 0

section
variable (hp : PlOk p) (N : NdOk p hs dep pre l edge)
include hp N
omit hp in
theorem NdOk.has {d : Dig} (h : Need p hs noStop dep pre d) : ∃ o, getP p d = some o := by
  cases hg : getP p d with
  | some o => exact ⟨o, rfl⟩
  | none => exact absurd ⟨d, h, hg⟩ N.m
omit N in
theorem keep_get {q : List Itm} (hq : subP q (keepP p l)) (hqo : PlOk q) {d : Dig} {o : Ob} (h : getP q d = some o) : getP p d = some o :=
  getP_mono hqo hp (fun i hi => (keepP_mem.1 (hq i hi)).1) h
theorem NdOk.right {q : List Itm} {edge' : List Dig} (hq : subP q (keepP p l)) (hqo : PlOk q) : ¬ Wrong q hs (· ∈ edge') dep pre := by
  rintro ⟨d, k, o, h1, h2, h3⟩
  exact N.w ⟨d, k, o, h1.mono (fun d o h => keep_get hp hq hqo h) (fun d h => h.elim) (fun _ h => h) (List.prefix_refl _), keep_get hp hq hqo h2, h3⟩
theorem NdOk.whole {lm : List Dig} {f : Int} (M : MsR eR eL eK (keepP p l) hs dep pre edge lm f) : f = 0 ∧ lm = [] := by
  cases M with
  | range h => have := N.h; omega
  | limit h h' => have := N.h'; omega
  | wrong h h' w => exact absurd w (N.right hp (subP.refl _) (hp.keep l))
  | ok h h' w ml =>
    refine ⟨rfl, List.eq_nil_iff_forall_not_mem.2 fun d hd => ?_⟩
    obtain ⟨⟨k, h1⟩, h2⟩ := (ml d).1 hd
    have h3 : Need p hs noStop dep pre d := ⟨k, h1.mono (fun d o h => keep_get hp (subP.refl _) (hp.keep l) h) (fun d h => h.elim) (fun _ h => h) (List.prefix_refl _)⟩
    obtain ⟨o, ho⟩ := N.has h3
    rw [getP_keep hp ((N.ml d).2 h3), ho] at h2
    cases h2
theorem NdOk.less {q : List Itm} {x : Itm} {lm : List Dig} {f : Int} (hqo : PlOk q) (hx : x ∈ keepP p l) (hq : ∀ i, i ∈ q ↔ i ∈ keepP p l ∧ i.1 ≠ x.1) (M : MsR eR eL eK q hs dep pre edge lm f) : f = 0 ∧ x.1 ∈ lm := by
  have hsub : subP q (keepP p l) := fun i hi => ((hq i).1 hi).1
  cases M with
  | range h => have := N.h; omega
  | limit h h' => have := N.h'; omega
  | wrong h h' w => exact absurd w (N.right hp hsub hqo)
  | ok h h' w ml =>
    refine ⟨rfl, (ml x.1).2 ⟨?_, ?_⟩⟩
    · have h3 : Need p hs noStop dep pre x.1 := (N.ml _).1 (keepP_mem.1 hx).2
      refine Need.less (p := p) (fun d o hd hn hne => ?_) (fun d hd => (N.me d).1 hd) h3
      rw [getP_iff hqo hp (fun b => by rw [hq, keepP_mem]; exact ⟨fun h => h.1.1, fun h => ⟨⟨h, (N.ml d).2 hn⟩, hne⟩⟩)]
      exact hd
    · rw [getP_none, findP_none hqo.asc]
      exact fun b hb => ((hq _).1 hb).2 rfl
end
def GrS (d0 : Int) (p0 : Bytes) (d1 : Int) (p1 : Bytes) : Prop := (d0 = 0 ∨ (0 < d1 ∧ d1 ≤ d0)) ∧ p0 <+: p1
theorem Need.grow {d0 d1 : Int} {p0 p1 : Bytes} (G : GrS d0 p0 d1 p1) {d : Dig} (h : Need p hs noStop d1 p1 d) : Need p hs noStop d0 p0 d := by
  obtain ⟨k, h⟩ := h
  refine ⟨k, h.mono (fun _ _ h => h) (fun _ h => h) (fun n hn => ?_) G.2⟩
  have := G.1
  omega
theorem keepP_grow {l0 l1 : List Dig} (hp : PlOk p) (h : ∀ d, d ∈ l1 → d ∈ l0) : ¬ Clash (keepP p l1) (keepP p l0) ∧ ∀ r, UniR (keepP p l1) (keepP p l0) r → r = keepP p l0 := by
  refine ⟨?_, fun r hr => ?_⟩
  · rintro ⟨d, x, y, h1, h2, hne⟩
    have := AscI.uniq hp.asc (keepP_mem.1 h1).1 (keepP_mem.1 h2).1 rfl
    exact hne (by simpa using this)
  · refine AscI.ext hr.asc (hp.keep l0).asc fun i => ?_
    rw [hr.mem]
    constructor
    · rintro (h1 | h1)
      · exact keepP_mem.2 ⟨(keepP_mem.1 h1).1, h _ (keepP_mem.1 h1).2⟩
      · exact h1
    · exact .inr

/-! ### what is reached -/
end
end Go.Proofs.YtlcecobipgmafaaGreatDoor

namespace Go.Proofs.YtlcecobipgmafaaGreatDoor
open Go.RowKit

def tSX : ByteArray := ⟨#[115, 114, 99, 47, 120]⟩
def tS : ByteArray := ⟨#[115, 114, 99]⟩
def tX : ByteArray := ⟨#[120]⟩
def tY : ByteArray := ⟨#[121]⟩
def t1 : ByteArray := ⟨#[49]⟩
def t2 : ByteArray := ⟨#[50]⟩
def tA : ByteArray := ⟨#[97]⟩
def tB : ByteArray := ⟨#[98]⟩
def tC : ByteArray := ⟨#[99]⟩
def exL : List Fl := [(tSX, t1), (tY, t2)]
theorem xencT_s (s : ByteArray) (h : s.size < 128) : encT (toL s) = UInt8.ofNat s.size :: toL s := by
  unfold encT
  have : (toL s).length = s.size := by simp [toL]
  rw [this, encN_small h]; rfl
theorem xenc_blob (s : ByteArray) (h : s.size < 128) : encO (blobO s) = 1 :: UInt8.ofNat s.size :: toL s := by
  show encN 1 ++ encT (toL s) = _
  rw [encN_small (by omega), xencT_s s h]; rfl
theorem xencE_s (e : Ent) (h : e.nm.size < 128) : encE e = UInt8.ofNat e.nm.size :: toL e.nm ++ (if e.dir = true then 1 else 0) :: digB e.dg := by
  unfold encE
  rw [xencT_s _ h]
  cases e.dir <;> rw [encN_small (by simp)] <;> simp
theorem xenc_tree (es : List Ent) (h : es.length < 128) : encO (treeO es) = 2 :: UInt8.ofNat es.length :: es.flatMap encE := by
  show encN 2 ++ (encN es.length ++ es.flatMap encE) = _
  rw [encN_small (n := 2) (by omega), encN_small h]; rfl
def comO (t : Dig) (ps : List Dig) (a : ByteArray) : Ob := ⟨3, ⟨#[]⟩, [], t, ps, a, 0, ⟨#[]⟩⟩
theorem xenc_com (t : Dig) (ps : List Dig) (a : ByteArray) (h : ps.length < 128) (h' : a.size < 128) : encO (comO t ps a) = 3 :: (digB t ++ (UInt8.ofNat ps.length :: (ps.flatMap digB ++ (UInt8.ofNat a.size :: (toL a ++ [0, 0]))))) := by
  show encN 3 ++ (digB t ++ (encN ps.length ++ (ps.flatMap digB ++ (encT (toL a) ++ (encN 0 ++ encT (toL ⟨#[]⟩)))))) = _
  rw [encN_small (n := 3) (by omega), encN_small h, xencT_s a h', xencT_s ⟨#[]⟩ (by decide), encN_small (n := 0) (by omega)]
  rfl
def yB1 : Itm := (ofB [1, 1, 49], ofL [1, 1, 49])
def yB2 : Itm := (ofB [1, 1, 50], ofL [1, 1, 50])
def cT : Bytes := [2, 1, 1, 120, 0] ++ digB (ofB [1, 1, 49])
def yT : Itm := (ofB cT, ofL cT)
def cR : Bytes := [2, 2, 3, 115, 114, 99, 1] ++ digB (ofB cT) ++ [1, 121, 0] ++ digB (ofB [1, 1, 50])
def yR : Itm := (ofB cR, ofL cR)
def cA : Bytes := 3 :: (digB (ofB cR) ++ [0, 1, 97, 0, 0])
def yA : Itm := (ofB cA, ofL cA)
def cB : Bytes := 3 :: (digB (ofB cR) ++ 1 :: (digB (ofB cA) ++ [1, 98, 0, 0]))
def yB : Itm := (ofB cB, ofL cB)
def cC : Bytes := 3 :: (digB (ofB cR) ++ 1 :: (digB (ofB cB) ++ [1, 99, 0, 0]))
def yC : Itm := (ofB cC, ofL cC)
def r1 : List Itm := (insP [] yB1).getD []
def r2 : List Itm := (insP r1 yT).getD []
def r3 : List Itm := (insP r2 yB2).getD []
def r4 : List Itm := (insP r3 yR).getD []
def r5 : List Itm := (insP r4 yA).getD []
def r6 : List Itm := (insP r5 yB).getD []
def r7 : List Itm := (insP r6 yC).getD []
theorem xsome_of {α : Type} {o : Option (List α)} (h : o.isSome = true) : o = some (o.getD []) := by cases o with | none => cases h | some _ => rfl
theorem j1 : insP [] yB1 = some r1 := xsome_of (by decide +kernel)
theorem j2 : insP r1 yT = some r2 := xsome_of (by decide +kernel)
theorem j3 : insP r2 yB2 = some r3 := xsome_of (by decide +kernel)
theorem j4 : insP r3 yR = some r4 := xsome_of (by decide +kernel)
theorem j5 : insP r4 yA = some r5 := xsome_of (by decide +kernel)
theorem j6 : insP r5 yB = some r6 := xsome_of (by decide +kernel)
theorem j7 : insP r6 yC = some r7 := xsome_of (by decide +kernel)
theorem r4_len : r4.length = 4 := by decide +kernel
theorem r5_len : r5.length = 5 := by decide +kernel
theorem r6_len : r6.length = 6 := by decide +kernel
theorem r7_len : r7.length = 7 := by decide +kernel
theorem xput1 : putP [] (blobO t1) = some r1 := by unfold putP; rw [xenc_blob t1 (by decide)]; exact j1
theorem xput3 : putP r2 (blobO t2) = some r3 := by unfold putP; rw [xenc_blob t2 (by decide)]; exact j3
theorem xdg1_eq : dgO (blobO t1) = ofB [1, 1, 49] := by unfold dgO; rw [xenc_blob t1 (by decide)]; rfl
theorem xdg2_eq : dgO (blobO t2) = ofB [1, 1, 50] := by unfold dgO; rw [xenc_blob t2 (by decide)]; rfl
def oT : Ob := treeO [⟨tX, false, ofB [1, 1, 49]⟩]
def oR : Ob := treeO [⟨tS, true, ofB cT⟩, ⟨tY, false, ofB [1, 1, 50]⟩]
def oA : Ob := comO (ofB cR) [] tA
def oB : Ob := comO (ofB cR) [ofB cA] tB
def oC : Ob := comO (ofB cR) [ofB cB] tC
theorem xencT1 : encO oT = cT := by
  unfold oT
  rw [xenc_tree _ (by decide), List.flatMap_cons, List.flatMap_nil, xencE_s _ (by decide)]; rfl
theorem xencR1 : encO oR = cR := by
  unfold oR
  rw [xenc_tree _ (by decide), List.flatMap_cons, List.flatMap_cons, List.flatMap_nil, xencE_s _ (by decide), xencE_s _ (by decide)]
  rfl
theorem xencA : encO oA = cA := by unfold oA; rw [xenc_com _ _ _ (by decide) (by decide)]; rfl
theorem xencB : encO oB = cB := by unfold oB; rw [xenc_com _ _ _ (by simp) (by decide)]; simp; rfl
theorem xencC : encO oC = cC := by unfold oC; rw [xenc_com _ _ _ (by simp) (by decide)]; simp; rfl
theorem xput5 : putP r4 oA = some r5 := by unfold putP; rw [xencA]; exact j5
theorem xput6 : putP r5 oB = some r6 := by unfold putP; rw [xencB]; exact j6
theorem xput7 : putP r6 oC = some r7 := by unfold putP; rw [xencC]; exact j7
theorem xnm1 : nmsP exL = [tS, tY] := by decide +kernel
theorem xnm2 : nmsP [(tX, t1)] = [tX] := by decide +kernel
theorem xin1 : inD exL tS = [(tX, t1)] := by decide +kernel
theorem xsto_sub (k : Nat) : sto (k + 1) [] [(tX, t1)] = some (r2, ofB cT) := by
  rw [sto, xnm2, stoE_file (s := t1) (by decide +kernel) xput1, stoE, List.nil_append, xdg1_eq]
  simp only
  have : putP r1 (treeO [⟨tX, false, ofB [1, 1, 49]⟩]) = some r2 := by unfold putP; rw [show encO (treeO [⟨tX, false, ofB [1, 1, 49]⟩]) = cT from xencT1]; exact j2
  rw [this]
  simp only [dgO, show encO (treeO [⟨tX, false, ofB [1, 1, 49]⟩]) = cT from xencT1]
theorem xsto_aw : sto 101 [] exL = some (r4, ofB cR) := by
  rw [sto, xnm1, stoE_dir (by decide +kernel) (by rw [xin1]; exact xsto_sub 99), stoE_file (s := t2) (by decide +kernel) xput3, stoE, List.nil_append, xdg2_eq]
  simp only [List.cons_append, List.nil_append]
  have : putP r3 (treeO [⟨tS, true, ofB cT⟩, ⟨tY, false, ofB [1, 1, 50]⟩]) = some r4 := by unfold putP; rw [show encO (treeO [⟨tS, true, ofB cT⟩, ⟨tY, false, ofB [1, 1, 50]⟩]) = cR from xencR1]; exact j4
  rw [this]
  simp only [dgO, show encO (treeO [⟨tS, true, ofB cT⟩, ⟨tY, false, ofB [1, 1, 50]⟩]) = cR from xencR1]
end Go.Proofs.YtlcecobipgmafaaGreatDoor

namespace Go.Proofs.YtlcecobipgmafaaGreatDoor
open Go.RowKit

attribute [local irreducible] ofB digB cA cB cC cR cT ofL
theorem xascAw : AscF exL := by unfold AscF; decide +kernel
theorem xokAw : OkL exL where
  path := by decide +kernel
  data := by decide +kernel
  few := by decide
  nod := asc_nodup xascAw
  nob := by decide +kernel
theorem xckAw : TckR exL 0 := ck_back xokAw xascAw
theorem xpl4 : PlOk r4 := (sto_std 101 [] exL r4 (ofB cR) xokAw PlOk.nil xsto_aw).2.1
theorem xokA : OkO oA where
  f := .commit rfl rfl rfl ⟨wf_ofB _, ofB_nz _, ⟨by decide, (fun d h => by cases h), (fun d h => by cases h), List.nodup_nil⟩, by decide +kernel, by decide, by decide, by decide⟩
  len := by rw [xencA]; decide +kernel
theorem xokB : OkO oB where
  f := .commit rfl rfl rfl ⟨wf_ofB _, ofB_nz _, ⟨by decide, (fun d h => by rw [List.mem_singleton.1 h]; exact wf_ofB _), (fun d h => by rw [List.mem_singleton.1 h]; exact ofB_nz _), by simp [oB, comO]⟩, by decide +kernel, by decide, by decide, by decide⟩
  len := by rw [xencB]; decide +kernel
theorem xokC : OkO oC where
  f := .commit rfl rfl rfl ⟨wf_ofB _, ofB_nz _, ⟨by decide, (fun d h => by rw [List.mem_singleton.1 h]; exact wf_ofB _), (fun d h => by rw [List.mem_singleton.1 h]; exact ofB_nz _), by simp [oC, comO]⟩, by decide +kernel, by decide, by decide, by decide⟩
  len := by rw [xencC]; decide +kernel
theorem xpl5 : PlOk r5 := putP_ok xpl4 xokA xput5
theorem xpl6 : PlOk r6 := putP_ok xpl5 xokB xput6
theorem xpl7 : PlOk r7 := putP_ok xpl6 xokC xput7
theorem xasc1 : AscI r1 := insP_asc PlOk.nil.asc j1
theorem xasc2 : AscI r2 := insP_asc xasc1 j2
theorem xasc3 : AscI r3 := insP_asc xasc2 j3
theorem xup7 {i : Itm} (h : i ∈ r4) : i ∈ r7 := (insP_mem xpl6.asc j7 _).2 (.inl ((insP_mem xpl5.asc j6 _).2 (.inl ((insP_mem xpl4.asc j5 _).2 (.inl h)))))
theorem xinB : yB ∈ r7 := (insP_mem xpl6.asc j7 _).2 (.inl ((insP_mem xpl5.asc j6 _).2 (.inr rfl)))
theorem xinC : yC ∈ r7 := (insP_mem xpl6.asc j7 _).2 (.inr rfl)
theorem xinR : yR ∈ r7 := xup7 ((insP_mem xasc3 j4 _).2 (.inr rfl))
theorem xin2 : yB2 ∈ r7 := xup7 ((insP_mem xasc3 j4 _).2 (.inl ((insP_mem xasc2 j3 _).2 (.inr rfl))))
theorem xinT : yT ∈ r7 := xup7 ((insP_mem xasc3 j4 _).2 (.inl ((insP_mem xasc2 j3 _).2 (.inl ((insP_mem xasc1 j2 _).2 (.inr rfl))))))
theorem xinb1 : yB1 ∈ r7 := xup7 ((insP_mem xasc3 j4 _).2 (.inl ((insP_mem xasc2 j3 _).2 (.inl ((insP_mem xasc1 j2 _).2 (.inl ((insP_mem PlOk.nil.asc j1 _).2 (.inr rfl))))))))
theorem get_of {d : Dig} {b : Bytes} {o : Ob} (ho : OkO o) (e : encO o = b) (h : (d, ofL b) ∈ r7) : getP r7 d = some o := (getP_some xpl7).2 ⟨ho, by rw [e]; exact h⟩
theorem xgB : getP r7 (ofB cB) = some oB := get_of xokB xencB xinB
theorem xgC : getP r7 (ofB cC) = some oC := get_of xokC xencC xinC
theorem xokEs {es : List Ent} (h1 : es.length ≤ 200) (h2 : ∀ e ∈ es, OkEnt e) (h3 : ∀ (j : Nat) a b, es[j]? = some a → es[j + 1]? = some b → less a.nm b.nm = true) : OkO (treeO es) := okO_treeO ⟨h1, h2, h3⟩
theorem xokT : OkO oT := xokEs (by decide) (fun e h => by rw [List.mem_singleton.1 h]; exact ⟨by decide +kernel, wf_ofB _, ofB_nz _⟩) (fun j a b h1 h2 => by simp at h2)
theorem xokR : OkO oR := xokEs (by decide) (fun e h => by
    rcases List.mem_cons.1 h with rfl | h
    · exact ⟨by decide +kernel, wf_ofB _, ofB_nz _⟩
    · rw [List.mem_singleton.1 h]; exact ⟨by decide +kernel, wf_ofB _, ofB_nz _⟩) (fun j a b h1 h2 => by
    match j, h1, h2 with
    | 0, h1, h2 => simp at h1 h2; subst h1; subst h2; decide +kernel
    | j + 1, h1, h2 => simp at h2)
theorem xgT : getP r7 (ofB cT) = some oT := get_of xokT xencT1 xinT
theorem xgR : getP r7 (ofB cR) = some oR := get_of xokR xencR1 xinR
theorem xg1 : getP r7 (ofB [1, 1, 49]) = some (blobO t1) := get_of (okO_blob (by decide)) (xenc_blob t1 (by decide)) xinb1
theorem xg2 : getP r7 (ofB [1, 1, 50]) = some (blobO t2) := get_of (okO_blob (by decide)) (xenc_blob t2 (by decide)) xin2

/-! ### depth 2 -/
def sSrc4 : Bytes := [115, 114, 99, 47]
theorem xlv0 {d : Dig} (h : Lv r7 [ofB cC] noStop 0 d) : d = ofB cC := by
  cases h with
  | head h => exact List.mem_singleton.1 h
theorem xlv1 {d : Dig} (h : Lv r7 [ofB cC] noStop 1 d) : d = ofB cB := by
  cases h with
  | par h g k s m =>
    rw [xlv0 h, xgC] at g
    injection g with g
    subst g
    exact List.mem_singleton.1 m
theorem xnc2 {d : Dig} : NC r7 [ofB cC] noStop 2 d ↔ d = ofB cC ∨ d = ofB cB := by
  constructor
  · rintro ⟨n, h, h2⟩
    match n, h, h2 with
    | 0, h, _ => exact .inl (xlv0 h)
    | 1, h, _ => exact .inr (xlv1 h)
    | n + 2, _, h2 => omega
  · rintro (rfl | rfl)
    · exact ⟨0, .head (List.mem_singleton.2 rfl), .inr (by decide)⟩
    · exact ⟨1, .par (.head (List.mem_singleton.2 rfl)) xgC rfl (fun h => h) (List.mem_singleton.2 rfl), .inr (by decide)⟩
theorem xnc1 {d : Dig} : NC r7 [ofB cC] noStop 1 d ↔ d = ofB cC := by
  constructor
  · rintro ⟨n, h, h2⟩
    match n, h, h2 with
    | 0, h, _ => exact xlv0 h
    | n + 1, _, h2 => omega
  · rintro rfl
    exact ⟨0, .head (List.mem_singleton.2 rfl), .inr (by decide)⟩
theorem xplc {dep : Int} {pre : Bytes} (hc : ∀ d, NC r7 [ofB cC] noStop dep d → d = ofB cC ∨ d = ofB cB) {d : Dig} {q : Bytes} (h : Plc r7 [ofB cC] noStop dep pre d q) : (d = ofB cR ∧ q = []) ∨ (d = ofB cT ∧ q = sSrc4) := by
  induction h with
  | root h g k =>
    rcases hc _ h with rfl | rfl
    · rw [xgC] at g; injection g with g; subst g; exact .inl ⟨rfl, rfl⟩
    · rw [xgB] at g; injection g with g; subst g; exact .inl ⟨rfl, rfl⟩
  | sub h g k m hd t ih =>
    rcases ih with ⟨rfl, rfl⟩ | ⟨rfl, rfl⟩
    · rw [xgR] at g; injection g with g; subst g
      rcases List.mem_cons.1 m with rfl | m
      · exact .inr ⟨rfl, rfl⟩
      · rw [List.mem_singleton.1 m] at hd; cases hd
    · rw [xgT] at g; injection g with g; subst g
      rw [List.mem_singleton.1 m] at hd; cases hd
theorem xplR {dep : Int} {pre : Bytes} (hc : NC r7 [ofB cC] noStop dep (ofB cC)) : Plc r7 [ofB cC] noStop dep pre (ofB cR) [] := .root hc xgC rfl
theorem xplT {dep : Int} {pre : Bytes} (hc : NC r7 [ofB cC] noStop dep (ofB cC)) (ht : touch pre sSrc4) : Plc r7 [ofB cC] noStop dep pre (ofB cT) sSrc4 := .sub (e := ⟨tS, true, ofB cT⟩) (xplR hc) xgR rfl (List.mem_cons_self) rfl ht
theorem xnd {dep : Int} {pre : Bytes} (hc : ∀ d, NC r7 [ofB cC] noStop dep d → d = ofB cC ∨ d = ofB cB) {d : Dig} {k : Int} (h : Nd r7 [ofB cC] noStop dep pre d k) :
    (NC r7 [ofB cC] noStop dep d ∧ k = 3) ∨ (d = ofB cR ∧ k = 2) ∨ (d = ofB cT ∧ k = 2) ∨ (d = ofB [1, 1, 50] ∧ k = 1 ∧ pre <+: toL tY) ∨ (d = ofB [1, 1, 49] ∧ k = 1) := by
  cases h with
  | com h => exact .inl ⟨h, rfl⟩
  | dir h =>
    rcases xplc hc h with ⟨rfl, _⟩ | ⟨rfl, _⟩
    · exact .inr (.inl ⟨rfl, rfl⟩)
    · exact .inr (.inr (.inl ⟨rfl, rfl⟩))
  | blob h g k m hd t =>
    rcases xplc hc h with ⟨rfl, rfl⟩ | ⟨rfl, rfl⟩
    · rw [xgR] at g; injection g with g; subst g
      rcases List.mem_cons.1 m with rfl | m
      · cases hd
      · rw [List.mem_singleton.1 m] at t ⊢; exact .inr (.inr (.inr (.inl ⟨rfl, rfl, t⟩)))
    · rw [xgT] at g; injection g with g; subst g
      rw [List.mem_singleton.1 m]; exact .inr (.inr (.inr (.inr ⟨rfl, rfl⟩)))
theorem xkind {dep : Int} {pre : Bytes} (hc : ∀ d, NC r7 [ofB cC] noStop dep d → d = ofB cC ∨ d = ofB cB) {d : Dig} {k : Int} (h : Nd r7 [ofB cC] noStop dep pre d k) : ∃ o, getP r7 d = some o ∧ o.kind = k := by
  rcases xnd hc h with ⟨h3, rfl⟩ | ⟨rfl, rfl⟩ | ⟨rfl, rfl⟩ | ⟨rfl, rfl, _⟩ | ⟨rfl, rfl⟩
  · rcases hc _ h3 with rfl | rfl
    · exact ⟨_, xgC, rfl⟩
    · exact ⟨_, xgB, rfl⟩
  · exact ⟨_, xgR, rfl⟩
  · exact ⟨_, xgT, rfl⟩
  · exact ⟨_, xg2, rfl⟩
  · exact ⟨_, xg1, rfl⟩
theorem xok {dep : Int} {pre : Bytes} (hd : 0 ≤ dep) (hp : pre.length ≤ 100) (hc : ∀ d, NC r7 [ofB cC] noStop dep d → d = ofB cC ∨ d = ofB cB) {l edge : List Dig} {z : Int} (h : NdR 2 4 9 r7 [ofB cC] dep pre l edge z) :
    z = 0 ∧ NdOk r7 [ofB cC] dep pre l edge := by
  have hL : ¬ Lacks r7 [ofB cC] noStop dep pre := by
    rintro ⟨d, ⟨k, hn⟩, hg⟩
    obtain ⟨o, ho, _⟩ := xkind hc hn
    rw [hg] at ho; cases ho
  have hW : ¬ Wrong r7 [ofB cC] noStop dep pre := by
    rintro ⟨d, k, o, hn, hg, hk⟩
    obtain ⟨o', ho, hk'⟩ := xkind hc hn
    rw [hg] at ho; injection ho with ho; subst ho; exact hk hk'
  cases h with
  | range h => omega
  | limit _ h => omega
  | lacks _ _ m => exact absurd m hL
  | wrong _ _ _ w => exact absurd w hW
  | ok h h' m w a ml b me => exact ⟨rfl, h, h', m, w, a, ml, b, me⟩
def need2 : List Dig := [ofB cC, ofB cB, ofB cR, ofB cT, ofB [1, 1, 50], ofB [1, 1, 49]]
def need1 : List Dig := [ofB cC, ofB cR, ofB cT, ofB [1, 1, 49]]
theorem keepP_congr {p : List Itm} {l m : List Dig} (h : ∀ d, d ∈ l ↔ d ∈ m) : keepP p l = keepP p m := by
  unfold keepP
  exact List.filter_congr fun i _ => by rw [Bool.eq_iff_iff]; simp [h]
theorem xclone2 {l edge : List Dig} {z : Int} (h : NdR 2 4 9 r7 [ofB cC] 2 [] l edge z) : z = 0 ∧ (keepP r7 l).length = 6 ∧ edge = [ofB cB] := by
  have hc : ∀ d, NC r7 [ofB cC] noStop 2 d → d = ofB cC ∨ d = ofB cB := fun d => xnc2.1
  obtain ⟨rfl, N⟩ := xok (by decide) (by decide) hc h
  have hC : NC r7 [ofB cC] noStop 2 (ofB cC) := xnc2.2 (.inl rfl)
  have hm : ∀ d, d ∈ l ↔ d ∈ need2 := fun d => by
    rw [N.ml]
    unfold need2
    constructor
    · rintro ⟨k, hn⟩
      rcases xnd hc hn with ⟨h3, rfl⟩ | ⟨rfl, rfl⟩ | ⟨rfl, rfl⟩ | ⟨rfl, rfl, _⟩ | ⟨rfl, rfl⟩
      · rcases hc _ h3 with rfl | rfl <;> simp
      all_goals simp
    · intro h
      simp only [List.mem_cons, List.not_mem_nil, or_false] at h
      rcases h with rfl | rfl | rfl | rfl | rfl | rfl
      · exact ⟨3, .com hC⟩
      · exact ⟨3, .com (xnc2.2 (.inr rfl))⟩
      · exact ⟨2, .dir (xplR hC)⟩
      · exact ⟨2, .dir (xplT hC (.inl (List.nil_prefix)))⟩
      · exact ⟨1, .blob (e := ⟨tY, false, ofB [1, 1, 50]⟩) (xplR hC) xgR rfl (by simp [oR, treeO]) rfl List.nil_prefix⟩
      · exact ⟨1, .blob (e := ⟨tX, false, ofB [1, 1, 49]⟩) (xplT hC (.inl (List.nil_prefix))) xgT rfl (by simp [oT, treeO]) rfl List.nil_prefix⟩
  refine ⟨rfl, ?_, ?_⟩
  · rw [keepP_congr hm]; decide +kernel
  · refine N.b.ext (List.pairwise_singleton _ _) fun d => ?_
    rw [N.me, List.mem_singleton]
    constructor
    · rintro ⟨hd, o, x, hg, _, hx, hn⟩
      rcases xnc2.1 hd with rfl | rfl
      · rw [xgC] at hg; injection hg with hg; subst hg
        exact absurd (xnc2.2 (.inr (List.mem_singleton.1 hx))) hn
      · rfl
    · rintro rfl
      refine ⟨xnc2.2 (.inr rfl), oB, ofB cA, xgB, rfl, List.mem_singleton.2 rfl, fun h => ?_⟩
      rcases xnc2.1 h with h | h
      · exact absurd h (by decide +kernel)
      · exact absurd h (by decide +kernel)
theorem xclone1 {l edge : List Dig} {z : Int} (h : NdR 2 4 9 r7 [ofB cC] 1 sSrc4 l edge z) : z = 0 ∧ (keepP r7 l).length = 4 := by
  have hc : ∀ d, NC r7 [ofB cC] noStop 1 d → d = ofB cC ∨ d = ofB cB := fun d h => .inl (xnc1.1 h)
  obtain ⟨rfl, N⟩ := xok (by decide) (by decide) hc h
  have hC : NC r7 [ofB cC] noStop 1 (ofB cC) := xnc1.2 rfl
  have hm : ∀ d, d ∈ l ↔ d ∈ need1 := fun d => by
    rw [N.ml]
    unfold need1
    constructor
    · rintro ⟨k, hn⟩
      rcases xnd hc hn with ⟨h3, rfl⟩ | ⟨rfl, rfl⟩ | ⟨rfl, rfl⟩ | ⟨rfl, rfl, h⟩ | ⟨rfl, rfl⟩
      · rw [xnc1.1 h3]; simp
      · simp
      · simp
      · exact absurd h (by decide)
      · simp
    · intro h
      simp only [List.mem_cons, List.not_mem_nil, or_false] at h
      rcases h with rfl | rfl | rfl | rfl
      · exact ⟨3, .com hC⟩
      · exact ⟨2, .dir (xplR hC)⟩
      · exact ⟨2, .dir (xplT hC (.inl (List.prefix_refl _)))⟩
      · exact ⟨1, .blob (e := ⟨tX, false, ofB [1, 1, 49]⟩) (xplT hC (.inl (List.prefix_refl _))) xgT rfl (by simp [oT, treeO]) rfl ⟨[120], by decide⟩⟩
  refine ⟨rfl, ?_⟩
  rw [keepP_congr hm]; decide +kernel
end Go.Proofs.YtlcecobipgmafaaGreatDoor

namespace Go.Proofs.YtlcecobipgmafaaGreatDoor
open Go.RowKit

attribute [local irreducible] ofB digB cA cB cC cR cT ofL
theorem dgA4 : dgO oA = ofB cA := by unfold dgO; rw [xencA]
theorem dgB4 : dgO oB = ofB cB := by unfold dgO; rw [xencB]
theorem dgC4 : dgO oC = ofB cC := by unfold dgO; rw [xencC]
theorem xaw_store {w w' : World} {e : Ending} (h : StrE [] exL w e w') : ∃ A c, e = .returned (.tuple #[.slice A 4 c, digV (ofB cR), .int .i64 0]) ∧ Sl w' w'.heap.size 3 A 4 (flat itC r4) ∧ 4 ≤ c ∧ c ≤ maxLen ∧ Below w.heap.size w w' := by
  obtain ⟨h, hb⟩ := h
  rcases h with ⟨z, hz, hn, _⟩ | ⟨_, ⟨q, d, A, c, h1, _, rfl, h3, h4, h5⟩ | ⟨h1, _⟩⟩
  · exact absurd (TckR.same hz xckAw) hn
  · rw [xsto_aw] at h1
    injection h1 with h1
    injection h1 with h1 h2
    subst h1; subst h2
    rw [r4_len] at h3 h4
    exact ⟨A, c, by rw [r4_len], h3, h4, h5, hb⟩
  · rw [xsto_aw] at h1; cases h1
theorem xaw_put {A0 : Option Addr} {c0 n : Nat} {p q : List Itm} {o : Ob} {d : Dig} {w w' : World} {e : Ending} (h : PuE A0 c0 p o w e w') (hp : putP p o = some q) (hd : dgO o = d) (hn : q.length = n) :
    ∃ A c, e = .returned (.tuple #[.slice A n c, digV d, .int .i64 0]) ∧ Sl w' w'.heap.size 3 A n (flat itC q) ∧ n ≤ c ∧ c ≤ maxLen ∧ Below w.heap.size w w' := by
  obtain ⟨h, hb⟩ := h
  rcases h with ⟨q', A, c, h1, rfl, h3, h4, h5, _⟩ | ⟨h1, _⟩
  · rw [hp] at h1
    injection h1 with h1
    subst h1; subst hd; subst hn
    exact ⟨A, c, rfl, h3, h4, h5, hb⟩
  · rw [hp] at h1; cases h1
theorem res_pcc {fn : Func} {r c i : Tmp} (h : fn.results = #[.tmp r, .cell c 42, .cell i 42]) {w : World} {a : Array Value} {b b' : Nat} {x y u x' y' : Value} (hr : a[r]?.getD undef = u) (ha : a[c]?.getD undef = .pointer (some ⟨b, 0, none⟩)) (hk : Bk w b 42 #[x, y]) (ha' : a[i]?.getD undef = .pointer (some ⟨b', 0, none⟩)) (hk' : Bk w b' 42 #[x', y']) :
    (results fn a).run Tryz.prog w = .ok (.tuple #[u, .agg #[x, y], .agg #[x', y']]) w := by
  obtain ⟨h0, h1, _, _⟩ := hk.two
  obtain ⟨h0', h1', _, _⟩ := hk'.two
  simp [results, h, hr, ha, ha', go_sem, h0, h1, h0', h1']
theorem Bk.oth {w : World} {b b' : Nat} {t : TypeId} {cs : Array Value} (h : Bk w b t cs) (hn : b ≠ b') (x y : Value) : Bk ((w.setCell ⟨b', 0, none⟩ x).setCell ⟨b', 1, none⟩ y) b t cs :=
  (Below.heap_setCell _ ⟨b', 1, none⟩ y b hn).trans ((Below.heap_setCell w ⟨b', 0, none⟩ x b hn).trans h)
def ChnE (w : World) (e : Ending) (w' : World) : Prop :=
  ∃ A c, e = .returned (.tuple #[.slice A 7 c, digV (ofB cB), digV (ofB cC)]) ∧ Sl w' w'.heap.size 3 A 7 (flat itC r7) ∧ 7 ≤ c ∧ c ≤ maxLen ∧ Below w.heap.size w w'
theorem sl_on4 {w w' : World} {n size : Nat} {A : Option Addr} {l : List Value} (h : Sl w w.heap.size size A n l) (hb : Below w.heap.size w w') : Sl w' w'.heap.size size A n l := (h.below hb (Nat.le_refl _)).more hb.size
set_option maxRecDepth 100000 in
set_option maxHeartbeats 8000000 in
theorem chain_any (w : World) : Calls Tryz.prog 25 #[] w (ChnE w) := by
  obtain ⟨W0, hW0⟩ : ∃ W, (w.alloc (.cells #[.int .u64 0, .int .u64 0] 42)).alloc (.cells #[.int .u64 0, .int .u64 0] 42) = W := ⟨_, rfl⟩
  have HB0 : Hid (Below w.heap.size w W0) := by rw [← hW0]; exact ((Below.refl _ w).alloc (Nat.le_refl _) _).alloc (by simp) _
  have HP0 : Hid (Bk W0 w.heap.size 42 #[.int .u64 0, .int .u64 0]) := by rw [← hW0]; exact (Bk.new w _ _).alloc _
  have HQ0 : Hid (Bk W0 (w.heap.size + 1) 42 #[.int .u64 0, .int .u64 0]) := by
    rw [← hW0]
    have := Bk.new (w.alloc (.cells #[.int .u64 0, .int .u64 0] 42)) 42 #[.int .u64 0, .int .u64 0]
    rw [World.size_alloc] at this; exact this
  have z0 : w.heap.size + 1 < W0.heap.size := HQ0.out.lt
  obtain ⟨W1, hW1⟩ : ∃ W, W0.alloc (.cells #[.string ⟨#[115, 114, 99, 47, 120]⟩, .string ⟨#[49]⟩, .string ⟨#[121]⟩, .string ⟨#[50]⟩] 94) = W := ⟨_, rfl⟩
  have HB1 : Hid (Below W0.heap.size W0 W1) := by rw [← hW1]; exact (Below.refl _ W0).alloc (Nat.le_refl _) _
  have e0 : W0.heap.size = w.heap.size + 1 + 1 := by rw [← hW0]; simp
  have HS1 : Hid (Sl W1 W1.heap.size 2 (some ⟨w.heap.size + 1 + 1, 0, none⟩) 2 (flat flC exL)) := by
    rw [← hW1, ← e0]; exact Sl.of_bk (n := 2) (size := 2) (Bk.new W0 _ _) rfl
  have HST := Lib.hid (tstore_any none 0 0 W1.heap.size [] (some ⟨w.heap.size + 1 + 1, 0, none⟩) 2 2 exL W1 ⟨rfl, fun h => absurd h (Nat.lt_irrefl 0)⟩ HS1.out (Nat.le_refl _) (Nat.le_refl _) (Nat.zero_le _) (Nat.zero_le _) (by omega) PlOk.nil (fun f hf => ⟨Nat.le_trans (path_len (xokAw.path f hf)) (by omega), xokAw.data f hf⟩))
  have HW0 := Lib.hid hW0; have HW1 := Lib.hid hW1
  clear hW0 hW1 e0
  go_enter Tryz.func25, Tryz.ntmps25
  go_wp2_with fail
  rw [HW0.out, HW1.out]
  refine HST.out.mono ?_
  rintro e w4 hst
  obtain ⟨A4, c4, rfl, hs4, hc4, hm4, hb4⟩ := xaw_store hst
  have HS4 := Lib.hid hs4
  have hb04 : Below W0.heap.size W0 w4 := HB1.out.trans (hb4.mono HB1.out.size)
  have HB4 : Hid (Below w.heap.size w w4) := HB0.out.trans (hb04.mono HB0.out.size)
  have HP4 := Lib.hid (HP0.out.below hb04 (by omega)); have HQ4 := Lib.hid (HQ0.out.below hb04 (by omega))
  have z4 : w.heap.size + 1 < w4.heap.size := HQ4.out.lt
  clear hst hs4 hb4 hb04 HST HB1 HS1 HW0 HW1 HP0 HQ0 HB0
  obtain ⟨⟨t1, t2⟩, ht⟩ : ∃ d, ofB cR = d := ⟨_, rfl⟩
  have HT := Lib.hid ht
  rw [ht]
  simp only [digV]
  clear ht
  obtain ⟨W4, hW4⟩ : ∃ W, w4.alloc (.cells #[.int .u64 t1, .int .u64 t2] 42) = W := ⟨_, rfl⟩
  have hbW4 : Below w4.heap.size w4 W4 := by rw [← hW4]; exact (Below.refl _ w4).alloc (Nat.le_refl _) _
  have HKW4 : Hid (Bk W4 w4.heap.size 42 #[.int .u64 t1, .int .u64 t2]) := by rw [← hW4]; exact Bk.new w4 _ _
  have zW4 : w4.heap.size < W4.heap.size := HKW4.out.lt
  have hbt : Below w4.heap.size w4 W4 := hbW4
  have HC := Lib.hid (pput_any A4 4 c4 W4.heap.size r4 oA ⟨none, 0, 0, none, 0, 0⟩ W4 (sl_on4 HS4.out hbt) ⟨Sl.nil _ _ _ _, Sl.nil _ _ _ _, Nat.le_refl _, Nat.zero_le _, Nat.le_refl _, Nat.zero_le _⟩ (Nat.le_refl _) hc4 hm4 (by omega) xpl4.asc xokA)
  have hv : obV oA ⟨none, 0, 0, none, 0, 0⟩ = .agg #[.int .i64 3, .string ⟨#[]⟩, .slice none 0 0, .int .u64 t1, .int .u64 t2, .slice none 0 0, .string ⟨#[97]⟩, .int .i64 0, .string ⟨#[]⟩] := by
    have h : ∀ d, ofB cR = d → obV oA ⟨none, 0, 0, none, 0, 0⟩ = .agg #[.int .i64 3, .string ⟨#[]⟩, .slice none 0 0, .int .u64 d.1, .int .u64 d.2, .slice none 0 0, .string ⟨#[97]⟩, .int .i64 0, .string ⟨#[]⟩] := fun d h => by rw [← h]; rfl
    exact h _ HT.out
  rw [hv] at HC
  clear hv
  have HPn := Lib.hid (HP4.out.below hbt HP4.out.lt)
  have HQn := Lib.hid (HQ4.out.below hbt HQ4.out.lt)
  have HBn : Hid (Below w.heap.size w W4) := HB4.out.trans (hbt.mono (by have := HB4.out.size; omega))
  obtain ⟨x0, x1, _, _⟩ := HKW4.out.two
  rw [← hW4] at x0 x1
  have HWx := Lib.hid hW4
  clear hW4 hbt hbW4
  go_wp2_with fail
  rw [HWx.out]
  refine HC.out.mono ?_
  rintro e w5 hst
  obtain ⟨A5, c5, rfl, hs5, hc5, hm5, hb⟩ := xaw_put hst xput5 dgA4 r5_len
  have HS5 := Lib.hid hs5
  have HB5 : Hid (Below w.heap.size w w5) := HBn.out.trans (hb.mono HBn.out.size)
  have HP5 := Lib.hid (HPn.out.below hb HPn.out.lt)
  have HQ5 := Lib.hid (HQn.out.below hb HQn.out.lt)
  have HX5 : Hid (Bk w5 w4.heap.size 42 #[.int .u64 t1, .int .u64 t2]) := HKW4.out.below hb zW4
  have z5 : W4.heap.size ≤ w5.heap.size := hb.size
  clear hst hs5 hb HC HBn HWx x0 x1 HPn HQn HP4 HQ4 HB4 HS4 HKW4
  obtain ⟨⟨a1, a2⟩, hd⟩ : ∃ d, ofB cA = d := ⟨_, rfl⟩
  have HDa := Lib.hid hd
  rw [hd]
  simp only [digV]
  clear hd
  obtain ⟨W5, hW5⟩ : ∃ W, w5.alloc (.cells #[.int .u64 a1, .int .u64 a2] 42) = W := ⟨_, rfl⟩
  have hbW5 : Below w5.heap.size w5 W5 := by rw [← hW5]; exact (Below.refl _ w5).alloc (Nat.le_refl _) _
  have HKW5 : Hid (Bk W5 w5.heap.size 42 #[.int .u64 a1, .int .u64 a2]) := by rw [← hW5]; exact Bk.new w5 _ _
  have zW5 : w5.heap.size < W5.heap.size := HKW5.out.lt
  have eW5 : W5.heap.size = w5.heap.size + 1 := by rw [← hW5]; simp
  obtain ⟨W5s, hW5s⟩ : ∃ W, W5.alloc (.cells #[.int .u64 a1, .int .u64 a2] 42) = W := ⟨_, rfl⟩
  have hbW5s : Below W5.heap.size W5 W5s := by rw [← hW5s]; exact (Below.refl _ W5).alloc (Nat.le_refl _) _
  have HSW5s : Hid (Sl W5s W5s.heap.size 2 (some ⟨w5.heap.size + 1, 0, none⟩) 1 (flat dgC [(a1, a2)])) := by rw [← hW5s, ← eW5]; exact Sl.of_bk (n := 1) (size := 2) (Bk.new W5 _ _) rfl
  have ztW5 : W5.heap.size ≤ W5s.heap.size := hbW5s.size
  have hbt : Below w5.heap.size w5 W5s := hbW5.trans (hbW5s.mono hbW5.size)
  have HC := Lib.hid (pput_any A5 5 c5 W5s.heap.size r5 oB ⟨none, 0, 0, some ⟨w5.heap.size + 1, 0, none⟩, 1, 1⟩ W5s (sl_on4 HS5.out hbt) ⟨Sl.nil _ _ _ _, by simp only [oB, comO]; rw [HDa.out]; exact HSW5s.out, Nat.le_refl _, Nat.zero_le _, Nat.le_refl _, by unfold maxLen; simp⟩ (Nat.le_refl _) hc5 hm5 (by omega) xpl5.asc xokB)
  have hv : obV oB ⟨none, 0, 0, some ⟨w5.heap.size + 1, 0, none⟩, 1, 1⟩ = .agg #[.int .i64 3, .string ⟨#[]⟩, .slice none 0 0, .int .u64 t1, .int .u64 t2, .slice (some ⟨w5.heap.size + 1, 0, none⟩) 1 1, .string ⟨#[98]⟩, .int .i64 0, .string ⟨#[]⟩] := by
    have h : ∀ d, ofB cR = d → obV oB ⟨none, 0, 0, some ⟨w5.heap.size + 1, 0, none⟩, 1, 1⟩ = .agg #[.int .i64 3, .string ⟨#[]⟩, .slice none 0 0, .int .u64 d.1, .int .u64 d.2, .slice (some ⟨w5.heap.size + 1, 0, none⟩) 1 1, .string ⟨#[98]⟩, .int .i64 0, .string ⟨#[]⟩] := fun d h => by rw [← h]; rfl
    exact h _ HT.out
  rw [hv] at HC
  clear hv
  have HPn := Lib.hid (HP5.out.below hbt HP5.out.lt)
  have HQn := Lib.hid (HQ5.out.below hbt HQ5.out.lt)
  have HXn := Lib.hid (HX5.out.below hbt HX5.out.lt)
  have HBn : Hid (Below w.heap.size w W5s) := HB5.out.trans (hbt.mono (by have := HB5.out.size; omega))
  have HKn : Hid (Bk W5s w5.heap.size 42 #[.int .u64 a1, .int .u64 a2]) := HKW5.out.below hbW5s zW5
  obtain ⟨x0, x1, _, _⟩ := HKW5.out.two
  rw [← hW5] at x0 x1
  have hbw := hbW5
  obtain ⟨y0, y1, _, _⟩ := (HX5.out.below hbw (by omega)).two
  rw [← hW5] at y0 y1
  have HWx := Lib.hid hW5; have HWy := Lib.hid hW5s
  clear eW5 hW5 hW5s hbt hbW5s hbW5 hbw
  go_wp2_with fail
  rw [HWx.out, HWy.out]
  refine HC.out.mono ?_
  rintro e w6 hst
  obtain ⟨A6, c6, rfl, hs6, hc6, hm6, hb⟩ := xaw_put hst xput6 dgB4 r6_len
  have HS6 := Lib.hid hs6
  have HB6 : Hid (Below w.heap.size w w6) := HBn.out.trans (hb.mono HBn.out.size)
  have HP6 := Lib.hid (HPn.out.below hb HPn.out.lt)
  have HQ6 := Lib.hid (HQn.out.below hb HQn.out.lt)
  have HX6 := Lib.hid (HXn.out.below hb HXn.out.lt)
  have HYb6 : Hid (Bk w6 w5.heap.size 42 #[.int .u64 a1, .int .u64 a2]) := HKn.out.below hb HKn.out.lt
  have z6 : W5s.heap.size ≤ w6.heap.size := hb.size
  clear hst hs6 hb HC HBn HWx x0 x1 y0 y1 HWy HKn HPn HQn HXn HP5 HQ5 HX5 HB5 HS5 HKW5 HSW5s
  obtain ⟨⟨b1, b2⟩, hd⟩ : ∃ d, ofB cB = d := ⟨_, rfl⟩
  have HDb := Lib.hid hd
  rw [hd]
  simp only [digV]
  clear hd
  obtain ⟨W6, hW6⟩ : ∃ W, w6.alloc (.cells #[.int .u64 b1, .int .u64 b2] 42) = W := ⟨_, rfl⟩
  have hbW6 : Below w6.heap.size w6 W6 := by rw [← hW6]; exact (Below.refl _ w6).alloc (Nat.le_refl _) _
  have HKW6 : Hid (Bk W6 w6.heap.size 42 #[.int .u64 b1, .int .u64 b2]) := by rw [← hW6]; exact Bk.new w6 _ _
  have zW6 : w6.heap.size < W6.heap.size := HKW6.out.lt
  have eW6 : W6.heap.size = w6.heap.size + 1 := by rw [← hW6]; simp
  obtain ⟨W6s, hW6s⟩ : ∃ W, W6.alloc (.cells #[.int .u64 b1, .int .u64 b2] 42) = W := ⟨_, rfl⟩
  have hbW6s : Below W6.heap.size W6 W6s := by rw [← hW6s]; exact (Below.refl _ W6).alloc (Nat.le_refl _) _
  have HSW6s : Hid (Sl W6s W6s.heap.size 2 (some ⟨w6.heap.size + 1, 0, none⟩) 1 (flat dgC [(b1, b2)])) := by rw [← hW6s, ← eW6]; exact Sl.of_bk (n := 1) (size := 2) (Bk.new W6 _ _) rfl
  have ztW6 : W6.heap.size ≤ W6s.heap.size := hbW6s.size
  have hbt : Below w6.heap.size w6 W6s := hbW6.trans (hbW6s.mono hbW6.size)
  have HC := Lib.hid (pput_any A6 6 c6 W6s.heap.size r6 oC ⟨none, 0, 0, some ⟨w6.heap.size + 1, 0, none⟩, 1, 1⟩ W6s (sl_on4 HS6.out hbt) ⟨Sl.nil _ _ _ _, by simp only [oC, comO]; rw [HDb.out]; exact HSW6s.out, Nat.le_refl _, Nat.zero_le _, Nat.le_refl _, by unfold maxLen; simp⟩ (Nat.le_refl _) hc6 hm6 (by omega) xpl6.asc xokC)
  have hv : obV oC ⟨none, 0, 0, some ⟨w6.heap.size + 1, 0, none⟩, 1, 1⟩ = .agg #[.int .i64 3, .string ⟨#[]⟩, .slice none 0 0, .int .u64 t1, .int .u64 t2, .slice (some ⟨w6.heap.size + 1, 0, none⟩) 1 1, .string ⟨#[99]⟩, .int .i64 0, .string ⟨#[]⟩] := by
    have h : ∀ d, ofB cR = d → obV oC ⟨none, 0, 0, some ⟨w6.heap.size + 1, 0, none⟩, 1, 1⟩ = .agg #[.int .i64 3, .string ⟨#[]⟩, .slice none 0 0, .int .u64 d.1, .int .u64 d.2, .slice (some ⟨w6.heap.size + 1, 0, none⟩) 1 1, .string ⟨#[99]⟩, .int .i64 0, .string ⟨#[]⟩] := fun d h => by rw [← h]; rfl
    exact h _ HT.out
  rw [hv] at HC
  clear hv
  have HPn := Lib.hid (HP6.out.below hbt HP6.out.lt)
  have HQn := Lib.hid (HQ6.out.below hbt HQ6.out.lt)
  have HXn := Lib.hid (HX6.out.below hbt HX6.out.lt)
  have HYbn := Lib.hid (HYb6.out.below hbt HYb6.out.lt)
  have HBn : Hid (Below w.heap.size w W6s) := HB6.out.trans (hbt.mono (by have := HB6.out.size; omega))
  have HKn : Hid (Bk W6s w6.heap.size 42 #[.int .u64 b1, .int .u64 b2]) := HKW6.out.below hbW6s zW6
  obtain ⟨x0, x1, _, _⟩ := HKW6.out.two
  rw [← hW6] at x0 x1
  have hbw := hbW6
  obtain ⟨y0, y1, _, _⟩ := (HX6.out.below hbw (by omega)).two
  rw [← hW6] at y0 y1
  have HWx := Lib.hid hW6; have HWy := Lib.hid hW6s
  clear eW6 hW6 hW6s hbt hbW6s hbW6 hbw
  go_wp2_with fail
  rw [HWx.out, HWy.out]
  refine HC.out.mono ?_
  rintro e w7 hst
  obtain ⟨A7, c7, rfl, hs7, hc7, hm7, hb⟩ := xaw_put hst xput7 dgC4 r7_len
  have HS7 := Lib.hid hs7
  have HB7 : Hid (Below w.heap.size w w7) := HBn.out.trans (hb.mono HBn.out.size)
  have HP7 := Lib.hid (HPn.out.below hb HPn.out.lt)
  have HQ7 := Lib.hid (HQn.out.below hb HQn.out.lt)
  have HX7 := Lib.hid (HXn.out.below hb HXn.out.lt)
  have HYb7 := Lib.hid (HYbn.out.below hb HYbn.out.lt)
  have HYc7 : Hid (Bk w7 w6.heap.size 42 #[.int .u64 b1, .int .u64 b2]) := HKn.out.below hb HKn.out.lt
  have z7 : W6s.heap.size ≤ w7.heap.size := hb.size
  clear hst hs7 hb HC HBn HWx x0 x1 y0 y1 HWy HKn HPn HQn HXn HYbn HP6 HQ6 HX6 HYb6 HB6 HS6 HKW6 HSW6s
  obtain ⟨⟨c1, c2⟩, hd⟩ : ∃ d, ofB cC = d := ⟨_, rfl⟩
  have HDc := Lib.hid hd
  rw [hd]
  simp only [digV]
  clear hd
  obtain ⟨W7, hW7⟩ : ∃ W, w7.alloc (.cells #[.int .u64 c1, .int .u64 c2] 42) = W := ⟨_, rfl⟩
  have hbW7 : Below w7.heap.size w7 W7 := by rw [← hW7]; exact (Below.refl _ w7).alloc (Nat.le_refl _) _
  have HKW7 : Hid (Bk W7 w7.heap.size 42 #[.int .u64 c1, .int .u64 c2]) := by rw [← hW7]; exact Bk.new w7 _ _
  have HPx := Lib.hid (HP7.out.below hbW7 (by omega)); have HQx := Lib.hid (HQ7.out.below hbW7 (by omega))
  have HYx := Lib.hid (HYc7.out.below hbW7 (by omega))
  have HSx := Lib.hid (sl_on4 HS7.out hbW7)
  have HBx : Hid (Below w.heap.size w W7) := HB7.out.trans (hbW7.mono HB7.out.size)
  have HWx := Lib.hid hW7
  clear hW7 hbW7 HP7 HQ7 HYc7 HX7 HS7 HB7
  obtain ⟨_, _, g0, g1⟩ := HPx.out.two
  obtain ⟨_, _, k0, k1⟩ := HQx.out.two
  obtain ⟨x0, x1, _, _⟩ := HYx.out.two
  obtain ⟨y0, y1, _, _⟩ := HKW7.out.two
  have n1 : w.heap.size ≠ w7.heap.size := by omega
  have n2 : w.heap.size + 1 ≠ w7.heap.size := by omega
  have n3 : w.heap.size ≠ w6.heap.size := by omega
  have n4 : w.heap.size + 1 ≠ w6.heap.size := by omega
  have n5 : w.heap.size ≠ w.heap.size + 1 := by omega
  go_wp2_with fail
  rw [HWx.out]
  go_region
  go_wp2_with fail
  refine bodyPost_ret (res_pcc Tryz.results25 rfl rfl (((HPx.out.set2 (.int .u64 b1) (.int .u64 b2)).oth n5 (.int .u64 c1) (.int .u64 c2)).drew) rfl (((HQx.out.oth n5.symm (.int .u64 b1) (.int .u64 b2)).set2 (.int .u64 c1) (.int .u64 c2)).drew)) rfl ?_
  refine ⟨A7, c7, by rw [HDb.out, HDc.out]; rfl, ?_, hc7, hm7, ?_⟩
  · have h1 := HSx.out.ne (b := w.heap.size) (HSx.out.dgbox HPx.out) (fun k hk => (Below.heap_setCell (W7.setCell ⟨w.heap.size, 0, none⟩ (.int .u64 b1)) ⟨w.heap.size, 1, none⟩ (.int .u64 b2) k hk).trans (Below.heap_setCell W7 ⟨w.heap.size, 0, none⟩ (.int .u64 b1) k hk))
    have h2 := h1.ne (b := w.heap.size + 1) (h1.dgbox (HQx.out.oth n5.symm (.int .u64 b1) (.int .u64 b2))) (fun k hk => (Below.heap_setCell _ ⟨w.heap.size + 1, 1, none⟩ (.int .u64 c2) k hk).trans (Below.heap_setCell _ ⟨w.heap.size + 1, 0, none⟩ (.int .u64 c1) k hk))
    simpa using h2.drew
  · exact (below_set2 (below_set2 HBx.out (by omega) _ _) (by omega) _ _).drew
end Go.Proofs.YtlcecobipgmafaaGreatDoor

namespace Go.Proofs.YtlcecobipgmafaaGreatDoor
open Go.RowKit

abbrev Pla := Dig × ByteArray
structure WkS where
  ne : Dig → Bool
  ed : Dig → Bool
  me : Pla → Bool
  op : List Pla
  wr : Bool
def setB {α : Type} [DecidableEq α] (f : α → Bool) (x : α) : α → Bool := fun y => decide (y = x) || f y
theorem setB_true {α : Type} [DecidableEq α] {f : α → Bool} {x y : α} : setB f x y = true ↔ y = x ∨ f y = true := by simp [setB]
def nB : ByteArray := ⟨#[]⟩
def slqB (q n : ByteArray) : ByteArray := q ++ n ++ ⟨#[47]⟩
theorem toL_app' (a b : ByteArray) : toL (a ++ b) = toL a ++ toL b := by simp [toL]
theorem toL_slqB (q n : ByteArray) : toL (slqB q n) = toL q ++ toL n ++ [47] := by unfold slqB; rw [toL_app', toL_app']; rfl
instance (a b : Bytes) : Decidable (a <+: b) := decidable_of_iff (a.isPrefixOf b = true) List.isPrefixOf_iff_prefix
def nrm (pre q : Bytes) : Bytes := if pre <+: q then pre else q
def nrmB (pre q : ByteArray) : ByteArray := if toL pre <+: toL q then pre else q
theorem toL_nrmB (pre q : ByteArray) : toL (nrmB pre q) = nrm (toL pre) (toL q) := by unfold nrmB nrm; split <;> rfl
theorem nrm_app (pre q r : Bytes) : nrm pre (nrm pre q ++ r) = nrm pre (q ++ r) := by
  unfold nrm
  by_cases h : pre <+: q
  · rw [if_pos h, if_pos (List.prefix_append _ _), if_pos (h.trans (List.prefix_append _ _))]
  · rw [if_neg h]
theorem nrm_pre (pre q r : Bytes) : pre <+: nrm pre q ++ r ↔ pre <+: q ++ r := by
  unfold nrm
  by_cases h : pre <+: q
  · rw [if_pos h]; exact ⟨fun _ => h.trans (List.prefix_append _ _), fun _ => List.prefix_append _ _⟩
  · rw [if_neg h]
theorem nrm_touch (pre q r : Bytes) : touch pre (nrm pre q ++ r) ↔ touch pre (q ++ r) := by
  unfold nrm
  by_cases h : pre <+: q
  · rw [if_pos h]; exact ⟨fun _ => .inl (h.trans (List.prefix_append _ _)), fun _ => .inl (List.prefix_append _ _)⟩
  · rw [if_neg h]

section
variable (p : List Itm) (com : Dig → Bool) (pre : ByteArray)
noncomputable def getS (s : WkS) (d : Dig) (k : Int) : WkS × Option Ob :=
  match getP p d with
  | none => ({ s with ne := setB s.ne d }, none)
  | some o => if o.kind = k then ({ s with ne := setB s.ne d }, some o) else ({ s with ne := setB s.ne d, wr := true }, none)
def pushS (s : WkS) (x : Pla) : WkS := if s.me x = true then s else { s with me := setB s.me x, op := s.op ++ [x] }
def dirW (s : WkS) (d : Dig) (q : ByteArray) : WkS := if toL pre <+: toL q then pushS s (d, pre) else if toL q <+: toL pre then pushS s (d, q) else s
noncomputable def comS (s : WkS) (c : Dig) : WkS :=
  match getS p s c 3 with
  | (s, none) => s
  | (s, some o) => if o.pars.any (fun x => !com x) = true then { dirW pre s o.tree nB with ed := setB (dirW pre s o.tree nB).ed c } else dirW pre s o.tree nB
noncomputable def entS (q : ByteArray) (s : WkS) (e : Ent) : WkS :=
  if e.dir = true then dirW pre s e.dg (slqB q e.nm) else if toL pre <+: toL (q ++ e.nm) then (getS p s e.dg 1).1 else s
noncomputable def visS (s : WkS) (x : Pla) : WkS :=
  match getS p s x.1 2 with
  | (s, none) => s
  | (s, some o) => o.ents.foldl (entS p pre x.2) s
end
structure LeS (s s' : WkS) : Prop where
  ne : ∀ d, s.ne d = true → s'.ne d = true
  ed : ∀ d, s.ed d = true → s'.ed d = true
  me : ∀ x, s.me x = true → s'.me x = true
  wr : s.wr = true → s'.wr = true
  op : ∀ x, x ∈ s.op → x ∈ s'.op
theorem LeS.refl (s : WkS) : LeS s s := ⟨fun _ h => h, fun _ h => h, fun _ h => h, fun h => h, fun _ h => h⟩
theorem LeS.trans {a b c : WkS} (h : LeS a b) (k : LeS b c) : LeS a c := ⟨fun d x => k.ne d (h.ne d x), fun d x => k.ed d (h.ed d x), fun d x => k.me d (h.me d x), fun x => k.wr (h.wr x), fun d x => k.op d (h.op d x)⟩
section
variable {p : List Itm} {com : Dig → Bool} {pre : ByteArray} {hs : List Dig} {stop : Dig → Prop} {dep : Int}
theorem getS_le (s : WkS) (d : Dig) (k : Int) : LeS s (getS p s d k).1 := by
  unfold getS
  have h : ∀ y, s.ne y = true → setB s.ne d y = true := fun y hy => setB_true.2 (.inr hy)
  split
  · exact ⟨h, fun _ h => h, fun _ h => h, fun h => h, fun _ h => h⟩
  · split
    · exact ⟨h, fun _ h => h, fun _ h => h, fun h => h, fun _ h => h⟩
    · exact ⟨h, fun _ h => h, fun _ h => h, fun _ => rfl, fun _ h => h⟩
theorem pushS_le (s : WkS) (x : Pla) : LeS s (pushS s x) := by
  unfold pushS
  split
  · exact .refl s
  · exact ⟨fun _ h => h, fun _ h => h, fun _ h => setB_true.2 (.inr h), fun h => h, fun _ h => List.mem_append_left _ h⟩
theorem dirW_le (s : WkS) (d : Dig) (q : ByteArray) : LeS s (dirW pre s d q) := by
  unfold dirW
  split
  · exact pushS_le _ _
  · split
    · exact pushS_le _ _
    · exact .refl s
theorem comS_le (s : WkS) (c : Dig) : LeS s (comS p com pre s c) := by
  unfold comS
  have h1 := getS_le (p := p) s c 3
  split
  · rename_i s1 h; rw [h] at h1; exact h1
  · rename_i s1 o h
    rw [h] at h1
    have h2 := dirW_le (pre := pre) s1 o.tree nB
    split
    · exact h1.trans (h2.trans ⟨fun _ h => h, fun _ h => setB_true.2 (.inr h), fun _ h => h, fun h => h, fun _ h => h⟩)
    · exact h1.trans h2
theorem entS_le (q : ByteArray) (s : WkS) (e : Ent) : LeS s (entS p pre q s e) := by
  unfold entS
  split
  · exact dirW_le _ _ _
  · split
    · exact getS_le _ _ _
    · exact .refl s
theorem ents_le (q : ByteArray) : ∀ (l : List Ent) (s : WkS), LeS s (l.foldl (entS p pre q) s)
  | [], s => .refl s
  | e :: l, s => (entS_le q s e).trans (ents_le q l _)
theorem visS_le (s : WkS) (x : Pla) : LeS s (visS p pre s x) := by
  unfold visS
  have h1 := getS_le (p := p) s x.1 2
  split
  · rename_i s1 h; rw [h] at h1; exact h1
  · rename_i s1 o h
    rw [h] at h1
    exact h1.trans (ents_le _ _ _)

structure Snd (p : List Itm) (hs : List Dig) (stop : Dig → Prop) (dep : Int) (pre : ByteArray) (s : WkS) : Prop where
  ne : ∀ d, s.ne d = true → Need p hs stop dep (toL pre) d
  ed : ∀ d, s.ed d = true → EdgeD p hs stop dep d
  me : ∀ x, s.me x = true → ∃ q, Plc p hs stop dep (toL pre) x.1 q ∧ nrm (toL pre) q = toL x.2
  wr : s.wr = true → Wrong p hs stop dep (toL pre)
  op : ∀ x, x ∈ s.op → s.me x = true
theorem Snd.get {s : WkS} (h : Snd p hs stop dep pre s) {d : Dig} {k : Int} (hd : Nd p hs stop dep (toL pre) d k) : Snd p hs stop dep pre (getS p s d k).1 := by
  have hn : ∀ y, setB s.ne d y = true → Need p hs stop dep (toL pre) y := fun y hy => by
    rcases setB_true.1 hy with rfl | hy
    · exact ⟨k, hd⟩
    · exact h.ne y hy
  unfold getS
  split
  · exact ⟨hn, h.ed, h.me, h.wr, h.op⟩
  · rename_i o ho
    split
    · exact ⟨hn, h.ed, h.me, h.wr, h.op⟩
    · rename_i hk; exact ⟨hn, h.ed, h.me, fun _ => ⟨d, k, o, hd, ho, hk⟩, h.op⟩
theorem Snd.push {s : WkS} (h : Snd p hs stop dep pre s) {x : Pla} (hx : ∃ q, Plc p hs stop dep (toL pre) x.1 q ∧ nrm (toL pre) q = toL x.2) : Snd p hs stop dep pre (pushS s x) := by
  unfold pushS
  split
  · exact h
  · refine ⟨h.ne, h.ed, fun y hy => ?_, h.wr, fun y hy => ?_⟩
    · rcases setB_true.1 hy with rfl | hy
      · exact hx
      · exact h.me y hy
    · rcases List.mem_append.1 hy with hy | hy
      · exact setB_true.2 (.inr (h.op y hy))
      · exact setB_true.2 (.inl (List.mem_singleton.1 hy))
theorem Snd.dir {s : WkS} (h : Snd p hs stop dep pre s) {d : Dig} {q : ByteArray} (hx : touch (toL pre) (toL q) → ∃ q', Plc p hs stop dep (toL pre) d q' ∧ nrm (toL pre) q' = nrm (toL pre) (toL q)) : Snd p hs stop dep pre (dirW pre s d q) := by
  unfold dirW
  split
  · rename_i hq
    obtain ⟨q', h1, h2⟩ := hx (.inl hq)
    exact h.push ⟨q', h1, by rw [h2]; unfold nrm; rw [if_pos hq]⟩
  · rename_i hn
    split
    · rename_i hq
      obtain ⟨q', h1, h2⟩ := hx (.inr hq)
      exact h.push ⟨q', h1, by rw [h2]; unfold nrm; rw [if_neg hn]⟩
    · exact h
theorem getS_some {s s' : WkS} {d : Dig} {k : Int} {o : Ob} (h : getS p s d k = (s', some o)) : getP p d = some o ∧ o.kind = k := by
  unfold getS at h
  split at h
  · cases h
  · split at h
    · rename_i o' h1 h2; cases h; exact ⟨h1, h2⟩
    · cases h
theorem getS_none {s s' : WkS} {d : Dig} {k : Int} (h : getS p s d k = (s', none)) : ∀ o, getP p d = some o → o.kind ≠ k ∧ s'.wr = true := by
  intro o ho
  unfold getS at h
  rw [ho] at h
  simp only at h
  split at h
  · cases h
  · rename_i h2; cases h; exact ⟨h2, rfl⟩
theorem getS_ne (s : WkS) (d : Dig) (k : Int) : (getS p s d k).1.ne d = true := by
  have h : setB s.ne d d = true := setB_true.2 (.inl rfl)
  unfold getS
  split
  · exact h
  · split <;> exact h
theorem getS_wr (s : WkS) (d : Dig) (k : Int) {o : Ob} (h : getP p d = some o) (hk : o.kind ≠ k) : (getS p s d k).1.wr = true := by
  unfold getS
  rw [h]
  simp only
  rw [if_neg hk]
theorem Snd.comm {s : WkS} (h : Snd p hs stop dep pre s) {c : Dig} (hc : NC p hs stop dep c) (hcom : ∀ d, com d = true ↔ NC p hs stop dep d) : Snd p hs stop dep pre (comS p com pre s c) := by
  have h1 : Snd p hs stop dep pre (getS p s c 3).1 := h.get (.com hc)
  unfold comS
  split
  · rename_i s1 e; rw [e] at h1; exact h1
  · rename_i s1 o e
    rw [e] at h1
    obtain ⟨ho, hk⟩ := getS_some e
    have h2 : Snd p hs stop dep pre (dirW pre s1 o.tree nB) := Snd.dir h1 fun _ => ⟨[], .root hc ho hk, rfl⟩
    split
    · rename_i ha
      obtain ⟨x, hx, hn⟩ := List.any_eq_true.1 ha
      refine ⟨h2.ne, fun d hd => ?_, h2.me, h2.wr, h2.op⟩
      rcases setB_true.1 hd with rfl | hd
      · exact ⟨hc, o, x, ho, hk, hx, fun hh => by rw [(hcom x).2 hh] at hn; cases hn⟩
      · exact h2.ed d hd
    · exact h2
theorem Snd.ent {s : WkS} (h : Snd p hs stop dep pre s) {d : Dig} {q : ByteArray} {q' : Bytes} {o : Ob} {e : Ent} (hd : Plc p hs stop dep (toL pre) d q') (hq : nrm (toL pre) q' = toL q) (ho : getP p d = some o) (hk : o.kind = 2) (he : e ∈ o.ents) :
    Snd p hs stop dep pre (entS p pre q s e) := by
  unfold entS
  split
  · rename_i hdir
    refine h.dir fun ht => ⟨_, .sub hd ho hk he hdir ?_, ?_⟩
    · rw [toL_slqB, ← hq, List.append_assoc, nrm_touch] at ht
      rw [List.append_assoc]; exact ht
    · rw [toL_slqB, ← hq, List.append_assoc, List.append_assoc, nrm_app]
  · rename_i hdir
    split
    · rename_i ht
      rw [toL_app', ← hq, nrm_pre] at ht
      exact h.get (.blob hd ho hk he (by simpa using hdir) ht)
    · exact h
theorem Snd.ents {d : Dig} {q : ByteArray} {q' : Bytes} {o : Ob} (hd : Plc p hs stop dep (toL pre) d q') (hq : nrm (toL pre) q' = toL q) (ho : getP p d = some o) (hk : o.kind = 2) :
    ∀ (l : List Ent) (s : WkS), (∀ e ∈ l, e ∈ o.ents) → Snd p hs stop dep pre s → Snd p hs stop dep pre (l.foldl (entS p pre q) s)
  | [], _, _, h => h
  | e :: l, s, hl, h => Snd.ents hd hq ho hk l _ (fun x hx => hl x (List.mem_cons_of_mem _ hx)) (h.ent hd hq ho hk (hl e (by simp)))
theorem Snd.pop {s : WkS} (h : Snd p hs stop dep pre s) {l : List Pla} (hl : ∀ x ∈ l, x ∈ s.op) : Snd p hs stop dep pre { s with op := l } :=
  ⟨h.ne, h.ed, h.me, h.wr, fun x hx => h.op x (hl x hx)⟩
theorem Snd.vis {s : WkS} (h : Snd p hs stop dep pre s) {x : Pla} (hx : s.me x = true) : Snd p hs stop dep pre (visS p pre s x) := by
  obtain ⟨q', hd, hq⟩ := h.me x hx
  have h1 : Snd p hs stop dep pre (getS p s x.1 2).1 := h.get (.dir hd)
  unfold visS
  split
  · rename_i s1 e; rw [e] at h1; exact h1
  · rename_i s1 o e
    rw [e] at h1
    obtain ⟨ho, hk⟩ := getS_some e
    exact Snd.ents hd hq ho hk _ _ (fun _ h => h) h1

/-! ### completeness -/
def EntDn (p : List Itm) (pre : ByteArray) (s : WkS) (q : ByteArray) (e : Ent) : Prop :=
  (e.dir = true → touch (toL pre) (toL (slqB q e.nm)) → s.me (e.dg, nrmB pre (slqB q e.nm)) = true) ∧
  (e.dir = false → toL pre <+: toL (q ++ e.nm) → s.ne e.dg = true ∧ ∀ o, getP p e.dg = some o → o.kind ≠ 1 → s.wr = true)
def Dn (p : List Itm) (pre : ByteArray) (s : WkS) (x : Pla) : Prop :=
  s.ne x.1 = true ∧ ∀ o, getP p x.1 = some o → (o.kind ≠ 2 → s.wr = true) ∧ (o.kind = 2 → ∀ e ∈ o.ents, EntDn p pre s x.2 e)
def CDn (p : List Itm) (com : Dig → Bool) (pre : ByteArray) (s : WkS) (c : Dig) : Prop :=
  s.ne c = true ∧ ∀ o, getP p c = some o → (o.kind ≠ 3 → s.wr = true) ∧ (o.kind = 3 → s.me (o.tree, nrmB pre nB) = true ∧ ((∃ x ∈ o.pars, com x = false) → s.ed c = true))
theorem EntDn.mono {s s' : WkS} (h : LeS s s') {q : ByteArray} {e : Ent} (k : EntDn p pre s q e) : EntDn p pre s' q e :=
  ⟨fun a b => h.me _ (k.1 a b), fun a b => ⟨h.ne _ (k.2 a b).1, fun o x y => h.wr ((k.2 a b).2 o x y)⟩⟩
theorem Dn.mono {s s' : WkS} (h : LeS s s') {x : Pla} (k : Dn p pre s x) : Dn p pre s' x :=
  ⟨h.ne _ k.1, fun o ho => ⟨fun a => h.wr ((k.2 o ho).1 a), fun a e he => ((k.2 o ho).2 a e he).mono h⟩⟩
theorem CDn.mono {s s' : WkS} (h : LeS s s') {c : Dig} (k : CDn p com pre s c) : CDn p com pre s' c :=
  ⟨h.ne _ k.1, fun o ho => ⟨fun a => h.wr ((k.2 o ho).1 a), fun a => ⟨h.me _ ((k.2 o ho).2 a).1, fun x => h.ed _ (((k.2 o ho).2 a).2 x)⟩⟩⟩
theorem push_me (s : WkS) (x : Pla) : (pushS s x).me x = true := by
  unfold pushS
  split
  · assumption
  · exact setB_true.2 (.inl rfl)
theorem dir_me {s : WkS} {d : Dig} {q : ByteArray} (h : touch (toL pre) (toL q)) : (dirW pre s d q).me (d, nrmB pre q) = true := by
  unfold dirW nrmB
  by_cases h1 : toL pre <+: toL q
  · rw [if_pos h1, if_pos h1]; exact push_me _ _
  · have h2 : toL q <+: toL pre := h.resolve_left h1
    rw [if_neg h1, if_neg h1, if_pos h2]; exact push_me _ _
theorem ent_dn (s : WkS) (q : ByteArray) (e : Ent) : EntDn p pre (entS p pre q s e) q e := by
  refine ⟨fun hd ht => ?_, fun hd ht => ?_⟩
  · unfold entS; rw [if_pos hd]; exact dir_me ht
  · unfold entS
    rw [if_neg (by rw [hd]; decide), if_pos ht]
    exact ⟨getS_ne _ _ _, fun o ho hk => getS_wr _ _ _ ho hk⟩
theorem ents_dn (q : ByteArray) : ∀ (l : List Ent) (s : WkS), ∀ e ∈ l, EntDn p pre (l.foldl (entS p pre q) s) q e
  | e :: l, s, x, hx => by
    rw [List.foldl_cons]
    rcases List.mem_cons.1 hx with rfl | hx
    · exact (ent_dn s q x).mono (ents_le q l _)
    · exact ents_dn q l _ x hx
theorem vis_dn (s : WkS) (x : Pla) : Dn p pre (visS p pre s x) x := by
  have hle := visS_le (p := p) (pre := pre) s x
  refine ⟨?_, fun o ho => ⟨fun hk => ?_, fun hk => ?_⟩⟩
  · have h0 := getS_ne (p := p) s x.1 2
    unfold visS
    split
    · rename_i s1 e; rw [e] at h0; exact h0
    · rename_i s1 o e; rw [e] at h0; exact (ents_le _ _ _).ne _ h0
  · have h0 := getS_wr (p := p) s x.1 2 ho hk
    unfold visS
    split
    · rename_i s1 e; rw [e] at h0; exact h0
    · rename_i s1 o e; rw [e] at h0; exact (ents_le _ _ _).wr h0
  · unfold visS
    split
    · rename_i s1 e; exact absurd hk (getS_none e o ho).1
    · rename_i s1 o' e
      obtain ⟨ho', _⟩ := getS_some e
      rw [ho] at ho'; cases ho'
      exact ents_dn _ _ _
theorem touch_nil (pre : Bytes) : touch pre [] := .inr List.nil_prefix
theorem comm_dn (s : WkS) (c : Dig) : CDn p com pre (comS p com pre s c) c := by
  refine ⟨?_, fun o ho => ⟨fun hk => ?_, fun hk => ?_⟩⟩
  · have h0 := getS_ne (p := p) s c 3
    unfold comS
    split
    · rename_i s1 e; rw [e] at h0; exact h0
    · rename_i s1 o e
      rw [e] at h0
      split <;> exact (dirW_le _ _ _).ne _ h0
  · have h0 := getS_wr (p := p) s c 3 ho hk
    unfold comS
    split
    · rename_i s1 e; rw [e] at h0; exact h0
    · rename_i s1 o e
      rw [e] at h0
      split <;> exact (dirW_le _ _ _).wr h0
  · unfold comS
    split
    · rename_i s1 e; exact absurd hk (getS_none e o ho).1
    · rename_i s1 o' e
      obtain ⟨ho', _⟩ := getS_some e
      rw [ho] at ho'; cases ho'
      have ht : (dirW pre s1 o.tree nB).me (o.tree, nrmB pre nB) = true := dir_me (touch_nil _)
      split
      · exact ⟨ht, fun _ => setB_true.2 (.inl rfl)⟩
      · rename_i ha
        refine ⟨ht, fun ⟨x, hx, hn⟩ => absurd (List.any_eq_true.2 ⟨x, hx, by rw [hn]; rfl⟩) ha⟩
theorem walk_end {s : WkS} (hS : Snd p hs stop dep pre s) (hcom : ∀ d, com d = true ↔ NC p hs stop dep d) (hC : ∀ c, com c = true → CDn p com pre s c) (hD : ∀ x, s.me x = true → Dn p pre s x) :
    (∀ d, s.ne d = true ↔ Need p hs stop dep (toL pre) d) ∧ (s.wr = true ↔ Wrong p hs stop dep (toL pre)) ∧ ∀ d, s.ed d = true ↔ EdgeD p hs stop dep d := by
  have hP : ∀ {d : Dig} {q : Bytes}, Plc p hs stop dep (toL pre) d q → s.me (d, ofL (nrm (toL pre) q)) = true := by
    intro d q h
    induction h with
    | @root c o h g k =>
      have h1 := ((hC c ((hcom c).2 h)).2 o g).2 k
      have e : nrmB pre nB = ofL (nrm (toL pre) []) := by rw [← ofL_toL (nrmB pre nB), toL_nrmB]; rfl
      rw [← e]; exact h1.1
    | @sub d q o e h g k m hd t ih =>
      have h1 := ((hD _ ih).2 o g).2 k e m
      have e1 : toL (slqB (ofL (nrm (toL pre) q)) e.nm) = nrm (toL pre) q ++ (toL e.nm ++ [47]) := by rw [toL_slqB, toL_ofL, List.append_assoc]
      have h2 := h1.1 hd (by rw [e1, nrm_touch, ← List.append_assoc]; exact t)
      have e2 : nrmB pre (slqB (ofL (nrm (toL pre) q)) e.nm) = ofL (nrm (toL pre) (q ++ toL e.nm ++ [47])) := by
        rw [← ofL_toL (nrmB _ _), toL_nrmB, e1, nrm_app, List.append_assoc]
      rw [e2] at h2
      exact h2
  have hN : ∀ {d : Dig} {k : Int}, Nd p hs stop dep (toL pre) d k → s.ne d = true ∧ ∀ o, getP p d = some o → o.kind ≠ k → s.wr = true := by
    intro d k h
    cases h with
    | com h => exact ⟨(hC d ((hcom d).2 h)).1, fun o ho hk => ((hC d ((hcom d).2 h)).2 o ho).1 hk⟩
    | dir h => exact ⟨(hD _ (hP h)).1, fun o ho hk => ((hD _ (hP h)).2 o ho).1 hk⟩
    | @blob d q o e h g k m hd t =>
      refine (((hD _ (hP h)).2 o g).2 k e m).2 hd ?_
      rw [toL_app', toL_ofL, nrm_pre]; exact t
  refine ⟨fun d => ⟨hS.ne d, fun ⟨k, h⟩ => (hN h).1⟩, ⟨hS.wr, fun ⟨d, k, o, h1, h2, h3⟩ => (hN h1).2 o h2 h3⟩, fun d => ⟨hS.ed d, fun ⟨h, o, x, g, k, m, hx⟩ => ?_⟩⟩
  refine (((hC d ((hcom d).2 h)).2 o g).2 k).2 ⟨x, m, ?_⟩
  cases hc : com x with
  | false => rfl
  | true => exact absurd ((hcom x).1 hc) hx
end
end Go.Proofs.YtlcecobipgmafaaGreatDoor

namespace Go.Proofs.YtlcecobipgmafaaGreatDoor
open Go.RowKit

section
variable {p : List Itm} {hs : List Dig} {stop : Dig → Prop} {dep : Int} {n : Nat} {seen : Dig → Bool} {level : List Dig}
structure LvI (p : List Itm) (hs : List Dig) (stop : Dig → Prop) (dep : Int) (n : Nat) (seen : Dig → Bool) (level : List Dig) : Prop where
  snd : ∀ d, seen d = true → NC p hs stop dep d
  cpl : ∀ k d, k < n → Lv p hs stop k d → seen d = true
  lv : ∀ d ∈ level, Lv p hs stop n d
  nx : ∀ d, Lv p hs stop n d → d ∈ level ∨ seen d = true
  from_ : ∀ d, seen d = true → ∃ k, k < n ∧ Lv p hs stop k d
theorem LvI.start (p : List Itm) (hs : List Dig) (stop : Dig → Prop) (dep : Int) : LvI p hs stop dep 0 (fun _ => false) hs where
  snd d h := by cases h
  cpl k d h := by omega
  lv d h := .head h
  nx d h := by cases h with | head h => exact .inl h
  from_ d h := by cases h
structure LvJ (p : List Itm) (hs : List Dig) (stop : Dig → Prop) (dep : Int) (n : Nat) (level : List Dig) (j : Nat) (seen : Dig → Bool) (next : List Dig) : Prop where
  snd : ∀ d, seen d = true → NC p hs stop dep d
  cpl : ∀ k d, k < n → Lv p hs stop k d → seen d = true
  lv : ∀ d ∈ level, Lv p hs stop n d
  nx : ∀ d, Lv p hs stop n d → d ∈ level ∨ seen d = true
  from_ : ∀ d, seen d = true → ∃ k, k < n + 1 ∧ Lv p hs stop k d
  done : ∀ d ∈ level.take j, seen d = true
  ln : ∀ d ∈ next, Lv p hs stop (n + 1) d
  pars : ∀ d, seen d = true → ∀ o, getP p d = some o → o.kind = 3 → ¬ stop d → ∀ x ∈ o.pars, x ∈ next ∨ ∃ k, k ≤ n ∧ Lv p hs stop k x
theorem LvI.into (h : LvI p hs stop dep n seen level) : LvJ p hs stop dep n level 0 seen [] where
  snd := h.snd
  cpl := h.cpl
  lv := h.lv
  nx := h.nx
  from_ d hd := by obtain ⟨k, h1, h2⟩ := h.from_ d hd; exact ⟨k, by omega, h2⟩
  done d hd := by simp at hd
  ln d hd := by cases hd
  pars d hd o g k s x hx := by
    obtain ⟨k', hk, hl⟩ := h.from_ d hd
    exact .inr ⟨k' + 1, by omega, .par hl g k s hx⟩
variable {j : Nat} {next : List Dig} {d : Dig}
theorem LvJ.skip (h : LvJ p hs stop dep n level j seen next) (hd : level[j]? = some d) (hs' : seen d = true) : LvJ p hs stop dep n level (j + 1) seen next :=
  ⟨h.snd, h.cpl, h.lv, h.nx, h.from_, (fun x hx => by
    rw [take_snoc' hd] at hx
    rcases List.mem_append.1 hx with hx | hx
    · exact h.done x hx
    · rw [List.mem_singleton.1 hx]; exact hs'), h.ln, h.pars⟩
def nxtD (o : Option Ob) (st : Bool) (next : List Dig) : List Dig := match o with
  | some o => if o.kind = 3 ∧ st = false then next ++ o.pars else next
  | none => next
theorem LvJ.take (h : LvJ p hs stop dep n level j seen next) (hd : level[j]? = some d) (hn : dep = 0 ∨ (n : Int) < dep) {st : Bool} (hst : st = true ↔ stop d) :
    LvJ p hs stop dep n level (j + 1) (setB seen d) (nxtD (getP p d) st next) := by
  have hl : Lv p hs stop n d := h.lv d (List.mem_of_getElem? hd)
  have hsub : ∀ x, x ∈ next → x ∈ nxtD (getP p d) st next := fun x hx => by
    unfold nxtD
    split
    · split
      · exact List.mem_append_left _ hx
      · exact hx
    · exact hx
  refine ⟨fun x hx => ?_, fun k x hk hx => setB_true.2 (.inr (h.cpl k x hk hx)), h.lv, fun x hx => (h.nx x hx).imp_right fun hh => setB_true.2 (.inr hh), fun x hx => ?_, fun x hx => ?_, fun x hx => ?_, fun x hx o g k s y hy => ?_⟩
  · rcases setB_true.1 hx with rfl | hx
    · exact ⟨n, hl, hn⟩
    · exact h.snd x hx
  · rcases setB_true.1 hx with rfl | hx
    · exact ⟨n, by omega, hl⟩
    · exact h.from_ x hx
  · rw [take_snoc' hd] at hx
    rcases List.mem_append.1 hx with hx | hx
    · exact setB_true.2 (.inr (h.done x hx))
    · exact setB_true.2 (.inl (List.mem_singleton.1 hx))
  · unfold nxtD at hx
    split at hx
    · rename_i o ho
      split at hx
      · rename_i hk
        rcases List.mem_append.1 hx with hx | hx
        · exact h.ln x hx
        · exact .par hl ho hk.1 (fun hh => by have := hst.2 hh; rw [hk.2] at this; cases this) hx
      · exact h.ln x hx
    · exact h.ln x hx
  · rcases setB_true.1 hx with rfl | hx
    · refine .inl ?_
      unfold nxtD
      rw [g]
      simp only
      rw [if_pos ⟨k, by cases hb : st with | false => rfl | true => exact absurd (hst.1 hb) s⟩]
      exact List.mem_append_right _ hy
    · exact (h.pars x hx o g k s y hy).imp_left (hsub y)
theorem LvJ.nextLv (h : LvJ p hs stop dep n level level.length seen next) : LvI p hs stop dep (n + 1) seen next where
  snd := h.snd
  cpl k d hk hl := by
    by_cases e : k = n
    · subst e
      rcases h.nx d hl with hd | hd
      · exact h.done d (by rw [List.take_length]; exact hd)
      · exact hd
    · exact h.cpl k d (by omega) hl
  lv := h.ln
  from_ := h.from_
  nx x hx := by
    cases hx with
    | par hl g k s m =>
      rename_i d o
      have hd : seen d = true := by
        rcases h.nx d hl with hd | hd
        · exact h.done d (by rw [List.take_length]; exact hd)
        · exact hd
      rcases h.pars d hd o g k s x m with hx | ⟨k', hk', hl'⟩
      · exact .inl hx
      · refine .inr ?_
        by_cases e : k' = n
        · subst e
          rcases h.nx x hl' with hx | hx
          · exact h.done x (by rw [List.take_length]; exact hx)
          · exact hx
        · exact h.cpl k' x (by omega) hl'
theorem LvI.fin (h : LvI p hs stop dep n seen []) (d : Dig) : seen d = true ↔ NC p hs stop dep d := by
  refine ⟨h.snd d, fun ⟨k, hl, _⟩ => ?_⟩
  have hx : ∀ x, Lv p hs stop n x → seen x = true := fun x hx => (h.nx x hx).resolve_left (by simp)
  have hall : ∀ (i : Nat) (x : Dig), Lv p hs stop i x → ∃ k, k ≤ n ∧ Lv p hs stop k x := by
    intro i x hx'
    induction hx' with
    | head hh => exact ⟨0, Nat.zero_le _, .head hh⟩
    | @par i c y o hc g k s m ih =>
      obtain ⟨k', hk', hl'⟩ := ih
      by_cases e : k' < n
      · exact ⟨k' + 1, by omega, .par hl' g k s m⟩
      · have e' : k' = n := by omega
        subst e'
        have hsn : seen c = true := hx c hl'
        obtain ⟨k2, h2, hl2⟩ := h.from_ c hsn
        exact ⟨k2 + 1, by omega, .par hl2 g k s m⟩
  obtain ⟨k', hk', hl'⟩ := hall k d hl
  by_cases e : k' = n
  · subst e; exact hx d hl'
  · exact h.cpl k' d (by omega) hl'
theorem LvI.cut (h : LvI p hs stop dep n seen level) (h0 : dep ≠ 0) (hn : dep ≤ n) (d : Dig) : seen d = true ↔ NC p hs stop dep d :=
  ⟨h.snd d, fun ⟨k, hl, hk⟩ => h.cpl k d (by omega) hl⟩
theorem LvJ.cut (h : LvJ p hs stop dep n level j seen next) (h0 : dep ≠ 0) (hn : dep ≤ n) (d : Dig) : seen d = true ↔ NC p hs stop dep d :=
  ⟨h.snd d, fun ⟨k, hl, hk⟩ => h.cpl k d (by omega) hl⟩
end
end Go.Proofs.YtlcecobipgmafaaGreatDoor

namespace Go.Proofs.YtlcecobipgmafaaGreatDoor
open Go.RowKit

section
variable {p : List Itm} {com : Dig → Bool} {pre : ByteArray} {hs : List Dig} {stop : Dig → Prop} {dep : Int} {s s' : WkS}
def Frs (s s' : WkS) : Prop := ∀ x, s'.me x = true → s.me x = true ∨ x ∈ s'.op
theorem Frs.refl (s : WkS) : Frs s s := fun _ h => .inl h
theorem Frs.trans {a b c : WkS} (h : Frs a b) (l : LeS b c) (k : Frs b c) : Frs a c := fun x hx => by
  rcases k x hx with hx | hx
  · exact (h x hx).imp_right (l.op x)
  · exact .inr hx
theorem getS_me (s : WkS) (d : Dig) (k : Int) : (getS p s d k).1.me = s.me ∧ (getS p s d k).1.op = s.op := by
  unfold getS
  split
  · exact ⟨rfl, rfl⟩
  · split <;> exact ⟨rfl, rfl⟩
theorem getS_frs (s : WkS) (d : Dig) (k : Int) : Frs s (getS p s d k).1 := fun x hx => .inl (by rw [(getS_me s d k).1] at hx; exact hx)
theorem pushS_frs (s : WkS) (x : Pla) : Frs s (pushS s x) := by
  unfold pushS
  split
  · exact .refl s
  · intro y hy
    rcases setB_true.1 hy with rfl | hy
    · exact .inr (List.mem_append_right _ (by simp))
    · exact .inl hy
theorem dirW_frs (s : WkS) (d : Dig) (q : ByteArray) : Frs s (dirW pre s d q) := by
  unfold dirW
  split
  · exact pushS_frs _ _
  · split
    · exact pushS_frs _ _
    · exact .refl s
theorem comS_frs (s : WkS) (c : Dig) : Frs s (comS p com pre s c) := by
  unfold comS
  have h1 := getS_frs (p := p) s c 3
  split
  · rename_i s1 h; rw [h] at h1; exact h1
  · rename_i s1 o h
    rw [h] at h1
    have h2 := h1.trans (dirW_le (pre := pre) s1 o.tree nB) (dirW_frs s1 o.tree nB)
    split
    · exact fun x hx => h2 x hx
    · exact h2
theorem entS_frs (q : ByteArray) (s : WkS) (e : Ent) : Frs s (entS p pre q s e) := by
  unfold entS
  split
  · exact dirW_frs _ _ _
  · split
    · exact getS_frs _ _ _
    · exact .refl s
theorem ents_frs (q : ByteArray) : ∀ (l : List Ent) (s : WkS), Frs s (l.foldl (entS p pre q) s)
  | [], s => .refl s
  | e :: l, s => (entS_frs q s e).trans (ents_le q l _) (ents_frs q l _)
theorem visS_frs (s : WkS) (x : Pla) : Frs s (visS p pre s x) := by
  unfold visS
  have h1 := getS_frs (p := p) s x.1 2
  split
  · rename_i s1 h; rw [h] at h1; exact h1
  · rename_i s1 o h
    rw [h] at h1
    exact h1.trans (ents_le _ _ _) (ents_frs _ _ _)
structure WkI (p : List Itm) (hs : List Dig) (stop : Dig → Prop) (dep : Int) (pre : ByteArray) (com : Dig → Bool) (dn : Dig → Prop) (s : WkS) : Prop where
  snd : Snd p hs stop dep pre s
  cdn : ∀ c, dn c → CDn p com pre s c
  dnp : ∀ x, s.me x = true → x ∈ s.op ∨ Dn p pre s x
variable {dn : Dig → Prop}
def s0S : WkS := ⟨fun _ => false, fun _ => false, fun _ => false, [], false⟩
theorem WkI.start : WkI p hs stop dep pre com (fun _ => False) s0S :=
  ⟨⟨(fun d h => by cases h), (fun d h => by cases h), (fun d h => by cases h), (fun h => by cases h), (fun d h => by cases h)⟩, (fun c h => h.elim), (fun x h => by cases h)⟩
theorem WkI.comm (h : WkI p hs stop dep pre com dn s) {c : Dig} (hc : NC p hs stop dep c) (hcom : ∀ d, com d = true ↔ NC p hs stop dep d) : WkI p hs stop dep pre com (fun d => dn d ∨ d = c) (comS p com pre s c) where
  snd := h.snd.comm hc hcom
  cdn d hd := by
    rcases hd with hd | rfl
    · exact (h.cdn d hd).mono (comS_le s c)
    · exact comm_dn s d
  dnp x hx := by
    rcases comS_frs s c x hx with hx | hx
    · rcases h.dnp x hx with hx | hx
      · exact .inl ((comS_le s c).op x hx)
      · exact .inr (hx.mono (comS_le s c))
    · exact .inl hx
theorem WkI.pop (h : WkI p hs stop dep pre com dn s) {l : List Pla} {x : Pla} (hl : s.op = l ++ [x]) : WkI p hs stop dep pre com dn (visS p pre { s with op := l } x) where
  snd := (h.snd.pop (fun y hy => by rw [hl]; exact List.mem_append_left _ hy)).vis (h.snd.op x (by rw [hl]; simp))
  cdn d hd := CDn.mono (visS_le _ x) (show CDn p com pre { s with op := l } d from h.cdn d hd)
  dnp y hy := by
    have hle := visS_le (p := p) (pre := pre) { s with op := l } x
    rcases visS_frs { s with op := l } x y hy with hy | hy
    · rcases h.dnp y hy with hy | hy
      · rw [hl] at hy
        rcases List.mem_append.1 hy with hy | hy
        · exact .inl (hle.op y hy)
        · rw [List.mem_singleton.1 hy]; exact .inr (vis_dn _ x)
      · exact .inr (Dn.mono hle (show Dn p pre { s with op := l } y from hy))
    · exact .inl hy
theorem WkI.end_ (h : WkI p hs stop dep pre com dn s) (hcom : ∀ d, com d = true ↔ NC p hs stop dep d) (hdn : ∀ d, com d = true → dn d) (ho : s.op = []) :
    (∀ d, s.ne d = true ↔ Need p hs stop dep (toL pre) d) ∧ (s.wr = true ↔ Wrong p hs stop dep (toL pre)) ∧ ∀ d, s.ed d = true ↔ EdgeD p hs stop dep d :=
  walk_end h.snd hcom (fun c hc => h.cdn c (hdn c hc)) (fun x hx => (h.dnp x hx).resolve_left (by rw [ho]; simp))

/-! ### the measure -/
noncomputable def dgsP (p : List Itm) : List Dig := p.flatMap fun i => (decO i.2).tree :: (decO i.2).ents.map Ent.dg
noncomputable def plaU (p : List Itm) (pre : ByteArray) : List Pla := (dgsP p).flatMap fun d => (List.range ((toL pre).length + 1)).map fun i => (d, ofL ((toL pre).take i))
theorem getP_dec (hp : PlOk p) {d : Dig} {o : Ob} (h : getP p d = some o) : ∃ i ∈ p, decO i.2 = o := by
  have h1 := (getP_some hp).1 h
  exact ⟨_, h1.2, decO_enc h1.1⟩
theorem plc_dg (hp : PlOk p) {d : Dig} {q : Bytes} (h : Plc p hs stop dep (toL pre) d q) : d ∈ dgsP p ∧ touch (toL pre) q := by
  cases h with
  | root h g k =>
    obtain ⟨i, hi, e⟩ := getP_dec hp g
    exact ⟨List.mem_flatMap.2 ⟨i, hi, by rw [e]; simp⟩, touch_nil _⟩
  | sub h g k m hd t =>
    obtain ⟨i, hi, e⟩ := getP_dec hp g
    exact ⟨List.mem_flatMap.2 ⟨i, hi, by rw [e]; exact List.mem_cons_of_mem _ (List.mem_map_of_mem m)⟩, t⟩
theorem nrm_pfx {a q : Bytes} (h : touch a q) : nrm a q <+: a := by
  unfold nrm
  split
  · exact List.prefix_refl _
  · rename_i hn; exact h.resolve_left hn
theorem Snd.inU (hp : PlOk p) (h : Snd p hs stop dep pre s) {x : Pla} (hx : s.me x = true) : x ∈ plaU p pre := by
  obtain ⟨q, h1, h2⟩ := h.me x hx
  obtain ⟨h3, h4⟩ := plc_dg hp h1
  have h5 := nrm_pfx h4
  rw [h2] at h5
  refine List.mem_flatMap.2 ⟨x.1, h3, List.mem_map.2 ⟨(toL x.2).length, List.mem_range.2 (by have := h5.length_le; omega), ?_⟩⟩
  rw [← List.prefix_iff_eq_take.1 h5, ofL_toL]
theorem Snd.short (h : Snd p hs stop dep pre s) (hp : PlOk p) {x : Pla} (hx : s.me x = true) : toL x.2 <+: toL pre := by
  obtain ⟨q, h1, h2⟩ := h.me x hx
  rw [← h2]; exact nrm_pfx (plc_dg hp h1).2
noncomputable def cntS (p : List Itm) (pre : ByteArray) (s : WkS) : Nat := (plaU p pre).countP fun x => s.me x
theorem cntS_le (s : WkS) : cntS p pre s ≤ (plaU p pre).length := List.countP_le_length
theorem countP_lt {α : Type} {f g : α → Bool} (hfg : ∀ x, f x = true → g x = true) : ∀ {l : List α} {y : α}, y ∈ l → f y = false → g y = true → l.countP f + 1 ≤ l.countP g
  | a :: l, y, hy, h1, h2 => by
    rw [List.countP_cons, List.countP_cons]
    rcases List.mem_cons.1 hy with rfl | hy
    · rw [if_neg (by rw [h1]; decide), if_pos h2]
      have := List.countP_mono_left (l := l) (p := f) (q := g) fun x _ => hfg x
      omega
    · have := countP_lt hfg hy h1 h2
      have h3 : (if f a = true then 1 else 0) ≤ (if g a = true then 1 else 0) := by
        by_cases e : f a = true
        · rw [if_pos e, if_pos (hfg a e)]; exact Nat.le_refl _
        · rw [if_neg e]; omega
      omega
def Msr (p : List Itm) (pre : ByteArray) (s s' : WkS) : Prop := s'.op.length + cntS p pre s ≤ s.op.length + cntS p pre s'
theorem Msr.refl (s : WkS) : Msr p pre s s := Nat.le_refl _
theorem Msr.trans {a b c : WkS} (h : Msr p pre a b) (k : Msr p pre b c) : Msr p pre a c := by unfold Msr at *; omega
theorem Msr.get (s : WkS) (d : Dig) (k : Int) : Msr p pre s (getS p s d k).1 := by
  have := getS_me (p := p) s d k
  unfold Msr cntS
  rw [this.1, this.2]
  exact Nat.le_refl _
theorem Msr.push (s : WkS) {x : Pla} (hx : x ∈ plaU p pre) : Msr p pre s (pushS s x) := by
  unfold pushS
  split
  · exact .refl s
  · rename_i hn
    have := countP_lt (f := s.me) (g := setB s.me x) (fun y hy => setB_true.2 (.inr hy)) hx (by simpa using hn) (setB_true.2 (.inl rfl))
    show (s.op ++ [x]).length + (plaU p pre).countP s.me ≤ s.op.length + (plaU p pre).countP (setB s.me x)
    rw [List.length_append]
    simp only [List.length_cons, List.length_nil]
    omega
theorem dirW_msr (hp : PlOk p) {s : WkS} {d : Dig} {q : ByteArray} (h : Snd p hs stop dep pre (dirW pre s d q)) : Msr p pre s (dirW pre s d q) := by
  unfold dirW at h ⊢
  split
  · rename_i h1
    rw [if_pos h1] at h
    exact .push s (h.inU hp (push_me s _))
  · rename_i h1
    rw [if_neg h1] at h
    split
    · rename_i h2
      rw [if_pos h2] at h
      exact .push s (h.inU hp (push_me s _))
    · exact .refl s
theorem entS_msr (hp : PlOk p) {s : WkS} {q : ByteArray} {e : Ent} (h : Snd p hs stop dep pre (entS p pre q s e)) : Msr p pre s (entS p pre q s e) := by
  unfold entS at h ⊢
  split
  · rename_i h1
    rw [if_pos h1] at h
    exact dirW_msr hp h
  · split
    · exact .get _ _ _
    · exact .refl s
theorem ents_msr (hp : PlOk p) {d : Dig} {q : ByteArray} {q' : Bytes} {o : Ob} (hd : Plc p hs stop dep (toL pre) d q') (hq : nrm (toL pre) q' = toL q) (ho : getP p d = some o) (hk : o.kind = 2) :
    ∀ (l : List Ent) (s : WkS), (∀ e ∈ l, e ∈ o.ents) → Snd p hs stop dep pre s → Msr p pre s (l.foldl (entS p pre q) s)
  | [], s, _, _ => .refl s
  | e :: l, s, hl, h =>
    have h1 := h.ent hd hq ho hk (hl e (by simp))
    (entS_msr hp h1).trans (ents_msr hp hd hq ho hk l _ (fun x hx => hl x (List.mem_cons_of_mem _ hx)) h1)
theorem visS_msr (hp : PlOk p) {s : WkS} (h : Snd p hs stop dep pre s) {x : Pla} (hx : s.me x = true) : Msr p pre s (visS p pre s x) := by
  obtain ⟨q', hd, hq⟩ := h.me x hx
  have h0 : Msr p pre s (getS p s x.1 2).1 := .get _ _ _
  have h1 : Snd p hs stop dep pre (getS p s x.1 2).1 := h.get (.dir hd)
  unfold visS
  split
  · rename_i s1 e; rw [e] at h0; exact h0
  · rename_i s1 o e
    rw [e] at h0 h1
    obtain ⟨ho, hk⟩ := getS_some e
    exact h0.trans (ents_msr hp hd hq ho hk _ _ (fun _ h => h) h1)
noncomputable def vS (p : List Itm) (pre : ByteArray) (s : WkS) : Nat := s.op.length + ((plaU p pre).length - cntS p pre s)
theorem pop_less (hp : PlOk p) {s : WkS} (h : Snd p hs stop dep pre s) {l : List Pla} {x : Pla} (hl : s.op = l ++ [x]) : vS p pre (visS p pre { s with op := l } x) + 1 ≤ vS p pre s := by
  have h1 := visS_msr hp (h.pop (l := l) (fun y hy => by rw [hl]; exact List.mem_append_left _ hy)) (show ({ s with op := l } : WkS).me x = true from h.op x (by rw [hl]; simp))
  have h2 : s.op.length = l.length + 1 := by rw [hl]; simp
  have h3 := cntS_le (p := p) (pre := pre) (visS p pre { s with op := l } x)
  have h4 := cntS_le (p := p) (pre := pre) s
  have h5 : (visS p pre { s with op := l } x).op.length + cntS p pre s ≤ l.length + cntS p pre (visS p pre { s with op := l } x) := h1
  unfold vS
  omega
theorem len_flatMap_le {α β : Type} {f : α → List β} {n : Nat} : ∀ (l : List α), (∀ x ∈ l, (f x).length ≤ n) → (l.flatMap f).length ≤ l.length * n
  | [], _ => by simp
  | x :: l, h => by
    rw [List.flatMap_cons, List.length_append, List.length_cons, Nat.succ_mul]
    have h1 := h x (by simp)
    have h2 := len_flatMap_le l fun y hy => h y (List.mem_cons_of_mem _ hy)
    omega
theorem ok_ents {o : Ob} (h : OkO o) : o.ents.length ≤ 200 := by
  cases h.f with
  | blob _ e => rw [e]; simp
  | tree _ _ _ e => exact e.few
  | commit _ _ e => rw [e]; simp
theorem dgsP_len (hp : PlOk p) : (dgsP p).length ≤ p.length * 201 :=
  len_flatMap_le p fun i hi => by
    obtain ⟨o, ho, e⟩ := hp.1 i hi
    rw [e, decO_enc ho, List.length_cons, List.length_map]
    have := ok_ents ho
    omega
theorem plaU_len (hp : PlOk p) : (plaU p pre).length ≤ p.length * 201 * ((toL pre).length + 1) :=
  Nat.le_trans (len_flatMap_le (n := (toL pre).length + 1) (dgsP p) fun d _ => by simp) (Nat.mul_le_mul_right _ (dgsP_len hp))
theorem plaU_small (hp : PlOk p) (hn : p.length ≤ 40) (hq : (toL pre).length ≤ 100) : (plaU p pre).length ≤ 812040 := by
  have h1 := plaU_len (pre := pre) hp
  have h2 : p.length * 201 * ((toL pre).length + 1) ≤ 40 * 201 * 101 := Nat.mul_le_mul (Nat.mul_le_mul_right _ hn) (by omega)
  omega
end
end Go.Proofs.YtlcecobipgmafaaGreatDoor

namespace Go.Proofs.YtlcecobipgmafaaGreatDoor
open Go.RowKit

def seenD (pre : List (Dig × Nat)) : Dig → Bool := fun d => decide (d ∈ pre.map Prod.fst)
theorem seenD_true {pre : List (Dig × Nat)} {d : Dig} : seenD pre d = true ↔ d ∈ pre.map Prod.fst := by unfold seenD; rw [decide_eq_true_iff]
theorem seenD_snoc (pre : List (Dig × Nat)) (d : Dig) (n : Nat) : seenD (pre ++ [(d, n)]) = setB (seenD pre) d := by
  funext y
  rw [Bool.eq_iff_iff, setB_true, seenD_true, seenD_true, List.map_append, List.mem_append]
  simp
  exact or_comm
structure DiE (p : List Itm) (hs : List Dig) (stop : Dig → Prop) (pre : List (Dig × Nat)) : Prop where
  lv : ∀ x ∈ pre, Lv p hs stop x.2 x.1
  low : ∀ q x, pre = q ++ [x] → ∀ k, k < x.2 → ∀ d, Lv p hs stop k d → d ∈ q.map Prod.fst
  nod : (pre.map Prod.fst).Nodup
def DiS (p : List Itm) (hs : List Dig) (stop : Dig → Prop) (xs : List (Dig × Nat)) : Prop := (∀ x ∈ xs, Lv p hs stop x.2 x.1) ∧ (∀ d n, Lv p hs stop n d → d ∈ xs.map Prod.fst) ∧ (xs.map Prod.fst).Nodup
structure DiI (p : List Itm) (hs : List Dig) (stop : Dig → Prop) (n : Nat) (level : List Dig) (pre : List (Dig × Nat)) : Prop where
  li : LvI p hs stop 0 n (seenD pre) level
  lv : ∀ x ∈ pre, Lv p hs stop x.2 x.1
  nod : (pre.map Prod.fst).Nodup
structure DiJ (p : List Itm) (hs : List Dig) (stop : Dig → Prop) (n : Nat) (level : List Dig) (j : Nat) (pre : List (Dig × Nat)) (next : List Dig) : Prop where
  lj : LvJ p hs stop 0 n level j (seenD pre) next
  lv : ∀ x ∈ pre, Lv p hs stop x.2 x.1
  nod : (pre.map Prod.fst).Nodup
section
variable {p : List Itm} {hs : List Dig} {stop : Dig → Prop} {n j : Nat} {level next : List Dig} {pre : List (Dig × Nat)} {d : Dig}
theorem DiI.start (p : List Itm) (hs : List Dig) (stop : Dig → Prop) : DiI p hs stop 0 hs [] where
  li := by
    have e : seenD [] = fun _ => false := by funext d; simp [seenD]
    rw [e]; exact LvI.start p hs stop 0
  lv := fun x hx => by cases hx
  nod := List.nodup_nil
theorem DiI.into (h : DiI p hs stop n level pre) : DiJ p hs stop n level 0 pre [] := ⟨h.li.into, h.lv, h.nod⟩
theorem DiI.fin (h : DiI p hs stop n [] pre) : DiS p hs stop pre := ⟨h.lv, fun d k hk => seenD_true.1 ((h.li.fin d).2 ⟨k, hk, .inl rfl⟩), h.nod⟩
theorem DiJ.skip (h : DiJ p hs stop n level j pre next) (hd : level[j]? = some d) (hs' : seenD pre d = true) : DiJ p hs stop n level (j + 1) pre next := ⟨h.lj.skip hd hs', h.lv, h.nod⟩
theorem DiJ.yields (h : DiJ p hs stop n level j pre next) (hd : level[j]? = some d) (hs' : seenD pre d = false) : DiE p hs stop (pre ++ [(d, n)]) where
  lv x hx := by
    rcases List.mem_append.1 hx with hx | hx
    · exact h.lv x hx
    · rw [List.mem_singleton.1 hx]; exact h.lj.lv d (List.mem_of_getElem? hd)
  low q x e k hk c hc := by
    obtain ⟨rfl, e2⟩ := List.append_inj' e rfl
    cases e2
    exact seenD_true.1 (h.lj.cpl k c hk hc)
  nod := by
    rw [List.map_append]
    refine List.nodup_append.2 ⟨h.nod, by simp, fun a ha b hb => ?_⟩
    rintro rfl
    simp at hb
    subst hb
    have := seenD_true.2 ha
    rw [hs'] at this; cases this
theorem DiJ.take (h : DiJ p hs stop n level j pre next) (hd : level[j]? = some d) (hs' : seenD pre d = false) {st : Bool} (hst : st = true ↔ stop d) : DiJ p hs stop n level (j + 1) (pre ++ [(d, n)]) (nxtD (getP p d) st next) where
  lj := by rw [seenD_snoc]; exact h.lj.take hd (.inl rfl) hst
  lv := (h.yields hd hs').lv
  nod := (h.yields hd hs').nod
theorem DiJ.nextLv (h : DiJ p hs stop n level level.length pre next) : DiI p hs stop (n + 1) next pre := ⟨h.lj.nextLv, h.lv, h.nod⟩
noncomputable def comU (p : List Itm) (hs : List Dig) : List Dig := hs ++ p.flatMap fun i => (decO i.2).pars
theorem lv_inU (hp : PlOk p) (h : Lv p hs stop n d) : d ∈ comU p hs := by
  cases h with
  | head h => exact List.mem_append_left _ h
  | par _ g _ _ m =>
    obtain ⟨i, hi, e⟩ := getP_dec hp g
    exact List.mem_append_right _ (List.mem_flatMap.2 ⟨i, hi, by rw [e]; exact m⟩)
theorem nodup_le {α : Type} [DecidableEq α] {l m : List α} (h : l.Nodup) (hs : ∀ x ∈ l, x ∈ m) : l.length ≤ m.length := by
  induction l generalizing m with
  | nil => simp
  | cons a l ih =>
    have h1 := List.nodup_cons.1 h
    have h2 := ih (m := m.erase a) h1.2 fun x hx => (List.mem_erase_of_ne (fun e => h1.1 (by rw [← e]; exact hx))).2 (hs x (List.mem_cons_of_mem _ hx))
    have h3 := List.length_erase_of_mem (hs a (by simp))
    have h4 : 0 < m.length := List.length_pos_of_mem (hs a (by simp))
    rw [List.length_cons]; omega
theorem lv_len (hp : PlOk p) (h1 : ∀ x ∈ pre, Lv p hs stop x.2 x.1) (h2 : (pre.map Prod.fst).Nodup) : pre.length ≤ (comU p hs).length := by
  have := nodup_le h2 (m := comU p hs) fun x hx => by
    obtain ⟨y, hy, rfl⟩ := List.mem_map.1 hx
    exact lv_inU hp (h1 y hy)
  rwa [List.length_map] at this
theorem nxtD_none (st : Bool) (h : ∀ o, getP p d = some o → o.kind ≠ 3) : nxtD (getP p d) st next = next := by
  unfold nxtD
  split
  · rename_i o ho; rw [if_neg fun hh => h o ho hh.1]
  · rfl
theorem nxtD_stop {o : Ob} (h : getP p d = some o) : nxtD (getP p d) true next = next := by
  rw [h]; unfold nxtD; simp
theorem nxtD_go {o : Ob} (h : getP p d = some o) (hk : o.kind = 3) : nxtD (getP p d) false next = next ++ o.pars := by
  rw [h]; unfold nxtD; simp [hk]
variable {dep : Int}
theorem DiE.cut {q : List (Dig × Nat)} {x : Dig × Nat} (h : DiE p hs stop (q ++ [x])) (h0 : dep ≠ 0) (hx : dep ≤ x.2) (hq : ∀ y ∈ q, (y.2 : Int) < dep) (d : Dig) : d ∈ q.map Prod.fst ↔ NC p hs stop dep d := by
  constructor
  · intro hd
    obtain ⟨y, hy, rfl⟩ := List.mem_map.1 hd
    exact ⟨y.2, h.lv y (List.mem_append_left _ hy), .inr (hq y hy)⟩
  · rintro ⟨k, hl, hk⟩
    exact h.low q x rfl k (by omega) d hl
theorem DiS.all {xs : List (Dig × Nat)} (h : DiS p hs stop xs) (hq : ∀ y ∈ xs, dep = 0 ∨ (y.2 : Int) < dep) (d : Dig) : d ∈ xs.map Prod.fst ↔ NC p hs stop dep d := by
  constructor
  · intro hd
    obtain ⟨y, hy, rfl⟩ := List.mem_map.1 hd
    exact ⟨y.2, h.1 y hy, hq y hy⟩
  · rintro ⟨k, hl, _⟩
    exact h.2.1 d k hl
end
end Go.Proofs.YtlcecobipgmafaaGreatDoor
